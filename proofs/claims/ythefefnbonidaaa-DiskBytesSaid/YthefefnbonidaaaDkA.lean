/- Part 1 of Dk: what our evaluation of a function's code says, the machine's run does; no condition of its own. -/
import Derived.Test.YthefefnbonidaaaAbsC
import Derived.Test.YthefefnbonidaaaProg
set_option linter.unusedVariables false
set_option linter.unusedSimpArgs false
set_option linter.unusedSectionVars false
namespace Go.Abs.Try
open Go Go.Abs
instance : Globs := ⟨[]⟩
def z35 : List AV := [(.int .i64 0), (.int .i64 0), (.int .i64 0), .nilS]
def z47 : List AV := [(.str ⟨#[]⟩), .nilS, (.bool false), (.bool false), (.int .i64 0)]
def z55 : List AV := [.nilS, .nilS, (.bool false), (.bool false), (.int .i64 0)]
def z65 : List AV := [(.int .i64 0), .nilS, .nilS]
def z69 : List AV := [(.int .i64 0), (.str ⟨#[]⟩)]

def b3_0 : AC :=
  (.seq ((.seq (.reg false [
    { dst := some 81, op := .mov (.t 19) },
    { dst := some 82, op := .mov (.t 0) },
    { dst := some 83, op := .len (.t 82) },
    { dst := some 84, op := .bin .lss (.t 81) (.t 83) }])
  (.cond (.t 84) (.skip) (.exit 0))))
  (.keep [0, 1, 2, 3, 4, 5, 6, 15, 17, 19] [65000, 65001, 65002, 69000, 69002, 100000, 100400, 66000000, 66000001, 70000001] ((.seq (.block 1 (.reg false [
    { dst := some 87, op := .mov (.t 15) },
    { dst := some 88, op := .mov (.t 17) },
    { dst := some 89, op := .mov (.t 0) },
    { dst := some 90, op := .mov (.t 19) },
    { dst := some 91, op := .iad 4 (.t 89) (.t 90) },
    { dst := some 92, op := .load (some 4) (.t 91) },
    { dst := some 93, op := .call 94000 14 [(.t 87), (.t 88), (.t 92)] }]))
  (.keep [0, 1, 2, 3, 4, 5, 6, 15, 17, 19] [65000, 65001, 65002, 69000, 69002, 100000, 100400, 66000000, 66000001, 70000001] (.reg false [
    { dst := some 85, op := .mov (.t 19) },
    { dst := some 86, op := .bin .add (.t 85) (.c (.int .i64 1)) },
    { dst := some 19, op := .mov (.t 86) }]))))))
/-- estreat/estreatlaw09.DiskBytes: parameters []estreatlaw09.Op int []uint8 int uint8 int int -/
def c3 : AC :=
  (.seq (.reg false [
    { dst := some 14, op := .mov (.c (.bool false)) }])
  ((.seq ((.seq (.reg false [
    { dst := some 26, op := .mov (.t 0) },
    { dst := some 27, op := .call 28000 10 [(.t 26)] },
    { dst := some 28, op := .mov (.t 27) },
    { dst := some 29, op := .mov (.t 2), guard := some (28, false) },
    { dst := some 30, op := .len (.t 29), guard := some (28, false) },
    { dst := some 31, op := .bin .gtr (.t 30) (.c (.int .i64 100)), guard := some (28, false) },
    { dst := some 32, op := .pick (.t 28) (.c (.bool true)) (.t 31) },
    { dst := some 33, op := .mov (.t 32) },
    { dst := some 34, op := .mov (.t 1), guard := some (33, false) },
    { dst := some 35, op := .bin .lss (.t 34) (.c (.int .i64 0)), guard := some (33, false) },
    { dst := some 36, op := .pick (.t 33) (.c (.bool true)) (.t 35) },
    { dst := some 37, op := .mov (.t 36) },
    { dst := some 38, op := .mov (.t 1), guard := some (37, false) },
    { dst := some 39, op := .bin .gtr (.t 38) (.c (.int .i64 64)), guard := some (37, false) },
    { dst := some 40, op := .pick (.t 37) (.c (.bool true)) (.t 39) },
    { dst := some 41, op := .mov (.t 40) },
    { dst := some 42, op := .mov (.t 3), guard := some (41, false) },
    { dst := some 43, op := .bin .lss (.t 42) (.c (.int .i64 0)), guard := some (41, false) },
    { dst := some 44, op := .pick (.t 41) (.c (.bool true)) (.t 43) },
    { dst := some 45, op := .mov (.t 44) },
    { dst := some 46, op := .mov (.t 3), guard := some (45, false) },
    { dst := some 47, op := .bin .gtr (.t 46) (.c (.int .i64 64)), guard := some (45, false) },
    { dst := some 48, op := .pick (.t 45) (.c (.bool true)) (.t 47) },
    { dst := some 49, op := .mov (.t 48) },
    { dst := some 50, op := .mov (.t 3), guard := some (49, false) },
    { dst := some 51, op := .mov (.t 1), guard := some (49, false) },
    { dst := some 52, op := .bin .geq (.t 50) (.t 51), guard := some (49, false) },
    { dst := some 53, op := .mov (.t 52), guard := some (49, false) },
    { dst := some 54, op := .mov (.t 3), guard := some (53, true) },
    { dst := some 55, op := .mov (.t 1), guard := some (53, true) },
    { dst := some 56, op := .bin .sub (.t 54) (.t 55), guard := some (53, true) },
    { dst := some 57, op := .mov (.t 2), guard := some (53, true) },
    { dst := some 58, op := .len (.t 57), guard := some (53, true) },
    { dst := some 59, op := .bin .lss (.t 56) (.t 58), guard := some (53, true) },
    { dst := some 60, op := .pick (.t 53) (.t 59) (.c (.bool false)), guard := some (49, false) },
    { dst := some 61, op := .pick (.t 49) (.c (.bool true)) (.t 60) }])
  (.cond (.t 61) ((.seq (.reg false [
    { dst := some 62, op := .call 63000 11 [] },
    { dst := some 14, op := .mov (.t 62) }])
  (.ret))) (.skip))))
  (.keep [0, 1, 2, 3, 4, 5, 6] [100000, 100400] ((.seq (.reg false [
    { dst := some 64, op := .call 65000 12 [(.c (.int .i64 64))] },
    { dst := some 63, op := .mov (.t 64) },
    { dst := some 65, op := .ext 0 (.t 63) },
    { dst := some 66, op := .ext 1 (.t 63) },
    { dst := some 15, op := .mov (.t 65) },
    { dst := some 16, op := .mov (.t 66) }])
  (.keep [0, 1, 2, 3, 4, 5, 6, 15, 16] [65000, 65001, 65002, 100000, 100400, 66000000, 66000001] ((.seq (.reg false [
    { dst := some 68, op := .call 69000 13 [(.c (.int .i64 64))] },
    { dst := some 67, op := .mov (.t 68) },
    { dst := some 69, op := .ext 0 (.t 67) },
    { dst := some 70, op := .ext 1 (.t 67) },
    { dst := some 17, op := .mov (.t 69) },
    { dst := some 18, op := .mov (.t 70) }])
  (.keep [0, 1, 2, 3, 4, 5, 6, 15, 16, 17, 18] [65000, 65001, 65002, 69000, 69002, 100000, 100400, 66000000, 66000001, 70000001] ((.seq ((.seq (.reg false [
    { dst := some 71, op := .mov (.t 15) },
    { dst := some 72, op := .isnil false 1 (.t 71) },
    { dst := some 73, op := .mov (.t 72) },
    { dst := some 74, op := .mov (.t 16), guard := some (73, false) },
    { dst := some 75, op := .bin .neq (.t 74) (.c (.int .i64 0)), guard := some (73, false) },
    { dst := some 76, op := .pick (.t 73) (.c (.bool true)) (.t 75) },
    { dst := some 77, op := .mov (.t 76) },
    { dst := some 78, op := .mov (.t 18), guard := some (77, false) },
    { dst := some 79, op := .bin .neq (.t 78) (.c (.int .i64 0)), guard := some (77, false) },
    { dst := some 80, op := .pick (.t 77) (.c (.bool true)) (.t 79) }])
  (.cond (.t 80) ((.seq (.reg false [
    { dst := some 14, op := .mov (.c (.bool false)) }])
  (.ret))) (.skip))))
  (.keep [0, 1, 2, 3, 4, 5, 6, 15, 17] [65000, 65001, 65002, 69000, 69002, 100000, 100400, 66000000, 66000001, 70000001] ((.seq ((.seq (.reg false [
    { dst := some 19, op := .mov (.c (.int .i64 0)) }])
  (.block 0 (.loop [0, 1, 2, 3, 4, 5, 6, 15, 17, 19] [65000, 65001, 65002, 69000, 69002, 100000, 100400, 66000000, 66000001, 70000001] b3_0))))
  (.keep [1, 2, 3, 4, 5, 6, 15] [65000, 65001, 65002, 100400, 66000000, 66000001] ((.seq (.reg false [
    { dst := some 94, op := .mov (.t 15) },
    { dst := some 95, op := .call 96000 15 [(.t 94), (.c (.int .i64 1000)), (.c (.int .i64 0))] }])
  ((.seq (.reg false [
    { dst := some 97, op := .mov (.t 15) },
    { dst := some 98, op := .mov (.t 3) },
    { dst := some 99, op := .call 100000 16 [(.t 97), (.t 98), (.c (.int .i64 1))] },
    { dst := some 96, op := .mov (.t 99) },
    { dst := some 100, op := .ext 0 (.t 96) },
    { dst := some 101, op := .ext 1 (.t 96) },
    { dst := some 20, op := .mov (.t 100) },
    { dst := some 21, op := .mov (.t 101) }])
  (.keep [1, 2, 3, 4, 5, 6, 15, 20, 21] [65000, 65001, 65002, 100000, 100400, 66000000, 66000001] ((.seq ((.seq (.reg false [
    { dst := some 102, op := .mov (.t 21) },
    { dst := some 103, op := .bin .neq (.t 102) (.c (.int .i64 0)) },
    { dst := some 104, op := .mov (.t 103) },
    { dst := some 105, op := .mov (.t 15), guard := some (104, false) },
    { dst := some 106, op := .mov (.t 1), guard := some (104, false) },
    { dst := some 107, op := .mov (.t 2), guard := some (104, false) },
    { dst := some 108, op := .call 109000 17 [(.t 105), (.t 106), (.t 107)], guard := some (104, false) },
    { dst := some 109, op := .bin .neq (.t 108) (.c (.int .i64 0)), guard := some (104, false) },
    { dst := some 110, op := .pick (.t 104) (.c (.bool true)) (.t 109) },
    { dst := some 111, op := .mov (.t 110) },
    { dst := some 112, op := .mov (.t 15), guard := some (111, false) },
    { dst := some 113, op := .mov (.t 3), guard := some (111, false) },
    { dst := some 114, op := .mov (.t 4), guard := some (111, false) },
    { dst := some 115, op := .bslice 115 1 [(.int .u8 0)] 1 [(0, (.t 114))], guard := some (111, false) },
    { dst := some 116, op := .call 117000 17 [(.t 112), (.t 113), (.t 115)], guard := some (111, false) },
    { dst := some 117, op := .bin .neq (.t 116) (.c (.int .i64 0)), guard := some (111, false) },
    { dst := some 118, op := .pick (.t 111) (.c (.bool true)) (.t 117) }])
  (.cond (.t 118) ((.seq (.reg false [
    { dst := some 119, op := .call 120000 11 [] },
    { dst := some 14, op := .mov (.t 119) }])
  (.ret))) (.skip))))
  (.keep [1, 2, 3, 4, 5, 6, 15, 20] [65000, 65001, 65002, 100000, 100400, 66000000, 66000001] ((.seq (.reg false [
    { dst := some 120, op := .mov (.t 15) },
    { dst := some 121, op := .mov (.t 5) },
    { dst := some 122, op := .mov (.t 6) },
    { dst := some 123, op := .call 124000 15 [(.t 120), (.t 121), (.t 122)] }])
  (.keep [1, 2, 3, 4, 15, 20] [65000, 65001, 65002, 100000, 100400, 66000000, 66000001] ((.seq (.reg false [
    { dst := some 125, op := .mov (.t 15) },
    { dst := some 126, op := .mov (.t 3) },
    { dst := some 127, op := .call 128000 16 [(.t 125), (.t 126), (.c (.int .i64 1))] },
    { dst := some 124, op := .mov (.t 127) },
    { dst := some 128, op := .ext 0 (.t 124) },
    { dst := some 129, op := .ext 1 (.t 124) },
    { dst := some 22, op := .mov (.t 128) },
    { dst := some 23, op := .mov (.t 129) }])
  (.keep [1, 2, 4, 15, 20, 22, 23] [65000, 65001, 65002, 100000, 100400, 128000, 66000000, 66000001] ((.seq (.reg false [
    { dst := some 131, op := .mov (.t 15) },
    { dst := some 132, op := .mov (.t 1) },
    { dst := some 133, op := .mov (.t 2) },
    { dst := some 134, op := .len (.t 133) },
    { dst := some 135, op := .call 136000 16 [(.t 131), (.t 132), (.t 134)] },
    { dst := some 130, op := .mov (.t 135) },
    { dst := some 136, op := .ext 0 (.t 130) },
    { dst := some 137, op := .ext 1 (.t 130) },
    { dst := some 24, op := .mov (.t 136) },
    { dst := some 25, op := .mov (.t 137) }])
  (.keep [2, 4, 20, 22, 23, 24, 25] [100000, 100400, 128000, 136000] ((.seq ((.seq (.reg false [
    { dst := some 138, op := .mov (.t 23) },
    { dst := some 139, op := .bin .neq (.t 138) (.c (.int .i64 0)) },
    { dst := some 140, op := .mov (.t 139) },
    { dst := some 141, op := .mov (.t 25), guard := some (140, false) },
    { dst := some 142, op := .bin .neq (.t 141) (.c (.int .i64 0)), guard := some (140, false) },
    { dst := some 143, op := .pick (.t 140) (.c (.bool true)) (.t 142) },
    { dst := some 144, op := .mov (.t 143) },
    { dst := some 145, op := .mov (.t 22), guard := some (144, false) },
    { dst := some 146, op := .len (.t 145), guard := some (144, false) },
    { dst := some 147, op := .bin .neq (.t 146) (.c (.int .i64 1)), guard := some (144, false) },
    { dst := some 148, op := .pick (.t 144) (.c (.bool true)) (.t 147) },
    { dst := some 149, op := .mov (.t 148) },
    { dst := some 150, op := .mov (.t 20), guard := some (149, false) },
    { dst := some 151, op := .len (.t 150), guard := some (149, false) },
    { dst := some 152, op := .bin .neq (.t 151) (.c (.int .i64 1)), guard := some (149, false) },
    { dst := some 153, op := .pick (.t 149) (.c (.bool true)) (.t 152) }])
  (.cond (.t 153) ((.seq (.reg false [
    { dst := some 14, op := .mov (.c (.bool false)) }])
  (.ret))) (.skip))))
  (.keep [2, 4, 20, 22, 24] [100000, 100400, 128000, 136000] ((.seq (.reg true [
    { dst := some 154, op := .call 155000 11 [] },
    { dst := some 155, op := .mov (.t 154), rs := [154], an := [0] },
    { dst := some 156, op := .mov (.t 22), guard := some (155, true), rs := [22, 155], an := [1], mn := [128000] },
    { dst := some 157, op := .iad 1 (.t 156) (.c (.int .i64 0)), guard := some (155, true), rs := [155, 156], tn := [128000], an := [1, 2] },
    { dst := some 158, op := .load none (.t 157), guard := some (155, true), rs := [155, 157], tn := [128000], an := [1, 3] },
    { dst := some 159, op := .mov (.t 20), guard := some (155, true), rs := [20, 155], an := [1], mn := [100000] },
    { dst := some 160, op := .iad 1 (.t 159) (.c (.int .i64 0)), guard := some (155, true), rs := [155, 159], tn := [100000], an := [1, 5] },
    { dst := some 161, op := .load none (.t 160), guard := some (155, true), rs := [155, 160], tn := [100000], an := [1, 6] },
    { dst := some 162, op := .bin .eql (.t 158) (.t 161), guard := some (155, true), rs := [155, 158, 161], an := [1, 4, 7] },
    { dst := some 163, op := .mov (.t 162), guard := some (155, true), rs := [155, 162], an := [1, 8] },
    { dst := some 164, op := .mov (.t 22), guard := some (163, false), rs := [22, 163], an := [9], mn := [128000] },
    { dst := some 165, op := .iad 1 (.t 164) (.c (.int .i64 0)), guard := some (163, false), rs := [163, 164], tn := [128000], an := [9, 10] },
    { dst := some 166, op := .load none (.t 165), guard := some (163, false), rs := [163, 165], tn := [128000], an := [9, 11] },
    { dst := some 167, op := .mov (.t 4), guard := some (163, false), rs := [4, 163], an := [9] },
    { dst := some 168, op := .bin .eql (.t 166) (.t 167), guard := some (163, false), rs := [163, 166, 167], an := [9, 12, 13] },
    { dst := some 169, op := .mov (.t 168), guard := some (163, false), rs := [163, 168], an := [9, 14] },
    { dst := some 170, op := .mov (.t 24), guard := some (169, true), rs := [24, 169], an := [15], mn := [136000] },
    { dst := some 171, op := .b2s (.t 170), guard := some (169, true), rs := [169, 170], tn := [136000], an := [15, 16] },
    { dst := some 172, op := .mov (.t 2), guard := some (169, true), rs := [2, 169], an := [15], mn := [100400] },
    { dst := some 173, op := .b2s (.t 172), guard := some (169, true), rs := [169, 172], tn := [100400], an := [15, 18] },
    { dst := some 174, op := .bin .eql (.t 171) (.t 173), guard := some (169, true), rs := [169, 171, 173], an := [15, 17, 19] },
    { dst := some 175, op := .pick (.t 169) (.t 174) (.c (.bool false)), guard := some (163, false), rs := [163, 169, 174], an := [9, 15, 20] },
    { dst := some 176, op := .pick (.t 163) (.c (.bool true)) (.t 175), guard := some (155, true), rs := [155, 163, 175], an := [1, 9, 21] },
    { dst := some 177, op := .pick (.t 155) (.t 176) (.c (.bool false)), rs := [155, 176], an := [1, 22] },
    { dst := some 14, op := .mov (.t 177), rs := [177], an := [23] }])
  (.ret)))))))))))))))))))))))))))))))))))))))
/-- with its results -/
def a3 : AFun := ⟨c3, [(14, none)], 178⟩

def b4_0 : AC :=
  (.seq ((.seq (.reg false [
    { dst := some 69, op := .mov (.t 13) },
    { dst := some 70, op := .mov (.t 1) },
    { dst := some 71, op := .len (.t 70) },
    { dst := some 72, op := .bin .lss (.t 69) (.t 71) }])
  (.cond (.t 72) (.skip) (.exit 4))))
  (.keep [0, 1, 5, 6, 11, 12, 13] [30000, 30001, 30002, 67000, 90000, 100000, 100200, 31000000, 31000001] ((.seq (.block 5 (.reg true [
    { dst := some 75, op := .mov (.t 6), rs := [6], mn := [30000] },
    { dst := some 76, op := .mov (.t 1), rs := [1], mn := [100200] },
    { dst := some 77, op := .mov (.t 13), rs := [13] },
    { dst := some 78, op := .iad 4 (.t 76) (.t 77), rs := [76, 77], tn := [100200], an := [1, 2] },
    { dst := some 79, op := .fad 1 (.t 78), rs := [78], an := [3], mn := [100200] },
    { dst := some 80, op := .load none (.t 79), rs := [79], tn := [100200], an := [4] },
    { dst := some 81, op := .mov (.t 1), rs := [1], mn := [100200] },
    { dst := some 82, op := .mov (.t 13), rs := [13] },
    { dst := some 83, op := .iad 4 (.t 81) (.t 82), rs := [81, 82], tn := [100200], an := [6, 7] },
    { dst := some 84, op := .fad 3 (.t 83), rs := [83], an := [8], mn := [100200] },
    { dst := some 85, op := .load none (.t 84), rs := [84], tn := [100200], an := [9] },
    { dst := some 86, op := .call 87000 17 [(.t 75), (.t 80), (.t 85)], rs := [75, 80, 85], tn := [30000, 30001, 30002, 31000000, 31000001], wn := [30000, 30001, 30002, 31000000, 31000001], an := [0, 5, 10] }]))
  (.keep [0, 1, 5, 6, 11, 12, 13] [30000, 30001, 30002, 67000, 90000, 100000, 100200, 31000000, 31000001] (.reg false [
    { dst := some 73, op := .mov (.t 13) },
    { dst := some 74, op := .bin .add (.t 73) (.c (.int .i64 1)) },
    { dst := some 13, op := .mov (.t 74) }]))))))
def b4_1 : AC :=
  (.seq ((.seq (.reg false [
    { dst := some 46, op := .mov (.t 10) },
    { dst := some 47, op := .mov (.t 0) },
    { dst := some 48, op := .len (.t 47) },
    { dst := some 49, op := .bin .lss (.t 46) (.t 48) }])
  (.cond (.t 49) (.skip) (.exit 2))))
  (.keep [0, 1, 5, 6, 8, 10] [30000, 30001, 30002, 34000, 34002, 100000, 100200, 31000000, 31000001, 35000001] ((.seq (.block 3 (.reg false [
    { dst := some 52, op := .mov (.t 6) },
    { dst := some 53, op := .mov (.t 8) },
    { dst := some 54, op := .mov (.t 0) },
    { dst := some 55, op := .mov (.t 10) },
    { dst := some 56, op := .iad 4 (.t 54) (.t 55) },
    { dst := some 57, op := .load (some 4) (.t 56) },
    { dst := some 58, op := .call 59000 14 [(.t 52), (.t 53), (.t 57)] }]))
  (.keep [0, 1, 5, 6, 8, 10] [30000, 30001, 30002, 34000, 34002, 100000, 100200, 31000000, 31000001, 35000001] (.reg false [
    { dst := some 50, op := .mov (.t 10) },
    { dst := some 51, op := .bin .add (.t 50) (.c (.int .i64 1)) },
    { dst := some 10, op := .mov (.t 51) }]))))))
def b4_2 : AC :=
  (.seq ((.seq (.reg false [
    { dst := some 24, op := .mov (.t 5) },
    { dst := some 25, op := .bin .lss (.t 24) (.c (.int .i64 2)) }])
  (.cond (.t 25) (.skip) (.exit 0))))
  ((.seq (.block 1 ((.seq (.reg false [
    { dst := some 29, op := .call 30000 12 [(.c (.int .i64 64))] },
    { dst := some 28, op := .mov (.t 29) },
    { dst := some 30, op := .ext 0 (.t 28) },
    { dst := some 31, op := .ext 1 (.t 28) },
    { dst := some 6, op := .mov (.t 30) },
    { dst := some 7, op := .mov (.t 31) }])
  (.keep [0, 1, 5, 6, 7] [30000, 30001, 30002, 100000, 100200, 31000000, 31000001] ((.seq (.reg false [
    { dst := some 33, op := .call 34000 13 [(.c (.int .i64 64))] },
    { dst := some 32, op := .mov (.t 33) },
    { dst := some 34, op := .ext 0 (.t 32) },
    { dst := some 35, op := .ext 1 (.t 32) },
    { dst := some 8, op := .mov (.t 34) },
    { dst := some 9, op := .mov (.t 35) }])
  (.keep [0, 1, 5, 6, 7, 8, 9] [30000, 30001, 30002, 34000, 34002, 100000, 100200, 31000000, 31000001, 35000001] ((.seq ((.seq (.reg false [
    { dst := some 36, op := .mov (.t 6) },
    { dst := some 37, op := .isnil false 1 (.t 36) },
    { dst := some 38, op := .mov (.t 37) },
    { dst := some 39, op := .mov (.t 7), guard := some (38, false) },
    { dst := some 40, op := .bin .neq (.t 39) (.c (.int .i64 0)), guard := some (38, false) },
    { dst := some 41, op := .pick (.t 38) (.c (.bool true)) (.t 40) },
    { dst := some 42, op := .mov (.t 41) },
    { dst := some 43, op := .mov (.t 9), guard := some (42, false) },
    { dst := some 44, op := .bin .neq (.t 43) (.c (.int .i64 0)), guard := some (42, false) },
    { dst := some 45, op := .pick (.t 42) (.c (.bool true)) (.t 44) }])
  (.cond (.t 45) ((.seq (.reg false [
    { dst := some 4, op := .mov (.c (.bool false)) }])
  (.ret))) (.skip))))
  (.keep [0, 1, 5, 6, 8] [30000, 30001, 30002, 34000, 34002, 100000, 100200, 31000000, 31000001, 35000001] ((.seq ((.seq (.reg false [
    { dst := some 10, op := .mov (.c (.int .i64 0)) }])
  (.block 2 (.loop [0, 1, 5, 6, 8, 10] [30000, 30001, 30002, 34000, 34002, 100000, 100200, 31000000, 31000001, 35000001] b4_1))))
  (.keep [0, 1, 5, 6] [30000, 30001, 30002, 100000, 100200, 31000000, 31000001] ((.seq (.reg false [
    { dst := some 59, op := .mov (.t 6) },
    { dst := some 60, op := .call 61000 15 [(.t 59), (.c (.int .i64 0)), (.c (.int .i64 0))] }])
  ((.seq ((.seq (.reg false [
    { dst := some 61, op := .mov (.t 6) },
    { dst := some 62, op := .call 63000 18 [(.t 61)] },
    { dst := some 63, op := .bin .neq (.t 62) (.c (.int .i64 0)) }])
  (.cond (.t 63) ((.seq (.reg false [
    { dst := some 4, op := .mov (.c (.bool false)) }])
  (.ret))) (.skip))))
  (.keep [0, 1, 5, 6] [30000, 30001, 30002, 100000, 100200, 31000000, 31000001] ((.seq (.reg false [
    { dst := some 65, op := .mov (.t 6) },
    { dst := some 66, op := .call 67000 16 [(.t 65), (.c (.int .i64 0)), (.c (.int .i64 64))] },
    { dst := some 64, op := .mov (.t 66) },
    { dst := some 67, op := .ext 0 (.t 64) },
    { dst := some 68, op := .ext 1 (.t 64) },
    { dst := some 11, op := .mov (.t 67) },
    { dst := some 12, op := .mov (.t 68) }])
  (.keep [0, 1, 5, 6, 11, 12] [30000, 30001, 30002, 67000, 90000, 100000, 100200, 31000000, 31000001] ((.seq ((.seq (.reg false [
    { dst := some 13, op := .mov (.c (.int .i64 0)) }])
  (.block 4 (.loop [0, 1, 5, 6, 11, 12, 13] [30000, 30001, 30002, 67000, 90000, 100000, 100200, 31000000, 31000001] b4_0))))
  (.keep [0, 1, 5, 6, 11, 12] [30000, 30001, 30002, 67000, 90000, 100000, 100200, 31000000, 31000001] ((.seq (.reg false [
    { dst := some 88, op := .mov (.t 6) },
    { dst := some 89, op := .call 90000 16 [(.t 88), (.c (.int .i64 0)), (.c (.int .i64 64))] },
    { dst := some 87, op := .mov (.t 89) },
    { dst := some 90, op := .ext 0 (.t 87) },
    { dst := some 91, op := .ext 1 (.t 87) },
    { dst := some 14, op := .mov (.t 90) },
    { dst := some 15, op := .mov (.t 91) }])
  (.keep [0, 1, 5, 6, 11, 12, 14, 15] [30000, 30001, 30002, 67000, 90000, 100000, 100200, 31000000, 31000001] ((.seq ((.seq (.reg false [
    { dst := some 92, op := .mov (.t 5) },
    { dst := some 93, op := .bin .eql (.t 92) (.c (.int .i64 1)) }])
  (.cond (.t 93) ((.seq (.reg false [
    { dst := some 94, op := .mov (.t 6) },
    { dst := some 95, op := .call 96000 15 [(.t 94), (.c (.int .i64 1000)), (.c (.int .i64 0))] }])
  (.reg false [
    { dst := some 96, op := .mov (.t 14) },
    { dst := some 11, op := .mov (.t 96) }]))) (.reg false [
    { dst := some 97, op := .mov (.t 6) },
    { dst := some 98, op := .call 99000 15 [(.t 97), (.c (.int .i64 0)), (.c (.int .i64 0))] }]))))
  (.keep [0, 1, 5, 6, 11, 12, 15] [30000, 30001, 30002, 67000, 90000, 100000, 100200, 31000000, 31000001] ((.seq (.reg false [
    { dst := some 100, op := .mov (.t 6) },
    { dst := some 101, op := .call 102000 16 [(.t 100), (.c (.int .i64 0)), (.c (.int .i64 64))] },
    { dst := some 99, op := .mov (.t 101) },
    { dst := some 102, op := .ext 0 (.t 99) },
    { dst := some 103, op := .ext 1 (.t 99) },
    { dst := some 16, op := .mov (.t 102) },
    { dst := some 17, op := .mov (.t 103) }])
  (.keep [0, 1, 5, 11, 12, 15, 16, 17] [67000, 90000, 100000, 100200, 102000] ((.seq (.reg false [
    { dst := some 104, op := .mov (.t 12) },
    { dst := some 105, op := .bin .neq (.t 104) (.c (.int .i64 0)) },
    { dst := some 106, op := .mov (.t 105) },
    { dst := some 107, op := .mov (.t 15), guard := some (106, false) },
    { dst := some 108, op := .bin .neq (.t 107) (.c (.int .i64 0)), guard := some (106, false) },
    { dst := some 109, op := .pick (.t 106) (.c (.bool true)) (.t 108) },
    { dst := some 110, op := .mov (.t 109) },
    { dst := some 111, op := .mov (.t 17), guard := some (110, false) },
    { dst := some 112, op := .bin .neq (.t 111) (.c (.int .i64 0)), guard := some (110, false) },
    { dst := some 113, op := .pick (.t 110) (.c (.bool true)) (.t 112) },
    { dst := some 114, op := .mov (.t 113) },
    { dst := some 115, op := .mov (.t 16), guard := some (114, false) },
    { dst := some 116, op := .b2s (.t 115), guard := some (114, false) },
    { dst := some 117, op := .mov (.t 11), guard := some (114, false) },
    { dst := some 118, op := .b2s (.t 117), guard := some (114, false) },
    { dst := some 119, op := .bin .neq (.t 116) (.t 118), guard := some (114, false) },
    { dst := some 120, op := .pick (.t 114) (.c (.bool true)) (.t 119) }])
  (.cond (.t 120) ((.seq (.reg false [
    { dst := some 4, op := .mov (.c (.bool false)) }])
  (.ret))) (.skip)))))))))))))))))))))))))))))))))))))
  (.keep [0, 1, 5] [100000, 100200] (.reg false [
    { dst := some 26, op := .mov (.t 5) },
    { dst := some 27, op := .bin .add (.t 26) (.c (.int .i64 1)) },
    { dst := some 5, op := .mov (.t 27) }])))))
/-- estreat/estreatlaw09.DiskWhole: parameters []estreatlaw09.Op []estreatlaw09.Op -/
def c4 : AC :=
  (.seq (.reg false [
    { dst := some 4, op := .mov (.c (.bool false)) }])
  ((.seq ((.seq (.reg false [
    { dst := some 18, op := .mov (.t 0) },
    { dst := some 19, op := .call 20000 10 [(.t 18)] },
    { dst := some 20, op := .mov (.t 19) },
    { dst := some 21, op := .mov (.t 1), guard := some (20, false) },
    { dst := some 22, op := .call 23000 10 [(.t 21)], guard := some (20, false) },
    { dst := some 23, op := .pick (.t 20) (.c (.bool true)) (.t 22) }])
  (.cond (.t 23) ((.seq (.reg false [
    { dst := some 4, op := .mov (.c (.bool true)) }])
  (.ret))) (.skip))))
  (.keep [0, 1] [100000, 100200] ((.seq ((.seq (.reg false [
    { dst := some 5, op := .mov (.c (.int .i64 0)) }])
  (.block 0 (.loop [0, 1, 5] [100000, 100200] b4_2))))
  (.keep [] [] ((.seq (.reg false [
    { dst := some 121, op := .call 122000 11 [] },
    { dst := some 4, op := .mov (.t 121) }])
  (.ret))))))))))
/-- with its results -/
def a4 : AFun := ⟨c4, [(4, none)], 122⟩

def b5_0 : AC :=
  (.seq ((.seq (.reg false [
    { dst := some 43, op := .mov (.t 11) },
    { dst := some 44, op := .mov (.t 0) },
    { dst := some 45, op := .len (.t 44) },
    { dst := some 46, op := .bin .lss (.t 43) (.t 45) }])
  (.cond (.t 46) (.skip) (.exit 0))))
  (.keep [0, 1, 2, 7, 9, 11] [27000, 27001, 27002, 31000, 31002, 100000, 100400, 28000000, 28000001, 32000001] ((.seq (.block 1 (.reg false [
    { dst := some 49, op := .mov (.t 7) },
    { dst := some 50, op := .mov (.t 9) },
    { dst := some 51, op := .mov (.t 0) },
    { dst := some 52, op := .mov (.t 11) },
    { dst := some 53, op := .iad 4 (.t 51) (.t 52) },
    { dst := some 54, op := .load (some 4) (.t 53) },
    { dst := some 55, op := .call 56000 14 [(.t 49), (.t 50), (.t 54)] }]))
  (.keep [0, 1, 2, 7, 9, 11] [27000, 27001, 27002, 31000, 31002, 100000, 100400, 28000000, 28000001, 32000001] (.reg false [
    { dst := some 47, op := .mov (.t 11) },
    { dst := some 48, op := .bin .add (.t 47) (.c (.int .i64 1)) },
    { dst := some 11, op := .mov (.t 48) }]))))))
/-- estreat/estreatlaw09.DiskApart: parameters []estreatlaw09.Op int []uint8 -/
def c5 : AC :=
  (.seq (.reg false [
    { dst := some 6, op := .mov (.c (.bool false)) }])
  ((.seq ((.seq (.reg false [
    { dst := some 18, op := .mov (.t 0) },
    { dst := some 19, op := .call 20000 10 [(.t 18)] },
    { dst := some 20, op := .mov (.t 19) },
    { dst := some 21, op := .mov (.t 2), guard := some (20, false) },
    { dst := some 22, op := .len (.t 21), guard := some (20, false) },
    { dst := some 23, op := .bin .gtr (.t 22) (.c (.int .i64 300)), guard := some (20, false) },
    { dst := some 24, op := .pick (.t 20) (.c (.bool true)) (.t 23) }])
  (.cond (.t 24) ((.seq (.reg false [
    { dst := some 6, op := .mov (.c (.bool true)) }])
  (.ret))) (.skip))))
  (.keep [0, 1, 2] [100000, 100400] ((.seq (.reg false [
    { dst := some 26, op := .call 27000 12 [(.c (.int .i64 64))] },
    { dst := some 25, op := .mov (.t 26) },
    { dst := some 27, op := .ext 0 (.t 25) },
    { dst := some 28, op := .ext 1 (.t 25) },
    { dst := some 7, op := .mov (.t 27) },
    { dst := some 8, op := .mov (.t 28) }])
  (.keep [0, 1, 2, 7, 8] [27000, 27001, 27002, 100000, 100400, 28000000, 28000001] ((.seq (.reg false [
    { dst := some 30, op := .call 31000 13 [(.c (.int .i64 64))] },
    { dst := some 29, op := .mov (.t 30) },
    { dst := some 31, op := .ext 0 (.t 29) },
    { dst := some 32, op := .ext 1 (.t 29) },
    { dst := some 9, op := .mov (.t 31) },
    { dst := some 10, op := .mov (.t 32) }])
  (.keep [0, 1, 2, 7, 8, 9, 10] [27000, 27001, 27002, 31000, 31002, 100000, 100400, 28000000, 28000001, 32000001] ((.seq ((.seq (.reg false [
    { dst := some 33, op := .mov (.t 7) },
    { dst := some 34, op := .isnil false 1 (.t 33) },
    { dst := some 35, op := .mov (.t 34) },
    { dst := some 36, op := .mov (.t 8), guard := some (35, false) },
    { dst := some 37, op := .bin .neq (.t 36) (.c (.int .i64 0)), guard := some (35, false) },
    { dst := some 38, op := .pick (.t 35) (.c (.bool true)) (.t 37) },
    { dst := some 39, op := .mov (.t 38) },
    { dst := some 40, op := .mov (.t 10), guard := some (39, false) },
    { dst := some 41, op := .bin .neq (.t 40) (.c (.int .i64 0)), guard := some (39, false) },
    { dst := some 42, op := .pick (.t 39) (.c (.bool true)) (.t 41) }])
  (.cond (.t 42) ((.seq (.reg false [
    { dst := some 6, op := .mov (.c (.bool false)) }])
  (.ret))) (.skip))))
  (.keep [0, 1, 2, 7, 9] [27000, 27001, 27002, 31000, 31002, 100000, 100400, 28000000, 28000001, 32000001] ((.seq ((.seq (.reg false [
    { dst := some 11, op := .mov (.c (.int .i64 0)) }])
  (.block 0 (.loop [0, 1, 2, 7, 9, 11] [27000, 27001, 27002, 31000, 31002, 100000, 100400, 28000000, 28000001, 32000001] b5_0))))
  (.keep [1, 2, 7] [27000, 27001, 27002, 100400, 28000000, 28000001] ((.seq (.reg false [
    { dst := some 57, op := .mov (.t 7) },
    { dst := some 58, op := .call 59000 16 [(.t 57), (.c (.int .i64 0)), (.c (.int .i64 64))] },
    { dst := some 56, op := .mov (.t 58) },
    { dst := some 59, op := .ext 0 (.t 56) },
    { dst := some 60, op := .ext 1 (.t 56) },
    { dst := some 12, op := .mov (.t 59) },
    { dst := some 13, op := .mov (.t 60) }])
  (.keep [1, 2, 7, 12, 13] [27000, 27001, 27002, 59000, 100400, 28000000, 28000001] ((.seq (.reg false [
    { dst := some 61, op := .mov (.t 7) },
    { dst := some 62, op := .mov (.t 1) },
    { dst := some 63, op := .mov (.t 2) },
    { dst := some 64, op := .call 65000 17 [(.t 61), (.t 62), (.t 63)] },
    { dst := some 14, op := .mov (.t 64) }])
  (.keep [1, 2, 7, 12, 13, 14] [27000, 27001, 27002, 59000, 100400, 28000000, 28000001] ((.seq (.reg false [
    { dst := some 66, op := .mov (.t 7) },
    { dst := some 67, op := .call 68000 16 [(.t 66), (.c (.int .i64 0)), (.c (.int .i64 64))] },
    { dst := some 65, op := .mov (.t 67) },
    { dst := some 68, op := .ext 0 (.t 65) },
    { dst := some 69, op := .ext 1 (.t 65) },
    { dst := some 15, op := .mov (.t 68) },
    { dst := some 16, op := .mov (.t 69) }])
  (.keep [1, 2, 12, 13, 14, 15, 16] [59000, 68000, 100400] ((.seq ((.seq (.reg false [
    { dst := some 70, op := .mov (.t 13) },
    { dst := some 71, op := .bin .neq (.t 70) (.c (.int .i64 0)) },
    { dst := some 72, op := .mov (.t 71) },
    { dst := some 73, op := .mov (.t 16), guard := some (72, false) },
    { dst := some 74, op := .bin .neq (.t 73) (.c (.int .i64 0)), guard := some (72, false) },
    { dst := some 75, op := .pick (.t 72) (.c (.bool true)) (.t 74) },
    { dst := some 76, op := .mov (.t 75) },
    { dst := some 77, op := .mov (.t 12), guard := some (76, false) },
    { dst := some 78, op := .len (.t 77), guard := some (76, false) },
    { dst := some 79, op := .bin .neq (.t 78) (.c (.int .i64 64)), guard := some (76, false) },
    { dst := some 80, op := .pick (.t 76) (.c (.bool true)) (.t 79) },
    { dst := some 81, op := .mov (.t 80) },
    { dst := some 82, op := .mov (.t 15), guard := some (81, false) },
    { dst := some 83, op := .len (.t 82), guard := some (81, false) },
    { dst := some 84, op := .bin .neq (.t 83) (.c (.int .i64 64)), guard := some (81, false) },
    { dst := some 85, op := .pick (.t 81) (.c (.bool true)) (.t 84) }])
  (.cond (.t 85) ((.seq (.reg false [
    { dst := some 6, op := .mov (.c (.bool false)) }])
  (.ret))) (.skip))))
  (.keep [1, 2, 12, 14, 15] [59000, 68000, 100400] ((.seq ((.seq (.reg false [
    { dst := some 86, op := .mov (.t 14) },
    { dst := some 87, op := .bin .neq (.t 86) (.c (.int .i64 0)) }])
  (.cond (.t 87) ((.seq (.reg false [
    { dst := some 88, op := .call 89000 11 [] },
    { dst := some 89, op := .mov (.t 88) },
    { dst := some 90, op := .mov (.t 15), guard := some (89, true) },
    { dst := some 91, op := .b2s (.t 90), guard := some (89, true) },
    { dst := some 92, op := .mov (.t 12), guard := some (89, true) },
    { dst := some 93, op := .b2s (.t 92), guard := some (89, true) },
    { dst := some 94, op := .bin .eql (.t 91) (.t 93), guard := some (89, true) },
    { dst := some 95, op := .pick (.t 89) (.t 94) (.c (.bool false)) },
    { dst := some 6, op := .mov (.t 95) }])
  (.ret))) (.skip))))
  (.keep [1, 2, 12, 15] [59000, 68000, 100400] ((.seq (.reg false [
    { dst := some 96, op := .mov (.t 1) },
    { dst := some 97, op := .mov (.t 2) },
    { dst := some 98, op := .len (.t 97) },
    { dst := some 99, op := .bin .add (.t 96) (.t 98) },
    { dst := some 17, op := .mov (.t 99) }])
  (.keep [1, 2, 12, 15, 17] [59000, 68000, 100400] ((.seq (.reg true [
    { dst := some 100, op := .call 101000 11 [] },
    { dst := some 101, op := .mov (.t 100), rs := [100], an := [0] },
    { dst := some 102, op := .mov (.t 1), guard := some (101, true), rs := [1, 101], an := [1] },
    { dst := some 103, op := .bin .geq (.t 102) (.c (.int .i64 0)), guard := some (101, true), rs := [101, 102], an := [1, 2] },
    { dst := some 104, op := .pick (.t 101) (.t 103) (.c (.bool false)), rs := [101, 103], an := [1, 3] },
    { dst := some 105, op := .mov (.t 104), rs := [104], an := [4] },
    { dst := some 106, op := .mov (.t 17), guard := some (105, true), rs := [17, 105], an := [5] },
    { dst := some 107, op := .bin .leq (.t 106) (.c (.int .i64 64)), guard := some (105, true), rs := [105, 106], an := [5, 6] },
    { dst := some 108, op := .pick (.t 105) (.t 107) (.c (.bool false)), rs := [105, 107], an := [5, 7] },
    { dst := some 109, op := .mov (.t 108), rs := [108], an := [8] },
    { dst := some 110, op := .mov (.t 15), guard := some (109, true), rs := [15, 109], an := [9], mn := [68000] },
    { dst := some 111, op := .mov (.t 1), guard := some (109, true), rs := [1, 109], an := [9] },
    { dst := some 112, op := .slc 1 (.t 110) none (some (.t 111)) none, guard := some (109, true), rs := [109, 110, 111], tn := [68000], an := [9, 10, 11] },
    { dst := some 113, op := .b2s (.t 112), guard := some (109, true), rs := [109, 112], tn := [68000], an := [9, 12] },
    { dst := some 114, op := .mov (.t 12), guard := some (109, true), rs := [12, 109], an := [9], mn := [59000] },
    { dst := some 115, op := .mov (.t 1), guard := some (109, true), rs := [1, 109], an := [9] },
    { dst := some 116, op := .slc 1 (.t 114) none (some (.t 115)) none, guard := some (109, true), rs := [109, 114, 115], tn := [59000], an := [9, 14, 15] },
    { dst := some 117, op := .b2s (.t 116), guard := some (109, true), rs := [109, 116], tn := [59000], an := [9, 16] },
    { dst := some 118, op := .bin .eql (.t 113) (.t 117), guard := some (109, true), rs := [109, 113, 117], an := [9, 13, 17] },
    { dst := some 119, op := .pick (.t 109) (.t 118) (.c (.bool false)), rs := [109, 118], an := [9, 18] },
    { dst := some 120, op := .mov (.t 119), rs := [119], an := [19] },
    { dst := some 121, op := .mov (.t 15), guard := some (120, true), rs := [15, 120], an := [20], mn := [68000] },
    { dst := some 122, op := .mov (.t 1), guard := some (120, true), rs := [1, 120], an := [20] },
    { dst := some 123, op := .mov (.t 17), guard := some (120, true), rs := [17, 120], an := [20] },
    { dst := some 124, op := .slc 1 (.t 121) (some (.t 122)) (some (.t 123)) none, guard := some (120, true), rs := [120, 121, 122, 123], tn := [68000], an := [20, 21, 22, 23] },
    { dst := some 125, op := .b2s (.t 124), guard := some (120, true), rs := [120, 124], tn := [68000], an := [20, 24] },
    { dst := some 126, op := .mov (.t 2), guard := some (120, true), rs := [2, 120], an := [20], mn := [100400] },
    { dst := some 127, op := .b2s (.t 126), guard := some (120, true), rs := [120, 126], tn := [100400], an := [20, 26] },
    { dst := some 128, op := .bin .eql (.t 125) (.t 127), guard := some (120, true), rs := [120, 125, 127], an := [20, 25, 27] },
    { dst := some 129, op := .pick (.t 120) (.t 128) (.c (.bool false)), rs := [120, 128], an := [20, 28] },
    { dst := some 130, op := .mov (.t 129), rs := [129], an := [29] },
    { dst := some 131, op := .mov (.t 15), guard := some (130, true), rs := [15, 130], an := [30], mn := [68000] },
    { dst := some 132, op := .mov (.t 17), guard := some (130, true), rs := [17, 130], an := [30] },
    { dst := some 133, op := .slc 1 (.t 131) (some (.t 132)) none none, guard := some (130, true), rs := [130, 131, 132], tn := [68000], an := [30, 31, 32] },
    { dst := some 134, op := .b2s (.t 133), guard := some (130, true), rs := [130, 133], tn := [68000], an := [30, 33] },
    { dst := some 135, op := .mov (.t 12), guard := some (130, true), rs := [12, 130], an := [30], mn := [59000] },
    { dst := some 136, op := .mov (.t 17), guard := some (130, true), rs := [17, 130], an := [30] },
    { dst := some 137, op := .slc 1 (.t 135) (some (.t 136)) none none, guard := some (130, true), rs := [130, 135, 136], tn := [59000], an := [30, 35, 36] },
    { dst := some 138, op := .b2s (.t 137), guard := some (130, true), rs := [130, 137], tn := [59000], an := [30, 37] },
    { dst := some 139, op := .bin .eql (.t 134) (.t 138), guard := some (130, true), rs := [130, 134, 138], an := [30, 34, 38] },
    { dst := some 140, op := .pick (.t 130) (.t 139) (.c (.bool false)), rs := [130, 139], an := [30, 39] },
    { dst := some 6, op := .mov (.t 140), rs := [140], an := [40] }])
  (.ret)))))))))))))))))))))))))))))))))))))
/-- with its results -/
def a5 : AFun := ⟨c5, [(6, none)], 141⟩

def b6_0 : AC :=
  (.seq ((.seq (.reg false [
    { dst := some 56, op := .mov (.t 9) },
    { dst := some 57, op := .mov (.t 1) },
    { dst := some 58, op := .len (.t 57) },
    { dst := some 59, op := .bin .lss (.t 56) (.t 58) }])
  (.cond (.t 59) (.skip) (.exit 0))))
  (.keep [0, 1, 5, 7, 9] [17000, 17001, 17002, 52000, 52002, 100200, 18000000, 18000001, 53000001] ((.seq (.block 1 ((.seq ((.seq (.reg true [
    { dst := some 62, op := .mov (.t 5), rs := [5], mn := [17000] },
    { dst := some 63, op := .mov (.t 7), rs := [7], mn := [52000] },
    { dst := some 64, op := .mov (.t 1), rs := [1], mn := [100200] },
    { dst := some 65, op := .mov (.t 9), rs := [9] },
    { dst := some 66, op := .iad 4 (.t 64) (.t 65), rs := [64, 65], tn := [100200], an := [2, 3] },
    { dst := some 67, op := .load (some 4) (.t 66), rs := [66], tn := [100200], an := [4] },
    { dst := some 68, op := .call 69000 14 [(.t 62), (.t 63), (.t 67)], rs := [62, 63, 67], tn := [17000, 17001, 17002, 52000, 52002, 18000000, 18000001, 53000000, 53000001], wn := [17000, 17001, 17002, 52000, 52002, 18000000, 18000001, 53000000, 53000001], an := [0, 1, 5] },
    { dst := some 69, op := .un .not (.t 68), rs := [68], an := [6] },
    { dst := some 70, op := .mov (.t 69), rs := [69], an := [6, 7] },
    { dst := some 71, op := .mov (.t 5), guard := some (70, false), rs := [5, 70], an := [8], mn := [17000] },
    { dst := some 72, op := .call 73000 20 [(.t 71)], guard := some (70, false), rs := [70, 71], tn := [17000, 17001, 17002, 18000000, 18000001], wn := [17000, 17001, 17002, 18000000, 18000001], an := [6, 8, 9] },
    { dst := some 73, op := .mov (.t 7), guard := some (70, false), rs := [7, 70], an := [6, 8], mn := [52000] },
    { dst := some 74, op := .nilck (.t 73), guard := some (70, false), rs := [70, 73], an := [6, 8, 11], mn := [52000] },
    { dst := some 75, op := .fad 2 (.t 74), guard := some (70, false), rs := [70, 74], an := [6, 8, 12], mn := [52000] },
    { dst := some 76, op := .load none (.t 75), guard := some (70, false), rs := [70, 75], tn := [52000], an := [6, 8, 13] },
    { dst := some 77, op := .eqb true (.t 72) (.t 76), guard := some (70, false), rs := [70, 72, 76], an := [8, 10, 14] },
    { dst := some 78, op := .pick (.t 70) (.c (.bool true)) (.t 77), rs := [70, 77], an := [8, 15] }])
  (.cond (.t 78) ((.seq (.reg false [
    { dst := some 4, op := .mov (.c (.bool false)) }])
  (.ret))) (.skip))))
  (.keep [0, 1, 5, 7, 9] [17000, 17001, 17002, 52000, 52002, 100200, 18000000, 18000001, 53000001] ((.seq (.reg false [
    { dst := some 80, op := .mov (.t 5) },
    { dst := some 81, op := .mov (.t 0) },
    { dst := some 82, op := .call 83000 16 [(.t 80), (.c (.int .i64 0)), (.t 81)] },
    { dst := some 79, op := .mov (.t 82) },
    { dst := some 83, op := .ext 0 (.t 79) },
    { dst := some 84, op := .ext 1 (.t 79) },
    { dst := some 10, op := .mov (.t 83) },
    { dst := some 11, op := .mov (.t 84) }])
  (.keep [0, 1, 5, 7, 9, 10, 11] [17000, 17001, 17002, 52000, 52002, 83000, 100200, 18000000, 18000001, 53000001] ((.seq (.reg true [
    { dst := some 85, op := .mov (.t 11), rs := [11] },
    { dst := some 86, op := .bin .neq (.t 85) (.c (.int .i64 0)), rs := [85], an := [0] },
    { dst := some 87, op := .mov (.t 86), rs := [86], an := [1] },
    { dst := some 88, op := .mov (.t 10), guard := some (87, false), rs := [10, 87], an := [2], mn := [83000] },
    { dst := some 89, op := .b2s (.t 88), guard := some (87, false), rs := [87, 88], tn := [83000], an := [2, 3] },
    { dst := some 90, op := .mov (.t 7), guard := some (87, false), rs := [7, 87], an := [2], mn := [52000] },
    { dst := some 91, op := .call 92000 21 [(.t 90)], guard := some (87, false), rs := [87, 90], tn := [52000, 52002, 53000000, 53000001], wn := [52000, 52002, 53000000, 53000001], an := [2, 5] },
    { dst := some 92, op := .bin .neq (.t 89) (.t 91), guard := some (87, false), rs := [87, 89, 91], an := [2, 4, 6] },
    { dst := some 93, op := .pick (.t 87) (.c (.bool true)) (.t 92), rs := [87, 92], an := [2, 7] }])
  (.cond (.t 93) ((.seq (.reg false [
    { dst := some 4, op := .mov (.c (.bool false)) }])
  (.ret))) (.skip)))))))))))
  (.keep [0, 1, 5, 7, 9] [17000, 17001, 17002, 52000, 52002, 100200, 18000000, 18000001, 53000001] (.reg false [
    { dst := some 60, op := .mov (.t 9) },
    { dst := some 61, op := .bin .add (.t 60) (.c (.int .i64 1)) },
    { dst := some 9, op := .mov (.t 61) }]))))))
/-- estreat/estreatlaw09.DiskRuns: parameters int []estreatlaw09.Op -/
def c6 : AC :=
  (.seq (.reg false [
    { dst := some 4, op := .mov (.c (.bool false)) }])
  ((.seq ((.seq (.reg false [
    { dst := some 12, op := .mov (.t 1) },
    { dst := some 13, op := .call 14000 10 [(.t 12)] }])
  (.cond (.t 13) ((.seq (.reg false [
    { dst := some 4, op := .mov (.c (.bool true)) }])
  (.ret))) (.skip))))
  ((.seq (.reg false [
    { dst := some 15, op := .mov (.t 0) },
    { dst := some 16, op := .call 17000 12 [(.t 15)] },
    { dst := some 14, op := .mov (.t 16) },
    { dst := some 17, op := .ext 0 (.t 14) },
    { dst := some 18, op := .ext 1 (.t 14) },
    { dst := some 5, op := .mov (.t 17) },
    { dst := some 6, op := .mov (.t 18) }])
  (.keep [0, 1, 5, 6] [17000, 17001, 17002, 100200, 18000000, 18000001] ((.seq ((.seq (.reg false [
    { dst := some 19, op := .mov (.t 0) },
    { dst := some 20, op := .bin .lss (.t 19) (.c (.int .i64 1)) },
    { dst := some 21, op := .mov (.t 20) },
    { dst := some 22, op := .mov (.t 0), guard := some (21, false) },
    { dst := some 23, op := .bin .gtr (.t 22) (.c (.int .i64 1000000)), guard := some (21, false) },
    { dst := some 24, op := .pick (.t 21) (.c (.bool true)) (.t 23) }])
  (.cond (.t 24) ((.seq (.reg false [
    { dst := some 25, op := .call 26000 11 [] },
    { dst := some 26, op := .mov (.t 25) },
    { dst := some 27, op := .mov (.t 5), guard := some (26, true) },
    { dst := some 28, op := .isnil false 1 (.t 27), guard := some (26, true) },
    { dst := some 29, op := .pick (.t 26) (.t 28) (.c (.bool false)) },
    { dst := some 30, op := .mov (.t 29) },
    { dst := some 31, op := .mov (.t 6), guard := some (30, true) },
    { dst := some 32, op := .bin .eql (.t 31) (.c (.int .i64 1)), guard := some (30, true) },
    { dst := some 33, op := .pick (.t 30) (.t 32) (.c (.bool false)) },
    { dst := some 4, op := .mov (.t 33) }])
  (.ret))) (.skip))))
  (.keep [0, 1, 5, 6] [17000, 17001, 17002, 100200, 18000000, 18000001] ((.seq ((.seq (.reg false [
    { dst := some 34, op := .mov (.t 5) },
    { dst := some 35, op := .isnil false 1 (.t 34) },
    { dst := some 36, op := .mov (.t 35) },
    { dst := some 37, op := .mov (.t 6), guard := some (36, false) },
    { dst := some 38, op := .bin .neq (.t 37) (.c (.int .i64 0)), guard := some (36, false) },
    { dst := some 39, op := .pick (.t 36) (.c (.bool true)) (.t 38) },
    { dst := some 40, op := .mov (.t 39) },
    { dst := some 41, op := .mov (.t 5), guard := some (40, false) },
    { dst := some 42, op := .call 43000 19 [(.t 41)], guard := some (40, false) },
    { dst := some 43, op := .mov (.t 0), guard := some (40, false) },
    { dst := some 44, op := .bin .neq (.t 42) (.t 43), guard := some (40, false) },
    { dst := some 45, op := .pick (.t 40) (.c (.bool true)) (.t 44) }])
  (.cond (.t 45) ((.seq (.reg false [
    { dst := some 4, op := .mov (.c (.bool false)) }])
  (.ret))) (.skip))))
  (.keep [0, 1, 5] [17000, 17001, 17002, 100200, 18000000, 18000001] ((.seq ((.seq (.reg false [
    { dst := some 46, op := .mov (.t 0) },
    { dst := some 47, op := .bin .gtr (.t 46) (.c (.int .i64 1000)) }])
  (.cond (.t 47) ((.seq (.reg false [
    { dst := some 48, op := .call 49000 11 [] },
    { dst := some 4, op := .mov (.t 48) }])
  (.ret))) (.skip))))
  (.keep [0, 1, 5] [17000, 17001, 17002, 100200, 18000000, 18000001] ((.seq (.reg false [
    { dst := some 50, op := .mov (.t 0) },
    { dst := some 51, op := .call 52000 13 [(.t 50)] },
    { dst := some 49, op := .mov (.t 51) },
    { dst := some 52, op := .ext 0 (.t 49) },
    { dst := some 53, op := .ext 1 (.t 49) },
    { dst := some 7, op := .mov (.t 52) },
    { dst := some 8, op := .mov (.t 53) }])
  (.keep [0, 1, 5, 7, 8] [17000, 17001, 17002, 52000, 52002, 100200, 18000000, 18000001, 53000001] ((.seq ((.seq (.reg false [
    { dst := some 54, op := .mov (.t 8) },
    { dst := some 55, op := .bin .neq (.t 54) (.c (.int .i64 0)) }])
  (.cond (.t 55) ((.seq (.reg false [
    { dst := some 4, op := .mov (.c (.bool false)) }])
  (.ret))) (.skip))))
  ((.seq ((.seq (.reg false [
    { dst := some 9, op := .mov (.c (.int .i64 0)) }])
  (.block 0 (.loop [0, 1, 5, 7, 9] [17000, 17001, 17002, 52000, 52002, 100200, 18000000, 18000001, 53000001] b6_0))))
  (.keep [] [] ((.seq (.reg false [
    { dst := some 94, op := .call 95000 11 [] },
    { dst := some 4, op := .mov (.t 94) }])
  (.ret))))))))))))))))))))))))))
/-- with its results -/
def a6 : AFun := ⟨c6, [(4, none)], 95⟩

def b7_0 : AC :=
  (.seq ((.seq (.reg false [
    { dst := some 95, op := .mov (.t 19) },
    { dst := some 96, op := .mov (.t 3) },
    { dst := some 97, op := .len (.t 96) },
    { dst := some 98, op := .bin .lss (.t 95) (.t 97) }])
  (.cond (.t 98) (.skip) (.exit 2))))
  (.keep [1, 2, 3, 4, 5, 13, 18, 19] [36000, 36001, 36002, 100400, 100600, 37000000, 37000001] ((.seq (.block 3 ((.seq (.reg false [
    { dst := some 101, op := .mov (.t 3) },
    { dst := some 102, op := .mov (.t 19) },
    { dst := some 103, op := .iad 4 (.t 101) (.t 102) },
    { dst := some 104, op := .load (some 4) (.t 103) },
    { dst := some 20, op := .alloc 20 z35 },
    { dst := none, op := .store 4 (.t 20) (.t 104) }])
  (.keep [1, 2, 3, 4, 5, 13, 18, 19, 20] [20, 36000, 36001, 36002, 100400, 100600, 37000000, 37000001] ((.seq (.reg false [
    { dst := some 105, op := .mov (.t 13) },
    { dst := some 106, op := .fad 1 (.t 20) },
    { dst := some 107, op := .load none (.t 106) },
    { dst := some 108, op := .fad 3 (.t 20) },
    { dst := some 109, op := .load none (.t 108) },
    { dst := some 110, op := .call 111000 17 [(.t 105), (.t 107), (.t 109)] },
    { dst := some 111, op := .bin .eql (.t 110) (.c (.int .i64 0)) }])
  (.cond (.t 111) (.reg false [
    { dst := some 112, op := .mov (.t 18) },
    { dst := some 113, op := .mov (.t 112) },
    { dst := some 114, op := .fad 1 (.t 20), guard := some (113, false) },
    { dst := some 115, op := .load none (.t 114), guard := some (113, false) },
    { dst := some 116, op := .mov (.t 1), guard := some (113, false) },
    { dst := some 117, op := .mov (.t 2), guard := some (113, false) },
    { dst := some 118, op := .len (.t 117), guard := some (113, false) },
    { dst := some 119, op := .bin .add (.t 116) (.t 118), guard := some (113, false) },
    { dst := some 120, op := .bin .lss (.t 115) (.t 119), guard := some (113, false) },
    { dst := some 121, op := .mov (.t 120), guard := some (113, false) },
    { dst := some 122, op := .fad 1 (.t 20), guard := some (121, true) },
    { dst := some 123, op := .load none (.t 122), guard := some (121, true) },
    { dst := some 124, op := .fad 3 (.t 20), guard := some (121, true) },
    { dst := some 125, op := .load none (.t 124), guard := some (121, true) },
    { dst := some 126, op := .len (.t 125), guard := some (121, true) },
    { dst := some 127, op := .bin .add (.t 123) (.t 126), guard := some (121, true) },
    { dst := some 128, op := .mov (.t 1), guard := some (121, true) },
    { dst := some 129, op := .bin .gtr (.t 127) (.t 128), guard := some (121, true) },
    { dst := some 130, op := .pick (.t 121) (.t 129) (.c (.bool false)), guard := some (113, false) },
    { dst := some 131, op := .pick (.t 113) (.c (.bool true)) (.t 130) },
    { dst := some 18, op := .mov (.t 131) }]) (.skip))))))))
  (.keep [1, 2, 3, 4, 5, 13, 18, 19] [36000, 36001, 36002, 100400, 100600, 37000000, 37000001] (.reg false [
    { dst := some 99, op := .mov (.t 19) },
    { dst := some 100, op := .bin .add (.t 99) (.c (.int .i64 1)) },
    { dst := some 19, op := .mov (.t 100) }]))))))
def b7_1 : AC :=
  (.seq ((.seq (.reg false [
    { dst := some 52, op := .mov (.t 17) },
    { dst := some 53, op := .mov (.t 0) },
    { dst := some 54, op := .len (.t 53) },
    { dst := some 55, op := .bin .lss (.t 52) (.t 54) }])
  (.cond (.t 55) (.skip) (.exit 0))))
  (.keep [0, 1, 2, 3, 4, 5, 13, 15, 17] [36000, 36001, 36002, 40000, 40002, 100000, 100400, 100600, 37000000, 37000001, 41000001] ((.seq (.block 1 (.reg false [
    { dst := some 58, op := .mov (.t 13) },
    { dst := some 59, op := .mov (.t 15) },
    { dst := some 60, op := .mov (.t 0) },
    { dst := some 61, op := .mov (.t 17) },
    { dst := some 62, op := .iad 4 (.t 60) (.t 61) },
    { dst := some 63, op := .load (some 4) (.t 62) },
    { dst := some 64, op := .call 65000 14 [(.t 58), (.t 59), (.t 63)] }]))
  (.keep [0, 1, 2, 3, 4, 5, 13, 15, 17] [36000, 36001, 36002, 40000, 40002, 100000, 100400, 100600, 37000000, 37000001, 41000001] (.reg false [
    { dst := some 56, op := .mov (.t 17) },
    { dst := some 57, op := .bin .add (.t 56) (.c (.int .i64 1)) },
    { dst := some 17, op := .mov (.t 57) }]))))))
/-- estreat/estreatlaw09.DiskSynced: parameters []estreatlaw09.Op int []uint8 []estreatlaw09.Op int int -/
def c7 : AC :=
  (.seq (.reg false [
    { dst := some 12, op := .mov (.c (.bool false)) }])
  ((.seq ((.seq (.reg false [
    { dst := some 23, op := .mov (.t 0) },
    { dst := some 24, op := .call 25000 10 [(.t 23)] },
    { dst := some 25, op := .mov (.t 24) },
    { dst := some 26, op := .mov (.t 3), guard := some (25, false) },
    { dst := some 27, op := .call 28000 10 [(.t 26)], guard := some (25, false) },
    { dst := some 28, op := .pick (.t 25) (.c (.bool true)) (.t 27) },
    { dst := some 29, op := .mov (.t 28) },
    { dst := some 30, op := .mov (.t 2), guard := some (29, false) },
    { dst := some 31, op := .len (.t 30), guard := some (29, false) },
    { dst := some 32, op := .bin .gtr (.t 31) (.c (.int .i64 100)), guard := some (29, false) },
    { dst := some 33, op := .pick (.t 29) (.c (.bool true)) (.t 32) }])
  (.cond (.t 33) ((.seq (.reg false [
    { dst := some 12, op := .mov (.c (.bool true)) }])
  (.ret))) (.skip))))
  (.keep [0, 1, 2, 3, 4, 5] [100000, 100400, 100600] ((.seq (.reg false [
    { dst := some 35, op := .call 36000 12 [(.c (.int .i64 64))] },
    { dst := some 34, op := .mov (.t 35) },
    { dst := some 36, op := .ext 0 (.t 34) },
    { dst := some 37, op := .ext 1 (.t 34) },
    { dst := some 13, op := .mov (.t 36) },
    { dst := some 14, op := .mov (.t 37) }])
  (.keep [0, 1, 2, 3, 4, 5, 13, 14] [36000, 36001, 36002, 100000, 100400, 100600, 37000000, 37000001] ((.seq (.reg false [
    { dst := some 39, op := .call 40000 13 [(.c (.int .i64 64))] },
    { dst := some 38, op := .mov (.t 39) },
    { dst := some 40, op := .ext 0 (.t 38) },
    { dst := some 41, op := .ext 1 (.t 38) },
    { dst := some 15, op := .mov (.t 40) },
    { dst := some 16, op := .mov (.t 41) }])
  (.keep [0, 1, 2, 3, 4, 5, 13, 14, 15, 16] [36000, 36001, 36002, 40000, 40002, 100000, 100400, 100600, 37000000, 37000001, 41000001] ((.seq ((.seq (.reg false [
    { dst := some 42, op := .mov (.t 13) },
    { dst := some 43, op := .isnil false 1 (.t 42) },
    { dst := some 44, op := .mov (.t 43) },
    { dst := some 45, op := .mov (.t 14), guard := some (44, false) },
    { dst := some 46, op := .bin .neq (.t 45) (.c (.int .i64 0)), guard := some (44, false) },
    { dst := some 47, op := .pick (.t 44) (.c (.bool true)) (.t 46) },
    { dst := some 48, op := .mov (.t 47) },
    { dst := some 49, op := .mov (.t 16), guard := some (48, false) },
    { dst := some 50, op := .bin .neq (.t 49) (.c (.int .i64 0)), guard := some (48, false) },
    { dst := some 51, op := .pick (.t 48) (.c (.bool true)) (.t 50) }])
  (.cond (.t 51) ((.seq (.reg false [
    { dst := some 12, op := .mov (.c (.bool false)) }])
  (.ret))) (.skip))))
  (.keep [0, 1, 2, 3, 4, 5, 13, 15] [36000, 36001, 36002, 40000, 40002, 100000, 100400, 100600, 37000000, 37000001, 41000001] ((.seq ((.seq (.reg false [
    { dst := some 17, op := .mov (.c (.int .i64 0)) }])
  (.block 0 (.loop [0, 1, 2, 3, 4, 5, 13, 15, 17] [36000, 36001, 36002, 40000, 40002, 100000, 100400, 100600, 37000000, 37000001, 41000001] b7_1))))
  (.keep [1, 2, 3, 4, 5, 13] [36000, 36001, 36002, 100400, 100600, 37000000, 37000001] ((.seq ((.seq (.reg false [
    { dst := some 65, op := .mov (.t 13) },
    { dst := some 66, op := .mov (.t 1) },
    { dst := some 67, op := .mov (.t 2) },
    { dst := some 68, op := .call 69000 17 [(.t 65), (.t 66), (.t 67)] },
    { dst := some 69, op := .bin .neq (.t 68) (.c (.int .i64 0)) },
    { dst := some 70, op := .mov (.t 69) },
    { dst := some 71, op := .mov (.t 13), guard := some (70, false) },
    { dst := some 72, op := .call 73000 18 [(.t 71)], guard := some (70, false) },
    { dst := some 73, op := .bin .neq (.t 72) (.c (.int .i64 0)), guard := some (70, false) },
    { dst := some 74, op := .pick (.t 70) (.c (.bool true)) (.t 73) }])
  (.cond (.t 74) ((.seq (.reg false [
    { dst := some 75, op := .call 76000 11 [] },
    { dst := some 76, op := .mov (.t 75) },
    { dst := some 77, op := .mov (.t 13), guard := some (76, true) },
    { dst := some 78, op := .call 79000 20 [(.t 77)], guard := some (76, true) },
    { dst := some 79, op := .mov (.t 78), guard := some (76, true) },
    { dst := some 80, op := .mov (.t 1), guard := some (79, false) },
    { dst := some 81, op := .bin .lss (.t 80) (.c (.int .i64 0)), guard := some (79, false) },
    { dst := some 82, op := .pick (.t 79) (.c (.bool true)) (.t 81), guard := some (76, true) },
    { dst := some 83, op := .mov (.t 82), guard := some (76, true) },
    { dst := some 84, op := .mov (.t 1), guard := some (83, false) },
    { dst := some 85, op := .bin .gtr (.t 84) (.c (.int .i64 64)), guard := some (83, false) },
    { dst := some 86, op := .pick (.t 83) (.c (.bool true)) (.t 85), guard := some (76, true) },
    { dst := some 87, op := .mov (.t 86), guard := some (76, true) },
    { dst := some 88, op := .mov (.t 2), guard := some (87, false) },
    { dst := some 89, op := .len (.t 88), guard := some (87, false) },
    { dst := some 90, op := .mov (.t 1), guard := some (87, false) },
    { dst := some 91, op := .bin .sub (.c (.int .i64 64)) (.t 90), guard := some (87, false) },
    { dst := some 92, op := .bin .gtr (.t 89) (.t 91), guard := some (87, false) },
    { dst := some 93, op := .pick (.t 87) (.c (.bool true)) (.t 92), guard := some (76, true) },
    { dst := some 94, op := .pick (.t 76) (.t 93) (.c (.bool false)) },
    { dst := some 12, op := .mov (.t 94) }])
  (.ret))) (.skip))))
  (.keep [1, 2, 3, 4, 5, 13] [36000, 36001, 36002, 100400, 100600, 37000000, 37000001] ((.seq (.reg false [
    { dst := some 18, op := .mov (.c (.bool false)) }])
  ((.seq ((.seq (.reg false [
    { dst := some 19, op := .mov (.c (.int .i64 0)) }])
  (.block 2 (.loop [1, 2, 3, 4, 5, 13, 18, 19] [36000, 36001, 36002, 100400, 100600, 37000000, 37000001] b7_0))))
  (.keep [1, 2, 4, 5, 13, 18] [36000, 36001, 36002, 100400, 37000000, 37000001] ((.seq (.reg false [
    { dst := some 132, op := .mov (.t 13) },
    { dst := some 133, op := .mov (.t 4) },
    { dst := some 134, op := .mov (.t 5) },
    { dst := some 135, op := .call 136000 15 [(.t 132), (.t 133), (.t 134)] }])
  (.keep [1, 2, 13, 18] [36000, 36001, 36002, 100400, 37000000, 37000001] ((.seq (.reg false [
    { dst := some 137, op := .mov (.t 13) },
    { dst := some 138, op := .mov (.t 1) },
    { dst := some 139, op := .mov (.t 2) },
    { dst := some 140, op := .len (.t 139) },
    { dst := some 141, op := .call 142000 16 [(.t 137), (.t 138), (.t 140)] },
    { dst := some 136, op := .mov (.t 141) },
    { dst := some 142, op := .ext 0 (.t 136) },
    { dst := some 143, op := .ext 1 (.t 136) },
    { dst := some 21, op := .mov (.t 142) },
    { dst := some 22, op := .mov (.t 143) }])
  (.keep [2, 13, 18, 21, 22] [36000, 36001, 36002, 100400, 142000, 37000000, 37000001] ((.seq (.reg false [
    { dst := some 144, op := .call 145000 11 [] },
    { dst := some 145, op := .mov (.t 144) },
    { dst := some 146, op := .mov (.t 22), guard := some (145, true) },
    { dst := some 147, op := .bin .eql (.t 146) (.c (.int .i64 0)), guard := some (145, true) },
    { dst := some 148, op := .pick (.t 145) (.t 147) (.c (.bool false)) },
    { dst := some 149, op := .mov (.t 148) },
    { dst := some 150, op := .mov (.t 18), guard := some (149, true) },
    { dst := some 151, op := .mov (.t 150), guard := some (149, true) },
    { dst := some 152, op := .mov (.t 21), guard := some (151, false) },
    { dst := some 153, op := .b2s (.t 152), guard := some (151, false) },
    { dst := some 154, op := .mov (.t 2), guard := some (151, false) },
    { dst := some 155, op := .b2s (.t 154), guard := some (151, false) },
    { dst := some 156, op := .bin .eql (.t 153) (.t 155), guard := some (151, false) },
    { dst := some 157, op := .pick (.t 151) (.c (.bool true)) (.t 156), guard := some (149, true) },
    { dst := some 158, op := .pick (.t 149) (.t 157) (.c (.bool false)) },
    { dst := some 159, op := .mov (.t 158) },
    { dst := some 160, op := .mov (.t 13), guard := some (159, true) },
    { dst := some 161, op := .call 162000 20 [(.t 160)], guard := some (159, true) },
    { dst := some 162, op := .un .not (.t 161), guard := some (159, true) },
    { dst := some 163, op := .pick (.t 159) (.t 162) (.c (.bool false)) },
    { dst := some 12, op := .mov (.t 163) }])
  (.ret)))))))))))))))))))))))))))))))))
/-- with its results -/
def a7 : AFun := ⟨c7, [(12, none)], 164⟩

def b8_0 : AC :=
  (.seq ((.seq (.reg false [
    { dst := some 42, op := .mov (.t 11) },
    { dst := some 43, op := .mov (.t 0) },
    { dst := some 44, op := .len (.t 43) },
    { dst := some 45, op := .bin .lss (.t 42) (.t 44) }])
  (.cond (.t 45) (.skip) (.exit 0))))
  (.keep [0, 1, 2, 7, 9, 11] [26000, 26001, 26002, 30000, 30002, 100000, 100400, 27000000, 27000001, 31000001] ((.seq (.block 1 (.reg false [
    { dst := some 48, op := .mov (.t 7) },
    { dst := some 49, op := .mov (.t 9) },
    { dst := some 50, op := .mov (.t 0) },
    { dst := some 51, op := .mov (.t 11) },
    { dst := some 52, op := .iad 4 (.t 50) (.t 51) },
    { dst := some 53, op := .load (some 4) (.t 52) },
    { dst := some 54, op := .call 55000 14 [(.t 48), (.t 49), (.t 53)] }]))
  (.keep [0, 1, 2, 7, 9, 11] [26000, 26001, 26002, 30000, 30002, 100000, 100400, 27000000, 27000001, 31000001] (.reg false [
    { dst := some 46, op := .mov (.t 11) },
    { dst := some 47, op := .bin .add (.t 46) (.c (.int .i64 1)) },
    { dst := some 11, op := .mov (.t 47) }]))))))
/-- estreat/estreatlaw09.DiskStops: parameters []estreatlaw09.Op int []uint8 -/
def c8 : AC :=
  (.seq (.reg false [
    { dst := some 6, op := .mov (.c (.bool false)) }])
  ((.seq ((.seq (.reg false [
    { dst := some 17, op := .mov (.t 0) },
    { dst := some 18, op := .call 19000 10 [(.t 17)] },
    { dst := some 19, op := .mov (.t 18) },
    { dst := some 20, op := .mov (.t 2), guard := some (19, false) },
    { dst := some 21, op := .len (.t 20), guard := some (19, false) },
    { dst := some 22, op := .bin .gtr (.t 21) (.c (.int .i64 300)), guard := some (19, false) },
    { dst := some 23, op := .pick (.t 19) (.c (.bool true)) (.t 22) }])
  (.cond (.t 23) ((.seq (.reg false [
    { dst := some 6, op := .mov (.c (.bool true)) }])
  (.ret))) (.skip))))
  (.keep [0, 1, 2] [100000, 100400] ((.seq (.reg false [
    { dst := some 25, op := .call 26000 12 [(.c (.int .i64 64))] },
    { dst := some 24, op := .mov (.t 25) },
    { dst := some 26, op := .ext 0 (.t 24) },
    { dst := some 27, op := .ext 1 (.t 24) },
    { dst := some 7, op := .mov (.t 26) },
    { dst := some 8, op := .mov (.t 27) }])
  (.keep [0, 1, 2, 7, 8] [26000, 26001, 26002, 100000, 100400, 27000000, 27000001] ((.seq (.reg false [
    { dst := some 29, op := .call 30000 13 [(.c (.int .i64 64))] },
    { dst := some 28, op := .mov (.t 29) },
    { dst := some 30, op := .ext 0 (.t 28) },
    { dst := some 31, op := .ext 1 (.t 28) },
    { dst := some 9, op := .mov (.t 30) },
    { dst := some 10, op := .mov (.t 31) }])
  (.keep [0, 1, 2, 7, 8, 9, 10] [26000, 26001, 26002, 30000, 30002, 100000, 100400, 27000000, 27000001, 31000001] ((.seq ((.seq (.reg false [
    { dst := some 32, op := .mov (.t 7) },
    { dst := some 33, op := .isnil false 1 (.t 32) },
    { dst := some 34, op := .mov (.t 33) },
    { dst := some 35, op := .mov (.t 8), guard := some (34, false) },
    { dst := some 36, op := .bin .neq (.t 35) (.c (.int .i64 0)), guard := some (34, false) },
    { dst := some 37, op := .pick (.t 34) (.c (.bool true)) (.t 36) },
    { dst := some 38, op := .mov (.t 37) },
    { dst := some 39, op := .mov (.t 10), guard := some (38, false) },
    { dst := some 40, op := .bin .neq (.t 39) (.c (.int .i64 0)), guard := some (38, false) },
    { dst := some 41, op := .pick (.t 38) (.c (.bool true)) (.t 40) }])
  (.cond (.t 41) ((.seq (.reg false [
    { dst := some 6, op := .mov (.c (.bool false)) }])
  (.ret))) (.skip))))
  (.keep [0, 1, 2, 7, 9] [26000, 26001, 26002, 30000, 30002, 100000, 100400, 27000000, 27000001, 31000001] ((.seq ((.seq (.reg false [
    { dst := some 11, op := .mov (.c (.int .i64 0)) }])
  (.block 0 (.loop [0, 1, 2, 7, 9, 11] [26000, 26001, 26002, 30000, 30002, 100000, 100400, 27000000, 27000001, 31000001] b8_0))))
  (.keep [1, 2, 7] [26000, 26001, 26002, 100400, 27000000, 27000001] ((.seq (.reg false [
    { dst := some 55, op := .mov (.t 7) },
    { dst := some 56, op := .call 57000 22 [(.t 55), (.c (.int .i64 0))] }])
  ((.seq (.reg false [
    { dst := some 58, op := .mov (.t 7) },
    { dst := some 59, op := .call 60000 16 [(.t 58), (.c (.int .i64 0)), (.c (.int .i64 64))] },
    { dst := some 57, op := .mov (.t 59) },
    { dst := some 60, op := .ext 0 (.t 57) },
    { dst := some 61, op := .ext 1 (.t 57) },
    { dst := some 12, op := .mov (.t 60) },
    { dst := some 13, op := .mov (.t 61) }])
  (.keep [1, 2, 7, 12, 13] [26000, 26001, 26002, 60000, 100400, 27000000, 27000001] ((.seq (.reg false [
    { dst := some 62, op := .mov (.t 7) },
    { dst := some 63, op := .mov (.t 1) },
    { dst := some 64, op := .mov (.t 2) },
    { dst := some 65, op := .call 66000 17 [(.t 62), (.t 63), (.t 64)] },
    { dst := some 66, op := .bin .eql (.t 65) (.c (.int .i64 80)) },
    { dst := some 67, op := .mov (.t 66) },
    { dst := some 68, op := .mov (.t 7), guard := some (67, true) },
    { dst := some 69, op := .call 70000 18 [(.t 68)], guard := some (67, true) },
    { dst := some 70, op := .bin .eql (.t 69) (.c (.int .i64 80)), guard := some (67, true) },
    { dst := some 71, op := .pick (.t 67) (.t 70) (.c (.bool false)) },
    { dst := some 72, op := .mov (.t 71) },
    { dst := some 73, op := .mov (.t 7), guard := some (72, true) },
    { dst := some 74, op := .call 75000 22 [(.t 73), (.c (.int .i64 5))], guard := some (72, true) },
    { dst := some 75, op := .bin .eql (.t 74) (.c (.int .i64 80)), guard := some (72, true) },
    { dst := some 76, op := .pick (.t 72) (.t 75) (.c (.bool false)) },
    { dst := some 77, op := .mov (.t 76) },
    { dst := some 78, op := .mov (.t 7), guard := some (77, true) },
    { dst := some 79, op := .call 80000 20 [(.t 78)], guard := some (77, true) },
    { dst := some 80, op := .pick (.t 77) (.t 79) (.c (.bool false)) },
    { dst := some 14, op := .mov (.t 80) }])
  (.keep [7, 12, 13, 14] [26000, 26001, 26002, 60000, 27000000, 27000001] ((.seq (.reg false [
    { dst := some 82, op := .mov (.t 7) },
    { dst := some 83, op := .call 84000 16 [(.t 82), (.c (.int .i64 0)), (.c (.int .i64 64))] },
    { dst := some 81, op := .mov (.t 83) },
    { dst := some 84, op := .ext 0 (.t 81) },
    { dst := some 85, op := .ext 1 (.t 81) },
    { dst := some 15, op := .mov (.t 84) },
    { dst := some 16, op := .mov (.t 85) }])
  (.keep [12, 13, 14, 15, 16] [60000, 84000] ((.seq (.reg false [
    { dst := some 86, op := .call 87000 11 [] },
    { dst := some 87, op := .mov (.t 86) },
    { dst := some 88, op := .mov (.t 14), guard := some (87, true) },
    { dst := some 89, op := .pick (.t 87) (.t 88) (.c (.bool false)) },
    { dst := some 90, op := .mov (.t 89) },
    { dst := some 91, op := .mov (.t 13), guard := some (90, true) },
    { dst := some 92, op := .bin .eql (.t 91) (.c (.int .i64 0)), guard := some (90, true) },
    { dst := some 93, op := .pick (.t 90) (.t 92) (.c (.bool false)) },
    { dst := some 94, op := .mov (.t 93) },
    { dst := some 95, op := .mov (.t 16), guard := some (94, true) },
    { dst := some 96, op := .bin .eql (.t 95) (.c (.int .i64 0)), guard := some (94, true) },
    { dst := some 97, op := .pick (.t 94) (.t 96) (.c (.bool false)) },
    { dst := some 98, op := .mov (.t 97) },
    { dst := some 99, op := .mov (.t 12), guard := some (98, true) },
    { dst := some 100, op := .b2s (.t 99), guard := some (98, true) },
    { dst := some 101, op := .mov (.t 15), guard := some (98, true) },
    { dst := some 102, op := .b2s (.t 101), guard := some (98, true) },
    { dst := some 103, op := .bin .eql (.t 100) (.t 102), guard := some (98, true) },
    { dst := some 104, op := .pick (.t 98) (.t 103) (.c (.bool false)) },
    { dst := some 6, op := .mov (.t 104) }])
  (.ret))))))))))))))))))))))))))))))
/-- with its results -/
def a8 : AFun := ⟨c8, [(6, none)], 105⟩

/-- estreat/estreatlaw09.DiskNil: parameters estreatlaw09.Op -/
def c9 : AC :=
  (.seq (.reg false [
    { dst := some 1, op := .box 1 (.t 0) },
    { dst := some 2, op := .mov (.c (.bool false)) }])
  ((.seq ((.seq (.reg false [
    { dst := some 6, op := .load (some 4) (.t 1) },
    { dst := some 7, op := .bslice 7 4 z35 1 [(0, (.t 6))] },
    { dst := some 8, op := .call 9000 10 [(.t 7)] }])
  (.cond (.t 8) ((.seq (.reg false [
    { dst := some 2, op := .mov (.c (.bool true)) }])
  (.ret))) (.skip))))
  (.keep [1] [1, 100003] ((.seq (.reg false [
    { dst := some 3, op := .mov (.c .nilP) }])
  ((.seq (.reg false [
    { dst := some 10, op := .mov (.t 3) },
    { dst := some 11, op := .fad 1 (.t 1) },
    { dst := some 12, op := .load none (.t 11) },
    { dst := some 13, op := .fad 2 (.t 1) },
    { dst := some 14, op := .load none (.t 13) },
    { dst := some 15, op := .call 16000 16 [(.t 10), (.t 12), (.t 14)] },
    { dst := some 9, op := .mov (.t 15) },
    { dst := some 16, op := .ext 0 (.t 9) },
    { dst := some 17, op := .ext 1 (.t 9) },
    { dst := some 4, op := .mov (.t 16) },
    { dst := some 5, op := .mov (.t 17) }])
  (.keep [1, 3, 4, 5] [1, 16000, 100003] ((.seq (.reg false [
    { dst := some 18, op := .call 19000 11 [] },
    { dst := some 19, op := .mov (.t 18) },
    { dst := some 20, op := .mov (.t 4), guard := some (19, true) },
    { dst := some 21, op := .len (.t 20), guard := some (19, true) },
    { dst := some 22, op := .bin .eql (.t 21) (.c (.int .i64 0)), guard := some (19, true) },
    { dst := some 23, op := .pick (.t 19) (.t 22) (.c (.bool false)) },
    { dst := some 24, op := .mov (.t 23) },
    { dst := some 25, op := .mov (.t 5), guard := some (24, true) },
    { dst := some 26, op := .bin .eql (.t 25) (.c (.int .i64 3)), guard := some (24, true) },
    { dst := some 27, op := .pick (.t 24) (.t 26) (.c (.bool false)) },
    { dst := some 28, op := .mov (.t 27) },
    { dst := some 29, op := .mov (.t 3), guard := some (28, true) },
    { dst := some 30, op := .fad 1 (.t 1), guard := some (28, true) },
    { dst := some 31, op := .load none (.t 30), guard := some (28, true) },
    { dst := some 32, op := .fad 3 (.t 1), guard := some (28, true) },
    { dst := some 33, op := .load none (.t 32), guard := some (28, true) },
    { dst := some 34, op := .call 35000 17 [(.t 29), (.t 31), (.t 33)], guard := some (28, true) },
    { dst := some 35, op := .bin .eql (.t 34) (.c (.int .i64 3)), guard := some (28, true) },
    { dst := some 36, op := .pick (.t 28) (.t 35) (.c (.bool false)) },
    { dst := some 37, op := .mov (.t 36) },
    { dst := some 38, op := .mov (.t 3), guard := some (37, true) },
    { dst := some 39, op := .call 40000 18 [(.t 38)], guard := some (37, true) },
    { dst := some 40, op := .bin .eql (.t 39) (.c (.int .i64 3)), guard := some (37, true) },
    { dst := some 41, op := .pick (.t 37) (.t 40) (.c (.bool false)) },
    { dst := some 42, op := .mov (.t 41) },
    { dst := some 43, op := .mov (.t 3), guard := some (42, true) },
    { dst := some 44, op := .fad 2 (.t 1), guard := some (42, true) },
    { dst := some 45, op := .load none (.t 44), guard := some (42, true) },
    { dst := some 46, op := .call 47000 22 [(.t 43), (.t 45)], guard := some (42, true) },
    { dst := some 47, op := .bin .eql (.t 46) (.c (.int .i64 3)), guard := some (42, true) },
    { dst := some 48, op := .pick (.t 42) (.t 47) (.c (.bool false)) },
    { dst := some 49, op := .mov (.t 48) },
    { dst := some 50, op := .mov (.t 3), guard := some (49, true) },
    { dst := some 51, op := .fad 1 (.t 1), guard := some (49, true) },
    { dst := some 52, op := .load none (.t 51), guard := some (49, true) },
    { dst := some 53, op := .fad 2 (.t 1), guard := some (49, true) },
    { dst := some 54, op := .load none (.t 53), guard := some (49, true) },
    { dst := some 55, op := .call 56000 15 [(.t 50), (.t 52), (.t 54)], guard := some (49, true) },
    { dst := some 56, op := .bin .eql (.t 55) (.c (.int .i64 3)), guard := some (49, true) },
    { dst := some 57, op := .pick (.t 49) (.t 56) (.c (.bool false)) },
    { dst := some 58, op := .mov (.t 57) },
    { dst := some 59, op := .mov (.t 3), guard := some (58, true) },
    { dst := some 60, op := .call 61000 19 [(.t 59)], guard := some (58, true) },
    { dst := some 61, op := .bin .eql (.t 60) (.c (.int .i64 0)), guard := some (58, true) },
    { dst := some 62, op := .pick (.t 58) (.t 61) (.c (.bool false)) },
    { dst := some 63, op := .mov (.t 62) },
    { dst := some 64, op := .mov (.t 3), guard := some (63, true) },
    { dst := some 65, op := .call 66000 20 [(.t 64)], guard := some (63, true) },
    { dst := some 66, op := .un .not (.t 65), guard := some (63, true) },
    { dst := some 67, op := .pick (.t 63) (.t 66) (.c (.bool false)) },
    { dst := some 2, op := .mov (.t 67) }])
  (.ret))))))))))))
/-- with its results -/
def a9 : AFun := ⟨c9, [(2, none)], 68⟩

def b10_0 : AC :=
  (.seq ((.seq (.reg false [
    { dst := some 7, op := .mov (.t 3) },
    { dst := some 8, op := .mov (.t 0) },
    { dst := some 9, op := .len (.t 8) },
    { dst := some 10, op := .bin .lss (.t 7) (.t 9) }])
  (.cond (.t 10) (.skip) (.exit 0))))
  (.keep [0, 3] [100000] ((.seq (.block 1 ((.seq (.reg false [
    { dst := some 13, op := .mov (.t 0) },
    { dst := some 14, op := .mov (.t 3) },
    { dst := some 15, op := .iad 4 (.t 13) (.t 14) },
    { dst := some 16, op := .fad 3 (.t 15) },
    { dst := some 17, op := .load none (.t 16) },
    { dst := some 18, op := .len (.t 17) },
    { dst := some 19, op := .bin .gtr (.t 18) (.c (.int .i64 300)) }])
  (.cond (.t 19) ((.seq (.reg false [
    { dst := some 2, op := .mov (.c (.bool true)) }])
  (.ret))) (.skip)))))
  (.keep [0, 3] [100000] (.reg false [
    { dst := some 11, op := .mov (.t 3) },
    { dst := some 12, op := .bin .add (.t 11) (.c (.int .i64 1)) },
    { dst := some 3, op := .mov (.t 12) }]))))))
/-- estreat/estreatlaw09.large: parameters []estreatlaw09.Op -/
def c10 : AC :=
  (.seq (.reg false [
    { dst := some 2, op := .mov (.c (.bool false)) }])
  ((.seq ((.seq (.reg false [
    { dst := some 4, op := .mov (.t 0) },
    { dst := some 5, op := .len (.t 4) },
    { dst := some 6, op := .bin .gtr (.t 5) (.c (.int .i64 60)) }])
  (.cond (.t 6) ((.seq (.reg false [
    { dst := some 2, op := .mov (.c (.bool true)) }])
  (.ret))) (.skip))))
  (.keep [0] [100000] ((.seq ((.seq (.reg false [
    { dst := some 3, op := .mov (.c (.int .i64 0)) }])
  (.block 0 (.loop [0, 3] [100000] b10_0))))
  (.keep [] [] ((.seq (.reg false [
    { dst := some 2, op := .mov (.c (.bool false)) }])
  (.ret))))))))))
/-- with its results -/
def a10 : AFun := ⟨c10, [(2, none)], 20⟩

/-- estreat/estreatlaw09.awake: parameters  -/
def c11 : AC :=
  (.seq (.reg false [
    { dst := some 0, op := .mov (.c (.bool false)) }])
  ((.seq (.reg false [
    { dst := some 10, op := .call 11000 12 [(.c (.int .i64 8))] },
    { dst := some 9, op := .mov (.t 10) },
    { dst := some 11, op := .ext 0 (.t 9) },
    { dst := some 12, op := .ext 1 (.t 9) },
    { dst := some 1, op := .mov (.t 11) },
    { dst := some 2, op := .mov (.t 12) }])
  (.keep [1, 2] [11000, 11001, 11002, 12000000, 12000001] ((.seq (.reg false [
    { dst := some 14, op := .call 15000 12 [(.c (.int .i64 0))] },
    { dst := some 13, op := .mov (.t 14) },
    { dst := some 15, op := .ext 0 (.t 13) },
    { dst := some 16, op := .ext 1 (.t 13) },
    { dst := some 3, op := .mov (.t 15) },
    { dst := some 4, op := .mov (.t 16) }])
  (.keep [1, 2, 4] [11000, 11001, 11002, 12000000, 12000001] ((.seq ((.seq (.reg false [
    { dst := some 17, op := .mov (.t 1) },
    { dst := some 18, op := .isnil false 1 (.t 17) },
    { dst := some 19, op := .mov (.t 18) },
    { dst := some 20, op := .mov (.t 2), guard := some (19, false) },
    { dst := some 21, op := .bin .neq (.t 20) (.c (.int .i64 0)), guard := some (19, false) },
    { dst := some 22, op := .pick (.t 19) (.c (.bool true)) (.t 21) },
    { dst := some 23, op := .mov (.t 22) },
    { dst := some 24, op := .mov (.t 4), guard := some (23, false) },
    { dst := some 25, op := .bin .neq (.t 24) (.c (.int .i64 1)), guard := some (23, false) },
    { dst := some 26, op := .pick (.t 23) (.c (.bool true)) (.t 25) }])
  (.cond (.t 26) ((.seq (.reg false [
    { dst := some 0, op := .mov (.c (.bool false)) }])
  (.ret))) (.skip))))
  (.keep [1] [11000, 11001, 11002, 12000000, 12000001] ((.seq (.reg false [
    { dst := some 27, op := .mov (.t 1) },
    { dst := some 28, op := .bslice 28 1 [(.int .u8 0)] 2 [(0, (.c (.int .u8 97))), (1, (.c (.int .u8 98)))] },
    { dst := some 29, op := .idc (.t 28) },
    { dst := some 30, op := .call 31000 17 [(.t 27), (.c (.int .i64 0)), (.t 29)] }])
  (.keep [1] [11000, 11001, 11002, 12000000, 12000001] ((.seq (.reg false [
    { dst := some 31, op := .mov (.t 1) },
    { dst := some 32, op := .call 33000 18 [(.t 31)] }])
  ((.seq (.reg false [
    { dst := some 33, op := .mov (.t 1) },
    { dst := some 34, op := .bslice 34 1 [(.int .u8 0)] 2 [(0, (.c (.int .u8 120))), (1, (.c (.int .u8 121)))] },
    { dst := some 35, op := .idc (.t 34) },
    { dst := some 36, op := .call 37000 17 [(.t 33), (.c (.int .i64 1)), (.t 35)] }])
  (.keep [1] [11000, 11001, 11002, 12000000, 12000001] ((.seq (.reg false [
    { dst := some 37, op := .mov (.t 1) },
    { dst := some 38, op := .bslice 38 1 [(.int .u8 0)] 1 [(0, (.c (.int .u8 122)))] },
    { dst := some 39, op := .idc (.t 38) },
    { dst := some 40, op := .call 41000 17 [(.t 37), (.c (.int .i64 4)), (.t 39)] }])
  (.keep [1] [11000, 11001, 11002, 12000000, 12000001] ((.seq (.reg false [
    { dst := some 41, op := .mov (.t 1) },
    { dst := some 42, op := .call 43000 15 [(.t 41), (.c (.int .i64 1)), (.c (.int .i64 0))] }])
  ((.seq (.reg false [
    { dst := some 44, op := .mov (.t 1) },
    { dst := some 45, op := .call 46000 16 [(.t 44), (.c (.int .i64 0)), (.c (.int .i64 8))] },
    { dst := some 43, op := .mov (.t 45) },
    { dst := some 46, op := .ext 0 (.t 43) },
    { dst := some 47, op := .ext 1 (.t 43) },
    { dst := some 5, op := .mov (.t 46) },
    { dst := some 6, op := .mov (.t 47) }])
  (.keep [1, 5, 6] [11000, 11001, 11002, 46000, 12000000, 12000001] ((.seq (.reg false [
    { dst := some 48, op := .mov (.t 1) },
    { dst := some 49, op := .bslice 49 1 [(.int .u8 0)] 3 [(0, (.c (.int .u8 112))), (1, (.c (.int .u8 113))), (2, (.c (.int .u8 114)))] },
    { dst := some 50, op := .idc (.t 49) },
    { dst := some 51, op := .call 52000 17 [(.t 48), (.c (.int .i64 0)), (.t 50)] }])
  (.keep [1, 5, 6] [11000, 11001, 11002, 46000, 12000000, 12000001] ((.seq (.reg false [
    { dst := some 52, op := .mov (.t 1) },
    { dst := some 53, op := .call 54000 15 [(.t 52), (.c (.int .i64 0)), (.c (.int .i64 2))] }])
  ((.seq (.reg false [
    { dst := some 55, op := .mov (.t 1) },
    { dst := some 56, op := .call 57000 16 [(.t 55), (.c (.int .i64 0)), (.c (.int .i64 8))] },
    { dst := some 54, op := .mov (.t 56) },
    { dst := some 57, op := .ext 0 (.t 54) },
    { dst := some 58, op := .ext 1 (.t 54) },
    { dst := some 7, op := .mov (.t 57) },
    { dst := some 8, op := .mov (.t 58) }])
  (.keep [1, 5, 6, 7, 8] [11000, 11001, 11002, 46000, 57000, 12000000, 12000001] ((.seq (.reg false [
    { dst := some 59, op := .mov (.t 6) },
    { dst := some 60, op := .bin .eql (.t 59) (.c (.int .i64 0)) },
    { dst := some 61, op := .mov (.t 60) },
    { dst := some 62, op := .mov (.t 5), guard := some (61, true) },
    { dst := some 63, op := .b2s (.t 62), guard := some (61, true) },
    { dst := some 64, op := .bin .eql (.t 63) (.c (.str ⟨#[97, 120, 121, 0, 0, 0, 0, 0]⟩)), guard := some (61, true) },
    { dst := some 65, op := .pick (.t 61) (.t 64) (.c (.bool false)) },
    { dst := some 66, op := .mov (.t 65) },
    { dst := some 67, op := .mov (.t 8), guard := some (66, true) },
    { dst := some 68, op := .bin .eql (.t 67) (.c (.int .i64 0)), guard := some (66, true) },
    { dst := some 69, op := .pick (.t 66) (.t 68) (.c (.bool false)) },
    { dst := some 70, op := .mov (.t 69) },
    { dst := some 71, op := .mov (.t 7), guard := some (70, true) },
    { dst := some 72, op := .b2s (.t 71), guard := some (70, true) },
    { dst := some 73, op := .bin .eql (.t 72) (.c (.str ⟨#[112, 113, 121, 0, 0, 0, 0, 0]⟩)), guard := some (70, true) },
    { dst := some 74, op := .pick (.t 70) (.t 73) (.c (.bool false)) },
    { dst := some 75, op := .mov (.t 74) },
    { dst := some 76, op := .mov (.t 1), guard := some (75, true) },
    { dst := some 77, op := .bslice 77 1 [(.int .u8 0)] 2 [(0, (.c (.int .u8 97))), (1, (.c (.int .u8 98)))], guard := some (75, true) },
    { dst := some 78, op := .idc (.t 77), guard := some (75, true) },
    { dst := some 79, op := .call 80000 17 [(.t 76), (.c (.int .i64 7)), (.t 78)], guard := some (75, true) },
    { dst := some 80, op := .bin .eql (.t 79) (.c (.int .i64 81)), guard := some (75, true) },
    { dst := some 81, op := .pick (.t 75) (.t 80) (.c (.bool false)) },
    { dst := some 82, op := .mov (.t 81) },
    { dst := some 83, op := .mov (.t 1), guard := some (82, true) },
    { dst := some 84, op := .call 85000 19 [(.t 83)], guard := some (82, true) },
    { dst := some 85, op := .bin .eql (.t 84) (.c (.int .i64 8)), guard := some (82, true) },
    { dst := some 86, op := .pick (.t 82) (.t 85) (.c (.bool false)) },
    { dst := some 0, op := .mov (.t 86) }])
  (.ret)))))))))))))))))))))))))))))))))))))
/-- with its results -/
def a11 : AFun := ⟨c11, [(0, none)], 87⟩

/-- estreat/disk.New: parameters int -/
def c12 : AC :=
  (.seq (.reg false [
    { dst := some 2, op := .mov (.c .nilP) },
    { dst := some 3, op := .mov (.c (.int .i64 0)) }])
  ((.seq ((.seq (.reg false [
    { dst := some 4, op := .mov (.t 0) },
    { dst := some 5, op := .bin .lss (.t 4) (.c (.int .i64 1)) },
    { dst := some 6, op := .mov (.t 5) },
    { dst := some 7, op := .mov (.t 0), guard := some (6, false) },
    { dst := some 8, op := .bin .gtr (.t 7) (.c (.int .i64 1000000)), guard := some (6, false) },
    { dst := some 9, op := .pick (.t 6) (.c (.bool true)) (.t 8) }])
  (.cond (.t 9) ((.seq (.reg false [
    { dst := some 2, op := .mov (.c .nilP) },
    { dst := some 3, op := .mov (.c (.int .i64 1)) }])
  (.ret))) (.skip))))
  (.keep [0] [] ((.seq (.reg false [
    { dst := some 10, op := .mov (.t 0) },
    { dst := some 11, op := .mks 11 1 1 [(.int .u8 0)] (.t 10) (.t 10) },
    { dst := some 12, op := .build z55 [(0, 1, (.t 11))] },
    { dst := some 13, op := .box 13 (.t 12) },
    { dst := some 2, op := .mov (.t 13) },
    { dst := some 3, op := .mov (.c (.int .i64 0)) }])
  (.ret)))))))
/-- with its results -/
def a12 : AFun := ⟨c12, [(2, none), (3, none)], 14⟩

/-- estreat/estreatref09.New: parameters int -/
def c13 : AC :=
  (.seq (.reg false [
    { dst := some 2, op := .mov (.c .nilP) },
    { dst := some 3, op := .mov (.c (.int .i64 0)) }])
  ((.seq ((.seq (.reg false [
    { dst := some 4, op := .mov (.t 0) },
    { dst := some 5, op := .bin .lss (.t 4) (.c (.int .i64 1)) },
    { dst := some 6, op := .mov (.t 5) },
    { dst := some 7, op := .mov (.t 0), guard := some (6, false) },
    { dst := some 8, op := .bin .gtr (.t 7) (.c (.int .i64 1000000)), guard := some (6, false) },
    { dst := some 9, op := .pick (.t 6) (.c (.bool true)) (.t 8) }])
  (.cond (.t 9) ((.seq (.reg false [
    { dst := some 2, op := .mov (.c .nilP) },
    { dst := some 3, op := .mov (.c (.int .i64 1)) }])
  (.ret))) (.skip))))
  (.keep [0] [] ((.seq (.reg false [
    { dst := some 10, op := .mov (.t 0) },
    { dst := some 11, op := .mks 11 1 1 [(.int .u8 0)] (.t 10) (.t 10) },
    { dst := some 12, op := .b2s (.t 11) },
    { dst := some 13, op := .build z47 [(0, 1, (.t 12))] },
    { dst := some 14, op := .box 14 (.t 13) },
    { dst := some 2, op := .mov (.t 14) },
    { dst := some 3, op := .mov (.c (.int .i64 0)) }])
  (.ret)))))))
/-- with its results -/
def a13 : AFun := ⟨c13, [(2, none), (3, none)], 15⟩

def b14_0 : AC :=
  (.seq ((.seq (.reg false [
    { dst := some 33, op := .mov (.t 10) },
    { dst := some 34, op := .mov (.t 7) },
    { dst := some 35, op := .len (.t 34) },
    { dst := some 36, op := .bin .lss (.t 33) (.t 35) }])
  (.cond (.t 36) (.skip) (.exit 1))))
  (.keep [1, 5, 7, 8, 9, 10] [5, 100000, 100001, 100002, 100200, 100202, 100403, 3230007, 3230013, 3230014, 3230017, 101000000, 101000001, 101200001] ((.seq (.block 2 (.reg false [
    { dst := some 39, op := .mov (.t 7) },
    { dst := some 40, op := .mov (.t 10) },
    { dst := some 41, op := .iad 1 (.t 39) (.t 40) },
    { dst := none, op := .store 1 (.t 41) (.c (.int .u8 85)) }]))
  (.keep [1, 5, 7, 8, 9, 10] [5, 100000, 100001, 100002, 100200, 100202, 100403, 3230007, 3230013, 3230014, 3230017, 101000000, 101000001, 101200001] (.reg false [
    { dst := some 37, op := .mov (.t 10) },
    { dst := some 38, op := .bin .add (.t 37) (.c (.int .i64 1)) },
    { dst := some 10, op := .mov (.t 38) }]))))))
def b14_1 : AC :=
  (.seq ((.seq (.reg false [
    { dst := some 89, op := .mov (.t 16) },
    { dst := some 90, op := .mov (.t 11) },
    { dst := some 91, op := .len (.t 90) },
    { dst := some 92, op := .bin .lss (.t 89) (.t 91) }])
  (.cond (.t 92) (.skip) (.exit 3))))
  (.keep [11, 15, 16] [69000, 100000, 100001, 100002, 100200, 100202, 101000000, 101000001, 101200001] ((.seq (.block 4 (.reg false [
    { dst := some 95, op := .mov (.t 11) },
    { dst := some 96, op := .mov (.t 16) },
    { dst := some 97, op := .iad 1 (.t 95) (.t 96) },
    { dst := none, op := .store 1 (.t 97) (.c (.int .u8 85)) }]))
  (.keep [11, 15, 16] [69000, 100000, 100001, 100002, 100200, 100202, 101000000, 101000001, 101200001] (.reg false [
    { dst := some 93, op := .mov (.t 16) },
    { dst := some 94, op := .bin .add (.t 93) (.c (.int .i64 1)) },
    { dst := some 16, op := .mov (.t 94) }]))))))
/-- estreat/estreatlaw09.call: parameters *disk.Disk *estreatref09.Disk estreatlaw09.Op -/
def c14 : AC :=
  (.seq (.reg false [
    { dst := some 5, op := .box 5 (.t 2) },
    { dst := some 6, op := .mov (.c (.bool false)) }])
  ((.seq ((.seq (.reg false [
    { dst := some 17, op := .fad 0 (.t 5) },
    { dst := some 18, op := .load none (.t 17) }])
  (.block 0 ((.seq (.reg false [
    { dst := some 20, op := .bin .eql (.t 18) (.c (.int .i64 1)) },
    { dst := some 19, op := .mov (.t 20) }])
  (.cond (.t 19) ((.seq (.reg false [
    { dst := some 21, op := .fad 3 (.t 5) },
    { dst := some 22, op := .load none (.t 21) },
    { dst := some 23, op := .inl 23 [(.t 22)] },
    { dst := some 7, op := .mov (.t 23) }])
  (.keep [0, 1, 5, 7] [5, 100000, 100001, 100002, 100200, 100202, 100403, 3230007, 3230013, 3230014, 3230017, 101000000, 101000001, 101200001] ((.seq (.reg false [
    { dst := some 24, op := .mov (.t 0) },
    { dst := some 25, op := .fad 1 (.t 5) },
    { dst := some 26, op := .load none (.t 25) },
    { dst := some 27, op := .mov (.t 7) },
    { dst := some 28, op := .call 29000 17 [(.t 24), (.t 26), (.t 27)] },
    { dst := some 8, op := .mov (.t 28) }])
  (.keep [1, 5, 7, 8] [5, 100000, 100001, 100002, 100200, 100202, 100403, 3230007, 3230013, 3230014, 3230017, 101000000, 101000001, 101200001] ((.seq (.reg false [
    { dst := some 29, op := .mov (.t 7) },
    { dst := some 30, op := .fad 3 (.t 5) },
    { dst := some 31, op := .load none (.t 30) },
    { dst := some 32, op := .inl 24 [(.t 29), (.t 31)] },
    { dst := some 9, op := .mov (.t 32) }])
  (.keep [1, 5, 7, 8, 9] [5, 100000, 100001, 100002, 100200, 100202, 100403, 3230007, 3230013, 3230014, 3230017, 101000000, 101000001, 101200001] ((.seq ((.seq (.reg false [
    { dst := some 10, op := .mov (.c (.int .i64 0)) }])
  (.block 1 (.loop [1, 5, 7, 8, 9, 10] [5, 100000, 100001, 100002, 100200, 100202, 100403, 3230007, 3230013, 3230014, 3230017, 101000000, 101000001, 101200001] b14_0))))
  (.keep [1, 5, 8, 9] [5, 100000, 100001, 100002, 100200, 100202, 100403, 101000000, 101000001, 101200001] ((.seq (.reg false [
    { dst := some 42, op := .mov (.t 9) },
    { dst := some 43, op := .mov (.t 42) },
    { dst := some 44, op := .mov (.t 8), guard := some (43, true) },
    { dst := some 45, op := .mov (.t 1), guard := some (43, true) },
    { dst := some 46, op := .fad 1 (.t 5), guard := some (43, true) },
    { dst := some 47, op := .load none (.t 46), guard := some (43, true) },
    { dst := some 48, op := .fad 3 (.t 5), guard := some (43, true) },
    { dst := some 49, op := .load none (.t 48), guard := some (43, true) },
    { dst := some 50, op := .call 51000 25 [(.t 45), (.t 47), (.t 49)], guard := some (43, true) },
    { dst := some 51, op := .bin .eql (.t 44) (.t 50), guard := some (43, true) },
    { dst := some 52, op := .pick (.t 43) (.t 51) (.c (.bool false)) },
    { dst := some 6, op := .mov (.t 52) }])
  (.ret))))))))))))))) ((.seq (.reg false [
    { dst := some 54, op := .bin .eql (.t 18) (.c (.int .i64 2)) },
    { dst := some 53, op := .mov (.t 54) }])
  (.cond (.t 53) ((.seq (.reg false [
    { dst := some 55, op := .mov (.t 0) },
    { dst := some 56, op := .call 57000 18 [(.t 55)] },
    { dst := some 57, op := .mov (.t 1) },
    { dst := some 58, op := .call 59000 26 [(.t 57)] },
    { dst := some 59, op := .bin .eql (.t 56) (.t 58) },
    { dst := some 6, op := .mov (.t 59) }])
  (.ret))) ((.seq (.reg false [
    { dst := some 61, op := .bin .eql (.t 18) (.c (.int .i64 3)) },
    { dst := some 60, op := .mov (.t 61) }])
  (.cond (.t 60) ((.seq (.reg false [
    { dst := some 63, op := .mov (.t 0) },
    { dst := some 64, op := .fad 1 (.t 5) },
    { dst := some 65, op := .load none (.t 64) },
    { dst := some 66, op := .fad 2 (.t 5) },
    { dst := some 67, op := .load none (.t 66) },
    { dst := some 68, op := .call 69000 16 [(.t 63), (.t 65), (.t 67)] },
    { dst := some 62, op := .mov (.t 68) },
    { dst := some 69, op := .ext 0 (.t 62) },
    { dst := some 70, op := .ext 1 (.t 62) },
    { dst := some 11, op := .mov (.t 69) },
    { dst := some 12, op := .mov (.t 70) }])
  (.keep [1, 5, 11, 12] [5, 69000, 100000, 100001, 100002, 100200, 100202, 100403, 101000000, 101000001, 101200001] ((.seq (.reg false [
    { dst := some 72, op := .mov (.t 1) },
    { dst := some 73, op := .fad 1 (.t 5) },
    { dst := some 74, op := .load none (.t 73) },
    { dst := some 75, op := .fad 2 (.t 5) },
    { dst := some 76, op := .load none (.t 75) },
    { dst := some 77, op := .call 78000 27 [(.t 72), (.t 74), (.t 76)] },
    { dst := some 71, op := .mov (.t 77) },
    { dst := some 78, op := .ext 0 (.t 71) },
    { dst := some 79, op := .ext 1 (.t 71) },
    { dst := some 13, op := .mov (.t 78) },
    { dst := some 14, op := .mov (.t 79) }])
  (.keep [11, 12, 13, 14] [69000, 100000, 100001, 100002, 100200, 100202, 101000000, 101000001, 101200001] ((.seq (.reg false [
    { dst := some 80, op := .mov (.t 11) },
    { dst := some 81, op := .b2s (.t 80) },
    { dst := some 82, op := .mov (.t 13) },
    { dst := some 83, op := .bin .eql (.t 81) (.t 82) },
    { dst := some 84, op := .mov (.t 83) },
    { dst := some 85, op := .mov (.t 12), guard := some (84, true) },
    { dst := some 86, op := .mov (.t 14), guard := some (84, true) },
    { dst := some 87, op := .bin .eql (.t 85) (.t 86), guard := some (84, true) },
    { dst := some 88, op := .pick (.t 84) (.t 87) (.c (.bool false)) },
    { dst := some 15, op := .mov (.t 88) }])
  (.keep [11, 15] [69000, 100000, 100001, 100002, 100200, 100202, 101000000, 101000001, 101200001] ((.seq ((.seq (.reg false [
    { dst := some 16, op := .mov (.c (.int .i64 0)) }])
  (.block 3 (.loop [11, 15, 16] [69000, 100000, 100001, 100002, 100200, 100202, 101000000, 101000001, 101200001] b14_1))))
  (.keep [15] [100000, 100001, 100002, 100200, 100202, 101000000, 101000001, 101200001] ((.seq (.reg false [
    { dst := some 98, op := .mov (.t 15) },
    { dst := some 6, op := .mov (.t 98) }])
  (.ret))))))))))))))) ((.seq (.reg false [
    { dst := some 100, op := .bin .eql (.t 18) (.c (.int .i64 4)) },
    { dst := some 99, op := .mov (.t 100) }])
  (.cond (.t 99) ((.seq (.reg true [
    { dst := some 101, op := .mov (.t 0), rs := [0], mn := [100000] },
    { dst := some 102, op := .fad 2 (.t 5), rs := [5], mn := [5] },
    { dst := some 103, op := .load none (.t 102), rs := [102], tn := [5], an := [1] },
    { dst := some 104, op := .call 105000 22 [(.t 101), (.t 103)], rs := [101, 103], tn := [100000, 100001, 100002, 101000000, 101000001], wn := [100000, 100001, 100002, 101000000, 101000001], an := [0, 2] },
    { dst := some 105, op := .mov (.t 1), rs := [1], mn := [100200] },
    { dst := some 106, op := .fad 2 (.t 5), rs := [5], mn := [5] },
    { dst := some 107, op := .load none (.t 106), rs := [106], tn := [5], an := [5] },
    { dst := some 108, op := .call 109000 28 [(.t 105), (.t 107)], rs := [105, 107], tn := [100200, 100202, 101200000, 101200001], wn := [100200, 100202, 101200000, 101200001], an := [4, 6] },
    { dst := some 109, op := .bin .eql (.t 104) (.t 108), rs := [104, 108], an := [3, 7] },
    { dst := some 6, op := .mov (.t 109), rs := [109], an := [8] }])
  (.ret))) ((.seq (.reg false [
    { dst := some 111, op := .bin .eql (.t 18) (.c (.int .i64 5)) },
    { dst := some 110, op := .mov (.t 111) }])
  (.cond (.t 110) ((.seq (.reg false [
    { dst := some 112, op := .mov (.t 1) },
    { dst := some 113, op := .fad 1 (.t 5) },
    { dst := some 114, op := .load none (.t 113) },
    { dst := some 115, op := .fad 2 (.t 5) },
    { dst := some 116, op := .load none (.t 115) },
    { dst := some 117, op := .call 118000 29 [(.t 112), (.t 114), (.t 116)] }])
  (.keep [0, 5] [5, 100000, 100001, 100002, 100200, 100202, 100403, 101000000, 101000001, 101200001] ((.seq (.reg false [
    { dst := some 118, op := .mov (.t 0) },
    { dst := some 119, op := .fad 1 (.t 5) },
    { dst := some 120, op := .load none (.t 119) },
    { dst := some 121, op := .fad 2 (.t 5) },
    { dst := some 122, op := .load none (.t 121) },
    { dst := some 123, op := .call 124000 15 [(.t 118), (.t 120), (.t 122)] },
    { dst := some 124, op := .bin .eql (.t 123) (.c (.int .i64 0)) },
    { dst := some 6, op := .mov (.t 124) }])
  (.ret)))))) (.skip)))))))))))))))))))
  (.keep [] [100000, 100001, 100002, 100200, 100202, 101000000, 101000001, 101200001] ((.seq (.reg false [
    { dst := some 6, op := .mov (.c (.bool true)) }])
  (.ret)))))))
/-- with its results -/
def a14 : AFun := ⟨c14, [(6, none)], 125⟩

def b15_0 : AC :=
  .block 1 (.reg true [
    { dst := some 29, op := .load none (.t 3), rs := [3], tn := [3], mn := [100000] },
    { dst := some 30, op := .nilck (.t 29), rs := [29], an := [0], mn := [100000] },
    { dst := some 31, op := .fad 0 (.t 30), rs := [30], an := [1], mn := [100000] },
    { dst := some 32, op := .load none (.t 31), rs := [31], tn := [100000], an := [2], mn := [100001, 100002] },
    { dst := some 33, op := .fad 0 (.t 8), rs := [8], mn := [8] },
    { dst := some 34, op := .load none (.t 33), rs := [33], tn := [8], an := [4] },
    { dst := some 35, op := .slc 1 (.t 32) (some (.t 34)) none none, rs := [32, 34], tn := [100001, 100002], an := [3, 5] },
    { dst := some 36, op := .fad 2 (.t 8), rs := [8], mn := [8] },
    { dst := some 37, op := .load none (.t 36), rs := [36], tn := [8], an := [7] },
    { dst := some 38, op := .cpy 1 (.t 35) (.t 37), rs := [35, 37], tn := [100001, 100002], wn := [100001, 100002], an := [6, 8] }])
def b15_1 : AC :=
  .reg false [
    { dst := some 8, op := .alloc 8 z65 },
    { dst := none, op := .store 3 (.t 8) (.t 28) }]
/-- (*estreat/disk.Disk).Crash: parameters *disk.Disk int int -/
def c15 : AC :=
  (.seq (.reg false [
    { dst := some 3, op := .box 3 (.t 0) },
    { dst := some 6, op := .mov (.c (.int .i64 0)) }])
  ((.seq ((.seq (.reg false [
    { dst := some 10, op := .load none (.t 3) },
    { dst := some 11, op := .isnil false 1 (.t 10) }])
  (.cond (.t 11) ((.seq (.reg false [
    { dst := some 6, op := .mov (.c (.int .i64 3)) }])
  (.ret))) (.skip))))
  ((.seq (.reg false [
    { dst := some 12, op := .mov (.t 1) },
    { dst := some 13, op := .mm true [(.t 12), (.c (.int .i64 0))] },
    { dst := some 14, op := .load none (.t 3) },
    { dst := some 15, op := .nilck (.t 14) },
    { dst := some 16, op := .fad 1 (.t 15) },
    { dst := some 17, op := .load none (.t 16) },
    { dst := some 18, op := .len (.t 17) },
    { dst := some 19, op := .mm false [(.t 13), (.t 18)] },
    { dst := some 1, op := .mov (.t 19) }])
  (.keep [1, 2, 3, 28] [3, 100000, 100001, 100002] ((.seq ((.seq (.reg false [
    { dst := some 20, op := .load none (.t 3) },
    { dst := some 21, op := .nilck (.t 20) },
    { dst := some 22, op := .fad 1 (.t 21) },
    { dst := some 23, op := .load none (.t 22) },
    { dst := some 24, op := .mov (.t 1) },
    { dst := some 25, op := .slc 3 (.t 23) (some (.t 24)) none none },
    { dst := some 26, op := .inl 30 [(.t 25)] }])
  (.keep [1, 2, 3, 26, 28] [3, 100000, 100001, 100002, 3300001] (.block 0 (.rfun 2900000 (.t 26) [27, 28] [1, 2, 3, 26, 28] b15_1 b15_0)))))
  (.keep [1, 2, 3] [3, 100000, 100001, 100002] ((.seq ((.seq (.reg false [
    { dst := some 39, op := .mov (.t 1) },
    { dst := some 40, op := .load none (.t 3) },
    { dst := some 41, op := .nilck (.t 40) },
    { dst := some 42, op := .fad 1 (.t 41) },
    { dst := some 43, op := .load none (.t 42) },
    { dst := some 44, op := .len (.t 43) },
    { dst := some 45, op := .bin .lss (.t 39) (.t 44) }])
  (.cond (.t 45) ((.seq (.reg false [
    { dst := some 46, op := .load none (.t 3) },
    { dst := some 47, op := .nilck (.t 46) },
    { dst := some 48, op := .fad 1 (.t 47) },
    { dst := some 49, op := .load none (.t 48) },
    { dst := some 50, op := .mov (.t 1) },
    { dst := some 51, op := .iad 3 (.t 49) (.t 50) },
    { dst := some 52, op := .load (some 3) (.t 51) },
    { dst := some 9, op := .alloc 9 z65 },
    { dst := none, op := .store 3 (.t 9) (.t 52) }])
  (.keep [2, 3, 9] [3, 9, 100000, 100001, 100002] (.reg true [
    { dst := some 53, op := .load none (.t 3), rs := [3], tn := [3], mn := [100000] },
    { dst := some 54, op := .nilck (.t 53), rs := [53], an := [0], mn := [100000] },
    { dst := some 55, op := .fad 0 (.t 54), rs := [54], an := [1], mn := [100000] },
    { dst := some 56, op := .load none (.t 55), rs := [55], tn := [100000], an := [2], mn := [100001, 100002] },
    { dst := some 57, op := .fad 0 (.t 9), rs := [9], mn := [9] },
    { dst := some 58, op := .load none (.t 57), rs := [57], tn := [9], an := [4] },
    { dst := some 59, op := .slc 1 (.t 56) (some (.t 58)) none none, rs := [56, 58], tn := [100001, 100002], an := [3, 5] },
    { dst := some 60, op := .fad 1 (.t 9), rs := [9], mn := [9] },
    { dst := some 61, op := .load none (.t 60), rs := [60], tn := [9], an := [7] },
    { dst := some 62, op := .mov (.t 2), rs := [2] },
    { dst := some 63, op := .fad 1 (.t 9), rs := [9], mn := [9] },
    { dst := some 64, op := .load none (.t 63), rs := [63], tn := [9], an := [10] },
    { dst := some 65, op := .len (.t 64), rs := [64], an := [11] },
    { dst := some 66, op := .bin .sub (.t 65) (.c (.int .i64 1)), rs := [65], an := [12] },
    { dst := some 67, op := .mm false [(.t 62), (.t 66)], rs := [62, 66], an := [9, 13] },
    { dst := some 68, op := .mm true [(.c (.int .i64 0)), (.t 67)], rs := [67], an := [14] },
    { dst := some 69, op := .slc 1 (.t 61) none (some (.t 68)) none, rs := [61, 68], an := [8, 15] },
    { dst := some 70, op := .cpy 1 (.t 59) (.t 69), rs := [59, 69], tn := [100001, 100002], wn := [100001, 100002], an := [6, 16] }])))) (.skip))))
  (.keep [3] [3, 100000, 100001, 100002] ((.seq (.reg true [
    { dst := some 71, op := .load none (.t 3), rs := [3], tn := [3], mn := [100000] },
    { dst := some 72, op := .load none (.t 3), rs := [3], tn := [3], mn := [100000] },
    { dst := some 73, op := .load none (.t 3), rs := [3], tn := [3], mn := [100000] },
    { dst := some 74, op := .nilck (.t 71), rs := [71], an := [0], mn := [100000] },
    { dst := some 75, op := .fad 1 (.t 74), rs := [74], an := [3], mn := [100000] },
    { dst := none, op := .store 1 (.t 75) (.c .nilS), rs := [75], tn := [100000, 100001, 100002], wn := [100000], an := [4] },
    { dst := some 76, op := .nilck (.t 72), rs := [72], an := [1], mn := [100000] },
    { dst := some 77, op := .fad 2 (.t 76), rs := [76], an := [6], mn := [100000] },
    { dst := none, op := .store 1 (.t 77) (.c (.bool false)), rs := [77], tn := [100000, 100001, 100002], wn := [100000], an := [5, 7] },
    { dst := some 78, op := .nilck (.t 73), rs := [73], an := [2], mn := [100000] },
    { dst := some 79, op := .fad 3 (.t 78), rs := [78], an := [9], mn := [100000] },
    { dst := none, op := .store 1 (.t 79) (.c (.bool false)), rs := [79], tn := [100000, 100001, 100002], wn := [100000], an := [5, 8, 10] }])
  (.keep [] [100000, 100001, 100002] ((.seq (.reg false [
    { dst := some 6, op := .mov (.c (.int .i64 0)) }])
  (.ret))))))))))))))))))
/-- with its results -/
def a15 : AFun := ⟨c15, [(6, none)], 80⟩

/-- (*estreat/disk.Disk).Read: parameters *disk.Disk int int -/
def c16 : AC :=
  (.seq (.reg false [
    { dst := some 6, op := .mov (.c .nilS) },
    { dst := some 7, op := .mov (.c (.int .i64 0)) }])
  ((.seq (.block 0 ((.seq (.reg false [
    { dst := some 9, op := .mov (.t 0) },
    { dst := some 10, op := .isnil false 1 (.t 9) },
    { dst := some 8, op := .mov (.t 10) }])
  (.cond (.t 8) ((.seq (.reg false [
    { dst := some 6, op := .mov (.c .nilS) },
    { dst := some 7, op := .mov (.c (.int .i64 3)) }])
  (.ret))) ((.seq (.reg false [
    { dst := some 12, op := .mov (.t 0) },
    { dst := some 13, op := .mov (.t 1) },
    { dst := some 14, op := .mov (.t 2) },
    { dst := some 15, op := .call 16000 31 [(.t 12), (.t 13), (.t 14)] },
    { dst := some 16, op := .un .not (.t 15) },
    { dst := some 11, op := .mov (.t 16) }])
  (.cond (.t 11) ((.seq (.reg false [
    { dst := some 6, op := .mov (.c .nilS) },
    { dst := some 7, op := .mov (.c (.int .i64 81)) }])
  (.ret))) (.skip))))))))
  (.keep [0, 1, 2] [100000, 100001, 100002, 101000000, 101000001] ((.seq (.reg false [
    { dst := some 17, op := .mov (.t 0) },
    { dst := some 18, op := .nilck (.t 17) },
    { dst := some 19, op := .fad 0 (.t 18) },
    { dst := some 20, op := .load none (.t 19) },
    { dst := some 21, op := .mov (.t 1) },
    { dst := some 22, op := .mov (.t 1) },
    { dst := some 23, op := .mov (.t 2) },
    { dst := some 24, op := .bin .add (.t 22) (.t 23) },
    { dst := some 25, op := .slc 1 (.t 20) (some (.t 21)) (some (.t 24)) none },
    { dst := some 26, op := .call 27000 32 [(.t 25)] },
    { dst := some 6, op := .mov (.t 26) },
    { dst := some 7, op := .mov (.c (.int .i64 0)) }])
  (.ret)))))))
/-- with its results -/
def a16 : AFun := ⟨c16, [(6, none), (7, none)], 27⟩

/-- (*estreat/disk.Disk).Write: parameters *disk.Disk int []uint8 -/
def c17 : AC :=
  (.seq (.reg false [
    { dst := some 6, op := .mov (.c (.int .i64 0)) }])
  ((.seq ((.seq (.reg false [
    { dst := some 9, op := .mov (.t 0) },
    { dst := some 10, op := .call 11000 33 [(.t 9)] },
    { dst := some 7, op := .mov (.t 10) }])
  ((.seq (.reg false [
    { dst := some 11, op := .mov (.t 7) },
    { dst := some 12, op := .bin .neq (.t 11) (.c (.int .i64 0)) }])
  (.cond (.t 12) ((.seq (.reg false [
    { dst := some 13, op := .mov (.t 7) },
    { dst := some 6, op := .mov (.t 13) }])
  (.ret))) (.skip))))))
  (.keep [0, 1, 2] [42, 100000, 100001, 100002, 100400, 101000000, 101000001] ((.seq ((.seq (.reg false [
    { dst := some 14, op := .mov (.t 0) },
    { dst := some 15, op := .mov (.t 1) },
    { dst := some 16, op := .mov (.t 2) },
    { dst := some 17, op := .len (.t 16) },
    { dst := some 18, op := .call 19000 31 [(.t 14), (.t 15), (.t 17)] },
    { dst := some 19, op := .un .not (.t 18) }])
  (.cond (.t 19) ((.seq (.reg false [
    { dst := some 6, op := .mov (.c (.int .i64 81)) }])
  (.ret))) (.skip))))
  (.keep [0, 1, 2] [42, 100000, 100001, 100002, 100400, 101000000, 101000001] ((.seq (.reg false [
    { dst := some 20, op := .mov (.t 0) },
    { dst := some 21, op := .nilck (.t 20) },
    { dst := some 22, op := .fad 0 (.t 21) },
    { dst := some 23, op := .load none (.t 22) },
    { dst := some 24, op := .mov (.t 1) },
    { dst := some 25, op := .mov (.t 1) },
    { dst := some 26, op := .mov (.t 2) },
    { dst := some 27, op := .len (.t 26) },
    { dst := some 28, op := .bin .add (.t 25) (.t 27) },
    { dst := some 29, op := .slc 1 (.t 23) (some (.t 24)) (some (.t 28)) none },
    { dst := some 8, op := .mov (.t 29) }])
  (.keep [0, 1, 2, 8] [42, 100000, 100001, 100002, 100400, 101000000, 101000001] ((.seq (.reg true [
    { dst := some 30, op := .mov (.t 0), rs := [0], mn := [100000] },
    { dst := some 31, op := .mov (.t 0), rs := [0], mn := [100000] },
    { dst := some 32, op := .nilck (.t 31), rs := [31], an := [1], mn := [100000] },
    { dst := some 33, op := .fad 1 (.t 32), rs := [32], an := [2], mn := [100000] },
    { dst := some 34, op := .load none (.t 33), rs := [33], tn := [100000], an := [3], mn := [42, 100001, 100002, 101000000, 101000001] },
    { dst := some 35, op := .mov (.t 1), rs := [1] },
    { dst := some 36, op := .mov (.t 2), rs := [2], mn := [100400] },
    { dst := some 37, op := .call 38000 32 [(.t 36)], rs := [36], tn := [38000, 100400], wn := [38000], an := [6] },
    { dst := some 38, op := .mov (.t 8), rs := [8], mn := [42, 100001, 100002, 101000000, 101000001] },
    { dst := some 39, op := .call 40000 32 [(.t 38)], rs := [38], tn := [42, 40000, 100001, 100002, 101000000, 101000001], wn := [40000], an := [8] },
    { dst := some 40, op := .build z65 [(0, 1, (.t 35)), (1, 1, (.t 37)), (2, 1, (.t 39))], rs := [35, 37, 39], an := [5, 7, 9], mn := [38000, 40000] },
    { dst := some 41, op := .bslice 41 3 z65 1 [(0, (.t 40))], rs := [40], tn := [41, 38000, 40000], wn := [41, 38000, 40000], an := [7, 9, 10] },
    { dst := some 42, op := .app 42 3 56 (.t 34) (.t 41), rs := [34, 41], tn := [41, 42, 100001, 100002, 101000000, 101000001], wn := [42, 100001, 100002, 101000000, 101000001], an := [4, 9, 11] },
    { dst := some 43, op := .nilck (.t 30), rs := [30], an := [0], mn := [100000] },
    { dst := some 44, op := .fad 1 (.t 43), rs := [43], an := [13], mn := [100000] },
    { dst := none, op := .store 1 (.t 44) (.t 42), rs := [42, 44], tn := [42, 100000, 100001, 100002, 101000000, 101000001], wn := [42, 100000, 100001, 100002, 101000000, 101000001], an := [4, 9, 12, 14] }])
  (.keep [0, 2, 8] [42, 100000, 100001, 100002, 100400, 101000000, 101000001] ((.seq (.reg false [
    { dst := some 45, op := .mov (.t 8) },
    { dst := some 46, op := .mov (.t 2) },
    { dst := some 47, op := .cpy 1 (.t 45) (.t 46) }])
  ((.seq (.reg false [
    { dst := some 48, op := .mov (.t 0) },
    { dst := some 49, op := .call 50000 34 [(.t 48)] },
    { dst := some 6, op := .mov (.t 49) }])
  (.ret))))))))))))))))))
/-- with its results -/
def a17 : AFun := ⟨c17, [(6, none)], 50⟩

/-- (*estreat/disk.Disk).Sync: parameters *disk.Disk -/
def c18 : AC :=
  (.seq (.reg false [
    { dst := some 2, op := .mov (.c (.int .i64 0)) }])
  ((.seq ((.seq (.reg false [
    { dst := some 4, op := .mov (.t 0) },
    { dst := some 5, op := .call 6000 33 [(.t 4)] },
    { dst := some 3, op := .mov (.t 5) }])
  ((.seq (.reg false [
    { dst := some 6, op := .mov (.t 3) },
    { dst := some 7, op := .bin .neq (.t 6) (.c (.int .i64 0)) }])
  (.cond (.t 7) ((.seq (.reg false [
    { dst := some 8, op := .mov (.t 3) },
    { dst := some 2, op := .mov (.t 8) }])
  (.ret))) (.skip))))))
  (.keep [0] [100000, 100001, 100002, 101000000, 101000001] ((.seq (.reg false [
    { dst := some 9, op := .mov (.t 0) },
    { dst := some 10, op := .nilck (.t 9) },
    { dst := some 11, op := .fad 1 (.t 10) },
    { dst := none, op := .store 1 (.t 11) (.c .nilS) }])
  (.keep [0] [100000, 100001, 100002, 101000000, 101000001] ((.seq (.reg false [
    { dst := some 12, op := .mov (.t 0) },
    { dst := some 13, op := .call 14000 34 [(.t 12)] },
    { dst := some 2, op := .mov (.t 13) }])
  (.ret))))))))))
/-- with its results -/
def a18 : AFun := ⟨c18, [(2, none)], 14⟩

/-- (*estreat/disk.Disk).Room: parameters *disk.Disk -/
def c19 : AC :=
  (.seq (.reg false [
    { dst := some 2, op := .mov (.c (.int .i64 0)) }])
  ((.seq ((.seq (.reg false [
    { dst := some 3, op := .mov (.t 0) },
    { dst := some 4, op := .isnil false 1 (.t 3) }])
  (.cond (.t 4) ((.seq (.reg false [
    { dst := some 2, op := .mov (.c (.int .i64 0)) }])
  (.ret))) (.skip))))
  ((.seq (.reg false [
    { dst := some 5, op := .mov (.t 0) },
    { dst := some 6, op := .nilck (.t 5) },
    { dst := some 7, op := .fad 0 (.t 6) },
    { dst := some 8, op := .load none (.t 7) },
    { dst := some 9, op := .len (.t 8) },
    { dst := some 2, op := .mov (.t 9) }])
  (.ret))))))
/-- with its results -/
def a19 : AFun := ⟨c19, [(2, none)], 10⟩

/-- (*estreat/disk.Disk).Down: parameters *disk.Disk -/
def c20 : AC :=
  (.seq (.reg false [
    { dst := some 2, op := .mov (.c (.bool false)) }])
  ((.seq (.reg false [
    { dst := some 3, op := .mov (.t 0) },
    { dst := some 4, op := .isnil true 1 (.t 3) },
    { dst := some 5, op := .mov (.t 4) },
    { dst := some 6, op := .mov (.t 0), guard := some (5, true) },
    { dst := some 7, op := .nilck (.t 6), guard := some (5, true) },
    { dst := some 8, op := .fad 2 (.t 7), guard := some (5, true) },
    { dst := some 9, op := .load none (.t 8), guard := some (5, true) },
    { dst := some 10, op := .pick (.t 5) (.t 9) (.c (.bool false)) },
    { dst := some 2, op := .mov (.t 10) }])
  (.ret))))
/-- with its results -/
def a20 : AFun := ⟨c20, [(2, none)], 11⟩

def b21_0 : AC :=
  (.seq ((.seq (.reg false [
    { dst := some 9, op := .mov (.t 4) },
    { dst := some 10, op := .mov (.t 0) },
    { dst := some 11, op := .nilck (.t 10) },
    { dst := some 12, op := .fad 1 (.t 11) },
    { dst := some 13, op := .load none (.t 12) },
    { dst := some 14, op := .len (.t 13) },
    { dst := some 15, op := .bin .lss (.t 9) (.t 14) }])
  (.cond (.t 15) (.skip) (.exit 0))))
  (.keep [0, 3, 4] [100000, 100002] ((.seq (.block 1 (.reg false [
    { dst := some 18, op := .mov (.t 3) },
    { dst := some 19, op := .mov (.t 0) },
    { dst := some 20, op := .nilck (.t 19) },
    { dst := some 21, op := .fad 1 (.t 20) },
    { dst := some 22, op := .load none (.t 21) },
    { dst := some 23, op := .mov (.t 4) },
    { dst := some 24, op := .iad 2 (.t 22) (.t 23) },
    { dst := some 25, op := .load (some 2) (.t 24) },
    { dst := some 26, op := .call 27000 35 [(.t 18), (.t 25)] },
    { dst := some 3, op := .mov (.t 26) }]))
  (.keep [0, 3, 4] [100000, 100002] (.reg false [
    { dst := some 16, op := .mov (.t 4) },
    { dst := some 17, op := .bin .add (.t 16) (.c (.int .i64 1)) },
    { dst := some 4, op := .mov (.t 17) }]))))))
/-- (*estreat/estreatref09.Disk).Now: parameters *estreatref09.Disk -/
def c21 : AC :=
  (.seq (.reg false [
    { dst := some 2, op := .mov (.c (.str ⟨#[]⟩)) }])
  ((.seq (.reg false [
    { dst := some 5, op := .mov (.t 0) },
    { dst := some 6, op := .nilck (.t 5) },
    { dst := some 7, op := .fad 0 (.t 6) },
    { dst := some 8, op := .load none (.t 7) },
    { dst := some 3, op := .mov (.t 8) }])
  (.keep [0, 3] [100000, 100002] ((.seq ((.seq (.reg false [
    { dst := some 4, op := .mov (.c (.int .i64 0)) }])
  (.block 0 (.loop [0, 3, 4] [100000, 100002] b21_0))))
  (.keep [3] [100000, 100002] ((.seq (.reg false [
    { dst := some 27, op := .mov (.t 3) },
    { dst := some 2, op := .mov (.t 27) }])
  (.ret))))))))))
/-- with its results -/
def a21 : AFun := ⟨c21, [(2, none)], 28⟩

/-- (*estreat/disk.Disk).Stop: parameters *disk.Disk int -/
def c22 : AC :=
  (.seq (.reg false [
    { dst := some 4, op := .mov (.c (.int .i64 0)) }])
  ((.seq ((.seq (.reg false [
    { dst := some 6, op := .mov (.t 0) },
    { dst := some 7, op := .call 8000 33 [(.t 6)] },
    { dst := some 5, op := .mov (.t 7) }])
  ((.seq (.reg false [
    { dst := some 8, op := .mov (.t 5) },
    { dst := some 9, op := .bin .neq (.t 8) (.c (.int .i64 0)) }])
  (.cond (.t 9) ((.seq (.reg false [
    { dst := some 10, op := .mov (.t 5) },
    { dst := some 4, op := .mov (.t 10) }])
  (.ret))) (.skip))))))
  (.keep [0, 1] [100000, 100001, 100002, 101000000, 101000001] ((.seq ((.seq (.reg false [
    { dst := some 11, op := .mov (.t 1) },
    { dst := some 12, op := .bin .lss (.t 11) (.c (.int .i64 0)) },
    { dst := some 13, op := .mov (.t 12) },
    { dst := some 14, op := .mov (.t 1), guard := some (13, false) },
    { dst := some 15, op := .bin .gtr (.t 14) (.c (.int .i64 1000000)), guard := some (13, false) },
    { dst := some 16, op := .pick (.t 13) (.c (.bool true)) (.t 15) }])
  (.cond (.t 16) ((.seq (.reg false [
    { dst := some 4, op := .mov (.c (.int .i64 1)) }])
  (.ret))) (.skip))))
  (.keep [0, 1] [100000, 100001, 100002, 101000000, 101000001] ((.seq (.reg false [
    { dst := some 17, op := .mov (.t 0) },
    { dst := some 18, op := .mov (.t 0) },
    { dst := some 19, op := .mov (.t 0) },
    { dst := some 20, op := .mov (.t 1) },
    { dst := some 21, op := .mov (.t 1) },
    { dst := some 22, op := .bin .eql (.t 21) (.c (.int .i64 0)) },
    { dst := some 23, op := .nilck (.t 17) },
    { dst := some 24, op := .fad 3 (.t 23) },
    { dst := none, op := .store 1 (.t 24) (.c (.bool true)) },
    { dst := some 25, op := .nilck (.t 18) },
    { dst := some 26, op := .fad 4 (.t 25) },
    { dst := none, op := .store 1 (.t 26) (.t 20) },
    { dst := some 27, op := .nilck (.t 19) },
    { dst := some 28, op := .fad 2 (.t 27) },
    { dst := none, op := .store 1 (.t 28) (.t 22) }])
  (.keep [] [100000, 100001, 100002, 101000000, 101000001] ((.seq (.reg false [
    { dst := some 4, op := .mov (.c (.int .i64 0)) }])
  (.ret)))))))))))))
/-- with its results -/
def a22 : AFun := ⟨c22, [(4, none)], 29⟩

def b23_0 : AC :=
  (.seq ((.seq (.reg false [
    { dst := some 8, op := .mov (.t 4) },
    { dst := some 9, op := .bin .lss (.t 8) (.c (.int .i64 7)) }])
  (.cond (.t 9) (.skip) (.exit 0))))
  ((.seq (.block 1 (.reg false [
    { dst := some 12, op := .mov (.t 3) },
    { dst := some 13, op := .bslice 13 1 [(.int .u8 0)] 1 [(0, (.c (.int .u8 195)))] },
    { dst := some 14, op := .app 14 1 1 (.t 12) (.t 13) },
    { dst := some 3, op := .mov (.t 14) }]))
  (.keep [0, 3, 4] [7, 14, 100000] (.reg false [
    { dst := some 10, op := .mov (.t 4) },
    { dst := some 11, op := .bin .add (.t 10) (.c (.int .i64 1)) },
    { dst := some 4, op := .mov (.t 11) }])))))
/-- estreat/estreatkeep.Lent: parameters []uint8 -/
def c23 : AC :=
  (.seq (.reg false [
    { dst := some 2, op := .mov (.c .nilS) }])
  ((.seq (.reg false [
    { dst := some 3, op := .mov (.c .nilS) }])
  ((.seq (.reg false [
    { dst := some 5, op := .mov (.t 3) },
    { dst := some 6, op := .mov (.t 0) },
    { dst := some 7, op := .app 7 1 1 (.t 5) (.t 6) },
    { dst := some 3, op := .mov (.t 7) }])
  (.keep [0, 3] [7, 14, 100000] ((.seq ((.seq (.reg false [
    { dst := some 4, op := .mov (.c (.int .i64 0)) }])
  (.block 0 (.loop [0, 3, 4] [7, 14, 100000] b23_0))))
  (.keep [0, 3] [7, 14, 100000] ((.seq (.reg false [
    { dst := some 15, op := .mov (.t 3) },
    { dst := some 16, op := .mov (.t 0) },
    { dst := some 17, op := .len (.t 16) },
    { dst := some 18, op := .slc 1 (.t 15) none (some (.t 17)) none },
    { dst := some 2, op := .mov (.t 18) }])
  (.ret))))))))))))
/-- with its results -/
def a23 : AFun := ⟨c23, [(2, none)], 19⟩

def b24_0 : AC :=
  (.seq ((.seq (.reg false [
    { dst := some 19, op := .mov (.t 6) },
    { dst := some 20, op := .mov (.t 5) },
    { dst := some 21, op := .len (.t 20) },
    { dst := some 22, op := .bin .lss (.t 19) (.t 21) }])
  (.cond (.t 22) (.skip) (.exit 0))))
  (.keep [5, 6] [100000] ((.seq (.block 1 ((.seq (.reg false [
    { dst := some 25, op := .mov (.t 5) },
    { dst := some 26, op := .mov (.t 6) },
    { dst := some 27, op := .iad 1 (.t 25) (.t 26) },
    { dst := some 28, op := .load none (.t 27) },
    { dst := some 29, op := .bin .neq (.t 28) (.c (.int .u8 195)) }])
  (.cond (.t 29) ((.seq (.reg false [
    { dst := some 4, op := .mov (.c (.bool false)) }])
  (.ret))) (.skip)))))
  (.keep [5, 6] [100000] (.reg false [
    { dst := some 23, op := .mov (.t 6) },
    { dst := some 24, op := .bin .add (.t 23) (.c (.int .i64 1)) },
    { dst := some 6, op := .mov (.t 24) }]))))))
/-- estreat/estreatkeep.Kept: parameters []uint8 []uint8 -/
def c24 : AC :=
  (.seq (.reg false [
    { dst := some 4, op := .mov (.c (.bool false)) }])
  ((.seq ((.seq (.reg false [
    { dst := some 7, op := .mov (.t 0) },
    { dst := some 8, op := .b2s (.t 7) },
    { dst := some 9, op := .mov (.t 1) },
    { dst := some 10, op := .b2s (.t 9) },
    { dst := some 11, op := .bin .neq (.t 8) (.t 10) }])
  (.cond (.t 11) ((.seq (.reg false [
    { dst := some 4, op := .mov (.c (.bool false)) }])
  (.ret))) (.skip))))
  (.keep [0, 1] [100000, 100200] ((.seq (.reg false [
    { dst := some 12, op := .mov (.t 0) },
    { dst := some 13, op := .mov (.t 1) },
    { dst := some 14, op := .len (.t 13) },
    { dst := some 15, op := .bin .add (.t 14) (.c (.int .i64 7)) },
    { dst := some 16, op := .slc 1 (.t 12) none (some (.t 15)) none },
    { dst := some 5, op := .mov (.t 16) }])
  (.keep [1, 5] [100000, 100200] ((.seq ((.seq (.reg false [
    { dst := some 17, op := .mov (.t 1) },
    { dst := some 18, op := .len (.t 17) },
    { dst := some 6, op := .mov (.t 18) }])
  (.block 0 (.loop [5, 6] [100000] b24_0))))
  (.keep [] [] ((.seq (.reg false [
    { dst := some 4, op := .mov (.c (.bool true)) }])
  (.ret)))))))))))))
/-- with its results -/
def a24 : AFun := ⟨c24, [(4, none)], 30⟩

/-- (*estreat/estreatref09.Disk).Write: parameters *estreatref09.Disk int []uint8 -/
def c25 : AC :=
  (.seq (.reg false [
    { dst := some 6, op := .mov (.c (.int .i64 0)) }])
  ((.seq ((.seq (.reg false [
    { dst := some 7, op := .mov (.t 0) },
    { dst := some 8, op := .nilck (.t 7) },
    { dst := some 9, op := .fad 2 (.t 8) },
    { dst := some 10, op := .load none (.t 9) }])
  (.cond (.t 10) ((.seq (.reg false [
    { dst := some 6, op := .mov (.c (.int .i64 80)) }])
  (.ret))) (.skip))))
  (.keep [0, 1, 2] [27, 100000, 100002, 100400, 101000001] ((.seq ((.seq (.reg false [
    { dst := some 11, op := .mov (.t 0) },
    { dst := some 12, op := .mov (.t 1) },
    { dst := some 13, op := .mov (.t 2) },
    { dst := some 14, op := .len (.t 13) },
    { dst := some 15, op := .call 16000 36 [(.t 11), (.t 12), (.t 14)] },
    { dst := some 16, op := .un .not (.t 15) }])
  (.cond (.t 16) ((.seq (.reg false [
    { dst := some 6, op := .mov (.c (.int .i64 81)) }])
  (.ret))) (.skip))))
  (.keep [0, 1, 2] [27, 100000, 100002, 100400, 101000001] ((.seq (.reg true [
    { dst := some 17, op := .mov (.t 0), rs := [0], mn := [100000] },
    { dst := some 18, op := .mov (.t 0), rs := [0], mn := [100000] },
    { dst := some 19, op := .nilck (.t 18), rs := [18], an := [1], mn := [100000] },
    { dst := some 20, op := .fad 1 (.t 19), rs := [19], an := [2], mn := [100000] },
    { dst := some 21, op := .load none (.t 20), rs := [20], tn := [100000], an := [3], mn := [27, 100002, 101000001] },
    { dst := some 22, op := .mov (.t 1), rs := [1] },
    { dst := some 23, op := .mov (.t 2), rs := [2], mn := [100400] },
    { dst := some 24, op := .b2s (.t 23), rs := [23], tn := [100400], an := [6] },
    { dst := some 25, op := .build z69 [(0, 1, (.t 22)), (1, 1, (.t 24))], rs := [22, 24], an := [5, 7] },
    { dst := some 26, op := .bslice 26 2 z69 1 [(0, (.t 25))], rs := [25], tn := [26], wn := [26], an := [8] },
    { dst := some 27, op := .app 27 2 24 (.t 21) (.t 26), rs := [21, 26], tn := [26, 27, 100002, 101000001], wn := [27, 100002, 101000001], an := [4, 9] },
    { dst := some 28, op := .nilck (.t 17), rs := [17], an := [0], mn := [100000] },
    { dst := some 29, op := .fad 1 (.t 28), rs := [28], an := [11], mn := [100000] },
    { dst := none, op := .store 1 (.t 29) (.t 27), rs := [27, 29], tn := [27, 100000, 100002, 101000001], wn := [27, 100000, 100002, 101000001], an := [4, 10, 12] }])
  (.keep [0] [27, 100000, 100002, 101000001] ((.seq (.reg false [
    { dst := some 30, op := .mov (.t 0) },
    { dst := some 31, op := .call 32000 37 [(.t 30)] },
    { dst := some 6, op := .mov (.t 31) }])
  (.ret)))))))))))))
/-- with its results -/
def a25 : AFun := ⟨c25, [(6, none)], 32⟩

/-- (*estreat/estreatref09.Disk).Sync: parameters *estreatref09.Disk -/
def c26 : AC :=
  (.seq (.reg false [
    { dst := some 2, op := .mov (.c (.int .i64 0)) }])
  ((.seq ((.seq (.reg false [
    { dst := some 3, op := .mov (.t 0) },
    { dst := some 4, op := .nilck (.t 3) },
    { dst := some 5, op := .fad 2 (.t 4) },
    { dst := some 6, op := .load none (.t 5) }])
  (.cond (.t 6) ((.seq (.reg false [
    { dst := some 2, op := .mov (.c (.int .i64 80)) }])
  (.ret))) (.skip))))
  (.keep [0] [100000, 100002, 101000001] ((.seq (.reg false [
    { dst := some 7, op := .mov (.t 0) },
    { dst := some 8, op := .mov (.t 0) },
    { dst := some 9, op := .call 10000 21 [(.t 8)] },
    { dst := some 10, op := .nilck (.t 7) },
    { dst := some 11, op := .fad 0 (.t 10) },
    { dst := none, op := .store 1 (.t 11) (.t 9) }])
  (.keep [0] [100000, 100002, 101000001] ((.seq (.reg false [
    { dst := some 12, op := .mov (.t 0) },
    { dst := some 13, op := .nilck (.t 12) },
    { dst := some 14, op := .fad 1 (.t 13) },
    { dst := none, op := .store 1 (.t 14) (.c .nilS) }])
  (.keep [0] [100000, 100002, 101000001] ((.seq (.reg false [
    { dst := some 15, op := .mov (.t 0) },
    { dst := some 16, op := .call 17000 37 [(.t 15)] },
    { dst := some 2, op := .mov (.t 16) }])
  (.ret)))))))))))))
/-- with its results -/
def a26 : AFun := ⟨c26, [(2, none)], 17⟩

/-- (*estreat/estreatref09.Disk).Read: parameters *estreatref09.Disk int int -/
def c27 : AC :=
  (.seq (.reg false [
    { dst := some 6, op := .mov (.c (.str ⟨#[]⟩)) },
    { dst := some 7, op := .mov (.c (.int .i64 0)) }])
  ((.seq ((.seq (.reg false [
    { dst := some 8, op := .mov (.t 0) },
    { dst := some 9, op := .mov (.t 1) },
    { dst := some 10, op := .mov (.t 2) },
    { dst := some 11, op := .call 12000 36 [(.t 8), (.t 9), (.t 10)] },
    { dst := some 12, op := .un .not (.t 11) }])
  (.cond (.t 12) ((.seq (.reg false [
    { dst := some 6, op := .mov (.c (.str ⟨#[]⟩)) },
    { dst := some 7, op := .mov (.c (.int .i64 81)) }])
  (.ret))) (.skip))))
  (.keep [0, 1, 2] [100000, 100002, 101000001] ((.seq (.reg false [
    { dst := some 13, op := .mov (.t 0) },
    { dst := some 14, op := .call 15000 21 [(.t 13)] },
    { dst := some 15, op := .mov (.t 1) },
    { dst := some 16, op := .mov (.t 1) },
    { dst := some 17, op := .mov (.t 2) },
    { dst := some 18, op := .bin .add (.t 16) (.t 17) },
    { dst := some 19, op := .slcS (.t 14) (some (.t 15)) (some (.t 18)) },
    { dst := some 6, op := .mov (.t 19) },
    { dst := some 7, op := .mov (.c (.int .i64 0)) }])
  (.ret)))))))
/-- with its results -/
def a27 : AFun := ⟨c27, [(6, none), (7, none)], 20⟩

/-- (*estreat/estreatref09.Disk).Stop: parameters *estreatref09.Disk int -/
def c28 : AC :=
  (.seq (.reg false [
    { dst := some 4, op := .mov (.c (.int .i64 0)) }])
  ((.seq ((.seq (.reg false [
    { dst := some 5, op := .mov (.t 0) },
    { dst := some 6, op := .nilck (.t 5) },
    { dst := some 7, op := .fad 2 (.t 6) },
    { dst := some 8, op := .load none (.t 7) }])
  (.cond (.t 8) ((.seq (.reg false [
    { dst := some 4, op := .mov (.c (.int .i64 80)) }])
  (.ret))) (.skip))))
  (.keep [0, 1] [100000, 100002] ((.seq ((.seq (.reg false [
    { dst := some 9, op := .mov (.t 1) },
    { dst := some 10, op := .bin .lss (.t 9) (.c (.int .i64 0)) },
    { dst := some 11, op := .mov (.t 10) },
    { dst := some 12, op := .mov (.t 1), guard := some (11, false) },
    { dst := some 13, op := .bin .gtr (.t 12) (.c (.int .i64 1000000)), guard := some (11, false) },
    { dst := some 14, op := .pick (.t 11) (.c (.bool true)) (.t 13) }])
  (.cond (.t 14) ((.seq (.reg false [
    { dst := some 4, op := .mov (.c (.int .i64 1)) }])
  (.ret))) (.skip))))
  (.keep [0, 1] [100000, 100002] ((.seq (.reg false [
    { dst := some 15, op := .mov (.t 0) },
    { dst := some 16, op := .nilck (.t 15) },
    { dst := some 17, op := .fad 3 (.t 16) },
    { dst := none, op := .store 1 (.t 17) (.c (.bool true)) }])
  (.keep [0, 1] [100000, 100002] ((.seq (.reg false [
    { dst := some 18, op := .mov (.t 0) },
    { dst := some 19, op := .mov (.t 1) },
    { dst := some 20, op := .nilck (.t 18) },
    { dst := some 21, op := .fad 4 (.t 20) },
    { dst := none, op := .store 1 (.t 21) (.t 19) }])
  (.keep [0, 1] [100000, 100002] ((.seq (.reg false [
    { dst := some 22, op := .mov (.t 0) },
    { dst := some 23, op := .mov (.t 1) },
    { dst := some 24, op := .bin .eql (.t 23) (.c (.int .i64 0)) },
    { dst := some 25, op := .nilck (.t 22) },
    { dst := some 26, op := .fad 2 (.t 25) },
    { dst := none, op := .store 1 (.t 26) (.t 24) }])
  (.keep [] [100000, 100002] ((.seq (.reg false [
    { dst := some 4, op := .mov (.c (.int .i64 0)) }])
  (.ret)))))))))))))))))))
/-- with its results -/
def a28 : AFun := ⟨c28, [(4, none)], 27⟩

def b29_0 : AC :=
  (.seq ((.seq (.reg false [
    { dst := some 14, op := .mov (.t 7) },
    { dst := some 15, op := .mov (.t 0) },
    { dst := some 16, op := .nilck (.t 15) },
    { dst := some 17, op := .fad 1 (.t 16) },
    { dst := some 18, op := .load none (.t 17) },
    { dst := some 19, op := .len (.t 18) },
    { dst := some 20, op := .bin .lss (.t 14) (.t 19) }])
  (.cond (.t 20) (.skip) (.exit 0))))
  (.keep [0, 1, 2, 6, 7] [100000, 100002] ((.seq (.block 1 ((.seq (.reg false [
    { dst := some 23, op := .mov (.t 0) },
    { dst := some 24, op := .nilck (.t 23) },
    { dst := some 25, op := .fad 1 (.t 24) },
    { dst := some 26, op := .load none (.t 25) },
    { dst := some 27, op := .mov (.t 7) },
    { dst := some 28, op := .iad 2 (.t 26) (.t 27) },
    { dst := some 29, op := .load (some 2) (.t 28) },
    { dst := some 8, op := .alloc 8 z69 },
    { dst := none, op := .store 2 (.t 8) (.t 29) }])
  (.keep [0, 1, 2, 6, 7, 8] [8, 100000, 100002] ((.seq ((.seq (.reg false [
    { dst := some 30, op := .mov (.t 7) },
    { dst := some 31, op := .mov (.t 1) },
    { dst := some 32, op := .bin .lss (.t 30) (.t 31) }])
  (.cond (.t 32) (.reg false [
    { dst := some 33, op := .mov (.t 6) },
    { dst := some 34, op := .load (some 2) (.t 8) },
    { dst := some 35, op := .call 36000 35 [(.t 33), (.t 34)] },
    { dst := some 6, op := .mov (.t 35) }]) (.skip))))
  (.keep [0, 1, 2, 6, 7, 8] [8, 100000, 100002] ((.seq (.reg false [
    { dst := some 36, op := .mov (.t 7) },
    { dst := some 37, op := .mov (.t 1) },
    { dst := some 38, op := .mm true [(.t 37), (.c (.int .i64 0))] },
    { dst := some 39, op := .bin .eql (.t 36) (.t 38) },
    { dst := some 40, op := .mov (.t 39) },
    { dst := some 41, op := .fad 1 (.t 8), guard := some (40, true) },
    { dst := some 42, op := .load none (.t 41), guard := some (40, true) },
    { dst := some 43, op := .lenS (.t 42), guard := some (40, true) },
    { dst := some 44, op := .bin .gtr (.t 43) (.c (.int .i64 0)), guard := some (40, true) },
    { dst := some 45, op := .pick (.t 40) (.t 44) (.c (.bool false)) }])
  (.cond (.t 45) ((.seq (.reg false [
    { dst := some 46, op := .mov (.t 2) },
    { dst := some 47, op := .mm true [(.t 46), (.c (.int .i64 0))] },
    { dst := some 48, op := .fad 1 (.t 8) },
    { dst := some 49, op := .load none (.t 48) },
    { dst := some 50, op := .lenS (.t 49) },
    { dst := some 51, op := .bin .sub (.t 50) (.c (.int .i64 1)) },
    { dst := some 52, op := .mm false [(.t 47), (.t 51)] },
    { dst := some 9, op := .mov (.t 52) }])
  (.keep [0, 1, 2, 6, 7, 8, 9] [8, 100000, 100002] (.reg true [
    { dst := some 53, op := .mov (.t 6), rs := [6] },
    { dst := some 54, op := .fad 0 (.t 8), rs := [8], mn := [8] },
    { dst := some 55, op := .load none (.t 54), rs := [54], tn := [8], an := [1] },
    { dst := some 56, op := .fad 1 (.t 8), rs := [8], mn := [8] },
    { dst := some 57, op := .load none (.t 56), rs := [56], tn := [8], an := [3] },
    { dst := some 58, op := .mov (.t 9), rs := [9] },
    { dst := some 59, op := .slcS (.t 57) none (some (.t 58)), rs := [57, 58], an := [4, 5] },
    { dst := some 60, op := .build z69 [(0, 1, (.t 55)), (1, 1, (.t 59))], rs := [55, 59], an := [2, 6] },
    { dst := some 61, op := .call 62000 35 [(.t 53), (.t 60)], rs := [53, 60], an := [0, 7] },
    { dst := some 6, op := .mov (.t 61), rs := [61], an := [0, 8] }])))) (.skip)))))))))))
  (.keep [0, 1, 2, 6, 7] [100000, 100002] (.reg false [
    { dst := some 21, op := .mov (.t 7) },
    { dst := some 22, op := .bin .add (.t 21) (.c (.int .i64 1)) },
    { dst := some 7, op := .mov (.t 22) }]))))))
/-- (*estreat/estreatref09.Disk).Crash: parameters *estreatref09.Disk int int -/
def c29 : AC :=
  (.seq (.reg false [
    { dst := some 10, op := .mov (.t 0) },
    { dst := some 11, op := .nilck (.t 10) },
    { dst := some 12, op := .fad 0 (.t 11) },
    { dst := some 13, op := .load none (.t 12) },
    { dst := some 6, op := .mov (.t 13) }])
  (.keep [0, 1, 2, 6] [100000, 100002] ((.seq ((.seq (.reg false [
    { dst := some 7, op := .mov (.c (.int .i64 0)) }])
  (.block 0 (.loop [0, 1, 2, 6, 7] [100000, 100002] b29_0))))
  (.keep [0, 6] [100000, 100002] ((.seq (.reg false [
    { dst := some 62, op := .mov (.t 0) },
    { dst := some 63, op := .mov (.t 6) },
    { dst := some 64, op := .nilck (.t 62) },
    { dst := some 65, op := .fad 0 (.t 64) },
    { dst := none, op := .store 1 (.t 65) (.t 63) }])
  (.keep [0] [100000, 100002] ((.seq (.reg false [
    { dst := some 66, op := .mov (.t 0) },
    { dst := some 67, op := .nilck (.t 66) },
    { dst := some 68, op := .fad 1 (.t 67) },
    { dst := none, op := .store 1 (.t 68) (.c .nilS) }])
  (.keep [0] [100000, 100002] ((.seq (.reg false [
    { dst := some 69, op := .mov (.t 0) },
    { dst := some 70, op := .nilck (.t 69) },
    { dst := some 71, op := .fad 2 (.t 70) },
    { dst := none, op := .store 1 (.t 71) (.c (.bool false)) }])
  (.keep [0] [100000, 100002] (.reg false [
    { dst := some 72, op := .mov (.t 0) },
    { dst := some 73, op := .nilck (.t 72) },
    { dst := some 74, op := .fad 3 (.t 73) },
    { dst := none, op := .store 1 (.t 74) (.c (.bool false)) }])))))))))))))))
/-- with its results -/
def a29 : AFun := ⟨c29, [], 75⟩

/-- slices.Backward[[]estreat/disk.write,estreat/disk.write]: parameters []disk.write -/
def c30 : AC :=
  (.seq (.reg false [
    { dst := some 1, op := .box 1 (.t 0) },
    { dst := some 2, op := .mov (.c .nilF) }])
  ((.seq (.reg false [
    { dst := some 3, op := .mkf 38 [(.t 1)] },
    { dst := some 2, op := .mov (.t 3) }])
  (.ret))))
/-- with its results -/
def a30 : AFun := ⟨c30, [(2, none)], 4⟩

/-- (*estreat/disk.Disk).in: parameters *disk.Disk int int -/
def c31 : AC :=
  (.seq (.reg false [
    { dst := some 6, op := .mov (.c (.bool false)) }])
  ((.seq (.reg false [
    { dst := some 7, op := .mov (.t 1) },
    { dst := some 8, op := .bin .geq (.t 7) (.c (.int .i64 0)) },
    { dst := some 9, op := .mov (.t 8) },
    { dst := some 10, op := .mov (.t 2), guard := some (9, true) },
    { dst := some 11, op := .bin .geq (.t 10) (.c (.int .i64 0)), guard := some (9, true) },
    { dst := some 12, op := .pick (.t 9) (.t 11) (.c (.bool false)) },
    { dst := some 13, op := .mov (.t 12) },
    { dst := some 14, op := .mov (.t 1), guard := some (13, true) },
    { dst := some 15, op := .mov (.t 0), guard := some (13, true) },
    { dst := some 16, op := .nilck (.t 15), guard := some (13, true) },
    { dst := some 17, op := .fad 0 (.t 16), guard := some (13, true) },
    { dst := some 18, op := .load none (.t 17), guard := some (13, true) },
    { dst := some 19, op := .len (.t 18), guard := some (13, true) },
    { dst := some 20, op := .bin .leq (.t 14) (.t 19), guard := some (13, true) },
    { dst := some 21, op := .pick (.t 13) (.t 20) (.c (.bool false)) },
    { dst := some 22, op := .mov (.t 21) },
    { dst := some 23, op := .mov (.t 2), guard := some (22, true) },
    { dst := some 24, op := .mov (.t 0), guard := some (22, true) },
    { dst := some 25, op := .nilck (.t 24), guard := some (22, true) },
    { dst := some 26, op := .fad 0 (.t 25), guard := some (22, true) },
    { dst := some 27, op := .load none (.t 26), guard := some (22, true) },
    { dst := some 28, op := .len (.t 27), guard := some (22, true) },
    { dst := some 29, op := .mov (.t 1), guard := some (22, true) },
    { dst := some 30, op := .bin .sub (.t 28) (.t 29), guard := some (22, true) },
    { dst := some 31, op := .bin .leq (.t 23) (.t 30), guard := some (22, true) },
    { dst := some 32, op := .pick (.t 22) (.t 31) (.c (.bool false)) },
    { dst := some 6, op := .mov (.t 32) }])
  (.ret))))
/-- with its results -/
def a31 : AFun := ⟨c31, [(6, none)], 33⟩

/-- slices.Clone[[]byte,byte]: parameters []uint8 -/
def c32 : AC :=
  (.seq (.reg false [
    { dst := some 2, op := .mov (.c .nilS) }])
  ((.seq ((.seq (.reg false [
    { dst := some 3, op := .mov (.t 0) },
    { dst := some 4, op := .isnil false 0 (.t 3) }])
  (.cond (.t 4) ((.seq (.reg false [
    { dst := some 2, op := .mov (.c .nilS) }])
  (.ret))) (.skip))))
  ((.seq (.reg false [
    { dst := some 5, op := .bemp 1 },
    { dst := some 6, op := .mov (.t 0) },
    { dst := some 7, op := .app 7 1 1 (.t 5) (.t 6) },
    { dst := some 2, op := .mov (.t 7) }])
  (.ret))))))
/-- with its results -/
def a32 : AFun := ⟨c32, [(2, none)], 8⟩

/-- (*estreat/disk.Disk).ready: parameters *disk.Disk -/
def c33 : AC :=
  (.seq (.reg false [
    { dst := some 2, op := .mov (.c (.int .i64 0)) }])
  ((.seq (.block 0 ((.seq (.reg false [
    { dst := some 4, op := .mov (.t 0) },
    { dst := some 5, op := .isnil false 1 (.t 4) },
    { dst := some 3, op := .mov (.t 5) }])
  (.cond (.t 3) ((.seq (.reg false [
    { dst := some 2, op := .mov (.c (.int .i64 3)) }])
  (.ret))) ((.seq (.reg false [
    { dst := some 7, op := .mov (.t 0) },
    { dst := some 8, op := .nilck (.t 7) },
    { dst := some 9, op := .fad 2 (.t 8) },
    { dst := some 10, op := .load none (.t 9) },
    { dst := some 6, op := .mov (.t 10) }])
  (.cond (.t 6) ((.seq (.reg false [
    { dst := some 2, op := .mov (.c (.int .i64 80)) }])
  (.ret))) (.skip))))))))
  (.keep [] [100000, 100001, 100002] ((.seq (.reg false [
    { dst := some 2, op := .mov (.c (.int .i64 0)) }])
  (.ret)))))))
/-- with its results -/
def a33 : AFun := ⟨c33, [(2, none)], 11⟩

/-- (*estreat/disk.Disk).step: parameters *disk.Disk -/
def c34 : AC :=
  (.seq (.reg false [
    { dst := some 2, op := .mov (.c (.int .i64 0)) }])
  ((.seq ((.seq (.reg false [
    { dst := some 3, op := .mov (.t 0) },
    { dst := some 4, op := .nilck (.t 3) },
    { dst := some 5, op := .fad 3 (.t 4) },
    { dst := some 6, op := .load none (.t 5) }])
  (.cond (.t 6) ((.seq (.reg false [
    { dst := some 7, op := .mov (.t 0) },
    { dst := some 8, op := .nilck (.t 7) },
    { dst := some 9, op := .fad 4 (.t 8) },
    { dst := some 10, op := .load none (.t 9) },
    { dst := some 11, op := .bin .sub (.t 10) (.c (.int .i64 1)) },
    { dst := some 12, op := .nilck (.t 7) },
    { dst := some 13, op := .fad 4 (.t 12) },
    { dst := none, op := .store 1 (.t 13) (.t 11) }])
  (.keep [0] [100000, 100001, 100002] (.reg false [
    { dst := some 14, op := .mov (.t 0) },
    { dst := some 15, op := .mov (.t 0) },
    { dst := some 16, op := .nilck (.t 15) },
    { dst := some 17, op := .fad 4 (.t 16) },
    { dst := some 18, op := .load none (.t 17) },
    { dst := some 19, op := .bin .leq (.t 18) (.c (.int .i64 0)) },
    { dst := some 20, op := .nilck (.t 14) },
    { dst := some 21, op := .fad 2 (.t 20) },
    { dst := none, op := .store 1 (.t 21) (.t 19) }])))) (.skip))))
  (.keep [] [100000, 100001, 100002] ((.seq (.reg false [
    { dst := some 2, op := .mov (.c (.int .i64 0)) }])
  (.ret)))))))
/-- with its results -/
def a34 : AFun := ⟨c34, [(2, none)], 22⟩

/-- estreat/estreatref09.done: parameters string estreatref09.Put -/
def c35 : AC :=
  (.seq (.reg false [
    { dst := some 3, op := .box 3 (.t 1) },
    { dst := some 4, op := .mov (.c (.str ⟨#[]⟩)) }])
  ((.seq (.reg true [
    { dst := some 5, op := .mov (.t 0), rs := [0] },
    { dst := some 6, op := .fad 0 (.t 3), rs := [3], mn := [3] },
    { dst := some 7, op := .load none (.t 6), rs := [6], tn := [3], an := [1] },
    { dst := some 8, op := .slcS (.t 5) none (some (.t 7)), rs := [5, 7], an := [0, 2] },
    { dst := some 9, op := .fad 1 (.t 3), rs := [3], mn := [3] },
    { dst := some 10, op := .load none (.t 9), rs := [9], tn := [3], an := [4] },
    { dst := some 11, op := .bin .add (.t 8) (.t 10), rs := [8, 10], an := [3, 5] },
    { dst := some 12, op := .mov (.t 0), rs := [0] },
    { dst := some 13, op := .fad 0 (.t 3), rs := [3], mn := [3] },
    { dst := some 14, op := .load none (.t 13), rs := [13], tn := [3], an := [8] },
    { dst := some 15, op := .fad 1 (.t 3), rs := [3], mn := [3] },
    { dst := some 16, op := .load none (.t 15), rs := [15], tn := [3], an := [10] },
    { dst := some 17, op := .lenS (.t 16), rs := [16], an := [11] },
    { dst := some 18, op := .bin .add (.t 14) (.t 17), rs := [14, 17], an := [9, 12] },
    { dst := some 19, op := .slcS (.t 12) (some (.t 18)) none, rs := [12, 18], an := [7, 13] },
    { dst := some 20, op := .bin .add (.t 11) (.t 19), rs := [11, 19], an := [6, 14] },
    { dst := some 4, op := .mov (.t 20), rs := [20], an := [15] }])
  (.ret))))
/-- with its results -/
def a35 : AFun := ⟨c35, [(4, none)], 21⟩

/-- (*estreat/estreatref09.Disk).in: parameters *estreatref09.Disk int int -/
def c36 : AC :=
  (.seq (.reg false [
    { dst := some 6, op := .mov (.c (.bool false)) }])
  ((.seq (.reg false [
    { dst := some 7, op := .mov (.t 1) },
    { dst := some 8, op := .bin .geq (.t 7) (.c (.int .i64 0)) },
    { dst := some 9, op := .mov (.t 8) },
    { dst := some 10, op := .mov (.t 2), guard := some (9, true) },
    { dst := some 11, op := .bin .geq (.t 10) (.c (.int .i64 0)), guard := some (9, true) },
    { dst := some 12, op := .pick (.t 9) (.t 11) (.c (.bool false)) },
    { dst := some 13, op := .mov (.t 12) },
    { dst := some 14, op := .mov (.t 1), guard := some (13, true) },
    { dst := some 15, op := .mov (.t 0), guard := some (13, true) },
    { dst := some 16, op := .nilck (.t 15), guard := some (13, true) },
    { dst := some 17, op := .fad 0 (.t 16), guard := some (13, true) },
    { dst := some 18, op := .load none (.t 17), guard := some (13, true) },
    { dst := some 19, op := .lenS (.t 18), guard := some (13, true) },
    { dst := some 20, op := .bin .leq (.t 14) (.t 19), guard := some (13, true) },
    { dst := some 21, op := .pick (.t 13) (.t 20) (.c (.bool false)) },
    { dst := some 22, op := .mov (.t 21) },
    { dst := some 23, op := .mov (.t 2), guard := some (22, true) },
    { dst := some 24, op := .mov (.t 0), guard := some (22, true) },
    { dst := some 25, op := .nilck (.t 24), guard := some (22, true) },
    { dst := some 26, op := .fad 0 (.t 25), guard := some (22, true) },
    { dst := some 27, op := .load none (.t 26), guard := some (22, true) },
    { dst := some 28, op := .lenS (.t 27), guard := some (22, true) },
    { dst := some 29, op := .mov (.t 1), guard := some (22, true) },
    { dst := some 30, op := .bin .sub (.t 28) (.t 29), guard := some (22, true) },
    { dst := some 31, op := .bin .leq (.t 23) (.t 30), guard := some (22, true) },
    { dst := some 32, op := .pick (.t 22) (.t 31) (.c (.bool false)) },
    { dst := some 6, op := .mov (.t 32) }])
  (.ret))))
/-- with its results -/
def a36 : AFun := ⟨c36, [(6, none)], 33⟩

/-- (*estreat/estreatref09.Disk).step: parameters *estreatref09.Disk -/
def c37 : AC :=
  (.seq (.reg false [
    { dst := some 2, op := .mov (.c (.int .i64 0)) }])
  ((.seq ((.seq (.reg false [
    { dst := some 3, op := .mov (.t 0) },
    { dst := some 4, op := .nilck (.t 3) },
    { dst := some 5, op := .fad 3 (.t 4) },
    { dst := some 6, op := .load none (.t 5) }])
  (.cond (.t 6) ((.seq (.reg false [
    { dst := some 7, op := .mov (.t 0) },
    { dst := some 8, op := .nilck (.t 7) },
    { dst := some 9, op := .fad 4 (.t 8) },
    { dst := some 10, op := .load none (.t 9) },
    { dst := some 11, op := .bin .sub (.t 10) (.c (.int .i64 1)) },
    { dst := some 12, op := .nilck (.t 7) },
    { dst := some 13, op := .fad 4 (.t 12) },
    { dst := none, op := .store 1 (.t 13) (.t 11) }])
  (.keep [0] [100000, 100002] (.reg false [
    { dst := some 14, op := .mov (.t 0) },
    { dst := some 15, op := .mov (.t 0) },
    { dst := some 16, op := .nilck (.t 15) },
    { dst := some 17, op := .fad 4 (.t 16) },
    { dst := some 18, op := .load none (.t 17) },
    { dst := some 19, op := .bin .leq (.t 18) (.c (.int .i64 0)) },
    { dst := some 20, op := .nilck (.t 14) },
    { dst := some 21, op := .fad 2 (.t 20) },
    { dst := none, op := .store 1 (.t 21) (.t 19) }])))) (.skip))))
  (.keep [] [100000, 100002] ((.seq (.reg false [
    { dst := some 2, op := .mov (.c (.int .i64 0)) }])
  (.ret)))))))
/-- with its results -/
def a37 : AFun := ⟨c37, [(2, none)], 22⟩

def b38_0 : AC :=
  (.seq ((.seq (.reg false [
    { dst := some 7, op := .mov (.t 3) },
    { dst := some 8, op := .bin .geq (.t 7) (.c (.int .i64 0)) }])
  (.cond (.t 8) (.skip) (.exit 0))))
  ((.seq (.block 1 ((.seq (.reg false [
    { dst := some 11, op := .mov (.t 0) },
    { dst := some 12, op := .mov (.t 3) },
    { dst := some 13, op := .load none (.t 1) },
    { dst := some 14, op := .mov (.t 3) },
    { dst := some 15, op := .iad 3 (.t 13) (.t 14) },
    { dst := some 16, op := .load (some 3) (.t 15) },
    { dst := some 17, op := .callv 18000 (.t 11) [(.t 12), (.t 16)] },
    { dst := some 18, op := .un .not (.t 17) }])
  (.cond (.t 18) (.ret) (.skip)))))
  (.keep [0, 1, 3] [] (.reg false [
    { dst := some 9, op := .mov (.t 3) },
    { dst := some 10, op := .bin .sub (.t 9) (.c (.int .i64 1)) },
    { dst := some 3, op := .mov (.t 10) }])))))
/-- slices.Backward[[]estreat/disk.write,estreat/disk.write]$1: parameters func(int, disk.write) bool -/
def c38 : AC :=
  (.seq (.reg false [
    { dst := some 4, op := .load none (.t 1) },
    { dst := some 5, op := .len (.t 4) },
    { dst := some 6, op := .bin .sub (.t 5) (.c (.int .i64 1)) },
    { dst := some 3, op := .mov (.t 6) }])
  (.keep [0, 1, 3] [] (.block 0 (.loop [0, 1, 3] [] b38_0))))
/-- with its results -/
def a38 : AFun := ⟨c38, [], 19⟩

def kh23i_0 : List Nat := [5, 69000, 100000, 100001, 100002, 100200, 100202, 100403, 3230007, 3230014, 101000000, 101000001, 101200001]
def b23i_0 : AC :=
  (.seq ((.seq (.reg false [
    { dst := some 8, op := .mov (.t 4) },
    { dst := some 9, op := .bin .lss (.t 8) (.c (.int .i64 7)) }])
  (.cond (.t 9) (.skip) (.exit 0))))
  ((.seq (.block 1 (.reg false [
    { dst := some 12, op := .mov (.t 3) },
    { dst := some 13, op := .bslice 3230013 1 [(.int .u8 0)] 1 [(0, (.c (.int .u8 195)))] },
    { dst := some 14, op := .app 3230014 1 1 (.t 12) (.t 13) },
    { dst := some 3, op := .mov (.t 14) }]))
  (.keep [0, 3, 4] kh23i_0 (.reg false [
    { dst := some 10, op := .mov (.t 4) },
    { dst := some 11, op := .bin .add (.t 10) (.c (.int .i64 1)) },
    { dst := some 4, op := .mov (.t 11) }])))))
/-- estreat/estreatkeep.Lent: parameters []uint8 -/
def c23i : AC :=
  (.seq (.reg false [
    { dst := some 2, op := .mov (.c .nilS) }])
  ((.seq (.reg false [
    { dst := some 3, op := .mov (.c .nilS) }])
  ((.seq (.reg false [
    { dst := some 5, op := .mov (.t 3) },
    { dst := some 6, op := .mov (.t 0) },
    { dst := some 7, op := .app 3230007 1 1 (.t 5) (.t 6) },
    { dst := some 3, op := .mov (.t 7) }])
  (.keep [0, 3] kh23i_0 ((.seq ((.seq (.reg false [
    { dst := some 4, op := .mov (.c (.int .i64 0)) }])
  (.block 0 (.loop [0, 3, 4] kh23i_0 b23i_0))))
  (.keep [0, 3] kh23i_0 ((.seq (.reg false [
    { dst := some 15, op := .mov (.t 3) },
    { dst := some 16, op := .mov (.t 0) },
    { dst := some 17, op := .len (.t 16) },
    { dst := some 18, op := .slc 1 (.t 15) none (some (.t 17)) none },
    { dst := some 2, op := .mov (.t 18) }])
  (.ret))))))))))))
/-- with its results -/
def a23i : AFun := ⟨c23i, [(2, none)], 19⟩

def kh24i_0 : List Nat := [5, 69000, 100000, 100001, 100002, 100200, 100202, 100403, 3230007, 3230013, 3230014, 3230017, 101000000, 101000001, 101200001]
def b24i_0 : AC :=
  (.seq ((.seq (.reg false [
    { dst := some 19, op := .mov (.t 6) },
    { dst := some 20, op := .mov (.t 5) },
    { dst := some 21, op := .len (.t 20) },
    { dst := some 22, op := .bin .lss (.t 19) (.t 21) }])
  (.cond (.t 22) (.skip) (.exit 0))))
  (.keep [5, 6] kh24i_0 ((.seq (.block 1 ((.seq (.reg false [
    { dst := some 25, op := .mov (.t 5) },
    { dst := some 26, op := .mov (.t 6) },
    { dst := some 27, op := .iad 1 (.t 25) (.t 26) },
    { dst := some 28, op := .load none (.t 27) },
    { dst := some 29, op := .bin .neq (.t 28) (.c (.int .u8 195)) }])
  (.cond (.t 29) ((.seq (.reg false [
    { dst := some 4, op := .mov (.c (.bool false)) }])
  (.ret))) (.skip)))))
  (.keep [5, 6] kh24i_0 (.reg false [
    { dst := some 23, op := .mov (.t 6) },
    { dst := some 24, op := .bin .add (.t 23) (.c (.int .i64 1)) },
    { dst := some 6, op := .mov (.t 24) }]))))))
/-- estreat/estreatkeep.Kept: parameters []uint8 []uint8 -/
def c24i : AC :=
  (.seq (.reg false [
    { dst := some 4, op := .mov (.c (.bool false)) }])
  ((.seq ((.seq (.reg false [
    { dst := some 7, op := .mov (.t 0) },
    { dst := some 8, op := .b2s (.t 7) },
    { dst := some 9, op := .mov (.t 1) },
    { dst := some 10, op := .b2s (.t 9) },
    { dst := some 11, op := .bin .neq (.t 8) (.t 10) }])
  (.cond (.t 11) ((.seq (.reg false [
    { dst := some 4, op := .mov (.c (.bool false)) }])
  (.ret))) (.skip))))
  (.keep [0, 1] kh24i_0 ((.seq (.reg false [
    { dst := some 12, op := .mov (.t 0) },
    { dst := some 13, op := .mov (.t 1) },
    { dst := some 14, op := .len (.t 13) },
    { dst := some 15, op := .bin .add (.t 14) (.c (.int .i64 7)) },
    { dst := some 16, op := .slc 1 (.t 12) none (some (.t 15)) none },
    { dst := some 5, op := .mov (.t 16) }])
  (.keep [1, 5] kh24i_0 ((.seq ((.seq (.reg false [
    { dst := some 17, op := .mov (.t 1) },
    { dst := some 18, op := .len (.t 17) },
    { dst := some 6, op := .mov (.t 18) }])
  (.block 0 (.loop [5, 6] kh24i_0 b24i_0))))
  (.keep [] kh24i_0 ((.seq (.reg false [
    { dst := some 4, op := .mov (.c (.bool true)) }])
  (.ret)))))))))))))
/-- with its results -/
def a24i : AFun := ⟨c24i, [(4, none)], 30⟩

/-- slices.Backward[[]estreat/disk.write,estreat/disk.write]: parameters []disk.write -/
def c30i : AC :=
  (.seq (.reg false [
    { dst := some 1, op := .box 3300001 (.t 0) },
    { dst := some 2, op := .mov (.c .nilF) }])
  ((.seq (.reg false [
    { dst := some 3, op := .mkf 38 [(.t 1)] },
    { dst := some 2, op := .mov (.t 3) }])
  (.ret))))
/-- with its results -/
def a30i : AFun := ⟨c30i, [(2, none)], 4⟩

def kh38i_0 : List Nat := [1, 3, 8, 9, 100000, 100001, 100002, 2900000, 3300001]
def b38i_0 : AC :=
  (.seq ((.seq (.reg false [
    { dst := some 7, op := .mov (.t 3) },
    { dst := some 8, op := .bin .geq (.t 7) (.c (.int .i64 0)) }])
  (.cond (.t 8) (.skip) (.exit 0))))
  ((.seq (.block 1 ((.seq (.reg false [
    { dst := some 11, op := .mov (.t 0) },
    { dst := some 12, op := .mov (.t 3) },
    { dst := some 13, op := .load none (.t 1) },
    { dst := some 14, op := .mov (.t 3) },
    { dst := some 15, op := .iad 3 (.t 13) (.t 14) },
    { dst := some 16, op := .load (some 3) (.t 15) },
    { dst := some 17, op := .callv 3380018000 (.t 11) [(.t 12), (.t 16)] },
    { dst := some 18, op := .un .not (.t 17) }])
  (.cond (.t 18) (.ret) (.skip)))))
  (.keep [0, 1, 3] kh38i_0 (.reg false [
    { dst := some 9, op := .mov (.t 3) },
    { dst := some 10, op := .bin .sub (.t 9) (.c (.int .i64 1)) },
    { dst := some 3, op := .mov (.t 10) }])))))
/-- slices.Backward[[]estreat/disk.write,estreat/disk.write]$1: parameters func(int, disk.write) bool -/
def c38i : AC :=
  (.seq (.reg false [
    { dst := some 4, op := .load none (.t 1) },
    { dst := some 5, op := .len (.t 4) },
    { dst := some 6, op := .bin .sub (.t 5) (.c (.int .i64 1)) },
    { dst := some 3, op := .mov (.t 6) }])
  (.keep [0, 1, 3] kh38i_0 (.block 0 (.loop [0, 1, 3] kh38i_0 b38i_0))))
/-- with its results -/
def a38i : AFun := ⟨c38i, [], 19⟩

end Go.Abs.Try

namespace Go.Abs.Try
open Go Go.Abs Go.Proofs
/-- the seat's code -/
def T : List (Nat × AFun) := [(3, a3), (4, a4), (5, a5), (6, a6), (7, a7), (8, a8), (9, a9), (10, a10), (11, a11), (12, a12), (13, a13), (14, a14), (15, a15), (16, a16), (17, a17), (18, a18), (19, a19), (20, a20), (21, a21), (22, a22), (23, a23), (24, a24), (25, a25), (26, a26), (27, a27), (28, a28), (29, a29), (30, a30), (31, a31), (32, a32), (33, a33), (34, a34), (35, a35), (36, a36), (37, a37), (38, a38)]
def T2 : List (Nat × AFun) := [(23, a23i), (24, a24i), (30, a30i), (38, a38i)]
theorem tab : tabOK Try.prog T = true := by kernel_rfl
theorem tab2 : tabOK Try.prog T2 = true := by kernel_rfl
def Q (n : Nat) : Nat → Option FnF := Phi T T2 3000 n
def E (n f : Nat) : CallF := Ev T T2 3000 n f
def I (n f : Nat) : InlF := Iv T T2 3000 n f
def J (n f : Nat) : Nat → InlF → InlF := Jv T T2 3000 n f
theorem q3 (n : Nat) : Q (n + 1) 3 = some ⟨E (n + 1) 3, I (n + 1) 3, J (n + 1) 3, InlF.none⟩ := rfl
theorem e3 (n : Nat) : E (n + 1) 3 = evFun (Q n) 3000 a3 := rfl
theorem q4 (n : Nat) : Q (n + 1) 4 = some ⟨E (n + 1) 4, I (n + 1) 4, J (n + 1) 4, InlF.none⟩ := rfl
theorem e4 (n : Nat) : E (n + 1) 4 = evFun (Q n) 3000 a4 := rfl
theorem q5 (n : Nat) : Q (n + 1) 5 = some ⟨E (n + 1) 5, I (n + 1) 5, J (n + 1) 5, InlF.none⟩ := rfl
theorem e5 (n : Nat) : E (n + 1) 5 = evFun (Q n) 3000 a5 := rfl
theorem q6 (n : Nat) : Q (n + 1) 6 = some ⟨E (n + 1) 6, I (n + 1) 6, J (n + 1) 6, InlF.none⟩ := rfl
theorem e6 (n : Nat) : E (n + 1) 6 = evFun (Q n) 3000 a6 := rfl
theorem q7 (n : Nat) : Q (n + 1) 7 = some ⟨E (n + 1) 7, I (n + 1) 7, J (n + 1) 7, InlF.none⟩ := rfl
theorem e7 (n : Nat) : E (n + 1) 7 = evFun (Q n) 3000 a7 := rfl
theorem q8 (n : Nat) : Q (n + 1) 8 = some ⟨E (n + 1) 8, I (n + 1) 8, J (n + 1) 8, InlF.none⟩ := rfl
theorem e8 (n : Nat) : E (n + 1) 8 = evFun (Q n) 3000 a8 := rfl
theorem q9 (n : Nat) : Q (n + 1) 9 = some ⟨E (n + 1) 9, I (n + 1) 9, J (n + 1) 9, InlF.none⟩ := rfl
theorem e9 (n : Nat) : E (n + 1) 9 = evFun (Q n) 3000 a9 := rfl
theorem q10 (n : Nat) : Q (n + 1) 10 = some ⟨E (n + 1) 10, I (n + 1) 10, J (n + 1) 10, InlF.none⟩ := rfl
theorem e10 (n : Nat) : E (n + 1) 10 = evFun (Q n) 3000 a10 := rfl
theorem q11 (n : Nat) : Q (n + 1) 11 = some ⟨E (n + 1) 11, I (n + 1) 11, J (n + 1) 11, InlF.none⟩ := rfl
theorem e11 (n : Nat) : E (n + 1) 11 = evFun (Q n) 3000 a11 := rfl
theorem q12 (n : Nat) : Q (n + 1) 12 = some ⟨E (n + 1) 12, I (n + 1) 12, J (n + 1) 12, InlF.none⟩ := rfl
theorem e12 (n : Nat) : E (n + 1) 12 = evFun (Q n) 3000 a12 := rfl
theorem q13 (n : Nat) : Q (n + 1) 13 = some ⟨E (n + 1) 13, I (n + 1) 13, J (n + 1) 13, InlF.none⟩ := rfl
theorem e13 (n : Nat) : E (n + 1) 13 = evFun (Q n) 3000 a13 := rfl
theorem q14 (n : Nat) : Q (n + 1) 14 = some ⟨E (n + 1) 14, I (n + 1) 14, J (n + 1) 14, InlF.none⟩ := rfl
theorem e14 (n : Nat) : E (n + 1) 14 = evFun (Q n) 3000 a14 := rfl
theorem q15 (n : Nat) : Q (n + 1) 15 = some ⟨E (n + 1) 15, I (n + 1) 15, J (n + 1) 15, InlF.none⟩ := rfl
theorem e15 (n : Nat) : E (n + 1) 15 = evFun (Q n) 3000 a15 := rfl
theorem q16 (n : Nat) : Q (n + 1) 16 = some ⟨E (n + 1) 16, I (n + 1) 16, J (n + 1) 16, InlF.none⟩ := rfl
theorem e16 (n : Nat) : E (n + 1) 16 = evFun (Q n) 3000 a16 := rfl
theorem q17 (n : Nat) : Q (n + 1) 17 = some ⟨E (n + 1) 17, I (n + 1) 17, J (n + 1) 17, InlF.none⟩ := rfl
theorem e17 (n : Nat) : E (n + 1) 17 = evFun (Q n) 3000 a17 := rfl
theorem q18 (n : Nat) : Q (n + 1) 18 = some ⟨E (n + 1) 18, I (n + 1) 18, J (n + 1) 18, InlF.none⟩ := rfl
theorem e18 (n : Nat) : E (n + 1) 18 = evFun (Q n) 3000 a18 := rfl
theorem q19 (n : Nat) : Q (n + 1) 19 = some ⟨E (n + 1) 19, I (n + 1) 19, J (n + 1) 19, InlF.none⟩ := rfl
theorem e19 (n : Nat) : E (n + 1) 19 = evFun (Q n) 3000 a19 := rfl
theorem q20 (n : Nat) : Q (n + 1) 20 = some ⟨E (n + 1) 20, I (n + 1) 20, J (n + 1) 20, InlF.none⟩ := rfl
theorem e20 (n : Nat) : E (n + 1) 20 = evFun (Q n) 3000 a20 := rfl
theorem q21 (n : Nat) : Q (n + 1) 21 = some ⟨E (n + 1) 21, I (n + 1) 21, J (n + 1) 21, InlF.none⟩ := rfl
theorem e21 (n : Nat) : E (n + 1) 21 = evFun (Q n) 3000 a21 := rfl
theorem q22 (n : Nat) : Q (n + 1) 22 = some ⟨E (n + 1) 22, I (n + 1) 22, J (n + 1) 22, InlF.none⟩ := rfl
theorem e22 (n : Nat) : E (n + 1) 22 = evFun (Q n) 3000 a22 := rfl
theorem q23 (n : Nat) : Q (n + 1) 23 = some ⟨E (n + 1) 23, I (n + 1) 23, J (n + 1) 23, InlF.none⟩ := rfl
theorem e23 (n : Nat) : E (n + 1) 23 = evFun (Q n) 3000 a23 := rfl
theorem q24 (n : Nat) : Q (n + 1) 24 = some ⟨E (n + 1) 24, I (n + 1) 24, J (n + 1) 24, InlF.none⟩ := rfl
theorem e24 (n : Nat) : E (n + 1) 24 = evFun (Q n) 3000 a24 := rfl
theorem q25 (n : Nat) : Q (n + 1) 25 = some ⟨E (n + 1) 25, I (n + 1) 25, J (n + 1) 25, InlF.none⟩ := rfl
theorem e25 (n : Nat) : E (n + 1) 25 = evFun (Q n) 3000 a25 := rfl
theorem q26 (n : Nat) : Q (n + 1) 26 = some ⟨E (n + 1) 26, I (n + 1) 26, J (n + 1) 26, InlF.none⟩ := rfl
theorem e26 (n : Nat) : E (n + 1) 26 = evFun (Q n) 3000 a26 := rfl
theorem q27 (n : Nat) : Q (n + 1) 27 = some ⟨E (n + 1) 27, I (n + 1) 27, J (n + 1) 27, InlF.none⟩ := rfl
theorem e27 (n : Nat) : E (n + 1) 27 = evFun (Q n) 3000 a27 := rfl
theorem q28 (n : Nat) : Q (n + 1) 28 = some ⟨E (n + 1) 28, I (n + 1) 28, J (n + 1) 28, InlF.none⟩ := rfl
theorem e28 (n : Nat) : E (n + 1) 28 = evFun (Q n) 3000 a28 := rfl
theorem q29 (n : Nat) : Q (n + 1) 29 = some ⟨E (n + 1) 29, I (n + 1) 29, J (n + 1) 29, InlF.none⟩ := rfl
theorem e29 (n : Nat) : E (n + 1) 29 = evFun (Q n) 3000 a29 := rfl
theorem q30 (n : Nat) : Q (n + 1) 30 = some ⟨E (n + 1) 30, I (n + 1) 30, J (n + 1) 30, InlF.none⟩ := rfl
theorem e30 (n : Nat) : E (n + 1) 30 = evFun (Q n) 3000 a30 := rfl
theorem q31 (n : Nat) : Q (n + 1) 31 = some ⟨E (n + 1) 31, I (n + 1) 31, J (n + 1) 31, InlF.none⟩ := rfl
theorem e31 (n : Nat) : E (n + 1) 31 = evFun (Q n) 3000 a31 := rfl
theorem q32 (n : Nat) : Q (n + 1) 32 = some ⟨E (n + 1) 32, I (n + 1) 32, J (n + 1) 32, InlF.none⟩ := rfl
theorem e32 (n : Nat) : E (n + 1) 32 = evFun (Q n) 3000 a32 := rfl
theorem q33 (n : Nat) : Q (n + 1) 33 = some ⟨E (n + 1) 33, I (n + 1) 33, J (n + 1) 33, InlF.none⟩ := rfl
theorem e33 (n : Nat) : E (n + 1) 33 = evFun (Q n) 3000 a33 := rfl
theorem q34 (n : Nat) : Q (n + 1) 34 = some ⟨E (n + 1) 34, I (n + 1) 34, J (n + 1) 34, InlF.none⟩ := rfl
theorem e34 (n : Nat) : E (n + 1) 34 = evFun (Q n) 3000 a34 := rfl
theorem q35 (n : Nat) : Q (n + 1) 35 = some ⟨E (n + 1) 35, I (n + 1) 35, J (n + 1) 35, InlF.none⟩ := rfl
theorem e35 (n : Nat) : E (n + 1) 35 = evFun (Q n) 3000 a35 := rfl
theorem q36 (n : Nat) : Q (n + 1) 36 = some ⟨E (n + 1) 36, I (n + 1) 36, J (n + 1) 36, InlF.none⟩ := rfl
theorem e36 (n : Nat) : E (n + 1) 36 = evFun (Q n) 3000 a36 := rfl
theorem q37 (n : Nat) : Q (n + 1) 37 = some ⟨E (n + 1) 37, I (n + 1) 37, J (n + 1) 37, InlF.none⟩ := rfl
theorem e37 (n : Nat) : E (n + 1) 37 = evFun (Q n) 3000 a37 := rfl
theorem q38 (n : Nat) : Q (n + 1) 38 = some ⟨E (n + 1) 38, I (n + 1) 38, J (n + 1) 38, InlF.none⟩ := rfl
theorem e38 (n : Nat) : E (n + 1) 38 = evFun (Q n) 3000 a38 := rfl
theorem i23 (n : Nat) : I (n + 1) 23 = evInl (Q n) 3000 a23i := rfl
theorem j23 (n : Nat) : J (n + 1) 23 = evItr (Q n) 3000 a23i := rfl
theorem i24 (n : Nat) : I (n + 1) 24 = evInl (Q n) 3000 a24i := rfl
theorem j24 (n : Nat) : J (n + 1) 24 = evItr (Q n) 3000 a24i := rfl
theorem i30 (n : Nat) : I (n + 1) 30 = evInl (Q n) 3000 a30i := rfl
theorem j30 (n : Nat) : J (n + 1) 30 = evItr (Q n) 3000 a30i := rfl
theorem i38 (n : Nat) : I (n + 1) 38 = evInl (Q n) 3000 a38i := rfl
theorem j38 (n : Nat) : J (n + 1) 38 = evItr (Q n) 3000 a38i := rfl
theorem ref (n f : Nat) {F} (h : Q n f = some F) : Refines Try.prog f (E n f) := Ev_refines tab tab2 h
end Go.Abs.Try

namespace Go.Abs.Try
open Go Go.Abs
theorem ok_rows : ∀ (rows : List (List AV)), (∀ r, r ∈ rows → okRow [.int .u8] r) → ∃ mm : List UInt8, rows = byteRows mm
  | [], _ => ⟨[], rfl⟩
  | r :: rs, h => by
    obtain ⟨n, vs, rfl, hw, h2⟩ := (h r List.mem_cons_self).int
    obtain rfl := h2.nil_inv
    obtain ⟨mm, rfl⟩ := ok_rows rs (fun x hx => h x (List.mem_cons_of_mem _ hx))
    simp only [Lit.wf, Bool.and_eq_true, decide_eq_true_eq] at hw
    have e1 : IntKind.min .u8 = 0 := rfl
    have e2 : IntKind.max .u8 = 255 := rfl
    refine ⟨UInt8.ofNat n.toNat :: mm, ?_⟩
    simp only [byteRows, List.map_cons]
    congr 2
    simp
    omega

end Go.Abs.Try

namespace Go.Abs.Try
open Go Go.Abs
set_option maxHeartbeats 16000000
set_option maxRecDepth 100000
set_option linter.unusedSimpArgs false
set_option linter.unusedVariables false

theorem awake_ok : E 8 11 [] = some (.bool true, []) := by kernel_rfl
theorem byteRows_len (l : List UInt8) : (byteRows l).length = l.length := by simp [byteRows]
theorem byteRows_append (a b : List UInt8) : byteRows (a ++ b) = byteRows a ++ byteRows b := by simp [byteRows]
theorem byteRows_take (n : Nat) (l : List UInt8) : (byteRows l).take n = byteRows (l.take n) := by simp [byteRows]
theorem byteRows_drop (n : Nat) (l : List UInt8) : (byteRows l).drop n = byteRows (l.drop n) := by simp [byteRows]

/-- a disk's cells -/
def dkc (b : List (List AV)) (p : AV) (dn st : Bool) (lf : Int) : List AV := [.fr 1 b, p, .bool dn, .bool st, .int .i64 lf]
def PCell (p : AV) : Prop := p = .nilS ∨ ∃ P, p = .fr 3 P

theorem ready33 (m b p dn st lf) (hp : PCell p) : E (m + 1) 33 [.pv (dkc b p dn st lf)] = some (.int .i64 (if dn then 80 else 0), [dkc b p dn st lf]) := by
  rw [e33, dkc]
  rcases hp with rfl | ⟨P, rfl⟩ <;> cases dn <;> simp -implicitDefEqProofs [a33, c33]
theorem ready33n (m : Nat) : E (m + 1) 33 [.nilP] = some (.int .i64 3, []) := by
  rw [e33]; simp -implicitDefEqProofs [a33, c33]
theorem room19 (m b p dn st lf) (hp : PCell p) : E (m + 1) 19 [.pv (dkc b p dn st lf)] = some (.int .i64 b.length, [dkc b p dn st lf]) := by
  rw [e19, dkc]
  rcases hp with rfl | ⟨P, rfl⟩ <;> simp -implicitDefEqProofs [a19, c19]
theorem room19n (m : Nat) : E (m + 1) 19 [.nilP] = some (.int .i64 0, []) := by
  rw [e19]; simp -implicitDefEqProofs [a19, c19]
theorem down20 (m b p dn st lf) (hp : PCell p) : E (m + 1) 20 [.pv (dkc b p dn st lf)] = some (.bool dn, [dkc b p dn st lf]) := by
  rw [e20, dkc]
  rcases hp with rfl | ⟨P, rfl⟩ <;> simp -implicitDefEqProofs [a20, c20]
theorem down20n (m : Nat) : E (m + 1) 20 [.nilP] = some (.bool false, []) := by
  rw [e20]; simp -implicitDefEqProofs [a20, c20]
/-- are n places from at on in a row of k? -/
def inB (k : Nat) (at_ n : Int) : Bool := decide (0 ≤ at_) && decide (0 ≤ n) && decide (at_ ≤ k) && decide (n ≤ k - at_)
theorem in31 (m b p dn st lf) (hp : PCell p) (hb : b.length ≤ 1000000) (at_ n : Int) : E (m + 1) 31 [.pv (dkc b p dn st lf), .int .i64 at_, .int .i64 n] = some (.bool (inB b.length at_ n), [dkc b p dn st lf]) := by
  rw [e31, dkc, inB]
  by_cases h1 : 0 ≤ at_
  · by_cases h2 : 0 ≤ n
    · by_cases h3 : at_ ≤ b.length
      · have w : IntKind.i64.wrap ((b.length : Int) - at_) = (b.length : Int) - at_ := wrap_i64 _ (by omega) (by omega)
        rcases hp with rfl | ⟨P, rfl⟩ <;> simp -implicitDefEqProofs [a31, c31, h1, h2, h3, w]
      · rcases hp with rfl | ⟨P, rfl⟩ <;> simp -implicitDefEqProofs [a31, c31, h1, h2, h3]
    · rcases hp with rfl | ⟨P, rfl⟩ <;> simp -implicitDefEqProofs [a31, c31, h1, h2]
  · rcases hp with rfl | ⟨P, rfl⟩ <;> simp -implicitDefEqProofs [a31, c31, h1]
/-- a call that answered OK -/
def stepD (st dn : Bool) (lf : Int) : Bool × Int := if st then (decide (lf - 1 ≤ 0), lf - 1) else (dn, lf)
theorem step34 (m b p dn st lf) (hp : PCell p) (h0 : -10 ≤ lf) (h1 : lf ≤ 1000000) : E (m + 1) 34 [.pv (dkc b p dn st lf)] = some (.int .i64 0, [dkc b p (stepD st dn lf).1 st (stepD st dn lf).2]) := by
  rw [e34, dkc, dkc, stepD]
  have w : IntKind.i64.wrap (lf - 1) = lf - 1 := wrap_i64 _ (by omega) (by omega)
  rcases hp with rfl | ⟨P, rfl⟩ <;> cases st <;> simp -implicitDefEqProofs [a34, c34, w]
theorem clone_nil (m : Nat) : E (m + 1) 32 [.nilS] = some (.nilS, []) := by
  rw [e32]; simp -implicitDefEqProofs [a32, c32]
theorem clone_emp (m : Nat) : E (m + 1) 32 [.emp] = some (.emp, []) := by
  rw [e32]; simp -implicitDefEqProofs [a32, c32, aappend]
/-- a clone of bytes that are not nil -/
def cl (l : List UInt8) : AV := if l = [] then .emp else .fr 1 (byteRows l)
theorem clone32 (m : Nat) (t : Bool) (l : List UInt8) (hl : l.length ≤ 1000000) : E (m + 1) 32 [.ro t 1 (byteRows l)] = some (cl l, []) := by
  rw [e32, cl]
  cases l with
  | nil => simp -implicitDefEqProofs [a32, c32, aappend, byteRows]
  | cons x l =>
    have hb := byteRows_len l
    have q : l.length + 1 ≤ 17592186044416 := by simp at hl; omega
    have e : byteRows (x :: l) = [.int .u8 x.toNat] :: byteRows l := rfl
    rw [e]
    generalize byteRows l = B at *
    simp -implicitDefEqProofs [a32, c32, aappend, maxBytes, hb, q, hl, show l.length ≤ 17592186044415 by omega]
    exact List.take_of_length_le (by omega)
end Go.Abs.Try

namespace Go.Abs.Try
open Go Go.Abs
set_option maxHeartbeats 16000000
set_option maxRecDepth 100000
set_option linter.unusedSimpArgs false
set_option linter.unusedVariables false

/-- bytes behind a write -/
def put (b : List UInt8) (a : Nat) (l : List UInt8) : List UInt8 := b.take a ++ (l ++ b.drop (a + l.length))
theorem put_len (b a l) (h : a + l.length ≤ b.length) : (put b a l).length = b.length := by simp [put]; omega
/-- bytes at rest -/
def fz (n : Bool) (l : List UInt8) : AV := if l = [] then (if n then .nilS else .emp) else .ro false 1 (byteRows l)
def pushP (p : AV) (row : List AV) : AV := match p with | .fr 3 P => .fr 3 (P ++ [row]) | _ => .fr 3 [row]
theorem pushP_cell (p row) : PCell (pushP p row) := by
  unfold pushP
  split
  · exact .inr ⟨_, rfl⟩
  · exact .inr ⟨_, rfl⟩
/-- bytes as an argument: nil (n), or lent (t), or at rest -/
def BArg (n : Bool) (l : List UInt8) (v : AV) : Prop := (n = true ∧ l = [] ∧ v = .nilS) ∨ (n = false ∧ ∃ t, v = .ro t 1 (byteRows l))

theorem inB_spec {k : Nat} {at_ n : Int} (h : inB k at_ n = true) : ∃ a j : Nat, at_ = a ∧ n = j ∧ a + j ≤ k := by
  simp only [inB, Bool.and_eq_true, decide_eq_true_eq] at h
  exact ⟨at_.toNat, n.toNat, by omega, by omega, by omega⟩

theorem write17 (m : Nat) (b : List UInt8) (p : AV) (st : Bool) (lf : Int) (hp : PCell p) (hb : b.length ≤ 1000000) (h0 : -10 ≤ lf) (h1 : lf ≤ 1000000) (hP : ∀ P, p = .fr 3 P → P.length ≤ 100000) (a : Nat) (n : Bool) (l : List UInt8) (v : AV) (hv : BArg n l v) (hal : a + l.length ≤ b.length) :
    E (m + 2) 17 [.pv (dkc (byteRows b) p false st lf), .int .i64 a, v] = some (.int .i64 0, [dkc (byteRows (put b a l)) (pushP p [.int .i64 a, fz n l, fz false ((b.drop a).take l.length)]) (stepD st false lf).1 st (stepD st false lf).2]) := by
  rw [e17]
  have hbl := byteRows_len b
  have hll := byteRows_len l
  have hR := ready33 m (byteRows b) p false st lf hp
  have hI := in31 m (byteRows b) p false st lf hp (by omega) a l.length
  have hin : inB (byteRows b).length a l.length = true := by simp [inB, hbl]; omega
  rw [hin] at hI
  have w : IntKind.i64.wrap ((a : Int) + (l.length : Int)) = (a : Int) + (l.length : Int) := wrap_i64 _ (by omega) (by omega)
  have hc3 : 0 ≤ (a : Int) + (l.length : Int) := by omega
  have hc4 : (a : Int) + (l.length : Int) ≤ (b.length : Int) := by omega
  have hc5 : ((a : Int) + (l.length : Int)).toNat = a + l.length := by omega
  have hS := fun P hP => step34 m (byteRows (put b a l)) P false st lf hP h0 h1
  have hW := clone32 m true ((b.drop a).take l.length) (by rw [List.length_take]; omega)
  have e1 : ((byteRows b).take (a + l.length)).drop a = byteRows ((b.drop a).take l.length) := by
    rw [byteRows_take, byteRows_drop, List.drop_take]; congr 2; omega
  have e1' : ((byteRows b).drop a).take l.length = byteRows ((b.drop a).take l.length) := by rw [byteRows_drop, byteRows_take]
  have eput : byteRows (put b a l) = (byteRows b).take a ++ (byteRows l ++ (byteRows b).drop (a + l.length)) := by
    rw [put, byteRows_append, byteRows_append, byteRows_take, byteRows_drop]
  have hwl : ((b.drop a).take l.length).length = l.length := by rw [List.length_take, List.length_drop]; omega
  have hc1 : (a : Int) ≤ (b.length : Int) := by omega
  have hc2 : (a + l.length) ≤ b.length := by omega
  have hLt : (byteRows l).take l.length = byteRows l := List.take_of_length_le (by omega)
  have hBt : (byteRows b).take b.length = byteRows b := List.take_of_length_le (by omega)
  by_cases h0' : l = []
  · subst h0'
    have hwe : (b.drop a).take ([] : List UInt8).length = [] := by simp
    have hpe : put b a [] = b := by simp [put]
    have hcl : cl [] = .emp := by simp [cl]
    rw [hwe, hcl] at hW
    rw [hwe, hpe]
    have hS1 := hS (pushP p [.int .i64 a, fz n [], fz false []]) (pushP_cell _ _)
    rw [hpe] at hS1
    have hf2 : fz false [] = .emp := by simp [fz]
    rw [hf2] at hS1 ⊢
    have hX := clone32 m
    generalize hsd : stepD st false lf = sd at *
    rw [show byteRows [] = [] from rfl] at *
    generalize byteRows b = B at *
    have hc6 : a ≤ b.length := by simpa using hal
    rcases hv with ⟨rfl, _, rfl⟩ | ⟨rfl, t, rfl⟩
    · have hf1 : fz true [] = .nilS := by simp [fz]
      rw [hf1] at hS1 ⊢
      have hY := clone_nil m
      rcases hp with rfl | ⟨P, rfl⟩
      · simp only [pushP, dkc] at hR hI hS1 ⊢
        simp at hR hI hS1 w hc3 hc4
        simp -implicitDefEqProofs [a17, c17, z65, q33, hR, q31, hI, q32, hY, hW, q34, hS1, hbl, w, hc1, hc3, hc4, hc6, hBt, aappend, acopy, maxBytes]
      · have q1 : (P.length + 1) * 56 ≤ 17592186044416 := by have := hP P rfl; omega
        have q2 : ¬ P.length + 1 ≤ P.length := by omega
        have q3 : P.take P.length = P := List.take_of_length_le (Nat.le_refl _)
        have q4 : ∀ row : List AV, (P ++ [row]).take (P.length + 1) = P ++ [row] := fun row => List.take_of_length_le (by simp)
        simp only [pushP, dkc] at hR hI hS1 ⊢
        simp at hR hI hS1 w hc3 hc4
        simp -implicitDefEqProofs [a17, c17, z65, q33, hR, q31, hI, q32, hY, hW, q34, hS1, hbl, w, hc1, hc3, hc4, hc6, hBt, q1, q2, q3, q4, aappend, acopy, maxBytes]
    · have hf1 : fz false [] = .emp := by simp [fz]
      rw [hf1] at hS1 ⊢
      have hY := clone32 m t [] (by simp)
      rw [hcl] at hY
      rw [show byteRows [] = [] from rfl] at hY
      rcases hp with rfl | ⟨P, rfl⟩
      · simp only [pushP, dkc] at hR hI hS1 ⊢
        simp at hR hI hS1 w hc3 hc4
        simp -implicitDefEqProofs [a17, c17, z65, q33, hR, q31, hI, q32, hY, hW, q34, hS1, hbl, w, hc1, hc3, hc4, hc6, hBt, show byteRows [] = [] from rfl, aappend, acopy, maxBytes]
      · have q1 : (P.length + 1) * 56 ≤ 17592186044416 := by have := hP P rfl; omega
        have q2 : ¬ P.length + 1 ≤ P.length := by omega
        have q3 : P.take P.length = P := List.take_of_length_le (Nat.le_refl _)
        have q4 : ∀ row : List AV, (P ++ [row]).take (P.length + 1) = P ++ [row] := fun row => List.take_of_length_le (by simp)
        simp only [pushP, dkc] at hR hI hS1 ⊢
        simp at hR hI hS1 w hc3 hc4
        simp -implicitDefEqProofs [a17, c17, z65, q33, hR, q31, hI, q32, hY, hW, q34, hS1, hbl, w, hc1, hc3, hc4, hc6, hBt, show byteRows [] = [] from rfl, q1, q2, q3, q4, aappend, acopy, maxBytes]
  · have hf1 : fz n l = .ro false 1 (byteRows l) := by simp [fz, h0']
    have hne : ¬ (b.drop a).take l.length = [] := fun e => h0' (List.length_eq_zero_iff.1 (by rw [← hwl, e]; rfl))
    have hf2 : fz false ((b.drop a).take l.length) = .ro false 1 (byteRows ((b.drop a).take l.length)) := by simp only [fz, hne, if_false]
    have hcw : cl ((b.drop a).take l.length) = .fr 1 (byteRows ((b.drop a).take l.length)) := by simp only [cl, hne, if_false]
    rw [hcw] at hW
    rw [hf1, hf2]
    rcases hv with ⟨_, h, _⟩ | ⟨rfl, t, rfl⟩
    · exact absurd h h0'
    have hX := clone32 m t l (by omega)
    have hcx : cl l = .fr 1 (byteRows l) := by simp [cl, h0']
    rw [hcx] at hX
    have hvl : (byteRows ((b.drop a).take l.length)).length = l.length := by rw [byteRows_len, hwl]
    have hS1 := hS (pushP p [.int .i64 a, .ro false 1 (byteRows l), .ro false 1 (byteRows ((b.drop a).take l.length))]) (pushP_cell _ _)
    generalize hsd : stepD st false lf = sd at *
    generalize byteRows ((b.drop a).take l.length) = V at *
    have hPl : (byteRows (put b a l)).length = b.length := by rw [byteRows_len, put_len _ _ _ hal]
    have hPt : (byteRows (put b a l)).take b.length = byteRows (put b a l) := List.take_of_length_le (by omega)
    generalize byteRows (put b a l) = PB at *
    generalize byteRows l = L at *
    generalize byteRows b = B at *
    have hVt : V.take l.length = V := List.take_of_length_le (by omega)
    have eput' := eput.symm
    clear eput
    rcases hp with rfl | ⟨P, rfl⟩
    · simp only [pushP, dkc] at hR hI hS1 ⊢
      simp at hR hI hS1
      simp -implicitDefEqProofs [a17, c17, z65, q33, hR, q31, hI, q32, hX, hW, q34, hS1, hbl, hll, w, e1, e1', hc1, hc2, hLt, hVt, hvl, hBt, hc3, hc4, hc5, eput', hPl, hPt, aappend, acopy, maxBytes]
    · have q1 : (P.length + 1) * 56 ≤ 17592186044416 := by have := hP P rfl; omega
      have q2 : ¬ P.length + 1 ≤ P.length := by omega
      have q3 : P.take P.length = P := List.take_of_length_le (Nat.le_refl _)
      have q4 : ∀ row : List AV, (P ++ [row]).take (P.length + 1) = P ++ [row] := fun row => List.take_of_length_le (by simp)
      simp only [pushP, dkc] at hR hI hS1 ⊢
      simp at hR hI hS1
      simp -implicitDefEqProofs [a17, c17, z65, q33, hR, q31, hI, q32, hX, hW, q34, hS1, hbl, hll, w, e1, e1', hc1, hc2, hLt, hVt, hvl, hBt, hc3, hc4, hc5, eput', hPl, hPt, q1, q2, q3, q4, aappend, acopy, maxBytes]
theorem BArg.len {n : Bool} {l : List UInt8} {v : AV} (hv : BArg n l v) : alen v = some l.length := by
  rcases hv with ⟨_, rfl, rfl⟩ | ⟨_, t, rfl⟩
  · rfl
  · simp [alen, byteRows_len]
/-- a disk that is down, or a place that is none -/
theorem write17d (m : Nat) (b : List UInt8) (p : AV) (st : Bool) (lf : Int) (hp : PCell p) (at_ : Int) (n : Bool) (l : List UInt8) (v : AV) (hv : BArg n l v) :
    E (m + 2) 17 [.pv (dkc (byteRows b) p true st lf), .int .i64 at_, v] = some (.int .i64 80, [dkc (byteRows b) p true st lf]) := by
  rw [e17]
  have hR := ready33 m (byteRows b) p true st lf hp
  generalize byteRows b = B at *
  generalize hL : byteRows l = L at *
  rcases hv with ⟨_, _, rfl⟩ | ⟨_, t, rfl⟩ <;> rcases hp with rfl | ⟨P, rfl⟩ <;>
    (try rw [hL]) <;> simp only [dkc] at hR ⊢ <;> simp at hR <;> simp -implicitDefEqProofs [a17, c17, z65, q33, hR]
theorem write17e (m : Nat) (b : List UInt8) (p : AV) (st : Bool) (lf : Int) (hp : PCell p) (hb : b.length ≤ 1000000) (at_ : Int) (n : Bool) (l : List UInt8) (v : AV) (hv : BArg n l v) (hin : inB b.length at_ l.length = false) :
    E (m + 2) 17 [.pv (dkc (byteRows b) p false st lf), .int .i64 at_, v] = some (.int .i64 81, [dkc (byteRows b) p false st lf]) := by
  rw [e17]
  have hbl := byteRows_len b
  have hR := ready33 m (byteRows b) p false st lf hp
  have hI := in31 m (byteRows b) p false st lf hp (by omega) at_ l.length
  rw [hbl, hin] at hI
  have hBt : (byteRows b).take b.length = byteRows b := List.take_of_length_le (by omega)
  have hll := byteRows_len l
  generalize byteRows b = B at *
  rcases hv with ⟨_, rfl, rfl⟩ | ⟨_, t, rfl⟩ <;> rcases hp with rfl | ⟨P, rfl⟩
  · simp only [dkc] at hR hI ⊢
    simp at hR hI
    simp -implicitDefEqProofs [a17, c17, z65, q33, hR, q31, hI, hBt, hbl]
  · simp only [dkc] at hR hI ⊢
    simp at hR hI
    simp -implicitDefEqProofs [a17, c17, z65, q33, hR, q31, hI, hBt, hbl]
  · generalize byteRows l = L at *
    simp only [dkc] at hR hI ⊢
    simp at hR hI
    simp -implicitDefEqProofs [a17, c17, z65, q33, hR, q31, hI, hBt, hbl, hll]
  · generalize byteRows l = L at *
    simp only [dkc] at hR hI ⊢
    simp at hR hI
    simp -implicitDefEqProofs [a17, c17, z65, q33, hR, q31, hI, hBt, hbl, hll]
theorem write17n (m : Nat) (at_ : Int) (n : Bool) (l : List UInt8) (v : AV) (hv : BArg n l v) : E (m + 2) 17 [.nilP, .int .i64 at_, v] = some (.int .i64 3, []) := by
  rw [e17]
  have hR := ready33n m
  generalize hL : byteRows l = L at *
  rcases hv with ⟨_, _, rfl⟩ | ⟨_, t, rfl⟩ <;> (try rw [hL]) <;> simp -implicitDefEqProofs [a17, c17, z65, q33, hR]
/- ------------------------------------------------ Sync, Stop, Read, New -/
theorem sync18 (m : Nat) (b : List (List AV)) (p : AV) (dn st : Bool) (lf : Int) (hp : PCell p) (h0 : -10 ≤ lf) (h1 : lf ≤ 1000000) :
    E (m + 2) 18 [.pv (dkc b p dn st lf)] = some (.int .i64 (if dn then 80 else 0), [if dn then dkc b p true st lf else dkc b .nilS (stepD st false lf).1 st (stepD st false lf).2]) := by
  rw [e18]
  have hR := ready33 m b p dn st lf hp
  have hS := step34 m b .nilS false st lf (.inl rfl) h0 h1
  generalize hsd : stepD st false lf = sd at *
  cases dn <;> rcases hp with rfl | ⟨P, rfl⟩ <;> simp only [dkc] at hR hS ⊢ <;> simp at hR hS <;> simp -implicitDefEqProofs [a18, c18, q33, hR, q34, hS]
theorem sync18n (m : Nat) : E (m + 2) 18 [.nilP] = some (.int .i64 3, []) := by
  rw [e18]
  have hR := ready33n m
  simp -implicitDefEqProofs [a18, c18, q33, hR]
theorem stop22 (m : Nat) (b : List (List AV)) (p : AV) (dn st : Bool) (lf n : Int) (hp : PCell p) :
    E (m + 2) 22 [.pv (dkc b p dn st lf), .int .i64 n] = some (.int .i64 (if dn then 80 else if n < 0 ∨ 1000000 < n then 1 else 0), [if dn then dkc b p true st lf else if n < 0 ∨ 1000000 < n then dkc b p false st lf else dkc b p (n == 0) true n]) := by
  rw [e22]
  have hR := ready33 m b p dn st lf hp
  cases dn with
  | true => rcases hp with rfl | ⟨P, rfl⟩ <;> simp only [dkc] at hR ⊢ <;> simp at hR <;> simp -implicitDefEqProofs [a22, c22, q33, hR]
  | false =>
    by_cases h1 : n < 0
    · rcases hp with rfl | ⟨P, rfl⟩ <;> simp only [dkc] at hR ⊢ <;> simp at hR <;> simp -implicitDefEqProofs [a22, c22, q33, hR, h1]
    · by_cases h2 : 1000000 < n
      · rcases hp with rfl | ⟨P, rfl⟩ <;> simp only [dkc] at hR ⊢ <;> simp at hR <;> simp -implicitDefEqProofs [a22, c22, q33, hR, h1, h2]
      · rcases hp with rfl | ⟨P, rfl⟩ <;> simp only [dkc] at hR ⊢ <;> simp at hR <;> simp -implicitDefEqProofs [a22, c22, q33, hR, h1, h2]
theorem stop22n (m : Nat) (n : Int) : E (m + 2) 22 [.nilP, .int .i64 n] = some (.int .i64 3, []) := by
  rw [e22]
  have hR := ready33n m
  simp -implicitDefEqProofs [a22, c22, q33, hR]
theorem read16e (m : Nat) (b : List UInt8) (p : AV) (dn st : Bool) (lf : Int) (hp : PCell p) (hb : b.length ≤ 1000000) (at_ n : Int) (hin : inB b.length at_ n = false) :
    E (m + 2) 16 [.pv (dkc (byteRows b) p dn st lf), .int .i64 at_, .int .i64 n] = some (.tup [.nilS, .int .i64 81], [dkc (byteRows b) p dn st lf]) := by
  rw [e16]
  have hbl := byteRows_len b
  have hI := in31 m (byteRows b) p dn st lf hp (by omega) at_ n
  rw [hbl, hin] at hI
  generalize byteRows b = B at *
  rcases hp with rfl | ⟨P, rfl⟩ <;> simp only [dkc] at hI ⊢ <;> simp -implicitDefEqProofs [a16, c16, q31, hI]
theorem read16n (m : Nat) (at_ n : Int) : E (m + 2) 16 [.nilP, .int .i64 at_, .int .i64 n] = some (.tup [.nilS, .int .i64 3], []) := by
  rw [e16]
  simp -implicitDefEqProofs [a16, c16]
theorem read16 (m : Nat) (b : List UInt8) (p : AV) (dn st : Bool) (lf : Int) (hp : PCell p) (hb : b.length ≤ 1000000) (a n : Nat) (hin : a + n ≤ b.length) :
    E (m + 2) 16 [.pv (dkc (byteRows b) p dn st lf), .int .i64 a, .int .i64 n] = some (.tup [cl ((b.drop a).take n), .int .i64 0], [dkc (byteRows b) p dn st lf]) := by
  rw [e16]
  have hbl := byteRows_len b
  have hI := in31 m (byteRows b) p dn st lf hp (by omega) a n
  have hi : inB (byteRows b).length a n = true := by simp [inB, hbl]; omega
  rw [hi] at hI
  have hW := clone32 m true ((b.drop a).take n) (by rw [List.length_take]; omega)
  have e1 : ((byteRows b).drop a).take n = byteRows ((b.drop a).take n) := by rw [byteRows_drop, byteRows_take]
  rw [← e1] at hW
  have w : IntKind.i64.wrap ((a : Int) + (n : Int)) = (a : Int) + (n : Int) := wrap_i64 _ (by omega) (by omega)
  have hc2 : a + n ≤ b.length := hin
  have hc3 : 0 ≤ (a : Int) + (n : Int) := by omega
  have hc4 : (a : Int) + (n : Int) ≤ (b.length : Int) := by omega
  have hc5 : ((a : Int) + (n : Int)).toNat = a + n := by omega
  have hBt : (byteRows b).take b.length = byteRows b := List.take_of_length_le (by omega)
  have hcl : (cl ((b.drop a).take n) = .emp) ∨ ∃ X, cl ((b.drop a).take n) = .fr 1 X := by
    unfold cl; split
    · exact .inl rfl
    · exact .inr ⟨_, rfl⟩
  generalize cl ((b.drop a).take n) = R at *
  generalize byteRows b = B at *
  rcases hp with rfl | ⟨P, rfl⟩ <;> rcases hcl with rfl | ⟨X, rfl⟩ <;> simp only [dkc] at hI ⊢ <;> simp -implicitDefEqProofs [a16, c16, q31, hI, q32, hW, hbl, w, hc2, hc3, hc4, hc5, hBt]
theorem new12 (m : Nat) (n : Int) : E (m + 1) 12 [.int .i64 n] = some (if n < 1 ∨ 1000000 < n then .tup [.nilP, .int .i64 1] else .tup [.pv (dkc (List.replicate n.toNat [.int .u8 0]) .nilS false false 0), .int .i64 0], []) := by
  rw [e12]
  by_cases h1 : n < 1
  · simp -implicitDefEqProofs [a12, c12, h1]
  · by_cases h2 : 1000000 < n
    · simp -implicitDefEqProofs [a12, c12, h1, h2]
    · have h3 : 0 ≤ n := by omega
      have h4 : n.toNat ≤ 17592186044416 := by omega
      simp -implicitDefEqProofs [a12, c12, z55, h1, h2, h3, h4, maxBytes, dkc]
end Go.Abs.Try

namespace Go.Abs.Try
open Go Go.Abs
set_option maxHeartbeats 16000000
set_option maxRecDepth 100000
set_option linter.unusedSimpArgs false
set_option linter.unusedVariables false

theorem ext_list (l : List UInt8) (i j : Nat) : (⟨l.toArray⟩ : ByteArray).extract i j = ⟨((l.drop i).take (j - i)).toArray⟩ := by
  apply ByteArray.ext
  simp [ByteArray.data_extract, List.extract_eq_take_drop]
/-- the cells of the document's disk -/
def rkc (s : List UInt8) (q : AV) (dn st : Bool) (lf : Int) : List AV := [.str ⟨s.toArray⟩, q, .bool dn, .bool st, .int .i64 lf]
abbrev Wr := Nat × List UInt8
def qrow (w : Wr) : List AV := [.int .i64 w.1, .str ⟨w.2.toArray⟩]
def qv (ps : List Wr) : AV := if ps = [] then .nilS else .fr 2 (ps.map qrow)
def QCell (q : AV) : Prop := q = .nilS ∨ ∃ Q, q = .fr 2 Q
theorem qv_cell (ps) : QCell (qv ps) := by
  unfold qv; split
  · exact .inl rfl
  · exact .inr ⟨_, rfl⟩

theorem done35 (m : Nat) (s : List UInt8) (a : Nat) (l : List UInt8) (hs : s.length ≤ 1000000) (h : a + l.length ≤ s.length) : E (m + 1) 35 [.str ⟨s.toArray⟩, .agg [.int .i64 a, .str ⟨l.toArray⟩]] = some (.str ⟨(put s a l).toArray⟩, []) := by
  rw [e35]
  have w : IntKind.i64.wrap ((a : Int) + (l.length : Int)) = (a : Int) + (l.length : Int) := wrap_i64 _ (by omega) (by omega)
  have c1 : (a : Int) ≤ (s.length : Int) := by omega
  have c2 : a ≤ s.length := by omega
  have c3 : 0 ≤ (a : Int) + (l.length : Int) := by omega
  have c4 : (a : Int) + (l.length : Int) ≤ (s.length : Int) := by omega
  have c5 : ((a : Int) + (l.length : Int)).toNat = a + l.length := by omega
  have x1 := astr_add_bytes (s.take a) l (by rw [List.length_take]; omega)
  have x2 := astr_add_bytes (s.take a ++ l) (s.drop (a + l.length)) (by rw [List.length_append, List.length_take, List.length_drop]; omega)
  have x3 : (s.drop (a + l.length)).take (s.length - (a + l.length)) = s.drop (a + l.length) := List.take_of_length_le (by rw [List.length_drop]; omega)
  have ep : put s a l = s.take a ++ l ++ s.drop (a + l.length) := by simp [put]
  rw [ep]
  have y1 := ext_list s 0 a
  have y2 := ext_list s (a + l.length) s.length
  rw [x3] at y2
  simp only [List.drop_zero, Nat.sub_zero] at y1
  rw [List.append_assoc] at x2 ⊢
  simp -implicitDefEqProofs [a35, c35, w, c1, c2, c3, c4, c5, y1, y2, x1, x2, abin]

theorem in36 (m : Nat) (s : List UInt8) (q : AV) (dn st : Bool) (lf : Int) (hq : QCell q) (hs : s.length ≤ 1000000) (at_ n : Int) : E (m + 1) 36 [.pv (rkc s q dn st lf), .int .i64 at_, .int .i64 n] = some (.bool (inB s.length at_ n), [rkc s q dn st lf]) := by
  rw [e36, rkc, inB]
  by_cases h1 : 0 ≤ at_
  · by_cases h2 : 0 ≤ n
    · by_cases h3 : at_ ≤ s.length
      · have w : IntKind.i64.wrap ((s.length : Int) - at_) = (s.length : Int) - at_ := wrap_i64 _ (by omega) (by omega)
        rcases hq with rfl | ⟨P, rfl⟩ <;> simp -implicitDefEqProofs [a36, c36, h1, h2, h3, w]
      · rcases hq with rfl | ⟨P, rfl⟩ <;> simp -implicitDefEqProofs [a36, c36, h1, h2, h3]
    · rcases hq with rfl | ⟨P, rfl⟩ <;> simp -implicitDefEqProofs [a36, c36, h1, h2]
  · rcases hq with rfl | ⟨P, rfl⟩ <;> simp -implicitDefEqProofs [a36, c36, h1]
theorem step37r (m : Nat) (s : List UInt8) (q : AV) (dn st : Bool) (lf : Int) (hq : QCell q) (h0 : -10 ≤ lf) (h1 : lf ≤ 1000000) : E (m + 1) 37 [.pv (rkc s q dn st lf)] = some (.int .i64 0, [rkc s q (stepD st dn lf).1 st (stepD st dn lf).2]) := by
  rw [e37, rkc, rkc, stepD]
  have w : IntKind.i64.wrap (lf - 1) = lf - 1 := wrap_i64 _ (by omega) (by omega)
  rcases hq with rfl | ⟨P, rfl⟩ <;> cases st <;> simp -implicitDefEqProofs [a37, c37, w]
theorem toBytes_rep : ∀ n : Nat, toBytes (List.replicate n [.int .u8 0]) = some (List.replicate n 0)
  | 0 => rfl
  | n + 1 => by rw [List.replicate_succ, toBytes, toBytes_rep n]; rfl
theorem new13 (m : Nat) (n : Int) : E (m + 1) 13 [.int .i64 n] = some (if n < 1 ∨ 1000000 < n then .tup [.nilP, .int .i64 1] else .tup [.pv (rkc (List.replicate n.toNat 0) .nilS false false 0), .int .i64 0], []) := by
  rw [e13]
  by_cases h1 : n < 1
  · simp -implicitDefEqProofs [a13, c13, h1]
  · by_cases h2 : 1000000 < n
    · simp -implicitDefEqProofs [a13, c13, h1, h2]
    · have h3 : 0 ≤ n := by omega
      have h4 : n.toNat ≤ 17592186044416 := by omega
      have h5 := toBytes_rep n.toNat
      have h6 : (List.replicate n.toNat [AV.int .u8 0]).take n.toNat = List.replicate n.toNat [AV.int .u8 0] := List.take_of_length_le (by simp)
      simp -implicitDefEqProofs [a13, c13, z47, h1, h2, h3, h4, h5, h6, maxBytes, rkc]

/- ------------------------------------------------ what the places have -/
def now (s : List UInt8) : List Wr → List UInt8
  | [] => s
  | w :: r => now (put s w.1 w.2) r
/-- the writes are all in a row of k -/
def InR (k : Nat) (ps : List Wr) : Prop := ∀ w ∈ ps, w.1 + w.2.length ≤ k
theorem now_len : ∀ (ps : List Wr) (s : List UInt8), InR s.length ps → (now s ps).length = s.length
  | [], s, h => rfl
  | w :: r, s, h => by
    have h1 := h w List.mem_cons_self
    have h2 := put_len s w.1 w.2 h1
    rw [now, now_len r _ (by rw [h2]; exact fun x hx => h x (List.mem_cons_of_mem _ hx)), h2]
theorem now_append : ∀ (ps qs : List Wr) (s : List UInt8), now s (ps ++ qs) = now (now s ps) qs
  | [], qs, s => rfl
  | w :: r, qs, s => by rw [List.cons_append, now, now, now_append r]
theorem drop_cons {α} {l r : List α} {x : α} {i : Nat} (h : l.drop i = x :: r) : i < l.length ∧ l[i]? = some x ∧ l.drop (i + 1) = r := by
  refine ⟨?_, ?_, ?_⟩
  · have := congrArg List.length h
    rw [List.length_drop, List.length_cons] at this; omega
  · have := congrArg (fun x => x[0]?) h
    simpa using this
  · have := congrArg (List.drop 1) h
    simpa [List.drop_drop, Nat.add_comm] using this
theorem drop_nil' {α} {l : List α} {i : Nat} (h : l.drop i = []) : l.length ≤ i := by
  have := congrArg List.length h
  rw [List.length_drop, List.length_nil] at this; omega

theorem loop21 (m : Nat) (s : List UInt8) (ps : List Wr) (dn st : Bool) (lf : Int) (hp : ps.length ≤ 100000) (g g2 c : Nat) : ∀ (r : List Wr) (i k : Nat) (x : List UInt8), ps.drop i = r → x.length ≤ 1000000 → InR x.length r → r.length < k →
    ∃ e, iter (ev (Q (m + 1)) 3000 b21_0) [0, 3, 4] [100000, 100002] k ⟨[(0, .ptr 100000 g 0), (3, .str ⟨x.toArray⟩), (4, .int .i64 i)], [⟨100000, g, .var [.str ⟨s.toArray⟩, .own 100002 g2 0 (ps.map qrow).length, .bool dn, .bool st, .int .i64 lf]⟩, ⟨100002, g2, .arr 2 (ps.map qrow) false⟩], c⟩ =
      some (.exit 0, ⟨(0, .ptr 100000 g 0) :: (3, .str ⟨(now x r).toArray⟩) :: e, [⟨100000, g, .var [.str ⟨s.toArray⟩, .own 100002 g2 0 (ps.map qrow).length, .bool dn, .bool st, .int .i64 lf]⟩, ⟨100002, g2, .arr 2 (ps.map qrow) false⟩], c⟩)
  | r, i, 0, x, hr, hx, hR, hk => by omega
  | [], i, k + 1, x, hr, hx, hR, hk => by
    have h1 : ¬ ((i : Int) < (ps.length : Int)) := by have := drop_nil' hr; omega
    refine ⟨[(4, .int .i64 i), (9, .int .i64 i), (10, .ptr 100000 g 0), (11, .ptr 100000 g 0), (12, .ptr 100000 g 1), (13, .own 100002 g2 0 (ps.map qrow).length), (14, .int .i64 ps.length), (15, .bool false)], ?_⟩
    have hlen : (ps.map qrow).length = ps.length := by simp
    generalize ps.map qrow = R at *
    rw [iter_succ]
    simp -implicitDefEqProofs [b21_0, hlen, h1, now]
  | w :: r, i, k + 1, x, hr, hx, hR, hk => by
    obtain ⟨hi, hg, hd⟩ := drop_cons hr
    have h1 : (i : Int) < (ps.length : Int) := by omega
    have hg' : (ps.map qrow)[i]? = some (qrow w) := by simp [hg]
    have hw := hR w List.mem_cons_self
    have hl := put_len x w.1 w.2 hw
    have hD := done35 m x w.1 w.2 hx hw
    obtain ⟨e, ih⟩ := loop21 m s ps dn st lf hp g g2 c r (i + 1) k (put x w.1 w.2) hd (by omega) (by rw [hl]; exact fun y hy => hR y (List.mem_cons_of_mem _ hy)) (by simp at hk; omega)
    refine ⟨e, ?_⟩
    rw [now, ← ih]
    have w2 : IntKind.i64.wrap ((i : Int) + 1) = (i : Int) + 1 := wrap_i64 _ (by omega) (by omega)
    have hlen : (ps.map qrow).length = ps.length := by simp
    have hilt : i < (ps.map qrow).length := by omega
    have hg2' := (List.getElem?_eq_some_iff.1 hg').2
    generalize ps.map qrow = R at *
    generalize put x w.1 w.2 = y at *
    refine iter_norm ?_
    simp -implicitDefEqProofs [b21_0, St.keep, hlen, h1, hi, hg', hg2', qrow, q35, hD, w2]
theorem now21 (m : Nat) (s : List UInt8) (ps : List Wr) (dn st : Bool) (lf : Int) (hs : s.length ≤ 1000000) (hp : ps.length ≤ 1000) (hR : InR s.length ps) : E (m + 2) 21 [.pv (rkc s (qv ps) dn st lf)] = some (.str ⟨(now s ps).toArray⟩, [rkc s (qv ps) dn st lf]) := by
  rw [e21, rkc]
  by_cases h0 : ps = []
  · subst h0
    simp -implicitDefEqProofs [a21, c21, qv]
    rw [iter_succ]
    simp -implicitDefEqProofs [b21_0, now]
  · have hq : qv ps = .fr 2 (ps.map qrow) := by simp [qv, h0]
    rw [hq]
    obtain ⟨e, ih⟩ := loop21 m s ps dn st lf (by omega) 1 0 2 ps 0 3000 s rfl hs hR (by omega)
    generalize ps.map qrow = R at *
    simp at ih
    simp -implicitDefEqProofs [a21, c21]
    rw [iter_keep]
    simp
    rw [ih]
    simp [envGet_set]
/- ------------------------------------------------ the document's calls -/
theorem qcell_len {ps : List Wr} (h : ps ≠ []) : qv ps = .fr 2 (ps.map qrow) := by simp [qv, h]
theorem rwrite25 (m : Nat) (s : List UInt8) (ps : List Wr) (st : Bool) (lf : Int) (hs : s.length ≤ 1000000) (hp : ps.length ≤ 1000) (h0 : -10 ≤ lf) (h1 : lf ≤ 1000000) (a : Nat) (n : Bool) (l : List UInt8) (v : AV) (hv : BArg n l v) (hal : a + l.length ≤ s.length) :
    E (m + 2) 25 [.pv (rkc s (qv ps) false st lf), .int .i64 a, v] = some (.int .i64 0, [rkc s (qv (ps ++ [(a, l)])) (stepD st false lf).1 st (stepD st false lf).2]) := by
  rw [e25]
  have hll := byteRows_len l
  have htb := toBytes_rows l
  have hI := in36 m s (qv ps) false st lf (qv_cell _) hs a l.length
  have hin : inB s.length a l.length = true := by simp [inB]; omega
  rw [hin] at hI
  have hS := step37r m s (qv (ps ++ [(a, l)])) false st lf (qv_cell _) h0 h1
  have hq : qv (ps ++ [(a, l)]) = .fr 2 (ps.map qrow ++ [[.int .i64 a, .str ⟨l.toArray⟩]]) := by simp [qv, qrow]
  rw [hq] at hS ⊢
  generalize hsd : stepD st false lf = sd at *
  by_cases hz : ps = []
  · subst hz
    have hq0 : qv [] = .nilS := by simp [qv]
    rw [hq0] at hI ⊢
    simp only [rkc] at hI hS ⊢
    rcases hv with ⟨rfl, rfl, rfl⟩ | ⟨rfl, t, rfl⟩
    · simp [byteRows] at hI hS htb
      simp -implicitDefEqProofs [a25, c25, z69, q36, hI, q37, hS, htb, aappend, maxBytes]
    · generalize byteRows l = L at *
      try simp at hI hS
      simp -implicitDefEqProofs [a25, c25, z69, q36, hI, q37, hS, hll, htb, aappend, maxBytes]
  · rw [qcell_len hz] at hI ⊢
    have hl : (ps.map qrow).length = ps.length := by simp
    have q1 : ((ps.map qrow).length + 1) * 24 ≤ 17592186044416 := by omega
    have q2 : ¬ (ps.map qrow).length + 1 ≤ (ps.map qrow).length := by omega
    have q3 : (ps.map qrow).take (ps.map qrow).length = ps.map qrow := List.take_of_length_le (Nat.le_refl _)
    have q4 : ∀ row : List AV, (ps.map qrow ++ [row]).take ((ps.map qrow).length + 1) = ps.map qrow ++ [row] := fun row => List.take_of_length_le (by simp)
    clear hl
    generalize ps.map qrow = P at *
    simp only [rkc] at hI hS ⊢
    rcases hv with ⟨rfl, rfl, rfl⟩ | ⟨rfl, t, rfl⟩
    · simp [byteRows] at hI hS htb
      simp -implicitDefEqProofs [a25, c25, z69, q36, hI, q37, hS, htb, q1, q2, q3, q4, aappend, maxBytes]
    · generalize byteRows l = L at *
      try simp at hI hS
      simp -implicitDefEqProofs [a25, c25, z69, q36, hI, q37, hS, hll, htb, q1, q2, q3, q4, aappend, maxBytes]
theorem rwrite25d (m : Nat) (s : List UInt8) (ps : List Wr) (st : Bool) (lf : Int) (at_ : Int) (n : Bool) (l : List UInt8) (v : AV) (hv : BArg n l v) :
    E (m + 2) 25 [.pv (rkc s (qv ps) true st lf), .int .i64 at_, v] = some (.int .i64 80, [rkc s (qv ps) true st lf]) := by
  rw [e25]
  generalize hL : byteRows l = L at *
  rcases qv_cell ps with h | ⟨Q, h⟩ <;> rw [h] <;> rcases hv with ⟨_, _, rfl⟩ | ⟨_, t, rfl⟩ <;> (try rw [hL]) <;> simp only [rkc] <;> simp -implicitDefEqProofs [a25, c25]
theorem rwrite25e (m : Nat) (s : List UInt8) (ps : List Wr) (st : Bool) (lf : Int) (hs : s.length ≤ 1000000) (at_ : Int) (n : Bool) (l : List UInt8) (v : AV) (hv : BArg n l v) (hin : inB s.length at_ l.length = false) :
    E (m + 2) 25 [.pv (rkc s (qv ps) false st lf), .int .i64 at_, v] = some (.int .i64 81, [rkc s (qv ps) false st lf]) := by
  rw [e25]
  have hll := byteRows_len l
  have hI := in36 m s (qv ps) false st lf (qv_cell _) hs at_ l.length
  rw [hin] at hI
  rcases qv_cell ps with h | ⟨Q, h⟩ <;> rw [h] at hI ⊢ <;> rcases hv with ⟨_, rfl, rfl⟩ | ⟨_, t, rfl⟩
  all_goals simp only [rkc] at hI ⊢
  all_goals try generalize byteRows l = L at *
  all_goals try simp at hI
  all_goals simp -implicitDefEqProofs [a25, c25, q36, hI, hll]
theorem rsync26 (m : Nat) (s : List UInt8) (ps : List Wr) (dn st : Bool) (lf : Int) (hs : s.length ≤ 1000000) (hp : ps.length ≤ 1000) (hR : InR s.length ps) (h0 : -10 ≤ lf) (h1 : lf ≤ 1000000) :
    E (m + 3) 26 [.pv (rkc s (qv ps) dn st lf)] = some (.int .i64 (if dn then 80 else 0), [if dn then rkc s (qv ps) true st lf else rkc (now s ps) .nilS (stepD st false lf).1 st (stepD st false lf).2]) := by
  rw [e26]
  have hN := now21 m s ps dn st lf hs hp hR
  have hS := step37r (m + 1) (now s ps) .nilS false st lf (.inl rfl) h0 h1
  generalize hsd : stepD st false lf = sd at *
  rcases qv_cell ps with h | ⟨Q, h⟩ <;> rw [h] at hN ⊢ <;> cases dn <;> simp only [rkc] at hN hS ⊢ <;> simp -implicitDefEqProofs [a26, c26, q21, hN, q37, hS]
theorem rread27 (m : Nat) (s : List UInt8) (ps : List Wr) (dn st : Bool) (lf : Int) (hs : s.length ≤ 1000000) (hp : ps.length ≤ 1000) (hR : InR s.length ps) (a n : Nat) (hin : a + n ≤ s.length) :
    E (m + 3) 27 [.pv (rkc s (qv ps) dn st lf), .int .i64 a, .int .i64 n] = some (.tup [.str ⟨(((now s ps).drop a).take n).toArray⟩, .int .i64 0], [rkc s (qv ps) dn st lf]) := by
  rw [e27]
  have hN := now21 m s ps dn st lf hs hp hR
  have hI := in36 (m + 1) s (qv ps) dn st lf (qv_cell _) hs a n
  have hi : inB s.length a n = true := by simp [inB]; omega
  rw [hi] at hI
  have hnl := now_len ps s hR
  generalize now s ps = x at *
  have w : IntKind.i64.wrap ((a : Int) + (n : Int)) = (a : Int) + (n : Int) := wrap_i64 _ (by omega) (by omega)
  have c3 : 0 ≤ (a : Int) + (n : Int) := by omega
  have c4 : (a : Int) + (n : Int) ≤ (x.length : Int) := by omega
  have c5 : ((a : Int) + (n : Int)).toNat = a + n := by omega
  have y := ext_list x a (a + n)
  rw [show a + n - a = n by omega] at y
  rcases qv_cell ps with h | ⟨Q, h⟩ <;> rw [h] at hN hI ⊢ <;> simp only [rkc] at hN hI ⊢ <;> simp -implicitDefEqProofs [a27, c27, q21, hN, q36, hI, w, c3, c4, c5, y]
theorem rread27e (m : Nat) (s : List UInt8) (ps : List Wr) (dn st : Bool) (lf : Int) (hs : s.length ≤ 1000000) (at_ n : Int) (hin : inB s.length at_ n = false) :
    E (m + 3) 27 [.pv (rkc s (qv ps) dn st lf), .int .i64 at_, .int .i64 n] = some (.tup [.str ⟨#[]⟩, .int .i64 81], [rkc s (qv ps) dn st lf]) := by
  rw [e27]
  have hI := in36 (m + 1) s (qv ps) dn st lf (qv_cell _) hs at_ n
  rw [hin] at hI
  rcases qv_cell ps with h | ⟨Q, h⟩ <;> rw [h] at hI ⊢ <;> simp only [rkc] at hI ⊢ <;> simp -implicitDefEqProofs [a27, c27, q36, hI]
theorem rstop28 (m : Nat) (s : List UInt8) (ps : List Wr) (dn st : Bool) (lf n : Int) :
    E (m + 1) 28 [.pv (rkc s (qv ps) dn st lf), .int .i64 n] = some (.int .i64 (if dn then 80 else if n < 0 ∨ 1000000 < n then 1 else 0), [if dn then rkc s (qv ps) true st lf else if n < 0 ∨ 1000000 < n then rkc s (qv ps) false st lf else rkc s (qv ps) (n == 0) true n]) := by
  rw [e28]
  rcases qv_cell ps with h | ⟨Q, h⟩ <;> rw [h] <;> cases dn <;> simp only [rkc]
  all_goals first
    | (simp -implicitDefEqProofs [a28, c28]; done)
    | (by_cases h1 : n < 0
       · simp -implicitDefEqProofs [a28, c28, h1]
       · by_cases h2 : 1000000 < n
         · simp -implicitDefEqProofs [a28, c28, h1, h2]
         · simp -implicitDefEqProofs [a28, c28, h1, h2])
end Go.Abs.Try

namespace Go.Abs.Try
open Go Go.Abs
set_option maxHeartbeats 16000000
set_option maxRecDepth 100000
set_option linter.unusedSimpArgs false
set_option linter.unusedVariables false

/- ------------------------------------------------ the document's crash -/
/-- how much of a torn write is there -/
def tearN (torn : Int) (n : Nat) : Nat := min torn.toNat (n - 1)
def rcrash (keep torn : Int) : Nat → List UInt8 → List Wr → List UInt8
  | _, s, [] => s
  | i, s, w :: r =>
    let s1 := if (i : Int) < keep then put s w.1 w.2 else s
    let s2 := if i = keep.toNat ∧ w.2 ≠ [] then put s1 w.1 (w.2.take (tearN torn w.2.length)) else s1
    rcrash keep torn (i + 1) s2 r
theorem put_len' (s : List UInt8) (w : Wr) (torn : Int) (h : w.1 + w.2.length ≤ s.length) : (put s w.1 (w.2.take (tearN torn w.2.length))).length = s.length := by
  apply put_len; rw [List.length_take]; omega
theorem loop29 (m : Nat) (s : List UInt8) (ps : List Wr) (dn st : Bool) (lf keep torn : Int) (hp : ps.length ≤ 100000) (g g2 : Nat) : ∀ (r : List Wr) (i k c : Nat) (x : List UInt8), ps.drop i = r → x.length ≤ 1000000 → InR x.length r → r.length < k →
    ∃ e c', iter (ev (Q (m + 1)) 3000 b29_0) [0, 1, 2, 6, 7] [100000, 100002] k ⟨[(0, .ptr 100000 g 0), (1, .int .i64 keep), (2, .int .i64 torn), (6, .str ⟨x.toArray⟩), (7, .int .i64 i)], [⟨100000, g, .var [.str ⟨s.toArray⟩, .own 100002 g2 0 (ps.map qrow).length, .bool dn, .bool st, .int .i64 lf]⟩, ⟨100002, g2, .arr 2 (ps.map qrow) false⟩], c⟩ =
      some (.exit 0, ⟨(0, .ptr 100000 g 0) :: (1, .int .i64 keep) :: (2, .int .i64 torn) :: (6, .str ⟨(rcrash keep torn i x r).toArray⟩) :: e, [⟨100000, g, .var [.str ⟨s.toArray⟩, .own 100002 g2 0 (ps.map qrow).length, .bool dn, .bool st, .int .i64 lf]⟩, ⟨100002, g2, .arr 2 (ps.map qrow) false⟩], c'⟩)
  | r, i, 0, c, x, hr, hx, hR, hk => by omega
  | [], i, k + 1, c, x, hr, hx, hR, hk => by
    have h1 : ¬ ((i : Int) < (ps.length : Int)) := by have := drop_nil' hr; omega
    refine ⟨[(7, .int .i64 i), (14, .int .i64 i), (15, .ptr 100000 g 0), (16, .ptr 100000 g 0), (17, .ptr 100000 g 1), (18, .own 100002 g2 0 (ps.map qrow).length), (19, .int .i64 ps.length), (20, .bool false)], c, ?_⟩
    have hlen : (ps.map qrow).length = ps.length := by simp
    generalize ps.map qrow = R at *
    rw [iter_succ]
    simp -implicitDefEqProofs [b29_0, hlen, h1, rcrash]
  | w :: r, i, k + 1, c, x, hr, hx, hR, hk => by
    obtain ⟨hi, hg, hd⟩ := drop_cons hr
    have h1 : (i : Int) < (ps.length : Int) := by omega
    have hg' : (ps.map qrow)[i]? = some (qrow w) := by simp [hg]
    have hw := hR w List.mem_cons_self
    have w2 : IntKind.i64.wrap ((i : Int) + 1) = (i : Int) + 1 := wrap_i64 _ (by omega) (by omega)
    have hlen : (ps.map qrow).length = ps.length := by simp
    have hilt : i < (ps.map qrow).length := by omega
    have hg2' := (List.getElem?_eq_some_iff.1 hg').2
    have hD := done35 m x w.1 w.2 hx hw
    have hxl := put_len x w.1 w.2 hw
    obtain ⟨kn, hkn⟩ : ∃ kn, keep.toNat = kn := ⟨_, rfl⟩
    obtain ⟨tt, htt⟩ : ∃ tt, torn.toNat = tt := ⟨_, rfl⟩
    have hmx : (if keep < 0 then (0 : Int) else keep) = (kn : Int) := by split <;> omega
    have hmt : (if torn < 0 then (0 : Int) else torn) = (tt : Int) := by split <;> omega
    have hmx' : max keep 0 = (kn : Int) := by omega
    have hmt' : max torn 0 = (tt : Int) := by omega
    have wl : IntKind.i64.wrap ((w.2.length : Int) - 1) = (w.2.length : Int) - 1 := wrap_i64 _ (by omega) (by omega)
    have heq : ((i : Int) == (kn : Int)) = decide (i = kn) := by
      by_cases h : i = kn
      · simp [h]
      · have h2 : ¬ (i : Int) = (kn : Int) := by omega
        rw [beq_eq_false_iff_ne.2 h2, decide_eq_false h]
    have key : ∀ (y : List UInt8), y = (if i = keep.toNat ∧ w.2 ≠ [] then put (if (i : Int) < keep then put x w.1 w.2 else x) w.1 (w.2.take (tearN torn w.2.length)) else (if (i : Int) < keep then put x w.1 w.2 else x)) → y.length = x.length →
        (∃ c2, iter (ev (Q (m + 1)) 3000 b29_0) [0, 1, 2, 6, 7] [100000, 100002] (k + 1) ⟨[(0, .ptr 100000 g 0), (1, .int .i64 keep), (2, .int .i64 torn), (6, .str ⟨x.toArray⟩), (7, .int .i64 i)], [⟨100000, g, .var [.str ⟨s.toArray⟩, .own 100002 g2 0 (ps.map qrow).length, .bool dn, .bool st, .int .i64 lf]⟩, ⟨100002, g2, .arr 2 (ps.map qrow) false⟩], c⟩ =
          iter (ev (Q (m + 1)) 3000 b29_0) [0, 1, 2, 6, 7] [100000, 100002] k ⟨[(0, .ptr 100000 g 0), (1, .int .i64 keep), (2, .int .i64 torn), (6, .str ⟨y.toArray⟩), (7, .int .i64 (i + 1 : Nat))], [⟨100000, g, .var [.str ⟨s.toArray⟩, .own 100002 g2 0 (ps.map qrow).length, .bool dn, .bool st, .int .i64 lf]⟩, ⟨100002, g2, .arr 2 (ps.map qrow) false⟩], c2⟩) →
        ∃ e c', iter (ev (Q (m + 1)) 3000 b29_0) [0, 1, 2, 6, 7] [100000, 100002] (k + 1) ⟨[(0, .ptr 100000 g 0), (1, .int .i64 keep), (2, .int .i64 torn), (6, .str ⟨x.toArray⟩), (7, .int .i64 i)], [⟨100000, g, .var [.str ⟨s.toArray⟩, .own 100002 g2 0 (ps.map qrow).length, .bool dn, .bool st, .int .i64 lf]⟩, ⟨100002, g2, .arr 2 (ps.map qrow) false⟩], c⟩ =
          some (.exit 0, ⟨(0, .ptr 100000 g 0) :: (1, .int .i64 keep) :: (2, .int .i64 torn) :: (6, .str ⟨(rcrash keep torn i x (w :: r)).toArray⟩) :: e, [⟨100000, g, .var [.str ⟨s.toArray⟩, .own 100002 g2 0 (ps.map qrow).length, .bool dn, .bool st, .int .i64 lf]⟩, ⟨100002, g2, .arr 2 (ps.map qrow) false⟩], c'⟩) := by
      rintro y hy hyl ⟨c2, hst⟩
      obtain ⟨e, c', ih⟩ := loop29 m s ps dn st lf keep torn hp g g2 r (i + 1) k c2 y hd (by omega) (by rw [hyl]; exact fun z hz => hR z (List.mem_cons_of_mem _ hz)) (by simp at hk; omega)
      refine ⟨e, c', ?_⟩
      rw [hst, ih, hy]
      rfl
    rw [hkn] at key
    by_cases ht : i = kn ∧ w.2 ≠ []
    · obtain ⟨ht1, ht2⟩ := ht
      have hpos : 0 < w.2.length := List.length_pos_iff.2 ht2
      have heq' : ((i : Int) == (kn : Int)) = true := by rw [heq]; simp [ht1]
      have hge : ¬ ((i : Int) < keep) := by omega
      have hmm : (if (w.2.length : Int) - 1 < (tt : Int) then (w.2.length : Int) - 1 else (tt : Int)) = ((tearN torn w.2.length : Nat) : Int) := by unfold tearN; rw [htt]; split <;> omega
      have hmm' : min (tt : Int) ((w.2.length : Int) - 1) = ((tearN torn w.2.length : Nat) : Int) := by unfold tearN; rw [htt]; omega
      have et := eq_true ht1
      have hT := done35 m x w.1 (w.2.take (tearN torn w.2.length)) hx (by rw [List.length_take]; omega)
      have hle : tearN torn w.2.length ≤ w.2.length := by unfold tearN; omega
      have y := ext_list w.2 0 (tearN torn w.2.length)
      simp only [List.drop_zero, Nat.sub_zero] at y
      refine key (put x w.1 (w.2.take (tearN torn w.2.length))) (by rw [if_pos ⟨ht1, ht2⟩, if_neg hge]) (put_len' x w torn hw) ?_
      generalize ps.map qrow = R at *
      generalize put x w.1 (w.2.take (tearN torn w.2.length)) = z at *
      generalize tearN torn w.2.length = tn at *
      refine ⟨c + 1, iter_norm ?_⟩
      simp -implicitDefEqProofs [b29_0, St.keep, hlen, h1, hi, hg', hg2', qrow, z69, q35, hge, amm, ammL, amm2, hmx, hmt, hmx', hmt', hmm', et, heq', hpos, wl, hmm, hle, y, hT, w2]
    · have h2 : ¬ (i = kn ∧ w.2 ≠ []) := ht
      by_cases hk2 : (i : Int) < keep
      · have hneq : ((i : Int) == (kn : Int)) = false := by rw [heq]; simp; omega
        have et : (i = kn) = False := eq_false (by omega)
        refine key (put x w.1 w.2) (by rw [if_neg h2, if_pos hk2]) hxl ⟨c + 1, iter_norm ?_⟩
        generalize ps.map qrow = R at *
        generalize put x w.1 w.2 = z at *
        simp -implicitDefEqProofs [b29_0, St.keep, hlen, h1, hi, hg', hg2', qrow, z69, q35, hD, hk2, amm, ammL, amm2, hmx, hmx', et, hneq, w2]
      · refine key x (by rw [if_neg h2, if_neg hk2]) rfl ⟨c + 1, iter_norm ?_⟩
        by_cases he : i = kn
        · have hw0 : w.2 = [] := Classical.not_not.1 (fun h => h2 ⟨he, h⟩)
          have heq' : ((i : Int) == (kn : Int)) = true := by rw [heq]; simp [he]
          have et := eq_true he
          generalize ps.map qrow = R at *
          simp -implicitDefEqProofs [b29_0, St.keep, hlen, h1, hi, hg', hg2', qrow, z69, hk2, amm, ammL, amm2, hmx, hmx', et, heq', hw0, w2]
        · have hneq : ((i : Int) == (kn : Int)) = false := by rw [heq]; simp [he]
          have et := eq_false he
          generalize ps.map qrow = R at *
          simp -implicitDefEqProofs [b29_0, St.keep, hlen, h1, hi, hg', hg2', qrow, z69, hk2, amm, ammL, amm2, hmx, hmx', et, hneq, w2]
theorem rcrash29 (m : Nat) (s : List UInt8) (ps : List Wr) (dn st : Bool) (lf keep torn : Int) (hs : s.length ≤ 1000000) (hp : ps.length ≤ 1000) (hR : InR s.length ps) :
    E (m + 2) 29 [.pv (rkc s (qv ps) dn st lf), .int .i64 keep, .int .i64 torn] = some (.tup [], [rkc (rcrash keep torn 0 s ps) .nilS false false lf]) := by
  rw [e29, rkc]
  by_cases h0 : ps = []
  · subst h0
    simp -implicitDefEqProofs [a29, c29, qv]
    rw [iter_succ]
    simp -implicitDefEqProofs [b29_0, rcrash, rkc]
  · have hq : qv ps = .fr 2 (ps.map qrow) := by simp [qv, h0]
    rw [hq]
    obtain ⟨e, c', ih⟩ := loop29 m s ps dn st lf keep torn (by omega) 1 0 ps 0 3000 2 s rfl hs hR (by omega)
    generalize ps.map qrow = R at *
    simp at ih
    simp -implicitDefEqProofs [a29, c29]
    rw [iter_keep]
    simp
    rw [ih]
    simp [envGet_set, rkc]
end Go.Abs.Try

namespace Go.Abs.Try
open Go Go.Abs
set_option maxHeartbeats 16000000
set_option maxRecDepth 100000
set_option linter.unusedSimpArgs false
set_option linter.unusedVariables false

/-- a pending write: where, what it wrote (nil?), what it wrote over -/
structure PW where
  a : Nat
  n : Bool
  now : List UInt8
  was : List UInt8
def prow (p : PW) : List AV := [.int .i64 p.a, fz p.n p.now, fz false p.was]
def pdv (ps : List PW) : AV := if ps = [] then .nilS else .fr 3 (ps.map prow)
def undo (ps : List PW) (b : List UInt8) : List UInt8 := ps.foldr (fun w b => put b w.a w.was) b
theorem fz_cases (n : Bool) (l : List UInt8) : (l = [] ∧ fz n l = .nilS) ∨ (l = [] ∧ fz n l = .emp) ∨ (l ≠ [] ∧ fz n l = .ro false 1 (byteRows l)) := by
  unfold fz
  by_cases h : l = []
  · cases n <;> simp [h]
  · simp [h]
theorem fz_rows (n : Bool) (l : List UInt8) (h : AH) : rowsOf h 1 (fz n l) = some (byteRows l) := by
  rcases fz_cases n l with ⟨rfl, e⟩ | ⟨rfl, e⟩ | ⟨_, e⟩ <;> rw [e] <;> simp [rowsOf, byteRows]
theorem fz_src (n : Bool) (l : List UInt8) (h : AH) : srcRows h 1 (fz n l) = some (byteRows l) := by
  rcases fz_cases n l with ⟨rfl, e⟩ | ⟨rfl, e⟩ | ⟨_, e⟩ <;> rw [e] <;> simp [srcRows, rowsOf, byteRows]
theorem fz_low (n : Bool) (l : List UInt8) (ns al) : (fz n l).low1 ns al = true ∧ (fz n l).low ns al = true := by
  rcases fz_cases n l with ⟨rfl, e⟩ | ⟨rfl, e⟩ | ⟨_, e⟩ <;> rw [e] <;> exact ⟨rfl, rfl⟩
theorem fz_cell (n : Bool) (l : List UInt8) : (fz n l).cells = [fz n l] ∧ (fz n l).cellb = true := by
  rcases fz_cases n l with ⟨rfl, e⟩ | ⟨rfl, e⟩ | ⟨_, e⟩ <;> rw [e] <;> exact ⟨rfl, rfl⟩
theorem fz_len (n : Bool) (l : List UInt8) : alen (fz n l) = some l.length := by
  rcases fz_cases n l with ⟨rfl, e⟩ | ⟨rfl, e⟩ | ⟨_, e⟩ <;> rw [e] <;> simp [alen, byteRows_len]

abbrev V15 (keep torn : Int) : Env := [(1, .int .i64 keep), (2, .int .i64 torn), (3, .ptr 3 3 0), (26, .fn 38 [.ptr 3300001 4 0])]
abbrev Y15 (m : Nat) (keep torn : Int) : InlF := around (ev (Q (m + 2)) 3000 b15_1) (ev (Q (m + 2)) 3000 b15_0) (V15 keep torn) 2900000 5 [27, 28]
abbrev F15 (m : Nat) (keep torn : Int) : Nat → Option FnF := withY (Q (m + 1)) 2900000 (Y15 m keep torn)
theorem k38 : 3 ∈ kh38i_0 ∧ 8 ∈ kh38i_0 ∧ 100000 ∈ kh38i_0 ∧ 100001 ∈ kh38i_0 ∧ 100002 ∈ kh38i_0 ∧ 2900000 ∈ kh38i_0 ∧ 3300001 ∈ kh38i_0 := by decide +kernel
def H15 (X : AH) (b : List UInt8) (P : List (List AV)) (dn st : Bool) (lf : Int) (off len : Nat) : AH :=
  [⟨3, 3, .var [.ptr 100000 2 0]⟩] ++ X ++ [⟨100000, 2, .var [.own 100001 0 0 b.length, .own 100002 1 0 P.length, .bool dn, .bool st, .int .i64 lf]⟩, ⟨100001, 0, .arr 1 (byteRows b) false⟩, ⟨100002, 1, .arr 3 P false⟩, ⟨2900000, 5, .lp .ready⟩, ⟨3300001, 4, .var [.own 100002 1 off len]⟩]
def Jk (X : AH) : Prop := X = [] ∨ ∃ g r, X = [⟨8, g, .var r⟩]
theorem step38 (m : Nat) (keep torn : Int) (X : AH) (hX : Jk X) (b : List UInt8) (P : List (List AV)) (dn st : Bool) (lf : Int) (off len n c k : Nat) (w : PW) (hP : P[off + n]? = some (prow w)) (hn : n < len) (hb : b.length ≤ 1000000) (hw : w.a + w.was.length ≤ b.length) (hl : len ≤ 1000000) (hc : 5 < c) :
    ∃ X' c', Jk X' ∧ 5 < c' ∧ iter (ev (F15 m keep torn) 3000 b38i_0) [0, 1, 3] kh38i_0 (k + 1) ⟨[(0, .yld 2900000 5), (1, .ptr 3300001 4 0), (3, .int .i64 (n : Nat))], H15 X b P dn st lf off len, c⟩ =
      iter (ev (F15 m keep torn) 3000 b38i_0) [0, 1, 3] kh38i_0 k ⟨[(0, .yld 2900000 5), (1, .ptr 3300001 4 0), (3, .int .i64 ((n : Int) - 1))], H15 X' (put b w.a w.was) P dn st lf off len, c'⟩ := by
  obtain ⟨a1, a2, a3, a4, a5, a6, a7⟩ := k38
  have hpl := put_len b w.a w.was hw
  have eput : byteRows (put b w.a w.was) = (byteRows b).take w.a ++ (byteRows w.was ++ (byteRows b).drop (w.a + w.was.length)) := by
    rw [put, byteRows_append, byteRows_append, byteRows_take, byteRows_drop]
  have hbl := byteRows_len b
  have hwl := byteRows_len w.was
  have hs := fz_src false w.was
  obtain ⟨l1, l2⟩ := fz_cell w.n w.now
  obtain ⟨l3, l4⟩ := fz_cell false w.was
  have l5 := fun ns al => (fz_low w.n w.now ns al).1
  have l6 := fun ns al => (fz_low false w.was ns al).1
  have l7 := fun ns al => (fz_low false w.was ns al).2
  have w1 : IntKind.i64.wrap ((n : Int) - 1) = (n : Int) - 1 := wrap_i64 _ (by omega) (by omega)
  have c1 : (w.a : Int) ≤ (b.length : Int) := by omega
  have c2 : w.a ≤ b.length := by omega
  have c3 : min w.was.length (b.length - w.a) = w.was.length := by omega
  have hLt : (byteRows w.was).take w.was.length = byteRows w.was := List.take_of_length_le (by omega)
  have d0 : 0 < c := by omega
  have d1 : 1 < c := by omega
  have d2 : 2 < c := by omega
  have d3 : 3 < c := by omega
  have d4 : 0 < c + 1 := by omega
  have d5 : 1 < c + 1 := by omega
  have d6 : 2 < c + 1 := by omega
  have d7 : 3 < c + 1 := by omega
  have hpt := (List.getElem?_eq_some_iff.1 hP).2
  have c4 : w.a + w.was.length ≤ b.length := hw
  refine ⟨[⟨8, c, .var (prow w)⟩], c + 1, .inr ⟨_, _, rfl⟩, by omega, iter_norm ?_⟩
  have eput' := eput.symm
  rw [H15, H15, hpl, prow] at *
  generalize byteRows (put b w.a w.was) = PB at *
  generalize byteRows w.was = WB at *
  generalize byteRows b = B at *
  generalize fz w.n w.now = nv at *
  generalize fz false w.was = wv at *
  rcases hX with rfl | ⟨g, r, rfl⟩
  · simp -implicitDefEqProofs [b38i_0, b15_0, b15_1, St.keep, z65, a1, a2, a3, a4, a5, a6, a7, F15, Y15, V15, withY, ykey, FnF.yield, around, envPar, roundEnd, hn, hP, l1, l2, l3, l4, l5, l6, l7, hs, w1, c1, c2, c3, c4, hLt, hbl, hwl, d0, d1, d2, d3, d4, d5, d6, d7, eput', acopy]
  · simp -implicitDefEqProofs [b38i_0, b15_0, b15_1, St.keep, z65, a1, a2, a3, a4, a5, a6, a7, F15, Y15, V15, withY, ykey, FnF.yield, around, envPar, roundEnd, hn, hP, l1, l2, l3, l4, l5, l6, l7, hs, w1, c1, c2, c3, c4, hLt, hbl, hwl, d0, d1, d2, d3, d4, d5, d6, d7, eput', acopy]
theorem loop38 (m : Nat) (keep torn : Int) (b0 : Nat) (ps : List PW) (dn st : Bool) (lf : Int) (off len : Nat) (hlen : off + len = ps.length) (hb0 : b0 ≤ 1000000) (hps : ps.length ≤ 1000000) (hin : ∀ w ∈ ps, w.a + w.was.length ≤ b0) : ∀ (n : Nat) (X : AH) (b : List UInt8) (c k : Nat), Jk X → b.length = b0 → n ≤ len → n < k → 5 < c →
    ∃ e X' c', Jk X' ∧ 5 < c' ∧ iter (ev (F15 m keep torn) 3000 b38i_0) [0, 1, 3] kh38i_0 k ⟨[(0, .yld 2900000 5), (1, .ptr 3300001 4 0), (3, .int .i64 ((n : Int) - 1))], H15 X b (ps.map prow) dn st lf off len, c⟩ =
      some (.exit 0, ⟨e, H15 X' (undo ((ps.drop off).take n) b) (ps.map prow) dn st lf off len, c'⟩)
  | n, X, b, c, 0, hX, hb, hn, hk, hc => by omega
  | 0, X, b, c, k + 1, hX, hb, hn, hk, hc => by
    obtain ⟨a1, a2, a3, a4, a5, a6, a7⟩ := k38
    refine ⟨[(0, .yld 2900000 5), (1, .ptr 3300001 4 0), (3, .int .i64 (-1)), (7, .int .i64 (-1)), (8, .bool false)], X, c, hX, hc, ?_⟩
    rw [iter_succ]
    have hlb : b.length = b.length := rfl
    rcases hX with rfl | ⟨g, r, rfl⟩ <;> simp -implicitDefEqProofs [b38i_0, H15, a1, a2, a3, a4, a5, a6, a7, undo]
  | n + 1, X, b, c, k + 1, hX, hb, hn, hk, hc => by
    have hlt : off + n < ps.length := by omega
    have hg : ps[off + n]? = some ps[off + n] := List.getElem?_eq_getElem hlt
    have hP : (ps.map prow)[off + n]? = some (prow ps[off + n]) := by simp [hg]
    have hw := hin ps[off + n] (List.getElem_mem hlt)
    obtain ⟨X1, c1, hX1, hc1, st1⟩ := step38 m keep torn X hX b (ps.map prow) dn st lf off len n c k ps[off + n] hP (by omega) (by omega) (by rw [hb]; exact hw) (by omega) hc
    obtain ⟨e, X', c', hX', hc', ih⟩ := loop38 m keep torn b0 ps dn st lf off len hlen hb0 hps hin n X1 (put b ps[off + n].a ps[off + n].was) c1 k hX1 (by rw [put_len _ _ _ (by rw [hb]; exact hw)]; exact hb) (by omega) (by omega) hc1
    refine ⟨e, X', c', hX', hc', ?_⟩
    rw [show ((n + 1 : Nat) : Int) - 1 = (n : Int) by omega, st1, ih]
    have e2 : (ps.drop off).take (n + 1) = (ps.drop off).take n ++ [ps[off + n]] := by
      rw [List.take_add_one, List.getElem?_drop, hg]; rfl
    rw [e2, undo, undo, List.foldr_append]
    rfl
theorem undo_len (b0 : Nat) : ∀ (ps : List PW) (b : List UInt8), b.length = b0 → (∀ w ∈ ps, w.a + w.was.length ≤ b0) → (undo ps b).length = b0
  | [], b, hb, h => hb
  | w :: r, b, hb, h => by
    have ih := undo_len b0 r b hb (fun x hx => h x (List.mem_cons_of_mem _ hx))
    have := h w List.mem_cons_self
    show (put (undo r b) w.a w.was).length = b0
    rw [put_len _ _ _ (by omega), ih]
/-- which writes a crash keeps -/
def keepN (keep : Int) (n : Nat) : Nat := min keep.toNat n
def pcrash (keep torn : Int) (ps : List PW) (b : List UInt8) : List UInt8 :=
  let b1 := undo (ps.drop (keepN keep ps.length)) b
  match ps[keepN keep ps.length]? with
  | some w => put b1 w.a (w.now.take (tearN torn w.now.length))
  | none => b1
theorem crash15n (m : Nat) (keep torn : Int) : E (m + 3) 15 [.nilP, .int .i64 keep, .int .i64 torn] = some (.int .i64 3, []) := by
  rw [e15]
  simp -implicitDefEqProofs [a15, c15]
theorem crash15z (m : Nat) (keep torn : Int) (b : List UInt8) (dn st : Bool) (lf : Int) : E (m + 3) 15 [.pv (dkc (byteRows b) .nilS dn st lf), .int .i64 keep, .int .i64 torn] = some (.int .i64 0, [dkc (byteRows b) .nilS false false lf]) := by
  rw [e15]
  have hmx : (if keep < 0 then (0 : Int) else keep) = max keep 0 := by split <;> omega
  have hmn : (if (0 : Int) < max keep 0 then (0 : Int) else max keep 0) = 0 := by split <;> omega
  have hmn' : min (max keep 0) 0 = 0 := by omega
  have wm : IntKind.i64.wrap (-1) = -1 := wrap_i64 _ (by omega) (by omega)
  generalize byteRows b = B at *
  rw [dkc, dkc]
  simp -implicitDefEqProofs [a15, c15, wm, amm, ammL, amm2, hmx, hmn, hmn', q30, i30, a30i, c30i, evInl, q38, j38, evItr, a38i, c38i]
  rw [iter_keep, show (3000 : Nat) = 2999 + 1 from rfl, iter_succ]
  obtain ⟨a1, a2, a3, a4, a5, a6, a7⟩ := k38
  simp -implicitDefEqProofs [b38i_0, a1, a2, a3, a4, a5, a6, a7, rangeEnd]
/-- the first bytes of bytes at rest -/
def slz (n : Bool) (l : List UInt8) (k : Nat) : AV := if l = [] then fz n l else .ro false 1 (byteRows (l.take k))
theorem slz_ok (n : Bool) (l : List UInt8) (k : Nat) (hk : k ≤ l.length) (h : AH) : aslice h 1 (fz n l) none (some (.int .i64 k)) = some (slz n l k) := by
  rcases fz_cases n l with ⟨rfl, e⟩ | ⟨rfl, e⟩ | ⟨hl, e⟩
  · obtain rfl : k = 0 := by simpa using hk
    rw [slz, if_pos rfl, e]; simp [aslice, bound]
  · obtain rfl : k = 0 := by simpa using hk
    rw [slz, if_pos rfl, e]; simp [aslice, bound]
  · rw [slz, if_neg hl, e, ← byteRows_take]
    have : (byteRows l).length = l.length := byteRows_len l
    simp [aslice, bound, this, hk]
theorem slz_src (n : Bool) (l : List UInt8) (k : Nat) (h : AH) : srcRows h 1 (slz n l k) = some (byteRows (l.take k)) := by
  unfold slz
  split
  · next e => subst e; rw [fz_src]; simp [byteRows]
  · simp [srcRows, rowsOf]
theorem slz_low (n : Bool) (l : List UInt8) (k : Nat) (ns al) : (slz n l k).low ns al = true := by
  unfold slz
  split
  · exact (fz_low _ _ _ _).2
  · rfl
theorem tearN_le (torn : Int) (n : Nat) : tearN torn n ≤ n := by unfold tearN; omega
theorem crash15 (m : Nat) (keep torn : Int) (b : List UInt8) (ps : List PW) (dn st : Bool) (lf : Int) (hne : ps ≠ []) (hb : b.length ≤ 1000000) (hps : ps.length ≤ 1000) (hin : ∀ w ∈ ps, w.a + w.was.length ≤ b.length ∧ w.now.length = w.was.length) :
    E (m + 3) 15 [.pv (dkc (byteRows b) (.fr 3 (ps.map prow)) dn st lf), .int .i64 keep, .int .i64 torn] = some (.int .i64 0, [dkc (byteRows (pcrash keep torn ps b)) .nilS false false lf]) := by
  rw [e15]
  obtain ⟨kn, hkn⟩ : ∃ kn, keepN keep ps.length = kn := ⟨_, rfl⟩
  have hkle : kn ≤ ps.length := by rw [← hkn]; unfold keepN; omega
  have hmx : (if keep < 0 then (0 : Int) else keep) = max keep 0 := by split <;> omega
  have hmn : (if (ps.length : Int) < max keep 0 then (ps.length : Int) else max keep 0) = (kn : Int) := by rw [← hkn]; unfold keepN; split <;> omega
  have hmn' : min (max keep 0) (ps.length : Int) = (kn : Int) := by rw [← hkn]; unfold keepN; omega
  have hbl := byteRows_len b
  have hPl : (ps.map prow).length = ps.length := by simp
  obtain ⟨e, X', c', hX', hc', L⟩ := loop38 m kn torn b.length ps dn st lf kn (ps.length - kn) (by omega) hb (by omega) (fun w hw => (hin w hw).1) (ps.length - kn) [] b 6 3000 (.inl rfl) rfl (Nat.le_refl _) (by omega) (by omega)
  have hul := undo_len b.length ((ps.drop kn).take (ps.length - kn)) b rfl (fun w hw => (hin w (List.mem_of_mem_drop (List.mem_of_mem_take hw))).1)
  have htk : (ps.drop kn).take (ps.length - kn) = ps.drop kn := List.take_of_length_le (by rw [List.length_drop]; exact Nat.le_refl _)
  rw [htk] at L hul
  have w1 : IntKind.i64.wrap (((ps.length - kn : Nat) : Int) - 1) = ((ps.length - kn : Nat) : Int) - 1 := wrap_i64 _ (by omega) (by omega)
  have k1 : (kn : Int) ≤ (ps.length : Int) := by omega
  obtain ⟨a1, a2, a3, a4, a5, a6, a7⟩ := k38
  have d0 : 0 < c' := by omega
  have d1 : 1 < c' := by omega
  have d2 : 2 < c' := by omega
  have d3 : 3 < c' := by omega
  have hpc : pcrash keep torn ps b = match ps[kn]? with | some w => put (undo (ps.drop kn) b) w.a (w.now.take (tearN torn w.now.length)) | none => undo (ps.drop kn) b := by
    unfold pcrash; rw [hkn]
  rw [hpc]
  generalize undo (ps.drop kn) b = u at *
  have hBu : byteRows b = byteRows b := rfl
  by_cases hlt : kn < ps.length
  · have hg : ps[kn]? = some ps[kn] := List.getElem?_eq_getElem hlt
    have hP : (ps.map prow)[kn]? = some (prow ps[kn]) := by simp [hg]
    obtain ⟨hw1, hw2⟩ := hin ps[kn] (List.getElem_mem hlt)
    rw [hg]
    simp only
    generalize ps[kn] = w at *
    have hw3 : w.a + w.was.length ≤ u.length := by omega
    have hT := tearN_le torn w.now.length
    have ht1 : w.a + (w.now.take (tearN torn w.now.length)).length ≤ u.length := by rw [List.length_take]; omega
    have hmm1 : (if (w.now.length : Int) - 1 < torn then (w.now.length : Int) - 1 else torn) = min torn ((w.now.length : Int) - 1) := by split <;> omega
    have hmm2 : (if (0 : Int) < min torn ((w.now.length : Int) - 1) then min torn ((w.now.length : Int) - 1) else 0) = ((tearN torn w.now.length : Nat) : Int) := by unfold tearN; split <;> omega
    have hmm3 : max 0 (min torn ((w.now.length : Int) - 1)) = ((tearN torn w.now.length : Nat) : Int) := by unfold tearN; omega
    have wl : IntKind.i64.wrap ((w.now.length : Int) - 1) = (w.now.length : Int) - 1 := wrap_i64 _ (by omega) (by omega)
    have hz := slz_ok w.n w.now (tearN torn w.now.length) hT
    have hs := slz_src w.n w.now (tearN torn w.now.length)
    have hlo := slz_low w.n w.now (tearN torn w.now.length)
    have hpl := put_len u w.a (w.now.take (tearN torn w.now.length)) ht1
    have eput : byteRows (put u w.a (w.now.take (tearN torn w.now.length))) = (byteRows u).take w.a ++ (byteRows (w.now.take (tearN torn w.now.length)) ++ (byteRows u).drop (w.a + (w.now.take (tearN torn w.now.length)).length)) := by
      rw [put, byteRows_append, byteRows_append, byteRows_take, byteRows_drop]
    have hnl := byteRows_len (w.now.take (tearN torn w.now.length))
    generalize hX2 : w.now.take (tearN torn w.now.length) = X2 at *
    have c3 : min X2.length (u.length - w.a) = X2.length := by omega
    have hLt : (byteRows X2).take X2.length = byteRows X2 := List.take_of_length_le (by omega)
    obtain ⟨l1, l2⟩ := fz_cell w.n w.now
    obtain ⟨l3, l4⟩ := fz_cell false w.was
    have l5 := fun ns al => (fz_low w.n w.now ns al).1
    have l6 := fun ns al => (fz_low false w.was ns al).1
    have l8 := fun ns al => (fz_low w.n w.now ns al).2
    have hfl := fz_len w.n w.now
    have q1 : (w.a : Int) ≤ (u.length : Int) := by omega
    have q2 : w.a ≤ u.length := by omega
    have q3 : (kn : Int) < (ps.length : Int) := by omega
    have q4 : w.a + X2.length ≤ u.length := ht1
    have q5 : kn ≤ ps.length := hkle
    have d4 : 0 < c' + 1 := by omega
    have d5 : 1 < c' + 1 := by omega
    have d6 : 2 < c' + 1 := by omega
    have d7 : 3 < c' + 1 := by omega
    have hkl : kn < (ps.map prow).length := by rw [hPl]; exact hlt
    have hpt : (ps.map prow)[kn]'hkl = prow w := (List.getElem?_eq_some_iff.1 hP).2
    have hul2 := byteRows_len u
    have hpl2 := byteRows_len (put u w.a X2)
    have hut : (byteRows u).take b.length = byteRows u := List.take_of_length_le (by omega)
    have hpt2 : (byteRows (put u w.a X2)).take b.length = byteRows (put u w.a X2) := List.take_of_length_le (by omega)
    have eput' := eput.symm
    rw [hul] at q1 q2 q4 c3 hul2 hpl
    rw [dkc, dkc]
    generalize byteRows (put u w.a X2) = PB at *
    rw [H15, H15] at L
    simp only [prow] at hP hpt
    generalize byteRows X2 = BX at *
    generalize byteRows u = U at *
    generalize ps.map prow = P at *
    generalize byteRows b = B at *
    generalize slz w.n w.now (tearN torn w.now.length) = sv at *
    generalize fz w.n w.now = nv at *
    generalize fz false w.was = wv at *
    generalize tearN torn w.now.length = tn at *
    simp [F15, Y15, V15, hPl, hul] at L
    simp -implicitDefEqProofs [a15, c15, amm, ammL, amm2, hbl, hPl, hmx, hmn, hmn', k1, q5, q30, i30, a30i, c30i, evInl, q38, j38, evItr, a38i, c38i, w1]
    rw [iter_keep]
    simp [a1, a2, a3, a4, a5, a6, a7]
    rw [L]
    rcases hX' with rfl | ⟨g, r, rfl⟩
    · simp -implicitDefEqProofs [rangeEnd, z65, hPl, hlt, q3, hP, hpt, l1, l2, l3, l4, l5, l6, l8, hfl, wl, amm, ammL, amm2, hmm1, hmm2, hmm3, hz, hs, hlo, q1, q2, q4, c3, hLt, hul2, hnl, d0, d1, d2, d3, d4, d5, d6, d7, eput', hpl2, hpl, hut, hpt2, acopy]
    · simp -implicitDefEqProofs [rangeEnd, z65, hPl, hlt, q3, hP, hpt, l1, l2, l3, l4, l5, l6, l8, hfl, wl, amm, ammL, amm2, hmm1, hmm2, hmm3, hz, hs, hlo, q1, q2, q4, c3, hLt, hul2, hnl, d0, d1, d2, d3, d4, d5, d6, d7, eput', hpl2, hpl, hut, hpt2, acopy]
  · have hke : kn = ps.length := by omega
    have hg : ps[kn]? = none := List.getElem?_eq_none (by omega)
    rw [hg]
    simp only
    have q3 : ¬ (kn : Int) < (ps.length : Int) := by omega
    have hul2 := byteRows_len u
    have hut : (byteRows u).take b.length = byteRows u := List.take_of_length_le (by omega)
    rw [hul] at hul2
    rw [dkc, dkc]
    rw [H15, H15] at L
    generalize byteRows u = U at *
    generalize ps.map prow = P at *
    generalize byteRows b = B at *
    simp [F15, Y15, V15, hPl, hul] at L
    simp -implicitDefEqProofs [a15, c15, amm, ammL, amm2, hbl, hPl, hmx, hmn, hmn', k1, hkle, q30, i30, a30i, c30i, evInl, q38, j38, evItr, a38i, c38i, w1]
    rw [iter_keep]
    simp [a1, a2, a3, a4, a5, a6, a7]
    rw [L]
    rcases hX' with rfl | ⟨g, r, rfl⟩
    · simp -implicitDefEqProofs [rangeEnd, z65, hPl, q3, hul2, hut, d0, d1, d2, d3]
    · simp -implicitDefEqProofs [rangeEnd, z65, hPl, q3, hul2, hut, d0, d1, d2, d3]
end Go.Abs.Try

namespace Go.Abs.Try
open Go Go.Abs
set_option maxHeartbeats 16000000
set_option maxRecDepth 100000
set_option linter.unusedSimpArgs false
set_option linter.unusedVariables false

theorem put_app {H T : AH} {nm g b} (h : ∀ e ∈ H, e.nm < nm) : (H ++ T).put nm g b = H ++ T.put nm g b := by
  induction H with
  | nil => rfl
  | cons e r ih =>
    have h1 := h e List.mem_cons_self
    have h2 : ¬ e.nm = nm := by omega
    have h3 : ¬ nm < e.nm := by omega
    simp only [List.cons_append, AH.put, Nat.beq_eq, Nat.blt_eq, h2, h3, if_false]
    rw [ih (fun x hx => h x (List.mem_cons_of_mem _ hx))]
theorem get_app {H T : AH} {nm g} (h : ∀ e ∈ H, e.nm < nm) : (H ++ T).get nm g = T.get nm g := by
  induction H with
  | nil => rfl
  | cons e r ih =>
    have h1 := h e List.mem_cons_self
    have h2 : ¬ e.nm = nm := by omega
    simp only [List.cons_append, AH.get, Nat.beq_eq, h2, if_false]
    exact ih (fun x hx => h x (List.mem_cons_of_mem _ hx))
theorem only_app {H T : AH} {ks : List Nat} (h : ∀ e ∈ H, e.nm ∈ ks) : (H ++ T).only ks = H ++ T.only ks := by
  induction H with
  | nil => rfl
  | cons e r ih =>
    have h1 := h e List.mem_cons_self
    simp only [List.cons_append, AH.only]
    rw [if_pos ((any_beq _ _).2 h1), ih (fun x hx => h x (List.mem_cons_of_mem _ hx))]
theorem put_put {h : AH} {nm g g' b b'} : (h.put nm g b).put nm g' b' = h.put nm g' b' := by
  induction h with
  | nil => simp [AH.put]
  | cons e r ih =>
    simp only [AH.put]
    by_cases h1 : e.nm = nm
    · simp [h1, AH.put]
    · by_cases h2 : nm < e.nm
      · simp [h1, h2, AH.put]
      · simp [h1, h2, AH.put, ih]
/-- memory below the names of Lent's own -/
structure HiOK (H : AH) : Prop where
  hp : ∀ (nm g : Nat) (b : Blk) (T : AH), 3230007 ≤ nm → (H ++ T).put nm g b = H ++ T.put nm g b
  hp0 : ∀ (nm g : Nat) (b : Blk), 3230007 ≤ nm → H.put nm g b = H ++ [⟨nm, g, b⟩]
  hg : ∀ (nm g : Nat) (T : AH), 3230007 ≤ nm → (H ++ T).get nm g = T.get nm g
  ho : ∀ (T : AH), (H ++ T).only kh23i_0 = H ++ T.only kh23i_0
  ho0 : H.only kh23i_0 = H
theorem HiOK.of {H : AH} (h : ∀ e ∈ H, e.nm < 3230007 ∧ e.nm ∈ kh23i_0) : HiOK H where
  hp := fun nm g b T hn => put_app (fun e he => Nat.lt_of_lt_of_le (h e he).1 hn)
  hp0 := fun nm g b hn => by
    have := put_app (H := H) (T := []) (nm := nm) (g := g) (b := b) (fun e he => Nat.lt_of_lt_of_le (h e he).1 hn)
    simpa [AH.put] using this
  hg := fun nm g T hn => get_app (fun e he => Nat.lt_of_lt_of_le (h e he).1 hn)
  ho := fun T => only_app (fun e he => (h e he).2)
  ho0 := by
    have := only_app (H := H) (T := []) (fun e he => (h e he).2)
    simpa [AH.only] using this

theorem k23a : 3230007 ∈ kh23i_0 := by decide +kernel
theorem k23b : 3230014 ∈ kh23i_0 := by decide +kernel
theorem k23c : 3230013 ∉ kh23i_0 := by decide +kernel
abbrev mk : List AV := [.int .u8 195]

theorem step23 {H : AH} (hH : HiOK H) (Φ : Nat → Option FnF) (K N : Nat) (hN : N = 3230007 ∨ N = 3230014) (v : AV) (R : List (List AV)) (hR : R.length ≤ 1000000) (i k g c : Nat) (hi : i < 7) :
    ∃ g' c', c ≤ c' ∧ iter (ev Φ K b23i_0) [0, 3, 4] kh23i_0 (k + 1) ⟨[(0, v), (3, .own N g 0 R.length), (4, .int .i64 i)], (H ++ [⟨N, g, .arr 1 R false⟩]), c⟩ =
      iter (ev Φ K b23i_0) [0, 3, 4] kh23i_0 k ⟨[(0, v), (3, .own N g' 0 (R ++ [mk]).length), (4, .int .i64 (i + 1 : Nat))], (H ++ [⟨N, g', .arr 1 (R ++ [mk]) false⟩]), c'⟩ := by
  have h1 : (i : Int) < 7 := by omega
  have w1 : IntKind.i64.wrap ((i : Int) + 1) = (i : Int) + 1 := wrap_i64 _ (by omega) (by omega)
  have e2 : R.take R.length = R := List.take_of_length_le (Nat.le_refl _)
  have e3 : R.length ≤ 17592186044415 := by omega
  have e5 : ¬ R.length + 1 ≤ R.length := by omega
  refine ⟨c + 1, c + 2, by omega, iter_norm ?_⟩
  rcases hN with rfl | rfl
  · simp -implicitDefEqProofs [b23i_0, k23a, k23b, k23c, hH.hp, hH.hp0, hH.hg, hH.ho, hH.ho0, St.keep, h1, w1, aappend, maxBytes, e2, e3, e5]
  · simp -implicitDefEqProofs [b23i_0, k23a, k23b, k23c, hH.hp, hH.hp0, hH.hg, hH.ho, hH.ho0, St.keep, h1, w1, aappend, maxBytes, e2, e3, e5]

theorem loop23 {H : AH} (hH : HiOK H) (Φ : Nat → Option FnF) (K N : Nat) (hN : N = 3230007 ∨ N = 3230014) (v : AV) : ∀ (d i k : Nat) (R : List (List AV)) (g c : Nat), i + d = 7 → d < k → R.length + d ≤ 1000000 →
    ∃ g' c', c ≤ c' ∧ iter (ev Φ K b23i_0) [0, 3, 4] kh23i_0 k ⟨[(0, v), (3, .own N g 0 R.length), (4, .int .i64 i)], (H ++ [⟨N, g, .arr 1 R false⟩]), c⟩ =
      some (.exit 0, ⟨[(0, v), (3, .own N g' 0 (R.length + d)), (4, .int .i64 7), (8, .int .i64 7), (9, .bool false)], (H ++ [⟨N, g', .arr 1 (R ++ List.replicate d mk) false⟩]), c'⟩)
  | d, i, 0, R, g, c, hi, hk, hR => by omega
  | 0, i, k + 1, R, g, c, hi, hk, hR => by
    obtain rfl : i = 7 := by omega
    refine ⟨g, c, Nat.le_refl _, ?_⟩
    rw [iter_succ]
    rcases hN with rfl | rfl <;> simp -implicitDefEqProofs [b23i_0, k23a, k23b, k23c, hH.hp, hH.hp0, hH.hg, hH.ho, hH.ho0]
  | d + 1, i, k + 1, R, g, c, hi, hk, hR => by
    obtain ⟨g1, c1, hc1, e1⟩ := step23 hH Φ K N hN v R (by omega) i k g c (by omega)
    obtain ⟨g2, c2, hc2, e2⟩ := loop23 hH Φ K N hN v d (i + 1) k (R ++ [mk]) g1 c1 (by omega) (by omega) (by simp; omega)
    refine ⟨g2, c2, by omega, ?_⟩
    rw [e1, e2]
    have e3 : (R ++ [mk]) ++ List.replicate d mk = R ++ List.replicate (d + 1) mk := by rw [List.append_assoc]; rfl
    have e4 : (R ++ [mk]).length + d = R.length + (d + 1) := by simp; omega
    rw [e3, e4]

/-- the bytes of an argument -/
def Is (l : List UInt8) (v : AV) : Prop := (v = .nilS ∧ l = []) ∨ v = .ro false 1 (byteRows l)

theorem lent23 {H : AH} (hH : HiOK H) (n c : Nat) (l : List UInt8) (v : AV) (hv : Is l v) (hl : l.length ≤ 500000) :
    ∃ N g c', (N = 3230007 ∨ N = 3230014) ∧ c ≤ c' ∧ I (n + 1) 23 H c [v] = some (.own N g 0 l.length, H ++ [⟨N, g, .arr 1 (byteRows l ++ List.replicate 7 mk) false⟩], c') := by
  rw [i23]
  have hb := byteRows_len l
  by_cases h0 : l = []
  · -- the first byte makes the array
    subst h0
    obtain ⟨g, c', hcc, e⟩ := loop23 hH (Q n) 3000 3230014 (.inr rfl) v 6 1 2999 [mk] (c + 1) (c + 2) (by omega) (by omega) (by simp)
    refine ⟨3230014, g, c', .inr rfl, by omega, ?_⟩
    have st : iter (ev (Q n) 3000 b23i_0) [0, 3, 4] kh23i_0 3000 ⟨[(0, v), (3, .nilS), (4, .int .i64 0)], H, c⟩ = iter (ev (Q n) 3000 b23i_0) [0, 3, 4] kh23i_0 2999 ⟨[(0, v), (3, .own 3230014 (c + 1) 0 1), (4, .int .i64 1)], H ++ [⟨3230014, c + 1, .arr 1 [mk] false⟩], c + 2⟩ := by
      have w1 : IntKind.i64.wrap 1 = 1 := wrap_i64 _ (by omega) (by omega)
      refine iter_norm ?_
      simp -implicitDefEqProofs [b23i_0, k23a, k23b, k23c, hH.hp, hH.hp0, hH.hg, hH.ho, hH.ho0, St.keep, w1, aappend, maxBytes]
    have hr : [mk] ++ List.replicate 6 mk = List.replicate 7 mk := rfl
    rw [hr] at e
    simp at e
    rcases hv with ⟨rfl, _⟩ | rfl
    · simp -implicitDefEqProofs [evInl, a23i, c23i, k23a, k23b, k23c, hH.hp, hH.hp0, hH.hg, hH.ho, hH.ho0, aappend]
      rw [iter_keep]
      simp [k23a, k23b, k23c, hH.hp, hH.hp0, hH.hg, hH.ho, hH.ho0]
      rw [st, e]
      simp [byteRows, k23a, k23b, k23c, hH.hp, hH.hp0, hH.hg, hH.ho, hH.ho0]
    · simp -implicitDefEqProofs [evInl, a23i, c23i, k23a, k23b, k23c, hH.hp, hH.hp0, hH.hg, hH.ho, hH.ho0, aappend, byteRows]
      rw [iter_keep]
      simp [k23a, k23b, k23c, hH.hp, hH.hp0, hH.hg, hH.ho, hH.ho0]
      simp [byteRows] at st
      rw [st]
      simp [byteRows] at e
      rw [e]
      simp [byteRows, k23a, k23b, k23c, hH.hp, hH.hp0, hH.hg, hH.ho, hH.ho0]
  · rcases hv with ⟨_, h⟩ | rfl
    · exact absurd h h0
    obtain ⟨b, r, rfl⟩ : ∃ b r, l = b :: r := by
      cases l with
      | nil => exact absurd rfl h0
      | cons b r => exact ⟨b, r, rfl⟩
    obtain ⟨g, c', hcc, e⟩ := loop23 hH (Q n) 3000 3230007 (.inl rfl) (.ro false 1 (byteRows (b :: r))) 7 0 3000 (byteRows (b :: r)) c (c + 1) (by omega) (by omega) (by rw [hb]; omega)
    refine ⟨3230007, g, c', .inl rfl, by omega, ?_⟩
    rw [hb] at e
    have q1 : r.length + 1 ≤ 17592186044416 := by simp at hl; omega
    have eb : byteRows (b :: r) = [.int .u8 b.toNat] :: byteRows r := rfl
    have hbr := byteRows_len r
    rw [eb] at e ⊢
    simp -implicitDefEqProofs [evInl, a23i, c23i, k23a, k23b, k23c, hH.hp, hH.hp0, hH.hg, hH.ho, hH.ho0, aappend, maxBytes, hbr, show r.length ≤ 17592186044415 by omega]
    rw [iter_keep]
    simp [k23a, k23b, k23c, hH.hp, hH.hp0, hH.hg, hH.ho, hH.ho0]
    simp at e
    rw [e]
    simp [k23a, k23b, k23c, hH.hp, hH.hp0, hH.hg, hH.ho, hH.ho0, hbr, show (0 : Int) ≤ (r.length : Int) + 1 by omega, show (r.length : Int) ≤ (r.length : Int) + 7 by omega, show r.length + 1 ≤ r.length + 7 + 1 by omega]


theorem loop24 (Φ : Nat → Option FnF) (K N g : Nat) (l : List UInt8) (hl : l.length ≤ 500000) (H : AH) (c : Nat) (hH : H.get N g = some (.arr 1 (byteRows l ++ List.replicate 7 mk) false)) (hB : H.only kh24i_0 = H) : ∀ (d j k : Nat), j + d = 7 → d < k →
    ∃ s', iter (ev Φ K b24i_0) [5, 6] kh24i_0 k ⟨[(5, .own N g 0 (l.length + 7)), (6, .int .i64 ((l.length : Int) + j))], H, c⟩ = some (.exit 0, s') ∧ s'.h = H ∧ s'.c = c
  | d, j, 0, hj, hk => by omega
  | 0, j, k + 1, hj, hk => by
    obtain rfl : j = 7 := by omega
    rw [iter_succ]
    simp -implicitDefEqProofs [b24i_0, hB]
  | d + 1, j, k + 1, hj, hk => by
    obtain ⟨s', e, e1, e2⟩ := loop24 Φ K N g l hl H c hH hB d (j + 1) k (by omega) (by omega)
    refine ⟨s', ?_, e1, e2⟩
    rw [← e]
    have h1 : (j : Int) < 7 := by omega
    have w1 : IntKind.i64.wrap ((l.length : Int) + (j : Int) + 1) = (l.length : Int) + ((j : Int) + 1) := by rw [wrap_i64 _ (by omega) (by omega)]; omega
    have p1 : 0 ≤ (l.length : Int) + (j : Int) := by omega
    have p2 : ((l.length : Int) + (j : Int)).toNat = l.length + j := by omega
    have hget : (byteRows l ++ List.replicate 7 mk)[l.length + j]? = some mk := by
      rw [List.getElem?_append_right (by rw [byteRows_len]; omega), byteRows_len, show l.length + j - l.length = j by omega, List.getElem?_replicate, if_pos (by omega)]
    have hget' := (List.getElem?_eq_some_iff.1 hget).2
    have hlen : (byteRows l ++ List.replicate 7 mk).length = l.length + 7 := by rw [List.length_append, byteRows_len]; simp
    have p3 : l.length + j < l.length + 7 := by omega
    generalize byteRows l ++ List.replicate 7 mk = R at *
    refine iter_norm ?_
    simp -implicitDefEqProofs [b24i_0, St.keep, hB, h1, w1, p1, p2, p3, hH, hget, hget', hlen, show j < 7 by omega]

theorem kept24 (n N g : Nat) (l : List UInt8) (v : AV) (hv : Is l v) (hl : l.length ≤ 500000) (H : AH) (c : Nat) (hH : H.get N g = some (.arr 1 (byteRows l ++ List.replicate 7 mk) false)) (hB : H.only kh24i_0 = H) :
    I (n + 1) 24 H c [.own N g 0 l.length, v] = some (.bool true, H, c) := by
  rw [i24]
  obtain ⟨s', e, e1, e2⟩ := loop24 (Q n) 3000 N g l hl H c hH hB 7 0 3000 (by omega) (by omega)
  obtain ⟨f', h', c'⟩ := s'
  obtain rfl : h' = H := e1
  obtain rfl : c' = c := e2
  have hb := byteRows_len l
  have ht := toBytes_rows l
  have w1 : IntKind.i64.wrap ((l.length : Int) + 7) = (l.length : Int) + 7 := wrap_i64 _ (by omega) (by omega)
  have p1 : 0 ≤ (l.length : Int) + 7 := by omega
  have p2 : ((l.length : Int) + 7).toNat = l.length + 7 := by omega
  have hlen : (byteRows l ++ List.replicate 7 mk).length = l.length + 7 := by rw [List.length_append, hb]; simp
  have htk : (byteRows l ++ List.replicate 7 mk).take l.length = byteRows l := by rw [List.take_append_of_le_length (by omega), List.take_of_length_le (by omega)]
  have e' := e
  simp at e'
  rcases hv with ⟨rfl, rfl⟩ | rfl
  · have w7 : IntKind.i64.wrap 7 = 7 := wrap_i64 _ (by omega) (by omega)
    generalize byteRows [] ++ List.replicate 7 mk = R at *
    simp at hlen
    simp -implicitDefEqProofs [evInl, a24i, c24i, hH, hB, hlen, w7, show toBytes [] = some [] from rfl]
    rw [iter_keep]
    simp [hB]
    simp at e'
    rw [e']
    simp [hB]
  · generalize byteRows l ++ List.replicate 7 mk = R at *
    simp -implicitDefEqProofs [evInl, a24i, c24i, hH, hB, hb, ht, w1, p1, p2, hlen, htk]
    rw [iter_keep]
    simp [hB]
    rw [e']
    simp [hB]
end Go.Abs.Try

namespace Go.Abs.Try
open Go Go.Abs
set_option maxHeartbeats 16000000
set_option maxRecDepth 100000
set_option linter.unusedSimpArgs false
set_option linter.unusedVariables false

/- ------------------------------------------------ the two disks, as wholes -/
structure DS where
  b : List UInt8
  ps : List PW
  dn : Bool
  st : Bool
  lf : Int
structure RS where
  s : List UInt8
  qs : List Wr
  dn : Bool
  st : Bool
  lf : Int
def dV (d : DS) : List AV := dkc (byteRows d.b) (pdv d.ps) d.dn d.st d.lf
def rV (r : RS) : List AV := rkc r.s (qv r.qs) r.dn r.st r.lf
theorem pdv_cell (ps) : PCell (pdv ps) := by
  unfold pdv; split
  · exact .inl rfl
  · exact .inr ⟨_, rfl⟩
theorem push_pdv (ps : List PW) (w : PW) : pushP (pdv ps) (prow w) = pdv (ps ++ [w]) := by
  unfold pdv
  by_cases h : ps = []
  · subst h; simp [pushP]
  · simp [h, pushP]
/-- bounds -/
structure DOK (N : Nat) (d : DS) : Prop where
  b : d.b.length ≤ 1000000
  p : d.ps.length ≤ N
  l0 : 0 ≤ d.lf
  l1 : d.lf ≤ 1000000
  s1 : d.st = true → d.dn = false → 1 ≤ d.lf
  w : ∀ w ∈ d.ps, w.a + w.was.length ≤ d.b.length ∧ w.now.length = w.was.length
structure ROK (N : Nat) (r : RS) : Prop where
  s : r.s.length ≤ 1000000
  p : r.qs.length ≤ N
  l0 : 0 ≤ r.lf
  l1 : r.lf ≤ 1000000
  s1 : r.st = true → r.dn = false → 1 ≤ r.lf
  w : InR r.s.length r.qs

def dStep (d : DS) : DS := { d with dn := (stepD d.st false d.lf).1, lf := (stepD d.st false d.lf).2 }
def dWrite (d : DS) (at_ : Int) (n : Bool) (l : List UInt8) : Int × DS :=
  if d.dn then (80, d) else if inB d.b.length at_ l.length then
    (0, dStep { d with b := put d.b at_.toNat l, ps := d.ps ++ [⟨at_.toNat, n, l, (d.b.drop at_.toNat).take l.length⟩] }) else (81, d)
def dSync (d : DS) : Int × DS := if d.dn then (80, d) else (0, dStep { d with ps := [] })
def dStop (d : DS) (n : Int) : Int × DS := if d.dn then (80, d) else if n < 0 ∨ 1000000 < n then (1, d) else (0, { d with dn := n == 0, st := true, lf := n })
def dCrash (d : DS) (keep torn : Int) : DS := { d with b := pcrash keep torn d.ps d.b, ps := [], dn := false, st := false }
def dRead (d : DS) (at_ n : Int) : List UInt8 × Int := if inB d.b.length at_ n then ((d.b.drop at_.toNat).take n.toNat, 0) else ([], 81)
def rStep (r : RS) : RS := { r with dn := (stepD r.st false r.lf).1, lf := (stepD r.st false r.lf).2 }
def rWrite (r : RS) (at_ : Int) (l : List UInt8) : Int × RS :=
  if r.dn then (80, r) else if inB r.s.length at_ l.length then (0, rStep { r with qs := r.qs ++ [(at_.toNat, l)] }) else (81, r)
def rSync (r : RS) : Int × RS := if r.dn then (80, r) else (0, rStep { r with s := now r.s r.qs, qs := [] })
def rStop (r : RS) (n : Int) : Int × RS := if r.dn then (80, r) else if n < 0 ∨ 1000000 < n then (1, r) else (0, { r with dn := n == 0, st := true, lf := n })
def rCrash (r : RS) (keep torn : Int) : RS := { r with s := rcrash keep torn 0 r.s r.qs, qs := [], dn := false, st := false }
def rRead (r : RS) (at_ n : Int) : List UInt8 × Int := if inB r.s.length at_ n then (((now r.s r.qs).drop at_.toNat).take n.toNat, 0) else ([], 81)

theorem eWrite (m : Nat) {N : Nat} (hN : N ≤ 100000) (d : DS) (h : DOK N d) (at_ : Int) (n : Bool) (l : List UInt8) (v : AV) (hv : BArg n l v) : E (m + 2) 17 [.pv (dV d), .int .i64 at_, v] = some (.int .i64 (dWrite d at_ n l).1, [dV (dWrite d at_ n l).2]) := by
  unfold dWrite
  obtain ⟨b, ps, dn, st, lf⟩ := d
  cases dn with
  | true => exact write17d m b (pdv ps) st lf (pdv_cell _) at_ n l v hv
  | false =>
    simp only [Bool.false_eq_true, if_false]
    split
    · next hin =>
      obtain ⟨a, j, rfl, hj, hle⟩ := inB_spec hin
      have hj' : j = l.length := by omega
      subst hj'
      have := write17 m b (pdv ps) st lf (pdv_cell _) h.b (by have := h.l0; simp at this; omega) h.l1 (fun P hP => by
        unfold pdv at hP
        split at hP
        · cases hP
        · injection hP with _ hP; subst hP; simp; have := h.p; simp at this; omega) a n l v hv hle
      rw [show (([AV.int .i64 a, fz n l, fz false ((b.drop a).take l.length)] : List AV)) = prow ⟨a, n, l, (b.drop a).take l.length⟩ from rfl, push_pdv] at this
      exact this
    · next hin => exact write17e m b (pdv ps) st lf (pdv_cell _) h.b at_ n l v hv (by simpa using hin)
theorem eSync (m : Nat) {N : Nat} (d : DS) (h : DOK N d) : E (m + 2) 18 [.pv (dV d)] = some (.int .i64 (dSync d).1, [dV (dSync d).2]) := by
  have := sync18 m (byteRows d.b) (pdv d.ps) d.dn d.st d.lf (pdv_cell _) (by have := h.l0; omega) h.l1
  unfold dSync
  obtain ⟨b, ps, dn, st, lf⟩ := d
  cases dn <;> exact this
theorem eStop (m : Nat) (d : DS) (n : Int) : E (m + 2) 22 [.pv (dV d), .int .i64 n] = some (.int .i64 (dStop d n).1, [dV (dStop d n).2]) := by
  have := stop22 m (byteRows d.b) (pdv d.ps) d.dn d.st d.lf n (pdv_cell _)
  unfold dStop
  obtain ⟨b, ps, dn, st, lf⟩ := d
  cases dn with
  | true => exact this
  | false =>
    by_cases hn : n < 0 ∨ 1000000 < n
    · simp only [hn, if_true] at this ⊢; exact this
    · simp only [hn, if_false] at this ⊢; exact this
theorem eRead (m : Nat) {N : Nat} (d : DS) (h : DOK N d) (at_ n : Int) : E (m + 2) 16 [.pv (dV d), .int .i64 at_, .int .i64 n] = some (.tup [if inB d.b.length at_ n then cl (dRead d at_ n).1 else .nilS, .int .i64 (dRead d at_ n).2], [dV d]) := by
  unfold dRead
  split
  · next hin =>
    obtain ⟨a, j, rfl, rfl, hle⟩ := inB_spec hin
    exact read16 m d.b (pdv d.ps) d.dn d.st d.lf (pdv_cell _) h.b a j hle
  · next hin => exact read16e m d.b (pdv d.ps) d.dn d.st d.lf (pdv_cell _) h.b at_ n (by simpa using hin)
theorem eCrash (m : Nat) {N : Nat} (hN : N ≤ 1000) (d : DS) (h : DOK N d) (keep torn : Int) : E (m + 3) 15 [.pv (dV d), .int .i64 keep, .int .i64 torn] = some (.int .i64 0, [dV (dCrash d keep torn)]) := by
  obtain ⟨b, ps, dn, st, lf⟩ := d
  by_cases hp : ps = []
  · subst hp
    have e1 : pcrash keep torn [] b = b := by simp [pcrash, undo]
    unfold dCrash dV
    simp only [e1]
    exact crash15z m keep torn b dn st lf
  · have hd : pdv ps = .fr 3 (ps.map prow) := by simp [pdv, hp]
    have := crash15 m keep torn b ps dn st lf hp h.b (by have := h.p; simp at this; omega) h.w
    unfold dCrash dV
    simp only [hd]
    exact this
theorem eRoom (m : Nat) (d : DS) : E (m + 1) 19 [.pv (dV d)] = some (.int .i64 d.b.length, [dV d]) := by
  have := room19 m (byteRows d.b) (pdv d.ps) d.dn d.st d.lf (pdv_cell _)
  rw [byteRows_len] at this
  exact this
theorem eDown (m : Nat) (d : DS) : E (m + 1) 20 [.pv (dV d)] = some (.bool d.dn, [dV d]) := down20 m (byteRows d.b) (pdv d.ps) d.dn d.st d.lf (pdv_cell _)
theorem erWrite (m : Nat) {N : Nat} (hN : N ≤ 1000) (r : RS) (h : ROK N r) (at_ : Int) (n : Bool) (l : List UInt8) (v : AV) (hv : BArg n l v) : E (m + 2) 25 [.pv (rV r), .int .i64 at_, v] = some (.int .i64 (rWrite r at_ l).1, [rV (rWrite r at_ l).2]) := by
  unfold rWrite
  obtain ⟨s, qs, dn, st, lf⟩ := r
  cases dn with
  | true => exact rwrite25d m s qs st lf at_ n l v hv
  | false =>
    simp only [Bool.false_eq_true, if_false]
    split
    · next hin =>
      obtain ⟨a, j, rfl, hj, hle⟩ := inB_spec hin
      have hj' : j = l.length := by omega
      subst hj'
      exact rwrite25 m s qs st lf h.s (by have := h.p; simp at this; omega) (by have := h.l0; simp at this; omega) h.l1 a n l v hv hle
    · next hin => exact rwrite25e m s qs st lf h.s at_ n l v hv (by simpa using hin)
theorem erSync (m : Nat) {N : Nat} (hN : N ≤ 1000) (r : RS) (h : ROK N r) : E (m + 3) 26 [.pv (rV r)] = some (.int .i64 (rSync r).1, [rV (rSync r).2]) := by
  have := rsync26 m r.s r.qs r.dn r.st r.lf h.s (by have := h.p; omega) h.w (by have := h.l0; omega) h.l1
  unfold rSync
  obtain ⟨s, qs, dn, st, lf⟩ := r
  cases dn <;> exact this
theorem erStop (m : Nat) (r : RS) (n : Int) : E (m + 1) 28 [.pv (rV r), .int .i64 n] = some (.int .i64 (rStop r n).1, [rV (rStop r n).2]) := by
  have := rstop28 m r.s r.qs r.dn r.st r.lf n
  unfold rStop
  obtain ⟨s, qs, dn, st, lf⟩ := r
  cases dn with
  | true => exact this
  | false =>
    by_cases hn : n < 0 ∨ 1000000 < n
    · simp only [hn, if_true] at this ⊢; exact this
    · simp only [hn, if_false] at this ⊢; exact this
theorem erRead (m : Nat) {N : Nat} (hN : N ≤ 1000) (r : RS) (h : ROK N r) (at_ n : Int) : E (m + 3) 27 [.pv (rV r), .int .i64 at_, .int .i64 n] = some (.tup [.str ⟨(rRead r at_ n).1.toArray⟩, .int .i64 (rRead r at_ n).2], [rV r]) := by
  unfold rRead
  split
  · next hin =>
    obtain ⟨a, j, rfl, rfl, hle⟩ := inB_spec hin
    exact rread27 m r.s r.qs r.dn r.st r.lf h.s (by have := h.p; omega) h.w a j hle
  · next hin => exact rread27e m r.s r.qs r.dn r.st r.lf h.s at_ n (by simpa using hin)
theorem erCrash (m : Nat) {N : Nat} (hN : N ≤ 1000) (r : RS) (h : ROK N r) (keep torn : Int) : E (m + 2) 29 [.pv (rV r), .int .i64 keep, .int .i64 torn] = some (.tup [], [rV (rCrash r keep torn)]) :=
  rcrash29 m r.s r.qs r.dn r.st r.lf keep torn h.s (by have := h.p; omega) h.w
theorem erNow (m : Nat) {N : Nat} (hN : N ≤ 1000) (r : RS) (h : ROK N r) : E (m + 2) 21 [.pv (rV r)] = some (.str ⟨(now r.s r.qs).toArray⟩, [rV r]) :=
  now21 m r.s r.qs r.dn r.st r.lf h.s (by have := h.p; omega) h.w

/- ------------------------------------------------ the bounds last -/
theorem inB_len {k : Nat} {at_ : Int} {l : List UInt8} (h : inB k at_ l.length = true) : at_.toNat + l.length ≤ k := by
  obtain ⟨a, j, rfl, hj, hle⟩ := inB_spec h
  omega
theorem step_ok {st : Bool} {lf : Int} (l0 : 0 ≤ lf) (l1 : lf ≤ 1000000) (s1 : st = true → 1 ≤ lf) : 0 ≤ (stepD st false lf).2 ∧ (stepD st false lf).2 ≤ 1000000 ∧ (st = true → (stepD st false lf).1 = false → 1 ≤ (stepD st false lf).2) := by
  unfold stepD
  cases st with
  | false => exact ⟨l0, l1, fun h => by cases h⟩
  | true =>
    have := s1 rfl
    refine ⟨by simp; omega, by simp; omega, fun _ h => ?_⟩
    simp at h ⊢; omega
theorem DOK.write {N : Nat} {d : DS} (h : DOK N d) (at_ n l) : DOK (N + 1) (dWrite d at_ n l).2 := by
  have up : DOK (N + 1) d := { h with p := Nat.le_succ_of_le h.p }
  unfold dWrite
  split
  · exact up
  next hd =>
  split
  · next hin =>
    have hle := inB_len hin
    have hl := put_len d.b at_.toNat l hle
    obtain ⟨x1, x2, x3⟩ := step_ok h.l0 h.l1 (fun hs => h.s1 hs (by simpa using hd))
    refine ⟨by show (put d.b at_.toNat l).length ≤ _; rw [hl]; exact h.b, by simp [dStep]; exact h.p, x1, x2, x3, ?_⟩
    intro w hw
    show w.a + w.was.length ≤ (put d.b at_.toNat l).length ∧ _
    rw [hl]
    rcases List.mem_append.1 hw with hw | hw
    · exact h.w w hw
    · obtain rfl := List.mem_singleton.1 hw
      simp; omega
  · exact up
theorem DOK.sync {N : Nat} {d : DS} (h : DOK N d) : DOK N (dSync d).2 := by
  unfold dSync
  split
  · exact h
  next hd =>
  obtain ⟨x1, x2, x3⟩ := step_ok h.l0 h.l1 (fun hs => h.s1 hs (by simpa using hd))
  exact ⟨h.b, Nat.zero_le _, x1, x2, x3, fun w hw => by cases hw⟩
theorem DOK.stop {N : Nat} {d : DS} (h : DOK N d) (n : Int) : DOK N (dStop d n).2 := by
  unfold dStop
  split
  · exact h
  split
  · exact h
  next hn => exact ⟨h.b, h.p, by show 0 ≤ n; omega, by show n ≤ 1000000; omega, fun _ hdn => by
    have : ¬ n = 0 := by intro e; subst e; simp at hdn
    show 1 ≤ n; omega, h.w⟩
theorem pcrash_len {keep torn : Int} {ps : List PW} {b : List UInt8} (h : ∀ w ∈ ps, w.a + w.was.length ≤ b.length ∧ w.now.length = w.was.length) : (pcrash keep torn ps b).length = b.length := by
  have hu := undo_len b.length (ps.drop (keepN keep ps.length)) b rfl (fun w hw => (h w (List.mem_of_mem_drop hw)).1)
  unfold pcrash
  simp only
  split
  · next w hw =>
    obtain ⟨h1, h2⟩ := h w (List.mem_of_getElem? hw)
    have := tearN_le torn w.now.length
    rw [put_len _ _ _ (by rw [List.length_take, hu]; omega), hu]
  · exact hu
theorem DOK.crash {N : Nat} {d : DS} (h : DOK N d) (keep torn : Int) : DOK N (dCrash d keep torn) := by
  refine ⟨?_, Nat.zero_le _, h.l0, h.l1, (fun hs => by cases hs), (fun w hw => by cases hw)⟩
  show (pcrash keep torn d.ps d.b).length ≤ _
  rw [pcrash_len h.w]; exact h.b
theorem ROK.write {N : Nat} {r : RS} (h : ROK N r) (at_ l) : ROK (N + 1) (rWrite r at_ l).2 := by
  have up : ROK (N + 1) r := { h with p := Nat.le_succ_of_le h.p }
  unfold rWrite
  split
  · exact up
  next hd =>
  split
  · next hin =>
    have hle := inB_len hin
    obtain ⟨x1, x2, x3⟩ := step_ok h.l0 h.l1 (fun hs => h.s1 hs (by simpa using hd))
    refine ⟨h.s, by simp [rStep]; exact h.p, x1, x2, x3, ?_⟩
    intro w hw
    rcases List.mem_append.1 hw with hw | hw
    · exact h.w w hw
    · obtain rfl := List.mem_singleton.1 hw; exact hle
  · exact up
theorem ROK.sync {N : Nat} {r : RS} (h : ROK N r) : ROK N (rSync r).2 := by
  unfold rSync
  split
  · exact h
  next hd =>
  obtain ⟨x1, x2, x3⟩ := step_ok h.l0 h.l1 (fun hs => h.s1 hs (by simpa using hd))
  exact ⟨by show (now r.s r.qs).length ≤ _; rw [now_len _ _ h.w]; exact h.s, Nat.zero_le _, x1, x2, x3, fun w hw => by cases hw⟩
theorem ROK.stop {N : Nat} {r : RS} (h : ROK N r) (n : Int) : ROK N (rStop r n).2 := by
  unfold rStop
  split
  · exact h
  split
  · exact h
  next hn => exact ⟨h.s, h.p, by show 0 ≤ n; omega, by show n ≤ 1000000; omega, fun _ hdn => by
    have : ¬ n = 0 := by intro e; subst e; simp at hdn
    show 1 ≤ n; omega, h.w⟩
theorem rcrash_len (keep torn : Int) : ∀ (qs : List Wr) (i : Nat) (s : List UInt8), InR s.length qs → (rcrash keep torn i s qs).length = s.length
  | [], i, s, h => rfl
  | w :: r, i, s, h => by
    have hw := h w List.mem_cons_self
    have hp := put_len s w.1 w.2 hw
    rw [rcrash]
    have h1 : (if (i : Int) < keep then put s w.1 w.2 else s).length = s.length := by split <;> simp [hp]
    generalize (if (i : Int) < keep then put s w.1 w.2 else s) = s1 at *
    have h2 : (if i = keep.toNat ∧ w.2 ≠ [] then put s1 w.1 (w.2.take (tearN torn w.2.length)) else s1).length = s.length := by
      split
      · rw [put_len' s1 w torn (by omega), h1]
      · exact h1
    rw [rcrash_len keep torn r (i + 1) _ (by rw [h2]; exact fun x hx => h x (List.mem_cons_of_mem _ hx)), h2]
theorem ROK.crash {N : Nat} {r : RS} (h : ROK N r) (keep torn : Int) : ROK N (rCrash r keep torn) := by
  refine ⟨?_, Nat.zero_le _, h.l0, h.l1, (fun hs => by cases hs), (fun w hw => by cases hw)⟩
  show (rcrash keep torn 0 r.s r.qs).length ≤ _
  rw [rcrash_len _ _ _ _ _ h.w]; exact h.s
end Go.Abs.Try

namespace Go.Abs.Try
open Go Go.Abs
set_option maxHeartbeats 16000000
set_option maxRecDepth 100000
set_option linter.unusedSimpArgs false
set_option linter.unusedVariables false

/-- memory that is a function of one array's rows -/
structure Hole (F : List (List AV) → AH) (N g : Nat) (ks : List Nat) : Prop where
  hg : ∀ R, (F R).get N g = some (.arr 1 R false)
  hp : ∀ R R', (F R).put N g (.arr 1 R' false) = F R'
  ho : ∀ R, (F R).only ks = F R

abbrev ks14_0 : List Nat := [5, 100000, 100001, 100002, 100200, 100202, 100403, 3230007, 3230013, 3230014, 3230017, 101000000, 101000001, 101200001]
abbrev ks14_1 : List Nat := [69000, 100000, 100001, 100002, 100200, 100202, 101000000, 101000001, 101200001]

theorem loop14_0 (Φ : Nat → Option FnF) (K N g : Nat) (F : List (List AV) → AH) (hF : Hole F N g ks14_0) (L : Nat) (hL : L ≤ 1000000) (v1 v5 v8 v9 : AV) : ∀ (d i k : Nat) (R : List (List AV)) (c : Nat), i + d = L → d < k → R.length = L + 7 → (∀ r ∈ R, ∃ x, r = [x]) →
    ∃ s', iter (ev Φ K b14_0) [1, 5, 7, 8, 9, 10] ks14_0 k ⟨[(1, v1), (5, v5), (7, .own N g 0 L), (8, v8), (9, v9), (10, .int .i64 i)], F R, c⟩ = some (.exit 1, s') ∧ (∃ R', s'.h = F R') ∧ s'.c = c ∧ envOnly [1, 5, 8, 9] s'.env = [(1, v1), (5, v5), (8, v8), (9, v9)]
  | d, i, 0, R, c, hi, hk, hR, hw => by omega
  | 0, i, k + 1, R, c, hi, hk, hR, hw => by
    obtain rfl : i = L := by omega
    rw [iter_succ]
    simp -implicitDefEqProofs [b14_0, hF.hg, hF.hp, hF.ho]
    exact ⟨R, rfl⟩
  | d + 1, i, k + 1, R, c, hi, hk, hR, hw => by
    obtain ⟨s', e, e1⟩ := loop14_0 Φ K N g F hF L hL v1 v5 v8 v9 d (i + 1) k (R.set i [.int .u8 85]) c (by omega) (by omega) (by simpa using hR) (fun r hr => by rcases List.mem_or_eq_of_mem_set hr with h | h; exact hw r h; exact ⟨_, h⟩)
    refine ⟨s', ?_, e1⟩
    rw [← e]
    have h1 : (i : Int) < L := by omega
    have w1 : IntKind.i64.wrap ((i : Int) + 1) = (i : Int) + 1 := wrap_i64 _ (by omega) (by omega)
    have h3 : i < L + 7 := by omega
    have h4 : i < L := by omega
    obtain ⟨x, hx⟩ := hw R[i] (List.getElem_mem _)
    refine iter_norm ?_
    simp -implicitDefEqProofs [b14_0, St.keep, hF.hg, hF.hp, hF.ho, h1, w1, h3, h4, hR, hx]

theorem loop14_1 (Φ : Nat → Option FnF) (K N g : Nat) (F : List (List AV) → AH) (hF : Hole F N g ks14_1) (L : Nat) (hL : L ≤ 1000000) (v15 : AV) : ∀ (d i k : Nat) (R : List (List AV)) (c : Nat), i + d = L → d < k → R.length = L → (∀ r ∈ R, ∃ x, r = [x]) →
    ∃ s', iter (ev Φ K b14_1) [11, 15, 16] ks14_1 k ⟨[(11, .own N g 0 L), (15, v15), (16, .int .i64 i)], F R, c⟩ = some (.exit 3, s') ∧ (∃ R', s'.h = F R') ∧ s'.c = c ∧ envOnly [15] s'.env = [(15, v15)]
  | d, i, 0, R, c, hi, hk, hR, hw => by omega
  | 0, i, k + 1, R, c, hi, hk, hR, hw => by
    obtain rfl : i = L := by omega
    rw [iter_succ]
    simp -implicitDefEqProofs [b14_1, hF.hg, hF.hp, hF.ho]
    exact ⟨R, rfl⟩
  | d + 1, i, k + 1, R, c, hi, hk, hR, hw => by
    obtain ⟨s', e, e1⟩ := loop14_1 Φ K N g F hF L hL v15 d (i + 1) k (R.set i [.int .u8 85]) c (by omega) (by omega) (by simpa using hR) (fun r hr => by rcases List.mem_or_eq_of_mem_set hr with h | h; exact hw r h; exact ⟨_, h⟩)
    refine ⟨s', ?_, e1⟩
    rw [← e]
    have h1 : (i : Int) < L := by omega
    have w1 : IntKind.i64.wrap ((i : Int) + 1) = (i : Int) + 1 := wrap_i64 _ (by omega) (by omega)
    have h4 : i < L := by omega
    obtain ⟨x, hx⟩ := hw R[i] (List.getElem_mem _)
    refine iter_norm ?_
    simp -implicitDefEqProofs [b14_1, St.keep, hF.hg, hF.hp, hF.ho, h1, w1, h4, hR, hx]
end Go.Abs.Try

namespace Go.Abs.Try
open Go Go.Abs
set_option maxHeartbeats 16000000
set_option maxRecDepth 100000
set_option linter.unusedSimpArgs false
set_option linter.unusedVariables false

theorem call14_2 (m : Nat) {N : Nat} (hN : N ≤ 1000) (d : DS) (r : RS) (hd : DOK N d) (hr : ROK N r) (a n : Int) (l : List UInt8) (v : AV) (hv : Is l v) :
    E (m + 4) 14 [.pv (dV d), .pv (rV r), .agg [.int .i64 2, .int .i64 a, .int .i64 n, v]] = some (.bool ((dSync d).1 == (rSync r).1), [dV (dSync d).2, rV (rSync r).2]) := by
  rw [e14]
  have c1 := eSync (m + 1) d hd
  have c2 := erSync m hN r hr
  obtain ⟨b, ps, dn, st, lf⟩ := d
  obtain ⟨s, qs, rdn, rst, rlf⟩ := r
  generalize hx : dSync _ = x at *
  generalize hy : rSync _ = y at *
  obtain ⟨x1, ⟨b', ps', dn', st', lf'⟩⟩ := x
  obtain ⟨y1, ⟨s', qs', rdn', rst', rlf'⟩⟩ := y
  simp only [dV, rV, dkc, rkc] at *
  rcases hv with ⟨rfl, _⟩ | rfl <;> rcases pdv_cell ps with h1 | ⟨P, h1⟩ <;> rcases pdv_cell ps' with h3 | ⟨P', h3⟩ <;> rcases qv_cell qs with h2 | ⟨R, h2⟩ <;> rcases qv_cell qs' with h4 | ⟨R', h4⟩ <;> rw [h1, h3] at c1 <;> rw [h2, h4] at c2 <;> rw [h1, h2, h3, h4] <;> (try simp at c1 c2) <;> simp -implicitDefEqProofs [a14, c14, q18, q26, c1, c2]
theorem call14_4 (m : Nat) {N : Nat} (hN : N ≤ 1000) (d : DS) (r : RS) (hd : DOK N d) (hr : ROK N r) (a n : Int) (l : List UInt8) (v : AV) (hv : Is l v) :
    E (m + 4) 14 [.pv (dV d), .pv (rV r), .agg [.int .i64 4, .int .i64 a, .int .i64 n, v]] = some (.bool ((dStop d n).1 == (rStop r n).1), [dV (dStop d n).2, rV (rStop r n).2]) := by
  rw [e14]
  have c1 := eStop (m + 1) d n
  have c2 := erStop (m + 2) r n
  obtain ⟨b, ps, dn, st, lf⟩ := d
  obtain ⟨s, qs, rdn, rst, rlf⟩ := r
  generalize hx : dStop _ _ = x at *
  generalize hy : rStop _ _ = y at *
  obtain ⟨x1, ⟨b', ps', dn', st', lf'⟩⟩ := x
  obtain ⟨y1, ⟨s', qs', rdn', rst', rlf'⟩⟩ := y
  simp only [dV, rV, dkc, rkc] at *
  rcases hv with ⟨rfl, _⟩ | rfl <;> rcases pdv_cell ps with h1 | ⟨P, h1⟩ <;> rcases pdv_cell ps' with h3 | ⟨P', h3⟩ <;> rcases qv_cell qs with h2 | ⟨R, h2⟩ <;> rcases qv_cell qs' with h4 | ⟨R', h4⟩ <;> rw [h1, h3] at c1 <;> rw [h2, h4] at c2 <;> rw [h1, h2, h3, h4] <;> (try simp at c1 c2) <;> simp -implicitDefEqProofs [a14, c14, q22, q28, c1, c2]
theorem call14_5 (m : Nat) {N : Nat} (hN : N ≤ 1000) (d : DS) (r : RS) (hd : DOK N d) (hr : ROK N r) (a n : Int) (l : List UInt8) (v : AV) (hv : Is l v) :
    E (m + 4) 14 [.pv (dV d), .pv (rV r), .agg [.int .i64 5, .int .i64 a, .int .i64 n, v]] = some (.bool true, [dV (dCrash d a n), rV (rCrash r a n)]) := by
  rw [e14]
  have c1 := eCrash m hN d hd a n
  have c2 := erCrash (m + 1) hN r hr a n
  obtain ⟨b, ps, dn, st, lf⟩ := d
  obtain ⟨s, qs, rdn, rst, rlf⟩ := r
  generalize hx : dCrash _ _ _ = x at *
  generalize hy : rCrash _ _ _ = y at *
  obtain ⟨b', ps', dn', st', lf'⟩ := x
  obtain ⟨s', qs', rdn', rst', rlf'⟩ := y
  simp only [dV, rV, dkc, rkc] at *
  rcases hv with ⟨rfl, _⟩ | rfl <;> rcases pdv_cell ps with h1 | ⟨P, h1⟩ <;> rcases pdv_cell ps' with h3 | ⟨P', h3⟩ <;> rcases qv_cell qs with h2 | ⟨R, h2⟩ <;> rcases qv_cell qs' with h4 | ⟨R', h4⟩ <;> rw [h1, h3] at c1 <;> rw [h2, h4] at c2 <;> rw [h1, h2, h3, h4] <;> (try simp at c1 c2) <;> simp -implicitDefEqProofs [a14, c14, q15, q29, c1, c2]
theorem call14_0 (m : Nat) (d : DS) (r : RS) (k a n : Int) (hk : ¬ (k = 1 ∨ k = 2 ∨ k = 3 ∨ k = 4 ∨ k = 5)) (l : List UInt8) (v : AV) (hv : Is l v) :
    E (m + 4) 14 [.pv (dV d), .pv (rV r), .agg [.int .i64 k, .int .i64 a, .int .i64 n, v]] = some (.bool true, [dV d, rV r]) := by
  rw [e14]
  obtain ⟨b, ps, dn, st, lf⟩ := d
  obtain ⟨s, qs, rdn, rst, rlf⟩ := r
  simp only [dV, rV, dkc, rkc] at *
  simp only [not_or] at hk
  obtain ⟨k1, k2, k3, k4, k5⟩ := hk
  have b1 : (k == 1) = false := by simp [k1]
  have b2 : (k == 2) = false := by simp [k2]
  have b3 : (k == 3) = false := by simp [k3]
  have b4 : (k == 4) = false := by simp [k4]
  have b5 : (k == 5) = false := by simp [k5]
  rcases hv with ⟨rfl, _⟩ | rfl <;> rcases pdv_cell ps with h1 | ⟨P, h1⟩ <;> rcases qv_cell qs with h2 | ⟨R, h2⟩ <;> rw [h1, h2] <;> simp -implicitDefEqProofs [a14, c14, b1, b2, b3, b4, b5]
end Go.Abs.Try

namespace Go.Abs.Try
open Go Go.Abs
set_option maxHeartbeats 16000000
set_option maxRecDepth 100000
set_option linter.unusedSimpArgs false
set_option linter.unusedVariables false
theorem Hole.of (H T : AH) (N g : Nat) (ks : List Nat) (h1 : ∀ e ∈ H, e.nm < N ∧ e.nm ∈ ks) (h2 : N ∈ ks) (h3 : T.only ks = T) : Hole (fun R => H ++ ⟨N, g, .arr 1 R false⟩ :: T) N g ks where
  hg := fun R => by rw [get_app (fun e he => (h1 e he).1)]; simp [AH.get]
  hp := fun R R' => by rw [put_app (fun e he => (h1 e he).1)]; simp [AH.put]
  ho := fun R => by
    rw [only_app (fun e he => (h1 e he).2)]
    simp only [AH.only]; rw [if_pos ((any_beq _ _).2 h2), h3]

/-- no bytes, no rounds -/
theorem loop14_z (Φ : Nat → Option FnF) (K k : Nat) (v15 v : AV) (hv : v = .nilS ∨ v = .emp) (H : AH) (c : Nat) (hH : H.only ks14_1 = H) :
    iter (ev Φ K b14_1) [11, 15, 16] ks14_1 (k + 1) ⟨[(11, v), (15, v15), (16, .int .i64 0)], H, c⟩ = some (.exit 3, ⟨[(11, v), (15, v15), (16, .int .i64 0), (89, .int .i64 0), (90, v), (91, .int .i64 0), (92, .bool false)], H, c⟩) := by
  rw [iter_succ]
  rcases hv with rfl | rfl <;> simp -implicitDefEqProofs [b14_1, hH]

/-- the loop, found by its start -/
theorem loop14_x {Φ : Nat → Option FnF} {K g L c : Nat} {T : AH} {v15 : AV} {R : List (List AV)} {I : Option (Ex × St)}
    (hI : iter (ev Φ K b14_1) [11, 15, 16] ks14_1 3000 ⟨[(11, .own 69000 g 0 L), (15, v15), (16, .int .i64 0)], ⟨69000, g, .arr 1 R false⟩ :: T, c⟩ = I)
    (hT : T.only ks14_1 = T) (hL : L ≤ 2000) (hR : R.length = L) (hw : ∀ r ∈ R, ∃ x, r = [x]) :
    ∃ E' R', I = some (.exit 3, ⟨E', ⟨69000, g, .arr 1 R' false⟩ :: T, c⟩) ∧ envOnly [15] E' = [(15, v15)] := by
  obtain ⟨⟨E', h', c'⟩, e, ⟨R', e1⟩, e2, e3⟩ := loop14_1 Φ K 69000 g _ (Hole.of [] T 69000 g ks14_1 (fun _ h => by cases h) (by decide) hT) L (by omega) v15 L 0 3000 R c (by omega) (by omega) hR hw
  refine ⟨E', R', ?_, e3⟩
  rw [← hI]
  simp only [List.nil_append, Int.ofNat_zero] at e e1 e2
  subst e1 e2
  exact e
theorem rows_one (l : List UInt8) : ∀ r ∈ byteRows l, ∃ x, r = [x] := by
  intro r hr
  simp only [byteRows, List.mem_map] at hr
  obtain ⟨x, _, rfl⟩ := hr
  exact ⟨_, rfl⟩

theorem call14_3 (m : Nat) {N : Nat} (hN : N ≤ 1000) (d : DS) (r : RS) (hd : DOK N d) (hr : ROK N r) (hb2 : d.b.length ≤ 2000) (a n : Int) (l : List UInt8) (v : AV) (hv : Is l v) :
    E (m + 4) 14 [.pv (dV d), .pv (rV r), .agg [.int .i64 3, .int .i64 a, .int .i64 n, v]] = some (.bool (decide (dRead d a n = rRead r a n)), [dV d, rV r]) := by
  rw [e14]
  have c1 := eRead (m + 1) d hd a n
  have c2 := erRead m hN r hr a n
  have hxl : (dRead d a n).1.length ≤ 2000 := by
    unfold dRead; split
    · simp; omega
    · simp
  have hxe : inB d.b.length a n = false → (dRead d a n).1 = [] := by
    intro h; unfold dRead; simp [h]
  obtain ⟨b, ps, dn, st, lf⟩ := d
  obtain ⟨s, qs, rdn, rst, rlf⟩ := r
  generalize hx : dRead _ _ _ = x at *
  generalize hy : rRead _ _ _ = y at *
  obtain ⟨x1, x2⟩ := x
  obtain ⟨y1, y2⟩ := y
  simp only at hxl hxe c1 c2
  have hq : (if inB b.length a n then cl x1 else .nilS) = .nilS ∧ x1 = [] ∨ (if inB b.length a n then cl x1 else .nilS) = .emp ∧ x1 = [] ∨ (if inB b.length a n then cl x1 else .nilS) = .fr 1 (byteRows x1) := by
    cases h : inB b.length a n
    · exact .inl ⟨rfl, hxe h⟩
    · unfold cl
      by_cases hz : x1 = []
      · exact .inr (.inl ⟨by simp [hz], hz⟩)
      · exact .inr (.inr (by simp [hz]))
  generalize (if inB b.length a n then cl x1 else .nilS) = w at hq c1
  have t0 : toBytes [] = some [] := rfl
  have t1 := toBytes_rows x1
  have hb := byteRows_len x1
  have hin : ∀ (H : AH) c nm, inCell H c nm v = some (v, H, c) := by rcases hv with ⟨rfl, _⟩ | rfl <;> intros <;> rfl
  have hcb : v.cellb = true := by rcases hv with ⟨rfl, _⟩ | rfl <;> rfl
  simp only [dV, rV, dkc, rkc] at *
  rcases hq with ⟨rfl, rfl⟩ | ⟨rfl, rfl⟩ | rfl
  · have hz : (y1 = [] ∧ y1.isEmpty = true) ∨ (¬ y1 = [] ∧ ¬ [] = y1 ∧ y1.isEmpty = false) := by cases y1 <;> simp
    rcases hz with ⟨z1, z2⟩ | ⟨z1, z0, z2⟩ <;> by_cases z4 : x2 = y2 <;> 
    rcases pdv_cell ps with h1 | ⟨P, h1⟩ <;> rcases qv_cell qs with h2 | ⟨R, h2⟩ <;> rw [h1] at c1 <;> rw [h2] at c2 <;> rw [h1, h2] <;> (try simp at c1 c2) <;> simp -implicitDefEqProofs [a14, c14, q16, q27, c1, c2, t0, t1, z1, z2, z4, hin, hcb] <;> (rw [iter_keep]; simp; rw [loop14_z _ _ _ _ _ (.inl rfl) _ _ (by simp)]; simp [z4])
  · have hz : (y1 = [] ∧ y1.isEmpty = true) ∨ (¬ y1 = [] ∧ ¬ [] = y1 ∧ y1.isEmpty = false) := by cases y1 <;> simp
    rcases hz with ⟨z1, z2⟩ | ⟨z1, z0, z2⟩ <;> by_cases z4 : x2 = y2 <;> 
    rcases pdv_cell ps with h1 | ⟨P, h1⟩ <;> rcases qv_cell qs with h2 | ⟨R, h2⟩ <;> rw [h1] at c1 <;> rw [h2] at c2 <;> rw [h1, h2] <;> (try simp at c1 c2) <;> simp -implicitDefEqProofs [a14, c14, q16, q27, c1, c2, t0, t1, z1, z2, z4, hin, hcb] <;> (rw [iter_keep]; simp; rw [loop14_z _ _ _ _ _ (.inr rfl) _ _ (by simp)]; simp [z4])
  · have t2 := toBytes_rows y1
    have hb2 := byteRows_len y1
    have ht : (byteRows x1).take x1.length = byteRows x1 := List.take_of_length_le (by omega)
    by_cases z1 : x1 = y1
    · subst z1
      by_cases z4 : x2 = y2 <;>
      rcases pdv_cell ps with h1 | ⟨P, h1⟩ <;> rcases qv_cell qs with h2 | ⟨R, h2⟩ <;> rw [h1] at c1 <;> rw [h2] at c2 <;> rw [h1, h2] <;> (try simp at c1 c2) <;> simp -implicitDefEqProofs [a14, c14, q16, q27, c1, c2, t1, t2, ht, hb, hb2, z4, hin, hcb] <;>
      (rw [iter_keep]; simp
       generalize hI : iter _ _ _ _ _ = I
       obtain ⟨E', R', rfl, ee⟩ := loop14_x hI (by simp) hxl (by simp [hb]) (rows_one x1)
       simp [ee, z4])
    · have zb : (x1 == y1) = false := by simp [z1]
      by_cases z4 : x2 = y2 <;>
      rcases pdv_cell ps with h1 | ⟨P, h1⟩ <;> rcases qv_cell qs with h2 | ⟨R, h2⟩ <;> rw [h1] at c1 <;> rw [h2] at c2 <;> rw [h1, h2] <;> (try simp at c1 c2) <;> simp -implicitDefEqProofs [a14, c14, q16, q27, c1, c2, t1, t2, ht, hb, hb2, z1, zb, z4, hin, hcb] <;>
      (rw [iter_keep]; simp
       generalize hI : iter _ _ _ _ _ = I
       obtain ⟨E', R', rfl, ee⟩ := loop14_x hI (by simp) hxl (by simp [hb]) (rows_one x1)
       simp [ee, z1, zb, z4])
end Go.Abs.Try

namespace Go.Abs.Try
open Go Go.Abs
set_option maxHeartbeats 16000000
set_option maxRecDepth 100000
set_option linter.unusedSimpArgs false
set_option linter.unusedVariables false

theorem lent_x {n c : Nat} {H : AH} {v : AV} {X} (hI : I (n + 1) 23 H c [v] = X) (l : List UInt8) (hv : Is l v) (hl : l.length ≤ 500000) (hH : ∀ e ∈ H, e.nm < 3230007 ∧ e.nm ∈ kh23i_0) :
    ∃ N g c' R, (N = 3230007 ∨ N = 3230014) ∧ c ≤ c' ∧ R = byteRows l ++ List.replicate 7 mk ∧ R.length = l.length + 7 ∧ R.take l.length = byteRows l ∧ (∀ r ∈ R, ∃ x, r = [x]) ∧ X = some (.own N g 0 l.length, H ++ [⟨N, g, .arr 1 R false⟩], c') := by
  obtain ⟨N, g, c', h1, h2, h3⟩ := lent23 (HiOK.of hH) n c l v hv hl
  have hb := byteRows_len l
  refine ⟨N, g, c', _, h1, h2, rfl, by simp [hb], ?_, ?_, by rw [← hI, h3]⟩
  · rw [List.take_append_of_le_length (by omega), List.take_of_length_le (by omega)]
  · intro r hr
    rcases List.mem_append.1 hr with hr | hr
    · simp only [byteRows, List.mem_map] at hr
      obtain ⟨x, _, rfl⟩ := hr
      exact ⟨_, rfl⟩
    · exact ⟨_, List.eq_of_mem_replicate hr⟩
theorem kept_x {n c N g k : Nat} {H : AH} {v : AV} {X} (hI : I (n + 1) 24 H c [.own N g 0 k, v] = X) (l : List UInt8) (hk : k = l.length) (hv : Is l v) (hl : l.length ≤ 500000)
    {R : List (List AV)} (hR : R = byteRows l ++ List.replicate 7 mk) (hH : H.get N g = some (.arr 1 R false)) (hB : H.only kh24i_0 = H) : X = some (.bool true, H, c) := by
  subst hk hR
  rw [← hI, kept24 n N g l v hv hl H c hH hB]
theorem k23d : 5 ∈ kh23i_0 ∧ 100000 ∈ kh23i_0 ∧ 100001 ∈ kh23i_0 ∧ 100002 ∈ kh23i_0 ∧ 100200 ∈ kh23i_0 ∧ 100202 ∈ kh23i_0 := by decide +kernel
theorem k24d : 5 ∈ kh24i_0 ∧ 100000 ∈ kh24i_0 ∧ 100001 ∈ kh24i_0 ∧ 100002 ∈ kh24i_0 ∧ 100200 ∈ kh24i_0 ∧ 100202 ∈ kh24i_0 ∧ 3230007 ∈ kh24i_0 ∧ 3230014 ∈ kh24i_0 ∧ 101000000 ∈ kh24i_0 ∧ 101000001 ∈ kh24i_0 := by decide +kernel

theorem get_put' (h : AH) (nm g b) : (h.put nm g b).get nm g = some b := by
  induction h with
  | nil => simp [AH.put, AH.get]
  | cons e r ih =>
    simp only [AH.put]
    by_cases h1 : e.nm = nm
    · simp [h1, AH.get]
    · by_cases h2 : nm < e.nm
      · simp [h1, h2, AH.get]
      · simp [h1, h2, AH.get, ih]
theorem loop14_0x {Φ : Nat → Option FnF} {K N g L c : Nat} {h0 : AH} {v1 v5 v8 v9 : AV} {I : Option (Ex × St)}
    (hI : iter (ev Φ K b14_0) [1, 5, 7, 8, 9, 10] ks14_0 3000 ⟨[(1, v1), (5, v5), (7, .own N g 0 L), (8, v8), (9, v9), (10, .int .i64 0)], h0, c⟩ = I)
    {R : List (List AV)} (hR : R.length = L + 7) (hw : ∀ r ∈ R, ∃ x, r = [x]) (hL : L ≤ 2000)
    (h1 : h0.put N g (.arr 1 R false) = h0) (h2 : ∀ R, (h0.put N g (.arr 1 R false)).only ks14_0 = h0.put N g (.arr 1 R false)) :
    ∃ E' R', I = some (.exit 1, ⟨E', h0.put N g (.arr 1 R' false), c⟩) ∧ envOnly [1, 5, 8, 9] E' = [(1, v1), (5, v5), (8, v8), (9, v9)] := by
  obtain ⟨⟨E', h', c'⟩, e, ⟨R', e1⟩, e2, e3⟩ := loop14_0 Φ K N g (fun R => h0.put N g (.arr 1 R false)) ⟨fun R => get_put' _ _ _ _, fun R R' => put_put, h2⟩ L (by omega) v1 v5 v8 v9 L 0 3000 R c (by omega) (by omega) hR hw
  refine ⟨E', R', ?_, e3⟩
  rw [← hI]
  simp only [Int.ofNat_zero] at e e1 e2
  subst e1 e2
  rw [h1] at e
  exact e

theorem call14_1 (m : Nat) {N : Nat} (hN : N ≤ 1000) (d : DS) (r : RS) (hd : DOK N d) (hr : ROK N r) (a n : Int) (l : List UInt8) (hl : l.length ≤ 2000) (v : AV) (hv : Is l v) :
    E (m + 4) 14 [.pv (dV d), .pv (rV r), .agg [.int .i64 1, .int .i64 a, .int .i64 n, v]] = some (.bool ((dWrite d a false l).1 == (rWrite r a l).1), [dV (dWrite d a false l).2, rV (rWrite r a l).2]) := by
  rw [e14]
  have c1 := fun t => eWrite (m + 1) (by omega) d hd a false l (.ro t 1 (byteRows l)) (.inr ⟨rfl, t, rfl⟩)
  obtain ⟨nn, hn⟩ : ∃ nn, BArg nn l v := by
    rcases hv with ⟨rfl, rfl⟩ | rfl
    · exact ⟨true, .inl ⟨rfl, rfl, rfl⟩⟩
    · exact ⟨false, .inr ⟨rfl, _, rfl⟩⟩
  have c2 := erWrite (m + 1) hN r hr a nn l v hn
  obtain ⟨b, ps, dn, st, lf⟩ := d
  obtain ⟨s, qs, rdn, rst, rlf⟩ := r
  generalize hx : dWrite _ _ _ _ = x at *
  generalize hy : rWrite _ _ _ = y at *
  obtain ⟨x1, ⟨b', ps', dn', st', lf'⟩⟩ := x
  obtain ⟨y1, ⟨s', qs', rdn', rst', rlf'⟩⟩ := y
  have hin : ∀ (H : AH) c nm, inCell H c nm v = some (v, H, c) := by rcases hv with ⟨rfl, _⟩ | rfl <;> intros <;> rfl
  have hcb : v.cellb = true := by rcases hv with ⟨rfl, _⟩ | rfl <;> rfl
  simp only [dV, rV, dkc, rkc] at *
  rcases pdv_cell ps with h1 | ⟨P, h1⟩ <;> rcases pdv_cell ps' with h3 | ⟨P', h3⟩ <;> rcases qv_cell qs with h2 | ⟨R, h2⟩ <;> rcases qv_cell qs' with h4 | ⟨R', h4⟩ <;>
    rw [h1, h3] at c1 <;> rw [h2, h4] at c2 <;> rw [h1, h2, h3, h4] <;> (try simp at c1 c2) <;> simp -implicitDefEqProofs [a14, c14, q17, q23, q24, q25, hin, hcb] <;>
    (generalize hI : I _ 23 _ _ _ = X
     obtain ⟨N, g, c', R, hN, hc, hR, hr1, hr2, hr3, rfl⟩ := lent_x hI l hv (by omega) (by simp [k23d])
     clear hI
     rcases hN with rfl | rfl <;>
     (simp -implicitDefEqProofs [c1, hr1, hr2]
      generalize hK : I _ 24 _ _ _ = X
      obtain rfl := kept_x hK l rfl hv (by omega) hR (by simp) (by simp [k24d])
      clear hK
      simp -implicitDefEqProofs [hr1, hr2]
      rw [iter_keep]; simp
      generalize hI : iter _ _ _ _ _ = X
      obtain ⟨E', R2, rfl, ee⟩ := loop14_0x hI hr1 hr3 hl (by simp) (by intro R; simp)
      clear hI
      rcases hv with ⟨rfl, _⟩ | rfl <;> simp -implicitDefEqProofs [ee, c2]))
end Go.Abs.Try

namespace Go.Abs.Try
open Go Go.Abs
set_option maxHeartbeats 16000000
set_option maxRecDepth 100000
set_option linter.unusedSimpArgs false
set_option linter.unusedVariables false

structure DOp where
  k : Int
  a : Int
  n : Int
  l : List UInt8
  v : AV
def DOp.row (o : DOp) : List AV := [.int .i64 o.k, .int .i64 o.a, .int .i64 o.n, o.v]
/-- what one call answers, and leaves -/
def callM (o : DOp) (p : DS × RS) : Bool × (DS × RS) :=
  if o.k = 1 then ((dWrite p.1 o.a false o.l).1 == (rWrite p.2 o.a o.l).1, ((dWrite p.1 o.a false o.l).2, (rWrite p.2 o.a o.l).2))
  else if o.k = 2 then ((dSync p.1).1 == (rSync p.2).1, ((dSync p.1).2, (rSync p.2).2))
  else if o.k = 3 then (decide (dRead p.1 o.a o.n = rRead p.2 o.a o.n), p)
  else if o.k = 4 then ((dStop p.1 o.n).1 == (rStop p.2 o.n).1, ((dStop p.1 o.n).2, (rStop p.2 o.n).2))
  else if o.k = 5 then (true, (dCrash p.1 o.a o.n, rCrash p.2 o.a o.n))
  else (true, p)
structure POK (N : Nat) (B : Nat) (p : DS × RS) : Prop where
  d : DOK N p.1
  r : ROK N p.2
  b : p.1.b.length = B
theorem dWrite_len {N : Nat} {d : DS} (h : DOK N d) (a n l) : (dWrite d a n l).2.b.length = d.b.length := by
  unfold dWrite
  split
  · rfl
  split
  · next hin => exact put_len d.b a.toNat l (inB_len hin)
  · rfl
theorem DOK.up {N : Nat} {d : DS} (h : DOK N d) : DOK (N + 1) d := { h with p := Nat.le_succ_of_le h.p }
theorem ROK.up {N : Nat} {r : RS} (h : ROK N r) : ROK (N + 1) r := { h with p := Nat.le_succ_of_le h.p }
theorem POK.call {N B : Nat} {p : DS × RS} (h : POK N B p) (o : DOp) : POK (N + 1) B (callM o p).2 := by
  unfold callM
  split
  · exact ⟨h.d.write _ _ _, h.r.write _ _, by rw [dWrite_len h.d]; exact h.b⟩
  split
  · exact ⟨h.d.sync.up, h.r.sync.up, by
      show (dSync p.1).2.b.length = B
      unfold dSync; split <;> exact h.b⟩
  split
  · exact ⟨h.d.up, h.r.up, h.b⟩
  split
  · exact ⟨(h.d.stop _).up, (h.r.stop _).up, by
      show (dStop p.1 o.n).2.b.length = B
      unfold dStop; split
      · exact h.b
      · split <;> exact h.b⟩
  split
  · exact ⟨(h.d.crash _ _).up, (h.r.crash _ _).up, by
      show (pcrash _ _ p.1.ps p.1.b).length = B
      rw [pcrash_len h.d.w]; exact h.b⟩
  · exact ⟨h.d.up, h.r.up, h.b⟩
/-- an op of a script that is looked at -/
structure DOp.OK (o : DOp) : Prop where
  v : Is o.l o.v
  l : o.l.length ≤ 300
theorem call14 (m : Nat) {N B : Nat} (hN : N ≤ 1000) (hB : B ≤ 2000) (p : DS × RS) (h : POK N B p) (o : DOp) (ho : o.OK) :
    E (m + 4) 14 [.pv (dV p.1), .pv (rV p.2), .agg o.row] = some (.bool (callM o p).1, [dV (callM o p).2.1, rV (callM o p).2.2]) := by
  obtain ⟨d, r⟩ := p
  obtain ⟨k, a, n, l, v⟩ := o
  have hl := ho.l
  have hb : d.b.length ≤ 2000 := by have := h.b; simp only at this; omega
  unfold DOp.row callM
  simp only at hl ⊢
  by_cases k1 : k = 1
  · subst k1; simpa using call14_1 m hN d r h.d h.r a n l (by omega) v ho.v
  by_cases k2 : k = 2
  · subst k2; simpa using call14_2 m hN d r h.d h.r a n l v ho.v
  by_cases k3 : k = 3
  · subst k3; simpa using call14_3 m hN d r h.d h.r hb a n l v ho.v
  by_cases k4 : k = 4
  · subst k4; simpa using call14_4 m hN d r h.d h.r a n l v ho.v
  by_cases k5 : k = 5
  · subst k5; simpa using call14_5 m hN d r h.d h.r a n l v ho.v
  simp only [k1, k2, k3, k4, k5, if_false]
  exact call14_0 m d r k a n (by simp [k1, k2, k3, k4, k5]) l v ho.v

/-- scripts -/
def Ops (S : List DOp) (v : AV) : Prop := (v = .nilS ∧ S = []) ∨ v = .ro false 4 (S.map DOp.row)
def OpsT (S : List DOp) (v : AV) : Prop := (v = .nilS ∧ S = []) ∨ ∃ t, v = .ro t 4 (S.map DOp.row)
theorem Ops.t {S v} (h : Ops S v) : OpsT S v := h.imp id fun h => ⟨_, h⟩
theorem ok_is {x : AV} (h : x = .nilS ∨ ∃ rows : List (List AV), x = .ro false 1 rows ∧ rows.length ≤ maxLen ∧ ∀ r, r ∈ rows → okRow [.int .u8] r) : ∃ l : List UInt8, Is l x ∧ l.length ≤ maxLen := by
  rcases h with rfl | ⟨rows, rfl, hl, hr⟩
  · exact ⟨[], .inl ⟨rfl, rfl⟩, Nat.zero_le _⟩
  · obtain ⟨l, rfl⟩ := ok_rows rows hr
    exact ⟨l, .inr rfl, by rwa [byteRows_len] at hl⟩
theorem ok_bytes {x : AV} (h : okRow [.sl [.int .u8]] [x]) : ∃ l : List UInt8, Is l x ∧ l.length ≤ maxLen := by
  obtain ⟨v, _, e, hv, _⟩ := h.sl
  obtain ⟨rfl, _⟩ : x = v ∧ _ := by simpa using e
  exact ok_is hv
theorem ok_ops : ∀ (rows : List (List AV)), (∀ r, r ∈ rows → okRow [.int .i64, .int .i64, .int .i64, .sl [.int .u8]] r) → ∃ S : List DOp, rows = S.map DOp.row ∧ ∀ o ∈ S, Is o.l o.v ∧ o.l.length ≤ maxLen
  | [], _ => ⟨[], rfl, fun _ h => by cases h⟩
  | r :: rs, h => by
    obtain ⟨k, vs, rfl, _, h2⟩ := (h r List.mem_cons_self).int
    obtain ⟨a, vs, rfl, _, h3⟩ := h2.int
    obtain ⟨n, vs, rfl, _, h4⟩ := h3.int
    obtain ⟨v, vs, rfl, hv, h5⟩ := h4.sl
    obtain rfl := h5.nil_inv
    obtain ⟨l, hl, hll⟩ := ok_is hv
    obtain ⟨S, rfl, hS⟩ := ok_ops rs (fun x hx => h x (List.mem_cons_of_mem _ hx))
    refine ⟨⟨k, a, n, l, v⟩ :: S, rfl, ?_⟩
    intro o ho
    rcases List.mem_cons.1 ho with rfl | ho
    · exact ⟨hl, hll⟩
    · exact hS o ho
theorem ok_script {x : AV} (h : okRow [.sl [.int .i64, .int .i64, .int .i64, .sl [.int .u8]]] [x]) : ∃ S : List DOp, Ops S x ∧ (∀ o ∈ S, Is o.l o.v ∧ o.l.length ≤ maxLen) ∧ S.length ≤ maxLen := by
  obtain ⟨v, _, e, hv, _⟩ := h.sl
  obtain ⟨rfl, _⟩ : x = v ∧ _ := by simpa using e
  rcases hv with rfl | ⟨rows, rfl, hl, hr⟩
  · exact ⟨[], .inl ⟨rfl, rfl⟩, fun _ h => (by cases h), Nat.zero_le _⟩
  · obtain ⟨S, rfl, hS⟩ := ok_ops rows hr
    exact ⟨S, .inr rfl, hS, by rwa [List.length_map] at hl⟩

/-- large -/
def largeM (S : List DOp) : Bool := decide (60 < S.length) || S.any fun o => decide (300 < o.l.length)
theorem Is.len {l : List UInt8} {v : AV} (hv : Is l v) : alen v = some l.length := by
  rcases hv with ⟨rfl, rfl⟩ | rfl
  · rfl
  · simp [alen, byteRows_len]
theorem loop10 (t : Bool) (Φ : Nat → Option FnF) (K c : Nat) (S : List DOp) (hS : ∀ o ∈ S, Is o.l o.v ∧ o.l.length ≤ maxLen) (h60 : S.length ≤ 60) : ∀ (d i k : Nat), i + d = S.length → d < k →
    ∃ s', iter (ev Φ K b10_0) [0, 3] [100000] k ⟨[(0, .ro t 4 (S.map DOp.row)), (3, .int .i64 i)], [], c⟩ =
      some (if (S.drop i).any (fun o => decide (300 < o.l.length)) then .ret else .exit 0, s') ∧ s'.h = [] ∧ s'.c = c ∧ ((S.drop i).any (fun o => decide (300 < o.l.length)) = true → envGet s'.env 2 = some (.bool true))
  | d, i, 0, hi, hk => by omega
  | 0, i, k + 1, hi, hk => by
    obtain rfl : i = S.length := by omega
    rw [iter_succ]
    have hlen : (S.map DOp.row).length = S.length := by simp
    generalize S.map DOp.row = R at *
    simp -implicitDefEqProofs [b10_0, hlen]
  | d + 1, i, k + 1, hi, hk => by
    have hi' : i < S.length := by omega
    have hd : S.drop i = S[i] :: S.drop (i + 1) := List.drop_eq_getElem_cons hi'
    obtain ⟨hv, hvl⟩ := hS S[i] (List.getElem_mem _)
    have hg : (S.map DOp.row)[i]? = some (S[i]).row := by simp [hi']
    have hlen : (S.map DOp.row).length = S.length := by simp
    have h1 : (i : Int) < S.length := by omega
    have w1 : IntKind.i64.wrap ((i : Int) + 1) = (i : Int) + 1 := wrap_i64 _ (by omega) (by omega)
    have hlv := hv.len
    by_cases hb : 300 < (S[i]).l.length
    · rw [iter_succ, hd]
      have hb' : (300 : Int) < (S[i]).l.length := by omega
      generalize S[i] = o at *
      generalize S.map DOp.row = R at *
      obtain ⟨k0, a, n, l, v⟩ := o
      simp only [DOp.row] at *
      have hg' := (List.getElem?_eq_some_iff.1 hg).2
      simp -implicitDefEqProofs [b10_0, hlen, h1, hi', hg, hg', hlv, hb, hb']
    · obtain ⟨s', e, e1, e2, e3⟩ := loop10 t Φ K c S hS h60 d (i + 1) k (by omega) (by omega)
      have hb2 : decide (300 < (S[i]).l.length) = false := by simp; omega
      have hb' : ¬ (300 : Int) < (S[i]).l.length := by omega
      refine ⟨s', ?_, e1, e2, ?_⟩
      · rw [hd, List.any_cons, hb2, Bool.false_or, ← e]
        generalize S[i] = o at *
        generalize S.map DOp.row = R at *
        obtain ⟨k0, a, n, l, v⟩ := o
        simp only [DOp.row] at *
        have hg' := (List.getElem?_eq_some_iff.1 hg).2
        refine iter_norm ?_
        simp -implicitDefEqProofs [b10_0, St.keep, hlen, h1, hi', hg, hg', hlv, hb, hb', w1]
      · rw [hd, List.any_cons, hb2, Bool.false_or]; exact e3
theorem large10 (n : Nat) (S : List DOp) (x : AV) (hx : OpsT S x) (hS : ∀ o ∈ S, Is o.l o.v ∧ o.l.length ≤ maxLen) : E (n + 1) 10 [x] = some (.bool (largeM S), []) := by
  rw [e10]
  unfold largeM
  rcases hx with ⟨rfl, rfl⟩ | ⟨t, rfl⟩
  · simp -implicitDefEqProofs [a10, c10]
    rw [iter_keep]
    simp
    rw [iter_succ]
    simp -implicitDefEqProofs [b10_0]
  have hlen : (S.map DOp.row).length = S.length := by simp
  by_cases h60 : 60 < S.length
  · have h60' : (60 : Int) < S.length := by omega
    generalize S.map DOp.row = R at *
    simp -implicitDefEqProofs [a10, c10, hlen, h60, h60']
  · have h60' : ¬ (60 : Int) < S.length := by omega
    obtain ⟨⟨E', h', c'⟩, e, e1, e2, e3⟩ := loop10 t (Q n) 3000 0 S hS (by omega) S.length 0 3000 (by omega) (by omega)
    simp only [List.drop_zero] at e e1 e2 e3
    subst e1 e2
    generalize S.map DOp.row = R at *
    cases hb : S.any (fun o => decide (300 < o.l.length)) <;> rw [hb] at e e3 <;> simp at e e3
    · simp -implicitDefEqProofs [a10, c10, hlen, h60, h60']
      rw [iter_keep]; simp
      rw [e]; simp
    · simp -implicitDefEqProofs [a10, c10, hlen, h60, h60']
      rw [iter_keep]; simp
      rw [e]; simp [e3]
theorem small {S : List DOp} (h : largeM S = false) (hS : ∀ o ∈ S, Is o.l o.v ∧ o.l.length ≤ maxLen) : S.length ≤ 60 ∧ ∀ o ∈ S, o.OK := by
  simp only [largeM, Bool.or_eq_false_iff, decide_eq_false_iff_not, List.any_eq_false] at h
  refine ⟨by omega, fun o ho => ⟨(hS o ho).1, ?_⟩⟩
  have := h.2 o ho
  simp at this; omega
end Go.Abs.Try
