/- Part 1 of Pg: what our evaluation of a function's code says, the machine's run does; no condition of its own. -/
import Derived.Test.YtilfmhcbfchigaaAbsB
import Derived.Test.YtilfmhcbfchigaaProg
set_option linter.unusedVariables false
set_option linter.unusedSimpArgs false
set_option linter.unusedSectionVars false
namespace Go.Abs.Try
open Go Go.Abs
def z38 : List AV := [(.int .i64 0), (.str ⟨#[]⟩)]

/-- estreat/estreatlaw01.PackFields: parameters []uint8 int string -/
def c6 : AC :=
  (.seq (.reg false [
    { dst := some 6, op := .mov (.c (.bool false)) }])
  ((.seq ((.seq (.reg false [
    { dst := some 13, op := .mov (.t 0) },
    { dst := some 14, op := .len (.t 13) },
    { dst := some 15, op := .bin .gtr (.t 14) (.c (.int .i64 262144)) },
    { dst := some 16, op := .mov (.t 15) },
    { dst := some 17, op := .mov (.t 2), guard := some (16, false) },
    { dst := some 18, op := .lenS (.t 17), guard := some (16, false) },
    { dst := some 19, op := .bin .gtr (.t 18) (.c (.int .i64 262144)), guard := some (16, false) },
    { dst := some 20, op := .pick (.t 16) (.c (.bool true)) (.t 19) }])
  (.cond (.t 20) ((.seq (.reg false [
    { dst := some 6, op := .mov (.c (.bool true)) }])
  (.ret))) (.skip))))
  (.keep [0, 1, 2] [100000] ((.seq (.reg false [
    { dst := some 21, op := .mov (.t 0) },
    { dst := some 22, op := .inl 18 [(.t 21)] },
    { dst := some 7, op := .mov (.t 22) }])
  ((.seq (.reg false [
    { dst := some 24, op := .mov (.t 7) },
    { dst := some 25, op := .mov (.t 1) },
    { dst := some 26, op := .mov (.t 2) },
    { dst := some 27, op := .call 28000 19 [(.t 24), (.t 25), (.t 26)] },
    { dst := some 23, op := .mov (.t 27) },
    { dst := some 28, op := .ext 0 (.t 23) },
    { dst := some 29, op := .ext 1 (.t 23) },
    { dst := some 8, op := .mov (.t 28) },
    { dst := some 9, op := .mov (.t 29) }])
  (.keep [0, 1, 2, 7, 8, 9] [28000, 100000, 3180007, 3180013, 3180014, 3180017] ((.seq (.reg false [
    { dst := some 31, op := .mov (.t 1) },
    { dst := some 32, op := .mov (.t 2) },
    { dst := some 33, op := .call 34000 20 [(.t 31), (.t 32)] },
    { dst := some 30, op := .mov (.t 33) },
    { dst := some 34, op := .ext 0 (.t 30) },
    { dst := some 35, op := .ext 1 (.t 30) },
    { dst := some 10, op := .mov (.t 34) },
    { dst := some 11, op := .mov (.t 35) }])
  (.keep [0, 7, 8, 9, 10, 11] [28000, 34000, 100000, 3180007, 3180013, 3180014, 3180017] ((.seq (.reg false [
    { dst := some 12, op := .mov (.c (.str ⟨#[]⟩)) }])
  ((.seq ((.seq (.reg false [
    { dst := some 36, op := .mov (.t 11) },
    { dst := some 37, op := .bin .eql (.t 36) (.c (.int .i64 0)) }])
  (.cond (.t 37) (.reg false [
    { dst := some 38, op := .mov (.t 0) },
    { dst := some 39, op := .b2s (.t 38) },
    { dst := some 40, op := .mov (.t 10) },
    { dst := some 41, op := .b2s (.t 40) },
    { dst := some 42, op := .bin .add (.t 39) (.t 41) },
    { dst := some 12, op := .mov (.t 42) }]) (.skip))))
  (.keep [0, 7, 8, 9, 11, 12] [28000, 100000, 3180007, 3180013, 3180014, 3180017] ((.seq (.reg false [
    { dst := some 43, op := .call 44000 21 [] },
    { dst := some 44, op := .mov (.t 43) },
    { dst := some 45, op := .mov (.t 9), guard := some (44, true) },
    { dst := some 46, op := .mov (.t 11), guard := some (44, true) },
    { dst := some 47, op := .bin .eql (.t 45) (.t 46), guard := some (44, true) },
    { dst := some 48, op := .pick (.t 44) (.t 47) (.c (.bool false)) },
    { dst := some 49, op := .mov (.t 48) },
    { dst := some 50, op := .mov (.t 8), guard := some (49, true) },
    { dst := some 51, op := .b2s (.t 50), guard := some (49, true) },
    { dst := some 52, op := .mov (.t 12), guard := some (49, true) },
    { dst := some 53, op := .bin .eql (.t 51) (.t 52), guard := some (49, true) },
    { dst := some 54, op := .pick (.t 49) (.t 53) (.c (.bool false)) },
    { dst := some 55, op := .mov (.t 54) },
    { dst := some 56, op := .mov (.t 7), guard := some (55, true) },
    { dst := some 57, op := .mov (.t 0), guard := some (55, true) },
    { dst := some 58, op := .inl 22 [(.t 56), (.t 57)], guard := some (55, true) },
    { dst := some 59, op := .pick (.t 55) (.t 58) (.c (.bool false)) },
    { dst := some 6, op := .mov (.t 59) }])
  (.ret))))))))))))))))))))
/-- with its results -/
def a6 : AFun := ⟨c6, [(6, none)], 60⟩

/-- estreat/estreatlaw01.PackGets: parameters []uint8 -/
def c7 : AC :=
  (.seq (.reg false [
    { dst := some 2, op := .mov (.c (.bool false)) }])
  ((.seq ((.seq (.reg false [
    { dst := some 10, op := .mov (.t 0) },
    { dst := some 11, op := .len (.t 10) },
    { dst := some 12, op := .bin .gtr (.t 11) (.c (.int .i64 262144)) }])
  (.cond (.t 12) ((.seq (.reg false [
    { dst := some 2, op := .mov (.c (.bool true)) }])
  (.ret))) (.skip))))
  (.keep [0] [100000] ((.seq (.reg false [
    { dst := some 13, op := .mov (.t 0) },
    { dst := some 14, op := .inl 18 [(.t 13)] },
    { dst := some 3, op := .mov (.t 14) }])
  ((.seq (.reg false [
    { dst := some 16, op := .mov (.t 3) },
    { dst := some 17, op := .call 18000 23 [(.t 16)] },
    { dst := some 15, op := .mov (.t 17) },
    { dst := some 18, op := .ext 0 (.t 15) },
    { dst := some 19, op := .ext 1 (.t 15) },
    { dst := some 20, op := .ext 2 (.t 15) },
    { dst := some 4, op := .alloc 4 z38 },
    { dst := none, op := .store 2 (.t 4) (.t 18) },
    { dst := some 5, op := .mov (.t 19) },
    { dst := some 6, op := .mov (.t 20) }])
  (.keep [0, 3, 4, 5, 6] [4, 100000, 3180007, 3180013, 3180014, 3180017] ((.seq (.reg false [
    { dst := some 22, op := .mov (.t 0) },
    { dst := some 23, op := .call 24000 24 [(.t 22)] },
    { dst := some 21, op := .mov (.t 23) },
    { dst := some 24, op := .ext 0 (.t 21) },
    { dst := some 25, op := .ext 1 (.t 21) },
    { dst := some 26, op := .ext 2 (.t 21) },
    { dst := some 7, op := .alloc 7 z38 },
    { dst := none, op := .store 2 (.t 7) (.t 24) },
    { dst := some 8, op := .mov (.t 25) },
    { dst := some 9, op := .mov (.t 26) }])
  (.keep [0, 3, 4, 5, 6, 7, 8, 9] [4, 7, 100000, 3180007, 3180013, 3180014, 3180017] ((.seq (.reg false [
    { dst := some 27, op := .call 28000 21 [] },
    { dst := some 28, op := .mov (.t 27) },
    { dst := some 29, op := .load (some 2) (.t 4), guard := some (28, true) },
    { dst := some 30, op := .load (some 2) (.t 7), guard := some (28, true) },
    { dst := some 31, op := .eqa false [0, 2] (.t 29) (.t 30), guard := some (28, true) },
    { dst := some 32, op := .pick (.t 28) (.t 31) (.c (.bool false)) },
    { dst := some 33, op := .mov (.t 32) },
    { dst := some 34, op := .mov (.t 5), guard := some (33, true) },
    { dst := some 35, op := .mov (.t 8), guard := some (33, true) },
    { dst := some 36, op := .bin .eql (.t 34) (.t 35), guard := some (33, true) },
    { dst := some 37, op := .pick (.t 33) (.t 36) (.c (.bool false)) },
    { dst := some 38, op := .mov (.t 37) },
    { dst := some 39, op := .mov (.t 6), guard := some (38, true) },
    { dst := some 40, op := .mov (.t 9), guard := some (38, true) },
    { dst := some 41, op := .bin .eql (.t 39) (.t 40), guard := some (38, true) },
    { dst := some 42, op := .pick (.t 38) (.t 41) (.c (.bool false)) },
    { dst := some 43, op := .mov (.t 42) },
    { dst := some 44, op := .mov (.t 3), guard := some (43, true) },
    { dst := some 45, op := .mov (.t 0), guard := some (43, true) },
    { dst := some 46, op := .inl 22 [(.t 44), (.t 45)], guard := some (43, true) },
    { dst := some 47, op := .pick (.t 43) (.t 46) (.c (.bool false)) },
    { dst := some 2, op := .mov (.t 47) }])
  (.ret)))))))))))))))
/-- with its results -/
def a7 : AFun := ⟨c7, [(2, none)], 48⟩

def b18_0 : AC :=
  (.seq ((.seq (.reg false [
    { dst := some 8, op := .mov (.t 4) },
    { dst := some 9, op := .bin .lss (.t 8) (.c (.int .i64 7)) }])
  (.cond (.t 9) (.skip) (.exit 0))))
  ((.seq (.block 1 (.reg false [
    { dst := some 12, op := .mov (.t 3) },
    { dst := some 13, op := .bslice 13 1 [(.int .u8 0)] 1 [(0, (.c (.int .u8 195)))] },
    { dst := some 14, op := .app 14 1 1 (.t 12) (.t 13) },
    { dst := some 3, op := .mov (.t 14) }]))
  (.keep [0, 2, 3, 4] [7, 14, 100000] (.reg false [
    { dst := some 10, op := .mov (.t 4) },
    { dst := some 11, op := .bin .add (.t 10) (.c (.int .i64 1)) },
    { dst := some 4, op := .mov (.t 11) }])))))
/-- estreat/estreatkeep.Lent: parameters []uint8 -/
def c18 : AC :=
  (.seq (.reg false [
    { dst := some 2, op := .mov (.c .nilS) }])
  ((.seq (.reg false [
    { dst := some 3, op := .mov (.c .nilS) }])
  ((.seq (.reg false [
    { dst := some 5, op := .mov (.t 3) },
    { dst := some 6, op := .mov (.t 0) },
    { dst := some 7, op := .app 7 1 1 (.t 5) (.t 6) },
    { dst := some 3, op := .mov (.t 7) }])
  (.keep [0, 3] [7, 14, 100000] ((.seq ((.seq (.reg false [
    { dst := some 4, op := .mov (.c (.int .i64 0)) }])
  (.block 0 (.loop [0, 2, 3, 4] [7, 14, 100000] b18_0))))
  (.keep [0, 3] [7, 14, 100000] ((.seq (.reg false [
    { dst := some 15, op := .mov (.t 3) },
    { dst := some 16, op := .mov (.t 0) },
    { dst := some 17, op := .len (.t 16) },
    { dst := some 18, op := .slc 1 (.t 15) none (some (.t 17)) none },
    { dst := some 2, op := .mov (.t 18) }])
  (.ret))))))))))))
/-- with its results -/
def a18 : AFun := ⟨c18, [(2, none)], 19⟩

def b22_0 : AC :=
  (.seq ((.seq (.reg false [
    { dst := some 19, op := .mov (.t 6) },
    { dst := some 20, op := .mov (.t 5) },
    { dst := some 21, op := .len (.t 20) },
    { dst := some 22, op := .bin .lss (.t 19) (.t 21) }])
  (.cond (.t 22) (.skip) (.exit 0))))
  (.keep [4, 5, 6] [100000] ((.seq (.block 1 ((.seq (.reg false [
    { dst := some 25, op := .mov (.t 5) },
    { dst := some 26, op := .mov (.t 6) },
    { dst := some 27, op := .iad 1 (.t 25) (.t 26) },
    { dst := some 28, op := .load none (.t 27) },
    { dst := some 29, op := .bin .neq (.t 28) (.c (.int .u8 195)) }])
  (.cond (.t 29) ((.seq (.reg false [
    { dst := some 4, op := .mov (.c (.bool false)) }])
  (.ret))) (.skip)))))
  (.keep [4, 5, 6] [100000] (.reg false [
    { dst := some 23, op := .mov (.t 6) },
    { dst := some 24, op := .bin .add (.t 23) (.c (.int .i64 1)) },
    { dst := some 6, op := .mov (.t 24) }]))))))
/-- estreat/estreatkeep.Kept: parameters []uint8 []uint8 -/
def c22 : AC :=
  (.seq (.reg false [
    { dst := some 4, op := .mov (.c (.bool false)) }])
  ((.seq ((.seq (.reg false [
    { dst := some 7, op := .mov (.t 0) },
    { dst := some 8, op := .b2s (.t 7) },
    { dst := some 9, op := .mov (.t 1) },
    { dst := some 10, op := .b2s (.t 9) },
    { dst := some 11, op := .bin .neq (.t 8) (.t 10) }])
  (.cond (.t 11) ((.seq (.reg false [
    { dst := some 4, op := .mov (.c (.bool false)) }])
  (.ret))) (.skip))))
  (.keep [0, 1] [100000, 100200] ((.seq (.reg false [
    { dst := some 12, op := .mov (.t 0) },
    { dst := some 13, op := .mov (.t 1) },
    { dst := some 14, op := .len (.t 13) },
    { dst := some 15, op := .bin .add (.t 14) (.c (.int .i64 7)) },
    { dst := some 16, op := .slc 1 (.t 12) none (some (.t 15)) none },
    { dst := some 5, op := .mov (.t 16) }])
  (.keep [1, 5] [100000, 100200] ((.seq ((.seq (.reg false [
    { dst := some 17, op := .mov (.t 1) },
    { dst := some 18, op := .len (.t 17) },
    { dst := some 6, op := .mov (.t 18) }])
  (.block 0 (.loop [4, 5, 6] [100000] b22_0))))
  (.keep [] [] ((.seq (.reg false [
    { dst := some 4, op := .mov (.c (.bool true)) }])
  (.ret)))))))))))))
/-- with its results -/
def a22 : AFun := ⟨c22, [(4, none)], 30⟩

/-- estreat/pack.Put: parameters []uint8 int string -/
def c19 : AC :=
  (.seq (.reg false [
    { dst := some 6, op := .mov (.c .nilS) },
    { dst := some 7, op := .mov (.c (.int .i64 0)) }])
  ((.seq (.reg false [
    { dst := some 10, op := .mov (.t 1) },
    { dst := some 11, op := .mov (.t 2) },
    { dst := some 12, op := .build z38 [(0, 1, (.t 10)), (1, 1, (.t 11))] },
    { dst := some 8, op := .alloc 8 z38 },
    { dst := none, op := .store 2 (.t 8) (.t 12) }])
  (.keep [0, 2, 8] [8, 100000] ((.seq ((.seq (.reg false [
    { dst := some 13, op := .load (some 2) (.t 8) },
    { dst := some 14, op := .call 15000 32 [(.t 13), (.c (.int .i64 0))] },
    { dst := some 9, op := .mov (.t 14) }])
  ((.seq (.reg false [
    { dst := some 15, op := .mov (.t 9) },
    { dst := some 16, op := .bin .neq (.t 15) (.c (.int .i64 0)) }])
  (.cond (.t 16) ((.seq (.reg false [
    { dst := some 17, op := .mov (.t 9) },
    { dst := some 6, op := .mov (.c .nilS) },
    { dst := some 7, op := .mov (.t 17) }])
  (.ret))) (.skip))))))
  (.keep [0, 2, 8] [8, 100000] ((.seq (.reg true [
    { dst := some 18, op := .mov (.t 0), rs := [0], tn := [100000] },
    { dst := some 19, op := .len (.t 18), rs := [18], tn := [100000], an := [0] },
    { dst := some 20, op := .bin .add (.t 19) (.c (.int .i64 4)), rs := [19], an := [0, 1] },
    { dst := some 21, op := .mov (.t 2), rs := [2] },
    { dst := some 22, op := .lenS (.t 21), rs := [21], an := [3] },
    { dst := some 23, op := .bin .add (.t 20) (.t 22), rs := [20, 22], an := [0, 1, 2, 4] },
    { dst := some 24, op := .mks 24 1 1 [(.int .u8 0)] (.c (.int .i64 0)) (.t 23), rs := [23], tn := [24], wn := [24], an := [0, 1, 5] },
    { dst := some 25, op := .mov (.t 0), rs := [0], tn := [100000] },
    { dst := some 26, op := .app 26 1 1 (.t 24) (.t 25), rs := [24, 25], tn := [24, 26, 100000], wn := [24, 26, 100000], an := [0, 1, 6, 7] },
    { dst := some 27, op := .load (some 2) (.t 8), rs := [8], tn := [8] },
    { dst := some 28, op := .callm 29000 33 [(.t 26), (.t 27)] [true, false], rs := [26, 27], tn := [24, 26, 29000], wn := [24, 26, 29000], an := [6, 8, 9] },
    { dst := some 6, op := .mov (.t 28), rs := [28], tn := [29000], an := [10] },
    { dst := some 7, op := .mov (.c (.int .i64 0)) }])
  (.ret))))))))))
/-- with its results -/
def a19 : AFun := ⟨c19, [(6, none), (7, none)], 29⟩

/-- estreat/estreatlaw01.fields: parameters  -/
def c21 : AC :=
  (.seq (.reg false [
    { dst := some 0, op := .mov (.c (.bool false)) }])
  ((.seq (.reg false [
    { dst := some 13, op := .call 14000 19 [(.c .nilS), (.c (.int .i64 7)), (.c (.str ⟨#[97, 98]⟩))] },
    { dst := some 12, op := .mov (.t 13) },
    { dst := some 14, op := .ext 0 (.t 12) },
    { dst := some 15, op := .ext 1 (.t 12) },
    { dst := some 1, op := .mov (.t 14) },
    { dst := some 2, op := .mov (.t 15) }])
  (.keep [1, 2] [14000] ((.seq (.reg false [
    { dst := some 17, op := .bslice 17 1 [(.int .u8 0)] 7 [(0, (.c (.int .u8 7))), (1, (.c (.int .u8 0))), (2, (.c (.int .u8 0))), (3, (.c (.int .u8 2))), (4, (.c (.int .u8 97))), (5, (.c (.int .u8 98))), (6, (.c (.int .u8 9)))] },
    { dst := some 18, op := .idc (.t 17) },
    { dst := some 19, op := .call 20000 23 [(.t 18)] },
    { dst := some 16, op := .mov (.t 19) },
    { dst := some 20, op := .ext 0 (.t 16) },
    { dst := some 21, op := .ext 1 (.t 16) },
    { dst := some 22, op := .ext 2 (.t 16) },
    { dst := some 3, op := .alloc 3 z38 },
    { dst := none, op := .store 2 (.t 3) (.t 20) },
    { dst := some 4, op := .mov (.t 21) },
    { dst := some 5, op := .mov (.t 22) }])
  (.keep [1, 2, 3, 4, 5] [3, 14000] ((.seq (.reg false [
    { dst := some 24, op := .bslice 24 1 [(.int .u8 0)] 5 [(0, (.c (.int .u8 7))), (1, (.c (.int .u8 0))), (2, (.c (.int .u8 0))), (3, (.c (.int .u8 2))), (4, (.c (.int .u8 97)))] },
    { dst := some 25, op := .idc (.t 24) },
    { dst := some 26, op := .call 27000 23 [(.t 25)] },
    { dst := some 23, op := .mov (.t 26) },
    { dst := some 27, op := .ext 0 (.t 23) },
    { dst := some 28, op := .ext 1 (.t 23) },
    { dst := some 29, op := .ext 2 (.t 23) },
    { dst := some 6, op := .alloc 6 z38 },
    { dst := none, op := .store 2 (.t 6) (.t 27) },
    { dst := some 7, op := .mov (.t 28) },
    { dst := some 8, op := .mov (.t 29) }])
  (.keep [1, 2, 3, 4, 5, 8] [3, 14000] ((.seq (.reg false [
    { dst := some 31, op := .bslice 31 1 [(.int .u8 0)] 4 [(0, (.c (.int .u8 0))), (1, (.c (.int .u8 0))), (2, (.c (.int .u8 0))), (3, (.c (.int .u8 0)))] },
    { dst := some 32, op := .call 33000 23 [(.t 31)] },
    { dst := some 30, op := .mov (.t 32) },
    { dst := some 33, op := .ext 0 (.t 30) },
    { dst := some 34, op := .ext 1 (.t 30) },
    { dst := some 35, op := .ext 2 (.t 30) },
    { dst := some 9, op := .alloc 9 z38 },
    { dst := none, op := .store 2 (.t 9) (.t 33) },
    { dst := some 10, op := .mov (.t 34) },
    { dst := some 11, op := .mov (.t 35) }])
  (.keep [1, 2, 3, 4, 5, 8, 11] [3, 14000] ((.seq (.reg false [
    { dst := some 36, op := .mov (.t 1) },
    { dst := some 37, op := .b2s (.t 36) },
    { dst := some 38, op := .bin .eql (.t 37) (.c (.str ⟨#[7, 0, 0, 2, 97, 98]⟩)) },
    { dst := some 39, op := .mov (.t 38) },
    { dst := some 40, op := .mov (.t 2), guard := some (39, true) },
    { dst := some 41, op := .bin .eql (.t 40) (.c (.int .i64 0)), guard := some (39, true) },
    { dst := some 42, op := .pick (.t 39) (.t 41) (.c (.bool false)) },
    { dst := some 43, op := .mov (.t 42) },
    { dst := some 44, op := .load (some 2) (.t 3), guard := some (43, true) },
    { dst := some 45, op := .build z38 [(0, 1, (.c (.int .i64 7))), (1, 1, (.c (.str ⟨#[97, 98]⟩)))], guard := some (43, true) },
    { dst := some 46, op := .eqa false [0, 2] (.t 44) (.t 45), guard := some (43, true) },
    { dst := some 47, op := .pick (.t 43) (.t 46) (.c (.bool false)) },
    { dst := some 48, op := .mov (.t 47) },
    { dst := some 49, op := .mov (.t 4), guard := some (48, true) },
    { dst := some 50, op := .bin .eql (.t 49) (.c (.int .i64 6)), guard := some (48, true) },
    { dst := some 51, op := .pick (.t 48) (.t 50) (.c (.bool false)) },
    { dst := some 52, op := .mov (.t 51) },
    { dst := some 53, op := .mov (.t 5), guard := some (52, true) },
    { dst := some 54, op := .bin .eql (.t 53) (.c (.int .i64 0)), guard := some (52, true) },
    { dst := some 55, op := .pick (.t 52) (.t 54) (.c (.bool false)) },
    { dst := some 56, op := .mov (.t 55) },
    { dst := some 57, op := .mov (.t 8), guard := some (56, true) },
    { dst := some 58, op := .bin .eql (.t 57) (.c (.int .i64 10)), guard := some (56, true) },
    { dst := some 59, op := .pick (.t 56) (.t 58) (.c (.bool false)) },
    { dst := some 60, op := .mov (.t 59) },
    { dst := some 61, op := .mov (.t 11), guard := some (60, true) },
    { dst := some 62, op := .bin .eql (.t 61) (.c (.int .i64 11)), guard := some (60, true) },
    { dst := some 63, op := .pick (.t 60) (.t 62) (.c (.bool false)) },
    { dst := some 0, op := .mov (.t 63) }])
  (.ret))))))))))))))))
/-- with its results -/
def a21 : AFun := ⟨c21, [(0, none)], 64⟩

/-- estreat/pack.Get: parameters []uint8 -/
def c23 : AC :=
  (.seq (.reg false [
    { dst := some 2, op := .alloc 2 z38 },
    { dst := some 3, op := .mov (.c (.int .i64 0)) },
    { dst := some 4, op := .mov (.c (.int .i64 0)) }])
  ((.seq ((.seq (.reg false [
    { dst := some 6, op := .mov (.t 0) },
    { dst := some 7, op := .len (.t 6) },
    { dst := some 8, op := .bin .lss (.t 7) (.c (.int .i64 4)) }])
  (.cond (.t 8) ((.seq (.reg false [
    { dst := some 9, op := .build z38 [] },
    { dst := none, op := .store 2 (.t 2) (.t 9) },
    { dst := some 3, op := .mov (.c (.int .i64 0)) },
    { dst := some 4, op := .mov (.c (.int .i64 10)) }])
  (.ret))) (.skip))))
  (.keep [0, 2] [2, 100000] ((.seq (.reg true [
    { dst := some 10, op := .mov (.t 0), rs := [0], tn := [100000] },
    { dst := some 11, op := .iad 1 (.t 10) (.c (.int .i64 1)), rs := [10], tn := [100000], an := [0] },
    { dst := some 12, op := .load none (.t 11), rs := [11], tn := [100000], an := [1] },
    { dst := some 13, op := .conv .i64 (.t 12), rs := [12], an := [2] },
    { dst := some 14, op := .bin .shl (.t 13) (.c (.int .u64 16)), rs := [13], an := [3] },
    { dst := some 15, op := .mov (.t 0), rs := [0], tn := [100000] },
    { dst := some 16, op := .iad 1 (.t 15) (.c (.int .i64 2)), rs := [15], tn := [100000], an := [5] },
    { dst := some 17, op := .load none (.t 16), rs := [16], tn := [100000], an := [6] },
    { dst := some 18, op := .conv .i64 (.t 17), rs := [17], an := [7] },
    { dst := some 19, op := .bin .shl (.t 18) (.c (.int .u64 8)), rs := [18], an := [8] },
    { dst := some 20, op := .bin .or (.t 14) (.t 19), rs := [14, 19], an := [4, 9] },
    { dst := some 21, op := .mov (.t 0), rs := [0], tn := [100000] },
    { dst := some 22, op := .iad 1 (.t 21) (.c (.int .i64 3)), rs := [21], tn := [100000], an := [11] },
    { dst := some 23, op := .load none (.t 22), rs := [22], tn := [100000], an := [12] },
    { dst := some 24, op := .conv .i64 (.t 23), rs := [23], an := [13] },
    { dst := some 25, op := .bin .or (.t 20) (.t 24), rs := [20, 24], an := [10, 14] },
    { dst := some 5, op := .mov (.t 25), rs := [25], an := [15] }])
  (.keep [0, 2, 5] [2, 100000] ((.seq (.block 0 ((.seq (.reg false [
    { dst := some 27, op := .mov (.t 0) },
    { dst := some 28, op := .iad 1 (.t 27) (.c (.int .i64 0)) },
    { dst := some 29, op := .load none (.t 28) },
    { dst := some 30, op := .bin .eql (.t 29) (.c (.int .u8 0)) },
    { dst := some 31, op := .mov (.t 30) },
    { dst := some 32, op := .mov (.t 5), guard := some (31, false) },
    { dst := some 33, op := .bin .gtr (.t 32) (.c (.int .i64 65536)), guard := some (31, false) },
    { dst := some 34, op := .pick (.t 31) (.c (.bool true)) (.t 33) },
    { dst := some 26, op := .mov (.t 34) }])
  (.cond (.t 26) ((.seq (.reg false [
    { dst := some 35, op := .build z38 [] },
    { dst := none, op := .store 2 (.t 2) (.t 35) },
    { dst := some 3, op := .mov (.c (.int .i64 0)) },
    { dst := some 4, op := .mov (.c (.int .i64 11)) }])
  (.ret))) ((.seq (.reg false [
    { dst := some 37, op := .mov (.t 0) },
    { dst := some 38, op := .len (.t 37) },
    { dst := some 39, op := .bin .sub (.t 38) (.c (.int .i64 4)) },
    { dst := some 40, op := .mov (.t 5) },
    { dst := some 41, op := .bin .lss (.t 39) (.t 40) },
    { dst := some 36, op := .mov (.t 41) }])
  (.cond (.t 36) ((.seq (.reg false [
    { dst := some 42, op := .build z38 [] },
    { dst := none, op := .store 2 (.t 2) (.t 42) },
    { dst := some 3, op := .mov (.c (.int .i64 0)) },
    { dst := some 4, op := .mov (.c (.int .i64 10)) }])
  (.ret))) (.skip))))))))
  (.keep [0, 2, 5] [2, 100000] ((.seq (.reg true [
    { dst := some 43, op := .mov (.t 0), rs := [0], tn := [100000] },
    { dst := some 44, op := .iad 1 (.t 43) (.c (.int .i64 0)), rs := [43], tn := [100000], an := [0] },
    { dst := some 45, op := .load none (.t 44), rs := [44], tn := [100000], an := [1] },
    { dst := some 46, op := .conv .i64 (.t 45), rs := [45], an := [2] },
    { dst := some 47, op := .mov (.t 0), rs := [0], tn := [100000] },
    { dst := some 48, op := .mov (.t 5), rs := [5] },
    { dst := some 49, op := .bin .add (.c (.int .i64 4)) (.t 48), rs := [48], an := [5] },
    { dst := some 50, op := .slc 1 (.t 47) (some (.c (.int .i64 4))) (some (.t 49)) none, rs := [47, 49], tn := [100000], an := [4, 6] },
    { dst := some 51, op := .b2s (.t 50), rs := [50], tn := [100000], an := [7] },
    { dst := some 52, op := .build z38 [(0, 1, (.t 46)), (1, 1, (.t 51))], rs := [46, 51], an := [3, 8] },
    { dst := some 53, op := .mov (.t 5), rs := [5] },
    { dst := some 54, op := .bin .add (.c (.int .i64 4)) (.t 53), rs := [53], an := [10] },
    { dst := none, op := .store 2 (.t 2) (.t 52), rs := [2, 52], tn := [2], wn := [2], an := [9] },
    { dst := some 3, op := .mov (.t 54), rs := [54], an := [11] },
    { dst := some 4, op := .mov (.c (.int .i64 0)) }])
  (.ret)))))))))))))
/-- with its results -/
def a23 : AFun := ⟨c23, [(2, some (some 2)), (3, none), (4, none)], 55⟩

/-- estreat/estreatref01.Get: parameters []uint8 -/
def c24 : AC :=
  (.seq (.reg false [
    { dst := some 2, op := .alloc 2 z38 },
    { dst := some 3, op := .mov (.c (.int .i64 0)) },
    { dst := some 4, op := .mov (.c (.int .i64 0)) }])
  ((.seq ((.seq (.reg false [
    { dst := some 6, op := .mov (.t 0) },
    { dst := some 7, op := .len (.t 6) },
    { dst := some 8, op := .bin .lss (.t 7) (.c (.int .i64 4)) }])
  (.cond (.t 8) ((.seq (.reg false [
    { dst := some 9, op := .build z38 [] },
    { dst := none, op := .store 2 (.t 2) (.t 9) },
    { dst := some 3, op := .mov (.c (.int .i64 0)) },
    { dst := some 4, op := .mov (.c (.int .i64 10)) }])
  (.ret))) (.skip))))
  (.keep [0, 2] [2, 100000] ((.seq (.reg true [
    { dst := some 10, op := .mov (.t 0), rs := [0], tn := [100000] },
    { dst := some 11, op := .iad 1 (.t 10) (.c (.int .i64 1)), rs := [10], tn := [100000], an := [0] },
    { dst := some 12, op := .load none (.t 11), rs := [11], tn := [100000], an := [1] },
    { dst := some 13, op := .conv .i64 (.t 12), rs := [12], an := [2] },
    { dst := some 14, op := .bin .mul (.c (.int .i64 65536)) (.t 13), rs := [13], an := [3] },
    { dst := some 15, op := .mov (.t 0), rs := [0], tn := [100000] },
    { dst := some 16, op := .iad 1 (.t 15) (.c (.int .i64 2)), rs := [15], tn := [100000], an := [5] },
    { dst := some 17, op := .load none (.t 16), rs := [16], tn := [100000], an := [6] },
    { dst := some 18, op := .conv .i64 (.t 17), rs := [17], an := [7] },
    { dst := some 19, op := .bin .mul (.c (.int .i64 256)) (.t 18), rs := [18], an := [8] },
    { dst := some 20, op := .bin .add (.t 14) (.t 19), rs := [14, 19], an := [4, 9] },
    { dst := some 21, op := .mov (.t 0), rs := [0], tn := [100000] },
    { dst := some 22, op := .iad 1 (.t 21) (.c (.int .i64 3)), rs := [21], tn := [100000], an := [11] },
    { dst := some 23, op := .load none (.t 22), rs := [22], tn := [100000], an := [12] },
    { dst := some 24, op := .conv .i64 (.t 23), rs := [23], an := [13] },
    { dst := some 25, op := .bin .add (.t 20) (.t 24), rs := [20, 24], an := [10, 14] },
    { dst := some 5, op := .mov (.t 25), rs := [25], an := [15] }])
  (.keep [0, 2, 5] [2, 100000] ((.seq ((.seq (.reg false [
    { dst := some 26, op := .mov (.t 0) },
    { dst := some 27, op := .iad 1 (.t 26) (.c (.int .i64 0)) },
    { dst := some 28, op := .load none (.t 27) },
    { dst := some 29, op := .bin .eql (.t 28) (.c (.int .u8 0)) },
    { dst := some 30, op := .mov (.t 29) },
    { dst := some 31, op := .mov (.t 5), guard := some (30, false) },
    { dst := some 32, op := .bin .gtr (.t 31) (.c (.int .i64 65536)), guard := some (30, false) },
    { dst := some 33, op := .pick (.t 30) (.c (.bool true)) (.t 32) }])
  (.cond (.t 33) ((.seq (.reg false [
    { dst := some 34, op := .build z38 [] },
    { dst := none, op := .store 2 (.t 2) (.t 34) },
    { dst := some 3, op := .mov (.c (.int .i64 0)) },
    { dst := some 4, op := .mov (.c (.int .i64 11)) }])
  (.ret))) (.skip))))
  (.keep [0, 2, 5] [2, 100000] ((.seq ((.seq (.reg false [
    { dst := some 35, op := .mov (.t 0) },
    { dst := some 36, op := .len (.t 35) },
    { dst := some 37, op := .bin .sub (.t 36) (.c (.int .i64 4)) },
    { dst := some 38, op := .mov (.t 5) },
    { dst := some 39, op := .bin .lss (.t 37) (.t 38) }])
  (.cond (.t 39) ((.seq (.reg false [
    { dst := some 40, op := .build z38 [] },
    { dst := none, op := .store 2 (.t 2) (.t 40) },
    { dst := some 3, op := .mov (.c (.int .i64 0)) },
    { dst := some 4, op := .mov (.c (.int .i64 10)) }])
  (.ret))) (.skip))))
  (.keep [0, 2, 5] [2, 100000] ((.seq (.reg true [
    { dst := some 41, op := .mov (.t 0), rs := [0], tn := [100000] },
    { dst := some 42, op := .iad 1 (.t 41) (.c (.int .i64 0)), rs := [41], tn := [100000], an := [0] },
    { dst := some 43, op := .load none (.t 42), rs := [42], tn := [100000], an := [1] },
    { dst := some 44, op := .conv .i64 (.t 43), rs := [43], an := [2] },
    { dst := some 45, op := .mov (.t 0), rs := [0], tn := [100000] },
    { dst := some 46, op := .mov (.t 5), rs := [5] },
    { dst := some 47, op := .bin .add (.c (.int .i64 4)) (.t 46), rs := [46], an := [5] },
    { dst := some 48, op := .slc 1 (.t 45) (some (.c (.int .i64 4))) (some (.t 47)) none, rs := [45, 47], tn := [100000], an := [4, 6] },
    { dst := some 49, op := .b2s (.t 48), rs := [48], tn := [100000], an := [7] },
    { dst := some 50, op := .build z38 [(0, 1, (.t 44)), (1, 1, (.t 49))], rs := [44, 49], an := [3, 8] },
    { dst := some 51, op := .mov (.t 5), rs := [5] },
    { dst := some 52, op := .bin .add (.c (.int .i64 4)) (.t 51), rs := [51], an := [10] },
    { dst := none, op := .store 2 (.t 2) (.t 50), rs := [2, 50], tn := [2], wn := [2], an := [9] },
    { dst := some 3, op := .mov (.t 52), rs := [52], an := [11] },
    { dst := some 4, op := .mov (.c (.int .i64 0)) }])
  (.ret))))))))))))))))
/-- with its results -/
def a24 : AFun := ⟨c24, [(2, some (some 2)), (3, none), (4, none)], 53⟩

/-- estreat/pack.may: parameters api.Field int -/
def c32 : AC :=
  (.seq (.reg false [
    { dst := some 2, op := .box 2 (.t 0) },
    { dst := some 4, op := .mov (.c (.int .i64 0)) }])
  ((.seq (.reg false [
    { dst := some 5, op := .mov (.c (.int .i64 0)) }])
  ((.seq (.block 0 ((.seq (.block 3 ((.seq (.block 2 (.block 1 ((.seq ((.seq ((.seq (.reg false [
    { dst := some 7, op := .fad 0 (.t 2) },
    { dst := some 8, op := .load none (.t 7) },
    { dst := some 9, op := .bin .gtr (.t 8) (.c (.int .i64 255)) },
    { dst := some 6, op := .mov (.t 9) }])
  (.cond (.t 6) (.exit 1) (.skip))))
  (.keep [1, 2, 4, 5] [2] ((.seq ((.seq (.reg false [
    { dst := some 11, op := .fad 0 (.t 2) },
    { dst := some 12, op := .load none (.t 11) },
    { dst := some 13, op := .mov (.t 1) },
    { dst := some 14, op := .bin .leq (.t 12) (.t 13) },
    { dst := some 10, op := .mov (.t 14) }])
  (.cond (.t 10) (.exit 2) (.skip))))
  (.keep [2, 4, 5] [2] ((.seq (.reg false [
    { dst := some 16, op := .fad 1 (.t 2) },
    { dst := some 17, op := .load none (.t 16) },
    { dst := some 18, op := .lenS (.t 17) },
    { dst := some 19, op := .bin .gtr (.t 18) (.c (.int .i64 65536)) },
    { dst := some 15, op := .mov (.t 19) }])
  (.cond (.t 15) (.exit 3) (.skip))))))))))
  (.exit 0)))))
  (.keep [4, 5] [] ((.seq (.reg false [
    { dst := some 5, op := .mov (.c (.int .i64 1)) }])
  (.exit 0)))))))
  (.keep [4, 5] [] ((.seq (.reg false [
    { dst := some 5, op := .mov (.c (.int .i64 2)) }])
  (.exit 0)))))))
  (.keep [5] [] ((.seq (.reg false [
    { dst := some 20, op := .mov (.t 5) },
    { dst := some 4, op := .mov (.t 20) }])
  (.ret)))))))))
/-- with its results -/
def a32 : AFun := ⟨c32, [(4, none)], 21⟩

/-- estreat/pack.put: parameters []uint8 api.Field -/
def c33 : AC :=
  (.seq (.reg false [
    { dst := some 3, op := .box 3 (.t 1) },
    { dst := some 4, op := .mov (.c .nilS) }])
  ((.seq (.reg false [
    { dst := some 6, op := .fad 1 (.t 3) },
    { dst := some 7, op := .load none (.t 6) },
    { dst := some 8, op := .lenS (.t 7) },
    { dst := some 5, op := .mov (.t 8) }])
  (.keep [0, 3, 5] [3, 100000] ((.seq (.reg true [
    { dst := some 9, op := .mov (.t 0), rs := [0], tn := [100000] },
    { dst := some 10, op := .fad 0 (.t 3), rs := [3], tn := [3] },
    { dst := some 11, op := .load none (.t 10), rs := [10], tn := [3], an := [1] },
    { dst := some 12, op := .conv .u8 (.t 11), rs := [11], an := [2] },
    { dst := some 13, op := .mov (.t 5), rs := [5] },
    { dst := some 14, op := .bin .shr (.t 13) (.c (.int .u64 16)), rs := [13], an := [4] },
    { dst := some 15, op := .conv .u8 (.t 14), rs := [14], an := [5] },
    { dst := some 16, op := .mov (.t 5), rs := [5] },
    { dst := some 17, op := .bin .shr (.t 16) (.c (.int .u64 8)), rs := [16], an := [7] },
    { dst := some 18, op := .conv .u8 (.t 17), rs := [17], an := [8] },
    { dst := some 19, op := .mov (.t 5), rs := [5] },
    { dst := some 20, op := .conv .u8 (.t 19), rs := [19], an := [10] },
    { dst := some 21, op := .bslice 21 1 [(.int .u8 0)] 4 [(0, (.t 12)), (1, (.t 15)), (2, (.t 18)), (3, (.t 20))], rs := [12, 15, 18, 20], tn := [21], wn := [21], an := [3, 6, 9, 11] },
    { dst := some 22, op := .app 22 1 1 (.t 9) (.t 21), rs := [9, 21], tn := [21, 22, 100000], wn := [21, 22, 100000], an := [0, 12] },
    { dst := some 23, op := .fad 1 (.t 3), rs := [3], tn := [3] },
    { dst := some 24, op := .load none (.t 23), rs := [23], tn := [3], an := [14] },
    { dst := some 25, op := .app 25 1 1 (.t 22) (.t 24), rs := [22, 24], tn := [22, 25, 100000], wn := [22, 25, 100000], an := [0, 13, 15] },
    { dst := some 4, op := .mov (.t 25), rs := [25], tn := [22, 25, 100000], an := [13, 16] }])
  (.ret)))))))
/-- with its results -/
def a33 : AFun := ⟨c33, [(4, none)], 26⟩

/-- estreat/estreatref01.Put: parameters int string -/
def c20 : AC :=
  (.seq (.reg false [
    { dst := some 4, op := .mov (.c .nilS) },
    { dst := some 5, op := .mov (.c (.int .i64 0)) }])
  ((.seq (.reg false [
    { dst := some 7, op := .mov (.t 0) },
    { dst := some 8, op := .mov (.t 1) },
    { dst := some 9, op := .call 10000 34 [(.t 7), (.t 8)] },
    { dst := some 6, op := .mov (.t 9) }])
  (.keep [0, 1, 6] [] ((.seq ((.seq (.reg false [
    { dst := some 10, op := .mov (.t 6) },
    { dst := some 11, op := .bin .neq (.t 10) (.c (.int .i64 0)) }])
  (.cond (.t 11) ((.seq (.reg false [
    { dst := some 12, op := .mov (.t 6) },
    { dst := some 4, op := .mov (.c .nilS) },
    { dst := some 5, op := .mov (.t 12) }])
  (.ret))) (.skip))))
  (.keep [0, 1] [] ((.seq (.reg false [
    { dst := some 13, op := .mov (.t 0) },
    { dst := some 14, op := .mov (.t 1) },
    { dst := some 15, op := .call 16000 35 [(.t 13), (.t 14)] },
    { dst := some 4, op := .mov (.t 15) },
    { dst := some 5, op := .mov (.c (.int .i64 0)) }])
  (.ret))))))))))
/-- with its results -/
def a20 : AFun := ⟨c20, [(4, none), (5, none)], 16⟩

/-- estreat/estreatref01.May: parameters int string -/
def c34 : AC :=
  (.seq (.reg false [
    { dst := some 4, op := .mov (.c (.int .i64 0)) }])
  ((.seq ((.seq (.reg false [
    { dst := some 5, op := .mov (.t 0) },
    { dst := some 6, op := .bin .lss (.t 5) (.c (.int .i64 1)) },
    { dst := some 7, op := .mov (.t 6) },
    { dst := some 8, op := .mov (.t 0), guard := some (7, false) },
    { dst := some 9, op := .bin .gtr (.t 8) (.c (.int .i64 255)), guard := some (7, false) },
    { dst := some 10, op := .pick (.t 7) (.c (.bool true)) (.t 9) }])
  (.cond (.t 10) ((.seq (.reg false [
    { dst := some 4, op := .mov (.c (.int .i64 1)) }])
  (.ret))) (.skip))))
  (.keep [1] [] ((.seq ((.seq (.reg false [
    { dst := some 11, op := .mov (.t 1) },
    { dst := some 12, op := .lenS (.t 11) },
    { dst := some 13, op := .bin .gtr (.t 12) (.c (.int .i64 65536)) }])
  (.cond (.t 13) ((.seq (.reg false [
    { dst := some 4, op := .mov (.c (.int .i64 2)) }])
  (.ret))) (.skip))))
  (.keep [] [] ((.seq (.reg false [
    { dst := some 4, op := .mov (.c (.int .i64 0)) }])
  (.ret))))))))))
/-- with its results -/
def a34 : AFun := ⟨c34, [(4, none)], 14⟩

/-- estreat/estreatref01.Bytes: parameters int string -/
def c35 : AC :=
  (.seq (.reg false [
    { dst := some 4, op := .mov (.c .nilS) }])
  ((.seq (.reg false [
    { dst := some 7, op := .mov (.t 1) },
    { dst := some 8, op := .lenS (.t 7) },
    { dst := some 5, op := .mov (.t 8) }])
  ((.seq (.reg false [
    { dst := some 9, op := .mov (.t 0) },
    { dst := some 10, op := .conv .u8 (.t 9) },
    { dst := some 11, op := .mov (.t 5) },
    { dst := some 12, op := .bin .quo (.t 11) (.c (.int .i64 65536)) },
    { dst := some 13, op := .conv .u8 (.t 12) },
    { dst := some 14, op := .mov (.t 5) },
    { dst := some 15, op := .bin .quo (.t 14) (.c (.int .i64 256)) },
    { dst := some 16, op := .conv .u8 (.t 15) },
    { dst := some 17, op := .mov (.t 5) },
    { dst := some 18, op := .conv .u8 (.t 17) },
    { dst := some 19, op := .bslice 19 1 [(.int .u8 0)] 4 [(0, (.t 10)), (1, (.t 13)), (2, (.t 16)), (3, (.t 18))] },
    { dst := some 6, op := .mov (.t 19) }])
  (.keep [1, 6] [19, 22] ((.seq (.reg false [
    { dst := some 20, op := .mov (.t 6) },
    { dst := some 21, op := .mov (.t 1) },
    { dst := some 22, op := .app 22 1 1 (.t 20) (.t 21) },
    { dst := some 6, op := .mov (.t 22) }])
  (.keep [6] [19, 22] ((.seq (.reg false [
    { dst := some 23, op := .mov (.t 6) },
    { dst := some 4, op := .mov (.t 23) }])
  (.ret))))))))))))
/-- with its results -/
def a35 : AFun := ⟨c35, [(4, none)], 24⟩

def b18i_0 : AC :=
  (.seq ((.seq (.reg false [
    { dst := some 8, op := .mov (.t 4) },
    { dst := some 9, op := .bin .lss (.t 8) (.c (.int .i64 7)) }])
  (.cond (.t 9) (.skip) (.exit 0))))
  ((.seq (.block 1 (.reg false [
    { dst := some 12, op := .mov (.t 3) },
    { dst := some 13, op := .bslice 3180013 1 [(.int .u8 0)] 1 [(0, (.c (.int .u8 195)))] },
    { dst := some 14, op := .app 3180014 1 1 (.t 12) (.t 13) },
    { dst := some 3, op := .mov (.t 14) }]))
  (.keep [0, 2, 3, 4] [4, 7, 28000, 34000, 100000, 3180007, 3180014] (.reg false [
    { dst := some 10, op := .mov (.t 4) },
    { dst := some 11, op := .bin .add (.t 10) (.c (.int .i64 1)) },
    { dst := some 4, op := .mov (.t 11) }])))))
/-- estreat/estreatkeep.Lent: parameters []uint8 -/
def c18i : AC :=
  (.seq (.reg false [
    { dst := some 2, op := .mov (.c .nilS) }])
  ((.seq (.reg false [
    { dst := some 3, op := .mov (.c .nilS) }])
  ((.seq (.reg false [
    { dst := some 5, op := .mov (.t 3) },
    { dst := some 6, op := .mov (.t 0) },
    { dst := some 7, op := .app 3180007 1 1 (.t 5) (.t 6) },
    { dst := some 3, op := .mov (.t 7) }])
  (.keep [0, 3] [4, 7, 28000, 34000, 100000, 3180007, 3180014] ((.seq ((.seq (.reg false [
    { dst := some 4, op := .mov (.c (.int .i64 0)) }])
  (.block 0 (.loop [0, 2, 3, 4] [4, 7, 28000, 34000, 100000, 3180007, 3180014] b18i_0))))
  (.keep [0, 3] [4, 7, 28000, 34000, 100000, 3180007, 3180014] ((.seq (.reg false [
    { dst := some 15, op := .mov (.t 3) },
    { dst := some 16, op := .mov (.t 0) },
    { dst := some 17, op := .len (.t 16) },
    { dst := some 18, op := .slc 1 (.t 15) none (some (.t 17)) none },
    { dst := some 2, op := .mov (.t 18) }])
  (.ret))))))))))))
/-- with its results -/
def a18i : AFun := ⟨c18i, [(2, none)], 19⟩

def b22i_0 : AC :=
  (.seq ((.seq (.reg false [
    { dst := some 19, op := .mov (.t 6) },
    { dst := some 20, op := .mov (.t 5) },
    { dst := some 21, op := .len (.t 20) },
    { dst := some 22, op := .bin .lss (.t 19) (.t 21) }])
  (.cond (.t 22) (.skip) (.exit 0))))
  (.keep [4, 5, 6] [4, 7, 28000, 34000, 100000, 3180007, 3180013, 3180014, 3180017] ((.seq (.block 1 ((.seq (.reg false [
    { dst := some 25, op := .mov (.t 5) },
    { dst := some 26, op := .mov (.t 6) },
    { dst := some 27, op := .iad 1 (.t 25) (.t 26) },
    { dst := some 28, op := .load none (.t 27) },
    { dst := some 29, op := .bin .neq (.t 28) (.c (.int .u8 195)) }])
  (.cond (.t 29) ((.seq (.reg false [
    { dst := some 4, op := .mov (.c (.bool false)) }])
  (.ret))) (.skip)))))
  (.keep [4, 5, 6] [4, 7, 28000, 34000, 100000, 3180007, 3180013, 3180014, 3180017] (.reg false [
    { dst := some 23, op := .mov (.t 6) },
    { dst := some 24, op := .bin .add (.t 23) (.c (.int .i64 1)) },
    { dst := some 6, op := .mov (.t 24) }]))))))
/-- estreat/estreatkeep.Kept: parameters []uint8 []uint8 -/
def c22i : AC :=
  (.seq (.reg false [
    { dst := some 4, op := .mov (.c (.bool false)) }])
  ((.seq ((.seq (.reg false [
    { dst := some 7, op := .mov (.t 0) },
    { dst := some 8, op := .b2s (.t 7) },
    { dst := some 9, op := .mov (.t 1) },
    { dst := some 10, op := .b2s (.t 9) },
    { dst := some 11, op := .bin .neq (.t 8) (.t 10) }])
  (.cond (.t 11) ((.seq (.reg false [
    { dst := some 4, op := .mov (.c (.bool false)) }])
  (.ret))) (.skip))))
  (.keep [0, 1] [4, 7, 28000, 34000, 100000, 100200, 3180007, 3180013, 3180014, 3180017] ((.seq (.reg false [
    { dst := some 12, op := .mov (.t 0) },
    { dst := some 13, op := .mov (.t 1) },
    { dst := some 14, op := .len (.t 13) },
    { dst := some 15, op := .bin .add (.t 14) (.c (.int .i64 7)) },
    { dst := some 16, op := .slc 1 (.t 12) none (some (.t 15)) none },
    { dst := some 5, op := .mov (.t 16) }])
  (.keep [1, 5] [4, 7, 28000, 34000, 100000, 100200, 3180007, 3180013, 3180014, 3180017] ((.seq ((.seq (.reg false [
    { dst := some 17, op := .mov (.t 1) },
    { dst := some 18, op := .len (.t 17) },
    { dst := some 6, op := .mov (.t 18) }])
  (.block 0 (.loop [4, 5, 6] [4, 7, 28000, 34000, 100000, 3180007, 3180013, 3180014, 3180017] b22i_0))))
  (.keep [] [4, 7, 28000, 34000, 3180007, 3180013, 3180014, 3180017] ((.seq (.reg false [
    { dst := some 4, op := .mov (.c (.bool true)) }])
  (.ret)))))))))))))
/-- with its results -/
def a22i : AFun := ⟨c22i, [(4, none)], 30⟩

end Go.Abs.Try

namespace Go.Abs.Try
open Go Go.Abs Go.Proofs
/-- the seat's code -/
def T : List (Nat × AFun) := [(6, a6), (7, a7), (18, a18), (22, a22), (19, a19), (21, a21), (23, a23), (24, a24), (32, a32), (33, a33), (20, a20), (34, a34), (35, a35)]
def T2 : List (Nat × AFun) := [(18, a18i), (22, a22i)]
theorem tab : tabOK Try.prog T = true := by kernel_rfl
theorem tab2 : tabOK Try.prog T2 = true := by kernel_rfl
def Q (n : Nat) : Nat → Option FnF := Phi T T2 100 n
def E (n f : Nat) : CallF := Ev T T2 100 n f
def I (n f : Nat) : InlF := Iv T T2 100 n f
theorem q6 (n : Nat) : Q (n + 1) 6 = some ⟨E (n + 1) 6, I (n + 1) 6⟩ := rfl
theorem e6 (n : Nat) : E (n + 1) 6 = evFun (Q n) 100 a6 := rfl
theorem q7 (n : Nat) : Q (n + 1) 7 = some ⟨E (n + 1) 7, I (n + 1) 7⟩ := rfl
theorem e7 (n : Nat) : E (n + 1) 7 = evFun (Q n) 100 a7 := rfl
theorem q18 (n : Nat) : Q (n + 1) 18 = some ⟨E (n + 1) 18, I (n + 1) 18⟩ := rfl
theorem e18 (n : Nat) : E (n + 1) 18 = evFun (Q n) 100 a18 := rfl
theorem q22 (n : Nat) : Q (n + 1) 22 = some ⟨E (n + 1) 22, I (n + 1) 22⟩ := rfl
theorem e22 (n : Nat) : E (n + 1) 22 = evFun (Q n) 100 a22 := rfl
theorem q19 (n : Nat) : Q (n + 1) 19 = some ⟨E (n + 1) 19, I (n + 1) 19⟩ := rfl
theorem e19 (n : Nat) : E (n + 1) 19 = evFun (Q n) 100 a19 := rfl
theorem q21 (n : Nat) : Q (n + 1) 21 = some ⟨E (n + 1) 21, I (n + 1) 21⟩ := rfl
theorem e21 (n : Nat) : E (n + 1) 21 = evFun (Q n) 100 a21 := rfl
theorem q23 (n : Nat) : Q (n + 1) 23 = some ⟨E (n + 1) 23, I (n + 1) 23⟩ := rfl
theorem e23 (n : Nat) : E (n + 1) 23 = evFun (Q n) 100 a23 := rfl
theorem q24 (n : Nat) : Q (n + 1) 24 = some ⟨E (n + 1) 24, I (n + 1) 24⟩ := rfl
theorem e24 (n : Nat) : E (n + 1) 24 = evFun (Q n) 100 a24 := rfl
theorem q32 (n : Nat) : Q (n + 1) 32 = some ⟨E (n + 1) 32, I (n + 1) 32⟩ := rfl
theorem e32 (n : Nat) : E (n + 1) 32 = evFun (Q n) 100 a32 := rfl
theorem q33 (n : Nat) : Q (n + 1) 33 = some ⟨E (n + 1) 33, I (n + 1) 33⟩ := rfl
theorem e33 (n : Nat) : E (n + 1) 33 = evFun (Q n) 100 a33 := rfl
theorem q20 (n : Nat) : Q (n + 1) 20 = some ⟨E (n + 1) 20, I (n + 1) 20⟩ := rfl
theorem e20 (n : Nat) : E (n + 1) 20 = evFun (Q n) 100 a20 := rfl
theorem q34 (n : Nat) : Q (n + 1) 34 = some ⟨E (n + 1) 34, I (n + 1) 34⟩ := rfl
theorem e34 (n : Nat) : E (n + 1) 34 = evFun (Q n) 100 a34 := rfl
theorem q35 (n : Nat) : Q (n + 1) 35 = some ⟨E (n + 1) 35, I (n + 1) 35⟩ := rfl
theorem e35 (n : Nat) : E (n + 1) 35 = evFun (Q n) 100 a35 := rfl
theorem i18 (n : Nat) : I (n + 1) 18 = evInl (Q n) 100 a18i := rfl
theorem i22 (n : Nat) : I (n + 1) 22 = evInl (Q n) 100 a22i := rfl
theorem ref (n f : Nat) {F} (h : Q n f = some F) : Refines Try.prog f (E n f) := Ev_refines tab tab2 h
end Go.Abs.Try

namespace Go.Abs.Try
open Go Go.Abs
set_option maxHeartbeats 16000000
set_option maxRecDepth 100000
set_option linter.unusedSimpArgs false
set_option linter.unusedVariables false

theorem fields_ok : E 6 21 [] = some (.bool true, []) := by kernel_rfl
theorem byteRows_len (l : List UInt8) : (byteRows l).length = l.length := by simp [byteRows]
theorem byteRows_append (a b : List UInt8) : byteRows (a ++ b) = byteRows a ++ byteRows b := by simp [byteRows]
abbrev K18 : List Nat := [4, 7, 28000, 34000, 100000, 3180007, 3180014]
abbrev mk : List AV := [.int .u8 195]

theorem step18 (Φ : Nat → Option FnF) (K N : Nat) (hN : N = 3180007 ∨ N = 3180014) (v : AV) (R : List (List AV)) (hR : R.length ≤ 1000000) (i k g c : Nat) (hi : i < 7) :
    ∃ g' c', iter (ev Φ K b18i_0) [0, 2, 3, 4] K18 (k + 1) ⟨[(0, v), (3, .own N g 0 R.length), (4, .int .i64 i)], [⟨N, g, .arr 1 R false⟩], c⟩ =
      iter (ev Φ K b18i_0) [0, 2, 3, 4] K18 k ⟨[(0, v), (3, .own N g' 0 (R ++ [mk]).length), (4, .int .i64 (i + 1 : Nat))], [⟨N, g', .arr 1 (R ++ [mk]) false⟩], c'⟩ := by
  have h1 : (i : Int) < 7 := by omega
  have w1 : IntKind.i64.wrap ((i : Int) + 1) = (i : Int) + 1 := wrap_i64 _ (by omega) (by omega)
  have e2 : R.take R.length = R := List.take_of_length_le (Nat.le_refl _)
  have e3 : R.length ≤ 17592186044415 := by omega
  have e5 : ¬ R.length + 1 ≤ R.length := by omega
  refine ⟨c + 1, c + 2, iter_norm ?_⟩
  rcases hN with rfl | rfl
  · simp -implicitDefEqProofs [b18i_0, St.keep, h1, w1, aappend, maxBytes, e2, e3, e5]
  · simp -implicitDefEqProofs [b18i_0, St.keep, h1, w1, aappend, maxBytes, e2, e3, e5]

theorem loop18 (Φ : Nat → Option FnF) (K N : Nat) (hN : N = 3180007 ∨ N = 3180014) (v : AV) : ∀ (d i k : Nat) (R : List (List AV)) (g c : Nat), i + d = 7 → d < k → R.length + d ≤ 1000000 →
    ∃ g' c', iter (ev Φ K b18i_0) [0, 2, 3, 4] K18 k ⟨[(0, v), (3, .own N g 0 R.length), (4, .int .i64 i)], [⟨N, g, .arr 1 R false⟩], c⟩ =
      some (.exit 0, ⟨[(0, v), (3, .own N g' 0 (R.length + d)), (4, .int .i64 7), (8, .int .i64 7), (9, .bool false)], [⟨N, g', .arr 1 (R ++ List.replicate d mk) false⟩], c'⟩)
  | d, i, 0, R, g, c, hi, hk, hR => by omega
  | 0, i, k + 1, R, g, c, hi, hk, hR => by
    obtain rfl : i = 7 := by omega
    refine ⟨g, c, ?_⟩
    rw [iter_succ]
    rcases hN with rfl | rfl <;> simp -implicitDefEqProofs [b18i_0]
  | d + 1, i, k + 1, R, g, c, hi, hk, hR => by
    obtain ⟨g1, c1, e1⟩ := step18 Φ K N hN v R (by omega) i k g c (by omega)
    obtain ⟨g2, c2, e2⟩ := loop18 Φ K N hN v d (i + 1) k (R ++ [mk]) g1 c1 (by omega) (by omega) (by simp; omega)
    refine ⟨g2, c2, ?_⟩
    rw [e1, e2]
    have e3 : (R ++ [mk]) ++ List.replicate d mk = R ++ List.replicate (d + 1) mk := by rw [List.append_assoc]; rfl
    have e4 : (R ++ [mk]).length + d = R.length + (d + 1) := by simp; omega
    rw [e3, e4]

/-- the bytes of an argument -/
def Is (l : List UInt8) (v : AV) : Prop := (v = .nilS ∧ l = []) ∨ v = .ro false 1 (byteRows l)

theorem lent18 (n : Nat) (l : List UInt8) (v : AV) (hv : Is l v) (hl : l.length ≤ 500000) :
    ∃ N g c, (N = 3180007 ∨ N = 3180014) ∧ I (n + 1) 18 [] 0 [v] = some (.own N g 0 l.length, [⟨N, g, .arr 1 (byteRows l ++ List.replicate 7 mk) false⟩], c) := by
  rw [i18]
  have hb := byteRows_len l
  by_cases h0 : l = []
  · -- the first byte makes the array
    subst h0
    obtain ⟨g, c, e⟩ := loop18 (Q n) 100 3180014 (.inr rfl) v 6 1 99 [mk] 1 2 (by omega) (by omega) (by simp)
    refine ⟨3180014, g, c, .inr rfl, ?_⟩
    have st : iter (ev (Q n) 100 b18i_0) [0, 2, 3, 4] K18 100 ⟨[(0, v), (3, .nilS), (4, .int .i64 0)], [], 0⟩ = iter (ev (Q n) 100 b18i_0) [0, 2, 3, 4] K18 99 ⟨[(0, v), (3, .own 3180014 1 0 1), (4, .int .i64 1)], [⟨3180014, 1, .arr 1 [mk] false⟩], 2⟩ := by
      have w1 : IntKind.i64.wrap 1 = 1 := wrap_i64 _ (by omega) (by omega)
      refine iter_norm ?_
      simp -implicitDefEqProofs [b18i_0, St.keep, w1, aappend, maxBytes]
    have hr : [mk] ++ List.replicate 6 mk = List.replicate 7 mk := rfl
    rw [hr] at e
    simp at e
    rcases hv with ⟨rfl, _⟩ | rfl
    · simp -implicitDefEqProofs [evInl, a18i, c18i, aappend]
      rw [iter_keep]
      simp
      rw [st, e]
      simp [byteRows]
    · simp -implicitDefEqProofs [evInl, a18i, c18i, aappend, byteRows]
      rw [iter_keep]
      simp
      simp [byteRows] at st
      rw [st]
      simp [byteRows] at e
      rw [e]
      simp [byteRows]
  · rcases hv with ⟨_, h⟩ | rfl
    · exact absurd h h0
    obtain ⟨b, r, rfl⟩ : ∃ b r, l = b :: r := by
      cases l with
      | nil => exact absurd rfl h0
      | cons b r => exact ⟨b, r, rfl⟩
    obtain ⟨g, c, e⟩ := loop18 (Q n) 100 3180007 (.inl rfl) (.ro false 1 (byteRows (b :: r))) 7 0 100 (byteRows (b :: r)) 0 1 (by omega) (by omega) (by rw [hb]; omega)
    refine ⟨3180007, g, c, .inl rfl, ?_⟩
    rw [hb] at e
    have q1 : r.length + 1 ≤ 17592186044416 := by simp at hl; omega
    have eb : byteRows (b :: r) = [.int .u8 b.toNat] :: byteRows r := rfl
    have hbr := byteRows_len r
    rw [eb] at e ⊢
    simp -implicitDefEqProofs [evInl, a18i, c18i, aappend, maxBytes, hbr, show r.length ≤ 17592186044415 by omega]
    rw [iter_keep]
    simp
    simp at e
    rw [e]
    simp [hbr, show (0 : Int) ≤ (r.length : Int) + 1 by omega, show (r.length : Int) ≤ (r.length : Int) + 7 by omega, show r.length + 1 ≤ r.length + 7 + 1 by omega]

abbrev KC : List Nat := [4, 7, 28000, 34000, 3180007, 3180013, 3180014, 3180017]
abbrev KB : List Nat := [4, 7, 28000, 34000, 100000, 3180007, 3180013, 3180014, 3180017]
abbrev KA : List Nat := [4, 7, 28000, 34000, 100000, 100200, 3180007, 3180013, 3180014, 3180017]

theorem loop22 (Φ : Nat → Option FnF) (K N g : Nat) (l : List UInt8) (hl : l.length ≤ 500000) (H : AH) (c : Nat) (hH : H.get N g = some (.arr 1 (byteRows l ++ List.replicate 7 mk) false)) (hB : H.only KB = H) : ∀ (d j k : Nat), j + d = 7 → d < k →
    ∃ s', iter (ev Φ K b22i_0) [4, 5, 6] KB k ⟨[(5, .own N g 0 (l.length + 7)), (6, .int .i64 ((l.length : Int) + j))], H, c⟩ = some (.exit 0, s') ∧ s'.h = H ∧ s'.c = c
  | d, j, 0, hj, hk => by omega
  | 0, j, k + 1, hj, hk => by
    obtain rfl : j = 7 := by omega
    rw [iter_succ]
    simp -implicitDefEqProofs [b22i_0, hB]
  | d + 1, j, k + 1, hj, hk => by
    obtain ⟨s', e, e1, e2⟩ := loop22 Φ K N g l hl H c hH hB d (j + 1) k (by omega) (by omega)
    refine ⟨s', ?_, e1, e2⟩
    rw [← e]
    have h1 : (j : Int) < 7 := by omega
    have w1 : IntKind.i64.wrap ((l.length : Int) + (j : Int) + 1) = (l.length : Int) + ((j : Int) + 1) := by rw [wrap_i64 _ (by omega) (by omega)]; omega
    have p1 : 0 ≤ (l.length : Int) + (j : Int) := by omega
    have p2 : ((l.length : Int) + (j : Int)).toNat = l.length + j := by omega
    have hget : (byteRows l ++ List.replicate 7 mk)[l.length + j]? = some mk := by
      rw [List.getElem?_append_right (by rw [byteRows_len]; omega), byteRows_len, show l.length + j - l.length = j by omega, List.getElem?_replicate, if_pos (by omega)]
    have hget' := (List.getElem?_eq_some_iff.1 hget).2
    have hlen : (byteRows l ++ List.replicate 7 mk).length = l.length + 7 := by rw [List.length_append, byteRows_len]; simp
    have p3 : l.length + j < l.length + 7 := by omega
    generalize byteRows l ++ List.replicate 7 mk = R at *
    refine iter_norm ?_
    simp -implicitDefEqProofs [b22i_0, St.keep, hB, h1, w1, p1, p2, p3, hH, hget, hget', hlen, show j < 7 by omega]

theorem kept22 (n N g : Nat) (l : List UInt8) (v : AV) (hv : Is l v) (hl : l.length ≤ 500000) (H : AH) (c : Nat) (hH : H.get N g = some (.arr 1 (byteRows l ++ List.replicate 7 mk) false)) (hA : H.only KA = H) (hB : H.only KB = H) (hC : H.only KC = H) :
    I (n + 1) 22 H c [.own N g 0 l.length, v] = some (.bool true, H, c) := by
  rw [i22]
  obtain ⟨s', e, e1, e2⟩ := loop22 (Q n) 100 N g l hl H c hH hB 7 0 100 (by omega) (by omega)
  obtain ⟨f', h', c'⟩ := s'
  obtain rfl : h' = H := e1
  obtain rfl : c' = c := e2
  have hb := byteRows_len l
  have ht := toBytes_rows l
  have w1 : IntKind.i64.wrap ((l.length : Int) + 7) = (l.length : Int) + 7 := wrap_i64 _ (by omega) (by omega)
  have p1 : 0 ≤ (l.length : Int) + 7 := by omega
  have p2 : ((l.length : Int) + 7).toNat = l.length + 7 := by omega
  have hlen : (byteRows l ++ List.replicate 7 mk).length = l.length + 7 := by rw [List.length_append, hb]; simp
  have htk : (byteRows l ++ List.replicate 7 mk).take l.length = byteRows l := by rw [List.take_append_of_le_length (by omega), List.take_of_length_le (by omega)]
  have e' := e
  simp at e'
  rcases hv with ⟨rfl, rfl⟩ | rfl
  · have w7 : IntKind.i64.wrap 7 = 7 := wrap_i64 _ (by omega) (by omega)
    generalize byteRows [] ++ List.replicate 7 mk = R at *
    simp at hlen
    simp -implicitDefEqProofs [evInl, a22i, c22i, hH, hA, hB, hC, hlen, w7, show toBytes [] = some [] from rfl]
    rw [iter_keep]
    simp [hB]
    simp at e'
    rw [e']
    simp [hC]
  · generalize byteRows l ++ List.replicate 7 mk = R at *
    simp -implicitDefEqProofs [evInl, a22i, c22i, hH, hA, hB, hC, hb, ht, w1, p1, p2, hlen, htk]
    rw [iter_keep]
    simp [hB]
    rw [e']
    simp [hC]
end Go.Abs.Try

namespace Go.Abs.Try
open Go Go.Abs
set_option maxHeartbeats 16000000
set_option maxRecDepth 100000
set_option linter.unusedSimpArgs false
set_option linter.unusedVariables false

theorem or3 (a b c : Nat) (ha : a < 256) (hb : b < 256) (hc : c < 256) : abits .or .i64 ((a : Int) * 65536) ((b : Int) * 256) = some (.int .i64 ((a : Int) * 65536 + (b : Int) * 256)) ∧
    abits .or .i64 ((a : Int) * 65536 + (b : Int) * 256) (c : Int) = some (.int .i64 ((a : Int) * 65536 + (b : Int) * 256 + c)) := by
  have h1 := or_low a (b * 256) 16 (by omega) (by omega)
  have h2 := or_low (a * 256 + b) c 8 (by omega) (by omega)
  constructor
  · have e1 : (a : Int) * 65536 = ((a * 2 ^ 16 : Nat) : Int) := by omega
    have e2 : (b : Int) * 256 = ((b * 256 : Nat) : Int) := by omega
    rw [e1, e2, h1]
    congr 2
  · have e1 : (a : Int) * 65536 + (b : Int) * 256 = (((a * 256 + b) * 2 ^ 8 : Nat) : Int) := by omega
    rw [e1, h2]
    congr 2

/-- what both Gets tell of bytes -/
def getR : List UInt8 → AV
  | t :: a :: b :: c :: r =>
    if t.toNat = 0 ∨ 65536 < a.toNat * 65536 + b.toNat * 256 + c.toNat then .tup [.agg z38, .int .i64 0, .int .i64 11]
    else if r.length < a.toNat * 65536 + b.toNat * 256 + c.toNat then .tup [.agg z38, .int .i64 0, .int .i64 10]
    else .tup [.agg [.int .i64 t.toNat, .str ⟨(r.take (a.toNat * 65536 + b.toNat * 256 + c.toNat)).toArray⟩], .int .i64 (4 + ((a.toNat * 65536 + b.toNat * 256 + c.toNat : Nat) : Int)), .int .i64 0]
  | _ => .tup [.agg z38, .int .i64 0, .int .i64 10]

theorem byteRows_take (n : Nat) (l : List UInt8) : (byteRows l).take n = byteRows (l.take n) := by simp [byteRows]
theorem u8_eq0 (t : UInt8) : t = 0 ↔ t.toNat = 0 := by
  constructor
  · rintro rfl; rfl
  · intro h; exact UInt8.toNat_inj.1 h

theorem short23 (m : Nat) (x : Bool) (l : List UInt8) (hl : l.length < 4) : E (m + 1) 23 [.ro x 1 (byteRows l)] = some (getR l, []) := by
  rw [e23]
  have hb := byteRows_len l
  have h1 : (l.length : Int) < 4 := by omega
  have g : getR l = .tup [.agg z38, .int .i64 0, .int .i64 10] := by
    rcases l with _ | ⟨a, _ | ⟨b, _ | ⟨c, _ | ⟨d, r⟩⟩⟩⟩ <;> first | rfl | (simp at hl; omega)
  rw [g]
  simp -implicitDefEqProofs [a23, c23, z38, hb, h1]
theorem short24 (m : Nat) (x : Bool) (l : List UInt8) (hl : l.length < 4) : E (m + 1) 24 [.ro x 1 (byteRows l)] = some (getR l, []) := by
  rw [e24]
  have hb := byteRows_len l
  have h1 : (l.length : Int) < 4 := by omega
  have g : getR l = .tup [.agg z38, .int .i64 0, .int .i64 10] := by
    rcases l with _ | ⟨a, _ | ⟨b, _ | ⟨c, _ | ⟨d, r⟩⟩⟩⟩ <;> first | rfl | (simp at hl; omega)
  rw [g]
  simp -implicitDefEqProofs [a24, c24, z38, hb, h1]

theorem long23 (m : Nat) (x : Bool) (t a b c : UInt8) (r : List UInt8) (hr : r.length ≤ 1000000) : E (m + 1) 23 [.ro x 1 (byteRows (t :: a :: b :: c :: r))] = some (getR (t :: a :: b :: c :: r), []) := by
  rw [e23]
  have eH : byteRows (t :: a :: b :: c :: r) = [AV.int .u8 t.toNat] :: [AV.int .u8 a.toNat] :: [AV.int .u8 b.toNat] :: [AV.int .u8 c.toNat] :: byteRows r := rfl
  rw [eH, getR]
  have hlen := byteRows_len r
  have tb := toBytes_rows (r.take (a.toNat * 65536 + b.toNat * 256 + c.toNat))
  rw [← byteRows_take] at tb
  have ht := t.toNat_lt
  have ha := a.toNat_lt
  have hb := b.toNat_lt
  have hc := c.toNat_lt
  generalize t.toNat = t at *
  generalize a.toNat = a at *
  generalize b.toNat = b at *
  generalize c.toNat = c at *
  simp only [show (2 : Nat) ^ 8 = 256 from rfl] at ht ha hb hc
  generalize byteRows r = R at *
  have c1 : ¬ (R.length : Int) + 1 + 1 + 1 + 1 < 4 := by omega
  obtain ⟨o1, o2⟩ := or3 a b c ha hb hc
  have w0 : IntKind.i64.wrap (t : Int) = (t : Int) := wrap_i64 _ (by omega) (by omega)
  have w1 : IntKind.i64.wrap (a : Int) = (a : Int) := wrap_i64 _ (by omega) (by omega)
  have w2 : IntKind.i64.wrap (b : Int) = (b : Int) := wrap_i64 _ (by omega) (by omega)
  have w3 : IntKind.i64.wrap (c : Int) = (c : Int) := wrap_i64 _ (by omega) (by omega)
  have w4 : IntKind.i64.wrap ((a : Int) * 65536) = (a : Int) * 65536 := wrap_i64 _ (by omega) (by omega)
  have w5 : IntKind.i64.wrap ((b : Int) * 256) = (b : Int) * 256 := wrap_i64 _ (by omega) (by omega)
  obtain ⟨N, hN⟩ : ∃ N, N = a * 65536 + b * 256 + c := ⟨_, rfl⟩
  have eN : ((a : Int) * 65536 + (b : Int) * 256 + c) = (N : Int) := by omega
  rw [eN] at o2
  rw [← hN] at tb ⊢
  have w7 : IntKind.i64.wrap ((R.length : Int) + 1 + 1 + 1 + 1 - 4) = (R.length : Int) := by rw [wrap_i64 _ (by omega) (by omega)]; omega
  by_cases h0 : t = 0
  · subst h0
    simp -implicitDefEqProofs [a23, c23, z38, c1, o1, o2, w1, w2, w3, w4, w5]
  have h0' : ((t : Int) == 0) = false := by rw [beq_eq_false_iff_ne]; omega
  by_cases h2 : 65536 < N
  · have h2' : (65536 : Int) < (N : Int) := by omega
    simp -implicitDefEqProofs [a23, c23, z38, c1, o1, o2, w1, w2, w3, w4, w5, h0, h0', h2, h2']
  have h2' : ¬ (65536 : Int) < (N : Int) := by omega
  by_cases h3 : r.length < N
  · have h3' : (R.length : Int) < (N : Int) := by omega
    simp -implicitDefEqProofs [a23, c23, z38, c1, o1, o2, w1, w2, w3, w4, w5, w7, h0, h0', h2, h2', h3, h3']
  have h3' : ¬ (R.length : Int) < (N : Int) := by omega
  have w6 : IntKind.i64.wrap (4 + (N : Int)) = 4 + (N : Int) := wrap_i64 _ (by omega) (by omega)
  have c4 : 0 ≤ 4 + (N : Int) := by omega
  have c5 : 4 + (N : Int) ≤ (R.length : Int) + 1 + 1 + 1 + 1 := by omega
  have c6 : (4 + (N : Int)).toNat = 4 + N := by omega
  have c7 : (4 : Int) ≤ 4 + (N : Int) := by omega
  have sl : List.drop 4 (List.take (4 + N) ([AV.int .u8 t] :: [AV.int .u8 a] :: [AV.int .u8 b] :: [AV.int .u8 c] :: R)) = R.take N := by
    rw [show 4 + N = N + 1 + 1 + 1 + 1 by omega]
    simp only [List.take_succ_cons, List.drop_succ_cons, List.drop_zero]
  simp -implicitDefEqProofs [a23, c23, z38, c1, o1, o2, w0, w1, w2, w3, w4, w5, w6, w7, h0, h0', h2, h2', h3, h3', c4, c5, c6, c7, sl, tb]

theorem long24 (m : Nat) (x : Bool) (t a b c : UInt8) (r : List UInt8) (hr : r.length ≤ 1000000) : E (m + 1) 24 [.ro x 1 (byteRows (t :: a :: b :: c :: r))] = some (getR (t :: a :: b :: c :: r), []) := by
  rw [e24]
  have eH : byteRows (t :: a :: b :: c :: r) = [AV.int .u8 t.toNat] :: [AV.int .u8 a.toNat] :: [AV.int .u8 b.toNat] :: [AV.int .u8 c.toNat] :: byteRows r := rfl
  rw [eH, getR]
  have hlen := byteRows_len r
  have tb := toBytes_rows (r.take (a.toNat * 65536 + b.toNat * 256 + c.toNat))
  rw [← byteRows_take] at tb
  have ht := t.toNat_lt
  have ha := a.toNat_lt
  have hb := b.toNat_lt
  have hc := c.toNat_lt
  generalize t.toNat = t at *
  generalize a.toNat = a at *
  generalize b.toNat = b at *
  generalize c.toNat = c at *
  simp only [show (2 : Nat) ^ 8 = 256 from rfl] at ht ha hb hc
  generalize byteRows r = R at *
  have c1 : ¬ (R.length : Int) + 1 + 1 + 1 + 1 < 4 := by omega
  have w0 : IntKind.i64.wrap (t : Int) = (t : Int) := wrap_i64 _ (by omega) (by omega)
  have w1 : IntKind.i64.wrap (a : Int) = (a : Int) := wrap_i64 _ (by omega) (by omega)
  have w2 : IntKind.i64.wrap (b : Int) = (b : Int) := wrap_i64 _ (by omega) (by omega)
  have w3 : IntKind.i64.wrap (c : Int) = (c : Int) := wrap_i64 _ (by omega) (by omega)
  have w4 : IntKind.i64.wrap (65536 * (a : Int)) = (a : Int) * 65536 := by rw [wrap_i64 _ (by omega) (by omega)]; omega
  have w5 : IntKind.i64.wrap (256 * (b : Int)) = (b : Int) * 256 := by rw [wrap_i64 _ (by omega) (by omega)]; omega
  have w8 : IntKind.i64.wrap ((a : Int) * 65536 + (b : Int) * 256) = (a : Int) * 65536 + (b : Int) * 256 := wrap_i64 _ (by omega) (by omega)
  obtain ⟨N, hN⟩ : ∃ N, N = a * 65536 + b * 256 + c := ⟨_, rfl⟩
  have eN : ((a : Int) * 65536 + (b : Int) * 256 + c) = (N : Int) := by omega
  have w9 : IntKind.i64.wrap ((a : Int) * 65536 + (b : Int) * 256 + c) = (N : Int) := by rw [wrap_i64 _ (by omega) (by omega)]; omega
  rw [← hN] at tb ⊢
  have w7 : IntKind.i64.wrap ((R.length : Int) + 1 + 1 + 1 + 1 - 4) = (R.length : Int) := by rw [wrap_i64 _ (by omega) (by omega)]; omega
  by_cases h0 : t = 0
  · subst h0
    simp -implicitDefEqProofs [a24, c24, z38, c1, w1, w2, w3, w4, w5, w8, w9]
  have h0' : ((t : Int) == 0) = false := by rw [beq_eq_false_iff_ne]; omega
  by_cases h2 : 65536 < N
  · have h2' : (65536 : Int) < (N : Int) := by omega
    simp -implicitDefEqProofs [a24, c24, z38, c1, w1, w2, w3, w4, w5, w8, w9, h0, h0', h2, h2']
  have h2' : ¬ (65536 : Int) < (N : Int) := by omega
  by_cases h3 : r.length < N
  · have h3' : (R.length : Int) < (N : Int) := by omega
    simp -implicitDefEqProofs [a24, c24, z38, c1, w1, w2, w3, w4, w5, w7, w8, w9, h0, h0', h2, h2', h3, h3']
  have h3' : ¬ (R.length : Int) < (N : Int) := by omega
  have w6 : IntKind.i64.wrap (4 + (N : Int)) = 4 + (N : Int) := wrap_i64 _ (by omega) (by omega)
  have c4 : 0 ≤ 4 + (N : Int) := by omega
  have c5 : 4 + (N : Int) ≤ (R.length : Int) + 1 + 1 + 1 + 1 := by omega
  have c6 : (4 + (N : Int)).toNat = 4 + N := by omega
  have c7 : (4 : Int) ≤ 4 + (N : Int) := by omega
  have sl : List.drop 4 (List.take (4 + N) ([AV.int .u8 t] :: [AV.int .u8 a] :: [AV.int .u8 b] :: [AV.int .u8 c] :: R)) = R.take N := by
    rw [show 4 + N = N + 1 + 1 + 1 + 1 by omega]
    simp only [List.take_succ_cons, List.drop_succ_cons, List.drop_zero]
  simp -implicitDefEqProofs [a24, c24, z38, c1, w0, w1, w2, w3, w4, w5, w6, w7, w8, w9, h0, h0', h2, h2', h3, h3', c4, c5, c6, c7, sl, tb]

theorem get23 (m : Nat) (x : Bool) (l : List UInt8) (hl : l.length ≤ 1000000) : E (m + 1) 23 [.ro x 1 (byteRows l)] = some (getR l, []) := by
  rcases l with _ | ⟨a, _ | ⟨b, _ | ⟨c, _ | ⟨d, r⟩⟩⟩⟩
  · exact short23 m x _ (by simp)
  · exact short23 m x _ (by simp)
  · exact short23 m x _ (by simp)
  · exact short23 m x _ (by simp)
  · exact long23 m x a b c d r (by simp at hl; omega)
theorem get24 (m : Nat) (x : Bool) (l : List UInt8) (hl : l.length ≤ 1000000) : E (m + 1) 24 [.ro x 1 (byteRows l)] = some (getR l, []) := by
  rcases l with _ | ⟨a, _ | ⟨b, _ | ⟨c, _ | ⟨d, r⟩⟩⟩⟩
  · exact short24 m x _ (by simp)
  · exact short24 m x _ (by simp)
  · exact short24 m x _ (by simp)
  · exact short24 m x _ (by simp)
  · exact long24 m x a b c d r (by simp at hl; omega)
theorem nil24 (m : Nat) : E (m + 1) 24 [.nilS] = some (getR [], []) := by
  rw [e24]
  simp -implicitDefEqProofs [a24, c24, z38, getR]
end Go.Abs.Try

namespace Go.Abs.Try
open Go Go.Abs
set_option maxHeartbeats 16000000
set_option maxRecDepth 100000
set_option linter.unusedSimpArgs false
set_option linter.unusedVariables false

theorem ok_rows : ∀ (rows : List (List AV)), (∀ r, r ∈ rows → okRow [.int .u8] r) → ∃ mm : List UInt8, rows = byteRows mm
  | [], _ => ⟨[], rfl⟩
  | r :: rs, h => by
    obtain ⟨n, vs, rfl, hw, h2⟩ := (h r List.mem_cons_self).int
    obtain rfl := h2.nil_inv
    obtain ⟨mm, rfl⟩ := ok_rows rs (fun x hx => h x (List.mem_cons_of_mem _ hx))
    simp only [Lit.wf, Bool.and_eq_true, decide_eq_true_eq] at hw
    have e1 : IntKind.min .u8 = 0 := rfl
    have e2 : IntKind.max .u8 = 255 := rfl
    refine ⟨UInt8.ofNat n.toNat :: mm, ?_⟩
    simp only [byteRows, List.map_cons]
    congr 2
    simp
    omega

/-- an argument of bytes -/
theorem ok_bytes {v : AV} (o : okRow [.sl [.int .u8]] [v]) : ∃ l, Is l v := by
  obtain ⟨v', _, e, hv, _⟩ := o.sl
  obtain ⟨rfl, _⟩ : v = v' ∧ _ := by simpa using e
  rcases hv with rfl | ⟨rows, rfl, _, hr⟩
  · exact ⟨[], .inl ⟨rfl, rfl⟩⟩
  · obtain ⟨mm, rfl⟩ := ok_rows rows hr
    exact ⟨mm, .inr rfl⟩

theorem getR_form (l : List UInt8) : ∃ a s k j, getR l = .tup [.agg [.int .i64 a, .str s], .int .i64 k, .int .i64 j] := by
  rcases l with _ | ⟨t, _ | ⟨a, _ | ⟨b, _ | ⟨c, r⟩⟩⟩⟩
  · exact ⟨_, _, _, _, rfl⟩
  · exact ⟨_, _, _, _, rfl⟩
  · exact ⟨_, _, _, _, rfl⟩
  · exact ⟨_, _, _, _, rfl⟩
  · rw [getR]
    split
    · exact ⟨_, _, _, _, rfl⟩
    · split <;> exact ⟨_, _, _, _, rfl⟩

theorem law7 (x0 : AV) (o0 : okRow [.sl [.int .u8]] [x0]) : E 7 7 [x0] = some (.bool true, []) := by
  obtain ⟨l, hv⟩ := ok_bytes o0
  have hb := byteRows_len l
  rw [e7]
  by_cases hk : 262144 < (l.length : Int)
  · rcases hv with ⟨rfl, rfl⟩ | rfl
    · simp at hk
    · simp -implicitDefEqProofs [a7, c7, hk, hb]
  obtain ⟨N, g, c, hN, e⟩ := lent18 5 l x0 hv (by omega)
  have hg := get23 5 true l (by omega)
  obtain ⟨a, s, k, j, er⟩ := getR_form l
  have hg2 : E 6 24 [x0] = some (getR l, []) := by
    rcases hv with ⟨rfl, rfl⟩ | rfl
    · exact nil24 5
    · exact get24 5 false l (by omega)
  rw [er] at hg hg2
  have hkp := kept22 5 N g l x0 hv (by omega)
  have htk : (byteRows l ++ List.replicate 7 mk).take l.length = byteRows l := by rw [List.take_append_of_le_length (by omega), List.take_of_length_le (by omega)]
  have hR : l.length ≤ (byteRows l ++ List.replicate 7 mk).length := by rw [List.length_append]; omega
  have hl0 : l.length ≤ 500000 := by omega
  generalize byteRows l ++ List.replicate 7 mk = R at *
  rcases hv with ⟨rfl, rfl⟩ | rfl
  · simp [byteRows] at hg htk hkp e
    rcases hN with rfl | rfl
    · simp -implicitDefEqProofs [a7, c7, q18, q22, q21, q23, q24, z38, e, hg, hg2, hkp, htk, fields_ok]
    · simp -implicitDefEqProofs [a7, c7, q18, q22, q21, q23, q24, z38, e, hg, hg2, hkp, htk, fields_ok]
  · rcases hN with rfl | rfl
    · simp -implicitDefEqProofs [a7, c7, q18, q22, q21, q23, q24, z38, hb, hk, hR, e, hg, hg2, hkp, htk, fields_ok]
    · simp -implicitDefEqProofs [a7, c7, q18, q22, q21, q23, q24, z38, hb, hk, hR, e, hg, hg2, hkp, htk, fields_ok]
theorem ref7 : Refines Go.Proofs.Try.prog 7 (E 7 7) := ref 7 7 (q7 6)
end Go.Abs.Try

namespace Go.Abs.Try
open Go Go.Abs
set_option maxHeartbeats 16000000
set_option maxRecDepth 100000
set_option linter.unusedSimpArgs false
set_option linter.unusedVariables false

theorem may32 (n : Nat) (tag last : Int) (d : ByteArray) : E (n + 1) 32 [.agg [.int .i64 tag, .str d], .int .i64 last] =
    some (.int .i64 (if 255 < tag ∨ tag ≤ last then 1 else if 65536 < (d.size : Int) then 2 else 0), []) := by
  rw [e32]
  by_cases h1 : 255 < tag
  · simp -implicitDefEqProofs [a32, c32, h1]
  by_cases h2 : tag ≤ last
  · simp -implicitDefEqProofs [a32, c32, h1, h2]
  by_cases h3 : 65536 < (d.size : Int)
  · simp -implicitDefEqProofs [a32, c32, h1, h2, h3]
  · simp -implicitDefEqProofs [a32, c32, h1, h2, h3]
theorem may34 (n : Nat) (tag : Int) (d : ByteArray) : E (n + 1) 34 [.int .i64 tag, .str d] =
    some (.int .i64 (if 255 < tag ∨ tag ≤ 0 then 1 else if 65536 < (d.size : Int) then 2 else 0), []) := by
  rw [e34]
  by_cases h2 : tag ≤ 0
  · have h2' : tag < 1 := by omega
    simp -implicitDefEqProofs [a34, c34, h2, h2']
  have h2' : ¬ tag < 1 := by omega
  by_cases h1 : 255 < tag
  · simp -implicitDefEqProofs [a34, c34, h1, h2']
  by_cases h3 : 65536 < (d.size : Int)
  · simp -implicitDefEqProofs [a34, c34, h1, h2, h2', h3]
  · simp -implicitDefEqProofs [a34, c34, h1, h2, h2', h3]

def hdr (tag n : Nat) : List UInt8 := [UInt8.ofNat tag, UInt8.ofNat (n / 65536), UInt8.ofNat (n / 256), UInt8.ofNat n]

theorem eH (t : Nat) (d : List UInt8) (ht : t < 256) (hd : d.length ≤ 65536) : byteRows (hdr t d.length ++ d) = [AV.int .u8 t] :: [AV.int .u8 ((d.length : Int) / 65536)] :: [AV.int .u8 ((d.length : Int) / 256 % 256)] :: [AV.int .u8 ((d.length : Int) % 256)] :: byteRows d := by
  simp [byteRows, hdr]
  omega

theorem bytes35 (m : Nat) (t : Nat) (d : List UInt8) (ht : t < 256) (hd : d.length ≤ 65536) : E (m + 1) 35 [.int .i64 t, .str ⟨d.toArray⟩] =
    some (.fr 1 (byteRows (hdr t d.length ++ d)), []) := by
  rw [e35, eH t d ht hd]
  have w0 : IntKind.u8.wrap (t : Int) = (t : Int) := by rw [wrap_u8]; omega
  have w1 : IntKind.u8.wrap ((d.length : Int) / 65536) = (d.length : Int) / 65536 := by rw [wrap_u8]; omega
  have w2 : IntKind.u8.wrap ((d.length : Int) / 256) = (d.length : Int) / 256 % 256 := by rw [wrap_u8]
  have w3 : IntKind.u8.wrap (d.length : Int) = (d.length : Int) % 256 := by rw [wrap_u8]
  have d1 : (d.length : Int).tdiv 65536 = (d.length : Int) / 65536 := Int.tdiv_eq_ediv_of_nonneg (by omega)
  have d2 : (d.length : Int).tdiv 256 = (d.length : Int) / 256 := Int.tdiv_eq_ediv_of_nonneg (by omega)
  have v1 : IntKind.i64.wrap ((d.length : Int) / 65536) = (d.length : Int) / 65536 := wrap_i64 _ (by omega) (by omega)
  have v2 : IntKind.i64.wrap ((d.length : Int) / 256) = (d.length : Int) / 256 := wrap_i64 _ (by omega) (by omega)
  have q1 : d.length ≤ 17592186044412 := by omega
  by_cases h0 : d = []
  · subst h0
    have w4 : IntKind.i64.wrap 0 = 0 := wrap_i64 _ (by omega) (by omega)
    have w5 : IntKind.u8.wrap 0 = 0 := by rw [wrap_u8]; rfl
    simp -implicitDefEqProofs [a35, c35, z38, aappend, maxBytes, byteRows, w0, w4, w5]
  · have q2 : 0 < d.length := List.length_pos_iff.2 h0
    have q3 : ¬ 4 + d.length ≤ 4 := by omega
    have q4 : 4 + d.length ≤ 17592186044416 := by omega
    have q5 := byteRows_len d
    simp -implicitDefEqProofs [a35, c35, z38, aappend, maxBytes, w0, w1, w2, w3, d1, d2, v1, v2, q1, q2, q3, q4, q5, h0]
    try exact ⟨by omega, List.take_of_length_le (by simp [q5]; omega)⟩

theorem put33 (m : Nat) (t : Nat) (d : List UInt8) (ht : t < 256) (hd : d.length ≤ 65536) (R : List (List AV)) (hR : R.length ≤ 1000000) : E (m + 1) 33 [.fr 1 R, .agg [.int .i64 t, .str ⟨d.toArray⟩]] =
    some (.fr 1 (R ++ byteRows (hdr t d.length ++ d)), []) := by
  rw [e33]
  have s1 : ((d.length : Int)).fdiv 65536 = ((d.length / 65536 : Nat) : Int) := by rw [Int.fdiv_eq_ediv_of_nonneg] <;> omega
  have s2 : ((d.length : Int)).fdiv 256 = ((d.length / 256 : Nat) : Int) := by rw [Int.fdiv_eq_ediv_of_nonneg] <;> omega
  have w0 : IntKind.u8.wrap (t : Int) = (t : Int) := by rw [wrap_u8]; omega
  have w1 : IntKind.u8.wrap ((d.length : Int) / 65536) = (d.length : Int) / 65536 := by rw [wrap_u8]; omega
  have w2 : IntKind.u8.wrap ((d.length : Int) / 256) = (d.length : Int) / 256 % 256 := by rw [wrap_u8]
  have w3 : IntKind.u8.wrap (d.length : Int) = (d.length : Int) % 256 := by rw [wrap_u8]
  have q1 : d.length ≤ 17592186044412 := by omega
  have q6 : ¬ R.length + 4 ≤ R.length := by omega
  have q7 : R.length ≤ 17592186044412 := by omega
  have q8 : R.take R.length = R := List.take_of_length_le (Nat.le_refl _)
  rw [eH t d ht hd]
  by_cases h0 : d = []
  · subst h0
    simp -implicitDefEqProofs [a33, c33, z38, aappend, maxBytes, byteRows, w0, w1, w2, w3, s1, s2, q6, q7, q8, show IntKind.u8.wrap 0 = 0 by rw [wrap_u8]; rfl]
    exact List.take_of_length_le (by simp)
  · have q2 : 0 < d.length := List.length_pos_iff.2 h0
    have q3 : ¬ R.length + 4 + d.length ≤ R.length + 4 := by omega
    have q4 : R.length + 4 + d.length ≤ 17592186044416 := by omega
    have q5 := byteRows_len d
    simp -implicitDefEqProofs [a33, c33, z38, aappend, maxBytes, w0, w1, w2, w3, s1, s2, q1, q2, q3, q4, q5, q6, q7, q8, h0]
    rw [List.take_of_length_le (l := R ++ _) (by simp), List.take_of_length_le (by simp [q5]; omega)]
    simp

/-- what Put tells, behind some bytes -/
def putR (l : List UInt8) (tag : Int) (d : List UInt8) : AV :=
  if 255 < tag ∨ tag ≤ 0 then .tup [.nilS, .int .i64 1] else if 65536 < (d.length : Int) then .tup [.nilS, .int .i64 2]
  else .tup [.fr 1 (byteRows l ++ byteRows (hdr tag.toNat d.length ++ d)), .int .i64 0]

theorem put19 (m : Nat) (l : List UInt8) (hl : l.length ≤ 500000) (tag : Int) (d : List UInt8) : E (m + 2) 19 [.ro true 1 (byteRows l), .int .i64 tag, .str ⟨d.toArray⟩] = some (putR l tag d, []) := by
  rw [e19]
  have h := may32 m tag 0 ⟨d.toArray⟩
  by_cases h1 : 255 < tag ∨ tag ≤ 0
  · rw [if_pos h1] at h
    simp -implicitDefEqProofs [a19, c19, z38, q32, h, putR, h1]
  rw [if_neg h1] at h
  have hsz : ((⟨d.toArray⟩ : ByteArray).size : Int) = d.length := by simp [ByteArray.size]
  rw [hsz] at h
  by_cases h2 : 65536 < (d.length : Int)
  · rw [if_pos h2] at h
    simp -implicitDefEqProofs [a19, c19, z38, q32, h, putR, h1, h2]
  rw [if_neg h2] at h
  have hb := byteRows_len l
  have g := put33 m tag.toNat d (by omega) (by omega) (byteRows l) (by omega)
  have e1 : ((tag.toNat : Nat) : Int) = tag := by omega
  rw [e1] at g
  have w0 : IntKind.i64.wrap ((l.length : Int) + 4) = (l.length : Int) + 4 := wrap_i64 _ (by omega) (by omega)
  have w1 : IntKind.i64.wrap ((l.length : Int) + 4 + (d.length : Int)) = (l.length : Int) + 4 + (d.length : Int) := wrap_i64 _ (by omega) (by omega)
  have p1 : 0 ≤ (l.length : Int) + 4 + (d.length : Int) := by omega
  have p2 : ((l.length : Int) + 4 + (d.length : Int)).toNat = l.length + 4 + d.length := by omega
  have p3 : l.length + 4 + d.length ≤ 17592186044416 := by omega
  have p4 : l.length ≤ l.length + 4 + d.length := by omega
  have p5 : l.length ≤ 17592186044416 := by omega
  simp -implicitDefEqProofs [a19, c19, z38, q32, q33, h, g, putR, hb, h1, h2, w0, w1, p1, p2, p3, p4, p5, aappend, maxBytes]
  exact List.take_of_length_le (by rw [List.length_append, hb]; omega)

/-- the document's -/
def putB (tag : Int) (d : List UInt8) : AV :=
  if 255 < tag ∨ tag ≤ 0 then .tup [.nilS, .int .i64 1] else if 65536 < (d.length : Int) then .tup [.nilS, .int .i64 2]
  else .tup [.fr 1 (byteRows (hdr tag.toNat d.length ++ d)), .int .i64 0]
theorem put20 (m : Nat) (tag : Int) (d : List UInt8) : E (m + 2) 20 [.int .i64 tag, .str ⟨d.toArray⟩] = some (putB tag d, []) := by
  rw [e20]
  have h := may34 m tag ⟨d.toArray⟩
  by_cases h1 : 255 < tag ∨ tag ≤ 0
  · rw [if_pos h1] at h
    simp -implicitDefEqProofs [a20, c20, z38, q34, h, putB, h1]
  rw [if_neg h1] at h
  have hsz : ((⟨d.toArray⟩ : ByteArray).size : Int) = d.length := by simp [ByteArray.size]
  rw [hsz] at h
  by_cases h2 : 65536 < (d.length : Int)
  · rw [if_pos h2] at h
    simp -implicitDefEqProofs [a20, c20, z38, q34, h, putB, h1, h2]
  rw [if_neg h2] at h
  have g := bytes35 m tag.toNat d (by omega) (by omega)
  have e1 : ((tag.toNat : Nat) : Int) = tag := by omega
  rw [e1] at g
  simp -implicitDefEqProofs [a20, c20, z38, q34, q35, h, g, putB, h1, h2]
end Go.Abs.Try

namespace Go.Abs.Try
open Go Go.Abs
set_option maxHeartbeats 16000000
set_option maxRecDepth 100000
set_option linter.unusedSimpArgs false
set_option linter.unusedVariables false

@[simp] theorem toBytes_nil : toBytes [] = some [] := rfl

theorem law6 (x0 x1 x2 : AV) (o0 : okRow [.sl [.int .u8]] [x0]) (o1 : okRow [.int .i64] [x1]) (o2 : okRow [.str] [x2]) : E 7 6 [x0, x1, x2] = some (.bool true, []) := by
  obtain ⟨tag, _, e, _, _⟩ := o1.int
  obtain ⟨rfl, _⟩ : x1 = .int .i64 tag ∧ _ := by simpa using e
  obtain ⟨s, _, e, _, _⟩ := o2.str
  obtain ⟨rfl, _⟩ : x2 = .str s ∧ _ := by simpa using e
  obtain ⟨d, rfl⟩ := mkBytes s
  obtain ⟨l, hv⟩ := ok_bytes o0
  have hb := byteRows_len l
  have ht := toBytes_rows l
  rw [e6]
  by_cases hk : 262144 < (l.length : Int)
  · rcases hv with ⟨rfl, rfl⟩ | rfl
    · simp at hk
    · simp -implicitDefEqProofs [a6, c6, hk, hb]
  by_cases hd : 262144 < (d.length : Int)
  · rcases hv with ⟨rfl, rfl⟩ | rfl
    · simp -implicitDefEqProofs [a6, c6, hd]
    · simp -implicitDefEqProofs [a6, c6, hk, hb, hd]
  obtain ⟨N, g, c, hN, e⟩ := lent18 5 l x0 hv (by omega)
  have hp := put19 4 l (by omega) tag d
  have hq := put20 4 tag d
  have hkp := kept22 5 N g l x0 hv (by omega)
  have htk : (byteRows l ++ List.replicate 7 mk).take l.length = byteRows l := by rw [List.take_append_of_le_length (by omega), List.take_of_length_le (by omega)]
  have hR : l.length ≤ (byteRows l ++ List.replicate 7 mk).length := by rw [List.length_append]; omega
  have hl0 : l.length ≤ 500000 := by omega
  generalize byteRows l ++ List.replicate 7 mk = R at *
  by_cases h1 : 255 < tag ∨ tag ≤ 0
  · rw [putR, if_pos h1] at hp
    rw [putB, if_pos h1] at hq
    rcases hv with ⟨rfl, rfl⟩ | rfl
    · simp [byteRows] at hp htk hkp e
      rcases hN with rfl | rfl
      · simp -implicitDefEqProofs [a6, c6, q18, q22, q21, q19, q20, z38, hd, e, hp, hq, hkp, htk, fields_ok]
      · simp -implicitDefEqProofs [a6, c6, q18, q22, q21, q19, q20, z38, hd, e, hp, hq, hkp, htk, fields_ok]
    · rcases hN with rfl | rfl
      · simp -implicitDefEqProofs [a6, c6, q18, q22, q21, q19, q20, z38, hb, hk, hd, hR, e, hp, hq, hkp, htk, fields_ok]
      · simp -implicitDefEqProofs [a6, c6, q18, q22, q21, q19, q20, z38, hb, hk, hd, hR, e, hp, hq, hkp, htk, fields_ok]
  by_cases h2 : 65536 < (d.length : Int)
  · rw [putR, if_neg h1, if_pos h2] at hp
    rw [putB, if_neg h1, if_pos h2] at hq
    rcases hv with ⟨rfl, rfl⟩ | rfl
    · simp [byteRows] at hp htk hkp e
      rcases hN with rfl | rfl
      · simp -implicitDefEqProofs [a6, c6, q18, q22, q21, q19, q20, z38, hd, e, hp, hq, hkp, htk, fields_ok]
      · simp -implicitDefEqProofs [a6, c6, q18, q22, q21, q19, q20, z38, hd, e, hp, hq, hkp, htk, fields_ok]
    · rcases hN with rfl | rfl
      · simp -implicitDefEqProofs [a6, c6, q18, q22, q21, q19, q20, z38, hb, hk, hd, hR, e, hp, hq, hkp, htk, fields_ok]
      · simp -implicitDefEqProofs [a6, c6, q18, q22, q21, q19, q20, z38, hb, hk, hd, hR, e, hp, hq, hkp, htk, fields_ok]
  rw [putR, if_neg h1, if_neg h2] at hp
  rw [putB, if_neg h1, if_neg h2] at hq
  have t1 := toBytes_rows (hdr tag.toNat d.length ++ d)
  have t2 := toBytes_rows (l ++ (hdr tag.toNat d.length ++ d))
  have hL := byteRows_len (hdr tag.toNat d.length ++ d)
  have hl2 : (hdr tag.toNat d.length ++ d).length = 4 + d.length := by simp [hdr]; omega
  rw [hl2] at hL
  rw [byteRows_append] at t2
  generalize hdr tag.toNat d.length ++ d = G at *
  have hadd := astr_add_bytes l G (by omega)
  have hm : (byteRows l ++ byteRows G).length = l.length + (4 + d.length) := by rw [List.length_append, hb, hL]
  have p1 : (byteRows G).take (4 + d.length) = byteRows G := List.take_of_length_le (by omega)
  have p2 : (byteRows l ++ byteRows G).take (l.length + (4 + d.length)) = byteRows l ++ byteRows G := List.take_of_length_le (by omega)
  rcases hv with ⟨rfl, rfl⟩ | rfl
  · simp [byteRows] at hp htk hkp e t2
    simp [byteRows] at hq t1 hL p1
    simp at hadd
    rcases hN with rfl | rfl
    · simp -implicitDefEqProofs [a6, c6, q18, q22, q21, q19, q20, z38, hd, e, hp, hq, hkp, htk, fields_ok, hL, t1, t2, p1, p2, hadd]
    · simp -implicitDefEqProofs [a6, c6, q18, q22, q21, q19, q20, z38, hd, e, hp, hq, hkp, htk, fields_ok, hL, t1, t2, p1, p2, hadd]
  · rcases hN with rfl | rfl
    · simp -implicitDefEqProofs [a6, c6, q18, q22, q21, q19, q20, z38, hb, hk, hd, hR, e, hp, hq, hkp, htk, ht, fields_ok, hL, hm, t1, t2, p1, p2, hadd]
    · simp -implicitDefEqProofs [a6, c6, q18, q22, q21, q19, q20, z38, hb, hk, hd, hR, e, hp, hq, hkp, htk, ht, fields_ok, hL, hm, t1, t2, p1, p2, hadd]
theorem ref6 : Refines Go.Proofs.Try.prog 6 (E 7 6) := ref 7 6 (q6 6)
end Go.Abs.Try
