/- Part 1 of Num: what our evaluation of a function's code says, the machine's run does; no condition of its own. -/
import Derived.Test.YtilfmhcbfchigaaAbsB
import Derived.Test.YtilfmhcbfchigaaProg
set_option linter.unusedVariables false
set_option linter.unusedSimpArgs false
set_option linter.unusedSectionVars false
namespace Go.Abs.Try
open Go Go.Abs
def z50 : List AV := List.replicate 8 (.int .u8 0)

/-- estreat/estreatlaw01.PackNumbers: parameters int string -/
def c3 : AC :=
  (.seq (.reg false [
    { dst := some 4, op := .mov (.c (.bool false)) }])
  ((.seq ((.seq (.reg false [
    { dst := some 13, op := .mov (.t 1) },
    { dst := some 14, op := .lenS (.t 13) },
    { dst := some 15, op := .bin .gtr (.t 14) (.c (.int .i64 262144)) }])
  (.cond (.t 15) ((.seq (.reg false [
    { dst := some 4, op := .mov (.c (.bool true)) }])
  (.ret))) (.skip))))
  ((.seq (.reg false [
    { dst := some 17, op := .mov (.t 0) },
    { dst := some 18, op := .call 19000 13 [(.t 17)] },
    { dst := some 16, op := .mov (.t 18) },
    { dst := some 19, op := .ext 0 (.t 16) },
    { dst := some 20, op := .ext 1 (.t 16) },
    { dst := some 5, op := .mov (.t 19) },
    { dst := some 6, op := .mov (.t 20) }])
  ((.seq (.reg false [
    { dst := some 22, op := .mov (.t 0) },
    { dst := some 23, op := .call 24000 14 [(.t 22)] },
    { dst := some 21, op := .mov (.t 23) },
    { dst := some 24, op := .ext 0 (.t 21) },
    { dst := some 25, op := .ext 1 (.t 21) },
    { dst := some 7, op := .mov (.t 24) },
    { dst := some 8, op := .mov (.t 25) }])
  ((.seq (.reg false [
    { dst := some 27, op := .mov (.t 1) },
    { dst := some 28, op := .call 29000 15 [(.t 27)] },
    { dst := some 26, op := .mov (.t 28) },
    { dst := some 29, op := .ext 0 (.t 26) },
    { dst := some 30, op := .ext 1 (.t 26) },
    { dst := some 9, op := .mov (.t 29) },
    { dst := some 10, op := .mov (.t 30) }])
  ((.seq (.reg false [
    { dst := some 32, op := .mov (.t 1) },
    { dst := some 33, op := .call 34000 16 [(.t 32)] },
    { dst := some 31, op := .mov (.t 33) },
    { dst := some 34, op := .ext 0 (.t 31) },
    { dst := some 35, op := .ext 1 (.t 31) },
    { dst := some 11, op := .mov (.t 34) },
    { dst := some 12, op := .mov (.t 35) }])
  ((.seq (.reg false [
    { dst := some 36, op := .call 37000 17 [] },
    { dst := some 37, op := .mov (.t 36) },
    { dst := some 38, op := .mov (.t 5), guard := some (37, true) },
    { dst := some 39, op := .mov (.t 7), guard := some (37, true) },
    { dst := some 40, op := .bin .eql (.t 38) (.t 39), guard := some (37, true) },
    { dst := some 41, op := .pick (.t 37) (.t 40) (.c (.bool false)) },
    { dst := some 42, op := .mov (.t 41) },
    { dst := some 43, op := .mov (.t 6), guard := some (42, true) },
    { dst := some 44, op := .mov (.t 8), guard := some (42, true) },
    { dst := some 45, op := .bin .eql (.t 43) (.t 44), guard := some (42, true) },
    { dst := some 46, op := .pick (.t 42) (.t 45) (.c (.bool false)) },
    { dst := some 47, op := .mov (.t 46) },
    { dst := some 48, op := .mov (.t 9), guard := some (47, true) },
    { dst := some 49, op := .mov (.t 11), guard := some (47, true) },
    { dst := some 50, op := .bin .eql (.t 48) (.t 49), guard := some (47, true) },
    { dst := some 51, op := .pick (.t 47) (.t 50) (.c (.bool false)) },
    { dst := some 52, op := .mov (.t 51) },
    { dst := some 53, op := .mov (.t 10), guard := some (52, true) },
    { dst := some 54, op := .mov (.t 12), guard := some (52, true) },
    { dst := some 55, op := .bin .eql (.t 53) (.t 54), guard := some (52, true) },
    { dst := some 56, op := .pick (.t 52) (.t 55) (.c (.bool false)) },
    { dst := some 4, op := .mov (.t 56) }])
  (.ret))))))))))))))
/-- with its results -/
def a3 : AFun := ⟨c3, [(4, none)], 57⟩

/-- estreat/estreatlaw01.PackValues: parameters int string -/
def c4 : AC :=
  (.seq (.reg false [
    { dst := some 4, op := .mov (.c (.bool false)) }])
  ((.seq ((.seq (.reg false [
    { dst := some 13, op := .mov (.t 1) },
    { dst := some 14, op := .lenS (.t 13) },
    { dst := some 15, op := .bin .gtr (.t 14) (.c (.int .i64 262144)) }])
  (.cond (.t 15) ((.seq (.reg false [
    { dst := some 4, op := .mov (.c (.bool true)) }])
  (.ret))) (.skip))))
  ((.seq (.reg false [
    { dst := some 17, op := .mov (.t 0) },
    { dst := some 18, op := .call 19000 13 [(.t 17)] },
    { dst := some 16, op := .mov (.t 18) },
    { dst := some 19, op := .ext 0 (.t 16) },
    { dst := some 20, op := .ext 1 (.t 16) },
    { dst := some 5, op := .mov (.t 19) },
    { dst := some 6, op := .mov (.t 20) }])
  ((.seq (.reg false [
    { dst := some 22, op := .mov (.t 5) },
    { dst := some 23, op := .call 24000 15 [(.t 22)] },
    { dst := some 21, op := .mov (.t 23) },
    { dst := some 24, op := .ext 0 (.t 21) },
    { dst := some 25, op := .ext 1 (.t 21) },
    { dst := some 7, op := .mov (.t 24) },
    { dst := some 8, op := .mov (.t 25) }])
  ((.seq ((.seq (.reg false [
    { dst := some 26, op := .mov (.t 6) },
    { dst := some 27, op := .bin .eql (.t 26) (.c (.int .i64 0)) },
    { dst := some 28, op := .mov (.t 27) },
    { dst := some 29, op := .mov (.t 8), guard := some (28, true) },
    { dst := some 30, op := .bin .neq (.t 29) (.c (.int .i64 0)), guard := some (28, true) },
    { dst := some 31, op := .mov (.t 30), guard := some (28, true) },
    { dst := some 32, op := .mov (.t 7), guard := some (31, false) },
    { dst := some 33, op := .mov (.t 0), guard := some (31, false) },
    { dst := some 34, op := .bin .neq (.t 32) (.t 33), guard := some (31, false) },
    { dst := some 35, op := .pick (.t 31) (.c (.bool true)) (.t 34), guard := some (28, true) },
    { dst := some 36, op := .pick (.t 28) (.t 35) (.c (.bool false)) }])
  (.cond (.t 36) ((.seq (.reg false [
    { dst := some 4, op := .mov (.c (.bool false)) }])
  (.ret))) (.skip))))
  ((.seq (.reg false [
    { dst := some 38, op := .mov (.t 1) },
    { dst := some 39, op := .call 40000 15 [(.t 38)] },
    { dst := some 37, op := .mov (.t 39) },
    { dst := some 40, op := .ext 0 (.t 37) },
    { dst := some 41, op := .ext 1 (.t 37) },
    { dst := some 9, op := .mov (.t 40) },
    { dst := some 10, op := .mov (.t 41) }])
  ((.seq ((.seq (.reg false [
    { dst := some 42, op := .mov (.t 10) },
    { dst := some 43, op := .bin .neq (.t 42) (.c (.int .i64 0)) }])
  (.cond (.t 43) ((.seq (.reg false [
    { dst := some 44, op := .call 45000 17 [] },
    { dst := some 4, op := .mov (.t 44) }])
  (.ret))) (.skip))))
  ((.seq (.reg false [
    { dst := some 46, op := .mov (.t 9) },
    { dst := some 47, op := .call 48000 13 [(.t 46)] },
    { dst := some 45, op := .mov (.t 47) },
    { dst := some 48, op := .ext 0 (.t 45) },
    { dst := some 49, op := .ext 1 (.t 45) },
    { dst := some 11, op := .mov (.t 48) },
    { dst := some 12, op := .mov (.t 49) }])
  ((.seq (.reg false [
    { dst := some 50, op := .call 51000 17 [] },
    { dst := some 51, op := .mov (.t 50) },
    { dst := some 52, op := .mov (.t 12), guard := some (51, true) },
    { dst := some 53, op := .bin .eql (.t 52) (.c (.int .i64 0)), guard := some (51, true) },
    { dst := some 54, op := .pick (.t 51) (.t 53) (.c (.bool false)) },
    { dst := some 55, op := .mov (.t 54) },
    { dst := some 56, op := .mov (.t 11), guard := some (55, true) },
    { dst := some 57, op := .mov (.t 1), guard := some (55, true) },
    { dst := some 58, op := .bin .eql (.t 56) (.t 57), guard := some (55, true) },
    { dst := some 59, op := .pick (.t 55) (.t 58) (.c (.bool false)) },
    { dst := some 4, op := .mov (.t 59) }])
  (.ret))))))))))))))))))
/-- with its results -/
def a4 : AFun := ⟨c4, [(4, none)], 60⟩

/-- estreat/estreatlaw01.PackRises: parameters int int -/
def c5 : AC :=
  (.seq (.reg false [
    { dst := some 4, op := .mov (.c (.bool false)) }])
  ((.seq (.reg false [
    { dst := some 11, op := .mov (.t 0) },
    { dst := some 12, op := .call 13000 13 [(.t 11)] },
    { dst := some 10, op := .mov (.t 12) },
    { dst := some 13, op := .ext 0 (.t 10) },
    { dst := some 14, op := .ext 1 (.t 10) },
    { dst := some 5, op := .mov (.t 13) },
    { dst := some 6, op := .mov (.t 14) }])
  ((.seq (.reg false [
    { dst := some 16, op := .mov (.t 1) },
    { dst := some 17, op := .call 18000 13 [(.t 16)] },
    { dst := some 15, op := .mov (.t 17) },
    { dst := some 18, op := .ext 0 (.t 15) },
    { dst := some 19, op := .ext 1 (.t 15) },
    { dst := some 7, op := .mov (.t 18) },
    { dst := some 8, op := .mov (.t 19) }])
  ((.seq ((.seq (.reg false [
    { dst := some 20, op := .mov (.t 6) },
    { dst := some 21, op := .bin .neq (.t 20) (.c (.int .i64 0)) },
    { dst := some 22, op := .mov (.t 21) },
    { dst := some 23, op := .mov (.t 8), guard := some (22, false) },
    { dst := some 24, op := .bin .neq (.t 23) (.c (.int .i64 0)), guard := some (22, false) },
    { dst := some 25, op := .pick (.t 22) (.c (.bool true)) (.t 24) }])
  (.cond (.t 25) ((.seq (.reg false [
    { dst := some 26, op := .call 27000 17 [] },
    { dst := some 4, op := .mov (.t 26) }])
  (.ret))) (.skip))))
  ((.seq (.reg false [
    { dst := some 27, op := .mov (.t 5) },
    { dst := some 28, op := .lenS (.t 27) },
    { dst := some 29, op := .mov (.t 7) },
    { dst := some 30, op := .lenS (.t 29) },
    { dst := some 31, op := .bin .lss (.t 28) (.t 30) },
    { dst := some 32, op := .mov (.t 31) },
    { dst := some 33, op := .mov (.t 5), guard := some (32, false) },
    { dst := some 34, op := .lenS (.t 33), guard := some (32, false) },
    { dst := some 35, op := .mov (.t 7), guard := some (32, false) },
    { dst := some 36, op := .lenS (.t 35), guard := some (32, false) },
    { dst := some 37, op := .bin .eql (.t 34) (.t 36), guard := some (32, false) },
    { dst := some 38, op := .mov (.t 37), guard := some (32, false) },
    { dst := some 39, op := .mov (.t 5), guard := some (38, true) },
    { dst := some 40, op := .mov (.t 7), guard := some (38, true) },
    { dst := some 41, op := .bin .lss (.t 39) (.t 40), guard := some (38, true) },
    { dst := some 42, op := .pick (.t 38) (.t 41) (.c (.bool false)), guard := some (32, false) },
    { dst := some 43, op := .pick (.t 32) (.c (.bool true)) (.t 42) },
    { dst := some 9, op := .mov (.t 43) }])
  ((.seq (.reg false [
    { dst := some 44, op := .call 45000 17 [] },
    { dst := some 45, op := .mov (.t 44) },
    { dst := some 46, op := .mov (.t 9), guard := some (45, true) },
    { dst := some 47, op := .mov (.t 0), guard := some (45, true) },
    { dst := some 48, op := .mov (.t 1), guard := some (45, true) },
    { dst := some 49, op := .bin .lss (.t 47) (.t 48), guard := some (45, true) },
    { dst := some 50, op := .eqb false (.t 46) (.t 49), guard := some (45, true) },
    { dst := some 51, op := .pick (.t 45) (.t 50) (.c (.bool false)) },
    { dst := some 52, op := .mov (.t 51) },
    { dst := some 53, op := .mov (.t 5), guard := some (52, true) },
    { dst := some 54, op := .mov (.t 7), guard := some (52, true) },
    { dst := some 55, op := .bin .eql (.t 53) (.t 54), guard := some (52, true) },
    { dst := some 56, op := .mov (.t 0), guard := some (52, true) },
    { dst := some 57, op := .mov (.t 1), guard := some (52, true) },
    { dst := some 58, op := .bin .eql (.t 56) (.t 57), guard := some (52, true) },
    { dst := some 59, op := .eqb false (.t 55) (.t 58), guard := some (52, true) },
    { dst := some 60, op := .pick (.t 52) (.t 59) (.c (.bool false)) },
    { dst := some 4, op := .mov (.t 60) }])
  (.ret))))))))))))
/-- with its results -/
def a5 : AFun := ⟨c5, [(4, none)], 61⟩

def b13_0 : AC :=
  (.seq ((.seq (.reg false [
    { dst := some 12, op := .mov (.t 0) },
    { dst := some 13, op := .bin .gtr (.t 12) (.c (.int .i64 0)) }])
  (.cond (.t 13) (.skip) (.exit 0))))
  ((.seq (.block 1 ((.seq (.reg false [
    { dst := some 16, op := .mov (.t 5) },
    { dst := some 17, op := .bin .sub (.t 16) (.c (.int .i64 1)) },
    { dst := some 5, op := .mov (.t 17) }])
  (.reg false [
    { dst := some 18, op := .mov (.t 5) },
    { dst := some 19, op := .mov (.t 0) },
    { dst := some 20, op := .conv .u8 (.t 19) },
    { dst := some 21, op := .iada 8 1 (.t 4) (.t 18) },
    { dst := none, op := .store 1 (.t 21) (.t 20) }]))))
  (.reg false [
    { dst := some 14, op := .mov (.t 0) },
    { dst := some 15, op := .bin .shr (.t 14) (.c (.int .u64 8)) },
    { dst := some 0, op := .mov (.t 15) }]))))
/-- estreat/pack.Number: parameters int -/
def c13 : AC :=
  (.seq (.reg false [
    { dst := some 2, op := .mov (.c (.str ⟨#[]⟩)) },
    { dst := some 3, op := .mov (.c (.int .i64 0)) }])
  ((.seq ((.seq (.reg false [
    { dst := some 6, op := .mov (.t 0) },
    { dst := some 7, op := .bin .lss (.t 6) (.c (.int .i64 0)) },
    { dst := some 8, op := .mov (.t 7) },
    { dst := some 9, op := .mov (.t 0), guard := some (8, false) },
    { dst := some 10, op := .bin .gtr (.t 9) (.c (.int .i64 4611686018427387903)), guard := some (8, false) },
    { dst := some 11, op := .pick (.t 8) (.c (.bool true)) (.t 10) }])
  (.cond (.t 11) ((.seq (.reg false [
    { dst := some 2, op := .mov (.c (.str ⟨#[]⟩)) },
    { dst := some 3, op := .mov (.c (.int .i64 1)) }])
  (.ret))) (.skip))))
  ((.seq (.reg false [
    { dst := some 4, op := .alloc 4 z50 }])
  ((.seq (.reg false [
    { dst := some 5, op := .mov (.c (.int .i64 8)) }])
  ((.seq (.block 0 (.loop [0, 2, 3, 4, 5] [4] b13_0))
  ((.seq (.reg false [
    { dst := some 22, op := .mov (.t 5) },
    { dst := some 23, op := .slca 8 (.t 4) (some (.t 22)) none },
    { dst := some 24, op := .b2s (.t 23) },
    { dst := some 2, op := .mov (.t 24) },
    { dst := some 3, op := .mov (.c (.int .i64 0)) }])
  (.ret))))))))))))
/-- with its results -/
def a13 : AFun := ⟨c13, [(2, none), (3, none)], 25⟩

def b14_0 : AC :=
  (.seq ((.seq (.reg false [
    { dst := some 11, op := .mov (.t 0) },
    { dst := some 12, op := .bin .gtr (.t 11) (.c (.int .i64 0)) }])
  (.cond (.t 12) (.skip) (.exit 0))))
  (.block 1 ((.seq (.reg false [
    { dst := some 13, op := .mov (.t 0) },
    { dst := some 14, op := .bin .rem (.t 13) (.c (.int .i64 256)) },
    { dst := some 15, op := .conv .u8 (.t 14) },
    { dst := some 16, op := .bslice 16 1 [(.int .u8 0)] 1 [(0, (.t 15))] },
    { dst := some 17, op := .b2s (.t 16) },
    { dst := some 18, op := .mov (.t 4) },
    { dst := some 19, op := .bin .add (.t 17) (.t 18) },
    { dst := some 4, op := .mov (.t 19) }])
  (.reg false [
    { dst := some 20, op := .mov (.t 0) },
    { dst := some 21, op := .bin .quo (.t 20) (.c (.int .i64 256)) },
    { dst := some 0, op := .mov (.t 21) }])))))
/-- estreat/estreatref01.Number: parameters int -/
def c14 : AC :=
  (.seq (.reg false [
    { dst := some 2, op := .mov (.c (.str ⟨#[]⟩)) },
    { dst := some 3, op := .mov (.c (.int .i64 0)) }])
  ((.seq ((.seq (.reg false [
    { dst := some 5, op := .mov (.t 0) },
    { dst := some 6, op := .bin .lss (.t 5) (.c (.int .i64 0)) },
    { dst := some 7, op := .mov (.t 6) },
    { dst := some 8, op := .mov (.t 0), guard := some (7, false) },
    { dst := some 9, op := .bin .gtr (.t 8) (.c (.int .i64 4611686018427387903)), guard := some (7, false) },
    { dst := some 10, op := .pick (.t 7) (.c (.bool true)) (.t 9) }])
  (.cond (.t 10) ((.seq (.reg false [
    { dst := some 2, op := .mov (.c (.str ⟨#[]⟩)) },
    { dst := some 3, op := .mov (.c (.int .i64 1)) }])
  (.ret))) (.skip))))
  ((.seq (.reg false [
    { dst := some 4, op := .mov (.c (.str ⟨#[]⟩)) }])
  ((.seq (.block 0 (.loop [0, 2, 3, 4] [] b14_0))
  ((.seq (.reg false [
    { dst := some 22, op := .mov (.t 4) },
    { dst := some 2, op := .mov (.t 22) },
    { dst := some 3, op := .mov (.c (.int .i64 0)) }])
  (.ret))))))))))
/-- with its results -/
def a14 : AFun := ⟨c14, [(2, none), (3, none)], 23⟩

def b15_0 : AC :=
  (.seq (.reg false [
    { dst := some 22, op := .bin .lss (.t 21) (.t 20) }])
  ((.seq (.cond (.t 22) (.skip) (.exit 1))
  ((.seq (.block 2 ((.seq (.reg false [
    { dst := some 23, op := .iad 1 (.t 19) (.t 21) },
    { dst := some 24, op := .load none (.t 23) },
    { dst := some 6, op := .mov (.t 24) }])
  ((.seq ((.seq (.reg false [
    { dst := some 25, op := .mov (.t 4) },
    { dst := some 26, op := .bin .gtr (.t 25) (.c (.int .i64 18014398509481983)) }])
  (.cond (.t 26) ((.seq (.reg false [
    { dst := some 2, op := .mov (.c (.int .i64 0)) },
    { dst := some 3, op := .mov (.c (.int .i64 11)) }])
  (.ret))) (.skip))))
  (.reg false [
    { dst := some 27, op := .mov (.t 4) },
    { dst := some 28, op := .bin .shl (.t 27) (.c (.int .u64 8)) },
    { dst := some 29, op := .mov (.t 6) },
    { dst := some 30, op := .conv .i64 (.t 29) },
    { dst := some 31, op := .bin .or (.t 28) (.t 30) },
    { dst := some 4, op := .mov (.t 31) }]))))))
  (.reg false [
    { dst := some 32, op := .bin .add (.t 21) (.c (.int .i64 1)) },
    { dst := some 21, op := .mov (.t 32) }]))))))
/-- estreat/pack.Value: parameters string -/
def c15 : AC :=
  (.seq (.reg false [
    { dst := some 2, op := .mov (.c (.int .i64 0)) },
    { dst := some 3, op := .mov (.c (.int .i64 0)) }])
  ((.seq (.reg false [
    { dst := some 4, op := .mov (.c (.int .i64 0)) }])
  ((.seq (.block 0 ((.seq ((.seq (.reg false [
    { dst := some 8, op := .mov (.t 0) },
    { dst := some 9, op := .lenS (.t 8) },
    { dst := some 10, op := .bin .gtr (.t 9) (.c (.int .i64 8)) },
    { dst := some 7, op := .mov (.t 10) }])
  (.cond (.t 7) (.skip) (.reg false [
    { dst := some 11, op := .mov (.t 0) },
    { dst := some 12, op := .bin .neq (.t 11) (.c (.str ⟨#[]⟩)) },
    { dst := some 13, op := .mov (.t 12) },
    { dst := some 14, op := .mov (.t 0), guard := some (13, true) },
    { dst := some 15, op := .idxs (.t 14) (.c (.int .i64 0)), guard := some (13, true) },
    { dst := some 16, op := .bin .eql (.t 15) (.c (.int .u8 0)), guard := some (13, true) },
    { dst := some 17, op := .pick (.t 13) (.t 16) (.c (.bool false)) },
    { dst := some 7, op := .mov (.t 17) }]))))
  (.cond (.t 7) ((.seq (.reg false [
    { dst := some 2, op := .mov (.c (.int .i64 0)) },
    { dst := some 3, op := .mov (.c (.int .i64 11)) }])
  (.ret))) (.skip)))))
  ((.seq ((.seq (.reg false [
    { dst := some 18, op := .mov (.t 0) },
    { dst := some 19, op := .s2b 19 (.t 18) },
    { dst := some 20, op := .len (.t 19) },
    { dst := some 21, op := .mov (.c (.int .i64 0)) }])
  (.block 1 (.loop [2, 3, 4, 19, 20, 21] [19] b15_0))))
  ((.seq (.reg false [
    { dst := some 33, op := .mov (.t 4) },
    { dst := some 2, op := .mov (.t 33) },
    { dst := some 3, op := .mov (.c (.int .i64 0)) }])
  (.ret))))))))))
/-- with its results -/
def a15 : AFun := ⟨c15, [(2, none), (3, none)], 34⟩

def b16_0 : AC :=
  (.seq ((.seq (.reg false [
    { dst := some 29, op := .mov (.t 5) },
    { dst := some 30, op := .mov (.t 0) },
    { dst := some 31, op := .lenS (.t 30) },
    { dst := some 32, op := .bin .lss (.t 29) (.t 31) }])
  (.cond (.t 32) (.skip) (.exit 0))))
  ((.seq (.block 1 (.reg false [
    { dst := some 35, op := .mov (.t 4) },
    { dst := some 36, op := .bin .mul (.c (.int .i64 256)) (.t 35) },
    { dst := some 37, op := .mov (.t 0) },
    { dst := some 38, op := .mov (.t 5) },
    { dst := some 39, op := .idxs (.t 37) (.t 38) },
    { dst := some 40, op := .conv .i64 (.t 39) },
    { dst := some 41, op := .bin .add (.t 36) (.t 40) },
    { dst := some 4, op := .mov (.t 41) }]))
  (.reg false [
    { dst := some 33, op := .mov (.t 5) },
    { dst := some 34, op := .bin .add (.t 33) (.c (.int .i64 1)) },
    { dst := some 5, op := .mov (.t 34) }]))))
/-- estreat/estreatref01.Value: parameters string -/
def c16 : AC :=
  (.seq (.reg false [
    { dst := some 2, op := .mov (.c (.int .i64 0)) },
    { dst := some 3, op := .mov (.c (.int .i64 0)) }])
  ((.seq ((.seq (.reg false [
    { dst := some 6, op := .mov (.t 0) },
    { dst := some 7, op := .lenS (.t 6) },
    { dst := some 8, op := .bin .gtr (.t 7) (.c (.int .i64 8)) },
    { dst := some 9, op := .mov (.t 8) },
    { dst := some 10, op := .mov (.t 0), guard := some (9, false) },
    { dst := some 11, op := .lenS (.t 10), guard := some (9, false) },
    { dst := some 12, op := .bin .gtr (.t 11) (.c (.int .i64 0)), guard := some (9, false) },
    { dst := some 13, op := .mov (.t 12), guard := some (9, false) },
    { dst := some 14, op := .mov (.t 0), guard := some (13, true) },
    { dst := some 15, op := .idxs (.t 14) (.c (.int .i64 0)), guard := some (13, true) },
    { dst := some 16, op := .bin .eql (.t 15) (.c (.int .u8 0)), guard := some (13, true) },
    { dst := some 17, op := .pick (.t 13) (.t 16) (.c (.bool false)), guard := some (9, false) },
    { dst := some 18, op := .pick (.t 9) (.c (.bool true)) (.t 17) },
    { dst := some 19, op := .mov (.t 18) },
    { dst := some 20, op := .mov (.t 0), guard := some (19, false) },
    { dst := some 21, op := .lenS (.t 20), guard := some (19, false) },
    { dst := some 22, op := .bin .eql (.t 21) (.c (.int .i64 8)), guard := some (19, false) },
    { dst := some 23, op := .mov (.t 22), guard := some (19, false) },
    { dst := some 24, op := .mov (.t 0), guard := some (23, true) },
    { dst := some 25, op := .idxs (.t 24) (.c (.int .i64 0)), guard := some (23, true) },
    { dst := some 26, op := .bin .geq (.t 25) (.c (.int .u8 64)), guard := some (23, true) },
    { dst := some 27, op := .pick (.t 23) (.t 26) (.c (.bool false)), guard := some (19, false) },
    { dst := some 28, op := .pick (.t 19) (.c (.bool true)) (.t 27) }])
  (.cond (.t 28) ((.seq (.reg false [
    { dst := some 2, op := .mov (.c (.int .i64 0)) },
    { dst := some 3, op := .mov (.c (.int .i64 11)) }])
  (.ret))) (.skip))))
  ((.seq (.reg false [
    { dst := some 4, op := .mov (.c (.int .i64 0)) }])
  ((.seq ((.seq (.reg false [
    { dst := some 5, op := .mov (.c (.int .i64 0)) }])
  (.block 0 (.loop [0, 2, 3, 4, 5] [] b16_0))))
  ((.seq (.reg false [
    { dst := some 42, op := .mov (.t 4) },
    { dst := some 2, op := .mov (.t 42) },
    { dst := some 3, op := .mov (.c (.int .i64 0)) }])
  (.ret))))))))))
/-- with its results -/
def a16 : AFun := ⟨c16, [(2, none), (3, none)], 43⟩

/-- estreat/estreatlaw01.numbers: parameters  -/
def c17 : AC :=
  (.seq (.reg false [
    { dst := some 0, op := .mov (.c (.bool false)) }])
  ((.seq (.reg false [
    { dst := some 12, op := .call 13000 13 [(.c (.int .i64 258))] },
    { dst := some 11, op := .mov (.t 12) },
    { dst := some 13, op := .ext 0 (.t 11) },
    { dst := some 14, op := .ext 1 (.t 11) },
    { dst := some 1, op := .mov (.t 13) },
    { dst := some 2, op := .mov (.t 14) }])
  ((.seq (.reg false [
    { dst := some 16, op := .call 17000 13 [(.c (.int .i64 0))] },
    { dst := some 15, op := .mov (.t 16) },
    { dst := some 17, op := .ext 0 (.t 15) },
    { dst := some 18, op := .ext 1 (.t 15) },
    { dst := some 3, op := .mov (.t 17) },
    { dst := some 4, op := .mov (.t 18) }])
  ((.seq (.reg false [
    { dst := some 20, op := .call 21000 13 [(.c (.int .i64 (-1)))] },
    { dst := some 19, op := .mov (.t 20) },
    { dst := some 21, op := .ext 0 (.t 19) },
    { dst := some 22, op := .ext 1 (.t 19) },
    { dst := some 5, op := .mov (.t 21) },
    { dst := some 6, op := .mov (.t 22) }])
  ((.seq (.reg false [
    { dst := some 24, op := .call 25000 15 [(.c (.str ⟨#[1, 2]⟩))] },
    { dst := some 23, op := .mov (.t 24) },
    { dst := some 25, op := .ext 0 (.t 23) },
    { dst := some 26, op := .ext 1 (.t 23) },
    { dst := some 7, op := .mov (.t 25) },
    { dst := some 8, op := .mov (.t 26) }])
  ((.seq (.reg false [
    { dst := some 28, op := .call 29000 15 [(.c (.str ⟨#[0]⟩))] },
    { dst := some 27, op := .mov (.t 28) },
    { dst := some 29, op := .ext 0 (.t 27) },
    { dst := some 30, op := .ext 1 (.t 27) },
    { dst := some 9, op := .mov (.t 29) },
    { dst := some 10, op := .mov (.t 30) }])
  ((.seq (.reg false [
    { dst := some 31, op := .mov (.t 1) },
    { dst := some 32, op := .bin .eql (.t 31) (.c (.str ⟨#[1, 2]⟩)) },
    { dst := some 33, op := .mov (.t 32) },
    { dst := some 34, op := .mov (.t 2), guard := some (33, true) },
    { dst := some 35, op := .bin .eql (.t 34) (.c (.int .i64 0)), guard := some (33, true) },
    { dst := some 36, op := .pick (.t 33) (.t 35) (.c (.bool false)) },
    { dst := some 37, op := .mov (.t 36) },
    { dst := some 38, op := .mov (.t 3), guard := some (37, true) },
    { dst := some 39, op := .bin .eql (.t 38) (.c (.str ⟨#[]⟩)), guard := some (37, true) },
    { dst := some 40, op := .pick (.t 37) (.t 39) (.c (.bool false)) },
    { dst := some 41, op := .mov (.t 40) },
    { dst := some 42, op := .mov (.t 4), guard := some (41, true) },
    { dst := some 43, op := .bin .eql (.t 42) (.c (.int .i64 0)), guard := some (41, true) },
    { dst := some 44, op := .pick (.t 41) (.t 43) (.c (.bool false)) },
    { dst := some 45, op := .mov (.t 44) },
    { dst := some 46, op := .mov (.t 6), guard := some (45, true) },
    { dst := some 47, op := .bin .eql (.t 46) (.c (.int .i64 1)), guard := some (45, true) },
    { dst := some 48, op := .pick (.t 45) (.t 47) (.c (.bool false)) },
    { dst := some 49, op := .mov (.t 48) },
    { dst := some 50, op := .mov (.t 7), guard := some (49, true) },
    { dst := some 51, op := .bin .eql (.t 50) (.c (.int .i64 258)), guard := some (49, true) },
    { dst := some 52, op := .pick (.t 49) (.t 51) (.c (.bool false)) },
    { dst := some 53, op := .mov (.t 52) },
    { dst := some 54, op := .mov (.t 8), guard := some (53, true) },
    { dst := some 55, op := .bin .eql (.t 54) (.c (.int .i64 0)), guard := some (53, true) },
    { dst := some 56, op := .pick (.t 53) (.t 55) (.c (.bool false)) },
    { dst := some 57, op := .mov (.t 56) },
    { dst := some 58, op := .mov (.t 10), guard := some (57, true) },
    { dst := some 59, op := .bin .eql (.t 58) (.c (.int .i64 11)), guard := some (57, true) },
    { dst := some 60, op := .pick (.t 57) (.t 59) (.c (.bool false)) },
    { dst := some 0, op := .mov (.t 60) }])
  (.ret))))))))))))))
/-- with its results -/
def a17 : AFun := ⟨c17, [(0, none)], 61⟩

end Go.Abs.Try

namespace Go.Abs.Try
open Go Go.Abs Go.Proofs
theorem fit3 : funFit Try.prog Try.f3 a3 = true := by kernel_rfl
theorem fit4 : funFit Try.prog Try.f4 a4 = true := by kernel_rfl
theorem fit5 : funFit Try.prog Try.f5 a5 = true := by kernel_rfl
theorem fit13 : funFit Try.prog Try.f13 a13 = true := by kernel_rfl
theorem fit14 : funFit Try.prog Try.f14 a14 = true := by kernel_rfl
theorem fit15 : funFit Try.prog Try.f15 a15 = true := by kernel_rfl
theorem fit16 : funFit Try.prog Try.f16 a16 = true := by kernel_rfl
theorem fit17 : funFit Try.prog Try.f17 a17 = true := by kernel_rfl
end Go.Abs.Try

namespace Go.Abs.Try
open Go Go.Abs

/-- the digits of n, most weighty first, ahead of t -/
def dig (n : Nat) (t : List UInt8) : List UInt8 := if h : n = 0 then t else dig (n / 256) (UInt8.ofNat n :: t)
termination_by n
decreasing_by omega

theorem dig_zero (t) : dig 0 t = t := by rw [dig]; simp
theorem dig_pos {n t} (h : n ≠ 0) : dig n t = dig (n / 256) (UInt8.ofNat n :: t) := by rw [dig]; simp [h]

def u8s (t : List UInt8) : List AV := t.map fun b => .int .u8 b.toNat
theorem u8_cell (n : Nat) : ((UInt8.ofNat n).toNat : Int) = (n : Int) % 256 := by simp

def numF : CallF
  | [.int .i64 n] => some (if n < 0 ∨ 4611686018427387903 < n then .tup [.str ⟨#[]⟩, .int .i64 1] else .tup [.str ⟨(dig n.toNat []).toArray⟩, .int .i64 0], [])
  | _ => none

theorem loop13 (Φ : Nat → Option CallF) (K g c : Nat) (v2 v3 : AV) : ∀ (a n : Nat) (t : List UInt8) (k : Nat), n < 256 ^ a → t.length + a = 8 → a < k →
    ∃ a', (dig n t).length + a' = 8 ∧ iter (ev Φ K b13_0) [0, 2, 3, 4, 5] [4] k ⟨[(0, .int .i64 n), (2, v2), (3, v3), (4, .ptr 4 g 0), (5, .int .i64 a)], [⟨4, g, .var (List.replicate a (.int .u8 0) ++ u8s t)⟩], c⟩ =
      some (.exit 0, ⟨[(0, .int .i64 0), (2, v2), (3, v3), (4, .ptr 4 g 0), (5, .int .i64 a'), (12, .int .i64 0), (13, .bool false)], [⟨4, g, .var (List.replicate a' (.int .u8 0) ++ u8s (dig n t))⟩], c⟩)
  | a, n, t, 0, _, _, hk => by omega
  | a, n, t, k + 1, hn, ht, hk => by
    by_cases h : n = 0
    · subst h
      exact ⟨a, by rw [dig_zero]; exact ht, by refine iter_out (by simp) ?_; simp -implicitDefEqProofs [b13_0, dig_zero, St.keep]⟩
    · match a with
      | 0 => simp at hn; omega
      | a + 1 =>
        obtain ⟨a', h1, h2⟩ := loop13 Φ K g c v2 v3 a (n / 256) (UInt8.ofNat n :: t) k (by rw [Nat.div_lt_iff_lt_mul (by omega)]; rw [Nat.pow_succ] at hn; omega) (by simp; omega) (by omega)
        refine ⟨a', by rw [dig_pos h]; exact h1, ?_⟩
        rw [dig_pos h, ← h2]
        have hp : 0 < n := by omega
        have h8 : a < 8 := by omega
        have h9 : List.replicate (a + 1) (AV.int .u8 0) ++ u8s t = List.replicate a (AV.int .u8 0) ++ (AV.int .u8 0 :: u8s t) := by rw [List.replicate_succ', List.append_assoc]; rfl
        have h7 : (u8s t).length + a + 1 = 8 := by simp [u8s]; omega
        refine iter_norm ?_
        simp -implicitDefEqProofs (disch := omega) [b13_0, wrap_i64, wrap_u8, hp, h8, h9, St.keep]
        refine ⟨by rw [Int.fdiv_eq_ediv_of_nonneg] ; omega, ?_⟩
        rw [List.take_append_of_le_length (by simp), List.take_of_length_le (by simp), List.drop_append, List.drop_of_length_le (by simp)]
        simp [u8s]

theorem fun13 (Φ : Nat → Option CallF) (bs r) (h : numF bs = some r) : ∃ k, evFun Φ k a13 bs = some r := by
  unfold numF at h
  split at h
  · next n =>
    obtain rfl := Option.some.inj h
    refine ⟨9, ?_⟩
    by_cases h0 : n < 0
    · simp -implicitDefEqProofs [a13, c13, h0]
    · by_cases h1 : 4611686018427387903 < n
      · simp -implicitDefEqProofs [a13, c13, h0, h1]
      · obtain ⟨m, rfl⟩ := Int.eq_ofNat_of_zero_le (by omega : 0 ≤ n)
        obtain ⟨a', h2, h3⟩ := loop13 Φ 9 0 1 (.str ⟨#[]⟩) (.int .i64 0) 8 m [] 9 (by simp; omega) (by simp) (by omega)
        simp -implicitDefEqProofs [a13, c13, h0, h1]
        rw [iter_keep]
        simp [z50]
        simp [u8s] at h3
        rw [h3]
        have e1 : 8 = a' + (dig m []).length := by omega
        have e2 : (a' : Int) ≤ 8 := by omega
        have e3 : 8 ≤ a' + (dig m []).length := by omega
        have e4 : List.drop a' (List.replicate a' (AV.int .u8 0) ++ List.map (fun b => AV.int .u8 (b.toNat : Int)) (dig m [])) = List.map (fun b => AV.int .u8 (b.toNat : Int)) (dig m []) := by
          rw [List.drop_append, List.drop_of_length_le (by simp)]; simp
        have e5 : List.take (8 - a') (List.map (fun b => [AV.int .u8 (b.toNat : Int)]) (dig m [])) = List.map (fun b => [AV.int .u8 (b.toNat : Int)]) (dig m []) := List.take_of_length_le (by simp; omega)
        have e7 : List.take (8 - a') (List.map (fun b => AV.int .u8 (b.toNat : Int)) (dig m [])) = List.map (fun b => AV.int .u8 (b.toNat : Int)) (dig m []) := List.take_of_length_le (by simp; omega)
        have e6 : a' + (8 - a') ≤ 8 := by omega
        simp [← e1, e2, e6, e7, toBytes_map, Function.comp_def]
  · cases h

theorem dig_len : ∀ (a n : Nat) (t : List UInt8), n < 256 ^ a → (dig n t).length ≤ t.length + a
  | 0, n, t, h => by
    have : n = 0 := by simpa using h
    subst this; simp [dig_zero]
  | a + 1, n, t, h => by
    by_cases h0 : n = 0
    · subst h0; simp [dig_zero]
    · rw [dig_pos h0]
      have := dig_len a (n / 256) (UInt8.ofNat n :: t) (by rw [Nat.div_lt_iff_lt_mul (by omega)]; rw [Nat.pow_succ] at h; omega)
      simp at this; omega

theorem loop14 (Φ : Nat → Option CallF) (K c : Nat) (v2 v3 : AV) : ∀ (a n : Nat) (t : List UInt8) (k : Nat), n < 256 ^ a → n < 2 ^ 62 → t.length + a = 8 → a < k →
    ∃ c', iter (ev Φ K b14_0) [0, 2, 3, 4] [] k ⟨[(0, .int .i64 n), (2, v2), (3, v3), (4, .str ⟨t.toArray⟩)], [], c⟩ =
      some (.exit 0, ⟨[(0, .int .i64 0), (2, v2), (3, v3), (4, .str ⟨(dig n t).toArray⟩), (11, .int .i64 0), (12, .bool false)], [], c'⟩)
  | a, n, t, 0, _, _, _, hk => by omega
  | a, n, t, k + 1, hn, hm, ht, hk => by
    by_cases h : n = 0
    · subst h
      exact ⟨c, by refine iter_out (by simp) ?_; simp -implicitDefEqProofs [b14_0, dig_zero, St.keep]⟩
    · match a with
      | 0 => simp at hn; omega
      | a + 1 =>
        obtain ⟨c', h2⟩ := loop14 Φ K (c + 1) v2 v3 a (n / 256) (UInt8.ofNat n :: t) k (by rw [Nat.div_lt_iff_lt_mul (by omega)]; rw [Nat.pow_succ] at hn; omega) (by omega) (by simp; omega) (by omega)
        refine ⟨c', ?_⟩
        rw [dig_pos h, ← h2]
        have hp : 0 < n := by omega
        have h1 : ((n : Int).tmod 256) = n % 256 := by rw [Int.tmod_eq_emod_of_nonneg] ; omega
        have h3 : ((n : Int).tdiv 256) = n / 256 := by rw [Int.tdiv_eq_ediv_of_nonneg]; omega
        have h5 : t.length ≤ 8 := by omega
        refine iter_norm ?_
        have h6 : toBytes [[AV.int .u8 ((n : Int) % 256)]] = some [UInt8.ofNat n] := by
          have : UInt8.ofNat (((n : Int) % 256).toNat) = UInt8.ofNat n := by
            rw [show ((n : Int) % 256).toNat = n % 256 by omega]
            apply UInt8.toNat.inj; simp
          simp [toBytes, this]
        have h7 := astr_add_bytes [UInt8.ofNat n] t (by simp; omega)
        simp -implicitDefEqProofs (disch := first | omega | simp) [b14_0, wrap_i64, wrap_u8, hp, h1, h3, St.keep, h6, h7]

theorem fun14 (Φ : Nat → Option CallF) (bs r) (h : numF bs = some r) : ∃ k, evFun Φ k a14 bs = some r := by
  unfold numF at h
  split at h
  · next n =>
    obtain rfl := Option.some.inj h
    refine ⟨9, ?_⟩
    by_cases h0 : n < 0
    · simp -implicitDefEqProofs [a14, c14, h0]
    · by_cases h1 : 4611686018427387903 < n
      · simp -implicitDefEqProofs [a14, c14, h0, h1]
      · obtain ⟨m, rfl⟩ := Int.eq_ofNat_of_zero_le (by omega : 0 ≤ n)
        obtain ⟨c', h3⟩ := loop14 Φ 9 0 (.str ⟨#[]⟩) (.int .i64 0) 8 m [] 9 (by simp; omega) (by simp; omega) (by simp) (by omega)
        simp -implicitDefEqProofs [a14, c14, h0, h1]
        rw [iter_keep]
        simp
        rw [h3]
        simp
  · cases h

def val (n : Nat) (l : List UInt8) : Nat := l.foldl (fun n x => n * 256 + x.toNat) n
theorem val_cons (n x l) : val n (x :: l) = val (n * 256 + x.toNat) l := rfl
def walk : Nat → List UInt8 → Option Nat
  | n, [] => some n
  | n, x :: q => if 18014398509481983 < n then none else walk (n * 256 + x.toNat) q

theorem val_lo : ∀ (l : List UInt8) (n : Nat), n * 256 ^ l.length ≤ val n l
  | [], n => by simp [val]
  | x :: q, n => by
    rw [val_cons]
    have := val_lo q (n * 256 + x.toNat)
    refine Nat.le_trans ?_ this
    rw [List.length_cons, Nat.pow_succ, Nat.mul_comm (256 ^ q.length), ← Nat.mul_assoc]
    exact Nat.mul_le_mul_right _ (by omega)
theorem val_hi : ∀ (l : List UInt8) (n : Nat), val n l < (n + 1) * 256 ^ l.length
  | [], n => by simp [val]
  | x :: q, n => by
    rw [val_cons]
    have := val_hi q (n * 256 + x.toNat)
    refine Nat.lt_of_lt_of_le this ?_
    rw [List.length_cons, Nat.pow_succ, Nat.mul_comm (256 ^ q.length), ← Nat.mul_assoc]
    have := x.toNat_lt
    exact Nat.mul_le_mul_right _ (by omega)
theorem val_ge (l : List UInt8) (n : Nat) : n ≤ val n l := by
  refine Nat.le_trans ?_ (val_lo l n)
  exact Nat.le_mul_of_pos_right _ (Nat.pow_pos (by omega))
theorem walk_eq : ∀ (q : List UInt8) (n : Nat), walk n q = if q ≠ [] ∧ 4611686018427387904 ≤ val n q then none else some (val n q)
  | [], n => by simp [walk, val]
  | x :: q, n => by
    have h1 := val_ge q (n * 256 + x.toNat)
    have h2 := x.toNat_lt
    by_cases h : 18014398509481983 < n
    · rw [walk, if_pos h, if_pos ⟨by simp, by rw [val_cons]; omega⟩]
    · rw [walk, if_neg h, walk_eq q, val_cons]
      cases q with
      | nil =>
        rw [if_neg (by simp), if_neg]
        rintro ⟨_, h3⟩
        simp [val] at h3
        omega
      | cons y r => simp

/-- bytes that are no number -/
def valBad (l : List UInt8) : Bool := decide (8 < l.length) || (l.head? == some 0) || decide (4611686018427387904 ≤ val 0 l)
def valF : CallF
  | [.str s] => some (if valBad s.data.toList then .tup [.int .i64 0, .int .i64 11] else .tup [.int .i64 (val 0 s.data.toList), .int .i64 0], [])
  | _ => none

theorem byteRows_get (l : List UInt8) (i : Nat) (x : UInt8) (q) (h : l.drop i = x :: q) : (byteRows l)[i]? = some [.int .u8 x.toNat] := by
  have : l[i]? = some x := by rw [← List.head?_drop, h]; rfl
  simp [byteRows, this]

theorem loop15 (Φ : Nat → Option CallF) (K g c : Nat) (l : List UInt8) (v2 v3 : AV) (hl : l.length ≤ 8) : ∀ (q : List UInt8) (i n k : Nat), l.drop i = q → n < 256 ^ i → q.length < k → i ≤ l.length →
    match walk n q with
    | some m => ∃ s', iter (ev Φ K b15_0) [2, 3, 4, 19, 20, 21] [19] k ⟨[(2, v2), (3, v3), (4, .int .i64 n), (19, .own 19 g 0 l.length), (20, .int .i64 l.length), (21, .int .i64 i)], [⟨19, g, .arr 1 (byteRows l) false⟩], c⟩ = some (.exit 1, s') ∧ envGet s'.env 4 = some (.int .i64 m)
    | none => ∃ s', iter (ev Φ K b15_0) [2, 3, 4, 19, 20, 21] [19] k ⟨[(2, v2), (3, v3), (4, .int .i64 n), (19, .own 19 g 0 l.length), (20, .int .i64 l.length), (21, .int .i64 i)], [⟨19, g, .arr 1 (byteRows l) false⟩], c⟩ = some (.ret, s') ∧ envGet s'.env 2 = some (.int .i64 0) ∧ envGet s'.env 3 = some (.int .i64 11)
  | q, i, n, 0, _, _, hk, _ => by omega
  | [], i, n, k + 1, hq, hn, hk, hi => by
    have : i = l.length := by have := congrArg List.length hq; simp at this; omega
    subst this
    simp only [walk]
    refine iter_outE (by simp) ?_
    simp -implicitDefEqProofs [b15_0, St.keep]
  | x :: q, i, n, k + 1, hq, hn, hk, hi => by
    have hlt : i < l.length := by have := congrArg List.length hq; simp at this; omega
    have hx := byteRows_get l i x q hq
    by_cases hbig : 18014398509481983 < n
    · simp only [walk, hbig, if_true]
      refine iter_outE (by simp) ?_
      have hb : (18014398509481983 : Int) < n := by omega
      simp -implicitDefEqProofs [b15_0, St.keep, hlt, hx, hb]
    · simp only [walk, hbig, if_false]
      have hx8 := x.toNat_lt
      have ih := loop15 Φ K g c l v2 v3 hl q (i + 1) (n * 256 + x.toNat) k (by rw [← List.drop_drop, hq]; rfl) (by rw [Nat.pow_succ]; omega) (by simp at hk; omega) (by omega)
      have hor := or_low n x.toNat 8 (by omega) (by omega)
      rw [iter_norm (s' := ⟨[(2, v2), (3, v3), (4, .int .i64 ((n * 256 + x.toNat : Nat) : Int)), (19, .own 19 g 0 l.length), (20, .int .i64 l.length), (21, .int .i64 ((i + 1 : Nat) : Int))], [⟨19, g, .arr 1 (byteRows l) false⟩], c⟩)]
      · exact ih
      · have h5 : (n : Int) * 256 ≤ 9223372036854775807 := by omega
        have hb : ¬ (18014398509481983 : Int) < n := by omega
        simp at hor
        simp -implicitDefEqProofs (disch := first | omega | simp) [b15_0, St.keep, hlt, hx, hb, wrap_i64, hor]

theorem fun15 (Φ : Nat → Option CallF) (bs r) (h : valF bs = some r) : ∃ k, evFun Φ k a15 bs = some r := by
  unfold valF at h
  split at h
  · next s =>
    obtain rfl := Option.some.inj h
    refine ⟨9, ?_⟩
    obtain ⟨l, rfl⟩ := mkBytes s
    have e : (⟨l.toArray⟩ : ByteArray).data.toList = l := by simp
    rw [e]; clear h e
    by_cases h8 : (8 : Int) < l.length
    · have hb : valBad l = true := by simp [valBad]; omega
      simp -implicitDefEqProofs [hb, a15, c15, h8]
    · have hl : l.length ≤ 8 := by omega
      match l with
      | [] =>
        have hb : valBad [] = false := by decide
        have := loop15 Φ 9 0 1 [] (.int .i64 0) (.int .i64 0) (by simp) [] 0 0 9 rfl (by simp) (by simp) (by simp)
        simp only [walk] at this
        obtain ⟨s', h1, h2⟩ := this
        simp -implicitDefEqProofs [hb, a15, c15, val]
        rw [iter_keep]
        simp at h1
        simp [h1, h2, envGet_set]
      | x :: q =>
        have hl' : (x :: q).length = q.length + 1 := rfl
        have := loop15 Φ 9 0 1 (x :: q) (.int .i64 0) (.int .i64 0) hl (x :: q) 0 0 9 rfl (by simp) (by omega) (by simp)
        rw [walk_eq] at this
        by_cases hx : x = 0
        · subst hx
          have hb : valBad (0 :: q) = true := by simp [valBad]
          have h8' : ¬ (8 : Int) < q.length + 1 := by simp at h8; omega
          simp -implicitDefEqProofs [hb, a15, c15, h8']
        · have h8' : ¬ (8 : Int) < q.length + 1 := by simp at h8; omega
          have hx' : ((x.toNat : Int) == 0) = false := by
            rw [beq_eq_false_iff_ne]
            intro h; apply hx; apply UInt8.toNat.inj; simp; omega
          by_cases hv : 4611686018427387904 ≤ val 0 (x :: q)
          · have hb : valBad (x :: q) = true := by simp [valBad, hv]
            rw [if_pos ⟨by simp, hv⟩] at this
            obtain ⟨s', h1, h2, h3⟩ := this
            simp -implicitDefEqProofs [hb, a15, c15, h8', hx']
            rw [iter_keep]
            simp at h1
            simp [h1, h2, h3, envGet_set]
          · have hb : valBad (x :: q) = false := by simp [valBad, hv, hx]; omega
            rw [if_neg (fun z => hv z.2)] at this
            obtain ⟨s', h1, h2⟩ := this
            simp -implicitDefEqProofs [hb, a15, c15, h8', hx']
            rw [iter_keep]
            simp at h1
            simp [h1, h2, envGet_set]
  · cases h

theorem loop16 (Φ : Nat → Option CallF) (K : Nat) (l : List UInt8) (v2 v3 : AV) (hl : l.length ≤ 8) (hv : val 0 l < 4611686018427387904) : ∀ (q : List UInt8) (i n k : Nat), l.drop i = q → val n q = val 0 l → q.length < k → i ≤ l.length →
    ∃ s', iter (ev Φ K b16_0) [0, 2, 3, 4, 5] [] k ⟨[(0, .str ⟨l.toArray⟩), (2, v2), (3, v3), (4, .int .i64 n), (5, .int .i64 i)], [], 0⟩ = some (.exit 0, s') ∧ envGet s'.env 4 = some (.int .i64 (val n q))
  | q, i, n, 0, _, _, hk, _ => by omega
  | [], i, n, k + 1, hq, hn, hk, hi => by
    have : i = l.length := by have := congrArg List.length hq; simp at this; omega
    subst this
    refine iter_outE (by simp) ?_
    simp -implicitDefEqProofs [b16_0, St.keep, val]
  | x :: q, i, n, k + 1, hq, hn, hk, hi => by
    have hlt : i < l.length := by have := congrArg List.length hq; simp at this; omega
    have hx : l[i]? = some x := by rw [← List.head?_drop, hq]; rfl
    have hx1 : l[i] = x := by rw [List.getElem?_eq_getElem hlt] at hx; exact Option.some.inj hx
    have hg := val_ge q (n * 256 + x.toNat)
    have ih := loop16 Φ K l v2 v3 hl hv q (i + 1) (n * 256 + x.toNat) k (by rw [← List.drop_drop, hq]; rfl) hn (by simp at hk; omega) (by omega)
    rw [val_cons] at hn ⊢
    have hx8 := x.toNat_lt
    rw [iter_norm (s' := ⟨[(0, .str ⟨l.toArray⟩), (2, v2), (3, v3), (4, .int .i64 ((n * 256 + x.toNat : Nat) : Int)), (5, .int .i64 ((i + 1 : Nat) : Int))], [], 0⟩)]
    · exact ih
    · have h5 : (256 : Int) * n + x.toNat ≤ 9223372036854775807 := by omega
      have h6 : (256 : Int) * n + x.toNat = n * 256 + x.toNat := by omega
      simp -implicitDefEqProofs (disch := first | omega | simp) [b16_0, St.keep, hlt, hx1, wrap_i64, h6]

theorem val_big (x : UInt8) (q : List UInt8) (h : q.length ≤ 7) : 4611686018427387904 ≤ val 0 (x :: q) ↔ q.length = 7 ∧ 64 ≤ x.toNat := by
  have hlo := val_lo q x.toNat
  have hhi := val_hi q x.toNat
  have hvx : val 0 (x :: q) = val x.toNat q := by simp [val]
  have hx := x.toNat_lt
  rw [hvx]
  generalize val x.toNat q = v at *
  generalize x.toNat = y at *
  generalize hk : q.length = k at *
  match k, h with
  | 0, _ | 1, _ | 2, _ | 3, _ | 4, _ | 5, _ | 6, _ | 7, _ => simp only [Nat.reducePow] at hlo hhi; omega

end Go.Abs.Try

namespace Go.Abs.Try
open Go Go.Abs
theorem fun16 (Φ : Nat → Option CallF) (bs r) (h : valF bs = some r) : ∃ k, evFun Φ k a16 bs = some r := by
  unfold valF at h
  split at h
  · next s =>
    obtain rfl := Option.some.inj h
    refine ⟨9, ?_⟩
    obtain ⟨l, rfl⟩ := mkBytes s
    have e : (⟨l.toArray⟩ : ByteArray).data.toList = l := by simp
    rw [e]; clear h e
    by_cases h8 : (8 : Int) < l.length
    · have hb : valBad l = true := by simp [valBad]; omega
      simp -implicitDefEqProofs [hb, a16, c16, h8]
    · have hl : l.length ≤ 8 := by omega
      match l with
      | [] =>
        have hb : valBad [] = false := by decide
        obtain ⟨s', h1, h2⟩ := loop16 Φ 9 [] (.int .i64 0) (.int .i64 0) (by simp) (by simp [val]) [] 0 0 9 rfl rfl (by simp) (by simp)
        simp -implicitDefEqProofs [hb, a16, c16, val]
        rw [iter_keep]
        simp [val] at h1 h2
        simp [h1, h2, envGet_set]
      | x :: q =>
        have hl' : (x :: q).length = q.length + 1 := rfl
        have h8' : ¬ (8 : Int) < q.length + 1 := by simp at h8; omega
        by_cases hx : x = 0
        · subst hx
          have hb : valBad (0 :: q) = true := by simp [valBad]
          simp -implicitDefEqProofs [hb, a16, c16, h8']
        · have hx' : ((x.toNat : Int) == 0) = false := by
            rw [beq_eq_false_iff_ne]
            intro h; apply hx; apply UInt8.toNat.inj; simp; omega
          have hbig := val_big x q (by omega)
          by_cases hv : 4611686018427387904 ≤ val 0 (x :: q)
          · obtain ⟨hs, hc⟩ := hbig.1 hv
            have h7 : ((q.length : Int) + 1 == 8) = true := by rw [beq_iff_eq]; omega
            have hb : valBad (x :: q) = true := by simp only [valBad, decide_eq_true hv, Bool.or_true]
            have hc' : (64 : Int) ≤ x.toNat := by omega
            simp -implicitDefEqProofs [hb, a16, c16, h8', hx', h7, hc']
          · have hv' : val 0 (x :: q) < 4611686018427387904 := by omega
            have hb : valBad (x :: q) = false := by simp only [valBad, decide_eq_false hv]; simp [hx]; omega
            obtain ⟨s', h1, h2⟩ := loop16 Φ 9 (x :: q) (.int .i64 0) (.int .i64 0) hl hv' (x :: q) 0 0 9 rfl rfl (by omega) (by simp)
            by_cases hs : q.length = 7
            · have h7 : ((q.length : Int) + 1 == 8) = true := by rw [beq_iff_eq]; omega
              have hc' : ¬ (64 : Int) ≤ x.toNat := fun z => hv (hbig.2 ⟨hs, by omega⟩)
              simp -implicitDefEqProofs [hb, a16, c16, h8', hx', h7, hc']
              rw [iter_keep]
              simp at h1
              simp [h1, h2, envGet_set]
            · have h7 : ((q.length : Int) + 1 == 8) = false := by rw [beq_eq_false_iff_ne]; omega
              simp -implicitDefEqProofs [hb, a16, c16, h8', hx', h7]
              rw [iter_keep]
              simp at h1
              simp [h1, h2, envGet_set]
  · cases h
end Go.Abs.Try

namespace Go.Abs.Try
open Go Go.Abs

def okF : CallF
  | [] => some (.bool true, [])
  | _ => none
def F1 : Nat → Option CallF
  | 13 => some numF
  | 14 => some numF
  | 15 => some valF
  | 16 => some valF
  | _ => none

theorem dig258 : dig 258 [] = [1, 2] := by simp [dig]
theorem val258 : val 0 [1, 2] = 258 := rfl
theorem bad258 : valBad [1, 2] = false := by decide
theorem bad0 : valBad [0] = true := by decide

theorem fun17 (bs r) (h : okF bs = some r) : ∃ k, evFun F1 k a17 bs = some r := by
  unfold okF at h
  split at h
  · obtain rfl := Option.some.inj h
    refine ⟨9, ?_⟩
    simp -implicitDefEqProofs [a17, c17, F1, numF, valF, dig258, dig_zero, val258, bad258, bad0]
  · cases h

def F2 : Nat → Option CallF
  | 17 => some okF
  | n => F1 n

theorem num_some (n : Int) : ∃ (l : List UInt8) (e : Int), numF [.int .i64 n] = some (.tup [.str ⟨l.toArray⟩, .int .i64 e], []) ∧
    ((e = 1 ∧ l = [] ∧ (n < 0 ∨ 4611686018427387903 < n)) ∨ (e = 0 ∧ l = dig n.toNat [] ∧ 0 ≤ n ∧ n ≤ 4611686018427387903)) := by
  by_cases h : n < 0 ∨ 4611686018427387903 < n
  · exact ⟨[], 1, by simp [numF, h], .inl ⟨rfl, rfl, h⟩⟩
  · exact ⟨_, 0, by simp only [numF, if_neg h], .inr ⟨rfl, rfl, by omega, by omega⟩⟩
theorem val_some (l : List UInt8) : ∃ (v : Nat) (e : Int), valF [.str ⟨l.toArray⟩] = some (.tup [.int .i64 v, .int .i64 e], []) ∧
    ((e = 11 ∧ v = 0 ∧ valBad l = true) ∨ (e = 0 ∧ v = val 0 l ∧ valBad l = false)) := by
  cases h : valBad l with
  | true => exact ⟨0, 11, by simp [valF, h], .inl ⟨rfl, rfl, rfl⟩⟩
  | false => exact ⟨_, 0, by simp [valF, h], .inr ⟨rfl, rfl, rfl⟩⟩

theorem law3 (n : Int) (s : ByteArray) : ∃ k, evFun F2 k a3 [.int .i64 n, .str s] = some (.bool true, []) := by
  obtain ⟨l, rfl⟩ := mkBytes s
  refine ⟨1, ?_⟩
  by_cases h : (262144 : Int) < l.length
  · simp -implicitDefEqProofs [a3, c3, h]
  · obtain ⟨x, e, h1, _⟩ := num_some n
    obtain ⟨v, f, h2, _⟩ := val_some l
    simp -implicitDefEqProofs [a3, c3, h, F2, F1, okF, h1, h2]

theorem val_dig : ∀ (n : Nat) (t : List UInt8), val 0 (dig n t) = val n t := by
  intro n
  induction n using Nat.strongRecOn with
  | ind n ih =>
    intro t
    by_cases h : n = 0
    · subst h; rw [dig_zero]
    · rw [dig_pos h, ih (n / 256) (by omega), val_cons]
      congr 1
      simp; omega
theorem dig_head : ∀ (n : Nat) (t : List UInt8), n ≠ 0 ∨ t.head? ≠ some 0 → (dig n t).head? ≠ some 0 := by
  intro n
  induction n using Nat.strongRecOn with
  | ind n ih =>
    intro t ht
    by_cases h : n = 0
    · subst h; rw [dig_zero]; exact ht.resolve_left (by simp)
    · rw [dig_pos h]
      by_cases h2 : n / 256 = 0
      · rw [h2, dig_zero]
        simp only [List.head?_cons, ne_eq, Option.some.injEq]
        intro e
        have := congrArg UInt8.toNat e
        simp at this; omega
      · exact ih _ (by omega) _ (.inl h2)
theorem dig_val : ∀ (l : List UInt8) (n : Nat) (t : List UInt8), n ≠ 0 ∨ l.head? ≠ some 0 → dig (val n l) t = dig n (l ++ t)
  | [], n, t, _ => rfl
  | x :: q, n, t, h => by
    have hx := x.toNat_lt
    have h0 : n * 256 + x.toNat ≠ 0 := by
      intro e
      rcases h with h | h
      · omega
      · apply h
        simp only [List.head?_cons, Option.some.injEq]
        apply UInt8.toNat.inj; simp; omega
    rw [val_cons, dig_val q _ t (.inl h0), dig_pos h0]
    congr 1
    · omega
    · simp only [List.cons_append, List.cons.injEq, and_true]
      apply UInt8.toNat.inj; simp

theorem dig_good (n : Int) (h0 : 0 ≤ n) (h1 : n ≤ 4611686018427387903) : valBad (dig n.toNat []) = false ∧ (val 0 (dig n.toNat []) : Int) = n := by
  have e : val 0 (dig n.toNat []) = n.toNat := by rw [val_dig]; rfl
  have hl := dig_len 8 n.toNat [] (by simp only [Nat.reducePow]; omega)
  have hh := dig_head n.toNat [] (.inr (by simp))
  refine ⟨?_, by omega⟩
  simp only [valBad, Bool.or_eq_false_iff, decide_eq_false_iff_not, beq_eq_false_iff_ne]
  simp at hl
  exact ⟨⟨by omega, hh⟩, by omega⟩
theorem val_good (l : List UInt8) (h : valBad l = false) : dig (val 0 l) [] = l ∧ val 0 l ≤ 4611686018427387903 := by
  simp only [valBad, Bool.or_eq_false_iff, decide_eq_false_iff_not, beq_eq_false_iff_ne] at h
  refine ⟨?_, by omega⟩
  rw [dig_val l 0 [] (.inr h.1.2), dig_zero, List.append_nil]

theorem law4 (n : Int) (s : ByteArray) : ∃ k, evFun F2 k a4 [.int .i64 n, .str s] = some (.bool true, []) := by
  obtain ⟨l, rfl⟩ := mkBytes s
  refine ⟨1, ?_⟩
  by_cases h : (262144 : Int) < l.length
  · simp -implicitDefEqProofs [a4, c4, h]
  · obtain ⟨x, e, h1, hx⟩ := num_some n
    obtain ⟨v, f, h2, hv⟩ := val_some l
    have hv' : ∃ y g, valF [.str ⟨x.toArray⟩] = some (.tup [.int .i64 y, .int .i64 g], []) ∧ (e = 1 ∨ (e = 0 ∧ g = 0 ∧ y = n)) := by
      obtain ⟨y, g, h3, hy⟩ := val_some x
      refine ⟨y, g, h3, ?_⟩
      rcases hx with ⟨rfl, _⟩ | ⟨rfl, rfl, q1, q2⟩
      · exact .inl rfl
      · obtain ⟨r1, r2⟩ := dig_good n q1 q2
        rw [r1] at hy
        rcases hy with ⟨_, _, z⟩ | ⟨rfl, rfl, _⟩
        · cases z
        · exact .inr ⟨rfl, rfl, r2⟩
    obtain ⟨y, g, h3, hy⟩ := hv'
    obtain ⟨b, u, h4, hb⟩ := num_some v
    have hb' : f = 11 ∨ (f = 0 ∧ u = 0 ∧ b = l) := by
      rcases hv with ⟨rfl, _⟩ | ⟨rfl, rfl, q⟩
      · exact .inl rfl
      · obtain ⟨r1, r2⟩ := val_good l q
        rcases hb with ⟨_, _, z⟩ | ⟨rfl, rfl, _⟩
        · omega
        · exact .inr ⟨rfl, rfl, by simpa using r1⟩
    rcases hy with rfl | ⟨rfl, rfl, rfl⟩ <;> rcases hb' with rfl | ⟨rfl, rfl, rfl⟩ <;>
      simp -implicitDefEqProofs [a4, c4, h, F2, F1, okF, h1, h2, h3, h4]
end Go.Abs.Try

namespace Go.Abs.Try
open Go Go.Abs Go.Proofs Go.RowKit

theorem phi0 : PhiOK Try.prog (fun _ => none) := fun _ _ h => by cases h
theorem ref13 : Refines Try.prog 13 numF := refines_of Try.func13 fit13 phi0 (fun bs r h => fun13 _ bs r h)
theorem ref14 : Refines Try.prog 14 numF := refines_of Try.func14 fit14 phi0 (fun bs r h => fun14 _ bs r h)
theorem ref15 : Refines Try.prog 15 valF := refines_of Try.func15 fit15 phi0 (fun bs r h => fun15 _ bs r h)
theorem ref16 : Refines Try.prog 16 valF := refines_of Try.func16 fit16 phi0 (fun bs r h => fun16 _ bs r h)
theorem phi1 : PhiOK Try.prog F1 := by
  intro f F h
  unfold F1 at h
  split at h
  · obtain rfl := Option.some.inj h; exact ⟨by kernel_rfl, ref13⟩
  · obtain rfl := Option.some.inj h; exact ⟨by kernel_rfl, ref14⟩
  · obtain rfl := Option.some.inj h; exact ⟨by kernel_rfl, ref15⟩
  · obtain rfl := Option.some.inj h; exact ⟨by kernel_rfl, ref16⟩
  · cases h
theorem ref17 : Refines Try.prog 17 okF := refines_of Try.func17 fit17 phi1 (fun bs r h => fun17 bs r h)
theorem phi2 : PhiOK Try.prog F2 := by
  intro f F h
  unfold F2 at h
  split at h
  · obtain rfl := Option.some.inj h; exact ⟨by kernel_rfl, ref17⟩
  · exact phi1 f F h

def lawIS : CallF
  | [.int .i64 _, .str _] => some (.bool true, [])
  | _ => none
theorem ref3 : Refines Try.prog 3 lawIS := refines_of Try.func3 fit3 phi2 (fun bs r h => by
  unfold lawIS at h
  split at h
  · next n s => obtain rfl := Option.some.inj h; exact law3 n s
  · cases h)
theorem ref4 : Refines Try.prog 4 lawIS := refines_of Try.func4 fit4 phi2 (fun bs r h => by
  unfold lawIS at h
  split at h
  · next n s => obtain rfl := Option.some.inj h; exact law4 n s
  · cases h)
theorem walk3 (n : Int) (s : ByteArray) (w : World) : Calls Try.prog 3 #[.int .i64 n, .string s] w fun e w' => e = .returned (.bool true) ∧ Below w.heap.size w w' :=
  ref3.law (bs := [.int .i64 n, .str s]) rfl (.cons0 (.int _ _) (.cons0 (.str _) .nil))
theorem walk4 (n : Int) (s : ByteArray) (w : World) : Calls Try.prog 4 #[.int .i64 n, .string s] w fun e w' => e = .returned (.bool true) ∧ Below w.heap.size w w' :=
  ref4.law (bs := [.int .i64 n, .str s]) rfl (.cons0 (.int _ _) (.cons0 (.str _) .nil))
end Go.Abs.Try
