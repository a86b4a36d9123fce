/- Part 1 of Pg: what our evaluation of a function's code says, the machine's run does; no condition of its own. -/
import Derived.Test.YtilfmhcbfchigaaAbsC
import Derived.Test.YtilfmhcbfchigaaProg
set_option linter.unusedVariables false
set_option linter.unusedSimpArgs false
set_option linter.unusedSectionVars false
namespace Go.Abs.Try
open Go Go.Abs
instance : Globs := ⟨[]⟩
def z38 : List AV := [(.int .i64 0), (.str ⟨#[]⟩)]
def z50 : List AV := List.replicate 8 (.int .u8 0)

/-- estreat/estreatlaw01.PackNumbers: parameters int string -/
def c3 : AC :=
  (.seq (.reg false [
    { dst := some 4, op := .mov (.c (.bool false)) }])
  ((.seq ((.seq (.reg false [
    { dst := some 13, op := .mov (.t 1) },
    { dst := some 14, op := .lenS (.t 13) },
    { dst := some 15, op := .bin .gtr (.t 14) (.c (.int .i64 262144)) }])
  (.cond (.t 15) ((.seq (.reg false [
    { dst := some 4, op := .mov (.c (.bool true)) }])
  (.ret))) (.skip))))
  (.keep [0, 1] [] ((.seq (.reg false [
    { dst := some 17, op := .mov (.t 0) },
    { dst := some 18, op := .call 19000 13 [(.t 17)] },
    { dst := some 16, op := .mov (.t 18) },
    { dst := some 19, op := .ext 0 (.t 16) },
    { dst := some 20, op := .ext 1 (.t 16) },
    { dst := some 5, op := .mov (.t 19) },
    { dst := some 6, op := .mov (.t 20) }])
  (.keep [0, 1, 5, 6] [] ((.seq (.reg false [
    { dst := some 22, op := .mov (.t 0) },
    { dst := some 23, op := .call 24000 14 [(.t 22)] },
    { dst := some 21, op := .mov (.t 23) },
    { dst := some 24, op := .ext 0 (.t 21) },
    { dst := some 25, op := .ext 1 (.t 21) },
    { dst := some 7, op := .mov (.t 24) },
    { dst := some 8, op := .mov (.t 25) }])
  (.keep [1, 5, 6, 7, 8] [] ((.seq (.reg false [
    { dst := some 27, op := .mov (.t 1) },
    { dst := some 28, op := .call 29000 15 [(.t 27)] },
    { dst := some 26, op := .mov (.t 28) },
    { dst := some 29, op := .ext 0 (.t 26) },
    { dst := some 30, op := .ext 1 (.t 26) },
    { dst := some 9, op := .mov (.t 29) },
    { dst := some 10, op := .mov (.t 30) }])
  (.keep [1, 5, 6, 7, 8, 9, 10] [] ((.seq (.reg false [
    { dst := some 32, op := .mov (.t 1) },
    { dst := some 33, op := .call 34000 16 [(.t 32)] },
    { dst := some 31, op := .mov (.t 33) },
    { dst := some 34, op := .ext 0 (.t 31) },
    { dst := some 35, op := .ext 1 (.t 31) },
    { dst := some 11, op := .mov (.t 34) },
    { dst := some 12, op := .mov (.t 35) }])
  (.keep [5, 6, 7, 8, 9, 10, 11, 12] [] ((.seq (.reg false [
    { dst := some 36, op := .call 37000 17 [] },
    { dst := some 37, op := .mov (.t 36) },
    { dst := some 38, op := .mov (.t 5), guard := some (37, true) },
    { dst := some 39, op := .mov (.t 7), guard := some (37, true) },
    { dst := some 40, op := .bin .eql (.t 38) (.t 39), guard := some (37, true) },
    { dst := some 41, op := .pick (.t 37) (.t 40) (.c (.bool false)) },
    { dst := some 42, op := .mov (.t 41) },
    { dst := some 43, op := .mov (.t 6), guard := some (42, true) },
    { dst := some 44, op := .mov (.t 8), guard := some (42, true) },
    { dst := some 45, op := .bin .eql (.t 43) (.t 44), guard := some (42, true) },
    { dst := some 46, op := .pick (.t 42) (.t 45) (.c (.bool false)) },
    { dst := some 47, op := .mov (.t 46) },
    { dst := some 48, op := .mov (.t 9), guard := some (47, true) },
    { dst := some 49, op := .mov (.t 11), guard := some (47, true) },
    { dst := some 50, op := .bin .eql (.t 48) (.t 49), guard := some (47, true) },
    { dst := some 51, op := .pick (.t 47) (.t 50) (.c (.bool false)) },
    { dst := some 52, op := .mov (.t 51) },
    { dst := some 53, op := .mov (.t 10), guard := some (52, true) },
    { dst := some 54, op := .mov (.t 12), guard := some (52, true) },
    { dst := some 55, op := .bin .eql (.t 53) (.t 54), guard := some (52, true) },
    { dst := some 56, op := .pick (.t 52) (.t 55) (.c (.bool false)) },
    { dst := some 4, op := .mov (.t 56) }])
  (.ret)))))))))))))))))))
/-- with its results -/
def a3 : AFun := ⟨c3, [(4, none)], 57⟩

/-- estreat/estreatlaw01.PackValues: parameters int string -/
def c4 : AC :=
  (.seq (.reg false [
    { dst := some 4, op := .mov (.c (.bool false)) }])
  ((.seq ((.seq (.reg false [
    { dst := some 13, op := .mov (.t 1) },
    { dst := some 14, op := .lenS (.t 13) },
    { dst := some 15, op := .bin .gtr (.t 14) (.c (.int .i64 262144)) }])
  (.cond (.t 15) ((.seq (.reg false [
    { dst := some 4, op := .mov (.c (.bool true)) }])
  (.ret))) (.skip))))
  (.keep [0, 1] [] ((.seq (.reg false [
    { dst := some 17, op := .mov (.t 0) },
    { dst := some 18, op := .call 19000 13 [(.t 17)] },
    { dst := some 16, op := .mov (.t 18) },
    { dst := some 19, op := .ext 0 (.t 16) },
    { dst := some 20, op := .ext 1 (.t 16) },
    { dst := some 5, op := .mov (.t 19) },
    { dst := some 6, op := .mov (.t 20) }])
  (.keep [0, 1, 5, 6] [] ((.seq (.reg false [
    { dst := some 22, op := .mov (.t 5) },
    { dst := some 23, op := .call 24000 15 [(.t 22)] },
    { dst := some 21, op := .mov (.t 23) },
    { dst := some 24, op := .ext 0 (.t 21) },
    { dst := some 25, op := .ext 1 (.t 21) },
    { dst := some 7, op := .mov (.t 24) },
    { dst := some 8, op := .mov (.t 25) }])
  (.keep [0, 1, 6, 7, 8] [] ((.seq ((.seq (.reg false [
    { dst := some 26, op := .mov (.t 6) },
    { dst := some 27, op := .bin .eql (.t 26) (.c (.int .i64 0)) },
    { dst := some 28, op := .mov (.t 27) },
    { dst := some 29, op := .mov (.t 8), guard := some (28, true) },
    { dst := some 30, op := .bin .neq (.t 29) (.c (.int .i64 0)), guard := some (28, true) },
    { dst := some 31, op := .mov (.t 30), guard := some (28, true) },
    { dst := some 32, op := .mov (.t 7), guard := some (31, false) },
    { dst := some 33, op := .mov (.t 0), guard := some (31, false) },
    { dst := some 34, op := .bin .neq (.t 32) (.t 33), guard := some (31, false) },
    { dst := some 35, op := .pick (.t 31) (.c (.bool true)) (.t 34), guard := some (28, true) },
    { dst := some 36, op := .pick (.t 28) (.t 35) (.c (.bool false)) }])
  (.cond (.t 36) ((.seq (.reg false [
    { dst := some 4, op := .mov (.c (.bool false)) }])
  (.ret))) (.skip))))
  (.keep [1] [] ((.seq (.reg false [
    { dst := some 38, op := .mov (.t 1) },
    { dst := some 39, op := .call 40000 15 [(.t 38)] },
    { dst := some 37, op := .mov (.t 39) },
    { dst := some 40, op := .ext 0 (.t 37) },
    { dst := some 41, op := .ext 1 (.t 37) },
    { dst := some 9, op := .mov (.t 40) },
    { dst := some 10, op := .mov (.t 41) }])
  (.keep [1, 9, 10] [] ((.seq ((.seq (.reg false [
    { dst := some 42, op := .mov (.t 10) },
    { dst := some 43, op := .bin .neq (.t 42) (.c (.int .i64 0)) }])
  (.cond (.t 43) ((.seq (.reg false [
    { dst := some 44, op := .call 45000 17 [] },
    { dst := some 4, op := .mov (.t 44) }])
  (.ret))) (.skip))))
  (.keep [1, 9] [] ((.seq (.reg false [
    { dst := some 46, op := .mov (.t 9) },
    { dst := some 47, op := .call 48000 13 [(.t 46)] },
    { dst := some 45, op := .mov (.t 47) },
    { dst := some 48, op := .ext 0 (.t 45) },
    { dst := some 49, op := .ext 1 (.t 45) },
    { dst := some 11, op := .mov (.t 48) },
    { dst := some 12, op := .mov (.t 49) }])
  (.keep [1, 11, 12] [] ((.seq (.reg false [
    { dst := some 50, op := .call 51000 17 [] },
    { dst := some 51, op := .mov (.t 50) },
    { dst := some 52, op := .mov (.t 12), guard := some (51, true) },
    { dst := some 53, op := .bin .eql (.t 52) (.c (.int .i64 0)), guard := some (51, true) },
    { dst := some 54, op := .pick (.t 51) (.t 53) (.c (.bool false)) },
    { dst := some 55, op := .mov (.t 54) },
    { dst := some 56, op := .mov (.t 11), guard := some (55, true) },
    { dst := some 57, op := .mov (.t 1), guard := some (55, true) },
    { dst := some 58, op := .bin .eql (.t 56) (.t 57), guard := some (55, true) },
    { dst := some 59, op := .pick (.t 55) (.t 58) (.c (.bool false)) },
    { dst := some 4, op := .mov (.t 59) }])
  (.ret)))))))))))))))))))))))))
/-- with its results -/
def a4 : AFun := ⟨c4, [(4, none)], 60⟩

/-- estreat/estreatlaw01.PackRises: parameters int int -/
def c5 : AC :=
  (.seq (.reg false [
    { dst := some 4, op := .mov (.c (.bool false)) }])
  ((.seq (.reg false [
    { dst := some 11, op := .mov (.t 0) },
    { dst := some 12, op := .call 13000 13 [(.t 11)] },
    { dst := some 10, op := .mov (.t 12) },
    { dst := some 13, op := .ext 0 (.t 10) },
    { dst := some 14, op := .ext 1 (.t 10) },
    { dst := some 5, op := .mov (.t 13) },
    { dst := some 6, op := .mov (.t 14) }])
  (.keep [0, 1, 5, 6] [] ((.seq (.reg false [
    { dst := some 16, op := .mov (.t 1) },
    { dst := some 17, op := .call 18000 13 [(.t 16)] },
    { dst := some 15, op := .mov (.t 17) },
    { dst := some 18, op := .ext 0 (.t 15) },
    { dst := some 19, op := .ext 1 (.t 15) },
    { dst := some 7, op := .mov (.t 18) },
    { dst := some 8, op := .mov (.t 19) }])
  (.keep [0, 1, 5, 6, 7, 8] [] ((.seq ((.seq (.reg false [
    { dst := some 20, op := .mov (.t 6) },
    { dst := some 21, op := .bin .neq (.t 20) (.c (.int .i64 0)) },
    { dst := some 22, op := .mov (.t 21) },
    { dst := some 23, op := .mov (.t 8), guard := some (22, false) },
    { dst := some 24, op := .bin .neq (.t 23) (.c (.int .i64 0)), guard := some (22, false) },
    { dst := some 25, op := .pick (.t 22) (.c (.bool true)) (.t 24) }])
  (.cond (.t 25) ((.seq (.reg false [
    { dst := some 26, op := .call 27000 17 [] },
    { dst := some 4, op := .mov (.t 26) }])
  (.ret))) (.skip))))
  (.keep [0, 1, 5, 7] [] ((.seq (.reg false [
    { dst := some 27, op := .mov (.t 5) },
    { dst := some 28, op := .lenS (.t 27) },
    { dst := some 29, op := .mov (.t 7) },
    { dst := some 30, op := .lenS (.t 29) },
    { dst := some 31, op := .bin .lss (.t 28) (.t 30) },
    { dst := some 32, op := .mov (.t 31) },
    { dst := some 33, op := .mov (.t 5), guard := some (32, false) },
    { dst := some 34, op := .lenS (.t 33), guard := some (32, false) },
    { dst := some 35, op := .mov (.t 7), guard := some (32, false) },
    { dst := some 36, op := .lenS (.t 35), guard := some (32, false) },
    { dst := some 37, op := .bin .eql (.t 34) (.t 36), guard := some (32, false) },
    { dst := some 38, op := .mov (.t 37), guard := some (32, false) },
    { dst := some 39, op := .mov (.t 5), guard := some (38, true) },
    { dst := some 40, op := .mov (.t 7), guard := some (38, true) },
    { dst := some 41, op := .bin .lss (.t 39) (.t 40), guard := some (38, true) },
    { dst := some 42, op := .pick (.t 38) (.t 41) (.c (.bool false)), guard := some (32, false) },
    { dst := some 43, op := .pick (.t 32) (.c (.bool true)) (.t 42) },
    { dst := some 9, op := .mov (.t 43) }])
  (.keep [0, 1, 5, 7, 9] [] ((.seq (.reg false [
    { dst := some 44, op := .call 45000 17 [] },
    { dst := some 45, op := .mov (.t 44) },
    { dst := some 46, op := .mov (.t 9), guard := some (45, true) },
    { dst := some 47, op := .mov (.t 0), guard := some (45, true) },
    { dst := some 48, op := .mov (.t 1), guard := some (45, true) },
    { dst := some 49, op := .bin .lss (.t 47) (.t 48), guard := some (45, true) },
    { dst := some 50, op := .eqb false (.t 46) (.t 49), guard := some (45, true) },
    { dst := some 51, op := .pick (.t 45) (.t 50) (.c (.bool false)) },
    { dst := some 52, op := .mov (.t 51) },
    { dst := some 53, op := .mov (.t 5), guard := some (52, true) },
    { dst := some 54, op := .mov (.t 7), guard := some (52, true) },
    { dst := some 55, op := .bin .eql (.t 53) (.t 54), guard := some (52, true) },
    { dst := some 56, op := .mov (.t 0), guard := some (52, true) },
    { dst := some 57, op := .mov (.t 1), guard := some (52, true) },
    { dst := some 58, op := .bin .eql (.t 56) (.t 57), guard := some (52, true) },
    { dst := some 59, op := .eqb false (.t 55) (.t 58), guard := some (52, true) },
    { dst := some 60, op := .pick (.t 52) (.t 59) (.c (.bool false)) },
    { dst := some 4, op := .mov (.t 60) }])
  (.ret))))))))))))))))
/-- with its results -/
def a5 : AFun := ⟨c5, [(4, none)], 61⟩

/-- estreat/estreatlaw01.PackFields: parameters []uint8 int string -/
def c6 : AC :=
  (.seq (.reg false [
    { dst := some 6, op := .mov (.c (.bool false)) }])
  ((.seq ((.seq (.reg false [
    { dst := some 13, op := .mov (.t 0) },
    { dst := some 14, op := .len (.t 13) },
    { dst := some 15, op := .bin .gtr (.t 14) (.c (.int .i64 262144)) },
    { dst := some 16, op := .mov (.t 15) },
    { dst := some 17, op := .mov (.t 2), guard := some (16, false) },
    { dst := some 18, op := .lenS (.t 17), guard := some (16, false) },
    { dst := some 19, op := .bin .gtr (.t 18) (.c (.int .i64 262144)), guard := some (16, false) },
    { dst := some 20, op := .pick (.t 16) (.c (.bool true)) (.t 19) }])
  (.cond (.t 20) ((.seq (.reg false [
    { dst := some 6, op := .mov (.c (.bool true)) }])
  (.ret))) (.skip))))
  (.keep [0, 1, 2] [100000] ((.seq (.reg false [
    { dst := some 21, op := .mov (.t 0) },
    { dst := some 22, op := .inl 18 [(.t 21)] },
    { dst := some 7, op := .mov (.t 22) }])
  ((.seq (.reg false [
    { dst := some 24, op := .mov (.t 7) },
    { dst := some 25, op := .mov (.t 1) },
    { dst := some 26, op := .mov (.t 2) },
    { dst := some 27, op := .call 28000 19 [(.t 24), (.t 25), (.t 26)] },
    { dst := some 23, op := .mov (.t 27) },
    { dst := some 28, op := .ext 0 (.t 23) },
    { dst := some 29, op := .ext 1 (.t 23) },
    { dst := some 8, op := .mov (.t 28) },
    { dst := some 9, op := .mov (.t 29) }])
  (.keep [0, 1, 2, 7, 8, 9] [28000, 100000, 3180007, 3180013, 3180014, 3180017] ((.seq (.reg false [
    { dst := some 31, op := .mov (.t 1) },
    { dst := some 32, op := .mov (.t 2) },
    { dst := some 33, op := .call 34000 20 [(.t 31), (.t 32)] },
    { dst := some 30, op := .mov (.t 33) },
    { dst := some 34, op := .ext 0 (.t 30) },
    { dst := some 35, op := .ext 1 (.t 30) },
    { dst := some 10, op := .mov (.t 34) },
    { dst := some 11, op := .mov (.t 35) }])
  (.keep [0, 7, 8, 9, 10, 11] [28000, 34000, 100000, 3180007, 3180013, 3180014, 3180017] ((.seq (.reg false [
    { dst := some 12, op := .mov (.c (.str ⟨#[]⟩)) }])
  ((.seq ((.seq (.reg false [
    { dst := some 36, op := .mov (.t 11) },
    { dst := some 37, op := .bin .eql (.t 36) (.c (.int .i64 0)) }])
  (.cond (.t 37) (.reg false [
    { dst := some 38, op := .mov (.t 0) },
    { dst := some 39, op := .b2s (.t 38) },
    { dst := some 40, op := .mov (.t 10) },
    { dst := some 41, op := .b2s (.t 40) },
    { dst := some 42, op := .bin .add (.t 39) (.t 41) },
    { dst := some 12, op := .mov (.t 42) }]) (.skip))))
  (.keep [0, 7, 8, 9, 11, 12] [28000, 100000, 3180007, 3180013, 3180014, 3180017] ((.seq (.reg false [
    { dst := some 43, op := .call 44000 21 [] },
    { dst := some 44, op := .mov (.t 43) },
    { dst := some 45, op := .mov (.t 9), guard := some (44, true) },
    { dst := some 46, op := .mov (.t 11), guard := some (44, true) },
    { dst := some 47, op := .bin .eql (.t 45) (.t 46), guard := some (44, true) },
    { dst := some 48, op := .pick (.t 44) (.t 47) (.c (.bool false)) },
    { dst := some 49, op := .mov (.t 48) },
    { dst := some 50, op := .mov (.t 8), guard := some (49, true) },
    { dst := some 51, op := .b2s (.t 50), guard := some (49, true) },
    { dst := some 52, op := .mov (.t 12), guard := some (49, true) },
    { dst := some 53, op := .bin .eql (.t 51) (.t 52), guard := some (49, true) },
    { dst := some 54, op := .pick (.t 49) (.t 53) (.c (.bool false)) },
    { dst := some 55, op := .mov (.t 54) },
    { dst := some 56, op := .mov (.t 7), guard := some (55, true) },
    { dst := some 57, op := .mov (.t 0), guard := some (55, true) },
    { dst := some 58, op := .inl 22 [(.t 56), (.t 57)], guard := some (55, true) },
    { dst := some 59, op := .pick (.t 55) (.t 58) (.c (.bool false)) },
    { dst := some 6, op := .mov (.t 59) }])
  (.ret))))))))))))))))))))
/-- with its results -/
def a6 : AFun := ⟨c6, [(6, none)], 60⟩

/-- estreat/estreatlaw01.PackGets: parameters []uint8 -/
def c7 : AC :=
  (.seq (.reg false [
    { dst := some 2, op := .mov (.c (.bool false)) }])
  ((.seq ((.seq (.reg false [
    { dst := some 10, op := .mov (.t 0) },
    { dst := some 11, op := .len (.t 10) },
    { dst := some 12, op := .bin .gtr (.t 11) (.c (.int .i64 262144)) }])
  (.cond (.t 12) ((.seq (.reg false [
    { dst := some 2, op := .mov (.c (.bool true)) }])
  (.ret))) (.skip))))
  (.keep [0] [100000] ((.seq (.reg false [
    { dst := some 13, op := .mov (.t 0) },
    { dst := some 14, op := .inl 18 [(.t 13)] },
    { dst := some 3, op := .mov (.t 14) }])
  ((.seq (.reg false [
    { dst := some 16, op := .mov (.t 3) },
    { dst := some 17, op := .call 18000 23 [(.t 16)] },
    { dst := some 15, op := .mov (.t 17) },
    { dst := some 18, op := .ext 0 (.t 15) },
    { dst := some 19, op := .ext 1 (.t 15) },
    { dst := some 20, op := .ext 2 (.t 15) },
    { dst := some 4, op := .alloc 4 z38 },
    { dst := none, op := .store 2 (.t 4) (.t 18) },
    { dst := some 5, op := .mov (.t 19) },
    { dst := some 6, op := .mov (.t 20) }])
  (.keep [0, 3, 4, 5, 6] [4, 100000, 3180007, 3180013, 3180014, 3180017] ((.seq (.reg false [
    { dst := some 22, op := .mov (.t 0) },
    { dst := some 23, op := .call 24000 24 [(.t 22)] },
    { dst := some 21, op := .mov (.t 23) },
    { dst := some 24, op := .ext 0 (.t 21) },
    { dst := some 25, op := .ext 1 (.t 21) },
    { dst := some 26, op := .ext 2 (.t 21) },
    { dst := some 7, op := .alloc 7 z38 },
    { dst := none, op := .store 2 (.t 7) (.t 24) },
    { dst := some 8, op := .mov (.t 25) },
    { dst := some 9, op := .mov (.t 26) }])
  (.keep [0, 3, 4, 5, 6, 7, 8, 9] [4, 7, 100000, 3180007, 3180013, 3180014, 3180017] ((.seq (.reg false [
    { dst := some 27, op := .call 28000 21 [] },
    { dst := some 28, op := .mov (.t 27) },
    { dst := some 29, op := .load (some 2) (.t 4), guard := some (28, true) },
    { dst := some 30, op := .load (some 2) (.t 7), guard := some (28, true) },
    { dst := some 31, op := .eqa false [0, 2] (.t 29) (.t 30), guard := some (28, true) },
    { dst := some 32, op := .pick (.t 28) (.t 31) (.c (.bool false)) },
    { dst := some 33, op := .mov (.t 32) },
    { dst := some 34, op := .mov (.t 5), guard := some (33, true) },
    { dst := some 35, op := .mov (.t 8), guard := some (33, true) },
    { dst := some 36, op := .bin .eql (.t 34) (.t 35), guard := some (33, true) },
    { dst := some 37, op := .pick (.t 33) (.t 36) (.c (.bool false)) },
    { dst := some 38, op := .mov (.t 37) },
    { dst := some 39, op := .mov (.t 6), guard := some (38, true) },
    { dst := some 40, op := .mov (.t 9), guard := some (38, true) },
    { dst := some 41, op := .bin .eql (.t 39) (.t 40), guard := some (38, true) },
    { dst := some 42, op := .pick (.t 38) (.t 41) (.c (.bool false)) },
    { dst := some 43, op := .mov (.t 42) },
    { dst := some 44, op := .mov (.t 3), guard := some (43, true) },
    { dst := some 45, op := .mov (.t 0), guard := some (43, true) },
    { dst := some 46, op := .inl 22 [(.t 44), (.t 45)], guard := some (43, true) },
    { dst := some 47, op := .pick (.t 43) (.t 46) (.c (.bool false)) },
    { dst := some 2, op := .mov (.t 47) }])
  (.ret)))))))))))))))
/-- with its results -/
def a7 : AFun := ⟨c7, [(2, none)], 48⟩

/-- estreat/estreatlaw01.PackBack: parameters int string []uint8 -/
def c8 : AC :=
  (.seq (.reg false [
    { dst := some 6, op := .mov (.c (.bool false)) }])
  ((.seq ((.seq (.reg false [
    { dst := some 13, op := .mov (.t 1) },
    { dst := some 14, op := .lenS (.t 13) },
    { dst := some 15, op := .bin .gtr (.t 14) (.c (.int .i64 262144)) },
    { dst := some 16, op := .mov (.t 15) },
    { dst := some 17, op := .mov (.t 2), guard := some (16, false) },
    { dst := some 18, op := .len (.t 17), guard := some (16, false) },
    { dst := some 19, op := .bin .gtr (.t 18) (.c (.int .i64 262144)), guard := some (16, false) },
    { dst := some 20, op := .pick (.t 16) (.c (.bool true)) (.t 19) }])
  (.cond (.t 20) ((.seq (.reg false [
    { dst := some 6, op := .mov (.c (.bool true)) }])
  (.ret))) (.skip))))
  (.keep [0, 1, 2] [100400] ((.seq (.reg false [
    { dst := some 22, op := .mov (.t 0) },
    { dst := some 23, op := .mov (.t 1) },
    { dst := some 24, op := .call 25000 19 [(.c .nilS), (.t 22), (.t 23)] },
    { dst := some 21, op := .mov (.t 24) },
    { dst := some 25, op := .ext 0 (.t 21) },
    { dst := some 26, op := .ext 1 (.t 21) },
    { dst := some 7, op := .mov (.t 25) },
    { dst := some 8, op := .mov (.t 26) }])
  (.keep [0, 1, 2, 7, 8] [39, 25000, 100400] ((.seq ((.seq (.reg false [
    { dst := some 27, op := .mov (.t 8) },
    { dst := some 28, op := .bin .neq (.t 27) (.c (.int .i64 0)) }])
  (.cond (.t 28) ((.seq (.reg false [
    { dst := some 29, op := .call 30000 21 [] },
    { dst := some 30, op := .mov (.t 29) },
    { dst := some 31, op := .mov (.t 7), guard := some (30, true) },
    { dst := some 32, op := .len (.t 31), guard := some (30, true) },
    { dst := some 33, op := .bin .eql (.t 32) (.c (.int .i64 0)), guard := some (30, true) },
    { dst := some 34, op := .pick (.t 30) (.t 33) (.c (.bool false)) },
    { dst := some 6, op := .mov (.t 34) }])
  (.ret))) (.skip))))
  (.keep [0, 1, 2, 7] [39, 25000, 100400] ((.seq (.reg false [
    { dst := some 35, op := .mov (.t 7) },
    { dst := some 36, op := .len (.t 35) },
    { dst := some 9, op := .mov (.t 36) }])
  ((.seq (.reg false [
    { dst := some 37, op := .mov (.t 7) },
    { dst := some 38, op := .mov (.t 2) },
    { dst := some 39, op := .app 39 1 1 (.t 37) (.t 38) },
    { dst := some 7, op := .mov (.t 39) }])
  (.keep [0, 1, 7, 9] [39, 25000] ((.seq (.reg false [
    { dst := some 41, op := .mov (.t 7) },
    { dst := some 42, op := .call 43000 23 [(.t 41)] },
    { dst := some 40, op := .mov (.t 42) },
    { dst := some 43, op := .ext 0 (.t 40) },
    { dst := some 44, op := .ext 1 (.t 40) },
    { dst := some 45, op := .ext 2 (.t 40) },
    { dst := some 10, op := .alloc 10 z38 },
    { dst := none, op := .store 2 (.t 10) (.t 43) },
    { dst := some 11, op := .mov (.t 44) },
    { dst := some 12, op := .mov (.t 45) }])
  (.keep [0, 1, 9, 10, 11, 12] [10] ((.seq (.reg false [
    { dst := some 46, op := .call 47000 21 [] },
    { dst := some 47, op := .mov (.t 46) },
    { dst := some 48, op := .mov (.t 12), guard := some (47, true) },
    { dst := some 49, op := .bin .eql (.t 48) (.c (.int .i64 0)), guard := some (47, true) },
    { dst := some 50, op := .pick (.t 47) (.t 49) (.c (.bool false)) },
    { dst := some 51, op := .mov (.t 50) },
    { dst := some 52, op := .mov (.t 11), guard := some (51, true) },
    { dst := some 53, op := .mov (.t 9), guard := some (51, true) },
    { dst := some 54, op := .bin .eql (.t 52) (.t 53), guard := some (51, true) },
    { dst := some 55, op := .pick (.t 51) (.t 54) (.c (.bool false)) },
    { dst := some 56, op := .mov (.t 55) },
    { dst := some 57, op := .fad 0 (.t 10), guard := some (56, true) },
    { dst := some 58, op := .load none (.t 57), guard := some (56, true) },
    { dst := some 59, op := .mov (.t 0), guard := some (56, true) },
    { dst := some 60, op := .bin .eql (.t 58) (.t 59), guard := some (56, true) },
    { dst := some 61, op := .pick (.t 56) (.t 60) (.c (.bool false)) },
    { dst := some 62, op := .mov (.t 61) },
    { dst := some 63, op := .fad 1 (.t 10), guard := some (62, true) },
    { dst := some 64, op := .load none (.t 63), guard := some (62, true) },
    { dst := some 65, op := .mov (.t 1), guard := some (62, true) },
    { dst := some 66, op := .bin .eql (.t 64) (.t 65), guard := some (62, true) },
    { dst := some 67, op := .pick (.t 62) (.t 66) (.c (.bool false)) },
    { dst := some 6, op := .mov (.t 67) }])
  (.ret)))))))))))))))))))))
/-- with its results -/
def a8 : AFun := ⟨c8, [(6, none)], 68⟩

/-- estreat/estreatlaw01.PackLays: parameters []api.Field -/
def c9 : AC :=
  (.seq (.reg false [
    { dst := some 2, op := .mov (.c (.bool false)) }])
  ((.seq ((.seq (.reg false [
    { dst := some 9, op := .mov (.t 0) },
    { dst := some 10, op := .call 11000 25 [(.t 9)] }])
  (.cond (.t 10) ((.seq (.reg false [
    { dst := some 2, op := .mov (.c (.bool true)) }])
  (.ret))) (.skip))))
  ((.seq (.reg false [
    { dst := some 12, op := .mov (.t 0) },
    { dst := some 13, op := .call 14000 26 [(.t 12)] },
    { dst := some 11, op := .mov (.t 13) },
    { dst := some 14, op := .ext 0 (.t 11) },
    { dst := some 15, op := .ext 1 (.t 11) },
    { dst := some 3, op := .mov (.t 14) },
    { dst := some 4, op := .mov (.t 15) }])
  (.keep [0, 3, 4] [14000, 100000] ((.seq (.reg false [
    { dst := some 17, op := .mov (.t 0) },
    { dst := some 18, op := .call 19000 27 [(.t 17)] },
    { dst := some 16, op := .mov (.t 18) },
    { dst := some 19, op := .ext 0 (.t 16) },
    { dst := some 20, op := .ext 1 (.t 16) },
    { dst := some 5, op := .mov (.t 19) },
    { dst := some 6, op := .mov (.t 20) }])
  (.keep [0, 3, 4, 5, 6] [14000, 19000, 100000] ((.seq ((.seq (.reg false [
    { dst := some 21, op := .mov (.t 4) },
    { dst := some 22, op := .mov (.t 6) },
    { dst := some 23, op := .bin .neq (.t 21) (.t 22) },
    { dst := some 24, op := .mov (.t 23) },
    { dst := some 25, op := .mov (.t 3), guard := some (24, false) },
    { dst := some 26, op := .b2s (.t 25), guard := some (24, false) },
    { dst := some 27, op := .mov (.t 5), guard := some (24, false) },
    { dst := some 28, op := .b2s (.t 27), guard := some (24, false) },
    { dst := some 29, op := .bin .neq (.t 26) (.t 28), guard := some (24, false) },
    { dst := some 30, op := .pick (.t 24) (.c (.bool true)) (.t 29) }])
  (.cond (.t 30) ((.seq (.reg false [
    { dst := some 2, op := .mov (.c (.bool false)) }])
  (.ret))) (.skip))))
  (.keep [0, 3, 4] [14000, 100000] ((.seq ((.seq (.reg false [
    { dst := some 31, op := .mov (.t 4) },
    { dst := some 32, op := .bin .neq (.t 31) (.c (.int .i64 0)) }])
  (.cond (.t 32) ((.seq (.reg false [
    { dst := some 33, op := .call 34000 28 [] },
    { dst := some 2, op := .mov (.t 33) }])
  (.ret))) (.skip))))
  (.keep [0, 3] [14000, 100000] ((.seq (.reg false [
    { dst := some 35, op := .mov (.t 3) },
    { dst := some 36, op := .call 37000 29 [(.t 35)] },
    { dst := some 34, op := .mov (.t 36) },
    { dst := some 37, op := .ext 0 (.t 34) },
    { dst := some 38, op := .ext 1 (.t 34) },
    { dst := some 7, op := .mov (.t 37) },
    { dst := some 8, op := .mov (.t 38) }])
  (.keep [0, 7, 8] [37000, 100000] ((.seq (.reg false [
    { dst := some 39, op := .call 40000 28 [] },
    { dst := some 40, op := .mov (.t 39) },
    { dst := some 41, op := .mov (.t 8), guard := some (40, true) },
    { dst := some 42, op := .bin .eql (.t 41) (.c (.int .i64 0)), guard := some (40, true) },
    { dst := some 43, op := .pick (.t 40) (.t 42) (.c (.bool false)) },
    { dst := some 44, op := .mov (.t 43) },
    { dst := some 45, op := .mov (.t 7), guard := some (44, true) },
    { dst := some 46, op := .mov (.t 0), guard := some (44, true) },
    { dst := some 47, op := .call 48000 30 [(.t 45), (.t 46)], guard := some (44, true) },
    { dst := some 48, op := .pick (.t 44) (.t 47) (.c (.bool false)) },
    { dst := some 2, op := .mov (.t 48) }])
  (.ret)))))))))))))))))))))
/-- with its results -/
def a9 : AFun := ⟨c9, [(2, none)], 49⟩

/-- estreat/estreatlaw01.PackReads: parameters []uint8 -/
def c10 : AC :=
  (.seq (.reg false [
    { dst := some 2, op := .mov (.c (.bool false)) }])
  ((.seq ((.seq (.reg false [
    { dst := some 10, op := .mov (.t 0) },
    { dst := some 11, op := .len (.t 10) },
    { dst := some 12, op := .bin .gtr (.t 11) (.c (.int .i64 262144)) }])
  (.cond (.t 12) ((.seq (.reg false [
    { dst := some 2, op := .mov (.c (.bool true)) }])
  (.ret))) (.skip))))
  (.keep [0] [100000] ((.seq (.reg false [
    { dst := some 13, op := .mov (.t 0) },
    { dst := some 14, op := .inl 18 [(.t 13)] },
    { dst := some 3, op := .mov (.t 14) }])
  ((.seq (.reg false [
    { dst := some 16, op := .mov (.t 3) },
    { dst := some 17, op := .call 18000 29 [(.t 16)] },
    { dst := some 15, op := .mov (.t 17) },
    { dst := some 18, op := .ext 0 (.t 15) },
    { dst := some 19, op := .ext 1 (.t 15) },
    { dst := some 4, op := .mov (.t 18) },
    { dst := some 5, op := .mov (.t 19) }])
  (.keep [0, 3, 4, 5] [18000, 100000, 3180007, 3180013, 3180014, 3180017] ((.seq (.reg false [
    { dst := some 21, op := .mov (.t 0) },
    { dst := some 22, op := .call 23000 31 [(.t 21)] },
    { dst := some 20, op := .mov (.t 22) },
    { dst := some 23, op := .ext 0 (.t 20) },
    { dst := some 24, op := .ext 1 (.t 20) },
    { dst := some 6, op := .mov (.t 23) },
    { dst := some 7, op := .mov (.t 24) }])
  (.keep [0, 3, 4, 5, 6, 7] [18000, 23000, 100000, 3180007, 3180013, 3180014, 3180017] ((.seq ((.seq (.reg false [
    { dst := some 25, op := .mov (.t 5) },
    { dst := some 26, op := .mov (.t 7) },
    { dst := some 27, op := .bin .neq (.t 25) (.t 26) },
    { dst := some 28, op := .mov (.t 27) },
    { dst := some 29, op := .mov (.t 4), guard := some (28, false) },
    { dst := some 30, op := .mov (.t 6), guard := some (28, false) },
    { dst := some 31, op := .call 32000 30 [(.t 29), (.t 30)], guard := some (28, false) },
    { dst := some 32, op := .un .not (.t 31), guard := some (28, false) },
    { dst := some 33, op := .pick (.t 28) (.c (.bool true)) (.t 32) },
    { dst := some 34, op := .mov (.t 33) },
    { dst := some 35, op := .mov (.t 3), guard := some (34, false) },
    { dst := some 36, op := .mov (.t 0), guard := some (34, false) },
    { dst := some 37, op := .inl 22 [(.t 35), (.t 36)], guard := some (34, false) },
    { dst := some 38, op := .un .not (.t 37), guard := some (34, false) },
    { dst := some 39, op := .pick (.t 34) (.c (.bool true)) (.t 38) }])
  (.cond (.t 39) ((.seq (.reg false [
    { dst := some 2, op := .mov (.c (.bool false)) }])
  (.ret))) (.skip))))
  (.keep [0, 4, 5] [18000, 100000] ((.seq ((.seq (.reg false [
    { dst := some 40, op := .mov (.t 5) },
    { dst := some 41, op := .bin .neq (.t 40) (.c (.int .i64 0)) }])
  (.cond (.t 41) ((.seq (.reg false [
    { dst := some 42, op := .call 43000 28 [] },
    { dst := some 2, op := .mov (.t 42) }])
  (.ret))) (.skip))))
  (.keep [0, 4] [18000, 100000] ((.seq (.reg false [
    { dst := some 44, op := .mov (.t 4) },
    { dst := some 45, op := .call 46000 26 [(.t 44)] },
    { dst := some 43, op := .mov (.t 45) },
    { dst := some 46, op := .ext 0 (.t 43) },
    { dst := some 47, op := .ext 1 (.t 43) },
    { dst := some 8, op := .mov (.t 46) },
    { dst := some 9, op := .mov (.t 47) }])
  (.keep [0, 8, 9] [46000, 100000] ((.seq (.reg false [
    { dst := some 48, op := .call 49000 28 [] },
    { dst := some 49, op := .mov (.t 48) },
    { dst := some 50, op := .mov (.t 9), guard := some (49, true) },
    { dst := some 51, op := .bin .eql (.t 50) (.c (.int .i64 0)), guard := some (49, true) },
    { dst := some 52, op := .pick (.t 49) (.t 51) (.c (.bool false)) },
    { dst := some 53, op := .mov (.t 52) },
    { dst := some 54, op := .mov (.t 8), guard := some (53, true) },
    { dst := some 55, op := .b2s (.t 54), guard := some (53, true) },
    { dst := some 56, op := .mov (.t 0), guard := some (53, true) },
    { dst := some 57, op := .b2s (.t 56), guard := some (53, true) },
    { dst := some 58, op := .bin .eql (.t 55) (.t 57), guard := some (53, true) },
    { dst := some 59, op := .pick (.t 53) (.t 58) (.c (.bool false)) },
    { dst := some 2, op := .mov (.t 59) }])
  (.ret))))))))))))))))))))))))
/-- with its results -/
def a10 : AFun := ⟨c10, [(2, none)], 60⟩

/-- estreat/estreatlaw01.PackApart: parameters []api.Field []api.Field -/
def c11 : AC :=
  (.seq (.reg false [
    { dst := some 4, op := .mov (.c (.bool false)) }])
  ((.seq ((.seq (.reg false [
    { dst := some 9, op := .mov (.t 0) },
    { dst := some 10, op := .call 11000 25 [(.t 9)] },
    { dst := some 11, op := .mov (.t 10) },
    { dst := some 12, op := .mov (.t 1), guard := some (11, false) },
    { dst := some 13, op := .call 14000 25 [(.t 12)], guard := some (11, false) },
    { dst := some 14, op := .pick (.t 11) (.c (.bool true)) (.t 13) }])
  (.cond (.t 14) ((.seq (.reg false [
    { dst := some 4, op := .mov (.c (.bool true)) }])
  (.ret))) (.skip))))
  (.keep [0, 1] [100000, 100200] ((.seq (.reg false [
    { dst := some 16, op := .mov (.t 0) },
    { dst := some 17, op := .call 18000 26 [(.t 16)] },
    { dst := some 15, op := .mov (.t 17) },
    { dst := some 18, op := .ext 0 (.t 15) },
    { dst := some 19, op := .ext 1 (.t 15) },
    { dst := some 5, op := .mov (.t 18) },
    { dst := some 6, op := .mov (.t 19) }])
  (.keep [0, 1, 5, 6] [18000, 100000, 100200] ((.seq (.reg false [
    { dst := some 21, op := .mov (.t 1) },
    { dst := some 22, op := .call 23000 26 [(.t 21)] },
    { dst := some 20, op := .mov (.t 22) },
    { dst := some 23, op := .ext 0 (.t 20) },
    { dst := some 24, op := .ext 1 (.t 20) },
    { dst := some 7, op := .mov (.t 23) },
    { dst := some 8, op := .mov (.t 24) }])
  (.keep [0, 1, 5, 6, 7, 8] [18000, 23000, 100000, 100200] ((.seq (.reg true [
    { dst := some 25, op := .call 26000 28 [] },
    { dst := some 26, op := .mov (.t 25), rs := [25], an := [0] },
    { dst := some 27, op := .mov (.t 6), guard := some (26, true), rs := [6, 26], an := [1] },
    { dst := some 28, op := .bin .neq (.t 27) (.c (.int .i64 0)), guard := some (26, true), rs := [26, 27], an := [1, 2] },
    { dst := some 29, op := .mov (.t 28), guard := some (26, true), rs := [26, 28], an := [1, 3] },
    { dst := some 30, op := .mov (.t 8), guard := some (29, false), rs := [8, 29], an := [4] },
    { dst := some 31, op := .bin .neq (.t 30) (.c (.int .i64 0)), guard := some (29, false), rs := [29, 30], an := [4, 5] },
    { dst := some 32, op := .pick (.t 29) (.c (.bool true)) (.t 31), guard := some (26, true), rs := [26, 29, 31], an := [1, 4, 6] },
    { dst := some 33, op := .mov (.t 32), guard := some (26, true), rs := [26, 32], an := [1, 7] },
    { dst := some 34, op := .mov (.t 5), guard := some (33, false), rs := [5, 33], tn := [18000], an := [8] },
    { dst := some 35, op := .b2s (.t 34), guard := some (33, false), rs := [33, 34], tn := [18000], an := [8, 9] },
    { dst := some 36, op := .mov (.t 7), guard := some (33, false), rs := [7, 33], tn := [23000], an := [8] },
    { dst := some 37, op := .b2s (.t 36), guard := some (33, false), rs := [33, 36], tn := [23000], an := [8, 11] },
    { dst := some 38, op := .bin .eql (.t 35) (.t 37), guard := some (33, false), rs := [33, 35, 37], an := [8, 10, 12] },
    { dst := some 39, op := .mov (.t 0), guard := some (33, false), rs := [0, 33], tn := [100000], an := [8] },
    { dst := some 40, op := .mov (.t 1), guard := some (33, false), rs := [1, 33], tn := [100200], an := [8] },
    { dst := some 41, op := .call 42000 30 [(.t 39), (.t 40)], guard := some (33, false), rs := [33, 39, 40], tn := [100000, 100200], an := [8, 14, 15] },
    { dst := some 42, op := .eqb false (.t 38) (.t 41), guard := some (33, false), rs := [33, 38, 41], an := [8, 13, 16] },
    { dst := some 43, op := .pick (.t 33) (.c (.bool true)) (.t 42), guard := some (26, true), rs := [26, 33, 42], an := [1, 8, 17] },
    { dst := some 44, op := .pick (.t 26) (.t 43) (.c (.bool false)), rs := [26, 43], an := [1, 18] },
    { dst := some 4, op := .mov (.t 44), rs := [44], an := [19] }])
  (.ret)))))))))))))
/-- with its results -/
def a11 : AFun := ⟨c11, [(4, none)], 45⟩

/-- estreat/estreatlaw01.PackEnds: parameters []api.Field int -/
def c12 : AC :=
  (.seq (.reg false [
    { dst := some 4, op := .mov (.c (.bool false)) }])
  ((.seq ((.seq (.reg false [
    { dst := some 9, op := .mov (.t 0) },
    { dst := some 10, op := .call 11000 25 [(.t 9)] }])
  (.cond (.t 10) ((.seq (.reg false [
    { dst := some 4, op := .mov (.c (.bool true)) }])
  (.ret))) (.skip))))
  ((.seq (.reg false [
    { dst := some 12, op := .mov (.t 0) },
    { dst := some 13, op := .call 14000 26 [(.t 12)] },
    { dst := some 11, op := .mov (.t 13) },
    { dst := some 14, op := .ext 0 (.t 11) },
    { dst := some 15, op := .ext 1 (.t 11) },
    { dst := some 5, op := .mov (.t 14) },
    { dst := some 6, op := .mov (.t 15) }])
  (.keep [0, 1, 5, 6] [14000, 100000] ((.seq ((.seq (.reg false [
    { dst := some 16, op := .mov (.t 6) },
    { dst := some 17, op := .bin .neq (.t 16) (.c (.int .i64 0)) },
    { dst := some 18, op := .mov (.t 17) },
    { dst := some 19, op := .mov (.t 1), guard := some (18, false) },
    { dst := some 20, op := .bin .lss (.t 19) (.c (.int .i64 0)), guard := some (18, false) },
    { dst := some 21, op := .pick (.t 18) (.c (.bool true)) (.t 20) },
    { dst := some 22, op := .mov (.t 21) },
    { dst := some 23, op := .mov (.t 1), guard := some (22, false) },
    { dst := some 24, op := .mov (.t 5), guard := some (22, false) },
    { dst := some 25, op := .len (.t 24), guard := some (22, false) },
    { dst := some 26, op := .bin .gtr (.t 23) (.t 25), guard := some (22, false) },
    { dst := some 27, op := .pick (.t 22) (.c (.bool true)) (.t 26) }])
  (.cond (.t 27) ((.seq (.reg false [
    { dst := some 28, op := .call 29000 28 [] },
    { dst := some 4, op := .mov (.t 28) }])
  (.ret))) (.skip))))
  (.keep [0, 1, 5] [14000, 100000] ((.seq (.reg false [
    { dst := some 30, op := .mov (.t 5) },
    { dst := some 31, op := .mov (.t 1) },
    { dst := some 32, op := .slc 1 (.t 30) none (some (.t 31)) none },
    { dst := some 33, op := .call 34000 29 [(.t 32)] },
    { dst := some 29, op := .mov (.t 33) },
    { dst := some 34, op := .ext 0 (.t 29) },
    { dst := some 35, op := .ext 1 (.t 29) },
    { dst := some 7, op := .mov (.t 34) },
    { dst := some 8, op := .mov (.t 35) }])
  (.keep [0, 7, 8] [34000, 100000] ((.seq ((.seq (.reg false [
    { dst := some 36, op := .mov (.t 8) },
    { dst := some 37, op := .bin .neq (.t 36) (.c (.int .i64 0)) }])
  (.cond (.t 37) ((.seq (.reg false [
    { dst := some 38, op := .call 39000 28 [] },
    { dst := some 39, op := .mov (.t 38) },
    { dst := some 40, op := .mov (.t 8), guard := some (39, true) },
    { dst := some 41, op := .bin .eql (.t 40) (.c (.int .i64 10)), guard := some (39, true) },
    { dst := some 42, op := .pick (.t 39) (.t 41) (.c (.bool false)) },
    { dst := some 43, op := .mov (.t 42) },
    { dst := some 44, op := .mov (.t 7), guard := some (43, true) },
    { dst := some 45, op := .len (.t 44), guard := some (43, true) },
    { dst := some 46, op := .bin .eql (.t 45) (.c (.int .i64 0)), guard := some (43, true) },
    { dst := some 47, op := .pick (.t 43) (.t 46) (.c (.bool false)) },
    { dst := some 4, op := .mov (.t 47) }])
  (.ret))) (.skip))))
  (.keep [0, 7] [34000, 100000] ((.seq (.reg false [
    { dst := some 48, op := .call 49000 28 [] },
    { dst := some 49, op := .mov (.t 48) },
    { dst := some 50, op := .mov (.t 7), guard := some (49, true) },
    { dst := some 51, op := .len (.t 50), guard := some (49, true) },
    { dst := some 52, op := .mov (.t 0), guard := some (49, true) },
    { dst := some 53, op := .len (.t 52), guard := some (49, true) },
    { dst := some 54, op := .bin .leq (.t 51) (.t 53), guard := some (49, true) },
    { dst := some 55, op := .pick (.t 49) (.t 54) (.c (.bool false)) },
    { dst := some 56, op := .mov (.t 55) },
    { dst := some 57, op := .mov (.t 7), guard := some (56, true) },
    { dst := some 58, op := .mov (.t 0), guard := some (56, true) },
    { dst := some 59, op := .mov (.t 7), guard := some (56, true) },
    { dst := some 60, op := .len (.t 59), guard := some (56, true) },
    { dst := some 61, op := .slc 2 (.t 58) none (some (.t 60)) none, guard := some (56, true) },
    { dst := some 62, op := .call 63000 30 [(.t 57), (.t 61)], guard := some (56, true) },
    { dst := some 63, op := .pick (.t 56) (.t 62) (.c (.bool false)) },
    { dst := some 4, op := .mov (.t 63) }])
  (.ret))))))))))))))))))
/-- with its results -/
def a12 : AFun := ⟨c12, [(4, none)], 64⟩

def b13_0 : AC :=
  (.seq ((.seq (.reg false [
    { dst := some 12, op := .mov (.t 0) },
    { dst := some 13, op := .bin .gtr (.t 12) (.c (.int .i64 0)) }])
  (.cond (.t 13) (.skip) (.exit 0))))
  ((.seq (.block 1 ((.seq (.reg false [
    { dst := some 16, op := .mov (.t 5) },
    { dst := some 17, op := .bin .sub (.t 16) (.c (.int .i64 1)) },
    { dst := some 5, op := .mov (.t 17) }])
  (.reg false [
    { dst := some 18, op := .mov (.t 5) },
    { dst := some 19, op := .mov (.t 0) },
    { dst := some 20, op := .conv .u8 (.t 19) },
    { dst := some 21, op := .iada 8 1 (.t 4) (.t 18) },
    { dst := none, op := .store 1 (.t 21) (.t 20) }]))))
  (.keep [0, 4, 5] [4] (.reg false [
    { dst := some 14, op := .mov (.t 0) },
    { dst := some 15, op := .bin .shr (.t 14) (.c (.int .u64 8)) },
    { dst := some 0, op := .mov (.t 15) }])))))
/-- estreat/pack.Number: parameters int -/
def c13 : AC :=
  (.seq (.reg false [
    { dst := some 2, op := .mov (.c (.str ⟨#[]⟩)) },
    { dst := some 3, op := .mov (.c (.int .i64 0)) }])
  ((.seq ((.seq (.reg false [
    { dst := some 6, op := .mov (.t 0) },
    { dst := some 7, op := .bin .lss (.t 6) (.c (.int .i64 0)) },
    { dst := some 8, op := .mov (.t 7) },
    { dst := some 9, op := .mov (.t 0), guard := some (8, false) },
    { dst := some 10, op := .bin .gtr (.t 9) (.c (.int .i64 4611686018427387903)), guard := some (8, false) },
    { dst := some 11, op := .pick (.t 8) (.c (.bool true)) (.t 10) }])
  (.cond (.t 11) ((.seq (.reg false [
    { dst := some 2, op := .mov (.c (.str ⟨#[]⟩)) },
    { dst := some 3, op := .mov (.c (.int .i64 1)) }])
  (.ret))) (.skip))))
  (.keep [0] [] ((.seq (.reg false [
    { dst := some 4, op := .alloc 4 z50 }])
  ((.seq (.reg false [
    { dst := some 5, op := .mov (.c (.int .i64 8)) }])
  ((.seq (.block 0 (.loop [0, 4, 5] [4] b13_0))
  (.keep [4, 5] [4] ((.seq (.reg false [
    { dst := some 22, op := .mov (.t 5) },
    { dst := some 23, op := .slca 8 (.t 4) (some (.t 22)) none },
    { dst := some 24, op := .b2s (.t 23) },
    { dst := some 2, op := .mov (.t 24) },
    { dst := some 3, op := .mov (.c (.int .i64 0)) }])
  (.ret))))))))))))))
/-- with its results -/
def a13 : AFun := ⟨c13, [(2, none), (3, none)], 25⟩

def b14_0 : AC :=
  (.seq ((.seq (.reg false [
    { dst := some 11, op := .mov (.t 0) },
    { dst := some 12, op := .bin .gtr (.t 11) (.c (.int .i64 0)) }])
  (.cond (.t 12) (.skip) (.exit 0))))
  (.block 1 ((.seq (.reg false [
    { dst := some 13, op := .mov (.t 0) },
    { dst := some 14, op := .bin .rem (.t 13) (.c (.int .i64 256)) },
    { dst := some 15, op := .conv .u8 (.t 14) },
    { dst := some 16, op := .bslice 16 1 [(.int .u8 0)] 1 [(0, (.t 15))] },
    { dst := some 17, op := .b2s (.t 16) },
    { dst := some 18, op := .mov (.t 4) },
    { dst := some 19, op := .bin .add (.t 17) (.t 18) },
    { dst := some 4, op := .mov (.t 19) }])
  (.keep [0, 4] [] (.reg false [
    { dst := some 20, op := .mov (.t 0) },
    { dst := some 21, op := .bin .quo (.t 20) (.c (.int .i64 256)) },
    { dst := some 0, op := .mov (.t 21) }]))))))
/-- estreat/estreatref01.Number: parameters int -/
def c14 : AC :=
  (.seq (.reg false [
    { dst := some 2, op := .mov (.c (.str ⟨#[]⟩)) },
    { dst := some 3, op := .mov (.c (.int .i64 0)) }])
  ((.seq ((.seq (.reg false [
    { dst := some 5, op := .mov (.t 0) },
    { dst := some 6, op := .bin .lss (.t 5) (.c (.int .i64 0)) },
    { dst := some 7, op := .mov (.t 6) },
    { dst := some 8, op := .mov (.t 0), guard := some (7, false) },
    { dst := some 9, op := .bin .gtr (.t 8) (.c (.int .i64 4611686018427387903)), guard := some (7, false) },
    { dst := some 10, op := .pick (.t 7) (.c (.bool true)) (.t 9) }])
  (.cond (.t 10) ((.seq (.reg false [
    { dst := some 2, op := .mov (.c (.str ⟨#[]⟩)) },
    { dst := some 3, op := .mov (.c (.int .i64 1)) }])
  (.ret))) (.skip))))
  (.keep [0] [] ((.seq (.reg false [
    { dst := some 4, op := .mov (.c (.str ⟨#[]⟩)) }])
  ((.seq (.block 0 (.loop [0, 4] [] b14_0))
  (.keep [4] [] ((.seq (.reg false [
    { dst := some 22, op := .mov (.t 4) },
    { dst := some 2, op := .mov (.t 22) },
    { dst := some 3, op := .mov (.c (.int .i64 0)) }])
  (.ret))))))))))))
/-- with its results -/
def a14 : AFun := ⟨c14, [(2, none), (3, none)], 23⟩

def b15_0 : AC :=
  (.seq (.reg false [
    { dst := some 22, op := .bin .lss (.t 21) (.t 20) }])
  ((.seq (.cond (.t 22) (.skip) (.exit 1))
  ((.seq (.block 2 ((.seq (.reg false [
    { dst := some 23, op := .iad 1 (.t 19) (.t 21) },
    { dst := some 24, op := .load none (.t 23) },
    { dst := some 6, op := .mov (.t 24) }])
  ((.seq ((.seq (.reg false [
    { dst := some 25, op := .mov (.t 4) },
    { dst := some 26, op := .bin .gtr (.t 25) (.c (.int .i64 18014398509481983)) }])
  (.cond (.t 26) ((.seq (.reg false [
    { dst := some 2, op := .mov (.c (.int .i64 0)) },
    { dst := some 3, op := .mov (.c (.int .i64 11)) }])
  (.ret))) (.skip))))
  (.keep [4, 6, 19, 20, 21] [19] (.reg false [
    { dst := some 27, op := .mov (.t 4) },
    { dst := some 28, op := .bin .shl (.t 27) (.c (.int .u64 8)) },
    { dst := some 29, op := .mov (.t 6) },
    { dst := some 30, op := .conv .i64 (.t 29) },
    { dst := some 31, op := .bin .or (.t 28) (.t 30) },
    { dst := some 4, op := .mov (.t 31) }])))))))
  (.keep [4, 19, 20, 21] [19] (.reg false [
    { dst := some 32, op := .bin .add (.t 21) (.c (.int .i64 1)) },
    { dst := some 21, op := .mov (.t 32) }])))))))
/-- estreat/pack.Value: parameters string -/
def c15 : AC :=
  (.seq (.reg false [
    { dst := some 2, op := .mov (.c (.int .i64 0)) },
    { dst := some 3, op := .mov (.c (.int .i64 0)) }])
  ((.seq (.reg false [
    { dst := some 4, op := .mov (.c (.int .i64 0)) }])
  ((.seq (.block 0 ((.seq ((.seq (.reg false [
    { dst := some 8, op := .mov (.t 0) },
    { dst := some 9, op := .lenS (.t 8) },
    { dst := some 10, op := .bin .gtr (.t 9) (.c (.int .i64 8)) },
    { dst := some 7, op := .mov (.t 10) }])
  (.cond (.t 7) (.skip) (.reg false [
    { dst := some 11, op := .mov (.t 0) },
    { dst := some 12, op := .bin .neq (.t 11) (.c (.str ⟨#[]⟩)) },
    { dst := some 13, op := .mov (.t 12) },
    { dst := some 14, op := .mov (.t 0), guard := some (13, true) },
    { dst := some 15, op := .idxs (.t 14) (.c (.int .i64 0)), guard := some (13, true) },
    { dst := some 16, op := .bin .eql (.t 15) (.c (.int .u8 0)), guard := some (13, true) },
    { dst := some 17, op := .pick (.t 13) (.t 16) (.c (.bool false)) },
    { dst := some 7, op := .mov (.t 17) }]))))
  (.cond (.t 7) ((.seq (.reg false [
    { dst := some 2, op := .mov (.c (.int .i64 0)) },
    { dst := some 3, op := .mov (.c (.int .i64 11)) }])
  (.ret))) (.skip)))))
  (.keep [0, 4] [] ((.seq ((.seq (.reg false [
    { dst := some 18, op := .mov (.t 0) },
    { dst := some 19, op := .s2b 19 (.t 18) },
    { dst := some 20, op := .len (.t 19) },
    { dst := some 21, op := .mov (.c (.int .i64 0)) }])
  (.keep [4, 19, 20, 21] [19] (.block 1 (.loop [4, 19, 20, 21] [19] b15_0)))))
  (.keep [4] [] ((.seq (.reg false [
    { dst := some 33, op := .mov (.t 4) },
    { dst := some 2, op := .mov (.t 33) },
    { dst := some 3, op := .mov (.c (.int .i64 0)) }])
  (.ret))))))))))))
/-- with its results -/
def a15 : AFun := ⟨c15, [(2, none), (3, none)], 34⟩

def b16_0 : AC :=
  (.seq ((.seq (.reg false [
    { dst := some 29, op := .mov (.t 5) },
    { dst := some 30, op := .mov (.t 0) },
    { dst := some 31, op := .lenS (.t 30) },
    { dst := some 32, op := .bin .lss (.t 29) (.t 31) }])
  (.cond (.t 32) (.skip) (.exit 0))))
  (.keep [0, 4, 5] [] ((.seq (.block 1 (.reg false [
    { dst := some 35, op := .mov (.t 4) },
    { dst := some 36, op := .bin .mul (.c (.int .i64 256)) (.t 35) },
    { dst := some 37, op := .mov (.t 0) },
    { dst := some 38, op := .mov (.t 5) },
    { dst := some 39, op := .idxs (.t 37) (.t 38) },
    { dst := some 40, op := .conv .i64 (.t 39) },
    { dst := some 41, op := .bin .add (.t 36) (.t 40) },
    { dst := some 4, op := .mov (.t 41) }]))
  (.keep [0, 4, 5] [] (.reg false [
    { dst := some 33, op := .mov (.t 5) },
    { dst := some 34, op := .bin .add (.t 33) (.c (.int .i64 1)) },
    { dst := some 5, op := .mov (.t 34) }]))))))
/-- estreat/estreatref01.Value: parameters string -/
def c16 : AC :=
  (.seq (.reg false [
    { dst := some 2, op := .mov (.c (.int .i64 0)) },
    { dst := some 3, op := .mov (.c (.int .i64 0)) }])
  ((.seq ((.seq (.reg false [
    { dst := some 6, op := .mov (.t 0) },
    { dst := some 7, op := .lenS (.t 6) },
    { dst := some 8, op := .bin .gtr (.t 7) (.c (.int .i64 8)) },
    { dst := some 9, op := .mov (.t 8) },
    { dst := some 10, op := .mov (.t 0), guard := some (9, false) },
    { dst := some 11, op := .lenS (.t 10), guard := some (9, false) },
    { dst := some 12, op := .bin .gtr (.t 11) (.c (.int .i64 0)), guard := some (9, false) },
    { dst := some 13, op := .mov (.t 12), guard := some (9, false) },
    { dst := some 14, op := .mov (.t 0), guard := some (13, true) },
    { dst := some 15, op := .idxs (.t 14) (.c (.int .i64 0)), guard := some (13, true) },
    { dst := some 16, op := .bin .eql (.t 15) (.c (.int .u8 0)), guard := some (13, true) },
    { dst := some 17, op := .pick (.t 13) (.t 16) (.c (.bool false)), guard := some (9, false) },
    { dst := some 18, op := .pick (.t 9) (.c (.bool true)) (.t 17) },
    { dst := some 19, op := .mov (.t 18) },
    { dst := some 20, op := .mov (.t 0), guard := some (19, false) },
    { dst := some 21, op := .lenS (.t 20), guard := some (19, false) },
    { dst := some 22, op := .bin .eql (.t 21) (.c (.int .i64 8)), guard := some (19, false) },
    { dst := some 23, op := .mov (.t 22), guard := some (19, false) },
    { dst := some 24, op := .mov (.t 0), guard := some (23, true) },
    { dst := some 25, op := .idxs (.t 24) (.c (.int .i64 0)), guard := some (23, true) },
    { dst := some 26, op := .bin .geq (.t 25) (.c (.int .u8 64)), guard := some (23, true) },
    { dst := some 27, op := .pick (.t 23) (.t 26) (.c (.bool false)), guard := some (19, false) },
    { dst := some 28, op := .pick (.t 19) (.c (.bool true)) (.t 27) }])
  (.cond (.t 28) ((.seq (.reg false [
    { dst := some 2, op := .mov (.c (.int .i64 0)) },
    { dst := some 3, op := .mov (.c (.int .i64 11)) }])
  (.ret))) (.skip))))
  (.keep [0] [] ((.seq (.reg false [
    { dst := some 4, op := .mov (.c (.int .i64 0)) }])
  ((.seq ((.seq (.reg false [
    { dst := some 5, op := .mov (.c (.int .i64 0)) }])
  (.block 0 (.loop [0, 4, 5] [] b16_0))))
  (.keep [4] [] ((.seq (.reg false [
    { dst := some 42, op := .mov (.t 4) },
    { dst := some 2, op := .mov (.t 42) },
    { dst := some 3, op := .mov (.c (.int .i64 0)) }])
  (.ret))))))))))))
/-- with its results -/
def a16 : AFun := ⟨c16, [(2, none), (3, none)], 43⟩

/-- estreat/estreatlaw01.numbers: parameters  -/
def c17 : AC :=
  (.seq (.reg false [
    { dst := some 0, op := .mov (.c (.bool false)) }])
  ((.seq (.reg false [
    { dst := some 12, op := .call 13000 13 [(.c (.int .i64 258))] },
    { dst := some 11, op := .mov (.t 12) },
    { dst := some 13, op := .ext 0 (.t 11) },
    { dst := some 14, op := .ext 1 (.t 11) },
    { dst := some 1, op := .mov (.t 13) },
    { dst := some 2, op := .mov (.t 14) }])
  (.keep [1, 2] [] ((.seq (.reg false [
    { dst := some 16, op := .call 17000 13 [(.c (.int .i64 0))] },
    { dst := some 15, op := .mov (.t 16) },
    { dst := some 17, op := .ext 0 (.t 15) },
    { dst := some 18, op := .ext 1 (.t 15) },
    { dst := some 3, op := .mov (.t 17) },
    { dst := some 4, op := .mov (.t 18) }])
  (.keep [1, 2, 3, 4] [] ((.seq (.reg false [
    { dst := some 20, op := .call 21000 13 [(.c (.int .i64 (-1)))] },
    { dst := some 19, op := .mov (.t 20) },
    { dst := some 21, op := .ext 0 (.t 19) },
    { dst := some 22, op := .ext 1 (.t 19) },
    { dst := some 5, op := .mov (.t 21) },
    { dst := some 6, op := .mov (.t 22) }])
  (.keep [1, 2, 3, 4, 6] [] ((.seq (.reg false [
    { dst := some 24, op := .call 25000 15 [(.c (.str ⟨#[1, 2]⟩))] },
    { dst := some 23, op := .mov (.t 24) },
    { dst := some 25, op := .ext 0 (.t 23) },
    { dst := some 26, op := .ext 1 (.t 23) },
    { dst := some 7, op := .mov (.t 25) },
    { dst := some 8, op := .mov (.t 26) }])
  (.keep [1, 2, 3, 4, 6, 7, 8] [] ((.seq (.reg false [
    { dst := some 28, op := .call 29000 15 [(.c (.str ⟨#[0]⟩))] },
    { dst := some 27, op := .mov (.t 28) },
    { dst := some 29, op := .ext 0 (.t 27) },
    { dst := some 30, op := .ext 1 (.t 27) },
    { dst := some 9, op := .mov (.t 29) },
    { dst := some 10, op := .mov (.t 30) }])
  (.keep [1, 2, 3, 4, 6, 7, 8, 10] [] ((.seq (.reg false [
    { dst := some 31, op := .mov (.t 1) },
    { dst := some 32, op := .bin .eql (.t 31) (.c (.str ⟨#[1, 2]⟩)) },
    { dst := some 33, op := .mov (.t 32) },
    { dst := some 34, op := .mov (.t 2), guard := some (33, true) },
    { dst := some 35, op := .bin .eql (.t 34) (.c (.int .i64 0)), guard := some (33, true) },
    { dst := some 36, op := .pick (.t 33) (.t 35) (.c (.bool false)) },
    { dst := some 37, op := .mov (.t 36) },
    { dst := some 38, op := .mov (.t 3), guard := some (37, true) },
    { dst := some 39, op := .bin .eql (.t 38) (.c (.str ⟨#[]⟩)), guard := some (37, true) },
    { dst := some 40, op := .pick (.t 37) (.t 39) (.c (.bool false)) },
    { dst := some 41, op := .mov (.t 40) },
    { dst := some 42, op := .mov (.t 4), guard := some (41, true) },
    { dst := some 43, op := .bin .eql (.t 42) (.c (.int .i64 0)), guard := some (41, true) },
    { dst := some 44, op := .pick (.t 41) (.t 43) (.c (.bool false)) },
    { dst := some 45, op := .mov (.t 44) },
    { dst := some 46, op := .mov (.t 6), guard := some (45, true) },
    { dst := some 47, op := .bin .eql (.t 46) (.c (.int .i64 1)), guard := some (45, true) },
    { dst := some 48, op := .pick (.t 45) (.t 47) (.c (.bool false)) },
    { dst := some 49, op := .mov (.t 48) },
    { dst := some 50, op := .mov (.t 7), guard := some (49, true) },
    { dst := some 51, op := .bin .eql (.t 50) (.c (.int .i64 258)), guard := some (49, true) },
    { dst := some 52, op := .pick (.t 49) (.t 51) (.c (.bool false)) },
    { dst := some 53, op := .mov (.t 52) },
    { dst := some 54, op := .mov (.t 8), guard := some (53, true) },
    { dst := some 55, op := .bin .eql (.t 54) (.c (.int .i64 0)), guard := some (53, true) },
    { dst := some 56, op := .pick (.t 53) (.t 55) (.c (.bool false)) },
    { dst := some 57, op := .mov (.t 56) },
    { dst := some 58, op := .mov (.t 10), guard := some (57, true) },
    { dst := some 59, op := .bin .eql (.t 58) (.c (.int .i64 11)), guard := some (57, true) },
    { dst := some 60, op := .pick (.t 57) (.t 59) (.c (.bool false)) },
    { dst := some 0, op := .mov (.t 60) }])
  (.ret)))))))))))))))))))
/-- with its results -/
def a17 : AFun := ⟨c17, [(0, none)], 61⟩

def b18_0 : AC :=
  (.seq ((.seq (.reg false [
    { dst := some 8, op := .mov (.t 4) },
    { dst := some 9, op := .bin .lss (.t 8) (.c (.int .i64 7)) }])
  (.cond (.t 9) (.skip) (.exit 0))))
  ((.seq (.block 1 (.reg false [
    { dst := some 12, op := .mov (.t 3) },
    { dst := some 13, op := .bslice 13 1 [(.int .u8 0)] 1 [(0, (.c (.int .u8 195)))] },
    { dst := some 14, op := .app 14 1 1 (.t 12) (.t 13) },
    { dst := some 3, op := .mov (.t 14) }]))
  (.keep [0, 3, 4] [7, 14, 100000] (.reg false [
    { dst := some 10, op := .mov (.t 4) },
    { dst := some 11, op := .bin .add (.t 10) (.c (.int .i64 1)) },
    { dst := some 4, op := .mov (.t 11) }])))))
/-- estreat/estreatkeep.Lent: parameters []uint8 -/
def c18 : AC :=
  (.seq (.reg false [
    { dst := some 2, op := .mov (.c .nilS) }])
  ((.seq (.reg false [
    { dst := some 3, op := .mov (.c .nilS) }])
  ((.seq (.reg false [
    { dst := some 5, op := .mov (.t 3) },
    { dst := some 6, op := .mov (.t 0) },
    { dst := some 7, op := .app 7 1 1 (.t 5) (.t 6) },
    { dst := some 3, op := .mov (.t 7) }])
  (.keep [0, 3] [7, 14, 100000] ((.seq ((.seq (.reg false [
    { dst := some 4, op := .mov (.c (.int .i64 0)) }])
  (.block 0 (.loop [0, 3, 4] [7, 14, 100000] b18_0))))
  (.keep [0, 3] [7, 14, 100000] ((.seq (.reg false [
    { dst := some 15, op := .mov (.t 3) },
    { dst := some 16, op := .mov (.t 0) },
    { dst := some 17, op := .len (.t 16) },
    { dst := some 18, op := .slc 1 (.t 15) none (some (.t 17)) none },
    { dst := some 2, op := .mov (.t 18) }])
  (.ret))))))))))))
/-- with its results -/
def a18 : AFun := ⟨c18, [(2, none)], 19⟩

/-- estreat/pack.Put: parameters []uint8 int string -/
def c19 : AC :=
  (.seq (.reg false [
    { dst := some 6, op := .mov (.c .nilS) },
    { dst := some 7, op := .mov (.c (.int .i64 0)) }])
  ((.seq (.reg false [
    { dst := some 10, op := .mov (.t 1) },
    { dst := some 11, op := .mov (.t 2) },
    { dst := some 12, op := .build z38 [(0, 1, (.t 10)), (1, 1, (.t 11))] },
    { dst := some 8, op := .alloc 8 z38 },
    { dst := none, op := .store 2 (.t 8) (.t 12) }])
  (.keep [0, 2, 8] [8, 100000] ((.seq ((.seq (.reg false [
    { dst := some 13, op := .load (some 2) (.t 8) },
    { dst := some 14, op := .call 15000 32 [(.t 13), (.c (.int .i64 0))] },
    { dst := some 9, op := .mov (.t 14) }])
  ((.seq (.reg false [
    { dst := some 15, op := .mov (.t 9) },
    { dst := some 16, op := .bin .neq (.t 15) (.c (.int .i64 0)) }])
  (.cond (.t 16) ((.seq (.reg false [
    { dst := some 17, op := .mov (.t 9) },
    { dst := some 6, op := .mov (.c .nilS) },
    { dst := some 7, op := .mov (.t 17) }])
  (.ret))) (.skip))))))
  (.keep [0, 2, 8] [8, 100000] ((.seq (.reg true [
    { dst := some 18, op := .mov (.t 0), rs := [0], tn := [100000] },
    { dst := some 19, op := .len (.t 18), rs := [18], tn := [100000], an := [0] },
    { dst := some 20, op := .bin .add (.t 19) (.c (.int .i64 4)), rs := [19], an := [0, 1] },
    { dst := some 21, op := .mov (.t 2), rs := [2] },
    { dst := some 22, op := .lenS (.t 21), rs := [21], an := [3] },
    { dst := some 23, op := .bin .add (.t 20) (.t 22), rs := [20, 22], an := [0, 1, 2, 4] },
    { dst := some 24, op := .mks 24 1 1 [(.int .u8 0)] (.c (.int .i64 0)) (.t 23), rs := [23], tn := [24], wn := [24], an := [0, 1, 5] },
    { dst := some 25, op := .mov (.t 0), rs := [0], tn := [100000] },
    { dst := some 26, op := .app 26 1 1 (.t 24) (.t 25), rs := [24, 25], tn := [24, 26, 100000], wn := [24, 26, 100000], an := [0, 1, 6, 7] },
    { dst := some 27, op := .load (some 2) (.t 8), rs := [8], tn := [8] },
    { dst := some 28, op := .callm 29000 33 [(.t 26), (.t 27)] [true, false], rs := [26, 27], tn := [24, 26, 29000], wn := [24, 26, 29000], an := [6, 8, 9] },
    { dst := some 6, op := .mov (.t 28), rs := [28], tn := [29000], an := [10] },
    { dst := some 7, op := .mov (.c (.int .i64 0)) }])
  (.ret))))))))))
/-- with its results -/
def a19 : AFun := ⟨c19, [(6, none), (7, none)], 29⟩

/-- estreat/estreatref01.Put: parameters int string -/
def c20 : AC :=
  (.seq (.reg false [
    { dst := some 4, op := .mov (.c .nilS) },
    { dst := some 5, op := .mov (.c (.int .i64 0)) }])
  ((.seq (.reg false [
    { dst := some 7, op := .mov (.t 0) },
    { dst := some 8, op := .mov (.t 1) },
    { dst := some 9, op := .call 10000 34 [(.t 7), (.t 8)] },
    { dst := some 6, op := .mov (.t 9) }])
  (.keep [0, 1, 6] [] ((.seq ((.seq (.reg false [
    { dst := some 10, op := .mov (.t 6) },
    { dst := some 11, op := .bin .neq (.t 10) (.c (.int .i64 0)) }])
  (.cond (.t 11) ((.seq (.reg false [
    { dst := some 12, op := .mov (.t 6) },
    { dst := some 4, op := .mov (.c .nilS) },
    { dst := some 5, op := .mov (.t 12) }])
  (.ret))) (.skip))))
  (.keep [0, 1] [] ((.seq (.reg false [
    { dst := some 13, op := .mov (.t 0) },
    { dst := some 14, op := .mov (.t 1) },
    { dst := some 15, op := .call 16000 35 [(.t 13), (.t 14)] },
    { dst := some 4, op := .mov (.t 15) },
    { dst := some 5, op := .mov (.c (.int .i64 0)) }])
  (.ret))))))))))
/-- with its results -/
def a20 : AFun := ⟨c20, [(4, none), (5, none)], 16⟩

/-- estreat/estreatlaw01.fields: parameters  -/
def c21 : AC :=
  (.seq (.reg false [
    { dst := some 0, op := .mov (.c (.bool false)) }])
  ((.seq (.reg false [
    { dst := some 13, op := .call 14000 19 [(.c .nilS), (.c (.int .i64 7)), (.c (.str ⟨#[97, 98]⟩))] },
    { dst := some 12, op := .mov (.t 13) },
    { dst := some 14, op := .ext 0 (.t 12) },
    { dst := some 15, op := .ext 1 (.t 12) },
    { dst := some 1, op := .mov (.t 14) },
    { dst := some 2, op := .mov (.t 15) }])
  (.keep [1, 2] [14000] ((.seq (.reg false [
    { dst := some 17, op := .bslice 17 1 [(.int .u8 0)] 7 [(0, (.c (.int .u8 7))), (1, (.c (.int .u8 0))), (2, (.c (.int .u8 0))), (3, (.c (.int .u8 2))), (4, (.c (.int .u8 97))), (5, (.c (.int .u8 98))), (6, (.c (.int .u8 9)))] },
    { dst := some 18, op := .idc (.t 17) },
    { dst := some 19, op := .call 20000 23 [(.t 18)] },
    { dst := some 16, op := .mov (.t 19) },
    { dst := some 20, op := .ext 0 (.t 16) },
    { dst := some 21, op := .ext 1 (.t 16) },
    { dst := some 22, op := .ext 2 (.t 16) },
    { dst := some 3, op := .alloc 3 z38 },
    { dst := none, op := .store 2 (.t 3) (.t 20) },
    { dst := some 4, op := .mov (.t 21) },
    { dst := some 5, op := .mov (.t 22) }])
  (.keep [1, 2, 3, 4, 5] [3, 14000] ((.seq (.reg false [
    { dst := some 24, op := .bslice 24 1 [(.int .u8 0)] 5 [(0, (.c (.int .u8 7))), (1, (.c (.int .u8 0))), (2, (.c (.int .u8 0))), (3, (.c (.int .u8 2))), (4, (.c (.int .u8 97)))] },
    { dst := some 25, op := .idc (.t 24) },
    { dst := some 26, op := .call 27000 23 [(.t 25)] },
    { dst := some 23, op := .mov (.t 26) },
    { dst := some 27, op := .ext 0 (.t 23) },
    { dst := some 28, op := .ext 1 (.t 23) },
    { dst := some 29, op := .ext 2 (.t 23) },
    { dst := some 6, op := .alloc 6 z38 },
    { dst := none, op := .store 2 (.t 6) (.t 27) },
    { dst := some 7, op := .mov (.t 28) },
    { dst := some 8, op := .mov (.t 29) }])
  (.keep [1, 2, 3, 4, 5, 8] [3, 14000] ((.seq (.reg false [
    { dst := some 31, op := .bslice 31 1 [(.int .u8 0)] 4 [(0, (.c (.int .u8 0))), (1, (.c (.int .u8 0))), (2, (.c (.int .u8 0))), (3, (.c (.int .u8 0)))] },
    { dst := some 32, op := .call 33000 23 [(.t 31)] },
    { dst := some 30, op := .mov (.t 32) },
    { dst := some 33, op := .ext 0 (.t 30) },
    { dst := some 34, op := .ext 1 (.t 30) },
    { dst := some 35, op := .ext 2 (.t 30) },
    { dst := some 9, op := .alloc 9 z38 },
    { dst := none, op := .store 2 (.t 9) (.t 33) },
    { dst := some 10, op := .mov (.t 34) },
    { dst := some 11, op := .mov (.t 35) }])
  (.keep [1, 2, 3, 4, 5, 8, 11] [3, 14000] ((.seq (.reg false [
    { dst := some 36, op := .mov (.t 1) },
    { dst := some 37, op := .b2s (.t 36) },
    { dst := some 38, op := .bin .eql (.t 37) (.c (.str ⟨#[7, 0, 0, 2, 97, 98]⟩)) },
    { dst := some 39, op := .mov (.t 38) },
    { dst := some 40, op := .mov (.t 2), guard := some (39, true) },
    { dst := some 41, op := .bin .eql (.t 40) (.c (.int .i64 0)), guard := some (39, true) },
    { dst := some 42, op := .pick (.t 39) (.t 41) (.c (.bool false)) },
    { dst := some 43, op := .mov (.t 42) },
    { dst := some 44, op := .load (some 2) (.t 3), guard := some (43, true) },
    { dst := some 45, op := .build z38 [(0, 1, (.c (.int .i64 7))), (1, 1, (.c (.str ⟨#[97, 98]⟩)))], guard := some (43, true) },
    { dst := some 46, op := .eqa false [0, 2] (.t 44) (.t 45), guard := some (43, true) },
    { dst := some 47, op := .pick (.t 43) (.t 46) (.c (.bool false)) },
    { dst := some 48, op := .mov (.t 47) },
    { dst := some 49, op := .mov (.t 4), guard := some (48, true) },
    { dst := some 50, op := .bin .eql (.t 49) (.c (.int .i64 6)), guard := some (48, true) },
    { dst := some 51, op := .pick (.t 48) (.t 50) (.c (.bool false)) },
    { dst := some 52, op := .mov (.t 51) },
    { dst := some 53, op := .mov (.t 5), guard := some (52, true) },
    { dst := some 54, op := .bin .eql (.t 53) (.c (.int .i64 0)), guard := some (52, true) },
    { dst := some 55, op := .pick (.t 52) (.t 54) (.c (.bool false)) },
    { dst := some 56, op := .mov (.t 55) },
    { dst := some 57, op := .mov (.t 8), guard := some (56, true) },
    { dst := some 58, op := .bin .eql (.t 57) (.c (.int .i64 10)), guard := some (56, true) },
    { dst := some 59, op := .pick (.t 56) (.t 58) (.c (.bool false)) },
    { dst := some 60, op := .mov (.t 59) },
    { dst := some 61, op := .mov (.t 11), guard := some (60, true) },
    { dst := some 62, op := .bin .eql (.t 61) (.c (.int .i64 11)), guard := some (60, true) },
    { dst := some 63, op := .pick (.t 60) (.t 62) (.c (.bool false)) },
    { dst := some 0, op := .mov (.t 63) }])
  (.ret))))))))))))))))
/-- with its results -/
def a21 : AFun := ⟨c21, [(0, none)], 64⟩

def b22_0 : AC :=
  (.seq ((.seq (.reg false [
    { dst := some 19, op := .mov (.t 6) },
    { dst := some 20, op := .mov (.t 5) },
    { dst := some 21, op := .len (.t 20) },
    { dst := some 22, op := .bin .lss (.t 19) (.t 21) }])
  (.cond (.t 22) (.skip) (.exit 0))))
  (.keep [5, 6] [100000] ((.seq (.block 1 ((.seq (.reg false [
    { dst := some 25, op := .mov (.t 5) },
    { dst := some 26, op := .mov (.t 6) },
    { dst := some 27, op := .iad 1 (.t 25) (.t 26) },
    { dst := some 28, op := .load none (.t 27) },
    { dst := some 29, op := .bin .neq (.t 28) (.c (.int .u8 195)) }])
  (.cond (.t 29) ((.seq (.reg false [
    { dst := some 4, op := .mov (.c (.bool false)) }])
  (.ret))) (.skip)))))
  (.keep [5, 6] [100000] (.reg false [
    { dst := some 23, op := .mov (.t 6) },
    { dst := some 24, op := .bin .add (.t 23) (.c (.int .i64 1)) },
    { dst := some 6, op := .mov (.t 24) }]))))))
/-- estreat/estreatkeep.Kept: parameters []uint8 []uint8 -/
def c22 : AC :=
  (.seq (.reg false [
    { dst := some 4, op := .mov (.c (.bool false)) }])
  ((.seq ((.seq (.reg false [
    { dst := some 7, op := .mov (.t 0) },
    { dst := some 8, op := .b2s (.t 7) },
    { dst := some 9, op := .mov (.t 1) },
    { dst := some 10, op := .b2s (.t 9) },
    { dst := some 11, op := .bin .neq (.t 8) (.t 10) }])
  (.cond (.t 11) ((.seq (.reg false [
    { dst := some 4, op := .mov (.c (.bool false)) }])
  (.ret))) (.skip))))
  (.keep [0, 1] [100000, 100200] ((.seq (.reg false [
    { dst := some 12, op := .mov (.t 0) },
    { dst := some 13, op := .mov (.t 1) },
    { dst := some 14, op := .len (.t 13) },
    { dst := some 15, op := .bin .add (.t 14) (.c (.int .i64 7)) },
    { dst := some 16, op := .slc 1 (.t 12) none (some (.t 15)) none },
    { dst := some 5, op := .mov (.t 16) }])
  (.keep [1, 5] [100000, 100200] ((.seq ((.seq (.reg false [
    { dst := some 17, op := .mov (.t 1) },
    { dst := some 18, op := .len (.t 17) },
    { dst := some 6, op := .mov (.t 18) }])
  (.block 0 (.loop [5, 6] [100000] b22_0))))
  (.keep [] [] ((.seq (.reg false [
    { dst := some 4, op := .mov (.c (.bool true)) }])
  (.ret)))))))))))))
/-- with its results -/
def a22 : AFun := ⟨c22, [(4, none)], 30⟩

/-- estreat/pack.Get: parameters []uint8 -/
def c23 : AC :=
  (.seq (.reg false [
    { dst := some 2, op := .alloc 2 z38 },
    { dst := some 3, op := .mov (.c (.int .i64 0)) },
    { dst := some 4, op := .mov (.c (.int .i64 0)) }])
  ((.seq ((.seq (.reg false [
    { dst := some 6, op := .mov (.t 0) },
    { dst := some 7, op := .len (.t 6) },
    { dst := some 8, op := .bin .lss (.t 7) (.c (.int .i64 4)) }])
  (.cond (.t 8) ((.seq (.reg false [
    { dst := some 9, op := .build z38 [] },
    { dst := none, op := .store 2 (.t 2) (.t 9) },
    { dst := some 3, op := .mov (.c (.int .i64 0)) },
    { dst := some 4, op := .mov (.c (.int .i64 10)) }])
  (.ret))) (.skip))))
  (.keep [0, 2] [2, 100000] ((.seq (.reg true [
    { dst := some 10, op := .mov (.t 0), rs := [0], tn := [100000] },
    { dst := some 11, op := .iad 1 (.t 10) (.c (.int .i64 1)), rs := [10], tn := [100000], an := [0] },
    { dst := some 12, op := .load none (.t 11), rs := [11], tn := [100000], an := [1] },
    { dst := some 13, op := .conv .i64 (.t 12), rs := [12], an := [2] },
    { dst := some 14, op := .bin .shl (.t 13) (.c (.int .u64 16)), rs := [13], an := [3] },
    { dst := some 15, op := .mov (.t 0), rs := [0], tn := [100000] },
    { dst := some 16, op := .iad 1 (.t 15) (.c (.int .i64 2)), rs := [15], tn := [100000], an := [5] },
    { dst := some 17, op := .load none (.t 16), rs := [16], tn := [100000], an := [6] },
    { dst := some 18, op := .conv .i64 (.t 17), rs := [17], an := [7] },
    { dst := some 19, op := .bin .shl (.t 18) (.c (.int .u64 8)), rs := [18], an := [8] },
    { dst := some 20, op := .bin .or (.t 14) (.t 19), rs := [14, 19], an := [4, 9] },
    { dst := some 21, op := .mov (.t 0), rs := [0], tn := [100000] },
    { dst := some 22, op := .iad 1 (.t 21) (.c (.int .i64 3)), rs := [21], tn := [100000], an := [11] },
    { dst := some 23, op := .load none (.t 22), rs := [22], tn := [100000], an := [12] },
    { dst := some 24, op := .conv .i64 (.t 23), rs := [23], an := [13] },
    { dst := some 25, op := .bin .or (.t 20) (.t 24), rs := [20, 24], an := [10, 14] },
    { dst := some 5, op := .mov (.t 25), rs := [25], an := [15] }])
  (.keep [0, 2, 5] [2, 100000] ((.seq (.block 0 ((.seq (.reg false [
    { dst := some 27, op := .mov (.t 0) },
    { dst := some 28, op := .iad 1 (.t 27) (.c (.int .i64 0)) },
    { dst := some 29, op := .load none (.t 28) },
    { dst := some 30, op := .bin .eql (.t 29) (.c (.int .u8 0)) },
    { dst := some 31, op := .mov (.t 30) },
    { dst := some 32, op := .mov (.t 5), guard := some (31, false) },
    { dst := some 33, op := .bin .gtr (.t 32) (.c (.int .i64 65536)), guard := some (31, false) },
    { dst := some 34, op := .pick (.t 31) (.c (.bool true)) (.t 33) },
    { dst := some 26, op := .mov (.t 34) }])
  (.cond (.t 26) ((.seq (.reg false [
    { dst := some 35, op := .build z38 [] },
    { dst := none, op := .store 2 (.t 2) (.t 35) },
    { dst := some 3, op := .mov (.c (.int .i64 0)) },
    { dst := some 4, op := .mov (.c (.int .i64 11)) }])
  (.ret))) ((.seq (.reg false [
    { dst := some 37, op := .mov (.t 0) },
    { dst := some 38, op := .len (.t 37) },
    { dst := some 39, op := .bin .sub (.t 38) (.c (.int .i64 4)) },
    { dst := some 40, op := .mov (.t 5) },
    { dst := some 41, op := .bin .lss (.t 39) (.t 40) },
    { dst := some 36, op := .mov (.t 41) }])
  (.cond (.t 36) ((.seq (.reg false [
    { dst := some 42, op := .build z38 [] },
    { dst := none, op := .store 2 (.t 2) (.t 42) },
    { dst := some 3, op := .mov (.c (.int .i64 0)) },
    { dst := some 4, op := .mov (.c (.int .i64 10)) }])
  (.ret))) (.skip))))))))
  (.keep [0, 2, 5] [2, 100000] ((.seq (.reg true [
    { dst := some 43, op := .mov (.t 0), rs := [0], tn := [100000] },
    { dst := some 44, op := .iad 1 (.t 43) (.c (.int .i64 0)), rs := [43], tn := [100000], an := [0] },
    { dst := some 45, op := .load none (.t 44), rs := [44], tn := [100000], an := [1] },
    { dst := some 46, op := .conv .i64 (.t 45), rs := [45], an := [2] },
    { dst := some 47, op := .mov (.t 0), rs := [0], tn := [100000] },
    { dst := some 48, op := .mov (.t 5), rs := [5] },
    { dst := some 49, op := .bin .add (.c (.int .i64 4)) (.t 48), rs := [48], an := [5] },
    { dst := some 50, op := .slc 1 (.t 47) (some (.c (.int .i64 4))) (some (.t 49)) none, rs := [47, 49], tn := [100000], an := [4, 6] },
    { dst := some 51, op := .b2s (.t 50), rs := [50], tn := [100000], an := [7] },
    { dst := some 52, op := .build z38 [(0, 1, (.t 46)), (1, 1, (.t 51))], rs := [46, 51], an := [3, 8] },
    { dst := some 53, op := .mov (.t 5), rs := [5] },
    { dst := some 54, op := .bin .add (.c (.int .i64 4)) (.t 53), rs := [53], an := [10] },
    { dst := none, op := .store 2 (.t 2) (.t 52), rs := [2, 52], tn := [2], wn := [2], an := [9] },
    { dst := some 3, op := .mov (.t 54), rs := [54], an := [11] },
    { dst := some 4, op := .mov (.c (.int .i64 0)) }])
  (.ret)))))))))))))
/-- with its results -/
def a23 : AFun := ⟨c23, [(2, some (some 2)), (3, none), (4, none)], 55⟩

/-- estreat/estreatref01.Get: parameters []uint8 -/
def c24 : AC :=
  (.seq (.reg false [
    { dst := some 2, op := .alloc 2 z38 },
    { dst := some 3, op := .mov (.c (.int .i64 0)) },
    { dst := some 4, op := .mov (.c (.int .i64 0)) }])
  ((.seq ((.seq (.reg false [
    { dst := some 6, op := .mov (.t 0) },
    { dst := some 7, op := .len (.t 6) },
    { dst := some 8, op := .bin .lss (.t 7) (.c (.int .i64 4)) }])
  (.cond (.t 8) ((.seq (.reg false [
    { dst := some 9, op := .build z38 [] },
    { dst := none, op := .store 2 (.t 2) (.t 9) },
    { dst := some 3, op := .mov (.c (.int .i64 0)) },
    { dst := some 4, op := .mov (.c (.int .i64 10)) }])
  (.ret))) (.skip))))
  (.keep [0, 2] [2, 100000] ((.seq (.reg true [
    { dst := some 10, op := .mov (.t 0), rs := [0], tn := [100000] },
    { dst := some 11, op := .iad 1 (.t 10) (.c (.int .i64 1)), rs := [10], tn := [100000], an := [0] },
    { dst := some 12, op := .load none (.t 11), rs := [11], tn := [100000], an := [1] },
    { dst := some 13, op := .conv .i64 (.t 12), rs := [12], an := [2] },
    { dst := some 14, op := .bin .mul (.c (.int .i64 65536)) (.t 13), rs := [13], an := [3] },
    { dst := some 15, op := .mov (.t 0), rs := [0], tn := [100000] },
    { dst := some 16, op := .iad 1 (.t 15) (.c (.int .i64 2)), rs := [15], tn := [100000], an := [5] },
    { dst := some 17, op := .load none (.t 16), rs := [16], tn := [100000], an := [6] },
    { dst := some 18, op := .conv .i64 (.t 17), rs := [17], an := [7] },
    { dst := some 19, op := .bin .mul (.c (.int .i64 256)) (.t 18), rs := [18], an := [8] },
    { dst := some 20, op := .bin .add (.t 14) (.t 19), rs := [14, 19], an := [4, 9] },
    { dst := some 21, op := .mov (.t 0), rs := [0], tn := [100000] },
    { dst := some 22, op := .iad 1 (.t 21) (.c (.int .i64 3)), rs := [21], tn := [100000], an := [11] },
    { dst := some 23, op := .load none (.t 22), rs := [22], tn := [100000], an := [12] },
    { dst := some 24, op := .conv .i64 (.t 23), rs := [23], an := [13] },
    { dst := some 25, op := .bin .add (.t 20) (.t 24), rs := [20, 24], an := [10, 14] },
    { dst := some 5, op := .mov (.t 25), rs := [25], an := [15] }])
  (.keep [0, 2, 5] [2, 100000] ((.seq ((.seq (.reg false [
    { dst := some 26, op := .mov (.t 0) },
    { dst := some 27, op := .iad 1 (.t 26) (.c (.int .i64 0)) },
    { dst := some 28, op := .load none (.t 27) },
    { dst := some 29, op := .bin .eql (.t 28) (.c (.int .u8 0)) },
    { dst := some 30, op := .mov (.t 29) },
    { dst := some 31, op := .mov (.t 5), guard := some (30, false) },
    { dst := some 32, op := .bin .gtr (.t 31) (.c (.int .i64 65536)), guard := some (30, false) },
    { dst := some 33, op := .pick (.t 30) (.c (.bool true)) (.t 32) }])
  (.cond (.t 33) ((.seq (.reg false [
    { dst := some 34, op := .build z38 [] },
    { dst := none, op := .store 2 (.t 2) (.t 34) },
    { dst := some 3, op := .mov (.c (.int .i64 0)) },
    { dst := some 4, op := .mov (.c (.int .i64 11)) }])
  (.ret))) (.skip))))
  (.keep [0, 2, 5] [2, 100000] ((.seq ((.seq (.reg false [
    { dst := some 35, op := .mov (.t 0) },
    { dst := some 36, op := .len (.t 35) },
    { dst := some 37, op := .bin .sub (.t 36) (.c (.int .i64 4)) },
    { dst := some 38, op := .mov (.t 5) },
    { dst := some 39, op := .bin .lss (.t 37) (.t 38) }])
  (.cond (.t 39) ((.seq (.reg false [
    { dst := some 40, op := .build z38 [] },
    { dst := none, op := .store 2 (.t 2) (.t 40) },
    { dst := some 3, op := .mov (.c (.int .i64 0)) },
    { dst := some 4, op := .mov (.c (.int .i64 10)) }])
  (.ret))) (.skip))))
  (.keep [0, 2, 5] [2, 100000] ((.seq (.reg true [
    { dst := some 41, op := .mov (.t 0), rs := [0], tn := [100000] },
    { dst := some 42, op := .iad 1 (.t 41) (.c (.int .i64 0)), rs := [41], tn := [100000], an := [0] },
    { dst := some 43, op := .load none (.t 42), rs := [42], tn := [100000], an := [1] },
    { dst := some 44, op := .conv .i64 (.t 43), rs := [43], an := [2] },
    { dst := some 45, op := .mov (.t 0), rs := [0], tn := [100000] },
    { dst := some 46, op := .mov (.t 5), rs := [5] },
    { dst := some 47, op := .bin .add (.c (.int .i64 4)) (.t 46), rs := [46], an := [5] },
    { dst := some 48, op := .slc 1 (.t 45) (some (.c (.int .i64 4))) (some (.t 47)) none, rs := [45, 47], tn := [100000], an := [4, 6] },
    { dst := some 49, op := .b2s (.t 48), rs := [48], tn := [100000], an := [7] },
    { dst := some 50, op := .build z38 [(0, 1, (.t 44)), (1, 1, (.t 49))], rs := [44, 49], an := [3, 8] },
    { dst := some 51, op := .mov (.t 5), rs := [5] },
    { dst := some 52, op := .bin .add (.c (.int .i64 4)) (.t 51), rs := [51], an := [10] },
    { dst := none, op := .store 2 (.t 2) (.t 50), rs := [2, 50], tn := [2], wn := [2], an := [9] },
    { dst := some 3, op := .mov (.t 52), rs := [52], an := [11] },
    { dst := some 4, op := .mov (.c (.int .i64 0)) }])
  (.ret))))))))))))))))
/-- with its results -/
def a24 : AFun := ⟨c24, [(2, some (some 2)), (3, none), (4, none)], 53⟩

def b25_0 : AC :=
  (.seq ((.seq (.reg false [
    { dst := some 8, op := .mov (.t 4) },
    { dst := some 9, op := .mov (.t 0) },
    { dst := some 10, op := .len (.t 9) },
    { dst := some 11, op := .bin .lss (.t 8) (.t 10) }])
  (.cond (.t 11) (.skip) (.exit 0))))
  (.keep [0, 3, 4] [100000] ((.seq (.block 1 ((.seq ((.seq (.reg false [
    { dst := some 14, op := .mov (.t 0) },
    { dst := some 15, op := .mov (.t 4) },
    { dst := some 16, op := .iad 2 (.t 14) (.t 15) },
    { dst := some 17, op := .fad 1 (.t 16) },
    { dst := some 18, op := .load none (.t 17) },
    { dst := some 19, op := .lenS (.t 18) },
    { dst := some 20, op := .mov (.t 3) },
    { dst := some 21, op := .bin .sub (.c (.int .i64 262144)) (.t 20) },
    { dst := some 22, op := .bin .gtr (.t 19) (.t 21) }])
  (.cond (.t 22) ((.seq (.reg false [
    { dst := some 2, op := .mov (.c (.bool true)) }])
  (.ret))) (.skip))))
  (.keep [0, 3, 4] [100000] (.reg false [
    { dst := some 23, op := .mov (.t 3) },
    { dst := some 24, op := .mov (.t 0) },
    { dst := some 25, op := .mov (.t 4) },
    { dst := some 26, op := .iad 2 (.t 24) (.t 25) },
    { dst := some 27, op := .fad 1 (.t 26) },
    { dst := some 28, op := .load none (.t 27) },
    { dst := some 29, op := .lenS (.t 28) },
    { dst := some 30, op := .bin .add (.t 23) (.t 29) },
    { dst := some 3, op := .mov (.t 30) }])))))
  (.keep [0, 3, 4] [100000] (.reg false [
    { dst := some 12, op := .mov (.t 4) },
    { dst := some 13, op := .bin .add (.t 12) (.c (.int .i64 1)) },
    { dst := some 4, op := .mov (.t 13) }]))))))
/-- estreat/estreatlaw01.large: parameters []api.Field -/
def c25 : AC :=
  (.seq (.reg false [
    { dst := some 2, op := .mov (.c (.bool false)) }])
  ((.seq ((.seq (.reg false [
    { dst := some 5, op := .mov (.t 0) },
    { dst := some 6, op := .len (.t 5) },
    { dst := some 7, op := .bin .gtr (.t 6) (.c (.int .i64 400)) }])
  (.cond (.t 7) ((.seq (.reg false [
    { dst := some 2, op := .mov (.c (.bool true)) }])
  (.ret))) (.skip))))
  (.keep [0] [100000] ((.seq (.reg false [
    { dst := some 3, op := .mov (.c (.int .i64 0)) }])
  ((.seq ((.seq (.reg false [
    { dst := some 4, op := .mov (.c (.int .i64 0)) }])
  (.block 0 (.loop [0, 3, 4] [100000] b25_0))))
  (.keep [] [] ((.seq (.reg false [
    { dst := some 2, op := .mov (.c (.bool false)) }])
  (.ret))))))))))))
/-- with its results -/
def a25 : AFun := ⟨c25, [(2, none)], 31⟩

def b26_0 : AC :=
  (.seq (.reg false [
    { dst := some 12, op := .bin .lss (.t 11) (.t 10) }])
  ((.seq (.cond (.t 12) (.skip) (.exit 0))
  ((.seq (.block 1 ((.seq (.reg false [
    { dst := some 13, op := .iad 2 (.t 9) (.t 11) },
    { dst := some 14, op := .load (some 2) (.t 13) },
    { dst := some 7, op := .alloc 7 z38 },
    { dst := none, op := .store 2 (.t 7) (.t 14) }])
  (.keep [4, 5, 7, 9, 10, 11] [7, 24000, 100000] ((.seq ((.seq (.reg false [
    { dst := some 15, op := .load (some 2) (.t 7) },
    { dst := some 16, op := .mov (.t 5) },
    { dst := some 17, op := .call 18000 32 [(.t 15), (.t 16)] },
    { dst := some 8, op := .mov (.t 17) }])
  (.keep [4, 5, 7, 8, 9, 10, 11] [7, 24000, 100000] ((.seq (.reg false [
    { dst := some 18, op := .mov (.t 8) },
    { dst := some 19, op := .bin .neq (.t 18) (.c (.int .i64 0)) }])
  (.cond (.t 19) ((.seq (.reg false [
    { dst := some 20, op := .mov (.t 8) },
    { dst := some 2, op := .mov (.c .nilS) },
    { dst := some 3, op := .mov (.t 20) }])
  (.ret))) (.skip)))))))
  (.keep [4, 5, 7, 9, 10, 11] [7, 24000, 100000] (.reg true [
    { dst := some 21, op := .mov (.t 4), rs := [4], tn := [24000] },
    { dst := some 22, op := .load (some 2) (.t 7), rs := [7], tn := [7] },
    { dst := some 23, op := .callm 24000 33 [(.t 21), (.t 22)] [true, false], rs := [21, 22], tn := [24000], wn := [24000], an := [0, 1] },
    { dst := some 24, op := .fad 0 (.t 7), rs := [7], tn := [7] },
    { dst := some 25, op := .load none (.t 24), rs := [24], tn := [7], an := [3] },
    { dst := some 4, op := .mov (.t 23), rs := [23], tn := [24000], an := [0, 2] },
    { dst := some 5, op := .mov (.t 25), rs := [25], an := [4] }]))))))))
  (.keep [4, 5, 9, 10, 11] [24000, 100000] (.reg false [
    { dst := some 26, op := .bin .add (.t 11) (.c (.int .i64 1)) },
    { dst := some 11, op := .mov (.t 26) }])))))))
/-- estreat/pack.Lay: parameters []api.Field -/
def c26 : AC :=
  (.seq (.reg false [
    { dst := some 2, op := .mov (.c .nilS) },
    { dst := some 3, op := .mov (.c (.int .i64 0)) }])
  ((.seq (.reg false [
    { dst := some 4, op := .mov (.c .nilS) }])
  ((.seq (.reg false [
    { dst := some 5, op := .mov (.c (.int .i64 0)) }])
  ((.seq ((.seq (.reg false [
    { dst := some 9, op := .mov (.t 0) },
    { dst := some 10, op := .len (.t 9) },
    { dst := some 11, op := .mov (.c (.int .i64 0)) }])
  (.block 0 (.loop [4, 5, 9, 10, 11] [24000, 100000] b26_0))))
  (.keep [4] [24000] ((.seq (.reg false [
    { dst := some 27, op := .mov (.t 4) },
    { dst := some 2, op := .mov (.t 27) },
    { dst := some 3, op := .mov (.c (.int .i64 0)) }])
  (.ret)))))))))))
/-- with its results -/
def a26 : AFun := ⟨c26, [(2, none), (3, none)], 28⟩

def b27_0 : AC :=
  (.seq ((.seq (.reg false [
    { dst := some 9, op := .mov (.t 6) },
    { dst := some 10, op := .mov (.t 0) },
    { dst := some 11, op := .len (.t 10) },
    { dst := some 12, op := .bin .lss (.t 9) (.t 11) }])
  (.cond (.t 12) (.skip) (.exit 0))))
  (.keep [0, 4, 5, 6] [49, 100000] ((.seq (.block 1 ((.seq (.reg true [
    { dst := some 15, op := .mov (.t 0), rs := [0], tn := [100000] },
    { dst := some 16, op := .mov (.t 6), rs := [6] },
    { dst := some 17, op := .iad 2 (.t 15) (.t 16), rs := [15, 16], tn := [100000], an := [0, 1] },
    { dst := some 18, op := .fad 0 (.t 17), rs := [17], tn := [100000], an := [2] },
    { dst := some 19, op := .load none (.t 18), rs := [18], tn := [100000], an := [3] },
    { dst := some 20, op := .mov (.t 0), rs := [0], tn := [100000] },
    { dst := some 21, op := .mov (.t 6), rs := [6] },
    { dst := some 22, op := .iad 2 (.t 20) (.t 21), rs := [20, 21], tn := [100000], an := [5, 6] },
    { dst := some 23, op := .fad 1 (.t 22), rs := [22], tn := [100000], an := [7] },
    { dst := some 24, op := .load none (.t 23), rs := [23], tn := [100000], an := [8] },
    { dst := some 25, op := .call 26000 34 [(.t 19), (.t 24)], rs := [19, 24], an := [4, 9] },
    { dst := some 7, op := .mov (.t 25), rs := [25], an := [10] }])
  (.keep [0, 4, 5, 6, 7] [49, 100000] ((.seq ((.seq (.reg false [
    { dst := some 26, op := .mov (.t 0) },
    { dst := some 27, op := .mov (.t 6) },
    { dst := some 28, op := .iad 2 (.t 26) (.t 27) },
    { dst := some 29, op := .fad 0 (.t 28) },
    { dst := some 30, op := .load none (.t 29) },
    { dst := some 31, op := .mov (.t 5) },
    { dst := some 32, op := .bin .leq (.t 30) (.t 31) }])
  (.cond (.t 32) (.reg false [
    { dst := some 7, op := .mov (.c (.int .i64 1)) }]) (.skip))))
  (.keep [0, 4, 5, 6, 7] [49, 100000] ((.seq ((.seq (.reg false [
    { dst := some 33, op := .mov (.t 7) },
    { dst := some 34, op := .bin .neq (.t 33) (.c (.int .i64 0)) }])
  (.cond (.t 34) ((.seq (.reg false [
    { dst := some 35, op := .mov (.t 7) },
    { dst := some 2, op := .mov (.c .nilS) },
    { dst := some 3, op := .mov (.t 35) }])
  (.ret))) (.skip))))
  (.keep [0, 4, 5, 6] [49, 100000] ((.seq (.reg true [
    { dst := some 36, op := .mov (.t 0), rs := [0], tn := [100000] },
    { dst := some 37, op := .mov (.t 6), rs := [6] },
    { dst := some 38, op := .iad 2 (.t 36) (.t 37), rs := [36, 37], tn := [100000], an := [0, 1] },
    { dst := some 39, op := .fad 0 (.t 38), rs := [38], tn := [100000], an := [2] },
    { dst := some 40, op := .load none (.t 39), rs := [39], tn := [100000], an := [3] },
    { dst := some 41, op := .mov (.t 0), rs := [0], tn := [100000] },
    { dst := some 42, op := .mov (.t 6), rs := [6] },
    { dst := some 43, op := .iad 2 (.t 41) (.t 42), rs := [41, 42], tn := [100000], an := [5, 6] },
    { dst := some 44, op := .fad 1 (.t 43), rs := [43], tn := [100000], an := [7] },
    { dst := some 45, op := .load none (.t 44), rs := [44], tn := [100000], an := [8] },
    { dst := some 46, op := .call 47000 35 [(.t 40), (.t 45)], rs := [40, 45], tn := [47000], wn := [47000], an := [4, 9] },
    { dst := some 8, op := .mov (.t 46), rs := [46], tn := [47000], an := [10] }])
  (.keep [0, 4, 5, 6, 8] [49, 47000, 100000] ((.seq (.reg false [
    { dst := some 47, op := .mov (.t 4) },
    { dst := some 48, op := .mov (.t 8) },
    { dst := some 49, op := .app 49 1 1 (.t 47) (.t 48) },
    { dst := some 4, op := .mov (.t 49) }])
  (.keep [0, 4, 5, 6] [49, 100000] (.reg false [
    { dst := some 50, op := .mov (.t 0) },
    { dst := some 51, op := .mov (.t 6) },
    { dst := some 52, op := .iad 2 (.t 50) (.t 51) },
    { dst := some 53, op := .fad 0 (.t 52) },
    { dst := some 54, op := .load none (.t 53) },
    { dst := some 5, op := .mov (.t 54) }])))))))))))))))))
  (.keep [0, 4, 5, 6] [49, 100000] (.reg false [
    { dst := some 13, op := .mov (.t 6) },
    { dst := some 14, op := .bin .add (.t 13) (.c (.int .i64 1)) },
    { dst := some 6, op := .mov (.t 14) }]))))))
/-- estreat/estreatref01.Lay: parameters []api.Field -/
def c27 : AC :=
  (.seq (.reg false [
    { dst := some 2, op := .mov (.c .nilS) },
    { dst := some 3, op := .mov (.c (.int .i64 0)) }])
  ((.seq (.reg false [
    { dst := some 4, op := .mov (.c .nilS) }])
  ((.seq (.reg false [
    { dst := some 5, op := .mov (.c (.int .i64 0)) }])
  ((.seq ((.seq (.reg false [
    { dst := some 6, op := .mov (.c (.int .i64 0)) }])
  (.block 0 (.loop [0, 4, 5, 6] [49, 100000] b27_0))))
  (.keep [4] [49] ((.seq (.reg false [
    { dst := some 55, op := .mov (.t 4) },
    { dst := some 2, op := .mov (.t 55) },
    { dst := some 3, op := .mov (.c (.int .i64 0)) }])
  (.ret)))))))))))
/-- with its results -/
def a27 : AFun := ⟨c27, [(2, none), (3, none)], 56⟩

/-- estreat/estreatlaw01.rows: parameters  -/
def c28 : AC :=
  (.seq (.reg false [
    { dst := some 0, op := .mov (.c (.bool false)) }])
  ((.seq (.reg false [
    { dst := some 10, op := .build z38 [(0, 1, (.c (.int .i64 1))), (1, 1, (.c (.str ⟨#[97]⟩)))] },
    { dst := some 11, op := .build z38 [(0, 1, (.c (.int .i64 9)))] },
    { dst := some 12, op := .bslice 12 2 z38 2 [(0, (.t 10)), (1, (.t 11))] },
    { dst := some 1, op := .mov (.t 12) }])
  (.keep [1] [12] ((.seq (.reg false [
    { dst := some 14, op := .mov (.t 1) },
    { dst := some 15, op := .call 16000 26 [(.t 14)] },
    { dst := some 13, op := .mov (.t 15) },
    { dst := some 16, op := .ext 0 (.t 13) },
    { dst := some 17, op := .ext 1 (.t 13) },
    { dst := some 2, op := .mov (.t 16) },
    { dst := some 3, op := .mov (.t 17) }])
  (.keep [1, 2, 3] [12, 16000] ((.seq (.reg false [
    { dst := some 19, op := .mov (.t 2) },
    { dst := some 20, op := .call 21000 29 [(.t 19)] },
    { dst := some 18, op := .mov (.t 20) },
    { dst := some 21, op := .ext 0 (.t 18) },
    { dst := some 22, op := .ext 1 (.t 18) },
    { dst := some 4, op := .mov (.t 21) },
    { dst := some 5, op := .mov (.t 22) }])
  (.keep [1, 2, 3, 4, 5] [12, 16000, 21000] ((.seq (.reg false [
    { dst := some 24, op := .bslice 24 1 [(.int .u8 0)] 8 [(0, (.c (.int .u8 7))), (1, (.c (.int .u8 0))), (2, (.c (.int .u8 0))), (3, (.c (.int .u8 0))), (4, (.c (.int .u8 7))), (5, (.c (.int .u8 0))), (6, (.c (.int .u8 0))), (7, (.c (.int .u8 0)))] },
    { dst := some 25, op := .call 26000 29 [(.t 24)] },
    { dst := some 23, op := .mov (.t 25) },
    { dst := some 26, op := .ext 0 (.t 23) },
    { dst := some 27, op := .ext 1 (.t 23) },
    { dst := some 6, op := .mov (.t 26) },
    { dst := some 7, op := .mov (.t 27) }])
  (.keep [1, 2, 3, 4, 5, 7] [12, 16000, 21000] ((.seq (.reg false [
    { dst := some 29, op := .build z38 [(0, 1, (.c (.int .i64 2)))] },
    { dst := some 30, op := .build z38 [(0, 1, (.c (.int .i64 2)))] },
    { dst := some 31, op := .bslice 31 2 z38 2 [(0, (.t 29)), (1, (.t 30))] },
    { dst := some 32, op := .call 33000 26 [(.t 31)] },
    { dst := some 28, op := .mov (.t 32) },
    { dst := some 33, op := .ext 0 (.t 28) },
    { dst := some 34, op := .ext 1 (.t 28) },
    { dst := some 8, op := .mov (.t 33) },
    { dst := some 9, op := .mov (.t 34) }])
  (.keep [1, 2, 3, 4, 5, 7, 9] [12, 16000, 21000] ((.seq (.reg false [
    { dst := some 35, op := .mov (.t 3) },
    { dst := some 36, op := .bin .eql (.t 35) (.c (.int .i64 0)) },
    { dst := some 37, op := .mov (.t 36) },
    { dst := some 38, op := .mov (.t 2), guard := some (37, true) },
    { dst := some 39, op := .len (.t 38), guard := some (37, true) },
    { dst := some 40, op := .bin .eql (.t 39) (.c (.int .i64 9)), guard := some (37, true) },
    { dst := some 41, op := .pick (.t 37) (.t 40) (.c (.bool false)) },
    { dst := some 42, op := .mov (.t 41) },
    { dst := some 43, op := .mov (.t 5), guard := some (42, true) },
    { dst := some 44, op := .bin .eql (.t 43) (.c (.int .i64 0)), guard := some (42, true) },
    { dst := some 45, op := .pick (.t 42) (.t 44) (.c (.bool false)) },
    { dst := some 46, op := .mov (.t 45) },
    { dst := some 47, op := .mov (.t 4), guard := some (46, true) },
    { dst := some 48, op := .mov (.t 1), guard := some (46, true) },
    { dst := some 49, op := .call 50000 30 [(.t 47), (.t 48)], guard := some (46, true) },
    { dst := some 50, op := .pick (.t 46) (.t 49) (.c (.bool false)) },
    { dst := some 51, op := .mov (.t 50) },
    { dst := some 52, op := .mov (.t 7), guard := some (51, true) },
    { dst := some 53, op := .bin .eql (.t 52) (.c (.int .i64 11)), guard := some (51, true) },
    { dst := some 54, op := .pick (.t 51) (.t 53) (.c (.bool false)) },
    { dst := some 55, op := .mov (.t 54) },
    { dst := some 56, op := .mov (.t 9), guard := some (55, true) },
    { dst := some 57, op := .bin .eql (.t 56) (.c (.int .i64 1)), guard := some (55, true) },
    { dst := some 58, op := .pick (.t 55) (.t 57) (.c (.bool false)) },
    { dst := some 0, op := .mov (.t 58) }])
  (.ret)))))))))))))))))))
/-- with its results -/
def a28 : AFun := ⟨c28, [(0, none)], 59⟩

def b29_0 : AC :=
  .block 1 ((.seq ((.seq (.reg false [
    { dst := some 12, op := .mov (.t 7) },
    { dst := some 13, op := .bin .eql (.t 12) (.c (.int .i64 0)) },
    { dst := some 14, op := .mov (.t 13) },
    { dst := some 15, op := .fad 0 (.t 6), guard := some (14, true) },
    { dst := some 16, op := .load none (.t 15), guard := some (14, true) },
    { dst := some 17, op := .load none (.t 5), guard := some (14, true) },
    { dst := some 18, op := .bin .leq (.t 16) (.t 17), guard := some (14, true) },
    { dst := some 19, op := .pick (.t 14) (.t 18) (.c (.bool false)) }])
  (.cond (.t 19) (.reg false [
    { dst := some 7, op := .mov (.c (.int .i64 11)) }]) (.skip))))
  (.keep [2, 3, 4, 5, 6, 7, 9, 10, 11] [2, 3, 4, 5, 6, 26, 100000, 2900000, 3360001, 3370003] ((.seq ((.seq (.reg false [
    { dst := some 20, op := .mov (.t 7) },
    { dst := some 21, op := .bin .neq (.t 20) (.c (.int .i64 0)) }])
  (.cond (.t 21) ((.seq (.reg false [
    { dst := some 22, op := .mov (.t 7) },
    { dst := none, op := .store 1 (.t 2) (.c .nilS) },
    { dst := none, op := .store 1 (.t 3) (.t 22) }])
  (.ret))) (.skip))))
  (.keep [2, 3, 4, 5, 6, 9, 10, 11] [2, 3, 4, 5, 6, 26, 100000, 2900000, 3360001, 3370003] ((.seq (.reg false [
    { dst := some 23, op := .load none (.t 4) },
    { dst := some 24, op := .load (some 2) (.t 6) },
    { dst := some 25, op := .bslice 25 2 z38 1 [(0, (.t 24))] },
    { dst := some 26, op := .app 26 2 24 (.t 23) (.t 25) },
    { dst := none, op := .store 1 (.t 4) (.t 26) }])
  (.keep [2, 3, 4, 5, 6, 9, 10, 11] [2, 3, 4, 5, 6, 26, 100000, 2900000, 3360001, 3370003] (.reg false [
    { dst := some 27, op := .fad 0 (.t 6) },
    { dst := some 28, op := .load none (.t 27) },
    { dst := none, op := .store 1 (.t 5) (.t 28) }]))))))))))
def b29_1 : AC :=
  (.seq (.reg false [
    { dst := some 6, op := .alloc 6 z38 },
    { dst := none, op := .store 2 (.t 6) (.t 10) }])
  (.reg false [
    { dst := some 7, op := .mov (.t 11) }]))
/-- estreat/pack.Read: parameters []uint8 -/
def c29 : AC :=
  (.seq (.reg false [
    { dst := some 2, op := .alloc 2 [.nilS] },
    { dst := some 3, op := .alloc 3 [(.int .i64 0)] }])
  ((.seq (.reg false [
    { dst := some 4, op := .alloc 4 [.nilS] }])
  ((.seq (.reg false [
    { dst := some 5, op := .alloc 5 [(.int .i64 0)] },
    { dst := none, op := .store 1 (.t 5) (.c (.int .i64 0)) }])
  ((.seq ((.seq (.reg false [
    { dst := some 8, op := .mov (.t 0) },
    { dst := some 9, op := .inl 36 [(.t 8)] }])
  (.block 0 (.rfun 2900000 (.t 9) [10, 11] [2, 3, 4, 5, 9, 10, 11] b29_1 b29_0))))
  (.keep [2, 3, 4] [2, 3, 4, 26] ((.seq (.reg false [
    { dst := some 29, op := .load none (.t 4) },
    { dst := none, op := .store 1 (.t 2) (.t 29) },
    { dst := none, op := .store 1 (.t 3) (.c (.int .i64 0)) }])
  (.ret)))))))))))
/-- with its results -/
def a29 : AFun := ⟨c29, [(2, some none), (3, some none)], 30⟩

def b30_0 : AC :=
  (.seq ((.seq (.reg false [
    { dst := some 11, op := .mov (.t 5) },
    { dst := some 12, op := .mov (.t 0) },
    { dst := some 13, op := .len (.t 12) },
    { dst := some 14, op := .bin .lss (.t 11) (.t 13) }])
  (.cond (.t 14) (.skip) (.exit 0))))
  (.keep [0, 1, 5] [100000, 100200] ((.seq (.block 1 ((.seq (.reg true [
    { dst := some 17, op := .mov (.t 0), rs := [0], tn := [100000] },
    { dst := some 18, op := .mov (.t 5), rs := [5] },
    { dst := some 19, op := .iad 2 (.t 17) (.t 18), rs := [17, 18], tn := [100000], an := [0, 1] },
    { dst := some 20, op := .load (some 2) (.t 19), rs := [19], tn := [100000], an := [2] },
    { dst := some 21, op := .mov (.t 1), rs := [1], tn := [100200] },
    { dst := some 22, op := .mov (.t 5), rs := [5] },
    { dst := some 23, op := .iad 2 (.t 21) (.t 22), rs := [21, 22], tn := [100200], an := [4, 5] },
    { dst := some 24, op := .load (some 2) (.t 23), rs := [23], tn := [100200], an := [6] },
    { dst := some 25, op := .eqa true [0, 2] (.t 20) (.t 24), rs := [20, 24], an := [3, 7] }])
  (.cond (.t 25) ((.seq (.reg false [
    { dst := some 4, op := .mov (.c (.bool false)) }])
  (.ret))) (.skip)))))
  (.keep [0, 1, 5] [100000, 100200] (.reg false [
    { dst := some 15, op := .mov (.t 5) },
    { dst := some 16, op := .bin .add (.t 15) (.c (.int .i64 1)) },
    { dst := some 5, op := .mov (.t 16) }]))))))
/-- estreat/estreatref01.Same: parameters []api.Field []api.Field -/
def c30 : AC :=
  (.seq (.reg false [
    { dst := some 4, op := .mov (.c (.bool false)) }])
  ((.seq ((.seq (.reg false [
    { dst := some 6, op := .mov (.t 0) },
    { dst := some 7, op := .len (.t 6) },
    { dst := some 8, op := .mov (.t 1) },
    { dst := some 9, op := .len (.t 8) },
    { dst := some 10, op := .bin .neq (.t 7) (.t 9) }])
  (.cond (.t 10) ((.seq (.reg false [
    { dst := some 4, op := .mov (.c (.bool false)) }])
  (.ret))) (.skip))))
  (.keep [0, 1] [100000, 100200] ((.seq ((.seq (.reg false [
    { dst := some 5, op := .mov (.c (.int .i64 0)) }])
  (.block 0 (.loop [0, 1, 5] [100000, 100200] b30_0))))
  (.keep [] [] ((.seq (.reg false [
    { dst := some 4, op := .mov (.c (.bool true)) }])
  (.ret))))))))))
/-- with its results -/
def a30 : AFun := ⟨c30, [(4, none)], 26⟩

def b31_0 : AC :=
  (.seq ((.seq (.reg false [
    { dst := some 9, op := .mov (.t 0) },
    { dst := some 10, op := .len (.t 9) },
    { dst := some 11, op := .bin .gtr (.t 10) (.c (.int .i64 0)) }])
  (.cond (.t 11) (.skip) (.exit 0))))
  (.block 1 ((.seq (.reg false [
    { dst := some 13, op := .mov (.t 0) },
    { dst := some 14, op := .call 15000 24 [(.t 13)] },
    { dst := some 12, op := .mov (.t 14) },
    { dst := some 15, op := .ext 0 (.t 12) },
    { dst := some 16, op := .ext 1 (.t 12) },
    { dst := some 17, op := .ext 2 (.t 12) },
    { dst := some 6, op := .alloc 6 z38 },
    { dst := none, op := .store 2 (.t 6) (.t 15) },
    { dst := some 7, op := .mov (.t 16) },
    { dst := some 8, op := .mov (.t 17) }])
  (.keep [0, 4, 5, 6, 7, 8] [6, 28, 100000] ((.seq ((.seq (.reg false [
    { dst := some 18, op := .mov (.t 8) },
    { dst := some 19, op := .bin .neq (.t 18) (.c (.int .i64 0)) }])
  (.cond (.t 19) ((.seq (.reg false [
    { dst := some 20, op := .mov (.t 8) },
    { dst := some 2, op := .mov (.c .nilS) },
    { dst := some 3, op := .mov (.t 20) }])
  (.ret))) (.skip))))
  (.keep [0, 4, 5, 6, 7] [6, 28, 100000] ((.seq ((.seq (.reg false [
    { dst := some 21, op := .fad 0 (.t 6) },
    { dst := some 22, op := .load none (.t 21) },
    { dst := some 23, op := .mov (.t 5) },
    { dst := some 24, op := .bin .leq (.t 22) (.t 23) }])
  (.cond (.t 24) ((.seq (.reg false [
    { dst := some 2, op := .mov (.c .nilS) },
    { dst := some 3, op := .mov (.c (.int .i64 11)) }])
  (.ret))) (.skip))))
  (.keep [0, 4, 5, 6, 7] [6, 28, 100000] ((.seq (.reg false [
    { dst := some 25, op := .mov (.t 4) },
    { dst := some 26, op := .load (some 2) (.t 6) },
    { dst := some 27, op := .bslice 27 2 z38 1 [(0, (.t 26))] },
    { dst := some 28, op := .app 28 2 24 (.t 25) (.t 27) },
    { dst := some 4, op := .mov (.t 28) }])
  (.keep [0, 4, 5, 6, 7] [6, 28, 100000] ((.seq (.reg false [
    { dst := some 29, op := .fad 0 (.t 6) },
    { dst := some 30, op := .load none (.t 29) },
    { dst := some 5, op := .mov (.t 30) }])
  (.reg false [
    { dst := some 31, op := .mov (.t 0) },
    { dst := some 32, op := .mov (.t 7) },
    { dst := some 33, op := .slc 1 (.t 31) (some (.t 32)) none none },
    { dst := some 0, op := .mov (.t 33) }])))))))))))))))))
/-- estreat/estreatref01.Read: parameters []uint8 -/
def c31 : AC :=
  (.seq (.reg false [
    { dst := some 2, op := .mov (.c .nilS) },
    { dst := some 3, op := .mov (.c (.int .i64 0)) }])
  ((.seq (.reg false [
    { dst := some 4, op := .mov (.c .nilS) }])
  ((.seq (.reg false [
    { dst := some 5, op := .mov (.c (.int .i64 0)) }])
  ((.seq (.block 0 (.loop [0, 4, 5] [28, 100000] b31_0))
  (.keep [4] [28] ((.seq (.reg false [
    { dst := some 34, op := .mov (.t 4) },
    { dst := some 2, op := .mov (.t 34) },
    { dst := some 3, op := .mov (.c (.int .i64 0)) }])
  (.ret)))))))))))
/-- with its results -/
def a31 : AFun := ⟨c31, [(2, none), (3, none)], 35⟩

/-- estreat/pack.may: parameters api.Field int -/
def c32 : AC :=
  (.seq (.reg false [
    { dst := some 2, op := .box 2 (.t 0) },
    { dst := some 4, op := .mov (.c (.int .i64 0)) }])
  ((.seq (.reg false [
    { dst := some 5, op := .mov (.c (.int .i64 0)) }])
  ((.seq (.block 0 ((.seq (.block 3 ((.seq (.block 2 (.block 1 ((.seq ((.seq ((.seq (.reg false [
    { dst := some 7, op := .fad 0 (.t 2) },
    { dst := some 8, op := .load none (.t 7) },
    { dst := some 9, op := .bin .gtr (.t 8) (.c (.int .i64 255)) },
    { dst := some 6, op := .mov (.t 9) }])
  (.cond (.t 6) (.exit 1) (.skip))))
  (.keep [1, 2, 5] [2] ((.seq ((.seq (.reg false [
    { dst := some 11, op := .fad 0 (.t 2) },
    { dst := some 12, op := .load none (.t 11) },
    { dst := some 13, op := .mov (.t 1) },
    { dst := some 14, op := .bin .leq (.t 12) (.t 13) },
    { dst := some 10, op := .mov (.t 14) }])
  (.cond (.t 10) (.exit 2) (.skip))))
  (.keep [2, 5] [2] ((.seq (.reg false [
    { dst := some 16, op := .fad 1 (.t 2) },
    { dst := some 17, op := .load none (.t 16) },
    { dst := some 18, op := .lenS (.t 17) },
    { dst := some 19, op := .bin .gtr (.t 18) (.c (.int .i64 65536)) },
    { dst := some 15, op := .mov (.t 19) }])
  (.cond (.t 15) (.exit 3) (.skip))))))))))
  (.exit 0)))))
  (.keep [5] [] ((.seq (.reg false [
    { dst := some 5, op := .mov (.c (.int .i64 1)) }])
  (.exit 0)))))))
  (.keep [5] [] ((.seq (.reg false [
    { dst := some 5, op := .mov (.c (.int .i64 2)) }])
  (.exit 0)))))))
  (.keep [5] [] ((.seq (.reg false [
    { dst := some 20, op := .mov (.t 5) },
    { dst := some 4, op := .mov (.t 20) }])
  (.ret)))))))))
/-- with its results -/
def a32 : AFun := ⟨c32, [(4, none)], 21⟩

/-- estreat/pack.put: parameters []uint8 api.Field -/
def c33 : AC :=
  (.seq (.reg false [
    { dst := some 3, op := .box 3 (.t 1) },
    { dst := some 4, op := .mov (.c .nilS) }])
  ((.seq (.reg false [
    { dst := some 6, op := .fad 1 (.t 3) },
    { dst := some 7, op := .load none (.t 6) },
    { dst := some 8, op := .lenS (.t 7) },
    { dst := some 5, op := .mov (.t 8) }])
  (.keep [0, 3, 5] [3, 100000] ((.seq (.reg true [
    { dst := some 9, op := .mov (.t 0), rs := [0], tn := [100000] },
    { dst := some 10, op := .fad 0 (.t 3), rs := [3], tn := [3] },
    { dst := some 11, op := .load none (.t 10), rs := [10], tn := [3], an := [1] },
    { dst := some 12, op := .conv .u8 (.t 11), rs := [11], an := [2] },
    { dst := some 13, op := .mov (.t 5), rs := [5] },
    { dst := some 14, op := .bin .shr (.t 13) (.c (.int .u64 16)), rs := [13], an := [4] },
    { dst := some 15, op := .conv .u8 (.t 14), rs := [14], an := [5] },
    { dst := some 16, op := .mov (.t 5), rs := [5] },
    { dst := some 17, op := .bin .shr (.t 16) (.c (.int .u64 8)), rs := [16], an := [7] },
    { dst := some 18, op := .conv .u8 (.t 17), rs := [17], an := [8] },
    { dst := some 19, op := .mov (.t 5), rs := [5] },
    { dst := some 20, op := .conv .u8 (.t 19), rs := [19], an := [10] },
    { dst := some 21, op := .bslice 21 1 [(.int .u8 0)] 4 [(0, (.t 12)), (1, (.t 15)), (2, (.t 18)), (3, (.t 20))], rs := [12, 15, 18, 20], tn := [21], wn := [21], an := [3, 6, 9, 11] },
    { dst := some 22, op := .app 22 1 1 (.t 9) (.t 21), rs := [9, 21], tn := [21, 22, 100000], wn := [21, 22, 100000], an := [0, 12] },
    { dst := some 23, op := .fad 1 (.t 3), rs := [3], tn := [3] },
    { dst := some 24, op := .load none (.t 23), rs := [23], tn := [3], an := [14] },
    { dst := some 25, op := .app 25 1 1 (.t 22) (.t 24), rs := [22, 24], tn := [22, 25, 100000], wn := [22, 25, 100000], an := [0, 13, 15] },
    { dst := some 4, op := .mov (.t 25), rs := [25], tn := [22, 25, 100000], an := [13, 16] }])
  (.ret)))))))
/-- with its results -/
def a33 : AFun := ⟨c33, [(4, none)], 26⟩

/-- estreat/estreatref01.May: parameters int string -/
def c34 : AC :=
  (.seq (.reg false [
    { dst := some 4, op := .mov (.c (.int .i64 0)) }])
  ((.seq ((.seq (.reg false [
    { dst := some 5, op := .mov (.t 0) },
    { dst := some 6, op := .bin .lss (.t 5) (.c (.int .i64 1)) },
    { dst := some 7, op := .mov (.t 6) },
    { dst := some 8, op := .mov (.t 0), guard := some (7, false) },
    { dst := some 9, op := .bin .gtr (.t 8) (.c (.int .i64 255)), guard := some (7, false) },
    { dst := some 10, op := .pick (.t 7) (.c (.bool true)) (.t 9) }])
  (.cond (.t 10) ((.seq (.reg false [
    { dst := some 4, op := .mov (.c (.int .i64 1)) }])
  (.ret))) (.skip))))
  (.keep [1] [] ((.seq ((.seq (.reg false [
    { dst := some 11, op := .mov (.t 1) },
    { dst := some 12, op := .lenS (.t 11) },
    { dst := some 13, op := .bin .gtr (.t 12) (.c (.int .i64 65536)) }])
  (.cond (.t 13) ((.seq (.reg false [
    { dst := some 4, op := .mov (.c (.int .i64 2)) }])
  (.ret))) (.skip))))
  (.keep [] [] ((.seq (.reg false [
    { dst := some 4, op := .mov (.c (.int .i64 0)) }])
  (.ret))))))))))
/-- with its results -/
def a34 : AFun := ⟨c34, [(4, none)], 14⟩

/-- estreat/estreatref01.Bytes: parameters int string -/
def c35 : AC :=
  (.seq (.reg false [
    { dst := some 4, op := .mov (.c .nilS) }])
  ((.seq (.reg false [
    { dst := some 7, op := .mov (.t 1) },
    { dst := some 8, op := .lenS (.t 7) },
    { dst := some 5, op := .mov (.t 8) }])
  ((.seq (.reg false [
    { dst := some 9, op := .mov (.t 0) },
    { dst := some 10, op := .conv .u8 (.t 9) },
    { dst := some 11, op := .mov (.t 5) },
    { dst := some 12, op := .bin .quo (.t 11) (.c (.int .i64 65536)) },
    { dst := some 13, op := .conv .u8 (.t 12) },
    { dst := some 14, op := .mov (.t 5) },
    { dst := some 15, op := .bin .quo (.t 14) (.c (.int .i64 256)) },
    { dst := some 16, op := .conv .u8 (.t 15) },
    { dst := some 17, op := .mov (.t 5) },
    { dst := some 18, op := .conv .u8 (.t 17) },
    { dst := some 19, op := .bslice 19 1 [(.int .u8 0)] 4 [(0, (.t 10)), (1, (.t 13)), (2, (.t 16)), (3, (.t 18))] },
    { dst := some 6, op := .mov (.t 19) }])
  (.keep [1, 6] [19, 22] ((.seq (.reg false [
    { dst := some 20, op := .mov (.t 6) },
    { dst := some 21, op := .mov (.t 1) },
    { dst := some 22, op := .app 22 1 1 (.t 20) (.t 21) },
    { dst := some 6, op := .mov (.t 22) }])
  (.keep [6] [19, 22] ((.seq (.reg false [
    { dst := some 23, op := .mov (.t 6) },
    { dst := some 4, op := .mov (.t 23) }])
  (.ret))))))))))))
/-- with its results -/
def a35 : AFun := ⟨c35, [(4, none)], 24⟩

/-- estreat/pack.fields: parameters []uint8 -/
def c36 : AC :=
  (.seq (.reg false [
    { dst := some 1, op := .box 1 (.t 0) },
    { dst := some 2, op := .mov (.c .nilF) }])
  ((.seq (.reg false [
    { dst := some 3, op := .mkf 37 [(.t 1)] },
    { dst := some 2, op := .mov (.t 3) }])
  (.ret))))
/-- with its results -/
def a36 : AFun := ⟨c36, [(2, none)], 4⟩

def b37_0 : AC :=
  (.seq ((.seq (.reg false [
    { dst := some 6, op := .load none (.t 1) },
    { dst := some 7, op := .len (.t 6) },
    { dst := some 8, op := .bin .gtr (.t 7) (.c (.int .i64 0)) }])
  (.cond (.t 8) (.skip) (.exit 0))))
  (.block 1 ((.seq (.reg false [
    { dst := some 10, op := .load none (.t 1) },
    { dst := some 11, op := .call 12000 23 [(.t 10)] },
    { dst := some 9, op := .mov (.t 11) },
    { dst := some 12, op := .ext 0 (.t 9) },
    { dst := some 13, op := .ext 1 (.t 9) },
    { dst := some 14, op := .ext 2 (.t 9) },
    { dst := some 3, op := .alloc 3 z38 },
    { dst := none, op := .store 2 (.t 3) (.t 12) },
    { dst := some 4, op := .mov (.t 13) },
    { dst := some 5, op := .mov (.t 14) }])
  (.keep [0, 1, 3, 4, 5] [3] ((.seq ((.seq (.reg false [
    { dst := some 15, op := .mov (.t 0) },
    { dst := some 16, op := .load (some 2) (.t 3) },
    { dst := some 17, op := .mov (.t 5) },
    { dst := some 18, op := .callv 19000 (.t 15) [(.t 16), (.t 17)] },
    { dst := some 19, op := .un .not (.t 18) },
    { dst := some 20, op := .mov (.t 19) },
    { dst := some 21, op := .mov (.t 5), guard := some (20, false) },
    { dst := some 22, op := .bin .neq (.t 21) (.c (.int .i64 0)), guard := some (20, false) },
    { dst := some 23, op := .pick (.t 20) (.c (.bool true)) (.t 22) }])
  (.cond (.t 23) (.ret) (.skip))))
  (.keep [0, 1, 4] [] (.reg false [
    { dst := some 24, op := .load none (.t 1) },
    { dst := some 25, op := .mov (.t 4) },
    { dst := some 26, op := .slc 1 (.t 24) (some (.t 25)) none none },
    { dst := none, op := .store 1 (.t 1) (.t 26) }])))))))))
/-- estreat/pack.fields$1: parameters func(api.Field, api.Errno) bool -/
def c37 : AC :=
  .block 0 (.loop [0, 1] [] b37_0)
/-- with its results -/
def a37 : AFun := ⟨c37, [], 27⟩

def kh18i_0 : List Nat := [4, 7, 18000, 23000, 28000, 34000, 46000, 100000, 3180007, 3180014]
def b18i_0 : AC :=
  (.seq ((.seq (.reg false [
    { dst := some 8, op := .mov (.t 4) },
    { dst := some 9, op := .bin .lss (.t 8) (.c (.int .i64 7)) }])
  (.cond (.t 9) (.skip) (.exit 0))))
  ((.seq (.block 1 (.reg false [
    { dst := some 12, op := .mov (.t 3) },
    { dst := some 13, op := .bslice 3180013 1 [(.int .u8 0)] 1 [(0, (.c (.int .u8 195)))] },
    { dst := some 14, op := .app 3180014 1 1 (.t 12) (.t 13) },
    { dst := some 3, op := .mov (.t 14) }]))
  (.keep [0, 3, 4] kh18i_0 (.reg false [
    { dst := some 10, op := .mov (.t 4) },
    { dst := some 11, op := .bin .add (.t 10) (.c (.int .i64 1)) },
    { dst := some 4, op := .mov (.t 11) }])))))
/-- estreat/estreatkeep.Lent: parameters []uint8 -/
def c18i : AC :=
  (.seq (.reg false [
    { dst := some 2, op := .mov (.c .nilS) }])
  ((.seq (.reg false [
    { dst := some 3, op := .mov (.c .nilS) }])
  ((.seq (.reg false [
    { dst := some 5, op := .mov (.t 3) },
    { dst := some 6, op := .mov (.t 0) },
    { dst := some 7, op := .app 3180007 1 1 (.t 5) (.t 6) },
    { dst := some 3, op := .mov (.t 7) }])
  (.keep [0, 3] kh18i_0 ((.seq ((.seq (.reg false [
    { dst := some 4, op := .mov (.c (.int .i64 0)) }])
  (.block 0 (.loop [0, 3, 4] kh18i_0 b18i_0))))
  (.keep [0, 3] kh18i_0 ((.seq (.reg false [
    { dst := some 15, op := .mov (.t 3) },
    { dst := some 16, op := .mov (.t 0) },
    { dst := some 17, op := .len (.t 16) },
    { dst := some 18, op := .slc 1 (.t 15) none (some (.t 17)) none },
    { dst := some 2, op := .mov (.t 18) }])
  (.ret))))))))))))
/-- with its results -/
def a18i : AFun := ⟨c18i, [(2, none)], 19⟩

def kh22i_0 : List Nat := [4, 7, 18000, 23000, 28000, 34000, 46000, 3180007, 3180013, 3180014, 3180017]
def kh22i_1 : List Nat := [4, 7, 18000, 23000, 28000, 34000, 46000, 100000, 3180007, 3180013, 3180014, 3180017]
def b22i_0 : AC :=
  (.seq ((.seq (.reg false [
    { dst := some 19, op := .mov (.t 6) },
    { dst := some 20, op := .mov (.t 5) },
    { dst := some 21, op := .len (.t 20) },
    { dst := some 22, op := .bin .lss (.t 19) (.t 21) }])
  (.cond (.t 22) (.skip) (.exit 0))))
  (.keep [5, 6] kh22i_1 ((.seq (.block 1 ((.seq (.reg false [
    { dst := some 25, op := .mov (.t 5) },
    { dst := some 26, op := .mov (.t 6) },
    { dst := some 27, op := .iad 1 (.t 25) (.t 26) },
    { dst := some 28, op := .load none (.t 27) },
    { dst := some 29, op := .bin .neq (.t 28) (.c (.int .u8 195)) }])
  (.cond (.t 29) ((.seq (.reg false [
    { dst := some 4, op := .mov (.c (.bool false)) }])
  (.ret))) (.skip)))))
  (.keep [5, 6] kh22i_1 (.reg false [
    { dst := some 23, op := .mov (.t 6) },
    { dst := some 24, op := .bin .add (.t 23) (.c (.int .i64 1)) },
    { dst := some 6, op := .mov (.t 24) }]))))))
/-- estreat/estreatkeep.Kept: parameters []uint8 []uint8 -/
def c22i : AC :=
  (.seq (.reg false [
    { dst := some 4, op := .mov (.c (.bool false)) }])
  ((.seq ((.seq (.reg false [
    { dst := some 7, op := .mov (.t 0) },
    { dst := some 8, op := .b2s (.t 7) },
    { dst := some 9, op := .mov (.t 1) },
    { dst := some 10, op := .b2s (.t 9) },
    { dst := some 11, op := .bin .neq (.t 8) (.t 10) }])
  (.cond (.t 11) ((.seq (.reg false [
    { dst := some 4, op := .mov (.c (.bool false)) }])
  (.ret))) (.skip))))
  (.keep [0, 1] kh22i_1 ((.seq (.reg false [
    { dst := some 12, op := .mov (.t 0) },
    { dst := some 13, op := .mov (.t 1) },
    { dst := some 14, op := .len (.t 13) },
    { dst := some 15, op := .bin .add (.t 14) (.c (.int .i64 7)) },
    { dst := some 16, op := .slc 1 (.t 12) none (some (.t 15)) none },
    { dst := some 5, op := .mov (.t 16) }])
  (.keep [1, 5] kh22i_1 ((.seq ((.seq (.reg false [
    { dst := some 17, op := .mov (.t 1) },
    { dst := some 18, op := .len (.t 17) },
    { dst := some 6, op := .mov (.t 18) }])
  (.block 0 (.loop [5, 6] kh22i_1 b22i_0))))
  (.keep [] kh22i_0 ((.seq (.reg false [
    { dst := some 4, op := .mov (.c (.bool true)) }])
  (.ret)))))))))))))
/-- with its results -/
def a22i : AFun := ⟨c22i, [(4, none)], 30⟩

/-- estreat/pack.fields: parameters []uint8 -/
def c36i : AC :=
  (.seq (.reg false [
    { dst := some 1, op := .box 3360001 (.t 0) },
    { dst := some 2, op := .mov (.c .nilF) }])
  ((.seq (.reg false [
    { dst := some 3, op := .mkf 37 [(.t 1)] },
    { dst := some 2, op := .mov (.t 3) }])
  (.ret))))
/-- with its results -/
def a36i : AFun := ⟨c36i, [(2, none)], 4⟩

def kh37i_0 : List Nat := [1, 2, 3, 4, 5, 6, 25, 26, 100000, 2900000, 3360001]
def kh37i_1 : List Nat := [1, 2, 3, 4, 5, 6, 25, 26, 100000, 2900000, 3360001, 3370003]
def b37i_0 : AC :=
  (.seq ((.seq (.reg false [
    { dst := some 6, op := .load none (.t 1) },
    { dst := some 7, op := .len (.t 6) },
    { dst := some 8, op := .bin .gtr (.t 7) (.c (.int .i64 0)) }])
  (.cond (.t 8) (.skip) (.exit 0))))
  (.block 1 ((.seq (.reg false [
    { dst := some 10, op := .load none (.t 1) },
    { dst := some 11, op := .call 3370012000 23 [(.t 10)] },
    { dst := some 9, op := .mov (.t 11) },
    { dst := some 12, op := .ext 0 (.t 9) },
    { dst := some 13, op := .ext 1 (.t 9) },
    { dst := some 14, op := .ext 2 (.t 9) },
    { dst := some 3, op := .alloc 3370003 z38 },
    { dst := none, op := .store 2 (.t 3) (.t 12) },
    { dst := some 4, op := .mov (.t 13) },
    { dst := some 5, op := .mov (.t 14) }])
  (.keep [0, 1, 3, 4, 5] kh37i_1 ((.seq ((.seq (.reg false [
    { dst := some 15, op := .mov (.t 0) },
    { dst := some 16, op := .load (some 2) (.t 3) },
    { dst := some 17, op := .mov (.t 5) },
    { dst := some 18, op := .callv 3370019000 (.t 15) [(.t 16), (.t 17)] },
    { dst := some 19, op := .un .not (.t 18) },
    { dst := some 20, op := .mov (.t 19) },
    { dst := some 21, op := .mov (.t 5), guard := some (20, false) },
    { dst := some 22, op := .bin .neq (.t 21) (.c (.int .i64 0)), guard := some (20, false) },
    { dst := some 23, op := .pick (.t 20) (.c (.bool true)) (.t 22) }])
  (.cond (.t 23) (.ret) (.skip))))
  (.keep [0, 1, 4] kh37i_0 (.reg false [
    { dst := some 24, op := .load none (.t 1) },
    { dst := some 25, op := .mov (.t 4) },
    { dst := some 26, op := .slc 1 (.t 24) (some (.t 25)) none none },
    { dst := none, op := .store 1 (.t 1) (.t 26) }])))))))))
/-- estreat/pack.fields$1: parameters func(api.Field, api.Errno) bool -/
def c37i : AC :=
  .block 0 (.loop [0, 1] kh37i_0 b37i_0)
/-- with its results -/
def a37i : AFun := ⟨c37i, [], 27⟩

end Go.Abs.Try

namespace Go.Abs.Try
open Go Go.Abs Go.Proofs
/-- the seat's code -/
def T : List (Nat × AFun) := [(3, a3), (4, a4), (5, a5), (6, a6), (7, a7), (8, a8), (9, a9), (10, a10), (11, a11), (12, a12), (13, a13), (14, a14), (15, a15), (16, a16), (17, a17), (18, a18), (19, a19), (20, a20), (21, a21), (22, a22), (23, a23), (24, a24), (25, a25), (26, a26), (27, a27), (28, a28), (29, a29), (30, a30), (31, a31), (32, a32), (33, a33), (34, a34), (35, a35), (36, a36), (37, a37)]
def T2 : List (Nat × AFun) := [(18, a18i), (22, a22i), (36, a36i), (37, a37i)]
theorem tab : tabOK Try.prog T = true := by kernel_rfl
theorem tab2 : tabOK Try.prog T2 = true := by kernel_rfl
def Q (n : Nat) : Nat → Option FnF := Phi T T2 300000 n
def E (n f : Nat) : CallF := Ev T T2 300000 n f
def I (n f : Nat) : InlF := Iv T T2 300000 n f
def J (n f : Nat) : Nat → InlF → InlF := Jv T T2 300000 n f
theorem q3 (n : Nat) : Q (n + 1) 3 = some ⟨E (n + 1) 3, I (n + 1) 3, J (n + 1) 3, InlF.none⟩ := rfl
theorem e3 (n : Nat) : E (n + 1) 3 = evFun (Q n) 300000 a3 := rfl
theorem q4 (n : Nat) : Q (n + 1) 4 = some ⟨E (n + 1) 4, I (n + 1) 4, J (n + 1) 4, InlF.none⟩ := rfl
theorem e4 (n : Nat) : E (n + 1) 4 = evFun (Q n) 300000 a4 := rfl
theorem q5 (n : Nat) : Q (n + 1) 5 = some ⟨E (n + 1) 5, I (n + 1) 5, J (n + 1) 5, InlF.none⟩ := rfl
theorem e5 (n : Nat) : E (n + 1) 5 = evFun (Q n) 300000 a5 := rfl
theorem q6 (n : Nat) : Q (n + 1) 6 = some ⟨E (n + 1) 6, I (n + 1) 6, J (n + 1) 6, InlF.none⟩ := rfl
theorem e6 (n : Nat) : E (n + 1) 6 = evFun (Q n) 300000 a6 := rfl
theorem q7 (n : Nat) : Q (n + 1) 7 = some ⟨E (n + 1) 7, I (n + 1) 7, J (n + 1) 7, InlF.none⟩ := rfl
theorem e7 (n : Nat) : E (n + 1) 7 = evFun (Q n) 300000 a7 := rfl
theorem q8 (n : Nat) : Q (n + 1) 8 = some ⟨E (n + 1) 8, I (n + 1) 8, J (n + 1) 8, InlF.none⟩ := rfl
theorem e8 (n : Nat) : E (n + 1) 8 = evFun (Q n) 300000 a8 := rfl
theorem q9 (n : Nat) : Q (n + 1) 9 = some ⟨E (n + 1) 9, I (n + 1) 9, J (n + 1) 9, InlF.none⟩ := rfl
theorem e9 (n : Nat) : E (n + 1) 9 = evFun (Q n) 300000 a9 := rfl
theorem q10 (n : Nat) : Q (n + 1) 10 = some ⟨E (n + 1) 10, I (n + 1) 10, J (n + 1) 10, InlF.none⟩ := rfl
theorem e10 (n : Nat) : E (n + 1) 10 = evFun (Q n) 300000 a10 := rfl
theorem q11 (n : Nat) : Q (n + 1) 11 = some ⟨E (n + 1) 11, I (n + 1) 11, J (n + 1) 11, InlF.none⟩ := rfl
theorem e11 (n : Nat) : E (n + 1) 11 = evFun (Q n) 300000 a11 := rfl
theorem q12 (n : Nat) : Q (n + 1) 12 = some ⟨E (n + 1) 12, I (n + 1) 12, J (n + 1) 12, InlF.none⟩ := rfl
theorem e12 (n : Nat) : E (n + 1) 12 = evFun (Q n) 300000 a12 := rfl
theorem q13 (n : Nat) : Q (n + 1) 13 = some ⟨E (n + 1) 13, I (n + 1) 13, J (n + 1) 13, InlF.none⟩ := rfl
theorem e13 (n : Nat) : E (n + 1) 13 = evFun (Q n) 300000 a13 := rfl
theorem q14 (n : Nat) : Q (n + 1) 14 = some ⟨E (n + 1) 14, I (n + 1) 14, J (n + 1) 14, InlF.none⟩ := rfl
theorem e14 (n : Nat) : E (n + 1) 14 = evFun (Q n) 300000 a14 := rfl
theorem q15 (n : Nat) : Q (n + 1) 15 = some ⟨E (n + 1) 15, I (n + 1) 15, J (n + 1) 15, InlF.none⟩ := rfl
theorem e15 (n : Nat) : E (n + 1) 15 = evFun (Q n) 300000 a15 := rfl
theorem q16 (n : Nat) : Q (n + 1) 16 = some ⟨E (n + 1) 16, I (n + 1) 16, J (n + 1) 16, InlF.none⟩ := rfl
theorem e16 (n : Nat) : E (n + 1) 16 = evFun (Q n) 300000 a16 := rfl
theorem q17 (n : Nat) : Q (n + 1) 17 = some ⟨E (n + 1) 17, I (n + 1) 17, J (n + 1) 17, InlF.none⟩ := rfl
theorem e17 (n : Nat) : E (n + 1) 17 = evFun (Q n) 300000 a17 := rfl
theorem q18 (n : Nat) : Q (n + 1) 18 = some ⟨E (n + 1) 18, I (n + 1) 18, J (n + 1) 18, InlF.none⟩ := rfl
theorem e18 (n : Nat) : E (n + 1) 18 = evFun (Q n) 300000 a18 := rfl
theorem q19 (n : Nat) : Q (n + 1) 19 = some ⟨E (n + 1) 19, I (n + 1) 19, J (n + 1) 19, InlF.none⟩ := rfl
theorem e19 (n : Nat) : E (n + 1) 19 = evFun (Q n) 300000 a19 := rfl
theorem q20 (n : Nat) : Q (n + 1) 20 = some ⟨E (n + 1) 20, I (n + 1) 20, J (n + 1) 20, InlF.none⟩ := rfl
theorem e20 (n : Nat) : E (n + 1) 20 = evFun (Q n) 300000 a20 := rfl
theorem q21 (n : Nat) : Q (n + 1) 21 = some ⟨E (n + 1) 21, I (n + 1) 21, J (n + 1) 21, InlF.none⟩ := rfl
theorem e21 (n : Nat) : E (n + 1) 21 = evFun (Q n) 300000 a21 := rfl
theorem q22 (n : Nat) : Q (n + 1) 22 = some ⟨E (n + 1) 22, I (n + 1) 22, J (n + 1) 22, InlF.none⟩ := rfl
theorem e22 (n : Nat) : E (n + 1) 22 = evFun (Q n) 300000 a22 := rfl
theorem q23 (n : Nat) : Q (n + 1) 23 = some ⟨E (n + 1) 23, I (n + 1) 23, J (n + 1) 23, InlF.none⟩ := rfl
theorem e23 (n : Nat) : E (n + 1) 23 = evFun (Q n) 300000 a23 := rfl
theorem q24 (n : Nat) : Q (n + 1) 24 = some ⟨E (n + 1) 24, I (n + 1) 24, J (n + 1) 24, InlF.none⟩ := rfl
theorem e24 (n : Nat) : E (n + 1) 24 = evFun (Q n) 300000 a24 := rfl
theorem q25 (n : Nat) : Q (n + 1) 25 = some ⟨E (n + 1) 25, I (n + 1) 25, J (n + 1) 25, InlF.none⟩ := rfl
theorem e25 (n : Nat) : E (n + 1) 25 = evFun (Q n) 300000 a25 := rfl
theorem q26 (n : Nat) : Q (n + 1) 26 = some ⟨E (n + 1) 26, I (n + 1) 26, J (n + 1) 26, InlF.none⟩ := rfl
theorem e26 (n : Nat) : E (n + 1) 26 = evFun (Q n) 300000 a26 := rfl
theorem q27 (n : Nat) : Q (n + 1) 27 = some ⟨E (n + 1) 27, I (n + 1) 27, J (n + 1) 27, InlF.none⟩ := rfl
theorem e27 (n : Nat) : E (n + 1) 27 = evFun (Q n) 300000 a27 := rfl
theorem q28 (n : Nat) : Q (n + 1) 28 = some ⟨E (n + 1) 28, I (n + 1) 28, J (n + 1) 28, InlF.none⟩ := rfl
theorem e28 (n : Nat) : E (n + 1) 28 = evFun (Q n) 300000 a28 := rfl
theorem q29 (n : Nat) : Q (n + 1) 29 = some ⟨E (n + 1) 29, I (n + 1) 29, J (n + 1) 29, InlF.none⟩ := rfl
theorem e29 (n : Nat) : E (n + 1) 29 = evFun (Q n) 300000 a29 := rfl
theorem q30 (n : Nat) : Q (n + 1) 30 = some ⟨E (n + 1) 30, I (n + 1) 30, J (n + 1) 30, InlF.none⟩ := rfl
theorem e30 (n : Nat) : E (n + 1) 30 = evFun (Q n) 300000 a30 := rfl
theorem q31 (n : Nat) : Q (n + 1) 31 = some ⟨E (n + 1) 31, I (n + 1) 31, J (n + 1) 31, InlF.none⟩ := rfl
theorem e31 (n : Nat) : E (n + 1) 31 = evFun (Q n) 300000 a31 := rfl
theorem q32 (n : Nat) : Q (n + 1) 32 = some ⟨E (n + 1) 32, I (n + 1) 32, J (n + 1) 32, InlF.none⟩ := rfl
theorem e32 (n : Nat) : E (n + 1) 32 = evFun (Q n) 300000 a32 := rfl
theorem q33 (n : Nat) : Q (n + 1) 33 = some ⟨E (n + 1) 33, I (n + 1) 33, J (n + 1) 33, InlF.none⟩ := rfl
theorem e33 (n : Nat) : E (n + 1) 33 = evFun (Q n) 300000 a33 := rfl
theorem q34 (n : Nat) : Q (n + 1) 34 = some ⟨E (n + 1) 34, I (n + 1) 34, J (n + 1) 34, InlF.none⟩ := rfl
theorem e34 (n : Nat) : E (n + 1) 34 = evFun (Q n) 300000 a34 := rfl
theorem q35 (n : Nat) : Q (n + 1) 35 = some ⟨E (n + 1) 35, I (n + 1) 35, J (n + 1) 35, InlF.none⟩ := rfl
theorem e35 (n : Nat) : E (n + 1) 35 = evFun (Q n) 300000 a35 := rfl
theorem q36 (n : Nat) : Q (n + 1) 36 = some ⟨E (n + 1) 36, I (n + 1) 36, J (n + 1) 36, InlF.none⟩ := rfl
theorem e36 (n : Nat) : E (n + 1) 36 = evFun (Q n) 300000 a36 := rfl
theorem q37 (n : Nat) : Q (n + 1) 37 = some ⟨E (n + 1) 37, I (n + 1) 37, J (n + 1) 37, InlF.none⟩ := rfl
theorem e37 (n : Nat) : E (n + 1) 37 = evFun (Q n) 300000 a37 := rfl
theorem i18 (n : Nat) : I (n + 1) 18 = evInl (Q n) 300000 a18i := rfl
theorem j18 (n : Nat) : J (n + 1) 18 = evItr (Q n) 300000 a18i := rfl
theorem i22 (n : Nat) : I (n + 1) 22 = evInl (Q n) 300000 a22i := rfl
theorem j22 (n : Nat) : J (n + 1) 22 = evItr (Q n) 300000 a22i := rfl
theorem i36 (n : Nat) : I (n + 1) 36 = evInl (Q n) 300000 a36i := rfl
theorem j36 (n : Nat) : J (n + 1) 36 = evItr (Q n) 300000 a36i := rfl
theorem i37 (n : Nat) : I (n + 1) 37 = evInl (Q n) 300000 a37i := rfl
theorem j37 (n : Nat) : J (n + 1) 37 = evItr (Q n) 300000 a37i := rfl
theorem ref (n f : Nat) {F} (h : Q n f = some F) : Refines Try.prog f (E n f) := Ev_refines tab tab2 h
end Go.Abs.Try

namespace Go.Abs.Try
open Go Go.Abs
set_option maxHeartbeats 16000000
set_option maxRecDepth 100000
set_option linter.unusedSimpArgs false
set_option linter.unusedVariables false

theorem fields_ok : E 6 21 [] = some (.bool true, []) := by kernel_rfl
theorem byteRows_len (l : List UInt8) : (byteRows l).length = l.length := by simp [byteRows]
theorem byteRows_append (a b : List UInt8) : byteRows (a ++ b) = byteRows a ++ byteRows b := by simp [byteRows]
theorem k18a : 3180007 ∈ kh18i_0 := by decide +kernel
theorem k18b : 3180014 ∈ kh18i_0 := by decide +kernel
theorem k18c : 3180013 ∉ kh18i_0 := by decide +kernel
abbrev mk : List AV := [.int .u8 195]

theorem step18 (Φ : Nat → Option FnF) (K N : Nat) (hN : N = 3180007 ∨ N = 3180014) (v : AV) (R : List (List AV)) (hR : R.length ≤ 1000000) (i k g c : Nat) (hi : i < 7) :
    ∃ g' c', iter (ev Φ K b18i_0) [0, 3, 4] kh18i_0 (k + 1) ⟨[(0, v), (3, .own N g 0 R.length), (4, .int .i64 i)], [⟨N, g, .arr 1 R false⟩], c⟩ =
      iter (ev Φ K b18i_0) [0, 3, 4] kh18i_0 k ⟨[(0, v), (3, .own N g' 0 (R ++ [mk]).length), (4, .int .i64 (i + 1 : Nat))], [⟨N, g', .arr 1 (R ++ [mk]) false⟩], c'⟩ := by
  have h1 : (i : Int) < 7 := by omega
  have w1 : IntKind.i64.wrap ((i : Int) + 1) = (i : Int) + 1 := wrap_i64 _ (by omega) (by omega)
  have e2 : R.take R.length = R := List.take_of_length_le (Nat.le_refl _)
  have e3 : R.length ≤ 17592186044415 := by omega
  have e5 : ¬ R.length + 1 ≤ R.length := by omega
  refine ⟨c + 1, c + 2, iter_norm ?_⟩
  rcases hN with rfl | rfl
  · simp -implicitDefEqProofs [b18i_0, k18a, k18b, k18c, St.keep, h1, w1, aappend, maxBytes, e2, e3, e5]
  · simp -implicitDefEqProofs [b18i_0, k18a, k18b, k18c, St.keep, h1, w1, aappend, maxBytes, e2, e3, e5]

theorem loop18 (Φ : Nat → Option FnF) (K N : Nat) (hN : N = 3180007 ∨ N = 3180014) (v : AV) : ∀ (d i k : Nat) (R : List (List AV)) (g c : Nat), i + d = 7 → d < k → R.length + d ≤ 1000000 →
    ∃ g' c', iter (ev Φ K b18i_0) [0, 3, 4] kh18i_0 k ⟨[(0, v), (3, .own N g 0 R.length), (4, .int .i64 i)], [⟨N, g, .arr 1 R false⟩], c⟩ =
      some (.exit 0, ⟨[(0, v), (3, .own N g' 0 (R.length + d)), (4, .int .i64 7), (8, .int .i64 7), (9, .bool false)], [⟨N, g', .arr 1 (R ++ List.replicate d mk) false⟩], c'⟩)
  | d, i, 0, R, g, c, hi, hk, hR => by omega
  | 0, i, k + 1, R, g, c, hi, hk, hR => by
    obtain rfl : i = 7 := by omega
    refine ⟨g, c, ?_⟩
    rw [iter_succ]
    rcases hN with rfl | rfl <;> simp -implicitDefEqProofs [b18i_0, k18a, k18b, k18c]
  | d + 1, i, k + 1, R, g, c, hi, hk, hR => by
    obtain ⟨g1, c1, e1⟩ := step18 Φ K N hN v R (by omega) i k g c (by omega)
    obtain ⟨g2, c2, e2⟩ := loop18 Φ K N hN v d (i + 1) k (R ++ [mk]) g1 c1 (by omega) (by omega) (by simp; omega)
    refine ⟨g2, c2, ?_⟩
    rw [e1, e2]
    have e3 : (R ++ [mk]) ++ List.replicate d mk = R ++ List.replicate (d + 1) mk := by rw [List.append_assoc]; rfl
    have e4 : (R ++ [mk]).length + d = R.length + (d + 1) := by simp; omega
    rw [e3, e4]

/-- the bytes of an argument -/
def Is (l : List UInt8) (v : AV) : Prop := (v = .nilS ∧ l = []) ∨ v = .ro false 1 (byteRows l)

theorem lent18 (n : Nat) (l : List UInt8) (v : AV) (hv : Is l v) (hl : l.length ≤ 500000) :
    ∃ N g c, (N = 3180007 ∨ N = 3180014) ∧ I (n + 1) 18 [] 0 [v] = some (.own N g 0 l.length, [⟨N, g, .arr 1 (byteRows l ++ List.replicate 7 mk) false⟩], c) := by
  rw [i18]
  have hb := byteRows_len l
  by_cases h0 : l = []
  · -- the first byte makes the array
    subst h0
    obtain ⟨g, c, e⟩ := loop18 (Q n) 300000 3180014 (.inr rfl) v 6 1 299999 [mk] 1 2 (by omega) (by omega) (by simp)
    refine ⟨3180014, g, c, .inr rfl, ?_⟩
    have st : iter (ev (Q n) 300000 b18i_0) [0, 3, 4] kh18i_0 300000 ⟨[(0, v), (3, .nilS), (4, .int .i64 0)], [], 0⟩ = iter (ev (Q n) 300000 b18i_0) [0, 3, 4] kh18i_0 299999 ⟨[(0, v), (3, .own 3180014 1 0 1), (4, .int .i64 1)], [⟨3180014, 1, .arr 1 [mk] false⟩], 2⟩ := by
      have w1 : IntKind.i64.wrap 1 = 1 := wrap_i64 _ (by omega) (by omega)
      refine iter_norm ?_
      simp -implicitDefEqProofs [b18i_0, k18a, k18b, k18c, St.keep, w1, aappend, maxBytes]
    have hr : [mk] ++ List.replicate 6 mk = List.replicate 7 mk := rfl
    rw [hr] at e
    simp at e
    rcases hv with ⟨rfl, _⟩ | rfl
    · simp -implicitDefEqProofs [evInl, a18i, c18i, k18a, k18b, k18c, aappend]
      rw [iter_keep]
      simp [k18a, k18b, k18c]
      rw [st, e]
      simp [byteRows, k18a, k18b, k18c]
    · simp -implicitDefEqProofs [evInl, a18i, c18i, k18a, k18b, k18c, aappend, byteRows]
      rw [iter_keep]
      simp [k18a, k18b, k18c]
      simp [byteRows] at st
      rw [st]
      simp [byteRows] at e
      rw [e]
      simp [byteRows, k18a, k18b, k18c]
  · rcases hv with ⟨_, h⟩ | rfl
    · exact absurd h h0
    obtain ⟨b, r, rfl⟩ : ∃ b r, l = b :: r := by
      cases l with
      | nil => exact absurd rfl h0
      | cons b r => exact ⟨b, r, rfl⟩
    obtain ⟨g, c, e⟩ := loop18 (Q n) 300000 3180007 (.inl rfl) (.ro false 1 (byteRows (b :: r))) 7 0 300000 (byteRows (b :: r)) 0 1 (by omega) (by omega) (by rw [hb]; omega)
    refine ⟨3180007, g, c, .inl rfl, ?_⟩
    rw [hb] at e
    have q1 : r.length + 1 ≤ 17592186044416 := by simp at hl; omega
    have eb : byteRows (b :: r) = [.int .u8 b.toNat] :: byteRows r := rfl
    have hbr := byteRows_len r
    rw [eb] at e ⊢
    simp -implicitDefEqProofs [evInl, a18i, c18i, k18a, k18b, k18c, aappend, maxBytes, hbr, show r.length ≤ 17592186044415 by omega]
    rw [iter_keep]
    simp [k18a, k18b, k18c]
    simp at e
    rw [e]
    simp [k18a, k18b, k18c, hbr, show (0 : Int) ≤ (r.length : Int) + 1 by omega, show (r.length : Int) ≤ (r.length : Int) + 7 by omega, show r.length + 1 ≤ r.length + 7 + 1 by omega]


theorem loop22 (Φ : Nat → Option FnF) (K N g : Nat) (l : List UInt8) (hl : l.length ≤ 500000) (H : AH) (c : Nat) (hH : H.get N g = some (.arr 1 (byteRows l ++ List.replicate 7 mk) false)) (hB : H.only kh22i_1 = H) : ∀ (d j k : Nat), j + d = 7 → d < k →
    ∃ s', iter (ev Φ K b22i_0) [5, 6] kh22i_1 k ⟨[(5, .own N g 0 (l.length + 7)), (6, .int .i64 ((l.length : Int) + j))], H, c⟩ = some (.exit 0, s') ∧ s'.h = H ∧ s'.c = c
  | d, j, 0, hj, hk => by omega
  | 0, j, k + 1, hj, hk => by
    obtain rfl : j = 7 := by omega
    rw [iter_succ]
    simp -implicitDefEqProofs [b22i_0, hB]
  | d + 1, j, k + 1, hj, hk => by
    obtain ⟨s', e, e1, e2⟩ := loop22 Φ K N g l hl H c hH hB d (j + 1) k (by omega) (by omega)
    refine ⟨s', ?_, e1, e2⟩
    rw [← e]
    have h1 : (j : Int) < 7 := by omega
    have w1 : IntKind.i64.wrap ((l.length : Int) + (j : Int) + 1) = (l.length : Int) + ((j : Int) + 1) := by rw [wrap_i64 _ (by omega) (by omega)]; omega
    have p1 : 0 ≤ (l.length : Int) + (j : Int) := by omega
    have p2 : ((l.length : Int) + (j : Int)).toNat = l.length + j := by omega
    have hget : (byteRows l ++ List.replicate 7 mk)[l.length + j]? = some mk := by
      rw [List.getElem?_append_right (by rw [byteRows_len]; omega), byteRows_len, show l.length + j - l.length = j by omega, List.getElem?_replicate, if_pos (by omega)]
    have hget' := (List.getElem?_eq_some_iff.1 hget).2
    have hlen : (byteRows l ++ List.replicate 7 mk).length = l.length + 7 := by rw [List.length_append, byteRows_len]; simp
    have p3 : l.length + j < l.length + 7 := by omega
    generalize byteRows l ++ List.replicate 7 mk = R at *
    refine iter_norm ?_
    simp -implicitDefEqProofs [b22i_0, St.keep, hB, h1, w1, p1, p2, p3, hH, hget, hget', hlen, show j < 7 by omega]

theorem kept22 (n N g : Nat) (l : List UInt8) (v : AV) (hv : Is l v) (hl : l.length ≤ 500000) (H : AH) (c : Nat) (hH : H.get N g = some (.arr 1 (byteRows l ++ List.replicate 7 mk) false)) (hB : H.only kh22i_1 = H) (hC : H.only kh22i_0 = H) :
    I (n + 1) 22 H c [.own N g 0 l.length, v] = some (.bool true, H, c) := by
  rw [i22]
  obtain ⟨s', e, e1, e2⟩ := loop22 (Q n) 300000 N g l hl H c hH hB 7 0 300000 (by omega) (by omega)
  obtain ⟨f', h', c'⟩ := s'
  obtain rfl : h' = H := e1
  obtain rfl : c' = c := e2
  have hb := byteRows_len l
  have ht := toBytes_rows l
  have w1 : IntKind.i64.wrap ((l.length : Int) + 7) = (l.length : Int) + 7 := wrap_i64 _ (by omega) (by omega)
  have p1 : 0 ≤ (l.length : Int) + 7 := by omega
  have p2 : ((l.length : Int) + 7).toNat = l.length + 7 := by omega
  have hlen : (byteRows l ++ List.replicate 7 mk).length = l.length + 7 := by rw [List.length_append, hb]; simp
  have htk : (byteRows l ++ List.replicate 7 mk).take l.length = byteRows l := by rw [List.take_append_of_le_length (by omega), List.take_of_length_le (by omega)]
  have e' := e
  simp at e'
  rcases hv with ⟨rfl, rfl⟩ | rfl
  · have w7 : IntKind.i64.wrap 7 = 7 := wrap_i64 _ (by omega) (by omega)
    generalize byteRows [] ++ List.replicate 7 mk = R at *
    simp at hlen
    simp -implicitDefEqProofs [evInl, a22i, c22i, hH, hB, hC, hlen, w7, show toBytes [] = some [] from rfl]
    rw [iter_keep]
    simp [hB]
    simp at e'
    rw [e']
    simp [hC]
  · generalize byteRows l ++ List.replicate 7 mk = R at *
    simp -implicitDefEqProofs [evInl, a22i, c22i, hH, hB, hC, hb, ht, w1, p1, p2, hlen, htk]
    rw [iter_keep]
    simp [hB]
    rw [e']
    simp [hC]
end Go.Abs.Try

namespace Go.Abs.Try
open Go Go.Abs
set_option maxHeartbeats 16000000
set_option maxRecDepth 100000
set_option linter.unusedSimpArgs false
set_option linter.unusedVariables false

theorem or3 (a b c : Nat) (ha : a < 256) (hb : b < 256) (hc : c < 256) : abits .or .i64 ((a : Int) * 65536) ((b : Int) * 256) = some (.int .i64 ((a : Int) * 65536 + (b : Int) * 256)) ∧
    abits .or .i64 ((a : Int) * 65536 + (b : Int) * 256) (c : Int) = some (.int .i64 ((a : Int) * 65536 + (b : Int) * 256 + c)) := by
  have h1 := or_low a (b * 256) 16 (by omega) (by omega)
  have h2 := or_low (a * 256 + b) c 8 (by omega) (by omega)
  constructor
  · have e1 : (a : Int) * 65536 = ((a * 2 ^ 16 : Nat) : Int) := by omega
    have e2 : (b : Int) * 256 = ((b * 256 : Nat) : Int) := by omega
    rw [e1, e2, h1]
    congr 2
  · have e1 : (a : Int) * 65536 + (b : Int) * 256 = (((a * 256 + b) * 2 ^ 8 : Nat) : Int) := by omega
    rw [e1, h2]
    congr 2

/-- what both Gets tell of bytes -/
def getR : List UInt8 → AV
  | t :: a :: b :: c :: r =>
    if t.toNat = 0 ∨ 65536 < a.toNat * 65536 + b.toNat * 256 + c.toNat then .tup [.agg z38, .int .i64 0, .int .i64 11]
    else if r.length < a.toNat * 65536 + b.toNat * 256 + c.toNat then .tup [.agg z38, .int .i64 0, .int .i64 10]
    else .tup [.agg [.int .i64 t.toNat, .str ⟨(r.take (a.toNat * 65536 + b.toNat * 256 + c.toNat)).toArray⟩], .int .i64 (4 + ((a.toNat * 65536 + b.toNat * 256 + c.toNat : Nat) : Int)), .int .i64 0]
  | _ => .tup [.agg z38, .int .i64 0, .int .i64 10]

theorem byteRows_take (n : Nat) (l : List UInt8) : (byteRows l).take n = byteRows (l.take n) := by simp [byteRows]
theorem u8_eq0 (t : UInt8) : t = 0 ↔ t.toNat = 0 := by
  constructor
  · rintro rfl; rfl
  · intro h; exact UInt8.toNat_inj.1 h

theorem short23 (m : Nat) (x : Bool) (l : List UInt8) (hl : l.length < 4) : E (m + 1) 23 [.ro x 1 (byteRows l)] = some (getR l, []) := by
  rw [e23]
  have hb := byteRows_len l
  have h1 : (l.length : Int) < 4 := by omega
  have g : getR l = .tup [.agg z38, .int .i64 0, .int .i64 10] := by
    rcases l with _ | ⟨a, _ | ⟨b, _ | ⟨c, _ | ⟨d, r⟩⟩⟩⟩ <;> first | rfl | (simp at hl; omega)
  rw [g]
  simp -implicitDefEqProofs [a23, c23, z38, hb, h1]
theorem short24 (m : Nat) (x : Bool) (l : List UInt8) (hl : l.length < 4) : E (m + 1) 24 [.ro x 1 (byteRows l)] = some (getR l, []) := by
  rw [e24]
  have hb := byteRows_len l
  have h1 : (l.length : Int) < 4 := by omega
  have g : getR l = .tup [.agg z38, .int .i64 0, .int .i64 10] := by
    rcases l with _ | ⟨a, _ | ⟨b, _ | ⟨c, _ | ⟨d, r⟩⟩⟩⟩ <;> first | rfl | (simp at hl; omega)
  rw [g]
  simp -implicitDefEqProofs [a24, c24, z38, hb, h1]

theorem long23 (m : Nat) (x : Bool) (t a b c : UInt8) (r : List UInt8) (hr : r.length ≤ 1000000) : E (m + 1) 23 [.ro x 1 (byteRows (t :: a :: b :: c :: r))] = some (getR (t :: a :: b :: c :: r), []) := by
  rw [e23]
  have eH : byteRows (t :: a :: b :: c :: r) = [AV.int .u8 t.toNat] :: [AV.int .u8 a.toNat] :: [AV.int .u8 b.toNat] :: [AV.int .u8 c.toNat] :: byteRows r := rfl
  rw [eH, getR]
  have hlen := byteRows_len r
  have tb := toBytes_rows (r.take (a.toNat * 65536 + b.toNat * 256 + c.toNat))
  rw [← byteRows_take] at tb
  have ht := t.toNat_lt
  have ha := a.toNat_lt
  have hb := b.toNat_lt
  have hc := c.toNat_lt
  generalize t.toNat = t at *
  generalize a.toNat = a at *
  generalize b.toNat = b at *
  generalize c.toNat = c at *
  simp only [show (2 : Nat) ^ 8 = 256 from rfl] at ht ha hb hc
  generalize byteRows r = R at *
  have c1 : ¬ (R.length : Int) + 1 + 1 + 1 + 1 < 4 := by omega
  obtain ⟨o1, o2⟩ := or3 a b c ha hb hc
  have w0 : IntKind.i64.wrap (t : Int) = (t : Int) := wrap_i64 _ (by omega) (by omega)
  have w1 : IntKind.i64.wrap (a : Int) = (a : Int) := wrap_i64 _ (by omega) (by omega)
  have w2 : IntKind.i64.wrap (b : Int) = (b : Int) := wrap_i64 _ (by omega) (by omega)
  have w3 : IntKind.i64.wrap (c : Int) = (c : Int) := wrap_i64 _ (by omega) (by omega)
  have w4 : IntKind.i64.wrap ((a : Int) * 65536) = (a : Int) * 65536 := wrap_i64 _ (by omega) (by omega)
  have w5 : IntKind.i64.wrap ((b : Int) * 256) = (b : Int) * 256 := wrap_i64 _ (by omega) (by omega)
  obtain ⟨N, hN⟩ : ∃ N, N = a * 65536 + b * 256 + c := ⟨_, rfl⟩
  have eN : ((a : Int) * 65536 + (b : Int) * 256 + c) = (N : Int) := by omega
  rw [eN] at o2
  rw [← hN] at tb ⊢
  have w7 : IntKind.i64.wrap ((R.length : Int) + 1 + 1 + 1 + 1 - 4) = (R.length : Int) := by rw [wrap_i64 _ (by omega) (by omega)]; omega
  by_cases h0 : t = 0
  · subst h0
    simp -implicitDefEqProofs [a23, c23, z38, c1, o1, o2, w1, w2, w3, w4, w5]
  have h0' : ((t : Int) == 0) = false := by rw [beq_eq_false_iff_ne]; omega
  by_cases h2 : 65536 < N
  · have h2' : (65536 : Int) < (N : Int) := by omega
    simp -implicitDefEqProofs [a23, c23, z38, c1, o1, o2, w1, w2, w3, w4, w5, h0, h0', h2, h2']
  have h2' : ¬ (65536 : Int) < (N : Int) := by omega
  by_cases h3 : r.length < N
  · have h3' : (R.length : Int) < (N : Int) := by omega
    simp -implicitDefEqProofs [a23, c23, z38, c1, o1, o2, w1, w2, w3, w4, w5, w7, h0, h0', h2, h2', h3, h3']
  have h3' : ¬ (R.length : Int) < (N : Int) := by omega
  have w6 : IntKind.i64.wrap (4 + (N : Int)) = 4 + (N : Int) := wrap_i64 _ (by omega) (by omega)
  have c4 : 0 ≤ 4 + (N : Int) := by omega
  have c5 : 4 + (N : Int) ≤ (R.length : Int) + 1 + 1 + 1 + 1 := by omega
  have c6 : (4 + (N : Int)).toNat = 4 + N := by omega
  have c7 : (4 : Int) ≤ 4 + (N : Int) := by omega
  have sl : List.drop 4 (List.take (4 + N) ([AV.int .u8 t] :: [AV.int .u8 a] :: [AV.int .u8 b] :: [AV.int .u8 c] :: R)) = R.take N := by
    rw [show 4 + N = N + 1 + 1 + 1 + 1 by omega]
    simp only [List.take_succ_cons, List.drop_succ_cons, List.drop_zero]
  simp -implicitDefEqProofs [a23, c23, z38, c1, o1, o2, w0, w1, w2, w3, w4, w5, w6, w7, h0, h0', h2, h2', h3, h3', c4, c5, c6, c7, sl, tb]

theorem long24 (m : Nat) (x : Bool) (t a b c : UInt8) (r : List UInt8) (hr : r.length ≤ 1000000) : E (m + 1) 24 [.ro x 1 (byteRows (t :: a :: b :: c :: r))] = some (getR (t :: a :: b :: c :: r), []) := by
  rw [e24]
  have eH : byteRows (t :: a :: b :: c :: r) = [AV.int .u8 t.toNat] :: [AV.int .u8 a.toNat] :: [AV.int .u8 b.toNat] :: [AV.int .u8 c.toNat] :: byteRows r := rfl
  rw [eH, getR]
  have hlen := byteRows_len r
  have tb := toBytes_rows (r.take (a.toNat * 65536 + b.toNat * 256 + c.toNat))
  rw [← byteRows_take] at tb
  have ht := t.toNat_lt
  have ha := a.toNat_lt
  have hb := b.toNat_lt
  have hc := c.toNat_lt
  generalize t.toNat = t at *
  generalize a.toNat = a at *
  generalize b.toNat = b at *
  generalize c.toNat = c at *
  simp only [show (2 : Nat) ^ 8 = 256 from rfl] at ht ha hb hc
  generalize byteRows r = R at *
  have c1 : ¬ (R.length : Int) + 1 + 1 + 1 + 1 < 4 := by omega
  have w0 : IntKind.i64.wrap (t : Int) = (t : Int) := wrap_i64 _ (by omega) (by omega)
  have w1 : IntKind.i64.wrap (a : Int) = (a : Int) := wrap_i64 _ (by omega) (by omega)
  have w2 : IntKind.i64.wrap (b : Int) = (b : Int) := wrap_i64 _ (by omega) (by omega)
  have w3 : IntKind.i64.wrap (c : Int) = (c : Int) := wrap_i64 _ (by omega) (by omega)
  have w4 : IntKind.i64.wrap (65536 * (a : Int)) = (a : Int) * 65536 := by rw [wrap_i64 _ (by omega) (by omega)]; omega
  have w5 : IntKind.i64.wrap (256 * (b : Int)) = (b : Int) * 256 := by rw [wrap_i64 _ (by omega) (by omega)]; omega
  have w8 : IntKind.i64.wrap ((a : Int) * 65536 + (b : Int) * 256) = (a : Int) * 65536 + (b : Int) * 256 := wrap_i64 _ (by omega) (by omega)
  obtain ⟨N, hN⟩ : ∃ N, N = a * 65536 + b * 256 + c := ⟨_, rfl⟩
  have eN : ((a : Int) * 65536 + (b : Int) * 256 + c) = (N : Int) := by omega
  have w9 : IntKind.i64.wrap ((a : Int) * 65536 + (b : Int) * 256 + c) = (N : Int) := by rw [wrap_i64 _ (by omega) (by omega)]; omega
  rw [← hN] at tb ⊢
  have w7 : IntKind.i64.wrap ((R.length : Int) + 1 + 1 + 1 + 1 - 4) = (R.length : Int) := by rw [wrap_i64 _ (by omega) (by omega)]; omega
  by_cases h0 : t = 0
  · subst h0
    simp -implicitDefEqProofs [a24, c24, z38, c1, w1, w2, w3, w4, w5, w8, w9]
  have h0' : ((t : Int) == 0) = false := by rw [beq_eq_false_iff_ne]; omega
  by_cases h2 : 65536 < N
  · have h2' : (65536 : Int) < (N : Int) := by omega
    simp -implicitDefEqProofs [a24, c24, z38, c1, w1, w2, w3, w4, w5, w8, w9, h0, h0', h2, h2']
  have h2' : ¬ (65536 : Int) < (N : Int) := by omega
  by_cases h3 : r.length < N
  · have h3' : (R.length : Int) < (N : Int) := by omega
    simp -implicitDefEqProofs [a24, c24, z38, c1, w1, w2, w3, w4, w5, w7, w8, w9, h0, h0', h2, h2', h3, h3']
  have h3' : ¬ (R.length : Int) < (N : Int) := by omega
  have w6 : IntKind.i64.wrap (4 + (N : Int)) = 4 + (N : Int) := wrap_i64 _ (by omega) (by omega)
  have c4 : 0 ≤ 4 + (N : Int) := by omega
  have c5 : 4 + (N : Int) ≤ (R.length : Int) + 1 + 1 + 1 + 1 := by omega
  have c6 : (4 + (N : Int)).toNat = 4 + N := by omega
  have c7 : (4 : Int) ≤ 4 + (N : Int) := by omega
  have sl : List.drop 4 (List.take (4 + N) ([AV.int .u8 t] :: [AV.int .u8 a] :: [AV.int .u8 b] :: [AV.int .u8 c] :: R)) = R.take N := by
    rw [show 4 + N = N + 1 + 1 + 1 + 1 by omega]
    simp only [List.take_succ_cons, List.drop_succ_cons, List.drop_zero]
  simp -implicitDefEqProofs [a24, c24, z38, c1, w0, w1, w2, w3, w4, w5, w6, w7, w8, w9, h0, h0', h2, h2', h3, h3', c4, c5, c6, c7, sl, tb]

theorem get23 (m : Nat) (x : Bool) (l : List UInt8) (hl : l.length ≤ 1000000) : E (m + 1) 23 [.ro x 1 (byteRows l)] = some (getR l, []) := by
  rcases l with _ | ⟨a, _ | ⟨b, _ | ⟨c, _ | ⟨d, r⟩⟩⟩⟩
  · exact short23 m x _ (by simp)
  · exact short23 m x _ (by simp)
  · exact short23 m x _ (by simp)
  · exact short23 m x _ (by simp)
  · exact long23 m x a b c d r (by simp at hl; omega)
theorem get24 (m : Nat) (x : Bool) (l : List UInt8) (hl : l.length ≤ 1000000) : E (m + 1) 24 [.ro x 1 (byteRows l)] = some (getR l, []) := by
  rcases l with _ | ⟨a, _ | ⟨b, _ | ⟨c, _ | ⟨d, r⟩⟩⟩⟩
  · exact short24 m x _ (by simp)
  · exact short24 m x _ (by simp)
  · exact short24 m x _ (by simp)
  · exact short24 m x _ (by simp)
  · exact long24 m x a b c d r (by simp at hl; omega)
theorem nil24 (m : Nat) : E (m + 1) 24 [.nilS] = some (getR [], []) := by
  rw [e24]
  simp -implicitDefEqProofs [a24, c24, z38, getR]
end Go.Abs.Try

namespace Go.Abs.Try
open Go Go.Abs
set_option maxHeartbeats 16000000
set_option maxRecDepth 100000
set_option linter.unusedSimpArgs false
set_option linter.unusedVariables false

theorem ok_rows : ∀ (rows : List (List AV)), (∀ r, r ∈ rows → okRow [.int .u8] r) → ∃ mm : List UInt8, rows = byteRows mm
  | [], _ => ⟨[], rfl⟩
  | r :: rs, h => by
    obtain ⟨n, vs, rfl, hw, h2⟩ := (h r List.mem_cons_self).int
    obtain rfl := h2.nil_inv
    obtain ⟨mm, rfl⟩ := ok_rows rs (fun x hx => h x (List.mem_cons_of_mem _ hx))
    simp only [Lit.wf, Bool.and_eq_true, decide_eq_true_eq] at hw
    have e1 : IntKind.min .u8 = 0 := rfl
    have e2 : IntKind.max .u8 = 255 := rfl
    refine ⟨UInt8.ofNat n.toNat :: mm, ?_⟩
    simp only [byteRows, List.map_cons]
    congr 2
    simp
    omega

/-- an argument of bytes -/
theorem ok_bytes {v : AV} (o : okRow [.sl [.int .u8]] [v]) : ∃ l, Is l v := by
  obtain ⟨v', _, e, hv, _⟩ := o.sl
  obtain ⟨rfl, _⟩ : v = v' ∧ _ := by simpa using e
  rcases hv with rfl | ⟨rows, rfl, _, hr⟩
  · exact ⟨[], .inl ⟨rfl, rfl⟩⟩
  · obtain ⟨mm, rfl⟩ := ok_rows rows hr
    exact ⟨mm, .inr rfl⟩

theorem getR_form (l : List UInt8) : ∃ a s k j, getR l = .tup [.agg [.int .i64 a, .str s], .int .i64 k, .int .i64 j] := by
  rcases l with _ | ⟨t, _ | ⟨a, _ | ⟨b, _ | ⟨c, r⟩⟩⟩⟩
  · exact ⟨_, _, _, _, rfl⟩
  · exact ⟨_, _, _, _, rfl⟩
  · exact ⟨_, _, _, _, rfl⟩
  · exact ⟨_, _, _, _, rfl⟩
  · rw [getR]
    split
    · exact ⟨_, _, _, _, rfl⟩
    · split <;> exact ⟨_, _, _, _, rfl⟩

end Go.Abs.Try

namespace Go.Abs.Try
open Go Go.Abs
set_option maxHeartbeats 16000000
set_option maxRecDepth 100000
set_option linter.unusedSimpArgs false
set_option linter.unusedVariables false

theorem may32 (n : Nat) (tag last : Int) (d : ByteArray) : E (n + 1) 32 [.agg [.int .i64 tag, .str d], .int .i64 last] =
    some (.int .i64 (if 255 < tag ∨ tag ≤ last then 1 else if 65536 < (d.size : Int) then 2 else 0), []) := by
  rw [e32]
  by_cases h1 : 255 < tag
  · simp -implicitDefEqProofs [a32, c32, h1]
  by_cases h2 : tag ≤ last
  · simp -implicitDefEqProofs [a32, c32, h1, h2]
  by_cases h3 : 65536 < (d.size : Int)
  · simp -implicitDefEqProofs [a32, c32, h1, h2, h3]
  · simp -implicitDefEqProofs [a32, c32, h1, h2, h3]
theorem may34 (n : Nat) (tag : Int) (d : ByteArray) : E (n + 1) 34 [.int .i64 tag, .str d] =
    some (.int .i64 (if 255 < tag ∨ tag ≤ 0 then 1 else if 65536 < (d.size : Int) then 2 else 0), []) := by
  rw [e34]
  by_cases h2 : tag ≤ 0
  · have h2' : tag < 1 := by omega
    simp -implicitDefEqProofs [a34, c34, h2, h2']
  have h2' : ¬ tag < 1 := by omega
  by_cases h1 : 255 < tag
  · simp -implicitDefEqProofs [a34, c34, h1, h2']
  by_cases h3 : 65536 < (d.size : Int)
  · simp -implicitDefEqProofs [a34, c34, h1, h2, h2', h3]
  · simp -implicitDefEqProofs [a34, c34, h1, h2, h2', h3]

def hdr (tag n : Nat) : List UInt8 := [UInt8.ofNat tag, UInt8.ofNat (n / 65536), UInt8.ofNat (n / 256), UInt8.ofNat n]

theorem eH (t : Nat) (d : List UInt8) (ht : t < 256) (hd : d.length ≤ 65536) : byteRows (hdr t d.length ++ d) = [AV.int .u8 t] :: [AV.int .u8 ((d.length : Int) / 65536)] :: [AV.int .u8 ((d.length : Int) / 256 % 256)] :: [AV.int .u8 ((d.length : Int) % 256)] :: byteRows d := by
  simp [byteRows, hdr]
  omega

theorem bytes35 (m : Nat) (t : Nat) (d : List UInt8) (ht : t < 256) (hd : d.length ≤ 65536) : E (m + 1) 35 [.int .i64 t, .str ⟨d.toArray⟩] =
    some (.fr 1 (byteRows (hdr t d.length ++ d)), []) := by
  rw [e35, eH t d ht hd]
  have w0 : IntKind.u8.wrap (t : Int) = (t : Int) := by rw [wrap_u8]; omega
  have w1 : IntKind.u8.wrap ((d.length : Int) / 65536) = (d.length : Int) / 65536 := by rw [wrap_u8]; omega
  have w2 : IntKind.u8.wrap ((d.length : Int) / 256) = (d.length : Int) / 256 % 256 := by rw [wrap_u8]
  have w3 : IntKind.u8.wrap (d.length : Int) = (d.length : Int) % 256 := by rw [wrap_u8]
  have d1 : (d.length : Int).tdiv 65536 = (d.length : Int) / 65536 := Int.tdiv_eq_ediv_of_nonneg (by omega)
  have d2 : (d.length : Int).tdiv 256 = (d.length : Int) / 256 := Int.tdiv_eq_ediv_of_nonneg (by omega)
  have v1 : IntKind.i64.wrap ((d.length : Int) / 65536) = (d.length : Int) / 65536 := wrap_i64 _ (by omega) (by omega)
  have v2 : IntKind.i64.wrap ((d.length : Int) / 256) = (d.length : Int) / 256 := wrap_i64 _ (by omega) (by omega)
  have q1 : d.length ≤ 17592186044412 := by omega
  by_cases h0 : d = []
  · subst h0
    have w4 : IntKind.i64.wrap 0 = 0 := wrap_i64 _ (by omega) (by omega)
    have w5 : IntKind.u8.wrap 0 = 0 := by rw [wrap_u8]; rfl
    simp -implicitDefEqProofs [a35, c35, z38, aappend, maxBytes, byteRows, w0, w4, w5]
  · have q2 : 0 < d.length := List.length_pos_iff.2 h0
    have q3 : ¬ 4 + d.length ≤ 4 := by omega
    have q4 : 4 + d.length ≤ 17592186044416 := by omega
    have q5 := byteRows_len d
    simp -implicitDefEqProofs [a35, c35, z38, aappend, maxBytes, w0, w1, w2, w3, d1, d2, v1, v2, q1, q2, q3, q4, q5, h0]
    try exact ⟨by omega, List.take_of_length_le (by simp [q5]; omega)⟩

theorem put33 (m : Nat) (t : Nat) (d : List UInt8) (ht : t < 256) (hd : d.length ≤ 65536) (R : List (List AV)) (hR : R.length ≤ 1000000) : E (m + 1) 33 [.fr 1 R, .agg [.int .i64 t, .str ⟨d.toArray⟩]] =
    some (.fr 1 (R ++ byteRows (hdr t d.length ++ d)), []) := by
  rw [e33]
  have s1 : ((d.length : Int)).fdiv 65536 = ((d.length / 65536 : Nat) : Int) := by rw [Int.fdiv_eq_ediv_of_nonneg] <;> omega
  have s2 : ((d.length : Int)).fdiv 256 = ((d.length / 256 : Nat) : Int) := by rw [Int.fdiv_eq_ediv_of_nonneg] <;> omega
  have w0 : IntKind.u8.wrap (t : Int) = (t : Int) := by rw [wrap_u8]; omega
  have w1 : IntKind.u8.wrap ((d.length : Int) / 65536) = (d.length : Int) / 65536 := by rw [wrap_u8]; omega
  have w2 : IntKind.u8.wrap ((d.length : Int) / 256) = (d.length : Int) / 256 % 256 := by rw [wrap_u8]
  have w3 : IntKind.u8.wrap (d.length : Int) = (d.length : Int) % 256 := by rw [wrap_u8]
  have q1 : d.length ≤ 17592186044412 := by omega
  have q6 : ¬ R.length + 4 ≤ R.length := by omega
  have q7 : R.length ≤ 17592186044412 := by omega
  have q8 : R.take R.length = R := List.take_of_length_le (Nat.le_refl _)
  rw [eH t d ht hd]
  by_cases h0 : d = []
  · subst h0
    simp -implicitDefEqProofs [a33, c33, z38, aappend, maxBytes, byteRows, w0, w1, w2, w3, s1, s2, q6, q7, q8, show IntKind.u8.wrap 0 = 0 by rw [wrap_u8]; rfl]
    exact List.take_of_length_le (by simp)
  · have q2 : 0 < d.length := List.length_pos_iff.2 h0
    have q3 : ¬ R.length + 4 + d.length ≤ R.length + 4 := by omega
    have q4 : R.length + 4 + d.length ≤ 17592186044416 := by omega
    have q5 := byteRows_len d
    simp -implicitDefEqProofs [a33, c33, z38, aappend, maxBytes, w0, w1, w2, w3, s1, s2, q1, q2, q3, q4, q5, q6, q7, q8, h0]
    rw [List.take_of_length_le (l := R ++ _) (by simp), List.take_of_length_le (by simp [q5]; omega)]
    simp

/-- what Put tells, behind some bytes -/
def putR (l : List UInt8) (tag : Int) (d : List UInt8) : AV :=
  if 255 < tag ∨ tag ≤ 0 then .tup [.nilS, .int .i64 1] else if 65536 < (d.length : Int) then .tup [.nilS, .int .i64 2]
  else .tup [.fr 1 (byteRows l ++ byteRows (hdr tag.toNat d.length ++ d)), .int .i64 0]

theorem put19 (m : Nat) (l : List UInt8) (hl : l.length ≤ 500000) (tag : Int) (d : List UInt8) : E (m + 2) 19 [.ro true 1 (byteRows l), .int .i64 tag, .str ⟨d.toArray⟩] = some (putR l tag d, []) := by
  rw [e19]
  have h := may32 m tag 0 ⟨d.toArray⟩
  by_cases h1 : 255 < tag ∨ tag ≤ 0
  · rw [if_pos h1] at h
    simp -implicitDefEqProofs [a19, c19, z38, q32, h, putR, h1]
  rw [if_neg h1] at h
  have hsz : ((⟨d.toArray⟩ : ByteArray).size : Int) = d.length := by simp [ByteArray.size]
  rw [hsz] at h
  by_cases h2 : 65536 < (d.length : Int)
  · rw [if_pos h2] at h
    simp -implicitDefEqProofs [a19, c19, z38, q32, h, putR, h1, h2]
  rw [if_neg h2] at h
  have hb := byteRows_len l
  have g := put33 m tag.toNat d (by omega) (by omega) (byteRows l) (by omega)
  have e1 : ((tag.toNat : Nat) : Int) = tag := by omega
  rw [e1] at g
  have w0 : IntKind.i64.wrap ((l.length : Int) + 4) = (l.length : Int) + 4 := wrap_i64 _ (by omega) (by omega)
  have w1 : IntKind.i64.wrap ((l.length : Int) + 4 + (d.length : Int)) = (l.length : Int) + 4 + (d.length : Int) := wrap_i64 _ (by omega) (by omega)
  have p1 : 0 ≤ (l.length : Int) + 4 + (d.length : Int) := by omega
  have p2 : ((l.length : Int) + 4 + (d.length : Int)).toNat = l.length + 4 + d.length := by omega
  have p3 : l.length + 4 + d.length ≤ 17592186044416 := by omega
  have p4 : l.length ≤ l.length + 4 + d.length := by omega
  have p5 : l.length ≤ 17592186044416 := by omega
  simp -implicitDefEqProofs [a19, c19, z38, q32, q33, h, g, putR, hb, h1, h2, w0, w1, p1, p2, p3, p4, p5, aappend, maxBytes]
  exact List.take_of_length_le (by rw [List.length_append, hb]; omega)

/-- the document's -/
def putB (tag : Int) (d : List UInt8) : AV :=
  if 255 < tag ∨ tag ≤ 0 then .tup [.nilS, .int .i64 1] else if 65536 < (d.length : Int) then .tup [.nilS, .int .i64 2]
  else .tup [.fr 1 (byteRows (hdr tag.toNat d.length ++ d)), .int .i64 0]
theorem put20 (m : Nat) (tag : Int) (d : List UInt8) : E (m + 2) 20 [.int .i64 tag, .str ⟨d.toArray⟩] = some (putB tag d, []) := by
  rw [e20]
  have h := may34 m tag ⟨d.toArray⟩
  by_cases h1 : 255 < tag ∨ tag ≤ 0
  · rw [if_pos h1] at h
    simp -implicitDefEqProofs [a20, c20, z38, q34, h, putB, h1]
  rw [if_neg h1] at h
  have hsz : ((⟨d.toArray⟩ : ByteArray).size : Int) = d.length := by simp [ByteArray.size]
  rw [hsz] at h
  by_cases h2 : 65536 < (d.length : Int)
  · rw [if_pos h2] at h
    simp -implicitDefEqProofs [a20, c20, z38, q34, h, putB, h1, h2]
  rw [if_neg h2] at h
  have g := bytes35 m tag.toNat d (by omega) (by omega)
  have e1 : ((tag.toNat : Nat) : Int) = tag := by omega
  rw [e1] at g
  simp -implicitDefEqProofs [a20, c20, z38, q34, q35, h, g, putB, h1, h2]
end Go.Abs.Try

namespace Go.Abs.Try
open Go Go.Abs
set_option maxHeartbeats 16000000
set_option maxRecDepth 100000
set_option linter.unusedSimpArgs false
set_option linter.unusedVariables false

/- ------------------------------------------------ fields, laid and read: the plain law -/
abbrev Fld := Int × List UInt8
def fr (f : Fld) : List AV := [.int .i64 f.1, .str ⟨f.2.toArray⟩]
def layB (f : Fld) : List UInt8 := hdr f.1.toNat f.2.length ++ f.2
def mayE (last : Int) (f : Fld) : Int := if 255 < f.1 ∨ f.1 ≤ last then 1 else if 65536 < (f.2.length : Int) then 2 else 0
def layE : Int → List Fld → Int
  | _, [] => 0
  | last, f :: r => if mayE last f = 0 then layE f.1 r else mayE last f
def lays : List Fld → List UInt8
  | [] => []
  | f :: r => layB f ++ lays r
def layV (l : List Fld) : AV := if layE 0 l ≠ 0 ∨ l = [] then .nilS else .fr 1 (byteRows (lays l))

/-- what Get tells: the field, how far, the error -/
def getF : List UInt8 → Fld × Nat × Int
  | t :: a :: b :: c :: r =>
    if t.toNat = 0 ∨ 65536 < a.toNat * 65536 + b.toNat * 256 + c.toNat then ((0, []), 0, 11)
    else if r.length < a.toNat * 65536 + b.toNat * 256 + c.toNat then ((0, []), 0, 10)
    else ((t.toNat, r.take (a.toNat * 65536 + b.toNat * 256 + c.toNat)), 4 + (a.toNat * 65536 + b.toNat * 256 + c.toNat), 0)
  | _ => ((0, []), 0, 10)
theorem getR_F (l : List UInt8) : getR l = .tup [.agg (fr (getF l).1), .int .i64 (getF l).2.1, .int .i64 (getF l).2.2] := by
  rcases l with _ | ⟨t, _ | ⟨a, _ | ⟨b, _ | ⟨c, r⟩⟩⟩⟩
  · rfl
  · rfl
  · rfl
  · rfl
  · rw [getR, getF]
    split
    · rfl
    · split
      · rfl
      · simp [fr]
theorem getF_pos (l : List UInt8) (h : (getF l).2.2 = 0) : 4 ≤ (getF l).2.1 ∧ (getF l).2.1 ≤ l.length := by
  rcases l with _ | ⟨t, _ | ⟨a, _ | ⟨b, _ | ⟨c, r⟩⟩⟩⟩ <;> try (simp [getF] at h; done)
  rw [getF] at h ⊢
  split
  · next h1 => rw [if_pos h1] at h; simp at h
  · next h1 =>
    rw [if_neg h1] at h
    split
    · next h2 => rw [if_pos h2] at h; simp at h
    · simp; omega
/-- what Read tells: by rounds -/
def readE : Nat → Int → List UInt8 → List Fld × Int
  | 0, _, _ => ([], 0)
  | k + 1, last, l => if l = [] then ([], 0) else if (getF l).2.2 ≠ 0 then ([], (getF l).2.2) else if (getF l).1.1 ≤ last then ([], 11) else
      let q := readE k (getF l).1.1 (l.drop (getF l).2.1)
      if q.2 ≠ 0 then ([], q.2) else ((getF l).1 :: q.1, 0)

theorem u8_nat (n : Nat) (h : n < 256) : (UInt8.ofNat n).toNat = n := by simp; omega
/-- a field that is laid is got, with anything behind it -/
theorem getF_lay (f : Fld) (r : List UInt8) (last : Int) (h0 : 0 ≤ last) (hm : mayE last f = 0) : getF (layB f ++ r) = (f, (layB f).length, 0) := by
  unfold mayE at hm
  split at hm
  · simp at hm
  next h1 =>
  split at hm
  · simp at hm
  next h2 =>
  obtain ⟨t, d⟩ := f
  simp only at h1 h2
  have e1 : (UInt8.ofNat t.toNat).toNat = t.toNat := u8_nat _ (by omega)
  have e2 : (UInt8.ofNat (d.length / 65536)).toNat = d.length / 65536 := u8_nat _ (by omega)
  have e3 : (UInt8.ofNat (d.length / 256)).toNat = d.length / 256 % 256 := by simp
  have e4 : (UInt8.ofNat d.length).toNat = d.length % 256 := by simp
  have e5 : d.length / 65536 * 65536 + d.length / 256 % 256 * 256 + d.length % 256 = d.length := by omega
  simp only [layB, hdr, List.cons_append, List.nil_append, getF, e1, e2, e3, e4, e5]
  rw [if_neg (by omega), if_neg (by simp)]
  simp
  refine ⟨by omega, by omega⟩

theorem layB_len (f : Fld) : 4 ≤ (layB f).length := by simp [layB, hdr]
theorem mayE_pos {last : Int} {f : Fld} (h : mayE last f = 0) : last < f.1 := by
  unfold mayE at h
  split at h
  · simp at h
  · omega
/-- what is laid is read -/
theorem read_lays : ∀ (l : List Fld) (last : Int) (k : Nat), 0 ≤ last → layE last l = 0 → (lays l).length < k → readE k last (lays l) = (l, 0)
  | [], last, 0, h0, h, hk => by simp at hk
  | [], last, k + 1, h0, h, hk => by simp [readE, lays]
  | f :: r, last, 0, h0, h, hk => by simp at hk
  | f :: r, last, k + 1, h0, h, hk => by
    simp only [layE] at h
    split at h
    · next hm =>
      have hb := layB_len f
      have hne : ¬ layB f ++ lays r = [] := fun e => by have := congrArg List.length e; rw [List.length_append, List.length_nil] at this; omega
      have hg := getF_lay f (lays r) last h0 hm
      have hp := mayE_pos hm
      have ih := read_lays r f.1 k (by omega) h (by rw [lays, List.length_append] at hk; omega)
      simp only [lays, readE, hg, if_neg hne, List.drop_left', ih]
      simp [show ¬ f.1 ≤ last by omega, ih]
    · next hm => exact absurd h hm
/-- what is read is laid -/
theorem getF_back (l : List UInt8) (h : (getF l).2.2 = 0) : layB (getF l).1 ++ l.drop (getF l).2.1 = l ∧ 0 < (getF l).1.1 ∧ (getF l).1.1 ≤ 255 ∧ (getF l).1.2.length ≤ 65536 := by
  rcases l with _ | ⟨t, _ | ⟨a, _ | ⟨b, _ | ⟨c, r⟩⟩⟩⟩ <;> try (simp [getF] at h; done)
  rw [getF] at h ⊢
  split
  · next h1 => rw [if_pos h1] at h; simp at h
  · next h1 =>
    rw [if_neg h1] at h
    split
    · next h2 => rw [if_pos h2] at h; simp at h
    · next h2 =>
      have ht := t.toNat_lt
      have ha := a.toNat_lt
      have hb := b.toNat_lt
      have hc := c.toNat_lt
      generalize hn : a.toNat * 65536 + b.toNat * 256 + c.toNat = n at *
      have hl : (r.take n).length = n := by rw [List.length_take]; omega
      simp only [layB, hdr, hl, Int.toNat_natCast]
      refine ⟨?_, by omega, by omega, by omega⟩
      have e0 : UInt8.ofNat t.toNat = t := by simp
      have e1 : UInt8.ofNat (n / 65536) = a := UInt8.toNat_inj.1 (by rw [u8_nat] <;> omega)
      have e2 : UInt8.ofNat (n / 256) = b := UInt8.toNat_inj.1 (by rw [UInt8.toNat_ofNat']; omega)
      have e3 : UInt8.ofNat n = c := UInt8.toNat_inj.1 (by rw [UInt8.toNat_ofNat']; omega)
      rw [e0, e1, e2, e3]
      have e4 : (t :: a :: b :: c :: r).drop (4 + n) = r.drop n := by
        rw [Nat.add_comm]; simp [List.drop_succ_cons]
      rw [e4]
      simp
theorem lays_read : ∀ (k : Nat) (last : Int) (l : List UInt8), l.length < k → (readE k last l).2 = 0 → lays (readE k last l).1 = l ∧ layE last (readE k last l).1 = 0 ∧ (readE k last l).1.length * 4 ≤ l.length
  | 0, last, l, hk, h => by simp at hk
  | k + 1, last, l, hk, h => by
    rw [readE] at h ⊢
    split
    · next e => subst e; simp [lays, layE]
    next e =>
    rw [if_neg e] at h
    split
    · next h1 => rw [if_pos h1] at h; exact absurd h h1
    next h1 =>
    rw [if_neg h1] at h
    split
    · next h2 => rw [if_pos h2] at h; simp at h
    next h2 =>
    rw [if_neg h2] at h
    simp only at h ⊢
    split
    · next h3 => rw [if_pos h3] at h; exact absurd h h3
    next h3 =>
    have h1' : (getF l).2.2 = 0 := Classical.not_not.1 h1
    have h3' := Classical.not_not.1 h3
    obtain ⟨p1, p2⟩ := getF_pos l h1'
    obtain ⟨b1, b2, b3, b4⟩ := getF_back l h1'
    obtain ⟨i1, i2, i3⟩ := lays_read k (getF l).1.1 (l.drop (getF l).2.1) (by rw [List.length_drop]; omega) h3'
    refine ⟨?_, ?_, ?_⟩
    · simp only [lays, i1, b1]
    · simp only [layE]
      have : mayE last (getF l).1 = 0 := by
        unfold mayE
        rw [if_neg (by omega), if_neg (by omega)]
      rw [if_pos this, i2]
    · rw [List.length_drop] at i3
      simp only [List.length_cons]
      omega
/-- rows that are laid alike are one -/
theorem lays_inj {a b : List Fld} (ha : layE 0 a = 0) (hb : layE 0 b = 0) (h : lays a = lays b) : a = b := by
  have x := read_lays a 0 ((lays a).length + 1) (by omega) ha (by omega)
  have y := read_lays b 0 ((lays b).length + 1) (by omega) hb (by omega)
  rw [h, y] at x
  exact (Prod.mk.inj x).1.symm
/-- bytes that are cut -/
theorem getF_cut (f : Fld) (r : List UInt8) (last : Int) (h0 : 0 ≤ last) (hm : mayE last f = 0) (n : Nat) (hn : n < (layB f).length) : (getF ((layB f ++ r).take n)).2.2 = 10 := by
  unfold mayE at hm
  split at hm
  · simp at hm
  next h1 =>
  split at hm
  · simp at hm
  next h2 =>
  obtain ⟨t, d⟩ := f
  simp only at h1 h2
  rw [List.take_append_of_le_length (by omega)]
  simp only [layB, hdr, List.cons_append, List.nil_append, List.length_cons] at hn ⊢
  rcases n with _ | _ | _ | _ | n
  · rfl
  · rfl
  · rfl
  · rfl
  have e1 : (UInt8.ofNat t.toNat).toNat = t.toNat := u8_nat _ (by omega)
  have e2 : (UInt8.ofNat (d.length / 65536)).toNat = d.length / 65536 := u8_nat _ (by omega)
  have e3 : (UInt8.ofNat (d.length / 256)).toNat = d.length / 256 % 256 := by simp
  have e4 : (UInt8.ofNat d.length).toNat = d.length % 256 := by simp
  have e5 : d.length / 65536 * 65536 + d.length / 256 % 256 * 256 + d.length % 256 = d.length := by omega
  simp only [List.take_succ_cons, getF, e1, e2, e3, e4, e5]
  rw [if_neg (by omega), if_pos (by rw [List.length_take]; omega)]
theorem cut_read : ∀ (l : List Fld) (last : Int) (n k : Nat), 0 ≤ last → layE last l = 0 → n ≤ (lays l).length → n < k →
    (readE k last ((lays l).take n)).2 = 10 ∨ (∃ m, m ≤ l.length ∧ readE k last ((lays l).take n) = (l.take m, 0))
  | [], last, n, 0, h0, h, hn, hk => by omega
  | [], last, n, k + 1, h0, h, hn, hk => .inr ⟨0, Nat.le_refl _, by simp [lays, readE]⟩
  | f :: r, last, n, 0, h0, h, hn, hk => by omega
  | f :: r, last, n, k + 1, h0, h, hn, hk => by
    simp only [layE] at h
    split at h
    · next hm =>
      have hb := layB_len f
      have hp := mayE_pos hm
      by_cases hz : n = 0
      · subst hz; exact .inr ⟨0, by omega, by simp [readE]⟩
      have hne : ¬ (layB f ++ lays r).take n = [] := fun e => by
        have := congrArg List.length e
        rw [List.length_take, List.length_append, List.length_nil] at this; omega
      by_cases hc : n < (layB f).length
      · left
        have := getF_cut f (lays r) last h0 hm n hc
        simp only [lays, readE, if_neg hne, this]
        simp
      · have e1 : (layB f ++ lays r).take n = layB f ++ (lays r).take (n - (layB f).length) := by
          rw [List.take_append]
          congr 1
          exact List.take_of_length_le (by omega)
        have hg := getF_lay f ((lays r).take (n - (layB f).length)) last h0 hm
        have hd : (layB f ++ (lays r).take (n - (layB f).length)).drop (layB f).length = (lays r).take (n - (layB f).length) := by simp
        rw [e1] at hne
        simp only [lays, e1]
        simp only [readE, hg, if_neg hne, hd]
        simp only [show ¬ f.1 ≤ last by omega, ne_eq, not_true_eq_false, if_false]
        rcases cut_read r f.1 (n - (layB f).length) k (by omega) h (by rw [lays, List.length_append] at hn; omega) (by omega) with x | ⟨m, hm2, x⟩
        · left; rw [x]; simp
        · right
          refine ⟨m + 1, by simp; omega, ?_⟩
          rw [x]; simp
    · next hm => exact absurd h hm
end Go.Abs.Try

namespace Go.Abs.Try
open Go Go.Abs
set_option maxHeartbeats 16000000
set_option maxRecDepth 100000
set_option linter.unusedSimpArgs false
set_option linter.unusedVariables false

/-- an argument of fields -/
def Fs (t : Bool) (l : List Fld) (v : AV) : Prop := (v = .nilS ∧ l = []) ∨ v = .ro t 2 (l.map fr)
theorem rows_ok : E 7 28 [] = some (.bool true, []) := by kernel_rfl
theorem ok_flds : ∀ (rows : List (List AV)), (∀ r, r ∈ rows → okRow [.int .i64, .str] r) → ∃ l : List Fld, rows = l.map fr
  | [], _ => ⟨[], rfl⟩
  | r :: rs, h => by
    obtain ⟨n, vs, rfl, hw, h2⟩ := (h r List.mem_cons_self).int
    obtain ⟨s, us, rfl, _, h3⟩ := h2.str
    obtain rfl := h3.nil_inv
    obtain ⟨l, rfl⟩ := ok_flds rs (fun x hx => h x (List.mem_cons_of_mem _ hx))
    refine ⟨(n, s.data.toList) :: l, ?_⟩
    simp [fr]
theorem ok_fields {v : AV} (o : okRow [.sl [.int .i64, .str]] [v]) : ∃ l, Fs false l v := by
  obtain ⟨v', _, e, hv, _⟩ := o.sl
  obtain ⟨rfl, _⟩ : v = v' ∧ _ := by simpa using e
  rcases hv with rfl | ⟨rows, rfl, _, hr⟩
  · exact ⟨[], .inl ⟨rfl, rfl⟩⟩
  · obtain ⟨l, rfl⟩ := ok_flds rows hr
    exact ⟨l, .inr rfl⟩

/- ------------------------------------------------ large -/
def over : List Fld → Nat → Bool
  | [], _ => false
  | f :: r, n => if (262144 : Int) - n < f.2.length then true else over r (n + f.2.length)
def big (l : List Fld) : Bool := decide (400 < l.length) || over l 0
theorem loop25 (Φ : Nat → Option FnF) (K : Nat) (t : Bool) (c : Nat) (l : List Fld) (hl : l.length ≤ 400) : ∀ (r : List Fld) (i n k : Nat), l.drop i = r → n ≤ 262144 → r.length < k →
    ∃ s', iter (ev Φ K b25_0) [0, 3, 4] [100000] k ⟨[(0, .ro t 2 (l.map fr)), (3, .int .i64 n), (4, .int .i64 i)], [], c⟩ = some (if over r n then .ret else .exit 0, s') ∧ (over r n = true → envGet s'.env 2 = some (.bool true))
  | r, i, n, 0, hr, hn, hk => by omega
  | [], i, n, k + 1, hr, hn, hk => by
    have h1 : ¬ ((i : Int) < (l.length : Int)) := by
      have := congrArg List.length hr
      rw [List.length_drop, List.length_nil] at this; omega
    simp only [over, Bool.false_eq_true, if_false]
    refine iter_outE (by simp) ?_
    simp -implicitDefEqProofs [b25_0, St.keep, h1]
  | f :: r, i, n, k + 1, hr, hn, hk => by
    have hi : i < l.length := by
      have := congrArg List.length hr
      rw [List.length_drop, List.length_cons] at this; omega
    have h1 : (i : Int) < (l.length : Int) := by omega
    have hg : (l.map fr)[i]? = some (fr f) := by
      have : l[i]? = some f := by
        have := congrArg (fun x => x[0]?) hr
        simpa using this
      simp [this]
    have hd : l.drop (i + 1) = r := by
      have := congrArg (List.drop 1) hr
      simpa [List.drop_drop, Nat.add_comm] using this
    have hlen : (l.map fr).length = l.length := by simp
    have w1 : IntKind.i64.wrap (262144 - (n : Int)) = 262144 - (n : Int) := wrap_i64 _ (by omega) (by omega)
    have w2 : IntKind.i64.wrap ((i : Int) + 1) = ((i + 1 : Nat) : Int) := by rw [wrap_i64 _ (by omega) (by omega)]; omega
    by_cases ho : (262144 : Int) - n < f.2.length
    · have e : over (f :: r) n = true := by rw [over, if_pos ho]
      rw [e]
      generalize l.map fr = R at *
      simp only [if_true, forall_const]
      refine iter_outE (by simp) ?_
      simp -implicitDefEqProofs [b25_0, St.keep, h1, hg, hlen, fr, w1, ho]
    · have e : over (f :: r) n = over r (n + f.2.length) := by rw [over, if_neg ho]
      obtain ⟨s', x1, x2⟩ := loop25 Φ K t c l hl r (i + 1) (n + f.2.length) k hd (by omega) (by simp at hk; omega)
      refine ⟨s', ?_, by rw [e]; exact x2⟩
      rw [e, ← x1]
      have w3 : IntKind.i64.wrap ((n : Int) + (f.2.length : Int)) = ((n + f.2.length : Nat) : Int) := by rw [wrap_i64 _ (by omega) (by omega)]; omega
      generalize l.map fr = R at *
      refine iter_norm ?_
      simp -implicitDefEqProofs [b25_0, St.keep, h1, hg, hlen, fr, w1, ho]
      simp [w2, w3]
theorem large25 (m : Nat) (t : Bool) (l : List Fld) (v : AV) (hv : Fs t l v) : E (m + 1) 25 [v] = some (.bool (big l), []) := by
  rw [e25]
  rcases hv with ⟨rfl, rfl⟩ | rfl
  · simp -implicitDefEqProofs [a25, c25, big, over]
    rw [iter_succ]
    simp -implicitDefEqProofs [b25_0]
  · by_cases h : 400 < l.length
    · have h1 : (400 : Int) < (l.length : Int) := by omega
      simp -implicitDefEqProofs [a25, c25, big, h, h1]
    · have h1 : ¬ (400 : Int) < (l.length : Int) := by omega
      obtain ⟨s', x1, x2⟩ := loop25 (Q m) 300000 t 0 l (by omega) l 0 0 300000 rfl (by omega) (by omega)
      simp at x1
      simp -implicitDefEqProofs [a25, c25, big, h, h1]
      rw [iter_keep]
      simp
      rw [x1]
      cases ho : over l 0 with
      | true =>
        have := x2 ho
        simp [this]
      | false => simp
end Go.Abs.Try

namespace Go.Abs.Try
open Go Go.Abs
set_option maxHeartbeats 16000000
set_option maxRecDepth 100000
set_option linter.unusedSimpArgs false
set_option linter.unusedVariables false

theorem put33n (m : Nat) (t : Nat) (d : List UInt8) (ht : t < 256) (hd : d.length ≤ 65536) : E (m + 1) 33 [.nilS, .agg [.int .i64 t, .str ⟨d.toArray⟩]] =
    some (.fr 1 (byteRows (hdr t d.length ++ d)), []) := by
  rw [e33]
  have s1 : ((d.length : Int)).fdiv 65536 = ((d.length / 65536 : Nat) : Int) := by rw [Int.fdiv_eq_ediv_of_nonneg] <;> omega
  have s2 : ((d.length : Int)).fdiv 256 = ((d.length / 256 : Nat) : Int) := by rw [Int.fdiv_eq_ediv_of_nonneg] <;> omega
  have w0 : IntKind.u8.wrap (t : Int) = (t : Int) := by rw [wrap_u8]; omega
  have w1 : IntKind.u8.wrap ((d.length : Int) / 65536) = (d.length : Int) / 65536 := by rw [wrap_u8]; omega
  have w2 : IntKind.u8.wrap ((d.length : Int) / 256) = (d.length : Int) / 256 % 256 := by rw [wrap_u8]
  have w3 : IntKind.u8.wrap (d.length : Int) = (d.length : Int) % 256 := by rw [wrap_u8]
  have q1 : d.length ≤ 17592186044412 := by omega
  rw [eH t d ht hd]
  by_cases h0 : d = []
  · subst h0
    simp -implicitDefEqProofs [a33, c33, z38, aappend, maxBytes, byteRows, w0, w1, w2, w3, s1, s2, show IntKind.u8.wrap 0 = 0 by rw [wrap_u8]; rfl]
  · have q2 : 0 < d.length := List.length_pos_iff.2 h0
    have q3 : ¬ 4 + d.length ≤ 4 := by omega
    have q4 : 4 + d.length ≤ 17592186044416 := by omega
    have q5 := byteRows_len d
    simp -implicitDefEqProofs [a33, c33, z38, aappend, maxBytes, w0, w1, w2, w3, s1, s2, q1, q2, q3, q4, q5, h0]
    try exact ⟨by omega, List.take_of_length_le (by simp [q5]; omega)⟩

abbrev K26 : List Nat := [4, 5, 9, 10, 11]
theorem may_ok {last : Int} {f : Fld} (hm : mayE last f = 0) : f.1 ≤ 255 ∧ last < f.1 ∧ f.2.length ≤ 65536 := by
  unfold mayE at hm
  split at hm
  · simp at hm
  · split at hm
    · simp at hm
    · omega
theorem may32' (m : Nat) (last : Int) (f : Fld) : E (m + 1) 32 [.agg [.int .i64 f.1, .str ⟨f.2.toArray⟩], .int .i64 last] = some (.int .i64 (mayE last f), []) := by
  have := may32 m f.1 last ⟨f.2.toArray⟩
  rw [this, mayE]
  simp [ByteArray.size]
theorem put33' (m : Nat) (last : Int) (f : Fld) (hm : mayE last f = 0) (h0 : 0 ≤ last) (A : List (List AV)) (hA : A.length ≤ 1000000) : E (m + 1) 33 [.fr 1 A, .agg [.int .i64 f.1, .str ⟨f.2.toArray⟩]] = some (.fr 1 (A ++ byteRows (layB f)), []) := by
  obtain ⟨h1, h2, h3⟩ := may_ok hm
  have := put33 m f.1.toNat f.2 (by omega) h3 A hA
  rwa [show ((f.1.toNat : Nat) : Int) = f.1 by omega] at this
theorem put33n' (m : Nat) (last : Int) (f : Fld) (hm : mayE last f = 0) (h0 : 0 ≤ last) : E (m + 1) 33 [.nilS, .agg [.int .i64 f.1, .str ⟨f.2.toArray⟩]] = some (.fr 1 (byteRows (layB f)), []) := by
  obtain ⟨h1, h2, h3⟩ := may_ok hm
  have := put33n m f.1.toNat f.2 (by omega) h3
  rwa [show ((f.1.toNat : Nat) : Int) = f.1 by omega] at this

theorem step26 (m : Nat) (t : Bool) (R : List (List AV)) (i : Nat) (f : Fld) (hg : R[i]? = some (fr f)) (hi : i < R.length) (hR : R.length ≤ 1000000) (last : Int) (A : List (List AV)) (g c k : Nat) (hm : mayE last f = 0) (h0 : 0 ≤ last) (hA : A.length ≤ 1000000) (hgc : g < c) :
    iter (ev (Q (m + 1)) 300000 b26_0) K26 [24000, 100000] (k + 1) ⟨[(4, .own 24000 g 0 A.length), (5, .int .i64 last), (9, .ro t 2 R), (10, .int .i64 R.length), (11, .int .i64 i)], [⟨24000, g, .arr 1 A false⟩], c⟩ =
    iter (ev (Q (m + 1)) 300000 b26_0) K26 [24000, 100000] k ⟨[(4, .own 24000 (c + 1) 0 (A ++ byteRows (layB f)).length), (5, .int .i64 f.1), (9, .ro t 2 R), (10, .int .i64 R.length), (11, .int .i64 ((i + 1 : Nat) : Int))], [⟨24000, c + 1, .arr 1 (A ++ byteRows (layB f)) false⟩], c + 2⟩ := by
  have hM := may32' m last f
  rw [hm] at hM
  have hP := put33' m last f hm h0 A hA
  have h1 : (i : Int) < (R.length : Int) := by omega
  have w2 : IntKind.i64.wrap ((i : Int) + 1) = (i : Int) + 1 := wrap_i64 _ (by omega) (by omega)
  have hA2 : A.take A.length = A := List.take_of_length_le (Nat.le_refl _)
  have hgc2 : g < c + 1 := by omega
  refine iter_norm ?_
  simp -implicitDefEqProofs [b26_0, St.keep, h1, hg, z38, fr, hM, q32, q33, hP, hA2, w2, hgc, hgc2]
theorem step26n (m : Nat) (t : Bool) (R : List (List AV)) (f : Fld) (hg : R[0]? = some (fr f)) (hi : 0 < R.length) (c k : Nat) (hm : mayE 0 f = 0) :
    iter (ev (Q (m + 1)) 300000 b26_0) K26 [24000, 100000] (k + 1) ⟨[(4, .nilS), (5, .int .i64 0), (9, .ro t 2 R), (10, .int .i64 R.length), (11, .int .i64 0)], [], c⟩ =
    iter (ev (Q (m + 1)) 300000 b26_0) K26 [24000, 100000] k ⟨[(4, .own 24000 (c + 1) 0 (byteRows (layB f)).length), (5, .int .i64 f.1), (9, .ro t 2 R), (10, .int .i64 R.length), (11, .int .i64 1)], [⟨24000, c + 1, .arr 1 (byteRows (layB f)) false⟩], c + 2⟩ := by
  have hM := may32' m 0 f
  rw [hm] at hM
  have hP := put33n' m 0 f hm (by omega)
  have h1 : (0 : Int) < (R.length : Int) := by omega
  have w2 : IntKind.i64.wrap 1 = 1 := wrap_i64 _ (by omega) (by omega)
  have hg' := (List.getElem?_eq_some_iff.1 hg).2
  refine iter_norm ?_
  simp -implicitDefEqProofs [b26_0, St.keep, h1, hg, hg', hi, z38, fr, hM, q32, q33, hP, w2]
/-- a field that may not be put -/
theorem bad26 (m : Nat) (t : Bool) (R : List (List AV)) (i : Nat) (f : Fld) (hg : R[i]? = some (fr f)) (hi : i < R.length) (last : Int) (A : List (List AV)) (g c k : Nat) (hm : mayE last f ≠ 0) :
    ∃ s', iter (ev (Q (m + 1)) 300000 b26_0) K26 [24000, 100000] (k + 1) ⟨[(4, .own 24000 g 0 A.length), (5, .int .i64 last), (9, .ro t 2 R), (10, .int .i64 R.length), (11, .int .i64 i)], [⟨24000, g, .arr 1 A false⟩], c⟩ = some (.ret, s') ∧ envGet s'.env 2 = some .nilS ∧ envGet s'.env 3 = some (.int .i64 (mayE last f)) := by
  have hM := may32' m last f
  generalize mayE last f = e at *
  have hb : (e != 0) = true := by simpa using hm
  have h1 : (i : Int) < (R.length : Int) := by omega
  refine iter_outE (by simp) ?_
  simp -implicitDefEqProofs [b26_0, St.keep, h1, hg, z38, fr, hM, q32, hb]
theorem bad26n (m : Nat) (t : Bool) (R : List (List AV)) (f : Fld) (hg : R[0]? = some (fr f)) (hi : 0 < R.length) (c k : Nat) (hm : mayE 0 f ≠ 0) :
    ∃ s', iter (ev (Q (m + 1)) 300000 b26_0) K26 [24000, 100000] (k + 1) ⟨[(4, .nilS), (5, .int .i64 0), (9, .ro t 2 R), (10, .int .i64 R.length), (11, .int .i64 0)], [], c⟩ = some (.ret, s') ∧ envGet s'.env 2 = some .nilS ∧ envGet s'.env 3 = some (.int .i64 (mayE 0 f)) := by
  have hM := may32' m 0 f
  generalize mayE 0 f = e at *
  have hb : (e != 0) = true := by simpa using hm
  have h1 : (0 : Int) < (R.length : Int) := by omega
  have hg' := (List.getElem?_eq_some_iff.1 hg).2
  refine iter_outE (by simp) ?_
  simp -implicitDefEqProofs [b26_0, St.keep, h1, hg, hg', hi, z38, fr, hM, q32, hb]

theorem loop26 (m : Nat) (t : Bool) (l : List Fld) (hl : l.length ≤ 1000000) : ∀ (r : List Fld) (i : Nat) (last : Int) (A : List (List AV)) (g c k : Nat), l.drop i = r → 0 ≤ last → A.length + (lays r).length ≤ 1000000 → g < c → r.length < k → layE last r = 0 →
    ∃ g' c' x, iter (ev (Q (m + 1)) 300000 b26_0) K26 [24000, 100000] k ⟨[(4, .own 24000 g 0 A.length), (5, .int .i64 last), (9, .ro t 2 (l.map fr)), (10, .int .i64 (l.map fr).length), (11, .int .i64 i)], [⟨24000, g, .arr 1 A false⟩], c⟩ =
      some (.exit 0, ⟨(4, .own 24000 g' 0 (A ++ byteRows (lays r)).length) :: x, [⟨24000, g', .arr 1 (A ++ byteRows (lays r)) false⟩], c'⟩)
  | r, i, last, A, g, c, 0, hr, h0, hA, hg, hk, he => by omega
  | [], i, last, A, g, c, k + 1, hr, h0, hA, hg, hk, he => by
    have h1 : ¬ ((i : Int) < (l.length : Int)) := by
      have := congrArg List.length hr
      rw [List.length_drop, List.length_nil] at this; omega
    have hlen : (l.map fr).length = l.length := by simp
    refine ⟨g, c, [(5, .int .i64 last), (9, .ro t 2 (l.map fr)), (10, .int .i64 (l.map fr).length), (11, .int .i64 i), (12, .bool false)], ?_⟩
    generalize l.map fr = R at *
    rw [iter_succ]
    simp -implicitDefEqProofs [b26_0, hlen, h1, lays, byteRows]
  | f :: r, i, last, A, g, c, k + 1, hr, h0, hA, hg, hk, he => by
    have hi : i < l.length := by
      have := congrArg List.length hr
      rw [List.length_drop, List.length_cons] at this; omega
    have hf : (l.map fr)[i]? = some (fr f) := by
      have : l[i]? = some f := by
        have := congrArg (fun x => x[0]?) hr
        simpa using this
      simp [this]
    have hd : l.drop (i + 1) = r := by
      have := congrArg (List.drop 1) hr
      simpa [List.drop_drop, Nat.add_comm] using this
    simp only [layE] at he
    split at he
    · next hm =>
      rw [lays, List.length_append] at hA
      have hb := byteRows_len (layB f)
      obtain ⟨p1, p2, p3⟩ := may_ok hm
      rw [step26 m t (l.map fr) i f hf (by simpa using hi) (by simpa using hl) last A g c k hm h0 (by omega) hg]
      obtain ⟨g', c', x, e⟩ := loop26 m t l hl r (i + 1) f.1 (A ++ byteRows (layB f)) (c + 1) (c + 2) k hd (by omega) (by rw [List.length_append, hb]; omega) (by omega) (by simp at hk; omega) he
      refine ⟨g', c', x, ?_⟩
      rw [e, lays, byteRows_append, List.append_assoc]
    · next hm => exact absurd he hm
theorem loop26e (m : Nat) (t : Bool) (l : List Fld) (hl : l.length ≤ 1000000) : ∀ (r : List Fld) (i : Nat) (last : Int) (A : List (List AV)) (g c k : Nat), l.drop i = r → 0 ≤ last → A.length + (lays r).length ≤ 1000000 → g < c → r.length < k → layE last r ≠ 0 →
    ∃ s', iter (ev (Q (m + 1)) 300000 b26_0) K26 [24000, 100000] k ⟨[(4, .own 24000 g 0 A.length), (5, .int .i64 last), (9, .ro t 2 (l.map fr)), (10, .int .i64 (l.map fr).length), (11, .int .i64 i)], [⟨24000, g, .arr 1 A false⟩], c⟩ =
      some (.ret, s') ∧ envGet s'.env 2 = some .nilS ∧ envGet s'.env 3 = some (.int .i64 (layE last r))
  | r, i, last, A, g, c, 0, hr, h0, hA, hg, hk, he => by omega
  | [], i, last, A, g, c, k + 1, hr, h0, hA, hg, hk, he => absurd rfl he
  | f :: r, i, last, A, g, c, k + 1, hr, h0, hA, hg, hk, he => by
    have hi : i < l.length := by
      have := congrArg List.length hr
      rw [List.length_drop, List.length_cons] at this; omega
    have hf : (l.map fr)[i]? = some (fr f) := by
      have : l[i]? = some f := by
        have := congrArg (fun x => x[0]?) hr
        simpa using this
      simp [this]
    have hd : l.drop (i + 1) = r := by
      have := congrArg (List.drop 1) hr
      simpa [List.drop_drop, Nat.add_comm] using this
    rw [lays, List.length_append] at hA
    have hb := byteRows_len (layB f)
    simp only [layE] at he ⊢
    split
    · next hm =>
      rw [if_pos hm] at he
      obtain ⟨p1, p2, p3⟩ := may_ok hm
      rw [step26 m t (l.map fr) i f hf (by simpa using hi) (by simpa using hl) last A g c k hm h0 (by omega) hg]
      exact loop26e m t l hl r (i + 1) f.1 (A ++ byteRows (layB f)) (c + 1) (c + 2) k hd (by omega) (by rw [List.length_append, hb]; omega) (by omega) (by simp at hk; omega) he
    · next hm => exact bad26 m t (l.map fr) i f hf (by simpa using hi) last A g c k hm
theorem lay26 (m : Nat) (t : Bool) (l : List Fld) (v : AV) (hv : Fs t l v) (hl : l.length ≤ 400) (hb : (lays l).length ≤ 1000000) : E (m + 2) 26 [v] = some (.tup [layV l, .int .i64 (layE 0 l)], []) := by
  rw [e26]
  rcases hv with ⟨rfl, rfl⟩ | rfl
  · simp -implicitDefEqProofs [a26, c26, layV, layE]
    rw [iter_succ]
    simp -implicitDefEqProofs [b26_0]
  rcases l with _ | ⟨f, r⟩
  · simp -implicitDefEqProofs [a26, c26, layV, layE]
    rw [iter_succ]
    simp -implicitDefEqProofs [b26_0]
  have hf : ((f :: r).map fr)[0]? = some (fr f) := rfl
  have hlen : ((f :: r).map fr).length = (f :: r).length := by simp
  have hlen2 : r.length + 1 = ((f :: r).map fr).length := by simp
  have hpos : 0 < ((f :: r).map fr).length := by simp
  rw [lays, List.length_append] at hb
  by_cases hm : mayE 0 f = 0
  · have st := step26n m t ((f :: r).map fr) f hf hpos 0 299999 hm
    obtain ⟨p1, p2, p3⟩ := may_ok hm
    have hbl := byteRows_len (layB f)
    by_cases he : layE f.1 r = 0
    · obtain ⟨g', c', x, e⟩ := loop26 m t (f :: r) (by simp at hl ⊢; omega) r 1 f.1 (byteRows (layB f)) 1 2 299999 rfl (by omega) (by rw [hbl]; omega) (by omega) (by simp at hl; omega) he
      have hV : layV (f :: r) = .fr 1 (byteRows (layB f) ++ byteRows (lays r)) := by simp [layV, layE, hm, he, lays, byteRows_append]
      have hE : layE 0 (f :: r) = 0 := by simp [layE, hm, he]
      rw [hV, hE]
      generalize (f :: r).map fr = R at *
      generalize byteRows (layB f) ++ byteRows (lays r) = B at *
      simp at st e
      simp -implicitDefEqProofs [a26, c26]
      rw [iter_keep]
      simp
      rw [st, e]
      simp -implicitDefEqProofs [envGet_set]
    · obtain ⟨s', e, e2, e3⟩ := loop26e m t (f :: r) (by simp at hl ⊢; omega) r 1 f.1 (byteRows (layB f)) 1 2 299999 rfl (by omega) (by rw [hbl]; omega) (by omega) (by simp at hl; omega) he
      have hE : layE 0 (f :: r) = layE f.1 r := by simp [layE, hm]
      have hV : layV (f :: r) = .nilS := by simp [layV, hE, he]
      rw [hV, hE]
      generalize (f :: r).map fr = R at *
      simp at st e
      simp -implicitDefEqProofs [a26, c26]
      rw [iter_keep]
      simp
      rw [st, e]
      simp -implicitDefEqProofs [e2, e3]
  · obtain ⟨s', e, e2, e3⟩ := bad26n m t ((f :: r).map fr) f hf hpos 0 299999 hm
    have hE : layE 0 (f :: r) = mayE 0 f := by simp [layE, hm]
    have hV : layV (f :: r) = .nilS := by simp [layV, hE, hm]
    rw [hV, hE]
    generalize (f :: r).map fr = R at *
    simp at e
    simp -implicitDefEqProofs [a26, c26]
    rw [iter_keep]
    simp
    rw [e]
    simp -implicitDefEqProofs [e2, e3]
end Go.Abs.Try

namespace Go.Abs.Try
open Go Go.Abs
set_option maxHeartbeats 16000000
set_option maxRecDepth 100000
set_option linter.unusedSimpArgs false
set_option linter.unusedVariables false

abbrev K27 : List Nat := [0, 4, 5, 6]
theorem may34' (m : Nat) (last : Int) (f : Fld) (h0 : 0 ≤ last) : ∃ e, E (m + 1) 34 [.int .i64 f.1, .str ⟨f.2.toArray⟩] = some (.int .i64 e, []) ∧ mayE last f = if f.1 ≤ last then 1 else e := by
  refine ⟨_, may34 m f.1 ⟨f.2.toArray⟩, ?_⟩
  have hs : (⟨f.2.toArray⟩ : ByteArray).size = f.2.length := by simp [ByteArray.size]
  rw [hs, mayE]
  by_cases h : f.1 ≤ last
  · rw [if_pos (.inr h), if_pos h]
  · rw [if_neg h]
    by_cases h2 : 255 < f.1
    · rw [if_pos (.inl h2), if_pos (.inl h2)]
    · rw [if_neg (show ¬ (255 < f.1 ∨ f.1 ≤ last) by omega), if_neg (show ¬ (255 < f.1 ∨ f.1 ≤ 0) by omega)]
theorem bytes35' (m : Nat) (last : Int) (f : Fld) (hm : mayE last f = 0) (h0 : 0 ≤ last) : E (m + 1) 35 [.int .i64 f.1, .str ⟨f.2.toArray⟩] = some (.fr 1 (byteRows (layB f)), []) := by
  obtain ⟨h1, h2, h3⟩ := may_ok hm
  have := bytes35 m f.1.toNat f.2 (by omega) h3
  rwa [show ((f.1.toNat : Nat) : Int) = f.1 by omega] at this

theorem step27 (m : Nat) (t : Bool) (R : List (List AV)) (i : Nat) (f : Fld) (hg : R[i]? = some (fr f)) (hi : i < R.length) (hR : R.length ≤ 1000000) (last : Int) (A : List (List AV)) (g c k : Nat) (hm : mayE last f = 0) (h0 : 0 ≤ last) (hA : A.length ≤ 1000000) (hgc : g < c) :
    iter (ev (Q (m + 1)) 300000 b27_0) K27 [49, 100000] (k + 1) ⟨[(0, .ro t 2 R), (4, .own 49 g 0 A.length), (5, .int .i64 last), (6, .int .i64 i)], [⟨49, g, .arr 1 A false⟩], c⟩ =
    iter (ev (Q (m + 1)) 300000 b27_0) K27 [49, 100000] k ⟨[(0, .ro t 2 R), (4, .own 49 (c + 1) 0 (A ++ byteRows (layB f)).length), (5, .int .i64 f.1), (6, .int .i64 ((i + 1 : Nat) : Int))], [⟨49, c + 1, .arr 1 (A ++ byteRows (layB f)) false⟩], c + 2⟩ := by
  obtain ⟨p1, p2, p3⟩ := may_ok hm
  obtain ⟨e, hM, he⟩ := may34' m last f h0
  have p4 : ¬ f.1 ≤ last := by omega
  rw [hm, if_neg p4] at he
  subst he
  have hP := bytes35' m last f hm h0
  have hb := byteRows_len (layB f)
  have hb4 := layB_len f
  have hbm : (layB f).length ≤ 100000 := by simp [layB, hdr]; omega
  have h1 : (i : Int) < (R.length : Int) := by omega
  have w2 : IntKind.i64.wrap ((i : Int) + 1) = (i : Int) + 1 := wrap_i64 _ (by omega) (by omega)
  have hA2 : A.take A.length = A := List.take_of_length_le (Nat.le_refl _)
  generalize byteRows (layB f) = B at *
  have hB2 : B.take B.length = B := List.take_of_length_le (Nat.le_refl _)
  have q1 : A.length + B.length ≤ 17592186044416 := by omega
  have q2 : ¬ A.length + B.length ≤ A.length := by omega
  have q3 : ¬ B = [] := by intro e; subst e; simp at hb; omega
  refine iter_norm ?_
  simp -implicitDefEqProofs [b27_0, St.keep, h1, hg, z38, fr, hM, q34, q35, hP, hA2, hB2, w2, hgc, p4, aappend, maxBytes, q1, q2, q3]
theorem step27n (m : Nat) (t : Bool) (R : List (List AV)) (f : Fld) (hg : R[0]? = some (fr f)) (hi : 0 < R.length) (c k : Nat) (hm : mayE 0 f = 0) :
    iter (ev (Q (m + 1)) 300000 b27_0) K27 [49, 100000] (k + 1) ⟨[(0, .ro t 2 R), (4, .nilS), (5, .int .i64 0), (6, .int .i64 0)], [], c⟩ =
    iter (ev (Q (m + 1)) 300000 b27_0) K27 [49, 100000] k ⟨[(0, .ro t 2 R), (4, .own 49 (c + 1) 0 (byteRows (layB f)).length), (5, .int .i64 f.1), (6, .int .i64 1)], [⟨49, c + 1, .arr 1 (byteRows (layB f)) false⟩], c + 2⟩ := by
  obtain ⟨p1, p2, p3⟩ := may_ok hm
  obtain ⟨e, hM, he⟩ := may34' m 0 f (by omega)
  have p4 : ¬ f.1 ≤ 0 := by omega
  rw [hm, if_neg p4] at he
  subst he
  have hP := bytes35' m 0 f hm (by omega)
  have hb := byteRows_len (layB f)
  have hb4 := layB_len f
  have hbm : (layB f).length ≤ 100000 := by simp [layB, hdr]; omega
  have h1 : (0 : Int) < (R.length : Int) := by omega
  have w2 : IntKind.i64.wrap 1 = 1 := wrap_i64 _ (by omega) (by omega)
  have hg' := (List.getElem?_eq_some_iff.1 hg).2
  obtain ⟨b0, B, hB⟩ : ∃ b0 B, byteRows (layB f) = b0 :: B := by
    cases h : byteRows (layB f) with
    | nil => rw [h] at hb; simp at hb; omega
    | cons b0 B => exact ⟨b0, B, rfl⟩
  rw [hB] at hP hb ⊢
  have q1 : B.length + 1 ≤ 17592186044416 := by simp at hb; omega
  have q2 : B.length ≤ 17592186044415 := by omega
  refine iter_norm ?_
  simp -implicitDefEqProofs [b27_0, St.keep, h1, hg, hg', hi, z38, fr, hM, q34, q35, hP, w2, p4, aappend, maxBytes, q1, q2]
theorem bad27 (m : Nat) (t : Bool) (R : List (List AV)) (i : Nat) (f : Fld) (hg : R[i]? = some (fr f)) (hi : i < R.length) (last : Int) (h0 : 0 ≤ last) (A : List (List AV)) (g c k : Nat) (hm : mayE last f ≠ 0) :
    ∃ s', iter (ev (Q (m + 1)) 300000 b27_0) K27 [49, 100000] (k + 1) ⟨[(0, .ro t 2 R), (4, .own 49 g 0 A.length), (5, .int .i64 last), (6, .int .i64 i)], [⟨49, g, .arr 1 A false⟩], c⟩ = some (.ret, s') ∧ envGet s'.env 2 = some .nilS ∧ envGet s'.env 3 = some (.int .i64 (mayE last f)) := by
  obtain ⟨e, hM, he⟩ := may34' m last f h0
  have h1 : (i : Int) < (R.length : Int) := by omega
  refine iter_outE (by simp) ?_
  by_cases p4 : f.1 ≤ last
  · rw [if_pos p4] at he
    rw [he]
    simp -implicitDefEqProofs [b27_0, St.keep, h1, hg, z38, fr, hM, q34, p4]
  · rw [if_neg p4] at he
    rw [he]
    have hb : (e != 0) = true := by rw [he] at hm; simpa using hm
    simp -implicitDefEqProofs [b27_0, St.keep, h1, hg, z38, fr, hM, q34, p4, hb]
theorem bad27n (m : Nat) (t : Bool) (R : List (List AV)) (f : Fld) (hg : R[0]? = some (fr f)) (hi : 0 < R.length) (c k : Nat) (hm : mayE 0 f ≠ 0) :
    ∃ s', iter (ev (Q (m + 1)) 300000 b27_0) K27 [49, 100000] (k + 1) ⟨[(0, .ro t 2 R), (4, .nilS), (5, .int .i64 0), (6, .int .i64 0)], [], c⟩ = some (.ret, s') ∧ envGet s'.env 2 = some .nilS ∧ envGet s'.env 3 = some (.int .i64 (mayE 0 f)) := by
  obtain ⟨e, hM, he⟩ := may34' m 0 f (by omega)
  have h1 : (0 : Int) < (R.length : Int) := by omega
  have hg' := (List.getElem?_eq_some_iff.1 hg).2
  refine iter_outE (by simp) ?_
  by_cases p4 : f.1 ≤ 0
  · rw [if_pos p4] at he
    rw [he]
    simp -implicitDefEqProofs [b27_0, St.keep, h1, hg, hg', hi, z38, fr, hM, q34, p4]
  · rw [if_neg p4] at he
    rw [he]
    have hb : (e != 0) = true := by rw [he] at hm; simpa using hm
    simp -implicitDefEqProofs [b27_0, St.keep, h1, hg, hg', hi, z38, fr, hM, q34, p4, hb]

theorem loop27 (m : Nat) (t : Bool) (l : List Fld) (hl : l.length ≤ 1000000) : ∀ (r : List Fld) (i : Nat) (last : Int) (A : List (List AV)) (g c k : Nat), l.drop i = r → 0 ≤ last → A.length + (lays r).length ≤ 1000000 → g < c → r.length < k → layE last r = 0 →
    ∃ g' c' x, iter (ev (Q (m + 1)) 300000 b27_0) K27 [49, 100000] k ⟨[(0, .ro t 2 (l.map fr)), (4, .own 49 g 0 A.length), (5, .int .i64 last), (6, .int .i64 i)], [⟨49, g, .arr 1 A false⟩], c⟩ =
      some (.exit 0, ⟨(0, .ro t 2 (l.map fr)) :: (4, .own 49 g' 0 (A ++ byteRows (lays r)).length) :: x, [⟨49, g', .arr 1 (A ++ byteRows (lays r)) false⟩], c'⟩)
  | r, i, last, A, g, c, 0, hr, h0, hA, hg, hk, he => by omega
  | [], i, last, A, g, c, k + 1, hr, h0, hA, hg, hk, he => by
    have h1 : ¬ ((i : Int) < (l.length : Int)) := by
      have := congrArg List.length hr
      rw [List.length_drop, List.length_nil] at this; omega
    have hlen : (l.map fr).length = l.length := by simp
    refine ⟨g, c, [(5, .int .i64 last), (6, .int .i64 i), (9, .int .i64 i), (10, .ro t 2 (l.map fr)), (11, .int .i64 l.length), (12, .bool false)], ?_⟩
    generalize l.map fr = R at *
    rw [iter_succ]
    simp -implicitDefEqProofs [b27_0, hlen, h1, lays, byteRows]
  | f :: r, i, last, A, g, c, k + 1, hr, h0, hA, hg, hk, he => by
    have hi : i < l.length := by
      have := congrArg List.length hr
      rw [List.length_drop, List.length_cons] at this; omega
    have hf : (l.map fr)[i]? = some (fr f) := by
      have : l[i]? = some f := by
        have := congrArg (fun x => x[0]?) hr
        simpa using this
      simp [this]
    have hd : l.drop (i + 1) = r := by
      have := congrArg (List.drop 1) hr
      simpa [List.drop_drop, Nat.add_comm] using this
    simp only [layE] at he
    split at he
    · next hm =>
      rw [lays, List.length_append] at hA
      have hb := byteRows_len (layB f)
      obtain ⟨p1, p2, p3⟩ := may_ok hm
      rw [step27 m t (l.map fr) i f hf (by simpa using hi) (by simpa using hl) last A g c k hm h0 (by omega) hg]
      obtain ⟨g', c', x, e⟩ := loop27 m t l hl r (i + 1) f.1 (A ++ byteRows (layB f)) (c + 1) (c + 2) k hd (by omega) (by rw [List.length_append, hb]; omega) (by omega) (by simp at hk; omega) he
      refine ⟨g', c', x, ?_⟩
      rw [e, lays, byteRows_append, List.append_assoc]
    · next hm => exact absurd he hm
theorem loop27e (m : Nat) (t : Bool) (l : List Fld) (hl : l.length ≤ 1000000) : ∀ (r : List Fld) (i : Nat) (last : Int) (A : List (List AV)) (g c k : Nat), l.drop i = r → 0 ≤ last → A.length + (lays r).length ≤ 1000000 → g < c → r.length < k → layE last r ≠ 0 →
    ∃ s', iter (ev (Q (m + 1)) 300000 b27_0) K27 [49, 100000] k ⟨[(0, .ro t 2 (l.map fr)), (4, .own 49 g 0 A.length), (5, .int .i64 last), (6, .int .i64 i)], [⟨49, g, .arr 1 A false⟩], c⟩ =
      some (.ret, s') ∧ envGet s'.env 2 = some .nilS ∧ envGet s'.env 3 = some (.int .i64 (layE last r))
  | r, i, last, A, g, c, 0, hr, h0, hA, hg, hk, he => by omega
  | [], i, last, A, g, c, k + 1, hr, h0, hA, hg, hk, he => absurd rfl he
  | f :: r, i, last, A, g, c, k + 1, hr, h0, hA, hg, hk, he => by
    have hi : i < l.length := by
      have := congrArg List.length hr
      rw [List.length_drop, List.length_cons] at this; omega
    have hf : (l.map fr)[i]? = some (fr f) := by
      have : l[i]? = some f := by
        have := congrArg (fun x => x[0]?) hr
        simpa using this
      simp [this]
    have hd : l.drop (i + 1) = r := by
      have := congrArg (List.drop 1) hr
      simpa [List.drop_drop, Nat.add_comm] using this
    rw [lays, List.length_append] at hA
    have hb := byteRows_len (layB f)
    simp only [layE] at he ⊢
    split
    · next hm =>
      rw [if_pos hm] at he
      obtain ⟨p1, p2, p3⟩ := may_ok hm
      rw [step27 m t (l.map fr) i f hf (by simpa using hi) (by simpa using hl) last A g c k hm h0 (by omega) hg]
      exact loop27e m t l hl r (i + 1) f.1 (A ++ byteRows (layB f)) (c + 1) (c + 2) k hd (by omega) (by rw [List.length_append, hb]; omega) (by omega) (by simp at hk; omega) he
    · next hm => exact bad27 m t (l.map fr) i f hf (by simpa using hi) last h0 A g c k hm
theorem lay27 (m : Nat) (t : Bool) (l : List Fld) (v : AV) (hv : Fs t l v) (hl : l.length ≤ 400) (hb : (lays l).length ≤ 1000000) : E (m + 2) 27 [v] = some (.tup [layV l, .int .i64 (layE 0 l)], []) := by
  rw [e27]
  rcases hv with ⟨rfl, rfl⟩ | rfl
  · simp -implicitDefEqProofs [a27, c27, layV, layE]
    rw [iter_succ]
    simp -implicitDefEqProofs [b27_0]
  rcases l with _ | ⟨f, r⟩
  · simp -implicitDefEqProofs [a27, c27, layV, layE]
    rw [iter_succ]
    simp -implicitDefEqProofs [b27_0]
  have hf : ((f :: r).map fr)[0]? = some (fr f) := rfl
  have hpos : 0 < ((f :: r).map fr).length := by simp
  rw [lays, List.length_append] at hb
  by_cases hm : mayE 0 f = 0
  · have st := step27n m t ((f :: r).map fr) f hf hpos 0 299999 hm
    obtain ⟨p1, p2, p3⟩ := may_ok hm
    have hbl := byteRows_len (layB f)
    by_cases he : layE f.1 r = 0
    · obtain ⟨g', c', x, e⟩ := loop27 m t (f :: r) (by simp at hl ⊢; omega) r 1 f.1 (byteRows (layB f)) 1 2 299999 rfl (by omega) (by rw [hbl]; omega) (by omega) (by simp at hl; omega) he
      have hV : layV (f :: r) = .fr 1 (byteRows (layB f) ++ byteRows (lays r)) := by simp [layV, layE, hm, he, lays, byteRows_append]
      have hE : layE 0 (f :: r) = 0 := by simp [layE, hm, he]
      rw [hV, hE]
      generalize (f :: r).map fr = R at *
      generalize byteRows (layB f) ++ byteRows (lays r) = B at *
      simp at st e
      simp -implicitDefEqProofs [a27, c27]
      rw [iter_keep]
      simp
      rw [st, e]
      simp -implicitDefEqProofs [envGet_set]
    · obtain ⟨s', e, e2, e3⟩ := loop27e m t (f :: r) (by simp at hl ⊢; omega) r 1 f.1 (byteRows (layB f)) 1 2 299999 rfl (by omega) (by rw [hbl]; omega) (by omega) (by simp at hl; omega) he
      have hE : layE 0 (f :: r) = layE f.1 r := by simp [layE, hm]
      have hV : layV (f :: r) = .nilS := by simp [layV, hE, he]
      rw [hV, hE]
      generalize (f :: r).map fr = R at *
      simp at st e
      simp -implicitDefEqProofs [a27, c27]
      rw [iter_keep]
      simp
      rw [st, e]
      simp -implicitDefEqProofs [e2, e3]
  · obtain ⟨s', e, e2, e3⟩ := bad27n m t ((f :: r).map fr) f hf hpos 0 299999 hm
    have hE : layE 0 (f :: r) = mayE 0 f := by simp [layE, hm]
    have hV : layV (f :: r) = .nilS := by simp [layV, hE, hm]
    rw [hV, hE]
    generalize (f :: r).map fr = R at *
    simp at e
    simp -implicitDefEqProofs [a27, c27]
    rw [iter_keep]
    simp
    rw [e]
    simp -implicitDefEqProofs [e2, e3]
end Go.Abs.Try

namespace Go.Abs.Try
open Go Go.Abs
set_option maxHeartbeats 16000000
set_option maxRecDepth 100000
set_option linter.unusedSimpArgs false
set_option linter.unusedVariables false

/- ------------------------------------------------ Same -/
theorem loop30 (Φ : Nat → Option FnF) (K c : Nat) (ta tb : Bool) (a b : List Fld) (hl : a.length = b.length) (ha : a.length ≤ 1000000) : ∀ (x y : List Fld) (i k : Nat), a.drop i = x → b.drop i = y → x.length < k →
    ∃ s', iter (ev Φ K b30_0) [0, 1, 5] [100000, 100200] k ⟨[(0, .ro ta 2 (a.map fr)), (1, .ro tb 2 (b.map fr)), (5, .int .i64 i)], [], c⟩ = some (if x = y then .exit 0 else .ret, s') ∧ (x ≠ y → envGet s'.env 4 = some (.bool false))
  | x, y, i, 0, hx, hy, hk => by omega
  | [], y, i, k + 1, hx, hy, hk => by
    have h1 : ¬ ((i : Int) < (a.length : Int)) := by
      have := congrArg List.length hx
      rw [List.length_drop, List.length_nil] at this; omega
    have hy' : y = [] := by
      rw [← hy]; exact List.drop_of_length_le (by omega)
    subst hy'
    simp only [ne_eq, not_true_eq_false, false_imp_iff, if_true]
    refine iter_outE (by simp) ?_
    simp -implicitDefEqProofs [b30_0, St.keep, h1]
  | f :: x, y, i, k + 1, hx, hy, hk => by
    have hi : i < a.length := by
      have := congrArg List.length hx
      rw [List.length_drop, List.length_cons] at this; omega
    obtain ⟨g, y, rfl⟩ : ∃ g y', y = g :: y' := by
      cases y with
      | nil => have := congrArg List.length hy; rw [List.length_drop, List.length_nil] at this; omega
      | cons g y => exact ⟨g, y, rfl⟩
    have h1 : (i : Int) < (a.length : Int) := by omega
    have hf : (a.map fr)[i]? = some (fr f) := by
      have : a[i]? = some f := by
        have := congrArg (fun x => x[0]?) hx
        simpa using this
      simp [this]
    have hg : (b.map fr)[i]? = some (fr g) := by
      have : b[i]? = some g := by
        have := congrArg (fun x => x[0]?) hy
        simpa using this
      simp [this]
    have hd : a.drop (i + 1) = x := by
      have := congrArg (List.drop 1) hx
      simpa [List.drop_drop, Nat.add_comm] using this
    have hd2 : b.drop (i + 1) = y := by
      have := congrArg (List.drop 1) hy
      simpa [List.drop_drop, Nat.add_comm] using this
    have w2 : IntKind.i64.wrap ((i : Int) + 1) = (i : Int) + 1 := wrap_i64 _ (by omega) (by omega)
    have hla : (a.map fr).length = a.length := by simp
    have hlb : (b.map fr).length = a.length := by simp [hl]
    by_cases e : f = g
    · subst e
      obtain ⟨s', x1, x2⟩ := loop30 Φ K c ta tb a b hl ha x y (i + 1) k hd hd2 (by simp at hk; omega)
      refine ⟨s', ?_, fun h => x2 (fun e => h (by rw [e]))⟩
      have e2 : (f :: x = f :: y) ↔ (x = y) := by simp
      simp only [e2]
      rw [← x1]
      generalize a.map fr = R at *
      generalize b.map fr = S at *
      refine iter_norm ?_
      simp -implicitDefEqProofs [b30_0, St.keep, h1, hf, hg, hla, hlb, fr, w2]
    · have e2 : ¬ (f :: x = g :: y) := fun h => e (List.cons.inj h).1
      simp only [e2, if_false, ne_eq, not_false_eq_true, forall_const]
      generalize a.map fr = R at *
      generalize b.map fr = S at *
      refine iter_outE (by simp) ?_
      by_cases e3 : f.1 = g.1
      · have e4 : ¬ f.2 = g.2 := fun h => e (Prod.ext e3 h)
        have e5 : (f.2 == g.2) = false := by simpa using e4
        simp -implicitDefEqProofs [b30_0, St.keep, h1, hf, hg, hla, hlb, fr, e3, e5, toList_eq]
      · have e5 : (f.1 == g.1) = false := by simpa using e3
        simp -implicitDefEqProofs [b30_0, St.keep, h1, hf, hg, hla, hlb, fr, e5]
theorem same30 (m : Nat) (ta tb : Bool) (a b : List Fld) (va vb : AV) (ha : Fs ta a va) (hb : Fs tb b vb) (hl : a.length ≤ 100000) (hl2 : b.length ≤ 100000) : E (m + 1) 30 [va, vb] = some (.bool (decide (a = b)), []) := by
  rw [e30]
  have hend : ∀ (k : Nat) (va vb : AV), alen va = some 0 → iter (ev (Q m) 300000 b30_0) [0, 1, 5] [100000, 100200] (k + 1) ⟨[(0, va), (1, vb), (5, .int .i64 0)], [], 0⟩ = some (.exit 0, ⟨[(0, va), (1, vb), (5, .int .i64 0), (11, .int .i64 0), (12, va), (13, .int .i64 0), (14, .bool false)], [], 0⟩) := by
    intro k va vb h
    rw [iter_succ]
    simp -implicitDefEqProofs [b30_0, h]
  rcases ha with ⟨rfl, rfl⟩ | rfl <;> rcases hb with ⟨rfl, rfl⟩ | rfl
  · simp -implicitDefEqProofs [a30, c30]
    rw [iter_keep]; simp; rw [hend 299999 _ _ rfl]; simp
  · by_cases h : b = []
    · subst h
      simp -implicitDefEqProofs [a30, c30]
      rw [iter_keep]; simp; rw [hend 299999 _ _ rfl]; simp
    · have h2 : (0 != (b.length : Int)) = true := by
        have := List.length_pos_iff.2 h
        simp; omega
      have h3 : ¬ [] = b := fun e => h e.symm
      simp -implicitDefEqProofs [a30, c30, h2, h3]
  · by_cases h : a = []
    · subst h
      simp -implicitDefEqProofs [a30, c30]
      rw [iter_keep]; simp; rw [hend 299999 _ _ rfl]; simp
    · have h2 : ((a.length : Int) != 0) = true := by
        have := List.length_pos_iff.2 h
        simp; omega
      simp -implicitDefEqProofs [a30, c30, h2, h]
  · by_cases h : a.length = b.length
    · obtain ⟨s', x1, x2⟩ := loop30 (Q m) 300000 0 ta tb a b h (by omega) a b 0 300000 rfl rfl (by omega)
      have h2 : ((a.length : Int) != (b.length : Int)) = false := by simp; omega
      simp at x1
      simp -implicitDefEqProofs [a30, c30, h2]
      rw [iter_keep]; simp; rw [x1]
      by_cases e : a = b
      · simp [e]
      · have := x2 e
        simp [e, this]
    · have h2 : ((a.length : Int) != (b.length : Int)) = true := by simp; omega
      have h3 : ¬ a = b := fun e => h (by rw [e])
      simp -implicitDefEqProofs [a30, c30, h2, h3]
end Go.Abs.Try

namespace Go.Abs.Try
open Go Go.Abs
set_option maxHeartbeats 16000000
set_option maxRecDepth 100000
set_option linter.unusedSimpArgs false
set_option linter.unusedVariables false

theorem get23F (m : Nat) (x : Bool) (l : List UInt8) (hl : l.length ≤ 1000000) : E (m + 1) 23 [.ro x 1 (byteRows l)] = some (.tup [.agg [.int .i64 (getF l).1.1, .str ⟨(getF l).1.2.toArray⟩], .int .i64 (getF l).2.1, .int .i64 (getF l).2.2], []) := by
  rw [get23 m x l hl, getR_F]; rfl
abbrev V29 : Env := [(2, .ptr 2 0 0), (3, .ptr 3 1 0), (4, .ptr 4 2 0), (5, .ptr 5 3 0), (9, .fn 37 [.ptr 3360001 4 0])]
abbrev Y29 (m : Nat) : InlF := around (ev (Q (m + 2)) 300000 b29_1) (ev (Q (m + 2)) 300000 b29_0) V29 2900000 5 [10, 11]
abbrev F29 (m : Nat) : Nat → Option FnF := withY (Q (m + 1)) 2900000 (Y29 m)
theorem k37a : 2 ∈ kh37i_0 ∧ 3 ∈ kh37i_0 ∧ 4 ∈ kh37i_0 ∧ 5 ∈ kh37i_0 ∧ 26 ∈ kh37i_0 ∧ 2900000 ∈ kh37i_0 ∧ 3360001 ∈ kh37i_0 ∧ 3370003 ∉ kh37i_0 ∧ 6 ∈ kh37i_0 ∧ 25 ∈ kh37i_0 := by decide +kernel
theorem k37b : 2 ∈ kh37i_1 ∧ 3 ∈ kh37i_1 ∧ 4 ∈ kh37i_1 ∧ 5 ∈ kh37i_1 ∧ 26 ∈ kh37i_1 ∧ 2900000 ∈ kh37i_1 ∧ 3360001 ∈ kh37i_1 ∧ 3370003 ∈ kh37i_1 ∧ 6 ∈ kh37i_1 ∧ 25 ∈ kh37i_1 := by decide +kernel
/-- the memory between two rounds, behind the first -/
def H29 (last : Int) (g : Nat) (A : List (List AV)) (b : AV) (X : AH) : AH :=
  [⟨2, 0, .var [.nilS]⟩, ⟨3, 1, .var [.int .i64 0]⟩, ⟨4, 2, .var [.own 26 g 0 A.length]⟩, ⟨5, 3, .var [.int .i64 last]⟩] ++ X ++ [⟨26, g, .arr 2 A false⟩, ⟨2900000, 5, .lp .ready⟩, ⟨3360001, 4, .var [b]⟩]
theorem step37 (m : Nat) (x : Bool) (l : List UInt8) (hl : l.length ≤ 1000000) (hne : l ≠ []) (last : Int) (A : List (List AV)) (g c k g1 : Nat) (r1 : List AV) (hg : g < c) (he : (getF l).2.2 = 0) (ht : last < (getF l).1.1) (hA : A.length ≤ 1000000) :
    ∃ c', c + 3 < c' ∧ iter (ev (F29 m) 300000 b37i_0) [0, 1] kh37i_0 (k + 1) ⟨[(0, .yld 2900000 5), (1, .ptr 3360001 4 0)], H29 last g A (.ro x 1 (byteRows l)) [⟨6, g1, .var r1⟩], c⟩ =
    iter (ev (F29 m) 300000 b37i_0) [0, 1] kh37i_0 k ⟨[(0, .yld 2900000 5), (1, .ptr 3360001 4 0)], H29 (getF l).1.1 (c + 3) (A ++ [fr (getF l).1]) (.ro x 1 (byteRows (l.drop (getF l).2.1))) [⟨6, c + 1, .var (fr (getF l).1)⟩], c'⟩ := by
  obtain ⟨p1, p2⟩ := getF_pos l he
  have hG := get23F m x l hl
  rw [he] at hG
  generalize hf : (getF l).1 = f at *
  generalize hn : (getF l).2.1 = n at *
  obtain ⟨a1, a2, a3, a4, a5, a6, a7, a8, a9, a10⟩ := k37a
  obtain ⟨b1, b2, b3, b4, b5, b6, b7, b8, b9, b10⟩ := k37b
  have hb := byteRows_len l
  have hpos : 0 < l.length := List.length_pos_iff.2 hne
  have h2 : ¬ f.1 ≤ last := by omega
  have e2 : A.take A.length = A := List.take_of_length_le (Nat.le_refl _)
  have e3 : (A.length + 1) * 24 ≤ 17592186044416 := by omega
  have e5 : ¬ A.length + 1 ≤ A.length := by omega
  have d1 : (byteRows l).take l.length = byteRows l := List.take_of_length_le (by omega)
  have d2 : (byteRows l).drop n = byteRows (l.drop n) := by simp [byteRows]
  have p3 : (n : Int) ≤ (l.length : Int) := by omega
  refine ⟨c + 4, by omega, iter_norm ?_⟩
  simp -implicitDefEqProofs [b37i_0, b29_0, b29_1, St.keep, H29, z38, a1, a2, a3, a4, a5, a6, a7, a8, a9, a10, b1, b2, b3, b4, b5, b6, b7, b8, b9, b10, hb, hpos, F29, Y29, V29, withY, ykey, q23, hG, FnF.yield, around, envPar, roundEnd, fr, h2, aappend, maxBytes, e2, e3, e5, d1, d2, p2, p3]

/-- the memory ahead of the first round -/
def H29n (b : AV) : AH :=
  [⟨2, 0, .var [.nilS]⟩, ⟨3, 1, .var [.int .i64 0]⟩, ⟨4, 2, .var [.nilS]⟩, ⟨5, 3, .var [.int .i64 0]⟩, ⟨2900000, 5, .lp .ready⟩, ⟨3360001, 4, .var [b]⟩]
theorem step37n (m : Nat) (x : Bool) (l : List UInt8) (hl : l.length ≤ 1000000) (hne : l ≠ []) (k : Nat) (he : (getF l).2.2 = 0) (ht : 0 < (getF l).1.1) :
    ∃ c', 9 < c' ∧ iter (ev (F29 m) 300000 b37i_0) [0, 1] kh37i_0 (k + 1) ⟨[(0, .yld 2900000 5), (1, .ptr 3360001 4 0)], H29n (.ro x 1 (byteRows l)), 6⟩ =
    iter (ev (F29 m) 300000 b37i_0) [0, 1] kh37i_0 k ⟨[(0, .yld 2900000 5), (1, .ptr 3360001 4 0)], H29 (getF l).1.1 9 [fr (getF l).1] (.ro x 1 (byteRows (l.drop (getF l).2.1))) [⟨6, 7, .var (fr (getF l).1)⟩], c'⟩ := by
  obtain ⟨p1, p2⟩ := getF_pos l he
  have hG := get23F m x l hl
  rw [he] at hG
  generalize hf : (getF l).1 = f at *
  generalize hn : (getF l).2.1 = n at *
  obtain ⟨a1, a2, a3, a4, a5, a6, a7, a8, a9, a10⟩ := k37a
  obtain ⟨b1, b2, b3, b4, b5, b6, b7, b8, b9, b10⟩ := k37b
  have hb := byteRows_len l
  have hpos : 0 < l.length := List.length_pos_iff.2 hne
  have h2 : ¬ f.1 ≤ 0 := by omega
  have d1 : (byteRows l).take l.length = byteRows l := List.take_of_length_le (by omega)
  have d2 : (byteRows l).drop n = byteRows (l.drop n) := by simp [byteRows]
  have p3 : (n : Int) ≤ (l.length : Int) := by omega
  refine ⟨10, by omega, iter_norm ?_⟩
  simp -implicitDefEqProofs [b37i_0, b29_0, b29_1, St.keep, H29, H29n, z38, a1, a2, a3, a4, a5, a6, a7, a8, a9, a10, b1, b2, b3, b4, b5, b6, b7, b8, b9, b10, hb, hpos, F29, Y29, V29, withY, ykey, q23, hG, FnF.yield, around, envPar, roundEnd, fr, h2, aappend, maxBytes, d1, d2, p2, p3]
/-- a round that is left for good: e is the error -/
theorem bad37 (m : Nat) (x : Bool) (l : List UInt8) (hl : l.length ≤ 1000000) (hne : l ≠ []) (last : Int) (A : List (List AV)) (g c k g1 : Nat) (r1 : List AV) (e : Int) (hg : g < c) (hA : A.length ≤ 1000000)
    (he : ((getF l).2.2 ≠ 0 ∧ e = (getF l).2.2) ∨ ((getF l).2.2 = 0 ∧ (getF l).1.1 ≤ last ∧ e = 11)) :
    ∃ s', iter (ev (F29 m) 300000 b37i_0) [0, 1] kh37i_0 (k + 1) ⟨[(0, .yld 2900000 5), (1, .ptr 3360001 4 0)], H29 last g A (.ro x 1 (byteRows l)) [⟨6, g1, .var r1⟩], c⟩ = some (.ret, s') ∧ s'.h.get 2 0 = some (.var [.nilS]) ∧ s'.h.get 3 1 = some (.var [.int .i64 e]) ∧ s'.h.get 2900000 5 = some (.lp (.done .ret)) := by
  have hG := get23F m x l hl
  generalize hf : (getF l).1 = f at *
  generalize hn : (getF l).2.1 = n at *
  generalize hee : (getF l).2.2 = e0 at *
  obtain ⟨a1, a2, a3, a4, a5, a6, a7, a8, a9, a10⟩ := k37a
  obtain ⟨b1, b2, b3, b4, b5, b6, b7, b8, b9, b10⟩ := k37b
  have hb := byteRows_len l
  have hpos : 0 < l.length := List.length_pos_iff.2 hne
  refine iter_outE (by simp) ?_
  rcases he with ⟨h1, rfl⟩ | ⟨rfl, h1, rfl⟩
  · have h3 : (e == 0) = false := by simpa using h1
    have h4 : (e != 0) = true := by simpa using h1
    simp -implicitDefEqProofs [b37i_0, b29_0, b29_1, St.keep, H29, H29n, z38, a1, a2, a3, a4, a5, a6, a7, a8, a9, a10, b1, b2, b3, b4, b5, b6, b7, b8, b9, b10, hb, hpos, F29, Y29, V29, withY, ykey, q23, hG, FnF.yield, around, envPar, roundEnd, fr, h3, h4]
  · simp -implicitDefEqProofs [b37i_0, b29_0, b29_1, St.keep, H29, H29n, z38, a1, a2, a3, a4, a5, a6, a7, a8, a9, a10, b1, b2, b3, b4, b5, b6, b7, b8, b9, b10, hb, hpos, F29, Y29, V29, withY, ykey, q23, hG, FnF.yield, around, envPar, roundEnd, fr, h1]
theorem bad37n (m : Nat) (x : Bool) (l : List UInt8) (hl : l.length ≤ 1000000) (hne : l ≠ []) (k : Nat) (e : Int)
    (he : ((getF l).2.2 ≠ 0 ∧ e = (getF l).2.2) ∨ ((getF l).2.2 = 0 ∧ (getF l).1.1 ≤ 0 ∧ e = 11)) :
    ∃ s', iter (ev (F29 m) 300000 b37i_0) [0, 1] kh37i_0 (k + 1) ⟨[(0, .yld 2900000 5), (1, .ptr 3360001 4 0)], H29n (.ro x 1 (byteRows l)), 6⟩ = some (.ret, s') ∧ s'.h.get 2 0 = some (.var [.nilS]) ∧ s'.h.get 3 1 = some (.var [.int .i64 e]) ∧ s'.h.get 2900000 5 = some (.lp (.done .ret)) := by
  have hG := get23F m x l hl
  generalize hf : (getF l).1 = f at *
  generalize hn : (getF l).2.1 = n at *
  generalize hee : (getF l).2.2 = e0 at *
  obtain ⟨a1, a2, a3, a4, a5, a6, a7, a8, a9, a10⟩ := k37a
  obtain ⟨b1, b2, b3, b4, b5, b6, b7, b8, b9, b10⟩ := k37b
  have hb := byteRows_len l
  have hpos : 0 < l.length := List.length_pos_iff.2 hne
  refine iter_outE (by simp) ?_
  rcases he with ⟨h1, rfl⟩ | ⟨rfl, h1, rfl⟩
  · have h3 : (e == 0) = false := by simpa using h1
    have h4 : (e != 0) = true := by simpa using h1
    simp -implicitDefEqProofs [b37i_0, b29_0, b29_1, St.keep, H29, H29n, z38, a1, a2, a3, a4, a5, a6, a7, a8, a9, a10, b1, b2, b3, b4, b5, b6, b7, b8, b9, b10, hb, hpos, F29, Y29, V29, withY, ykey, q23, hG, FnF.yield, around, envPar, roundEnd, fr, h3, h4]
  · simp -implicitDefEqProofs [b37i_0, b29_0, b29_1, St.keep, H29, H29n, z38, a1, a2, a3, a4, a5, a6, a7, a8, a9, a10, b1, b2, b3, b4, b5, b6, b7, b8, b9, b10, hb, hpos, F29, Y29, V29, withY, ykey, q23, hG, FnF.yield, around, envPar, roundEnd, fr, h1]
theorem loop37 (m : Nat) (x : Bool) : ∀ (k : Nat) (l : List UInt8) (last : Int) (A : List (List AV)) (g c g1 : Nat) (r1 : List AV), l.length < k → l.length ≤ 1000000 → A.length * 4 + l.length ≤ 1000000 → g < c → (readE k last l).2 = 0 →
    ∃ (g' c' : Nat) (last' : Int) (X : Nat × List AV) (Y : Env) (b : AV), iter (ev (F29 m) 300000 b37i_0) [0, 1] kh37i_0 k ⟨[(0, .yld 2900000 5), (1, .ptr 3360001 4 0)], H29 last g A (.ro x 1 (byteRows l)) [⟨6, g1, .var r1⟩], c⟩ =
      some (.exit 0, ⟨Y, H29 last' g' (A ++ (readE k last l).1.map fr) b [⟨6, X.1, .var X.2⟩], c'⟩)
  | 0, l, last, A, g, c, g1, r1, hk, hl, hA, hg, he => by omega
  | k + 1, l, last, A, g, c, g1, r1, hk, hl, hA, hg, he => by
    rw [readE] at he ⊢
    by_cases hne : l = []
    · subst hne
      obtain ⟨a1, a2, a3, a4, a5, a6, a7, a8, a9, a10⟩ := k37a
      refine ⟨g, c, last, (g1, r1), [(0, .yld 2900000 5), (1, .ptr 3360001 4 0), (6, .ro x 1 []), (7, .int .i64 0), (8, .bool false)], .ro x 1 [], ?_⟩
      rw [iter_succ]
      simp -implicitDefEqProofs [b37i_0, H29, a1, a2, a3, a4, a5, a6, a7, a8, a9, a10, byteRows]
    rw [if_neg hne] at he ⊢
    by_cases h1 : (getF l).2.2 ≠ 0
    · rw [if_pos h1] at he; exact absurd he h1
    rw [if_neg h1] at he ⊢
    by_cases h2 : (getF l).1.1 ≤ last
    · rw [if_pos h2] at he; simp at he
    rw [if_neg h2] at he ⊢
    simp only at he ⊢
    by_cases h3 : (readE k (getF l).1.1 (l.drop (getF l).2.1)).2 ≠ 0
    · rw [if_pos h3] at he; exact absurd he h3
    rw [if_neg h3]
    have h1' := Classical.not_not.1 h1
    obtain ⟨p1, p2⟩ := getF_pos l h1'
    have hd : (l.drop (getF l).2.1).length = l.length - (getF l).2.1 := List.length_drop
    obtain ⟨c1, hc1, e1⟩ := step37 m x l hl hne last A g c k g1 r1 hg h1' (by omega) (by omega)
    obtain ⟨g', c', last', X, Y, b, e⟩ := loop37 m x k (l.drop (getF l).2.1) (getF l).1.1 (A ++ [fr (getF l).1]) (c + 3) c1 (c + 1) (fr (getF l).1) (by omega) (by omega) (by simp; omega) hc1 (Classical.not_not.1 h3)
    refine ⟨g', c', last', X, Y, b, ?_⟩
    rw [e1, e]
    simp
theorem loop37e (m : Nat) (x : Bool) : ∀ (k : Nat) (l : List UInt8) (last : Int) (A : List (List AV)) (g c g1 : Nat) (r1 : List AV), l.length < k → l.length ≤ 1000000 → A.length * 4 + l.length ≤ 1000000 → g < c → (readE k last l).2 ≠ 0 →
    ∃ s', iter (ev (F29 m) 300000 b37i_0) [0, 1] kh37i_0 k ⟨[(0, .yld 2900000 5), (1, .ptr 3360001 4 0)], H29 last g A (.ro x 1 (byteRows l)) [⟨6, g1, .var r1⟩], c⟩ = some (.ret, s') ∧ s'.h.get 2 0 = some (.var [.nilS]) ∧ s'.h.get 3 1 = some (.var [.int .i64 (readE k last l).2]) ∧ s'.h.get 2900000 5 = some (.lp (.done .ret))
  | 0, l, last, A, g, c, g1, r1, hk, hl, hA, hg, he => by omega
  | k + 1, l, last, A, g, c, g1, r1, hk, hl, hA, hg, he => by
    rw [readE] at he ⊢
    by_cases hne : l = []
    · rw [if_pos hne] at he; simp at he
    rw [if_neg hne] at he ⊢
    by_cases h1 : (getF l).2.2 ≠ 0
    · rw [if_pos h1]
      exact bad37 m x l hl hne last A g c k g1 r1 _ hg (by omega) (.inl ⟨h1, rfl⟩)
    rw [if_neg h1] at he ⊢
    have h1' := Classical.not_not.1 h1
    by_cases h2 : (getF l).1.1 ≤ last
    · rw [if_pos h2]
      exact bad37 m x l hl hne last A g c k g1 r1 _ hg (by omega) (.inr ⟨h1', h2, rfl⟩)
    rw [if_neg h2] at he ⊢
    simp only at he ⊢
    by_cases h3 : (readE k (getF l).1.1 (l.drop (getF l).2.1)).2 ≠ 0
    · rw [if_pos h3]
      obtain ⟨p1, p2⟩ := getF_pos l h1'
      have hd : (l.drop (getF l).2.1).length = l.length - (getF l).2.1 := List.length_drop
      obtain ⟨c1, hc1, e1⟩ := step37 m x l hl hne last A g c k g1 r1 hg h1' (by omega) (by omega)
      rw [e1]
      exact loop37e m x k (l.drop (getF l).2.1) (getF l).1.1 (A ++ [fr (getF l).1]) (c + 3) c1 (c + 1) (fr (getF l).1) (by omega) (by omega) (by simp; omega) hc1 h3
    · rw [if_neg h3] at he; simp at he

/-- what Read tells -/
def readV (r : List Fld × Int) : AV := if r.2 ≠ 0 ∨ r.1 = [] then .nilS else .fr 2 (r.1.map fr)
/-- bytes, as a callee sees them -/
def Bs (x : Bool) (l : List UInt8) (v : AV) : Prop := (v = .nilS ∧ l = []) ∨ v = .ro x 1 (byteRows l)
theorem read29 (m : Nat) (x : Bool) (l : List UInt8) (v : AV) (hv : Bs x l v) (hl : l.length ≤ 290000) : E (m + 3) 29 [v] = some (.tup [readV (readE 300000 0 l), .int .i64 (readE 300000 0 l).2], []) := by
  rw [e29]
  obtain ⟨a1, a2, a3, a4, a5, a6, a7, a8, a9, a10⟩ := k37a
  by_cases hne : l = []
  · subst hne
    have e0 : readE 300000 0 [] = ([], 0) := by rw [show (300000 : Nat) = 299999 + 1 from rfl, readE]; simp
    rw [e0]
    have hend : ∀ b, (b = .nilS ∨ b = .ro x 1 []) → iter (ev (F29 m) 300000 b37i_0) [0, 1] kh37i_0 300000 ⟨[(0, .yld 2900000 5), (1, .ptr 3360001 4 0)], H29n b, 6⟩ = some (.exit 0, ⟨[(0, .yld 2900000 5), (1, .ptr 3360001 4 0), (6, b), (7, .int .i64 0), (8, .bool false)], H29n b, 6⟩) := by
      intro b hb
      rw [show (300000 : Nat) = 299999 + 1 from rfl, iter_succ]
      rcases hb with rfl | rfl <;> simp -implicitDefEqProofs [b37i_0, H29n, a1, a2, a3, a4, a5, a6, a7, a8, a9, a10]
    rcases hv with ⟨rfl, _⟩ | rfl
    · have h := hend .nilS (.inl rfl)
      simp [H29n, F29, Y29, V29] at h
      simp -implicitDefEqProofs [a29, c29, q36, i36, a36i, c36i, evInl, q37, j37, evItr, a37i, c37i, readV]
      rw [iter_keep]
      simp [a1, a2, a3, a4, a5, a6, a7]
      rw [h]
      simp [rangeEnd]
    · have h := hend (.ro x 1 []) (.inr rfl)
      simp [H29n, F29, Y29, V29] at h
      simp -implicitDefEqProofs [a29, c29, q36, i36, a36i, c36i, evInl, q37, j37, evItr, a37i, c37i, readV, byteRows]
      rw [iter_keep]
      simp [a1, a2, a3, a4, a5, a6, a7]
      rw [h]
      simp [rangeEnd]
  rcases hv with ⟨_, h⟩ | rfl
  · exact absurd h hne
  have hR : readE 300000 0 l = if (getF l).2.2 ≠ 0 then ([], (getF l).2.2) else if (getF l).1.1 ≤ 0 then ([], 11) else
      if (readE 299999 (getF l).1.1 (l.drop (getF l).2.1)).2 ≠ 0 then ([], (readE 299999 (getF l).1.1 (l.drop (getF l).2.1)).2) else ((getF l).1 :: (readE 299999 (getF l).1.1 (l.drop (getF l).2.1)).1, 0) := by
    rw [show (300000 : Nat) = 299999 + 1 from rfl, readE, if_neg hne]
  by_cases hgood : (readE 300000 0 l).2 = 0
  · have h1 : (getF l).2.2 = 0 := by
      rw [hR] at hgood
      by_cases h : (getF l).2.2 = 0
      · exact h
      · rw [if_pos h] at hgood; exact hgood
    have h2 : ¬ (getF l).1.1 ≤ 0 := by
      intro h
      rw [hR, if_neg (by simp [h1]), if_pos h] at hgood
      simp at hgood
    have h3 : (readE 299999 (getF l).1.1 (l.drop (getF l).2.1)).2 = 0 := by
      rw [hR, if_neg (by simp [h1]), if_neg h2] at hgood
      by_cases h : (readE 299999 (getF l).1.1 (l.drop (getF l).2.1)).2 = 0
      · exact h
      · rw [if_pos h] at hgood; exact hgood
    have hE : readE 300000 0 l = ((getF l).1 :: (readE 299999 (getF l).1.1 (l.drop (getF l).2.1)).1, 0) := by
      rw [hR, if_neg (by simp [h1]), if_neg h2, if_neg (by simp [h3])]
    obtain ⟨p1, p2⟩ := getF_pos l h1
    have hd : (l.drop (getF l).2.1).length = l.length - (getF l).2.1 := List.length_drop
    obtain ⟨c1, hc1, st⟩ := step37n m x l (by omega) hne 299999 h1 (by omega)
    obtain ⟨g', c', last', X, Y, b, e⟩ := loop37 m x 299999 (l.drop (getF l).2.1) (getF l).1.1 [fr (getF l).1] 9 c1 7 (fr (getF l).1) (by omega) (by omega) (by simp; omega) hc1 h3
    have hV : readV (readE 300000 0 l) = .fr 2 ([fr (getF l).1] ++ (readE 299999 (getF l).1.1 (l.drop (getF l).2.1)).1.map fr) := by
      rw [hE]; simp [readV]
    rw [hV, hgood]
    have e' := st.trans e
    generalize [fr (getF l).1] ++ (readE 299999 (getF l).1.1 (l.drop (getF l).2.1)).1.map fr = B at *
    simp [H29n, H29, F29, Y29, V29] at e'
    simp -implicitDefEqProofs [a29, c29, q36, i36, a36i, c36i, evInl, q37, j37, evItr, a37i, c37i]
    rw [iter_keep]
    simp [a1, a2, a3, a4, a5, a6, a7]
    rw [e']
    simp [rangeEnd]
  · have key : ∃ s', iter (ev (F29 m) 300000 b37i_0) [0, 1] kh37i_0 300000 ⟨[(0, .yld 2900000 5), (1, .ptr 3360001 4 0)], H29n (.ro x 1 (byteRows l)), 6⟩ = some (.ret, s') ∧ s'.h.get 2 0 = some (.var [.nilS]) ∧ s'.h.get 3 1 = some (.var [.int .i64 (readE 300000 0 l).2]) ∧ s'.h.get 2900000 5 = some (.lp (.done .ret)) := by
      rw [hR] at hgood ⊢
      by_cases h1 : (getF l).2.2 ≠ 0
      · rw [if_pos h1]
        exact bad37n m x l (by omega) hne 299999 _ (.inl ⟨h1, rfl⟩)
      rw [if_neg h1] at hgood ⊢
      have h1' := Classical.not_not.1 h1
      by_cases h2 : (getF l).1.1 ≤ 0
      · rw [if_pos h2]
        exact bad37n m x l (by omega) hne 299999 _ (.inr ⟨h1', h2, rfl⟩)
      rw [if_neg h2] at hgood ⊢
      by_cases h3 : (readE 299999 (getF l).1.1 (l.drop (getF l).2.1)).2 ≠ 0
      · rw [if_pos h3]
        obtain ⟨p1, p2⟩ := getF_pos l h1'
        have hd : (l.drop (getF l).2.1).length = l.length - (getF l).2.1 := List.length_drop
        obtain ⟨c1, hc1, st⟩ := step37n m x l (by omega) hne 299999 h1' (by omega)
        rw [show (300000 : Nat) = 299999 + 1 from rfl, st]
        exact loop37e m x 299999 (l.drop (getF l).2.1) (getF l).1.1 [fr (getF l).1] 9 c1 7 (fr (getF l).1) (by omega) (by omega) (by simp; omega) hc1 h3
      · rw [if_neg h3] at hgood; simp at hgood
    obtain ⟨s', e, e2, e3, e4⟩ := key
    have hV : readV (readE 300000 0 l) = .nilS := by simp [readV, hgood]
    rw [hV]
    generalize (readE 300000 0 l).2 = er at *
    simp [H29n, F29, Y29, V29] at e
    simp -implicitDefEqProofs [a29, c29, q36, i36, a36i, c36i, evInl, q37, j37, evItr, a37i, c37i]
    rw [iter_keep]
    simp [a1, a2, a3, a4, a5, a6, a7]
    rw [e]
    simp [rangeEnd, e2, e3, e4, get_del]
end Go.Abs.Try

namespace Go.Abs.Try
open Go Go.Abs
set_option maxHeartbeats 16000000
set_option maxRecDepth 100000
set_option linter.unusedSimpArgs false
set_option linter.unusedVariables false

theorem get24F (m : Nat) (x : Bool) (l : List UInt8) (hl : l.length ≤ 1000000) : E (m + 1) 24 [.ro x 1 (byteRows l)] = some (.tup [.agg [.int .i64 (getF l).1.1, .str ⟨(getF l).1.2.toArray⟩], .int .i64 (getF l).2.1, .int .i64 (getF l).2.2], []) := by
  rw [get24 m x l hl, getR_F]; rfl
abbrev K31 : List Nat := [0, 4, 5]
theorem step31 (m : Nat) (x : Bool) (l : List UInt8) (hl : l.length ≤ 1000000) (hne : l ≠ []) (last : Int) (A : List (List AV)) (g c k : Nat) (hg : g < c) (he : (getF l).2.2 = 0) (ht : last < (getF l).1.1) (hA : A.length ≤ 1000000) :
    ∃ c', c + 2 < c' ∧ iter (ev (Q (m + 1)) 300000 b31_0) K31 [28, 100000] (k + 1) ⟨[(0, .ro x 1 (byteRows l)), (4, .own 28 g 0 A.length), (5, .int .i64 last)], [⟨28, g, .arr 2 A false⟩], c⟩ =
    iter (ev (Q (m + 1)) 300000 b31_0) K31 [28, 100000] k ⟨[(0, .ro x 1 (byteRows (l.drop (getF l).2.1))), (4, .own 28 (c + 2) 0 (A ++ [fr (getF l).1]).length), (5, .int .i64 (getF l).1.1)], [⟨28, c + 2, .arr 2 (A ++ [fr (getF l).1]) false⟩], c'⟩ := by
  obtain ⟨p1, p2⟩ := getF_pos l he
  have hG := get24F m x l hl
  rw [he] at hG
  generalize hf : (getF l).1 = f at *
  generalize hn : (getF l).2.1 = n at *
  have hb := byteRows_len l
  have hpos : 0 < l.length := List.length_pos_iff.2 hne
  have h2 : ¬ f.1 ≤ last := by omega
  have e2 : A.take A.length = A := List.take_of_length_le (Nat.le_refl _)
  have e3 : (A.length + 1) * 24 ≤ 17592186044416 := by omega
  have e5 : ¬ A.length + 1 ≤ A.length := by omega
  have d1 : (byteRows l).take l.length = byteRows l := List.take_of_length_le (by omega)
  have d2 : (byteRows l).drop n = byteRows (l.drop n) := by simp [byteRows]
  have p3 : (n : Int) ≤ (l.length : Int) := by omega
  refine ⟨c + 3, by omega, iter_norm ?_⟩
  simp -implicitDefEqProofs [b31_0, St.keep, z38, hb, hpos, q24, hG, fr, h2, aappend, maxBytes, e2, e3, e5, d1, d2, p2, p3]
theorem step31n (m : Nat) (x : Bool) (l : List UInt8) (hl : l.length ≤ 1000000) (hne : l ≠ []) (k : Nat) (he : (getF l).2.2 = 0) (ht : 0 < (getF l).1.1) :
    ∃ c', 2 < c' ∧ iter (ev (Q (m + 1)) 300000 b31_0) K31 [28, 100000] (k + 1) ⟨[(0, .ro x 1 (byteRows l)), (4, .nilS), (5, .int .i64 0)], [], 0⟩ =
    iter (ev (Q (m + 1)) 300000 b31_0) K31 [28, 100000] k ⟨[(0, .ro x 1 (byteRows (l.drop (getF l).2.1))), (4, .own 28 2 0 1), (5, .int .i64 (getF l).1.1)], [⟨28, 2, .arr 2 [fr (getF l).1] false⟩], c'⟩ := by
  obtain ⟨p1, p2⟩ := getF_pos l he
  have hG := get24F m x l hl
  rw [he] at hG
  generalize hf : (getF l).1 = f at *
  generalize hn : (getF l).2.1 = n at *
  have hb := byteRows_len l
  have hpos : 0 < l.length := List.length_pos_iff.2 hne
  have h2 : ¬ f.1 ≤ 0 := by omega
  have d1 : (byteRows l).take l.length = byteRows l := List.take_of_length_le (by omega)
  have d2 : (byteRows l).drop n = byteRows (l.drop n) := by simp [byteRows]
  have p3 : (n : Int) ≤ (l.length : Int) := by omega
  refine ⟨3, by omega, iter_norm ?_⟩
  simp -implicitDefEqProofs [b31_0, St.keep, z38, hb, hpos, q24, hG, fr, h2, aappend, maxBytes, d1, d2, p2, p3]
theorem bad31 (m : Nat) (x : Bool) (l : List UInt8) (hl : l.length ≤ 1000000) (hne : l ≠ []) (last : Int) (v : AV) (H : AH) (c k : Nat) (e : Int) (hH : (v = .nilS ∧ H = []) ∨ ∃ g A, v = .own 28 g 0 A.length ∧ H = [⟨28, g, .arr 2 A false⟩])
    (he : ((getF l).2.2 ≠ 0 ∧ e = (getF l).2.2) ∨ ((getF l).2.2 = 0 ∧ (getF l).1.1 ≤ last ∧ e = 11)) :
    ∃ s', iter (ev (Q (m + 1)) 300000 b31_0) K31 [28, 100000] (k + 1) ⟨[(0, .ro x 1 (byteRows l)), (4, v), (5, .int .i64 last)], H, c⟩ = some (.ret, s') ∧ envGet s'.env 2 = some .nilS ∧ envGet s'.env 3 = some (.int .i64 e) := by
  have hG := get24F m x l hl
  generalize hf : (getF l).1 = f at *
  generalize hn : (getF l).2.1 = n at *
  generalize hee : (getF l).2.2 = e0 at *
  have hb := byteRows_len l
  have hpos : 0 < l.length := List.length_pos_iff.2 hne
  refine iter_outE (by simp) ?_
  rcases hH with ⟨rfl, rfl⟩ | ⟨g, A, rfl, rfl⟩
  all_goals rcases he with ⟨h1, rfl⟩ | ⟨rfl, h1, rfl⟩
  all_goals first
    | (have h4 : (e != 0) = true := by simpa using h1
       simp -implicitDefEqProofs [b31_0, St.keep, z38, hb, hpos, q24, hG, fr, h4]
       done)
    | simp -implicitDefEqProofs [b31_0, St.keep, z38, hb, hpos, q24, hG, fr, h1]
theorem loop31 (m : Nat) (x : Bool) : ∀ (k : Nat) (l : List UInt8) (last : Int) (A : List (List AV)) (g c : Nat), l.length < k → l.length ≤ 1000000 → A.length * 4 + l.length ≤ 1000000 → g < c → (readE k last l).2 = 0 →
    ∃ (g' c' : Nat) (Y : Env) (b : AV), iter (ev (Q (m + 1)) 300000 b31_0) K31 [28, 100000] k ⟨[(0, .ro x 1 (byteRows l)), (4, .own 28 g 0 A.length), (5, .int .i64 last)], [⟨28, g, .arr 2 A false⟩], c⟩ =
      some (.exit 0, ⟨(0, b) :: (4, .own 28 g' 0 (A ++ (readE k last l).1.map fr).length) :: Y, [⟨28, g', .arr 2 (A ++ (readE k last l).1.map fr) false⟩], c'⟩)
  | 0, l, last, A, g, c, hk, hl, hA, hg, he => by omega
  | k + 1, l, last, A, g, c, hk, hl, hA, hg, he => by
    rw [readE] at he ⊢
    by_cases hne : l = []
    · subst hne
      refine ⟨g, c, [(5, .int .i64 last), (9, .ro x 1 []), (10, .int .i64 0), (11, .bool false)], .ro x 1 [], ?_⟩
      rw [iter_succ]
      simp -implicitDefEqProofs [b31_0, byteRows]
    rw [if_neg hne] at he ⊢
    by_cases h1 : (getF l).2.2 ≠ 0
    · rw [if_pos h1] at he; exact absurd he h1
    rw [if_neg h1] at he ⊢
    by_cases h2 : (getF l).1.1 ≤ last
    · rw [if_pos h2] at he; simp at he
    rw [if_neg h2] at he ⊢
    simp only at he ⊢
    by_cases h3 : (readE k (getF l).1.1 (l.drop (getF l).2.1)).2 ≠ 0
    · rw [if_pos h3] at he; exact absurd he h3
    rw [if_neg h3]
    have h1' := Classical.not_not.1 h1
    obtain ⟨p1, p2⟩ := getF_pos l h1'
    have hd : (l.drop (getF l).2.1).length = l.length - (getF l).2.1 := List.length_drop
    obtain ⟨c1, hc1, e1⟩ := step31 m x l hl hne last A g c k hg h1' (by omega) (by omega)
    obtain ⟨g', c', Y, b, e⟩ := loop31 m x k (l.drop (getF l).2.1) (getF l).1.1 (A ++ [fr (getF l).1]) (c + 2) c1 (by omega) (by omega) (by simp; omega) hc1 (Classical.not_not.1 h3)
    refine ⟨g', c', Y, b, ?_⟩
    rw [e1, e]
    simp
theorem loop31e (m : Nat) (x : Bool) : ∀ (k : Nat) (l : List UInt8) (last : Int) (A : List (List AV)) (g c : Nat), l.length < k → l.length ≤ 1000000 → A.length * 4 + l.length ≤ 1000000 → g < c → (readE k last l).2 ≠ 0 →
    ∃ s', iter (ev (Q (m + 1)) 300000 b31_0) K31 [28, 100000] k ⟨[(0, .ro x 1 (byteRows l)), (4, .own 28 g 0 A.length), (5, .int .i64 last)], [⟨28, g, .arr 2 A false⟩], c⟩ = some (.ret, s') ∧ envGet s'.env 2 = some .nilS ∧ envGet s'.env 3 = some (.int .i64 (readE k last l).2)
  | 0, l, last, A, g, c, hk, hl, hA, hg, he => by omega
  | k + 1, l, last, A, g, c, hk, hl, hA, hg, he => by
    rw [readE] at he ⊢
    by_cases hne : l = []
    · rw [if_pos hne] at he; simp at he
    rw [if_neg hne] at he ⊢
    by_cases h1 : (getF l).2.2 ≠ 0
    · rw [if_pos h1]
      exact bad31 m x l hl hne last _ _ c k _ (.inr ⟨g, A, rfl, rfl⟩) (.inl ⟨h1, rfl⟩)
    rw [if_neg h1] at he ⊢
    have h1' := Classical.not_not.1 h1
    by_cases h2 : (getF l).1.1 ≤ last
    · rw [if_pos h2]
      exact bad31 m x l hl hne last _ _ c k _ (.inr ⟨g, A, rfl, rfl⟩) (.inr ⟨h1', h2, rfl⟩)
    rw [if_neg h2] at he ⊢
    simp only at he ⊢
    by_cases h3 : (readE k (getF l).1.1 (l.drop (getF l).2.1)).2 ≠ 0
    · rw [if_pos h3]
      obtain ⟨p1, p2⟩ := getF_pos l h1'
      have hd : (l.drop (getF l).2.1).length = l.length - (getF l).2.1 := List.length_drop
      obtain ⟨c1, hc1, e1⟩ := step31 m x l hl hne last A g c k hg h1' (by omega) (by omega)
      rw [e1]
      exact loop31e m x k (l.drop (getF l).2.1) (getF l).1.1 (A ++ [fr (getF l).1]) (c + 2) c1 (by omega) (by omega) (by simp; omega) hc1 h3
    · rw [if_neg h3] at he; simp at he
theorem read31 (m : Nat) (x : Bool) (l : List UInt8) (v : AV) (hv : Bs x l v) (hl : l.length ≤ 290000) : E (m + 2) 31 [v] = some (.tup [readV (readE 300000 0 l), .int .i64 (readE 300000 0 l).2], []) := by
  rw [e31]
  by_cases hne : l = []
  · subst hne
    have e0 : readE 300000 0 [] = ([], 0) := by rw [show (300000 : Nat) = 299999 + 1 from rfl, readE]; simp
    rw [e0]
    rcases hv with ⟨rfl, _⟩ | rfl
    · simp -implicitDefEqProofs [a31, c31, readV]
      rw [iter_keep, show (300000 : Nat) = 299999 + 1 from rfl, iter_succ]
      simp -implicitDefEqProofs [b31_0]
    · simp -implicitDefEqProofs [a31, c31, readV, byteRows]
      rw [iter_keep, show (300000 : Nat) = 299999 + 1 from rfl, iter_succ]
      simp -implicitDefEqProofs [b31_0]
  rcases hv with ⟨_, h⟩ | rfl
  · exact absurd h hne
  have hR : readE 300000 0 l = if (getF l).2.2 ≠ 0 then ([], (getF l).2.2) else if (getF l).1.1 ≤ 0 then ([], 11) else
      if (readE 299999 (getF l).1.1 (l.drop (getF l).2.1)).2 ≠ 0 then ([], (readE 299999 (getF l).1.1 (l.drop (getF l).2.1)).2) else ((getF l).1 :: (readE 299999 (getF l).1.1 (l.drop (getF l).2.1)).1, 0) := by
    rw [show (300000 : Nat) = 299999 + 1 from rfl, readE, if_neg hne]
  by_cases hgood : (readE 300000 0 l).2 = 0
  · have h1 : (getF l).2.2 = 0 := by
      rw [hR] at hgood
      by_cases h : (getF l).2.2 = 0
      · exact h
      · rw [if_pos h] at hgood; exact hgood
    have h2 : ¬ (getF l).1.1 ≤ 0 := by
      intro h
      rw [hR, if_neg (by simp [h1]), if_pos h] at hgood
      simp at hgood
    have h3 : (readE 299999 (getF l).1.1 (l.drop (getF l).2.1)).2 = 0 := by
      rw [hR, if_neg (by simp [h1]), if_neg h2] at hgood
      by_cases h : (readE 299999 (getF l).1.1 (l.drop (getF l).2.1)).2 = 0
      · exact h
      · rw [if_pos h] at hgood; exact hgood
    have hE : readE 300000 0 l = ((getF l).1 :: (readE 299999 (getF l).1.1 (l.drop (getF l).2.1)).1, 0) := by
      rw [hR, if_neg (by simp [h1]), if_neg h2, if_neg (by simp [h3])]
    obtain ⟨p1, p2⟩ := getF_pos l h1
    have hd : (l.drop (getF l).2.1).length = l.length - (getF l).2.1 := List.length_drop
    obtain ⟨c1, hc1, st⟩ := step31n m x l (by omega) hne 299999 h1 (by omega)
    obtain ⟨g', c', Y, b, e⟩ := loop31 m x 299999 (l.drop (getF l).2.1) (getF l).1.1 [fr (getF l).1] 2 c1 (by omega) (by omega) (by simp; omega) hc1 h3
    have hV : readV (readE 300000 0 l) = .fr 2 ([fr (getF l).1] ++ (readE 299999 (getF l).1.1 (l.drop (getF l).2.1)).1.map fr) := by
      rw [hE]; simp [readV]
    rw [hV, hgood]
    have e' := st.trans e
    generalize [fr (getF l).1] ++ (readE 299999 (getF l).1.1 (l.drop (getF l).2.1)).1.map fr = B at *
    simp at e'
    simp -implicitDefEqProofs [a31, c31]
    rw [iter_keep]
    simp
    rw [e']
    simp [envGet_set]
  · have key : ∃ s', iter (ev (Q (m + 1)) 300000 b31_0) K31 [28, 100000] 300000 ⟨[(0, .ro x 1 (byteRows l)), (4, .nilS), (5, .int .i64 0)], [], 0⟩ = some (.ret, s') ∧ envGet s'.env 2 = some .nilS ∧ envGet s'.env 3 = some (.int .i64 (readE 300000 0 l).2) := by
      rw [hR] at hgood ⊢
      by_cases h1 : (getF l).2.2 ≠ 0
      · rw [if_pos h1]
        exact bad31 m x l (by omega) hne 0 _ _ 0 299999 _ (.inl ⟨rfl, rfl⟩) (.inl ⟨h1, rfl⟩)
      rw [if_neg h1] at hgood ⊢
      have h1' := Classical.not_not.1 h1
      by_cases h2 : (getF l).1.1 ≤ 0
      · rw [if_pos h2]
        exact bad31 m x l (by omega) hne 0 _ _ 0 299999 _ (.inl ⟨rfl, rfl⟩) (.inr ⟨h1', h2, rfl⟩)
      rw [if_neg h2] at hgood ⊢
      by_cases h3 : (readE 299999 (getF l).1.1 (l.drop (getF l).2.1)).2 ≠ 0
      · rw [if_pos h3]
        obtain ⟨p1, p2⟩ := getF_pos l h1'
        have hd : (l.drop (getF l).2.1).length = l.length - (getF l).2.1 := List.length_drop
        obtain ⟨c1, hc1, st⟩ := step31n m x l (by omega) hne 299999 h1' (by omega)
        rw [show (300000 : Nat) = 299999 + 1 from rfl, st]
        exact loop31e m x 299999 (l.drop (getF l).2.1) (getF l).1.1 [fr (getF l).1] 2 c1 (by omega) (by omega) (by simp; omega) hc1 h3
      · rw [if_neg h3] at hgood; simp at hgood
    obtain ⟨s', e, e2, e3⟩ := key
    have hV : readV (readE 300000 0 l) = .nilS := by simp [readV, hgood]
    rw [hV]
    generalize (readE 300000 0 l).2 = er at *
    try simp at e
    simp -implicitDefEqProofs [a31, c31]
    rw [iter_keep]
    simp
    rw [e]
    simp [e2, e3]
end Go.Abs.Try

namespace Go.Abs.Try
open Go Go.Abs
set_option maxHeartbeats 16000000
set_option maxRecDepth 100000
set_option linter.unusedSimpArgs false
set_option linter.unusedVariables false

theorem over_total : ∀ (l : List Fld) (n : Nat), n ≤ 262144 → over l n = false → n + (lays l).length ≤ 262144 + 4 * l.length
  | [], n, hn, h => by simp [lays]; omega
  | f :: r, n, hn, h => by
    rw [over] at h
    split at h
    · simp at h
    next h1 =>
    have := over_total r (n + f.2.length) (by omega) h
    have e : (layB f).length = f.2.length + 4 := by simp [layB, hdr]
    simp only [lays, List.length_append, List.length_cons, e]
    omega
theorem small {l : List Fld} (h : big l = false) : l.length ≤ 400 ∧ (lays l).length ≤ 263744 := by
  unfold big at h
  simp only [Bool.or_eq_false_iff, decide_eq_false_iff_not] at h
  have := over_total l 0 (by omega) h.2
  omega

theorem law9 (x0 : AV) (o0 : okRow [.sl [.int .i64, .str]] [x0]) : E 8 9 [x0] = some (.bool true, []) := by
  obtain ⟨l, hv⟩ := ok_fields o0
  have hL := large25 6 false l x0 hv
  rw [e9]
  cases hbig : big l with
  | true =>
    rw [hbig] at hL
    rcases hv with ⟨rfl, _⟩ | rfl
    · simp -implicitDefEqProofs [a9, c9, q25, hL]
    · generalize l.map fr = R at *
      simp -implicitDefEqProofs [a9, c9, q25, hL]
  | false =>
    rw [hbig] at hL
    obtain ⟨s1, s2⟩ := small hbig
    have h26 := lay26 5 false l x0 hv s1 (by omega)
    have h27 := lay27 5 false l x0 hv s1 (by omega)
    by_cases he : layE 0 l = 0
    · by_cases hn : l = []
      · subst hn
        have hV : layV [] = .nilS := by simp [layV]
        rw [hV, he] at h26 h27
        have h29 := read29 4 true [] .nilS (.inl ⟨rfl, rfl⟩) (by simp)
        have e0 : readE 300000 0 [] = ([], 0) := by rw [show (300000 : Nat) = 299999 + 1 from rfl, readE]; simp
        have hV2 : readV ([], 0) = .nilS := by simp [readV]
        rw [e0, hV2] at h29
        have h30 := same30 6 true false [] [] .nilS x0 (.inl ⟨rfl, rfl⟩) hv (by simp) (by simp)
        have hr := rows_ok
        rcases hv with ⟨rfl, _⟩ | rfl
        · simp -implicitDefEqProofs [a9, c9, q25, hL, q26, h26, q27, h27, q29, h29, q30, h30, q28, hr, toBytes]
        · simp at h26 h27 h30 hL
          simp -implicitDefEqProofs [a9, c9, q25, hL, q26, h26, q27, h27, q29, h29, q30, h30, q28, hr, toBytes]
      · have hV : layV l = .fr 1 (byteRows (lays l)) := by simp [layV, he, hn]
        rw [hV, he] at h26 h27
        have h29 := read29 4 true (lays l) (.ro true 1 (byteRows (lays l))) (.inr rfl) (by omega)
        rw [read_lays l 0 300000 (by omega) he (by omega)] at h29
        have hV2 : readV (l, 0) = .fr 2 (l.map fr) := by simp [readV, hn]
        rw [hV2] at h29
        have h30 := same30 6 true false l l (.ro true 2 (l.map fr)) x0 (.inr rfl) hv (by omega) (by omega)
        have hr := rows_ok
        have htb := toBytes_rows (lays l)
        have hlen := byteRows_len (lays l)
        rcases hv with ⟨_, h⟩ | rfl
        · exact absurd h hn
        · generalize byteRows (lays l) = B at *
          generalize hR : l.map fr = R at *
          simp at h30
          simp -implicitDefEqProofs [a9, c9, q25, hL, q26, h26, q27, h27, q29, h29, q30, h30, q28, hr, htb]
    · have hV : layV l = .nilS := by simp [layV, he]
      rw [hV] at h26 h27
      generalize layE 0 l = e at *
      have hr := rows_ok
      have hb : (e != 0) = true := by simpa using he
      rcases hv with ⟨rfl, _⟩ | rfl
      · simp -implicitDefEqProofs [a9, c9, q25, hL, q26, h26, q27, h27, q28, hr, hb, toBytes]
      · generalize l.map fr = R at *
        simp -implicitDefEqProofs [a9, c9, q25, hL, q26, h26, q27, h27, q28, hr, hb, toBytes]
theorem ref9 : Refines Go.Proofs.Try.prog 9 (E 8 9) := ref 8 9 (q9 7)

theorem rise_len : ∀ (l : List Fld) (last : Int), 0 ≤ last → layE last l = 0 → (l.length : Int) ≤ 255 - last ∨ l = []
  | [], last, h0, h => .inr rfl
  | f :: r, last, h0, h => by
    left
    simp only [layE] at h
    split at h
    · next hm =>
      obtain ⟨p1, p2, p3⟩ := may_ok hm
      rcases rise_len r f.1 (by omega) h with x | rfl
      · simp only [List.length_cons]; omega
      · simp only [List.length_cons, List.length_nil]; omega
    · next hm => exact absurd h hm
theorem k22 : (3180007 ∈ kh22i_1 ∧ 3180014 ∈ kh22i_1) ∧ (3180007 ∈ kh22i_0 ∧ 3180014 ∈ kh22i_0) ∧ (18000 ∈ kh22i_1 ∧ 23000 ∈ kh22i_1) ∧ (18000 ∈ kh22i_0 ∧ 23000 ∈ kh22i_0) := by decide +kernel
theorem law10 (x0 : AV) (o0 : okRow [.sl [.int .u8]] [x0]) : E 9 10 [x0] = some (.bool true, []) := by
  obtain ⟨l, hv⟩ := ok_bytes o0
  have hb := byteRows_len l
  rw [e10]
  by_cases hk : 262144 < (l.length : Int)
  · rcases hv with ⟨rfl, rfl⟩ | rfl
    · simp at hk
    · simp -implicitDefEqProofs [a10, c10, hk, hb]
  obtain ⟨N, g, c, hN, e⟩ := lent18 7 l x0 hv (by omega)
  have h29 := read29 5 true l (.ro true 1 (byteRows l)) (.inr rfl) (by omega)
  have h31 := read31 6 false l x0 hv (by omega)
  have hkp := kept22 7 N g l x0 hv (by omega)
  have htk : (byteRows l ++ List.replicate 7 mk).take l.length = byteRows l := by rw [List.take_append_of_le_length (by omega), List.take_of_length_le (by omega)]
  have hR : l.length ≤ (byteRows l ++ List.replicate 7 mk).length := by rw [List.length_append]; omega
  have hrows : E 8 28 [] = some (.bool true, []) := by kernel_rfl
  have htb := toBytes_rows l
  obtain ⟨⟨k1, k2⟩, ⟨k3, k4⟩, ⟨k5, k6⟩, k7, k8⟩ := k22
  generalize byteRows l ++ List.replicate 7 mk = W at *
  by_cases he : (readE 300000 0 l).2 = 0
  · obtain ⟨r1, r2, r3⟩ := lays_read 300000 0 l (by omega) he
    generalize hq : (readE 300000 0 l).1 = q at *
    have hE : readE 300000 0 l = (q, 0) := Prod.ext hq he
    by_cases hn : q = []
    · subst hn
      have hl0 : l = [] := by rw [← r1]; rfl
      subst hl0
      have hV : readV (readE 300000 0 []) = .nilS := by rw [hE]; simp [readV]
      rw [hV, he] at h29 h31
      have h30 := same30 7 true true [] [] .nilS .nilS (.inl ⟨rfl, rfl⟩) (.inl ⟨rfl, rfl⟩) (by simp) (by simp)
      have h26 := lay26 6 true [] .nilS (.inl ⟨rfl, rfl⟩) (by simp) (by simp [lays])
      have hV2 : layV [] = .nilS := by simp [layV]
      rw [hV2] at h26
      have hL : layE 0 [] = 0 := rfl
      rw [hL] at h26
      rcases hv with ⟨rfl, _⟩ | rfl
      all_goals
        simp [byteRows] at htk h29 h31 h30 h26 e hkp
        rcases hN with rfl | rfl
        all_goals simp -implicitDefEqProofs [a10, c10, q18, q22, q28, q29, q31, q30, q26, e, h29, h31, h30, h26, hkp, htk, hrows, k1, k2, k3, k4, k5, k6, k7, k8, byteRows, toBytes]
    · have hV : readV (readE 300000 0 l) = .fr 2 (q.map fr) := by rw [hE]; simp [readV, hn]
      rw [hV, he] at h29 h31
      have hq255 : q.length ≤ 255 := by
        rcases rise_len q 0 (by omega) r2 with x | x
        · omega
        · exact absurd x hn
      have h30 := same30 7 true true q q (.ro true 2 (q.map fr)) (.ro true 2 (q.map fr)) (.inr rfl) (.inr rfl) (by omega) (by omega)
      have h26 := lay26 6 true q (.ro true 2 (q.map fr)) (.inr rfl) (by omega) (by rw [r1]; omega)
      have hV2 : layV q = .fr 1 (byteRows (lays q)) := by simp [layV, r2, hn]
      rw [hV2, r2, r1] at h26
      generalize q.map fr = R at *
      rcases hv with ⟨rfl, rfl⟩ | rfl
      · cases q with
        | nil => exact absurd rfl hn
        | cons f q => simp [lays] at r1; have := layB_len f; simp [r1.1] at this
      · have hBt : (byteRows l).take l.length = byteRows l := List.take_of_length_le (by omega)
        generalize byteRows l = B at *
        simp at h30
        rcases hN with rfl | rfl
        all_goals simp -implicitDefEqProofs [a10, c10, q18, q22, q28, q29, q31, q30, q26, e, h29, h31, h30, h26, hkp, htk, hrows, k1, k2, k3, k4, k5, k6, k7, k8, hb, hk, hR, htb, hBt]
  · have hV : readV (readE 300000 0 l) = .nilS := by simp [readV, he]
    rw [hV] at h29 h31
    generalize (readE 300000 0 l).2 = er at *
    have h30 := same30 7 true true [] [] .nilS .nilS (.inl ⟨rfl, rfl⟩) (.inl ⟨rfl, rfl⟩) (by simp) (by simp)
    have hb2 : (er != 0) = true := by simpa using he
    rcases hv with ⟨rfl, rfl⟩ | rfl
    · simp [byteRows] at htk h29 h31 h30 e hkp
      rcases hN with rfl | rfl
      all_goals simp -implicitDefEqProofs [a10, c10, q18, q22, q28, q29, q31, q30, q26, e, h29, h31, h30, hkp, htk, hrows, k1, k2, k3, k4, k5, k6, k7, k8, byteRows, toBytes, hb2]
    · generalize byteRows l = B at *
      simp at h30
      rcases hN with rfl | rfl
      all_goals simp -implicitDefEqProofs [a10, c10, q18, q22, q28, q29, q31, q30, q26, e, h29, h31, h30, hkp, htk, hrows, k1, k2, k3, k4, k5, k6, k7, k8, hb, hk, hR, htb, hb2]
theorem ref10 : Refines Go.Proofs.Try.prog 10 (E 9 10) := ref 9 10 (q10 8)
end Go.Abs.Try

namespace Go.Abs.Try
open Go Go.Abs
set_option maxHeartbeats 16000000
set_option maxRecDepth 100000
set_option linter.unusedSimpArgs false
set_option linter.unusedVariables false

theorem law11 (x0 x1 : AV) (o0 : okRow [.sl [.int .i64, .str]] [x0]) (o1 : okRow [.sl [.int .i64, .str]] [x1]) : E 8 11 [x0, x1] = some (.bool true, []) := by
  obtain ⟨l, hv⟩ := ok_fields o0
  obtain ⟨q, hw⟩ := ok_fields o1
  have bare : ∀ {l : List Fld} {v : AV}, Fs false l v → ∀ h, lendCell h v = some v ∧ inCell h 0 100000 v = some (v, h, 0) := by
    intro l v hv h
    rcases hv with ⟨rfl, _⟩ | rfl
    · exact ⟨rfl, rfl⟩
    · exact ⟨rfl, rfl⟩
  have hL := large25 6 false l x0 hv
  have hM := large25 6 false q x1 hw
  have hr := rows_ok
  rw [e11]
  cases hbig : big l with
  | true =>
    rw [hbig] at hL
    rcases hv with ⟨rfl, _⟩ | rfl <;> rcases hw with ⟨rfl, _⟩ | rfl
    all_goals try generalize l.map fr = R at *
    all_goals try generalize q.map fr = S at *
    all_goals simp -implicitDefEqProofs [a11, c11, q25, hL]
  | false =>
  rw [hbig] at hL
  cases hbig2 : big q with
  | true =>
    rw [hbig2] at hM
    rcases hv with ⟨rfl, _⟩ | rfl <;> rcases hw with ⟨rfl, _⟩ | rfl
    all_goals try generalize l.map fr = R at *
    all_goals try generalize q.map fr = S at *
    all_goals first | (exfalso; rw [hL] at hM; simp at hM; done) | simp -implicitDefEqProofs [a11, c11, q25, hL, hM]
  | false =>
  rw [hbig2] at hM
  obtain ⟨s1, s2⟩ := small hbig
  obtain ⟨t1, t2⟩ := small hbig2
  have hX := lay26 5 false l x0 hv s1 (by omega)
  have hY := lay26 5 false q x1 hw t1 (by omega)
  have h30 := same30 6 false false l q x0 x1 hv hw (by omega) (by omega)
  by_cases he : layE 0 l ≠ 0
  · have hV : layV l = .nilS := by simp [layV, he]
    rw [hV] at hX
    have hb : (layE 0 l != 0) = true := by simpa using he
    have hW : layV q = .nilS ∨ ∃ B, layV q = .fr 1 B := by
      unfold layV
      split
      · exact .inl rfl
      · exact .inr ⟨_, rfl⟩
    generalize layE 0 l = e1 at *
    generalize layE 0 q = e2 at *
    generalize layV q = w at *
    rcases hv with ⟨rfl, _⟩ | rfl <;> rcases hw with ⟨rfl, _⟩ | rfl <;> rcases hW with rfl | ⟨B, rfl⟩
    all_goals try generalize l.map fr = R at *
    all_goals try generalize q.map fr = S at *
    all_goals simp -implicitDefEqProofs [a11, c11, q25, hL, hM, q26, hX, hY, q28, hr, hb]
  · have he' : layE 0 l = 0 := Classical.not_not.1 he
    rw [he'] at hX
    by_cases hf : layE 0 q ≠ 0
    · have hV : layV q = .nilS := by simp [layV, hf]
      rw [hV] at hY
      have hb : (layE 0 q != 0) = true := by simpa using hf
      have hW : layV l = .nilS ∨ ∃ B, layV l = .fr 1 B := by
        unfold layV
        split
        · exact .inl rfl
        · exact .inr ⟨_, rfl⟩
      generalize layE 0 q = e2 at *
      generalize layV l = w at *
      rcases hv with ⟨rfl, _⟩ | rfl <;> rcases hw with ⟨rfl, _⟩ | rfl <;> rcases hW with rfl | ⟨B, rfl⟩
      all_goals try generalize l.map fr = R at *
      all_goals try generalize q.map fr = S at *
      all_goals first | (exfalso; rw [hX] at hY; simp at hY; done) | (exfalso; rw [hX] at hY; simp at hY; omega) | simp -implicitDefEqProofs [a11, c11, q25, hL, hM, q26, hX, hY, q28, hr, hb]
    · have hf' : layE 0 q = 0 := Classical.not_not.1 hf
      rw [hf'] at hY
      have hXV : (l = [] ∧ layV l = .nilS) ∨ (l ≠ [] ∧ layV l = .fr 1 (byteRows (lays l))) := by
        by_cases h : l = []
        · exact .inl ⟨h, by simp [layV, h]⟩
        · exact .inr ⟨h, by simp [layV, he', h]⟩
      have hYV : (q = [] ∧ layV q = .nilS) ∨ (q ≠ [] ∧ layV q = .fr 1 (byteRows (lays q))) := by
        by_cases h : q = []
        · exact .inl ⟨h, by simp [layV, h]⟩
        · exact .inr ⟨h, by simp [layV, hf', h]⟩
      have hinj : (lays l = lays q) ↔ (l = q) := ⟨fun h => lays_inj he' hf' h, fun h => by rw [h]⟩
      have hdec : (lays l == lays q) = decide (l = q) := by
        by_cases h : l = q
        · simp [h]
        · have hx : ¬ lays l = lays q := fun x => h (hinj.1 x)
          simp [h, hx]
      have t1 := toBytes_rows (lays l)
      have t2 := toBytes_rows (lays q)
      have lz : ∀ {r : List Fld}, r ≠ [] → lays r ≠ [] := by
        intro r hr0 h0
        cases r with
        | nil => exact hr0 rfl
        | cons f r => have := layB_len f; simp [lays] at h0; simp [h0.1] at this
      generalize hlx : lays l = bl at *
      generalize hqx : lays q = bq at *
      rcases hXV with ⟨z1, z2⟩ | ⟨z1, z2⟩ <;> rcases hYV with ⟨y1, y2⟩ | ⟨y1, y2⟩
      · subst z1; subst y1
        rw [z2] at hX; rw [y2] at hY
        rcases hv with ⟨rfl, v1⟩ | rfl <;> rcases hw with ⟨rfl, w1⟩ | rfl
        all_goals try simp at h30 hX hY hL hM
        all_goals simp -implicitDefEqProofs [a11, c11, q25, hL, hM, q26, hX, hY, q28, hr, q30, h30, toBytes]
      · subst z1
        rw [z2] at hX; rw [y2] at hY
        have hbl : bl = [] := hlx.symm
        subst hbl
        have hne : ¬ [] = q := fun e => y1 e.symm
        simp only [hne, decide_false] at h30 hdec
        generalize byteRows bq = B at *
        rcases hw with ⟨rfl, w1⟩ | rfl
        · exact absurd w1 y1
        rcases hv with ⟨rfl, v1⟩ | rfl
        all_goals generalize q.map fr = S at *
        all_goals try simp at h30 hX hY hL hM
        all_goals simp -implicitDefEqProofs [a11, c11, q25, hL, hM, q26, hX, hY, q28, hr, q30, h30, toBytes, t2, hdec]
      · subst y1
        rw [z2] at hX; rw [y2] at hY
        have hbl : bq = [] := hqx.symm
        subst hbl
        simp only [z1, decide_false] at h30 hdec
        generalize byteRows bl = B at *
        rcases hv with ⟨rfl, v1⟩ | rfl
        · exact absurd v1 z1
        rcases hw with ⟨rfl, w1⟩ | rfl
        all_goals generalize l.map fr = R at *
        all_goals try simp at h30 hX hY hL hM
        all_goals simp -implicitDefEqProofs [a11, c11, q25, hL, hM, q26, hX, hY, q28, hr, q30, h30, toBytes, t1, hdec]
      · rw [z2] at hX; rw [y2] at hY
        rcases hv with ⟨rfl, v1⟩ | rfl
        · exact absurd v1 z1
        rcases hw with ⟨rfl, w1⟩ | rfl
        · exact absurd w1 y1
        generalize byteRows bl = B1 at *
        generalize byteRows bq = B2 at *
        generalize l.map fr = R at *
        generalize q.map fr = S at *
        simp -implicitDefEqProofs [a11, c11, q25, hL, hM, q26, hX, hY, q28, hr, q30, h30, toBytes, t1, t2, hdec]
theorem ref11 : Refines Go.Proofs.Try.prog 11 (E 8 11) := ref 8 11 (q11 7)
end Go.Abs.Try

namespace Go.Abs.Try
open Go Go.Abs
set_option maxHeartbeats 16000000
set_option maxRecDepth 100000
set_option linter.unusedSimpArgs false
set_option linter.unusedVariables false

theorem readE_len : ∀ (k : Nat) (last : Int) (l : List UInt8), (readE k last l).1.length * 4 ≤ l.length
  | 0, last, l => by simp [readE]
  | k + 1, last, l => by
    rw [readE]
    split
    · simp
    split
    · simp
    next h1 =>
    split
    · simp
    simp only
    split
    · simp
    · have h1' := Classical.not_not.1 h1
      obtain ⟨p1, p2⟩ := getF_pos l h1'
      have ih := readE_len k (getF l).1.1 (l.drop (getF l).2.1)
      rw [List.length_drop] at ih
      simp only [List.length_cons]; omega
theorem law12 (x0 x1 : AV) (o0 : okRow [.sl [.int .i64, .str]] [x0]) (o1 : okRow [.int .i64] [x1]) : E 8 12 [x0, x1] = some (.bool true, []) := by
  obtain ⟨l, hv⟩ := ok_fields o0
  obtain ⟨cut, vs, e, hw, h2⟩ := o1.int
  obtain rfl := h2.nil_inv
  obtain rfl : x1 = .int .i64 cut := by simpa using e
  have hL := large25 6 false l x0 hv
  have hr := rows_ok
  rw [e12]
  cases hbig : big l with
  | true =>
    rw [hbig] at hL
    rcases hv with ⟨rfl, _⟩ | rfl
    all_goals try generalize l.map fr = R at *
    all_goals simp -implicitDefEqProofs [a12, c12, q25, hL]
  | false =>
  rw [hbig] at hL
  obtain ⟨s1, s2⟩ := small hbig
  have hX := lay26 5 false l x0 hv s1 (by omega)
  by_cases he : layE 0 l ≠ 0
  · have hV : layV l = .nilS := by simp [layV, he]
    rw [hV] at hX
    have hb : (layE 0 l != 0) = true := by simpa using he
    generalize layE 0 l = e1 at *
    rcases hv with ⟨rfl, _⟩ | rfl
    all_goals try generalize l.map fr = R at *
    all_goals simp -implicitDefEqProofs [a12, c12, q25, hL, q26, hX, q28, hr, hb]
  have he' : layE 0 l = 0 := Classical.not_not.1 he
  rw [he'] at hX
  by_cases hn : l = []
  · subst hn
    have hV : layV [] = .nilS := by simp [layV]
    rw [hV] at hX
    by_cases c0 : cut < 0
    · rcases hv with ⟨rfl, _⟩ | rfl
      all_goals simp at hL hX
      all_goals simp -implicitDefEqProofs [a12, c12, q25, hL, q26, hX, q28, hr, c0]
    by_cases c1 : 0 < cut
    · rcases hv with ⟨rfl, _⟩ | rfl
      all_goals simp at hL hX
      all_goals simp -implicitDefEqProofs [a12, c12, q25, hL, q26, hX, q28, hr, c0, c1]
    have c2 : cut = 0 := by omega
    subst c2
    have h29 := read29 4 true [] .nilS (.inl ⟨rfl, rfl⟩) (by simp)
    have e0 : readE 300000 0 [] = ([], 0) := by rw [show (300000 : Nat) = 299999 + 1 from rfl, readE]; simp
    have hV2 : readV ([], 0) = .nilS := by simp [readV]
    rw [e0, hV2] at h29
    rcases hv with ⟨rfl, _⟩ | rfl
    · have h30 := same30 6 true false [] [] .nilS .nilS (.inl ⟨rfl, rfl⟩) (.inl ⟨rfl, rfl⟩) (by simp) (by simp)
      simp at hL hX h29 h30
      simp -implicitDefEqProofs [a12, c12, q25, hL, q26, hX, q28, hr, q29, h29, q30, h30]
    · have h30 := same30 6 true false [] [] .nilS (.ro false 2 ([].map fr)) (.inl ⟨rfl, rfl⟩) (.inr rfl) (by simp) (by simp)
      simp at hL hX h29 h30
      simp -implicitDefEqProofs [a12, c12, q25, hL, q26, hX, q28, hr, q29, h29, q30, h30]
  have hV : layV l = .fr 1 (byteRows (lays l)) := by simp [layV, he', hn]
  rw [hV] at hX
  have hlen := byteRows_len (lays l)
  rcases hv with ⟨_, h⟩ | rfl
  · exact absurd h hn
  have hfl : (l.map fr).length = l.length := by simp
  by_cases c0 : cut < 0
  · generalize l.map fr = R at *
    simp -implicitDefEqProofs [a12, c12, q25, hL, q26, hX, q28, hr, c0]
  by_cases c1 : ((lays l).length : Int) < cut
  · generalize l.map fr = R at *
    generalize byteRows (lays l) = B at *
    simp -implicitDefEqProofs [a12, c12, q25, hL, q26, hX, q28, hr, c0, hlen, c1]
  obtain ⟨n, rfl⟩ : ∃ n : Nat, cut = n := ⟨cut.toNat, by omega⟩
  have hn1 : n ≤ (lays l).length := by omega
  have htk : (byteRows (lays l)).take n = byteRows ((lays l).take n) := byteRows_take n _
  have htl : ((lays l).take n).length = n := by rw [List.length_take]; omega
  have h29 := read29 4 true ((lays l).take n) (.ro true 1 (byteRows ((lays l).take n))) (.inr rfl) (by omega)
  have hfree : ((byteRows (lays l)).take n).length = n := by rw [List.length_take]; omega
  have c1' : ¬ ((lays l).length : Int) < (n : Int) := by omega
  have c3 : (n : Int) ≤ ((lays l).length : Int) := by omega
  rcases cut_read l 0 n 300000 (by omega) he' hn1 (by omega) with h10 | ⟨m, hm, hmm⟩
  · have hV2 : readV (readE 300000 0 ((lays l).take n)) = .nilS := by simp [readV, h10]
    rw [hV2, h10, ← htk] at h29
    generalize l.map fr = R at *
    generalize byteRows (lays l) = B at *
    simp -implicitDefEqProofs [a12, c12, q25, hL, q26, hX, q28, hr, hlen, hn1, c0, c3, c1', q29, h29]
  · rw [hmm, ← htk] at h29
    have hml : (l.take m).length = m := by rw [List.length_take]; omega
    have hmR : (l.map fr).take m = (l.take m).map fr := by simp
    by_cases hm0 : l.take m = []
    · have : m = 0 := by rw [hm0] at hml; simpa using hml.symm
      subst this
      have hV2 : readV (l.take 0, 0) = .nilS := by simp [readV]
      rw [hV2] at h29
      have h30 := same30 6 true false [] [] .nilS (.ro false 2 ([].map fr)) (.inl ⟨rfl, rfl⟩) (.inr rfl) (by simp) (by simp)
      generalize l.map fr = R at *
      generalize byteRows (lays l) = B at *
      simp at h30 h29
      simp -implicitDefEqProofs [a12, c12, q25, hL, q26, hX, q28, hr, hlen, hn1, c0, c3, c1', q29, h29, q30, h30]
    · have hV2 : readV (l.take m, 0) = .fr 2 ((l.take m).map fr) := by simp only [readV, hm0]; simp
      rw [hV2] at h29
      have h30 := same30 6 true false (l.take m) (l.take m) (.ro true 2 ((l.take m).map fr)) (.ro false 2 ((l.take m).map fr)) (.inr rfl) (.inr rfl) (by omega) (by omega)
      have hml2 : ((l.take m).map fr).length = m := by simp; omega
      have hmt : ((l.take m).map fr).take m = (l.take m).map fr := List.take_of_length_le (by omega)
      have hm3 : (m : Int) ≤ (l.length : Int) := by omega
      generalize (l.take m).map fr = S at *
      generalize l.map fr = R at *
      generalize byteRows (lays l) = B at *
      simp at h30 h29
      simp -implicitDefEqProofs [a12, c12, q25, hL, q26, hX, q28, hr, hlen, hn1, c0, c3, c1', q29, h29, q30, h30, hml2, hmt, hfl, hmR, hm, hm3]
theorem ref12 : Refines Go.Proofs.Try.prog 12 (E 8 12) := ref 8 12 (q12 7)
end Go.Abs.Try
