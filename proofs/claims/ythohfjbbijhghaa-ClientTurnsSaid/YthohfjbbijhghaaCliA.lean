/- Part 1 of Cli: what our evaluation of a function's code says, the machine's run does; no condition of its own. -/
import Derived.Test.YthohfjbbijhghaaAbsB
import Derived.Test.YthohfjbbijhghaaProg
set_option linter.unusedVariables false
set_option linter.unusedSimpArgs false
set_option linter.unusedSectionVars false
namespace Go.Abs.Try
open Go Go.Abs
def z23 : List AV := [(.int .i64 0), (.int .i64 0), (.int .i64 0), (.int .i64 0), (.int .i64 0), (.bool false), (.str ⟨#[]⟩)]
def z33 : List AV := [(.int .i64 0), (.int .i64 0)]
def z45 : List AV := List.replicate 9 (.int .i64 0) ++ [.nilS, (.int .i64 0), (.int .i64 0), (.int .i64 0), (.int .i64 0)] ++ List.replicate 32 (.int .u8 0) ++ [(.int .i64 0), (.int .i64 0), (.int .i64 0)] ++ List.replicate 32 (.int .u8 0) ++ [(.int .i64 0), (.int .i64 0)] ++ List.replicate 32 (.int .u8 0) ++ [.nilS, (.int .i64 0), (.str ⟨#[]⟩), (.int .i64 0), (.bool false)]
def z60 : List AV := [(.int .i64 0), (.int .i64 0), (.int .i64 0), (.int .i64 0), (.int .i64 0), .nilS, .nilS, (.int .i64 0), (.int .i64 0), (.int .i64 0), .nilS, .nilS, (.int .i64 0), (.int .i64 0), (.int .i64 0), (.int .i64 0)] ++ List.replicate 32 (.int .u8 0) ++ [.nilS, .nilS]
def z62 : List AV := [(.int .i64 0), (.int .i64 0), (.int .i64 0), (.str ⟨#[]⟩), (.int .i64 0), (.int .i64 0)]
def z67 : List AV := [(.int .i64 0), (.int .i64 0), (.int .i64 0), (.int .i64 0)]
def z72 : List AV := [(.int .i64 0), (.int .i64 0), (.int .i64 0), (.int .i64 0), (.int .i64 0), (.bool false), (.str ⟨#[]⟩)]
def z85 : List AV := [(.int .i64 0), (.int .i64 0), (.int .i64 0), (.int .i64 0), (.int .i64 0), (.int .i64 0), (.int .i64 0), (.str ⟨#[]⟩), (.int .i64 0), (.int .i64 0), (.int .i64 0)] ++ List.replicate 32 (.int .u8 0) ++ [(.int .i64 0), (.int .i64 0)] ++ List.replicate 32 (.int .u8 0) ++ [(.int .i64 0), (.int .i64 0), (.int .i64 0), (.int .i64 0)] ++ List.replicate 32 (.int .u8 0) ++ [.nilS, (.int .i64 0), (.int .i64 0), (.int .i64 0), (.int .i64 0)] ++ List.replicate 32 (.int .u8 0)

/-- estreat/estreatlaw19.ClientBegins: parameters int int api.Client -/
def c3 : AC :=
  (.seq (.reg false [
    { dst := some 5, op := .box 5 (.t 2) },
    { dst := some 6, op := .mov (.c (.bool false)) }])
  ((.seq ((.seq (.reg false [
    { dst := some 12, op := .fad 6 (.t 5) },
    { dst := some 13, op := .load none (.t 12) },
    { dst := some 14, op := .lenS (.t 13) },
    { dst := some 15, op := .bin .gtr (.t 14) (.c (.int .i64 5000)) }])
  (.cond (.t 15) ((.seq (.reg false [
    { dst := some 6, op := .mov (.c (.bool true)) }])
  (.ret))) (.skip))))
  (.keep [0, 1, 5] [5] ((.seq (.reg false [
    { dst := some 17, op := .mov (.t 0) },
    { dst := some 18, op := .mov (.t 1) },
    { dst := some 19, op := .call 20000 8 [(.t 17), (.t 18)] },
    { dst := some 16, op := .mov (.t 19) },
    { dst := some 20, op := .ext 0 (.t 16) },
    { dst := some 21, op := .ext 1 (.t 16) },
    { dst := some 7, op := .alloc 7 z23 },
    { dst := none, op := .store 7 (.t 7) (.t 20) },
    { dst := some 8, op := .mov (.t 21) }])
  (.keep [0, 1, 5, 7, 8] [5, 7] ((.seq (.reg false [
    { dst := some 23, op := .mov (.t 0) },
    { dst := some 24, op := .mov (.t 1) },
    { dst := some 25, op := .call 26000 9 [(.t 23), (.t 24)] },
    { dst := some 22, op := .mov (.t 25) },
    { dst := some 26, op := .ext 0 (.t 22) },
    { dst := some 27, op := .ext 1 (.t 22) },
    { dst := some 9, op := .alloc 9 z23 },
    { dst := none, op := .store 7 (.t 9) (.t 26) },
    { dst := some 10, op := .mov (.t 27) }])
  (.keep [5, 7, 8, 9, 10] [5, 7, 9] ((.seq (.reg false [
    { dst := some 28, op := .load (some 7) (.t 5) },
    { dst := some 29, op := .call 30000 10 [(.t 28)] },
    { dst := some 11, op := .mov (.t 29) }])
  ((.seq (.reg false [
    { dst := some 30, op := .call 31000 11 [] },
    { dst := some 31, op := .mov (.t 30) },
    { dst := some 32, op := .load (some 7) (.t 7), guard := some (31, true) },
    { dst := some 33, op := .load (some 7) (.t 9), guard := some (31, true) },
    { dst := some 34, op := .eqa false [0, 0, 0, 0, 0, 1, 2] (.t 32) (.t 33), guard := some (31, true) },
    { dst := some 35, op := .pick (.t 31) (.t 34) (.c (.bool false)) },
    { dst := some 36, op := .mov (.t 35) },
    { dst := some 37, op := .mov (.t 8), guard := some (36, true) },
    { dst := some 38, op := .mov (.t 10), guard := some (36, true) },
    { dst := some 39, op := .bin .eql (.t 37) (.t 38), guard := some (36, true) },
    { dst := some 40, op := .pick (.t 36) (.t 39) (.c (.bool false)) },
    { dst := some 41, op := .mov (.t 40) },
    { dst := some 42, op := .mov (.t 11), guard := some (41, true) },
    { dst := some 43, op := .bin .eql (.t 42) (.c (.int .i64 0)), guard := some (41, true) },
    { dst := some 44, op := .load (some 7) (.t 5), guard := some (41, true) },
    { dst := some 45, op := .call 46000 12 [(.t 44)], guard := some (41, true) },
    { dst := some 46, op := .eqb false (.t 43) (.t 45), guard := some (41, true) },
    { dst := some 47, op := .pick (.t 41) (.t 46) (.c (.bool false)) },
    { dst := some 48, op := .mov (.t 47) },
    { dst := some 49, op := .mov (.t 11), guard := some (48, true) },
    { dst := some 50, op := .bin .eql (.t 49) (.c (.int .i64 0)), guard := some (48, true) },
    { dst := some 51, op := .mov (.t 50), guard := some (48, true) },
    { dst := some 52, op := .mov (.t 11), guard := some (51, false) },
    { dst := some 53, op := .bin .eql (.t 52) (.c (.int .i64 180)), guard := some (51, false) },
    { dst := some 54, op := .pick (.t 51) (.c (.bool true)) (.t 53), guard := some (48, true) },
    { dst := some 55, op := .pick (.t 48) (.t 54) (.c (.bool false)) },
    { dst := some 6, op := .mov (.t 55) }])
  (.ret)))))))))))))))
/-- with its results -/
def a3 : AFun := ⟨c3, [(6, none)], 56⟩

/-- estreat/estreatlaw19.ClientSubmits: parameters api.Client int string -/
def c4 : AC :=
  (.seq (.reg false [
    { dst := some 3, op := .box 3 (.t 0) },
    { dst := some 6, op := .mov (.c (.bool false)) }])
  ((.seq ((.seq (.reg false [
    { dst := some 19, op := .fad 6 (.t 3) },
    { dst := some 20, op := .load none (.t 19) },
    { dst := some 21, op := .lenS (.t 20) },
    { dst := some 22, op := .bin .gtr (.t 21) (.c (.int .i64 5000)) },
    { dst := some 23, op := .mov (.t 22) },
    { dst := some 24, op := .mov (.t 2), guard := some (23, false) },
    { dst := some 25, op := .lenS (.t 24), guard := some (23, false) },
    { dst := some 26, op := .bin .gtr (.t 25) (.c (.int .i64 5000)), guard := some (23, false) },
    { dst := some 27, op := .pick (.t 23) (.c (.bool true)) (.t 26) }])
  (.cond (.t 27) ((.seq (.reg false [
    { dst := some 6, op := .mov (.c (.bool true)) }])
  (.ret))) (.skip))))
  (.keep [1, 2, 3] [3] ((.seq (.reg false [
    { dst := some 29, op := .load (some 7) (.t 3) },
    { dst := some 30, op := .mov (.t 1) },
    { dst := some 31, op := .mov (.t 2) },
    { dst := some 32, op := .call 33000 13 [(.t 29), (.t 30), (.t 31)] },
    { dst := some 28, op := .mov (.t 32) },
    { dst := some 33, op := .ext 0 (.t 28) },
    { dst := some 34, op := .ext 1 (.t 28) },
    { dst := some 35, op := .ext 2 (.t 28) },
    { dst := some 7, op := .alloc 7 z23 },
    { dst := some 8, op := .alloc 8 z45 },
    { dst := none, op := .store 7 (.t 7) (.t 33) },
    { dst := none, op := .store 120 (.t 8) (.t 34) },
    { dst := some 9, op := .mov (.t 35) }])
  (.keep [1, 2, 3, 7, 8, 9] [3, 7, 8, 33209, 33315] ((.seq (.reg false [
    { dst := some 37, op := .load (some 7) (.t 3) },
    { dst := some 38, op := .mov (.t 1) },
    { dst := some 39, op := .mov (.t 2) },
    { dst := some 40, op := .call 41000 14 [(.t 37), (.t 38), (.t 39)] },
    { dst := some 36, op := .mov (.t 40) },
    { dst := some 41, op := .ext 0 (.t 36) },
    { dst := some 42, op := .ext 1 (.t 36) },
    { dst := some 43, op := .ext 2 (.t 36) },
    { dst := some 10, op := .alloc 10 z23 },
    { dst := some 11, op := .alloc 11 z45 },
    { dst := none, op := .store 7 (.t 10) (.t 41) },
    { dst := none, op := .store 120 (.t 11) (.t 42) },
    { dst := some 12, op := .mov (.t 43) }])
  (.keep [3, 7, 8, 9, 10, 11, 12] [3, 7, 8, 10, 11, 33209, 33315, 41209, 41315] ((.seq (.reg false [
    { dst := some 45, op := .load (some 7) (.t 3) },
    { dst := some 46, op := .call 47000 15 [(.t 45)] },
    { dst := some 44, op := .mov (.t 46) },
    { dst := some 47, op := .ext 0 (.t 44) },
    { dst := some 48, op := .ext 1 (.t 44) },
    { dst := some 49, op := .ext 2 (.t 44) },
    { dst := some 13, op := .alloc 13 z23 },
    { dst := some 14, op := .alloc 14 z45 },
    { dst := none, op := .store 7 (.t 13) (.t 47) },
    { dst := none, op := .store 120 (.t 14) (.t 48) },
    { dst := some 15, op := .mov (.t 49) }])
  (.keep [3, 7, 8, 9, 10, 11, 12, 13, 14, 15] [3, 7, 8, 10, 11, 13, 14, 33209, 33315, 41209, 41315, 47209, 47315] ((.seq (.reg false [
    { dst := some 51, op := .load (some 7) (.t 3) },
    { dst := some 52, op := .call 53000 16 [(.t 51)] },
    { dst := some 50, op := .mov (.t 52) },
    { dst := some 53, op := .ext 0 (.t 50) },
    { dst := some 54, op := .ext 1 (.t 50) },
    { dst := some 55, op := .ext 2 (.t 50) },
    { dst := some 16, op := .alloc 16 z23 },
    { dst := some 17, op := .alloc 17 z45 },
    { dst := none, op := .store 7 (.t 16) (.t 53) },
    { dst := none, op := .store 120 (.t 17) (.t 54) },
    { dst := some 18, op := .mov (.t 55) }])
  (.keep [7, 8, 9, 10, 11, 12, 13, 14, 15, 16, 17, 18] [7, 8, 10, 11, 13, 14, 16, 17, 33209, 33315, 41209, 41315, 47209, 47315, 53209, 53315] ((.seq (.reg false [
    { dst := some 56, op := .call 57000 11 [] },
    { dst := some 57, op := .mov (.t 56) },
    { dst := some 58, op := .load (some 7) (.t 7), guard := some (57, true) },
    { dst := some 59, op := .load (some 7) (.t 10), guard := some (57, true) },
    { dst := some 60, op := .eqa false [0, 0, 0, 0, 0, 1, 2] (.t 58) (.t 59), guard := some (57, true) },
    { dst := some 61, op := .pick (.t 57) (.t 60) (.c (.bool false)) },
    { dst := some 62, op := .mov (.t 61) },
    { dst := some 63, op := .load (some 120) (.t 8), guard := some (62, true) },
    { dst := some 64, op := .load (some 120) (.t 11), guard := some (62, true) },
    { dst := some 65, op := .call 66000 17 [(.t 63), (.t 64)], guard := some (62, true) },
    { dst := some 66, op := .pick (.t 62) (.t 65) (.c (.bool false)) },
    { dst := some 67, op := .mov (.t 66) },
    { dst := some 68, op := .mov (.t 9), guard := some (67, true) },
    { dst := some 69, op := .mov (.t 12), guard := some (67, true) },
    { dst := some 70, op := .bin .eql (.t 68) (.t 69), guard := some (67, true) },
    { dst := some 71, op := .pick (.t 67) (.t 70) (.c (.bool false)) },
    { dst := some 72, op := .mov (.t 71) },
    { dst := some 73, op := .load (some 7) (.t 13), guard := some (72, true) },
    { dst := some 74, op := .load (some 7) (.t 16), guard := some (72, true) },
    { dst := some 75, op := .eqa false [0, 0, 0, 0, 0, 1, 2] (.t 73) (.t 74), guard := some (72, true) },
    { dst := some 76, op := .pick (.t 72) (.t 75) (.c (.bool false)) },
    { dst := some 77, op := .mov (.t 76) },
    { dst := some 78, op := .load (some 120) (.t 14), guard := some (77, true) },
    { dst := some 79, op := .load (some 120) (.t 17), guard := some (77, true) },
    { dst := some 80, op := .call 81000 17 [(.t 78), (.t 79)], guard := some (77, true) },
    { dst := some 81, op := .pick (.t 77) (.t 80) (.c (.bool false)) },
    { dst := some 82, op := .mov (.t 81) },
    { dst := some 83, op := .mov (.t 15), guard := some (82, true) },
    { dst := some 84, op := .mov (.t 18), guard := some (82, true) },
    { dst := some 85, op := .bin .eql (.t 83) (.t 84), guard := some (82, true) },
    { dst := some 86, op := .pick (.t 82) (.t 85) (.c (.bool false)) },
    { dst := some 6, op := .mov (.t 86) }])
  (.ret)))))))))))))))))))
/-- with its results -/
def a4 : AFun := ⟨c4, [(6, none)], 87⟩

/-- estreat/estreatlaw19.ClientHears: parameters api.Client api.Message -/
def c5 : AC :=
  (.seq (.reg false [
    { dst := some 2, op := .box 2 (.t 0) },
    { dst := some 3, op := .box 3 (.t 1) },
    { dst := some 4, op := .mov (.c (.bool false)) }])
  ((.seq ((.seq (.reg false [
    { dst := some 13, op := .fad 6 (.t 2) },
    { dst := some 14, op := .load none (.t 13) },
    { dst := some 15, op := .lenS (.t 14) },
    { dst := some 16, op := .bin .gtr (.t 15) (.c (.int .i64 5000)) },
    { dst := some 17, op := .mov (.t 16) },
    { dst := some 18, op := .build z60 [], guard := some (17, false) },
    { dst := some 19, op := .load (some 120) (.t 3), guard := some (17, false) },
    { dst := some 20, op := .call 21000 18 [(.t 18), (.t 19)], guard := some (17, false) },
    { dst := some 21, op := .pick (.t 17) (.c (.bool true)) (.t 20) }])
  (.cond (.t 21) ((.seq (.reg false [
    { dst := some 4, op := .mov (.c (.bool true)) }])
  (.ret))) (.skip))))
  (.keep [2, 3] [2, 3, 100209, 100315] ((.seq (.reg false [
    { dst := some 23, op := .load (some 7) (.t 2) },
    { dst := some 24, op := .load (some 120) (.t 3) },
    { dst := some 25, op := .call 26000 19 [(.t 23), (.t 24)] },
    { dst := some 22, op := .mov (.t 25) },
    { dst := some 26, op := .ext 0 (.t 22) },
    { dst := some 27, op := .ext 1 (.t 22) },
    { dst := some 28, op := .ext 2 (.t 22) },
    { dst := some 29, op := .ext 3 (.t 22) },
    { dst := some 5, op := .alloc 5 z23 },
    { dst := some 6, op := .alloc 6 z62 },
    { dst := none, op := .store 7 (.t 5) (.t 26) },
    { dst := none, op := .store 6 (.t 6) (.t 27) },
    { dst := some 7, op := .mov (.t 28) },
    { dst := some 8, op := .mov (.t 29) }])
  (.keep [2, 3, 5, 6, 7, 8] [2, 3, 5, 6, 100209, 100315] ((.seq (.reg false [
    { dst := some 31, op := .load (some 7) (.t 2) },
    { dst := some 32, op := .load (some 120) (.t 3) },
    { dst := some 33, op := .call 34000 20 [(.t 31), (.t 32)] },
    { dst := some 30, op := .mov (.t 33) },
    { dst := some 34, op := .ext 0 (.t 30) },
    { dst := some 35, op := .ext 1 (.t 30) },
    { dst := some 36, op := .ext 2 (.t 30) },
    { dst := some 37, op := .ext 3 (.t 30) },
    { dst := some 9, op := .alloc 9 z23 },
    { dst := some 10, op := .alloc 10 z62 },
    { dst := none, op := .store 7 (.t 9) (.t 34) },
    { dst := none, op := .store 6 (.t 10) (.t 35) },
    { dst := some 11, op := .mov (.t 36) },
    { dst := some 12, op := .mov (.t 37) }])
  (.keep [5, 6, 7, 8, 9, 10, 11, 12] [5, 6, 9, 10] ((.seq (.reg false [
    { dst := some 38, op := .call 39000 11 [] },
    { dst := some 39, op := .mov (.t 38) },
    { dst := some 40, op := .load (some 7) (.t 5), guard := some (39, true) },
    { dst := some 41, op := .load (some 7) (.t 9), guard := some (39, true) },
    { dst := some 42, op := .eqa false [0, 0, 0, 0, 0, 1, 2] (.t 40) (.t 41), guard := some (39, true) },
    { dst := some 43, op := .pick (.t 39) (.t 42) (.c (.bool false)) },
    { dst := some 44, op := .mov (.t 43) },
    { dst := some 45, op := .load (some 6) (.t 6), guard := some (44, true) },
    { dst := some 46, op := .load (some 6) (.t 10), guard := some (44, true) },
    { dst := some 47, op := .eqa false [0, 0, 0, 2, 0, 0] (.t 45) (.t 46), guard := some (44, true) },
    { dst := some 48, op := .pick (.t 44) (.t 47) (.c (.bool false)) },
    { dst := some 49, op := .mov (.t 48) },
    { dst := some 50, op := .mov (.t 7), guard := some (49, true) },
    { dst := some 51, op := .mov (.t 11), guard := some (49, true) },
    { dst := some 52, op := .eqb false (.t 50) (.t 51), guard := some (49, true) },
    { dst := some 53, op := .pick (.t 49) (.t 52) (.c (.bool false)) },
    { dst := some 54, op := .mov (.t 53) },
    { dst := some 55, op := .mov (.t 8), guard := some (54, true) },
    { dst := some 56, op := .mov (.t 12), guard := some (54, true) },
    { dst := some 57, op := .bin .eql (.t 55) (.t 56), guard := some (54, true) },
    { dst := some 58, op := .pick (.t 54) (.t 57) (.c (.bool false)) },
    { dst := some 4, op := .mov (.t 58) }])
  (.ret)))))))))))))
/-- with its results -/
def a5 : AFun := ⟨c5, [(4, none)], 59⟩

/-- estreat/estreatlaw19.ClientOnce: parameters api.Client int string api.Message -/
def c6 : AC :=
  (.seq (.reg false [
    { dst := some 4, op := .box 4 (.t 0) },
    { dst := some 7, op := .box 7 (.t 3) },
    { dst := some 8, op := .mov (.c (.bool false)) }])
  ((.seq ((.seq (.reg false [
    { dst := some 19, op := .fad 6 (.t 4) },
    { dst := some 20, op := .load none (.t 19) },
    { dst := some 21, op := .lenS (.t 20) },
    { dst := some 22, op := .bin .gtr (.t 21) (.c (.int .i64 5000)) },
    { dst := some 23, op := .mov (.t 22) },
    { dst := some 24, op := .mov (.t 2), guard := some (23, false) },
    { dst := some 25, op := .lenS (.t 24), guard := some (23, false) },
    { dst := some 26, op := .bin .gtr (.t 25) (.c (.int .i64 5000)), guard := some (23, false) },
    { dst := some 27, op := .pick (.t 23) (.c (.bool true)) (.t 26) },
    { dst := some 28, op := .mov (.t 27) },
    { dst := some 29, op := .build z60 [], guard := some (28, false) },
    { dst := some 30, op := .load (some 120) (.t 7), guard := some (28, false) },
    { dst := some 31, op := .call 32000 18 [(.t 29), (.t 30)], guard := some (28, false) },
    { dst := some 32, op := .pick (.t 28) (.c (.bool true)) (.t 31) },
    { dst := some 33, op := .mov (.t 32) },
    { dst := some 34, op := .load (some 7) (.t 4), guard := some (33, false) },
    { dst := some 35, op := .call 36000 10 [(.t 34)], guard := some (33, false) },
    { dst := some 36, op := .bin .neq (.t 35) (.c (.int .i64 0)), guard := some (33, false) },
    { dst := some 37, op := .pick (.t 33) (.c (.bool true)) (.t 36) }])
  (.cond (.t 37) ((.seq (.reg false [
    { dst := some 38, op := .call 39000 11 [] },
    { dst := some 8, op := .mov (.t 38) }])
  (.ret))) (.skip))))
  (.keep [1, 2, 4, 7] [4, 7, 100609, 100715] ((.seq (.reg false [
    { dst := some 40, op := .load (some 7) (.t 4) },
    { dst := some 41, op := .mov (.t 1) },
    { dst := some 42, op := .mov (.t 2) },
    { dst := some 43, op := .call 44000 13 [(.t 40), (.t 41), (.t 42)] },
    { dst := some 39, op := .mov (.t 43) },
    { dst := some 44, op := .ext 0 (.t 39) },
    { dst := some 45, op := .ext 1 (.t 39) },
    { dst := some 46, op := .ext 2 (.t 39) },
    { dst := some 9, op := .alloc 9 z23 },
    { dst := some 10, op := .alloc 10 z45 },
    { dst := none, op := .store 7 (.t 9) (.t 44) },
    { dst := none, op := .store 120 (.t 10) (.t 45) },
    { dst := some 11, op := .mov (.t 46) }])
  (.keep [1, 2, 4, 7, 9, 10, 11] [4, 7, 9, 10, 44209, 44315, 100609, 100715] ((.seq (.reg false [
    { dst := some 48, op := .load (some 7) (.t 4) },
    { dst := some 49, op := .call 50000 15 [(.t 48)] },
    { dst := some 47, op := .mov (.t 49) },
    { dst := some 50, op := .ext 0 (.t 47) },
    { dst := some 51, op := .ext 1 (.t 47) },
    { dst := some 52, op := .ext 2 (.t 47) },
    { dst := some 12, op := .alloc 12 z23 },
    { dst := some 13, op := .alloc 13 z45 },
    { dst := none, op := .store 7 (.t 12) (.t 50) },
    { dst := none, op := .store 120 (.t 13) (.t 51) },
    { dst := some 14, op := .mov (.t 52) }])
  (.keep [1, 2, 4, 7, 9, 10, 11, 12, 13, 14] [4, 7, 9, 10, 12, 13, 44209, 44315, 50209, 50315, 100609, 100715] ((.seq (.reg false [
    { dst := some 54, op := .load (some 7) (.t 4) },
    { dst := some 55, op := .load (some 120) (.t 7) },
    { dst := some 56, op := .call 57000 19 [(.t 54), (.t 55)] },
    { dst := some 53, op := .mov (.t 56) },
    { dst := some 57, op := .ext 0 (.t 53) },
    { dst := some 58, op := .ext 1 (.t 53) },
    { dst := some 59, op := .ext 2 (.t 53) },
    { dst := some 60, op := .ext 3 (.t 53) },
    { dst := some 15, op := .alloc 15 z23 },
    { dst := some 16, op := .alloc 16 z62 },
    { dst := none, op := .store 7 (.t 15) (.t 57) },
    { dst := none, op := .store 6 (.t 16) (.t 58) },
    { dst := some 17, op := .mov (.t 59) },
    { dst := some 18, op := .mov (.t 60) }])
  (.keep [1, 2, 4, 7, 9, 10, 11, 12, 13, 14, 15, 16, 17, 18] [4, 7, 9, 10, 12, 13, 15, 16, 44209, 44315, 50209, 50315, 100609, 100715] ((.seq ((.seq (.reg false [
    { dst := some 61, op := .mov (.t 11) },
    { dst := some 62, op := .bin .eql (.t 61) (.c (.int .i64 0)) },
    { dst := some 63, op := .mov (.t 62) },
    { dst := some 64, op := .load (some 7) (.t 9), guard := some (63, true) },
    { dst := some 65, op := .call 66000 10 [(.t 64)], guard := some (63, true) },
    { dst := some 66, op := .bin .neq (.t 65) (.c (.int .i64 0)), guard := some (63, true) },
    { dst := some 67, op := .mov (.t 66), guard := some (63, true) },
    { dst := some 68, op := .fad 5 (.t 4), guard := some (67, false) },
    { dst := some 69, op := .load none (.t 68), guard := some (67, false) },
    { dst := some 70, op := .pick (.t 67) (.c (.bool true)) (.t 69), guard := some (63, true) },
    { dst := some 71, op := .mov (.t 70), guard := some (63, true) },
    { dst := some 72, op := .fad 5 (.t 9), guard := some (71, false) },
    { dst := some 73, op := .load none (.t 72), guard := some (71, false) },
    { dst := some 74, op := .un .not (.t 73), guard := some (71, false) },
    { dst := some 75, op := .pick (.t 71) (.c (.bool true)) (.t 74), guard := some (63, true) },
    { dst := some 76, op := .mov (.t 75), guard := some (63, true) },
    { dst := some 77, op := .fad 4 (.t 9), guard := some (76, false) },
    { dst := some 78, op := .load none (.t 77), guard := some (76, false) },
    { dst := some 79, op := .fad 4 (.t 4), guard := some (76, false) },
    { dst := some 80, op := .load none (.t 79), guard := some (76, false) },
    { dst := some 81, op := .bin .leq (.t 78) (.t 80), guard := some (76, false) },
    { dst := some 82, op := .pick (.t 76) (.c (.bool true)) (.t 81), guard := some (63, true) },
    { dst := some 83, op := .mov (.t 82), guard := some (63, true) },
    { dst := some 84, op := .fad 116 (.t 10), guard := some (83, false) },
    { dst := some 85, op := .load none (.t 84), guard := some (83, false) },
    { dst := some 86, op := .fad 4 (.t 9), guard := some (83, false) },
    { dst := some 87, op := .load none (.t 86), guard := some (83, false) },
    { dst := some 88, op := .bin .neq (.t 85) (.t 87), guard := some (83, false) },
    { dst := some 89, op := .pick (.t 83) (.c (.bool true)) (.t 88), guard := some (63, true) },
    { dst := some 90, op := .mov (.t 89), guard := some (63, true) },
    { dst := some 91, op := .fad 117 (.t 10), guard := some (90, false) },
    { dst := some 92, op := .load none (.t 91), guard := some (90, false) },
    { dst := some 93, op := .mov (.t 2), guard := some (90, false) },
    { dst := some 94, op := .bin .neq (.t 92) (.t 93), guard := some (90, false) },
    { dst := some 95, op := .pick (.t 90) (.c (.bool true)) (.t 94), guard := some (63, true) },
    { dst := some 96, op := .mov (.t 95), guard := some (63, true) },
    { dst := some 97, op := .fad 3 (.t 10), guard := some (96, false) },
    { dst := some 98, op := .fad 0 (.t 97), guard := some (96, false) },
    { dst := some 99, op := .load none (.t 98), guard := some (96, false) },
    { dst := some 100, op := .mov (.t 1), guard := some (96, false) },
    { dst := some 101, op := .bin .neq (.t 99) (.t 100), guard := some (96, false) },
    { dst := some 102, op := .pick (.t 96) (.c (.bool true)) (.t 101), guard := some (63, true) },
    { dst := some 103, op := .pick (.t 63) (.t 102) (.c (.bool false)) }])
  (.cond (.t 103) ((.seq (.reg false [
    { dst := some 8, op := .mov (.c (.bool false)) }])
  (.ret))) (.skip))))
  (.keep [4, 7, 12, 13, 14, 15, 16, 17, 18] [4, 7, 12, 13, 15, 16, 50209, 50315, 100609, 100715] ((.seq ((.seq (.reg false [
    { dst := some 104, op := .mov (.t 14) },
    { dst := some 105, op := .bin .neq (.t 104) (.c (.int .i64 0)) },
    { dst := some 106, op := .mov (.t 105) },
    { dst := some 107, op := .load (some 7) (.t 12), guard := some (106, false) },
    { dst := some 108, op := .call 109000 10 [(.t 107)], guard := some (106, false) },
    { dst := some 109, op := .bin .neq (.t 108) (.c (.int .i64 0)), guard := some (106, false) },
    { dst := some 110, op := .pick (.t 106) (.c (.bool true)) (.t 109) },
    { dst := some 111, op := .mov (.t 110) },
    { dst := some 112, op := .fad 4 (.t 12), guard := some (111, false) },
    { dst := some 113, op := .load none (.t 112), guard := some (111, false) },
    { dst := some 114, op := .fad 4 (.t 4), guard := some (111, false) },
    { dst := some 115, op := .load none (.t 114), guard := some (111, false) },
    { dst := some 116, op := .bin .neq (.t 113) (.t 115), guard := some (111, false) },
    { dst := some 117, op := .pick (.t 111) (.c (.bool true)) (.t 116) },
    { dst := some 118, op := .mov (.t 117) },
    { dst := some 119, op := .fad 5 (.t 12), guard := some (118, false) },
    { dst := some 120, op := .load none (.t 119), guard := some (118, false) },
    { dst := some 121, op := .fad 5 (.t 4), guard := some (118, false) },
    { dst := some 122, op := .load none (.t 121), guard := some (118, false) },
    { dst := some 123, op := .eqb true (.t 120) (.t 122), guard := some (118, false) },
    { dst := some 124, op := .pick (.t 118) (.c (.bool true)) (.t 123) },
    { dst := some 125, op := .mov (.t 124) },
    { dst := some 126, op := .fad 5 (.t 4), guard := some (125, false) },
    { dst := some 127, op := .load none (.t 126), guard := some (125, false) },
    { dst := some 128, op := .mov (.t 127), guard := some (125, false) },
    { dst := some 129, op := .fad 3 (.t 13), guard := some (128, true) },
    { dst := some 130, op := .fad 1 (.t 129), guard := some (128, true) },
    { dst := some 131, op := .load none (.t 130), guard := some (128, true) },
    { dst := some 132, op := .fad 3 (.t 4), guard := some (128, true) },
    { dst := some 133, op := .load none (.t 132), guard := some (128, true) },
    { dst := some 134, op := .bin .eql (.t 131) (.t 133), guard := some (128, true) },
    { dst := some 135, op := .mov (.t 134), guard := some (128, true) },
    { dst := some 136, op := .fad 116 (.t 13), guard := some (135, false) },
    { dst := some 137, op := .load none (.t 136), guard := some (135, false) },
    { dst := some 138, op := .fad 4 (.t 4), guard := some (135, false) },
    { dst := some 139, op := .load none (.t 138), guard := some (135, false) },
    { dst := some 140, op := .bin .neq (.t 137) (.t 139), guard := some (135, false) },
    { dst := some 141, op := .pick (.t 135) (.c (.bool true)) (.t 140), guard := some (128, true) },
    { dst := some 142, op := .mov (.t 141), guard := some (128, true) },
    { dst := some 143, op := .fad 117 (.t 13), guard := some (142, false) },
    { dst := some 144, op := .load none (.t 143), guard := some (142, false) },
    { dst := some 145, op := .fad 6 (.t 4), guard := some (142, false) },
    { dst := some 146, op := .load none (.t 145), guard := some (142, false) },
    { dst := some 147, op := .bin .neq (.t 144) (.t 146), guard := some (142, false) },
    { dst := some 148, op := .pick (.t 142) (.c (.bool true)) (.t 147), guard := some (128, true) },
    { dst := some 149, op := .pick (.t 128) (.t 148) (.c (.bool false)), guard := some (125, false) },
    { dst := some 150, op := .pick (.t 125) (.c (.bool true)) (.t 149) }])
  (.cond (.t 150) ((.seq (.reg false [
    { dst := some 8, op := .mov (.c (.bool false)) }])
  (.ret))) (.skip))))
  (.keep [4, 7, 15, 16, 17, 18] [4, 7, 15, 16, 100609, 100715] ((.seq ((.seq (.reg false [
    { dst := some 151, op := .mov (.t 18) },
    { dst := some 152, op := .bin .neq (.t 151) (.c (.int .i64 0)) },
    { dst := some 153, op := .mov (.t 152) },
    { dst := some 154, op := .load (some 7) (.t 15), guard := some (153, false) },
    { dst := some 155, op := .call 156000 10 [(.t 154)], guard := some (153, false) },
    { dst := some 156, op := .bin .neq (.t 155) (.c (.int .i64 0)), guard := some (153, false) },
    { dst := some 157, op := .pick (.t 153) (.c (.bool true)) (.t 156) },
    { dst := some 158, op := .mov (.t 157) },
    { dst := some 159, op := .fad 4 (.t 15), guard := some (158, false) },
    { dst := some 160, op := .load none (.t 159), guard := some (158, false) },
    { dst := some 161, op := .fad 4 (.t 4), guard := some (158, false) },
    { dst := some 162, op := .load none (.t 161), guard := some (158, false) },
    { dst := some 163, op := .bin .neq (.t 160) (.t 162), guard := some (158, false) },
    { dst := some 164, op := .pick (.t 158) (.c (.bool true)) (.t 163) },
    { dst := some 165, op := .mov (.t 164) },
    { dst := some 166, op := .mov (.t 17), guard := some (165, false) },
    { dst := some 167, op := .fad 5 (.t 4), guard := some (165, false) },
    { dst := some 168, op := .load none (.t 167), guard := some (165, false) },
    { dst := some 169, op := .mov (.t 168), guard := some (165, false) },
    { dst := some 170, op := .fad 5 (.t 15), guard := some (169, true) },
    { dst := some 171, op := .load none (.t 170), guard := some (169, true) },
    { dst := some 172, op := .un .not (.t 171), guard := some (169, true) },
    { dst := some 173, op := .pick (.t 169) (.t 172) (.c (.bool false)), guard := some (165, false) },
    { dst := some 174, op := .eqb true (.t 166) (.t 173), guard := some (165, false) },
    { dst := some 175, op := .pick (.t 165) (.c (.bool true)) (.t 174) },
    { dst := some 176, op := .mov (.t 175) },
    { dst := some 177, op := .mov (.t 17), guard := some (176, false) },
    { dst := some 178, op := .mov (.t 177), guard := some (176, false) },
    { dst := some 179, op := .fad 119 (.t 7), guard := some (178, true) },
    { dst := some 180, op := .load none (.t 179), guard := some (178, true) },
    { dst := some 181, op := .un .not (.t 180), guard := some (178, true) },
    { dst := some 182, op := .pick (.t 178) (.t 181) (.c (.bool false)), guard := some (176, false) },
    { dst := some 183, op := .pick (.t 176) (.c (.bool true)) (.t 182) }])
  (.cond (.t 183) ((.seq (.reg false [
    { dst := some 8, op := .mov (.c (.bool false)) }])
  (.ret))) (.skip))))
  (.keep [4, 16, 17] [4, 16] ((.seq (.reg false [
    { dst := some 184, op := .call 185000 11 [] },
    { dst := some 185, op := .mov (.t 184) },
    { dst := some 186, op := .mov (.t 17), guard := some (185, true) },
    { dst := some 187, op := .un .not (.t 186), guard := some (185, true) },
    { dst := some 188, op := .mov (.t 187), guard := some (185, true) },
    { dst := some 189, op := .fad 1 (.t 16), guard := some (188, false) },
    { dst := some 190, op := .load none (.t 189), guard := some (188, false) },
    { dst := some 191, op := .fad 4 (.t 4), guard := some (188, false) },
    { dst := some 192, op := .load none (.t 191), guard := some (188, false) },
    { dst := some 193, op := .bin .eql (.t 190) (.t 192), guard := some (188, false) },
    { dst := some 194, op := .mov (.t 193), guard := some (188, false) },
    { dst := some 195, op := .fad 3 (.t 16), guard := some (194, true) },
    { dst := some 196, op := .load none (.t 195), guard := some (194, true) },
    { dst := some 197, op := .fad 6 (.t 4), guard := some (194, true) },
    { dst := some 198, op := .load none (.t 197), guard := some (194, true) },
    { dst := some 199, op := .bin .eql (.t 196) (.t 198), guard := some (194, true) },
    { dst := some 200, op := .pick (.t 194) (.t 199) (.c (.bool false)), guard := some (188, false) },
    { dst := some 201, op := .mov (.t 200), guard := some (188, false) },
    { dst := some 202, op := .fad 2 (.t 16), guard := some (201, true) },
    { dst := some 203, op := .load none (.t 202), guard := some (201, true) },
    { dst := some 204, op := .fad 2 (.t 4), guard := some (201, true) },
    { dst := some 205, op := .load none (.t 204), guard := some (201, true) },
    { dst := some 206, op := .bin .eql (.t 203) (.t 205), guard := some (201, true) },
    { dst := some 207, op := .pick (.t 201) (.t 206) (.c (.bool false)), guard := some (188, false) },
    { dst := some 208, op := .mov (.t 207), guard := some (188, false) },
    { dst := some 209, op := .fad 0 (.t 16), guard := some (208, true) },
    { dst := some 210, op := .load none (.t 209), guard := some (208, true) },
    { dst := some 211, op := .fad 0 (.t 4), guard := some (208, true) },
    { dst := some 212, op := .load none (.t 211), guard := some (208, true) },
    { dst := some 213, op := .bin .eql (.t 210) (.t 212), guard := some (208, true) },
    { dst := some 214, op := .pick (.t 208) (.t 213) (.c (.bool false)), guard := some (188, false) },
    { dst := some 215, op := .pick (.t 188) (.c (.bool true)) (.t 214), guard := some (185, true) },
    { dst := some 216, op := .pick (.t 185) (.t 215) (.c (.bool false)) },
    { dst := some 8, op := .mov (.t 216) }])
  (.ret)))))))))))))))))))))))))
/-- with its results -/
def a6 : AFun := ⟨c6, [(8, none)], 217⟩

def b7_0 : AC :=
  (.seq ((.seq (.reg false [
    { dst := some 25, op := .mov (.t 5) },
    { dst := some 26, op := .bin .lss (.t 25) (.c (.int .i64 3)) }])
  (.cond (.t 26) (.skip) (.exit 0))))
  ((.seq (.block 1 ((.seq (.reg false [
    { dst := some 30, op := .load (some 7) (.t 4) },
    { dst := some 31, op := .call 32000 15 [(.t 30)] },
    { dst := some 29, op := .mov (.t 31) },
    { dst := some 32, op := .ext 0 (.t 29) },
    { dst := some 33, op := .ext 1 (.t 29) },
    { dst := some 34, op := .ext 2 (.t 29) },
    { dst := some 6, op := .alloc 6 z23 },
    { dst := some 7, op := .alloc 7 z45 },
    { dst := none, op := .store 7 (.t 6) (.t 32) },
    { dst := none, op := .store 120 (.t 7) (.t 33) },
    { dst := some 8, op := .mov (.t 34) }])
  (.keep [1, 2, 3, 4, 5, 6, 7, 8] [1, 3, 4, 6, 7, 32209, 32315] ((.seq ((.seq (.reg false [
    { dst := some 35, op := .mov (.t 8) },
    { dst := some 36, op := .bin .neq (.t 35) (.c (.int .i64 0)) },
    { dst := some 37, op := .mov (.t 36) },
    { dst := some 38, op := .fad 3 (.t 7), guard := some (37, false) },
    { dst := some 39, op := .fad 1 (.t 38), guard := some (37, false) },
    { dst := some 40, op := .load none (.t 39), guard := some (37, false) },
    { dst := some 41, op := .fad 3 (.t 6), guard := some (37, false) },
    { dst := some 42, op := .load none (.t 41), guard := some (37, false) },
    { dst := some 43, op := .bin .neq (.t 40) (.t 42), guard := some (37, false) },
    { dst := some 44, op := .pick (.t 37) (.c (.bool true)) (.t 43) },
    { dst := some 45, op := .mov (.t 44) },
    { dst := some 46, op := .fad 3 (.t 7), guard := some (45, false) },
    { dst := some 47, op := .fad 0 (.t 46), guard := some (45, false) },
    { dst := some 48, op := .load none (.t 47), guard := some (45, false) },
    { dst := some 49, op := .fad 2 (.t 1), guard := some (45, false) },
    { dst := some 50, op := .load none (.t 49), guard := some (45, false) },
    { dst := some 51, op := .bin .neq (.t 48) (.t 50), guard := some (45, false) },
    { dst := some 52, op := .pick (.t 45) (.c (.bool true)) (.t 51) },
    { dst := some 53, op := .mov (.t 52) },
    { dst := some 54, op := .fad 3 (.t 7), guard := some (53, false) },
    { dst := some 55, op := .fad 1 (.t 54), guard := some (53, false) },
    { dst := some 56, op := .load none (.t 55), guard := some (53, false) },
    { dst := some 57, op := .bin .lss (.t 56) (.c (.int .i64 1)), guard := some (53, false) },
    { dst := some 58, op := .pick (.t 53) (.c (.bool true)) (.t 57) },
    { dst := some 59, op := .mov (.t 58) },
    { dst := some 60, op := .fad 3 (.t 7), guard := some (59, false) },
    { dst := some 61, op := .fad 1 (.t 60), guard := some (59, false) },
    { dst := some 62, op := .load none (.t 61), guard := some (59, false) },
    { dst := some 63, op := .bin .gtr (.t 62) (.c (.int .i64 3)), guard := some (59, false) },
    { dst := some 64, op := .pick (.t 59) (.c (.bool true)) (.t 63) }])
  (.cond (.t 64) ((.seq (.reg false [
    { dst := some 2, op := .mov (.c (.bool false)) }])
  (.ret))) (.skip))))
  (.keep [1, 2, 3, 4, 5, 6, 7] [1, 3, 4, 6, 7, 32209, 32315] ((.seq (.reg false [
    { dst := some 65, op := .fad 3 (.t 7) },
    { dst := some 66, op := .fad 1 (.t 65) },
    { dst := some 67, op := .load none (.t 66) },
    { dst := some 68, op := .iada 4 1 (.t 3) (.t 67) },
    { dst := some 69, op := .load none (.t 68) },
    { dst := some 70, op := .bin .add (.t 69) (.c (.int .i64 1)) },
    { dst := some 71, op := .iada 4 1 (.t 3) (.t 67) },
    { dst := none, op := .store 1 (.t 71) (.t 70) }])
  (.keep [1, 2, 3, 4, 5, 6] [1, 3, 4, 6] (.reg false [
    { dst := some 72, op := .load (some 7) (.t 6) },
    { dst := none, op := .store 7 (.t 4) (.t 72) }])))))))))))
  (.keep [1, 2, 3, 4, 5] [1, 3, 4] (.reg false [
    { dst := some 27, op := .mov (.t 5) },
    { dst := some 28, op := .bin .add (.t 27) (.c (.int .i64 1)) },
    { dst := some 5, op := .mov (.t 28) }])))))
/-- estreat/estreatlaw19.ClientTurns: parameters api.Client -/
def c7 : AC :=
  (.seq (.reg false [
    { dst := some 1, op := .box 1 (.t 0) },
    { dst := some 2, op := .mov (.c (.bool false)) }])
  ((.seq ((.seq (.reg false [
    { dst := some 9, op := .fad 6 (.t 1) },
    { dst := some 10, op := .load none (.t 9) },
    { dst := some 11, op := .lenS (.t 10) },
    { dst := some 12, op := .bin .gtr (.t 11) (.c (.int .i64 5000)) },
    { dst := some 13, op := .mov (.t 12) },
    { dst := some 14, op := .load (some 7) (.t 1), guard := some (13, false) },
    { dst := some 15, op := .call 16000 10 [(.t 14)], guard := some (13, false) },
    { dst := some 16, op := .bin .neq (.t 15) (.c (.int .i64 0)), guard := some (13, false) },
    { dst := some 17, op := .pick (.t 13) (.c (.bool true)) (.t 16) },
    { dst := some 18, op := .mov (.t 17) },
    { dst := some 19, op := .fad 5 (.t 1), guard := some (18, false) },
    { dst := some 20, op := .load none (.t 19), guard := some (18, false) },
    { dst := some 21, op := .un .not (.t 20), guard := some (18, false) },
    { dst := some 22, op := .pick (.t 18) (.c (.bool true)) (.t 21) }])
  (.cond (.t 22) ((.seq (.reg false [
    { dst := some 23, op := .call 24000 11 [] },
    { dst := some 2, op := .mov (.t 23) }])
  (.ret))) (.skip))))
  (.keep [1] [1] ((.seq (.reg false [
    { dst := some 3, op := .alloc 3 z67 }])
  ((.seq (.reg false [
    { dst := some 24, op := .load (some 7) (.t 1) },
    { dst := some 4, op := .alloc 4 z23 },
    { dst := none, op := .store 7 (.t 4) (.t 24) }])
  ((.seq ((.seq (.reg false [
    { dst := some 5, op := .mov (.c (.int .i64 0)) }])
  (.block 0 (.loop [1, 2, 3, 4, 5] [1, 3, 4] b7_0))))
  (.keep [1, 3, 4] [1, 3, 4] ((.seq (.reg false [
    { dst := some 73, op := .call 74000 11 [] },
    { dst := some 74, op := .mov (.t 73) },
    { dst := some 75, op := .iada 4 1 (.t 3) (.c (.int .i64 1)), guard := some (74, true) },
    { dst := some 76, op := .load none (.t 75), guard := some (74, true) },
    { dst := some 77, op := .bin .eql (.t 76) (.c (.int .i64 1)), guard := some (74, true) },
    { dst := some 78, op := .pick (.t 74) (.t 77) (.c (.bool false)) },
    { dst := some 79, op := .mov (.t 78) },
    { dst := some 80, op := .iada 4 1 (.t 3) (.c (.int .i64 2)), guard := some (79, true) },
    { dst := some 81, op := .load none (.t 80), guard := some (79, true) },
    { dst := some 82, op := .bin .eql (.t 81) (.c (.int .i64 1)), guard := some (79, true) },
    { dst := some 83, op := .pick (.t 79) (.t 82) (.c (.bool false)) },
    { dst := some 84, op := .mov (.t 83) },
    { dst := some 85, op := .iada 4 1 (.t 3) (.c (.int .i64 3)), guard := some (84, true) },
    { dst := some 86, op := .load none (.t 85), guard := some (84, true) },
    { dst := some 87, op := .bin .eql (.t 86) (.c (.int .i64 1)), guard := some (84, true) },
    { dst := some 88, op := .pick (.t 84) (.t 87) (.c (.bool false)) },
    { dst := some 89, op := .mov (.t 88) },
    { dst := some 90, op := .load (some 7) (.t 4), guard := some (89, true) },
    { dst := some 91, op := .load (some 7) (.t 1), guard := some (89, true) },
    { dst := some 92, op := .eqa false [0, 0, 0, 0, 0, 1, 2] (.t 90) (.t 91), guard := some (89, true) },
    { dst := some 93, op := .pick (.t 89) (.t 92) (.c (.bool false)) },
    { dst := some 2, op := .mov (.t 93) }])
  (.ret))))))))))))))
/-- with its results -/
def a7 : AFun := ⟨c7, [(2, none)], 94⟩

/-- estreat/client.New: parameters int int -/
def c8 : AC :=
  (.seq (.reg false [
    { dst := some 4, op := .alloc 4 z23 },
    { dst := some 5, op := .mov (.c (.int .i64 0)) }])
  ((.seq (.reg false [
    { dst := some 8, op := .mov (.t 0) },
    { dst := some 9, op := .mov (.t 1) },
    { dst := some 10, op := .build z23 [(0, 1, (.t 8)), (1, 1, (.t 9)), (2, 1, (.c (.int .i64 1))), (3, 1, (.c (.int .i64 1)))] },
    { dst := some 6, op := .alloc 6 z23 },
    { dst := none, op := .store 7 (.t 6) (.t 10) }])
  (.keep [4, 6] [4, 6] ((.seq ((.seq (.reg false [
    { dst := some 11, op := .load (some 7) (.t 6) },
    { dst := some 12, op := .call 13000 10 [(.t 11)] },
    { dst := some 7, op := .mov (.t 12) }])
  ((.seq (.reg false [
    { dst := some 13, op := .mov (.t 7) },
    { dst := some 14, op := .bin .neq (.t 13) (.c (.int .i64 0)) }])
  (.cond (.t 14) ((.seq (.reg false [
    { dst := some 15, op := .build z23 [] },
    { dst := some 16, op := .mov (.t 7) },
    { dst := none, op := .store 7 (.t 4) (.t 15) },
    { dst := some 5, op := .mov (.t 16) }])
  (.ret))) (.skip))))))
  (.keep [4, 6] [4, 6] ((.seq (.reg false [
    { dst := some 17, op := .load (some 7) (.t 6) },
    { dst := none, op := .store 7 (.t 4) (.t 17) },
    { dst := some 5, op := .mov (.c (.int .i64 0)) }])
  (.ret))))))))))
/-- with its results -/
def a8 : AFun := ⟨c8, [(4, some (some 7)), (5, none)], 18⟩

/-- estreat/estreatref19.New: parameters int int -/
def c9 : AC :=
  (.seq (.reg false [
    { dst := some 4, op := .alloc 4 z23 },
    { dst := some 5, op := .mov (.c (.int .i64 0)) }])
  ((.seq (.reg false [
    { dst := some 7, op := .mov (.t 0) },
    { dst := some 8, op := .mov (.t 1) },
    { dst := some 9, op := .build z23 [(0, 1, (.t 7)), (1, 1, (.t 8)), (2, 1, (.c (.int .i64 1))), (3, 1, (.c (.int .i64 1)))] },
    { dst := some 6, op := .alloc 6 z23 },
    { dst := none, op := .store 7 (.t 6) (.t 9) }])
  (.keep [4, 6] [4, 6] ((.seq ((.seq (.reg false [
    { dst := some 10, op := .load (some 7) (.t 6) },
    { dst := some 11, op := .call 12000 12 [(.t 10)] },
    { dst := some 12, op := .un .not (.t 11) }])
  (.cond (.t 12) ((.seq (.reg false [
    { dst := some 13, op := .build z23 [] },
    { dst := none, op := .store 7 (.t 4) (.t 13) },
    { dst := some 5, op := .mov (.c (.int .i64 180)) }])
  (.ret))) (.skip))))
  (.keep [4, 6] [4, 6] ((.seq (.reg false [
    { dst := some 14, op := .load (some 7) (.t 6) },
    { dst := none, op := .store 7 (.t 4) (.t 14) },
    { dst := some 5, op := .mov (.c (.int .i64 0)) }])
  (.ret))))))))))
/-- with its results -/
def a9 : AFun := ⟨c9, [(4, some (some 7)), (5, none)], 15⟩

/-- estreat/client.Check: parameters api.Client -/
def c10 : AC :=
  (.seq (.reg false [
    { dst := some 1, op := .box 1 (.t 0) },
    { dst := some 2, op := .mov (.c (.int .i64 0)) }])
  ((.seq (.reg false [
    { dst := some 4, op := .fad 1 (.t 1) },
    { dst := some 5, op := .load none (.t 4) },
    { dst := some 6, op := .call 7000 21 [(.t 5), (.c (.int .i64 3)), (.c (.int .i64 5))] },
    { dst := some 7, op := .mov (.t 6) },
    { dst := some 8, op := .fad 0 (.t 1), guard := some (7, true) },
    { dst := some 9, op := .load none (.t 8), guard := some (7, true) },
    { dst := some 10, op := .call 11000 21 [(.t 9), (.c (.int .i64 1)), (.c (.int .i64 3))], guard := some (7, true) },
    { dst := some 11, op := .pick (.t 7) (.t 10) (.c (.bool false)) },
    { dst := some 12, op := .mov (.t 11) },
    { dst := some 13, op := .fad 2 (.t 1), guard := some (12, true) },
    { dst := some 14, op := .load none (.t 13), guard := some (12, true) },
    { dst := some 15, op := .fad 1 (.t 1), guard := some (12, true) },
    { dst := some 16, op := .load none (.t 15), guard := some (12, true) },
    { dst := some 17, op := .call 18000 21 [(.t 14), (.c (.int .i64 1)), (.t 16)], guard := some (12, true) },
    { dst := some 18, op := .pick (.t 12) (.t 17) (.c (.bool false)) },
    { dst := some 19, op := .mov (.t 18) },
    { dst := some 20, op := .fad 3 (.t 1), guard := some (19, true) },
    { dst := some 21, op := .load none (.t 20), guard := some (19, true) },
    { dst := some 22, op := .call 23000 21 [(.t 21), (.c (.int .i64 1)), (.c (.int .i64 3))], guard := some (19, true) },
    { dst := some 23, op := .pick (.t 19) (.t 22) (.c (.bool false)) },
    { dst := some 3, op := .mov (.t 23) }])
  (.keep [1, 3] [1] ((.seq (.reg false [
    { dst := some 24, op := .mov (.t 3) },
    { dst := some 25, op := .mov (.t 24) },
    { dst := some 26, op := .fad 4 (.t 1), guard := some (25, true) },
    { dst := some 27, op := .load none (.t 26), guard := some (25, true) },
    { dst := some 28, op := .call 29000 21 [(.t 27), (.c (.int .i64 0)), (.c (.int .i64 1000000))], guard := some (25, true) },
    { dst := some 29, op := .pick (.t 25) (.t 28) (.c (.bool false)) },
    { dst := some 30, op := .mov (.t 29) },
    { dst := some 31, op := .fad 6 (.t 1), guard := some (30, true) },
    { dst := some 32, op := .load none (.t 31), guard := some (30, true) },
    { dst := some 33, op := .lenS (.t 32), guard := some (30, true) },
    { dst := some 34, op := .bin .leq (.t 33) (.c (.int .i64 300)), guard := some (30, true) },
    { dst := some 35, op := .pick (.t 30) (.t 34) (.c (.bool false)) },
    { dst := some 3, op := .mov (.t 35) }])
  (.keep [1, 3] [1] ((.seq ((.seq (.reg false [
    { dst := some 36, op := .mov (.t 3) },
    { dst := some 37, op := .mov (.t 36) },
    { dst := some 38, op := .fad 5 (.t 1), guard := some (37, true) },
    { dst := some 39, op := .load none (.t 38), guard := some (37, true) },
    { dst := some 40, op := .mov (.t 39), guard := some (37, true) },
    { dst := some 41, op := .fad 4 (.t 1), guard := some (40, true) },
    { dst := some 42, op := .load none (.t 41), guard := some (40, true) },
    { dst := some 43, op := .bin .gtr (.t 42) (.c (.int .i64 0)), guard := some (40, true) },
    { dst := some 44, op := .pick (.t 40) (.t 43) (.c (.bool false)), guard := some (37, true) },
    { dst := some 45, op := .mov (.t 44), guard := some (37, true) },
    { dst := some 46, op := .fad 5 (.t 1), guard := some (45, false) },
    { dst := some 47, op := .load none (.t 46), guard := some (45, false) },
    { dst := some 48, op := .un .not (.t 47), guard := some (45, false) },
    { dst := some 49, op := .mov (.t 48), guard := some (45, false) },
    { dst := some 50, op := .fad 6 (.t 1), guard := some (49, true) },
    { dst := some 51, op := .load none (.t 50), guard := some (49, true) },
    { dst := some 52, op := .bin .eql (.t 51) (.c (.str ⟨#[]⟩)), guard := some (49, true) },
    { dst := some 53, op := .pick (.t 49) (.t 52) (.c (.bool false)), guard := some (45, false) },
    { dst := some 54, op := .pick (.t 45) (.c (.bool true)) (.t 53), guard := some (37, true) },
    { dst := some 55, op := .pick (.t 37) (.t 54) (.c (.bool false)) }])
  (.cond (.t 55) ((.seq (.reg false [
    { dst := some 2, op := .mov (.c (.int .i64 0)) }])
  (.ret))) (.skip))))
  (.keep [] [] ((.seq (.reg false [
    { dst := some 2, op := .mov (.c (.int .i64 180)) }])
  (.ret)))))))))))))
/-- with its results -/
def a10 : AFun := ⟨c10, [(2, none)], 56⟩

/-- estreat/estreatlaw19.calls: parameters  -/
def c11 : AC :=
  (.seq (.reg false [
    { dst := some 0, op := .mov (.c (.bool false)) }])
  ((.seq (.reg false [
    { dst := some 20, op := .call 21000 8 [(.c (.int .i64 1)), (.c (.int .i64 3))] },
    { dst := some 19, op := .mov (.t 20) },
    { dst := some 21, op := .ext 0 (.t 19) },
    { dst := some 22, op := .ext 1 (.t 19) },
    { dst := some 1, op := .alloc 1 z23 },
    { dst := none, op := .store 7 (.t 1) (.t 21) },
    { dst := some 2, op := .mov (.t 22) }])
  (.keep [1, 2] [1] ((.seq (.reg false [
    { dst := some 24, op := .call 25000 8 [(.c (.int .i64 4)), (.c (.int .i64 3))] },
    { dst := some 23, op := .mov (.t 24) },
    { dst := some 25, op := .ext 0 (.t 23) },
    { dst := some 26, op := .ext 1 (.t 23) },
    { dst := some 3, op := .alloc 3 z23 },
    { dst := none, op := .store 7 (.t 3) (.t 25) },
    { dst := some 4, op := .mov (.t 26) }])
  (.keep [1, 2, 4] [1] ((.seq (.reg false [
    { dst := some 28, op := .load (some 7) (.t 1) },
    { dst := some 29, op := .call 30000 13 [(.t 28), (.c (.int .i64 4)), (.c (.str ⟨#[97]⟩))] },
    { dst := some 27, op := .mov (.t 29) },
    { dst := some 30, op := .ext 0 (.t 27) },
    { dst := some 31, op := .ext 1 (.t 27) },
    { dst := some 32, op := .ext 2 (.t 27) },
    { dst := some 5, op := .alloc 5 z23 },
    { dst := some 6, op := .alloc 6 z45 },
    { dst := none, op := .store 7 (.t 5) (.t 30) },
    { dst := none, op := .store 120 (.t 6) (.t 31) },
    { dst := some 7, op := .mov (.t 32) }])
  (.keep [1, 2, 4, 7] [1] ((.seq (.reg false [
    { dst := some 34, op := .load (some 7) (.t 1) },
    { dst := some 35, op := .call 36000 13 [(.t 34), (.c (.int .i64 2)), (.c (.str ⟨#[97]⟩))] },
    { dst := some 33, op := .mov (.t 35) },
    { dst := some 36, op := .ext 0 (.t 33) },
    { dst := some 37, op := .ext 1 (.t 33) },
    { dst := some 38, op := .ext 2 (.t 33) },
    { dst := some 8, op := .alloc 8 z45 },
    { dst := none, op := .store 7 (.t 1) (.t 36) },
    { dst := none, op := .store 120 (.t 8) (.t 37) },
    { dst := some 9, op := .mov (.t 38) }])
  (.keep [1, 2, 4, 7, 8, 9] [1, 8, 36209, 36315] ((.seq (.reg false [
    { dst := some 40, op := .load (some 7) (.t 1) },
    { dst := some 41, op := .call 42000 13 [(.t 40), (.c (.int .i64 2)), (.c (.str ⟨#[98]⟩))] },
    { dst := some 39, op := .mov (.t 41) },
    { dst := some 42, op := .ext 0 (.t 39) },
    { dst := some 43, op := .ext 1 (.t 39) },
    { dst := some 44, op := .ext 2 (.t 39) },
    { dst := some 10, op := .alloc 10 z23 },
    { dst := some 11, op := .alloc 11 z45 },
    { dst := none, op := .store 7 (.t 10) (.t 42) },
    { dst := none, op := .store 120 (.t 11) (.t 43) },
    { dst := some 12, op := .mov (.t 44) }])
  (.keep [1, 2, 4, 7, 8, 9, 12] [1, 8, 36209, 36315] ((.seq (.reg false [
    { dst := some 46, op := .load (some 7) (.t 1) },
    { dst := some 47, op := .call 48000 15 [(.t 46)] },
    { dst := some 45, op := .mov (.t 47) },
    { dst := some 48, op := .ext 0 (.t 45) },
    { dst := some 49, op := .ext 1 (.t 45) },
    { dst := some 50, op := .ext 2 (.t 45) },
    { dst := some 13, op := .alloc 13 z45 },
    { dst := none, op := .store 7 (.t 1) (.t 48) },
    { dst := none, op := .store 120 (.t 13) (.t 49) },
    { dst := some 14, op := .mov (.t 50) }])
  (.keep [1, 2, 4, 7, 8, 9, 12, 13, 14] [1, 8, 13, 36209, 36315, 48209, 48315] ((.seq (.reg false [
    { dst := some 52, op := .load (some 7) (.t 1) },
    { dst := some 53, op := .build z33 [(0, 1, (.c (.int .i64 2))), (1, 1, (.c (.int .i64 3)))] },
    { dst := some 54, op := .build z33 [(1, 1, (.c (.int .i64 1)))] },
    { dst := some 55, op := .build z45 [(0, 1, (.c (.int .i64 2))), (1, 2, (.t 53)), (3, 2, (.t 54)), (116, 1, (.c (.int .i64 1))), (7, 1, (.c (.int .i64 7))), (119, 1, (.c (.bool true)))] },
    { dst := some 56, op := .call 57000 19 [(.t 52), (.t 55)] },
    { dst := some 51, op := .mov (.t 56) },
    { dst := some 57, op := .ext 0 (.t 51) },
    { dst := some 58, op := .ext 1 (.t 51) },
    { dst := some 59, op := .ext 2 (.t 51) },
    { dst := some 60, op := .ext 3 (.t 51) },
    { dst := some 15, op := .alloc 15 z62 },
    { dst := none, op := .store 7 (.t 1) (.t 57) },
    { dst := none, op := .store 6 (.t 15) (.t 58) },
    { dst := some 16, op := .mov (.t 59) },
    { dst := some 17, op := .mov (.t 60) }])
  (.keep [1, 2, 4, 7, 8, 9, 12, 13, 14, 15, 16, 17] [1, 8, 13, 15, 36209, 36315, 48209, 48315] ((.seq (.reg false [
    { dst := some 61, op := .mov (.t 2) },
    { dst := some 62, op := .bin .eql (.t 61) (.c (.int .i64 0)) },
    { dst := some 63, op := .mov (.t 62) },
    { dst := some 64, op := .mov (.t 4), guard := some (63, true) },
    { dst := some 65, op := .bin .eql (.t 64) (.c (.int .i64 180)), guard := some (63, true) },
    { dst := some 66, op := .pick (.t 63) (.t 65) (.c (.bool false)) },
    { dst := some 67, op := .mov (.t 66) },
    { dst := some 68, op := .mov (.t 7), guard := some (67, true) },
    { dst := some 69, op := .bin .eql (.t 68) (.c (.int .i64 180)), guard := some (67, true) },
    { dst := some 70, op := .pick (.t 67) (.t 69) (.c (.bool false)) },
    { dst := some 71, op := .mov (.t 70) },
    { dst := some 72, op := .mov (.t 9), guard := some (71, true) },
    { dst := some 73, op := .bin .eql (.t 72) (.c (.int .i64 0)), guard := some (71, true) },
    { dst := some 74, op := .pick (.t 71) (.t 73) (.c (.bool false)) },
    { dst := some 75, op := .mov (.t 74) },
    { dst := some 76, op := .fad 3 (.t 8), guard := some (75, true) },
    { dst := some 77, op := .load (some 2) (.t 76), guard := some (75, true) },
    { dst := some 78, op := .build z33 [(0, 1, (.c (.int .i64 2))), (1, 1, (.c (.int .i64 1)))], guard := some (75, true) },
    { dst := some 79, op := .eqa false [0, 0] (.t 77) (.t 78), guard := some (75, true) },
    { dst := some 80, op := .pick (.t 75) (.t 79) (.c (.bool false)) },
    { dst := some 81, op := .mov (.t 80) },
    { dst := some 82, op := .fad 116 (.t 8), guard := some (81, true) },
    { dst := some 83, op := .load none (.t 82), guard := some (81, true) },
    { dst := some 84, op := .bin .eql (.t 83) (.c (.int .i64 1)), guard := some (81, true) },
    { dst := some 85, op := .pick (.t 81) (.t 84) (.c (.bool false)) },
    { dst := some 86, op := .mov (.t 85) },
    { dst := some 87, op := .fad 117 (.t 8), guard := some (86, true) },
    { dst := some 88, op := .load none (.t 87), guard := some (86, true) },
    { dst := some 89, op := .bin .eql (.t 88) (.c (.str ⟨#[97]⟩)), guard := some (86, true) },
    { dst := some 90, op := .pick (.t 86) (.t 89) (.c (.bool false)) },
    { dst := some 91, op := .mov (.t 90) },
    { dst := some 92, op := .mov (.t 12), guard := some (91, true) },
    { dst := some 93, op := .bin .eql (.t 92) (.c (.int .i64 181)), guard := some (91, true) },
    { dst := some 94, op := .pick (.t 91) (.t 93) (.c (.bool false)) },
    { dst := some 95, op := .mov (.t 94) },
    { dst := some 96, op := .mov (.t 14), guard := some (95, true) },
    { dst := some 97, op := .bin .eql (.t 96) (.c (.int .i64 0)), guard := some (95, true) },
    { dst := some 98, op := .pick (.t 95) (.t 97) (.c (.bool false)) },
    { dst := some 99, op := .mov (.t 98) },
    { dst := some 100, op := .fad 3 (.t 13), guard := some (99, true) },
    { dst := some 101, op := .load (some 2) (.t 100), guard := some (99, true) },
    { dst := some 102, op := .build z33 [(0, 1, (.c (.int .i64 2))), (1, 1, (.c (.int .i64 2)))], guard := some (99, true) },
    { dst := some 103, op := .eqa false [0, 0] (.t 101) (.t 102), guard := some (99, true) },
    { dst := some 104, op := .pick (.t 99) (.t 103) (.c (.bool false)) },
    { dst := some 18, op := .mov (.t 104) }])
  (.keep [1, 15, 16, 17, 18] [1, 15] ((.seq (.reg false [
    { dst := some 105, op := .mov (.t 18) },
    { dst := some 106, op := .mov (.t 105) },
    { dst := some 107, op := .mov (.t 17), guard := some (106, true) },
    { dst := some 108, op := .bin .eql (.t 107) (.c (.int .i64 0)), guard := some (106, true) },
    { dst := some 109, op := .pick (.t 106) (.t 108) (.c (.bool false)) },
    { dst := some 110, op := .mov (.t 109) },
    { dst := some 111, op := .mov (.t 16), guard := some (110, true) },
    { dst := some 112, op := .pick (.t 110) (.t 111) (.c (.bool false)) },
    { dst := some 113, op := .mov (.t 112) },
    { dst := some 114, op := .fad 4 (.t 15), guard := some (113, true) },
    { dst := some 115, op := .load none (.t 114), guard := some (113, true) },
    { dst := some 116, op := .bin .eql (.t 115) (.c (.int .i64 7)), guard := some (113, true) },
    { dst := some 117, op := .pick (.t 113) (.t 116) (.c (.bool false)) },
    { dst := some 118, op := .mov (.t 117) },
    { dst := some 119, op := .fad 2 (.t 15), guard := some (118, true) },
    { dst := some 120, op := .load none (.t 119), guard := some (118, true) },
    { dst := some 121, op := .bin .eql (.t 120) (.c (.int .i64 2)), guard := some (118, true) },
    { dst := some 122, op := .pick (.t 118) (.t 121) (.c (.bool false)) },
    { dst := some 123, op := .mov (.t 122) },
    { dst := some 124, op := .fad 3 (.t 15), guard := some (123, true) },
    { dst := some 125, op := .load none (.t 124), guard := some (123, true) },
    { dst := some 126, op := .bin .eql (.t 125) (.c (.str ⟨#[97]⟩)), guard := some (123, true) },
    { dst := some 127, op := .pick (.t 123) (.t 126) (.c (.bool false)) },
    { dst := some 128, op := .mov (.t 127) },
    { dst := some 129, op := .fad 5 (.t 1), guard := some (128, true) },
    { dst := some 130, op := .load none (.t 129), guard := some (128, true) },
    { dst := some 131, op := .un .not (.t 130), guard := some (128, true) },
    { dst := some 132, op := .pick (.t 128) (.t 131) (.c (.bool false)) },
    { dst := some 133, op := .mov (.t 132) },
    { dst := some 134, op := .fad 3 (.t 1), guard := some (133, true) },
    { dst := some 135, op := .load none (.t 134), guard := some (133, true) },
    { dst := some 136, op := .bin .eql (.t 135) (.c (.int .i64 3)), guard := some (133, true) },
    { dst := some 137, op := .pick (.t 133) (.t 136) (.c (.bool false)) },
    { dst := some 138, op := .mov (.t 137) },
    { dst := some 139, op := .load (some 7) (.t 1), guard := some (138, true) },
    { dst := some 140, op := .call 141000 10 [(.t 139)], guard := some (138, true) },
    { dst := some 141, op := .bin .eql (.t 140) (.c (.int .i64 0)), guard := some (138, true) },
    { dst := some 142, op := .pick (.t 138) (.t 141) (.c (.bool false)) },
    { dst := some 0, op := .mov (.t 142) }])
  (.ret))))))))))))))))))))))))))))
/-- with its results -/
def a11 : AFun := ⟨c11, [(0, none)], 143⟩

/-- estreat/estreatref19.Right: parameters api.Client -/
def c12 : AC :=
  (.seq (.reg false [
    { dst := some 1, op := .box 1 (.t 0) },
    { dst := some 2, op := .mov (.c (.bool false)) }])
  ((.seq ((.seq (.reg false [
    { dst := some 3, op := .fad 1 (.t 1) },
    { dst := some 4, op := .load none (.t 3) },
    { dst := some 5, op := .call 6000 22 [(.t 4)] },
    { dst := some 6, op := .un .not (.t 5) },
    { dst := some 7, op := .mov (.t 6) },
    { dst := some 8, op := .fad 0 (.t 1), guard := some (7, false) },
    { dst := some 9, op := .load none (.t 8), guard := some (7, false) },
    { dst := some 10, op := .call 11000 23 [(.t 9), (.c (.int .i64 1)), (.c (.int .i64 3))], guard := some (7, false) },
    { dst := some 11, op := .un .not (.t 10), guard := some (7, false) },
    { dst := some 12, op := .pick (.t 7) (.c (.bool true)) (.t 11) },
    { dst := some 13, op := .mov (.t 12) },
    { dst := some 14, op := .fad 2 (.t 1), guard := some (13, false) },
    { dst := some 15, op := .load none (.t 14), guard := some (13, false) },
    { dst := some 16, op := .fad 1 (.t 1), guard := some (13, false) },
    { dst := some 17, op := .load none (.t 16), guard := some (13, false) },
    { dst := some 18, op := .call 19000 23 [(.t 15), (.c (.int .i64 1)), (.t 17)], guard := some (13, false) },
    { dst := some 19, op := .un .not (.t 18), guard := some (13, false) },
    { dst := some 20, op := .pick (.t 13) (.c (.bool true)) (.t 19) },
    { dst := some 21, op := .mov (.t 20) },
    { dst := some 22, op := .fad 3 (.t 1), guard := some (21, false) },
    { dst := some 23, op := .load none (.t 22), guard := some (21, false) },
    { dst := some 24, op := .call 25000 23 [(.t 23), (.c (.int .i64 1)), (.c (.int .i64 3))], guard := some (21, false) },
    { dst := some 25, op := .un .not (.t 24), guard := some (21, false) },
    { dst := some 26, op := .pick (.t 21) (.c (.bool true)) (.t 25) },
    { dst := some 27, op := .mov (.t 26) },
    { dst := some 28, op := .fad 4 (.t 1), guard := some (27, false) },
    { dst := some 29, op := .load none (.t 28), guard := some (27, false) },
    { dst := some 30, op := .call 31000 23 [(.t 29), (.c (.int .i64 0)), (.c (.int .i64 1000000))], guard := some (27, false) },
    { dst := some 31, op := .un .not (.t 30), guard := some (27, false) },
    { dst := some 32, op := .pick (.t 27) (.c (.bool true)) (.t 31) },
    { dst := some 33, op := .mov (.t 32) },
    { dst := some 34, op := .fad 6 (.t 1), guard := some (33, false) },
    { dst := some 35, op := .load none (.t 34), guard := some (33, false) },
    { dst := some 36, op := .lenS (.t 35), guard := some (33, false) },
    { dst := some 37, op := .bin .gtr (.t 36) (.c (.int .i64 300)), guard := some (33, false) },
    { dst := some 38, op := .pick (.t 33) (.c (.bool true)) (.t 37) }])
  (.cond (.t 38) ((.seq (.reg false [
    { dst := some 2, op := .mov (.c (.bool false)) }])
  (.ret))) (.skip))))
  (.keep [1] [1] ((.seq ((.seq (.reg false [
    { dst := some 39, op := .fad 5 (.t 1) },
    { dst := some 40, op := .load none (.t 39) }])
  (.cond (.t 40) ((.seq (.reg false [
    { dst := some 41, op := .fad 4 (.t 1) },
    { dst := some 42, op := .load none (.t 41) },
    { dst := some 43, op := .bin .geq (.t 42) (.c (.int .i64 1)) },
    { dst := some 2, op := .mov (.t 43) }])
  (.ret))) (.skip))))
  (.keep [1] [1] ((.seq (.reg false [
    { dst := some 44, op := .fad 6 (.t 1) },
    { dst := some 45, op := .load none (.t 44) },
    { dst := some 46, op := .bin .eql (.t 45) (.c (.str ⟨#[]⟩)) },
    { dst := some 2, op := .mov (.t 46) }])
  (.ret))))))))))
/-- with its results -/
def a12 : AFun := ⟨c12, [(2, none)], 47⟩

/-- estreat/client.Submit: parameters api.Client int string -/
def c13 : AC :=
  (.seq (.reg false [
    { dst := some 3, op := .box 3 (.t 0) },
    { dst := some 6, op := .alloc 6 z23 },
    { dst := some 7, op := .alloc 7 z45 },
    { dst := some 8, op := .mov (.c (.int .i64 0)) }])
  (.keep [1, 2, 3, 6, 7] [3, 6, 7, 88009, 88115] ((.seq (.reg false [
    { dst := some 11, op := .load (some 7) (.t 3) },
    { dst := some 12, op := .call 13000 10 [(.t 11)] },
    { dst := some 9, op := .mov (.t 12) }])
  ((.seq (.block 0 ((.seq (.reg false [
    { dst := some 14, op := .mov (.t 9) },
    { dst := some 15, op := .bin .eql (.t 14) (.c (.int .i64 0)) },
    { dst := some 16, op := .mov (.t 15) },
    { dst := some 17, op := .fad 5 (.t 3), guard := some (16, true) },
    { dst := some 18, op := .load none (.t 17), guard := some (16, true) },
    { dst := some 19, op := .pick (.t 16) (.t 18) (.c (.bool false)) },
    { dst := some 13, op := .mov (.t 19) }])
  (.cond (.t 13) (.reg false [
    { dst := some 9, op := .mov (.c (.int .i64 181)) }]) ((.seq (.reg false [
    { dst := some 21, op := .mov (.t 9) },
    { dst := some 22, op := .bin .eql (.t 21) (.c (.int .i64 0)) },
    { dst := some 23, op := .mov (.t 22) },
    { dst := some 24, op := .fad 4 (.t 3), guard := some (23, true) },
    { dst := some 25, op := .load none (.t 24), guard := some (23, true) },
    { dst := some 26, op := .bin .eql (.t 25) (.c (.int .i64 1000000)), guard := some (23, true) },
    { dst := some 27, op := .mov (.t 26), guard := some (23, true) },
    { dst := some 28, op := .mov (.t 1), guard := some (27, false) },
    { dst := some 29, op := .fad 1 (.t 3), guard := some (27, false) },
    { dst := some 30, op := .load none (.t 29), guard := some (27, false) },
    { dst := some 31, op := .call 32000 21 [(.t 28), (.c (.int .i64 1)), (.t 30)], guard := some (27, false) },
    { dst := some 32, op := .un .not (.t 31), guard := some (27, false) },
    { dst := some 33, op := .pick (.t 27) (.c (.bool true)) (.t 32), guard := some (23, true) },
    { dst := some 34, op := .mov (.t 33), guard := some (23, true) },
    { dst := some 35, op := .mov (.t 2), guard := some (34, false) },
    { dst := some 36, op := .lenS (.t 35), guard := some (34, false) },
    { dst := some 37, op := .bin .gtr (.t 36) (.c (.int .i64 300)), guard := some (34, false) },
    { dst := some 38, op := .pick (.t 34) (.c (.bool true)) (.t 37), guard := some (23, true) },
    { dst := some 39, op := .pick (.t 23) (.t 38) (.c (.bool false)) },
    { dst := some 20, op := .mov (.t 39) }])
  (.cond (.t 20) (.reg false [
    { dst := some 9, op := .mov (.c (.int .i64 180)) }]) (.skip))))))))
  (.keep [1, 2, 3, 6, 7, 9] [3, 6, 7, 88009, 88115] ((.seq ((.seq (.reg false [
    { dst := some 40, op := .mov (.t 9) },
    { dst := some 41, op := .bin .neq (.t 40) (.c (.int .i64 0)) }])
  (.cond (.t 41) ((.seq (.reg false [
    { dst := some 42, op := .build z23 [] },
    { dst := some 43, op := .build z45 [] },
    { dst := some 44, op := .mov (.t 9) },
    { dst := none, op := .store 7 (.t 6) (.t 42) },
    { dst := none, op := .store 120 (.t 7) (.t 43) },
    { dst := some 8, op := .mov (.t 44) }])
  (.ret))) (.skip))))
  (.keep [1, 2, 3, 6, 7] [3, 6, 7, 88009, 88115] ((.seq (.reg false [
    { dst := some 45, op := .load (some 7) (.t 3) },
    { dst := some 46, op := .build z72 [(0, 7, (.t 45))] },
    { dst := some 47, op := .box 47 (.t 46) },
    { dst := some 10, op := .mov (.t 47) }])
  (.keep [1, 2, 6, 7, 10] [6, 7, 47, 88009, 88115] ((.seq ((.seq (.reg false [
    { dst := some 48, op := .mov (.t 10) },
    { dst := some 49, op := .nilck (.t 48) },
    { dst := some 50, op := .fad 0 (.t 49) },
    { dst := some 51, op := .fad 2 (.t 50) },
    { dst := some 52, op := .load none (.t 51) },
    { dst := some 53, op := .mov (.t 1) },
    { dst := some 54, op := .bin .neq (.t 52) (.t 53) }])
  (.cond (.t 54) (.reg false [
    { dst := some 55, op := .mov (.t 10) },
    { dst := some 56, op := .mov (.t 10) },
    { dst := some 57, op := .mov (.t 1) },
    { dst := some 58, op := .nilck (.t 55) },
    { dst := some 59, op := .fad 0 (.t 58) },
    { dst := some 60, op := .fad 2 (.t 59) },
    { dst := none, op := .store 1 (.t 60) (.t 57) },
    { dst := some 61, op := .nilck (.t 56) },
    { dst := some 62, op := .fad 0 (.t 61) },
    { dst := some 63, op := .fad 3 (.t 62) },
    { dst := none, op := .store 1 (.t 63) (.c (.int .i64 1)) }]) (.skip))))
  (.keep [2, 6, 7, 10] [6, 7, 47, 88009, 88115] ((.seq (.reg false [
    { dst := some 64, op := .mov (.t 10) },
    { dst := some 65, op := .nilck (.t 64) },
    { dst := some 66, op := .fad 0 (.t 65) },
    { dst := some 67, op := .fad 4 (.t 66) },
    { dst := some 68, op := .load none (.t 67) },
    { dst := some 69, op := .bin .add (.t 68) (.c (.int .i64 1)) },
    { dst := some 70, op := .nilck (.t 64) },
    { dst := some 71, op := .fad 0 (.t 70) },
    { dst := some 72, op := .fad 4 (.t 71) },
    { dst := none, op := .store 1 (.t 72) (.t 69) }])
  (.keep [2, 6, 7, 10] [6, 7, 47, 88009, 88115] ((.seq (.reg false [
    { dst := some 73, op := .mov (.t 10) },
    { dst := some 74, op := .mov (.t 10) },
    { dst := some 75, op := .mov (.t 2) },
    { dst := some 76, op := .nilck (.t 73) },
    { dst := some 77, op := .fad 0 (.t 76) },
    { dst := some 78, op := .fad 5 (.t 77) },
    { dst := none, op := .store 1 (.t 78) (.c (.bool true)) },
    { dst := some 79, op := .nilck (.t 74) },
    { dst := some 80, op := .fad 0 (.t 79) },
    { dst := some 81, op := .fad 6 (.t 80) },
    { dst := none, op := .store 1 (.t 81) (.t 75) }])
  (.keep [6, 7, 10] [6, 7, 47, 88009, 88115] ((.seq (.reg true [
    { dst := some 82, op := .mov (.t 10), rs := [10], tn := [47] },
    { dst := some 83, op := .nilck (.t 82), rs := [82], tn := [47], an := [0] },
    { dst := some 84, op := .fad 0 (.t 83), rs := [83], tn := [47], an := [1] },
    { dst := some 85, op := .load (some 7) (.t 84), rs := [84], tn := [47], an := [2] },
    { dst := some 86, op := .mov (.t 10), rs := [10], tn := [47] },
    { dst := some 87, op := .call 88000 24 [(.t 86)], rs := [86], tn := [47, 88009, 88115], wn := [88009, 88115], an := [4] },
    { dst := none, op := .store 7 (.t 6) (.t 85), rs := [6, 85], tn := [6], wn := [6], an := [3] },
    { dst := none, op := .store 120 (.t 7) (.t 87), rs := [7, 87], tn := [7, 88009, 88115], wn := [7, 88009, 88115], an := [5] },
    { dst := some 8, op := .mov (.c (.int .i64 0)) }])
  (.ret)))))))))))))))))))))))))
/-- with its results -/
def a13 : AFun := ⟨c13, [(6, some (some 7)), (7, some (some 120)), (8, none)], 88⟩

/-- estreat/estreatref19.Submit: parameters api.Client int string -/
def c14 : AC :=
  (.seq (.reg false [
    { dst := some 3, op := .box 3 (.t 0) },
    { dst := some 6, op := .alloc 6 z23 },
    { dst := some 7, op := .alloc 7 z45 },
    { dst := some 8, op := .mov (.c (.int .i64 0)) }])
  (.keep [1, 2, 3, 6, 7] [3, 6, 7, 55009, 55115] ((.seq (.block 0 ((.seq (.reg false [
    { dst := some 10, op := .load (some 7) (.t 3) },
    { dst := some 11, op := .call 12000 12 [(.t 10)] },
    { dst := some 12, op := .un .not (.t 11) },
    { dst := some 9, op := .mov (.t 12) }])
  (.cond (.t 9) ((.seq (.reg false [
    { dst := some 13, op := .build z23 [] },
    { dst := some 14, op := .build z45 [] },
    { dst := none, op := .store 7 (.t 6) (.t 13) },
    { dst := none, op := .store 120 (.t 7) (.t 14) },
    { dst := some 8, op := .mov (.c (.int .i64 180)) }])
  (.ret))) ((.seq (.reg false [
    { dst := some 16, op := .fad 5 (.t 3) },
    { dst := some 17, op := .load none (.t 16) },
    { dst := some 15, op := .mov (.t 17) }])
  (.cond (.t 15) ((.seq (.reg false [
    { dst := some 18, op := .build z23 [] },
    { dst := some 19, op := .build z45 [] },
    { dst := none, op := .store 7 (.t 6) (.t 18) },
    { dst := none, op := .store 120 (.t 7) (.t 19) },
    { dst := some 8, op := .mov (.c (.int .i64 181)) }])
  (.ret))) ((.seq (.reg false [
    { dst := some 21, op := .fad 4 (.t 3) },
    { dst := some 22, op := .load none (.t 21) },
    { dst := some 23, op := .bin .geq (.t 22) (.c (.int .i64 1000000)) },
    { dst := some 24, op := .mov (.t 23) },
    { dst := some 25, op := .mov (.t 1), guard := some (24, false) },
    { dst := some 26, op := .fad 1 (.t 3), guard := some (24, false) },
    { dst := some 27, op := .load none (.t 26), guard := some (24, false) },
    { dst := some 28, op := .call 29000 23 [(.t 25), (.c (.int .i64 1)), (.t 27)], guard := some (24, false) },
    { dst := some 29, op := .un .not (.t 28), guard := some (24, false) },
    { dst := some 30, op := .pick (.t 24) (.c (.bool true)) (.t 29) },
    { dst := some 31, op := .mov (.t 30) },
    { dst := some 32, op := .mov (.t 2), guard := some (31, false) },
    { dst := some 33, op := .lenS (.t 32), guard := some (31, false) },
    { dst := some 34, op := .bin .gtr (.t 33) (.c (.int .i64 300)), guard := some (31, false) },
    { dst := some 35, op := .pick (.t 31) (.c (.bool true)) (.t 34) },
    { dst := some 20, op := .mov (.t 35) }])
  (.cond (.t 20) ((.seq (.reg false [
    { dst := some 36, op := .build z23 [] },
    { dst := some 37, op := .build z45 [] },
    { dst := none, op := .store 7 (.t 6) (.t 36) },
    { dst := none, op := .store 120 (.t 7) (.t 37) },
    { dst := some 8, op := .mov (.c (.int .i64 180)) }])
  (.ret))) (.skip)))))))))))
  (.keep [1, 2, 3, 6, 7] [3, 6, 7, 55009, 55115] ((.seq ((.seq (.reg false [
    { dst := some 38, op := .mov (.t 1) },
    { dst := some 39, op := .fad 2 (.t 3) },
    { dst := some 40, op := .load none (.t 39) },
    { dst := some 41, op := .bin .neq (.t 38) (.t 40) }])
  (.cond (.t 41) ((.seq (.reg false [
    { dst := some 42, op := .mov (.t 1) },
    { dst := some 43, op := .fad 2 (.t 3) },
    { dst := none, op := .store 1 (.t 43) (.t 42) }])
  (.reg false [
    { dst := some 44, op := .fad 3 (.t 3) },
    { dst := none, op := .store 1 (.t 44) (.c (.int .i64 1)) }]))) (.skip))))
  (.keep [2, 3, 6, 7] [3, 6, 7, 55009, 55115] ((.seq (.reg false [
    { dst := some 45, op := .fad 4 (.t 3) },
    { dst := some 46, op := .load none (.t 45) },
    { dst := some 47, op := .bin .add (.t 46) (.c (.int .i64 1)) },
    { dst := some 48, op := .fad 4 (.t 3) },
    { dst := none, op := .store 1 (.t 48) (.t 47) }])
  (.keep [2, 3, 6, 7] [3, 6, 7, 55009, 55115] ((.seq (.reg false [
    { dst := some 49, op := .fad 5 (.t 3) },
    { dst := none, op := .store 1 (.t 49) (.c (.bool true)) }])
  ((.seq (.reg false [
    { dst := some 50, op := .mov (.t 2) },
    { dst := some 51, op := .fad 6 (.t 3) },
    { dst := none, op := .store 1 (.t 51) (.t 50) }])
  ((.seq (.reg true [
    { dst := some 52, op := .load (some 7) (.t 3), rs := [3], tn := [3] },
    { dst := some 53, op := .load (some 7) (.t 3), rs := [3], tn := [3] },
    { dst := some 54, op := .call 55000 25 [(.t 53)], rs := [53], tn := [55009, 55115], wn := [55009, 55115], an := [1] },
    { dst := none, op := .store 7 (.t 6) (.t 52), rs := [6, 52], tn := [6], wn := [6], an := [0] },
    { dst := none, op := .store 120 (.t 7) (.t 54), rs := [7, 54], tn := [7, 55009, 55115], wn := [7, 55009, 55115], an := [2] },
    { dst := some 8, op := .mov (.c (.int .i64 0)) }])
  (.ret))))))))))))))))))
/-- with its results -/
def a14 : AFun := ⟨c14, [(6, some (some 7)), (7, some (some 120)), (8, none)], 55⟩

/-- estreat/client.Retry: parameters api.Client -/
def c15 : AC :=
  (.seq (.reg false [
    { dst := some 1, op := .box 1 (.t 0) },
    { dst := some 2, op := .alloc 2 z23 },
    { dst := some 3, op := .alloc 3 z45 },
    { dst := some 4, op := .mov (.c (.int .i64 0)) }])
  (.keep [1, 2, 3] [1, 2, 3, 33009, 33115] ((.seq ((.seq (.reg false [
    { dst := some 8, op := .load (some 7) (.t 1) },
    { dst := some 9, op := .call 10000 10 [(.t 8)] },
    { dst := some 5, op := .mov (.t 9) }])
  ((.seq (.reg false [
    { dst := some 10, op := .mov (.t 5) },
    { dst := some 11, op := .bin .neq (.t 10) (.c (.int .i64 0)) }])
  (.cond (.t 11) ((.seq (.reg false [
    { dst := some 12, op := .build z23 [] },
    { dst := some 13, op := .build z45 [] },
    { dst := some 14, op := .mov (.t 5) },
    { dst := none, op := .store 7 (.t 2) (.t 12) },
    { dst := none, op := .store 120 (.t 3) (.t 13) },
    { dst := some 4, op := .mov (.t 14) }])
  (.ret))) (.skip))))))
  (.keep [1, 2, 3] [1, 2, 3, 33009, 33115] ((.seq ((.seq (.reg false [
    { dst := some 15, op := .fad 5 (.t 1) },
    { dst := some 16, op := .load none (.t 15) },
    { dst := some 17, op := .un .not (.t 16) }])
  (.cond (.t 17) ((.seq (.reg false [
    { dst := some 18, op := .load (some 7) (.t 1) },
    { dst := some 19, op := .build z45 [] },
    { dst := none, op := .store 7 (.t 2) (.t 18) },
    { dst := none, op := .store 120 (.t 3) (.t 19) },
    { dst := some 4, op := .mov (.c (.int .i64 0)) }])
  (.ret))) (.skip))))
  (.keep [1, 2, 3] [1, 2, 3, 33009, 33115] ((.seq (.reg false [
    { dst := some 20, op := .load (some 7) (.t 1) },
    { dst := some 21, op := .build z72 [(0, 7, (.t 20))] },
    { dst := some 22, op := .box 22 (.t 21) },
    { dst := some 6, op := .mov (.t 22) }])
  (.keep [2, 3, 6] [2, 3, 22, 33009, 33115] ((.seq (.reg false [
    { dst := some 23, op := .mov (.t 6) },
    { dst := some 24, op := .mkb 26 [(.t 23)] },
    { dst := some 7, op := .mov (.t 24) }])
  ((.seq (.reg false [
    { dst := some 25, op := .mov (.t 7) },
    { dst := some 26, op := .callv 27000 (.t 25) [] }])
  ((.seq (.reg true [
    { dst := some 27, op := .mov (.t 6), rs := [6], tn := [22] },
    { dst := some 28, op := .nilck (.t 27), rs := [27], tn := [22], an := [0] },
    { dst := some 29, op := .fad 0 (.t 28), rs := [28], tn := [22], an := [1] },
    { dst := some 30, op := .load (some 7) (.t 29), rs := [29], tn := [22], an := [2] },
    { dst := some 31, op := .mov (.t 6), rs := [6], tn := [22] },
    { dst := some 32, op := .call 33000 24 [(.t 31)], rs := [31], tn := [22, 33009, 33115], wn := [33009, 33115], an := [4] },
    { dst := none, op := .store 7 (.t 2) (.t 30), rs := [2, 30], tn := [2], wn := [2], an := [3] },
    { dst := none, op := .store 120 (.t 3) (.t 32), rs := [3, 32], tn := [3, 33009, 33115], wn := [3, 33009, 33115], an := [5] },
    { dst := some 4, op := .mov (.c (.int .i64 0)) }])
  (.ret))))))))))))))))))
/-- with its results -/
def a15 : AFun := ⟨c15, [(2, some (some 7)), (3, some (some 120)), (4, none)], 33⟩

/-- estreat/estreatref19.Retry: parameters api.Client -/
def c16 : AC :=
  (.seq (.reg false [
    { dst := some 1, op := .box 1 (.t 0) },
    { dst := some 2, op := .alloc 2 z23 },
    { dst := some 3, op := .alloc 3 z45 },
    { dst := some 4, op := .mov (.c (.int .i64 0)) }])
  (.keep [1, 2, 3] [1, 2, 3, 26009, 26115] ((.seq ((.seq (.reg false [
    { dst := some 5, op := .load (some 7) (.t 1) },
    { dst := some 6, op := .call 7000 12 [(.t 5)] },
    { dst := some 7, op := .un .not (.t 6) }])
  (.cond (.t 7) ((.seq (.reg false [
    { dst := some 8, op := .build z23 [] },
    { dst := some 9, op := .build z45 [] },
    { dst := none, op := .store 7 (.t 2) (.t 8) },
    { dst := none, op := .store 120 (.t 3) (.t 9) },
    { dst := some 4, op := .mov (.c (.int .i64 180)) }])
  (.ret))) (.skip))))
  (.keep [1, 2, 3] [1, 2, 3, 26009, 26115] ((.seq ((.seq (.reg false [
    { dst := some 10, op := .fad 5 (.t 1) },
    { dst := some 11, op := .load none (.t 10) },
    { dst := some 12, op := .un .not (.t 11) }])
  (.cond (.t 12) ((.seq (.reg false [
    { dst := some 13, op := .load (some 7) (.t 1) },
    { dst := some 14, op := .build z45 [] },
    { dst := none, op := .store 7 (.t 2) (.t 13) },
    { dst := none, op := .store 120 (.t 3) (.t 14) },
    { dst := some 4, op := .mov (.c (.int .i64 0)) }])
  (.ret))) (.skip))))
  (.keep [1, 2, 3] [1, 2, 3, 26009, 26115] ((.seq ((.seq (.reg false [
    { dst := some 15, op := .fad 3 (.t 1) },
    { dst := some 16, op := .load none (.t 15) },
    { dst := some 17, op := .bin .eql (.t 16) (.c (.int .i64 3)) }])
  (.cond (.t 17) (.reg false [
    { dst := some 18, op := .fad 3 (.t 1) },
    { dst := none, op := .store 1 (.t 18) (.c (.int .i64 1)) }]) (.reg false [
    { dst := some 19, op := .fad 3 (.t 1) },
    { dst := some 20, op := .load none (.t 19) },
    { dst := some 21, op := .bin .add (.t 20) (.c (.int .i64 1)) },
    { dst := some 22, op := .fad 3 (.t 1) },
    { dst := none, op := .store 1 (.t 22) (.t 21) }]))))
  (.keep [1, 2, 3] [1, 2, 3, 26009, 26115] ((.seq (.reg true [
    { dst := some 23, op := .load (some 7) (.t 1), rs := [1], tn := [1] },
    { dst := some 24, op := .load (some 7) (.t 1), rs := [1], tn := [1] },
    { dst := some 25, op := .call 26000 25 [(.t 24)], rs := [24], tn := [26009, 26115], wn := [26009, 26115], an := [1] },
    { dst := none, op := .store 7 (.t 2) (.t 23), rs := [2, 23], tn := [2], wn := [2], an := [0] },
    { dst := none, op := .store 120 (.t 3) (.t 25), rs := [3, 25], tn := [3, 26009, 26115], wn := [3, 26009, 26115], an := [2] },
    { dst := some 4, op := .mov (.c (.int .i64 0)) }])
  (.ret))))))))))))))
/-- with its results -/
def a16 : AFun := ⟨c16, [(2, some (some 7)), (3, some (some 120)), (4, none)], 26⟩

/-- estreat/estreatref17.SameMessage: parameters api.Message api.Message -/
def c17 : AC :=
  (.seq (.reg false [
    { dst := some 2, op := .box 2 (.t 0) },
    { dst := some 3, op := .box 3 (.t 1) },
    { dst := some 4, op := .mov (.c (.bool false)) }])
  ((.seq (.reg false [
    { dst := some 6, op := .fad 0 (.t 2) },
    { dst := some 7, op := .load none (.t 6) },
    { dst := some 8, op := .fad 0 (.t 3) },
    { dst := some 9, op := .load none (.t 8) },
    { dst := some 10, op := .bin .eql (.t 7) (.t 9) },
    { dst := some 11, op := .mov (.t 10) },
    { dst := some 12, op := .fad 1 (.t 2), guard := some (11, true) },
    { dst := some 13, op := .load (some 2) (.t 12), guard := some (11, true) },
    { dst := some 14, op := .fad 1 (.t 3), guard := some (11, true) },
    { dst := some 15, op := .load (some 2) (.t 14), guard := some (11, true) },
    { dst := some 16, op := .eqa false [0, 0] (.t 13) (.t 15), guard := some (11, true) },
    { dst := some 17, op := .pick (.t 11) (.t 16) (.c (.bool false)) },
    { dst := some 18, op := .mov (.t 17) },
    { dst := some 19, op := .fad 3 (.t 2), guard := some (18, true) },
    { dst := some 20, op := .load (some 2) (.t 19), guard := some (18, true) },
    { dst := some 21, op := .fad 3 (.t 3), guard := some (18, true) },
    { dst := some 22, op := .load (some 2) (.t 21), guard := some (18, true) },
    { dst := some 23, op := .eqa false [0, 0] (.t 20) (.t 22), guard := some (18, true) },
    { dst := some 24, op := .pick (.t 18) (.t 23) (.c (.bool false)) },
    { dst := some 25, op := .mov (.t 24) },
    { dst := some 26, op := .fad 5 (.t 2), guard := some (25, true) },
    { dst := some 27, op := .load none (.t 26), guard := some (25, true) },
    { dst := some 28, op := .fad 5 (.t 3), guard := some (25, true) },
    { dst := some 29, op := .load none (.t 28), guard := some (25, true) },
    { dst := some 30, op := .bin .eql (.t 27) (.t 29), guard := some (25, true) },
    { dst := some 31, op := .pick (.t 25) (.t 30) (.c (.bool false)) },
    { dst := some 32, op := .mov (.t 31) },
    { dst := some 33, op := .fad 6 (.t 2), guard := some (32, true) },
    { dst := some 34, op := .load none (.t 33), guard := some (32, true) },
    { dst := some 35, op := .fad 6 (.t 3), guard := some (32, true) },
    { dst := some 36, op := .load none (.t 35), guard := some (32, true) },
    { dst := some 37, op := .bin .eql (.t 34) (.t 36), guard := some (32, true) },
    { dst := some 38, op := .pick (.t 32) (.t 37) (.c (.bool false)) },
    { dst := some 39, op := .mov (.t 38) },
    { dst := some 40, op := .fad 7 (.t 2), guard := some (39, true) },
    { dst := some 41, op := .load none (.t 40), guard := some (39, true) },
    { dst := some 42, op := .fad 7 (.t 3), guard := some (39, true) },
    { dst := some 43, op := .load none (.t 42), guard := some (39, true) },
    { dst := some 44, op := .bin .eql (.t 41) (.t 43), guard := some (39, true) },
    { dst := some 45, op := .pick (.t 39) (.t 44) (.c (.bool false)) },
    { dst := some 46, op := .mov (.t 45) },
    { dst := some 47, op := .fad 8 (.t 2), guard := some (46, true) },
    { dst := some 48, op := .load none (.t 47), guard := some (46, true) },
    { dst := some 49, op := .fad 8 (.t 3), guard := some (46, true) },
    { dst := some 50, op := .load none (.t 49), guard := some (46, true) },
    { dst := some 51, op := .bin .eql (.t 48) (.t 50), guard := some (46, true) },
    { dst := some 52, op := .pick (.t 46) (.t 51) (.c (.bool false)) },
    { dst := some 53, op := .mov (.t 52) },
    { dst := some 54, op := .fad 10 (.t 2), guard := some (53, true) },
    { dst := some 55, op := .load (some 36) (.t 54), guard := some (53, true) },
    { dst := some 56, op := .fad 10 (.t 3), guard := some (53, true) },
    { dst := some 57, op := .load (some 36) (.t 56), guard := some (53, true) },
    { dst := some 58, op := .eqa false [0, 0, 0, 0, 0, 0, 0, 0, 0, 0, 0, 0, 0, 0, 0, 0, 0, 0, 0, 0, 0, 0, 0, 0, 0, 0, 0, 0, 0, 0, 0, 0, 0, 0, 0, 0] (.t 55) (.t 57), guard := some (53, true) },
    { dst := some 59, op := .pick (.t 53) (.t 58) (.c (.bool false)) },
    { dst := some 60, op := .mov (.t 59) },
    { dst := some 61, op := .fad 46 (.t 2), guard := some (60, true) },
    { dst := some 62, op := .load (some 69) (.t 61), guard := some (60, true) },
    { dst := some 63, op := .fad 46 (.t 3), guard := some (60, true) },
    { dst := some 64, op := .load (some 69) (.t 63), guard := some (60, true) },
    { dst := some 65, op := .eqa false [0, 0, 0, 0, 0, 0, 0, 0, 0, 0, 0, 0, 0, 0, 0, 0, 0, 0, 0, 0, 0, 0, 0, 0, 0, 0, 0, 0, 0, 0, 0, 0, 0, 0, 0, 0, 0, 0, 0, 0, 0, 0, 0, 0, 0, 0, 0, 0, 0, 0, 0, 0, 0, 0, 0, 0, 0, 0, 0, 0, 0, 0, 0, 0, 0, 0, 0, 0, 0] (.t 62) (.t 64), guard := some (60, true) },
    { dst := some 66, op := .pick (.t 60) (.t 65) (.c (.bool false)) },
    { dst := some 5, op := .mov (.t 66) }])
  (.keep [2, 3, 5] [2, 3, 100009, 100115, 100209, 100315] ((.seq (.reg false [
    { dst := some 67, op := .mov (.t 5) },
    { dst := some 68, op := .mov (.t 67) },
    { dst := some 69, op := .fad 116 (.t 2), guard := some (68, true) },
    { dst := some 70, op := .load none (.t 69), guard := some (68, true) },
    { dst := some 71, op := .fad 116 (.t 3), guard := some (68, true) },
    { dst := some 72, op := .load none (.t 71), guard := some (68, true) },
    { dst := some 73, op := .bin .eql (.t 70) (.t 72), guard := some (68, true) },
    { dst := some 74, op := .pick (.t 68) (.t 73) (.c (.bool false)) },
    { dst := some 75, op := .mov (.t 74) },
    { dst := some 76, op := .fad 117 (.t 2), guard := some (75, true) },
    { dst := some 77, op := .load none (.t 76), guard := some (75, true) },
    { dst := some 78, op := .fad 117 (.t 3), guard := some (75, true) },
    { dst := some 79, op := .load none (.t 78), guard := some (75, true) },
    { dst := some 80, op := .bin .eql (.t 77) (.t 79), guard := some (75, true) },
    { dst := some 81, op := .pick (.t 75) (.t 80) (.c (.bool false)) },
    { dst := some 82, op := .mov (.t 81) },
    { dst := some 83, op := .fad 118 (.t 2), guard := some (82, true) },
    { dst := some 84, op := .load none (.t 83), guard := some (82, true) },
    { dst := some 85, op := .fad 118 (.t 3), guard := some (82, true) },
    { dst := some 86, op := .load none (.t 85), guard := some (82, true) },
    { dst := some 87, op := .bin .eql (.t 84) (.t 86), guard := some (82, true) },
    { dst := some 88, op := .pick (.t 82) (.t 87) (.c (.bool false)) },
    { dst := some 89, op := .mov (.t 88) },
    { dst := some 90, op := .fad 119 (.t 2), guard := some (89, true) },
    { dst := some 91, op := .load none (.t 90), guard := some (89, true) },
    { dst := some 92, op := .fad 119 (.t 3), guard := some (89, true) },
    { dst := some 93, op := .load none (.t 92), guard := some (89, true) },
    { dst := some 94, op := .eqb false (.t 91) (.t 93), guard := some (89, true) },
    { dst := some 95, op := .pick (.t 89) (.t 94) (.c (.bool false)) },
    { dst := some 96, op := .mov (.t 95) },
    { dst := some 97, op := .fad 9 (.t 2), guard := some (96, true) },
    { dst := some 98, op := .load none (.t 97), guard := some (96, true) },
    { dst := some 99, op := .fad 9 (.t 3), guard := some (96, true) },
    { dst := some 100, op := .load none (.t 99), guard := some (96, true) },
    { dst := some 101, op := .call 102000 27 [(.t 98), (.t 100)], guard := some (96, true) },
    { dst := some 102, op := .pick (.t 96) (.t 101) (.c (.bool false)) },
    { dst := some 103, op := .mov (.t 102) },
    { dst := some 104, op := .fad 115 (.t 2), guard := some (103, true) },
    { dst := some 105, op := .load none (.t 104), guard := some (103, true) },
    { dst := some 106, op := .fad 115 (.t 3), guard := some (103, true) },
    { dst := some 107, op := .load none (.t 106), guard := some (103, true) },
    { dst := some 108, op := .call 109000 28 [(.t 105), (.t 107)], guard := some (103, true) },
    { dst := some 109, op := .pick (.t 103) (.t 108) (.c (.bool false)) },
    { dst := some 4, op := .mov (.t 109) }])
  (.ret)))))))
/-- with its results -/
def a17 : AFun := ⟨c17, [(4, none)], 110⟩

/-- estreat/estreatref17.Big: parameters api.Replica api.Message -/
def c18 : AC :=
  (.seq (.reg false [
    { dst := some 2, op := .box 2 (.t 0) },
    { dst := some 3, op := .box 3 (.t 1) },
    { dst := some 4, op := .mov (.c (.bool false)) }])
  ((.seq (.reg false [
    { dst := some 5, op := .fad 3 (.t 2) },
    { dst := some 6, op := .load (some 4) (.t 5) },
    { dst := some 7, op := .build z85 [] },
    { dst := some 8, op := .call 9000 29 [(.t 6), (.t 7)] },
    { dst := some 9, op := .mov (.t 8) },
    { dst := some 10, op := .fad 10 (.t 2), guard := some (9, false) },
    { dst := some 11, op := .load none (.t 10), guard := some (9, false) },
    { dst := some 12, op := .call 13000 30 [(.t 11)], guard := some (9, false) },
    { dst := some 13, op := .pick (.t 9) (.c (.bool true)) (.t 12) },
    { dst := some 14, op := .mov (.t 13) },
    { dst := some 15, op := .fad 11 (.t 2), guard := some (14, false) },
    { dst := some 16, op := .load none (.t 15), guard := some (14, false) },
    { dst := some 17, op := .len (.t 16), guard := some (14, false) },
    { dst := some 18, op := .bin .gtr (.t 17) (.c (.int .i64 60)), guard := some (14, false) },
    { dst := some 19, op := .pick (.t 14) (.c (.bool true)) (.t 18) },
    { dst := some 20, op := .mov (.t 19) },
    { dst := some 21, op := .fad 48 (.t 2), guard := some (20, false) },
    { dst := some 22, op := .load none (.t 21), guard := some (20, false) },
    { dst := some 23, op := .len (.t 22), guard := some (20, false) },
    { dst := some 24, op := .bin .gtr (.t 23) (.c (.int .i64 60)), guard := some (20, false) },
    { dst := some 25, op := .pick (.t 20) (.c (.bool true)) (.t 24) },
    { dst := some 26, op := .mov (.t 25) },
    { dst := some 27, op := .fad 49 (.t 2), guard := some (26, false) },
    { dst := some 28, op := .load none (.t 27), guard := some (26, false) },
    { dst := some 29, op := .len (.t 28), guard := some (26, false) },
    { dst := some 30, op := .bin .gtr (.t 29) (.c (.int .i64 60)), guard := some (26, false) },
    { dst := some 31, op := .pick (.t 26) (.c (.bool true)) (.t 30) },
    { dst := some 32, op := .mov (.t 31) },
    { dst := some 33, op := .fad 9 (.t 3), guard := some (32, false) },
    { dst := some 34, op := .load none (.t 33), guard := some (32, false) },
    { dst := some 35, op := .call 36000 31 [(.t 34)], guard := some (32, false) },
    { dst := some 36, op := .pick (.t 32) (.c (.bool true)) (.t 35) },
    { dst := some 37, op := .mov (.t 36) },
    { dst := some 38, op := .fad 115 (.t 3), guard := some (37, false) },
    { dst := some 39, op := .load none (.t 38), guard := some (37, false) },
    { dst := some 40, op := .len (.t 39), guard := some (37, false) },
    { dst := some 41, op := .bin .gtr (.t 40) (.c (.int .i64 100)), guard := some (37, false) },
    { dst := some 42, op := .pick (.t 37) (.c (.bool true)) (.t 41) },
    { dst := some 43, op := .mov (.t 42) },
    { dst := some 44, op := .fad 117 (.t 3), guard := some (43, false) },
    { dst := some 45, op := .load none (.t 44), guard := some (43, false) },
    { dst := some 46, op := .lenS (.t 45), guard := some (43, false) },
    { dst := some 47, op := .bin .gtr (.t 46) (.c (.int .i64 2000)), guard := some (43, false) },
    { dst := some 48, op := .pick (.t 43) (.c (.bool true)) (.t 47) },
    { dst := some 4, op := .mov (.t 48) }])
  (.ret))))
/-- with its results -/
def a18 : AFun := ⟨c18, [(4, none)], 49⟩

/-- estreat/client.Hear: parameters api.Client api.Message -/
def c19 : AC :=
  (.seq (.reg false [
    { dst := some 2, op := .box 2 (.t 0) },
    { dst := some 3, op := .box 3 (.t 1) },
    { dst := some 4, op := .alloc 4 z23 },
    { dst := some 5, op := .alloc 5 z62 },
    { dst := some 6, op := .mov (.c (.bool false)) },
    { dst := some 7, op := .mov (.c (.int .i64 0)) }])
  (.keep [2, 3, 4, 5] [2, 3, 4, 5, 100209, 100315] ((.seq ((.seq (.reg false [
    { dst := some 11, op := .load (some 7) (.t 2) },
    { dst := some 12, op := .call 13000 10 [(.t 11)] },
    { dst := some 8, op := .mov (.t 12) }])
  ((.seq (.reg false [
    { dst := some 13, op := .mov (.t 8) },
    { dst := some 14, op := .bin .neq (.t 13) (.c (.int .i64 0)) }])
  (.cond (.t 14) ((.seq (.reg false [
    { dst := some 15, op := .build z23 [] },
    { dst := some 16, op := .build z62 [] },
    { dst := some 17, op := .mov (.t 8) },
    { dst := none, op := .store 7 (.t 4) (.t 15) },
    { dst := none, op := .store 6 (.t 5) (.t 16) },
    { dst := some 6, op := .mov (.c (.bool false)) },
    { dst := some 7, op := .mov (.t 17) }])
  (.ret))) (.skip))))))
  (.keep [2, 3, 4, 5] [2, 3, 4, 5, 100209, 100315] ((.seq (.reg false [
    { dst := some 18, op := .fad 3 (.t 3) },
    { dst := some 19, op := .load (some 2) (.t 18) },
    { dst := some 20, op := .fad 0 (.t 2) },
    { dst := some 21, op := .load none (.t 20) },
    { dst := some 22, op := .build z33 [(1, 1, (.t 21))] },
    { dst := some 23, op := .eqa false [0, 0] (.t 19) (.t 22) },
    { dst := some 24, op := .mov (.t 23) },
    { dst := some 25, op := .fad 1 (.t 3), guard := some (24, true) },
    { dst := some 26, op := .fad 0 (.t 25), guard := some (24, true) },
    { dst := some 27, op := .load none (.t 26), guard := some (24, true) },
    { dst := some 28, op := .fad 2 (.t 2), guard := some (24, true) },
    { dst := some 29, op := .load none (.t 28), guard := some (24, true) },
    { dst := some 30, op := .bin .eql (.t 27) (.t 29), guard := some (24, true) },
    { dst := some 31, op := .pick (.t 24) (.t 30) (.c (.bool false)) },
    { dst := some 32, op := .mov (.t 31) },
    { dst := some 33, op := .fad 1 (.t 3), guard := some (32, true) },
    { dst := some 34, op := .fad 1 (.t 33), guard := some (32, true) },
    { dst := some 35, op := .load none (.t 34), guard := some (32, true) },
    { dst := some 36, op := .call 37000 21 [(.t 35), (.c (.int .i64 1)), (.c (.int .i64 3))], guard := some (32, true) },
    { dst := some 37, op := .pick (.t 32) (.t 36) (.c (.bool false)) },
    { dst := some 9, op := .mov (.t 37) }])
  (.keep [2, 3, 4, 5, 9] [2, 3, 4, 5, 100209, 100315] ((.seq ((.seq (.reg false [
    { dst := some 38, op := .fad 5 (.t 2) },
    { dst := some 39, op := .load none (.t 38) },
    { dst := some 40, op := .un .not (.t 39) },
    { dst := some 41, op := .mov (.t 40) },
    { dst := some 42, op := .mov (.t 9), guard := some (41, false) },
    { dst := some 43, op := .un .not (.t 42), guard := some (41, false) },
    { dst := some 44, op := .pick (.t 41) (.c (.bool true)) (.t 43) },
    { dst := some 45, op := .mov (.t 44) },
    { dst := some 46, op := .fad 0 (.t 3), guard := some (45, false) },
    { dst := some 47, op := .load none (.t 46), guard := some (45, false) },
    { dst := some 48, op := .bin .neq (.t 47) (.c (.int .i64 2)), guard := some (45, false) },
    { dst := some 49, op := .pick (.t 45) (.c (.bool true)) (.t 48) },
    { dst := some 50, op := .mov (.t 49) },
    { dst := some 51, op := .fad 116 (.t 3), guard := some (50, false) },
    { dst := some 52, op := .load none (.t 51), guard := some (50, false) },
    { dst := some 53, op := .fad 4 (.t 2), guard := some (50, false) },
    { dst := some 54, op := .load none (.t 53), guard := some (50, false) },
    { dst := some 55, op := .bin .neq (.t 52) (.t 54), guard := some (50, false) },
    { dst := some 56, op := .pick (.t 50) (.c (.bool true)) (.t 55) },
    { dst := some 57, op := .mov (.t 56) },
    { dst := some 58, op := .fad 119 (.t 3), guard := some (57, false) },
    { dst := some 59, op := .load none (.t 58), guard := some (57, false) },
    { dst := some 60, op := .un .not (.t 59), guard := some (57, false) },
    { dst := some 61, op := .pick (.t 57) (.c (.bool true)) (.t 60) }])
  (.cond (.t 61) ((.seq (.reg false [
    { dst := some 62, op := .load (some 7) (.t 2) },
    { dst := some 63, op := .build z62 [] },
    { dst := none, op := .store 7 (.t 4) (.t 62) },
    { dst := none, op := .store 6 (.t 5) (.t 63) },
    { dst := some 6, op := .mov (.c (.bool false)) },
    { dst := some 7, op := .mov (.c (.int .i64 0)) }])
  (.ret))) (.skip))))
  (.keep [2, 3, 4, 5] [2, 3, 4, 5, 100209, 100315] ((.seq (.reg false [
    { dst := some 64, op := .fad 0 (.t 2) },
    { dst := some 65, op := .load none (.t 64) },
    { dst := some 66, op := .fad 4 (.t 2) },
    { dst := some 67, op := .load none (.t 66) },
    { dst := some 68, op := .fad 2 (.t 2) },
    { dst := some 69, op := .load none (.t 68) },
    { dst := some 70, op := .fad 6 (.t 2) },
    { dst := some 71, op := .load none (.t 70) },
    { dst := some 72, op := .fad 7 (.t 3) },
    { dst := some 73, op := .load none (.t 72) },
    { dst := some 74, op := .fad 118 (.t 3) },
    { dst := some 75, op := .load none (.t 74) },
    { dst := some 76, op := .build z62 [(0, 1, (.t 65)), (1, 1, (.t 67)), (2, 1, (.t 69)), (3, 1, (.t 71)), (4, 1, (.t 73)), (5, 1, (.t 75))] },
    { dst := some 10, op := .alloc 10 z62 },
    { dst := none, op := .store 6 (.t 10) (.t 76) }])
  (.keep [2, 3, 4, 5, 10] [2, 3, 4, 5, 10, 100209, 100315] ((.seq (.reg false [
    { dst := some 77, op := .fad 1 (.t 3) },
    { dst := some 78, op := .fad 1 (.t 77) },
    { dst := some 79, op := .load none (.t 78) },
    { dst := some 80, op := .fad 3 (.t 2) },
    { dst := none, op := .store 1 (.t 80) (.t 79) },
    { dst := some 81, op := .fad 5 (.t 2) },
    { dst := none, op := .store 1 (.t 81) (.c (.bool false)) },
    { dst := some 82, op := .fad 6 (.t 2) },
    { dst := none, op := .store 1 (.t 82) (.c (.str ⟨#[]⟩)) }])
  (.keep [2, 4, 5, 10] [2, 4, 5, 10] ((.seq (.reg true [
    { dst := some 83, op := .load (some 7) (.t 2), rs := [2], tn := [2] },
    { dst := some 84, op := .load (some 6) (.t 10), rs := [10], tn := [10] },
    { dst := none, op := .store 7 (.t 4) (.t 83), rs := [4, 83], tn := [4], wn := [4], an := [0] },
    { dst := none, op := .store 6 (.t 5) (.t 84), rs := [5, 84], tn := [5], wn := [5], an := [1] },
    { dst := some 6, op := .mov (.c (.bool true)) },
    { dst := some 7, op := .mov (.c (.int .i64 0)) }])
  (.ret))))))))))))))))))))
/-- with its results -/
def a19 : AFun := ⟨c19, [(4, some (some 7)), (5, some (some 6)), (6, none), (7, none)], 85⟩

/-- estreat/estreatref19.Hear: parameters api.Client api.Message -/
def c20 : AC :=
  (.seq (.reg false [
    { dst := some 2, op := .box 2 (.t 0) },
    { dst := some 3, op := .box 3 (.t 1) },
    { dst := some 4, op := .alloc 4 z23 },
    { dst := some 5, op := .alloc 5 z62 },
    { dst := some 6, op := .mov (.c (.bool false)) },
    { dst := some 7, op := .mov (.c (.int .i64 0)) }])
  (.keep [2, 3, 4, 5] [2, 3, 4, 5, 100209, 100315] ((.seq ((.seq (.reg false [
    { dst := some 9, op := .load (some 7) (.t 2) },
    { dst := some 10, op := .call 11000 12 [(.t 9)] },
    { dst := some 11, op := .un .not (.t 10) }])
  (.cond (.t 11) ((.seq (.reg false [
    { dst := some 12, op := .build z23 [] },
    { dst := some 13, op := .build z62 [] },
    { dst := none, op := .store 7 (.t 4) (.t 12) },
    { dst := none, op := .store 6 (.t 5) (.t 13) },
    { dst := some 6, op := .mov (.c (.bool false)) },
    { dst := some 7, op := .mov (.c (.int .i64 180)) }])
  (.ret))) (.skip))))
  (.keep [2, 3, 4, 5] [2, 3, 4, 5, 100209, 100315] ((.seq ((.seq (.reg false [
    { dst := some 14, op := .fad 5 (.t 2) },
    { dst := some 15, op := .load none (.t 14) },
    { dst := some 16, op := .un .not (.t 15) },
    { dst := some 17, op := .mov (.t 16) },
    { dst := some 18, op := .fad 0 (.t 3), guard := some (17, false) },
    { dst := some 19, op := .load none (.t 18), guard := some (17, false) },
    { dst := some 20, op := .bin .neq (.t 19) (.c (.int .i64 2)), guard := some (17, false) },
    { dst := some 21, op := .pick (.t 17) (.c (.bool true)) (.t 20) },
    { dst := some 22, op := .mov (.t 21) },
    { dst := some 23, op := .fad 1 (.t 3), guard := some (22, false) },
    { dst := some 24, op := .fad 0 (.t 23), guard := some (22, false) },
    { dst := some 25, op := .load none (.t 24), guard := some (22, false) },
    { dst := some 26, op := .fad 2 (.t 2), guard := some (22, false) },
    { dst := some 27, op := .load none (.t 26), guard := some (22, false) },
    { dst := some 28, op := .bin .neq (.t 25) (.t 27), guard := some (22, false) },
    { dst := some 29, op := .pick (.t 22) (.c (.bool true)) (.t 28) },
    { dst := some 30, op := .mov (.t 29) },
    { dst := some 31, op := .fad 1 (.t 3), guard := some (30, false) },
    { dst := some 32, op := .fad 1 (.t 31), guard := some (30, false) },
    { dst := some 33, op := .load none (.t 32), guard := some (30, false) },
    { dst := some 34, op := .call 35000 23 [(.t 33), (.c (.int .i64 1)), (.c (.int .i64 3))], guard := some (30, false) },
    { dst := some 35, op := .un .not (.t 34), guard := some (30, false) },
    { dst := some 36, op := .pick (.t 30) (.c (.bool true)) (.t 35) },
    { dst := some 37, op := .mov (.t 36) },
    { dst := some 38, op := .fad 3 (.t 3), guard := some (37, false) },
    { dst := some 39, op := .load (some 2) (.t 38), guard := some (37, false) },
    { dst := some 40, op := .fad 0 (.t 2), guard := some (37, false) },
    { dst := some 41, op := .load none (.t 40), guard := some (37, false) },
    { dst := some 42, op := .build z33 [(1, 1, (.t 41))], guard := some (37, false) },
    { dst := some 43, op := .eqa true [0, 0] (.t 39) (.t 42), guard := some (37, false) },
    { dst := some 44, op := .pick (.t 37) (.c (.bool true)) (.t 43) },
    { dst := some 45, op := .mov (.t 44) },
    { dst := some 46, op := .fad 116 (.t 3), guard := some (45, false) },
    { dst := some 47, op := .load none (.t 46), guard := some (45, false) },
    { dst := some 48, op := .fad 4 (.t 2), guard := some (45, false) },
    { dst := some 49, op := .load none (.t 48), guard := some (45, false) },
    { dst := some 50, op := .bin .neq (.t 47) (.t 49), guard := some (45, false) },
    { dst := some 51, op := .pick (.t 45) (.c (.bool true)) (.t 50) },
    { dst := some 52, op := .mov (.t 51) },
    { dst := some 53, op := .fad 119 (.t 3), guard := some (52, false) },
    { dst := some 54, op := .load none (.t 53), guard := some (52, false) },
    { dst := some 55, op := .un .not (.t 54), guard := some (52, false) },
    { dst := some 56, op := .pick (.t 52) (.c (.bool true)) (.t 55) }])
  (.cond (.t 56) ((.seq (.reg false [
    { dst := some 57, op := .load (some 7) (.t 2) },
    { dst := some 58, op := .build z62 [] },
    { dst := none, op := .store 7 (.t 4) (.t 57) },
    { dst := none, op := .store 6 (.t 5) (.t 58) },
    { dst := some 6, op := .mov (.c (.bool false)) },
    { dst := some 7, op := .mov (.c (.int .i64 0)) }])
  (.ret))) (.skip))))
  (.keep [2, 3, 4, 5] [2, 3, 4, 5, 100209, 100315] ((.seq (.reg false [
    { dst := some 59, op := .fad 0 (.t 2) },
    { dst := some 60, op := .load none (.t 59) },
    { dst := some 61, op := .fad 4 (.t 2) },
    { dst := some 62, op := .load none (.t 61) },
    { dst := some 63, op := .fad 2 (.t 2) },
    { dst := some 64, op := .load none (.t 63) },
    { dst := some 65, op := .fad 6 (.t 2) },
    { dst := some 66, op := .load none (.t 65) },
    { dst := some 67, op := .fad 7 (.t 3) },
    { dst := some 68, op := .load none (.t 67) },
    { dst := some 69, op := .fad 118 (.t 3) },
    { dst := some 70, op := .load none (.t 69) },
    { dst := some 71, op := .build z62 [(0, 1, (.t 60)), (1, 1, (.t 62)), (2, 1, (.t 64)), (3, 1, (.t 66)), (4, 1, (.t 68)), (5, 1, (.t 70))] },
    { dst := some 8, op := .alloc 8 z62 },
    { dst := none, op := .store 6 (.t 8) (.t 71) }])
  (.keep [2, 3, 4, 5, 8] [2, 3, 4, 5, 8, 100209, 100315] ((.seq (.reg false [
    { dst := some 72, op := .fad 1 (.t 3) },
    { dst := some 73, op := .fad 1 (.t 72) },
    { dst := some 74, op := .load none (.t 73) },
    { dst := some 75, op := .fad 3 (.t 2) },
    { dst := none, op := .store 1 (.t 75) (.t 74) }])
  (.keep [2, 4, 5, 8] [2, 4, 5, 8] ((.seq (.reg false [
    { dst := some 76, op := .fad 5 (.t 2) },
    { dst := none, op := .store 1 (.t 76) (.c (.bool false)) }])
  ((.seq (.reg false [
    { dst := some 77, op := .fad 6 (.t 2) },
    { dst := none, op := .store 1 (.t 77) (.c (.str ⟨#[]⟩)) }])
  ((.seq (.reg true [
    { dst := some 78, op := .load (some 7) (.t 2), rs := [2], tn := [2] },
    { dst := some 79, op := .load (some 6) (.t 8), rs := [8], tn := [8] },
    { dst := none, op := .store 7 (.t 4) (.t 78), rs := [4, 78], tn := [4], wn := [4], an := [0] },
    { dst := none, op := .store 6 (.t 5) (.t 79), rs := [5, 79], tn := [5], wn := [5], an := [1] },
    { dst := some 6, op := .mov (.c (.bool true)) },
    { dst := some 7, op := .mov (.c (.int .i64 0)) }])
  (.ret)))))))))))))))))))))
/-- with its results -/
def a20 : AFun := ⟨c20, [(4, some (some 7)), (5, some (some 6)), (6, none), (7, none)], 80⟩

/-- estreat/client.within: parameters int int int -/
def c21 : AC :=
  (.seq (.reg false [
    { dst := some 6, op := .mov (.c (.bool false)) }])
  ((.seq (.reg false [
    { dst := some 7, op := .mov (.t 0) },
    { dst := some 8, op := .mov (.t 1) },
    { dst := some 9, op := .bin .geq (.t 7) (.t 8) },
    { dst := some 10, op := .mov (.t 9) },
    { dst := some 11, op := .mov (.t 0), guard := some (10, true) },
    { dst := some 12, op := .mov (.t 2), guard := some (10, true) },
    { dst := some 13, op := .bin .leq (.t 11) (.t 12), guard := some (10, true) },
    { dst := some 14, op := .pick (.t 10) (.t 13) (.c (.bool false)) },
    { dst := some 6, op := .mov (.t 14) }])
  (.ret))))
/-- with its results -/
def a21 : AFun := ⟨c21, [(6, none)], 15⟩

/-- estreat/estreatref12.Regions: parameters int -/
def c22 : AC :=
  (.seq (.reg false [
    { dst := some 2, op := .mov (.c (.bool false)) }])
  ((.seq (.reg false [
    { dst := some 3, op := .mov (.t 0) },
    { dst := some 4, op := .bin .geq (.t 3) (.c (.int .i64 3)) },
    { dst := some 5, op := .mov (.t 4) },
    { dst := some 6, op := .mov (.t 0), guard := some (5, true) },
    { dst := some 7, op := .bin .leq (.t 6) (.c (.int .i64 5)), guard := some (5, true) },
    { dst := some 8, op := .pick (.t 5) (.t 7) (.c (.bool false)) },
    { dst := some 2, op := .mov (.t 8) }])
  (.ret))))
/-- with its results -/
def a22 : AFun := ⟨c22, [(2, none)], 9⟩

/-- estreat/estreatref19.within: parameters int int int -/
def c23 : AC :=
  (.seq (.reg false [
    { dst := some 6, op := .mov (.c (.bool false)) }])
  ((.seq (.reg false [
    { dst := some 7, op := .mov (.t 0) },
    { dst := some 8, op := .mov (.t 1) },
    { dst := some 9, op := .bin .geq (.t 7) (.t 8) },
    { dst := some 10, op := .mov (.t 9) },
    { dst := some 11, op := .mov (.t 0), guard := some (10, true) },
    { dst := some 12, op := .mov (.t 2), guard := some (10, true) },
    { dst := some 13, op := .bin .leq (.t 11) (.t 12), guard := some (10, true) },
    { dst := some 14, op := .pick (.t 10) (.t 13) (.c (.bool false)) },
    { dst := some 6, op := .mov (.t 14) }])
  (.ret))))
/-- with its results -/
def a23 : AFun := ⟨c23, [(6, none)], 15⟩

/-- (*estreat/client.side).message: parameters *client.side -/
def c24 : AC :=
  (.seq (.reg false [
    { dst := some 2, op := .alloc 2 z45 }])
  ((.seq (.reg true [
    { dst := some 3, op := .mov (.t 0), rs := [0], tn := [100000] },
    { dst := some 4, op := .nilck (.t 3), rs := [3], tn := [100000], an := [0] },
    { dst := some 5, op := .fad 0 (.t 4), rs := [4], tn := [100000], an := [1] },
    { dst := some 6, op := .fad 0 (.t 5), rs := [5], tn := [100000], an := [2] },
    { dst := some 7, op := .load none (.t 6), rs := [6], tn := [100000], an := [3] },
    { dst := some 8, op := .build z33 [(1, 1, (.t 7))], rs := [7], an := [4] },
    { dst := some 9, op := .mov (.t 0), rs := [0], tn := [100000] },
    { dst := some 10, op := .nilck (.t 9), rs := [9], tn := [100000], an := [6] },
    { dst := some 11, op := .fad 0 (.t 10), rs := [10], tn := [100000], an := [7] },
    { dst := some 12, op := .fad 2 (.t 11), rs := [11], tn := [100000], an := [8] },
    { dst := some 13, op := .load none (.t 12), rs := [12], tn := [100000], an := [9] },
    { dst := some 14, op := .mov (.t 0), rs := [0], tn := [100000] },
    { dst := some 15, op := .nilck (.t 14), rs := [14], tn := [100000], an := [11] },
    { dst := some 16, op := .fad 0 (.t 15), rs := [15], tn := [100000], an := [12] },
    { dst := some 17, op := .fad 3 (.t 16), rs := [16], tn := [100000], an := [13] },
    { dst := some 18, op := .load none (.t 17), rs := [17], tn := [100000], an := [14] },
    { dst := some 19, op := .build z33 [(0, 1, (.t 13)), (1, 1, (.t 18))], rs := [13, 18], an := [10, 15] },
    { dst := some 20, op := .mov (.t 0), rs := [0], tn := [100000] },
    { dst := some 21, op := .nilck (.t 20), rs := [20], tn := [100000], an := [17] },
    { dst := some 22, op := .fad 0 (.t 21), rs := [21], tn := [100000], an := [18] },
    { dst := some 23, op := .fad 4 (.t 22), rs := [22], tn := [100000], an := [19] },
    { dst := some 24, op := .load none (.t 23), rs := [23], tn := [100000], an := [20] },
    { dst := some 25, op := .mov (.t 0), rs := [0], tn := [100000] },
    { dst := some 26, op := .nilck (.t 25), rs := [25], tn := [100000], an := [22] },
    { dst := some 27, op := .fad 0 (.t 26), rs := [26], tn := [100000], an := [23] },
    { dst := some 28, op := .fad 6 (.t 27), rs := [27], tn := [100000], an := [24] },
    { dst := some 29, op := .load none (.t 28), rs := [28], tn := [100000], an := [25] },
    { dst := some 30, op := .build z45 [(0, 1, (.c (.int .i64 1))), (1, 2, (.t 8)), (3, 2, (.t 19)), (116, 1, (.t 24)), (117, 1, (.t 29))], rs := [8, 19, 24, 29], an := [5, 16, 21, 26] },
    { dst := none, op := .store 120 (.t 2) (.t 30), rs := [2, 30], tn := [2], wn := [2], an := [27] }])
  (.ret))))
/-- with its results -/
def a24 : AFun := ⟨c24, [(2, some (some 120))], 31⟩

/-- estreat/estreatref19.Message: parameters api.Client -/
def c25 : AC :=
  (.seq (.reg false [
    { dst := some 1, op := .box 1 (.t 0) },
    { dst := some 2, op := .alloc 2 z45 }])
  ((.seq (.reg false [
    { dst := some 3, op := .fad 0 (.t 1) },
    { dst := some 4, op := .load none (.t 3) },
    { dst := some 5, op := .build z33 [(1, 1, (.t 4))] },
    { dst := some 6, op := .fad 2 (.t 1) },
    { dst := some 7, op := .load none (.t 6) },
    { dst := some 8, op := .fad 3 (.t 1) },
    { dst := some 9, op := .load none (.t 8) },
    { dst := some 10, op := .build z33 [(0, 1, (.t 7)), (1, 1, (.t 9))] },
    { dst := some 11, op := .fad 4 (.t 1) },
    { dst := some 12, op := .load none (.t 11) },
    { dst := some 13, op := .fad 6 (.t 1) },
    { dst := some 14, op := .load none (.t 13) },
    { dst := some 15, op := .build z45 [(0, 1, (.c (.int .i64 1))), (1, 2, (.t 5)), (3, 2, (.t 10)), (116, 1, (.t 12)), (117, 1, (.t 14))] },
    { dst := none, op := .store 120 (.t 2) (.t 15) }])
  (.ret))))
/-- with its results -/
def a25 : AFun := ⟨c25, [(2, some (some 120))], 16⟩

/-- (*estreat/client.side).next: parameters *client.side -/
def c26 : AC :=
  .reg false [
    { dst := some 2, op := .mov (.t 0) },
    { dst := some 3, op := .mov (.t 0) },
    { dst := some 4, op := .nilck (.t 3) },
    { dst := some 5, op := .fad 0 (.t 4) },
    { dst := some 6, op := .fad 3 (.t 5) },
    { dst := some 7, op := .load none (.t 6) },
    { dst := some 8, op := .bin .rem (.t 7) (.c (.int .i64 3)) },
    { dst := some 9, op := .bin .add (.t 8) (.c (.int .i64 1)) },
    { dst := some 10, op := .nilck (.t 2) },
    { dst := some 11, op := .fad 0 (.t 10) },
    { dst := some 12, op := .fad 3 (.t 11) },
    { dst := none, op := .store 1 (.t 12) (.t 9) }]
/-- with its results -/
def a26 : AFun := ⟨c26, [], 13⟩

def b27_0 : AC :=
  (.seq ((.seq (.reg false [
    { dst := some 11, op := .mov (.t 5) },
    { dst := some 12, op := .mov (.t 0) },
    { dst := some 13, op := .len (.t 12) },
    { dst := some 14, op := .bin .lss (.t 11) (.t 13) }])
  (.cond (.t 14) (.skip) (.exit 0))))
  (.keep [0, 1, 4, 5] [100000, 100200] ((.seq (.block 1 ((.seq (.reg true [
    { dst := some 17, op := .mov (.t 0), rs := [0], tn := [100000] },
    { dst := some 18, op := .mov (.t 5), rs := [5] },
    { dst := some 19, op := .iad 110 (.t 17) (.t 18), rs := [17, 18], tn := [100000], an := [0, 1] },
    { dst := some 20, op := .load (some 110) (.t 19), rs := [19], tn := [100000], an := [2] },
    { dst := some 21, op := .mov (.t 1), rs := [1], tn := [100200] },
    { dst := some 22, op := .mov (.t 5), rs := [5] },
    { dst := some 23, op := .iad 110 (.t 21) (.t 22), rs := [21, 22], tn := [100200], an := [4, 5] },
    { dst := some 24, op := .load (some 110) (.t 23), rs := [23], tn := [100200], an := [6] },
    { dst := some 25, op := .eqa true [0, 0, 0, 0, 2, 0, 0, 0, 0, 0, 0, 0, 0, 0, 0, 0, 0, 0, 0, 0, 0, 0, 0, 0, 0, 0, 0, 0, 0, 0, 0, 0, 0, 0, 0, 0, 0, 0, 0, 0, 0, 0, 0, 0, 0, 0, 0, 0, 0, 0, 0, 0, 0, 0, 0, 0, 0, 0, 0, 0, 0, 0, 0, 0, 0, 0, 0, 0, 0, 0, 0, 0, 0, 0, 0, 0, 0, 0, 0, 0, 0, 0, 0, 0, 0, 0, 0, 0, 0, 0, 0, 0, 0, 0, 0, 0, 0, 0, 0, 0, 0, 0, 0, 0, 0, 0, 0, 0, 0, 0] (.t 20) (.t 24), rs := [20, 24], an := [3, 7] }])
  (.cond (.t 25) ((.seq (.reg false [
    { dst := some 4, op := .mov (.c (.bool false)) }])
  (.ret))) (.skip)))))
  (.keep [0, 1, 4, 5] [100000, 100200] (.reg false [
    { dst := some 15, op := .mov (.t 5) },
    { dst := some 16, op := .bin .add (.t 15) (.c (.int .i64 1)) },
    { dst := some 5, op := .mov (.t 16) }]))))))
/-- estreat/estreatref11.Same: parameters []api.Item []api.Item -/
def c27 : AC :=
  (.seq (.reg false [
    { dst := some 4, op := .mov (.c (.bool false)) }])
  ((.seq ((.seq (.reg false [
    { dst := some 6, op := .mov (.t 0) },
    { dst := some 7, op := .len (.t 6) },
    { dst := some 8, op := .mov (.t 1) },
    { dst := some 9, op := .len (.t 8) },
    { dst := some 10, op := .bin .neq (.t 7) (.t 9) }])
  (.cond (.t 10) ((.seq (.reg false [
    { dst := some 4, op := .mov (.c (.bool false)) }])
  (.ret))) (.skip))))
  (.keep [0, 1] [100000, 100200] ((.seq ((.seq (.reg false [
    { dst := some 5, op := .mov (.c (.int .i64 0)) }])
  (.block 0 (.loop [0, 1, 4, 5] [100000, 100200] b27_0))))
  (.keep [] [] ((.seq (.reg false [
    { dst := some 4, op := .mov (.c (.bool true)) }])
  (.ret))))))))))
/-- with its results -/
def a27 : AFun := ⟨c27, [(4, none)], 26⟩

def b28_0 : AC :=
  (.seq ((.seq (.reg false [
    { dst := some 11, op := .mov (.t 5) },
    { dst := some 12, op := .mov (.t 0) },
    { dst := some 13, op := .len (.t 12) },
    { dst := some 14, op := .bin .lss (.t 11) (.t 13) }])
  (.cond (.t 14) (.skip) (.exit 0))))
  (.keep [0, 1, 4, 5] [100000, 100200] ((.seq (.block 1 ((.seq (.reg true [
    { dst := some 17, op := .mov (.t 0), rs := [0], tn := [100000] },
    { dst := some 18, op := .mov (.t 5), rs := [5] },
    { dst := some 19, op := .iad 32 (.t 17) (.t 18), rs := [17, 18], tn := [100000], an := [0, 1] },
    { dst := some 20, op := .load (some 32) (.t 19), rs := [19], tn := [100000], an := [2] },
    { dst := some 21, op := .mov (.t 1), rs := [1], tn := [100200] },
    { dst := some 22, op := .mov (.t 5), rs := [5] },
    { dst := some 23, op := .iad 32 (.t 21) (.t 22), rs := [21, 22], tn := [100200], an := [4, 5] },
    { dst := some 24, op := .load (some 32) (.t 23), rs := [23], tn := [100200], an := [6] },
    { dst := some 25, op := .eqa true [0, 0, 0, 0, 0, 0, 0, 0, 0, 0, 0, 0, 0, 0, 0, 0, 0, 0, 0, 0, 0, 0, 0, 0, 0, 0, 0, 0, 0, 0, 0, 0] (.t 20) (.t 24), rs := [20, 24], an := [3, 7] }])
  (.cond (.t 25) ((.seq (.reg false [
    { dst := some 4, op := .mov (.c (.bool false)) }])
  (.ret))) (.skip)))))
  (.keep [0, 1, 4, 5] [100000, 100200] (.reg false [
    { dst := some 15, op := .mov (.t 5) },
    { dst := some 16, op := .bin .add (.t 15) (.c (.int .i64 1)) },
    { dst := some 5, op := .mov (.t 16) }]))))))
/-- estreat/estreatkeep.Digests: parameters []api.Digest []api.Digest -/
def c28 : AC :=
  (.seq (.reg false [
    { dst := some 4, op := .mov (.c (.bool false)) }])
  ((.seq ((.seq (.reg false [
    { dst := some 6, op := .mov (.t 0) },
    { dst := some 7, op := .len (.t 6) },
    { dst := some 8, op := .mov (.t 1) },
    { dst := some 9, op := .len (.t 8) },
    { dst := some 10, op := .bin .neq (.t 7) (.t 9) }])
  (.cond (.t 10) ((.seq (.reg false [
    { dst := some 4, op := .mov (.c (.bool false)) }])
  (.ret))) (.skip))))
  (.keep [0, 1] [100000, 100200] ((.seq ((.seq (.reg false [
    { dst := some 5, op := .mov (.c (.int .i64 0)) }])
  (.block 0 (.loop [0, 1, 4, 5] [100000, 100200] b28_0))))
  (.keep [] [] ((.seq (.reg false [
    { dst := some 4, op := .mov (.c (.bool true)) }])
  (.ret))))))))))
/-- with its results -/
def a28 : AFun := ⟨c28, [(4, none)], 26⟩

/-- estreat/estreatref15.Big: parameters api.Kept api.Record -/
def c29 : AC :=
  (.seq (.reg false [
    { dst := some 2, op := .box 2 (.t 0) },
    { dst := some 3, op := .box 3 (.t 1) },
    { dst := some 4, op := .mov (.c (.bool false)) }])
  ((.seq (.reg false [
    { dst := some 5, op := .fad 2 (.t 2) },
    { dst := some 6, op := .load none (.t 5) },
    { dst := some 7, op := .call 8000 31 [(.t 6)] },
    { dst := some 8, op := .mov (.t 7) },
    { dst := some 9, op := .fad 3 (.t 2), guard := some (8, false) },
    { dst := some 10, op := .load none (.t 9), guard := some (8, false) },
    { dst := some 11, op := .len (.t 10), guard := some (8, false) },
    { dst := some 12, op := .bin .gtr (.t 11) (.c (.int .i64 60)), guard := some (8, false) },
    { dst := some 13, op := .pick (.t 8) (.c (.bool true)) (.t 12) },
    { dst := some 14, op := .mov (.t 13) },
    { dst := some 15, op := .fad 113 (.t 3), guard := some (14, false) },
    { dst := some 16, op := .load none (.t 15), guard := some (14, false) },
    { dst := some 17, op := .call 18000 31 [(.t 16)], guard := some (14, false) },
    { dst := some 18, op := .pick (.t 14) (.c (.bool true)) (.t 17) },
    { dst := some 19, op := .mov (.t 18) },
    { dst := some 20, op := .fad 3 (.t 3), guard := some (19, false) },
    { dst := some 21, op := .fad 1 (.t 20), guard := some (19, false) },
    { dst := some 22, op := .fad 3 (.t 21), guard := some (19, false) },
    { dst := some 23, op := .load none (.t 22), guard := some (19, false) },
    { dst := some 24, op := .lenS (.t 23), guard := some (19, false) },
    { dst := some 25, op := .bin .gtr (.t 24) (.c (.int .i64 1000)), guard := some (19, false) },
    { dst := some 26, op := .pick (.t 19) (.c (.bool true)) (.t 25) },
    { dst := some 4, op := .mov (.t 26) }])
  (.ret))))
/-- with its results -/
def a29 : AFun := ⟨c29, [(4, none)], 27⟩

def b30_0 : AC :=
  (.seq ((.seq (.reg false [
    { dst := some 7, op := .mov (.t 3) },
    { dst := some 8, op := .mov (.t 0) },
    { dst := some 9, op := .len (.t 8) },
    { dst := some 10, op := .bin .lss (.t 7) (.t 9) }])
  (.cond (.t 10) (.skip) (.exit 0))))
  (.keep [0, 2, 3] [100000] ((.seq (.block 1 ((.seq (.reg false [
    { dst := some 13, op := .mov (.t 0) },
    { dst := some 14, op := .mov (.t 3) },
    { dst := some 15, op := .iad 4 (.t 13) (.t 14) },
    { dst := some 16, op := .fad 3 (.t 15) },
    { dst := some 17, op := .load none (.t 16) },
    { dst := some 18, op := .call 19000 31 [(.t 17)] }])
  (.cond (.t 18) ((.seq (.reg false [
    { dst := some 2, op := .mov (.c (.bool true)) }])
  (.ret))) (.skip)))))
  (.keep [0, 2, 3] [100000] (.reg false [
    { dst := some 11, op := .mov (.t 3) },
    { dst := some 12, op := .bin .add (.t 11) (.c (.int .i64 1)) },
    { dst := some 3, op := .mov (.t 12) }]))))))
/-- estreat/estreatref16.Big: parameters []api.Tail -/
def c30 : AC :=
  (.seq (.reg false [
    { dst := some 2, op := .mov (.c (.bool false)) }])
  ((.seq ((.seq (.reg false [
    { dst := some 4, op := .mov (.t 0) },
    { dst := some 5, op := .len (.t 4) },
    { dst := some 6, op := .bin .gtr (.t 5) (.c (.int .i64 20)) }])
  (.cond (.t 6) ((.seq (.reg false [
    { dst := some 2, op := .mov (.c (.bool true)) }])
  (.ret))) (.skip))))
  (.keep [0] [100000] ((.seq ((.seq (.reg false [
    { dst := some 3, op := .mov (.c (.int .i64 0)) }])
  (.block 0 (.loop [0, 2, 3] [100000] b30_0))))
  (.keep [] [] ((.seq (.reg false [
    { dst := some 2, op := .mov (.c (.bool false)) }])
  (.ret))))))))))
/-- with its results -/
def a30 : AFun := ⟨c30, [(2, none)], 19⟩

def b31_0 : AC :=
  (.seq ((.seq (.reg false [
    { dst := some 7, op := .mov (.t 3) },
    { dst := some 8, op := .mov (.t 0) },
    { dst := some 9, op := .len (.t 8) },
    { dst := some 10, op := .bin .lss (.t 7) (.t 9) }])
  (.cond (.t 10) (.skip) (.exit 0))))
  (.keep [0, 2, 3] [100000] ((.seq (.block 1 ((.seq (.reg false [
    { dst := some 13, op := .mov (.t 0) },
    { dst := some 14, op := .mov (.t 3) },
    { dst := some 15, op := .iad 110 (.t 13) (.t 14) },
    { dst := some 16, op := .fad 1 (.t 15) },
    { dst := some 17, op := .fad 3 (.t 16) },
    { dst := some 18, op := .load none (.t 17) },
    { dst := some 19, op := .lenS (.t 18) },
    { dst := some 20, op := .bin .gtr (.t 19) (.c (.int .i64 1000)) }])
  (.cond (.t 20) ((.seq (.reg false [
    { dst := some 2, op := .mov (.c (.bool true)) }])
  (.ret))) (.skip)))))
  (.keep [0, 2, 3] [100000] (.reg false [
    { dst := some 11, op := .mov (.t 3) },
    { dst := some 12, op := .bin .add (.t 11) (.c (.int .i64 1)) },
    { dst := some 3, op := .mov (.t 12) }]))))))
/-- estreat/estreatref11.Big: parameters []api.Item -/
def c31 : AC :=
  (.seq (.reg false [
    { dst := some 2, op := .mov (.c (.bool false)) }])
  ((.seq ((.seq (.reg false [
    { dst := some 4, op := .mov (.t 0) },
    { dst := some 5, op := .len (.t 4) },
    { dst := some 6, op := .bin .gtr (.t 5) (.c (.int .i64 60)) }])
  (.cond (.t 6) ((.seq (.reg false [
    { dst := some 2, op := .mov (.c (.bool true)) }])
  (.ret))) (.skip))))
  (.keep [0] [100000] ((.seq ((.seq (.reg false [
    { dst := some 3, op := .mov (.c (.int .i64 0)) }])
  (.block 0 (.loop [0, 2, 3] [100000] b31_0))))
  (.keep [] [] ((.seq (.reg false [
    { dst := some 2, op := .mov (.c (.bool false)) }])
  (.ret))))))))))
/-- with its results -/
def a31 : AFun := ⟨c31, [(2, none)], 21⟩

end Go.Abs.Try

namespace Go.Abs.Try
open Go Go.Abs Go.Proofs
/-- the seat's code -/
def T : List (Nat × AFun) := [(3, a3), (4, a4), (5, a5), (6, a6), (7, a7), (8, a8), (9, a9), (10, a10), (11, a11), (12, a12), (13, a13), (14, a14), (15, a15), (16, a16), (17, a17), (18, a18), (19, a19), (20, a20), (21, a21), (22, a22), (23, a23), (24, a24), (25, a25), (26, a26), (27, a27), (28, a28), (29, a29), (30, a30), (31, a31)]
theorem tab : tabOK Try.prog T = true := by kernel_rfl
def Q (n : Nat) : Nat → Option CallF := Phi (fun _ => none) T 100 n
def E (n f : Nat) : CallF := Ev (fun _ => none) T 100 n f
theorem q3 (n : Nat) : Q (n + 1) 3 = some (E (n + 1) 3) := rfl
theorem e3 (n : Nat) : E (n + 1) 3 = evFun (Q n) 100 a3 := rfl
theorem q4 (n : Nat) : Q (n + 1) 4 = some (E (n + 1) 4) := rfl
theorem e4 (n : Nat) : E (n + 1) 4 = evFun (Q n) 100 a4 := rfl
theorem q5 (n : Nat) : Q (n + 1) 5 = some (E (n + 1) 5) := rfl
theorem e5 (n : Nat) : E (n + 1) 5 = evFun (Q n) 100 a5 := rfl
theorem q6 (n : Nat) : Q (n + 1) 6 = some (E (n + 1) 6) := rfl
theorem e6 (n : Nat) : E (n + 1) 6 = evFun (Q n) 100 a6 := rfl
theorem q7 (n : Nat) : Q (n + 1) 7 = some (E (n + 1) 7) := rfl
theorem e7 (n : Nat) : E (n + 1) 7 = evFun (Q n) 100 a7 := rfl
theorem q8 (n : Nat) : Q (n + 1) 8 = some (E (n + 1) 8) := rfl
theorem e8 (n : Nat) : E (n + 1) 8 = evFun (Q n) 100 a8 := rfl
theorem q9 (n : Nat) : Q (n + 1) 9 = some (E (n + 1) 9) := rfl
theorem e9 (n : Nat) : E (n + 1) 9 = evFun (Q n) 100 a9 := rfl
theorem q10 (n : Nat) : Q (n + 1) 10 = some (E (n + 1) 10) := rfl
theorem e10 (n : Nat) : E (n + 1) 10 = evFun (Q n) 100 a10 := rfl
theorem q11 (n : Nat) : Q (n + 1) 11 = some (E (n + 1) 11) := rfl
theorem e11 (n : Nat) : E (n + 1) 11 = evFun (Q n) 100 a11 := rfl
theorem q12 (n : Nat) : Q (n + 1) 12 = some (E (n + 1) 12) := rfl
theorem e12 (n : Nat) : E (n + 1) 12 = evFun (Q n) 100 a12 := rfl
theorem q13 (n : Nat) : Q (n + 1) 13 = some (E (n + 1) 13) := rfl
theorem e13 (n : Nat) : E (n + 1) 13 = evFun (Q n) 100 a13 := rfl
theorem q14 (n : Nat) : Q (n + 1) 14 = some (E (n + 1) 14) := rfl
theorem e14 (n : Nat) : E (n + 1) 14 = evFun (Q n) 100 a14 := rfl
theorem q15 (n : Nat) : Q (n + 1) 15 = some (E (n + 1) 15) := rfl
theorem e15 (n : Nat) : E (n + 1) 15 = evFun (Q n) 100 a15 := rfl
theorem q16 (n : Nat) : Q (n + 1) 16 = some (E (n + 1) 16) := rfl
theorem e16 (n : Nat) : E (n + 1) 16 = evFun (Q n) 100 a16 := rfl
theorem q17 (n : Nat) : Q (n + 1) 17 = some (E (n + 1) 17) := rfl
theorem e17 (n : Nat) : E (n + 1) 17 = evFun (Q n) 100 a17 := rfl
theorem q18 (n : Nat) : Q (n + 1) 18 = some (E (n + 1) 18) := rfl
theorem e18 (n : Nat) : E (n + 1) 18 = evFun (Q n) 100 a18 := rfl
theorem q19 (n : Nat) : Q (n + 1) 19 = some (E (n + 1) 19) := rfl
theorem e19 (n : Nat) : E (n + 1) 19 = evFun (Q n) 100 a19 := rfl
theorem q20 (n : Nat) : Q (n + 1) 20 = some (E (n + 1) 20) := rfl
theorem e20 (n : Nat) : E (n + 1) 20 = evFun (Q n) 100 a20 := rfl
theorem q21 (n : Nat) : Q (n + 1) 21 = some (E (n + 1) 21) := rfl
theorem e21 (n : Nat) : E (n + 1) 21 = evFun (Q n) 100 a21 := rfl
theorem q22 (n : Nat) : Q (n + 1) 22 = some (E (n + 1) 22) := rfl
theorem e22 (n : Nat) : E (n + 1) 22 = evFun (Q n) 100 a22 := rfl
theorem q23 (n : Nat) : Q (n + 1) 23 = some (E (n + 1) 23) := rfl
theorem e23 (n : Nat) : E (n + 1) 23 = evFun (Q n) 100 a23 := rfl
theorem q24 (n : Nat) : Q (n + 1) 24 = some (E (n + 1) 24) := rfl
theorem e24 (n : Nat) : E (n + 1) 24 = evFun (Q n) 100 a24 := rfl
theorem q25 (n : Nat) : Q (n + 1) 25 = some (E (n + 1) 25) := rfl
theorem e25 (n : Nat) : E (n + 1) 25 = evFun (Q n) 100 a25 := rfl
theorem q26 (n : Nat) : Q (n + 1) 26 = some (E (n + 1) 26) := rfl
theorem e26 (n : Nat) : E (n + 1) 26 = evFun (Q n) 100 a26 := rfl
theorem q27 (n : Nat) : Q (n + 1) 27 = some (E (n + 1) 27) := rfl
theorem e27 (n : Nat) : E (n + 1) 27 = evFun (Q n) 100 a27 := rfl
theorem q28 (n : Nat) : Q (n + 1) 28 = some (E (n + 1) 28) := rfl
theorem e28 (n : Nat) : E (n + 1) 28 = evFun (Q n) 100 a28 := rfl
theorem q29 (n : Nat) : Q (n + 1) 29 = some (E (n + 1) 29) := rfl
theorem e29 (n : Nat) : E (n + 1) 29 = evFun (Q n) 100 a29 := rfl
theorem q30 (n : Nat) : Q (n + 1) 30 = some (E (n + 1) 30) := rfl
theorem e30 (n : Nat) : E (n + 1) 30 = evFun (Q n) 100 a30 := rfl
theorem q31 (n : Nat) : Q (n + 1) 31 = some (E (n + 1) 31) := rfl
theorem e31 (n : Nat) : E (n + 1) 31 = evFun (Q n) 100 a31 := rfl
theorem ref (n f : Nat) {F} (h : Q n f = some F) : Refines Try.prog f (E n f) := Ev_refines noBase tab h
end Go.Abs.Try

namespace Go.Abs.Try
open Go Go.Abs
set_option maxHeartbeats 8000000
set_option maxRecDepth 100000
set_option linter.unusedSimpArgs false
set_option linter.unusedVariables false
theorem calls_ok : E 6 11 [] = some (.bool true, []) := by kernel_rfl

def inB (n lo hi : Int) : Bool := decide (lo ≤ n) && decide (n ≤ hi)

theorem within21 (n : Nat) (a b c : Int) : E (n + 1) 21 [.int .i64 a, .int .i64 b, .int .i64 c] = some (.bool (inB a b c), []) := by
  rw [e21]
  by_cases h1 : b ≤ a <;> by_cases h2 : a ≤ c <;> simp -implicitDefEqProofs [a21, c21, inB, h1, h2]
theorem within23 (n : Nat) (a b c : Int) : E (n + 1) 23 [.int .i64 a, .int .i64 b, .int .i64 c] = some (.bool (inB a b c), []) := by
  rw [e23]
  by_cases h1 : b ≤ a <;> by_cases h2 : a ≤ c <;> simp -implicitDefEqProofs [a23, c23, inB, h1, h2]
theorem regions22 (n : Nat) (a : Int) : E (n + 1) 22 [.int .i64 a] = some (.bool (inB a 3 5), []) := by
  rw [e22]
  by_cases h1 : 3 ≤ a <;> by_cases h2 : a ≤ 5 <;> simp -implicitDefEqProofs [a22, c22, inB, h1, h2]

def cl (id rs rg tg sq : Int) (bz : Bool) (tx : ByteArray) : AV := .agg [.int .i64 id, .int .i64 rs, .int .i64 rg, .int .i64 tg, .int .i64 sq, .bool bz, .str tx]
def right (id rs rg tg sq : Int) (bz : Bool) (tx : ByteArray) : Bool :=
  inB rs 3 5 && (inB id 1 3 && (inB rg 1 rs && (inB tg 1 3 && (inB sq 0 1000000 && (decide ((tx.size : Int) ≤ 300) && (if bz then decide (0 < sq) else tx.toList.isEmpty))))))

theorem check10 (n : Nat) (id rs rg tg sq : Int) (bz : Bool) (tx : ByteArray) : E (n + 2) 10 [cl id rs rg tg sq bz tx] = some (.int .i64 (if right id rs rg tg sq bz tx then 0 else 180), []) := by
  rw [e10]
  cases h1 : inB rs 3 5
  · simp -implicitDefEqProofs [a10, c10, q21, within21, cl, right, h1]
  cases h2 : inB id 1 3
  · simp -implicitDefEqProofs [a10, c10, q21, within21, cl, right, h1, h2]
  cases h3 : inB rg 1 rs
  · simp -implicitDefEqProofs [a10, c10, q21, within21, cl, right, h1, h2, h3]
  cases h4 : inB tg 1 3
  · simp -implicitDefEqProofs [a10, c10, q21, within21, cl, right, h1, h2, h3, h4]
  cases h5 : inB sq 0 1000000
  · simp -implicitDefEqProofs [a10, c10, q21, within21, cl, right, h1, h2, h3, h4, h5]
  by_cases h6 : (tx.size : Int) ≤ 300
  · cases bz
    · cases h7 : tx.toList.isEmpty
      · simp -implicitDefEqProofs [a10, c10, q21, within21, cl, right, h1, h2, h3, h4, h5, h6, h7]
      · simp -implicitDefEqProofs [a10, c10, q21, within21, cl, right, h1, h2, h3, h4, h5, h6, h7]
    · by_cases h7 : 0 < sq
      · simp -implicitDefEqProofs [a10, c10, q21, within21, cl, right, h1, h2, h3, h4, h5, h6, h7]
      · simp -implicitDefEqProofs [a10, c10, q21, within21, cl, right, h1, h2, h3, h4, h5, h6, h7]
  · simp -implicitDefEqProofs [a10, c10, q21, within21, cl, right, h1, h2, h3, h4, h5, h6]

theorem right12 (n : Nat) (id rs rg tg sq : Int) (bz : Bool) (tx : ByteArray) : E (n + 2) 12 [cl id rs rg tg sq bz tx] = some (.bool (right id rs rg tg sq bz tx), []) := by
  rw [e12]
  cases h1 : inB rs 3 5
  · simp -implicitDefEqProofs [a12, c12, q22, q23, regions22, within23, cl, right, h1]
  cases h2 : inB id 1 3
  · simp -implicitDefEqProofs [a12, c12, q22, q23, regions22, within23, cl, right, h1, h2]
  cases h3 : inB rg 1 rs
  · simp -implicitDefEqProofs [a12, c12, q22, q23, regions22, within23, cl, right, h1, h2, h3]
  cases h4 : inB tg 1 3
  · simp -implicitDefEqProofs [a12, c12, q22, q23, regions22, within23, cl, right, h1, h2, h3, h4]
  cases h5 : inB sq 0 1000000
  · simp -implicitDefEqProofs [a12, c12, q22, q23, regions22, within23, cl, right, h1, h2, h3, h4, h5]
  by_cases h6 : (tx.size : Int) ≤ 300
  · have h6' : ¬ 300 < (tx.size : Int) := by omega
    cases bz
    · simp -implicitDefEqProofs [a12, c12, q22, q23, regions22, within23, cl, right, h1, h2, h3, h4, h5, h6, h6']
    · by_cases h7 : 0 < sq
      · have h8 : 1 ≤ sq := by omega
        simp -implicitDefEqProofs [a12, c12, q22, q23, regions22, within23, cl, right, h1, h2, h3, h4, h5, h6, h6', h7, h8]
      · have h8 : ¬ 1 ≤ sq := by omega
        simp -implicitDefEqProofs [a12, c12, q22, q23, regions22, within23, cl, right, h1, h2, h3, h4, h5, h6, h6', h7, h8]
  · have h6' : 300 < (tx.size : Int) := by omega
    simp -implicitDefEqProofs [a12, c12, q22, q23, regions22, within23, cl, right, h1, h2, h3, h4, h5, h6, h6']

/-- none -/
def cl0 : AV := cl 0 0 0 0 0 false ⟨#[]⟩
def newR (id rs : Int) : AV := if right id rs 1 1 0 false ⟨#[]⟩ then .tup [cl id rs 1 1 0 false ⟨#[]⟩, .int .i64 0] else .tup [cl0, .int .i64 180]
theorem new8 (n : Nat) (id rs : Int) : E (n + 3) 8 [.int .i64 id, .int .i64 rs] = some (newR id rs, []) := by
  rw [e8]
  have h := check10 n id rs 1 1 0 false ⟨#[]⟩
  cases hr : right id rs 1 1 0 false ⟨#[]⟩ <;> simp only [hr, cl, if_true, Bool.false_eq_true, if_false] at h <;> simp -implicitDefEqProofs [a8, c8, q10, z23, h, newR, hr, cl, cl0]
theorem new9 (n : Nat) (id rs : Int) : E (n + 3) 9 [.int .i64 id, .int .i64 rs] = some (newR id rs, []) := by
  rw [e9]
  have h := right12 n id rs 1 1 0 false ⟨#[]⟩
  cases hr : right id rs 1 1 0 false ⟨#[]⟩ <;> simp only [hr, cl] at h <;> simp -implicitDefEqProofs [a9, c9, q12, z23, h, newR, hr, cl, cl0]
end Go.Abs.Try

namespace Go.Abs.Try
open Go Go.Abs
set_option maxHeartbeats 8000000
set_option maxRecDepth 100000
set_option linter.unusedSimpArgs false
set_option linter.unusedVariables false

theorem ok_one_int {k} {x : AV} (h : okRow [.int k] [x]) : ∃ n, x = .int k n := by
  simp only [okRow, CSh.ok] at h
  obtain ⟨⟨n, e, _⟩, _⟩ := h
  exact ⟨n, e⟩
theorem ok_one_str {x : AV} (h : okRow [.str] [x]) : ∃ s, x = .str s := by
  simp only [okRow, CSh.ok] at h
  obtain ⟨⟨n, e, _⟩, _⟩ := h
  exact ⟨n, e⟩
theorem ok_client {x : AV} (h : ∃ cs, x = .agg cs ∧ okRow [.int .i64, .int .i64, .int .i64, .int .i64, .int .i64, .bool, .str] cs) : ∃ id rs rg tg sq bz tx, x = cl id rs rg tg sq bz tx := by
  obtain ⟨cs, rfl, h⟩ := h
  obtain ⟨id, l1, rfl, _, h1⟩ := h.int
  obtain ⟨rs, l2, rfl, _, h2⟩ := h1.int
  obtain ⟨rg, l3, rfl, _, h3⟩ := h2.int
  obtain ⟨tg, l4, rfl, _, h4⟩ := h3.int
  obtain ⟨sq, l5, rfl, _, h5⟩ := h4.int
  obtain ⟨bz, l6, rfl, h6⟩ := h5.bool
  obtain ⟨tx, l7, rfl, _, h7⟩ := h6.str
  obtain rfl := h7.nil_inv
  exact ⟨id, rs, rg, tg, sq, bz, tx, rfl⟩

theorem law3 (x0 x1 x2 : AV) (o0 : okRow [.int .i64] [x0]) (o1 : okRow [.int .i64] [x1])
    (o2 : ∃ cs, x2 = .agg cs ∧ okRow [.int .i64, .int .i64, .int .i64, .int .i64, .int .i64, .bool, .str] cs) : E 7 3 [x0, x1, x2] = some (.bool true, []) := by
  obtain ⟨id, rfl⟩ := ok_one_int o0
  obtain ⟨rs, rfl⟩ := ok_one_int o1
  obtain ⟨id', rs', rg, tg, sq, bz, tx, rfl⟩ := ok_client o2
  rw [e3]
  by_cases hl : 5000 < (tx.size : Int)
  · simp -implicitDefEqProofs [a3, c3, cl, hl]
  have hc := check10 4 id' rs' rg tg sq bz tx
  have hr := right12 4 id' rs' rg tg sq bz tx
  have hn := new8 3 id rs
  have hm := new9 3 id rs
  unfold newR at hn hm
  cases h1 : right id' rs' rg tg sq bz tx <;> cases h2 : right id rs 1 1 0 false ⟨#[]⟩ <;> simp only [h1, h2, cl, cl0, if_true, Bool.false_eq_true, if_false] at hc hr hn hm <;>
    simp -implicitDefEqProofs [a3, c3, q8, q9, q10, q11, q12, z23, cl, hl, hn, hm, hc, hr, calls_ok]
theorem ref3 : Refines Go.Proofs.Try.prog 3 (E 7 3) := ref 7 3 (q3 6)
end Go.Abs.Try

namespace Go.Abs.Try
open Go Go.Abs
set_option maxHeartbeats 8000000
set_option maxRecDepth 100000
set_option linter.unusedSimpArgs false
set_option linter.unusedVariables false

/-- what a client submits -/
def msg (id rg tg sq : Int) (tx : ByteArray) : List AV :=
  [.int .i64 1, .int .i64 0, .int .i64 id, .int .i64 rg, .int .i64 tg] ++ (z45.drop 5).take 111 ++ [.int .i64 sq, .str tx, .int .i64 0, .bool false]
theorem msg_len (id rg tg sq tx) : (msg id rg tg sq tx).length = 120 := rfl
theorem msg_plain (id rg tg sq tx) : (msg id rg tg sq tx).all AV.plain = true := by kernel_rfl
theorem msg_cellb (id rg tg sq tx) : cellsOK (msg id rg tg sq tx) = true := plains_cells (msg_plain ..)
theorem z45_len : z45.length = 120 := rfl
theorem z45_drop : z45.drop 120 = [] := rfl
theorem z45_plain : z45.all AV.plain = true := by kernel_rfl
theorem z45_cellb : cellsOK z45 = true := plains_cells z45_plain

theorem msg24 (n : Nat) (id rs rg tg sq : Int) (bz : Bool) (tx : ByteArray) : E (n + 1) 24 [.pv [.int .i64 id, .int .i64 rs, .int .i64 rg, .int .i64 tg, .int .i64 sq, .bool bz, .str tx]] =
    some (.agg (msg id rg tg sq tx), [[.int .i64 id, .int .i64 rs, .int .i64 rg, .int .i64 tg, .int .i64 sq, .bool bz, .str tx]]) := by kernel_rfl
theorem msg25 (n : Nat) (id rs rg tg sq : Int) (bz : Bool) (tx : ByteArray) : E (n + 1) 25 [cl id rs rg tg sq bz tx] = some (.agg (msg id rg tg sq tx), []) := by kernel_rfl
theorem next26 (n : Nat) (id rs rg tg sq : Int) (bz : Bool) (tx : ByteArray) (h1 : 1 ≤ tg) (h2 : tg ≤ 3) : E (n + 1) 26 [.pv [.int .i64 id, .int .i64 rs, .int .i64 rg, .int .i64 tg, .int .i64 sq, .bool bz, .str tx]] =
    some (.tup [], [[.int .i64 id, .int .i64 rs, .int .i64 rg, .int .i64 (if tg = 3 then 1 else tg + 1), .int .i64 sq, .bool bz, .str tx]]) := by
  obtain rfl | rfl | rfl : tg = 1 ∨ tg = 2 ∨ tg = 3 := by omega
  · kernel_rfl
  · kernel_rfl
  · kernel_rfl
end Go.Abs.Try

namespace Go.Abs.Try
open Go Go.Abs
set_option maxHeartbeats 8000000
set_option maxRecDepth 100000
set_option linter.unusedSimpArgs false
set_option linter.unusedVariables false

theorem z45_mv (h : AH) : mvCells h z45 = some (z45, h) := plains_mv z45_plain h
theorem z45_in (h : AH) (c nm : Nat) : inCells h c nm z45 = some (z45, h, c) := plains_in z45_plain h c nm
theorem msg_mv (id rg tg sq tx) (h : AH) : mvCells h (msg id rg tg sq tx) = some (msg id rg tg sq tx, h) := plains_mv (msg_plain ..) h
theorem msg_in (id rg tg sq tx) (h : AH) (c nm : Nat) : inCells h c nm (msg id rg tg sq tx) = some (msg id rg tg sq tx, h, c) := plains_in (msg_plain ..) h c nm
theorem msg_low (id rg tg sq tx) (ns al) : lowL ns al (msg id rg tg sq tx) = true := plains_low (msg_plain ..) ns al
theorem msg_lend (id rg tg sq tx) (h : AH) : lendCells h (msg id rg tg sq tx) = some (msg id rg tg sq tx) := plains_lend (msg_plain ..) h
theorem z45_low (ns al) : lowL ns al z45 = true := plains_low z45_plain ns al
theorem msg_take (id rg tg sq tx) : (msg id rg tg sq tx).take 120 = msg id rg tg sq tx := rfl
theorem z45_take : z45.take 120 = z45 := rfl

def msg0 : AV := .agg z45
/-- what Submit answers -/
def subR (id rs rg tg sq : Int) (bz : Bool) (tx : ByteArray) (r : Int) (t : ByteArray) : AV :=
  if right id rs rg tg sq bz tx then
    if bz then .tup [cl0, msg0, .int .i64 181]
    else if sq = 1000000 then .tup [cl0, msg0, .int .i64 180]
    else if inB r 1 rs then
      if 300 < (t.size : Int) then .tup [cl0, msg0, .int .i64 180]
      else .tup [cl id rs r (if rg = r then tg else 1) (sq + 1) true t, .agg (msg id r (if rg = r then tg else 1) (sq + 1) t), .int .i64 0]
    else .tup [cl0, msg0, .int .i64 180]
  else .tup [cl0, msg0, .int .i64 180]

theorem submit13 (n : Nat) (id rs rg tg sq : Int) (bz : Bool) (tx : ByteArray) (r : Int) (t : ByteArray) : E (n + 3) 13 [cl id rs rg tg sq bz tx, .int .i64 r, .str t] = some (subR id rs rg tg sq bz tx r t, []) := by
  rw [e13]
  have h := check10 n id rs rg tg sq bz tx
  unfold cl at h
  cases hr : right id rs rg tg sq bz tx
  · simp only [hr, Bool.false_eq_true, if_false] at h
    simp -implicitDefEqProofs [a13, c13, q10, h, subR, hr, cl, cl0, msg0, z23, z45_len, z45_drop, z45_cellb, z45_mv, z45_take]
  simp only [hr, if_true] at h
  have hsq : 0 ≤ sq ∧ sq ≤ 1000000 := by
    simp only [right, Bool.and_eq_true, inB, decide_eq_true_eq] at hr
    exact hr.2.2.2.2.1
  obtain ⟨hs0, hs1⟩ := hsq
  cases bz
  · by_cases h1 : sq = 1000000
    · subst h1
      simp -implicitDefEqProofs [a13, c13, q10, h, subR, hr, cl, cl0, msg0, z23, z45_len, z45_drop, z45_cellb, z45_mv, z45_take]
    have h1' : (sq == 1000000) = false := by simpa using h1
    cases h2 : inB r 1 rs
    · simp -implicitDefEqProofs [a13, c13, q10, q21, within21, h, subR, hr, cl, cl0, msg0, z23, z45_len, z45_drop, z45_cellb, z45_mv, z45_take, h1, h1', h2]
    by_cases h3 : 300 < (t.size : Int)
    · simp -implicitDefEqProofs [a13, c13, q10, q21, within21, h, subR, hr, cl, cl0, msg0, z23, z45_len, z45_drop, z45_cellb, z45_mv, z45_take, h1, h1', h2, h3]
    by_cases h4 : rg = r
    · subst h4
      simp -implicitDefEqProofs (disch := first | omega | simp) [a13, c13, q10, q21, q24, within21, msg24, h, subR, hr, cl, cl0, msg0, z23, z72, z45_len, z45_drop, z45_cellb, z45_mv, z45_take, z45_low, msg_len, msg_mv, msg_in, msg_low, msg_take, msg_cellb, wrap_i64, h1, h1', h2, h3]
    · have h4' : (rg != r) = true := by simpa using h4
      simp -implicitDefEqProofs (disch := first | omega | simp) [a13, c13, q10, q21, q24, within21, msg24, h, subR, hr, cl, cl0, msg0, z23, z72, z45_len, z45_drop, z45_cellb, z45_mv, z45_take, z45_low, msg_len, msg_mv, msg_in, msg_low, msg_take, msg_cellb, wrap_i64, h1, h1', h2, h3, h4, h4']
  · simp -implicitDefEqProofs [a13, c13, q10, h, subR, hr, cl, cl0, msg0, z23, z45_len, z45_drop, z45_cellb, z45_mv, z45_take]
end Go.Abs.Try

namespace Go.Abs.Try
open Go Go.Abs
set_option maxHeartbeats 8000000
set_option maxRecDepth 100000
set_option linter.unusedSimpArgs false
set_option linter.unusedVariables false

attribute [simp] msg_len msg_mv msg_in msg_low msg_take msg_cellb z45_len z45_drop z45_cellb z45_mv z45_take z45_low z45_in msg_lend
theorem submit14 (n : Nat) (id rs rg tg sq : Int) (bz : Bool) (tx : ByteArray) (r : Int) (t : ByteArray) : E (n + 3) 14 [cl id rs rg tg sq bz tx, .int .i64 r, .str t] = some (subR id rs rg tg sq bz tx r t, []) := by
  rw [e14]
  have h := right12 n id rs rg tg sq bz tx
  have g := msg25 (n + 1)
  unfold cl at h g
  cases hr : right id rs rg tg sq bz tx
  · simp only [hr] at h
    simp -implicitDefEqProofs [a14, c14, q12, h, subR, hr, cl, cl0, msg0, z23]
  simp only [hr] at h
  have hsq : 0 ≤ sq ∧ sq ≤ 1000000 := by
    simp only [right, Bool.and_eq_true, inB, decide_eq_true_eq] at hr
    exact hr.2.2.2.2.1
  obtain ⟨hs0, hs1⟩ := hsq
  cases bz
  · by_cases h1 : sq = 1000000
    · subst h1
      simp -implicitDefEqProofs [a14, c14, q12, h, subR, hr, cl, cl0, msg0, z23]
    have h1' : ¬ 1000000 ≤ sq := by omega
    cases h2 : inB r 1 rs
    · simp -implicitDefEqProofs [a14, c14, q12, q23, within23, h, subR, hr, cl, cl0, msg0, z23, h1, h1', h2]
    by_cases h3 : 300 < (t.size : Int)
    · simp -implicitDefEqProofs [a14, c14, q12, q23, within23, h, subR, hr, cl, cl0, msg0, z23, h1, h1', h2, h3]
    by_cases h4 : rg = r
    · subst h4
      simp -implicitDefEqProofs (disch := first | omega | simp) [a14, c14, q12, q23, q25, within23, g, h, subR, hr, cl, cl0, msg0, z23, wrap_i64, h1, h1', h2, h3]
    · have h4' : (r != rg) = true := by simpa using fun e => h4 e.symm
      simp -implicitDefEqProofs (disch := first | omega | simp) [a14, c14, q12, q23, q25, within23, g, h, subR, hr, cl, cl0, msg0, z23, wrap_i64, h1, h1', h2, h3, h4, h4']
  · simp -implicitDefEqProofs [a14, c14, q12, h, subR, hr, cl, cl0, msg0, z23]
end Go.Abs.Try

namespace Go.Abs.Try
open Go Go.Abs
set_option maxHeartbeats 8000000
set_option maxRecDepth 100000
set_option linter.unusedSimpArgs false
set_option linter.unusedVariables false

/-- what Retry answers -/
def retR (id rs rg tg sq : Int) (bz : Bool) (tx : ByteArray) : AV :=
  if right id rs rg tg sq bz tx then
    if bz then .tup [cl id rs rg (if tg = 3 then 1 else tg + 1) sq true tx, .agg (msg id rg (if tg = 3 then 1 else tg + 1) sq tx), .int .i64 0]
    else .tup [cl id rs rg tg sq bz tx, msg0, .int .i64 0]
  else .tup [cl0, msg0, .int .i64 180]
theorem retry15 (n : Nat) (id rs rg tg sq : Int) (bz : Bool) (tx : ByteArray) : E (n + 3) 15 [cl id rs rg tg sq bz tx] = some (retR id rs rg tg sq bz tx, []) := by
  rw [e15]
  have h := check10 n id rs rg tg sq bz tx
  unfold cl at h
  cases hr : right id rs rg tg sq bz tx
  · simp only [hr, Bool.false_eq_true, if_false] at h
    simp -implicitDefEqProofs [a15, c15, q10, h, retR, hr, cl, cl0, msg0, z23]
  simp only [hr, if_true] at h
  have htg : 1 ≤ tg ∧ tg ≤ 3 := by
    simp only [right, Bool.and_eq_true, inB, decide_eq_true_eq] at hr
    exact hr.2.2.2.1
  have g := next26 (n + 1) id rs rg tg sq true tx htg.1 htg.2
  cases bz
  · simp -implicitDefEqProofs [a15, c15, q10, h, retR, hr, cl, cl0, msg0, z23]
  · simp -implicitDefEqProofs [a15, c15, q10, q26, q24, msg24, g, h, retR, hr, cl, cl0, msg0, z23, z72]
theorem retry16 (n : Nat) (id rs rg tg sq : Int) (bz : Bool) (tx : ByteArray) : E (n + 3) 16 [cl id rs rg tg sq bz tx] = some (retR id rs rg tg sq bz tx, []) := by
  rw [e16]
  have h := right12 n id rs rg tg sq bz tx
  have g := msg25 (n + 1)
  unfold cl at h g
  cases hr : right id rs rg tg sq bz tx
  · simp only [hr] at h
    simp -implicitDefEqProofs [a16, c16, q12, h, retR, hr, cl, cl0, msg0, z23]
  simp only [hr] at h
  have htg : 1 ≤ tg ∧ tg ≤ 3 := by
    simp only [right, Bool.and_eq_true, inB, decide_eq_true_eq] at hr
    exact hr.2.2.2.1
  obtain ⟨h2, h3⟩ := htg
  cases bz
  · simp -implicitDefEqProofs [a16, c16, q12, h, retR, hr, cl, cl0, msg0, z23]
  · by_cases h1 : tg = 3
    · subst h1
      simp -implicitDefEqProofs [a16, c16, q12, q25, g, h, retR, hr, cl, cl0, msg0, z23]
    · have h1' : (tg == 3) = false := by simpa using h1
      simp -implicitDefEqProofs (disch := first | omega | simp) [a16, c16, q12, q25, g, h, retR, hr, cl, cl0, msg0, z23, wrap_i64, h1, h1']
end Go.Abs.Try

namespace Go.Abs.Try
open Go Go.Abs
set_option maxHeartbeats 8000000
set_option maxRecDepth 100000
set_option linter.unusedSimpArgs false
set_option linter.unusedVariables false

theorem nil27 (n : Nat) : E (n + 1) 27 [.nilS, .nilS] = some (.bool true, []) := by kernel_rfl
theorem nil28 (n : Nat) : E (n + 1) 28 [.nilS, .nilS] = some (.bool true, []) := by kernel_rfl
/-- a message without items is the same as itself -/
theorem same17 (n : Nat) (m : List AV) (a0 a5 a6 a7 a8 a116 a118 : Int) (a117 : ByteArray) (a119 : Bool) (hm : m.length = 120) (hb : m.all AV.plain = true)
    (e0 : m[0]? = some (.int .i64 a0)) (e5 : m[5]? = some (.int .i64 a5)) (e6 : m[6]? = some (.int .i64 a6)) (e7 : m[7]? = some (.int .i64 a7)) (e8 : m[8]? = some (.int .i64 a8)) (e9 : m[9]? = some .nilS)
    (e115 : m[115]? = some .nilS) (e116 : m[116]? = some (.int .i64 a116)) (e117 : m[117]? = some (.str a117)) (e118 : m[118]? = some (.int .i64 a118)) (e119 : m[119]? = some (.bool a119))
    (t1 : kindsOK [0, 0] ((m.drop 1).take 2) = true) (t3 : kindsOK [0, 0] ((m.drop 3).take 2) = true) (t10 : kindsOK (List.replicate 36 0) ((m.drop 10).take 36) = true) (t46 : kindsOK (List.replicate 69 0) ((m.drop 46).take 69) = true) :
    E (n + 2) 17 [.agg m, .agg m] = some (.bool true, []) := by
  rw [e17]
  have s1 := aeq_self t1
  have s3 := aeq_self t3
  have s10 := aeq_self t10
  have s46 := aeq_self t46
  have hc := plains_cells hb
  have hl := plains_lend hb
  have hi := plains_in hb
  have e0' : m.head? = some (.int .i64 a0) := by rw [List.head?_eq_getElem?]; exact e0
  have f0 := (List.getElem?_eq_some_iff.1 e0).2
  have f5 := (List.getElem?_eq_some_iff.1 e5).2
  have f6 := (List.getElem?_eq_some_iff.1 e6).2
  have f7 := (List.getElem?_eq_some_iff.1 e7).2
  have f8 := (List.getElem?_eq_some_iff.1 e8).2
  have f9 := (List.getElem?_eq_some_iff.1 e9).2
  have f115 := (List.getElem?_eq_some_iff.1 e115).2
  have f116 := (List.getElem?_eq_some_iff.1 e116).2
  have f117 := (List.getElem?_eq_some_iff.1 e117).2
  have f118 := (List.getElem?_eq_some_iff.1 e118).2
  have f119 := (List.getElem?_eq_some_iff.1 e119).2
  simp only [List.replicate] at s10 s46
  simp only [List.drop_one] at s1
  simp -implicitDefEqProofs [a17, c17, q27, q28, nil27, nil28, hm, hc, hl, hi, e0', f0, f5, f6, f7, f8, f9, f115, f116, f117, f118, f119, e0, e5, e6, e7, e8, e9, e115, e116, e117, e118, e119, s1, s3, s10, s46]
theorem same_msg (n : Nat) (id rg tg sq tx) : E (n + 2) 17 [.agg (msg id rg tg sq tx), .agg (msg id rg tg sq tx)] = some (.bool true, []) :=
  same17 n _ 1 0 0 0 0 sq 0 tx false rfl (msg_plain ..) rfl rfl rfl rfl rfl rfl rfl rfl rfl rfl rfl (by kernel_rfl) (by kernel_rfl) (by kernel_rfl) (by kernel_rfl)
theorem same_z45 (n : Nat) : E (n + 2) 17 [.agg z45, .agg z45] = some (.bool true, []) := by kernel_rfl
end Go.Abs.Try

namespace Go.Abs.Try
open Go Go.Abs
set_option maxHeartbeats 16000000
set_option maxRecDepth 100000
set_option linter.unusedSimpArgs false
set_option linter.unusedVariables false

/-- the two answers of Submit, of Retry are one: what is compared holds -/
theorem law4 (x0 x1 x2 : AV) (o0 : ∃ cs, x0 = .agg cs ∧ okRow [.int .i64, .int .i64, .int .i64, .int .i64, .int .i64, .bool, .str] cs) (o1 : okRow [.int .i64] [x1]) (o2 : okRow [.str] [x2]) :
    E 7 4 [x0, x1, x2] = some (.bool true, []) := by
  obtain ⟨id, rs, rg, tg, sq, bz, tx, rfl⟩ := ok_client o0
  obtain ⟨r, rfl⟩ := ok_one_int o1
  obtain ⟨t, rfl⟩ := ok_one_str o2
  rw [e4]
  by_cases hl : 5000 < (tx.size : Int)
  · simp -implicitDefEqProofs [a4, c4, cl, hl]
  by_cases hk : 5000 < (t.size : Int)
  · simp -implicitDefEqProofs [a4, c4, cl, hl, hk]
  have h13 := submit13 3 id rs rg tg sq bz tx r t
  have h14 := submit14 3 id rs rg tg sq bz tx r t
  have h15 := retry15 3 id rs rg tg sq bz tx
  have h16 := retry16 3 id rs rg tg sq bz tx
  have hs : ∃ c m e, subR id rs rg tg sq bz tx r t = .tup [c, .agg m, .int .i64 e] ∧ (∃ i2 s2 r2 t2 q2 b2 x2, c = cl i2 s2 r2 t2 q2 b2 x2) ∧ (m = z45 ∨ ∃ i2 r2 t2 q2 x2, m = msg i2 r2 t2 q2 x2) := by
    unfold subR cl0 msg0
    repeat' split
    all_goals exact ⟨_, _, _, rfl, ⟨_, _, _, _, _, _, _, rfl⟩, by first | exact .inl rfl | exact .inr ⟨_, _, _, _, _, rfl⟩⟩
  have hr : ∃ c m e, retR id rs rg tg sq bz tx = .tup [c, .agg m, .int .i64 e] ∧ (∃ i2 s2 r2 t2 q2 b2 x2, c = cl i2 s2 r2 t2 q2 b2 x2) ∧ (m = z45 ∨ ∃ i2 r2 t2 q2 x2, m = msg i2 r2 t2 q2 x2) := by
    unfold retR cl0 msg0
    repeat' split
    all_goals exact ⟨_, _, _, rfl, ⟨_, _, _, _, _, _, _, rfl⟩, by first | exact .inl rfl | exact .inr ⟨_, _, _, _, _, rfl⟩⟩
  obtain ⟨c1, m1, f1, hs, ⟨_, _, _, _, _, _, _, rfl⟩, hm1⟩ := hs
  obtain ⟨c2, m2, f2, hr, ⟨_, _, _, _, _, _, _, rfl⟩, hm2⟩ := hr
  rw [hs] at h13 h14
  rw [hr] at h15 h16
  have w1 : E 6 17 [.agg m1, .agg m1] = some (.bool true, []) := by
    rcases hm1 with rfl | ⟨_, _, _, _, _, rfl⟩
    · exact same_z45 4
    · exact same_msg 4 ..
  have w2 : E 6 17 [.agg m2, .agg m2] = some (.bool true, []) := by
    rcases hm2 with rfl | ⟨_, _, _, _, _, rfl⟩
    · exact same_z45 4
    · exact same_msg 4 ..
  have p1 : m1.all AV.plain = true ∧ m1.length = 120 := by
    rcases hm1 with rfl | ⟨_, _, _, _, _, rfl⟩
    · exact ⟨z45_plain, z45_len⟩
    · exact ⟨msg_plain .., msg_len ..⟩
  have p2 : m2.all AV.plain = true ∧ m2.length = 120 := by
    rcases hm2 with rfl | ⟨_, _, _, _, _, rfl⟩
    · exact ⟨z45_plain, z45_len⟩
    · exact ⟨msg_plain .., msg_len ..⟩
  obtain ⟨p1, k1⟩ := p1
  obtain ⟨p2, k2⟩ := p2
  have i1 := plains_in p1
  have i2 := plains_in p2
  have l1 := plains_lend p1
  have l2 := plains_lend p2
  have d1 := plains_cells p1
  have d2 := plains_cells p2
  have g1 : m1.take 120 = m1 := List.take_of_length_le (by omega)
  have g2 : m2.take 120 = m2 := List.take_of_length_le (by omega)
  unfold cl at h13 h14 h15 h16
  simp -implicitDefEqProofs [a4, c4, q11, q13, q14, q15, q16, q17, h13, h14, h15, h16, w1, w2, i1, i2, l1, l2, d1, d2, k1, k2, g1, g2, cl, hl, hk, z23, calls_ok]
theorem ref4 : Refines Go.Proofs.Try.prog 4 (E 7 4) := ref 7 4 (q4 6)
end Go.Abs.Try

namespace Go.Abs.Try
open Go Go.Abs
set_option maxHeartbeats 16000000
set_option maxRecDepth 100000
set_option linter.unusedSimpArgs false
set_option linter.unusedVariables false

/-- a message that came -/
structure Msg (m : List AV) (kd fr fn tr tn sz sq cd : Int) (ok : Bool) : Prop where
  len : m.length = 120
  plain : m.all AV.plain = true
  e0 : m[0]? = some (.int .i64 kd)
  e1 : m[1]? = some (.int .i64 fr)
  e2 : m[2]? = some (.int .i64 fn)
  e3 : m[3]? = some (.int .i64 tr)
  e4 : m[4]? = some (.int .i64 tn)
  e7 : m[7]? = some (.int .i64 sz)
  e116 : m[116]? = some (.int .i64 sq)
  e118 : m[118]? = some (.int .i64 cd)
  e119 : m[119]? = some (.bool ok)

def hearOK (id rs rg tg sq : Int) (bz : Bool) (kd fr fn tr tn sq' : Int) (ok : Bool) : Bool :=
  bz && ((tr == 0 && tn == id) && ((fr == rg) && (inB fn 1 3 && ((kd == 2) && ((sq' == sq) && ok)))))
def hearR (id rs rg tg sq : Int) (bz : Bool) (tx : ByteArray) (kd fr fn tr tn sz sq' cd : Int) (ok : Bool) : AV :=
  if right id rs rg tg sq bz tx then
    if hearOK id rs rg tg sq bz kd fr fn tr tn sq' ok then .tup [cl id rs rg fn sq false ⟨#[]⟩, .agg [.int .i64 id, .int .i64 sq, .int .i64 rg, .str tx, .int .i64 sz, .int .i64 cd], .bool true, .int .i64 0]
    else .tup [cl id rs rg tg sq bz tx, .agg z62, .bool false, .int .i64 0]
  else .tup [cl0, .agg z62, .bool false, .int .i64 180]

theorem hear19 (n : Nat) (id rs rg tg sq : Int) (bz : Bool) (tx : ByteArray) (m : List AV) (kd fr fn tr tn sz sq' cd : Int) (ok : Bool) (M : Msg m kd fr fn tr tn sz sq' cd ok) :
    E (n + 3) 19 [cl id rs rg tg sq bz tx, .agg m] = some (hearR id rs rg tg sq bz tx kd fr fn tr tn sz sq' cd ok, []) := by
  rw [e19]
  have h := check10 n id rs rg tg sq bz tx
  unfold cl at h
  have c2 := plains_cells M.plain
  have l2 := plains_lend M.plain
  have i2 := plains_in M.plain
  have hm := M.len
  have f0' : m.head? = some (.int .i64 kd) := by rw [List.head?_eq_getElem?]; exact M.e0
  have f0 := (List.getElem?_eq_some_iff.1 M.e0).2
  have f1 := (List.getElem?_eq_some_iff.1 M.e1).2
  have f2 := (List.getElem?_eq_some_iff.1 M.e2).2
  have f7 := (List.getElem?_eq_some_iff.1 M.e7).2
  have f116 := (List.getElem?_eq_some_iff.1 M.e116).2
  have f118 := (List.getElem?_eq_some_iff.1 M.e118).2
  have f119 := (List.getElem?_eq_some_iff.1 M.e119).2
  have t3 := take2_get M.e3 M.e4
  cases hr : right id rs rg tg sq bz tx
  · simp only [hr, Bool.false_eq_true, if_false] at h
    simp -implicitDefEqProofs [a19, c19, q10, h, hearR, hr, cl, cl0, z23, z33, z62, c2, l2, i2, hm, f0', f0, f1, f2, f7, f116, f118, f119, t3]
  simp only [hr, if_true] at h
  cases b1 : (tr == 0)
  · cases bz <;> simp -implicitDefEqProofs [a19, c19, q10, h, hearR, hearOK, hr, cl, cl0, z23, z33, z62, c2, l2, i2, hm, f0', f0, f1, f2, f7, f116, f118, f119, t3, b1]
  cases b2 : (tn == id)
  · cases bz <;> simp -implicitDefEqProofs [a19, c19, q10, h, hearR, hearOK, hr, cl, cl0, z23, z33, z62, c2, l2, i2, hm, f0', f0, f1, f2, f7, f116, f118, f119, t3, b1, b2]
  cases b3 : (fr == rg)
  · cases bz <;> simp -implicitDefEqProofs [a19, c19, q10, h, hearR, hearOK, hr, cl, cl0, z23, z33, z62, c2, l2, i2, hm, f0', f0, f1, f2, f7, f116, f118, f119, t3, b1, b2, b3]
  cases b4 : inB fn 1 3
  · cases bz <;> simp -implicitDefEqProofs [a19, c19, q10, q21, within21, h, hearR, hearOK, hr, cl, cl0, z23, z33, z62, c2, l2, i2, hm, f0', f0, f1, f2, f7, f116, f118, f119, t3, b1, b2, b3, b4]
  cases bz
  · simp -implicitDefEqProofs [a19, c19, q10, q21, within21, h, hearR, hearOK, hr, cl, cl0, z23, z33, z62, c2, l2, i2, hm, f0', f0, f1, f2, f7, f116, f118, f119, t3, b1, b2, b3, b4]
  by_cases b5 : kd = 2
  · subst b5
    by_cases b6 : sq' = sq
    · subst b6
      cases ok <;> simp -implicitDefEqProofs [a19, c19, q10, q21, within21, h, hearR, hearOK, hr, cl, cl0, z23, z33, z62, c2, l2, i2, hm, f0', f0, f1, f2, f7, f116, f118, f119, t3, b1, b2, b3, b4]
    · have b6' : (sq' == sq) = false := by simpa using b6
      have b6'' : (sq' != sq) = true := by simpa using b6
      simp -implicitDefEqProofs [a19, c19, q10, q21, within21, h, hearR, hearOK, hr, cl, cl0, z23, z33, z62, c2, l2, i2, hm, f0', f0, f1, f2, f7, f116, f118, f119, t3, b1, b2, b3, b4, b6', b6'']
  · have b5' : (kd == 2) = false := by simpa using b5
    have b5'' : (kd != 2) = true := by simpa using b5
    simp -implicitDefEqProofs [a19, c19, q10, q21, within21, h, hearR, hearOK, hr, cl, cl0, z23, z33, z62, c2, l2, i2, hm, f0', f0, f1, f2, f7, f116, f118, f119, t3, b1, b2, b3, b4, b5', b5'']
end Go.Abs.Try

namespace Go.Abs.Try
open Go Go.Abs
set_option maxHeartbeats 16000000
set_option maxRecDepth 100000
set_option linter.unusedSimpArgs false
set_option linter.unusedVariables false
theorem hear20 (n : Nat) (id rs rg tg sq : Int) (bz : Bool) (tx : ByteArray) (m : List AV) (kd fr fn tr tn sz sq' cd : Int) (ok : Bool) (M : Msg m kd fr fn tr tn sz sq' cd ok) :
    E (n + 3) 20 [cl id rs rg tg sq bz tx, .agg m] = some (hearR id rs rg tg sq bz tx kd fr fn tr tn sz sq' cd ok, []) := by
  rw [e20]
  have h := right12 n id rs rg tg sq bz tx
  unfold cl at h
  have c2 := plains_cells M.plain
  have l2 := plains_lend M.plain
  have i2 := plains_in M.plain
  have hm := M.len
  have f0' : m.head? = some (.int .i64 kd) := by rw [List.head?_eq_getElem?]; exact M.e0
  have f0 := (List.getElem?_eq_some_iff.1 M.e0).2
  have f1 := (List.getElem?_eq_some_iff.1 M.e1).2
  have f2 := (List.getElem?_eq_some_iff.1 M.e2).2
  have f7 := (List.getElem?_eq_some_iff.1 M.e7).2
  have f116 := (List.getElem?_eq_some_iff.1 M.e116).2
  have f118 := (List.getElem?_eq_some_iff.1 M.e118).2
  have f119 := (List.getElem?_eq_some_iff.1 M.e119).2
  have t3 := take2_get M.e3 M.e4
  cases hr : right id rs rg tg sq bz tx
  · simp only [hr] at h
    simp -implicitDefEqProofs [a20, c20, q12, q23, within23, h, hearR, hearOK, hr, cl, cl0, z23, z33, z62, c2, l2, i2, hm, f0', f0, f1, f2, f7, f116, f118, f119, t3]
  simp only [hr] at h
  cases bz
  · simp -implicitDefEqProofs [a20, c20, q12, q23, within23, h, hearR, hearOK, hr, cl, cl0, z23, z33, z62, c2, l2, i2, hm, f0', f0, f1, f2, f7, f116, f118, f119, t3]
  by_cases b5 : kd = 2
  rotate_left
  · have b5' : (kd == 2) = false := by simpa using b5
    have b5'' : (kd != 2) = true := by simpa using b5
    simp -implicitDefEqProofs [a20, c20, q12, q23, within23, h, hearR, hearOK, hr, cl, cl0, z23, z33, z62, c2, l2, i2, hm, f0', f0, f1, f2, f7, f116, f118, f119, t3, b5', b5'']
  subst b5
  by_cases b3 : fr = rg
  rotate_left
  · have b3' : (fr == rg) = false := by simpa using b3
    have b3'' : (fr != rg) = true := by simpa using b3
    simp -implicitDefEqProofs [a20, c20, q12, q23, within23, h, hearR, hearOK, hr, cl, cl0, z23, z33, z62, c2, l2, i2, hm, f0', f0, f1, f2, f7, f116, f118, f119, t3, b3', b3'']
  subst b3
  cases b4 : inB fn 1 3
  · simp -implicitDefEqProofs [a20, c20, q12, q23, within23, h, hearR, hearOK, hr, cl, cl0, z23, z33, z62, c2, l2, i2, hm, f0', f0, f1, f2, f7, f116, f118, f119, t3, b4]
  cases b1 : (tr == 0)
  · simp -implicitDefEqProofs [a20, c20, q12, q23, within23, h, hearR, hearOK, hr, cl, cl0, z23, z33, z62, c2, l2, i2, hm, f0', f0, f1, f2, f7, f116, f118, f119, t3, b4, b1]
  cases b2 : (tn == id)
  · simp -implicitDefEqProofs [a20, c20, q12, q23, within23, h, hearR, hearOK, hr, cl, cl0, z23, z33, z62, c2, l2, i2, hm, f0', f0, f1, f2, f7, f116, f118, f119, t3, b4, b1, b2]
  by_cases b6 : sq' = sq
  rotate_left
  · have b6' : (sq' == sq) = false := by simpa using b6
    have b6'' : (sq' != sq) = true := by simpa using b6
    simp -implicitDefEqProofs [a20, c20, q12, q23, within23, h, hearR, hearOK, hr, cl, cl0, z23, z33, z62, c2, l2, i2, hm, f0', f0, f1, f2, f7, f116, f118, f119, t3, b4, b1, b2, b6', b6'']
  subst b6
  cases ok <;> simp -implicitDefEqProofs [a20, c20, q12, q23, within23, h, hearR, hearOK, hr, cl, cl0, z23, z33, z62, c2, l2, i2, hm, f0', f0, f1, f2, f7, f116, f118, f119, t3, b4, b1, b2]
end Go.Abs.Try

namespace Go.Abs.Try
open Go Go.Abs
set_option maxHeartbeats 16000000
set_option maxRecDepth 100000
set_option linter.unusedSimpArgs false
set_option linter.unusedVariables false

theorem loop31 (Φ : Nat → Option CallF) (K c : Nat) (rows : List (List AV)) (hrow : ∀ r, r ∈ rows → ∃ s, r[4]? = some (.str s)) (hlen : rows.length ≤ 60) : ∀ (d i k : Nat), i + d = rows.length → d < k →
    ∃ e s', iter (ev Φ K b31_0) [0, 2, 3] [100000] k ⟨[(0, .ro false 110 rows), (3, .int .i64 i)], [], c⟩ = some (e, s') ∧
      (e = .exit 0 ∨ (e = .ret ∧ envGet s'.env 2 = some (.bool true)))
  | 0, i, 0, _, h => by omega
  | d, i, 0, _, h => by omega
  | 0, i, k + 1, hi, _ => by
    have h1 : ¬ (i : Int) < rows.length := by omega
    rw [iter_succ]
    simp -implicitDefEqProofs [b31_0, h1]
    exact ⟨_, _, ⟨rfl, rfl⟩, .inl rfl⟩
  | d + 1, i, k + 1, hi, hk => by
    have h1 : (i : Int) < rows.length := by omega
    have h2 : i < rows.length := by omega
    obtain ⟨s, hs⟩ := hrow rows[i] (List.getElem_mem h2)
    obtain ⟨hlt, hs'⟩ := List.getElem?_eq_some_iff.1 hs
    by_cases hb : 1000 < (s.size : Int)
    · rw [iter_succ]
      simp -implicitDefEqProofs [b31_0, h1, h2, hs, hs', hb]
      exact ⟨_, _, ⟨rfl, rfl⟩, .inr ⟨rfl, by simp⟩⟩
    · obtain ⟨e, s', r1, r2⟩ := loop31 Φ K c rows hrow hlen d (i + 1) k (by omega) (by omega)
      refine ⟨e, s', ?_, r2⟩
      rw [← r1]
      refine iter_norm ?_
      simp -implicitDefEqProofs (disch := first | omega | simp) [b31_0, St.keep, h1, h2, hs, hs', hb, wrap_i64]

theorem fun31 (n : Nat) (v : AV) (hv : v = .nilS ∨ ∃ rows : List (List AV), v = .ro false 110 rows ∧ ∀ r, r ∈ rows → ∃ s, r[4]? = some (.str s)) : ∃ b, E (n + 1) 31 [v] = some (.bool b, []) := by
  rcases hv with rfl | ⟨rows, rfl, hr⟩
  · exact ⟨false, by kernel_rfl⟩
  rw [e31]
  by_cases h : 60 < (rows.length : Int)
  · exact ⟨true, by simp -implicitDefEqProofs [a31, c31, h]⟩
  · obtain ⟨e, s', h1, h2⟩ := loop31 (Q n) 100 0 rows hr (by omega) rows.length 0 100 (by omega) (by omega)
    simp only [Int.ofNat_zero, Int.natCast_zero] at h1
    rcases h2 with rfl | ⟨rfl, h2⟩
    · refine ⟨false, ?_⟩
      simp -implicitDefEqProofs [a31, c31, h]
      rw [iter_keep]
      simp
      rw [h1]
      simp
    · refine ⟨true, ?_⟩
      simp -implicitDefEqProofs [a31, c31, h]
      rw [iter_keep]
      simp
      rw [h1]
      simp [h2]

theorem z60_len : z60.length = 50 := rfl
theorem z60_plain : z60.all AV.plain = true := by kernel_rfl
theorem z85_plain : z85.all AV.plain = true := by kernel_rfl
theorem big29 (n : Nat) : E (n + 2) 29 [.agg ((z60.drop 3).take 4), .agg z85] = some (.bool false, []) := by kernel_rfl
theorem big30 (n : Nat) : E (n + 1) 30 [.nilS] = some (.bool false, []) := by kernel_rfl
theorem big18 (n : Nat) (m : List AV) (it pf : AV) (tx : ByteArray) (hm : m.length = 120) (hb : m.all AV.plain = true) (e9 : m[9]? = some it) (e115 : m[115]? = some pf) (e117 : m[117]? = some (.str tx))
    (hi : it = .nilS ∨ ∃ rows : List (List AV), it = .ro false 110 rows ∧ ∀ r, r ∈ rows → ∃ s, r[4]? = some (.str s)) (hp : pf = .nilS ∨ ∃ rows : List (List AV), pf = .ro false 32 rows) :
    ∃ b, E (n + 3) 18 [.agg z60, .agg m] = some (.bool b, []) := by
  obtain ⟨b, hB⟩ := fun31 (n + 1) it hi
  have hit : ∀ h, lendArg h it = some it := fun h => by rcases hi with rfl | ⟨_, rfl, _⟩ <;> rfl
  have hit2 : ∀ (h : AH), mvArgs h [it] = some ([it], h, []) := fun h => by rcases hi with rfl | ⟨_, rfl, _⟩ <;> rfl
  have c1 := plains_cells z60_plain
  have c2 := plains_cells hb
  have l1 := plains_lend z60_plain
  have i1 := plains_in z60_plain
  have l2 := plains_lend hb
  have i2 := plains_in hb
  have l3 := plains_lend z85_plain
  have i3 := plains_in z85_plain
  have f9 := (List.getElem?_eq_some_iff.1 e9).2
  have f115 := (List.getElem?_eq_some_iff.1 e115).2
  have f117 := (List.getElem?_eq_some_iff.1 e117).2
  have k4 := z60_len
  have z10 : z60[10] = .nilS := rfl
  have z11 : z60[11] = .nilS := rfl
  have z48 : z60[48] = .nilS := rfl
  have z49 : z60[49] = .nilS := rfl
  have l4 : ∀ h, lendCells h ((z60.drop 3).take 4) = some ((z60.drop 3).take 4) := plains_lend (by kernel_rfl)
  rw [e18]
  cases b
  · by_cases h2 : 2000 < (tx.size : Int)
    · rcases hp with rfl | ⟨rows, rfl⟩
      · exact ⟨true, by simp -implicitDefEqProofs [a18, c18, q29, q30, q31, big29, big30, hB, hit, hit2, c1, c2, l1, i1, l2, i2, l3, i3, l4, hm, z60_len, z10, z11, z48, z49, f9, f115, f117, h2]⟩
      · by_cases h1 : 100 < (rows.length : Int)
        · exact ⟨true, by simp -implicitDefEqProofs [a18, c18, q29, q30, q31, big29, big30, hB, hit, hit2, c1, c2, l1, i1, l2, i2, l3, i3, l4, hm, z60_len, z10, z11, z48, z49, f9, f115, f117, h1]⟩
        · exact ⟨true, by simp -implicitDefEqProofs [a18, c18, q29, q30, q31, big29, big30, hB, hit, hit2, c1, c2, l1, i1, l2, i2, l3, i3, l4, hm, z60_len, z10, z11, z48, z49, f9, f115, f117, h1, h2]⟩
    · rcases hp with rfl | ⟨rows, rfl⟩
      · exact ⟨false, by simp -implicitDefEqProofs [a18, c18, q29, q30, q31, big29, big30, hB, hit, hit2, c1, c2, l1, i1, l2, i2, l3, i3, l4, hm, z60_len, z10, z11, z48, z49, f9, f115, f117, h2]⟩
      · by_cases h1 : 100 < (rows.length : Int)
        · exact ⟨true, by simp -implicitDefEqProofs [a18, c18, q29, q30, q31, big29, big30, hB, hit, hit2, c1, c2, l1, i1, l2, i2, l3, i3, l4, hm, z60_len, z10, z11, z48, z49, f9, f115, f117, h1]⟩
        · exact ⟨false, by simp -implicitDefEqProofs [a18, c18, q29, q30, q31, big29, big30, hB, hit, hit2, c1, c2, l1, i1, l2, i2, l3, i3, l4, hm, z60_len, z10, z11, z48, z49, f9, f115, f117, h1, h2]⟩
  · exact ⟨true, by simp -implicitDefEqProofs [a18, c18, q29, q30, q31, big29, big30, hB, hit, hit2, c1, c2, l1, i1, l2, i2, l3, i3, l4, hm, z60_len, z10, z11, z48, z49, f9, f115, f117]⟩
end Go.Abs.Try

namespace Go.Abs.Try
open Go Go.Abs
set_option maxHeartbeats 16000000
set_option maxRecDepth 100000
set_option linter.unusedSimpArgs false
set_option linter.unusedVariables false

abbrev clSh : List CSh := [.int .i64, .int .i64, .int .i64, .int .i64, .int .i64, .bool, .str]
abbrev itSh : List CSh := [.int .i64, .int .i64, .int .i64, .int .i64, .str] ++ List.replicate 105 (.int .i64)
/-- what a message's cells must be (its items' and proofs' rows: what is looked at) -/
structure MsgOK (sh : List CSh) : Prop where
  len : sh.length = 120
  e0 : sh[0]? = some (.int .i64)
  e1 : sh[1]? = some (.int .i64)
  e2 : sh[2]? = some (.int .i64)
  e3 : sh[3]? = some (.int .i64)
  e4 : sh[4]? = some (.int .i64)
  e7 : sh[7]? = some (.int .i64)
  e9 : ∃ row, sh[9]? = some (.sl row) ∧ row.length = 110 ∧ row[4]? = some .str
  e115 : ∃ row, sh[115]? = some (.sl row) ∧ row.length = 32
  e116 : sh[116]? = some (.int .i64)
  e117 : sh[117]? = some .str
  e118 : sh[118]? = some (.int .i64)
  e119 : sh[119]? = some .bool

theorem ok_msg {sh : List CSh} (S : MsgOK sh) {x : AV} (h : ∃ cs, x = .agg cs ∧ okRow sh cs) : ∃ m kd fr fn tr tn sz sq cd ok, x = .agg m ∧ Msg m kd fr fn tr tn sz sq cd ok ∧
    ∀ n, ∃ b, E (n + 3) 18 [.agg z60, .agg m] = some (.bool b, []) := by
  obtain ⟨m, rfl, h⟩ := h
  obtain ⟨kd, h0⟩ := h.gint 0 S.e0
  obtain ⟨fr, h1⟩ := h.gint 1 S.e1
  obtain ⟨fn, h2⟩ := h.gint 2 S.e2
  obtain ⟨tr, h3⟩ := h.gint 3 S.e3
  obtain ⟨tn, h4⟩ := h.gint 4 S.e4
  obtain ⟨sz, h7⟩ := h.gint 7 S.e7
  obtain ⟨sq, h116⟩ := h.gint 116 S.e116
  obtain ⟨cd, h118⟩ := h.gint 118 S.e118
  obtain ⟨ok, h119⟩ := h.gbool 119 S.e119
  obtain ⟨tx, h117⟩ := h.gstr 117 S.e117
  obtain ⟨row9, s9, k9, j9⟩ := S.e9
  obtain ⟨row115, s115, k115⟩ := S.e115
  obtain ⟨it, h9, hit⟩ := h.gsl 9 s9
  obtain ⟨pf, h115, hpf⟩ := h.gsl 115 s115
  have hl : m.length = 120 := h.len.trans S.len
  refine ⟨m, kd, fr, fn, tr, tn, sz, sq, cd, ok, rfl, ⟨hl, h.plain, h0, h1, h2, h3, h4, h7, h116, h118, h119⟩, fun n => big18 n m it pf tx hl h.plain h9 h115 h117 ?_ ?_⟩
  · rcases hit with e | ⟨rows, e, _, hr⟩
    · exact .inl e
    · exact .inr ⟨rows, by rw [e, k9], fun r hrm => (hr r hrm).gstr 4 j9⟩
  · rcases hpf with e | ⟨rows, e, _, _⟩
    · exact .inl e
    · exact .inr ⟨rows, by rw [e, k115]⟩

theorem law5 {sh : List CSh} (S : MsgOK sh) (x0 x1 : AV) (o0 : ∃ cs, x0 = .agg cs ∧ okRow clSh cs) (o1 : ∃ cs, x1 = .agg cs ∧ okRow sh cs) : E 7 5 [x0, x1] = some (.bool true, []) := by
  obtain ⟨id, rs, rg, tg, sq, bz, tx, rfl⟩ := ok_client o0
  obtain ⟨m, kd, fr, fn, tr, tn, sz, sq', cd, ok, rfl, M, hB⟩ := ok_msg S o1
  obtain ⟨b, hB⟩ := hB 3
  have h19 := hear19 3 id rs rg tg sq bz tx m kd fr fn tr tn sz sq' cd ok M
  have h20 := hear20 3 id rs rg tg sq bz tx m kd fr fn tr tn sz sq' cd ok M
  have hR : ∃ i2 s2 r2 t2 q2 b2 x2 w0 w1 w2 w3 w4 w5 d e, hearR id rs rg tg sq bz tx kd fr fn tr tn sz sq' cd ok = .tup [cl i2 s2 r2 t2 q2 b2 x2, .agg [.int .i64 w0, .int .i64 w1, .int .i64 w2, .str w3, .int .i64 w4, .int .i64 w5], .bool d, .int .i64 e] := by
    unfold hearR cl0 z62
    repeat' split
    all_goals exact ⟨_, _, _, _, _, _, _, _, _, _, _, _, _, _, _, rfl⟩
  obtain ⟨i2, s2, r2, t2, q2, b2, x2, w0, w1, w2, w3, w4, w5, d, e, hR⟩ := hR
  rw [hR] at h19 h20
  have c2 := plains_cells M.plain
  have l2 := plains_lend M.plain
  have i2' := plains_in M.plain
  have hm := M.len
  have g1 : m.take 120 = m := List.take_of_length_le (by omega)
  have l1 := plains_lend z60_plain
  rw [e5]
  unfold cl at h19 h20
  by_cases hl : 5000 < (tx.size : Int)
  · simp -implicitDefEqProofs [a5, c5, cl, hl, c2, l2, i2', hm]
  cases b
  · simp -implicitDefEqProofs [a5, c5, q11, q18, q19, q20, hB, h19, h20, cl, hl, c2, l1, l2, i2', hm, g1, z60_len, z23, z62, calls_ok]
  · simp -implicitDefEqProofs [a5, c5, q11, q18, q19, q20, hB, h19, h20, cl, hl, c2, l1, l2, i2', hm, g1, z60_len, z23, z62, calls_ok]
theorem ref5 : Refines Go.Proofs.Try.prog 5 (E 7 5) := ref 7 5 (q5 6)
end Go.Abs.Try
