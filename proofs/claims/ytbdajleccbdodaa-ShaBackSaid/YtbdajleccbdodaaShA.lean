/- Part 1 of Sh: what our evaluation of a function's code says, the machine's run does; no condition of its own. -/
import Derived.Test.YtbdajleccbdodaaAbsB
import Derived.Test.YtbdajleccbdodaaProg
set_option linter.unusedVariables false
set_option linter.unusedSimpArgs false
set_option linter.unusedSectionVars false
namespace Go.Abs.Try
open Go Go.Abs
def z23 : List AV := List.replicate 32 (.int .u8 0)

/-- estreat/estreatlaw02.ShaHex: parameters api.Digest string -/
def c3 : AC :=
  (.seq (.reg false [
    { dst := some 2, op := .box 2 (.t 0) },
    { dst := some 4, op := .mov (.c (.bool false)) }])
  ((.seq ((.seq (.reg false [
    { dst := some 9, op := .mov (.t 1) },
    { dst := some 10, op := .lenS (.t 9) },
    { dst := some 11, op := .bin .gtr (.t 10) (.c (.int .i64 65536)) }])
  (.cond (.t 11) ((.seq (.reg false [
    { dst := some 4, op := .mov (.c (.bool true)) }])
  (.ret))) (.skip))))
  (.keep [1, 2] [2] ((.seq (.reg false [
    { dst := some 13, op := .mov (.t 1) },
    { dst := some 14, op := .call 15000 5 [(.t 13)] },
    { dst := some 12, op := .mov (.t 14) },
    { dst := some 15, op := .ext 0 (.t 12) },
    { dst := some 16, op := .ext 1 (.t 12) },
    { dst := some 5, op := .alloc 5 z23 },
    { dst := none, op := .store 32 (.t 5) (.t 15) },
    { dst := some 6, op := .mov (.t 16) }])
  (.keep [1, 2, 5, 6] [2, 5] ((.seq (.reg false [
    { dst := some 18, op := .mov (.t 1) },
    { dst := some 19, op := .call 20000 6 [(.t 18)] },
    { dst := some 17, op := .mov (.t 19) },
    { dst := some 20, op := .ext 0 (.t 17) },
    { dst := some 21, op := .ext 1 (.t 17) },
    { dst := some 7, op := .alloc 7 z23 },
    { dst := none, op := .store 32 (.t 7) (.t 20) },
    { dst := some 8, op := .mov (.t 21) }])
  (.keep [2, 5, 6, 7, 8] [2, 5, 7] ((.seq (.reg true [
    { dst := some 22, op := .call 23000 7 [] },
    { dst := some 23, op := .mov (.t 22), rs := [22], an := [0] },
    { dst := some 24, op := .load (some 32) (.t 2), guard := some (23, true), rs := [2, 23], tn := [2], an := [1] },
    { dst := some 25, op := .call 26000 8 [(.t 24)], guard := some (23, true), rs := [23, 24], an := [1, 2] },
    { dst := some 26, op := .load (some 32) (.t 2), guard := some (23, true), rs := [2, 23], tn := [2], an := [1] },
    { dst := some 27, op := .call 28000 9 [(.t 26)], guard := some (23, true), rs := [23, 26], an := [1, 4] },
    { dst := some 28, op := .bin .eql (.t 25) (.t 27), guard := some (23, true), rs := [23, 25, 27], an := [1, 3, 5] },
    { dst := some 29, op := .pick (.t 23) (.t 28) (.c (.bool false)), rs := [23, 28], an := [1, 6] },
    { dst := some 30, op := .mov (.t 29), rs := [29], an := [7] },
    { dst := some 31, op := .load (some 32) (.t 5), guard := some (30, true), rs := [5, 30], tn := [5], an := [8] },
    { dst := some 32, op := .load (some 32) (.t 7), guard := some (30, true), rs := [7, 30], tn := [7], an := [8] },
    { dst := some 33, op := .eqa false [0, 0, 0, 0, 0, 0, 0, 0, 0, 0, 0, 0, 0, 0, 0, 0, 0, 0, 0, 0, 0, 0, 0, 0, 0, 0, 0, 0, 0, 0, 0, 0] (.t 31) (.t 32), guard := some (30, true), rs := [30, 31, 32], an := [8, 9, 10] },
    { dst := some 34, op := .pick (.t 30) (.t 33) (.c (.bool false)), rs := [30, 33], an := [8, 11] },
    { dst := some 35, op := .mov (.t 34), rs := [34], an := [12] },
    { dst := some 36, op := .mov (.t 6), guard := some (35, true), rs := [6, 35], an := [13] },
    { dst := some 37, op := .mov (.t 8), guard := some (35, true), rs := [8, 35], an := [13] },
    { dst := some 38, op := .bin .eql (.t 36) (.t 37), guard := some (35, true), rs := [35, 36, 37], an := [13, 14, 15] },
    { dst := some 39, op := .pick (.t 35) (.t 38) (.c (.bool false)), rs := [35, 38], an := [13, 16] },
    { dst := some 4, op := .mov (.t 39), rs := [39], an := [17] }])
  (.ret)))))))))))))
/-- with its results -/
def a3 : AFun := ⟨c3, [(4, none)], 40⟩

/-- estreat/estreatlaw02.ShaBack: parameters api.Digest string -/
def c4 : AC :=
  (.seq (.reg false [
    { dst := some 2, op := .box 2 (.t 0) },
    { dst := some 4, op := .mov (.c (.bool false)) }])
  ((.seq ((.seq (.reg false [
    { dst := some 9, op := .mov (.t 1) },
    { dst := some 10, op := .lenS (.t 9) },
    { dst := some 11, op := .bin .gtr (.t 10) (.c (.int .i64 65536)) }])
  (.cond (.t 11) ((.seq (.reg false [
    { dst := some 4, op := .mov (.c (.bool true)) }])
  (.ret))) (.skip))))
  (.keep [1, 2] [2] ((.seq (.reg false [
    { dst := some 13, op := .load (some 32) (.t 2) },
    { dst := some 14, op := .call 15000 8 [(.t 13)] },
    { dst := some 15, op := .call 16000 5 [(.t 14)] },
    { dst := some 12, op := .mov (.t 15) },
    { dst := some 16, op := .ext 0 (.t 12) },
    { dst := some 17, op := .ext 1 (.t 12) },
    { dst := some 5, op := .alloc 5 z23 },
    { dst := none, op := .store 32 (.t 5) (.t 16) },
    { dst := some 6, op := .mov (.t 17) }])
  (.keep [1, 2, 5, 6] [2, 5] ((.seq (.reg false [
    { dst := some 19, op := .mov (.t 1) },
    { dst := some 20, op := .call 21000 5 [(.t 19)] },
    { dst := some 18, op := .mov (.t 20) },
    { dst := some 21, op := .ext 0 (.t 18) },
    { dst := some 22, op := .ext 1 (.t 18) },
    { dst := some 7, op := .alloc 7 z23 },
    { dst := none, op := .store 32 (.t 7) (.t 21) },
    { dst := some 8, op := .mov (.t 22) }])
  (.keep [1, 2, 5, 6, 7, 8] [2, 5, 7] ((.seq (.reg false [
    { dst := some 23, op := .call 24000 7 [] },
    { dst := some 24, op := .mov (.t 23) },
    { dst := some 25, op := .mov (.t 6), guard := some (24, true) },
    { dst := some 26, op := .bin .eql (.t 25) (.c (.int .i64 0)), guard := some (24, true) },
    { dst := some 27, op := .pick (.t 24) (.t 26) (.c (.bool false)) },
    { dst := some 28, op := .mov (.t 27) },
    { dst := some 29, op := .load (some 32) (.t 5), guard := some (28, true) },
    { dst := some 30, op := .load (some 32) (.t 2), guard := some (28, true) },
    { dst := some 31, op := .eqa false [0, 0, 0, 0, 0, 0, 0, 0, 0, 0, 0, 0, 0, 0, 0, 0, 0, 0, 0, 0, 0, 0, 0, 0, 0, 0, 0, 0, 0, 0, 0, 0] (.t 29) (.t 30), guard := some (28, true) },
    { dst := some 32, op := .pick (.t 28) (.t 31) (.c (.bool false)) },
    { dst := some 33, op := .mov (.t 32) },
    { dst := some 34, op := .mov (.t 8), guard := some (33, true) },
    { dst := some 35, op := .bin .neq (.t 34) (.c (.int .i64 0)), guard := some (33, true) },
    { dst := some 36, op := .mov (.t 35), guard := some (33, true) },
    { dst := some 37, op := .load (some 32) (.t 7), guard := some (36, false) },
    { dst := some 38, op := .call 39000 8 [(.t 37)], guard := some (36, false) },
    { dst := some 39, op := .mov (.t 1), guard := some (36, false) },
    { dst := some 40, op := .bin .eql (.t 38) (.t 39), guard := some (36, false) },
    { dst := some 41, op := .pick (.t 36) (.c (.bool true)) (.t 40), guard := some (33, true) },
    { dst := some 42, op := .pick (.t 33) (.t 41) (.c (.bool false)) },
    { dst := some 4, op := .mov (.t 42) }])
  (.ret)))))))))))))
/-- with its results -/
def a4 : AFun := ⟨c4, [(4, none)], 43⟩

def b5_0 : AC :=
  (.seq (.reg false [
    { dst := some 14, op := .bin .lss (.t 13) (.t 12) }])
  ((.seq (.cond (.t 14) (.skip) (.exit 0))
  ((.seq (.block 1 ((.seq (.reg false [
    { dst := some 15, op := .mov (.t 13) },
    { dst := some 5, op := .mov (.t 15) }])
  ((.seq (.reg false [
    { dst := some 16, op := .mov (.t 0) },
    { dst := some 17, op := .mov (.t 5) },
    { dst := some 18, op := .idxs (.t 16) (.t 17) },
    { dst := some 19, op := .call 20000 10 [(.c (.str ⟨#[48, 49, 50, 51, 52, 53, 54, 55, 56, 57, 97, 98, 99, 100, 101, 102]⟩)), (.t 18)] },
    { dst := some 6, op := .mov (.t 19) }])
  (.keep [0, 2, 3, 4, 5, 6, 12, 13] [2, 4] ((.seq ((.seq (.reg false [
    { dst := some 20, op := .mov (.t 6) },
    { dst := some 21, op := .bin .lss (.t 20) (.c (.int .i64 0)) }])
  (.cond (.t 21) ((.seq (.reg false [
    { dst := some 22, op := .build z23 [] },
    { dst := none, op := .store 32 (.t 2) (.t 22) },
    { dst := some 3, op := .mov (.c (.int .i64 1)) }])
  (.ret))) (.skip))))
  (.keep [0, 2, 3, 4, 5, 6, 12, 13] [2, 4] (.reg false [
    { dst := some 23, op := .mov (.t 5) },
    { dst := some 24, op := .bin .quo (.t 23) (.c (.int .i64 2)) },
    { dst := some 25, op := .mov (.t 5) },
    { dst := some 26, op := .bin .quo (.t 25) (.c (.int .i64 2)) },
    { dst := some 27, op := .iada 32 1 (.t 4) (.t 26) },
    { dst := some 28, op := .load none (.t 27) },
    { dst := some 29, op := .bin .shl (.t 28) (.c (.int .u64 4)) },
    { dst := some 30, op := .mov (.t 6) },
    { dst := some 31, op := .conv .u8 (.t 30) },
    { dst := some 32, op := .bin .or (.t 29) (.t 31) },
    { dst := some 33, op := .iada 32 1 (.t 4) (.t 24) },
    { dst := none, op := .store 1 (.t 33) (.t 32) }]))))))))))
  (.keep [0, 2, 3, 4, 12, 13] [2, 4] (.reg false [
    { dst := some 34, op := .bin .add (.t 13) (.c (.int .i64 1)) },
    { dst := some 13, op := .mov (.t 34) }])))))))
/-- estreat/sha.Parse: parameters string -/
def c5 : AC :=
  (.seq (.reg false [
    { dst := some 2, op := .alloc 2 z23 },
    { dst := some 3, op := .mov (.c (.int .i64 0)) }])
  ((.seq (.reg false [
    { dst := some 4, op := .alloc 4 z23 }])
  ((.seq ((.seq (.reg false [
    { dst := some 7, op := .mov (.t 0) },
    { dst := some 8, op := .lenS (.t 7) },
    { dst := some 9, op := .bin .neq (.t 8) (.c (.int .i64 64)) }])
  (.cond (.t 9) ((.seq (.reg false [
    { dst := some 10, op := .load (some 32) (.t 4) },
    { dst := none, op := .store 32 (.t 2) (.t 10) },
    { dst := some 3, op := .mov (.c (.int .i64 1)) }])
  (.ret))) (.skip))))
  (.keep [0, 2, 4] [2, 4] ((.seq ((.seq (.reg false [
    { dst := some 11, op := .mov (.t 0) },
    { dst := some 12, op := .lenS (.t 11) },
    { dst := some 13, op := .mov (.c (.int .i64 0)) }])
  (.block 0 (.loop [0, 2, 3, 4, 12, 13] [2, 4] b5_0))))
  (.keep [2, 4] [2, 4] ((.seq (.reg false [
    { dst := some 35, op := .load (some 32) (.t 4) },
    { dst := none, op := .store 32 (.t 2) (.t 35) },
    { dst := some 3, op := .mov (.c (.int .i64 0)) }])
  (.ret))))))))))))
/-- with its results -/
def a5 : AFun := ⟨c5, [(2, some (some 32)), (3, none)], 36⟩

def b6_0 : AC :=
  (.seq ((.seq (.reg false [
    { dst := some 16, op := .mov (.t 7) },
    { dst := some 17, op := .bin .lss (.t 16) (.c (.int .i64 16)) }])
  (.cond (.t 17) (.skip) (.exit 2))))
  ((.seq (.block 3 ((.seq (.reg true [
    { dst := some 20, op := .mov (.t 7), rs := [7] },
    { dst := some 21, op := .idxs (.c (.str ⟨#[48, 49, 50, 51, 52, 53, 54, 55, 56, 57, 97, 98, 99, 100, 101, 102]⟩)) (.t 20), rs := [20], an := [0] },
    { dst := some 22, op := .mov (.t 0), rs := [0] },
    { dst := some 23, op := .mov (.t 5), rs := [5] },
    { dst := some 24, op := .idxs (.t 22) (.t 23), rs := [22, 23], an := [2, 3] },
    { dst := some 25, op := .bin .eql (.t 21) (.t 24), rs := [21, 24], an := [1, 4] }])
  (.cond (.t 25) (.reg false [
    { dst := some 26, op := .mov (.t 7) },
    { dst := some 6, op := .mov (.t 26) }]) (.skip)))))
  (.keep [0, 2, 3, 4, 5, 6, 7] [2, 4] (.reg false [
    { dst := some 18, op := .mov (.t 7) },
    { dst := some 19, op := .bin .add (.t 18) (.c (.int .i64 1)) },
    { dst := some 7, op := .mov (.t 19) }])))))
def b6_1 : AC :=
  (.seq ((.seq (.reg false [
    { dst := some 12, op := .mov (.t 5) },
    { dst := some 13, op := .bin .lss (.t 12) (.c (.int .i64 64)) }])
  (.cond (.t 13) (.skip) (.exit 0))))
  ((.seq (.block 1 ((.seq (.reg false [
    { dst := some 6, op := .mov (.c (.int .i64 (-1))) }])
  ((.seq ((.seq (.reg false [
    { dst := some 7, op := .mov (.c (.int .i64 0)) }])
  (.block 2 (.loop [0, 2, 3, 4, 5, 6, 7] [2, 4] b6_0))))
  (.keep [0, 2, 3, 4, 5, 6] [2, 4] ((.seq ((.seq (.reg false [
    { dst := some 27, op := .mov (.t 6) },
    { dst := some 28, op := .bin .lss (.t 27) (.c (.int .i64 0)) }])
  (.cond (.t 28) ((.seq (.reg false [
    { dst := some 29, op := .build z23 [] },
    { dst := none, op := .store 32 (.t 2) (.t 29) },
    { dst := some 3, op := .mov (.c (.int .i64 1)) }])
  (.ret))) (.skip))))
  (.keep [0, 2, 3, 4, 5, 6] [2, 4] (.reg false [
    { dst := some 30, op := .mov (.t 5) },
    { dst := some 31, op := .bin .quo (.t 30) (.c (.int .i64 2)) },
    { dst := some 32, op := .mov (.t 5) },
    { dst := some 33, op := .bin .quo (.t 32) (.c (.int .i64 2)) },
    { dst := some 34, op := .iada 32 1 (.t 4) (.t 33) },
    { dst := some 35, op := .load none (.t 34) },
    { dst := some 36, op := .bin .mul (.t 35) (.c (.int .u8 16)) },
    { dst := some 37, op := .mov (.t 6) },
    { dst := some 38, op := .conv .u8 (.t 37) },
    { dst := some 39, op := .bin .add (.t 36) (.t 38) },
    { dst := some 40, op := .iada 32 1 (.t 4) (.t 31) },
    { dst := none, op := .store 1 (.t 40) (.t 39) }]))))))))))
  (.keep [0, 2, 3, 4, 5] [2, 4] (.reg false [
    { dst := some 14, op := .mov (.t 5) },
    { dst := some 15, op := .bin .add (.t 14) (.c (.int .i64 1)) },
    { dst := some 5, op := .mov (.t 15) }])))))
/-- estreat/estreatref02.Parse: parameters string -/
def c6 : AC :=
  (.seq (.reg false [
    { dst := some 2, op := .alloc 2 z23 },
    { dst := some 3, op := .mov (.c (.int .i64 0)) }])
  ((.seq ((.seq (.reg false [
    { dst := some 8, op := .mov (.t 0) },
    { dst := some 9, op := .lenS (.t 8) },
    { dst := some 10, op := .bin .neq (.t 9) (.c (.int .i64 64)) }])
  (.cond (.t 10) ((.seq (.reg false [
    { dst := some 11, op := .build z23 [] },
    { dst := none, op := .store 32 (.t 2) (.t 11) },
    { dst := some 3, op := .mov (.c (.int .i64 1)) }])
  (.ret))) (.skip))))
  (.keep [0, 2] [2] ((.seq (.reg false [
    { dst := some 4, op := .alloc 4 z23 }])
  ((.seq ((.seq (.reg false [
    { dst := some 5, op := .mov (.c (.int .i64 0)) }])
  (.block 0 (.loop [0, 2, 3, 4, 5] [2, 4] b6_1))))
  (.keep [2, 4] [2, 4] ((.seq (.reg false [
    { dst := some 41, op := .load (some 32) (.t 4) },
    { dst := none, op := .store 32 (.t 2) (.t 41) },
    { dst := some 3, op := .mov (.c (.int .i64 0)) }])
  (.ret))))))))))))
/-- with its results -/
def a6 : AFun := ⟨c6, [(2, some (some 32)), (3, none)], 42⟩

/-- estreat/estreatlaw02.hexes: parameters  -/
def c7 : AC :=
  (.seq (.reg false [
    { dst := some 0, op := .mov (.c (.bool false)) }])
  ((.seq (.reg false [
    { dst := some 6, op := .build z23 [(31, 1, (.c (.int .u8 175)))] },
    { dst := some 7, op := .call 8000 8 [(.t 6)] },
    { dst := some 8, op := .call 9000 5 [(.t 7)] },
    { dst := some 5, op := .mov (.t 8) },
    { dst := some 9, op := .ext 0 (.t 5) },
    { dst := some 10, op := .ext 1 (.t 5) },
    { dst := some 1, op := .alloc 1 z23 },
    { dst := none, op := .store 32 (.t 1) (.t 9) },
    { dst := some 2, op := .mov (.t 10) }])
  (.keep [1, 2] [1] ((.seq (.reg false [
    { dst := some 12, op := .call 13000 5 [(.c (.str ⟨#[65]⟩))] },
    { dst := some 11, op := .mov (.t 12) },
    { dst := some 13, op := .ext 0 (.t 11) },
    { dst := some 14, op := .ext 1 (.t 11) },
    { dst := some 3, op := .alloc 3 z23 },
    { dst := none, op := .store 32 (.t 3) (.t 13) },
    { dst := some 4, op := .mov (.t 14) }])
  (.keep [1, 2, 4] [1] ((.seq (.reg false [
    { dst := some 15, op := .load (some 32) (.t 1) },
    { dst := some 16, op := .build z23 [(31, 1, (.c (.int .u8 175)))] },
    { dst := some 17, op := .eqa false [0, 0, 0, 0, 0, 0, 0, 0, 0, 0, 0, 0, 0, 0, 0, 0, 0, 0, 0, 0, 0, 0, 0, 0, 0, 0, 0, 0, 0, 0, 0, 0] (.t 15) (.t 16) },
    { dst := some 18, op := .mov (.t 17) },
    { dst := some 19, op := .mov (.t 2), guard := some (18, true) },
    { dst := some 20, op := .bin .eql (.t 19) (.c (.int .i64 0)), guard := some (18, true) },
    { dst := some 21, op := .pick (.t 18) (.t 20) (.c (.bool false)) },
    { dst := some 22, op := .mov (.t 21) },
    { dst := some 23, op := .mov (.t 4), guard := some (22, true) },
    { dst := some 24, op := .bin .eql (.t 23) (.c (.int .i64 1)), guard := some (22, true) },
    { dst := some 25, op := .pick (.t 22) (.t 24) (.c (.bool false)) },
    { dst := some 0, op := .mov (.t 25) }])
  (.ret))))))))))
/-- with its results -/
def a7 : AFun := ⟨c7, [(0, none)], 26⟩

def b8_0 : AC :=
  (.seq (.reg false [
    { dst := some 8, op := .bin .lss (.t 7) (.c (.int .i64 32)) }])
  ((.seq (.cond (.t 8) (.skip) (.exit 0))
  ((.seq (.block 1 ((.seq (.reg false [
    { dst := some 9, op := .idx 32 1 none (.t 6) (.t 7) },
    { dst := some 5, op := .mov (.t 9) }])
  (.reg true [
    { dst := some 10, op := .mov (.t 3), rs := [3], tn := [18] },
    { dst := some 11, op := .mov (.t 5), rs := [5] },
    { dst := some 12, op := .bin .shr (.t 11) (.c (.int .u64 4)), rs := [11], an := [1] },
    { dst := some 13, op := .idxs (.c (.str ⟨#[48, 49, 50, 51, 52, 53, 54, 55, 56, 57, 97, 98, 99, 100, 101, 102]⟩)) (.t 12), rs := [12], an := [2] },
    { dst := some 14, op := .mov (.t 5), rs := [5] },
    { dst := some 15, op := .bin .and (.t 14) (.c (.int .u8 15)), rs := [14], an := [4] },
    { dst := some 16, op := .idxs (.c (.str ⟨#[48, 49, 50, 51, 52, 53, 54, 55, 56, 57, 97, 98, 99, 100, 101, 102]⟩)) (.t 15), rs := [15], an := [5] },
    { dst := some 17, op := .bslice 17 1 [(.int .u8 0)] 2 [(0, (.t 13)), (1, (.t 16))], rs := [13, 16], tn := [17], wn := [17], an := [3, 6] },
    { dst := some 18, op := .app 18 1 1 (.t 10) (.t 17), rs := [10, 17], tn := [17, 18], wn := [17, 18], an := [0, 7] },
    { dst := some 3, op := .mov (.t 18), rs := [18], tn := [18], an := [0, 8] }]))))
  (.keep [2, 3, 6, 7] [18] (.reg false [
    { dst := some 19, op := .bin .add (.t 7) (.c (.int .i64 1)) },
    { dst := some 7, op := .mov (.t 19) }])))))))
/-- estreat/sha.Hex: parameters api.Digest -/
def c8 : AC :=
  (.seq (.reg false [
    { dst := some 1, op := .box 1 (.t 0) },
    { dst := some 2, op := .mov (.c (.str ⟨#[]⟩)) }])
  ((.seq (.reg false [
    { dst := some 3, op := .mov (.c .nilS) }])
  ((.seq ((.seq (.reg false [
    { dst := some 6, op := .load (some 32) (.t 1) },
    { dst := some 7, op := .mov (.c (.int .i64 0)) }])
  (.block 0 (.loop [2, 3, 6, 7] [18] b8_0))))
  (.keep [3] [18] ((.seq (.reg false [
    { dst := some 20, op := .mov (.t 3) },
    { dst := some 21, op := .b2s (.t 20) },
    { dst := some 2, op := .mov (.t 21) }])
  (.ret)))))))))
/-- with its results -/
def a8 : AFun := ⟨c8, [(2, none)], 22⟩

def b9_0 : AC :=
  (.seq ((.seq (.reg false [
    { dst := some 7, op := .mov (.t 4) },
    { dst := some 8, op := .bin .lss (.t 7) (.c (.int .i64 32)) }])
  (.cond (.t 8) (.skip) (.exit 0))))
  ((.seq (.block 1 ((.seq (.reg false [
    { dst := some 11, op := .mov (.t 4) },
    { dst := some 12, op := .iada 32 1 (.t 1) (.t 11) },
    { dst := some 13, op := .load none (.t 12) },
    { dst := some 14, op := .conv .i64 (.t 13) },
    { dst := some 15, op := .bin .quo (.t 14) (.c (.int .i64 16)) },
    { dst := some 5, op := .mov (.t 15) }])
  (.keep [1, 2, 3, 4, 5] [1] ((.seq (.reg false [
    { dst := some 16, op := .mov (.t 4) },
    { dst := some 17, op := .iada 32 1 (.t 1) (.t 16) },
    { dst := some 18, op := .load none (.t 17) },
    { dst := some 19, op := .conv .i64 (.t 18) },
    { dst := some 20, op := .bin .rem (.t 19) (.c (.int .i64 16)) },
    { dst := some 6, op := .mov (.t 20) }])
  (.keep [1, 2, 3, 4, 5, 6] [1] (.reg true [
    { dst := some 21, op := .mov (.t 3), rs := [3] },
    { dst := some 22, op := .mov (.t 5), rs := [5] },
    { dst := some 23, op := .mov (.t 5), rs := [5] },
    { dst := some 24, op := .bin .add (.t 23) (.c (.int .i64 1)), rs := [23], an := [2] },
    { dst := some 25, op := .slcS (.c (.str ⟨#[48, 49, 50, 51, 52, 53, 54, 55, 56, 57, 97, 98, 99, 100, 101, 102]⟩)) (some (.t 22)) (some (.t 24)), rs := [22, 24], an := [1, 3] },
    { dst := some 26, op := .bin .add (.t 21) (.t 25), rs := [21, 25], an := [0, 4] },
    { dst := some 27, op := .mov (.t 6), rs := [6] },
    { dst := some 28, op := .mov (.t 6), rs := [6] },
    { dst := some 29, op := .bin .add (.t 28) (.c (.int .i64 1)), rs := [28], an := [7] },
    { dst := some 30, op := .slcS (.c (.str ⟨#[48, 49, 50, 51, 52, 53, 54, 55, 56, 57, 97, 98, 99, 100, 101, 102]⟩)) (some (.t 27)) (some (.t 29)), rs := [27, 29], an := [6, 8] },
    { dst := some 31, op := .bin .add (.t 26) (.t 30), rs := [26, 30], an := [5, 9] },
    { dst := some 3, op := .mov (.t 31), rs := [31], an := [0, 10] }]))))))))
  (.keep [1, 2, 3, 4] [1] (.reg false [
    { dst := some 9, op := .mov (.t 4) },
    { dst := some 10, op := .bin .add (.t 9) (.c (.int .i64 1)) },
    { dst := some 4, op := .mov (.t 10) }])))))
/-- estreat/estreatref02.Hex: parameters api.Digest -/
def c9 : AC :=
  (.seq (.reg false [
    { dst := some 1, op := .box 1 (.t 0) },
    { dst := some 2, op := .mov (.c (.str ⟨#[]⟩)) }])
  ((.seq (.reg false [
    { dst := some 3, op := .mov (.c (.str ⟨#[]⟩)) }])
  ((.seq ((.seq (.reg false [
    { dst := some 4, op := .mov (.c (.int .i64 0)) }])
  (.block 0 (.loop [1, 2, 3, 4] [1] b9_0))))
  (.keep [3] [] ((.seq (.reg false [
    { dst := some 32, op := .mov (.t 3) },
    { dst := some 2, op := .mov (.t 32) }])
  (.ret)))))))))
/-- with its results -/
def a9 : AFun := ⟨c9, [(2, none)], 33⟩

/-- strings.IndexByte: parameters string uint8 -/
def c10 : AC :=
  (.seq (.reg false [
    { dst := some 4, op := .mov (.c (.int .i64 0)) }])
  ((.seq (.reg false [
    { dst := some 5, op := .mov (.t 0) },
    { dst := some 6, op := .mov (.t 1) },
    { dst := some 7, op := .call 8000 11 [(.t 5), (.t 6)] },
    { dst := some 4, op := .mov (.t 7) }])
  (.ret))))
/-- with its results -/
def a10 : AFun := ⟨c10, [(4, none)], 8⟩

/-- internal/stringslite.IndexByte: parameters string uint8 -/
def c11 : AC :=
  (.seq (.reg false [
    { dst := some 4, op := .mov (.c (.int .i64 0)) }])
  ((.seq (.reg false [
    { dst := some 5, op := .mov (.t 0) },
    { dst := some 6, op := .mov (.t 1) },
    { dst := some 7, op := .xib 12 (.t 5) (.t 6) },
    { dst := some 4, op := .mov (.t 7) }])
  (.ret))))
/-- with its results -/
def a11 : AFun := ⟨c11, [(4, none)], 8⟩

end Go.Abs.Try

namespace Go.Abs.Try
open Go Go.Abs Go.Proofs
/-- the seat's code -/
def T : List (Nat × AFun) := [(3, a3), (4, a4), (5, a5), (6, a6), (7, a7), (8, a8), (9, a9), (10, a10), (11, a11)]
theorem tab : tabOK Try.prog T = true := by kernel_rfl
def Q (n : Nat) : Nat → Option CallF := Phi (fun _ => none) T 100 n
def E (n f : Nat) : CallF := Ev (fun _ => none) T 100 n f
theorem q3 (n : Nat) : Q (n + 1) 3 = some (E (n + 1) 3) := rfl
theorem e3 (n : Nat) : E (n + 1) 3 = evFun (Q n) 100 a3 := rfl
theorem q4 (n : Nat) : Q (n + 1) 4 = some (E (n + 1) 4) := rfl
theorem e4 (n : Nat) : E (n + 1) 4 = evFun (Q n) 100 a4 := rfl
theorem q5 (n : Nat) : Q (n + 1) 5 = some (E (n + 1) 5) := rfl
theorem e5 (n : Nat) : E (n + 1) 5 = evFun (Q n) 100 a5 := rfl
theorem q6 (n : Nat) : Q (n + 1) 6 = some (E (n + 1) 6) := rfl
theorem e6 (n : Nat) : E (n + 1) 6 = evFun (Q n) 100 a6 := rfl
theorem q7 (n : Nat) : Q (n + 1) 7 = some (E (n + 1) 7) := rfl
theorem e7 (n : Nat) : E (n + 1) 7 = evFun (Q n) 100 a7 := rfl
theorem q8 (n : Nat) : Q (n + 1) 8 = some (E (n + 1) 8) := rfl
theorem e8 (n : Nat) : E (n + 1) 8 = evFun (Q n) 100 a8 := rfl
theorem q9 (n : Nat) : Q (n + 1) 9 = some (E (n + 1) 9) := rfl
theorem e9 (n : Nat) : E (n + 1) 9 = evFun (Q n) 100 a9 := rfl
theorem q10 (n : Nat) : Q (n + 1) 10 = some (E (n + 1) 10) := rfl
theorem e10 (n : Nat) : E (n + 1) 10 = evFun (Q n) 100 a10 := rfl
theorem q11 (n : Nat) : Q (n + 1) 11 = some (E (n + 1) 11) := rfl
theorem e11 (n : Nat) : E (n + 1) 11 = evFun (Q n) 100 a11 := rfl
theorem ref (n f : Nat) {F} (h : Q n f = some F) : Refines Try.prog f (E n f) := Ev_refines noBase tab h
end Go.Abs.Try

namespace Go.Abs.Try
open Go Go.Abs
set_option maxHeartbeats 16000000
set_option maxRecDepth 100000
set_option linter.unusedSimpArgs false
set_option linter.unusedVariables false

abbrev D : List UInt8 := [48, 49, 50, 51, 52, 53, 54, 55, 56, 57, 97, 98, 99, 100, 101, 102]
def dig (k : Nat) : UInt8 := D.getD k 0
theorem dig_get (k : Nat) (h : k < 16) : D[k]? = some (dig k) := by
  unfold dig
  rw [List.getD_eq_getElem?_getD]
  have : k < D.length := h
  rw [List.getElem?_eq_getElem this]; rfl
def u8s (t : List UInt8) : List AV := t.map fun b => .int .u8 b.toNat
def two (b : UInt8) : List UInt8 := [dig (b.toNat / 16), dig (b.toNat % 16)]
def hexOf (ds : List UInt8) : List UInt8 := ds.flatMap two
theorem hexOf_snoc (l : List UInt8) (b : UInt8) : hexOf (l ++ [b]) = hexOf l ++ two b := by simp [hexOf]
theorem hexOf_len (l : List UInt8) : (hexOf l).length = 2 * l.length := by
  induction l with
  | nil => rfl
  | cons b r ih =>
    have : hexOf (b :: r) = two b ++ hexOf r := rfl
    rw [this, List.length_append, ih]; simp [two]; omega
theorem byte_lt (b : UInt8) : b.toNat < 256 := b.toNat_lt
theorem and15 (b : UInt8) : abits .and .u8 (b.toNat : Int) 15 = some (.int .u8 ((b.toNat % 16 : Nat) : Int)) := by
  have : ∀ n : Fin 256, IntKind.wrap .u8 (BitVec.ofInt (IntKind.bits .u8) ((n.val : Nat) : Int) &&& BitVec.ofInt (IntKind.bits .u8) 15).toNat = ((n.val % 16 : Nat) : Int) := by decide
  have h := this ⟨b.toNat, byte_lt b⟩
  simp only [abits]
  rw [h]
theorem shr4 (b : UInt8) : ((b.toNat : Int)).fdiv 16 = ((b.toNat / 16 : Nat) : Int) := by
  rw [Int.fdiv_eq_ediv_of_nonneg] <;> omega
theorem u8s_get (ds : List UInt8) (i : Nat) (h : i < ds.length) : (u8s ds)[i]? = some (.int .u8 (ds[i]).toNat) := by
  simp [u8s, h]
theorem u8s_len (ds : List UInt8) : (u8s ds).length = ds.length := by simp [u8s]
theorem u8s_plain : ∀ ds : List UInt8, (u8s ds).all AV.plain = true
  | [] => rfl
  | b :: r => by
    have : u8s (b :: r) = .int .u8 b.toNat :: u8s r := rfl
    rw [this, List.all_cons, u8s_plain r]; rfl

/-- bytes in a slice of the call's own -/
inductive Rep (nm : Nat) : List UInt8 → AV → AH → Nat → Prop
  | nil (c : Nat) : Rep nm [] .nilS [] c
  | own (l : List UInt8) (g c : Nat) (hg : g < c) (hl : l ≠ []) : Rep nm l (.own nm g 0 l.length) [⟨nm, g, .arr 1 (byteRows l) false⟩] c

theorem step8 (Φ : Nat → Option CallF) (K : Nat) (ds l : List UInt8) (i k : Nat) (v : AV) (h : AH) (c : Nat) (hd : ds.length = 32) (hi : i < 32) (hl : l.length ≤ 64) (R : Rep 18 l v h c) :
    ∃ v' h' c', iter (ev Φ K b8_0) [2, 3, 6, 7] [18] (k + 1) ⟨[(2, .str ⟨#[]⟩), (3, v), (6, .agg (u8s ds)), (7, .int .i64 i)], h, c⟩ =
      iter (ev Φ K b8_0) [2, 3, 6, 7] [18] k ⟨[(2, .str ⟨#[]⟩), (3, v'), (6, .agg (u8s ds)), (7, .int .i64 (i + 1 : Nat))], h', c'⟩ ∧ Rep 18 (l ++ two (ds[i]'(by omega))) v' h' c' := by
  have h1 : (i : Int) < 32 := by omega
  have hget := u8s_get ds i (by omega)
  have hget' := (List.getElem?_eq_some_iff.1 hget).2
  have hlen := u8s_len ds
  have ha := and15 (ds[i]'(by omega))
  have hs := shr4 (ds[i]'(by omega))
  have d1 := dig_get ((ds[i]'(by omega)).toNat / 16) (by have := byte_lt (ds[i]'(by omega)); omega)
  have d2 := dig_get ((ds[i]'(by omega)).toNat % 16) (by omega)
  have w1 : IntKind.i64.wrap ((i : Int) + 1) = (i : Int) + 1 := wrap_i64 _ (by omega) (by omega)
  generalize hb : ds[i]'(by omega) = b at *
  have p1 : 0 ≤ (b.toNat : Int) / 16 := by omega
  have p2 : ((b.toNat : Int) / 16).toNat = b.toNat / 16 := by omega
  have p3 : 0 ≤ (b.toNat : Int) % 16 := by omega
  have p4 : ((b.toNat : Int) % 16).toNat = b.toNat % 16 := by omega
  cases R with
  | nil =>
    refine ⟨_, _, _, iter_norm (s' := ⟨[(2, .str ⟨#[]⟩), (3, .own 18 (c + 1) 0 2), (6, .agg (u8s ds)), (7, .int .i64 (i + 1 : Nat))], [⟨18, c + 1, .arr 1 (byteRows (two b)) false⟩], c + 2⟩) ?_, ?_⟩
    · simp -implicitDefEqProofs [b8_0, St.keep, h1, hi, hget, hget', hlen, hd, ha, hs, d1, d2, p1, p2, p3, p4, w1, aappend, byteRows, two, maxBytes]
    · exact .own (two b) (c + 1) (c + 2) (by omega) (by simp [two])
  | own _ g _ hg hne =>
    have e1 : (byteRows l).length = l.length := by simp [byteRows]
    have e2 : (byteRows l).take l.length = byteRows l := List.take_of_length_le (by omega)
    have e3 : l.length ≤ 17592186044414 := by omega
    have e5 : ¬ l.length + 2 ≤ l.length := by omega
    refine ⟨_, _, _, iter_norm (s' := ⟨[(2, .str ⟨#[]⟩), (3, .own 18 (c + 1) 0 (l ++ two b).length), (6, .agg (u8s ds)), (7, .int .i64 (i + 1 : Nat))], [⟨18, c + 1, .arr 1 (byteRows (l ++ two b)) false⟩], c + 2⟩) ?_, ?_⟩
    · have e4 : byteRows (l ++ two b) = byteRows l ++ byteRows (two b) := by simp [byteRows]
      rw [e4]
      simp -implicitDefEqProofs [b8_0, St.keep, h1, hi, hget, hget', hlen, hd, ha, hs, d1, d2, p1, p2, p3, p4, w1, aappend, two, maxBytes, hg, e1, e2, e3, e5]
      all_goals simp [byteRows]
    · exact .own (l ++ two b) (c + 1) (c + 2) (by omega) (by simp [two])
end Go.Abs.Try

namespace Go.Abs.Try
open Go Go.Abs
set_option maxHeartbeats 16000000
set_option maxRecDepth 100000
set_option linter.unusedSimpArgs false
set_option linter.unusedVariables false

theorem take_snoc {ds : List UInt8} {i : Nat} (h : i < ds.length) : ds.take (i + 1) = ds.take i ++ [ds[i]] := by
  rw [List.take_add_one, List.getElem?_eq_getElem h]; rfl

theorem loop8 (Φ : Nat → Option CallF) (K : Nat) (ds : List UInt8) (hd : ds.length = 32) : ∀ (d i k : Nat) (v : AV) (h : AH) (c : Nat), i + d = 32 → d < k → Rep 18 (hexOf (ds.take i)) v h c →
    ∃ v' h' c', iter (ev Φ K b8_0) [2, 3, 6, 7] [18] k ⟨[(2, .str ⟨#[]⟩), (3, v), (6, .agg (u8s ds)), (7, .int .i64 i)], h, c⟩ =
      some (.exit 0, ⟨[(2, .str ⟨#[]⟩), (3, v'), (6, .agg (u8s ds)), (7, .int .i64 32), (8, .bool false)], h', c'⟩) ∧ Rep 18 (hexOf ds) v' h' c'
  | 0, i, 0, v, h, c, hi, hk, R => by omega
  | 0, i, k + 1, v, h, c, hi, hk, R => by
    obtain rfl : i = 32 := by omega
    rw [List.take_of_length_le (by omega)] at R
    refine ⟨v, h, c, ?_, R⟩
    rw [iter_succ]
    generalize hexOf ds = l at R
    cases R <;> simp -implicitDefEqProofs [b8_0]
  | d + 1, i, 0, v, h, c, hi, hk, R => by omega
  | d + 1, i, k + 1, v, h, c, hi, hk, R => by
    obtain ⟨v1, h1, c1, e1, R1⟩ := step8 Φ K ds (hexOf (ds.take i)) i k v h c hd (by omega) (by rw [hexOf_len, List.length_take]; omega) R
    rw [e1]
    exact loop8 Φ K ds hd d (i + 1) k v1 h1 c1 (by omega) (by omega) (by rw [take_snoc (by omega), hexOf_snoc]; exact R1)

theorem hex8 (n : Nat) (ds : List UInt8) (hd : ds.length = 32) : E (n + 1) 8 [.agg (u8s ds)] = some (.str ⟨(hexOf ds).toArray⟩, []) := by
  rw [e8]
  have hp := u8s_plain ds
  have c1 := plains_cells hp
  have i1 := plains_in hp
  have hl := u8s_len ds
  have ht : (u8s ds).take 32 = u8s ds := List.take_of_length_le (by omega)
  obtain ⟨v, h, c, e, R⟩ := loop8 (Q n) 100 ds hd 32 0 100 .nilS [] 1 (by omega) (by omega) (by simpa [hexOf] using Rep.nil 1)
  simp -implicitDefEqProofs [a8, c8, c1, i1, hl, ht, hd]
  rw [iter_keep]
  simp
  simp at e
  rw [e]
  generalize hexOf ds = l at *
  cases R with
  | nil => simp [toBytes]
  | own _ g _ hg hne =>
    have e1 : (byteRows l).length = l.length := by simp [byteRows]
    have e2 : (byteRows l).take l.length = byteRows l := List.take_of_length_le (by omega)
    simp [e1, e2, toBytes_rows]
end Go.Abs.Try

namespace Go.Abs.Try
open Go Go.Abs
set_option maxHeartbeats 16000000
set_option maxRecDepth 100000
set_option linter.unusedSimpArgs false
set_option linter.unusedVariables false

theorem one_dig (k : Nat) (h : k < 16) : (⟨#[48, 49, 50, 51, 52, 53, 54, 55, 56, 57, 97, 98, 99, 100, 101, 102]⟩ : ByteArray).extract k (k + 1) = ⟨#[dig k]⟩ := by
  have : ∀ k : Fin 16, (⟨#[48, 49, 50, 51, 52, 53, 54, 55, 56, 57, 97, 98, 99, 100, 101, 102]⟩ : ByteArray).extract k.val (k.val + 1) = ⟨#[dig k.val]⟩ := by decide
  exact this ⟨k, h⟩
theorem add_dig (l : List UInt8) (k : Nat) (h : l.length ≤ 1000) : astr .add ⟨l.toArray⟩ ⟨#[dig k]⟩ = some (.str ⟨(l ++ [dig k]).toArray⟩) :=
  astr_add_bytes l [dig k] (by simp; omega)

theorem step9 (Φ : Nat → Option CallF) (K : Nat) (ds l : List UInt8) (i k : Nat) (c : Nat) (g : Nat) (hg : g < c) (hd : ds.length = 32) (hi : i < 32) (hl : l.length ≤ 64) :
    ∃ c', c ≤ c' ∧ iter (ev Φ K b9_0) [1, 2, 3, 4] [1] (k + 1) ⟨[(1, .ptr 1 g 0), (2, .str ⟨#[]⟩), (3, .str ⟨l.toArray⟩), (4, .int .i64 i)], [⟨1, g, .var (u8s ds)⟩], c⟩ =
      iter (ev Φ K b9_0) [1, 2, 3, 4] [1] k ⟨[(1, .ptr 1 g 0), (2, .str ⟨#[]⟩), (3, .str ⟨(l ++ two (ds[i]'(by omega))).toArray⟩), (4, .int .i64 (i + 1 : Nat))], [⟨1, g, .var (u8s ds)⟩], c'⟩ := by
  have h1 : (i : Int) < 32 := by omega
  have hget := u8s_get ds i (by omega)
  have hget' := (List.getElem?_eq_some_iff.1 hget).2
  have hlen := u8s_len ds
  have w1 : IntKind.i64.wrap ((i : Int) + 1) = (i : Int) + 1 := wrap_i64 _ (by omega) (by omega)
  generalize hb : ds[i]'(by omega) = b at *
  have hlt := byte_lt b
  have q1 : ((b.toNat : Int)).tdiv 16 = ((b.toNat / 16 : Nat) : Int) := by rw [Int.tdiv_eq_ediv_of_nonneg] <;> omega
  have q2 : ((b.toNat : Int)).tmod 16 = ((b.toNat % 16 : Nat) : Int) := by rw [Int.tmod_eq_emod_of_nonneg] <;> omega
  have w2 : IntKind.i64.wrap (b.toNat : Int) = b.toNat := wrap_i64 _ (by omega) (by omega)
  have w3 : IntKind.i64.wrap ((b.toNat : Int) / 16) = (b.toNat : Int) / 16 := wrap_i64 _ (by omega) (by omega)
  have w4 : IntKind.i64.wrap ((b.toNat : Int) / 16 + 1) = (b.toNat : Int) / 16 + 1 := wrap_i64 _ (by omega) (by omega)
  have w5 : IntKind.i64.wrap ((b.toNat : Int) % 16 + 1) = (b.toNat : Int) % 16 + 1 := wrap_i64 _ (by omega) (by omega)
  have p1 : 0 ≤ (b.toNat : Int) / 16 := by omega
  have p2 : ((b.toNat : Int) / 16).toNat = b.toNat / 16 := by omega
  have p3 : 0 ≤ (b.toNat : Int) % 16 := by omega
  have p4 : ((b.toNat : Int) % 16).toNat = b.toNat % 16 := by omega
  have p5 : ((b.toNat : Int) / 16 + 1).toNat = b.toNat / 16 + 1 := by omega
  have p6 : ((b.toNat : Int) % 16 + 1).toNat = b.toNat % 16 + 1 := by omega
  have p7 : 0 ≤ (b.toNat : Int) / 16 + 1 := by omega
  have p8 : 0 ≤ (b.toNat : Int) % 16 + 1 := by omega
  have p9 : (b.toNat : Int) / 16 + 1 ≤ 16 := by omega
  have p10 : (b.toNat : Int) % 16 + 1 ≤ 16 := by omega
  have p11 : (b.toNat : Int) / 16 ≤ (b.toNat : Int) / 16 + 1 := by omega
  have p12 : (b.toNat : Int) % 16 ≤ (b.toNat : Int) % 16 + 1 := by omega
  have x1 := one_dig (b.toNat / 16) (by omega)
  have x2 := one_dig (b.toNat % 16) (by omega)
  have a1 := add_dig l (b.toNat / 16) (by omega)
  have a2 := add_dig (l ++ [dig (b.toNat / 16)]) (b.toNat % 16) (by simp; omega)
  have e0 : l ++ two b = (l ++ [dig (b.toNat / 16)]) ++ [dig (b.toNat % 16)] := by simp [two]
  refine ⟨c, Nat.le_refl _, iter_norm ?_⟩
  rw [e0]
  simp -implicitDefEqProofs [b9_0, St.keep, h1, hi, hget, hget', hlen, hd, q1, q2, w1, w2, w3, w4, w5, p1, p2, p3, p4, p5, p6, p7, p8, p9, p10, p11, p12, x1, x2, a1, a2, hg]

theorem loop9 (Φ : Nat → Option CallF) (K : Nat) (ds : List UInt8) (hd : ds.length = 32) (g : Nat) : ∀ (d i k : Nat) (c : Nat), i + d = 32 → d < k → g < c →
    ∃ c', iter (ev Φ K b9_0) [1, 2, 3, 4] [1] k ⟨[(1, .ptr 1 g 0), (2, .str ⟨#[]⟩), (3, .str ⟨(hexOf (ds.take i)).toArray⟩), (4, .int .i64 i)], [⟨1, g, .var (u8s ds)⟩], c⟩ =
      some (.exit 0, ⟨[(1, .ptr 1 g 0), (2, .str ⟨#[]⟩), (3, .str ⟨(hexOf ds).toArray⟩), (4, .int .i64 32), (7, .int .i64 32), (8, .bool false)], [⟨1, g, .var (u8s ds)⟩], c'⟩)
  | 0, i, 0, c, hi, hk, hg => by omega
  | 0, i, k + 1, c, hi, hk, hg => by
    obtain rfl : i = 32 := by omega
    rw [List.take_of_length_le (l := ds) (by omega)]
    refine ⟨c, ?_⟩
    rw [iter_succ]
    simp -implicitDefEqProofs [b9_0]
  | d + 1, i, 0, c, hi, hk, hg => by omega
  | d + 1, i, k + 1, c, hi, hk, hg => by
    obtain ⟨c1, hc, e1⟩ := step9 Φ K ds (hexOf (ds.take i)) i k c g hg hd (by omega) (by rw [hexOf_len, List.length_take]; omega)
    rw [← hexOf_snoc, ← take_snoc (by omega)] at e1
    obtain ⟨c2, e2⟩ := loop9 Φ K ds hd g d (i + 1) k c1 (by omega) (by omega) (by omega)
    exact ⟨c2, e1.trans e2⟩

theorem hex9 (n : Nat) (ds : List UInt8) (hd : ds.length = 32) : E (n + 1) 9 [.agg (u8s ds)] = some (.str ⟨(hexOf ds).toArray⟩, []) := by
  rw [e9]
  have hp := u8s_plain ds
  have c1 := plains_cells hp
  have i1 := plains_in hp
  obtain ⟨c, e⟩ := loop9 (Q n) 100 ds hd 0 32 0 100 1 (by omega) (by omega) (by omega)
  simp -implicitDefEqProofs [a9, c9, c1, i1]
  rw [iter_keep]
  simp
  simp [show hexOf [] = [] from rfl] at e
  rw [e]
  simp
end Go.Abs.Try

namespace Go.Abs.Try
open Go Go.Abs
set_option maxHeartbeats 16000000
set_option maxRecDepth 100000
set_option linter.unusedSimpArgs false
set_option linter.unusedVariables false

/-- the number of a digit -/
def nib (c : UInt8) : Option Nat := if Go.Lib.indexByte D c < 0 then none else some (Go.Lib.indexByte D c).toNat
theorem ib_all : ∀ n : Fin 256, -1 ≤ Go.Lib.indexByte D (UInt8.ofNat n.val) ∧ Go.Lib.indexByte D (UInt8.ofNat n.val) < 16 := by decide +kernel
theorem ib_range (c : UInt8) : -1 ≤ Go.Lib.indexByte D c ∧ Go.Lib.indexByte D c < 16 := by
  have := ib_all ⟨c.toNat, byte_lt c⟩
  simpa using this
theorem ib10 (n : Nat) (c : UInt8) : E (n + 2) 10 [.str ⟨#[48, 49, 50, 51, 52, 53, 54, 55, 56, 57, 97, 98, 99, 100, 101, 102]⟩, .int .u8 c.toNat] = some (.int .i64 (Go.Lib.indexByte D c), []) := by
  have : E (n + 2) 10 [.str ⟨#[48, 49, 50, 51, 52, 53, 54, 55, 56, 57, 97, 98, 99, 100, 101, 102]⟩, .int .u8 c.toNat] = some (.int .i64 (Go.Lib.indexByte D (c.toNat : Int).toNat.toUInt8), []) := by kernel_rfl
  rw [this]
  simp

/-- one half byte goes into its place -/
def into (arr : List UInt8) (i n : Nat) : List UInt8 := arr.set (i / 2) (UInt8.ofNat (16 * ((arr.getD (i / 2) 0).toNat % 16) + n))
def rd : Nat → List UInt8 → List UInt8 → Option (List UInt8)
  | _, [], arr => some arr
  | i, c :: r, arr => match nib c with
    | none => none
    | some n => rd (i + 1) r (into arr i n)
def prs (l : List UInt8) : AV := if l.length = 64 then (match rd 0 l (List.replicate 32 0) with | some a => .tup [.agg (u8s a), .int .i64 0] | none => .tup [.agg z23, .int .i64 1]) else .tup [.agg z23, .int .i64 1]
theorem z23_u8s : z23 = u8s (List.replicate 32 0) := by kernel_rfl
theorem into_len (arr i n) : (into arr i n).length = arr.length := by simp [into]

theorem or4 (a n : Nat) (h : n < 16) (ha : a < 256) : abits .or .u8 (IntKind.wrap .u8 ((a : Int) * 16)) (n : Int) = some (.int .u8 ((16 * (a % 16) + n : Nat) : Int)) := by
  have : ∀ (x : Fin 16) (y : Fin 16), IntKind.wrap .u8 (BitVec.ofInt (IntKind.bits .u8) ((16 * x.val : Nat) : Int) ||| BitVec.ofInt (IntKind.bits .u8) ((y.val : Nat) : Int)).toNat = ((16 * x.val + y.val : Nat) : Int) := by decide +kernel
  have e : IntKind.wrap .u8 ((a : Int) * 16) = ((16 * (a % 16) : Nat) : Int) := by rw [wrap_u8]; omega
  have h2 := this ⟨a % 16, by omega⟩ ⟨n, h⟩
  simp only [abits, e]
  rw [h2]

theorem step5 (m K : Nat) (l arr : List UInt8) (i k : Nat) (v3 : AV) (c g2 g4 : Nat) (hl : l.length = 64) (ha : arr.length = 32) (hi : i < 64) (n : Nat) (hn : nib (l[i]'(by omega)) = some n) :
    iter (ev (Q (m + 2)) K b5_0) [0, 2, 3, 4, 12, 13] [2, 4] (k + 1) ⟨[(0, .str ⟨l.toArray⟩), (2, .ptr 2 g2 0), (4, .ptr 4 g4 0), (12, .int .i64 64), (13, .int .i64 i)], [⟨2, g2, .var z23⟩, ⟨4, g4, .var (u8s arr)⟩], c⟩ =
      iter (ev (Q (m + 2)) K b5_0) [0, 2, 3, 4, 12, 13] [2, 4] k ⟨[(0, .str ⟨l.toArray⟩), (2, .ptr 2 g2 0), (4, .ptr 4 g4 0), (12, .int .i64 64), (13, .int .i64 (i + 1 : Nat))], [⟨2, g2, .var z23⟩, ⟨4, g4, .var (u8s (into arr i n))⟩], c⟩ := by
  have h1 : (i : Int) < 64 := by omega
  have hc := ib10 m (l[i]'(by omega))
  have hr := ib_range (l[i]'(by omega))
  unfold nib at hn
  split at hn
  · cases hn
  · next hneg =>
    have hn' := Option.some.inj hn
    have e1 : Go.Lib.indexByte D (l[i]'(by omega)) = (n : Int) := by omega
    rw [e1] at hc
    have hn16 : n < 16 := by omega
    have g1 : i < l.length := by omega
    have hj : i / 2 < arr.length := by omega
    have w1 : IntKind.i64.wrap ((i : Int) + 1) = (i : Int) + 1 := wrap_i64 _ (by omega) (by omega)
    have q1 : ((i : Int)).tdiv 2 = ((i / 2 : Nat) : Int) := by rw [Int.tdiv_eq_ediv_of_nonneg] <;> omega
    have w2 : IntKind.i64.wrap ((i : Int) / 2) = (i : Int) / 2 := wrap_i64 _ (by omega) (by omega)
    have p1 : 0 ≤ (i : Int) / 2 := by omega
    have p2 : ((i : Int) / 2).toNat = i / 2 := by omega
    have p3 : i / 2 < 32 := by omega
    have hget := u8s_get arr (i / 2) hj
    have hget' := (List.getElem?_eq_some_iff.1 hget).2
    have hlen := u8s_len arr
    have hz : z23.length = 32 := rfl
    have w3 : IntKind.u8.wrap (n : Int) = n := by rw [wrap_u8]; omega
    have o1 := or4 (arr[i / 2]'hj).toNat n hn16 (byte_lt _)
    have s1 : (u8s arr).take (i / 2) ++ AV.int .u8 ((16 * ((arr[i / 2]'hj).toNat % 16) + n : Nat) : Int) :: (u8s arr).drop (i / 2 + 1) = u8s (into arr i n) := by
      have e2 : arr.getD (i / 2) 0 = arr[i / 2]'hj := by simp [List.getD, hj]
      have e3 : (UInt8.ofNat (16 * ((arr[i / 2]'hj).toNat % 16) + n)).toNat = 16 * ((arr[i / 2]'hj).toNat % 16) + n := by simp; omega
      unfold into
      rw [e2, List.set_eq_take_append_cons_drop, if_pos hj]
      simp only [u8s, List.map_append, List.map_cons, List.map_take, List.map_drop, e3]
    have h3 : ¬ (n : Int) < 0 := by omega
    refine iter_norm ?_
    simp -implicitDefEqProofs [b5_0, St.keep, h1, hi, q10, hc, g1, hl, ha, w1, w2, w3, q1, p1, p2, p3, hget, hget', hlen, o1, h3, hz, show i / 2 ≤ 31 by omega]
    simpa using s1

theorem fail5 (m K : Nat) (l arr : List UInt8) (i k : Nat) (c g2 g4 : Nat) (hl : l.length = 64) (hi : i < 64) (hn : nib (l[i]'(by omega)) = none) :
    ∃ s', iter (ev (Q (m + 2)) K b5_0) [0, 2, 3, 4, 12, 13] [2, 4] (k + 1) ⟨[(0, .str ⟨l.toArray⟩), (2, .ptr 2 g2 0), (4, .ptr 4 g4 0), (12, .int .i64 64), (13, .int .i64 i)], [⟨2, g2, .var z23⟩, ⟨4, g4, .var (u8s arr)⟩], c⟩ = some (.ret, s') ∧
      envGet s'.env 2 = some (.ptr 2 g2 0) ∧ envGet s'.env 3 = some (.int .i64 1) ∧ s'.h = [⟨2, g2, .var z23⟩, ⟨4, g4, .var (u8s arr)⟩] := by
  have h1 : (i : Int) < 64 := by omega
  have hc := ib10 m (l[i]'(by omega))
  unfold nib at hn
  split at hn
  · next hneg =>
    have g1 : i < l.length := by omega
    have hz : z23.length = 32 := rfl
    have hcz : cellsOK z23 = true := by kernel_rfl
    have hd : z23.drop 32 = [] := rfl
    rw [iter_succ]
    simp -implicitDefEqProofs [b5_0, h1, hi, q10, hc, g1, hl, hneg, hz, hcz, hd]
  · cases hn

theorem loop5 (m K : Nat) (l : List UInt8) (hl : l.length = 64) (c g2 g4 : Nat) : ∀ (d i k : Nat) (arr : List UInt8), i + d = 64 → d < k → arr.length = 32 →
    (∀ a, rd i (l.drop i) arr = some a → a.length = 32 ∧ iter (ev (Q (m + 2)) K b5_0) [0, 2, 3, 4, 12, 13] [2, 4] k ⟨[(0, .str ⟨l.toArray⟩), (2, .ptr 2 g2 0), (4, .ptr 4 g4 0), (12, .int .i64 64), (13, .int .i64 i)], [⟨2, g2, .var z23⟩, ⟨4, g4, .var (u8s arr)⟩], c⟩ =
      some (.exit 0, ⟨[(0, .str ⟨l.toArray⟩), (2, .ptr 2 g2 0), (4, .ptr 4 g4 0), (12, .int .i64 64), (13, .int .i64 64), (14, .bool false)], [⟨2, g2, .var z23⟩, ⟨4, g4, .var (u8s a)⟩], c⟩)) ∧
    (rd i (l.drop i) arr = none → ∃ s' b, iter (ev (Q (m + 2)) K b5_0) [0, 2, 3, 4, 12, 13] [2, 4] k ⟨[(0, .str ⟨l.toArray⟩), (2, .ptr 2 g2 0), (4, .ptr 4 g4 0), (12, .int .i64 64), (13, .int .i64 i)], [⟨2, g2, .var z23⟩, ⟨4, g4, .var (u8s arr)⟩], c⟩ = some (.ret, s') ∧
      envGet s'.env 2 = some (.ptr 2 g2 0) ∧ envGet s'.env 3 = some (.int .i64 1) ∧ s'.h = [⟨2, g2, .var z23⟩, ⟨4, g4, b⟩])
  | d, i, 0, arr, hi, hk, ha => by omega
  | 0, i, k + 1, arr, hi, hk, ha => by
    obtain rfl : i = 64 := by omega
    rw [List.drop_of_length_le (l := l) (by omega)]
    refine ⟨fun a h => ?_, fun h => by simp [rd] at h⟩
    obtain rfl := Option.some.inj h
    refine ⟨ha, ?_⟩
    rw [iter_succ]
    simp -implicitDefEqProofs [b5_0]
  | d + 1, i, k + 1, arr, hi, hk, ha => by
    have hlt : i < l.length := by omega
    rw [List.drop_eq_getElem_cons hlt]
    cases hn : nib (l[i]'hlt) with
    | none =>
      refine ⟨fun a h => by simp [rd, hn] at h, fun _ => ?_⟩
      obtain ⟨s', e1, e2, e3, e4⟩ := fail5 m K l arr i k c g2 g4 hl (by omega) hn
      exact ⟨s', _, e1, e2, e3, e4⟩
    | some n =>
      have e := step5 m K l arr i k .nilS c g2 g4 hl ha (by omega) n hn
      have IH := loop5 m K l hl c g2 g4 d (i + 1) k (into arr i n) (by omega) (by omega) (by rw [into_len]; exact ha)
      simp only [rd, hn]
      rw [e]
      exact IH

theorem parse5 (m : Nat) (l : List UInt8) (hl' : l.length < 1000000) : E (m + 3) 5 [.str ⟨l.toArray⟩] = some (prs l, []) := by
  rw [e5]
  have hz : z23.length = 32 := rfl
  have hcz : cellsOK z23 = true := by kernel_rfl
  have hd : z23.drop 32 = [] := rfl
  have ht : z23.take 32 = z23 := rfl
  have hp : z23.all AV.plain = true := by kernel_rfl
  have m1 := plains_mv hp
  by_cases h : l.length = 64
  · have L := loop5 m 100 l h 2 0 1 64 0 100 (List.replicate 32 0) (by omega) (by omega) (by simp)
    rw [← z23_u8s, List.drop_zero] at L
    unfold prs
    rw [if_pos h]
    cases hr : rd 0 l (List.replicate 32 0) with
    | none =>
      obtain ⟨s', b, e1, e2, e3, e4⟩ := L.2 hr
      simp -implicitDefEqProofs [a5, c5, h]
      rw [iter_keep]
      simp
      simp at e1
      rw [e1]
      simp [e2, e3, e4, m1, hz, ht]
    | some a =>
      obtain ⟨ha, e1⟩ := L.1 a hr
      have ma := plains_mv (u8s_plain a)
      have hla := u8s_len a
      have hta : (u8s a).take 32 = u8s a := List.take_of_length_le (by omega)
      have hca := plains_cells (u8s_plain a)
      simp -implicitDefEqProofs [a5, c5, h]
      rw [iter_keep]
      simp
      simp at e1
      rw [e1]
      simp [m1, hz, ht, ma, hla, hta, ha, hd, hca]
  · have h' : ((l.length : Int) != 64) = true := by simp; omega
    unfold prs
    rw [if_neg h]
    simp -implicitDefEqProofs [a5, c5, h', hz, hcz, hd, ht, m1]
end Go.Abs.Try

namespace Go.Abs.Try
open Go Go.Abs
set_option maxHeartbeats 16000000
set_option maxRecDepth 100000
set_option linter.unusedSimpArgs false
set_option linter.unusedVariables false

def scan (c : UInt8) : Nat → Nat → Int → Int
  | 0, _, n => n
  | d + 1, k, n => scan c d (k + 1) (if dig k = c then (k : Int) else n)
theorem scan_all : ∀ n : Fin 256, scan (UInt8.ofNat n.val) 16 0 (-1) = Go.Lib.indexByte D (UInt8.ofNat n.val) := by decide +kernel
theorem scan_eq (c : UInt8) : scan c 16 0 (-1) = Go.Lib.indexByte D c := by
  have := scan_all ⟨c.toNat, byte_lt c⟩
  simpa using this

abbrev s6 (l : List UInt8) (i : Nat) (n : Int) (k : Nat) (g2 g4 : Nat) (b : List AV) (c : Nat) : St :=
  ⟨[(0, .str ⟨l.toArray⟩), (2, .ptr 2 g2 0), (4, .ptr 4 g4 0), (5, .int .i64 i), (6, .int .i64 n), (7, .int .i64 k)], [⟨2, g2, .var z23⟩, ⟨4, g4, .var b⟩], c⟩

theorem loop6i (Φ : Nat → Option CallF) (K : Nat) (l : List UInt8) (i : Nat) (hi : i < l.length) (g2 g4 : Nat) (b : List AV) (c : Nat) : ∀ (d k : Nat) (n : Int) (f : Nat), k + d = 16 → d < f →
    iter (ev Φ K b6_0) [0, 2, 3, 4, 5, 6, 7] [2, 4] f (s6 l i n k g2 g4 b c) =
      some (.exit 2, ⟨[(0, .str ⟨l.toArray⟩), (2, .ptr 2 g2 0), (4, .ptr 4 g4 0), (5, .int .i64 i), (6, .int .i64 (scan (l[i]'hi) d k n)), (7, .int .i64 16), (16, .int .i64 16), (17, .bool false)], [⟨2, g2, .var z23⟩, ⟨4, g4, .var b⟩], c⟩)
  | d, k, n, 0, hk, hf => by omega
  | 0, k, n, f + 1, hk, hf => by
    obtain rfl : k = 16 := by omega
    rw [iter_succ]
    simp -implicitDefEqProofs [b6_0, scan]
  | d + 1, k, n, f + 1, hk, hf => by
    have IH := loop6i Φ K l i hi g2 g4 b c d (k + 1) (if dig k = l[i]'hi then (k : Int) else n) f (by omega) (by omega)
    rw [scan, ← IH]
    have h1 : (k : Int) < 16 := by omega
    have dk := dig_get k (by omega)
    have w1 : IntKind.i64.wrap ((k : Int) + 1) = (k : Int) + 1 := wrap_i64 _ (by omega) (by omega)
    refine iter_norm ?_
    by_cases hq : dig k = l[i]'hi
    · rw [hq] at dk
      simp -implicitDefEqProofs [b6_0, St.keep, h1, hi, dk, w1, hq]
    · have hq' : (((dig k).toNat : Int) == ((l[i]'hi).toNat : Int)) = false := by
        rw [beq_eq_false_iff_ne]
        intro e
        apply hq
        have : (dig k).toNat = (l[i]'hi).toNat := by omega
        exact UInt8.toNat.inj this
      simp -implicitDefEqProofs [b6_0, St.keep, h1, hi, dk, w1, hq, hq']

abbrev t6 (l : List UInt8) (i : Nat) (g2 g4 : Nat) (b : List AV) (c : Nat) : St :=
  ⟨[(0, .str ⟨l.toArray⟩), (2, .ptr 2 g2 0), (4, .ptr 4 g4 0), (5, .int .i64 i)], [⟨2, g2, .var z23⟩, ⟨4, g4, .var b⟩], c⟩

theorem mul4 (a n : Nat) (h : n < 16) (ha : a < 256) : IntKind.u8.wrap (IntKind.u8.wrap ((a : Int) * 16) + (n : Int)) = ((16 * (a % 16) + n : Nat) : Int) := by
  rw [wrap_u8, wrap_u8]; omega

theorem step6 (Φ : Nat → Option CallF) (l arr : List UInt8) (i k : Nat) (c g2 g4 : Nat) (hl : l.length = 64) (ha : arr.length = 32) (hi : i < 64) (n : Nat) (hn : nib (l[i]'(by omega)) = some n) :
    iter (ev Φ 100 b6_1) [0, 2, 3, 4, 5] [2, 4] (k + 1) (t6 l i g2 g4 (u8s arr) c) = iter (ev Φ 100 b6_1) [0, 2, 3, 4, 5] [2, 4] k (t6 l (i + 1) g2 g4 (u8s (into arr i n)) c) := by
  have h1 : (i : Int) < 64 := by omega
  have hr := ib_range (l[i]'(by omega))
  have L := loop6i Φ 100 l i (by omega) g2 g4 (u8s arr) c 16 0 (-1) 100 (by omega) (by omega)
  rw [scan_eq] at L
  unfold nib at hn
  split at hn
  · cases hn
  · next hneg =>
    have hn' := Option.some.inj hn
    have e1 : Go.Lib.indexByte D (l[i]'(by omega)) = (n : Int) := by omega
    rw [e1] at L
    have hn16 : n < 16 := by omega
    have hj : i / 2 < arr.length := by omega
    have w1 : IntKind.i64.wrap ((i : Int) + 1) = (i : Int) + 1 := wrap_i64 _ (by omega) (by omega)
    have q1 : ((i : Int)).tdiv 2 = ((i / 2 : Nat) : Int) := by rw [Int.tdiv_eq_ediv_of_nonneg] <;> omega
    have w2 : IntKind.i64.wrap ((i : Int) / 2) = (i : Int) / 2 := wrap_i64 _ (by omega) (by omega)
    have p1 : 0 ≤ (i : Int) / 2 := by omega
    have p2 : ((i : Int) / 2).toNat = i / 2 := by omega
    have p3 : i / 2 < 32 := by omega
    have p4 : i / 2 ≤ 31 := by omega
    have hget := u8s_get arr (i / 2) hj
    have hget' := (List.getElem?_eq_some_iff.1 hget).2
    have hlen := u8s_len arr
    have hz : z23.length = 32 := rfl
    have w3 : IntKind.u8.wrap (n : Int) = n := by rw [wrap_u8]; omega
    have o1 := mul4 (arr[i / 2]'hj).toNat n hn16 (byte_lt _)
    have s1 : (u8s arr).take (i / 2) ++ AV.int .u8 ((16 * ((arr[i / 2]'hj).toNat % 16) + n : Nat) : Int) :: (u8s arr).drop (i / 2 + 1) = u8s (into arr i n) := by
      have e2 : arr.getD (i / 2) 0 = arr[i / 2]'hj := by simp [List.getD, hj]
      have e3 : (UInt8.ofNat (16 * ((arr[i / 2]'hj).toNat % 16) + n)).toNat = 16 * ((arr[i / 2]'hj).toNat % 16) + n := by simp; omega
      unfold into
      rw [e2, List.set_eq_take_append_cons_drop, if_pos hj]
      simp only [u8s, List.map_append, List.map_cons, List.map_take, List.map_drop, e3]
    have h3 : ¬ (n : Int) < 0 := by omega
    refine iter_norm ?_
    simp -implicitDefEqProofs [b6_1, St.keep, h1]
    rw [iter_keep]
    simp
    simp [s6] at L
    rw [L]
    simp -implicitDefEqProofs [hi, hl, ha, w1, w2, w3, q1, p1, p2, p3, p4, hget, hget', hlen, o1, h3, hz]
    exact ⟨_, _, ⟨rfl, rfl⟩, rfl, by simp, by simpa using s1, rfl⟩

theorem fail6 (Φ : Nat → Option CallF) (l arr : List UInt8) (i k : Nat) (c g2 g4 : Nat) (hl : l.length = 64) (hi : i < 64) (hn : nib (l[i]'(by omega)) = none) :
    ∃ s', iter (ev Φ 100 b6_1) [0, 2, 3, 4, 5] [2, 4] (k + 1) (t6 l i g2 g4 (u8s arr) c) = some (.ret, s') ∧
      envGet s'.env 2 = some (.ptr 2 g2 0) ∧ envGet s'.env 3 = some (.int .i64 1) ∧ s'.h = [⟨2, g2, .var z23⟩, ⟨4, g4, .var (u8s arr)⟩] := by
  have h1 : (i : Int) < 64 := by omega
  have L := loop6i Φ 100 l i (by omega) g2 g4 (u8s arr) c 16 0 (-1) 100 (by omega) (by omega)
  rw [scan_eq] at L
  unfold nib at hn
  split at hn
  · next hneg =>
    have hz : z23.length = 32 := rfl
    have hcz : cellsOK z23 = true := by kernel_rfl
    have hd : z23.drop 32 = [] := rfl
    rw [iter_succ]
    simp -implicitDefEqProofs [b6_1, h1]
    rw [iter_keep]
    simp
    simp [s6] at L
    rw [L]
    simp -implicitDefEqProofs [hneg, hz, hcz, hd]
  · cases hn

theorem loop6 (Φ : Nat → Option CallF) (l : List UInt8) (hl : l.length = 64) (c g2 g4 : Nat) : ∀ (d i k : Nat) (arr : List UInt8), i + d = 64 → d < k → arr.length = 32 →
    (∀ a, rd i (l.drop i) arr = some a → a.length = 32 ∧ iter (ev Φ 100 b6_1) [0, 2, 3, 4, 5] [2, 4] k (t6 l i g2 g4 (u8s arr) c) =
      some (.exit 0, ⟨[(0, .str ⟨l.toArray⟩), (2, .ptr 2 g2 0), (4, .ptr 4 g4 0), (5, .int .i64 64), (12, .int .i64 64), (13, .bool false)], [⟨2, g2, .var z23⟩, ⟨4, g4, .var (u8s a)⟩], c⟩)) ∧
    (rd i (l.drop i) arr = none → ∃ s' b, iter (ev Φ 100 b6_1) [0, 2, 3, 4, 5] [2, 4] k (t6 l i g2 g4 (u8s arr) c) = some (.ret, s') ∧
      envGet s'.env 2 = some (.ptr 2 g2 0) ∧ envGet s'.env 3 = some (.int .i64 1) ∧ s'.h = [⟨2, g2, .var z23⟩, ⟨4, g4, b⟩])
  | d, i, 0, arr, hi, hk, ha => by omega
  | 0, i, k + 1, arr, hi, hk, ha => by
    obtain rfl : i = 64 := by omega
    rw [List.drop_of_length_le (l := l) (by omega)]
    refine ⟨fun a h => ?_, fun h => by simp [rd] at h⟩
    obtain rfl := Option.some.inj h
    refine ⟨ha, ?_⟩
    rw [iter_succ]
    simp -implicitDefEqProofs [b6_1]
  | d + 1, i, k + 1, arr, hi, hk, ha => by
    have hlt : i < l.length := by omega
    rw [List.drop_eq_getElem_cons hlt]
    cases hn : nib (l[i]'hlt) with
    | none =>
      refine ⟨fun a h => by simp [rd, hn] at h, fun _ => ?_⟩
      obtain ⟨s', e1, e2, e3, e4⟩ := fail6 Φ l arr i k c g2 g4 hl (by omega) hn
      exact ⟨s', _, e1, e2, e3, e4⟩
    | some n =>
      have e := step6 Φ l arr i k c g2 g4 hl ha (by omega) n hn
      have IH := loop6 Φ l hl c g2 g4 d (i + 1) k (into arr i n) (by omega) (by omega) (by rw [into_len]; exact ha)
      simp only [rd, hn]
      rw [e]
      exact IH

theorem parse6 (m : Nat) (l : List UInt8) (hl' : l.length < 1000000) : E (m + 1) 6 [.str ⟨l.toArray⟩] = some (prs l, []) := by
  rw [e6]
  have hz : z23.length = 32 := rfl
  have hcz : cellsOK z23 = true := by kernel_rfl
  have hd : z23.drop 32 = [] := rfl
  have ht : z23.take 32 = z23 := rfl
  have hp : z23.all AV.plain = true := by kernel_rfl
  have m1 := plains_mv hp
  by_cases h : l.length = 64
  · have L := loop6 (Q m) l h 2 0 1 64 0 100 (List.replicate 32 0) (by omega) (by omega) (by simp)
    rw [← z23_u8s, List.drop_zero] at L
    unfold prs
    rw [if_pos h]
    cases hr : rd 0 l (List.replicate 32 0) with
    | none =>
      obtain ⟨s', b, e1, e2, e3, e4⟩ := L.2 hr
      simp -implicitDefEqProofs [a6, c6, h]
      rw [iter_keep]
      simp
      simp [t6] at e1
      rw [e1]
      simp [e2, e3, e4, m1, hz, ht]
    | some a =>
      obtain ⟨ha, e1⟩ := L.1 a hr
      have ma := plains_mv (u8s_plain a)
      have hla := u8s_len a
      have hta : (u8s a).take 32 = u8s a := List.take_of_length_le (by omega)
      have hca := plains_cells (u8s_plain a)
      simp -implicitDefEqProofs [a6, c6, h]
      rw [iter_keep]
      simp
      simp [t6] at e1
      rw [e1]
      simp [m1, hz, ht, ma, hla, hta, ha, hd, hca]
  · have h' : ((l.length : Int) != 64) = true := by simp; omega
    unfold prs
    rw [if_neg h]
    simp -implicitDefEqProofs [a6, c6, h', hz, hcz, hd, ht, m1]
end Go.Abs.Try

namespace Go.Abs.Try
open Go Go.Abs
set_option maxHeartbeats 16000000
set_option maxRecDepth 100000
set_option linter.unusedSimpArgs false
set_option linter.unusedVariables false

theorem hexes_ok : E 6 7 [] = some (.bool true, []) := by kernel_rfl
theorem rd_len : ∀ (l : List UInt8) (i : Nat) (arr a : List UInt8), rd i l arr = some a → a.length = arr.length
  | [], i, arr, a, h => by obtain rfl := Option.some.inj h; rfl
  | c :: r, i, arr, a, h => by
    simp only [rd] at h
    split at h
    · cases h
    · rw [rd_len r _ _ _ h, into_len]
theorem prs_form (l : List UInt8) : ∃ a e, prs l = .tup [.agg (u8s a), .int .i64 e] ∧ a.length = 32 := by
  unfold prs
  split
  · split
    · next a h => exact ⟨a, 0, rfl, by rw [rd_len _ _ _ _ h]; simp⟩
    · exact ⟨List.replicate 32 0, 1, by rw [z23_u8s], by simp⟩
  · exact ⟨List.replicate 32 0, 1, by rw [z23_u8s], by simp⟩
/-- bytes of a row that came in -/
theorem ok_bytes : ∀ (k : Nat) (l : List AV), okRow (List.replicate k (.int .u8)) l → ∃ ds : List UInt8, ds.length = k ∧ l = u8s ds
  | 0, l, h => ⟨[], rfl, by rw [h.nil_inv]; rfl⟩
  | k + 1, l, h => by
    rw [List.replicate_succ] at h
    obtain ⟨n, vs, rfl, hw, h2⟩ := h.int
    obtain ⟨ds, h3, rfl⟩ := ok_bytes k vs h2
    simp only [Lit.wf, Bool.and_eq_true, decide_eq_true_eq] at hw
    have e1 : IntKind.min .u8 = 0 := rfl
    have e2 : IntKind.max .u8 = 255 := rfl
    refine ⟨UInt8.ofNat n.toNat :: ds, by simp [h3], ?_⟩
    simp only [u8s, List.map_cons]
    congr 2
    simp
    omega
theorem kinds_u8s : ∀ ds : List UInt8, kindsOK (List.replicate ds.length 0) (u8s ds) = true
  | [] => rfl
  | b :: r => by
    have : u8s (b :: r) = .int .u8 b.toNat :: u8s r := rfl
    rw [List.length_cons, List.replicate_succ, this, kindsOK, kinds_u8s r]; rfl

theorem law3 (x0 x1 : AV) (o0 : ∃ cs, x0 = .agg cs ∧ okRow (List.replicate 32 (.int .u8)) cs) (o1 : okRow [.str] [x1]) : E 7 3 [x0, x1] = some (.bool true, []) := by
  obtain ⟨cs, rfl, h0⟩ := o0
  obtain ⟨ds, hd, rfl⟩ := ok_bytes 32 cs h0
  obtain ⟨s, vs, e, _, _⟩ := o1.str
  obtain ⟨rfl, _⟩ : x1 = .str s ∧ _ := by simpa using e
  obtain ⟨l, rfl⟩ := mkBytes s
  rw [e3]
  have hp := u8s_plain ds
  have c1 := plains_cells hp
  have i1 := plains_in hp
  have l1 := plains_lend hp
  have hlen := u8s_len ds
  have ht : (u8s ds).take 32 = u8s ds := List.take_of_length_le (by omega)
  by_cases hl : 65536 < (l.length : Int)
  · simp -implicitDefEqProofs [a3, c3, hl, c1, i1, l1]
  have h5 := parse5 3 l (by omega)
  have h6 := parse6 5 l (by omega)
  obtain ⟨a, e, hP, hA⟩ := prs_form l
  rw [hP] at h5 h6
  have hpa := u8s_plain a
  have c2 := plains_cells hpa
  have i2 := plains_in hpa
  have w2 := plains_low hpa
  have w1 := plains_low hp
  have hlen2 := u8s_len a
  have ht2 : (u8s a).take 32 = u8s a := List.take_of_length_le (by omega)
  have hk := aeq_self (kinds_u8s a)
  rw [hA] at hk
  simp only [List.replicate] at hk
  have h8 := hex8 5 ds hd
  have h9 := hex9 5 ds hd
  have hz : z23.length = 32 := rfl
  have hzd : z23.drop 32 = [] := rfl
  have hzp : z23.all AV.plain = true := by kernel_rfl
  have w3 := plains_low hzp
  simp -implicitDefEqProofs [a3, c3, q5, q6, q7, q8, q9, hl, c1, i1, l1, hlen, ht, hd, h5, h6, c2, i2, w1, w2, w3, hlen2, hA, ht2, hk, h8, h9, hz, hzd, hexes_ok]
theorem ref3 : Refines Go.Proofs.Try.prog 3 (E 7 3) := ref 7 3 (q3 6)
end Go.Abs.Try

namespace Go.Abs.Try
open Go Go.Abs
set_option maxHeartbeats 16000000
set_option maxRecDepth 100000
set_option linter.unusedSimpArgs false
set_option linter.unusedVariables false

theorem nib_dig (k : Nat) (h : k < 16) : nib (dig k) = some k := by
  have : ∀ k : Fin 16, nib (dig k.val) = some k.val := by decide +kernel
  exact this ⟨k, h⟩
theorem dig_nib {c : UInt8} {n : Nat} (h : nib c = some n) : n < 16 ∧ dig n = c := by
  have : ∀ x : Fin 256, (match nib (UInt8.ofNat x.val) with | some n => decide (n < 16) && (dig n == UInt8.ofNat x.val) | none => true) = true := by decide +kernel
  have h2 := this ⟨c.toNat, byte_lt c⟩
  have e : UInt8.ofNat c.toNat = c := by simp
  simp only [e, h, Bool.and_eq_true, decide_eq_true_eq, beq_iff_eq] at h2
  exact h2
theorem two_of (n m : Nat) (hn : n < 16) (hm : m < 16) : two (UInt8.ofNat (16 * n + m)) = [dig n, dig m] := by
  have e : (UInt8.ofNat (16 * n + m)).toNat = 16 * n + m := by simp; omega
  unfold two
  rw [e]
  congr 2
  · omega
  · congr 1; congr 1; omega
theorem set_pre (pre : List UInt8) (q : List UInt8) (x y : UInt8) (i : Nat) (h : i / 2 = pre.length) : (pre ++ x :: q).set (i / 2) y = pre ++ y :: q := by
  rw [h]; simp
theorem get_pre (pre : List UInt8) (q : List UInt8) (x : UInt8) (i : Nat) (h : i / 2 = pre.length) : (pre ++ x :: q).getD (i / 2) 0 = x := by
  rw [h]; simp [List.getD]
theorem into2 (pre q : List UInt8) (n m : Nat) (hn : n < 16) (hm : m < 16) :
    into (into (pre ++ 0 :: q) (2 * pre.length) n) (2 * pre.length + 1) m = pre ++ UInt8.ofNat (16 * n + m) :: q := by
  have h1 : (2 * pre.length) / 2 = pre.length := by omega
  have h2 : (2 * pre.length + 1) / 2 = pre.length := by omega
  have e0 : into (pre ++ 0 :: q) (2 * pre.length) n = pre ++ UInt8.ofNat n :: q := by
    unfold into
    rw [get_pre _ _ _ _ h1, set_pre _ _ _ _ _ h1]
    simp
  rw [e0]
  unfold into
  rw [get_pre _ _ _ _ h2, set_pre _ _ _ _ _ h2]
  have : (UInt8.ofNat n).toNat % 16 = n := by simp; omega
  rw [this]

theorem rd_hex : ∀ (r pre : List UInt8), rd (2 * pre.length) (hexOf r) (pre ++ List.replicate r.length 0) = some (pre ++ r)
  | [], pre => by simp [hexOf, rd]
  | b :: q, pre => by
    have hb := byte_lt b
    have e : hexOf (b :: q) = dig (b.toNat / 16) :: dig (b.toNat % 16) :: hexOf q := rfl
    rw [e, List.length_cons, List.replicate_succ]
    simp only [rd, nib_dig _ (show b.toNat / 16 < 16 by omega), nib_dig _ (show b.toNat % 16 < 16 by omega)]
    rw [into2 _ _ _ _ (by omega) (by omega)]
    have e2 : UInt8.ofNat (16 * (b.toNat / 16) + b.toNat % 16) = b := by
      rw [show 16 * (b.toNat / 16) + b.toNat % 16 = b.toNat by omega]; simp
    rw [e2]
    have IH := rd_hex q (pre ++ [b])
    simp only [List.length_append, List.length_cons, List.length_nil, List.append_assoc, List.cons_append, List.nil_append, Nat.zero_add] at IH
    rw [show 2 * pre.length + 1 + 1 = 2 * (pre.length + 1) by omega]
    exact IH

theorem hex_rd : ∀ (q : Nat) (pre l a : List UInt8), l.length = 2 * q → rd (2 * pre.length) l (pre ++ List.replicate q 0) = some a → ∃ r, r.length = q ∧ a = pre ++ r ∧ hexOf r = l
  | 0, pre, l, a, hl, h => by
    obtain rfl : l = [] := List.length_eq_zero_iff.1 (by omega)
    simp only [rd, List.replicate_zero, List.append_nil, Option.some.injEq] at h
    exact ⟨[], rfl, by simp [h], rfl⟩
  | q + 1, pre, l, a, hl, h => by
    match l, hl with
    | c1 :: c2 :: l', hl =>
      rw [List.replicate_succ] at h
      simp only [rd] at h
      split at h
      · cases h
      · next n h1 =>
        split at h
        · cases h
        · next m h2 =>
          obtain ⟨n1, n2⟩ := dig_nib h1
          obtain ⟨m1, m2⟩ := dig_nib h2
          rw [into2 _ _ _ _ n1 m1] at h
          have IH := hex_rd q (pre ++ [UInt8.ofNat (16 * n + m)]) l' a (by simp at hl; omega)
          simp only [List.length_append, List.length_cons, List.length_nil, List.append_assoc, List.cons_append, List.nil_append, Nat.zero_add] at IH
          rw [show 2 * pre.length + 1 + 1 = 2 * (pre.length + 1) by omega] at h
          obtain ⟨r, r1, r2, r3⟩ := IH h
          refine ⟨UInt8.ofNat (16 * n + m) :: r, by simp [r1], by simpa using r2, ?_⟩
          have e : hexOf (UInt8.ofNat (16 * n + m) :: r) = two (UInt8.ofNat (16 * n + m)) ++ hexOf r := rfl
          rw [e, two_of _ _ n1 m1, r3, n2, m2]; rfl

theorem prs_hex (ds : List UInt8) (hd : ds.length = 32) : prs (hexOf ds) = .tup [.agg (u8s ds), .int .i64 0] := by
  unfold prs
  rw [if_pos (by rw [hexOf_len]; omega)]
  have := rd_hex ds []
  simp only [List.length_nil, Nat.mul_zero, List.nil_append, hd] at this
  rw [this]
theorem prs_back (l : List UInt8) : (∃ a, prs l = .tup [.agg (u8s a), .int .i64 0] ∧ a.length = 32 ∧ hexOf a = l) ∨ prs l = .tup [.agg z23, .int .i64 1] := by
  unfold prs
  split
  · next h =>
    cases hr : rd 0 l (List.replicate 32 0) with
    | none => exact .inr rfl
    | some a =>
      obtain ⟨r, r1, r2, r3⟩ := hex_rd 32 [] l a (by omega) (by simpa using hr)
      simp only [List.nil_append] at r2
      subst r2
      exact .inl ⟨a, rfl, r1, r3⟩
  · exact .inr rfl

theorem law4 (x0 x1 : AV) (o0 : ∃ cs, x0 = .agg cs ∧ okRow (List.replicate 32 (.int .u8)) cs) (o1 : okRow [.str] [x1]) : E 7 4 [x0, x1] = some (.bool true, []) := by
  obtain ⟨cs, rfl, h0⟩ := o0
  obtain ⟨ds, hd, rfl⟩ := ok_bytes 32 cs h0
  obtain ⟨s, vs, e, _, _⟩ := o1.str
  obtain ⟨rfl, _⟩ : x1 = .str s ∧ _ := by simpa using e
  obtain ⟨l, rfl⟩ := mkBytes s
  rw [e4]
  have hp := u8s_plain ds
  have c1 := plains_cells hp
  have i1 := plains_in hp
  have l1 := plains_lend hp
  have w1 := plains_low hp
  have hlen := u8s_len ds
  have ht : (u8s ds).take 32 = u8s ds := List.take_of_length_le (by omega)
  have hk := aeq_self (kinds_u8s ds)
  rw [hd] at hk
  simp only [List.replicate] at hk
  by_cases hl : 65536 < (l.length : Int)
  · simp -implicitDefEqProofs [a4, c4, hl, c1, i1, l1]
  have h8 := hex8 5 ds hd
  have h5 := parse5 3 (hexOf ds) (by rw [hexOf_len]; omega)
  rw [prs_hex ds hd] at h5
  have g5 := parse5 3 l (by omega)
  have hz : z23.length = 32 := rfl
  have hzd : z23.drop 32 = [] := rfl
  have hzt : z23.take 32 = z23 := rfl
  have hzp : z23.all AV.plain = true := by kernel_rfl
  have w3 := plains_low hzp
  have i3 := plains_in hzp
  have c3' := plains_cells hzp
  rcases prs_back l with ⟨a, hP, hA, hL⟩ | hP
  · rw [hP] at g5
    have hpa := u8s_plain a
    have c2 := plains_cells hpa
    have i2 := plains_in hpa
    have l2 := plains_lend hpa
    have w2 := plains_low hpa
    have hlen2 := u8s_len a
    have ht2 : (u8s a).take 32 = u8s a := List.take_of_length_le (by omega)
    have g8 := hex8 5 a hA
    rw [hL] at g8
    simp -implicitDefEqProofs [a4, c4, q5, q7, q8, hl, c1, i1, l1, hlen, ht, hd, h5, g5, h8, g8, c2, i2, l2, w1, w2, w3, hlen2, hA, ht2, hk, hz, hzd, hexes_ok]
  · rw [hP] at g5
    simp -implicitDefEqProofs [a4, c4, q5, q7, q8, hl, c1, i1, l1, hlen, ht, hd, h5, g5, h8, w1, w3, i3, c3', hk, hz, hzd, hzt, hexes_ok]
theorem ref4 : Refines Go.Proofs.Try.prog 4 (E 7 4) := ref 7 4 (q4 6)
end Go.Abs.Try
