/- Part 1 of FA: what our evaluation of a function's code says, the machine's run does; no condition of its own. -/
import Derived.Test.YteeganhogbbpnaaDoorAbsC
import Derived.Test.YteeganhogbbpnaaDoorProg
set_option linter.unusedVariables false
set_option linter.unusedSimpArgs false
set_option linter.unusedSectionVars false
namespace Go.Abs.Tryd
open Go Go.Abs
def glob1 : List AV := [.int .u8 0, .int .u8 1, .int .u8 28, .int .u8 2, .int .u8 29, .int .u8 14, .int .u8 24, .int .u8 3, .int .u8 30, .int .u8 22, .int .u8 20, .int .u8 15, .int .u8 25, .int .u8 17, .int .u8 4, .int .u8 8, .int .u8 31, .int .u8 27, .int .u8 13, .int .u8 23, .int .u8 21, .int .u8 19, .int .u8 16, .int .u8 7, .int .u8 26, .int .u8 12, .int .u8 18, .int .u8 6, .int .u8 11, .int .u8 5, .int .u8 10, .int .u8 9]
def glob2 : List AV := [.int .u8 0, .int .u8 1, .int .u8 56, .int .u8 2, .int .u8 57, .int .u8 49, .int .u8 28, .int .u8 3, .int .u8 61, .int .u8 58, .int .u8 42, .int .u8 50, .int .u8 38, .int .u8 29, .int .u8 17, .int .u8 4, .int .u8 62, .int .u8 47, .int .u8 59, .int .u8 36, .int .u8 45, .int .u8 43, .int .u8 51, .int .u8 22, .int .u8 53, .int .u8 39, .int .u8 33, .int .u8 30, .int .u8 24, .int .u8 18, .int .u8 12, .int .u8 5, .int .u8 63, .int .u8 55, .int .u8 48, .int .u8 27, .int .u8 60, .int .u8 41, .int .u8 37, .int .u8 16, .int .u8 46, .int .u8 35, .int .u8 44, .int .u8 21, .int .u8 52, .int .u8 32, .int .u8 23, .int .u8 11, .int .u8 54, .int .u8 26, .int .u8 40, .int .u8 15, .int .u8 34, .int .u8 20, .int .u8 31, .int .u8 10, .int .u8 25, .int .u8 14, .int .u8 19, .int .u8 9, .int .u8 13, .int .u8 8, .int .u8 7, .int .u8 6]
def glob3 : List AV := [.int .u32 1116352408, .int .u32 1899447441, .int .u32 3049323471, .int .u32 3921009573, .int .u32 961987163, .int .u32 1508970993, .int .u32 2453635748, .int .u32 2870763221, .int .u32 3624381080, .int .u32 310598401, .int .u32 607225278, .int .u32 1426881987, .int .u32 1925078388, .int .u32 2162078206, .int .u32 2614888103, .int .u32 3248222580, .int .u32 3835390401, .int .u32 4022224774, .int .u32 264347078, .int .u32 604807628, .int .u32 770255983, .int .u32 1249150122, .int .u32 1555081692, .int .u32 1996064986, .int .u32 2554220882, .int .u32 2821834349, .int .u32 2952996808, .int .u32 3210313671, .int .u32 3336571891, .int .u32 3584528711, .int .u32 113926993, .int .u32 338241895, .int .u32 666307205, .int .u32 773529912, .int .u32 1294757372, .int .u32 1396182291, .int .u32 1695183700, .int .u32 1986661051, .int .u32 2177026350, .int .u32 2456956037, .int .u32 2730485921, .int .u32 2820302411, .int .u32 3259730800, .int .u32 3345764771, .int .u32 3516065817, .int .u32 3600352804, .int .u32 4094571909, .int .u32 275423344, .int .u32 430227734, .int .u32 506948616, .int .u32 659060556, .int .u32 883997877, .int .u32 958139571, .int .u32 1322822218, .int .u32 1537002063, .int .u32 1747873779, .int .u32 1955562222, .int .u32 2024104815, .int .u32 2227730452, .int .u32 2361852424, .int .u32 2428436474, .int .u32 2756734187, .int .u32 3204031479, .int .u32 3329325298]
instance : Globs := ⟨[(1, glob1), (2, glob2), (3, glob3)]⟩
def z25 : List AV := [(.int .i64 0), .nilS]
def z29 : List AV := List.replicate 32 (.int .u8 0)
def z54 : List AV := [(.int .i64 0), .nilS]
def z63 : List AV := List.replicate 8 (.int .u32 0)
def z69 : List AV := List.replicate 8 (.int .u32 0) ++ [.nilS, (.int .u64 0)]
def z72 : List AV := List.replicate 64 (.int .u32 0)
def z78 : List AV := List.replicate 16 (.int .u32 0)

/-- estreat/estreatlaw04.FrontChecks: parameters int []api.Digest -/
def c3 : AC :=
  (.seq (.reg false [
    { dst := some 4, op := .mov (.c (.bool false)) }])
  ((.seq ((.seq (.reg false [
    { dst := some 12, op := .mov (.t 1) },
    { dst := some 13, op := .len (.t 12) },
    { dst := some 14, op := .bin .gtr (.t 13) (.c (.int .i64 200)) }])
  (.cond (.t 14) ((.seq (.reg false [
    { dst := some 4, op := .mov (.c (.bool true)) }])
  (.ret))) (.skip))))
  (.keep [0, 1] [100200] ((.seq (.reg false [
    { dst := some 15, op := .mov (.t 1) },
    { dst := some 16, op := .call 17000 8 [(.t 15)] },
    { dst := some 5, op := .mov (.t 16) }])
  ((.seq (.reg false [
    { dst := some 17, op := .mov (.t 0) },
    { dst := some 18, op := .mov (.t 1) },
    { dst := some 19, op := .build z25 [(0, 1, (.t 17)), (1, 1, (.t 18))] },
    { dst := some 6, op := .alloc 6 z25 },
    { dst := none, op := .store 2 (.t 6) (.t 19) }])
  (.keep [0, 1, 5, 6] [6, 17000, 100200] ((.seq (.reg false [
    { dst := some 20, op := .load (some 2) (.t 6) },
    { dst := some 21, op := .call 22000 9 [(.t 20)] },
    { dst := some 7, op := .mov (.t 21) }])
  ((.seq (.reg false [
    { dst := some 23, op := .load (some 2) (.t 6) },
    { dst := some 24, op := .call 25000 10 [(.t 23)] },
    { dst := some 22, op := .mov (.t 24) },
    { dst := some 25, op := .ext 0 (.t 22) },
    { dst := some 26, op := .ext 1 (.t 22) },
    { dst := some 8, op := .alloc 8 z29 },
    { dst := none, op := .store 32 (.t 8) (.t 25) },
    { dst := some 9, op := .mov (.t 26) }])
  (.keep [0, 1, 5, 7, 8, 9] [8, 17000, 100200] ((.seq (.reg false [
    { dst := some 27, op := .mov (.t 0) },
    { dst := some 28, op := .mov (.t 5) },
    { dst := some 29, op := .call 30000 11 [(.t 27), (.t 28)] },
    { dst := some 10, op := .mov (.t 29) }])
  (.keep [1, 5, 7, 8, 9, 10] [8, 17000, 100200] ((.seq (.reg false [
    { dst := some 30, op := .build z29 [] },
    { dst := some 11, op := .alloc 11 z29 },
    { dst := none, op := .store 32 (.t 11) (.t 30) }])
  ((.seq ((.seq (.reg false [
    { dst := some 31, op := .mov (.t 10) }])
  (.cond (.t 31) (.reg false [
    { dst := some 32, op := .mov (.t 5) },
    { dst := some 33, op := .call 34000 12 [(.t 32)] },
    { dst := none, op := .store 32 (.t 11) (.t 33) }]) (.skip))))
  (.keep [1, 5, 7, 8, 9, 10, 11] [8, 11, 17000, 100200] ((.seq (.reg false [
    { dst := some 34, op := .call 35000 13 [] },
    { dst := some 35, op := .mov (.t 34) },
    { dst := some 36, op := .mov (.t 7), guard := some (35, true) },
    { dst := some 37, op := .bin .eql (.t 36) (.c (.int .i64 0)), guard := some (35, true) },
    { dst := some 38, op := .mov (.t 10), guard := some (35, true) },
    { dst := some 39, op := .eqb false (.t 37) (.t 38), guard := some (35, true) },
    { dst := some 40, op := .pick (.t 35) (.t 39) (.c (.bool false)) },
    { dst := some 41, op := .mov (.t 40) },
    { dst := some 42, op := .mov (.t 7), guard := some (41, true) },
    { dst := some 43, op := .bin .eql (.t 42) (.c (.int .i64 0)), guard := some (41, true) },
    { dst := some 44, op := .mov (.t 43), guard := some (41, true) },
    { dst := some 45, op := .mov (.t 7), guard := some (44, false) },
    { dst := some 46, op := .bin .eql (.t 45) (.c (.int .i64 30)), guard := some (44, false) },
    { dst := some 47, op := .pick (.t 44) (.c (.bool true)) (.t 46), guard := some (41, true) },
    { dst := some 48, op := .pick (.t 41) (.t 47) (.c (.bool false)) },
    { dst := some 49, op := .mov (.t 48) },
    { dst := some 50, op := .mov (.t 9), guard := some (49, true) },
    { dst := some 51, op := .mov (.t 7), guard := some (49, true) },
    { dst := some 52, op := .bin .eql (.t 50) (.t 51), guard := some (49, true) },
    { dst := some 53, op := .pick (.t 49) (.t 52) (.c (.bool false)) },
    { dst := some 54, op := .mov (.t 53) },
    { dst := some 55, op := .load (some 32) (.t 8), guard := some (54, true) },
    { dst := some 56, op := .load (some 32) (.t 11), guard := some (54, true) },
    { dst := some 57, op := .eqa false [0, 0, 0, 0, 0, 0, 0, 0, 0, 0, 0, 0, 0, 0, 0, 0, 0, 0, 0, 0, 0, 0, 0, 0, 0, 0, 0, 0, 0, 0, 0, 0] (.t 55) (.t 56), guard := some (54, true) },
    { dst := some 58, op := .pick (.t 54) (.t 57) (.c (.bool false)) },
    { dst := some 59, op := .mov (.t 58) },
    { dst := some 60, op := .mov (.t 1), guard := some (59, true) },
    { dst := some 61, op := .mov (.t 5), guard := some (59, true) },
    { dst := some 62, op := .call 63000 14 [(.t 60), (.t 61)], guard := some (59, true) },
    { dst := some 63, op := .pick (.t 59) (.t 62) (.c (.bool false)) },
    { dst := some 4, op := .mov (.t 63) }])
  (.ret)))))))))))))))))))))))))
/-- with its results -/
def a3 : AFun := ⟨c3, [(4, none)], 64⟩

/-- estreat/estreatlaw04.FrontLists: parameters []api.Digest -/
def c4 : AC :=
  (.seq (.reg false [
    { dst := some 2, op := .mov (.c (.bool false)) }])
  ((.seq ((.seq (.reg false [
    { dst := some 6, op := .mov (.t 0) },
    { dst := some 7, op := .len (.t 6) },
    { dst := some 8, op := .bin .gtr (.t 7) (.c (.int .i64 200)) }])
  (.cond (.t 8) ((.seq (.reg false [
    { dst := some 2, op := .mov (.c (.bool true)) }])
  (.ret))) (.skip))))
  (.keep [0] [100000] ((.seq (.reg false [
    { dst := some 9, op := .mov (.t 0) },
    { dst := some 10, op := .call 11000 8 [(.t 9)] },
    { dst := some 3, op := .mov (.t 10) }])
  ((.seq (.reg false [
    { dst := some 12, op := .mov (.t 0) },
    { dst := some 13, op := .call 14000 15 [(.t 12)] },
    { dst := some 11, op := .mov (.t 13) },
    { dst := some 14, op := .ext 0 (.t 11) },
    { dst := some 15, op := .ext 1 (.t 11) },
    { dst := some 4, op := .alloc 4 z25 },
    { dst := none, op := .store 2 (.t 4) (.t 14) },
    { dst := some 5, op := .mov (.t 15) }])
  (.keep [0, 3, 4, 5] [4, 11000, 14001, 100000] ((.seq (.reg true [
    { dst := some 16, op := .call 17000 13 [] },
    { dst := some 17, op := .mov (.t 16), rs := [16], an := [0] },
    { dst := some 18, op := .mov (.t 5), guard := some (17, true), rs := [5, 17], an := [1] },
    { dst := some 19, op := .bin .eql (.t 18) (.c (.int .i64 0)), guard := some (17, true), rs := [17, 18], an := [1, 2] },
    { dst := some 20, op := .pick (.t 17) (.t 19) (.c (.bool false)), rs := [17, 19], an := [1, 3] },
    { dst := some 21, op := .mov (.t 20), rs := [20], an := [4] },
    { dst := some 22, op := .fad 0 (.t 4), guard := some (21, true), rs := [4, 21], an := [5], mn := [4] },
    { dst := some 23, op := .load none (.t 22), guard := some (21, true), rs := [21, 22], tn := [4], an := [5, 6] },
    { dst := some 24, op := .mov (.t 0), guard := some (21, true), rs := [0, 21], an := [5], mn := [100000] },
    { dst := some 25, op := .len (.t 24), guard := some (21, true), rs := [21, 24], an := [5, 8] },
    { dst := some 26, op := .bin .eql (.t 23) (.t 25), guard := some (21, true), rs := [21, 23, 25], an := [5, 7, 9] },
    { dst := some 27, op := .pick (.t 21) (.t 26) (.c (.bool false)), rs := [21, 26], an := [5, 10] },
    { dst := some 28, op := .mov (.t 27), rs := [27], an := [11] },
    { dst := some 29, op := .fad 1 (.t 4), guard := some (28, true), rs := [4, 28], an := [12], mn := [4] },
    { dst := some 30, op := .load none (.t 29), guard := some (28, true), rs := [28, 29], tn := [4], an := [12, 13], mn := [14001] },
    { dst := some 31, op := .mov (.t 3), guard := some (28, true), rs := [3, 28], an := [12], mn := [11000] },
    { dst := some 32, op := .call 33000 16 [(.t 31)], guard := some (28, true), rs := [28, 31], tn := [11000, 33000], wn := [33000], an := [12, 15] },
    { dst := some 33, op := .call 34000 14 [(.t 30), (.t 32)], guard := some (28, true), rs := [28, 30, 32], tn := [14001, 33000], an := [12, 14, 16] },
    { dst := some 34, op := .pick (.t 28) (.t 33) (.c (.bool false)), rs := [28, 33], an := [12, 17] },
    { dst := some 35, op := .mov (.t 34), rs := [34], an := [18] },
    { dst := some 36, op := .mov (.t 0), guard := some (35, true), rs := [0, 35], an := [19], mn := [100000] },
    { dst := some 37, op := .mov (.t 3), guard := some (35, true), rs := [3, 35], an := [19], mn := [11000] },
    { dst := some 38, op := .call 39000 14 [(.t 36), (.t 37)], guard := some (35, true), rs := [35, 36, 37], tn := [11000, 100000], an := [19, 20, 21] },
    { dst := some 39, op := .pick (.t 35) (.t 38) (.c (.bool false)), rs := [35, 38], an := [19, 22] },
    { dst := some 2, op := .mov (.t 39), rs := [39], an := [23] }])
  (.ret))))))))))))
/-- with its results -/
def a4 : AFun := ⟨c4, [(2, none)], 40⟩

def b5_0 : AC :=
  (.seq ((.seq (.reg false [
    { dst := some 81, op := .mov (.t 11) },
    { dst := some 82, op := .fad 1 (.t 8) },
    { dst := some 83, op := .load none (.t 82) },
    { dst := some 84, op := .len (.t 83) },
    { dst := some 85, op := .bin .lss (.t 81) (.t 84) }])
  (.cond (.t 85) (.skip) (.exit 0))))
  (.keep [1, 7, 8, 10, 11] [8, 17000, 23001, 100200] ((.seq (.block 1 (.reg false [
    { dst := some 88, op := .fad 1 (.t 8) },
    { dst := some 89, op := .load none (.t 88) },
    { dst := some 90, op := .mov (.t 11) },
    { dst := some 91, op := .build z29 [(0, 1, (.c (.int .u8 77)))] },
    { dst := some 92, op := .iad 32 (.t 89) (.t 90) },
    { dst := none, op := .store 32 (.t 92) (.t 91) }]))
  (.keep [1, 7, 8, 10, 11] [8, 17000, 23001, 100200] (.reg false [
    { dst := some 86, op := .mov (.t 11) },
    { dst := some 87, op := .bin .add (.t 86) (.c (.int .i64 1)) },
    { dst := some 11, op := .mov (.t 87) }]))))))
/-- estreat/estreatlaw04.FrontAdds: parameters int []api.Digest api.Digest -/
def c5 : AC :=
  (.seq (.reg false [
    { dst := some 5, op := .box 5 (.t 2) },
    { dst := some 6, op := .mov (.c (.bool false)) }])
  ((.seq ((.seq (.reg false [
    { dst := some 12, op := .mov (.t 1) },
    { dst := some 13, op := .len (.t 12) },
    { dst := some 14, op := .bin .gtr (.t 13) (.c (.int .i64 200)) }])
  (.cond (.t 14) ((.seq (.reg false [
    { dst := some 6, op := .mov (.c (.bool true)) }])
  (.ret))) (.skip))))
  (.keep [0, 1, 5] [5, 100200] ((.seq (.reg false [
    { dst := some 15, op := .mov (.t 1) },
    { dst := some 16, op := .call 17000 8 [(.t 15)] },
    { dst := some 7, op := .mov (.t 16) }])
  ((.seq (.reg false [
    { dst := some 18, op := .mov (.t 0) },
    { dst := some 19, op := .mov (.t 1) },
    { dst := some 20, op := .build z25 [(0, 1, (.t 18)), (1, 1, (.t 19))] },
    { dst := some 21, op := .load (some 32) (.t 5) },
    { dst := some 22, op := .call 23000 17 [(.t 20), (.t 21)] },
    { dst := some 17, op := .mov (.t 22) },
    { dst := some 23, op := .ext 0 (.t 17) },
    { dst := some 24, op := .ext 1 (.t 17) },
    { dst := some 8, op := .alloc 8 z25 },
    { dst := none, op := .store 2 (.t 8) (.t 23) },
    { dst := some 9, op := .mov (.t 24) }])
  (.keep [0, 1, 5, 7, 8, 9] [5, 8, 17000, 23001, 100200] ((.seq ((.seq (.reg false [
    { dst := some 25, op := .mov (.t 0) },
    { dst := some 26, op := .mov (.t 7) },
    { dst := some 27, op := .call 28000 11 [(.t 25), (.t 26)] },
    { dst := some 28, op := .un .not (.t 27) }])
  (.cond (.t 28) ((.seq (.reg false [
    { dst := some 29, op := .call 30000 13 [] },
    { dst := some 30, op := .mov (.t 29) },
    { dst := some 31, op := .mov (.t 9), guard := some (30, true) },
    { dst := some 32, op := .bin .eql (.t 31) (.c (.int .i64 30)), guard := some (30, true) },
    { dst := some 33, op := .pick (.t 30) (.t 32) (.c (.bool false)) },
    { dst := some 34, op := .mov (.t 33) },
    { dst := some 35, op := .fad 0 (.t 8), guard := some (34, true) },
    { dst := some 36, op := .load none (.t 35), guard := some (34, true) },
    { dst := some 37, op := .bin .eql (.t 36) (.c (.int .i64 0)), guard := some (34, true) },
    { dst := some 38, op := .pick (.t 34) (.t 37) (.c (.bool false)) },
    { dst := some 39, op := .mov (.t 38) },
    { dst := some 40, op := .fad 1 (.t 8), guard := some (39, true) },
    { dst := some 41, op := .load none (.t 40), guard := some (39, true) },
    { dst := some 42, op := .len (.t 41), guard := some (39, true) },
    { dst := some 43, op := .bin .eql (.t 42) (.c (.int .i64 0)), guard := some (39, true) },
    { dst := some 44, op := .pick (.t 39) (.t 43) (.c (.bool false)) },
    { dst := some 6, op := .mov (.t 44) }])
  (.ret))) (.skip))))
  (.keep [0, 1, 5, 7, 8, 9] [5, 8, 17000, 23001, 100200] ((.seq ((.seq (.reg false [
    { dst := some 45, op := .mov (.t 0) },
    { dst := some 46, op := .bin .eql (.t 45) (.c (.int .i64 100000)) }])
  (.cond (.t 46) ((.seq (.reg false [
    { dst := some 47, op := .call 48000 13 [] },
    { dst := some 48, op := .mov (.t 47) },
    { dst := some 49, op := .mov (.t 9), guard := some (48, true) },
    { dst := some 50, op := .bin .eql (.t 49) (.c (.int .i64 2)), guard := some (48, true) },
    { dst := some 51, op := .pick (.t 48) (.t 50) (.c (.bool false)) },
    { dst := some 52, op := .mov (.t 51) },
    { dst := some 53, op := .fad 0 (.t 8), guard := some (52, true) },
    { dst := some 54, op := .load none (.t 53), guard := some (52, true) },
    { dst := some 55, op := .bin .eql (.t 54) (.c (.int .i64 0)), guard := some (52, true) },
    { dst := some 56, op := .pick (.t 52) (.t 55) (.c (.bool false)) },
    { dst := some 57, op := .mov (.t 56) },
    { dst := some 58, op := .fad 1 (.t 8), guard := some (57, true) },
    { dst := some 59, op := .load none (.t 58), guard := some (57, true) },
    { dst := some 60, op := .len (.t 59), guard := some (57, true) },
    { dst := some 61, op := .bin .eql (.t 60) (.c (.int .i64 0)), guard := some (57, true) },
    { dst := some 62, op := .pick (.t 57) (.t 61) (.c (.bool false)) },
    { dst := some 6, op := .mov (.t 62) }])
  (.ret))) (.skip))))
  (.keep [0, 1, 5, 7, 8, 9] [5, 8, 17000, 23001, 100200] ((.seq (.reg true [
    { dst := some 63, op := .mov (.t 9), rs := [9] },
    { dst := some 64, op := .bin .eql (.t 63) (.c (.int .i64 0)), rs := [63], an := [0] },
    { dst := some 65, op := .mov (.t 64), rs := [64], an := [1] },
    { dst := some 66, op := .fad 0 (.t 8), guard := some (65, true), rs := [8, 65], an := [2], mn := [8] },
    { dst := some 67, op := .load none (.t 66), guard := some (65, true), rs := [65, 66], tn := [8], an := [2, 3] },
    { dst := some 68, op := .mov (.t 0), guard := some (65, true), rs := [0, 65], an := [2] },
    { dst := some 69, op := .bin .add (.t 68) (.c (.int .i64 1)), guard := some (65, true), rs := [65, 68], an := [2, 5] },
    { dst := some 70, op := .bin .eql (.t 67) (.t 69), guard := some (65, true), rs := [65, 67, 69], an := [2, 4, 6] },
    { dst := some 71, op := .pick (.t 65) (.t 70) (.c (.bool false)), rs := [65, 70], an := [2, 7] },
    { dst := some 72, op := .mov (.t 71), rs := [71], an := [8] },
    { dst := some 73, op := .fad 1 (.t 8), guard := some (72, true), rs := [8, 72], an := [9], mn := [8] },
    { dst := some 74, op := .load none (.t 73), guard := some (72, true), rs := [72, 73], tn := [8], an := [9, 10], mn := [23001] },
    { dst := some 75, op := .mov (.t 0), guard := some (72, true), rs := [0, 72], an := [9] },
    { dst := some 76, op := .mov (.t 7), guard := some (72, true), rs := [7, 72], an := [9], mn := [17000] },
    { dst := some 77, op := .load (some 32) (.t 5), guard := some (72, true), rs := [5, 72], tn := [5], an := [9] },
    { dst := some 78, op := .call 79000 18 [(.t 75), (.t 76), (.t 77)], guard := some (72, true), rs := [72, 75, 76, 77], tn := [17000, 79000], wn := [79000], an := [9, 12, 13, 14] },
    { dst := some 79, op := .call 80000 14 [(.t 74), (.t 78)], guard := some (72, true), rs := [72, 74, 78], tn := [23001, 79000], an := [9, 11, 15] },
    { dst := some 80, op := .pick (.t 72) (.t 79) (.c (.bool false)), rs := [72, 79], an := [9, 16] },
    { dst := some 10, op := .mov (.t 80), rs := [80], an := [17] }])
  (.keep [1, 7, 8, 10] [8, 17000, 23001, 100200] ((.seq ((.seq (.reg false [
    { dst := some 11, op := .mov (.c (.int .i64 0)) }])
  (.block 0 (.loop [1, 7, 8, 10, 11] [8, 17000, 23001, 100200] b5_0))))
  (.keep [1, 7, 10] [17000, 100200] ((.seq (.reg false [
    { dst := some 93, op := .call 94000 13 [] },
    { dst := some 94, op := .mov (.t 93) },
    { dst := some 95, op := .mov (.t 10), guard := some (94, true) },
    { dst := some 96, op := .pick (.t 94) (.t 95) (.c (.bool false)) },
    { dst := some 97, op := .mov (.t 96) },
    { dst := some 98, op := .mov (.t 1), guard := some (97, true) },
    { dst := some 99, op := .mov (.t 7), guard := some (97, true) },
    { dst := some 100, op := .call 101000 14 [(.t 98), (.t 99)], guard := some (97, true) },
    { dst := some 101, op := .pick (.t 97) (.t 100) (.c (.bool false)) },
    { dst := some 6, op := .mov (.t 101) }])
  (.ret))))))))))))))))))))))))
/-- with its results -/
def a5 : AFun := ⟨c5, [(6, none)], 102⟩

/-- estreat/estreatlaw04.FrontKeeps: parameters int []api.Digest api.Digest api.Digest -/
def c6 : AC :=
  (.seq (.reg false [
    { dst := some 6, op := .box 6 (.t 2) },
    { dst := some 7, op := .box 7 (.t 3) },
    { dst := some 8, op := .mov (.c (.bool false)) }])
  ((.seq ((.seq (.reg false [
    { dst := some 14, op := .mov (.t 1) },
    { dst := some 15, op := .len (.t 14) },
    { dst := some 16, op := .bin .gtr (.t 15) (.c (.int .i64 200)) }])
  (.cond (.t 16) ((.seq (.reg false [
    { dst := some 8, op := .mov (.c (.bool true)) }])
  (.ret))) (.skip))))
  (.keep [0, 1, 6, 7] [6, 7, 100200] ((.seq (.reg false [
    { dst := some 17, op := .mov (.t 0) },
    { dst := some 18, op := .mov (.t 1) },
    { dst := some 19, op := .build z25 [(0, 1, (.t 17)), (1, 1, (.t 18))] },
    { dst := some 9, op := .alloc 9 z25 },
    { dst := none, op := .store 2 (.t 9) (.t 19) }])
  (.keep [0, 6, 7, 9] [6, 7, 9, 100200] ((.seq (.reg false [
    { dst := some 21, op := .load (some 2) (.t 9) },
    { dst := some 22, op := .load (some 32) (.t 6) },
    { dst := some 23, op := .call 24000 17 [(.t 21), (.t 22)] },
    { dst := some 20, op := .mov (.t 23) },
    { dst := some 24, op := .ext 0 (.t 20) },
    { dst := some 25, op := .ext 1 (.t 20) },
    { dst := some 10, op := .alloc 10 z25 },
    { dst := none, op := .store 2 (.t 10) (.t 24) },
    { dst := some 11, op := .mov (.t 25) }])
  (.keep [0, 6, 7, 9, 10, 11] [6, 7, 9, 10, 24001, 100200] ((.seq ((.seq (.reg false [
    { dst := some 26, op := .mov (.t 11) },
    { dst := some 27, op := .bin .neq (.t 26) (.c (.int .i64 0)) }])
  (.cond (.t 27) ((.seq (.reg false [
    { dst := some 28, op := .call 29000 13 [] },
    { dst := some 29, op := .mov (.t 28) },
    { dst := some 30, op := .load (some 2) (.t 9), guard := some (29, true) },
    { dst := some 31, op := .call 32000 9 [(.t 30)], guard := some (29, true) },
    { dst := some 32, op := .bin .neq (.t 31) (.c (.int .i64 0)), guard := some (29, true) },
    { dst := some 33, op := .mov (.t 32), guard := some (29, true) },
    { dst := some 34, op := .mov (.t 0), guard := some (33, false) },
    { dst := some 35, op := .bin .eql (.t 34) (.c (.int .i64 100000)), guard := some (33, false) },
    { dst := some 36, op := .pick (.t 33) (.c (.bool true)) (.t 35), guard := some (29, true) },
    { dst := some 37, op := .pick (.t 29) (.t 36) (.c (.bool false)) },
    { dst := some 8, op := .mov (.t 37) }])
  (.ret))) (.skip))))
  (.keep [0, 6, 7, 9, 10] [6, 7, 9, 10, 24001, 100200] ((.seq (.reg false [
    { dst := some 39, op := .load (some 2) (.t 9) },
    { dst := some 40, op := .load (some 32) (.t 7) },
    { dst := some 41, op := .call 42000 17 [(.t 39), (.t 40)] },
    { dst := some 38, op := .mov (.t 41) },
    { dst := some 42, op := .ext 0 (.t 38) },
    { dst := some 43, op := .ext 1 (.t 38) },
    { dst := some 12, op := .alloc 12 z25 },
    { dst := none, op := .store 2 (.t 12) (.t 42) },
    { dst := some 13, op := .mov (.t 43) }])
  (.keep [0, 6, 7, 9, 10, 12, 13] [6, 7, 9, 10, 12, 24001, 42001, 100200] ((.seq (.reg true [
    { dst := some 44, op := .call 45000 13 [] },
    { dst := some 45, op := .mov (.t 44), rs := [44], an := [0] },
    { dst := some 46, op := .load (some 2) (.t 9), guard := some (45, true), rs := [9, 45], tn := [9], an := [1], mn := [100200] },
    { dst := some 47, op := .call 48000 9 [(.t 46)], guard := some (45, true), rs := [45, 46], tn := [100200], an := [1, 2] },
    { dst := some 48, op := .bin .eql (.t 47) (.c (.int .i64 0)), guard := some (45, true), rs := [45, 47], an := [1, 3] },
    { dst := some 49, op := .pick (.t 45) (.t 48) (.c (.bool false)), rs := [45, 48], an := [1, 4] },
    { dst := some 50, op := .mov (.t 49), rs := [49], an := [5] },
    { dst := some 51, op := .load (some 2) (.t 10), guard := some (50, true), rs := [10, 50], tn := [10], an := [6], mn := [24001] },
    { dst := some 52, op := .call 53000 9 [(.t 51)], guard := some (50, true), rs := [50, 51], tn := [24001], an := [6, 7] },
    { dst := some 53, op := .bin .eql (.t 52) (.c (.int .i64 0)), guard := some (50, true), rs := [50, 52], an := [6, 8] },
    { dst := some 54, op := .pick (.t 50) (.t 53) (.c (.bool false)), rs := [50, 53], an := [6, 9] },
    { dst := some 55, op := .mov (.t 54), rs := [54], an := [10] },
    { dst := some 56, op := .mov (.t 13), guard := some (55, true), rs := [13, 55], an := [11] },
    { dst := some 57, op := .bin .eql (.t 56) (.c (.int .i64 0)), guard := some (55, true), rs := [55, 56], an := [11, 12] },
    { dst := some 58, op := .pick (.t 55) (.t 57) (.c (.bool false)), rs := [55, 57], an := [11, 13] },
    { dst := some 59, op := .mov (.t 58), rs := [58], an := [14] },
    { dst := some 60, op := .fad 1 (.t 10), guard := some (59, true), rs := [10, 59], an := [15], mn := [10] },
    { dst := some 61, op := .load none (.t 60), guard := some (59, true), rs := [59, 60], tn := [10], an := [15, 16], mn := [24001] },
    { dst := some 62, op := .len (.t 61), guard := some (59, true), rs := [59, 61], an := [15, 17] },
    { dst := some 63, op := .fad 1 (.t 12), guard := some (59, true), rs := [12, 59], an := [15], mn := [12] },
    { dst := some 64, op := .load none (.t 63), guard := some (59, true), rs := [59, 63], tn := [12], an := [15, 19], mn := [42001] },
    { dst := some 65, op := .len (.t 64), guard := some (59, true), rs := [59, 64], an := [15, 20] },
    { dst := some 66, op := .bin .eql (.t 62) (.t 65), guard := some (59, true), rs := [59, 62, 65], an := [15, 18, 21] },
    { dst := some 67, op := .pick (.t 59) (.t 66) (.c (.bool false)), rs := [59, 66], an := [15, 22] },
    { dst := some 68, op := .mov (.t 67), rs := [67], an := [23] },
    { dst := some 69, op := .fad 0 (.t 10), guard := some (68, true), rs := [10, 68], an := [24], mn := [10] },
    { dst := some 70, op := .load none (.t 69), guard := some (68, true), rs := [68, 69], tn := [10], an := [24, 25] },
    { dst := some 71, op := .bin .sub (.t 70) (.c (.int .i64 1)), guard := some (68, true), rs := [68, 70], an := [24, 26] },
    { dst := some 72, op := .mov (.t 0), guard := some (68, true), rs := [0, 68], an := [24] },
    { dst := some 73, op := .bin .eql (.t 71) (.t 72), guard := some (68, true), rs := [68, 71, 72], an := [24, 27, 28] },
    { dst := some 74, op := .pick (.t 68) (.t 73) (.c (.bool false)), rs := [68, 73], an := [24, 29] },
    { dst := some 75, op := .mov (.t 74), rs := [74], an := [30] },
    { dst := some 76, op := .fad 1 (.t 10), guard := some (75, true), rs := [10, 75], an := [31], mn := [10] },
    { dst := some 77, op := .load none (.t 76), guard := some (75, true), rs := [75, 76], tn := [10], an := [31, 32], mn := [24001] },
    { dst := some 78, op := .len (.t 77), guard := some (75, true), rs := [75, 77], an := [31, 33] },
    { dst := some 79, op := .bin .gtr (.t 78) (.c (.int .i64 0)), guard := some (75, true), rs := [75, 78], an := [31, 34] },
    { dst := some 80, op := .pick (.t 75) (.t 79) (.c (.bool false)), rs := [75, 79], an := [31, 35] },
    { dst := some 81, op := .mov (.t 80), rs := [80], an := [36] },
    { dst := some 82, op := .mov (.t 0), guard := some (81, true), rs := [0, 81], an := [37] },
    { dst := some 83, op := .bin .rem (.t 82) (.c (.int .i64 2)), guard := some (81, true), rs := [81, 82], an := [37, 38] },
    { dst := some 84, op := .bin .eql (.t 83) (.c (.int .i64 1)), guard := some (81, true), rs := [81, 83], an := [37, 39] },
    { dst := some 85, op := .mov (.t 84), guard := some (81, true), rs := [81, 84], an := [37, 40] },
    { dst := some 86, op := .fad 1 (.t 10), guard := some (85, false), rs := [10, 85], an := [41], mn := [10] },
    { dst := some 87, op := .load none (.t 86), guard := some (85, false), rs := [85, 86], tn := [10], an := [41, 42], mn := [24001] },
    { dst := some 88, op := .fad 1 (.t 10), guard := some (85, false), rs := [10, 85], an := [41], mn := [10] },
    { dst := some 89, op := .load none (.t 88), guard := some (85, false), rs := [85, 88], tn := [10], an := [41, 44], mn := [24001] },
    { dst := some 90, op := .len (.t 89), guard := some (85, false), rs := [85, 89], an := [41, 45] },
    { dst := some 91, op := .bin .sub (.t 90) (.c (.int .i64 1)), guard := some (85, false), rs := [85, 90], an := [41, 46] },
    { dst := some 92, op := .iad 32 (.t 87) (.t 91), guard := some (85, false), rs := [85, 87, 91], tn := [24001], an := [41, 43, 47] },
    { dst := some 93, op := .load (some 32) (.t 92), guard := some (85, false), rs := [85, 92], tn := [24001], an := [41, 48] },
    { dst := some 94, op := .load (some 32) (.t 6), guard := some (85, false), rs := [6, 85], tn := [6], an := [41] },
    { dst := some 95, op := .eqa false [0, 0, 0, 0, 0, 0, 0, 0, 0, 0, 0, 0, 0, 0, 0, 0, 0, 0, 0, 0, 0, 0, 0, 0, 0, 0, 0, 0, 0, 0, 0, 0] (.t 93) (.t 94), guard := some (85, false), rs := [85, 93, 94], an := [41, 49, 50] },
    { dst := some 96, op := .mov (.t 95), guard := some (85, false), rs := [85, 95], an := [41, 51] },
    { dst := some 97, op := .fad 1 (.t 12), guard := some (96, true), rs := [12, 96], an := [52], mn := [12] },
    { dst := some 98, op := .load none (.t 97), guard := some (96, true), rs := [96, 97], tn := [12], an := [52, 53], mn := [42001] },
    { dst := some 99, op := .fad 1 (.t 12), guard := some (96, true), rs := [12, 96], an := [52], mn := [12] },
    { dst := some 100, op := .load none (.t 99), guard := some (96, true), rs := [96, 99], tn := [12], an := [52, 55], mn := [42001] },
    { dst := some 101, op := .len (.t 100), guard := some (96, true), rs := [96, 100], an := [52, 56] },
    { dst := some 102, op := .bin .sub (.t 101) (.c (.int .i64 1)), guard := some (96, true), rs := [96, 101], an := [52, 57] },
    { dst := some 103, op := .iad 32 (.t 98) (.t 102), guard := some (96, true), rs := [96, 98, 102], tn := [42001], an := [52, 54, 58] },
    { dst := some 104, op := .load (some 32) (.t 103), guard := some (96, true), rs := [96, 103], tn := [42001], an := [52, 59] },
    { dst := some 105, op := .load (some 32) (.t 7), guard := some (96, true), rs := [7, 96], tn := [7], an := [52] },
    { dst := some 106, op := .eqa false [0, 0, 0, 0, 0, 0, 0, 0, 0, 0, 0, 0, 0, 0, 0, 0, 0, 0, 0, 0, 0, 0, 0, 0, 0, 0, 0, 0, 0, 0, 0, 0] (.t 104) (.t 105), guard := some (96, true), rs := [96, 104, 105], an := [52, 60, 61] },
    { dst := some 107, op := .pick (.t 96) (.t 106) (.c (.bool false)), guard := some (85, false), rs := [85, 96, 106], an := [41, 52, 62] },
    { dst := some 108, op := .pick (.t 85) (.c (.bool true)) (.t 107), guard := some (81, true), rs := [81, 85, 107], an := [37, 41, 63] },
    { dst := some 109, op := .pick (.t 81) (.t 108) (.c (.bool false)), rs := [81, 108], an := [37, 64] },
    { dst := some 8, op := .mov (.t 109), rs := [109], an := [65] }])
  (.ret)))))))))))))))))))
/-- with its results -/
def a6 : AFun := ⟨c6, [(8, none)], 110⟩

def b7_0 : AC :=
  (.seq ((.seq (.reg false [
    { dst := some 15, op := .mov (.t 4) },
    { dst := some 16, op := .mov (.t 0) },
    { dst := some 17, op := .len (.t 16) },
    { dst := some 18, op := .bin .lss (.t 15) (.t 17) }])
  (.cond (.t 18) (.skip) (.exit 0))))
  (.keep [0, 3, 4] [3, 28001, 100000] ((.seq (.block 1 ((.seq (.reg true [
    { dst := some 22, op := .load (some 2) (.t 3), rs := [3], tn := [3], mn := [28001] },
    { dst := some 23, op := .mov (.t 0), rs := [0], mn := [100000] },
    { dst := some 24, op := .mov (.t 4), rs := [4] },
    { dst := some 25, op := .iad 32 (.t 23) (.t 24), rs := [23, 24], tn := [100000], an := [1, 2] },
    { dst := some 26, op := .load (some 32) (.t 25), rs := [25], tn := [100000], an := [3] },
    { dst := some 27, op := .call 28000 17 [(.t 22), (.t 26)], rs := [22, 26], tn := [28001], wn := [28001], an := [0, 4] },
    { dst := some 21, op := .mov (.t 27), rs := [27], an := [5], mn := [28001] },
    { dst := some 28, op := .ext 0 (.t 21), rs := [21], an := [5, 6], mn := [28001] },
    { dst := some 29, op := .ext 1 (.t 21), rs := [21], an := [6] },
    { dst := some 5, op := .alloc 5 z25, tn := [5], wn := [5] },
    { dst := none, op := .store 2 (.t 5) (.t 28), rs := [5, 28], tn := [5, 28001], wn := [5, 28001], an := [5, 7, 9] },
    { dst := some 6, op := .mov (.t 29), rs := [29], an := [8] }])
  (.keep [0, 3, 4, 5, 6] [3, 5, 28001, 100000] ((.seq (.reg false [
    { dst := some 31, op := .mov (.t 0) },
    { dst := some 32, op := .mov (.t 4) },
    { dst := some 33, op := .bin .add (.t 32) (.c (.int .i64 1)) },
    { dst := some 34, op := .slc 32 (.t 31) none (some (.t 33)) none },
    { dst := some 35, op := .call 36000 15 [(.t 34)] },
    { dst := some 30, op := .mov (.t 35) },
    { dst := some 36, op := .ext 0 (.t 30) },
    { dst := some 37, op := .ext 1 (.t 30) },
    { dst := some 7, op := .alloc 7 z25 },
    { dst := none, op := .store 2 (.t 7) (.t 36) },
    { dst := some 8, op := .mov (.t 37) }])
  (.keep [0, 3, 4, 5, 6, 7, 8] [3, 5, 7, 28001, 36001, 100000] ((.seq ((.seq (.reg false [
    { dst := some 38, op := .mov (.t 6) },
    { dst := some 39, op := .bin .neq (.t 38) (.c (.int .i64 0)) },
    { dst := some 40, op := .mov (.t 39) },
    { dst := some 41, op := .mov (.t 8), guard := some (40, false) },
    { dst := some 42, op := .bin .neq (.t 41) (.c (.int .i64 0)), guard := some (40, false) },
    { dst := some 43, op := .pick (.t 40) (.c (.bool true)) (.t 42) },
    { dst := some 44, op := .mov (.t 43) },
    { dst := some 45, op := .fad 0 (.t 5), guard := some (44, false) },
    { dst := some 46, op := .load none (.t 45), guard := some (44, false) },
    { dst := some 47, op := .fad 0 (.t 7), guard := some (44, false) },
    { dst := some 48, op := .load none (.t 47), guard := some (44, false) },
    { dst := some 49, op := .bin .neq (.t 46) (.t 48), guard := some (44, false) },
    { dst := some 50, op := .pick (.t 44) (.c (.bool true)) (.t 49) },
    { dst := some 51, op := .mov (.t 50) },
    { dst := some 52, op := .fad 1 (.t 5), guard := some (51, false) },
    { dst := some 53, op := .load none (.t 52), guard := some (51, false) },
    { dst := some 54, op := .fad 1 (.t 7), guard := some (51, false) },
    { dst := some 55, op := .load none (.t 54), guard := some (51, false) },
    { dst := some 56, op := .call 57000 14 [(.t 53), (.t 55)], guard := some (51, false) },
    { dst := some 57, op := .un .not (.t 56), guard := some (51, false) },
    { dst := some 58, op := .pick (.t 51) (.c (.bool true)) (.t 57) }])
  (.cond (.t 58) ((.seq (.reg false [
    { dst := some 2, op := .mov (.c (.bool false)) }])
  (.ret))) (.skip))))
  (.keep [0, 3, 4, 5] [3, 5, 28001, 100000] ((.seq (.reg false [
    { dst := some 60, op := .load (some 2) (.t 5) },
    { dst := some 61, op := .call 62000 10 [(.t 60)] },
    { dst := some 59, op := .mov (.t 61) },
    { dst := some 62, op := .ext 0 (.t 59) },
    { dst := some 63, op := .ext 1 (.t 59) },
    { dst := some 9, op := .alloc 9 z29 },
    { dst := none, op := .store 32 (.t 9) (.t 62) },
    { dst := some 10, op := .mov (.t 63) }])
  (.keep [0, 3, 4, 5, 9, 10] [3, 5, 9, 28001, 100000] ((.seq ((.seq (.reg true [
    { dst := some 64, op := .mov (.t 10), rs := [10] },
    { dst := some 65, op := .bin .neq (.t 64) (.c (.int .i64 0)), rs := [64], an := [0] },
    { dst := some 66, op := .mov (.t 65), rs := [65], an := [1] },
    { dst := some 67, op := .load (some 32) (.t 9), guard := some (66, false), rs := [9, 66], tn := [9], an := [2] },
    { dst := some 68, op := .mov (.t 0), guard := some (66, false), rs := [0, 66], an := [2], mn := [100000] },
    { dst := some 69, op := .mov (.t 4), guard := some (66, false), rs := [4, 66], an := [2] },
    { dst := some 70, op := .bin .add (.t 69) (.c (.int .i64 1)), guard := some (66, false), rs := [66, 69], an := [2, 5] },
    { dst := some 71, op := .slc 32 (.t 68) none (some (.t 70)) none, guard := some (66, false), rs := [66, 68, 70], tn := [100000], an := [2, 4, 6] },
    { dst := some 72, op := .call 73000 19 [(.t 71)], guard := some (66, false), rs := [66, 71], tn := [100000], an := [2, 7] },
    { dst := some 73, op := .eqa true [0, 0, 0, 0, 0, 0, 0, 0, 0, 0, 0, 0, 0, 0, 0, 0, 0, 0, 0, 0, 0, 0, 0, 0, 0, 0, 0, 0, 0, 0, 0, 0] (.t 67) (.t 72), guard := some (66, false), rs := [66, 67, 72], an := [2, 3, 8] },
    { dst := some 74, op := .pick (.t 66) (.c (.bool true)) (.t 73), rs := [66, 73], an := [2, 9] }])
  (.cond (.t 74) ((.seq (.reg false [
    { dst := some 2, op := .mov (.c (.bool false)) }])
  (.ret))) (.skip))))
  (.keep [0, 3, 4, 5] [3, 5, 28001, 100000] (.reg false [
    { dst := some 75, op := .load (some 2) (.t 5) },
    { dst := none, op := .store 2 (.t 3) (.t 75) }])))))))))))))))))
  (.keep [0, 3, 4] [3, 28001, 100000] (.reg false [
    { dst := some 19, op := .mov (.t 4) },
    { dst := some 20, op := .bin .add (.t 19) (.c (.int .i64 1)) },
    { dst := some 4, op := .mov (.t 20) }]))))))
/-- estreat/estreatlaw04.FrontGrows: parameters []api.Digest -/
def c7 : AC :=
  (.seq (.reg false [
    { dst := some 2, op := .mov (.c (.bool false)) }])
  ((.seq ((.seq (.reg false [
    { dst := some 11, op := .mov (.t 0) },
    { dst := some 12, op := .len (.t 11) },
    { dst := some 13, op := .bin .gtr (.t 12) (.c (.int .i64 70)) }])
  (.cond (.t 13) ((.seq (.reg false [
    { dst := some 2, op := .mov (.c (.bool true)) }])
  (.ret))) (.skip))))
  (.keep [0] [100000] ((.seq (.reg false [
    { dst := some 14, op := .build z25 [] },
    { dst := some 3, op := .alloc 3 z25 },
    { dst := none, op := .store 2 (.t 3) (.t 14) }])
  ((.seq ((.seq (.reg false [
    { dst := some 4, op := .mov (.c (.int .i64 0)) }])
  (.block 0 (.loop [0, 3, 4] [3, 28001, 100000] b7_0))))
  (.keep [0, 3] [3, 28001, 100000] ((.seq (.reg false [
    { dst := some 76, op := .call 77000 13 [] },
    { dst := some 77, op := .mov (.t 76) },
    { dst := some 78, op := .fad 0 (.t 3), guard := some (77, true) },
    { dst := some 79, op := .load none (.t 78), guard := some (77, true) },
    { dst := some 80, op := .mov (.t 0), guard := some (77, true) },
    { dst := some 81, op := .len (.t 80), guard := some (77, true) },
    { dst := some 82, op := .bin .eql (.t 79) (.t 81), guard := some (77, true) },
    { dst := some 83, op := .pick (.t 77) (.t 82) (.c (.bool false)) },
    { dst := some 2, op := .mov (.t 83) }])
  (.ret))))))))))))
/-- with its results -/
def a7 : AFun := ⟨c7, [(2, none)], 84⟩

/-- estreat/estreatkeep.Own: parameters []api.Digest -/
def c8 : AC :=
  (.seq (.reg false [
    { dst := some 2, op := .mov (.c .nilS) }])
  ((.seq (.reg false [
    { dst := some 3, op := .mov (.c .nilS) }])
  ((.seq (.reg false [
    { dst := some 4, op := .mov (.t 3) },
    { dst := some 5, op := .mov (.t 0) },
    { dst := some 6, op := .app 6 32 32 (.t 4) (.t 5) },
    { dst := some 3, op := .mov (.t 6) }])
  (.keep [3] [6] ((.seq (.reg false [
    { dst := some 7, op := .mov (.t 3) },
    { dst := some 2, op := .mov (.t 7) }])
  (.ret)))))))))
/-- with its results -/
def a8 : AFun := ⟨c8, [(2, none)], 8⟩

/-- estreat/front.Check: parameters front.Front -/
def c9 : AC :=
  (.seq (.reg false [
    { dst := some 1, op := .box 1 (.t 0) },
    { dst := some 2, op := .mov (.c (.int .i64 0)) }])
  ((.seq ((.seq (.reg true [
    { dst := some 3, op := .fad 0 (.t 1), rs := [1], mn := [1] },
    { dst := some 4, op := .load none (.t 3), rs := [3], tn := [1], an := [0] },
    { dst := some 5, op := .bin .lss (.t 4) (.c (.int .i64 0)), rs := [4], an := [1] },
    { dst := some 6, op := .mov (.t 5), rs := [5], an := [2] },
    { dst := some 7, op := .fad 0 (.t 1), guard := some (6, false), rs := [1, 6], an := [3], mn := [1] },
    { dst := some 8, op := .load none (.t 7), guard := some (6, false), rs := [6, 7], tn := [1], an := [3, 4] },
    { dst := some 9, op := .bin .gtr (.t 8) (.c (.int .i64 100000)), guard := some (6, false), rs := [6, 8], an := [3, 5] },
    { dst := some 10, op := .pick (.t 6) (.c (.bool true)) (.t 9), rs := [6, 9], an := [3, 6] },
    { dst := some 11, op := .mov (.t 10), rs := [10], an := [7] },
    { dst := some 12, op := .fad 1 (.t 1), guard := some (11, false), rs := [1, 11], an := [8], mn := [1] },
    { dst := some 13, op := .load none (.t 12), guard := some (11, false), rs := [11, 12], tn := [1], an := [8, 9], mn := [100001] },
    { dst := some 14, op := .len (.t 13), guard := some (11, false), rs := [11, 13], an := [8, 10] },
    { dst := some 15, op := .fad 0 (.t 1), guard := some (11, false), rs := [1, 11], an := [8], mn := [1] },
    { dst := some 16, op := .load none (.t 15), guard := some (11, false), rs := [11, 15], tn := [1], an := [8, 12] },
    { dst := some 17, op := .conv .u64 (.t 16), guard := some (11, false), rs := [11, 16], an := [8, 13] },
    { dst := some 18, op := .call 19000 20 [(.t 17)], guard := some (11, false), rs := [11, 17], an := [8, 14] },
    { dst := some 19, op := .bin .neq (.t 14) (.t 18), guard := some (11, false), rs := [11, 14, 18], an := [8, 11, 15] },
    { dst := some 20, op := .pick (.t 11) (.c (.bool true)) (.t 19), rs := [11, 19], an := [8, 16] }])
  (.cond (.t 20) ((.seq (.reg false [
    { dst := some 2, op := .mov (.c (.int .i64 30)) }])
  (.ret))) (.skip))))
  (.keep [] [] ((.seq (.reg false [
    { dst := some 2, op := .mov (.c (.int .i64 0)) }])
  (.ret)))))))
/-- with its results -/
def a9 : AFun := ⟨c9, [(2, none)], 21⟩

def b10_0 : AC :=
  .block 1 ((.seq (.reg false [
    { dst := some 20, op := .mov (.t 6) },
    { dst := some 21, op := .fad 1 (.t 1) },
    { dst := some 22, op := .load none (.t 21) },
    { dst := some 23, op := .len (.t 22) },
    { dst := some 24, op := .bin .sub (.t 23) (.c (.int .i64 1)) },
    { dst := some 25, op := .bin .eql (.t 20) (.t 24) }])
  (.cond (.t 25) (.reg false [
    { dst := some 26, op := .load (some 32) (.t 7) },
    { dst := none, op := .store 32 (.t 5) (.t 26) }]) (.reg false [
    { dst := some 27, op := .load (some 32) (.t 7) },
    { dst := some 28, op := .load (some 32) (.t 5) },
    { dst := some 29, op := .call 30000 23 [(.t 27), (.t 28)] },
    { dst := none, op := .store 32 (.t 5) (.t 29) }]))))
def b10_1 : AC :=
  (.seq (.reg false [
    { dst := some 6, op := .mov (.t 18) }])
  (.reg false [
    { dst := some 7, op := .alloc 7 z29 },
    { dst := none, op := .store 32 (.t 7) (.t 19) }]))
/-- estreat/front.Root: parameters front.Front -/
def c10 : AC :=
  (.seq (.reg false [
    { dst := some 1, op := .box 1 (.t 0) },
    { dst := some 2, op := .alloc 2 z29 },
    { dst := some 3, op := .mov (.c (.int .i64 0)) }])
  ((.seq ((.seq (.reg false [
    { dst := some 8, op := .load (some 2) (.t 1) },
    { dst := some 9, op := .call 10000 9 [(.t 8)] },
    { dst := some 4, op := .mov (.t 9) }])
  ((.seq (.reg false [
    { dst := some 10, op := .mov (.t 4) },
    { dst := some 11, op := .bin .neq (.t 10) (.c (.int .i64 0)) }])
  (.cond (.t 11) ((.seq (.reg false [
    { dst := some 12, op := .build z29 [] },
    { dst := some 13, op := .mov (.t 4) },
    { dst := none, op := .store 32 (.t 2) (.t 12) },
    { dst := some 3, op := .mov (.t 13) }])
  (.ret))) (.skip))))))
  (.keep [1, 2, 18, 19] [1, 2, 100001] ((.seq (.reg false [
    { dst := some 14, op := .call 15000 21 [] },
    { dst := some 5, op := .alloc 5 z29 },
    { dst := none, op := .store 32 (.t 5) (.t 14) }])
  ((.seq ((.seq (.reg false [
    { dst := some 15, op := .fad 1 (.t 1) },
    { dst := some 16, op := .load none (.t 15) },
    { dst := some 17, op := .inl 22 [(.t 16)] }])
  (.block 0 (.rfun 2900000 (.t 17) [18, 19] [1, 2, 5, 17, 18, 19] b10_1 b10_0))))
  (.keep [2, 5] [2, 5] ((.seq (.reg false [
    { dst := some 30, op := .load (some 32) (.t 5) },
    { dst := none, op := .store 32 (.t 2) (.t 30) },
    { dst := some 3, op := .mov (.c (.int .i64 0)) }])
  (.ret))))))))))))
/-- with its results -/
def a10 : AFun := ⟨c10, [(2, some (some 32)), (3, none)], 31⟩

/-- estreat/estreatref04.Right: parameters int []api.Digest -/
def c11 : AC :=
  (.seq (.reg false [
    { dst := some 4, op := .mov (.c (.bool false)) }])
  ((.seq (.reg false [
    { dst := some 5, op := .mov (.t 0) },
    { dst := some 6, op := .bin .geq (.t 5) (.c (.int .i64 0)) },
    { dst := some 7, op := .mov (.t 6) },
    { dst := some 8, op := .mov (.t 0), guard := some (7, true) },
    { dst := some 9, op := .bin .leq (.t 8) (.c (.int .i64 100000)), guard := some (7, true) },
    { dst := some 10, op := .pick (.t 7) (.t 9) (.c (.bool false)) },
    { dst := some 11, op := .mov (.t 10) },
    { dst := some 12, op := .mov (.t 1), guard := some (11, true) },
    { dst := some 13, op := .len (.t 12), guard := some (11, true) },
    { dst := some 14, op := .mov (.t 0), guard := some (11, true) },
    { dst := some 15, op := .call 16000 24 [(.t 14)], guard := some (11, true) },
    { dst := some 16, op := .bin .eql (.t 13) (.t 15), guard := some (11, true) },
    { dst := some 17, op := .pick (.t 11) (.t 16) (.c (.bool false)) },
    { dst := some 4, op := .mov (.t 17) }])
  (.ret))))
/-- with its results -/
def a11 : AFun := ⟨c11, [(4, none)], 18⟩

def b12_0 : AC :=
  (.seq ((.seq (.reg false [
    { dst := some 18, op := .mov (.t 4) },
    { dst := some 19, op := .bin .geq (.t 18) (.c (.int .i64 0)) }])
  (.cond (.t 19) (.skip) (.exit 0))))
  ((.seq (.block 1 (.reg true [
    { dst := some 22, op := .mov (.t 0), rs := [0], mn := [100000] },
    { dst := some 23, op := .mov (.t 4), rs := [4] },
    { dst := some 24, op := .iad 32 (.t 22) (.t 23), rs := [22, 23], tn := [100000], an := [0, 1] },
    { dst := some 25, op := .load (some 32) (.t 24), rs := [24], tn := [100000], an := [2] },
    { dst := some 26, op := .load (some 32) (.t 3), rs := [3], tn := [3] },
    { dst := some 27, op := .call 28000 26 [(.t 25), (.t 26)], rs := [25, 26], an := [3, 4] },
    { dst := none, op := .store 32 (.t 3) (.t 27), rs := [3, 27], tn := [3], wn := [3], an := [4, 5] }]))
  (.keep [0, 2, 3, 4] [2, 3, 100000] (.reg false [
    { dst := some 20, op := .mov (.t 4) },
    { dst := some 21, op := .bin .sub (.t 20) (.c (.int .i64 1)) },
    { dst := some 4, op := .mov (.t 21) }])))))
/-- estreat/estreatref04.Root: parameters []api.Digest -/
def c12 : AC :=
  (.seq (.reg false [
    { dst := some 2, op := .alloc 2 z29 }])
  ((.seq ((.seq (.reg false [
    { dst := some 5, op := .mov (.t 0) },
    { dst := some 6, op := .len (.t 5) },
    { dst := some 7, op := .bin .eql (.t 6) (.c (.int .i64 0)) }])
  (.cond (.t 7) ((.seq (.reg false [
    { dst := some 8, op := .call 9000 25 [(.c (.str ⟨#[]⟩))] },
    { dst := none, op := .store 32 (.t 2) (.t 8) }])
  (.ret))) (.skip))))
  (.keep [0, 2] [2, 100000] ((.seq (.reg false [
    { dst := some 9, op := .mov (.t 0) },
    { dst := some 10, op := .mov (.t 0) },
    { dst := some 11, op := .len (.t 10) },
    { dst := some 12, op := .bin .sub (.t 11) (.c (.int .i64 1)) },
    { dst := some 13, op := .iad 32 (.t 9) (.t 12) },
    { dst := some 14, op := .load (some 32) (.t 13) },
    { dst := some 3, op := .alloc 3 z29 },
    { dst := none, op := .store 32 (.t 3) (.t 14) }])
  (.keep [0, 2, 3] [2, 3, 100000] ((.seq ((.seq (.reg false [
    { dst := some 15, op := .mov (.t 0) },
    { dst := some 16, op := .len (.t 15) },
    { dst := some 17, op := .bin .sub (.t 16) (.c (.int .i64 2)) },
    { dst := some 4, op := .mov (.t 17) }])
  (.keep [0, 2, 3, 4] [2, 3, 100000] (.block 0 (.loop [0, 2, 3, 4] [2, 3, 100000] b12_0)))))
  (.keep [2, 3] [2, 3] ((.seq (.reg false [
    { dst := some 28, op := .load (some 32) (.t 3) },
    { dst := none, op := .store 32 (.t 2) (.t 28) }])
  (.ret)))))))))))))
/-- with its results -/
def a12 : AFun := ⟨c12, [(2, some (some 32))], 29⟩

/-- estreat/estreatlaw04.three: parameters  -/
def c13 : AC :=
  (.seq (.reg false [
    { dst := some 0, op := .mov (.c (.bool false)) }])
  ((.seq (.reg false [
    { dst := some 10, op := .build z29 [(0, 1, (.c (.int .u8 1)))] },
    { dst := some 1, op := .alloc 1 z29 },
    { dst := none, op := .store 32 (.t 1) (.t 10) }])
  ((.seq (.reg false [
    { dst := some 11, op := .build z29 [(0, 1, (.c (.int .u8 2)))] },
    { dst := some 2, op := .alloc 2 z29 },
    { dst := none, op := .store 32 (.t 2) (.t 11) }])
  ((.seq (.reg false [
    { dst := some 12, op := .build z29 [(0, 1, (.c (.int .u8 3)))] },
    { dst := some 3, op := .alloc 3 z29 },
    { dst := none, op := .store 32 (.t 3) (.t 12) }])
  ((.seq (.reg false [
    { dst := some 14, op := .load (some 32) (.t 1) },
    { dst := some 15, op := .load (some 32) (.t 2) },
    { dst := some 16, op := .load (some 32) (.t 3) },
    { dst := some 17, op := .bslice 17 32 z29 3 [(0, (.t 14)), (1, (.t 15)), (2, (.t 16))] },
    { dst := some 18, op := .call 19000 15 [(.t 17)] },
    { dst := some 13, op := .mov (.t 18) },
    { dst := some 19, op := .ext 0 (.t 13) },
    { dst := some 20, op := .ext 1 (.t 13) },
    { dst := some 4, op := .alloc 4 z25 },
    { dst := none, op := .store 2 (.t 4) (.t 19) },
    { dst := some 5, op := .mov (.t 20) }])
  (.keep [1, 2, 3, 4, 5] [1, 2, 3, 4, 19001] ((.seq (.reg false [
    { dst := some 22, op := .load (some 2) (.t 4) },
    { dst := some 23, op := .call 24000 10 [(.t 22)] },
    { dst := some 21, op := .mov (.t 23) },
    { dst := some 24, op := .ext 0 (.t 21) },
    { dst := some 25, op := .ext 1 (.t 21) },
    { dst := some 6, op := .alloc 6 z29 },
    { dst := none, op := .store 32 (.t 6) (.t 24) },
    { dst := some 7, op := .mov (.t 25) }])
  (.keep [1, 2, 3, 4, 5, 6, 7] [1, 2, 3, 4, 6, 19001] ((.seq (.reg false [
    { dst := some 27, op := .build z25 [] },
    { dst := some 28, op := .call 29000 10 [(.t 27)] },
    { dst := some 26, op := .mov (.t 28) },
    { dst := some 29, op := .ext 0 (.t 26) },
    { dst := some 30, op := .ext 1 (.t 26) },
    { dst := some 8, op := .alloc 8 z29 },
    { dst := none, op := .store 32 (.t 8) (.t 29) },
    { dst := some 9, op := .mov (.t 30) }])
  (.keep [1, 2, 3, 4, 5, 6, 7, 8, 9] [1, 2, 3, 4, 6, 8, 19001] ((.seq (.reg true [
    { dst := some 31, op := .mov (.t 5), rs := [5] },
    { dst := some 32, op := .bin .eql (.t 31) (.c (.int .i64 0)), rs := [31], an := [0] },
    { dst := some 33, op := .mov (.t 32), rs := [32], an := [1] },
    { dst := some 34, op := .fad 0 (.t 4), guard := some (33, true), rs := [4, 33], an := [2], mn := [4] },
    { dst := some 35, op := .load none (.t 34), guard := some (33, true), rs := [33, 34], tn := [4], an := [2, 3] },
    { dst := some 36, op := .bin .eql (.t 35) (.c (.int .i64 3)), guard := some (33, true), rs := [33, 35], an := [2, 4] },
    { dst := some 37, op := .pick (.t 33) (.t 36) (.c (.bool false)), rs := [33, 36], an := [2, 5] },
    { dst := some 38, op := .mov (.t 37), rs := [37], an := [6] },
    { dst := some 39, op := .fad 1 (.t 4), guard := some (38, true), rs := [4, 38], an := [7], mn := [4] },
    { dst := some 40, op := .load none (.t 39), guard := some (38, true), rs := [38, 39], tn := [4], an := [7, 8], mn := [19001] },
    { dst := some 41, op := .load (some 32) (.t 1), guard := some (38, true), rs := [1, 38], tn := [1], an := [7] },
    { dst := some 42, op := .load (some 32) (.t 2), guard := some (38, true), rs := [2, 38], tn := [2], an := [7] },
    { dst := some 43, op := .call 44000 23 [(.t 41), (.t 42)], guard := some (38, true), rs := [38, 41, 42], an := [7, 10, 11] },
    { dst := some 44, op := .load (some 32) (.t 3), guard := some (38, true), rs := [3, 38], tn := [3], an := [7] },
    { dst := some 45, op := .bslice 45 32 z29 2 [(0, (.t 43)), (1, (.t 44))], guard := some (38, true), rs := [38, 43, 44], tn := [45], wn := [45], an := [7, 12, 13] },
    { dst := some 46, op := .call 47000 14 [(.t 40), (.t 45)], guard := some (38, true), rs := [38, 40, 45], tn := [45, 19001], an := [7, 9, 14] },
    { dst := some 47, op := .pick (.t 38) (.t 46) (.c (.bool false)), rs := [38, 46], an := [7, 15] },
    { dst := some 48, op := .mov (.t 47), rs := [47], an := [16] },
    { dst := some 49, op := .mov (.t 7), guard := some (48, true), rs := [7, 48], an := [17] },
    { dst := some 50, op := .bin .eql (.t 49) (.c (.int .i64 0)), guard := some (48, true), rs := [48, 49], an := [17, 18] },
    { dst := some 51, op := .pick (.t 48) (.t 50) (.c (.bool false)), rs := [48, 50], an := [17, 19] },
    { dst := some 52, op := .mov (.t 51), rs := [51], an := [20] },
    { dst := some 53, op := .load (some 32) (.t 6), guard := some (52, true), rs := [6, 52], tn := [6], an := [21] },
    { dst := some 54, op := .load (some 32) (.t 1), guard := some (52, true), rs := [1, 52], tn := [1], an := [21] },
    { dst := some 55, op := .load (some 32) (.t 2), guard := some (52, true), rs := [2, 52], tn := [2], an := [21] },
    { dst := some 56, op := .call 57000 23 [(.t 54), (.t 55)], guard := some (52, true), rs := [52, 54, 55], an := [21, 23, 24] },
    { dst := some 57, op := .load (some 32) (.t 3), guard := some (52, true), rs := [3, 52], tn := [3], an := [21] },
    { dst := some 58, op := .call 59000 23 [(.t 56), (.t 57)], guard := some (52, true), rs := [52, 56, 57], an := [21, 25, 26] },
    { dst := some 59, op := .eqa false [0, 0, 0, 0, 0, 0, 0, 0, 0, 0, 0, 0, 0, 0, 0, 0, 0, 0, 0, 0, 0, 0, 0, 0, 0, 0, 0, 0, 0, 0, 0, 0] (.t 53) (.t 58), guard := some (52, true), rs := [52, 53, 58], an := [21, 22, 27] },
    { dst := some 60, op := .pick (.t 52) (.t 59) (.c (.bool false)), rs := [52, 59], an := [21, 28] },
    { dst := some 61, op := .mov (.t 60), rs := [60], an := [29] },
    { dst := some 62, op := .mov (.t 9), guard := some (61, true), rs := [9, 61], an := [30] },
    { dst := some 63, op := .bin .eql (.t 62) (.c (.int .i64 0)), guard := some (61, true), rs := [61, 62], an := [30, 31] },
    { dst := some 64, op := .pick (.t 61) (.t 63) (.c (.bool false)), rs := [61, 63], an := [30, 32] },
    { dst := some 65, op := .mov (.t 64), rs := [64], an := [33] },
    { dst := some 66, op := .load (some 32) (.t 8), guard := some (65, true), rs := [8, 65], tn := [8], an := [34] },
    { dst := some 67, op := .call 68000 21 [], guard := some (65, true), rs := [65], an := [34] },
    { dst := some 68, op := .eqa false [0, 0, 0, 0, 0, 0, 0, 0, 0, 0, 0, 0, 0, 0, 0, 0, 0, 0, 0, 0, 0, 0, 0, 0, 0, 0, 0, 0, 0, 0, 0, 0] (.t 66) (.t 67), guard := some (65, true), rs := [65, 66, 67], an := [34, 35, 36] },
    { dst := some 69, op := .pick (.t 65) (.t 68) (.c (.bool false)), rs := [65, 68], an := [34, 37] },
    { dst := some 70, op := .mov (.t 69), rs := [69], an := [38] },
    { dst := some 71, op := .load (some 2) (.t 4), guard := some (70, true), rs := [4, 70], tn := [4], an := [39], mn := [19001] },
    { dst := some 72, op := .call 73000 9 [(.t 71)], guard := some (70, true), rs := [70, 71], tn := [19001], an := [39, 40] },
    { dst := some 73, op := .bin .eql (.t 72) (.c (.int .i64 0)), guard := some (70, true), rs := [70, 72], an := [39, 41] },
    { dst := some 74, op := .pick (.t 70) (.t 73) (.c (.bool false)), rs := [70, 73], an := [39, 42] },
    { dst := some 75, op := .mov (.t 74), rs := [74], an := [43] },
    { dst := some 76, op := .load (some 32) (.t 1), guard := some (75, true), rs := [1, 75], tn := [1], an := [44] },
    { dst := some 77, op := .bslice 77 32 z29 1 [(0, (.t 76))], guard := some (75, true), rs := [75, 76], tn := [77], wn := [77], an := [44, 45] },
    { dst := some 78, op := .build z25 [(0, 1, (.c (.int .i64 3))), (1, 1, (.t 77))], guard := some (75, true), rs := [75, 77], an := [44, 46], mn := [77] },
    { dst := some 79, op := .call 80000 9 [(.t 78)], guard := some (75, true), rs := [75, 78], tn := [77], an := [44, 46, 47] },
    { dst := some 80, op := .bin .eql (.t 79) (.c (.int .i64 30)), guard := some (75, true), rs := [75, 79], an := [44, 48] },
    { dst := some 81, op := .pick (.t 75) (.t 80) (.c (.bool false)), rs := [75, 80], an := [44, 49] },
    { dst := some 0, op := .mov (.t 81), rs := [81], an := [50] }])
  (.ret)))))))))))))))))))
/-- with its results -/
def a13 : AFun := ⟨c13, [(0, none)], 82⟩

def b14_0 : AC :=
  (.seq ((.seq (.reg false [
    { dst := some 11, op := .mov (.t 5) },
    { dst := some 12, op := .mov (.t 0) },
    { dst := some 13, op := .len (.t 12) },
    { dst := some 14, op := .bin .lss (.t 11) (.t 13) }])
  (.cond (.t 14) (.skip) (.exit 0))))
  (.keep [0, 1, 5] [100000, 100200] ((.seq (.block 1 ((.seq (.reg true [
    { dst := some 17, op := .mov (.t 0), rs := [0], mn := [100000] },
    { dst := some 18, op := .mov (.t 5), rs := [5] },
    { dst := some 19, op := .iad 32 (.t 17) (.t 18), rs := [17, 18], tn := [100000], an := [0, 1] },
    { dst := some 20, op := .load (some 32) (.t 19), rs := [19], tn := [100000], an := [2] },
    { dst := some 21, op := .mov (.t 1), rs := [1], mn := [100200] },
    { dst := some 22, op := .mov (.t 5), rs := [5] },
    { dst := some 23, op := .iad 32 (.t 21) (.t 22), rs := [21, 22], tn := [100200], an := [4, 5] },
    { dst := some 24, op := .load (some 32) (.t 23), rs := [23], tn := [100200], an := [6] },
    { dst := some 25, op := .eqa true [0, 0, 0, 0, 0, 0, 0, 0, 0, 0, 0, 0, 0, 0, 0, 0, 0, 0, 0, 0, 0, 0, 0, 0, 0, 0, 0, 0, 0, 0, 0, 0] (.t 20) (.t 24), rs := [20, 24], an := [3, 7] }])
  (.cond (.t 25) ((.seq (.reg false [
    { dst := some 4, op := .mov (.c (.bool false)) }])
  (.ret))) (.skip)))))
  (.keep [0, 1, 5] [100000, 100200] (.reg false [
    { dst := some 15, op := .mov (.t 5) },
    { dst := some 16, op := .bin .add (.t 15) (.c (.int .i64 1)) },
    { dst := some 5, op := .mov (.t 16) }]))))))
/-- estreat/estreatkeep.Digests: parameters []api.Digest []api.Digest -/
def c14 : AC :=
  (.seq (.reg false [
    { dst := some 4, op := .mov (.c (.bool false)) }])
  ((.seq ((.seq (.reg false [
    { dst := some 6, op := .mov (.t 0) },
    { dst := some 7, op := .len (.t 6) },
    { dst := some 8, op := .mov (.t 1) },
    { dst := some 9, op := .len (.t 8) },
    { dst := some 10, op := .bin .neq (.t 7) (.t 9) }])
  (.cond (.t 10) ((.seq (.reg false [
    { dst := some 4, op := .mov (.c (.bool false)) }])
  (.ret))) (.skip))))
  (.keep [0, 1] [100000, 100200] ((.seq ((.seq (.reg false [
    { dst := some 5, op := .mov (.c (.int .i64 0)) }])
  (.block 0 (.loop [0, 1, 5] [100000, 100200] b14_0))))
  (.keep [] [] ((.seq (.reg false [
    { dst := some 4, op := .mov (.c (.bool true)) }])
  (.ret))))))))))
/-- with its results -/
def a14 : AFun := ⟨c14, [(4, none)], 26⟩

def b15_0 : AC :=
  (.seq (.reg false [
    { dst := some 16, op := .bin .lss (.t 15) (.t 14) }])
  ((.seq (.cond (.t 16) (.skip) (.exit 0))
  ((.seq (.block 1 ((.seq (.reg false [
    { dst := some 17, op := .iad 32 (.t 13) (.t 15) },
    { dst := some 18, op := .load (some 32) (.t 17) },
    { dst := some 6, op := .alloc 6 z29 },
    { dst := none, op := .store 32 (.t 6) (.t 18) }])
  (.keep [2, 4, 6, 13, 14, 15] [2, 6, 12, 100000, 1012001] (.reg false [
    { dst := some 19, op := .mov (.t 4) },
    { dst := some 20, op := .load (some 32) (.t 6) },
    { dst := some 21, op := .call 22000 27 [(.t 19), (.t 20)] }])))))
  (.keep [2, 4, 13, 14, 15] [2, 12, 100000, 1012001] (.reg false [
    { dst := some 22, op := .bin .add (.t 15) (.c (.int .i64 1)) },
    { dst := some 15, op := .mov (.t 22) }])))))))
/-- estreat/front.Of: parameters []api.Digest -/
def c15 : AC :=
  (.seq (.reg false [
    { dst := some 2, op := .alloc 2 z25 },
    { dst := some 3, op := .mov (.c (.int .i64 0)) }])
  ((.seq ((.seq (.reg false [
    { dst := some 7, op := .mov (.t 0) },
    { dst := some 8, op := .len (.t 7) },
    { dst := some 9, op := .bin .gtr (.t 8) (.c (.int .i64 100000)) }])
  (.cond (.t 9) ((.seq (.reg false [
    { dst := some 10, op := .build z25 [] },
    { dst := none, op := .store 2 (.t 2) (.t 10) },
    { dst := some 3, op := .mov (.c (.int .i64 2)) }])
  (.ret))) (.skip))))
  (.keep [0, 2] [2, 100000, 1012001] ((.seq (.reg false [
    { dst := some 11, op := .build z54 [] },
    { dst := some 12, op := .box 12 (.t 11) },
    { dst := some 4, op := .mov (.t 12) }])
  ((.seq ((.seq (.reg false [
    { dst := some 13, op := .mov (.t 0) },
    { dst := some 14, op := .len (.t 13) },
    { dst := some 15, op := .mov (.c (.int .i64 0)) }])
  (.block 0 (.loop [2, 4, 13, 14, 15] [2, 12, 100000, 1012001] b15_0))))
  (.keep [2, 4] [2, 12, 1012001] ((.seq (.reg false [
    { dst := some 23, op := .mov (.t 4) },
    { dst := some 24, op := .nilck (.t 23) },
    { dst := some 25, op := .fad 0 (.t 24) },
    { dst := some 26, op := .load (some 2) (.t 25) },
    { dst := none, op := .store 2 (.t 2) (.t 26) },
    { dst := some 3, op := .mov (.c (.int .i64 0)) }])
  (.ret))))))))))))
/-- with its results -/
def a15 : AFun := ⟨c15, [(2, some (some 2)), (3, none)], 27⟩

def b16_0 : AC :=
  (.seq ((.seq (.reg false [
    { dst := some 8, op := .mov (.t 4) },
    { dst := some 9, op := .bin .mul (.c (.int .i64 2)) (.t 8) },
    { dst := some 10, op := .mov (.t 0) },
    { dst := some 11, op := .len (.t 10) },
    { dst := some 12, op := .bin .leq (.t 9) (.t 11) }])
  (.cond (.t 12) (.skip) (.exit 2))))
  (.keep [0, 3, 4] [21, 100000] (.block 3 (.reg false [
    { dst := some 13, op := .mov (.t 4) },
    { dst := some 14, op := .bin .mul (.c (.int .i64 2)) (.t 13) },
    { dst := some 4, op := .mov (.t 14) }]))))
def b16_1 : AC :=
  (.seq ((.seq (.reg false [
    { dst := some 5, op := .mov (.t 0) },
    { dst := some 6, op := .len (.t 5) },
    { dst := some 7, op := .bin .gtr (.t 6) (.c (.int .i64 0)) }])
  (.cond (.t 7) (.skip) (.exit 0))))
  (.block 1 ((.seq (.reg false [
    { dst := some 4, op := .mov (.c (.int .i64 1)) }])
  ((.seq (.block 2 (.loop [0, 3, 4] [21, 100000] b16_0))
  (.keep [0, 3, 4] [21, 100000] ((.seq (.reg false [
    { dst := some 15, op := .mov (.t 3) },
    { dst := some 16, op := .mov (.t 0) },
    { dst := some 17, op := .mov (.t 4) },
    { dst := some 18, op := .slc 32 (.t 16) none (some (.t 17)) none },
    { dst := some 19, op := .call 20000 28 [(.t 18)] },
    { dst := some 20, op := .bslice 20 32 z29 1 [(0, (.t 19))] },
    { dst := some 21, op := .app 21 32 32 (.t 15) (.t 20) },
    { dst := some 3, op := .mov (.t 21) }])
  (.keep [0, 3, 4] [21, 100000] (.reg false [
    { dst := some 22, op := .mov (.t 0) },
    { dst := some 23, op := .mov (.t 4) },
    { dst := some 24, op := .slc 32 (.t 22) (some (.t 23)) none none },
    { dst := some 0, op := .mov (.t 24) }])))))))))))
/-- estreat/estreatref04.Of: parameters []api.Digest -/
def c16 : AC :=
  (.seq (.reg false [
    { dst := some 2, op := .mov (.c .nilS) }])
  ((.seq (.reg false [
    { dst := some 3, op := .mov (.c .nilS) }])
  ((.seq (.block 0 (.loop [0, 3] [21, 100000] b16_1))
  (.keep [3] [21] ((.seq (.reg false [
    { dst := some 25, op := .mov (.t 3) },
    { dst := some 2, op := .mov (.t 25) }])
  (.ret)))))))))
/-- with its results -/
def a16 : AFun := ⟨c16, [(2, none)], 26⟩

/-- estreat/front.Add: parameters front.Front api.Digest -/
def c17 : AC :=
  (.seq (.reg false [
    { dst := some 2, op := .box 2 (.t 0) },
    { dst := some 3, op := .box 3 (.t 1) },
    { dst := some 4, op := .alloc 4 z25 },
    { dst := some 5, op := .mov (.c (.int .i64 0)) }])
  (.keep [2, 3, 4] [2, 3, 4, 25000, 100001, 1027001] ((.seq (.reg false [
    { dst := some 8, op := .load (some 2) (.t 2) },
    { dst := some 9, op := .call 10000 9 [(.t 8)] },
    { dst := some 6, op := .mov (.t 9) }])
  ((.seq (.block 0 ((.seq (.reg false [
    { dst := some 11, op := .mov (.t 6) },
    { dst := some 12, op := .bin .neq (.t 11) (.c (.int .i64 0)) },
    { dst := some 10, op := .mov (.t 12) }])
  (.cond (.t 10) ((.seq (.reg false [
    { dst := some 13, op := .build z25 [] },
    { dst := some 14, op := .mov (.t 6) },
    { dst := none, op := .store 2 (.t 4) (.t 13) },
    { dst := some 5, op := .mov (.t 14) }])
  (.ret))) ((.seq (.reg false [
    { dst := some 16, op := .fad 0 (.t 2) },
    { dst := some 17, op := .load none (.t 16) },
    { dst := some 18, op := .bin .eql (.t 17) (.c (.int .i64 100000)) },
    { dst := some 15, op := .mov (.t 18) }])
  (.cond (.t 15) ((.seq (.reg false [
    { dst := some 19, op := .build z25 [] },
    { dst := none, op := .store 2 (.t 4) (.t 19) },
    { dst := some 5, op := .mov (.c (.int .i64 2)) }])
  (.ret))) (.skip))))))))
  (.keep [2, 3, 4] [2, 3, 4, 25000, 100001, 1027001] ((.seq (.reg true [
    { dst := some 20, op := .fad 0 (.t 2), rs := [2], mn := [2] },
    { dst := some 21, op := .load none (.t 20), rs := [20], tn := [2], an := [0] },
    { dst := some 22, op := .fad 1 (.t 2), rs := [2], mn := [2] },
    { dst := some 23, op := .load none (.t 22), rs := [22], tn := [2], an := [2], mn := [100001] },
    { dst := some 24, op := .call 25000 29 [(.t 23)], rs := [23], tn := [25000, 100001], wn := [25000], an := [3] },
    { dst := some 25, op := .build z25 [(0, 1, (.t 21)), (1, 1, (.t 24))], rs := [21, 24], an := [1, 4], mn := [25000] },
    { dst := some 26, op := .build z54 [(0, 2, (.t 25))], rs := [25], an := [4, 5], mn := [25000] },
    { dst := some 27, op := .box 27 (.t 26), rs := [26], tn := [27, 25000, 1027001], wn := [27], an := [4, 6] },
    { dst := some 7, op := .mov (.t 27), rs := [27], an := [7], mn := [27] }])
  (.keep [3, 4, 7] [3, 4, 27, 25000, 1027001] ((.seq (.reg false [
    { dst := some 28, op := .mov (.t 7) },
    { dst := some 29, op := .load (some 32) (.t 3) },
    { dst := some 30, op := .call 31000 27 [(.t 28), (.t 29)] }])
  ((.seq (.reg false [
    { dst := some 31, op := .mov (.t 7) },
    { dst := some 32, op := .nilck (.t 31) },
    { dst := some 33, op := .fad 0 (.t 32) },
    { dst := some 34, op := .load (some 2) (.t 33) },
    { dst := none, op := .store 2 (.t 4) (.t 34) },
    { dst := some 5, op := .mov (.c (.int .i64 0)) }])
  (.ret)))))))))))))))
/-- with its results -/
def a17 : AFun := ⟨c17, [(4, some (some 2)), (5, none)], 35⟩

def b18_0 : AC :=
  (.seq ((.seq (.reg false [
    { dst := some 20, op := .mov (.t 8) },
    { dst := some 21, op := .bin .rem (.t 20) (.c (.int .i64 2)) },
    { dst := some 22, op := .bin .eql (.t 21) (.c (.int .i64 0)) }])
  (.cond (.t 22) (.skip) (.exit 0))))
  (.block 1 ((.seq (.reg false [
    { dst := some 23, op := .mov (.t 7) },
    { dst := some 24, op := .len (.t 23) },
    { dst := some 9, op := .mov (.t 24) }])
  ((.seq (.reg true [
    { dst := some 25, op := .mov (.t 7), rs := [7], mn := [13, 17, 43] },
    { dst := some 26, op := .mov (.t 9), rs := [9] },
    { dst := some 27, op := .bin .sub (.t 26) (.c (.int .i64 2)), rs := [26], an := [1] },
    { dst := some 28, op := .iad 32 (.t 25) (.t 27), rs := [25, 27], tn := [13, 17, 43], an := [0, 2] },
    { dst := some 29, op := .load (some 32) (.t 28), rs := [28], tn := [13, 17, 43], an := [3] },
    { dst := some 30, op := .mov (.t 7), rs := [7], mn := [13, 17, 43] },
    { dst := some 31, op := .mov (.t 9), rs := [9] },
    { dst := some 32, op := .bin .sub (.t 31) (.c (.int .i64 1)), rs := [31], an := [6] },
    { dst := some 33, op := .iad 32 (.t 30) (.t 32), rs := [30, 32], tn := [13, 17, 43], an := [5, 7] },
    { dst := some 34, op := .load (some 32) (.t 33), rs := [33], tn := [13, 17, 43], an := [8] },
    { dst := some 35, op := .call 36000 26 [(.t 29), (.t 34)], rs := [29, 34], an := [4, 9] },
    { dst := some 10, op := .alloc 10 z29, tn := [10], wn := [10] },
    { dst := none, op := .store 32 (.t 10) (.t 35), rs := [10, 35], tn := [10], wn := [10], an := [10, 11] }])
  (.keep [7, 8, 9, 10] [10, 13, 17, 43] ((.seq (.reg false [
    { dst := some 36, op := .mov (.t 7) },
    { dst := some 37, op := .mov (.t 9) },
    { dst := some 38, op := .bin .sub (.t 37) (.c (.int .i64 2)) },
    { dst := some 39, op := .slc 32 (.t 36) none (some (.t 38)) none },
    { dst := some 7, op := .mov (.t 39) }])
  (.keep [7, 8, 10] [10, 13, 17, 43] ((.seq (.reg false [
    { dst := some 40, op := .mov (.t 7) },
    { dst := some 41, op := .load (some 32) (.t 10) },
    { dst := some 42, op := .bslice 42 32 z29 1 [(0, (.t 41))] },
    { dst := some 43, op := .app 43 32 32 (.t 40) (.t 42) },
    { dst := some 7, op := .mov (.t 43) }])
  (.keep [7, 8] [13, 17, 43] (.reg false [
    { dst := some 44, op := .mov (.t 8) },
    { dst := some 45, op := .bin .quo (.t 44) (.c (.int .i64 2)) },
    { dst := some 8, op := .mov (.t 45) }]))))))))))))))
/-- estreat/estreatref04.Add: parameters int []api.Digest api.Digest -/
def c18 : AC :=
  (.seq (.reg false [
    { dst := some 5, op := .box 5 (.t 2) },
    { dst := some 6, op := .mov (.c .nilS) }])
  ((.seq (.reg false [
    { dst := some 7, op := .mov (.c .nilS) }])
  ((.seq (.reg false [
    { dst := some 11, op := .mov (.t 7) },
    { dst := some 12, op := .mov (.t 1) },
    { dst := some 13, op := .app 13 32 32 (.t 11) (.t 12) },
    { dst := some 7, op := .mov (.t 13) }])
  (.keep [0, 5, 7] [5, 13, 17, 43] ((.seq (.reg false [
    { dst := some 14, op := .mov (.t 7) },
    { dst := some 15, op := .load (some 32) (.t 5) },
    { dst := some 16, op := .bslice 16 32 z29 1 [(0, (.t 15))] },
    { dst := some 17, op := .app 17 32 32 (.t 14) (.t 16) },
    { dst := some 7, op := .mov (.t 17) }])
  (.keep [0, 7] [13, 17, 43] ((.seq (.reg false [
    { dst := some 18, op := .mov (.t 0) },
    { dst := some 19, op := .bin .add (.t 18) (.c (.int .i64 1)) },
    { dst := some 8, op := .mov (.t 19) }])
  ((.seq (.block 0 (.loop [7, 8] [13, 17, 43] b18_0))
  (.keep [7] [13, 17, 43] ((.seq (.reg false [
    { dst := some 46, op := .mov (.t 7) },
    { dst := some 6, op := .mov (.t 46) }])
  (.ret)))))))))))))))))
/-- with its results -/
def a18 : AFun := ⟨c18, [(6, none)], 47⟩

def b19_0 : AC :=
  (.seq ((.seq (.reg false [
    { dst := some 33, op := .load none (.t 3) },
    { dst := some 34, op := .len (.t 33) },
    { dst := some 35, op := .bin .gtr (.t 34) (.c (.int .i64 1)) }])
  (.cond (.t 35) (.skip) (.exit 4))))
  (.block 5 (.reg false [
    { dst := some 36, op := .mov (.t 4) },
    { dst := some 37, op := .callv 38000 (.t 36) [] }])))
def b19_1 : AC :=
  (.seq (.reg false [
    { dst := some 28, op := .bin .lss (.t 27) (.t 26) }])
  ((.seq (.cond (.t 28) (.skip) (.exit 2))
  ((.seq (.block 3 (.reg false [
    { dst := some 29, op := .mov (.t 4) },
    { dst := some 30, op := .callv 31000 (.t 29) [] }]))
  (.reg false [
    { dst := some 31, op := .bin .add (.t 27) (.c (.int .i64 1)) },
    { dst := some 27, op := .mov (.t 31) }]))))))
def b19_2 : AC :=
  (.seq (.reg false [
    { dst := some 15, op := .bin .lss (.t 14) (.t 13) }])
  ((.seq (.cond (.t 15) (.skip) (.exit 0))
  ((.seq (.block 1 ((.seq (.reg false [
    { dst := some 16, op := .mov (.t 14) },
    { dst := some 17, op := .iad 32 (.t 12) (.t 14) },
    { dst := some 18, op := .load (some 32) (.t 17) },
    { dst := some 6, op := .alloc 6 z29 },
    { dst := some 5, op := .mov (.t 16) },
    { dst := none, op := .store 32 (.t 6) (.t 18) }])
  (.keep [2, 3, 4, 5, 6, 12, 13, 14] [2, 3, 6, 22, 100000, 1003000] ((.seq (.reg false [
    { dst := some 19, op := .load none (.t 3) },
    { dst := some 20, op := .load (some 32) (.t 6) },
    { dst := some 21, op := .bslice 21 32 z29 1 [(0, (.t 20))] },
    { dst := some 22, op := .app 22 32 32 (.t 19) (.t 21) },
    { dst := none, op := .store 1 (.t 3) (.t 22) }])
  (.keep [2, 3, 4, 5, 12, 13, 14] [2, 3, 22, 100000, 1003000] ((.seq (.reg false [
    { dst := some 23, op := .mov (.t 5) },
    { dst := some 24, op := .bin .add (.t 23) (.c (.int .i64 1)) },
    { dst := some 25, op := .conv .u64 (.t 24) },
    { dst := some 26, op := .call 27000 31 [(.t 25)] },
    { dst := some 27, op := .mov (.c (.int .i64 0)) }])
  (.keep [2, 3, 4, 12, 13, 14, 26, 27] [2, 3, 22, 100000, 1003000] (.block 2 (.loop [2, 3, 4, 12, 13, 14, 26, 27] [2, 3, 22, 100000, 1003000] b19_1))))))))))))
  (.keep [2, 3, 4, 12, 13, 14] [2, 3, 22, 100000, 1003000] (.reg false [
    { dst := some 32, op := .bin .add (.t 14) (.c (.int .i64 1)) },
    { dst := some 14, op := .mov (.t 32) }])))))))
/-- estreat/tree.Root: parameters []api.Digest -/
def c19 : AC :=
  (.seq (.reg false [
    { dst := some 2, op := .alloc 2 z29 }])
  ((.seq ((.seq (.reg false [
    { dst := some 7, op := .mov (.t 0) },
    { dst := some 8, op := .len (.t 7) },
    { dst := some 9, op := .bin .eql (.t 8) (.c (.int .i64 0)) }])
  (.cond (.t 9) ((.seq (.reg false [
    { dst := some 10, op := .call 11000 21 [] },
    { dst := none, op := .store 32 (.t 2) (.t 10) }])
  (.ret))) (.skip))))
  (.keep [0, 2] [2, 100000] ((.seq (.reg false [
    { dst := some 3, op := .alloc 3 [.nilS] }])
  ((.seq (.reg false [
    { dst := some 11, op := .mkf 30 [(.t 3)] },
    { dst := some 4, op := .mov (.t 11) }])
  ((.seq ((.seq (.reg false [
    { dst := some 12, op := .mov (.t 0) },
    { dst := some 13, op := .len (.t 12) },
    { dst := some 14, op := .mov (.c (.int .i64 0)) }])
  (.block 0 (.loop [2, 3, 4, 12, 13, 14] [2, 3, 22, 100000, 1003000] b19_2))))
  (.keep [2, 3, 4] [2, 3, 22, 1003000] ((.seq (.block 4 (.loop [2, 3, 4] [2, 3, 22, 1003000] b19_0))
  (.keep [2, 3] [2, 3, 22, 1003000] ((.seq (.reg false [
    { dst := some 38, op := .load none (.t 3) },
    { dst := some 39, op := .iad 32 (.t 38) (.c (.int .i64 0)) },
    { dst := some 40, op := .load (some 32) (.t 39) },
    { dst := none, op := .store 32 (.t 2) (.t 40) }])
  (.ret)))))))))))))))))
/-- with its results -/
def a19 : AFun := ⟨c19, [(2, some (some 32))], 41⟩

/-- math/bits.OnesCount: parameters uint -/
def c20 : AC :=
  (.seq (.reg false [
    { dst := some 2, op := .mov (.c (.int .i64 0)) }])
  ((.seq (.cond (.c (.bool false)) ((.seq (.reg false [
    { dst := some 3, op := .mov (.t 0) },
    { dst := some 4, op := .conv .u32 (.t 3) },
    { dst := some 5, op := .call 6000 32 [(.t 4)] },
    { dst := some 2, op := .mov (.t 5) }])
  (.ret))) (.skip))
  (.keep [0] [] ((.seq (.reg false [
    { dst := some 6, op := .mov (.t 0) },
    { dst := some 7, op := .call 8000 33 [(.t 6)] },
    { dst := some 2, op := .mov (.t 7) }])
  (.ret)))))))
/-- with its results -/
def a20 : AFun := ⟨c20, [(2, none)], 8⟩

/-- estreat/sha.Empty: parameters  -/
def c21 : AC :=
  (.seq (.reg false [
    { dst := some 0, op := .alloc 0 z29 }])
  ((.seq (.reg false [
    { dst := some 1, op := .call 2000 34 [(.c .nilS)] },
    { dst := none, op := .store 32 (.t 0) (.t 1) }])
  (.ret))))
/-- with its results -/
def a21 : AFun := ⟨c21, [(0, some (some 32))], 2⟩

/-- slices.Backward[[]estreat/api.Digest,estreat/api.Digest]: parameters []api.Digest -/
def c22 : AC :=
  (.seq (.reg false [
    { dst := some 1, op := .box 1 (.t 0) },
    { dst := some 2, op := .mov (.c .nilF) }])
  ((.seq (.reg false [
    { dst := some 3, op := .mkf 35 [(.t 1)] },
    { dst := some 2, op := .mov (.t 3) }])
  (.ret))))
/-- with its results -/
def a22 : AFun := ⟨c22, [(2, none)], 4⟩

/-- estreat/sha.Knot: parameters api.Digest api.Digest -/
def c23 : AC :=
  (.seq (.reg false [
    { dst := some 2, op := .box 2 (.t 0) },
    { dst := some 3, op := .box 3 (.t 1) },
    { dst := some 4, op := .alloc 4 z29 }])
  ((.seq (.reg true [
    { dst := some 5, op := .slca 32 (.t 2) none none, rs := [2], tn := [2] },
    { dst := some 6, op := .b2s (.t 5), rs := [5], tn := [2], an := [0] },
    { dst := some 7, op := .slca 32 (.t 3) none none, rs := [3], tn := [3] },
    { dst := some 8, op := .b2s (.t 7), rs := [7], tn := [3], an := [2] },
    { dst := some 9, op := .bslice 9 1 [(.str ⟨#[]⟩)] 3 [(0, (.c (.str ⟨#[1]⟩))), (1, (.t 6)), (2, (.t 8))], rs := [6, 8], tn := [9], wn := [9], an := [1, 3] },
    { dst := some 10, op := .call 11000 34 [(.t 9)], rs := [9], tn := [9], an := [4] },
    { dst := none, op := .store 32 (.t 4) (.t 10), rs := [4, 10], tn := [4], wn := [4], an := [5] }])
  (.ret))))
/-- with its results -/
def a23 : AFun := ⟨c23, [(4, some (some 32))], 11⟩

def b24_0 : AC :=
  (.seq ((.seq (.reg false [
    { dst := some 4, op := .mov (.t 0) },
    { dst := some 5, op := .bin .gtr (.t 4) (.c (.int .i64 0)) }])
  (.cond (.t 5) (.skip) (.exit 0))))
  (.block 1 ((.seq (.reg false [
    { dst := some 6, op := .mov (.t 3) },
    { dst := some 7, op := .mov (.t 0) },
    { dst := some 8, op := .bin .rem (.t 7) (.c (.int .i64 2)) },
    { dst := some 9, op := .bin .add (.t 6) (.t 8) },
    { dst := some 3, op := .mov (.t 9) }])
  (.keep [0, 3] [] (.reg false [
    { dst := some 10, op := .mov (.t 0) },
    { dst := some 11, op := .bin .quo (.t 10) (.c (.int .i64 2)) },
    { dst := some 0, op := .mov (.t 11) }]))))))
/-- estreat/estreatref04.Many: parameters int -/
def c24 : AC :=
  (.seq (.reg false [
    { dst := some 2, op := .mov (.c (.int .i64 0)) }])
  ((.seq (.reg false [
    { dst := some 3, op := .mov (.c (.int .i64 0)) }])
  ((.seq (.block 0 (.loop [0, 3] [] b24_0))
  (.keep [3] [] ((.seq (.reg false [
    { dst := some 12, op := .mov (.t 3) },
    { dst := some 2, op := .mov (.t 12) }])
  (.ret)))))))))
/-- with its results -/
def a24 : AFun := ⟨c24, [(2, none)], 13⟩

def b25_0 : AC :=
  (.seq ((.seq (.reg false [
    { dst := some 24, op := .mov (.t 7) },
    { dst := some 25, op := .bin .lss (.t 24) (.c (.int .i64 32)) }])
  (.cond (.t 25) (.skip) (.exit 2))))
  ((.seq (.block 3 (.reg false [
    { dst := some 28, op := .mov (.t 7) },
    { dst := some 29, op := .mov (.t 7) },
    { dst := some 30, op := .bin .quo (.t 29) (.c (.int .i64 4)) },
    { dst := some 31, op := .iada 8 1 (.t 3) (.t 30) },
    { dst := some 32, op := .load none (.t 31) },
    { dst := some 33, op := .mov (.t 7) },
    { dst := some 34, op := .bin .rem (.t 33) (.c (.int .i64 4)) },
    { dst := some 35, op := .bin .mul (.c (.int .i64 8)) (.t 34) },
    { dst := some 36, op := .bin .sub (.c (.int .i64 24)) (.t 35) },
    { dst := some 37, op := .bin .shr (.t 32) (.t 36) },
    { dst := some 38, op := .conv .u8 (.t 37) },
    { dst := some 39, op := .iada 32 1 (.t 6) (.t 28) },
    { dst := none, op := .store 1 (.t 39) (.t 38) }]))
  (.keep [2, 3, 6, 7] [2, 3, 6] (.reg false [
    { dst := some 26, op := .mov (.t 7) },
    { dst := some 27, op := .bin .add (.t 26) (.c (.int .i64 1)) },
    { dst := some 7, op := .mov (.t 27) }])))))
def b25_1 : AC :=
  (.seq ((.seq (.reg false [
    { dst := some 11, op := .mov (.t 5) },
    { dst := some 12, op := .mov (.t 4) },
    { dst := some 13, op := .len (.t 12) },
    { dst := some 14, op := .bin .lss (.t 11) (.t 13) }])
  (.cond (.t 14) (.skip) (.exit 0))))
  (.keep [2, 3, 4, 5] [2, 3, 11000] ((.seq (.block 1 (.reg true [
    { dst := some 17, op := .load (some 8) (.t 3), rs := [3], tn := [3] },
    { dst := some 18, op := .mov (.t 4), rs := [4], mn := [11000] },
    { dst := some 19, op := .mov (.t 5), rs := [5] },
    { dst := some 20, op := .mov (.t 5), rs := [5] },
    { dst := some 21, op := .bin .add (.t 20) (.c (.int .i64 64)), rs := [20], an := [3] },
    { dst := some 22, op := .slc 1 (.t 18) (some (.t 19)) (some (.t 21)) none, rs := [18, 19, 21], tn := [11000], an := [1, 2, 4] },
    { dst := some 23, op := .call 24000 37 [(.t 17), (.t 22)], rs := [17, 22], tn := [11000], an := [0, 5] },
    { dst := none, op := .store 8 (.t 3) (.t 23), rs := [3, 23], tn := [3], wn := [3], an := [0, 6] }]))
  (.keep [2, 3, 4, 5] [2, 3, 11000] (.reg false [
    { dst := some 15, op := .mov (.t 5) },
    { dst := some 16, op := .bin .add (.t 15) (.c (.int .i64 64)) },
    { dst := some 5, op := .mov (.t 16) }]))))))
/-- estreat/estreatref02.Sum: parameters string -/
def c25 : AC :=
  (.seq (.reg false [
    { dst := some 2, op := .alloc 2 z29 }])
  ((.seq (.reg false [
    { dst := some 8, op := .build z63 [(0, 1, (.c (.int .u32 1779033703))), (1, 1, (.c (.int .u32 3144134277))), (2, 1, (.c (.int .u32 1013904242))), (3, 1, (.c (.int .u32 2773480762))), (4, 1, (.c (.int .u32 1359893119))), (5, 1, (.c (.int .u32 2600822924))), (6, 1, (.c (.int .u32 528734635))), (7, 1, (.c (.int .u32 1541459225)))] },
    { dst := some 3, op := .alloc 3 z63 },
    { dst := none, op := .store 8 (.t 3) (.t 8) }])
  ((.seq (.reg false [
    { dst := some 9, op := .mov (.t 0) },
    { dst := some 10, op := .call 11000 36 [(.t 9)] },
    { dst := some 4, op := .mov (.t 10) }])
  ((.seq ((.seq (.reg false [
    { dst := some 5, op := .mov (.c (.int .i64 0)) }])
  (.block 0 (.loop [2, 3, 4, 5] [2, 3, 11000] b25_1))))
  (.keep [2, 3] [2, 3] ((.seq (.reg false [
    { dst := some 6, op := .alloc 6 z29 }])
  ((.seq ((.seq (.reg false [
    { dst := some 7, op := .mov (.c (.int .i64 0)) }])
  (.block 2 (.loop [2, 3, 6, 7] [2, 3, 6] b25_0))))
  (.keep [2, 6] [2, 6] ((.seq (.reg false [
    { dst := some 40, op := .load (some 32) (.t 6) },
    { dst := none, op := .store 32 (.t 2) (.t 40) }])
  (.ret))))))))))))))))
/-- with its results -/
def a25 : AFun := ⟨c25, [(2, some (some 32))], 41⟩

/-- estreat/estreatref02.Knot: parameters api.Digest api.Digest -/
def c26 : AC :=
  (.seq (.reg false [
    { dst := some 2, op := .box 2 (.t 0) },
    { dst := some 3, op := .box 3 (.t 1) },
    { dst := some 4, op := .alloc 4 z29 }])
  ((.seq (.reg true [
    { dst := some 5, op := .load (some 32) (.t 2), rs := [2], tn := [2] },
    { dst := some 6, op := .call 7000 38 [(.t 5)], rs := [5], an := [0] },
    { dst := some 7, op := .bin .add (.c (.str ⟨#[1]⟩)) (.t 6), rs := [6], an := [1] },
    { dst := some 8, op := .load (some 32) (.t 3), rs := [3], tn := [3] },
    { dst := some 9, op := .call 10000 38 [(.t 8)], rs := [8], an := [3] },
    { dst := some 10, op := .bin .add (.t 7) (.t 9), rs := [7, 9], an := [2, 4] },
    { dst := some 11, op := .call 12000 25 [(.t 10)], rs := [10], an := [5] },
    { dst := none, op := .store 32 (.t 4) (.t 11), rs := [4, 11], tn := [4], wn := [4], an := [6] }])
  (.ret))))
/-- with its results -/
def a26 : AFun := ⟨c26, [(4, some (some 32))], 12⟩

def b27_0 : AC :=
  (.seq (.reg false [
    { dst := some 34, op := .bin .lss (.t 33) (.t 32) }])
  ((.seq (.cond (.t 34) (.skip) (.exit 0))
  ((.seq (.block 1 ((.seq (.reg false [
    { dst := some 35, op := .mov (.t 0) },
    { dst := some 36, op := .nilck (.t 35) },
    { dst := some 37, op := .fad 0 (.t 36) },
    { dst := some 38, op := .fad 1 (.t 37) },
    { dst := some 39, op := .load none (.t 38) },
    { dst := some 40, op := .len (.t 39) },
    { dst := some 41, op := .bin .sub (.t 40) (.c (.int .i64 2)) },
    { dst := some 4, op := .mov (.t 41) }])
  (.keep [0, 4, 32, 33] [13, 69, 100000, 100002] (.reg true [
    { dst := some 42, op := .mov (.t 0), rs := [0], mn := [100000] },
    { dst := some 43, op := .mov (.t 0), rs := [0], mn := [100000] },
    { dst := some 44, op := .nilck (.t 43), rs := [43], an := [1], mn := [100000] },
    { dst := some 45, op := .fad 0 (.t 44), rs := [44], an := [2], mn := [100000] },
    { dst := some 46, op := .fad 1 (.t 45), rs := [45], an := [3], mn := [100000] },
    { dst := some 47, op := .load none (.t 46), rs := [46], tn := [100000], an := [4], mn := [13, 69, 100002] },
    { dst := some 48, op := .mov (.t 4), rs := [4] },
    { dst := some 49, op := .slc 32 (.t 47) none (some (.t 48)) none, rs := [47, 48], tn := [13, 69, 100002], an := [5, 6] },
    { dst := some 50, op := .mov (.t 0), rs := [0], mn := [100000] },
    { dst := some 51, op := .nilck (.t 50), rs := [50], an := [8], mn := [100000] },
    { dst := some 52, op := .fad 0 (.t 51), rs := [51], an := [9], mn := [100000] },
    { dst := some 53, op := .fad 1 (.t 52), rs := [52], an := [10], mn := [100000] },
    { dst := some 54, op := .load none (.t 53), rs := [53], tn := [100000], an := [11], mn := [13, 69, 100002] },
    { dst := some 55, op := .mov (.t 4), rs := [4] },
    { dst := some 56, op := .iad 32 (.t 54) (.t 55), rs := [54, 55], tn := [13, 69, 100002], an := [12, 13] },
    { dst := some 57, op := .load (some 32) (.t 56), rs := [56], tn := [13, 69, 100002], an := [14] },
    { dst := some 58, op := .mov (.t 0), rs := [0], mn := [100000] },
    { dst := some 59, op := .nilck (.t 58), rs := [58], an := [16], mn := [100000] },
    { dst := some 60, op := .fad 0 (.t 59), rs := [59], an := [17], mn := [100000] },
    { dst := some 61, op := .fad 1 (.t 60), rs := [60], an := [18], mn := [100000] },
    { dst := some 62, op := .load none (.t 61), rs := [61], tn := [100000], an := [19], mn := [13, 69, 100002] },
    { dst := some 63, op := .mov (.t 4), rs := [4] },
    { dst := some 64, op := .bin .add (.t 63) (.c (.int .i64 1)), rs := [63], an := [21] },
    { dst := some 65, op := .iad 32 (.t 62) (.t 64), rs := [62, 64], tn := [13, 69, 100002], an := [20, 22] },
    { dst := some 66, op := .load (some 32) (.t 65), rs := [65], tn := [13, 69, 100002], an := [23] },
    { dst := some 67, op := .call 68000 23 [(.t 57), (.t 66)], rs := [57, 66], an := [14, 15, 23, 24] },
    { dst := some 68, op := .bslice 68 32 z29 1 [(0, (.t 67))], rs := [67], tn := [68], wn := [68], an := [14, 23, 25] },
    { dst := some 69, op := .app 69 32 32 (.t 49) (.t 68), rs := [49, 68], tn := [13, 68, 69, 100002], wn := [13, 69, 100002], an := [7, 14, 15, 23, 24, 26] },
    { dst := some 70, op := .nilck (.t 42), rs := [42], an := [0], mn := [100000] },
    { dst := some 71, op := .fad 0 (.t 70), rs := [70], an := [28], mn := [100000] },
    { dst := some 72, op := .fad 1 (.t 71), rs := [71], an := [29], mn := [100000] },
    { dst := none, op := .store 1 (.t 72) (.t 69), rs := [69, 72], tn := [13, 69, 100000, 100002], wn := [13, 69, 100000, 100002], an := [5, 7, 12, 14, 15, 20, 23, 24, 27, 30] }])))))
  (.keep [0, 32, 33] [13, 69, 100000, 100002] (.reg false [
    { dst := some 73, op := .bin .add (.t 33) (.c (.int .i64 1)) },
    { dst := some 33, op := .mov (.t 73) }])))))))
/-- (*estreat/front.work).add: parameters *front.work api.Digest -/
def c27 : AC :=
  (.seq (.reg false [
    { dst := some 3, op := .box 3 (.t 1) }])
  ((.seq (.reg true [
    { dst := some 5, op := .mov (.t 0), rs := [0], mn := [100000] },
    { dst := some 6, op := .mov (.t 0), rs := [0], mn := [100000] },
    { dst := some 7, op := .nilck (.t 6), rs := [6], an := [1], mn := [100000] },
    { dst := some 8, op := .fad 0 (.t 7), rs := [7], an := [2], mn := [100000] },
    { dst := some 9, op := .fad 1 (.t 8), rs := [8], an := [3], mn := [100000] },
    { dst := some 10, op := .load none (.t 9), rs := [9], tn := [100000], an := [4], mn := [13, 69, 100002] },
    { dst := some 11, op := .load (some 32) (.t 3), rs := [3], tn := [3] },
    { dst := some 12, op := .bslice 12 32 z29 1 [(0, (.t 11))], rs := [11], tn := [12], wn := [12], an := [6] },
    { dst := some 13, op := .app 13 32 32 (.t 10) (.t 12), rs := [10, 12], tn := [12, 13, 69, 100002], wn := [13, 69, 100002], an := [5, 7] },
    { dst := some 14, op := .nilck (.t 5), rs := [5], an := [0], mn := [100000] },
    { dst := some 15, op := .fad 0 (.t 14), rs := [14], an := [9], mn := [100000] },
    { dst := some 16, op := .fad 1 (.t 15), rs := [15], an := [10], mn := [100000] },
    { dst := none, op := .store 1 (.t 16) (.t 13), rs := [13, 16], tn := [13, 69, 100000, 100002], wn := [13, 69, 100000, 100002], an := [5, 8, 11] }])
  (.keep [0] [13, 69, 100000, 100002] ((.seq (.reg false [
    { dst := some 17, op := .mov (.t 0) },
    { dst := some 18, op := .nilck (.t 17) },
    { dst := some 19, op := .fad 0 (.t 18) },
    { dst := some 20, op := .fad 0 (.t 19) },
    { dst := some 21, op := .load none (.t 20) },
    { dst := some 22, op := .bin .add (.t 21) (.c (.int .i64 1)) },
    { dst := some 23, op := .nilck (.t 17) },
    { dst := some 24, op := .fad 0 (.t 23) },
    { dst := some 25, op := .fad 0 (.t 24) },
    { dst := none, op := .store 1 (.t 25) (.t 22) }])
  (.keep [0] [13, 69, 100000, 100002] ((.seq (.reg false [
    { dst := some 26, op := .mov (.t 0) },
    { dst := some 27, op := .nilck (.t 26) },
    { dst := some 28, op := .fad 0 (.t 27) },
    { dst := some 29, op := .fad 0 (.t 28) },
    { dst := some 30, op := .load none (.t 29) },
    { dst := some 31, op := .conv .u64 (.t 30) },
    { dst := some 32, op := .call 33000 31 [(.t 31)] },
    { dst := some 33, op := .mov (.c (.int .i64 0)) }])
  (.keep [0, 32, 33] [13, 69, 100000, 100002] (.block 0 (.loop [0, 32, 33] [13, 69, 100000, 100002] b27_0))))))))))))
/-- with its results -/
def a27 : AFun := ⟨c27, [], 74⟩

/-- estreat/estreatref03.Root: parameters []api.Digest -/
def c28 : AC :=
  (.seq (.reg false [
    { dst := some 2, op := .alloc 2 z29 }])
  ((.seq ((.seq (.reg false [
    { dst := some 4, op := .mov (.t 0) },
    { dst := some 5, op := .len (.t 4) },
    { dst := some 6, op := .bin .eql (.t 5) (.c (.int .i64 0)) }])
  (.cond (.t 6) ((.seq (.reg false [
    { dst := some 7, op := .call 8000 25 [(.c (.str ⟨#[]⟩))] },
    { dst := none, op := .store 32 (.t 2) (.t 7) }])
  (.ret))) (.skip))))
  (.keep [0, 2] [2, 100000] ((.seq ((.seq (.reg false [
    { dst := some 8, op := .mov (.t 0) },
    { dst := some 9, op := .len (.t 8) },
    { dst := some 10, op := .bin .eql (.t 9) (.c (.int .i64 1)) }])
  (.cond (.t 10) ((.seq (.reg false [
    { dst := some 11, op := .mov (.t 0) },
    { dst := some 12, op := .iad 32 (.t 11) (.c (.int .i64 0)) },
    { dst := some 13, op := .load (some 32) (.t 12) },
    { dst := none, op := .store 32 (.t 2) (.t 13) }])
  (.ret))) (.skip))))
  (.keep [0, 2] [2, 100000] ((.seq (.reg false [
    { dst := some 14, op := .mov (.t 0) },
    { dst := some 15, op := .len (.t 14) },
    { dst := some 16, op := .call 17000 39 [(.t 15)] },
    { dst := some 3, op := .mov (.t 16) }])
  (.keep [0, 2, 3] [2, 100000] ((.seq (.reg true [
    { dst := some 17, op := .mov (.t 0), rs := [0], mn := [100000] },
    { dst := some 18, op := .mov (.t 3), rs := [3] },
    { dst := some 19, op := .slc 32 (.t 17) none (some (.t 18)) none, rs := [17, 18], tn := [100000], an := [0, 1] },
    { dst := some 20, op := .call 21000 28 [(.t 19)], rs := [19], tn := [100000], an := [2] },
    { dst := some 21, op := .mov (.t 0), rs := [0], mn := [100000] },
    { dst := some 22, op := .mov (.t 3), rs := [3] },
    { dst := some 23, op := .slc 32 (.t 21) (some (.t 22)) none none, rs := [21, 22], tn := [100000], an := [4, 5] },
    { dst := some 24, op := .call 25000 28 [(.t 23)], rs := [23], tn := [100000], an := [6] },
    { dst := some 25, op := .call 26000 26 [(.t 20), (.t 24)], rs := [20, 24], an := [3, 7] },
    { dst := none, op := .store 32 (.t 2) (.t 25), rs := [2, 25], tn := [2], wn := [2], an := [8] }])
  (.ret)))))))))))))
/-- with its results -/
def a28 : AFun := ⟨c28, [(2, some (some 32))], 26⟩

/-- slices.Clone[[]estreat/api.Digest,estreat/api.Digest]: parameters []api.Digest -/
def c29 : AC :=
  (.seq (.reg false [
    { dst := some 2, op := .mov (.c .nilS) }])
  ((.seq ((.seq (.reg false [
    { dst := some 3, op := .mov (.t 0) },
    { dst := some 4, op := .isnil false 0 (.t 3) }])
  (.cond (.t 4) ((.seq (.reg false [
    { dst := some 2, op := .mov (.c .nilS) }])
  (.ret))) (.skip))))
  ((.seq (.reg false [
    { dst := some 5, op := .bemp 32 },
    { dst := some 6, op := .mov (.t 0) },
    { dst := some 7, op := .app 7 32 32 (.t 5) (.t 6) },
    { dst := some 2, op := .mov (.t 7) }])
  (.ret))))))
/-- with its results -/
def a29 : AFun := ⟨c29, [(2, none)], 8⟩

/-- estreat/tree.Root$1: parameters  -/
def c30 : AC :=
  (.seq (.reg false [
    { dst := some 2, op := .load none (.t 0) },
    { dst := some 3, op := .len (.t 2) },
    { dst := some 1, op := .mov (.t 3) }])
  (.reg true [
    { dst := some 4, op := .load none (.t 0), rs := [0], tn := [100000], mn := [20, 100001] },
    { dst := some 5, op := .mov (.t 1), rs := [1] },
    { dst := some 6, op := .bin .sub (.t 5) (.c (.int .i64 2)), rs := [5], an := [1] },
    { dst := some 7, op := .slc 32 (.t 4) none (some (.t 6)) none, rs := [4, 6], tn := [20, 100001], an := [0, 2] },
    { dst := some 8, op := .load none (.t 0), rs := [0], tn := [100000], mn := [20, 100001] },
    { dst := some 9, op := .mov (.t 1), rs := [1] },
    { dst := some 10, op := .bin .sub (.t 9) (.c (.int .i64 2)), rs := [9], an := [5] },
    { dst := some 11, op := .iad 32 (.t 8) (.t 10), rs := [8, 10], tn := [20, 100001], an := [4, 6] },
    { dst := some 12, op := .load (some 32) (.t 11), rs := [11], tn := [20, 100001], an := [7] },
    { dst := some 13, op := .load none (.t 0), rs := [0], tn := [100000], mn := [20, 100001] },
    { dst := some 14, op := .mov (.t 1), rs := [1] },
    { dst := some 15, op := .bin .sub (.t 14) (.c (.int .i64 1)), rs := [14], an := [10] },
    { dst := some 16, op := .iad 32 (.t 13) (.t 15), rs := [13, 15], tn := [20, 100001], an := [9, 11] },
    { dst := some 17, op := .load (some 32) (.t 16), rs := [16], tn := [20, 100001], an := [12] },
    { dst := some 18, op := .call 19000 23 [(.t 12), (.t 17)], rs := [12, 17], an := [7, 8, 12, 13] },
    { dst := some 19, op := .bslice 19 32 z29 1 [(0, (.t 18))], rs := [18], tn := [19], wn := [19], an := [7, 12, 14] },
    { dst := some 20, op := .app 20 32 32 (.t 7) (.t 19), rs := [7, 19], tn := [19, 20, 100001], wn := [20, 100001], an := [3, 7, 8, 12, 13, 15] },
    { dst := none, op := .store 1 (.t 0) (.t 20), rs := [0, 20], tn := [20, 100000, 100001], wn := [20, 100000, 100001], an := [0, 3, 4, 7, 8, 9, 12, 13, 16] }]))
/-- with its results -/
def a30 : AFun := ⟨c30, [], 21⟩

/-- math/bits.TrailingZeros: parameters uint -/
def c31 : AC :=
  (.seq (.reg false [
    { dst := some 2, op := .mov (.c (.int .i64 0)) }])
  ((.seq (.cond (.c (.bool false)) ((.seq (.reg false [
    { dst := some 3, op := .mov (.t 0) },
    { dst := some 4, op := .conv .u32 (.t 3) },
    { dst := some 5, op := .call 6000 40 [(.t 4)] },
    { dst := some 2, op := .mov (.t 5) }])
  (.ret))) (.skip))
  (.keep [0] [] ((.seq (.reg false [
    { dst := some 6, op := .mov (.t 0) },
    { dst := some 7, op := .call 8000 41 [(.t 6)] },
    { dst := some 2, op := .mov (.t 7) }])
  (.ret)))))))
/-- with its results -/
def a31 : AFun := ⟨c31, [(2, none)], 8⟩

/-- math/bits.OnesCount32: parameters uint32 -/
def c32 : AC :=
  (.seq (.reg false [
    { dst := some 2, op := .mov (.c (.int .i64 0)) }])
  ((.seq (.reg true [
    { dst := some 3, op := .mov (.t 0), rs := [0] },
    { dst := some 4, op := .bin .shr (.t 3) (.c (.int .u64 24)), rs := [3], an := [0] },
    { dst := some 5, op := .idxs (.c (.str ⟨#[0, 1, 1, 2, 1, 2, 2, 3, 1, 2, 2, 3, 2, 3, 3, 4, 1, 2, 2, 3, 2, 3, 3, 4, 2, 3, 3, 4, 3, 4, 4, 5, 1, 2, 2, 3, 2, 3, 3, 4, 2, 3, 3, 4, 3, 4, 4, 5, 2, 3, 3, 4, 3, 4, 4, 5, 3, 4, 4, 5, 4, 5, 5, 6, 1, 2, 2, 3, 2, 3, 3, 4, 2, 3, 3, 4, 3, 4, 4, 5, 2, 3, 3, 4, 3, 4, 4, 5, 3, 4, 4, 5, 4, 5, 5, 6, 2, 3, 3, 4, 3, 4, 4, 5, 3, 4, 4, 5, 4, 5, 5, 6, 3, 4, 4, 5, 4, 5, 5, 6, 4, 5, 5, 6, 5, 6, 6, 7, 1, 2, 2, 3, 2, 3, 3, 4, 2, 3, 3, 4, 3, 4, 4, 5, 2, 3, 3, 4, 3, 4, 4, 5, 3, 4, 4, 5, 4, 5, 5, 6, 2, 3, 3, 4, 3, 4, 4, 5, 3, 4, 4, 5, 4, 5, 5, 6, 3, 4, 4, 5, 4, 5, 5, 6, 4, 5, 5, 6, 5, 6, 6, 7, 2, 3, 3, 4, 3, 4, 4, 5, 3, 4, 4, 5, 4, 5, 5, 6, 3, 4, 4, 5, 4, 5, 5, 6, 4, 5, 5, 6, 5, 6, 6, 7, 3, 4, 4, 5, 4, 5, 5, 6, 4, 5, 5, 6, 5, 6, 6, 7, 4, 5, 5, 6, 5, 6, 6, 7, 5, 6, 6, 7, 6, 7, 7, 8]⟩)) (.t 4), rs := [4], an := [1] },
    { dst := some 6, op := .mov (.t 0), rs := [0] },
    { dst := some 7, op := .bin .shr (.t 6) (.c (.int .u64 16)), rs := [6], an := [3] },
    { dst := some 8, op := .bin .and (.t 7) (.c (.int .u32 255)), rs := [7], an := [4] },
    { dst := some 9, op := .idxs (.c (.str ⟨#[0, 1, 1, 2, 1, 2, 2, 3, 1, 2, 2, 3, 2, 3, 3, 4, 1, 2, 2, 3, 2, 3, 3, 4, 2, 3, 3, 4, 3, 4, 4, 5, 1, 2, 2, 3, 2, 3, 3, 4, 2, 3, 3, 4, 3, 4, 4, 5, 2, 3, 3, 4, 3, 4, 4, 5, 3, 4, 4, 5, 4, 5, 5, 6, 1, 2, 2, 3, 2, 3, 3, 4, 2, 3, 3, 4, 3, 4, 4, 5, 2, 3, 3, 4, 3, 4, 4, 5, 3, 4, 4, 5, 4, 5, 5, 6, 2, 3, 3, 4, 3, 4, 4, 5, 3, 4, 4, 5, 4, 5, 5, 6, 3, 4, 4, 5, 4, 5, 5, 6, 4, 5, 5, 6, 5, 6, 6, 7, 1, 2, 2, 3, 2, 3, 3, 4, 2, 3, 3, 4, 3, 4, 4, 5, 2, 3, 3, 4, 3, 4, 4, 5, 3, 4, 4, 5, 4, 5, 5, 6, 2, 3, 3, 4, 3, 4, 4, 5, 3, 4, 4, 5, 4, 5, 5, 6, 3, 4, 4, 5, 4, 5, 5, 6, 4, 5, 5, 6, 5, 6, 6, 7, 2, 3, 3, 4, 3, 4, 4, 5, 3, 4, 4, 5, 4, 5, 5, 6, 3, 4, 4, 5, 4, 5, 5, 6, 4, 5, 5, 6, 5, 6, 6, 7, 3, 4, 4, 5, 4, 5, 5, 6, 4, 5, 5, 6, 5, 6, 6, 7, 4, 5, 5, 6, 5, 6, 6, 7, 5, 6, 6, 7, 6, 7, 7, 8]⟩)) (.t 8), rs := [8], an := [5] },
    { dst := some 10, op := .bin .add (.t 5) (.t 9), rs := [5, 9], an := [2, 6] },
    { dst := some 11, op := .mov (.t 0), rs := [0] },
    { dst := some 12, op := .bin .shr (.t 11) (.c (.int .u64 8)), rs := [11], an := [8] },
    { dst := some 13, op := .bin .and (.t 12) (.c (.int .u32 255)), rs := [12], an := [9] },
    { dst := some 14, op := .idxs (.c (.str ⟨#[0, 1, 1, 2, 1, 2, 2, 3, 1, 2, 2, 3, 2, 3, 3, 4, 1, 2, 2, 3, 2, 3, 3, 4, 2, 3, 3, 4, 3, 4, 4, 5, 1, 2, 2, 3, 2, 3, 3, 4, 2, 3, 3, 4, 3, 4, 4, 5, 2, 3, 3, 4, 3, 4, 4, 5, 3, 4, 4, 5, 4, 5, 5, 6, 1, 2, 2, 3, 2, 3, 3, 4, 2, 3, 3, 4, 3, 4, 4, 5, 2, 3, 3, 4, 3, 4, 4, 5, 3, 4, 4, 5, 4, 5, 5, 6, 2, 3, 3, 4, 3, 4, 4, 5, 3, 4, 4, 5, 4, 5, 5, 6, 3, 4, 4, 5, 4, 5, 5, 6, 4, 5, 5, 6, 5, 6, 6, 7, 1, 2, 2, 3, 2, 3, 3, 4, 2, 3, 3, 4, 3, 4, 4, 5, 2, 3, 3, 4, 3, 4, 4, 5, 3, 4, 4, 5, 4, 5, 5, 6, 2, 3, 3, 4, 3, 4, 4, 5, 3, 4, 4, 5, 4, 5, 5, 6, 3, 4, 4, 5, 4, 5, 5, 6, 4, 5, 5, 6, 5, 6, 6, 7, 2, 3, 3, 4, 3, 4, 4, 5, 3, 4, 4, 5, 4, 5, 5, 6, 3, 4, 4, 5, 4, 5, 5, 6, 4, 5, 5, 6, 5, 6, 6, 7, 3, 4, 4, 5, 4, 5, 5, 6, 4, 5, 5, 6, 5, 6, 6, 7, 4, 5, 5, 6, 5, 6, 6, 7, 5, 6, 6, 7, 6, 7, 7, 8]⟩)) (.t 13), rs := [13], an := [10] },
    { dst := some 15, op := .bin .add (.t 10) (.t 14), rs := [10, 14], an := [7, 11] },
    { dst := some 16, op := .mov (.t 0), rs := [0] },
    { dst := some 17, op := .bin .and (.t 16) (.c (.int .u32 255)), rs := [16], an := [13] },
    { dst := some 18, op := .idxs (.c (.str ⟨#[0, 1, 1, 2, 1, 2, 2, 3, 1, 2, 2, 3, 2, 3, 3, 4, 1, 2, 2, 3, 2, 3, 3, 4, 2, 3, 3, 4, 3, 4, 4, 5, 1, 2, 2, 3, 2, 3, 3, 4, 2, 3, 3, 4, 3, 4, 4, 5, 2, 3, 3, 4, 3, 4, 4, 5, 3, 4, 4, 5, 4, 5, 5, 6, 1, 2, 2, 3, 2, 3, 3, 4, 2, 3, 3, 4, 3, 4, 4, 5, 2, 3, 3, 4, 3, 4, 4, 5, 3, 4, 4, 5, 4, 5, 5, 6, 2, 3, 3, 4, 3, 4, 4, 5, 3, 4, 4, 5, 4, 5, 5, 6, 3, 4, 4, 5, 4, 5, 5, 6, 4, 5, 5, 6, 5, 6, 6, 7, 1, 2, 2, 3, 2, 3, 3, 4, 2, 3, 3, 4, 3, 4, 4, 5, 2, 3, 3, 4, 3, 4, 4, 5, 3, 4, 4, 5, 4, 5, 5, 6, 2, 3, 3, 4, 3, 4, 4, 5, 3, 4, 4, 5, 4, 5, 5, 6, 3, 4, 4, 5, 4, 5, 5, 6, 4, 5, 5, 6, 5, 6, 6, 7, 2, 3, 3, 4, 3, 4, 4, 5, 3, 4, 4, 5, 4, 5, 5, 6, 3, 4, 4, 5, 4, 5, 5, 6, 4, 5, 5, 6, 5, 6, 6, 7, 3, 4, 4, 5, 4, 5, 5, 6, 4, 5, 5, 6, 5, 6, 6, 7, 4, 5, 5, 6, 5, 6, 6, 7, 5, 6, 6, 7, 6, 7, 7, 8]⟩)) (.t 17), rs := [17], an := [14] },
    { dst := some 19, op := .bin .add (.t 15) (.t 18), rs := [15, 18], an := [12, 15] },
    { dst := some 20, op := .conv .i64 (.t 19), rs := [19], an := [16] },
    { dst := some 2, op := .mov (.t 20), rs := [20], an := [17] }])
  (.ret))))
/-- with its results -/
def a32 : AFun := ⟨c32, [(2, none)], 21⟩

/-- math/bits.OnesCount64: parameters uint64 -/
def c33 : AC :=
  (.seq (.reg false [
    { dst := some 2, op := .mov (.c (.int .i64 0)) }])
  ((.seq (.reg false [
    { dst := some 3, op := .mov (.t 0) },
    { dst := some 4, op := .bin .shr (.t 3) (.c (.int .u64 1)) },
    { dst := some 5, op := .bin .and (.t 4) (.c (.int .u64 6148914691236517205)) },
    { dst := some 6, op := .mov (.t 0) },
    { dst := some 7, op := .bin .and (.t 6) (.c (.int .u64 6148914691236517205)) },
    { dst := some 8, op := .bin .add (.t 5) (.t 7) },
    { dst := some 0, op := .mov (.t 8) }])
  (.keep [0] [] ((.seq (.reg false [
    { dst := some 9, op := .mov (.t 0) },
    { dst := some 10, op := .bin .shr (.t 9) (.c (.int .u64 2)) },
    { dst := some 11, op := .bin .and (.t 10) (.c (.int .u64 3689348814741910323)) },
    { dst := some 12, op := .mov (.t 0) },
    { dst := some 13, op := .bin .and (.t 12) (.c (.int .u64 3689348814741910323)) },
    { dst := some 14, op := .bin .add (.t 11) (.t 13) },
    { dst := some 0, op := .mov (.t 14) }])
  (.keep [0] [] ((.seq (.reg false [
    { dst := some 15, op := .mov (.t 0) },
    { dst := some 16, op := .bin .shr (.t 15) (.c (.int .u64 4)) },
    { dst := some 17, op := .mov (.t 0) },
    { dst := some 18, op := .bin .add (.t 16) (.t 17) },
    { dst := some 19, op := .bin .and (.t 18) (.c (.int .u64 1085102592571150095)) },
    { dst := some 0, op := .mov (.t 19) }])
  (.keep [0] [] ((.seq (.reg false [
    { dst := some 20, op := .mov (.t 0) },
    { dst := some 21, op := .mov (.t 0) },
    { dst := some 22, op := .bin .shr (.t 21) (.c (.int .u64 8)) },
    { dst := some 23, op := .bin .add (.t 20) (.t 22) },
    { dst := some 0, op := .mov (.t 23) }])
  (.keep [0] [] ((.seq (.reg false [
    { dst := some 24, op := .mov (.t 0) },
    { dst := some 25, op := .mov (.t 0) },
    { dst := some 26, op := .bin .shr (.t 25) (.c (.int .u64 16)) },
    { dst := some 27, op := .bin .add (.t 24) (.t 26) },
    { dst := some 0, op := .mov (.t 27) }])
  (.keep [0] [] ((.seq (.reg false [
    { dst := some 28, op := .mov (.t 0) },
    { dst := some 29, op := .mov (.t 0) },
    { dst := some 30, op := .bin .shr (.t 29) (.c (.int .u64 32)) },
    { dst := some 31, op := .bin .add (.t 28) (.t 30) },
    { dst := some 0, op := .mov (.t 31) }])
  (.keep [0] [] ((.seq (.reg false [
    { dst := some 32, op := .mov (.t 0) },
    { dst := some 33, op := .conv .i64 (.t 32) },
    { dst := some 34, op := .bin .and (.t 33) (.c (.int .i64 127)) },
    { dst := some 2, op := .mov (.t 34) }])
  (.ret))))))))))))))))))))))
/-- with its results -/
def a33 : AFun := ⟨c33, [(2, none)], 35⟩

def b34_0 : AC :=
  (.seq (.reg false [
    { dst := some 50, op := .bin .lss (.t 49) (.c (.int .i64 32)) }])
  ((.seq (.cond (.t 50) (.skip) (.exit 4))
  ((.seq (.block 5 ((.seq (.reg false [
    { dst := some 51, op := .mov (.t 49) },
    { dst := some 10, op := .mov (.t 51) }])
  (.reg false [
    { dst := some 52, op := .mov (.t 10) },
    { dst := some 53, op := .mov (.t 10) },
    { dst := some 54, op := .bin .quo (.t 53) (.c (.int .i64 4)) },
    { dst := some 55, op := .fad 0 (.t 3) },
    { dst := some 56, op := .iada 8 1 (.t 55) (.t 54) },
    { dst := some 57, op := .load none (.t 56) },
    { dst := some 58, op := .mov (.t 10) },
    { dst := some 59, op := .bin .rem (.t 58) (.c (.int .i64 4)) },
    { dst := some 60, op := .bin .mul (.t 59) (.c (.int .i64 8)) },
    { dst := some 61, op := .bin .sub (.c (.int .i64 24)) (.t 60) },
    { dst := some 62, op := .bin .shr (.t 57) (.t 61) },
    { dst := some 63, op := .conv .u8 (.t 62) },
    { dst := some 64, op := .iada 32 1 (.t 9) (.t 52) },
    { dst := none, op := .store 1 (.t 64) (.t 63) }]))))
  (.keep [2, 3, 9, 49] [2, 3, 9, 12008, 1003008] (.reg false [
    { dst := some 65, op := .bin .add (.t 49) (.c (.int .i64 1)) },
    { dst := some 49, op := .mov (.t 65) }])))))))
def b34_1 : AC :=
  (.seq (.reg false [
    { dst := some 34, op := .bin .lss (.t 33) (.c (.int .i64 8)) }])
  ((.seq (.cond (.t 34) (.skip) (.exit 2))
  ((.seq (.block 3 ((.seq (.reg false [
    { dst := some 35, op := .mov (.t 33) },
    { dst := some 8, op := .mov (.t 35) }])
  (.reg false [
    { dst := some 36, op := .mov (.t 7) },
    { dst := some 37, op := .mov (.t 6) },
    { dst := some 38, op := .mov (.t 8) },
    { dst := some 39, op := .bin .mul (.c (.int .i64 8)) (.t 38) },
    { dst := some 40, op := .bin .sub (.c (.int .i64 56)) (.t 39) },
    { dst := some 41, op := .bin .shr (.t 37) (.t 40) },
    { dst := some 42, op := .conv .u8 (.t 41) },
    { dst := some 43, op := .bslice 43 1 [(.int .u8 0)] 1 [(0, (.t 42))] },
    { dst := some 44, op := .app 44 1 1 (.t 36) (.t 43) },
    { dst := some 7, op := .mov (.t 44) }]))))
  (.keep [2, 3, 6, 7, 33] [2, 3, 30, 44, 12008, 1003008] (.reg false [
    { dst := some 45, op := .bin .add (.t 33) (.c (.int .i64 1)) },
    { dst := some 33, op := .mov (.t 45) }])))))))
def b34_2 : AC :=
  (.seq (.reg false [
    { dst := some 15, op := .bin .lss (.t 14) (.t 13) }])
  ((.seq (.cond (.t 15) (.skip) (.exit 0))
  ((.seq (.block 1 ((.seq (.reg false [
    { dst := some 16, op := .iad 1 (.t 12) (.t 14) },
    { dst := some 17, op := .load none (.t 16) },
    { dst := some 5, op := .mov (.t 17) }])
  (.reg false [
    { dst := some 18, op := .mov (.t 5) },
    { dst := some 19, op := .call 20000 43 [(.t 3), (.t 18)] }]))))
  (.keep [2, 3, 12, 13, 14] [2, 3, 12008, 100000, 1003008] (.reg false [
    { dst := some 20, op := .bin .add (.t 14) (.c (.int .i64 1)) },
    { dst := some 14, op := .mov (.t 20) }])))))))
/-- estreat/sha.Of: parameters []string -/
def c34 : AC :=
  (.seq (.reg false [
    { dst := some 2, op := .alloc 2 z29 }])
  ((.seq (.reg false [
    { dst := some 11, op := .call 12000 42 [] },
    { dst := some 3, op := .alloc 3 z69 },
    { dst := none, op := .store 10 (.t 3) (.t 11) }])
  ((.seq ((.seq (.reg false [
    { dst := some 12, op := .mov (.t 0) },
    { dst := some 13, op := .len (.t 12) },
    { dst := some 14, op := .mov (.c (.int .i64 0)) }])
  (.block 0 (.loop [2, 3, 12, 13, 14] [2, 3, 12008, 100000, 1003008] b34_2))))
  (.keep [2, 3] [2, 3, 12008, 1003008] ((.seq (.reg false [
    { dst := some 21, op := .fad 9 (.t 3) },
    { dst := some 22, op := .load none (.t 21) },
    { dst := some 23, op := .bin .mul (.t 22) (.c (.int .u64 8)) },
    { dst := some 6, op := .mov (.t 23) }])
  (.keep [2, 3, 6] [2, 3, 12008, 1003008] ((.seq (.reg false [
    { dst := some 24, op := .fad 8 (.t 3) },
    { dst := some 25, op := .load none (.t 24) },
    { dst := some 26, op := .len (.t 25) },
    { dst := some 27, op := .bin .sub (.c (.int .i64 119)) (.t 26) },
    { dst := some 28, op := .bin .rem (.t 27) (.c (.int .i64 64)) },
    { dst := some 29, op := .bin .add (.c (.int .i64 1)) (.t 28) },
    { dst := some 30, op := .mks 30 1 1 [(.int .u8 0)] (.t 29) (.c (.int .i64 128)) },
    { dst := some 7, op := .mov (.t 30) }])
  (.keep [2, 3, 6, 7] [2, 3, 30, 44, 12008, 1003008] ((.seq (.reg false [
    { dst := some 31, op := .mov (.t 7) },
    { dst := some 32, op := .iad 1 (.t 31) (.c (.int .i64 0)) },
    { dst := none, op := .store 1 (.t 32) (.c (.int .u8 128)) }])
  ((.seq ((.seq (.reg false [
    { dst := some 33, op := .mov (.c (.int .i64 0)) }])
  (.block 2 (.loop [2, 3, 6, 7, 33] [2, 3, 30, 44, 12008, 1003008] b34_1))))
  (.keep [2, 3, 7] [2, 3, 30, 44, 12008, 1003008] ((.seq (.reg false [
    { dst := some 46, op := .mov (.t 7) },
    { dst := some 47, op := .b2s (.t 46) },
    { dst := some 48, op := .call 49000 43 [(.t 3), (.t 47)] }])
  ((.seq (.reg false [
    { dst := some 9, op := .alloc 9 z29 }])
  ((.seq ((.seq (.reg false [
    { dst := some 49, op := .mov (.c (.int .i64 0)) }])
  (.block 4 (.loop [2, 3, 9, 49] [2, 3, 9, 12008, 1003008] b34_0))))
  (.keep [2, 9] [2, 9] ((.seq (.reg false [
    { dst := some 66, op := .load (some 32) (.t 9) },
    { dst := none, op := .store 32 (.t 2) (.t 66) }])
  (.ret)))))))))))))))))))))))))))
/-- with its results -/
def a34 : AFun := ⟨c34, [(2, some (some 32))], 67⟩

def b35_0 : AC :=
  (.seq ((.seq (.reg false [
    { dst := some 7, op := .mov (.t 3) },
    { dst := some 8, op := .bin .geq (.t 7) (.c (.int .i64 0)) }])
  (.cond (.t 8) (.skip) (.exit 0))))
  ((.seq (.block 1 ((.seq (.reg false [
    { dst := some 11, op := .mov (.t 0) },
    { dst := some 12, op := .mov (.t 3) },
    { dst := some 13, op := .load none (.t 1) },
    { dst := some 14, op := .mov (.t 3) },
    { dst := some 15, op := .iad 32 (.t 13) (.t 14) },
    { dst := some 16, op := .load (some 32) (.t 15) },
    { dst := some 17, op := .callv 18000 (.t 11) [(.t 12), (.t 16)] },
    { dst := some 18, op := .un .not (.t 17) }])
  (.cond (.t 18) (.ret) (.skip)))))
  (.keep [0, 1, 3] [100200, 100201] (.reg false [
    { dst := some 9, op := .mov (.t 3) },
    { dst := some 10, op := .bin .sub (.t 9) (.c (.int .i64 1)) },
    { dst := some 3, op := .mov (.t 10) }])))))
/-- slices.Backward[[]estreat/api.Digest,estreat/api.Digest]$1: parameters func(int, api.Digest) bool -/
def c35 : AC :=
  (.seq (.reg false [
    { dst := some 4, op := .load none (.t 1) },
    { dst := some 5, op := .len (.t 4) },
    { dst := some 6, op := .bin .sub (.t 5) (.c (.int .i64 1)) },
    { dst := some 3, op := .mov (.t 6) }])
  (.keep [0, 1, 3] [100200, 100201] (.block 0 (.loop [0, 1, 3] [100200, 100201] b35_0))))
/-- with its results -/
def a35 : AFun := ⟨c35, [], 19⟩

def b36_0 : AC :=
  (.seq ((.seq (.reg false [
    { dst := some 23, op := .mov (.t 5) },
    { dst := some 24, op := .bin .geq (.t 23) (.c (.int .i64 0)) }])
  (.cond (.t 24) (.skip) (.exit 2))))
  ((.seq (.block 3 (.reg false [
    { dst := some 27, op := .mov (.t 3) },
    { dst := some 28, op := .mov (.t 4) },
    { dst := some 29, op := .mov (.t 5) },
    { dst := some 30, op := .bin .mul (.c (.int .i64 8)) (.t 29) },
    { dst := some 31, op := .bin .shr (.t 28) (.t 30) },
    { dst := some 32, op := .conv .u8 (.t 31) },
    { dst := some 33, op := .bslice 33 1 [(.int .u8 0)] 1 [(0, (.t 32))] },
    { dst := some 34, op := .app 34 1 1 (.t 27) (.t 33) },
    { dst := some 3, op := .mov (.t 34) }]))
  (.keep [3, 4, 5] [8, 11, 18, 34] (.reg false [
    { dst := some 25, op := .mov (.t 5) },
    { dst := some 26, op := .bin .sub (.t 25) (.c (.int .i64 1)) },
    { dst := some 5, op := .mov (.t 26) }])))))
def b36_1 : AC :=
  (.seq ((.seq (.reg false [
    { dst := some 12, op := .mov (.t 3) },
    { dst := some 13, op := .len (.t 12) },
    { dst := some 14, op := .bin .rem (.t 13) (.c (.int .i64 64)) },
    { dst := some 15, op := .bin .neq (.t 14) (.c (.int .i64 56)) }])
  (.cond (.t 15) (.skip) (.exit 0))))
  (.keep [0, 3] [8, 11, 18, 34] (.block 1 (.reg false [
    { dst := some 16, op := .mov (.t 3) },
    { dst := some 17, op := .bslice 17 1 [(.int .u8 0)] 1 [(0, (.c (.int .u8 0)))] },
    { dst := some 18, op := .app 18 1 1 (.t 16) (.t 17) },
    { dst := some 3, op := .mov (.t 18) }]))))
/-- estreat/estreatref02.message: parameters string -/
def c36 : AC :=
  (.seq (.reg false [
    { dst := some 2, op := .mov (.c .nilS) }])
  ((.seq (.reg false [
    { dst := some 3, op := .mov (.c .nilS) }])
  ((.seq (.reg false [
    { dst := some 6, op := .mov (.t 3) },
    { dst := some 7, op := .mov (.t 0) },
    { dst := some 8, op := .app 8 1 1 (.t 6) (.t 7) },
    { dst := some 3, op := .mov (.t 8) }])
  (.keep [0, 3] [8, 11, 18, 34] ((.seq (.reg false [
    { dst := some 9, op := .mov (.t 3) },
    { dst := some 10, op := .bslice 10 1 [(.int .u8 0)] 1 [(0, (.c (.int .u8 128)))] },
    { dst := some 11, op := .app 11 1 1 (.t 9) (.t 10) },
    { dst := some 3, op := .mov (.t 11) }])
  (.keep [0, 3] [8, 11, 18, 34] ((.seq (.block 0 (.loop [0, 3] [8, 11, 18, 34] b36_1))
  (.keep [0, 3] [8, 11, 18, 34] ((.seq (.reg false [
    { dst := some 19, op := .mov (.t 0) },
    { dst := some 20, op := .lenS (.t 19) },
    { dst := some 21, op := .conv .u64 (.t 20) },
    { dst := some 22, op := .bin .mul (.t 21) (.c (.int .u64 8)) },
    { dst := some 4, op := .mov (.t 22) }])
  (.keep [3, 4] [8, 11, 18, 34] ((.seq ((.seq (.reg false [
    { dst := some 5, op := .mov (.c (.int .i64 7)) }])
  (.block 2 (.loop [3, 4, 5] [8, 11, 18, 34] b36_0))))
  (.keep [3] [8, 11, 18, 34] ((.seq (.reg false [
    { dst := some 35, op := .mov (.t 3) },
    { dst := some 2, op := .mov (.t 35) }])
  (.ret)))))))))))))))))))))
/-- with its results -/
def a36 : AFun := ⟨c36, [(2, none)], 36⟩

def b37_0 : AC :=
  (.seq ((.seq (.reg false [
    { dst := some 102, op := .mov (.t 10) },
    { dst := some 103, op := .bin .lss (.t 102) (.c (.int .i64 8)) }])
  (.cond (.t 103) (.skip) (.exit 2))))
  ((.seq (.block 3 (.reg true [
    { dst := some 106, op := .mov (.t 10), rs := [10] },
    { dst := some 107, op := .mov (.t 10), rs := [10] },
    { dst := some 108, op := .iada 8 1 (.t 2) (.t 107), rs := [2, 107], tn := [2], an := [1] },
    { dst := some 109, op := .load none (.t 108), rs := [108], tn := [2], an := [2] },
    { dst := some 110, op := .mov (.t 10), rs := [10] },
    { dst := some 111, op := .iada 8 1 (.t 6) (.t 110), rs := [6, 110], tn := [6], an := [4] },
    { dst := some 112, op := .load none (.t 111), rs := [111], tn := [6], an := [5] },
    { dst := some 113, op := .bin .add (.t 109) (.t 112), rs := [109, 112], an := [3, 6] },
    { dst := some 114, op := .iada 8 1 (.t 2) (.t 106), rs := [2, 106], tn := [2], an := [0] },
    { dst := none, op := .store 1 (.t 114) (.t 113), rs := [113, 114], tn := [2], wn := [2], an := [2, 3, 7, 8] }]))
  (.keep [2, 4, 6, 10] [2, 4, 6] (.reg false [
    { dst := some 104, op := .mov (.t 10) },
    { dst := some 105, op := .bin .add (.t 104) (.c (.int .i64 1)) },
    { dst := some 10, op := .mov (.t 105) }])))))
def b37_1 : AC :=
  (.seq ((.seq (.reg false [
    { dst := some 14, op := .mov (.t 7) },
    { dst := some 15, op := .bin .lss (.t 14) (.c (.int .i64 64)) }])
  (.cond (.t 15) (.skip) (.exit 0))))
  ((.seq (.block 1 ((.seq (.reg true [
    { dst := some 18, op := .iada 8 1 (.t 6) (.c (.int .i64 7)), rs := [6], tn := [6] },
    { dst := some 19, op := .load none (.t 18), rs := [18], tn := [6], an := [0] },
    { dst := some 20, op := .iada 8 1 (.t 6) (.c (.int .i64 4)), rs := [6], tn := [6] },
    { dst := some 21, op := .load none (.t 20), rs := [20], tn := [6], an := [2] },
    { dst := some 22, op := .call 23000 45 [(.t 21), (.c (.int .i64 6))], rs := [21], an := [3] },
    { dst := some 23, op := .iada 8 1 (.t 6) (.c (.int .i64 4)), rs := [6], tn := [6] },
    { dst := some 24, op := .load none (.t 23), rs := [23], tn := [6], an := [5] },
    { dst := some 25, op := .call 26000 45 [(.t 24), (.c (.int .i64 11))], rs := [24], an := [6] },
    { dst := some 26, op := .bin .xor (.t 22) (.t 25), rs := [22, 25], an := [4, 7] },
    { dst := some 27, op := .iada 8 1 (.t 6) (.c (.int .i64 4)), rs := [6], tn := [6] },
    { dst := some 28, op := .load none (.t 27), rs := [27], tn := [6], an := [9] },
    { dst := some 29, op := .call 30000 45 [(.t 28), (.c (.int .i64 25))], rs := [28], an := [10] },
    { dst := some 30, op := .bin .xor (.t 26) (.t 29), rs := [26, 29], an := [8, 11] },
    { dst := some 31, op := .bin .add (.t 19) (.t 30), rs := [19, 30], an := [1, 12] },
    { dst := some 32, op := .iada 8 1 (.t 6) (.c (.int .i64 4)), rs := [6], tn := [6] },
    { dst := some 33, op := .load none (.t 32), rs := [32], tn := [6], an := [14] },
    { dst := some 34, op := .iada 8 1 (.t 6) (.c (.int .i64 5)), rs := [6], tn := [6] },
    { dst := some 35, op := .load none (.t 34), rs := [34], tn := [6], an := [16] },
    { dst := some 36, op := .bin .and (.t 33) (.t 35), rs := [33, 35], an := [15, 17] },
    { dst := some 37, op := .iada 8 1 (.t 6) (.c (.int .i64 4)), rs := [6], tn := [6] },
    { dst := some 38, op := .load none (.t 37), rs := [37], tn := [6], an := [19] },
    { dst := some 39, op := .un .xor (.t 38), rs := [38], an := [20] },
    { dst := some 40, op := .iada 8 1 (.t 6) (.c (.int .i64 6)), rs := [6], tn := [6] },
    { dst := some 41, op := .load none (.t 40), rs := [40], tn := [6], an := [22] },
    { dst := some 42, op := .bin .and (.t 39) (.t 41), rs := [39, 41], an := [21, 23] },
    { dst := some 43, op := .bin .xor (.t 36) (.t 42), rs := [36, 42], an := [18, 24] },
    { dst := some 44, op := .bin .add (.t 31) (.t 43), rs := [31, 43], an := [13, 25] },
    { dst := some 45, op := .mov (.t 7), rs := [7] },
    { dst := some 46, op := .iada 64 1 (.g 0) (.t 45), rs := [45], an := [27] },
    { dst := some 47, op := .load none (.t 46), rs := [46], an := [28] },
    { dst := some 48, op := .bin .add (.t 44) (.t 47), rs := [44, 47], an := [26, 29] },
    { dst := some 49, op := .mov (.t 7), rs := [7] },
    { dst := some 50, op := .iada 64 1 (.t 5) (.t 49), rs := [5, 49], tn := [5], an := [31] },
    { dst := some 51, op := .load none (.t 50), rs := [50], tn := [5], an := [32] },
    { dst := some 52, op := .bin .add (.t 48) (.t 51), rs := [48, 51], an := [30, 33] },
    { dst := some 8, op := .mov (.t 52), rs := [52], an := [34] }])
  (.keep [2, 4, 5, 6, 7, 8] [2, 4, 5, 6] ((.seq (.reg true [
    { dst := some 53, op := .iada 8 1 (.t 6) (.c (.int .i64 0)), rs := [6], tn := [6] },
    { dst := some 54, op := .load none (.t 53), rs := [53], tn := [6], an := [0] },
    { dst := some 55, op := .call 56000 45 [(.t 54), (.c (.int .i64 2))], rs := [54], an := [1] },
    { dst := some 56, op := .iada 8 1 (.t 6) (.c (.int .i64 0)), rs := [6], tn := [6] },
    { dst := some 57, op := .load none (.t 56), rs := [56], tn := [6], an := [3] },
    { dst := some 58, op := .call 59000 45 [(.t 57), (.c (.int .i64 13))], rs := [57], an := [4] },
    { dst := some 59, op := .bin .xor (.t 55) (.t 58), rs := [55, 58], an := [2, 5] },
    { dst := some 60, op := .iada 8 1 (.t 6) (.c (.int .i64 0)), rs := [6], tn := [6] },
    { dst := some 61, op := .load none (.t 60), rs := [60], tn := [6], an := [7] },
    { dst := some 62, op := .call 63000 45 [(.t 61), (.c (.int .i64 22))], rs := [61], an := [8] },
    { dst := some 63, op := .bin .xor (.t 59) (.t 62), rs := [59, 62], an := [6, 9] },
    { dst := some 64, op := .iada 8 1 (.t 6) (.c (.int .i64 0)), rs := [6], tn := [6] },
    { dst := some 65, op := .load none (.t 64), rs := [64], tn := [6], an := [11] },
    { dst := some 66, op := .iada 8 1 (.t 6) (.c (.int .i64 1)), rs := [6], tn := [6] },
    { dst := some 67, op := .load none (.t 66), rs := [66], tn := [6], an := [13] },
    { dst := some 68, op := .bin .and (.t 65) (.t 67), rs := [65, 67], an := [12, 14] },
    { dst := some 69, op := .iada 8 1 (.t 6) (.c (.int .i64 0)), rs := [6], tn := [6] },
    { dst := some 70, op := .load none (.t 69), rs := [69], tn := [6], an := [16] },
    { dst := some 71, op := .iada 8 1 (.t 6) (.c (.int .i64 2)), rs := [6], tn := [6] },
    { dst := some 72, op := .load none (.t 71), rs := [71], tn := [6], an := [18] },
    { dst := some 73, op := .bin .and (.t 70) (.t 72), rs := [70, 72], an := [17, 19] },
    { dst := some 74, op := .bin .xor (.t 68) (.t 73), rs := [68, 73], an := [15, 20] },
    { dst := some 75, op := .iada 8 1 (.t 6) (.c (.int .i64 1)), rs := [6], tn := [6] },
    { dst := some 76, op := .load none (.t 75), rs := [75], tn := [6], an := [22] },
    { dst := some 77, op := .iada 8 1 (.t 6) (.c (.int .i64 2)), rs := [6], tn := [6] },
    { dst := some 78, op := .load none (.t 77), rs := [77], tn := [6], an := [24] },
    { dst := some 79, op := .bin .and (.t 76) (.t 78), rs := [76, 78], an := [23, 25] },
    { dst := some 80, op := .bin .xor (.t 74) (.t 79), rs := [74, 79], an := [21, 26] },
    { dst := some 81, op := .bin .add (.t 63) (.t 80), rs := [63, 80], an := [10, 27] },
    { dst := some 9, op := .mov (.t 81), rs := [81], an := [28] }])
  (.keep [2, 4, 5, 6, 7, 8, 9] [2, 4, 5, 6] (.reg false [
    { dst := some 82, op := .mov (.t 8) },
    { dst := some 83, op := .mov (.t 9) },
    { dst := some 84, op := .bin .add (.t 82) (.t 83) },
    { dst := some 85, op := .iada 8 1 (.t 6) (.c (.int .i64 0)) },
    { dst := some 86, op := .load none (.t 85) },
    { dst := some 87, op := .iada 8 1 (.t 6) (.c (.int .i64 1)) },
    { dst := some 88, op := .load none (.t 87) },
    { dst := some 89, op := .iada 8 1 (.t 6) (.c (.int .i64 2)) },
    { dst := some 90, op := .load none (.t 89) },
    { dst := some 91, op := .iada 8 1 (.t 6) (.c (.int .i64 3)) },
    { dst := some 92, op := .load none (.t 91) },
    { dst := some 93, op := .mov (.t 8) },
    { dst := some 94, op := .bin .add (.t 92) (.t 93) },
    { dst := some 95, op := .iada 8 1 (.t 6) (.c (.int .i64 4)) },
    { dst := some 96, op := .load none (.t 95) },
    { dst := some 97, op := .iada 8 1 (.t 6) (.c (.int .i64 5)) },
    { dst := some 98, op := .load none (.t 97) },
    { dst := some 99, op := .iada 8 1 (.t 6) (.c (.int .i64 6)) },
    { dst := some 100, op := .load none (.t 99) },
    { dst := some 101, op := .build z63 [(0, 1, (.t 84)), (1, 1, (.t 86)), (2, 1, (.t 88)), (3, 1, (.t 90)), (4, 1, (.t 94)), (5, 1, (.t 96)), (6, 1, (.t 98)), (7, 1, (.t 100))] },
    { dst := none, op := .store 8 (.t 6) (.t 101) }]))))))))
  (.keep [2, 4, 5, 6, 7] [2, 4, 5, 6] (.reg false [
    { dst := some 16, op := .mov (.t 7) },
    { dst := some 17, op := .bin .add (.t 16) (.c (.int .i64 1)) },
    { dst := some 7, op := .mov (.t 17) }])))))
/-- estreat/estreatref02.block: parameters [8]uint32 []uint8 -/
def c37 : AC :=
  (.seq (.reg false [
    { dst := some 2, op := .box 2 (.t 0) },
    { dst := some 4, op := .alloc 4 z63 }])
  ((.seq (.reg false [
    { dst := some 11, op := .mov (.t 1) },
    { dst := some 12, op := .call 13000 44 [(.t 11)] },
    { dst := some 5, op := .alloc 5 z72 },
    { dst := none, op := .store 64 (.t 5) (.t 12) }])
  (.keep [2, 4, 5] [2, 4, 5] ((.seq (.reg false [
    { dst := some 13, op := .load (some 8) (.t 2) },
    { dst := some 6, op := .alloc 6 z63 },
    { dst := none, op := .store 8 (.t 6) (.t 13) }])
  ((.seq ((.seq (.reg false [
    { dst := some 7, op := .mov (.c (.int .i64 0)) }])
  (.block 0 (.loop [2, 4, 5, 6, 7] [2, 4, 5, 6] b37_1))))
  (.keep [2, 4, 6] [2, 4, 6] ((.seq ((.seq (.reg false [
    { dst := some 10, op := .mov (.c (.int .i64 0)) }])
  (.block 2 (.loop [2, 4, 6, 10] [2, 4, 6] b37_0))))
  (.keep [2, 4] [2, 4] ((.seq (.reg false [
    { dst := some 115, op := .load (some 8) (.t 2) },
    { dst := none, op := .store 8 (.t 4) (.t 115) }])
  (.ret)))))))))))))))
/-- with its results -/
def a37 : AFun := ⟨c37, [(4, some (some 8))], 116⟩

/-- estreat/estreatref02.Text: parameters api.Digest -/
def c38 : AC :=
  (.seq (.reg false [
    { dst := some 1, op := .box 1 (.t 0) },
    { dst := some 2, op := .mov (.c (.str ⟨#[]⟩)) }])
  ((.seq (.reg false [
    { dst := some 3, op := .slca 32 (.t 1) none none },
    { dst := some 4, op := .b2s (.t 3) },
    { dst := some 2, op := .mov (.t 4) }])
  (.ret))))
/-- with its results -/
def a38 : AFun := ⟨c38, [(2, none)], 5⟩

def b39_0 : AC :=
  (.seq ((.seq (.reg false [
    { dst := some 6, op := .mov (.t 3) },
    { dst := some 7, op := .mov (.t 0) },
    { dst := some 8, op := .mov (.t 3) },
    { dst := some 9, op := .bin .sub (.t 7) (.t 8) },
    { dst := some 10, op := .bin .lss (.t 6) (.t 9) }])
  (.cond (.t 10) (.skip) (.exit 0))))
  (.keep [0, 3] [] (.block 1 (.reg false [
    { dst := some 11, op := .mov (.t 3) },
    { dst := some 12, op := .bin .mul (.c (.int .i64 2)) (.t 11) },
    { dst := some 3, op := .mov (.t 12) }]))))
/-- estreat/estreatref03.Split: parameters int -/
def c39 : AC :=
  (.seq (.reg false [
    { dst := some 2, op := .mov (.c (.int .i64 0)) }])
  ((.seq ((.seq (.reg false [
    { dst := some 4, op := .mov (.t 0) },
    { dst := some 5, op := .bin .lss (.t 4) (.c (.int .i64 2)) }])
  (.cond (.t 5) ((.seq (.reg false [
    { dst := some 2, op := .mov (.c (.int .i64 0)) }])
  (.ret))) (.skip))))
  ((.seq (.reg false [
    { dst := some 3, op := .mov (.c (.int .i64 1)) }])
  ((.seq (.block 0 (.loop [0, 3] [] b39_0))
  (.keep [3] [] ((.seq (.reg false [
    { dst := some 13, op := .mov (.t 3) },
    { dst := some 2, op := .mov (.t 13) }])
  (.ret)))))))))))
/-- with its results -/
def a39 : AFun := ⟨c39, [(2, none)], 14⟩

/-- math/bits.TrailingZeros32: parameters uint32 -/
def c40 : AC :=
  (.seq (.reg false [
    { dst := some 2, op := .mov (.c (.int .i64 0)) }])
  ((.seq ((.seq (.reg false [
    { dst := some 3, op := .mov (.t 0) },
    { dst := some 4, op := .bin .eql (.t 3) (.c (.int .u32 0)) }])
  (.cond (.t 4) ((.seq (.reg false [
    { dst := some 2, op := .mov (.c (.int .i64 32)) }])
  (.ret))) (.skip))))
  ((.seq (.reg false [
    { dst := some 5, op := .mov (.t 0) },
    { dst := some 6, op := .mov (.t 0) },
    { dst := some 7, op := .un .neg (.t 6) },
    { dst := some 8, op := .bin .and (.t 5) (.t 7) },
    { dst := some 9, op := .bin .mul (.t 8) (.c (.int .u32 125613361)) },
    { dst := some 10, op := .bin .shr (.t 9) (.c (.int .u64 27)) },
    { dst := some 11, op := .iada 32 1 (.g 1) (.t 10) },
    { dst := some 12, op := .load none (.t 11) },
    { dst := some 13, op := .conv .i64 (.t 12) },
    { dst := some 2, op := .mov (.t 13) }])
  (.ret))))))
/-- with its results -/
def a40 : AFun := ⟨c40, [(2, none)], 14⟩

/-- math/bits.TrailingZeros64: parameters uint64 -/
def c41 : AC :=
  (.seq (.reg false [
    { dst := some 2, op := .mov (.c (.int .i64 0)) }])
  ((.seq ((.seq (.reg false [
    { dst := some 3, op := .mov (.t 0) },
    { dst := some 4, op := .bin .eql (.t 3) (.c (.int .u64 0)) }])
  (.cond (.t 4) ((.seq (.reg false [
    { dst := some 2, op := .mov (.c (.int .i64 64)) }])
  (.ret))) (.skip))))
  ((.seq (.reg false [
    { dst := some 5, op := .mov (.t 0) },
    { dst := some 6, op := .mov (.t 0) },
    { dst := some 7, op := .un .neg (.t 6) },
    { dst := some 8, op := .bin .and (.t 5) (.t 7) },
    { dst := some 9, op := .bin .mul (.t 8) (.c (.int .u64 285870213051353865)) },
    { dst := some 10, op := .bin .shr (.t 9) (.c (.int .u64 58)) },
    { dst := some 11, op := .iada 64 1 (.g 2) (.t 10) },
    { dst := some 12, op := .load none (.t 11) },
    { dst := some 13, op := .conv .i64 (.t 12) },
    { dst := some 2, op := .mov (.t 13) }])
  (.ret))))))
/-- with its results -/
def a41 : AFun := ⟨c41, [(2, none)], 14⟩

/-- estreat/sha.begin: parameters  -/
def c42 : AC :=
  (.seq (.reg false [
    { dst := some 0, op := .alloc 0 z69 }])
  ((.seq (.reg false [
    { dst := some 1, op := .build z63 [(0, 1, (.c (.int .u32 1779033703))), (1, 1, (.c (.int .u32 3144134277))), (2, 1, (.c (.int .u32 1013904242))), (3, 1, (.c (.int .u32 2773480762))), (4, 1, (.c (.int .u32 1359893119))), (5, 1, (.c (.int .u32 2600822924))), (6, 1, (.c (.int .u32 528734635))), (7, 1, (.c (.int .u32 1541459225)))] },
    { dst := some 2, op := .build z69 [(0, 8, (.t 1))] },
    { dst := none, op := .store 10 (.t 0) (.t 2) }])
  (.ret))))
/-- with its results -/
def a42 : AFun := ⟨c42, [(0, some (some 10))], 3⟩

def b43_0 : AC :=
  (.seq ((.seq (.reg false [
    { dst := some 23, op := .mov (.t 0) },
    { dst := some 24, op := .nilck (.t 23) },
    { dst := some 25, op := .fad 8 (.t 24) },
    { dst := some 26, op := .load none (.t 25) },
    { dst := some 27, op := .len (.t 26) },
    { dst := some 28, op := .bin .geq (.t 27) (.c (.int .i64 64)) }])
  (.cond (.t 28) (.skip) (.exit 0))))
  (.keep [0] [20, 100000, 100009] (.block 1 ((.seq (.reg false [
    { dst := some 29, op := .mov (.t 0) },
    { dst := some 30, op := .mov (.t 0) },
    { dst := some 31, op := .nilck (.t 30) },
    { dst := some 32, op := .fad 8 (.t 31) },
    { dst := some 33, op := .load none (.t 32) },
    { dst := some 34, op := .slc 1 (.t 33) none (some (.c (.int .i64 64))) none },
    { dst := some 35, op := .inl 46 [(.t 29), (.t 34)] }])
  (.keep [0] [20, 100000, 100009] (.reg false [
    { dst := some 36, op := .mov (.t 0) },
    { dst := some 37, op := .mov (.t 0) },
    { dst := some 38, op := .nilck (.t 37) },
    { dst := some 39, op := .fad 8 (.t 38) },
    { dst := some 40, op := .load none (.t 39) },
    { dst := some 41, op := .slc 1 (.t 40) (some (.c (.int .i64 64))) none none },
    { dst := some 42, op := .nilck (.t 36) },
    { dst := some 43, op := .fad 8 (.t 42) },
    { dst := none, op := .store 1 (.t 43) (.t 41) }])))))))
/-- (*estreat/sha.state).take: parameters *sha.state string -/
def c43 : AC :=
  (.seq (.reg false [
    { dst := some 4, op := .mov (.t 0) },
    { dst := some 5, op := .nilck (.t 4) },
    { dst := some 6, op := .fad 9 (.t 5) },
    { dst := some 7, op := .load none (.t 6) },
    { dst := some 8, op := .mov (.t 1) },
    { dst := some 9, op := .lenS (.t 8) },
    { dst := some 10, op := .conv .u64 (.t 9) },
    { dst := some 11, op := .bin .add (.t 7) (.t 10) },
    { dst := some 12, op := .nilck (.t 4) },
    { dst := some 13, op := .fad 9 (.t 12) },
    { dst := none, op := .store 1 (.t 13) (.t 11) }])
  (.keep [0, 1] [20, 100000, 100009] ((.seq (.reg false [
    { dst := some 14, op := .mov (.t 0) },
    { dst := some 15, op := .mov (.t 0) },
    { dst := some 16, op := .nilck (.t 15) },
    { dst := some 17, op := .fad 8 (.t 16) },
    { dst := some 18, op := .load none (.t 17) },
    { dst := some 19, op := .mov (.t 1) },
    { dst := some 20, op := .app 20 1 1 (.t 18) (.t 19) },
    { dst := some 21, op := .nilck (.t 14) },
    { dst := some 22, op := .fad 8 (.t 21) },
    { dst := none, op := .store 1 (.t 22) (.t 20) }])
  (.keep [0] [20, 100000, 100009] (.block 0 (.loop [0] [20, 100000, 100009] b43_0)))))))
/-- with its results -/
def a43 : AFun := ⟨c43, [], 44⟩

def b44_0 : AC :=
  (.seq ((.seq (.reg false [
    { dst := some 32, op := .mov (.t 6) },
    { dst := some 33, op := .bin .lss (.t 32) (.c (.int .i64 64)) }])
  (.cond (.t 33) (.skip) (.exit 4))))
  ((.seq (.block 5 ((.seq (.reg false [
    { dst := some 36, op := .mov (.t 6) },
    { dst := some 37, op := .bin .sub (.t 36) (.c (.int .i64 15)) },
    { dst := some 38, op := .iada 64 1 (.t 3) (.t 37) },
    { dst := some 39, op := .load none (.t 38) },
    { dst := some 7, op := .mov (.t 39) }])
  (.keep [2, 3, 6, 7] [2, 3] ((.seq (.reg false [
    { dst := some 40, op := .mov (.t 6) },
    { dst := some 41, op := .bin .sub (.t 40) (.c (.int .i64 2)) },
    { dst := some 42, op := .iada 64 1 (.t 3) (.t 41) },
    { dst := some 43, op := .load none (.t 42) },
    { dst := some 8, op := .mov (.t 43) }])
  (.keep [2, 3, 6, 7, 8] [2, 3] (.reg true [
    { dst := some 44, op := .mov (.t 6), rs := [6] },
    { dst := some 45, op := .mov (.t 6), rs := [6] },
    { dst := some 46, op := .bin .sub (.t 45) (.c (.int .i64 16)), rs := [45], an := [1] },
    { dst := some 47, op := .iada 64 1 (.t 3) (.t 46), rs := [3, 46], tn := [3], an := [2] },
    { dst := some 48, op := .load none (.t 47), rs := [47], tn := [3], an := [3] },
    { dst := some 49, op := .mov (.t 6), rs := [6] },
    { dst := some 50, op := .bin .sub (.t 49) (.c (.int .i64 7)), rs := [49], an := [5] },
    { dst := some 51, op := .iada 64 1 (.t 3) (.t 50), rs := [3, 50], tn := [3], an := [6] },
    { dst := some 52, op := .load none (.t 51), rs := [51], tn := [3], an := [7] },
    { dst := some 53, op := .bin .add (.t 48) (.t 52), rs := [48, 52], an := [4, 8] },
    { dst := some 54, op := .mov (.t 7), rs := [7] },
    { dst := some 55, op := .call 56000 45 [(.t 54), (.c (.int .i64 7))], rs := [54], an := [10] },
    { dst := some 56, op := .mov (.t 7), rs := [7] },
    { dst := some 57, op := .call 58000 45 [(.t 56), (.c (.int .i64 18))], rs := [56], an := [12] },
    { dst := some 58, op := .bin .xor (.t 55) (.t 57), rs := [55, 57], an := [11, 13] },
    { dst := some 59, op := .mov (.t 7), rs := [7] },
    { dst := some 60, op := .bin .shr (.t 59) (.c (.int .u64 3)), rs := [59], an := [15] },
    { dst := some 61, op := .bin .xor (.t 58) (.t 60), rs := [58, 60], an := [14, 16] },
    { dst := some 62, op := .bin .add (.t 53) (.t 61), rs := [53, 61], an := [9, 17] },
    { dst := some 63, op := .mov (.t 8), rs := [8] },
    { dst := some 64, op := .call 65000 45 [(.t 63), (.c (.int .i64 17))], rs := [63], an := [19] },
    { dst := some 65, op := .mov (.t 8), rs := [8] },
    { dst := some 66, op := .call 67000 45 [(.t 65), (.c (.int .i64 19))], rs := [65], an := [21] },
    { dst := some 67, op := .bin .xor (.t 64) (.t 66), rs := [64, 66], an := [20, 22] },
    { dst := some 68, op := .mov (.t 8), rs := [8] },
    { dst := some 69, op := .bin .shr (.t 68) (.c (.int .u64 10)), rs := [68], an := [24] },
    { dst := some 70, op := .bin .xor (.t 67) (.t 69), rs := [67, 69], an := [23, 25] },
    { dst := some 71, op := .bin .add (.t 62) (.t 70), rs := [62, 70], an := [18, 26] },
    { dst := some 72, op := .iada 64 1 (.t 3) (.t 44), rs := [3, 44], tn := [3], an := [0] },
    { dst := none, op := .store 1 (.t 72) (.t 71), rs := [71, 72], tn := [3], wn := [3], an := [3, 4, 7, 8, 27, 28] }]))))))))
  (.keep [2, 3, 6] [2, 3] (.reg false [
    { dst := some 34, op := .mov (.t 6) },
    { dst := some 35, op := .bin .add (.t 34) (.c (.int .i64 1)) },
    { dst := some 6, op := .mov (.t 35) }])))))
def b44_1 : AC :=
  (.seq ((.seq (.reg false [
    { dst := some 13, op := .mov (.t 5) },
    { dst := some 14, op := .bin .lss (.t 13) (.c (.int .i64 4)) }])
  (.cond (.t 14) (.skip) (.exit 2))))
  ((.seq (.block 3 (.reg true [
    { dst := some 17, op := .mov (.t 4), rs := [4] },
    { dst := some 18, op := .mov (.t 4), rs := [4] },
    { dst := some 19, op := .iada 64 1 (.t 3) (.t 18), rs := [3, 18], tn := [3], an := [1] },
    { dst := some 20, op := .load none (.t 19), rs := [19], tn := [3], an := [2] },
    { dst := some 21, op := .bin .mul (.t 20) (.c (.int .u32 256)), rs := [20], an := [3] },
    { dst := some 22, op := .mov (.t 0), rs := [0], mn := [100000] },
    { dst := some 23, op := .mov (.t 4), rs := [4] },
    { dst := some 24, op := .bin .mul (.c (.int .i64 4)) (.t 23), rs := [23], an := [6] },
    { dst := some 25, op := .mov (.t 5), rs := [5] },
    { dst := some 26, op := .bin .add (.t 24) (.t 25), rs := [24, 25], an := [7, 8] },
    { dst := some 27, op := .iad 1 (.t 22) (.t 26), rs := [22, 26], tn := [100000], an := [5, 9] },
    { dst := some 28, op := .load none (.t 27), rs := [27], tn := [100000], an := [10] },
    { dst := some 29, op := .conv .u32 (.t 28), rs := [28], an := [11] },
    { dst := some 30, op := .bin .add (.t 21) (.t 29), rs := [21, 29], an := [4, 12] },
    { dst := some 31, op := .iada 64 1 (.t 3) (.t 17), rs := [3, 17], tn := [3], an := [0] },
    { dst := none, op := .store 1 (.t 31) (.t 30), rs := [30, 31], tn := [3], wn := [3], an := [2, 3, 13, 14] }]))
  (.keep [0, 2, 3, 4, 5] [2, 3, 100000] (.reg false [
    { dst := some 15, op := .mov (.t 5) },
    { dst := some 16, op := .bin .add (.t 15) (.c (.int .i64 1)) },
    { dst := some 5, op := .mov (.t 16) }])))))
def b44_2 : AC :=
  (.seq ((.seq (.reg false [
    { dst := some 9, op := .mov (.t 4) },
    { dst := some 10, op := .bin .lss (.t 9) (.c (.int .i64 16)) }])
  (.cond (.t 10) (.skip) (.exit 0))))
  ((.seq (.block 1 ((.seq (.reg false [
    { dst := some 5, op := .mov (.c (.int .i64 0)) }])
  (.block 2 (.loop [0, 2, 3, 4, 5] [2, 3, 100000] b44_1)))))
  (.keep [0, 2, 3, 4] [2, 3, 100000] (.reg false [
    { dst := some 11, op := .mov (.t 4) },
    { dst := some 12, op := .bin .add (.t 11) (.c (.int .i64 1)) },
    { dst := some 4, op := .mov (.t 12) }])))))
/-- estreat/estreatref02.words: parameters []uint8 -/
def c44 : AC :=
  (.seq (.reg false [
    { dst := some 2, op := .alloc 2 z72 }])
  ((.seq (.reg false [
    { dst := some 3, op := .alloc 3 z72 }])
  ((.seq ((.seq (.reg false [
    { dst := some 4, op := .mov (.c (.int .i64 0)) }])
  (.block 0 (.loop [0, 2, 3, 4] [2, 3, 100000] b44_2))))
  (.keep [2, 3] [2, 3] ((.seq ((.seq (.reg false [
    { dst := some 6, op := .mov (.c (.int .i64 16)) }])
  (.block 4 (.loop [2, 3, 6] [2, 3] b44_0))))
  (.keep [2, 3] [2, 3] ((.seq (.reg false [
    { dst := some 73, op := .load (some 64) (.t 3) },
    { dst := none, op := .store 64 (.t 2) (.t 73) }])
  (.ret))))))))))))
/-- with its results -/
def a44 : AFun := ⟨c44, [(2, some (some 64))], 74⟩

/-- estreat/estreatref02.turn: parameters uint32 int -/
def c45 : AC :=
  (.seq (.reg false [
    { dst := some 4, op := .mov (.c (.int .u32 0)) }])
  ((.seq (.reg true [
    { dst := some 5, op := .mov (.t 0), rs := [0] },
    { dst := some 6, op := .mov (.t 1), rs := [1] },
    { dst := some 7, op := .bin .shr (.t 5) (.t 6), rs := [5, 6], an := [0, 1] },
    { dst := some 8, op := .mov (.t 0), rs := [0] },
    { dst := some 9, op := .mov (.t 1), rs := [1] },
    { dst := some 10, op := .bin .sub (.c (.int .i64 32)) (.t 9), rs := [9], an := [4] },
    { dst := some 11, op := .bin .shl (.t 8) (.t 10), rs := [8, 10], an := [3, 5] },
    { dst := some 12, op := .bin .or (.t 7) (.t 11), rs := [7, 11], an := [2, 6] },
    { dst := some 4, op := .mov (.t 12), rs := [12], an := [7] }])
  (.ret))))
/-- with its results -/
def a45 : AFun := ⟨c45, [(4, none)], 13⟩

def b46_0 : AC :=
  (.seq (.reg false [
    { dst := some 141, op := .bin .lss (.t 140) (.c (.int .i64 8)) }])
  ((.seq (.cond (.t 141) (.skip) (.exit 4))
  ((.seq (.block 5 ((.seq (.reg false [
    { dst := some 142, op := .mov (.t 140) },
    { dst := some 143, op := .idx 8 1 none (.t 139) (.t 140) },
    { dst := some 16, op := .mov (.t 142) },
    { dst := some 17, op := .mov (.t 143) }])
  (.keep [0, 16, 17, 139, 140] [100000, 100009] (.reg true [
    { dst := some 144, op := .mov (.t 0), rs := [0], mn := [100000] },
    { dst := some 145, op := .mov (.t 16), rs := [16] },
    { dst := some 146, op := .nilck (.t 144), rs := [144], an := [0], mn := [100000] },
    { dst := some 147, op := .fad 0 (.t 146), rs := [146], an := [2], mn := [100000] },
    { dst := some 148, op := .iada 8 1 (.t 147) (.t 145), rs := [145, 147], tn := [100000], an := [1, 3] },
    { dst := some 149, op := .load none (.t 148), rs := [148], tn := [100000], an := [4] },
    { dst := some 150, op := .mov (.t 17), rs := [17] },
    { dst := some 151, op := .bin .add (.t 149) (.t 150), rs := [149, 150], an := [5, 6] },
    { dst := some 152, op := .nilck (.t 144), rs := [144], an := [0], mn := [100000] },
    { dst := some 153, op := .fad 0 (.t 152), rs := [152], an := [8], mn := [100000] },
    { dst := some 154, op := .iada 8 1 (.t 153) (.t 145), rs := [145, 153], tn := [100000], an := [1, 9] },
    { dst := none, op := .store 1 (.t 154) (.t 151), rs := [151, 154], tn := [100000, 100009], wn := [100000], an := [4, 5, 7, 10] }])))))
  (.keep [0, 139, 140] [100000, 100009] (.reg false [
    { dst := some 155, op := .bin .add (.t 140) (.c (.int .i64 1)) },
    { dst := some 140, op := .mov (.t 155) }])))))))
def b46_1 : AC :=
  (.seq (.reg false [
    { dst := some 43, op := .bin .lss (.t 42) (.c (.int .i64 64)) }])
  ((.seq (.cond (.t 43) (.skip) (.exit 2))
  ((.seq (.block 3 ((.seq (.reg false [
    { dst := some 44, op := .mov (.t 42) },
    { dst := some 45, op := .idx 64 1 none (.t 41) (.t 42) },
    { dst := some 8, op := .mov (.t 44) },
    { dst := some 9, op := .mov (.t 45) }])
  (.keep [0, 4, 7, 8, 9, 41, 42] [4, 7, 100000, 100009] ((.seq (.reg true [
    { dst := some 46, op := .iada 8 1 (.t 7) (.c (.int .i64 4)), rs := [7], tn := [7] },
    { dst := some 47, op := .load none (.t 46), rs := [46], tn := [7], an := [0] },
    { dst := some 48, op := .iada 8 1 (.t 7) (.c (.int .i64 0)), rs := [7], tn := [7] },
    { dst := some 49, op := .load none (.t 48), rs := [48], tn := [7], an := [2] },
    { dst := some 10, op := .mov (.t 47), rs := [47], an := [1] },
    { dst := some 11, op := .mov (.t 49), rs := [49], an := [3] }])
  (.keep [0, 4, 7, 8, 9, 10, 11, 41, 42] [4, 7, 100000, 100009] ((.seq (.reg true [
    { dst := some 50, op := .iada 8 1 (.t 7) (.c (.int .i64 7)), rs := [7], tn := [7] },
    { dst := some 51, op := .load none (.t 50), rs := [50], tn := [7], an := [0] },
    { dst := some 52, op := .mov (.t 10), rs := [10] },
    { dst := some 53, op := .mov (.t 10), rs := [10] },
    { dst := some 54, op := .call 55000 48 [(.t 53), (.c (.int .i64 (-25)))], rs := [53], an := [3] },
    { dst := some 55, op := .call 56000 47 [(.t 52), (.c (.int .i64 6)), (.c (.int .i64 11)), (.t 54)], rs := [52, 54], an := [2, 4] },
    { dst := some 56, op := .bin .add (.t 51) (.t 55), rs := [51, 55], an := [1, 5] },
    { dst := some 57, op := .iada 8 1 (.t 7) (.c (.int .i64 6)), rs := [7], tn := [7] },
    { dst := some 58, op := .load none (.t 57), rs := [57], tn := [7], an := [7] },
    { dst := some 59, op := .mov (.t 10), rs := [10] },
    { dst := some 60, op := .iada 8 1 (.t 7) (.c (.int .i64 5)), rs := [7], tn := [7] },
    { dst := some 61, op := .load none (.t 60), rs := [60], tn := [7], an := [10] },
    { dst := some 62, op := .iada 8 1 (.t 7) (.c (.int .i64 6)), rs := [7], tn := [7] },
    { dst := some 63, op := .load none (.t 62), rs := [62], tn := [7], an := [12] },
    { dst := some 64, op := .bin .xor (.t 61) (.t 63), rs := [61, 63], an := [11, 13] },
    { dst := some 65, op := .bin .and (.t 59) (.t 64), rs := [59, 64], an := [9, 14] },
    { dst := some 66, op := .bin .xor (.t 58) (.t 65), rs := [58, 65], an := [8, 15] },
    { dst := some 67, op := .bin .add (.t 56) (.t 66), rs := [56, 66], an := [6, 16] },
    { dst := some 68, op := .mov (.t 9), rs := [9] },
    { dst := some 69, op := .bin .add (.t 67) (.t 68), rs := [67, 68], an := [17, 18] },
    { dst := some 70, op := .mov (.t 8), rs := [8] },
    { dst := some 71, op := .bin .rem (.t 70) (.c (.int .i64 16)), rs := [70], an := [20] },
    { dst := some 72, op := .iada 16 1 (.t 4) (.t 71), rs := [4, 71], tn := [4], an := [21] },
    { dst := some 73, op := .load none (.t 72), rs := [72], tn := [4], an := [22] },
    { dst := some 74, op := .bin .add (.t 69) (.t 73), rs := [69, 73], an := [19, 23] },
    { dst := some 12, op := .mov (.t 74), rs := [74], an := [24] }])
  (.keep [0, 4, 7, 8, 11, 12, 41, 42] [4, 7, 100000, 100009] ((.seq (.reg true [
    { dst := some 75, op := .mov (.t 11), rs := [11] },
    { dst := some 76, op := .mov (.t 11), rs := [11] },
    { dst := some 77, op := .call 78000 48 [(.t 76), (.c (.int .i64 (-22)))], rs := [76], an := [1] },
    { dst := some 78, op := .call 79000 47 [(.t 75), (.c (.int .i64 2)), (.c (.int .i64 13)), (.t 77)], rs := [75, 77], an := [0, 2] },
    { dst := some 79, op := .mov (.t 11), rs := [11] },
    { dst := some 80, op := .iada 8 1 (.t 7) (.c (.int .i64 1)), rs := [7], tn := [7] },
    { dst := some 81, op := .load none (.t 80), rs := [80], tn := [7], an := [5] },
    { dst := some 82, op := .bin .and (.t 79) (.t 81), rs := [79, 81], an := [4, 6] },
    { dst := some 83, op := .mov (.t 11), rs := [11] },
    { dst := some 84, op := .iada 8 1 (.t 7) (.c (.int .i64 2)), rs := [7], tn := [7] },
    { dst := some 85, op := .load none (.t 84), rs := [84], tn := [7], an := [9] },
    { dst := some 86, op := .bin .and (.t 83) (.t 85), rs := [83, 85], an := [8, 10] },
    { dst := some 87, op := .bin .xor (.t 82) (.t 86), rs := [82, 86], an := [7, 11] },
    { dst := some 88, op := .iada 8 1 (.t 7) (.c (.int .i64 1)), rs := [7], tn := [7] },
    { dst := some 89, op := .load none (.t 88), rs := [88], tn := [7], an := [13] },
    { dst := some 90, op := .iada 8 1 (.t 7) (.c (.int .i64 2)), rs := [7], tn := [7] },
    { dst := some 91, op := .load none (.t 90), rs := [90], tn := [7], an := [15] },
    { dst := some 92, op := .bin .and (.t 89) (.t 91), rs := [89, 91], an := [14, 16] },
    { dst := some 93, op := .bin .xor (.t 87) (.t 92), rs := [87, 92], an := [12, 17] },
    { dst := some 94, op := .bin .add (.t 78) (.t 93), rs := [78, 93], an := [3, 18] },
    { dst := some 13, op := .mov (.t 94), rs := [94], an := [19] }])
  (.keep [0, 4, 7, 8, 12, 13, 41, 42] [4, 7, 100000, 100009] ((.seq (.reg true [
    { dst := some 95, op := .slca 8 (.t 7) (some (.c (.int .i64 1))) none, rs := [7], tn := [7] },
    { dst := some 96, op := .slca 8 (.t 7) none (some (.c (.int .i64 7))), rs := [7], tn := [7] },
    { dst := some 97, op := .cpy 1 (.t 95) (.t 96), rs := [95, 96], tn := [7], wn := [7], an := [0, 1] }])
  ((.seq (.reg false [
    { dst := some 98, op := .mov (.t 12) },
    { dst := some 99, op := .mov (.t 13) },
    { dst := some 100, op := .bin .add (.t 98) (.t 99) },
    { dst := some 101, op := .iada 8 1 (.t 7) (.c (.int .i64 0)) },
    { dst := none, op := .store 1 (.t 101) (.t 100) }])
  (.keep [0, 4, 7, 8, 12, 41, 42] [4, 7, 100000, 100009] ((.seq (.reg false [
    { dst := some 102, op := .iada 8 1 (.t 7) (.c (.int .i64 4)) },
    { dst := some 103, op := .load none (.t 102) },
    { dst := some 104, op := .mov (.t 12) },
    { dst := some 105, op := .bin .add (.t 103) (.t 104) },
    { dst := some 106, op := .iada 8 1 (.t 7) (.c (.int .i64 4)) },
    { dst := none, op := .store 1 (.t 106) (.t 105) }])
  (.keep [0, 4, 7, 8, 41, 42] [4, 7, 100000, 100009] ((.seq (.reg true [
    { dst := some 107, op := .mov (.t 8), rs := [8] },
    { dst := some 108, op := .bin .add (.t 107) (.c (.int .i64 1)), rs := [107], an := [0] },
    { dst := some 109, op := .bin .rem (.t 108) (.c (.int .i64 16)), rs := [108], an := [1] },
    { dst := some 110, op := .iada 16 1 (.t 4) (.t 109), rs := [4, 109], tn := [4], an := [2] },
    { dst := some 111, op := .load none (.t 110), rs := [110], tn := [4], an := [3] },
    { dst := some 112, op := .mov (.t 8), rs := [8] },
    { dst := some 113, op := .bin .add (.t 112) (.c (.int .i64 14)), rs := [112], an := [5] },
    { dst := some 114, op := .bin .rem (.t 113) (.c (.int .i64 16)), rs := [113], an := [6] },
    { dst := some 115, op := .iada 16 1 (.t 4) (.t 114), rs := [4, 114], tn := [4], an := [7] },
    { dst := some 116, op := .load none (.t 115), rs := [115], tn := [4], an := [8] },
    { dst := some 14, op := .mov (.t 111), rs := [111], an := [4] },
    { dst := some 15, op := .mov (.t 116), rs := [116], an := [9] }])
  (.keep [0, 4, 7, 8, 14, 15, 41, 42] [4, 7, 100000, 100009] (.reg true [
    { dst := some 117, op := .mov (.t 8), rs := [8] },
    { dst := some 118, op := .bin .rem (.t 117) (.c (.int .i64 16)), rs := [117], an := [0] },
    { dst := some 119, op := .iada 16 1 (.t 4) (.t 118), rs := [4, 118], tn := [4], an := [1] },
    { dst := some 120, op := .load none (.t 119), rs := [119], tn := [4], an := [2] },
    { dst := some 121, op := .mov (.t 8), rs := [8] },
    { dst := some 122, op := .bin .add (.t 121) (.c (.int .i64 9)), rs := [121], an := [4] },
    { dst := some 123, op := .bin .rem (.t 122) (.c (.int .i64 16)), rs := [122], an := [5] },
    { dst := some 124, op := .iada 16 1 (.t 4) (.t 123), rs := [4, 123], tn := [4], an := [6] },
    { dst := some 125, op := .load none (.t 124), rs := [124], tn := [4], an := [7] },
    { dst := some 126, op := .mov (.t 14), rs := [14] },
    { dst := some 127, op := .mov (.t 14), rs := [14] },
    { dst := some 128, op := .bin .shr (.t 127) (.c (.int .u64 3)), rs := [127], an := [10] },
    { dst := some 129, op := .call 130000 47 [(.t 126), (.c (.int .i64 7)), (.c (.int .i64 18)), (.t 128)], rs := [126, 128], an := [9, 11] },
    { dst := some 130, op := .bin .add (.t 125) (.t 129), rs := [125, 129], an := [8, 12] },
    { dst := some 131, op := .mov (.t 15), rs := [15] },
    { dst := some 132, op := .mov (.t 15), rs := [15] },
    { dst := some 133, op := .bin .shr (.t 132) (.c (.int .u64 10)), rs := [132], an := [15] },
    { dst := some 134, op := .call 135000 47 [(.t 131), (.c (.int .i64 17)), (.c (.int .i64 19)), (.t 133)], rs := [131, 133], an := [14, 16] },
    { dst := some 135, op := .bin .add (.t 130) (.t 134), rs := [130, 134], an := [13, 17] },
    { dst := some 136, op := .bin .add (.t 120) (.t 135), rs := [120, 135], an := [3, 18] },
    { dst := some 137, op := .iada 16 1 (.t 4) (.t 118), rs := [4, 118], tn := [4], an := [1] },
    { dst := none, op := .store 1 (.t 137) (.t 136), rs := [136, 137], tn := [4], wn := [4], an := [2, 3, 7, 8, 19, 20] }])))))))))))))))))))))))))
  (.keep [0, 4, 7, 41, 42] [4, 7, 100000, 100009] (.reg false [
    { dst := some 138, op := .bin .add (.t 42) (.c (.int .i64 1)) },
    { dst := some 42, op := .mov (.t 138) }])))))))
def b46_2 : AC :=
  (.seq (.reg false [
    { dst := some 21, op := .bin .lss (.t 20) (.t 19) }])
  ((.seq (.cond (.t 21) (.skip) (.exit 0))
  ((.seq (.block 1 ((.seq (.reg false [
    { dst := some 22, op := .mov (.t 20) },
    { dst := some 23, op := .iad 1 (.t 18) (.t 20) },
    { dst := some 24, op := .load none (.t 23) },
    { dst := some 5, op := .mov (.t 22) },
    { dst := some 6, op := .mov (.t 24) }])
  (.keep [0, 4, 5, 6, 18, 19, 20] [4, 100000, 100009, 100200] (.reg false [
    { dst := some 25, op := .mov (.t 5) },
    { dst := some 26, op := .bin .quo (.t 25) (.c (.int .i64 4)) },
    { dst := some 27, op := .mov (.t 5) },
    { dst := some 28, op := .bin .quo (.t 27) (.c (.int .i64 4)) },
    { dst := some 29, op := .iada 16 1 (.t 4) (.t 28) },
    { dst := some 30, op := .load none (.t 29) },
    { dst := some 31, op := .bin .shl (.t 30) (.c (.int .u64 8)) },
    { dst := some 32, op := .mov (.t 6) },
    { dst := some 33, op := .conv .u32 (.t 32) },
    { dst := some 34, op := .bin .or (.t 31) (.t 33) },
    { dst := some 35, op := .iada 16 1 (.t 4) (.t 26) },
    { dst := none, op := .store 1 (.t 35) (.t 34) }])))))
  (.keep [0, 4, 18, 19, 20] [4, 100000, 100009, 100200] (.reg false [
    { dst := some 36, op := .bin .add (.t 20) (.c (.int .i64 1)) },
    { dst := some 20, op := .mov (.t 36) }])))))))
/-- (*estreat/sha.state).round: parameters *sha.state []uint8 -/
def c46 : AC :=
  (.seq (.reg false [
    { dst := some 4, op := .alloc 4 z78 }])
  ((.seq ((.seq (.reg false [
    { dst := some 18, op := .mov (.t 1) },
    { dst := some 19, op := .len (.t 18) },
    { dst := some 20, op := .mov (.c (.int .i64 0)) }])
  (.block 0 (.loop [0, 4, 18, 19, 20] [4, 100000, 100009, 100200] b46_2))))
  (.keep [0, 4] [4, 100000, 100009] ((.seq (.reg false [
    { dst := some 37, op := .mov (.t 0) },
    { dst := some 38, op := .nilck (.t 37) },
    { dst := some 39, op := .fad 0 (.t 38) },
    { dst := some 40, op := .load (some 8) (.t 39) },
    { dst := some 7, op := .alloc 7 z63 },
    { dst := none, op := .store 8 (.t 7) (.t 40) }])
  (.keep [0, 4, 7] [4, 7, 100000, 100009] ((.seq ((.seq (.reg false [
    { dst := some 41, op := .load (some 64) (.g 3) },
    { dst := some 42, op := .mov (.c (.int .i64 0)) }])
  (.block 2 (.loop [0, 4, 7, 41, 42] [4, 7, 100000, 100009] b46_1))))
  (.keep [0, 7] [7, 100000, 100009] ((.seq (.reg false [
    { dst := some 139, op := .load (some 8) (.t 7) },
    { dst := some 140, op := .mov (.c (.int .i64 0)) }])
  (.block 4 (.loop [0, 139, 140] [100000, 100009] b46_0))))))))))))))
/-- with its results -/
def a46 : AFun := ⟨c46, [], 156⟩

/-- estreat/sha.three: parameters uint32 int int uint32 -/
def c47 : AC :=
  (.seq (.reg false [
    { dst := some 8, op := .mov (.c (.int .u32 0)) }])
  ((.seq (.reg false [
    { dst := some 9, op := .mov (.t 0) },
    { dst := some 10, op := .mov (.t 1) },
    { dst := some 11, op := .un .neg (.t 10) },
    { dst := some 12, op := .call 13000 48 [(.t 9), (.t 11)] },
    { dst := some 13, op := .mov (.t 0) },
    { dst := some 14, op := .mov (.t 2) },
    { dst := some 15, op := .un .neg (.t 14) },
    { dst := some 16, op := .call 17000 48 [(.t 13), (.t 15)] },
    { dst := some 17, op := .bin .xor (.t 12) (.t 16) },
    { dst := some 18, op := .mov (.t 3) },
    { dst := some 19, op := .bin .xor (.t 17) (.t 18) },
    { dst := some 8, op := .mov (.t 19) }])
  (.ret))))
/-- with its results -/
def a47 : AFun := ⟨c47, [(8, none)], 20⟩

/-- math/bits.RotateLeft32: parameters uint32 int -/
def c48 : AC :=
  (.seq (.reg false [
    { dst := some 4, op := .mov (.c (.int .u32 0)) }])
  ((.seq (.reg false [
    { dst := some 6, op := .mov (.t 1) },
    { dst := some 7, op := .conv .u64 (.t 6) },
    { dst := some 8, op := .bin .and (.t 7) (.c (.int .u64 31)) },
    { dst := some 5, op := .mov (.t 8) }])
  (.keep [0, 5] [] ((.seq (.reg false [
    { dst := some 9, op := .mov (.t 0) },
    { dst := some 10, op := .mov (.t 5) },
    { dst := some 11, op := .bin .shl (.t 9) (.t 10) },
    { dst := some 12, op := .mov (.t 0) },
    { dst := some 13, op := .mov (.t 5) },
    { dst := some 14, op := .bin .sub (.c (.int .u64 32)) (.t 13) },
    { dst := some 15, op := .bin .shr (.t 12) (.t 14) },
    { dst := some 16, op := .bin .or (.t 11) (.t 15) },
    { dst := some 4, op := .mov (.t 16) }])
  (.ret)))))))
/-- with its results -/
def a48 : AFun := ⟨c48, [(4, none)], 17⟩

/-- slices.Backward[[]estreat/api.Digest,estreat/api.Digest]: parameters []api.Digest -/
def c22i : AC :=
  (.seq (.reg false [
    { dst := some 1, op := .box 3220001 (.t 0) },
    { dst := some 2, op := .mov (.c .nilF) }])
  ((.seq (.reg false [
    { dst := some 3, op := .mkf 35 [(.t 1)] },
    { dst := some 2, op := .mov (.t 3) }])
  (.ret))))
/-- with its results -/
def a22i : AFun := ⟨c22i, [(2, none)], 4⟩

def kh35i_0 : List Nat := [1, 2, 5, 7, 20, 100000, 100001, 100009, 2900000, 3220001]
def b35i_0 : AC :=
  (.seq ((.seq (.reg false [
    { dst := some 7, op := .mov (.t 3) },
    { dst := some 8, op := .bin .geq (.t 7) (.c (.int .i64 0)) }])
  (.cond (.t 8) (.skip) (.exit 0))))
  ((.seq (.block 1 ((.seq (.reg false [
    { dst := some 11, op := .mov (.t 0) },
    { dst := some 12, op := .mov (.t 3) },
    { dst := some 13, op := .load none (.t 1) },
    { dst := some 14, op := .mov (.t 3) },
    { dst := some 15, op := .iad 32 (.t 13) (.t 14) },
    { dst := some 16, op := .load (some 32) (.t 15) },
    { dst := some 17, op := .callv 3350018000 (.t 11) [(.t 12), (.t 16)] },
    { dst := some 18, op := .un .not (.t 17) }])
  (.cond (.t 18) (.ret) (.skip)))))
  (.keep [0, 1, 3] kh35i_0 (.reg false [
    { dst := some 9, op := .mov (.t 3) },
    { dst := some 10, op := .bin .sub (.t 9) (.c (.int .i64 1)) },
    { dst := some 3, op := .mov (.t 10) }])))))
/-- slices.Backward[[]estreat/api.Digest,estreat/api.Digest]$1: parameters func(int, api.Digest) bool -/
def c35i : AC :=
  (.seq (.reg false [
    { dst := some 4, op := .load none (.t 1) },
    { dst := some 5, op := .len (.t 4) },
    { dst := some 6, op := .bin .sub (.t 5) (.c (.int .i64 1)) },
    { dst := some 3, op := .mov (.t 6) }])
  (.keep [0, 1, 3] kh35i_0 (.block 0 (.loop [0, 1, 3] kh35i_0 b35i_0))))
/-- with its results -/
def a35i : AFun := ⟨c35i, [], 19⟩

def b46i_0 : AC :=
  (.seq (.reg false [
    { dst := some 141, op := .bin .lss (.t 140) (.c (.int .i64 8)) }])
  ((.seq (.cond (.t 141) (.skip) (.exit 4))
  ((.seq (.block 5 ((.seq (.reg false [
    { dst := some 142, op := .mov (.t 140) },
    { dst := some 143, op := .idx 8 1 none (.t 139) (.t 140) },
    { dst := some 16, op := .mov (.t 142) },
    { dst := some 17, op := .mov (.t 143) }])
  (.keep [0, 16, 17, 139, 140] [20, 100000, 100009] (.reg true [
    { dst := some 144, op := .mov (.t 0), rs := [0], mn := [100000] },
    { dst := some 145, op := .mov (.t 16), rs := [16] },
    { dst := some 146, op := .nilck (.t 144), rs := [144], an := [0], mn := [100000] },
    { dst := some 147, op := .fad 0 (.t 146), rs := [146], an := [2], mn := [100000] },
    { dst := some 148, op := .iada 8 1 (.t 147) (.t 145), rs := [145, 147], tn := [100000], an := [1, 3] },
    { dst := some 149, op := .load none (.t 148), rs := [148], tn := [100000], an := [4] },
    { dst := some 150, op := .mov (.t 17), rs := [17] },
    { dst := some 151, op := .bin .add (.t 149) (.t 150), rs := [149, 150], an := [5, 6] },
    { dst := some 152, op := .nilck (.t 144), rs := [144], an := [0], mn := [100000] },
    { dst := some 153, op := .fad 0 (.t 152), rs := [152], an := [8], mn := [100000] },
    { dst := some 154, op := .iada 8 1 (.t 153) (.t 145), rs := [145, 153], tn := [100000], an := [1, 9] },
    { dst := none, op := .store 1 (.t 154) (.t 151), rs := [151, 154], tn := [20, 100000, 100009], wn := [100000], an := [4, 5, 7, 10] }])))))
  (.keep [0, 139, 140] [20, 100000, 100009] (.reg false [
    { dst := some 155, op := .bin .add (.t 140) (.c (.int .i64 1)) },
    { dst := some 140, op := .mov (.t 155) }])))))))
def b46i_1 : AC :=
  (.seq (.reg false [
    { dst := some 43, op := .bin .lss (.t 42) (.c (.int .i64 64)) }])
  ((.seq (.cond (.t 43) (.skip) (.exit 2))
  ((.seq (.block 3 ((.seq (.reg false [
    { dst := some 44, op := .mov (.t 42) },
    { dst := some 45, op := .idx 64 1 none (.t 41) (.t 42) },
    { dst := some 8, op := .mov (.t 44) },
    { dst := some 9, op := .mov (.t 45) }])
  (.keep [0, 4, 7, 8, 9, 41, 42] [20, 100000, 100009, 3460004, 3460007] ((.seq (.reg true [
    { dst := some 46, op := .iada 8 1 (.t 7) (.c (.int .i64 4)), rs := [7], tn := [3460007] },
    { dst := some 47, op := .load none (.t 46), rs := [46], tn := [3460007], an := [0] },
    { dst := some 48, op := .iada 8 1 (.t 7) (.c (.int .i64 0)), rs := [7], tn := [3460007] },
    { dst := some 49, op := .load none (.t 48), rs := [48], tn := [3460007], an := [2] },
    { dst := some 10, op := .mov (.t 47), rs := [47], an := [1] },
    { dst := some 11, op := .mov (.t 49), rs := [49], an := [3] }])
  (.keep [0, 4, 7, 8, 9, 10, 11, 41, 42] [20, 100000, 100009, 3460004, 3460007] ((.seq (.reg true [
    { dst := some 50, op := .iada 8 1 (.t 7) (.c (.int .i64 7)), rs := [7], tn := [3460007] },
    { dst := some 51, op := .load none (.t 50), rs := [50], tn := [3460007], an := [0] },
    { dst := some 52, op := .mov (.t 10), rs := [10] },
    { dst := some 53, op := .mov (.t 10), rs := [10] },
    { dst := some 54, op := .call 3460055000 48 [(.t 53), (.c (.int .i64 (-25)))], rs := [53], an := [3] },
    { dst := some 55, op := .call 3460056000 47 [(.t 52), (.c (.int .i64 6)), (.c (.int .i64 11)), (.t 54)], rs := [52, 54], an := [2, 4] },
    { dst := some 56, op := .bin .add (.t 51) (.t 55), rs := [51, 55], an := [1, 5] },
    { dst := some 57, op := .iada 8 1 (.t 7) (.c (.int .i64 6)), rs := [7], tn := [3460007] },
    { dst := some 58, op := .load none (.t 57), rs := [57], tn := [3460007], an := [7] },
    { dst := some 59, op := .mov (.t 10), rs := [10] },
    { dst := some 60, op := .iada 8 1 (.t 7) (.c (.int .i64 5)), rs := [7], tn := [3460007] },
    { dst := some 61, op := .load none (.t 60), rs := [60], tn := [3460007], an := [10] },
    { dst := some 62, op := .iada 8 1 (.t 7) (.c (.int .i64 6)), rs := [7], tn := [3460007] },
    { dst := some 63, op := .load none (.t 62), rs := [62], tn := [3460007], an := [12] },
    { dst := some 64, op := .bin .xor (.t 61) (.t 63), rs := [61, 63], an := [11, 13] },
    { dst := some 65, op := .bin .and (.t 59) (.t 64), rs := [59, 64], an := [9, 14] },
    { dst := some 66, op := .bin .xor (.t 58) (.t 65), rs := [58, 65], an := [8, 15] },
    { dst := some 67, op := .bin .add (.t 56) (.t 66), rs := [56, 66], an := [6, 16] },
    { dst := some 68, op := .mov (.t 9), rs := [9] },
    { dst := some 69, op := .bin .add (.t 67) (.t 68), rs := [67, 68], an := [17, 18] },
    { dst := some 70, op := .mov (.t 8), rs := [8] },
    { dst := some 71, op := .bin .rem (.t 70) (.c (.int .i64 16)), rs := [70], an := [20] },
    { dst := some 72, op := .iada 16 1 (.t 4) (.t 71), rs := [4, 71], tn := [3460004], an := [21] },
    { dst := some 73, op := .load none (.t 72), rs := [72], tn := [3460004], an := [22] },
    { dst := some 74, op := .bin .add (.t 69) (.t 73), rs := [69, 73], an := [19, 23] },
    { dst := some 12, op := .mov (.t 74), rs := [74], an := [24] }])
  (.keep [0, 4, 7, 8, 11, 12, 41, 42] [20, 100000, 100009, 3460004, 3460007] ((.seq (.reg true [
    { dst := some 75, op := .mov (.t 11), rs := [11] },
    { dst := some 76, op := .mov (.t 11), rs := [11] },
    { dst := some 77, op := .call 3460078000 48 [(.t 76), (.c (.int .i64 (-22)))], rs := [76], an := [1] },
    { dst := some 78, op := .call 3460079000 47 [(.t 75), (.c (.int .i64 2)), (.c (.int .i64 13)), (.t 77)], rs := [75, 77], an := [0, 2] },
    { dst := some 79, op := .mov (.t 11), rs := [11] },
    { dst := some 80, op := .iada 8 1 (.t 7) (.c (.int .i64 1)), rs := [7], tn := [3460007] },
    { dst := some 81, op := .load none (.t 80), rs := [80], tn := [3460007], an := [5] },
    { dst := some 82, op := .bin .and (.t 79) (.t 81), rs := [79, 81], an := [4, 6] },
    { dst := some 83, op := .mov (.t 11), rs := [11] },
    { dst := some 84, op := .iada 8 1 (.t 7) (.c (.int .i64 2)), rs := [7], tn := [3460007] },
    { dst := some 85, op := .load none (.t 84), rs := [84], tn := [3460007], an := [9] },
    { dst := some 86, op := .bin .and (.t 83) (.t 85), rs := [83, 85], an := [8, 10] },
    { dst := some 87, op := .bin .xor (.t 82) (.t 86), rs := [82, 86], an := [7, 11] },
    { dst := some 88, op := .iada 8 1 (.t 7) (.c (.int .i64 1)), rs := [7], tn := [3460007] },
    { dst := some 89, op := .load none (.t 88), rs := [88], tn := [3460007], an := [13] },
    { dst := some 90, op := .iada 8 1 (.t 7) (.c (.int .i64 2)), rs := [7], tn := [3460007] },
    { dst := some 91, op := .load none (.t 90), rs := [90], tn := [3460007], an := [15] },
    { dst := some 92, op := .bin .and (.t 89) (.t 91), rs := [89, 91], an := [14, 16] },
    { dst := some 93, op := .bin .xor (.t 87) (.t 92), rs := [87, 92], an := [12, 17] },
    { dst := some 94, op := .bin .add (.t 78) (.t 93), rs := [78, 93], an := [3, 18] },
    { dst := some 13, op := .mov (.t 94), rs := [94], an := [19] }])
  (.keep [0, 4, 7, 8, 12, 13, 41, 42] [20, 100000, 100009, 3460004, 3460007] ((.seq (.reg true [
    { dst := some 95, op := .slca 8 (.t 7) (some (.c (.int .i64 1))) none, rs := [7], tn := [3460007] },
    { dst := some 96, op := .slca 8 (.t 7) none (some (.c (.int .i64 7))), rs := [7], tn := [3460007] },
    { dst := some 97, op := .cpy 1 (.t 95) (.t 96), rs := [95, 96], tn := [3460007], wn := [3460007], an := [0, 1] }])
  ((.seq (.reg false [
    { dst := some 98, op := .mov (.t 12) },
    { dst := some 99, op := .mov (.t 13) },
    { dst := some 100, op := .bin .add (.t 98) (.t 99) },
    { dst := some 101, op := .iada 8 1 (.t 7) (.c (.int .i64 0)) },
    { dst := none, op := .store 1 (.t 101) (.t 100) }])
  (.keep [0, 4, 7, 8, 12, 41, 42] [20, 100000, 100009, 3460004, 3460007] ((.seq (.reg false [
    { dst := some 102, op := .iada 8 1 (.t 7) (.c (.int .i64 4)) },
    { dst := some 103, op := .load none (.t 102) },
    { dst := some 104, op := .mov (.t 12) },
    { dst := some 105, op := .bin .add (.t 103) (.t 104) },
    { dst := some 106, op := .iada 8 1 (.t 7) (.c (.int .i64 4)) },
    { dst := none, op := .store 1 (.t 106) (.t 105) }])
  (.keep [0, 4, 7, 8, 41, 42] [20, 100000, 100009, 3460004, 3460007] ((.seq (.reg true [
    { dst := some 107, op := .mov (.t 8), rs := [8] },
    { dst := some 108, op := .bin .add (.t 107) (.c (.int .i64 1)), rs := [107], an := [0] },
    { dst := some 109, op := .bin .rem (.t 108) (.c (.int .i64 16)), rs := [108], an := [1] },
    { dst := some 110, op := .iada 16 1 (.t 4) (.t 109), rs := [4, 109], tn := [3460004], an := [2] },
    { dst := some 111, op := .load none (.t 110), rs := [110], tn := [3460004], an := [3] },
    { dst := some 112, op := .mov (.t 8), rs := [8] },
    { dst := some 113, op := .bin .add (.t 112) (.c (.int .i64 14)), rs := [112], an := [5] },
    { dst := some 114, op := .bin .rem (.t 113) (.c (.int .i64 16)), rs := [113], an := [6] },
    { dst := some 115, op := .iada 16 1 (.t 4) (.t 114), rs := [4, 114], tn := [3460004], an := [7] },
    { dst := some 116, op := .load none (.t 115), rs := [115], tn := [3460004], an := [8] },
    { dst := some 14, op := .mov (.t 111), rs := [111], an := [4] },
    { dst := some 15, op := .mov (.t 116), rs := [116], an := [9] }])
  (.keep [0, 4, 7, 8, 14, 15, 41, 42] [20, 100000, 100009, 3460004, 3460007] (.reg true [
    { dst := some 117, op := .mov (.t 8), rs := [8] },
    { dst := some 118, op := .bin .rem (.t 117) (.c (.int .i64 16)), rs := [117], an := [0] },
    { dst := some 119, op := .iada 16 1 (.t 4) (.t 118), rs := [4, 118], tn := [3460004], an := [1] },
    { dst := some 120, op := .load none (.t 119), rs := [119], tn := [3460004], an := [2] },
    { dst := some 121, op := .mov (.t 8), rs := [8] },
    { dst := some 122, op := .bin .add (.t 121) (.c (.int .i64 9)), rs := [121], an := [4] },
    { dst := some 123, op := .bin .rem (.t 122) (.c (.int .i64 16)), rs := [122], an := [5] },
    { dst := some 124, op := .iada 16 1 (.t 4) (.t 123), rs := [4, 123], tn := [3460004], an := [6] },
    { dst := some 125, op := .load none (.t 124), rs := [124], tn := [3460004], an := [7] },
    { dst := some 126, op := .mov (.t 14), rs := [14] },
    { dst := some 127, op := .mov (.t 14), rs := [14] },
    { dst := some 128, op := .bin .shr (.t 127) (.c (.int .u64 3)), rs := [127], an := [10] },
    { dst := some 129, op := .call 3460130000 47 [(.t 126), (.c (.int .i64 7)), (.c (.int .i64 18)), (.t 128)], rs := [126, 128], an := [9, 11] },
    { dst := some 130, op := .bin .add (.t 125) (.t 129), rs := [125, 129], an := [8, 12] },
    { dst := some 131, op := .mov (.t 15), rs := [15] },
    { dst := some 132, op := .mov (.t 15), rs := [15] },
    { dst := some 133, op := .bin .shr (.t 132) (.c (.int .u64 10)), rs := [132], an := [15] },
    { dst := some 134, op := .call 3460135000 47 [(.t 131), (.c (.int .i64 17)), (.c (.int .i64 19)), (.t 133)], rs := [131, 133], an := [14, 16] },
    { dst := some 135, op := .bin .add (.t 130) (.t 134), rs := [130, 134], an := [13, 17] },
    { dst := some 136, op := .bin .add (.t 120) (.t 135), rs := [120, 135], an := [3, 18] },
    { dst := some 137, op := .iada 16 1 (.t 4) (.t 118), rs := [4, 118], tn := [3460004], an := [1] },
    { dst := none, op := .store 1 (.t 137) (.t 136), rs := [136, 137], tn := [3460004], wn := [3460004], an := [2, 3, 7, 8, 19, 20] }])))))))))))))))))))))))))
  (.keep [0, 4, 7, 41, 42] [20, 100000, 100009, 3460004, 3460007] (.reg false [
    { dst := some 138, op := .bin .add (.t 42) (.c (.int .i64 1)) },
    { dst := some 42, op := .mov (.t 138) }])))))))
def b46i_2 : AC :=
  (.seq (.reg false [
    { dst := some 21, op := .bin .lss (.t 20) (.t 19) }])
  ((.seq (.cond (.t 21) (.skip) (.exit 0))
  ((.seq (.block 1 ((.seq (.reg false [
    { dst := some 22, op := .mov (.t 20) },
    { dst := some 23, op := .iad 1 (.t 18) (.t 20) },
    { dst := some 24, op := .load none (.t 23) },
    { dst := some 5, op := .mov (.t 22) },
    { dst := some 6, op := .mov (.t 24) }])
  (.keep [0, 4, 5, 6, 18, 19, 20] [20, 100000, 100009, 3460004] (.reg false [
    { dst := some 25, op := .mov (.t 5) },
    { dst := some 26, op := .bin .quo (.t 25) (.c (.int .i64 4)) },
    { dst := some 27, op := .mov (.t 5) },
    { dst := some 28, op := .bin .quo (.t 27) (.c (.int .i64 4)) },
    { dst := some 29, op := .iada 16 1 (.t 4) (.t 28) },
    { dst := some 30, op := .load none (.t 29) },
    { dst := some 31, op := .bin .shl (.t 30) (.c (.int .u64 8)) },
    { dst := some 32, op := .mov (.t 6) },
    { dst := some 33, op := .conv .u32 (.t 32) },
    { dst := some 34, op := .bin .or (.t 31) (.t 33) },
    { dst := some 35, op := .iada 16 1 (.t 4) (.t 26) },
    { dst := none, op := .store 1 (.t 35) (.t 34) }])))))
  (.keep [0, 4, 18, 19, 20] [20, 100000, 100009, 3460004] (.reg false [
    { dst := some 36, op := .bin .add (.t 20) (.c (.int .i64 1)) },
    { dst := some 20, op := .mov (.t 36) }])))))))
/-- (*estreat/sha.state).round: parameters *sha.state []uint8 -/
def c46i : AC :=
  (.seq (.reg false [
    { dst := some 4, op := .alloc 3460004 z78 }])
  ((.seq ((.seq (.reg false [
    { dst := some 18, op := .mov (.t 1) },
    { dst := some 19, op := .len (.t 18) },
    { dst := some 20, op := .mov (.c (.int .i64 0)) }])
  (.block 0 (.loop [0, 4, 18, 19, 20] [20, 100000, 100009, 3460004] b46i_2))))
  (.keep [0, 4] [20, 100000, 100009, 3460004] ((.seq (.reg false [
    { dst := some 37, op := .mov (.t 0) },
    { dst := some 38, op := .nilck (.t 37) },
    { dst := some 39, op := .fad 0 (.t 38) },
    { dst := some 40, op := .load (some 8) (.t 39) },
    { dst := some 7, op := .alloc 3460007 z63 },
    { dst := none, op := .store 8 (.t 7) (.t 40) }])
  (.keep [0, 4, 7] [20, 100000, 100009, 3460004, 3460007] ((.seq ((.seq (.reg false [
    { dst := some 41, op := .load (some 64) (.g 3) },
    { dst := some 42, op := .mov (.c (.int .i64 0)) }])
  (.block 2 (.loop [0, 4, 7, 41, 42] [20, 100000, 100009, 3460004, 3460007] b46i_1))))
  (.keep [0, 7] [20, 100000, 100009, 3460007] ((.seq (.reg false [
    { dst := some 139, op := .load (some 8) (.t 7) },
    { dst := some 140, op := .mov (.c (.int .i64 0)) }])
  (.block 4 (.loop [0, 139, 140] [20, 100000, 100009] b46i_0))))))))))))))
/-- with its results -/
def a46i : AFun := ⟨c46i, [], 156⟩

end Go.Abs.Tryd

namespace Go.Abs.Tryd
open Go Go.Abs Go.Proofs
/-- the seat's code -/
def T : List (Nat × AFun) := [(3, a3), (4, a4), (5, a5), (6, a6), (7, a7), (8, a8), (9, a9), (10, a10), (11, a11), (12, a12), (13, a13), (14, a14), (15, a15), (16, a16), (17, a17), (18, a18), (19, a19), (20, a20), (21, a21), (22, a22), (23, a23), (24, a24), (25, a25), (26, a26), (27, a27), (28, a28), (29, a29), (30, a30), (31, a31), (32, a32), (33, a33), (34, a34), (35, a35), (36, a36), (37, a37), (38, a38), (39, a39), (40, a40), (41, a41), (42, a42), (43, a43), (44, a44), (45, a45), (46, a46), (47, a47), (48, a48)]
def T2 : List (Nat × AFun) := [(22, a22i), (35, a35i), (46, a46i)]
theorem tab : tabOK Tryd.prog T = true := by kernel_rfl
theorem tab2 : tabOK Tryd.prog T2 = true := by kernel_rfl
def Q (n : Nat) : Nat → Option FnF := Phi T T2 3000 n
def E (n f : Nat) : CallF := Ev T T2 3000 n f
def I (n f : Nat) : InlF := Iv T T2 3000 n f
def J (n f : Nat) : Nat → InlF → InlF := Jv T T2 3000 n f
theorem q3 (n : Nat) : Q (n + 1) 3 = some ⟨E (n + 1) 3, I (n + 1) 3, J (n + 1) 3, InlF.none⟩ := rfl
theorem e3 (n : Nat) : E (n + 1) 3 = evFun (Q n) 3000 a3 := rfl
theorem q4 (n : Nat) : Q (n + 1) 4 = some ⟨E (n + 1) 4, I (n + 1) 4, J (n + 1) 4, InlF.none⟩ := rfl
theorem e4 (n : Nat) : E (n + 1) 4 = evFun (Q n) 3000 a4 := rfl
theorem q5 (n : Nat) : Q (n + 1) 5 = some ⟨E (n + 1) 5, I (n + 1) 5, J (n + 1) 5, InlF.none⟩ := rfl
theorem e5 (n : Nat) : E (n + 1) 5 = evFun (Q n) 3000 a5 := rfl
theorem q6 (n : Nat) : Q (n + 1) 6 = some ⟨E (n + 1) 6, I (n + 1) 6, J (n + 1) 6, InlF.none⟩ := rfl
theorem e6 (n : Nat) : E (n + 1) 6 = evFun (Q n) 3000 a6 := rfl
theorem q7 (n : Nat) : Q (n + 1) 7 = some ⟨E (n + 1) 7, I (n + 1) 7, J (n + 1) 7, InlF.none⟩ := rfl
theorem e7 (n : Nat) : E (n + 1) 7 = evFun (Q n) 3000 a7 := rfl
theorem q8 (n : Nat) : Q (n + 1) 8 = some ⟨E (n + 1) 8, I (n + 1) 8, J (n + 1) 8, InlF.none⟩ := rfl
theorem e8 (n : Nat) : E (n + 1) 8 = evFun (Q n) 3000 a8 := rfl
theorem q9 (n : Nat) : Q (n + 1) 9 = some ⟨E (n + 1) 9, I (n + 1) 9, J (n + 1) 9, InlF.none⟩ := rfl
theorem e9 (n : Nat) : E (n + 1) 9 = evFun (Q n) 3000 a9 := rfl
theorem q10 (n : Nat) : Q (n + 1) 10 = some ⟨E (n + 1) 10, I (n + 1) 10, J (n + 1) 10, InlF.none⟩ := rfl
theorem e10 (n : Nat) : E (n + 1) 10 = evFun (Q n) 3000 a10 := rfl
theorem q11 (n : Nat) : Q (n + 1) 11 = some ⟨E (n + 1) 11, I (n + 1) 11, J (n + 1) 11, InlF.none⟩ := rfl
theorem e11 (n : Nat) : E (n + 1) 11 = evFun (Q n) 3000 a11 := rfl
theorem q12 (n : Nat) : Q (n + 1) 12 = some ⟨E (n + 1) 12, I (n + 1) 12, J (n + 1) 12, InlF.none⟩ := rfl
theorem e12 (n : Nat) : E (n + 1) 12 = evFun (Q n) 3000 a12 := rfl
theorem q13 (n : Nat) : Q (n + 1) 13 = some ⟨E (n + 1) 13, I (n + 1) 13, J (n + 1) 13, InlF.none⟩ := rfl
theorem e13 (n : Nat) : E (n + 1) 13 = evFun (Q n) 3000 a13 := rfl
theorem q14 (n : Nat) : Q (n + 1) 14 = some ⟨E (n + 1) 14, I (n + 1) 14, J (n + 1) 14, InlF.none⟩ := rfl
theorem e14 (n : Nat) : E (n + 1) 14 = evFun (Q n) 3000 a14 := rfl
theorem q15 (n : Nat) : Q (n + 1) 15 = some ⟨E (n + 1) 15, I (n + 1) 15, J (n + 1) 15, InlF.none⟩ := rfl
theorem e15 (n : Nat) : E (n + 1) 15 = evFun (Q n) 3000 a15 := rfl
theorem q16 (n : Nat) : Q (n + 1) 16 = some ⟨E (n + 1) 16, I (n + 1) 16, J (n + 1) 16, InlF.none⟩ := rfl
theorem e16 (n : Nat) : E (n + 1) 16 = evFun (Q n) 3000 a16 := rfl
theorem q17 (n : Nat) : Q (n + 1) 17 = some ⟨E (n + 1) 17, I (n + 1) 17, J (n + 1) 17, InlF.none⟩ := rfl
theorem e17 (n : Nat) : E (n + 1) 17 = evFun (Q n) 3000 a17 := rfl
theorem q18 (n : Nat) : Q (n + 1) 18 = some ⟨E (n + 1) 18, I (n + 1) 18, J (n + 1) 18, InlF.none⟩ := rfl
theorem e18 (n : Nat) : E (n + 1) 18 = evFun (Q n) 3000 a18 := rfl
theorem q19 (n : Nat) : Q (n + 1) 19 = some ⟨E (n + 1) 19, I (n + 1) 19, J (n + 1) 19, InlF.none⟩ := rfl
theorem e19 (n : Nat) : E (n + 1) 19 = evFun (Q n) 3000 a19 := rfl
theorem q20 (n : Nat) : Q (n + 1) 20 = some ⟨E (n + 1) 20, I (n + 1) 20, J (n + 1) 20, InlF.none⟩ := rfl
theorem e20 (n : Nat) : E (n + 1) 20 = evFun (Q n) 3000 a20 := rfl
theorem q21 (n : Nat) : Q (n + 1) 21 = some ⟨E (n + 1) 21, I (n + 1) 21, J (n + 1) 21, InlF.none⟩ := rfl
theorem e21 (n : Nat) : E (n + 1) 21 = evFun (Q n) 3000 a21 := rfl
theorem q22 (n : Nat) : Q (n + 1) 22 = some ⟨E (n + 1) 22, I (n + 1) 22, J (n + 1) 22, InlF.none⟩ := rfl
theorem e22 (n : Nat) : E (n + 1) 22 = evFun (Q n) 3000 a22 := rfl
theorem q23 (n : Nat) : Q (n + 1) 23 = some ⟨E (n + 1) 23, I (n + 1) 23, J (n + 1) 23, InlF.none⟩ := rfl
theorem e23 (n : Nat) : E (n + 1) 23 = evFun (Q n) 3000 a23 := rfl
theorem q24 (n : Nat) : Q (n + 1) 24 = some ⟨E (n + 1) 24, I (n + 1) 24, J (n + 1) 24, InlF.none⟩ := rfl
theorem e24 (n : Nat) : E (n + 1) 24 = evFun (Q n) 3000 a24 := rfl
theorem q25 (n : Nat) : Q (n + 1) 25 = some ⟨E (n + 1) 25, I (n + 1) 25, J (n + 1) 25, InlF.none⟩ := rfl
theorem e25 (n : Nat) : E (n + 1) 25 = evFun (Q n) 3000 a25 := rfl
theorem q26 (n : Nat) : Q (n + 1) 26 = some ⟨E (n + 1) 26, I (n + 1) 26, J (n + 1) 26, InlF.none⟩ := rfl
theorem e26 (n : Nat) : E (n + 1) 26 = evFun (Q n) 3000 a26 := rfl
theorem q27 (n : Nat) : Q (n + 1) 27 = some ⟨E (n + 1) 27, I (n + 1) 27, J (n + 1) 27, InlF.none⟩ := rfl
theorem e27 (n : Nat) : E (n + 1) 27 = evFun (Q n) 3000 a27 := rfl
theorem q28 (n : Nat) : Q (n + 1) 28 = some ⟨E (n + 1) 28, I (n + 1) 28, J (n + 1) 28, InlF.none⟩ := rfl
theorem e28 (n : Nat) : E (n + 1) 28 = evFun (Q n) 3000 a28 := rfl
theorem q29 (n : Nat) : Q (n + 1) 29 = some ⟨E (n + 1) 29, I (n + 1) 29, J (n + 1) 29, InlF.none⟩ := rfl
theorem e29 (n : Nat) : E (n + 1) 29 = evFun (Q n) 3000 a29 := rfl
theorem q30 (n : Nat) : Q (n + 1) 30 = some ⟨E (n + 1) 30, I (n + 1) 30, J (n + 1) 30, InlF.none⟩ := rfl
theorem e30 (n : Nat) : E (n + 1) 30 = evFun (Q n) 3000 a30 := rfl
theorem q31 (n : Nat) : Q (n + 1) 31 = some ⟨E (n + 1) 31, I (n + 1) 31, J (n + 1) 31, InlF.none⟩ := rfl
theorem e31 (n : Nat) : E (n + 1) 31 = evFun (Q n) 3000 a31 := rfl
theorem q32 (n : Nat) : Q (n + 1) 32 = some ⟨E (n + 1) 32, I (n + 1) 32, J (n + 1) 32, InlF.none⟩ := rfl
theorem e32 (n : Nat) : E (n + 1) 32 = evFun (Q n) 3000 a32 := rfl
theorem q33 (n : Nat) : Q (n + 1) 33 = some ⟨E (n + 1) 33, I (n + 1) 33, J (n + 1) 33, InlF.none⟩ := rfl
theorem e33 (n : Nat) : E (n + 1) 33 = evFun (Q n) 3000 a33 := rfl
theorem q34 (n : Nat) : Q (n + 1) 34 = some ⟨E (n + 1) 34, I (n + 1) 34, J (n + 1) 34, InlF.none⟩ := rfl
theorem e34 (n : Nat) : E (n + 1) 34 = evFun (Q n) 3000 a34 := rfl
theorem q35 (n : Nat) : Q (n + 1) 35 = some ⟨E (n + 1) 35, I (n + 1) 35, J (n + 1) 35, InlF.none⟩ := rfl
theorem e35 (n : Nat) : E (n + 1) 35 = evFun (Q n) 3000 a35 := rfl
theorem q36 (n : Nat) : Q (n + 1) 36 = some ⟨E (n + 1) 36, I (n + 1) 36, J (n + 1) 36, InlF.none⟩ := rfl
theorem e36 (n : Nat) : E (n + 1) 36 = evFun (Q n) 3000 a36 := rfl
theorem q37 (n : Nat) : Q (n + 1) 37 = some ⟨E (n + 1) 37, I (n + 1) 37, J (n + 1) 37, InlF.none⟩ := rfl
theorem e37 (n : Nat) : E (n + 1) 37 = evFun (Q n) 3000 a37 := rfl
theorem q38 (n : Nat) : Q (n + 1) 38 = some ⟨E (n + 1) 38, I (n + 1) 38, J (n + 1) 38, InlF.none⟩ := rfl
theorem e38 (n : Nat) : E (n + 1) 38 = evFun (Q n) 3000 a38 := rfl
theorem q39 (n : Nat) : Q (n + 1) 39 = some ⟨E (n + 1) 39, I (n + 1) 39, J (n + 1) 39, InlF.none⟩ := rfl
theorem e39 (n : Nat) : E (n + 1) 39 = evFun (Q n) 3000 a39 := rfl
theorem q40 (n : Nat) : Q (n + 1) 40 = some ⟨E (n + 1) 40, I (n + 1) 40, J (n + 1) 40, InlF.none⟩ := rfl
theorem e40 (n : Nat) : E (n + 1) 40 = evFun (Q n) 3000 a40 := rfl
theorem q41 (n : Nat) : Q (n + 1) 41 = some ⟨E (n + 1) 41, I (n + 1) 41, J (n + 1) 41, InlF.none⟩ := rfl
theorem e41 (n : Nat) : E (n + 1) 41 = evFun (Q n) 3000 a41 := rfl
theorem q42 (n : Nat) : Q (n + 1) 42 = some ⟨E (n + 1) 42, I (n + 1) 42, J (n + 1) 42, InlF.none⟩ := rfl
theorem e42 (n : Nat) : E (n + 1) 42 = evFun (Q n) 3000 a42 := rfl
theorem q43 (n : Nat) : Q (n + 1) 43 = some ⟨E (n + 1) 43, I (n + 1) 43, J (n + 1) 43, InlF.none⟩ := rfl
theorem e43 (n : Nat) : E (n + 1) 43 = evFun (Q n) 3000 a43 := rfl
theorem q44 (n : Nat) : Q (n + 1) 44 = some ⟨E (n + 1) 44, I (n + 1) 44, J (n + 1) 44, InlF.none⟩ := rfl
theorem e44 (n : Nat) : E (n + 1) 44 = evFun (Q n) 3000 a44 := rfl
theorem q45 (n : Nat) : Q (n + 1) 45 = some ⟨E (n + 1) 45, I (n + 1) 45, J (n + 1) 45, InlF.none⟩ := rfl
theorem e45 (n : Nat) : E (n + 1) 45 = evFun (Q n) 3000 a45 := rfl
theorem q46 (n : Nat) : Q (n + 1) 46 = some ⟨E (n + 1) 46, I (n + 1) 46, J (n + 1) 46, InlF.none⟩ := rfl
theorem e46 (n : Nat) : E (n + 1) 46 = evFun (Q n) 3000 a46 := rfl
theorem q47 (n : Nat) : Q (n + 1) 47 = some ⟨E (n + 1) 47, I (n + 1) 47, J (n + 1) 47, InlF.none⟩ := rfl
theorem e47 (n : Nat) : E (n + 1) 47 = evFun (Q n) 3000 a47 := rfl
theorem q48 (n : Nat) : Q (n + 1) 48 = some ⟨E (n + 1) 48, I (n + 1) 48, J (n + 1) 48, InlF.none⟩ := rfl
theorem e48 (n : Nat) : E (n + 1) 48 = evFun (Q n) 3000 a48 := rfl
theorem i22 (n : Nat) : I (n + 1) 22 = evInl (Q n) 3000 a22i := rfl
theorem j22 (n : Nat) : J (n + 1) 22 = evItr (Q n) 3000 a22i := rfl
theorem i35 (n : Nat) : I (n + 1) 35 = evInl (Q n) 3000 a35i := rfl
theorem j35 (n : Nat) : J (n + 1) 35 = evItr (Q n) 3000 a35i := rfl
theorem i46 (n : Nat) : I (n + 1) 46 = evInl (Q n) 3000 a46i := rfl
theorem j46 (n : Nat) : J (n + 1) 46 = evItr (Q n) 3000 a46i := rfl
theorem ref (n f : Nat) {F} (h : Q n f = some F) : Refines Tryd.prog f (E n f) := Ev_refines tab tab2 h
end Go.Abs.Tryd

namespace Go.Abs.Sha
open Go Go.Abs
abbrev W := BitVec 32
def rr (x : W) (n : Nat) : W := x >>> n ||| x <<< (32 - n)
def s0 (x : W) : W := (rr x 7 ^^^ rr x 18) ^^^ x >>> 3
def s1 (x : W) : W := (rr x 17 ^^^ rr x 19) ^^^ x >>> 10
structure V8 where
  v0 : W
  v1 : W
  v2 : W
  v3 : W
  v4 : W
  v5 : W
  v6 : W
  v7 : W
/-- what is added twice -/
def pp (k w : W) (v : V8) : W := v.v7 + ((rr v.v4 6 ^^^ rr v.v4 11) ^^^ rr v.v4 25) + (v.v4 &&& v.v5 ^^^ ~~~v.v4 &&& v.v6) + k + w
def qq (v : V8) : W := ((rr v.v0 2 ^^^ rr v.v0 13) ^^^ rr v.v0 22) + ((v.v0 &&& v.v1 ^^^ v.v0 &&& v.v2) ^^^ v.v1 &&& v.v2)
def stp (k w : W) (v : V8) : V8 := ⟨pp k w v + qq v, v.v0, v.v1, v.v2, v.v3 + pp k w v, v.v4, v.v5, v.v6⟩
def V8.list (v : V8) : List W := [v.v0, v.v1, v.v2, v.v3, v.v4, v.v5, v.v6, v.v7]
def add8 (a b : V8) : V8 := ⟨a.v0 + b.v0, a.v1 + b.v1, a.v2 + b.v2, a.v3 + b.v3, a.v4 + b.v4, a.v5 + b.v5, a.v6 + b.v6, a.v7 + b.v7⟩
def KK : List W := Tryd.glob3.map fun
  | .int _ n => BitVec.ofInt 32 n
  | _ => 0
theorem glob1_ws : Tryd.glob3 = ws KK := by kernel_rfl
theorem KK_len : KK.length = 64 := by kernel_rfl
def cmp (w : Nat → W) : Nat → V8 → V8
  | 0, v => v
  | t + 1, v => stp (KK.getD t 0) (w t) (cmp w t v)
/-- the first k bytes of word t -/
def wd (l : List UInt8) (t : Nat) : Nat → W
  | 0 => 0
  | k + 1 => wd l t k <<< 8 ||| wb (l.getD (4 * t + k) 0)
def nx (l : List W) : W := l.getD (l.length - 16) 0 + l.getD (l.length - 7) 0 + s0 (l.getD (l.length - 15) 0) + s1 (l.getD (l.length - 2) 0)
def sch : Nat → List W → List W
  | 0, l => l
  | n + 1, l => sch n (l ++ [nx l])
def wl (l : List UInt8) : List W := sch 64 ((List.range 16).map fun t => wd l t 4)
def wf (l : List UInt8) (t : Nat) : W := (wl l).getD t 0
def blk (l : List UInt8) (v : V8) : V8 := add8 v (cmp (wf l) 64 v)
def ab : Nat → List UInt8 → V8 → V8 × List UInt8
  | 0, l, v => (v, l)
  | n + 1, l, v => if l.length < 64 then (v, l) else ab n (l.drop 64) (blk (l.take 64) v)
def absorb (l : List UInt8) (v : V8) : V8 × List UInt8 := ab (l.length / 64) l v
def zeros (n : Nat) : Nat := (119 - n % 64) % 64
def be8 (x : Nat) : List UInt8 := (List.range 8).map fun i => UInt8.ofNat (x / 2 ^ (56 - 8 * i))
def pad (n : Nat) : List UInt8 := 128 :: (List.replicate (zeros n) 0 ++ be8 (n * 8))
def dg (v : V8) : List UInt8 := (List.range 32).map fun i => UInt8.ofNat ((v.list.getD (i / 4) 0).toNat / 2 ^ (24 - 8 * (i % 4)))
def iv : V8 := ⟨1779033703, 3144134277, 1013904242, 2773480762, 1359893119, 2600822924, 528734635, 1541459225⟩
def sha (m : List UInt8) : List UInt8 := dg (absorb (m ++ pad m.length) iv).1
end Go.Abs.Sha

namespace Go.Abs.Sha
open Go Go.Abs
def ar (n : Nat) (f : Nat → W) : List W := (List.range n).map f
@[simp] theorem ar_len (n f) : (ar n f).length = n := by simp [ar]
theorem ar_get {n i : Nat} (f) (h : i < n) : (ar n f).getD i 0 = f i := by simp [ar, List.getD, h]
theorem ar_get? {n i : Nat} (f) (h : i < n) : (ar n f)[i]? = some (f i) := by simp [ar, h]
theorem ar_congr {n f g} (h : ∀ i, i < n → f i = g i) : ar n f = ar n g := by
  unfold ar
  exact List.map_congr_left fun i hi => h i (by simpa using hi)
theorem ar_set {n i : Nat} {f g : Nat → W} {x : W} (h : i < n) (h1 : g i = x) (h2 : ∀ j, j < n → j ≠ i → g j = f j) : (ar n f).set i x = ar n g := by
  apply List.ext_getElem?
  intro j
  rw [List.getElem?_set]
  by_cases e : i = j
  · subst e; simp [ar, h, h1]
  · rw [if_neg e]
    by_cases hj : j < n
    · rw [ar_get? f hj, ar_get? g hj, h2 j hj (Ne.symm e)]
    · simp [ar, hj]
theorem wb_zero_hi (b : UInt8) (x : W) : x <<< 8 &&& wb b = 0 := by
  apply BitVec.eq_of_getLsbD_eq
  intro i hi
  have hb := b.toNat_lt
  simp only [BitVec.getLsbD_and, BitVec.getLsbD_shiftLeft, wb, BitVec.getLsbD_ofNat, BitVec.getLsbD_zero]
  by_cases h : i < 8
  · simp [h]
  · rw [Nat.testBit_lt_two_pow (i := i) (x := b.toNat) (Nat.lt_of_lt_of_le hb (Nat.pow_le_pow_right (by omega) (by omega)))]
    simp
theorem or_wb (b : UInt8) (x : W) : x <<< 8 ||| wb b = x <<< 8 + wb b := (BitVec.add_eq_or_of_and_eq_zero _ _ (wb_zero_hi b x)).symm
theorem mul256 (x : W) : x * 256#32 = x <<< 8 := by
  rw [BitVec.shiftLeft_eq_mul_twoPow]; rfl
theorem ch_eq (a b c : W) : (c ^^^ a &&& (b ^^^ c)) = (a &&& b ^^^ ~~~a &&& c) := by
  apply BitVec.eq_of_getLsbD_eq
  intro i hi
  simp only [BitVec.getLsbD_and, BitVec.getLsbD_xor, BitVec.getLsbD_not, hi]
  cases a.getLsbD i <;> cases b.getLsbD i <;> cases c.getLsbD i <;> rfl

theorem sch_len : ∀ n l, (sch n l).length = l.length + n
  | 0, l => rfl
  | n + 1, l => by rw [sch, sch_len n]; simp; omega
theorem sch_get : ∀ n l i, i < l.length → (sch n l).getD i 0 = l.getD i 0
  | 0, l, i, h => rfl
  | n + 1, l, i, h => by
    rw [sch, sch_get n _ i (by simp; omega)]
    simp [List.getD, List.getElem?_append_left h]
theorem sch_nx : ∀ n l t, 16 ≤ l.length → l.length ≤ t → t < l.length + n →
    (sch n l).getD t 0 = (sch n l).getD (t - 16) 0 + (sch n l).getD (t - 7) 0 + s0 ((sch n l).getD (t - 15) 0) + s1 ((sch n l).getD (t - 2) 0)
  | 0, l, t, h, h1, h2 => by omega
  | n + 1, l, t, h, h1, h2 => by
    by_cases e : t = l.length
    · subst e
      rw [sch]
      rw [sch_get n _ l.length (by simp), sch_get n _ (l.length - 16) (by simp; omega), sch_get n _ (l.length - 7) (by simp; omega), sch_get n _ (l.length - 15) (by simp; omega), sch_get n _ (l.length - 2) (by simp; omega)]
      have g : ∀ i, i < l.length → (l ++ [nx l]).getD i 0 = l.getD i 0 := fun i hi => by simp [List.getD, List.getElem?_append_left hi]
      rw [g (l.length - 16) (by omega), g (l.length - 7) (by omega), g (l.length - 15) (by omega), g (l.length - 2) (by omega)]
      have e0 : (l ++ [nx l]).getD l.length 0 = nx l := by simp [List.getD]
      rw [e0, nx]
    · rw [sch]
      exact sch_nx n _ t (by simp; omega) (by simp; omega) (by simp; omega)
theorem wf_lo (l : List UInt8) {t : Nat} (h : t < 16) : wf l t = wd l t 4 := by
  unfold wf wl
  rw [sch_get _ _ _ (by simpa using h)]
  exact ar_get (fun t => wd l t 4) h
theorem wf_hi (l : List UInt8) {t : Nat} (h : 16 ≤ t) (h2 : t < 80) : wf l t = wf l (t - 16) + wf l (t - 7) + s0 (wf l (t - 15)) + s1 (wf l (t - 2)) := by
  unfold wf wl
  exact sch_nx _ _ t (by simp) (by simpa using h) (by simpa using h2)
/-- the window of sixteen words from t on -/
def win (w : Nat → W) (t : Nat) : List W := ar 16 fun i => w (t + (i + 16 - t % 16) % 16)
theorem win_get (w : Nat → W) (t k : Nat) (h : k < 16) : (win w t).getD ((t + k) % 16) 0 = w (t + k) := by
  unfold win
  rw [ar_get _ (by omega)]
  congr 1
  omega
theorem win_set (w : Nat → W) (t : Nat) (x : W) (h : x = w (t + 16)) : (win w t).set (t % 16) x = win w (t + 1) := by
  unfold win
  apply ar_set (by omega)
  · rw [h]; congr 1; omega
  · intro j hj hne
    congr 1
    omega

theorem ab_step (l : List UInt8) (v : V8) : absorb l v = if l.length < 64 then (v, l) else absorb (l.drop 64) (blk (l.take 64) v) := by
  unfold absorb
  by_cases h : l.length < 64
  · rw [if_pos h]
    have : l.length / 64 = 0 := by omega
    rw [this]; rfl
  · rw [if_neg h]
    have e : l.length / 64 = (l.drop 64).length / 64 + 1 := by simp; omega
    rw [e, ab, if_neg h]
theorem absorb_short {l : List UInt8} (v : V8) (h : l.length < 64) : absorb l v = (v, l) := by rw [ab_step, if_pos h]
theorem absorb_long {l : List UInt8} (v : V8) (h : 64 ≤ l.length) : absorb l v = absorb (l.drop 64) (blk (l.take 64) v) := by rw [ab_step, if_neg (by omega)]
theorem absorb_append : ∀ (n : Nat) (a b : List UInt8) (v : V8), a.length ≤ n → absorb (a ++ b) v = absorb ((absorb a v).2 ++ b) (absorb a v).1
  | n, a, b, v, h => by
    by_cases h1 : a.length < 64
    · rw [absorb_short v h1]
    · match n with
      | 0 => omega
      | n + 1 =>
      rw [absorb_long (l := a) v (by omega), absorb_long (l := a ++ b) v (by simp; omega)]
      rw [List.drop_append_of_le_length (by omega), List.take_append_of_le_length (by omega)]
      exact absorb_append n _ b _ (by simp; omega)
theorem absorb_rest : ∀ (n : Nat) (a : List UInt8) (v : V8), a.length ≤ n → (absorb a v).2.length = a.length % 64
  | n, a, v, h => by
    by_cases h1 : a.length < 64
    · rw [absorb_short v h1]; exact (Nat.mod_eq_of_lt h1).symm
    · match n with
      | 0 => omega
      | n + 1 =>
      rw [absorb_long v (by omega), absorb_rest n _ _ (by simp; omega)]
      simp; omega
theorem be8_len (x) : (be8 x).length = 8 := by simp [be8]
theorem pad_len (n : Nat) : (pad n).length = 1 + zeros n + 8 := by simp [pad, be8_len]; omega
theorem full_len (m : List UInt8) : (m ++ pad m.length).length % 64 = 0 := by
  rw [List.length_append, pad_len]; unfold zeros; omega
end Go.Abs.Sha

namespace Go.Abs.Tryd
open Go Go.Abs Go.Proofs Go.Abs.Sha
set_option maxHeartbeats 16000000
set_option maxRecDepth 100000
set_option linter.unusedSimpArgs false
set_option linter.unusedVariables false
theorem rot_of (n : Nat) (x : W) (a : Int) (b : Nat) (k : Nat) (hk : k < 32) (hk0 : 0 < k) (hb : b = 32 - k)
    (h1 : abits .and .u64 (IntKind.u64.wrap a) 31 = some (.int .u64 (b : Int))) : E (n + 1) 48 [.int .u32 (N x), .int .i64 a] = some (.int .u32 (N (rr x k)), []) := by
  rw [e48]
  subst hb
  have s1 := N_shl x (32 - k)
  have s2 := N_shr x k
  have w1 : IntKind.u64.wrap (32 - ((32 - k : Nat) : Int)) = (k : Int) := by rw [wrap_u64]; omega
  have m1 : min (32 - k) 32 = 32 - k := by omega
  have m2 : min k 32 = k := by omega
  have p1 : ¬ ((32 - k : Nat) : Int) < 0 := by omega
  have p2 : ¬ (k : Int) < 0 := by omega
  simp -implicitDefEqProofs [a48, c48, h1, abin, s1, s2, w1, m1, m2, p1, p2]
  rw [rr, BitVec.or_comm]
theorem rot2 (n : Nat) (x : W) : E (n + 1) 48 [.int .u32 (N x), .int .i64 (-2)] = some (.int .u32 (N (rr x 2)), []) := rot_of n x _ 30 2 (by omega) (by omega) (by omega) (by kernel_rfl)
theorem rot6 (n : Nat) (x : W) : E (n + 1) 48 [.int .u32 (N x), .int .i64 (-6)] = some (.int .u32 (N (rr x 6)), []) := rot_of n x _ 26 6 (by omega) (by omega) (by omega) (by kernel_rfl)
theorem rot7 (n : Nat) (x : W) : E (n + 1) 48 [.int .u32 (N x), .int .i64 (-7)] = some (.int .u32 (N (rr x 7)), []) := rot_of n x _ 25 7 (by omega) (by omega) (by omega) (by kernel_rfl)
theorem rot11 (n : Nat) (x : W) : E (n + 1) 48 [.int .u32 (N x), .int .i64 (-11)] = some (.int .u32 (N (rr x 11)), []) := rot_of n x _ 21 11 (by omega) (by omega) (by omega) (by kernel_rfl)
theorem rot13 (n : Nat) (x : W) : E (n + 1) 48 [.int .u32 (N x), .int .i64 (-13)] = some (.int .u32 (N (rr x 13)), []) := rot_of n x _ 19 13 (by omega) (by omega) (by omega) (by kernel_rfl)
theorem rot17 (n : Nat) (x : W) : E (n + 1) 48 [.int .u32 (N x), .int .i64 (-17)] = some (.int .u32 (N (rr x 17)), []) := rot_of n x _ 15 17 (by omega) (by omega) (by omega) (by kernel_rfl)
theorem rot18 (n : Nat) (x : W) : E (n + 1) 48 [.int .u32 (N x), .int .i64 (-18)] = some (.int .u32 (N (rr x 18)), []) := rot_of n x _ 14 18 (by omega) (by omega) (by omega) (by kernel_rfl)
theorem rot19 (n : Nat) (x : W) : E (n + 1) 48 [.int .u32 (N x), .int .i64 (-19)] = some (.int .u32 (N (rr x 19)), []) := rot_of n x _ 13 19 (by omega) (by omega) (by omega) (by kernel_rfl)
theorem rot22 (n : Nat) (x : W) : E (n + 1) 48 [.int .u32 (N x), .int .i64 (-22)] = some (.int .u32 (N (rr x 22)), []) := rot_of n x _ 10 22 (by omega) (by omega) (by omega) (by kernel_rfl)
theorem rot25 (n : Nat) (x : W) : E (n + 1) 48 [.int .u32 (N x), .int .i64 (-25)] = some (.int .u32 (N (rr x 25)), []) := rot_of n x _ 7 25 (by omega) (by omega) (by omega) (by kernel_rfl)
theorem three_of (n : Nat) (x l : W) (a b : Nat) (ha : E (n + 1) 48 [.int .u32 (N x), .int .i64 (-(a : Int))] = some (.int .u32 (N (rr x a)), []))
    (hb : E (n + 1) 48 [.int .u32 (N x), .int .i64 (-(b : Int))] = some (.int .u32 (N (rr x b)), [])) (h1 : IntKind.i64.wrap (0 - (a : Int)) = -(a : Int)) (h2 : IntKind.i64.wrap (0 - (b : Int)) = -(b : Int)) :
    E (n + 2) 47 [.int .u32 (N x), .int .i64 a, .int .i64 b, .int .u32 (N l)] = some (.int .u32 (N ((rr x a ^^^ rr x b) ^^^ l)), []) := by
  rw [e47]
  have h1' : IntKind.i64.wrap (-(a : Int)) = -(a : Int) := by simpa using h1
  have h2' : IntKind.i64.wrap (-(b : Int)) = -(b : Int) := by simpa using h2
  simp -implicitDefEqProofs [a47, c47, q48, h1', h2', ha, hb, abin]
theorem three6 (n : Nat) (x l : W) : E (n + 2) 47 [.int .u32 (N x), .int .i64 6, .int .i64 11, .int .u32 (N l)] = some (.int .u32 (N ((rr x 6 ^^^ rr x 11) ^^^ l)), []) := three_of n x l 6 11 (rot6 n x) (rot11 n x) (by kernel_rfl) (by kernel_rfl)
theorem three2 (n : Nat) (x l : W) : E (n + 2) 47 [.int .u32 (N x), .int .i64 2, .int .i64 13, .int .u32 (N l)] = some (.int .u32 (N ((rr x 2 ^^^ rr x 13) ^^^ l)), []) := three_of n x l 2 13 (rot2 n x) (rot13 n x) (by kernel_rfl) (by kernel_rfl)
theorem three7 (n : Nat) (x l : W) : E (n + 2) 47 [.int .u32 (N x), .int .i64 7, .int .i64 18, .int .u32 (N l)] = some (.int .u32 (N ((rr x 7 ^^^ rr x 18) ^^^ l)), []) := three_of n x l 7 18 (rot7 n x) (rot18 n x) (by kernel_rfl) (by kernel_rfl)
theorem three17 (n : Nat) (x l : W) : E (n + 2) 47 [.int .u32 (N x), .int .i64 17, .int .i64 19, .int .u32 (N l)] = some (.int .u32 (N ((rr x 17 ^^^ rr x 19) ^^^ l)), []) := three_of n x l 17 19 (rot17 n x) (rot19 n x) (by kernel_rfl) (by kernel_rfl)
theorem turn_of (n : Nat) (x : W) (k : Nat) (hk : k < 32) (hk0 : 0 < k) : E (n + 1) 45 [.int .u32 (N x), .int .i64 k] = some (.int .u32 (N (rr x k)), []) := by
  rw [e45]
  have s1 := N_shl x (32 - k)
  have s2 := N_shr x k
  have w1 : IntKind.i64.wrap (32 - (k : Int)) = ((32 - k : Nat) : Int) := by rw [wrap_i64 _ (by omega) (by omega)]; omega
  have m1 : min (32 - k) 32 = 32 - k := by omega
  have m2 : min k 32 = k := by omega
  have p1 : ¬ ((32 - k : Nat) : Int) < 0 := by omega
  have p2 : ¬ (k : Int) < 0 := by omega
  simp -implicitDefEqProofs [a45, c45, abin, s1, s2, w1, m1, m2, p1, p2]
  rfl
theorem turn2 (n : Nat) (x : W) : E (n + 1) 45 [.int .u32 (N x), .int .i64 2] = some (.int .u32 (N (rr x 2)), []) := turn_of n x 2 (by omega) (by omega)
theorem turn6 (n : Nat) (x : W) : E (n + 1) 45 [.int .u32 (N x), .int .i64 6] = some (.int .u32 (N (rr x 6)), []) := turn_of n x 6 (by omega) (by omega)
theorem turn7 (n : Nat) (x : W) : E (n + 1) 45 [.int .u32 (N x), .int .i64 7] = some (.int .u32 (N (rr x 7)), []) := turn_of n x 7 (by omega) (by omega)
theorem turn11 (n : Nat) (x : W) : E (n + 1) 45 [.int .u32 (N x), .int .i64 11] = some (.int .u32 (N (rr x 11)), []) := turn_of n x 11 (by omega) (by omega)
theorem turn13 (n : Nat) (x : W) : E (n + 1) 45 [.int .u32 (N x), .int .i64 13] = some (.int .u32 (N (rr x 13)), []) := turn_of n x 13 (by omega) (by omega)
theorem turn17 (n : Nat) (x : W) : E (n + 1) 45 [.int .u32 (N x), .int .i64 17] = some (.int .u32 (N (rr x 17)), []) := turn_of n x 17 (by omega) (by omega)
theorem turn18 (n : Nat) (x : W) : E (n + 1) 45 [.int .u32 (N x), .int .i64 18] = some (.int .u32 (N (rr x 18)), []) := turn_of n x 18 (by omega) (by omega)
theorem turn19 (n : Nat) (x : W) : E (n + 1) 45 [.int .u32 (N x), .int .i64 19] = some (.int .u32 (N (rr x 19)), []) := turn_of n x 19 (by omega) (by omega)
theorem turn22 (n : Nat) (x : W) : E (n + 1) 45 [.int .u32 (N x), .int .i64 22] = some (.int .u32 (N (rr x 22)), []) := turn_of n x 22 (by omega) (by omega)
theorem turn25 (n : Nat) (x : W) : E (n + 1) 45 [.int .u32 (N x), .int .i64 25] = some (.int .u32 (N (rr x 25)), []) := turn_of n x 25 (by omega) (by omega)
end Go.Abs.Tryd

namespace Go.Abs.Tryd
open Go Go.Abs Go.Proofs Go.Abs.Sha
set_option maxHeartbeats 16000000
set_option maxRecDepth 100000
set_option linter.unusedSimpArgs false
set_option linter.unusedVariables false
/-- the array that a slice of bytes shows: made by take itself, or come in -/
def nmv : Bool → Nat
  | true => 20
  | false => 100009
def HX (b : Bool) (g2 : Nat) (A : Blk) (g : Nat) (S : Blk) (r : AH) : AH := match b with
  | true => ⟨20, g2, A⟩ :: ⟨100000, g, S⟩ :: r
  | false => ⟨100000, g, S⟩ :: ⟨100009, g2, A⟩ :: r
theorem quo4 (i : Nat) (h : i < 10000) : IntKind.i64.wrap ((i : Int) / 4) = ((i / 4 : Nat) : Int) := by
  rw [wrap_i64 _ (by omega) (by omega)]; omega
theorem stepW (Φ : Nat → Option FnF) (K : Nat) (b : Bool) (g2 g g4 c k : Nat) (fz : Bool) (lb : List UInt8) (off i : Nat) (S : Blk) (L : List W) (hL : L.length = 16) (hi : i < 64) (ho : off + 64 ≤ lb.length) :
    iter (ev Φ K b46i_2) [0, 4, 18, 19, 20] [20, 100000, 100009, 3460004] (k + 1) ⟨[(0, .ptr 100000 g 0), (4, .ptr 3460004 g4 0), (18, .own (nmv b) g2 off 64), (19, .int .i64 64), (20, .int .i64 i)], HX b g2 (.arr 1 (byteRows lb) fz) g S [⟨3460004, g4, .var (ws L)⟩], c⟩ =
    iter (ev Φ K b46i_2) [0, 4, 18, 19, 20] [20, 100000, 100009, 3460004] k ⟨[(0, .ptr 100000 g 0), (4, .ptr 3460004 g4 0), (18, .own (nmv b) g2 off 64), (19, .int .i64 64), (20, .int .i64 (i + 1 : Nat))], HX b g2 (.arr 1 (byteRows lb) fz) g S [⟨3460004, g4, .var (ws (L.set (i / 4) (L.getD (i / 4) 0 <<< 8 ||| wb (lb.getD (off + i) 0))))⟩], c⟩ := by
  have h1 : (i : Int) < 64 := by omega
  have w1 : IntKind.i64.wrap ((i : Int) + 1) = (i : Int) + 1 := wrap_i64 _ (by omega) (by omega)
  have q1 := quo4 i (by omega)
  have j1 : i / 4 < L.length := by omega
  have j2 : i / 4 < 16 := by omega
  have j3 : i / 4 + 1 ≤ 16 := by omega
  have hget := ws_at j1
  have hget2 := (List.getElem?_eq_some_iff.1 hget).2
  have hlen := ws_len L
  have r1 := rows_at (l := lb) (i := off + i) (by omega)
  have r2 := (List.getElem?_eq_some_iff.1 r1).2
  have rl := rows_len lb
  have hs := N_shl (L.getD (i / 4) 0) 8
  simp only [show (2 : Int) ^ 8 = 256 from rfl] at hs
  have hp := ws_put L (L.getD (i / 4) 0 <<< 8 ||| wb (lb.getD (off + i) 0)) j1
  generalize ws (L.set (i / 4) (L.getD (i / 4) 0 <<< 8 ||| wb (lb.getD (off + i) 0))) = M at *
  generalize lb.getD (off + i) 0 = z at *
  generalize L.getD (i / 4) 0 = y at *
  have o1 : off + i < lb.length := by omega
  have p1 : (0 : Int) ≤ (i : Int) / 4 := by omega
  have p2 : ((i : Int) / 4).toNat = i / 4 := by omega
  have z1 : 0 ≤ ((i / 4 : Nat) : Int) := by omega
  have z2 : ((i / 4 : Nat) : Int).toNat = i / 4 := by omega
  generalize ((i / 4 : Nat) : Int) = u at *
  cases b
  · apply iter_norm
    simp -implicitDefEqProofs [b46i_2, St.keep, HX, nmv, h1, hi, w1, q1, j2, j3, hL, hlen, hget, hget2, r1, r2, rl, o1, hs, hp, z1, z2, abin]
  · apply iter_norm
    simp -implicitDefEqProofs [b46i_2, St.keep, HX, nmv, h1, hi, w1, q1, j2, j3, hL, hlen, hget, hget2, r1, r2, rl, o1, hs, hp, z1, z2, abin]
/-- the words behind n bytes of a block -/
def LW (m : Nat) (l : List UInt8) (n : Nat) : List W := ar m fun t => wd l t (min 4 (n - 4 * t))
theorem LW_len (m l n) : (LW m l n).length = m := ar_len _ _
theorem LW_set (m : Nat) (l : List UInt8) (n : Nat) (h : n < 4 * m) (x : UInt8) (hx : l.getD n 0 = x) : (LW m l n).set (n / 4) ((LW m l n).getD (n / 4) 0 <<< 8 ||| wb x) = LW m l (n + 1) := by
  unfold LW
  apply ar_set (by omega)
  · rw [ar_get _ (by omega)]
    have e1 : min 4 (n + 1 - 4 * (n / 4)) = n % 4 + 1 := by omega
    have e2 : min 4 (n - 4 * (n / 4)) = n % 4 := by omega
    rw [e1, e2, wd, show 4 * (n / 4) + n % 4 = n by omega, hx]
  · intro j hj hne
    have e1 : min 4 (n + 1 - 4 * j) = min 4 (n - 4 * j) := by omega
    rw [e1]
def blkOf (lb : List UInt8) (off : Nat) : List UInt8 := (lb.drop off).take 64
theorem blkOf_get (lb : List UInt8) (off i : Nat) (h : i < 64) (ho : off + 64 ≤ lb.length) : (blkOf lb off).getD i 0 = lb.getD (off + i) 0 := by
  simp [blkOf, List.getD, h]
theorem loopW (Φ : Nat → Option FnF) (K : Nat) (b : Bool) (g2 g g4 c : Nat) (fz : Bool) (lb : List UInt8) (off : Nat) (S : Blk) (ho : off + 64 ≤ lb.length) : ∀ (d i k : Nat), i + d = 64 → d < k →
    iter (ev Φ K b46i_2) [0, 4, 18, 19, 20] [20, 100000, 100009, 3460004] k ⟨[(0, .ptr 100000 g 0), (4, .ptr 3460004 g4 0), (18, .own (nmv b) g2 off 64), (19, .int .i64 64), (20, .int .i64 i)], HX b g2 (.arr 1 (byteRows lb) fz) g S [⟨3460004, g4, .var (ws (LW 16 (blkOf lb off) i))⟩], c⟩ =
    some (.exit 0, ⟨[(0, .ptr 100000 g 0), (4, .ptr 3460004 g4 0), (18, .own (nmv b) g2 off 64), (19, .int .i64 64), (20, .int .i64 64), (21, .bool false)], HX b g2 (.arr 1 (byteRows lb) fz) g S [⟨3460004, g4, .var (ws (LW 16 (blkOf lb off) 64))⟩], c⟩)
  | 0, i, 0, hi, hk => by omega
  | 0, i, k + 1, hi, hk => by
    obtain rfl : i = 64 := by omega
    rw [iter_succ]
    cases b <;> simp -implicitDefEqProofs [b46i_2, HX, nmv]
  | d + 1, i, 0, hi, hk => by omega
  | d + 1, i, k + 1, hi, hk => by
    rw [stepW Φ K b g2 g g4 c k fz lb off i S _ (LW_len _ _ _) (by omega) ho, LW_set 16 _ i (by omega) _ (blkOf_get lb off i (by omega) ho)]
    exact loopW Φ K b g2 g g4 c fz lb off S ho d (i + 1) k (by omega) (by omega)
theorem z53_ws : ws (List.replicate 16 (0 : W)) = z78 := by kernel_rfl
theorem LW0 (l : List UInt8) : ws (LW 16 l 0) = z78 := by
  have : LW 16 l 0 = List.replicate 16 0 := by
    unfold LW ar
    simp [wd, List.map_const']
  rw [this]; exact z53_ws
theorem LW64 (l : List UInt8) : LW 16 l 64 = win (wf l) 0 := by
  unfold LW win
  apply ar_congr
  intro i hi
  rw [show min 4 (64 - 4 * i) = 4 by omega, show 0 + (i + 16 - 0 % 16) % 16 = i by omega, wf_lo l hi]
end Go.Abs.Tryd

namespace Go.Abs.Tryd
open Go Go.Abs Go.Proofs Go.Abs.Sha
set_option maxHeartbeats 64000000
set_option maxRecDepth 100000
set_option linter.unusedSimpArgs false
set_option linter.unusedVariables false
def vc (v : V8) : List AV := [.int .u32 (N v.v0), .int .u32 (N v.v1), .int .u32 (N v.v2), .int .u32 (N v.v3), .int .u32 (N v.v4), .int .u32 (N v.v5), .int .u32 (N v.v6), .int .u32 (N v.v7)]
theorem stepR (n K : Nat) (b : Bool) (g2 g g4 g7 c k : Nat) (A S : Blk) (t : Nat) (L : List W) (hL : L.length = 16) (ht : t < 64) (v : V8) (hg4 : g4 < c) (hg7 : g7 < c) :
    iter (ev (Q (n + 2)) K b46i_1) [0, 4, 7, 41, 42] [20, 100000, 100009, 3460004, 3460007] (k + 1) ⟨[(0, .ptr 100000 g 0), (4, .ptr 3460004 g4 0), (7, .ptr 3460007 g7 0), (41, .agg (ws KK)), (42, .int .i64 t)], HX b g2 A g S [⟨3460004, g4, .var (ws L)⟩, ⟨3460007, g7, .var (vc v)⟩], c⟩ =
    iter (ev (Q (n + 2)) K b46i_1) [0, 4, 7, 41, 42] [20, 100000, 100009, 3460004, 3460007] k ⟨[(0, .ptr 100000 g 0), (4, .ptr 3460004 g4 0), (7, .ptr 3460007 g7 0), (41, .agg (ws KK)), (42, .int .i64 (t + 1 : Nat))], HX b g2 A g S [⟨3460004, g4, .var (ws (L.set (t % 16) (L.getD (t % 16) 0 + (L.getD ((t + 9) % 16) 0 + s0 (L.getD ((t + 1) % 16) 0) + s1 (L.getD ((t + 14) % 16) 0)))))⟩, ⟨3460007, g7, .var (vc (stp (KK.getD t 0) (L.getD (t % 16) 0) v))⟩], c⟩ := by
  have h1 : (t : Int) < 64 := by omega
  have w1 : IntKind.i64.wrap ((t : Int) + 1) = (t : Int) + 1 := wrap_i64 _ (by omega) (by omega)
  have w9 : IntKind.i64.wrap ((t : Int) + 9) = (t : Int) + 9 := wrap_i64 _ (by omega) (by omega)
  have w14 : IntKind.i64.wrap ((t : Int) + 14) = (t : Int) + 14 := wrap_i64 _ (by omega) (by omega)
  have hlen := ws_len L
  have kl := ws_len KK
  have k0 := KK_len
  have hk := ws_at (L := KK) (i := t) (by omega)
  have hk2 := (List.getElem?_eq_some_iff.1 hk).2
  have m0 : t % 16 < 16 := by omega
  have m0' : t % 16 ≤ 15 := by omega
  have m1 : (t + 1) % 16 < 16 := by omega
  have m9 : (t + 9) % 16 < 16 := by omega
  have m14 : (t + 14) % 16 < 16 := by omega
  have a0 := ws_at (L := L) (i := t % 16) (by omega)
  have a1 := ws_at (L := L) (i := (t + 1) % 16) (by omega)
  have a9 := ws_at (L := L) (i := (t + 9) % 16) (by omega)
  have a14 := ws_at (L := L) (i := (t + 14) % 16) (by omega)
  have b0 := (List.getElem?_eq_some_iff.1 a0).2
  have b1 := (List.getElem?_eq_some_iff.1 a1).2
  have b9 := (List.getElem?_eq_some_iff.1 a9).2
  have b14 := (List.getElem?_eq_some_iff.1 a14).2
  have c0 : ((t : Int) % 16).toNat = t % 16 := by omega
  have c1 : (((t : Int) + 1) % 16).toNat = (t + 1) % 16 := by omega
  have c9 : (((t : Int) + 9) % 16).toNat = (t + 9) % 16 := by omega
  have c14 : (((t : Int) + 14) % 16).toNat = (t + 14) % 16 := by omega
  have d0 : (0 : Int) ≤ (t : Int) % 16 := by omega
  have d1 : (0 : Int) ≤ ((t : Int) + 1) % 16 := by omega
  have d9 : (0 : Int) ≤ ((t : Int) + 9) % 16 := by omega
  have d14 : (0 : Int) ≤ ((t : Int) + 14) % 16 := by omega
  have e0 : (t : Int).tmod 16 = (t : Int) % 16 := Int.tmod_eq_emod_of_nonneg (by omega)
  have e1 : ((t : Int) + 1).tmod 16 = ((t : Int) + 1) % 16 := Int.tmod_eq_emod_of_nonneg (by omega)
  have e9 : ((t : Int) + 9).tmod 16 = ((t : Int) + 9) % 16 := Int.tmod_eq_emod_of_nonneg (by omega)
  have e14 : ((t : Int) + 14).tmod 16 = ((t : Int) + 14) % 16 := Int.tmod_eq_emod_of_nonneg (by omega)
  have hp := ws_put L (i := t % 16) (L.getD (t % 16) 0 + (L.getD ((t + 9) % 16) 0 + s0 (L.getD ((t + 1) % 16) 0) + s1 (L.getD ((t + 14) % 16) 0))) (by omega)
  have lw := plains_low (ws_plain L)
  have lm := plains_low (ws_plain (L.set (t % 16) (L.getD (t % 16) 0 + (L.getD ((t + 9) % 16) 0 + s0 (L.getD ((t + 1) % 16) 0) + s1 (L.getD ((t + 14) % 16) 0)))))
  generalize ws (L.set (t % 16) (L.getD (t % 16) 0 + (L.getD ((t + 9) % 16) 0 + s0 (L.getD ((t + 1) % 16) 0) + s1 (L.getD ((t + 14) % 16) 0)))) = M at *
  generalize L.getD (t % 16) 0 = x0 at *
  generalize L.getD ((t + 1) % 16) 0 = x1 at *
  generalize L.getD ((t + 9) % 16) 0 = x9 at *
  generalize L.getD ((t + 14) % 16) 0 = x14 at *
  generalize KK.getD t 0 = kk at *
  have f3 := N_shr x1 3
  have f10 := N_shr x14 10
  simp only [show (2 : Int) ^ 3 = 8 from rfl, show (2 : Int) ^ 10 = 1024 from rfl] at f3 f10
  simp only [s0, s1] at hp
  obtain ⟨v0, v1, v2, v3, v4, v5, v6, v7⟩ := v
  cases b
  · apply iter_norm
    simp (config := { maxSteps := 3000000 }) -implicitDefEqProofs [b46i_1, St.keep, HX, h1, ht, w1, w9, w14, hlen, hL, kl, k0, hk, hk2, m0, m1, m9, m14, a0, a1, a9, a14, b0, b1, b9, b14, c0, c1, c9, c14, d0, d1, d9, d14, e0, e1, e9, e14, hp, f3, f10, abin, vc, q47, q48, hg4, hg7, lw, lm, m0', acopy, stp, pp, qq, ch_eq, three6, three2, three7, three17, rot25, rot22]
  · apply iter_norm
    simp (config := { maxSteps := 3000000 }) -implicitDefEqProofs [b46i_1, St.keep, HX, h1, ht, w1, w9, w14, hlen, hL, kl, k0, hk, hk2, m0, m1, m9, m14, a0, a1, a9, a14, b0, b1, b9, b14, c0, c1, c9, c14, d0, d1, d9, d14, e0, e1, e9, e14, hp, f3, f10, abin, vc, q47, q48, hg4, hg7, lw, lm, m0', acopy, stp, pp, qq, ch_eq, three6, three2, three7, three17, rot25, rot22]
end Go.Abs.Tryd

namespace Go.Abs.Tryd
open Go Go.Abs Go.Proofs Go.Abs.Sha
set_option maxHeartbeats 64000000
set_option maxRecDepth 100000
set_option linter.unusedSimpArgs false
set_option linter.unusedVariables false
theorem loopR (n K : Nat) (b : Bool) (g2 g g4 g7 c : Nat) (A S : Blk) (l : List UInt8) (v : V8) (hg4 : g4 < c) (hg7 : g7 < c) : ∀ (d t k : Nat), t + d = 64 → d < k →
    iter (ev (Q (n + 2)) K b46i_1) [0, 4, 7, 41, 42] [20, 100000, 100009, 3460004, 3460007] k ⟨[(0, .ptr 100000 g 0), (4, .ptr 3460004 g4 0), (7, .ptr 3460007 g7 0), (41, .agg (ws KK)), (42, .int .i64 t)], HX b g2 A g S [⟨3460004, g4, .var (ws (win (wf l) t))⟩, ⟨3460007, g7, .var (vc (cmp (wf l) t v))⟩], c⟩ =
    some (.exit 2, ⟨[(0, .ptr 100000 g 0), (4, .ptr 3460004 g4 0), (7, .ptr 3460007 g7 0), (41, .agg (ws KK)), (42, .int .i64 64), (43, .bool false)], HX b g2 A g S [⟨3460004, g4, .var (ws (win (wf l) 64))⟩, ⟨3460007, g7, .var (vc (cmp (wf l) 64 v))⟩], c⟩)
  | 0, t, 0, hi, hk => by omega
  | 0, t, k + 1, hi, hk => by
    obtain rfl : t = 64 := by omega
    rw [iter_succ]
    cases b <;> simp -implicitDefEqProofs [b46i_1, HX]
  | d + 1, t, 0, hi, hk => by omega
  | d + 1, t, k + 1, hi, hk => by
    rw [stepR n K b g2 g g4 g7 c k A S t (win (wf l) t) (ar_len _ _) (by omega) (cmp (wf l) t v) hg4 hg7]
    have w0 := win_get (wf l) t 0 (by omega)
    rw [Nat.add_zero] at w0
    rw [win_get (wf l) t 1 (by omega), win_get (wf l) t 9 (by omega), win_get (wf l) t 14 (by omega), w0]
    rw [win_set (wf l) t _ (by rw [wf_hi l (t := t + 16) (by omega) (by omega)]; simp only [show t + 16 - 16 = t by omega, show t + 16 - 7 = t + 9 by omega, show t + 16 - 15 = t + 1 by omega, show t + 16 - 2 = t + 14 by omega, BitVec.add_assoc])]
    exact loopR n K b g2 g g4 g7 c A S l v hg4 hg7 d (t + 1) k (by omega) (by omega)

theorem stepA0 (Φ : Nat → Option FnF) (K : Nat) (b : Bool) (g2 g c k : Nat) (rows : List (List AV)) (fz : Bool) (off len : Nat) (m : Int) (u0 u1 u2 u3 u4 u5 u6 u7 x0 x1 x2 x3 x4 x5 x6 x7 : W) (hg : g < c) (hg2 : g2 < c) :
    let r : AV := .own (nmv b) g2 off len
    let z : AV := .int .u64 m
    iter (ev Φ K b46i_0) [0, 139, 140] [20, 100000, 100009] (k + 1) ⟨[(0, .ptr 100000 g 0), (139, .agg [.int .u32 (N x0), .int .u32 (N x1), .int .u32 (N x2), .int .u32 (N x3), .int .u32 (N x4), .int .u32 (N x5), .int .u32 (N x6), .int .u32 (N x7)]), (140, .int .i64 0)], HX b g2 (.arr 1 rows fz) g (.var [.int .u32 (N u0), .int .u32 (N u1), .int .u32 (N u2), .int .u32 (N u3), .int .u32 (N u4), .int .u32 (N u5), .int .u32 (N u6), .int .u32 (N u7), r, z]) [], c⟩ =
    iter (ev Φ K b46i_0) [0, 139, 140] [20, 100000, 100009] k ⟨[(0, .ptr 100000 g 0), (139, .agg [.int .u32 (N x0), .int .u32 (N x1), .int .u32 (N x2), .int .u32 (N x3), .int .u32 (N x4), .int .u32 (N x5), .int .u32 (N x6), .int .u32 (N x7)]), (140, .int .i64 1)], HX b g2 (.arr 1 rows fz) g (.var [.int .u32 (N (u0 + x0)), .int .u32 (N u1), .int .u32 (N u2), .int .u32 (N u3), .int .u32 (N u4), .int .u32 (N u5), .int .u32 (N u6), .int .u32 (N u7), r, z]) [], c⟩ := by
  have w1 : IntKind.i64.wrap 1 = 1 := wrap_i64 _ (by omega) (by omega)
  cases b <;> (apply iter_norm; simp -implicitDefEqProofs [b46i_0, St.keep, HX, nmv, hg, hg2, w1, abin])
theorem stepA1 (Φ : Nat → Option FnF) (K : Nat) (b : Bool) (g2 g c k : Nat) (rows : List (List AV)) (fz : Bool) (off len : Nat) (m : Int) (u0 u1 u2 u3 u4 u5 u6 u7 x0 x1 x2 x3 x4 x5 x6 x7 : W) (hg : g < c) (hg2 : g2 < c) :
    let r : AV := .own (nmv b) g2 off len
    let z : AV := .int .u64 m
    iter (ev Φ K b46i_0) [0, 139, 140] [20, 100000, 100009] (k + 1) ⟨[(0, .ptr 100000 g 0), (139, .agg [.int .u32 (N x0), .int .u32 (N x1), .int .u32 (N x2), .int .u32 (N x3), .int .u32 (N x4), .int .u32 (N x5), .int .u32 (N x6), .int .u32 (N x7)]), (140, .int .i64 1)], HX b g2 (.arr 1 rows fz) g (.var [.int .u32 (N (u0 + x0)), .int .u32 (N u1), .int .u32 (N u2), .int .u32 (N u3), .int .u32 (N u4), .int .u32 (N u5), .int .u32 (N u6), .int .u32 (N u7), r, z]) [], c⟩ =
    iter (ev Φ K b46i_0) [0, 139, 140] [20, 100000, 100009] k ⟨[(0, .ptr 100000 g 0), (139, .agg [.int .u32 (N x0), .int .u32 (N x1), .int .u32 (N x2), .int .u32 (N x3), .int .u32 (N x4), .int .u32 (N x5), .int .u32 (N x6), .int .u32 (N x7)]), (140, .int .i64 2)], HX b g2 (.arr 1 rows fz) g (.var [.int .u32 (N (u0 + x0)), .int .u32 (N (u1 + x1)), .int .u32 (N u2), .int .u32 (N u3), .int .u32 (N u4), .int .u32 (N u5), .int .u32 (N u6), .int .u32 (N u7), r, z]) [], c⟩ := by
  have w1 : IntKind.i64.wrap 2 = 2 := wrap_i64 _ (by omega) (by omega)
  cases b <;> (apply iter_norm; simp -implicitDefEqProofs [b46i_0, St.keep, HX, nmv, hg, hg2, w1, abin])
theorem stepA2 (Φ : Nat → Option FnF) (K : Nat) (b : Bool) (g2 g c k : Nat) (rows : List (List AV)) (fz : Bool) (off len : Nat) (m : Int) (u0 u1 u2 u3 u4 u5 u6 u7 x0 x1 x2 x3 x4 x5 x6 x7 : W) (hg : g < c) (hg2 : g2 < c) :
    let r : AV := .own (nmv b) g2 off len
    let z : AV := .int .u64 m
    iter (ev Φ K b46i_0) [0, 139, 140] [20, 100000, 100009] (k + 1) ⟨[(0, .ptr 100000 g 0), (139, .agg [.int .u32 (N x0), .int .u32 (N x1), .int .u32 (N x2), .int .u32 (N x3), .int .u32 (N x4), .int .u32 (N x5), .int .u32 (N x6), .int .u32 (N x7)]), (140, .int .i64 2)], HX b g2 (.arr 1 rows fz) g (.var [.int .u32 (N (u0 + x0)), .int .u32 (N (u1 + x1)), .int .u32 (N u2), .int .u32 (N u3), .int .u32 (N u4), .int .u32 (N u5), .int .u32 (N u6), .int .u32 (N u7), r, z]) [], c⟩ =
    iter (ev Φ K b46i_0) [0, 139, 140] [20, 100000, 100009] k ⟨[(0, .ptr 100000 g 0), (139, .agg [.int .u32 (N x0), .int .u32 (N x1), .int .u32 (N x2), .int .u32 (N x3), .int .u32 (N x4), .int .u32 (N x5), .int .u32 (N x6), .int .u32 (N x7)]), (140, .int .i64 3)], HX b g2 (.arr 1 rows fz) g (.var [.int .u32 (N (u0 + x0)), .int .u32 (N (u1 + x1)), .int .u32 (N (u2 + x2)), .int .u32 (N u3), .int .u32 (N u4), .int .u32 (N u5), .int .u32 (N u6), .int .u32 (N u7), r, z]) [], c⟩ := by
  have w1 : IntKind.i64.wrap 3 = 3 := wrap_i64 _ (by omega) (by omega)
  cases b <;> (apply iter_norm; simp -implicitDefEqProofs [b46i_0, St.keep, HX, nmv, hg, hg2, w1, abin])
theorem stepA3 (Φ : Nat → Option FnF) (K : Nat) (b : Bool) (g2 g c k : Nat) (rows : List (List AV)) (fz : Bool) (off len : Nat) (m : Int) (u0 u1 u2 u3 u4 u5 u6 u7 x0 x1 x2 x3 x4 x5 x6 x7 : W) (hg : g < c) (hg2 : g2 < c) :
    let r : AV := .own (nmv b) g2 off len
    let z : AV := .int .u64 m
    iter (ev Φ K b46i_0) [0, 139, 140] [20, 100000, 100009] (k + 1) ⟨[(0, .ptr 100000 g 0), (139, .agg [.int .u32 (N x0), .int .u32 (N x1), .int .u32 (N x2), .int .u32 (N x3), .int .u32 (N x4), .int .u32 (N x5), .int .u32 (N x6), .int .u32 (N x7)]), (140, .int .i64 3)], HX b g2 (.arr 1 rows fz) g (.var [.int .u32 (N (u0 + x0)), .int .u32 (N (u1 + x1)), .int .u32 (N (u2 + x2)), .int .u32 (N u3), .int .u32 (N u4), .int .u32 (N u5), .int .u32 (N u6), .int .u32 (N u7), r, z]) [], c⟩ =
    iter (ev Φ K b46i_0) [0, 139, 140] [20, 100000, 100009] k ⟨[(0, .ptr 100000 g 0), (139, .agg [.int .u32 (N x0), .int .u32 (N x1), .int .u32 (N x2), .int .u32 (N x3), .int .u32 (N x4), .int .u32 (N x5), .int .u32 (N x6), .int .u32 (N x7)]), (140, .int .i64 4)], HX b g2 (.arr 1 rows fz) g (.var [.int .u32 (N (u0 + x0)), .int .u32 (N (u1 + x1)), .int .u32 (N (u2 + x2)), .int .u32 (N (u3 + x3)), .int .u32 (N u4), .int .u32 (N u5), .int .u32 (N u6), .int .u32 (N u7), r, z]) [], c⟩ := by
  have w1 : IntKind.i64.wrap 4 = 4 := wrap_i64 _ (by omega) (by omega)
  cases b <;> (apply iter_norm; simp -implicitDefEqProofs [b46i_0, St.keep, HX, nmv, hg, hg2, w1, abin])
theorem stepA4 (Φ : Nat → Option FnF) (K : Nat) (b : Bool) (g2 g c k : Nat) (rows : List (List AV)) (fz : Bool) (off len : Nat) (m : Int) (u0 u1 u2 u3 u4 u5 u6 u7 x0 x1 x2 x3 x4 x5 x6 x7 : W) (hg : g < c) (hg2 : g2 < c) :
    let r : AV := .own (nmv b) g2 off len
    let z : AV := .int .u64 m
    iter (ev Φ K b46i_0) [0, 139, 140] [20, 100000, 100009] (k + 1) ⟨[(0, .ptr 100000 g 0), (139, .agg [.int .u32 (N x0), .int .u32 (N x1), .int .u32 (N x2), .int .u32 (N x3), .int .u32 (N x4), .int .u32 (N x5), .int .u32 (N x6), .int .u32 (N x7)]), (140, .int .i64 4)], HX b g2 (.arr 1 rows fz) g (.var [.int .u32 (N (u0 + x0)), .int .u32 (N (u1 + x1)), .int .u32 (N (u2 + x2)), .int .u32 (N (u3 + x3)), .int .u32 (N u4), .int .u32 (N u5), .int .u32 (N u6), .int .u32 (N u7), r, z]) [], c⟩ =
    iter (ev Φ K b46i_0) [0, 139, 140] [20, 100000, 100009] k ⟨[(0, .ptr 100000 g 0), (139, .agg [.int .u32 (N x0), .int .u32 (N x1), .int .u32 (N x2), .int .u32 (N x3), .int .u32 (N x4), .int .u32 (N x5), .int .u32 (N x6), .int .u32 (N x7)]), (140, .int .i64 5)], HX b g2 (.arr 1 rows fz) g (.var [.int .u32 (N (u0 + x0)), .int .u32 (N (u1 + x1)), .int .u32 (N (u2 + x2)), .int .u32 (N (u3 + x3)), .int .u32 (N (u4 + x4)), .int .u32 (N u5), .int .u32 (N u6), .int .u32 (N u7), r, z]) [], c⟩ := by
  have w1 : IntKind.i64.wrap 5 = 5 := wrap_i64 _ (by omega) (by omega)
  cases b <;> (apply iter_norm; simp -implicitDefEqProofs [b46i_0, St.keep, HX, nmv, hg, hg2, w1, abin])
theorem stepA5 (Φ : Nat → Option FnF) (K : Nat) (b : Bool) (g2 g c k : Nat) (rows : List (List AV)) (fz : Bool) (off len : Nat) (m : Int) (u0 u1 u2 u3 u4 u5 u6 u7 x0 x1 x2 x3 x4 x5 x6 x7 : W) (hg : g < c) (hg2 : g2 < c) :
    let r : AV := .own (nmv b) g2 off len
    let z : AV := .int .u64 m
    iter (ev Φ K b46i_0) [0, 139, 140] [20, 100000, 100009] (k + 1) ⟨[(0, .ptr 100000 g 0), (139, .agg [.int .u32 (N x0), .int .u32 (N x1), .int .u32 (N x2), .int .u32 (N x3), .int .u32 (N x4), .int .u32 (N x5), .int .u32 (N x6), .int .u32 (N x7)]), (140, .int .i64 5)], HX b g2 (.arr 1 rows fz) g (.var [.int .u32 (N (u0 + x0)), .int .u32 (N (u1 + x1)), .int .u32 (N (u2 + x2)), .int .u32 (N (u3 + x3)), .int .u32 (N (u4 + x4)), .int .u32 (N u5), .int .u32 (N u6), .int .u32 (N u7), r, z]) [], c⟩ =
    iter (ev Φ K b46i_0) [0, 139, 140] [20, 100000, 100009] k ⟨[(0, .ptr 100000 g 0), (139, .agg [.int .u32 (N x0), .int .u32 (N x1), .int .u32 (N x2), .int .u32 (N x3), .int .u32 (N x4), .int .u32 (N x5), .int .u32 (N x6), .int .u32 (N x7)]), (140, .int .i64 6)], HX b g2 (.arr 1 rows fz) g (.var [.int .u32 (N (u0 + x0)), .int .u32 (N (u1 + x1)), .int .u32 (N (u2 + x2)), .int .u32 (N (u3 + x3)), .int .u32 (N (u4 + x4)), .int .u32 (N (u5 + x5)), .int .u32 (N u6), .int .u32 (N u7), r, z]) [], c⟩ := by
  have w1 : IntKind.i64.wrap 6 = 6 := wrap_i64 _ (by omega) (by omega)
  cases b <;> (apply iter_norm; simp -implicitDefEqProofs [b46i_0, St.keep, HX, nmv, hg, hg2, w1, abin])
theorem stepA6 (Φ : Nat → Option FnF) (K : Nat) (b : Bool) (g2 g c k : Nat) (rows : List (List AV)) (fz : Bool) (off len : Nat) (m : Int) (u0 u1 u2 u3 u4 u5 u6 u7 x0 x1 x2 x3 x4 x5 x6 x7 : W) (hg : g < c) (hg2 : g2 < c) :
    let r : AV := .own (nmv b) g2 off len
    let z : AV := .int .u64 m
    iter (ev Φ K b46i_0) [0, 139, 140] [20, 100000, 100009] (k + 1) ⟨[(0, .ptr 100000 g 0), (139, .agg [.int .u32 (N x0), .int .u32 (N x1), .int .u32 (N x2), .int .u32 (N x3), .int .u32 (N x4), .int .u32 (N x5), .int .u32 (N x6), .int .u32 (N x7)]), (140, .int .i64 6)], HX b g2 (.arr 1 rows fz) g (.var [.int .u32 (N (u0 + x0)), .int .u32 (N (u1 + x1)), .int .u32 (N (u2 + x2)), .int .u32 (N (u3 + x3)), .int .u32 (N (u4 + x4)), .int .u32 (N (u5 + x5)), .int .u32 (N u6), .int .u32 (N u7), r, z]) [], c⟩ =
    iter (ev Φ K b46i_0) [0, 139, 140] [20, 100000, 100009] k ⟨[(0, .ptr 100000 g 0), (139, .agg [.int .u32 (N x0), .int .u32 (N x1), .int .u32 (N x2), .int .u32 (N x3), .int .u32 (N x4), .int .u32 (N x5), .int .u32 (N x6), .int .u32 (N x7)]), (140, .int .i64 7)], HX b g2 (.arr 1 rows fz) g (.var [.int .u32 (N (u0 + x0)), .int .u32 (N (u1 + x1)), .int .u32 (N (u2 + x2)), .int .u32 (N (u3 + x3)), .int .u32 (N (u4 + x4)), .int .u32 (N (u5 + x5)), .int .u32 (N (u6 + x6)), .int .u32 (N u7), r, z]) [], c⟩ := by
  have w1 : IntKind.i64.wrap 7 = 7 := wrap_i64 _ (by omega) (by omega)
  cases b <;> (apply iter_norm; simp -implicitDefEqProofs [b46i_0, St.keep, HX, nmv, hg, hg2, w1, abin])
theorem stepA7 (Φ : Nat → Option FnF) (K : Nat) (b : Bool) (g2 g c k : Nat) (rows : List (List AV)) (fz : Bool) (off len : Nat) (m : Int) (u0 u1 u2 u3 u4 u5 u6 u7 x0 x1 x2 x3 x4 x5 x6 x7 : W) (hg : g < c) (hg2 : g2 < c) :
    let r : AV := .own (nmv b) g2 off len
    let z : AV := .int .u64 m
    iter (ev Φ K b46i_0) [0, 139, 140] [20, 100000, 100009] (k + 1) ⟨[(0, .ptr 100000 g 0), (139, .agg [.int .u32 (N x0), .int .u32 (N x1), .int .u32 (N x2), .int .u32 (N x3), .int .u32 (N x4), .int .u32 (N x5), .int .u32 (N x6), .int .u32 (N x7)]), (140, .int .i64 7)], HX b g2 (.arr 1 rows fz) g (.var [.int .u32 (N (u0 + x0)), .int .u32 (N (u1 + x1)), .int .u32 (N (u2 + x2)), .int .u32 (N (u3 + x3)), .int .u32 (N (u4 + x4)), .int .u32 (N (u5 + x5)), .int .u32 (N (u6 + x6)), .int .u32 (N u7), r, z]) [], c⟩ =
    iter (ev Φ K b46i_0) [0, 139, 140] [20, 100000, 100009] k ⟨[(0, .ptr 100000 g 0), (139, .agg [.int .u32 (N x0), .int .u32 (N x1), .int .u32 (N x2), .int .u32 (N x3), .int .u32 (N x4), .int .u32 (N x5), .int .u32 (N x6), .int .u32 (N x7)]), (140, .int .i64 8)], HX b g2 (.arr 1 rows fz) g (.var [.int .u32 (N (u0 + x0)), .int .u32 (N (u1 + x1)), .int .u32 (N (u2 + x2)), .int .u32 (N (u3 + x3)), .int .u32 (N (u4 + x4)), .int .u32 (N (u5 + x5)), .int .u32 (N (u6 + x6)), .int .u32 (N (u7 + x7)), r, z]) [], c⟩ := by
  have w1 : IntKind.i64.wrap 8 = 8 := wrap_i64 _ (by omega) (by omega)
  cases b <;> (apply iter_norm; simp -implicitDefEqProofs [b46i_0, St.keep, HX, nmv, hg, hg2, w1, abin])
theorem loopA (Φ : Nat → Option FnF) (K : Nat) (b : Bool) (g2 g c k : Nat) (rows : List (List AV)) (fz : Bool) (off len : Nat) (m : Int) (u0 u1 u2 u3 u4 u5 u6 u7 x0 x1 x2 x3 x4 x5 x6 x7 : W) (hg : g < c) (hg2 : g2 < c) :
    iter (ev Φ K b46i_0) [0, 139, 140] [20, 100000, 100009] (k + 9) ⟨[(0, .ptr 100000 g 0), (139, .agg [.int .u32 (N x0), .int .u32 (N x1), .int .u32 (N x2), .int .u32 (N x3), .int .u32 (N x4), .int .u32 (N x5), .int .u32 (N x6), .int .u32 (N x7)]), (140, .int .i64 0)], HX b g2 (.arr 1 rows fz) g (.var [.int .u32 (N u0), .int .u32 (N u1), .int .u32 (N u2), .int .u32 (N u3), .int .u32 (N u4), .int .u32 (N u5), .int .u32 (N u6), .int .u32 (N u7), .own (nmv b) g2 off len, .int .u64 m]) [], c⟩ =
    some (.exit 4, ⟨[(0, .ptr 100000 g 0), (139, .agg [.int .u32 (N x0), .int .u32 (N x1), .int .u32 (N x2), .int .u32 (N x3), .int .u32 (N x4), .int .u32 (N x5), .int .u32 (N x6), .int .u32 (N x7)]), (140, .int .i64 8), (141, .bool false)], HX b g2 (.arr 1 rows fz) g (.var [.int .u32 (N (u0 + x0)), .int .u32 (N (u1 + x1)), .int .u32 (N (u2 + x2)), .int .u32 (N (u3 + x3)), .int .u32 (N (u4 + x4)), .int .u32 (N (u5 + x5)), .int .u32 (N (u6 + x6)), .int .u32 (N (u7 + x7)), .own (nmv b) g2 off len, .int .u64 m]) [], c⟩) := by
  rw [stepA0 Φ K b g2 g c (k + 8) rows fz off len m u0 u1 u2 u3 u4 u5 u6 u7 x0 x1 x2 x3 x4 x5 x6 x7 hg hg2]
  rw [stepA1 Φ K b g2 g c (k + 7) rows fz off len m u0 u1 u2 u3 u4 u5 u6 u7 x0 x1 x2 x3 x4 x5 x6 x7 hg hg2]
  rw [stepA2 Φ K b g2 g c (k + 6) rows fz off len m u0 u1 u2 u3 u4 u5 u6 u7 x0 x1 x2 x3 x4 x5 x6 x7 hg hg2]
  rw [stepA3 Φ K b g2 g c (k + 5) rows fz off len m u0 u1 u2 u3 u4 u5 u6 u7 x0 x1 x2 x3 x4 x5 x6 x7 hg hg2]
  rw [stepA4 Φ K b g2 g c (k + 4) rows fz off len m u0 u1 u2 u3 u4 u5 u6 u7 x0 x1 x2 x3 x4 x5 x6 x7 hg hg2]
  rw [stepA5 Φ K b g2 g c (k + 3) rows fz off len m u0 u1 u2 u3 u4 u5 u6 u7 x0 x1 x2 x3 x4 x5 x6 x7 hg hg2]
  rw [stepA6 Φ K b g2 g c (k + 2) rows fz off len m u0 u1 u2 u3 u4 u5 u6 u7 x0 x1 x2 x3 x4 x5 x6 x7 hg hg2]
  rw [stepA7 Φ K b g2 g c (k + 1) rows fz off len m u0 u1 u2 u3 u4 u5 u6 u7 x0 x1 x2 x3 x4 x5 x6 x7 hg hg2]
  rw [iter_succ]
  cases b <;> simp -implicitDefEqProofs [b46i_0, HX, nmv]
theorem cmp_0 (w : Nat → W) (v : V8) : cmp w 0 v = v := rfl
theorem round23 (n : Nat) (b : Bool) (g2 g c : Nat) (fz : Bool) (lb : List UInt8) (off len : Nat) (m : Int) (v : V8) (ho : off + 64 ≤ lb.length) (hg : g < c) (hg2 : g2 < c) :
    I (n + 3) 46 (HX b g2 (.arr 1 (byteRows lb) fz) g (.var (vc v ++ [.own (nmv b) g2 off len, .int .u64 m])) []) c [.ptr 100000 g 0, .own (nmv b) g2 off 64] =
    some (.tup [], HX b g2 (.arr 1 (byteRows lb) fz) g (.var (vc (blk (blkOf lb off) v) ++ [.own (nmv b) g2 off len, .int .u64 m])) [], c + 2) := by
  rw [i46]
  have lw := loopW (Q (n + 2)) 3000 b g2 g c (c + 1) fz lb off (.var (vc v ++ [.own (nmv b) g2 off len, .int .u64 m])) ho 64 0 3000 (by omega) (by omega)
  rw [LW0, LW64] at lw
  have lr := loopR n 3000 b g2 g c (c + 1) (c + 1 + 1) (.arr 1 (byteRows lb) fz) (.var (vc v ++ [.own (nmv b) g2 off len, .int .u64 m])) (blkOf lb off) v (by omega) (by omega) 64 0 3000 (by omega) (by omega)
  have hblk : blk (blkOf lb off) v = add8 v (cmp (wf (blkOf lb off)) 64 v) := rfl
  rw [hblk]
  rw [cmp_0] at lr
  generalize hV : (cmp (wf (blkOf lb off)) 64 v) = V at *
  generalize win (wf (blkOf lb off)) 64 = W64 at *
  generalize win (wf (blkOf lb off)) 0 = W0 at *
  obtain ⟨u0, u1, u2, u3, u4, u5, u6, u7⟩ := v
  obtain ⟨x0, x1, x2, x3, x4, x5, x6, x7⟩ := V
  have hgl : Globs.look 3 = some (ws KK) := by rw [← glob1_ws]; rfl
  have kl : (ws KK).length = 64 := by rw [ws_len, KK_len]
  have kt : (ws KK).take 64 = ws KK := List.take_of_length_le (by omega)
  have la := loopA (Q (n + 2)) 3000 b g2 g (c + 1 + 1) 2991 (byteRows lb) fz off len m u0 u1 u2 u3 u4 u5 u6 u7 x0 x1 x2 x3 x4 x5 x6 x7 (by omega) (by omega)
  have z1 : z63.length = 8 := rfl
  have z2 : z63.drop 8 = [] := rfl
  clear hV hblk
  cases b
  · simp [HX, nmv, vc] at lw lr la
    simp -implicitDefEqProofs [evInl, a46i, c46i, HX, nmv, vc]
    rw [iter_keep]; simp
    rw [lw]
    simp -implicitDefEqProofs [HX, nmv, vc, hgl, kl, kt, z1, z2]
    rw [iter_keep]; simp
    rw [lr]
    simp -implicitDefEqProofs [HX, nmv, vc]
    rw [iter_keep]; simp
    rw [la]
    simp [add8]
  · simp [HX, nmv, vc] at lw lr la
    simp -implicitDefEqProofs [evInl, a46i, c46i, HX, nmv, vc]
    rw [iter_keep]; simp
    rw [lw]
    simp -implicitDefEqProofs [HX, nmv, vc, hgl, kl, kt, z1, z2]
    rw [iter_keep]; simp
    rw [lr]
    simp -implicitDefEqProofs [HX, nmv, vc]
    rw [iter_keep]; simp
    rw [la]
    simp [add8]
end Go.Abs.Tryd

namespace Go.Abs.Tryd
open Go Go.Abs Go.Proofs Go.Abs.Sha
set_option maxHeartbeats 64000000
set_option maxRecDepth 100000
set_option linter.unusedSimpArgs false
set_option linter.unusedVariables false
theorem step19 (n K : Nat) (b : Bool) (g2 g c k : Nat) (fz : Bool) (lb : List UInt8) (off len : Nat) (m : Int) (v : V8) (ho : off + len = lb.length) (h64 : 64 ≤ len) (hg : g < c) (hg2 : g2 < c) :
    iter (ev (Q (n + 3)) K b43_0) [0] [20, 100000, 100009] (k + 1) ⟨[(0, .ptr 100000 g 0)], HX b g2 (.arr 1 (byteRows lb) fz) g (.var (vc v ++ [.own (nmv b) g2 off len, .int .u64 m])) [], c⟩ =
    iter (ev (Q (n + 3)) K b43_0) [0] [20, 100000, 100009] k ⟨[(0, .ptr 100000 g 0)], HX b g2 (.arr 1 (byteRows lb) fz) g (.var (vc (blk (blkOf lb off) v) ++ [.own (nmv b) g2 (off + 64) (len - 64), .int .u64 m])) [], c + 2⟩ := by
  have hr := round23 n b g2 g c fz lb off len m v (by omega) hg hg2
  generalize blk (blkOf lb off) v = V at *
  obtain ⟨u0, u1, u2, u3, u4, u5, u6, u7⟩ := v
  obtain ⟨x0, x1, x2, x3, x4, x5, x6, x7⟩ := V
  have rl := rows_len lb
  have c1 : (64 : Int) ≤ (len : Int) := by omega
  have c2 : 64 ≤ lb.length - off := by omega
  have c2' : (64 : Int) ≤ ((lb.length - off : Nat) : Int) := by omega
  have c3 : off + 64 ≤ lb.length := by omega
  have c4 : off + len ≤ lb.length := by omega
  cases b
  · apply iter_norm
    simp [HX, nmv, vc] at hr
    simp -implicitDefEqProofs [b43_0, St.keep, HX, nmv, vc, rl, abin, c1, c2, c2', c3, c4, h64, q46, hr]
  · apply iter_norm
    simp [HX, nmv, vc] at hr
    simp -implicitDefEqProofs [b43_0, St.keep, HX, nmv, vc, rl, abin, c1, c2, c2', c3, c4, h64, q46, hr]
theorem loop19 (n K : Nat) (b : Bool) (g2 g : Nat) (fz : Bool) (lb : List UInt8) (m : Int) : ∀ (d off len c k : Nat) (v : V8), len / 64 = d → d < k → off + len = lb.length → g < c → g2 < c →
    ∃ e off' len' c', iter (ev (Q (n + 3)) K b43_0) [0] [20, 100000, 100009] k ⟨[(0, .ptr 100000 g 0)], HX b g2 (.arr 1 (byteRows lb) fz) g (.var (vc v ++ [.own (nmv b) g2 off len, .int .u64 m])) [], c⟩ =
      some (.exit 0, ⟨e, HX b g2 (.arr 1 (byteRows lb) fz) g (.var (vc (absorb (lb.drop off) v).1 ++ [.own (nmv b) g2 off' len', .int .u64 m])) [], c'⟩) ∧ off' + len' = lb.length ∧ (absorb (lb.drop off) v).2 = lb.drop off'
  | 0, off, len, c, 0, v, hd, hk, ho, hg, hg2 => by omega
  | 0, off, len, c, k + 1, v, hd, hk, ho, hg, hg2 => by
    have hs : (lb.drop off).length < 64 := by rw [List.length_drop]; omega
    rw [absorb_short v hs]
    obtain ⟨u0, u1, u2, u3, u4, u5, u6, u7⟩ := v
    have c1 : ¬ (64 : Int) ≤ (len : Int) := by omega
    have : ∃ e, iter (ev (Q (n + 3)) K b43_0) [0] [20, 100000, 100009] (k + 1) ⟨[(0, .ptr 100000 g 0)], HX b g2 (.arr 1 (byteRows lb) fz) g (.var (vc ⟨u0, u1, u2, u3, u4, u5, u6, u7⟩ ++ [.own (nmv b) g2 off len, .int .u64 m])) [], c⟩ =
      some (.exit 0, ⟨e, HX b g2 (.arr 1 (byteRows lb) fz) g (.var (vc ⟨u0, u1, u2, u3, u4, u5, u6, u7⟩ ++ [.own (nmv b) g2 off len, .int .u64 m])) [], c⟩) := by
      rw [iter_succ]
      cases b <;> simp -implicitDefEqProofs [b43_0, HX, nmv, vc, abin, c1]
    obtain ⟨e, he⟩ := this
    exact ⟨e, off, len, c, he, ho, rfl⟩
  | d + 1, off, len, c, 0, v, hd, hk, ho, hg, hg2 => by omega
  | d + 1, off, len, c, k + 1, v, hd, hk, ho, hg, hg2 => by
    rw [step19 n K b g2 g c k fz lb off len m v ho (by omega) hg hg2]
    have hl : 64 ≤ (lb.drop off).length := by rw [List.length_drop]; omega
    rw [absorb_long v hl, List.drop_drop]
    exact loop19 n K b g2 g fz lb m d (off + 64) (len - 64) (c + 2) k _ (by omega) (by omega) (by omega) (by omega) (by omega)
/-- what lies in rest -/
inductive Rst : AV → List UInt8 → Prop
  | nil : Rst .nilS []
  | fr (l : List UInt8) : Rst (.fr 1 (byteRows l)) l
theorem take19 (n : Nat) (r : AV) (l p : List UInt8) (m : Int) (v : V8) (R : Rst r l) (h : l.length + p.length ≤ 150000) :
    ∃ r', E (n + 4) 43 [.pv (vc v ++ [r, .int .u64 m]), .str ⟨p.toArray⟩] = some (.tup [], [vc (absorb (l ++ p) v).1 ++ [r', .int .u64 (IntKind.u64.wrap (m + IntKind.u64.wrap p.length))]]) ∧ Rst r' (absorb (l ++ p) v).2 := by
  rw [e43]
  have sz : (⟨p.toArray⟩ : ByteArray).size = p.length := by simp [ByteArray.size]
  generalize hM : IntKind.u64.wrap (m + IntKind.u64.wrap p.length) = M
  cases R with
  | nil =>
    cases p with
    | nil =>
      refine ⟨.nilS, ?_, ?_⟩
      · rw [show ([] : List UInt8) ++ [] = [] from rfl, absorb_short v (by simp)]
        obtain ⟨u0, u1, u2, u3, u4, u5, u6, u7⟩ := v
        simp at hM
        simp -implicitDefEqProofs [a43, c43, vc, abin, aappend, byteRows, iter_succ, b43_0, hM]
      · rw [show ([] : List UInt8) ++ [] = [] from rfl, absorb_short v (by simp)]; exact .nil
    | cons x p =>
      rw [List.nil_append]
      obtain ⟨e, off', len', c', hl, ho, ha⟩ := loop19 n 3000 true 1 0 false (x :: p) M ((p.length + 1) / 64) 0 (p.length + 1) 2 3000 v rfl (by simp at h; omega) (by simp) (by omega) (by omega)
      rw [List.drop_zero] at hl ha
      refine ⟨.fr 1 (byteRows ((x :: p).drop off')), ?_, by rw [ha]; exact .fr _⟩
      have rl := rows_len (x :: p)
      have hb : byteRows (x :: p) = [.int .u8 x.toNat] :: byteRows p := rfl
      have h2 : p.length ≤ 17592186044415 := by simp at h; omega
      have lp := rows_len p
      have ht : (byteRows ((x :: p).drop off')).take len' = byteRows ((x :: p).drop off') := List.take_of_length_le (by rw [rows_len, List.length_drop]; omega)
      rw [← rows_drop] at ht ⊢
      have hle : off' + len' ≤ (byteRows (x :: p)).length := by omega
      generalize (absorb (x :: p) v).1 = V at *
      obtain ⟨u0, u1, u2, u3, u4, u5, u6, u7⟩ := v
      obtain ⟨x0, x1, x2, x3, x4, x5, x6, x7⟩ := V
      simp [HX, nmv, vc] at hl
      have hM' : IntKind.u64.wrap (m + IntKind.u64.wrap ((p.length : Int) + 1)) = M := by rw [← hM]; simp
      have e1 : (⟨(x :: p).toArray⟩ : ByteArray).data.toList = x :: p := rfl
      simp -implicitDefEqProofs [a43, c43, vc, abin, aappend, sz, hM', hb, lp, maxBytes, h2]
      rw [← hb, iter_keep]
      simp
      rw [hl]
      simp -implicitDefEqProofs [hle, ht]
  | fr =>
    obtain ⟨e, off', len', c', hl, ho, ha⟩ := loop19 n 3000 false 2 1 false (l ++ p) M ((l.length + p.length) / 64) 0 (l.length + p.length) 3 3000 v rfl (by omega) (by simp) (by omega) (by omega)
    rw [List.drop_zero] at hl ha
    refine ⟨.fr 1 (byteRows ((l ++ p).drop off')), ?_, by rw [ha]; exact .fr _⟩
    have rl := rows_len l
    have rp := rows_len p
    have rlp := rows_len (l ++ p)
    rw [List.length_append] at ho rlp
    have ht : (byteRows ((l ++ p).drop off')).take len' = byteRows ((l ++ p).drop off') := List.take_of_length_le (by rw [rows_len, List.length_drop, List.length_append]; omega)
    rw [← rows_drop] at ht ⊢
    have hle : off' + len' ≤ (byteRows (l ++ p)).length := by omega
    have hb := rows_append l p
    have tk : (byteRows l).take l.length = byteRows l := List.take_of_length_le (by omega)
    have h2 : l.length + p.length ≤ 17592186044416 := by omega
    generalize (absorb (l ++ p) v).1 = V at *
    obtain ⟨u0, u1, u2, u3, u4, u5, u6, u7⟩ := v
    obtain ⟨x0, x1, x2, x3, x4, x5, x6, x7⟩ := V
    simp [HX, nmv, vc] at hl
    have e1 : (⟨p.toArray⟩ : ByteArray).data.toList = p := rfl
    have h3 : l.length + p.length ≤ l.length ↔ p = [] := by
      constructor
      · intro h; exact List.eq_nil_of_length_eq_zero (by omega)
      · rintro rfl; simp
    by_cases hp : p = []
    · subst hp
      simp at hM hb hl hle ht rlp
      simp -implicitDefEqProofs [a43, c43, vc, abin, aappend, hM, rl, rp, maxBytes, tk, show byteRows [] = [] from rfl, show l.length ≤ 17592186044416 by omega]
      rw [iter_keep]
      simp
      rw [hl]
      simp -implicitDefEqProofs [hle, ht]
    · simp -implicitDefEqProofs [a43, c43, vc, abin, aappend, hM, sz, rl, rp, maxBytes, tk, h2, h3, hp]
      rw [← hb, iter_keep]
      simp
      rw [hl]
      simp -implicitDefEqProofs [hle, ht]
end Go.Abs.Tryd

namespace Go.Abs.Tryd
open Go Go.Abs Go.Proofs Go.Abs.Sha
set_option maxHeartbeats 64000000
set_option maxRecDepth 100000
set_option linter.unusedSimpArgs false
set_option linter.unusedVariables false
theorem begin18 (n : Nat) : E (n + 1) 42 [] = some (.agg (vc iv ++ [.nilS, .int .u64 0]), []) := by kernel_rfl
/-- what lies in rest, in the caller's memory -/
inductive R3 (c : Nat) : AV → List UInt8 → AH → Prop
  | nil : R3 c .nilS [] []
  | own (l : List UInt8) (g : Nat) (hg : g < c) : R3 c (.own 1003008 g 0 l.length) l [⟨1003008, g, .arr 1 (byteRows l) false⟩]
def strRows (ps : List (List UInt8)) : List (List AV) := ps.map fun p => [.str ⟨p.toArray⟩]
theorem strRows_at {ps : List (List UInt8)} {i : Nat} (h : i < ps.length) : (strRows ps)[i]? = some [.str ⟨(ps[i]).toArray⟩] := by simp [strRows, h]
theorem strRows_len (ps) : (strRows ps).length = ps.length := by simp [strRows]
theorem stepP (n K : Nat) (g2 g3 c k : Nat) (x : Bool) (ps : List (List UInt8)) (i : Nat) (v : V8) (r : AV) (l : List UInt8) (h : AH) (m : Nat) (R : R3 c r l h) (hi : i < ps.length) (hN : ps.length < 3000) (hg2 : g2 < c) (hg3 : g3 < c)
    (hl : l.length < 64) (hp : (ps[i]).length ≤ 100000) (hm : m ≤ 1000000000000) :
    ∃ r' h' c', iter (ev (Q (n + 4)) K b34_2) [2, 3, 12, 13, 14] [2, 3, 12008, 100000, 1003008] (k + 1) ⟨[(2, .ptr 2 g2 0), (3, .ptr 3 g3 0), (12, .ro x 1 (strRows ps)), (13, .int .i64 ps.length), (14, .int .i64 i)], ⟨2, g2, .var z29⟩ :: ⟨3, g3, .var (vc v ++ [r, .int .u64 m])⟩ :: h, c⟩ =
    iter (ev (Q (n + 4)) K b34_2) [2, 3, 12, 13, 14] [2, 3, 12008, 100000, 1003008] k ⟨[(2, .ptr 2 g2 0), (3, .ptr 3 g3 0), (12, .ro x 1 (strRows ps)), (13, .int .i64 ps.length), (14, .int .i64 (i + 1 : Nat))], ⟨2, g2, .var z29⟩ :: ⟨3, g3, .var (vc (absorb (l ++ ps[i]) v).1 ++ [r', .int .u64 (m + (ps[i]).length : Nat)])⟩ :: h', c'⟩ ∧ R3 c' r' (absorb (l ++ ps[i]) v).2 h' ∧ c ≤ c' := by
  have h1 : (i : Int) < (ps.length : Int) := by omega
  have w1 : IntKind.i64.wrap ((i : Int) + 1) = (i : Int) + 1 := wrap_i64 _ (by omega) (by omega)
  have sr := strRows_at hi
  have sr2 := (List.getElem?_eq_some_iff.1 sr).2
  have sl := strRows_len ps
  generalize ps[i] = p at *
  have wm : IntKind.u64.wrap ((m : Int) + IntKind.u64.wrap p.length) = ((m + p.length : Nat) : Int) := by rw [wrap_u64, wrap_u64]; omega
  cases R with
  | nil =>
    obtain ⟨r', ht, R'⟩ := take19 n .nilS [] p m v .nil (by simp; omega)
    rw [wm] at ht
    generalize absorb ([] ++ p) v = A at *
    obtain ⟨V, l'⟩ := A
    simp only at ht R'
    obtain ⟨u0, u1, u2, u3, u4, u5, u6, u7⟩ := v
    obtain ⟨x0, x1, x2, x3, x4, x5, x6, x7⟩ := V
    simp only [vc, List.cons_append, List.nil_append] at ht
    cases R' with
    | nil =>
      refine ⟨.nilS, [], c, ?_, .nil, Nat.le_refl _⟩
      apply iter_norm
      simp -implicitDefEqProofs [b34_2, St.keep, h1, hi, w1, sr, sr2, sl, vc, abin, q43, ht, hg2, hg3]
    | fr =>
      refine ⟨.own 1003008 c 0 l'.length, [⟨1003008, c, .arr 1 (byteRows l') false⟩], c + 1, ?_, .own _ _ (by omega), by omega⟩
      apply iter_norm
      simp -implicitDefEqProofs [b34_2, St.keep, h1, hi, w1, sr, sr2, sl, vc, abin, q43, ht, hg2, hg3, rows_len]
  | own _ g hg =>
    obtain ⟨r', ht, R'⟩ := take19 n (.fr 1 (byteRows l)) l p m v (.fr _) (by omega)
    rw [wm] at ht
    generalize absorb (l ++ p) v = A at *
    obtain ⟨V, l'⟩ := A
    simp only at ht R'
    obtain ⟨u0, u1, u2, u3, u4, u5, u6, u7⟩ := v
    obtain ⟨x0, x1, x2, x3, x4, x5, x6, x7⟩ := V
    simp only [vc, List.cons_append, List.nil_append] at ht
    have rl := rows_len l
    have tk : (byteRows l).take l.length = byteRows l := List.take_of_length_le (by omega)
    cases R' with
    | nil =>
      refine ⟨.nilS, [], c, ?_, .nil, Nat.le_refl _⟩
      apply iter_norm
      simp -implicitDefEqProofs [b34_2, St.keep, h1, hi, w1, sr, sr2, sl, vc, abin, q43, ht, hg2, hg3, rl, tk]
    | fr =>
      refine ⟨.own 1003008 c 0 l'.length, [⟨1003008, c, .arr 1 (byteRows l') false⟩], c + 1, ?_, .own _ _ (by omega), by omega⟩
      apply iter_norm
      simp -implicitDefEqProofs [b34_2, St.keep, h1, hi, w1, sr, sr2, sl, vc, abin, q43, ht, hg2, hg3, rl, tk, rows_len]
theorem loopP (n K : Nat) (g2 g3 : Nat) (x : Bool) (ps : List (List UInt8)) (hN : ps.length < 3000) (hT : ps.flatten.length ≤ 100000) : ∀ (d i k c : Nat) (v : V8) (r : AV) (l : List UInt8) (h : AH), i + d = ps.length → d < k → R3 c r l h → g2 < c → g3 < c → absorb ((ps.take i).flatten) iv = (v, l) →
    ∃ r' h' c', iter (ev (Q (n + 4)) K b34_2) [2, 3, 12, 13, 14] [2, 3, 12008, 100000, 1003008] k ⟨[(2, .ptr 2 g2 0), (3, .ptr 3 g3 0), (12, .ro x 1 (strRows ps)), (13, .int .i64 ps.length), (14, .int .i64 i)], ⟨2, g2, .var z29⟩ :: ⟨3, g3, .var (vc v ++ [r, .int .u64 ((ps.take i).flatten.length : Nat)])⟩ :: h, c⟩ =
      some (.exit 0, ⟨[(2, .ptr 2 g2 0), (3, .ptr 3 g3 0), (12, .ro x 1 (strRows ps)), (13, .int .i64 ps.length), (14, .int .i64 ps.length), (15, .bool false)], ⟨2, g2, .var z29⟩ :: ⟨3, g3, .var (vc (absorb ps.flatten iv).1 ++ [r', .int .u64 (ps.flatten.length : Nat)])⟩ :: h', c'⟩) ∧ R3 c' r' (absorb ps.flatten iv).2 h' ∧ c ≤ c'
  | 0, i, 0, c, v, r, l, h, hi, hk, R, hg2, hg3, ha => by omega
  | 0, i, k + 1, c, v, r, l, h, hi, hk, R, hg2, hg3, ha => by
    obtain rfl : i = ps.length := by omega
    rw [List.take_of_length_le (Nat.le_refl _)] at ha ⊢
    rw [ha]
    refine ⟨r, h, c, ?_, R, Nat.le_refl _⟩
    rw [iter_succ]
    obtain ⟨u0, u1, u2, u3, u4, u5, u6, u7⟩ := v
    cases R <;> simp -implicitDefEqProofs [b34_2, vc]
  | d + 1, i, 0, c, v, r, l, h, hi, hk, R, hg2, hg3, ha => by omega
  | d + 1, i, k + 1, c, v, r, l, h, hi, hk, R, hg2, hg3, ha => by
    have hi' : i < ps.length := by omega
    have e1 : ps.take (i + 1) = ps.take i ++ [ps[i]] := by rw [List.take_add_one, List.getElem?_eq_getElem hi']; rfl
    have e2 : (ps.take (i + 1)).flatten = (ps.take i).flatten ++ ps[i] := by rw [e1, List.flatten_append]; simp only [List.flatten_cons, List.flatten_nil, List.append_nil]
    have e3 : ps.flatten = (ps.take (i + 1)).flatten ++ (ps.drop (i + 1)).flatten := by rw [← List.flatten_append, List.take_append_drop]
    have e4 : (ps.take i).flatten.length + ps[i].length ≤ 100000 := by
      have := congrArg List.length e3
      rw [List.length_append, e2, List.length_append] at this
      omega
    have hl : l.length < 64 := by
      have := absorb_rest _ (ps.take i).flatten iv (Nat.le_refl _)
      rw [ha] at this
      simp only at this
      omega
    obtain ⟨r1, h1, c1, s1, R1, hc⟩ := stepP n K g2 g3 c k x ps i v r l h (ps.take i).flatten.length R hi' hN hg2 hg3 hl (by omega) (by omega)
    rw [s1]
    have ea : absorb ((ps.take (i + 1)).flatten) iv = absorb (l ++ ps[i]) v := by
      rw [e2, absorb_append _ _ _ _ (Nat.le_refl _), ha]
    have el : (ps.take i).flatten.length + ps[i].length = (ps.take (i + 1)).flatten.length := by rw [e2, List.length_append]
    rw [el]
    obtain ⟨r2, h2, c2, s2, R2, hc2⟩ := loopP n K g2 g3 x ps hN hT d (i + 1) k c1 (absorb (l ++ ps[i]) v).1 r1 (absorb (l ++ ps[i]) v).2 h1 (by omega) (by omega) R1 (by omega) (by omega) ea
    exact ⟨r2, h2, c2, s2, R2, by omega⟩
end Go.Abs.Tryd

namespace Go.Abs.Tryd
open Go Go.Abs Go.Proofs Go.Abs.Sha
set_option maxHeartbeats 64000000
set_option maxRecDepth 100000
set_option linter.unusedSimpArgs false
set_option linter.unusedVariables false
theorem byte_shr (a e : Nat) : IntKind.u8.wrap (((a / 2 ^ e : Nat)) : Int) = (((UInt8.ofNat (a / 2 ^ e)).toNat : Nat) : Int) := by
  rw [wrap_u8]; simp
theorem fdiv_pow (a e : Nat) : (a : Int).fdiv (2 ^ e) = ((a / 2 ^ e : Nat) : Int) := by
  rw [Int.fdiv_eq_ediv_of_nonneg _ (Int.le_of_lt (Int.pow_pos (by decide)))]
  simp
theorem stepB (Φ : Nat → Option FnF) (K : Nat) (g2 g3 c k : Nat) (A B : Blk) (h : AH) (r : AV) (l : List UInt8) (R : R3 c r l h) (i x : Nat) (hi : i < 8) (P : List UInt8) (q g : Nat) (hP : P.length ≤ 100) :
    ∃ g' c', iter (ev Φ K b34_1) [2, 3, 6, 7, 33] [2, 3, 30, 44, 12008, 1003008] (k + 1) ⟨[(2, .ptr 2 g2 0), (3, .ptr 3 g3 0), (6, .int .u64 x), (7, .own 30 g 0 P.length), (33, .int .i64 i)], ⟨2, g2, A⟩ :: ⟨3, g3, B⟩ :: ⟨30, g, .arr 1 (byteRows (P ++ List.replicate (q + 1) 0)) false⟩ :: h, c⟩ =
    iter (ev Φ K b34_1) [2, 3, 6, 7, 33] [2, 3, 30, 44, 12008, 1003008] k ⟨[(2, .ptr 2 g2 0), (3, .ptr 3 g3 0), (6, .int .u64 x), (7, .own 30 g' 0 (P ++ [UInt8.ofNat (x / 2 ^ (56 - 8 * i))]).length), (33, .int .i64 (i + 1 : Nat))], ⟨2, g2, A⟩ :: ⟨3, g3, B⟩ :: ⟨30, g', .arr 1 (byteRows ((P ++ [UInt8.ofNat (x / 2 ^ (56 - 8 * i))]) ++ List.replicate q 0)) false⟩ :: h, c'⟩ ∧ c ≤ c' := by
  have h1 : (i : Int) < 8 := by omega
  have w1 : IntKind.i64.wrap ((i : Int) + 1) = (i : Int) + 1 := wrap_i64 _ (by omega) (by omega)
  have w2 : IntKind.i64.wrap (8 * (i : Int)) = 8 * (i : Int) := wrap_i64 _ (by omega) (by omega)
  have w3 : IntKind.i64.wrap (56 - 8 * (i : Int)) = ((56 - 8 * i : Nat) : Int) := by rw [wrap_i64 _ (by omega) (by omega)]; omega
  have m1 : min (56 - 8 * i) 64 = 56 - 8 * i := by omega
  generalize 56 - 8 * i = e at *
  have n1 : ¬ (e : Int) < 0 := by omega
  have f1 := fdiv_pow x e
  have b1 := byte_shr x e
  have tk : (byteRows (P ++ List.replicate (q + 1) 0)).take P.length = byteRows P := by rw [rows_take]; simp
  have dr : (byteRows (P ++ List.replicate (q + 1) 0)).drop (P.length + 1) = byteRows (List.replicate q 0) := by
    rw [rows_drop, List.drop_append, List.drop_eq_nil_of_le (by omega)]; simp
  have ln : (byteRows (P ++ List.replicate (q + 1) 0)).length = P.length + (q + 1) := by rw [rows_len]; simp
  have ea : byteRows ((P ++ [UInt8.ofNat (x / 2 ^ e)]) ++ List.replicate q 0) = byteRows P ++ [AV.int .u8 ((UInt8.ofNat (x / 2 ^ e)).toNat : Nat)] :: byteRows (List.replicate q 0) := by
    simp [byteRows]
  rw [ea]
  generalize byteRows (P ++ List.replicate (q + 1) 0) = M at *
  have l1 : P.length ≤ M.length := by omega
  have l2 : P.length + 1 ≤ M.length := by omega
  have l3 : P.length + 1 ≤ 17592186044416 := by omega
  have l4 : P.length ≤ 17592186044415 := by omega
  refine ⟨c + 1, c + 2, ?_, by omega⟩
  apply iter_norm
  cases R <;> simp -implicitDefEqProofs [b34_1, St.keep, h1, hi, w1, w2, w3, m1, n1, f1, b1, tk, dr, aappend, maxBytes, abin, l1, l2, l3, l4]
  all_goals exact wrap_u8 _
theorem loopB (Φ : Nat → Option FnF) (K : Nat) (g2 g3 : Nat) (A B : Blk) (h : AH) (r : AV) (l : List UInt8) (x : Nat) (P : List UInt8) (hP : P.length ≤ 90) : ∀ (d i k g c : Nat), i + d = 8 → d < k → R3 c r l h →
    ∃ g' c', iter (ev Φ K b34_1) [2, 3, 6, 7, 33] [2, 3, 30, 44, 12008, 1003008] k ⟨[(2, .ptr 2 g2 0), (3, .ptr 3 g3 0), (6, .int .u64 x), (7, .own 30 g 0 (P ++ (be8 x).take i).length), (33, .int .i64 i)], ⟨2, g2, A⟩ :: ⟨3, g3, B⟩ :: ⟨30, g, .arr 1 (byteRows ((P ++ (be8 x).take i) ++ List.replicate (128 - P.length - i) 0)) false⟩ :: h, c⟩ =
      some (.exit 2, ⟨[(2, .ptr 2 g2 0), (3, .ptr 3 g3 0), (6, .int .u64 x), (7, .own 30 g' 0 (P ++ be8 x).length), (33, .int .i64 8), (34, .bool false)], ⟨2, g2, A⟩ :: ⟨3, g3, B⟩ :: ⟨30, g', .arr 1 (byteRows ((P ++ be8 x) ++ List.replicate (120 - P.length) 0)) false⟩ :: h, c'⟩) ∧ R3 c' r l h ∧ c ≤ c'
  | 0, i, 0, g, c, hi, hk, R => by omega
  | 0, i, k + 1, g, c, hi, hk, R => by
    obtain rfl : i = 8 := by omega
    rw [List.take_of_length_le (l := be8 x) (by rw [be8_len]; omega), show 128 - P.length - 8 = 120 - P.length by omega]
    refine ⟨g, c, ?_, R, Nat.le_refl _⟩
    rw [iter_succ]
    cases R <;> simp -implicitDefEqProofs [b34_1]
  | d + 1, i, 0, g, c, hi, hk, R => by omega
  | d + 1, i, k + 1, g, c, hi, hk, R => by
    have hb : i < (be8 x).length := by rw [be8_len]; omega
    have e1 : (be8 x).take (i + 1) = (be8 x).take i ++ [UInt8.ofNat (x / 2 ^ (56 - 8 * i))] := by
      rw [List.take_add_one, List.getElem?_eq_getElem hb]
      simp [be8]
    obtain ⟨g1, c1, s1, hc⟩ := stepB Φ K g2 g3 c k A B h r l R i x (by omega) (P ++ (be8 x).take i) (128 - P.length - i - 1) g (by rw [List.length_append, List.length_take, be8_len]; omega)
    rw [show 128 - P.length - i - 1 + 1 = 128 - P.length - i by omega] at s1
    rw [s1]
    rw [List.append_assoc, ← e1]
    have R1 : R3 c1 r l h := by
      cases R with
      | nil => exact .nil
      | own _ g hg => exact .own _ _ (by omega)
    obtain ⟨g2', c2, s2, R2, hc2⟩ := loopB Φ K g2 g3 A B h r l x P hP d (i + 1) k g1 c1 (by omega) (by omega) R1
    rw [show 128 - P.length - (i + 1) = 128 - P.length - i - 1 by omega] at s2
    exact ⟨g2', c2, s2, R2, by omega⟩
def u8s (t : List UInt8) : List AV := t.map fun b => .int .u8 b.toNat
theorem u8s_len (ds : List UInt8) : (u8s ds).length = ds.length := by simp [u8s]
theorem u8s_plain : ∀ ds : List UInt8, (u8s ds).all AV.plain = true
  | [] => rfl
  | b :: r => by
    have : u8s (b :: r) = .int .u8 b.toNat :: u8s r := rfl
    rw [this, List.all_cons, u8s_plain r]; rfl
def bs (n : Nat) (f : Nat → UInt8) : List UInt8 := (List.range n).map f
@[simp] theorem bs_len (n f) : (bs n f).length = n := by simp [bs]
theorem bs_put {n i : Nat} {f g : Nat → UInt8} {x : UInt8} (h : i < n) (h1 : g i = x) (h2 : ∀ j, j < n → j ≠ i → g j = f j) :
    (u8s (bs n f)).take i ++ AV.int .u8 ((x.toNat : Nat) : Int) :: (u8s (bs n f)).drop (i + 1) = u8s (bs n g) := by
  apply List.ext_getElem?
  intro j
  by_cases e : j < i
  · rw [List.getElem?_append_left (by simp [u8s]; omega)]
    simp [u8s, bs, e, show j < n by omega, h2 j (by omega) (by omega)]
  · rw [List.getElem?_append_right (by simp [u8s]; omega)]
    have ln : (List.take i (u8s (bs n f))).length = i := by simp [u8s]; omega
    rw [ln]
    by_cases e2 : j = i
    · subst e2; simp [u8s, bs, h, h1]
    · obtain ⟨d, rfl⟩ : ∃ d, j = i + (d + 1) := ⟨j - i - 1, by omega⟩
      rw [show i + (d + 1) - i = d + 1 by omega, List.getElem?_cons_succ]
      by_cases hj : i + (d + 1) < n
      · simp [u8s, bs, show i + 1 + d < n by omega, hj, ← h2 (i + (d + 1)) hj (by omega)]
        rw [show i + 1 + d = i + (d + 1) by omega]
        rw [h2 (i + (d + 1)) hj (by omega)]
      · simp [u8s, bs, hj, show ¬ i + 1 + d < n by omega]
end Go.Abs.Tryd

namespace Go.Abs.Tryd
open Go Go.Abs Go.Proofs Go.Abs.Sha
set_option maxHeartbeats 64000000
set_option maxRecDepth 100000
set_option linter.unusedSimpArgs false
set_option linter.unusedVariables false
/-- a digest's byte -/
def dgb (v : V8) (i : Nat) : UInt8 := UInt8.ofNat ((v.list.getD (i / 4) 0).toNat / 2 ^ (24 - 8 * (i % 4)))
theorem dg_bs (v : V8) : dg v = bs 32 (dgb v) := rfl
def dgn (v : V8) (i : Nat) : List UInt8 := bs 32 fun j => if j < i then dgb v j else 0
theorem dgn0 (v : V8) : u8s (dgn v 0) = z29 := by
  have : dgn v 0 = List.replicate 32 0 := by simp [dgn, bs, List.map_const']
  rw [this]
  exact (by kernel_rfl : u8s (List.replicate 32 0) = z29)
theorem dgn32 (v : V8) : dgn v 32 = dg v := by
  rw [dg_bs]; unfold dgn bs
  apply List.map_congr_left
  intro j hj
  rw [if_pos (by simpa using hj)]
theorem vc_list (v : V8) : vc v = ws v.list := rfl
theorem stepD (Φ : Nat → Option FnF) (K : Nat) (g2 g3 g9 c k : Nat) (A : Blk) (C : List AV) (h : AH) (r : AV) (l : List UInt8) (R : R3 c r l h) (i : Nat) (hi : i < 32) (v : V8) (hC : ∀ j, j < 8 → C[j]? = some (.int .u32 (N (v.list.getD j 0)))) :
    iter (ev Φ K b34_0) [2, 3, 9, 49] [2, 3, 9, 12008, 1003008] (k + 1) ⟨[(2, .ptr 2 g2 0), (3, .ptr 3 g3 0), (9, .ptr 9 g9 0), (49, .int .i64 i)], ⟨2, g2, A⟩ :: ⟨3, g3, .var C⟩ :: ⟨9, g9, .var (u8s (dgn v i))⟩ :: h, c⟩ =
    iter (ev Φ K b34_0) [2, 3, 9, 49] [2, 3, 9, 12008, 1003008] k ⟨[(2, .ptr 2 g2 0), (3, .ptr 3 g3 0), (9, .ptr 9 g9 0), (49, .int .i64 (i + 1 : Nat))], ⟨2, g2, A⟩ :: ⟨3, g3, .var C⟩ :: ⟨9, g9, .var (u8s (dgn v (i + 1)))⟩ :: h, c⟩ := by
  have h1 : (i : Int) < 32 := by omega
  have w1 : IntKind.i64.wrap ((i : Int) + 1) = (i : Int) + 1 := wrap_i64 _ (by omega) (by omega)
  have q1 := quo4 i (by omega)
  have j1 : i / 4 < 8 := by omega
  have hc := hC (i / 4) j1
  have hc2 := (List.getElem?_eq_some_iff.1 hc).2
  have hc3 := (List.getElem?_eq_some_iff.1 hc).1
  have z1 : 0 ≤ ((i / 4 : Nat) : Int) := by omega
  have z2 : ((i / 4 : Nat) : Int).toNat = i / 4 := by omega
  have e4 : (i : Int).tmod 4 = ((i % 4 : Nat) : Int) := by rw [Int.tmod_eq_emod_of_nonneg (by omega)]; omega
  have w2 : IntKind.i64.wrap (((i % 4 : Nat) : Int) * 8) = ((i % 4 : Nat) : Int) * 8 := wrap_i64 _ (by omega) (by omega)
  have w3 : IntKind.i64.wrap (24 - ((i % 4 : Nat) : Int) * 8) = ((24 - 8 * (i % 4) : Nat) : Int) := by rw [wrap_i64 _ (by omega) (by omega)]; omega
  have m1 : min (24 - 8 * (i % 4)) 32 = 24 - 8 * (i % 4) := by omega
  have n1 : ¬ ((24 - 8 * (i % 4) : Nat) : Int) < 0 := by omega
  have hb : dgb v i = UInt8.ofNat ((v.list.getD (i / 4) 0).toNat / 2 ^ (24 - 8 * (i % 4))) := rfl
  have hp := bs_put (n := 32) (i := i) (f := fun j => if j < i then dgb v j else 0) (g := fun j => if j < i + 1 then dgb v j else 0) (x := dgb v i) hi (by simp) (by
    intro j hj hne
    by_cases hji : j < i
    · simp [hji, show j < i + 1 by omega]
    · simp [hji, show ¬ j < i + 1 by omega])
  rw [hb] at hp
  change List.take i (u8s (dgn v i)) ++ _ :: List.drop (i + 1) (u8s (dgn v i)) = u8s (dgn v (i + 1)) at hp
  have dl : (u8s (dgn v i)).length = 32 := by rw [u8s_len]; exact bs_len _ _
  generalize u8s (dgn v i) = D1 at *
  generalize u8s (dgn v (i + 1)) = D2 at *
  generalize v.list.getD (i / 4) 0 = y at *
  have f1 := fdiv_pow y.toNat (24 - 8 * (i % 4))
  have b1 := byte_shr y.toNat (24 - 8 * (i % 4))
  change (N y).fdiv _ = _ at f1
  generalize (UInt8.ofNat (y.toNat / 2 ^ (24 - 8 * (i % 4)))).toNat = bb at *
  generalize ((y.toNat / 2 ^ (24 - 8 * (i % 4)) : Nat) : Int) = yy at *
  generalize 24 - 8 * (i % 4) = e at *
  generalize ((i % 4 : Nat) : Int) = r4 at *
  generalize ((i / 4 : Nat) : Int) = u at *
  have p1 : i + 1 ≤ 32 := by omega
  have e4' : (i : Int) % 4 = r4 := by rw [← e4, Int.tmod_eq_emod_of_nonneg (by omega)]
  apply iter_norm
  cases R <;> simp -implicitDefEqProofs [b34_0, St.keep, h1, hi, w1, q1, hc, hc2, hc3, z1, z2, j1, e4, e4', w2, w3, m1, n1, f1, b1, hp, dl, p1, abin]
theorem loopD (Φ : Nat → Option FnF) (K : Nat) (g2 g3 g9 c : Nat) (A : Blk) (C : List AV) (h : AH) (r : AV) (l : List UInt8) (R : R3 c r l h) (v : V8) (hC : ∀ j, j < 8 → C[j]? = some (.int .u32 (N (v.list.getD j 0)))) : ∀ (d i k : Nat), i + d = 32 → d < k →
    iter (ev Φ K b34_0) [2, 3, 9, 49] [2, 3, 9, 12008, 1003008] k ⟨[(2, .ptr 2 g2 0), (3, .ptr 3 g3 0), (9, .ptr 9 g9 0), (49, .int .i64 i)], ⟨2, g2, A⟩ :: ⟨3, g3, .var C⟩ :: ⟨9, g9, .var (u8s (dgn v i))⟩ :: h, c⟩ =
    some (.exit 4, ⟨[(2, .ptr 2 g2 0), (3, .ptr 3 g3 0), (9, .ptr 9 g9 0), (49, .int .i64 32), (50, .bool false)], ⟨2, g2, A⟩ :: ⟨3, g3, .var C⟩ :: ⟨9, g9, .var (u8s (dg v))⟩ :: h, c⟩)
  | 0, i, 0, hi, hk => by omega
  | 0, i, k + 1, hi, hk => by
    obtain rfl : i = 32 := by omega
    rw [dgn32, iter_succ]
    cases R <;> simp -implicitDefEqProofs [b34_0]
  | d + 1, i, 0, hi, hk => by omega
  | d + 1, i, k + 1, hi, hk => by
    rw [stepD Φ K g2 g3 g9 c k A C h r l R i (by omega) v hC]
    exact loopD Φ K g2 g3 g9 c A C h r l R v hC d (i + 1) k (by omega) (by omega)
/-- parts as they come -/
inductive Parts : AV → List (List UInt8) → Prop
  | nil : Parts .nilS []
  | emp : Parts .emp []
  | ro (x : Bool) (ps : List (List UInt8)) : Parts (.ro x 1 (strRows ps)) ps
end Go.Abs.Tryd

namespace Go.Abs.Tryd
open Go Go.Abs Go.Proofs Go.Abs.Sha
set_option maxHeartbeats 64000000
set_option maxRecDepth 100000
set_option linter.unusedSimpArgs false
set_option linter.unusedVariables false
theorem loopPA (n : Nat) (g2 g3 c : Nat) {a : AV} {ps : List (List UInt8)} (hA : Parts a ps) (hN : ps.length < 2999) (hT : ps.flatten.length ≤ 100000) (hg2 : g2 < c) (hg3 : g3 < c) :
    ∃ r h c', iter (ev (Q (n + 4)) 3000 b34_2) [2, 3, 12, 13, 14] [2, 3, 12008, 100000, 1003008] 3000 ⟨[(2, .ptr 2 g2 0), (3, .ptr 3 g3 0), (12, a), (13, .int .i64 ps.length), (14, .int .i64 0)], [⟨2, g2, .var z29⟩, ⟨3, g3, .var (vc iv ++ [.nilS, .int .u64 0])⟩], c⟩ =
      some (.exit 0, ⟨[(2, .ptr 2 g2 0), (3, .ptr 3 g3 0), (12, a), (13, .int .i64 ps.length), (14, .int .i64 ps.length), (15, .bool false)], ⟨2, g2, .var z29⟩ :: ⟨3, g3, .var (vc (absorb ps.flatten iv).1 ++ [r, .int .u64 (ps.flatten.length : Nat)])⟩ :: h, c'⟩) ∧ R3 c' r (absorb ps.flatten iv).2 h ∧ c ≤ c' := by
  cases hA with
  | nil =>
    refine ⟨.nilS, [], c, ?_, by rw [absorb_short _ (by simp)]; exact .nil, Nat.le_refl _⟩
    rw [iter_succ, absorb_short _ (by simp)]
    generalize vc iv = C
    simp -implicitDefEqProofs [b34_2]
  | emp =>
    refine ⟨.nilS, [], c, ?_, by rw [absorb_short _ (by simp)]; exact .nil, Nat.le_refl _⟩
    rw [iter_succ, absorb_short _ (by simp)]
    generalize vc iv = C
    simp -implicitDefEqProofs [b34_2]
  | ro x ps =>
    obtain ⟨r, h, c', e, R, hc⟩ := loopP n 3000 g2 g3 x ps (by omega) hT ps.length 0 3000 c iv .nilS [] [] (by omega) (by omega) .nil hg2 hg3 (by rw [absorb_short _ (by simp)]; rfl)
    exact ⟨r, h, c', e, R, hc⟩
theorem hC_of (V : V8) (x : List AV) (j : Nat) (hj : j < 8) : (vc V ++ x)[j]? = some (.int .u32 (N (V.list.getD j 0))) := by
  have hl : V.list.length = 8 := rfl
  rw [List.getElem?_append_left (by rw [vc_list, ws_len]; omega), vc_list]
  exact ws_at (by omega)
/-- the end: the digest's bytes -/
theorem tail10 (T : Nat) (l : List UInt8) (h : l.length = T % 64) : ((119 - l.length) % 64 : Nat) = zeros T := by unfold zeros; rw [h]
theorem z27_len : z29.length = 32 := rfl
theorem z27_drop : z29.drop 32 = [] := rfl
theorem rep_set (z : Nat) (hz : z < 64) (x : Nat) : (byteRows (List.replicate 128 0)).set 0 [AV.int .u8 128] = byteRows ((128 :: List.replicate z 0 ++ (be8 x).take 0) ++ List.replicate (128 - (128 :: List.replicate z (0 : UInt8)).length - 0) 0) := by
  have e : (List.replicate 128 (0 : UInt8)) = 0 :: List.replicate 127 0 := rfl
  rw [e]
  have e2 : (128 :: List.replicate z (0 : UInt8) ++ (be8 x).take 0) ++ List.replicate (128 - (128 :: List.replicate z (0 : UInt8)).length - 0) 0 = 128 :: List.replicate 127 0 := by
    rw [List.take_zero, List.append_nil, List.cons_append, List.length_cons, List.length_replicate, Nat.sub_zero, List.replicate_append_replicate]
    congr 2
    omega
  rw [e2]
  rfl
theorem of10 (n : Nat) (a : AV) (ps : List (List UInt8)) (hA : Parts a ps) (hN : ps.length < 2999) (hT : ps.flatten.length ≤ 100000) : E (n + 5) 34 [a] = some (.agg (u8s (sha ps.flatten)), []) := by
  rw [e34]
  have hin : ∀ h c nm, inVal h c nm a = some (a, h, c) := by intro h c nm; cases hA <;> rfl
  have hal : alen a = some ps.length := by cases hA <;> simp [strRows_len]
  have hb := begin18 (n + 3)
  obtain ⟨r, h, c, hl, R, hc⟩ := loopPA n 0 1 2 hA hN hT (by omega) (by omega)
  have hr := absorb_rest _ ps.flatten iv (Nat.le_refl _)
  have hsha : sha ps.flatten = dg (absorb ((absorb ps.flatten iv).2 ++ pad ps.flatten.length) (absorb ps.flatten iv).1).1 := by
    unfold sha; rw [absorb_append _ _ _ _ (Nat.le_refl _)]
  rw [hsha]
  generalize hTT : ps.flatten.length = T at *
  generalize absorb ps.flatten iv = A at *
  obtain ⟨V, l⟩ := A
  simp only at hl R hr ⊢
  have w8 : IntKind.u64.wrap ((T : Int) * 8) = ((T * 8 : Nat) : Int) := by rw [wrap_u64]; omega
  have wz : IntKind.i64.wrap (119 - (l.length : Int)) = ((119 - l.length : Nat) : Int) := by rw [wrap_i64 _ (by omega) (by omega)]; omega
  have zl : zeros T < 64 := by unfold zeros; omega
  have tz : ((119 - l.length : Nat) : Int).tmod 64 = (zeros T : Int) := by rw [Int.tmod_eq_emod_of_nonneg (by omega), ← tail10 T l hr]; omega
  have hpad : pad T = (128 :: List.replicate (zeros T) 0) ++ be8 (T * 8) := rfl
  generalize zeros T = z at *
  have w1z : IntKind.i64.wrap (1 + (z : Int)) = 1 + (z : Int) := wrap_i64 _ (by omega) (by omega)
  obtain ⟨gB, cB, lB, RB, hcB⟩ := loopB (Q (n + 4)) 3000 0 1 (.var z29) (.var (vc V ++ [r, .int .u64 T])) h r l (T * 8) (128 :: List.replicate z 0) (by simp; omega) 8 0 3000 c (c + 1) (by omega) (by omega) (by cases R with | nil => exact .nil | own _ g hg => exact .own _ _ (by omega))
  have hset := rep_set z zl (T * 8)
  have h0 : (byteRows (List.replicate 128 0))[0]? = some [AV.int .u8 0] := rfl
  have hrep : List.replicate 128 [AV.int .u8 0] = byteRows (List.replicate 128 0) := by simp [byteRows, -List.reduceReplicate]
  have hPl : ((128 : UInt8) :: List.replicate z 0 ++ (be8 (T * 8)).take 0).length = 1 + z := by simp; omega
  rw [hPl] at lB
  have ml : (byteRows (List.replicate 128 0)).length = 128 := by rw [rows_len, List.length_replicate]
  rw [← hset] at lB
  generalize byteRows (List.replicate 128 0) = M0 at *
  rw [← hpad] at lB
  have tk : (byteRows (pad T ++ List.replicate (120 - ((128 : UInt8) :: List.replicate z 0).length) 0)).take (pad T).length = byteRows (pad T) := by rw [rows_take]; simp
  have pl : (pad T).length ≤ (byteRows (pad T ++ List.replicate (120 - ((128 : UInt8) :: List.replicate z 0).length) 0)).length := by rw [rows_len]; simp
  have tb := toBytes_rows (pad T)
  have pl2 : (pad T).length = 9 + z := by rw [hpad]; simp [be8_len]; omega
  generalize byteRows (pad T ++ List.replicate (120 - ((128 : UInt8) :: List.replicate z 0).length) 0) = MB at *
  have hx1 : z + 1 ≤ 128 := by omega
  obtain ⟨u0, u1, u2, u3, u4, u5, u6, u7⟩ := V
  have z42l : z69.length = 10 := rfl
  have z42d : z69.drop 10 = [] := rfl
  have hx2 : 1 + z ≤ 128 := by omega
  have hx3 : 0 < 1 + z := by omega
  have h0g := (List.getElem?_eq_some_iff.1 h0).2
  have p1 : 0 ≤ 1 + (z : Int) := by omega
  have p2 : (1 + (z : Int)).toNat = 1 + z := by omega
  cases R with
  | nil =>
    have w119 : IntKind.i64.wrap 119 = 119 := wrap_i64 _ (by omega) (by omega)
    simp at wz tz
    obtain ⟨r', ht, R'⟩ := take19 n .nilS [] (pad T) T ⟨u0, u1, u2, u3, u4, u5, u6, u7⟩ .nil (by simp; omega)
    simp only [List.nil_append] at ht R' ⊢
    generalize IntKind.u64.wrap ((T : Int) + IntKind.u64.wrap ((pad T).length : Nat)) = m' at *
    generalize absorb (pad T) ⟨u0, u1, u2, u3, u4, u5, u6, u7⟩ = A' at *
    obtain ⟨V', l'⟩ := A'
    simp only at ht R' ⊢
    simp [vc] at hl lB
    cases R' with
    | nil =>
      have ld := loopD (Q (n + 4)) 3000 0 1 cB (cB + 1) (.var z29) (vc V' ++ [.nilS, .int .u64 m']) [] .nilS [] .nil V' (hC_of V' _) 32 0 3000 (by omega) (by omega)
      rw [dgn0] at ld
      have dp := u8s_plain (dg V')
      have dl : (u8s (dg V')).length = 32 := by rw [u8s_len, dg_bs]; exact bs_len _ _
      generalize u8s (dg V') = D at *
      obtain ⟨x0, x1, x2, x3, x4, x5, x6, x7⟩ := V'
      simp [vc] at ht ld
      have dt : D.take 32 = D := List.take_of_length_le (by omega)
      have dok := plains_cells dp
      have dmv := plains_mv dp
      simp -implicitDefEqProofs [-List.reduceReplicate, a34, c34, hin, hal, q42, hb, abin, vc, z42l, z42d]
      rw [iter_keep]
      simp
      rw [hl]
      simp -implicitDefEqProofs [-List.reduceReplicate, abin, w8, w119, tz, w1z, maxBytes, hrep, h0, ml, hx1, hx2, hx3, h0g, p1, p2]
      rw [iter_keep]
      simp
      rw [lB]
      simp -implicitDefEqProofs [tk, pl, tb, q43, ht, rows_len]
      rw [iter_keep]
      simp
      rw [ld]
      simp -implicitDefEqProofs [dl, dt, dok, dmv, z27_len, z27_drop]
    | fr =>
      have ld := loopD (Q (n + 4)) 3000 0 1 (cB + 1) (cB + 1 + 1) (.var z29) (vc V' ++ [.own 1003008 cB 0 l'.length, .int .u64 m']) [⟨1003008, cB, .arr 1 (byteRows l') false⟩] (.own 1003008 cB 0 l'.length) l' (.own _ _ (by omega)) V' (hC_of V' _) 32 0 3000 (by omega) (by omega)
      rw [dgn0] at ld
      have dp := u8s_plain (dg V')
      have dl : (u8s (dg V')).length = 32 := by rw [u8s_len, dg_bs]; exact bs_len _ _
      generalize u8s (dg V') = D at *
      obtain ⟨x0, x1, x2, x3, x4, x5, x6, x7⟩ := V'
      simp [vc] at ht ld
      have dt : D.take 32 = D := List.take_of_length_le (by omega)
      have dok := plains_cells dp
      have dmv := plains_mv dp
      simp -implicitDefEqProofs [-List.reduceReplicate, a34, c34, hin, hal, q42, hb, abin, vc, z42l, z42d]
      rw [iter_keep]
      simp
      rw [hl]
      simp -implicitDefEqProofs [-List.reduceReplicate, abin, w8, w119, tz, w1z, maxBytes, hrep, h0, ml, hx1, hx2, hx3, h0g, p1, p2]
      rw [iter_keep]
      simp
      rw [lB]
      simp -implicitDefEqProofs [tk, pl, tb, q43, ht, rows_len]
      rw [iter_keep]
      simp
      rw [ld]
      simp -implicitDefEqProofs [dl, dt, dok, dmv, z27_len, z27_drop]
  | own _ g hg =>
    have rl := rows_len l
    have tkl : (byteRows l).take l.length = byteRows l := List.take_of_length_le (by omega)
    generalize ((119 - l.length : Nat) : Int) = u119 at *
    obtain ⟨r', ht, R'⟩ := take19 n (.fr 1 (byteRows l)) l (pad T) T ⟨u0, u1, u2, u3, u4, u5, u6, u7⟩ (.fr _) (by omega)
    generalize IntKind.u64.wrap ((T : Int) + IntKind.u64.wrap ((pad T).length : Nat)) = m' at *
    generalize absorb (l ++ pad T) ⟨u0, u1, u2, u3, u4, u5, u6, u7⟩ = A' at *
    obtain ⟨V', l'⟩ := A'
    simp only at ht R' ⊢
    simp [vc] at hl lB
    cases R' with
    | nil =>
      have ld := loopD (Q (n + 4)) 3000 0 1 cB (cB + 1) (.var z29) (vc V' ++ [.nilS, .int .u64 m']) [] .nilS [] .nil V' (hC_of V' _) 32 0 3000 (by omega) (by omega)
      rw [dgn0] at ld
      have dp := u8s_plain (dg V')
      have dl : (u8s (dg V')).length = 32 := by rw [u8s_len, dg_bs]; exact bs_len _ _
      generalize u8s (dg V') = D at *
      obtain ⟨x0, x1, x2, x3, x4, x5, x6, x7⟩ := V'
      simp [vc] at ht ld
      have dt : D.take 32 = D := List.take_of_length_le (by omega)
      have dok := plains_cells dp
      have dmv := plains_mv dp
      simp -implicitDefEqProofs [-List.reduceReplicate, a34, c34, hin, hal, q42, hb, abin, vc, z42l, z42d]
      rw [iter_keep]
      simp
      rw [hl]
      simp -implicitDefEqProofs [-List.reduceReplicate, abin, w8, wz, tz, w1z, maxBytes, hrep, h0, ml, hx1, hx2, hx3, h0g, p1, p2, rl, tkl, hg]
      rw [iter_keep]
      simp
      rw [lB]
      simp -implicitDefEqProofs [tk, pl, tb, q43, ht, rl, tkl, hg, rows_len]
      rw [iter_keep]
      simp
      rw [ld]
      simp -implicitDefEqProofs [dl, dt, dok, dmv, z27_len, z27_drop]
    | fr =>
      have ld := loopD (Q (n + 4)) 3000 0 1 (cB + 1) (cB + 1 + 1) (.var z29) (vc V' ++ [.own 1003008 cB 0 l'.length, .int .u64 m']) [⟨1003008, cB, .arr 1 (byteRows l') false⟩] (.own 1003008 cB 0 l'.length) l' (.own _ _ (by omega)) V' (hC_of V' _) 32 0 3000 (by omega) (by omega)
      rw [dgn0] at ld
      have dp := u8s_plain (dg V')
      have dl : (u8s (dg V')).length = 32 := by rw [u8s_len, dg_bs]; exact bs_len _ _
      generalize u8s (dg V') = D at *
      obtain ⟨x0, x1, x2, x3, x4, x5, x6, x7⟩ := V'
      simp [vc] at ht ld
      have dt : D.take 32 = D := List.take_of_length_le (by omega)
      have dok := plains_cells dp
      have dmv := plains_mv dp
      simp -implicitDefEqProofs [-List.reduceReplicate, a34, c34, hin, hal, q42, hb, abin, vc, z42l, z42d]
      rw [iter_keep]
      simp
      rw [hl]
      simp -implicitDefEqProofs [-List.reduceReplicate, abin, w8, wz, tz, w1z, maxBytes, hrep, h0, ml, hx1, hx2, hx3, h0g, p1, p2, rl, tkl, hg]
      rw [iter_keep]
      simp
      rw [lB]
      simp -implicitDefEqProofs [tk, pl, tb, q43, ht, rl, tkl, hg, rows_len]
      rw [iter_keep]
      simp
      rw [ld]
      simp -implicitDefEqProofs [dl, dt, dok, dmv, z27_len, z27_drop]
end Go.Abs.Tryd

namespace Go.Abs.Tryd
open Go Go.Abs Go.Proofs Go.Abs.Sha
set_option maxHeartbeats 64000000
set_option maxRecDepth 100000
set_option linter.unusedSimpArgs false
set_option linter.unusedVariables false
theorem size_of (l : List UInt8) : (⟨l.toArray⟩ : ByteArray).size = l.length := by simp [ByteArray.size]
theorem dg_len (v : V8) : (dg v).length = 32 := by rw [dg_bs]; exact bs_len _ _
theorem sha_len (m : List UInt8) : (sha m).length = 32 := dg_len _
theorem cells32 (m : List UInt8) : (u8s (sha m)).length = 32 := by rw [u8s_len, sha_len]
theorem of10' (n : Nat) (a : AV) (ps : List (List UInt8)) (m : List UInt8) (hA : Parts a ps) (hN : ps.length < 2999) (hm : ps.flatten = m) (hT : m.length ≤ 100000) : E (n + 5) 34 [a] = some (.agg (u8s (sha m)), []) := by
  subst hm; exact of10 n a ps hA hN hT
theorem u8s_map (l : List UInt8) : (u8s l).map (fun c => [c]) = byteRows l := by simp [u8s, byteRows]
theorem mkB (s : ByteArray) : ∃ l : List UInt8, s = ⟨l.toArray⟩ := ⟨s.data.toList, by cases s; simp⟩
theorem ok_bytes : ∀ (k : Nat) (l : List AV), okRow (List.replicate k (.int .u8)) l → ∃ ds : List UInt8, ds.length = k ∧ l = u8s ds
  | 0, l, h => ⟨[], rfl, by rw [h.nil_inv]; rfl⟩
  | k + 1, l, h => by
    rw [List.replicate_succ] at h
    obtain ⟨n, vs, rfl, hw, h2⟩ := h.int
    obtain ⟨ds, h3, rfl⟩ := ok_bytes k vs h2
    simp only [Lit.wf, Bool.and_eq_true, decide_eq_true_eq] at hw
    have e1 : IntKind.min .u8 = 0 := rfl
    have e2 : IntKind.max .u8 = 255 := rfl
    refine ⟨UInt8.ofNat n.toNat :: ds, by simp [h3], ?_⟩
    simp only [u8s, List.map_cons]
    congr 2
    simp
    omega
theorem kinds_u8s : ∀ ds : List UInt8, kindsOK (List.replicate ds.length 0) (u8s ds) = true
  | [] => rfl
  | b :: r => by
    have : u8s (b :: r) = .int .u8 b.toNat :: u8s r := rfl
    rw [List.length_cons, List.replicate_succ, this, kindsOK, kinds_u8s r]; rfl
theorem self32 (l : List UInt8) (h : l.length = 32) : aeqCells [0, 0, 0, 0, 0, 0, 0, 0, 0, 0, 0, 0, 0, 0, 0, 0, 0, 0, 0, 0, 0, 0, 0, 0, 0, 0, 0, 0, 0, 0, 0, 0] (u8s l) (u8s l) = some true := by
  have hk := aeq_self (kinds_u8s l)
  rw [h] at hk
  exact hk
theorem ext_lo (a b : List UInt8) : (⟨(a ++ b).toArray⟩ : ByteArray).extract 0 a.length = ⟨a.toArray⟩ := by
  apply ByteArray.ext
  simp [ByteArray.data_extract]
theorem ext_hi (a b : List UInt8) : (⟨(a ++ b).toArray⟩ : ByteArray).extract a.length (a ++ b).length = ⟨b.toArray⟩ := by
  apply ByteArray.ext
  simp [ByteArray.data_extract]
abbrev k32 : List Nat := [0, 0, 0, 0, 0, 0, 0, 0, 0, 0, 0, 0, 0, 0, 0, 0, 0, 0, 0, 0, 0, 0, 0, 0, 0, 0, 0, 0, 0, 0, 0, 0]
theorem ext_take (l : List UInt8) (k : Nat) : (⟨l.toArray⟩ : ByteArray).extract 0 k = ⟨(l.take k).toArray⟩ := by
  apply ByteArray.ext
  simp [ByteArray.data_extract]
theorem ext_drop (l : List UInt8) (k : Nat) : (⟨l.toArray⟩ : ByteArray).extract k l.length = ⟨(l.drop k).toArray⟩ := by
  apply ByteArray.ext
  simp [ByteArray.data_extract]
  exact List.take_of_length_le (by simp)
end Go.Abs.Tryd

namespace Go.Abs.Tryd
open Go Go.Abs Go.Proofs Go.Abs.Sha
set_option maxHeartbeats 64000000
set_option maxRecDepth 100000
set_option linter.unusedSimpArgs false
set_option linter.unusedVariables false
theorem empty_of {J : Nat → InlF → InlF} {Y : InlF} (Φ : Nat → Option FnF) (K : Nat) (F : CallF) (G : InlF) (D : List AV) (hF : Φ 34 = some ⟨F, G, J, Y⟩) (h : F [.nilS] = some (.agg D, [])) (hp : D.all AV.plain = true) (hl : D.length = 32) : evFun Φ K a21 [] = some (.agg D, []) := by
  have ht : D.take 32 = D := List.take_of_length_le (by omega)
  simp -implicitDefEqProofs [a21, c21, hF, h, plains_cells hp, plains_mv hp, plains_in hp, hl, ht, z27_len, z27_drop]
theorem empty_sha (n : Nat) (m : List UInt8) (hm : m = []) : E (n + 6) 21 [] = some (.agg (u8s (sha m)), []) := by
  rw [e21]
  exact empty_of _ _ _ _ _ (q34 (n + 4)) (of10' n .nilS [] m .nil (by simp) (by rw [hm]; rfl) (by rw [hm]; simp)) (u8s_plain _) (cells32 _)
theorem empty12 (n : Nat) : E (n + 6) 21 [] = some (.agg (u8s (sha [])), []) := empty_sha n [] rfl
theorem knot_of {J : Nat → InlF → InlF} {Y : InlF} (Φ : Nat → Option FnF) (K : Nat) (F : CallF) (G : InlF) (D : List AV) (a b : List UInt8) (ha : a.length = 32) (hb : b.length = 32) (hF : Φ 34 = some ⟨F, G, J, Y⟩) (h : F [.ro true 1 [[.str ⟨#[1]⟩], [.str ⟨a.toArray⟩], [.str ⟨b.toArray⟩]]] = some (.agg D, [])) (hp : D.all AV.plain = true) (hl : D.length = 32) : evFun Φ K a23 [.agg (u8s a), .agg (u8s b)] = some (.agg D, []) := by
  have ht : D.take 32 = D := List.take_of_length_le (by omega)
  have pa := u8s_plain a
  have pb := u8s_plain b
  have la : (u8s a).length = 32 := by rw [u8s_len, ha]
  have lb : (u8s b).length = 32 := by rw [u8s_len, hb]
  have ta : (u8s a).take 32 = u8s a := List.take_of_length_le (by omega)
  have tb : (u8s b).take 32 = u8s b := List.take_of_length_le (by omega)
  have ma := u8s_map a
  have mb := u8s_map b
  have ra := toBytes_rows a
  have rb := toBytes_rows b
  simp -implicitDefEqProofs [a23, c23, hF, h, plains_cells hp, plains_mv hp, plains_in hp, plains_low hp, plains_cells pa, plains_in pa, plains_low pa, plains_cells pb, plains_in pb, plains_low pb, hl, ht, z27_len, z27_drop, la, lb, ta, tb, ma, mb, ra, rb, pa, pb]
theorem knot15 (n : Nat) (a b : List UInt8) (ha : a.length = 32) (hb : b.length = 32) : E (n + 6) 23 [.agg (u8s a), .agg (u8s b)] = some (.agg (u8s (sha (1 :: (a ++ b)))), []) := by
  rw [e23]
  exact knot_of _ _ _ _ _ a b ha hb (q34 (n + 4)) (of10' n (.ro true 1 (strRows [[1], a, b])) [[1], a, b] (1 :: (a ++ b)) (.ro true _) (by simp) (by simp) (by simp; omega)) (u8s_plain _) (cells32 _)
end Go.Abs.Tryd

namespace Go.Abs.Tryd
open Go Go.Abs
set_option maxHeartbeats 16000000
set_option maxRecDepth 100000
set_option linter.unusedSimpArgs false
set_option linter.unusedVariables false
/-- how many bits of a number are set -/
def pop (n : Nat) : Nat := if h : n = 0 then 0 else n % 2 + pop (n / 2)
decreasing_by omega
theorem pop_zero : pop 0 = 0 := by rw [pop]; simp
theorem pop_pos {n : Nat} (h : n ≠ 0) : pop n = n % 2 + pop (n / 2) := by rw [pop]; simp [h]
/-- how often two divides a number -/
def tz (n : Nat) : Nat := if h : n = 0 ∨ n % 2 = 1 then 0 else 1 + tz (n / 2)
decreasing_by omega
theorem tz_odd {n : Nat} (h : n % 2 = 1) : tz n = 0 := by rw [tz]; simp [h]
theorem tz_even {n : Nat} (h : n % 2 = 0) (h0 : n ≠ 0) : tz n = 1 + tz (n / 2) := by rw [tz]; simp [h, h0]
def o1 (x : Nat) : Nat := (x / 2 &&& 6148914691236517205) + (x &&& 6148914691236517205)
def o2 (x : Nat) : Nat := (x / 4 &&& 3689348814741910323) + (x &&& 3689348814741910323)
def o3 (x : Nat) : Nat := (x / 16 + x) &&& 1085102592571150095
def o4 (x : Nat) : Nat := x + x / 256
def o5 (x : Nat) : Nat := x + x / 65536
def o6 (x : Nat) : Nat := x + x / 4294967296
def oc (x : Nat) : Nat := o6 (o5 (o4 (o3 (o2 (o1 x))))) &&& 127
def chkO : Nat → Bool
  | 0 => true
  | k + 1 => Nat.beq (oc k) (oc (k / 2) + k % 2) && chkO k
theorem chkO_ok : chkO 100002 = true := by kernel_rfl
theorem chkO_spec : ∀ n, chkO n = true → ∀ k, k < n → oc k = oc (k / 2) + k % 2
  | 0, _, k, hk => by omega
  | n + 1, h, k, hk => by
    simp only [chkO, Bool.and_eq_true] at h
    by_cases e : k = n
    · subst e; exact Nat.eq_of_beq_eq_true h.1
    · exact chkO_spec n h.2 k (by omega)
theorem oc_pop : ∀ (n k : Nat), k < n → k ≤ 100001 → oc k = pop k
  | 0, k, h, _ => by omega
  | n + 1, k, h, hk => by
    by_cases h0 : k = 0
    · subst h0; rw [pop_zero]; rfl
    · rw [chkO_spec _ chkO_ok k (by omega), pop_pos h0, oc_pop n (k / 2) (by omega) (by omega), Nat.add_comm]
def tzT : List Nat := [0, 1, 56, 2, 57, 49, 28, 3, 61, 58, 42, 50, 38, 29, 17, 4, 62, 47, 59, 36, 45, 43, 51, 22, 53, 39, 33, 30, 24, 18, 12, 5, 63, 55, 48, 27, 60, 41, 37, 16, 46, 35, 44, 21, 52, 32, 23, 11, 54, 26, 40, 15, 34, 20, 31, 10, 25, 14, 19, 9, 13, 8, 7, 6]
def tzI (x : Nat) : Nat := ((x &&& (18446744073709551616 - x)) * 285870213051353865 % 18446744073709551616) / 288230376151711744
def tzV (x : Nat) : Nat := tzT.getD (tzI x) 99
def chkT : Nat → Bool
  | 0 => true
  | k + 1 => (if Nat.beq (k % 2) 1 then Nat.beq (tzV k) 0 else (Nat.beq k 0 || Nat.beq (tzV k) (1 + tzV (k / 2)))) && chkT k
theorem chkT_ok : chkT 100002 = true := by kernel_rfl
end Go.Abs.Tryd

namespace Go.Abs.Tryd
open Go Go.Abs
set_option maxHeartbeats 16000000
set_option maxRecDepth 100000
set_option linter.unusedSimpArgs false
set_option linter.unusedVariables false
theorem and64 (a b : Nat) (ha : a < 18446744073709551616) (hb : b < 18446744073709551616) : abits .and .u64 (a : Int) (b : Int) = some (.int .u64 ((a &&& b : Nat) : Int)) := by
  have h := @Nat.and_le_left a b
  show some (AV.int .u64 (IntKind.u64.wrap ((BitVec.ofInt 64 (a : Int) &&& BitVec.ofInt 64 (b : Int)).toNat : Int))) = _
  rw [show BitVec.ofInt 64 (a : Int) &&& BitVec.ofInt 64 (b : Int) = BitVec.ofNat 64 (a &&& b) by
    rw [BitVec.ofInt_natCast, BitVec.ofInt_natCast]; apply BitVec.eq_of_toNat_eq; simp [BitVec.toNat_and, Nat.mod_eq_of_lt ha, Nat.mod_eq_of_lt hb, Nat.mod_eq_of_lt (Nat.lt_of_le_of_lt h ha)]]
  rw [BitVec.toNat_ofNat, Nat.mod_eq_of_lt (by omega), wrap_u64]
  congr 2; omega
theorem and127 (a : Nat) (ha : a < 9223372036854775808) : abits .and .i64 (a : Int) 127 = some (.int .i64 ((a &&& 127 : Nat) : Int)) := by
  have h := @Nat.and_le_left a 127
  have e : ((127 : Int)) = ((127 : Nat) : Int) := rfl
  rw [e]
  show some (AV.int .i64 (IntKind.i64.wrap ((BitVec.ofInt 64 (a : Int) &&& BitVec.ofInt 64 ((127 : Nat) : Int)).toNat : Int))) = _
  rw [show BitVec.ofInt 64 (a : Int) &&& BitVec.ofInt 64 ((127 : Nat) : Int) = BitVec.ofNat 64 (a &&& 127) by
    rw [BitVec.ofInt_natCast, BitVec.ofInt_natCast]; apply BitVec.eq_of_toNat_eq; simp only [BitVec.toNat_and, BitVec.toNat_ofNat]; rw [Nat.mod_eq_of_lt (by omega), Nat.mod_eq_of_lt (by omega), Nat.mod_eq_of_lt (by omega)]]
  rw [BitVec.toNat_ofNat, Nat.mod_eq_of_lt (by omega), wrap_i64 _ (by omega) (by omega)]
theorem fd (a k : Nat) : (a : Int).fdiv (k : Int) = ((a / k : Nat) : Int) := by
  rw [Int.fdiv_eq_ediv_of_nonneg _ (by omega)]; rfl
theorem ones33 (n x : Nat) (hx : x ≤ 100001) : E (n + 1) 33 [.int .u64 x] = some (.int .i64 (pop x), []) := by
  rw [← oc_pop _ x (Nat.lt_succ_self x) hx, e33]
  have b1 : o1 x ≤ 400000 := by have := @Nat.and_le_left (x / 2) 6148914691236517205; have := @Nat.and_le_left x 6148914691236517205; unfold o1; omega
  have f1 := fd x 2
  have a1 := and64 (x / 2) 6148914691236517205 (by omega) (by omega)
  have a2 := and64 x 6148914691236517205 (by omega) (by omega)
  have p1 : IntKind.u64.wrap (((x / 2 &&& 6148914691236517205 : Nat) : Int) + ((x &&& 6148914691236517205 : Nat) : Int)) = ((o1 x : Nat) : Int) := by
    rw [wrap_u64]; unfold o1 at *; omega
  generalize hy : o1 x = y at *
  have b2 : o2 y ≤ 1000000 := by have := @Nat.and_le_left (y / 4) 3689348814741910323; have := @Nat.and_le_left y 3689348814741910323; unfold o2; omega
  have f2 := fd y 4
  have a3 := and64 (y / 4) 3689348814741910323 (by omega) (by omega)
  have a4 := and64 y 3689348814741910323 (by omega) (by omega)
  have p2 : IntKind.u64.wrap (((y / 4 &&& 3689348814741910323 : Nat) : Int) + ((y &&& 3689348814741910323 : Nat) : Int)) = ((o2 y : Nat) : Int) := by
    rw [wrap_u64]; unfold o2 at *; omega
  generalize hz : o2 y = z at *
  have b3 : o3 z ≤ 2000000 := by have := @Nat.and_le_left (z / 16 + z) 1085102592571150095; unfold o3; omega
  have f3 := fd z 16
  have p3 : IntKind.u64.wrap (((z / 16 : Nat) : Int) + (z : Int)) = ((z / 16 + z : Nat) : Int) := by rw [wrap_u64]; omega
  have a5 := and64 (z / 16 + z) 1085102592571150095 (by omega) (by omega)
  rw [show (z / 16 + z) &&& 1085102592571150095 = o3 z from rfl] at a5
  generalize hw : o3 z = w at *
  generalize z / 16 + z = sm at *
  have f4 := fd w 256
  have p4 : IntKind.u64.wrap ((w : Int) + ((w / 256 : Nat) : Int)) = ((o4 w : Nat) : Int) := by rw [wrap_u64]; unfold o4; omega
  have b4 : o4 w ≤ 4000000 := by unfold o4; omega
  generalize hv : o4 w = v at *
  have f5 := fd v 65536
  have p5 : IntKind.u64.wrap ((v : Int) + ((v / 65536 : Nat) : Int)) = ((o5 v : Nat) : Int) := by rw [wrap_u64]; unfold o5; omega
  have b5 : o5 v ≤ 8000000 := by unfold o5; omega
  generalize hu : o5 v = u at *
  have f6 := fd u 4294967296
  have p6 : IntKind.u64.wrap ((u : Int) + ((u / 4294967296 : Nat) : Int)) = ((o6 u : Nat) : Int) := by rw [wrap_u64]; unfold o6; omega
  have b6 : o6 u ≤ 16000000 := by unfold o6; omega
  have ho : oc x = o6 u &&& 127 := by unfold oc; rw [hy, hz, hw, hv, hu]
  rw [ho]
  generalize o6 u = t at *
  have p7 : IntKind.i64.wrap (t : Int) = t := wrap_i64 _ (by omega) (by omega)
  have a6 := and127 t (by omega)
  simp only [Int.cast_ofNat_Int] at f1 f2 f3 f4 f5 f6 a1 a2 a3 a4 a5
  generalize ((x / 2 : Nat) : Int) = x2 at *
  generalize ((y / 4 : Nat) : Int) = y4 at *
  generalize ((z / 16 : Nat) : Int) = z16 at *
  generalize ((w / 256 : Nat) : Int) = w8 at *
  generalize ((v / 65536 : Nat) : Int) = v16 at *
  generalize ((u / 4294967296 : Nat) : Int) = u32 at *
  simp -implicitDefEqProofs [a33, c33, abin, aint, ashift, f1, f2, f3, f4, f5, f6, a1, a2, a3, a4, a5, a6, p1, p2, p3, p4, p5, p6, p7]
theorem ones20 (n x : Nat) (hx : x ≤ 100001) : E (n + 2) 20 [.int .u64 x] = some (.int .i64 (pop x), []) := by
  rw [e20]
  simp -implicitDefEqProofs [a20, c20, q33, ones33 n x hx]
end Go.Abs.Tryd
