/- Part 1 of SA: what our evaluation of a function's code says, the machine's run does; no condition of its own. -/
import Derived.Test.YteiemmpdldnkhaaDoorAbsB
import Derived.Test.YteiemmpdldnkhaaDoorProg
set_option linter.unusedVariables false
set_option linter.unusedSimpArgs false
set_option linter.unusedSectionVars false
namespace Go.Abs.Tryd
open Go Go.Abs
def glob0 : List AV := [.int .u32 1116352408, .int .u32 1899447441, .int .u32 3049323471, .int .u32 3921009573, .int .u32 961987163, .int .u32 1508970993, .int .u32 2453635748, .int .u32 2870763221, .int .u32 3624381080, .int .u32 310598401, .int .u32 607225278, .int .u32 1426881987, .int .u32 1925078388, .int .u32 2162078206, .int .u32 2614888103, .int .u32 3248222580, .int .u32 3835390401, .int .u32 4022224774, .int .u32 264347078, .int .u32 604807628, .int .u32 770255983, .int .u32 1249150122, .int .u32 1555081692, .int .u32 1996064986, .int .u32 2554220882, .int .u32 2821834349, .int .u32 2952996808, .int .u32 3210313671, .int .u32 3336571891, .int .u32 3584528711, .int .u32 113926993, .int .u32 338241895, .int .u32 666307205, .int .u32 773529912, .int .u32 1294757372, .int .u32 1396182291, .int .u32 1695183700, .int .u32 1986661051, .int .u32 2177026350, .int .u32 2456956037, .int .u32 2730485921, .int .u32 2820302411, .int .u32 3259730800, .int .u32 3345764771, .int .u32 3516065817, .int .u32 3600352804, .int .u32 4094571909, .int .u32 275423344, .int .u32 430227734, .int .u32 506948616, .int .u32 659060556, .int .u32 883997877, .int .u32 958139571, .int .u32 1322822218, .int .u32 1537002063, .int .u32 1747873779, .int .u32 1955562222, .int .u32 2024104815, .int .u32 2227730452, .int .u32 2361852424, .int .u32 2428436474, .int .u32 2756734187, .int .u32 3204031479, .int .u32 3329325298]
instance : Globs := ⟨[(0, glob0)]⟩
def z23 : List AV := List.replicate 32 (.int .u8 0)
def z25 : List AV := List.replicate 32 (.int .u8 0)
def z43 : List AV := List.replicate 8 (.int .u32 0)
def z46 : List AV := List.replicate 8 (.int .u32 0) ++ [.nilS, (.int .u64 0)]
def z55 : List AV := List.replicate 64 (.int .u8 0)
def z58 : List AV := List.replicate 16 (.int .u32 0)
def z59 : List AV := List.replicate 64 (.int .u32 0)

def b3_0 : AC :=
  (.seq ((.seq (.reg false [
    { dst := some 14, op := .mov (.t 7) },
    { dst := some 15, op := .bin .lss (.t 14) (.c (.int .i64 64)) }])
  (.cond (.t 15) (.skip) (.exit 0))))
  ((.seq (.block 1 ((.seq (.reg false [
    { dst := some 18, op := .mov (.t 5) },
    { dst := some 19, op := .mov (.t 7) },
    { dst := some 20, op := .iad 1 (.t 18) (.t 19) },
    { dst := none, op := .store 1 (.t 20) (.c (.int .u8 54)) }])
  (.keep [1, 2, 4, 5, 6, 7] [2, 12, 13] ((.seq (.reg false [
    { dst := some 21, op := .mov (.t 6) },
    { dst := some 22, op := .mov (.t 7) },
    { dst := some 23, op := .iad 1 (.t 21) (.t 22) },
    { dst := none, op := .store 1 (.t 23) (.c (.int .u8 92)) }])
  (.keep [1, 2, 4, 5, 6, 7] [2, 12, 13] ((.seq (.reg false [
    { dst := some 24, op := .mov (.t 7) },
    { dst := some 25, op := .bin .lss (.t 24) (.c (.int .i64 32)) }])
  (.cond (.t 25) ((.seq (.reg false [
    { dst := some 26, op := .mov (.t 5) },
    { dst := some 27, op := .mov (.t 7) },
    { dst := some 28, op := .mov (.t 7) },
    { dst := some 29, op := .iada 32 1 (.t 2) (.t 28) },
    { dst := some 30, op := .load none (.t 29) },
    { dst := some 31, op := .bin .xor (.t 30) (.c (.int .u8 54)) },
    { dst := some 32, op := .iad 1 (.t 26) (.t 27) },
    { dst := none, op := .store 1 (.t 32) (.t 31) }])
  (.keep [1, 2, 4, 5, 6, 7] [2, 12, 13] (.reg false [
    { dst := some 33, op := .mov (.t 6) },
    { dst := some 34, op := .mov (.t 7) },
    { dst := some 35, op := .mov (.t 7) },
    { dst := some 36, op := .iada 32 1 (.t 2) (.t 35) },
    { dst := some 37, op := .load none (.t 36) },
    { dst := some 38, op := .bin .xor (.t 37) (.c (.int .u8 92)) },
    { dst := some 39, op := .iad 1 (.t 33) (.t 34) },
    { dst := none, op := .store 1 (.t 39) (.t 38) }])))) (.skip)))))))))))
  (.keep [1, 2, 4, 5, 6, 7] [2, 12, 13] (.reg false [
    { dst := some 16, op := .mov (.t 7) },
    { dst := some 17, op := .bin .add (.t 16) (.c (.int .i64 1)) },
    { dst := some 7, op := .mov (.t 17) }])))))
/-- estreat/estreatlaw06.TagMacsTwo: parameters api.Key string -/
def c3 : AC :=
  (.seq (.reg false [
    { dst := some 2, op := .box 2 (.t 0) },
    { dst := some 4, op := .mov (.c (.bool false)) }])
  ((.seq ((.seq (.reg false [
    { dst := some 9, op := .mov (.t 1) },
    { dst := some 10, op := .lenS (.t 9) },
    { dst := some 11, op := .bin .gtr (.t 10) (.c (.int .i64 16384)) }])
  (.cond (.t 11) ((.seq (.reg false [
    { dst := some 4, op := .mov (.c (.bool true)) }])
  (.ret))) (.skip))))
  (.keep [1, 2] [2] ((.seq (.reg false [
    { dst := some 12, op := .mks 12 1 1 [(.int .u8 0)] (.c (.int .i64 64)) (.c (.int .i64 64)) },
    { dst := some 5, op := .mov (.t 12) }])
  ((.seq (.reg false [
    { dst := some 13, op := .mks 13 1 1 [(.int .u8 0)] (.c (.int .i64 64)) (.c (.int .i64 64)) },
    { dst := some 6, op := .mov (.t 13) }])
  ((.seq ((.seq (.reg false [
    { dst := some 7, op := .mov (.c (.int .i64 0)) }])
  (.block 0 (.loop [1, 2, 4, 5, 6, 7] [2, 12, 13] b3_0))))
  (.keep [1, 2, 5, 6] [2, 12, 13] ((.seq (.reg false [
    { dst := some 40, op := .mov (.t 5) },
    { dst := some 41, op := .b2s (.t 40) },
    { dst := some 42, op := .mov (.t 1) },
    { dst := some 43, op := .bslice 43 1 [(.str ⟨#[]⟩)] 2 [(0, (.t 41)), (1, (.t 42))] },
    { dst := some 44, op := .call 45000 8 [(.t 43)] },
    { dst := some 8, op := .alloc 8 z25 },
    { dst := none, op := .store 32 (.t 8) (.t 44) }])
  (.keep [1, 2, 6, 8] [2, 8, 13] ((.seq (.reg true [
    { dst := some 45, op := .call 46000 9 [] },
    { dst := some 46, op := .mov (.t 45), rs := [45], an := [0] },
    { dst := some 47, op := .load (some 32) (.t 2), guard := some (46, true), rs := [2, 46], tn := [2], an := [1] },
    { dst := some 48, op := .mov (.t 1), guard := some (46, true), rs := [1, 46], an := [1] },
    { dst := some 49, op := .call 50000 10 [(.t 47), (.t 48)], guard := some (46, true), rs := [46, 47, 48], an := [1, 2, 3] },
    { dst := some 50, op := .mov (.t 6), guard := some (46, true), rs := [6, 46], tn := [13], an := [1] },
    { dst := some 51, op := .b2s (.t 50), guard := some (46, true), rs := [46, 50], tn := [13], an := [1, 5] },
    { dst := some 52, op := .slca 32 (.t 8) none none, guard := some (46, true), rs := [8, 46], tn := [8], an := [1] },
    { dst := some 53, op := .b2s (.t 52), guard := some (46, true), rs := [46, 52], tn := [8], an := [1, 7] },
    { dst := some 54, op := .bslice 54 1 [(.str ⟨#[]⟩)] 2 [(0, (.t 51)), (1, (.t 53))], guard := some (46, true), rs := [46, 51, 53], tn := [54], wn := [54], an := [1, 6, 8] },
    { dst := some 55, op := .call 56000 8 [(.t 54)], guard := some (46, true), rs := [46, 54], tn := [54], an := [1, 9] },
    { dst := some 56, op := .eqa false [0, 0, 0, 0, 0, 0, 0, 0, 0, 0, 0, 0, 0, 0, 0, 0, 0, 0, 0, 0, 0, 0, 0, 0, 0, 0, 0, 0, 0, 0, 0, 0] (.t 49) (.t 55), guard := some (46, true), rs := [46, 49, 55], an := [1, 4, 10] },
    { dst := some 57, op := .pick (.t 46) (.t 56) (.c (.bool false)), rs := [46, 56], an := [1, 11] },
    { dst := some 4, op := .mov (.t 57), rs := [57], an := [12] }])
  (.ret)))))))))))))))))
/-- with its results -/
def a3 : AFun := ⟨c3, [(4, none)], 58⟩

/-- estreat/estreatlaw06.TagMacs: parameters api.Key string api.Digest api.Digest -/
def c4 : AC :=
  (.seq (.reg false [
    { dst := some 4, op := .box 4 (.t 0) },
    { dst := some 6, op := .box 6 (.t 2) },
    { dst := some 7, op := .box 7 (.t 3) },
    { dst := some 8, op := .mov (.c (.bool false)) }])
  (.keep [1, 4, 6, 7] [4, 6, 7] ((.seq ((.seq (.reg false [
    { dst := some 9, op := .mov (.t 1) },
    { dst := some 10, op := .lenS (.t 9) },
    { dst := some 11, op := .bin .gtr (.t 10) (.c (.int .i64 16384)) }])
  (.cond (.t 11) ((.seq (.reg false [
    { dst := some 8, op := .mov (.c (.bool true)) }])
  (.ret))) (.skip))))
  (.keep [1, 4, 6, 7] [4, 6, 7] ((.seq (.reg true [
    { dst := some 12, op := .call 13000 9 [] },
    { dst := some 13, op := .mov (.t 12), rs := [12], an := [0] },
    { dst := some 14, op := .load (some 32) (.t 4), guard := some (13, true), rs := [4, 13], tn := [4], an := [1] },
    { dst := some 15, op := .mov (.t 1), guard := some (13, true), rs := [1, 13], an := [1] },
    { dst := some 16, op := .call 17000 10 [(.t 14), (.t 15)], guard := some (13, true), rs := [13, 14, 15], an := [1, 2, 3] },
    { dst := some 17, op := .load (some 32) (.t 4), guard := some (13, true), rs := [4, 13], tn := [4], an := [1] },
    { dst := some 18, op := .mov (.t 1), guard := some (13, true), rs := [1, 13], an := [1] },
    { dst := some 19, op := .call 20000 11 [(.t 17), (.t 18)], guard := some (13, true), rs := [13, 17, 18], an := [1, 5, 6] },
    { dst := some 20, op := .eqa false [0, 0, 0, 0, 0, 0, 0, 0, 0, 0, 0, 0, 0, 0, 0, 0, 0, 0, 0, 0, 0, 0, 0, 0, 0, 0, 0, 0, 0, 0, 0, 0] (.t 16) (.t 19), guard := some (13, true), rs := [13, 16, 19], an := [1, 4, 7] },
    { dst := some 21, op := .pick (.t 13) (.t 20) (.c (.bool false)), rs := [13, 20], an := [1, 8] },
    { dst := some 22, op := .mov (.t 21), rs := [21], an := [9] },
    { dst := some 23, op := .load (some 32) (.t 6), guard := some (22, true), rs := [6, 22], tn := [6], an := [10] },
    { dst := some 24, op := .load (some 32) (.t 7), guard := some (22, true), rs := [7, 22], tn := [7], an := [10] },
    { dst := some 25, op := .call 26000 12 [(.t 23), (.t 24)], guard := some (22, true), rs := [22, 23, 24], an := [10, 11, 12] },
    { dst := some 26, op := .load (some 32) (.t 6), guard := some (22, true), rs := [6, 22], tn := [6], an := [10] },
    { dst := some 27, op := .load (some 32) (.t 7), guard := some (22, true), rs := [7, 22], tn := [7], an := [10] },
    { dst := some 28, op := .eqa false [0, 0, 0, 0, 0, 0, 0, 0, 0, 0, 0, 0, 0, 0, 0, 0, 0, 0, 0, 0, 0, 0, 0, 0, 0, 0, 0, 0, 0, 0, 0, 0] (.t 26) (.t 27), guard := some (22, true), rs := [22, 26, 27], an := [10, 14, 15] },
    { dst := some 29, op := .eqb false (.t 25) (.t 28), guard := some (22, true), rs := [22, 25, 28], an := [10, 13, 16] },
    { dst := some 30, op := .pick (.t 22) (.t 29) (.c (.bool false)), rs := [22, 29], an := [10, 17] },
    { dst := some 31, op := .mov (.t 30), rs := [30], an := [18] },
    { dst := some 32, op := .load (some 32) (.t 6), guard := some (31, true), rs := [6, 31], tn := [6], an := [19] },
    { dst := some 33, op := .load (some 32) (.t 6), guard := some (31, true), rs := [6, 31], tn := [6], an := [19] },
    { dst := some 34, op := .call 35000 12 [(.t 32), (.t 33)], guard := some (31, true), rs := [31, 32, 33], an := [19, 20, 21] },
    { dst := some 35, op := .pick (.t 31) (.t 34) (.c (.bool false)), rs := [31, 34], an := [19, 22] },
    { dst := some 8, op := .mov (.t 35), rs := [35], an := [23] }])
  (.ret))))))))
/-- with its results -/
def a4 : AFun := ⟨c4, [(8, none)], 36⟩

/-- estreat/estreatlaw06.TagKeys: parameters api.Key int int string api.Digest -/
def c5 : AC :=
  (.seq (.reg false [
    { dst := some 5, op := .box 5 (.t 0) },
    { dst := some 9, op := .box 9 (.t 4) },
    { dst := some 10, op := .mov (.c (.bool false)) }])
  ((.seq ((.seq (.reg false [
    { dst := some 15, op := .mov (.t 3) },
    { dst := some 16, op := .lenS (.t 15) },
    { dst := some 17, op := .bin .gtr (.t 16) (.c (.int .i64 16384)) }])
  (.cond (.t 17) ((.seq (.reg false [
    { dst := some 10, op := .mov (.c (.bool true)) }])
  (.ret))) (.skip))))
  (.keep [1, 2, 3, 5, 9] [5, 9] ((.seq (.reg false [
    { dst := some 19, op := .load (some 32) (.t 5) },
    { dst := some 20, op := .mov (.t 1) },
    { dst := some 21, op := .mov (.t 2) },
    { dst := some 22, op := .call 23000 13 [(.t 19), (.t 20), (.t 21)] },
    { dst := some 18, op := .mov (.t 22) },
    { dst := some 23, op := .ext 0 (.t 18) },
    { dst := some 24, op := .ext 1 (.t 18) },
    { dst := some 11, op := .alloc 11 z23 },
    { dst := none, op := .store 32 (.t 11) (.t 23) },
    { dst := some 12, op := .mov (.t 24) }])
  (.keep [1, 2, 3, 5, 9, 11, 12] [5, 9, 11] ((.seq (.reg false [
    { dst := some 25, op := .build z23 [] },
    { dst := some 13, op := .alloc 13 z23 },
    { dst := none, op := .store 32 (.t 13) (.t 25) }])
  ((.seq (.reg false [
    { dst := some 14, op := .mov (.c (.int .i64 50)) }])
  ((.seq ((.seq (.reg false [
    { dst := some 26, op := .mov (.t 1) },
    { dst := some 27, op := .mov (.t 2) },
    { dst := some 28, op := .call 29000 14 [(.t 26), (.t 27)] }])
  (.cond (.t 28) ((.seq (.reg false [
    { dst := some 29, op := .load (some 32) (.t 5) },
    { dst := some 30, op := .mov (.t 1) },
    { dst := some 31, op := .mov (.t 2) },
    { dst := some 32, op := .call 33000 15 [(.t 29), (.t 30), (.t 31)] },
    { dst := none, op := .store 32 (.t 13) (.t 32) }])
  (.keep [1, 2, 3, 5, 9, 11, 12, 13, 14] [5, 9, 11, 13] (.reg false [
    { dst := some 14, op := .mov (.c (.int .i64 0)) }])))) (.skip))))
  (.keep [1, 2, 3, 5, 9, 11, 12, 13, 14] [5, 9, 11, 13] ((.seq (.reg true [
    { dst := some 33, op := .call 34000 9 [] },
    { dst := some 34, op := .mov (.t 33), rs := [33], an := [0] },
    { dst := some 35, op := .load (some 32) (.t 11), guard := some (34, true), rs := [11, 34], tn := [11], an := [1] },
    { dst := some 36, op := .load (some 32) (.t 13), guard := some (34, true), rs := [13, 34], tn := [13], an := [1] },
    { dst := some 37, op := .eqa false [0, 0, 0, 0, 0, 0, 0, 0, 0, 0, 0, 0, 0, 0, 0, 0, 0, 0, 0, 0, 0, 0, 0, 0, 0, 0, 0, 0, 0, 0, 0, 0] (.t 35) (.t 36), guard := some (34, true), rs := [34, 35, 36], an := [1, 2, 3] },
    { dst := some 38, op := .pick (.t 34) (.t 37) (.c (.bool false)), rs := [34, 37], an := [1, 4] },
    { dst := some 39, op := .mov (.t 38), rs := [38], an := [5] },
    { dst := some 40, op := .mov (.t 12), guard := some (39, true), rs := [12, 39], an := [6] },
    { dst := some 41, op := .mov (.t 14), guard := some (39, true), rs := [14, 39], an := [6] },
    { dst := some 42, op := .bin .eql (.t 40) (.t 41), guard := some (39, true), rs := [39, 40, 41], an := [6, 7, 8] },
    { dst := some 43, op := .pick (.t 39) (.t 42) (.c (.bool false)), rs := [39, 42], an := [6, 9] },
    { dst := some 44, op := .mov (.t 43), rs := [43], an := [10] },
    { dst := some 45, op := .load (some 32) (.t 5), guard := some (44, true), rs := [5, 44], tn := [5], an := [11] },
    { dst := some 46, op := .mov (.t 1), guard := some (44, true), rs := [1, 44], an := [11] },
    { dst := some 47, op := .mov (.t 2), guard := some (44, true), rs := [2, 44], an := [11] },
    { dst := some 48, op := .mov (.t 3), guard := some (44, true), rs := [3, 44], an := [11] },
    { dst := some 49, op := .load (some 32) (.t 9), guard := some (44, true), rs := [9, 44], tn := [9], an := [11] },
    { dst := some 50, op := .call 51000 16 [(.t 45), (.t 46), (.t 47), (.t 48), (.t 49)], guard := some (44, true), rs := [44, 45, 46, 47, 48, 49], an := [11, 12, 13, 14, 15, 16] },
    { dst := some 51, op := .load (some 32) (.t 5), guard := some (44, true), rs := [5, 44], tn := [5], an := [11] },
    { dst := some 52, op := .mov (.t 1), guard := some (44, true), rs := [1, 44], an := [11] },
    { dst := some 53, op := .mov (.t 2), guard := some (44, true), rs := [2, 44], an := [11] },
    { dst := some 54, op := .mov (.t 3), guard := some (44, true), rs := [3, 44], an := [11] },
    { dst := some 55, op := .load (some 32) (.t 9), guard := some (44, true), rs := [9, 44], tn := [9], an := [11] },
    { dst := some 56, op := .call 57000 17 [(.t 51), (.t 52), (.t 53), (.t 54), (.t 55)], guard := some (44, true), rs := [44, 51, 52, 53, 54, 55], an := [11, 18, 19, 20, 21, 22] },
    { dst := some 57, op := .bin .eql (.t 50) (.t 56), guard := some (44, true), rs := [44, 50, 56], an := [11, 17, 23] },
    { dst := some 58, op := .pick (.t 44) (.t 57) (.c (.bool false)), rs := [44, 57], an := [11, 24] },
    { dst := some 10, op := .mov (.t 58), rs := [58], an := [25] }])
  (.ret)))))))))))))))))
/-- with its results -/
def a5 : AFun := ⟨c5, [(10, none)], 59⟩

/-- estreat/estreatlaw06.TagHolds: parameters api.Key int int string int uint8 -/
def c6 : AC :=
  (.seq (.reg false [
    { dst := some 6, op := .box 6 (.t 0) },
    { dst := some 12, op := .mov (.c (.bool false)) }])
  ((.seq ((.seq (.reg false [
    { dst := some 18, op := .mov (.t 3) },
    { dst := some 19, op := .lenS (.t 18) },
    { dst := some 20, op := .bin .gtr (.t 19) (.c (.int .i64 16384)) },
    { dst := some 21, op := .mov (.t 20) },
    { dst := some 22, op := .mov (.t 4), guard := some (21, false) },
    { dst := some 23, op := .bin .lss (.t 22) (.c (.int .i64 0)), guard := some (21, false) },
    { dst := some 24, op := .pick (.t 21) (.c (.bool true)) (.t 23) },
    { dst := some 25, op := .mov (.t 24) },
    { dst := some 26, op := .mov (.t 4), guard := some (25, false) },
    { dst := some 27, op := .bin .geq (.t 26) (.c (.int .i64 32)), guard := some (25, false) },
    { dst := some 28, op := .pick (.t 25) (.c (.bool true)) (.t 27) }])
  (.cond (.t 28) ((.seq (.reg false [
    { dst := some 12, op := .mov (.c (.bool true)) }])
  (.ret))) (.skip))))
  (.keep [1, 2, 3, 4, 5, 6] [6] ((.seq (.reg false [
    { dst := some 30, op := .load (some 32) (.t 6) },
    { dst := some 31, op := .mov (.t 1) },
    { dst := some 32, op := .mov (.t 2) },
    { dst := some 33, op := .call 34000 13 [(.t 30), (.t 31), (.t 32)] },
    { dst := some 29, op := .mov (.t 33) },
    { dst := some 34, op := .ext 0 (.t 29) },
    { dst := some 35, op := .ext 1 (.t 29) },
    { dst := some 13, op := .alloc 13 z23 },
    { dst := none, op := .store 32 (.t 13) (.t 34) },
    { dst := some 14, op := .mov (.t 35) }])
  (.keep [1, 2, 3, 4, 5, 6, 13, 14] [6, 13] ((.seq (.reg false [
    { dst := some 36, op := .load (some 32) (.t 13) },
    { dst := some 37, op := .mov (.t 3) },
    { dst := some 38, op := .call 39000 10 [(.t 36), (.t 37)] },
    { dst := some 15, op := .alloc 15 z25 },
    { dst := none, op := .store 32 (.t 15) (.t 38) }])
  (.keep [1, 2, 3, 4, 5, 6, 14, 15] [6, 15] ((.seq ((.seq (.reg false [
    { dst := some 39, op := .mov (.t 14) },
    { dst := some 40, op := .bin .neq (.t 39) (.c (.int .i64 0)) }])
  (.cond (.t 40) ((.seq (.reg false [
    { dst := some 41, op := .call 42000 9 [] },
    { dst := some 42, op := .mov (.t 41) },
    { dst := some 43, op := .load (some 32) (.t 6), guard := some (42, true) },
    { dst := some 44, op := .mov (.t 1), guard := some (42, true) },
    { dst := some 45, op := .mov (.t 2), guard := some (42, true) },
    { dst := some 46, op := .mov (.t 3), guard := some (42, true) },
    { dst := some 47, op := .load (some 32) (.t 15), guard := some (42, true) },
    { dst := some 48, op := .call 49000 16 [(.t 43), (.t 44), (.t 45), (.t 46), (.t 47)], guard := some (42, true) },
    { dst := some 49, op := .bin .eql (.t 48) (.c (.int .i64 50)), guard := some (42, true) },
    { dst := some 50, op := .pick (.t 42) (.t 49) (.c (.bool false)) },
    { dst := some 12, op := .mov (.t 50) }])
  (.ret))) (.skip))))
  (.keep [1, 2, 3, 4, 5, 6, 15] [6, 15] ((.seq (.reg false [
    { dst := some 51, op := .load (some 32) (.t 15) },
    { dst := some 16, op := .alloc 16 z25 },
    { dst := none, op := .store 32 (.t 16) (.t 51) }])
  ((.seq (.reg false [
    { dst := some 52, op := .mov (.t 4) },
    { dst := some 53, op := .mov (.t 4) },
    { dst := some 54, op := .iada 32 1 (.t 16) (.t 53) },
    { dst := some 55, op := .load none (.t 54) },
    { dst := some 56, op := .mov (.t 5) },
    { dst := some 57, op := .bin .xor (.t 55) (.t 56) },
    { dst := some 58, op := .iada 32 1 (.t 16) (.t 52) },
    { dst := none, op := .store 1 (.t 58) (.t 57) }])
  (.keep [1, 2, 3, 5, 6, 15, 16] [6, 15, 16] ((.seq (.reg false [
    { dst := some 59, op := .load (some 32) (.t 6) },
    { dst := some 60, op := .mov (.t 1) },
    { dst := some 61, op := .mov (.t 2) },
    { dst := some 62, op := .mov (.t 3) },
    { dst := some 63, op := .load (some 32) (.t 16) },
    { dst := some 64, op := .call 65000 16 [(.t 59), (.t 60), (.t 61), (.t 62), (.t 63)] },
    { dst := some 17, op := .mov (.t 64) }])
  (.keep [1, 2, 3, 5, 6, 15, 16, 17] [6, 15, 16] ((.seq (.reg false [
    { dst := some 65, op := .call 66000 9 [] },
    { dst := some 66, op := .mov (.t 65) },
    { dst := some 67, op := .load (some 32) (.t 6), guard := some (66, true) },
    { dst := some 68, op := .mov (.t 1), guard := some (66, true) },
    { dst := some 69, op := .mov (.t 2), guard := some (66, true) },
    { dst := some 70, op := .mov (.t 3), guard := some (66, true) },
    { dst := some 71, op := .load (some 32) (.t 15), guard := some (66, true) },
    { dst := some 72, op := .call 73000 16 [(.t 67), (.t 68), (.t 69), (.t 70), (.t 71)], guard := some (66, true) },
    { dst := some 73, op := .bin .eql (.t 72) (.c (.int .i64 0)), guard := some (66, true) },
    { dst := some 74, op := .pick (.t 66) (.t 73) (.c (.bool false)) },
    { dst := some 75, op := .mov (.t 74) },
    { dst := some 76, op := .mov (.t 17), guard := some (75, true) },
    { dst := some 77, op := .bin .eql (.t 76) (.c (.int .i64 0)), guard := some (75, true) },
    { dst := some 78, op := .mov (.t 5), guard := some (75, true) },
    { dst := some 79, op := .bin .eql (.t 78) (.c (.int .u8 0)), guard := some (75, true) },
    { dst := some 80, op := .eqb false (.t 77) (.t 79), guard := some (75, true) },
    { dst := some 81, op := .pick (.t 75) (.t 80) (.c (.bool false)) },
    { dst := some 82, op := .mov (.t 81) },
    { dst := some 83, op := .mov (.t 17), guard := some (82, true) },
    { dst := some 84, op := .bin .eql (.t 83) (.c (.int .i64 0)), guard := some (82, true) },
    { dst := some 85, op := .mov (.t 84), guard := some (82, true) },
    { dst := some 86, op := .mov (.t 17), guard := some (85, false) },
    { dst := some 87, op := .bin .eql (.t 86) (.c (.int .i64 72)), guard := some (85, false) },
    { dst := some 88, op := .pick (.t 85) (.c (.bool true)) (.t 87), guard := some (82, true) },
    { dst := some 89, op := .pick (.t 82) (.t 88) (.c (.bool false)) },
    { dst := some 90, op := .mov (.t 89) },
    { dst := some 91, op := .load (some 32) (.t 15), guard := some (90, true) },
    { dst := some 92, op := .load (some 32) (.t 16), guard := some (90, true) },
    { dst := some 93, op := .call 94000 12 [(.t 91), (.t 92)], guard := some (90, true) },
    { dst := some 94, op := .mov (.t 5), guard := some (90, true) },
    { dst := some 95, op := .bin .eql (.t 94) (.c (.int .u8 0)), guard := some (90, true) },
    { dst := some 96, op := .eqb false (.t 93) (.t 95), guard := some (90, true) },
    { dst := some 97, op := .pick (.t 90) (.t 96) (.c (.bool false)) },
    { dst := some 12, op := .mov (.t 97) }])
  (.ret))))))))))))))))))))))))
/-- with its results -/
def a6 : AFun := ⟨c6, [(12, none)], 98⟩

/-- estreat/estreatlaw06.TagOne: parameters api.Key int int string api.Digest api.Digest -/
def c7 : AC :=
  (.seq (.reg false [
    { dst := some 6, op := .box 6 (.t 0) },
    { dst := some 10, op := .box 10 (.t 4) },
    { dst := some 11, op := .box 11 (.t 5) },
    { dst := some 12, op := .mov (.c (.bool false)) }])
  (.keep [1, 2, 3, 6, 10, 11] [6, 10, 11] ((.seq ((.seq (.reg false [
    { dst := some 13, op := .mov (.t 3) },
    { dst := some 14, op := .lenS (.t 13) },
    { dst := some 15, op := .bin .gtr (.t 14) (.c (.int .i64 16384)) }])
  (.cond (.t 15) ((.seq (.reg false [
    { dst := some 12, op := .mov (.c (.bool true)) }])
  (.ret))) (.skip))))
  (.keep [1, 2, 3, 6, 10, 11] [6, 10, 11] ((.seq ((.seq (.reg false [
    { dst := some 16, op := .load (some 32) (.t 6) },
    { dst := some 17, op := .mov (.t 1) },
    { dst := some 18, op := .mov (.t 2) },
    { dst := some 19, op := .mov (.t 3) },
    { dst := some 20, op := .load (some 32) (.t 10) },
    { dst := some 21, op := .call 22000 16 [(.t 16), (.t 17), (.t 18), (.t 19), (.t 20)] },
    { dst := some 22, op := .bin .neq (.t 21) (.c (.int .i64 0)) },
    { dst := some 23, op := .mov (.t 22) },
    { dst := some 24, op := .load (some 32) (.t 6), guard := some (23, false) },
    { dst := some 25, op := .mov (.t 1), guard := some (23, false) },
    { dst := some 26, op := .mov (.t 2), guard := some (23, false) },
    { dst := some 27, op := .mov (.t 3), guard := some (23, false) },
    { dst := some 28, op := .load (some 32) (.t 11), guard := some (23, false) },
    { dst := some 29, op := .call 30000 16 [(.t 24), (.t 25), (.t 26), (.t 27), (.t 28)], guard := some (23, false) },
    { dst := some 30, op := .bin .neq (.t 29) (.c (.int .i64 0)), guard := some (23, false) },
    { dst := some 31, op := .pick (.t 23) (.c (.bool true)) (.t 30) }])
  (.cond (.t 31) ((.seq (.reg false [
    { dst := some 32, op := .call 33000 9 [] },
    { dst := some 12, op := .mov (.t 32) }])
  (.ret))) (.skip))))
  (.keep [10, 11] [10, 11] ((.seq (.reg false [
    { dst := some 33, op := .call 34000 9 [] },
    { dst := some 34, op := .mov (.t 33) },
    { dst := some 35, op := .load (some 32) (.t 10), guard := some (34, true) },
    { dst := some 36, op := .load (some 32) (.t 11), guard := some (34, true) },
    { dst := some 37, op := .eqa false [0, 0, 0, 0, 0, 0, 0, 0, 0, 0, 0, 0, 0, 0, 0, 0, 0, 0, 0, 0, 0, 0, 0, 0, 0, 0, 0, 0, 0, 0, 0, 0] (.t 35) (.t 36), guard := some (34, true) },
    { dst := some 38, op := .pick (.t 34) (.t 37) (.c (.bool false)) },
    { dst := some 12, op := .mov (.t 38) }])
  (.ret)))))))))))
/-- with its results -/
def a7 : AFun := ⟨c7, [(12, none)], 39⟩

def b8_0 : AC :=
  (.seq (.reg false [
    { dst := some 50, op := .bin .lss (.t 49) (.c (.int .i64 32)) }])
  ((.seq (.cond (.t 50) (.skip) (.exit 4))
  ((.seq (.block 5 ((.seq (.reg false [
    { dst := some 51, op := .mov (.t 49) },
    { dst := some 10, op := .mov (.t 51) }])
  (.reg false [
    { dst := some 52, op := .mov (.t 10) },
    { dst := some 53, op := .mov (.t 10) },
    { dst := some 54, op := .bin .quo (.t 53) (.c (.int .i64 4)) },
    { dst := some 55, op := .fad 0 (.t 3) },
    { dst := some 56, op := .iada 8 1 (.t 55) (.t 54) },
    { dst := some 57, op := .load none (.t 56) },
    { dst := some 58, op := .mov (.t 10) },
    { dst := some 59, op := .bin .rem (.t 58) (.c (.int .i64 4)) },
    { dst := some 60, op := .bin .mul (.t 59) (.c (.int .i64 8)) },
    { dst := some 61, op := .bin .sub (.c (.int .i64 24)) (.t 60) },
    { dst := some 62, op := .bin .shr (.t 57) (.t 61) },
    { dst := some 63, op := .conv .u8 (.t 62) },
    { dst := some 64, op := .iada 32 1 (.t 9) (.t 52) },
    { dst := none, op := .store 1 (.t 64) (.t 63) }]))))
  (.keep [2, 3, 9, 49] [2, 3, 9, 12008, 1003008] (.reg false [
    { dst := some 65, op := .bin .add (.t 49) (.c (.int .i64 1)) },
    { dst := some 49, op := .mov (.t 65) }])))))))
def b8_1 : AC :=
  (.seq (.reg false [
    { dst := some 34, op := .bin .lss (.t 33) (.c (.int .i64 8)) }])
  ((.seq (.cond (.t 34) (.skip) (.exit 2))
  ((.seq (.block 3 ((.seq (.reg false [
    { dst := some 35, op := .mov (.t 33) },
    { dst := some 8, op := .mov (.t 35) }])
  (.reg false [
    { dst := some 36, op := .mov (.t 7) },
    { dst := some 37, op := .mov (.t 6) },
    { dst := some 38, op := .mov (.t 8) },
    { dst := some 39, op := .bin .mul (.c (.int .i64 8)) (.t 38) },
    { dst := some 40, op := .bin .sub (.c (.int .i64 56)) (.t 39) },
    { dst := some 41, op := .bin .shr (.t 37) (.t 40) },
    { dst := some 42, op := .conv .u8 (.t 41) },
    { dst := some 43, op := .bslice 43 1 [(.int .u8 0)] 1 [(0, (.t 42))] },
    { dst := some 44, op := .app 44 1 1 (.t 36) (.t 43) },
    { dst := some 7, op := .mov (.t 44) }]))))
  (.keep [2, 3, 6, 7, 33] [2, 3, 30, 44, 12008, 1003008] (.reg false [
    { dst := some 45, op := .bin .add (.t 33) (.c (.int .i64 1)) },
    { dst := some 33, op := .mov (.t 45) }])))))))
def b8_2 : AC :=
  (.seq (.reg false [
    { dst := some 15, op := .bin .lss (.t 14) (.t 13) }])
  ((.seq (.cond (.t 15) (.skip) (.exit 0))
  ((.seq (.block 1 ((.seq (.reg false [
    { dst := some 16, op := .iad 1 (.t 12) (.t 14) },
    { dst := some 17, op := .load none (.t 16) },
    { dst := some 5, op := .mov (.t 17) }])
  (.reg false [
    { dst := some 18, op := .mov (.t 5) },
    { dst := some 19, op := .call 20000 19 [(.t 3), (.t 18)] }]))))
  (.keep [2, 3, 12, 13, 14] [2, 3, 12008, 100000, 1003008] (.reg false [
    { dst := some 20, op := .bin .add (.t 14) (.c (.int .i64 1)) },
    { dst := some 14, op := .mov (.t 20) }])))))))
/-- estreat/sha.Of: parameters []string -/
def c8 : AC :=
  (.seq (.reg false [
    { dst := some 2, op := .alloc 2 z25 }])
  ((.seq (.reg false [
    { dst := some 11, op := .call 12000 18 [] },
    { dst := some 3, op := .alloc 3 z46 },
    { dst := none, op := .store 10 (.t 3) (.t 11) }])
  ((.seq ((.seq (.reg false [
    { dst := some 12, op := .mov (.t 0) },
    { dst := some 13, op := .len (.t 12) },
    { dst := some 14, op := .mov (.c (.int .i64 0)) }])
  (.block 0 (.loop [2, 3, 12, 13, 14] [2, 3, 12008, 100000, 1003008] b8_2))))
  (.keep [2, 3] [2, 3, 12008, 1003008] ((.seq (.reg false [
    { dst := some 21, op := .fad 9 (.t 3) },
    { dst := some 22, op := .load none (.t 21) },
    { dst := some 23, op := .bin .mul (.t 22) (.c (.int .u64 8)) },
    { dst := some 6, op := .mov (.t 23) }])
  (.keep [2, 3, 6] [2, 3, 12008, 1003008] ((.seq (.reg false [
    { dst := some 24, op := .fad 8 (.t 3) },
    { dst := some 25, op := .load none (.t 24) },
    { dst := some 26, op := .len (.t 25) },
    { dst := some 27, op := .bin .sub (.c (.int .i64 119)) (.t 26) },
    { dst := some 28, op := .bin .rem (.t 27) (.c (.int .i64 64)) },
    { dst := some 29, op := .bin .add (.c (.int .i64 1)) (.t 28) },
    { dst := some 30, op := .mks 30 1 1 [(.int .u8 0)] (.t 29) (.c (.int .i64 128)) },
    { dst := some 7, op := .mov (.t 30) }])
  (.keep [2, 3, 6, 7] [2, 3, 30, 44, 12008, 1003008] ((.seq (.reg false [
    { dst := some 31, op := .mov (.t 7) },
    { dst := some 32, op := .iad 1 (.t 31) (.c (.int .i64 0)) },
    { dst := none, op := .store 1 (.t 32) (.c (.int .u8 128)) }])
  ((.seq ((.seq (.reg false [
    { dst := some 33, op := .mov (.c (.int .i64 0)) }])
  (.block 2 (.loop [2, 3, 6, 7, 33] [2, 3, 30, 44, 12008, 1003008] b8_1))))
  (.keep [2, 3, 7] [2, 3, 30, 44, 12008, 1003008] ((.seq (.reg false [
    { dst := some 46, op := .mov (.t 7) },
    { dst := some 47, op := .b2s (.t 46) },
    { dst := some 48, op := .call 49000 19 [(.t 3), (.t 47)] }])
  ((.seq (.reg false [
    { dst := some 9, op := .alloc 9 z25 }])
  ((.seq ((.seq (.reg false [
    { dst := some 49, op := .mov (.c (.int .i64 0)) }])
  (.block 4 (.loop [2, 3, 9, 49] [2, 3, 9, 12008, 1003008] b8_0))))
  (.keep [2, 9] [2, 9] ((.seq (.reg false [
    { dst := some 66, op := .load (some 32) (.t 9) },
    { dst := none, op := .store 32 (.t 2) (.t 66) }])
  (.ret)))))))))))))))))))))))))))
/-- with its results -/
def a8 : AFun := ⟨c8, [(2, some (some 32))], 67⟩

/-- estreat/estreatlaw06.macs: parameters  -/
def c9 : AC :=
  (.seq (.reg false [
    { dst := some 0, op := .mov (.c (.bool false)) }])
  ((.seq (.reg false [
    { dst := some 8, op := .build z23 [] },
    { dst := some 9, op := .call 10000 13 [(.t 8), (.c (.int .i64 0)), (.c (.int .i64 1))] },
    { dst := some 7, op := .mov (.t 9) },
    { dst := some 10, op := .ext 0 (.t 7) },
    { dst := some 11, op := .ext 1 (.t 7) },
    { dst := some 1, op := .alloc 1 z23 },
    { dst := none, op := .store 32 (.t 1) (.t 10) },
    { dst := some 2, op := .mov (.t 11) }])
  (.keep [2] [] ((.seq (.reg false [
    { dst := some 13, op := .build z23 [] },
    { dst := some 14, op := .call 15000 13 [(.t 13), (.c (.int .i64 1)), (.c (.int .i64 4))] },
    { dst := some 12, op := .mov (.t 14) },
    { dst := some 15, op := .ext 0 (.t 12) },
    { dst := some 16, op := .ext 1 (.t 12) },
    { dst := some 3, op := .alloc 3 z23 },
    { dst := none, op := .store 32 (.t 3) (.t 15) },
    { dst := some 4, op := .mov (.t 16) }])
  (.keep [2, 4] [] ((.seq (.reg false [
    { dst := some 18, op := .build z23 [] },
    { dst := some 19, op := .call 20000 13 [(.t 18), (.c (.int .i64 5)), (.c (.int .i64 3))] },
    { dst := some 17, op := .mov (.t 19) },
    { dst := some 20, op := .ext 0 (.t 17) },
    { dst := some 21, op := .ext 1 (.t 17) },
    { dst := some 5, op := .alloc 5 z23 },
    { dst := none, op := .store 32 (.t 5) (.t 20) },
    { dst := some 6, op := .mov (.t 21) }])
  (.keep [2, 4, 6] [] ((.seq (.reg false [
    { dst := some 22, op := .build z23 [] },
    { dst := some 23, op := .call 24000 10 [(.t 22), (.c (.str ⟨#[]⟩))] },
    { dst := some 24, op := .call 25000 20 [(.t 23)] },
    { dst := some 25, op := .bin .eql (.t 24) (.c (.str ⟨#[98, 54, 49, 51, 54, 55, 57, 97, 48, 56, 49, 52, 100, 57, 101, 99, 55, 55, 50, 102, 57, 53, 100, 55, 55, 56, 99, 51, 53, 102, 99, 53, 102, 102, 49, 54, 57, 55, 99, 52, 57, 51, 55, 49, 53, 54, 53, 51, 99, 54, 99, 55, 49, 50, 49, 52, 52, 50, 57, 50, 99, 53, 97, 100]⟩)) },
    { dst := some 26, op := .mov (.t 25) },
    { dst := some 27, op := .mov (.t 2), guard := some (26, true) },
    { dst := some 28, op := .bin .eql (.t 27) (.c (.int .i64 50)), guard := some (26, true) },
    { dst := some 29, op := .pick (.t 26) (.t 28) (.c (.bool false)) },
    { dst := some 30, op := .mov (.t 29) },
    { dst := some 31, op := .mov (.t 4), guard := some (30, true) },
    { dst := some 32, op := .bin .eql (.t 31) (.c (.int .i64 50)), guard := some (30, true) },
    { dst := some 33, op := .pick (.t 30) (.t 32) (.c (.bool false)) },
    { dst := some 34, op := .mov (.t 33) },
    { dst := some 35, op := .mov (.t 6), guard := some (34, true) },
    { dst := some 36, op := .bin .eql (.t 35) (.c (.int .i64 0)), guard := some (34, true) },
    { dst := some 37, op := .pick (.t 34) (.t 36) (.c (.bool false)) },
    { dst := some 0, op := .mov (.t 37) }])
  (.ret)))))))))))))
/-- with its results -/
def a9 : AFun := ⟨c9, [(0, none)], 38⟩

/-- estreat/tag.Mac: parameters api.Key string -/
def c10 : AC :=
  (.seq (.reg false [
    { dst := some 2, op := .box 2 (.t 0) },
    { dst := some 4, op := .alloc 4 z25 }])
  ((.seq (.reg false [
    { dst := some 6, op := .load (some 32) (.t 2) },
    { dst := some 7, op := .call 8000 21 [(.t 6), (.c (.int .u8 54))] },
    { dst := some 8, op := .mov (.t 1) },
    { dst := some 9, op := .bslice 9 1 [(.str ⟨#[]⟩)] 2 [(0, (.t 7)), (1, (.t 8))] },
    { dst := some 10, op := .call 11000 8 [(.t 9)] },
    { dst := some 5, op := .alloc 5 z25 },
    { dst := none, op := .store 32 (.t 5) (.t 10) }])
  (.keep [2, 4, 5] [2, 4, 5] ((.seq (.reg true [
    { dst := some 11, op := .load (some 32) (.t 2), rs := [2], tn := [2] },
    { dst := some 12, op := .call 13000 21 [(.t 11), (.c (.int .u8 92))], rs := [11], an := [0] },
    { dst := some 13, op := .slca 32 (.t 5) none none, rs := [5], tn := [5] },
    { dst := some 14, op := .b2s (.t 13), rs := [13], tn := [5], an := [2] },
    { dst := some 15, op := .bslice 15 1 [(.str ⟨#[]⟩)] 2 [(0, (.t 12)), (1, (.t 14))], rs := [12, 14], tn := [15], wn := [15], an := [1, 3] },
    { dst := some 16, op := .call 17000 8 [(.t 15)], rs := [15], tn := [15], an := [4] },
    { dst := none, op := .store 32 (.t 4) (.t 16), rs := [4, 16], tn := [4], wn := [4], an := [5] }])
  (.ret)))))))
/-- with its results -/
def a10 : AFun := ⟨c10, [(4, some (some 32))], 17⟩

/-- estreat/estreatref06.Mac: parameters api.Key string -/
def c11 : AC :=
  (.seq (.reg false [
    { dst := some 2, op := .box 2 (.t 0) },
    { dst := some 4, op := .alloc 4 z25 }])
  ((.seq (.reg false [
    { dst := some 6, op := .load (some 32) (.t 2) },
    { dst := some 7, op := .call 8000 23 [(.t 6), (.c (.int .u8 54))] },
    { dst := some 8, op := .mov (.t 1) },
    { dst := some 9, op := .bin .add (.t 7) (.t 8) },
    { dst := some 10, op := .call 11000 22 [(.t 9)] },
    { dst := some 5, op := .alloc 5 z25 },
    { dst := none, op := .store 32 (.t 5) (.t 10) }])
  (.keep [2, 4, 5] [2, 4, 5] ((.seq (.reg true [
    { dst := some 11, op := .load (some 32) (.t 2), rs := [2], tn := [2] },
    { dst := some 12, op := .call 13000 23 [(.t 11), (.c (.int .u8 92))], rs := [11], an := [0] },
    { dst := some 13, op := .load (some 32) (.t 5), rs := [5], tn := [5] },
    { dst := some 14, op := .call 15000 24 [(.t 13)], rs := [13], an := [2] },
    { dst := some 15, op := .bin .add (.t 12) (.t 14), rs := [12, 14], an := [1, 3] },
    { dst := some 16, op := .call 17000 22 [(.t 15)], rs := [15], an := [4] },
    { dst := none, op := .store 32 (.t 4) (.t 16), rs := [4, 16], tn := [4], wn := [4], an := [5] }])
  (.ret)))))))
/-- with its results -/
def a11 : AFun := ⟨c11, [(4, some (some 32))], 17⟩

def b12_0 : AC :=
  (.seq (.reg false [
    { dst := some 8, op := .bin .lss (.t 7) (.c (.int .i64 32)) }])
  ((.seq (.cond (.t 8) (.skip) (.exit 0))
  ((.seq (.block 1 ((.seq (.reg false [
    { dst := some 9, op := .mov (.t 7) },
    { dst := some 6, op := .mov (.t 9) }])
  (.reg true [
    { dst := some 10, op := .mov (.t 5), rs := [5] },
    { dst := some 11, op := .mov (.t 6), rs := [6] },
    { dst := some 12, op := .iada 32 1 (.t 2) (.t 11), rs := [2, 11], tn := [2], an := [1] },
    { dst := some 13, op := .load none (.t 12), rs := [12], tn := [2], an := [2] },
    { dst := some 14, op := .mov (.t 6), rs := [6] },
    { dst := some 15, op := .iada 32 1 (.t 3) (.t 14), rs := [3, 14], tn := [3], an := [4] },
    { dst := some 16, op := .load none (.t 15), rs := [15], tn := [3], an := [5] },
    { dst := some 17, op := .bin .xor (.t 13) (.t 16), rs := [13, 16], an := [3, 6] },
    { dst := some 18, op := .bin .or (.t 10) (.t 17), rs := [10, 17], an := [0, 7] },
    { dst := some 5, op := .mov (.t 18), rs := [18], an := [0, 8] }]))))
  (.keep [2, 3, 4, 5, 7] [2, 3] (.reg false [
    { dst := some 19, op := .bin .add (.t 7) (.c (.int .i64 1)) },
    { dst := some 7, op := .mov (.t 19) }])))))))
/-- estreat/tag.Same: parameters api.Digest api.Digest -/
def c12 : AC :=
  (.seq (.reg false [
    { dst := some 2, op := .box 2 (.t 0) },
    { dst := some 3, op := .box 3 (.t 1) },
    { dst := some 4, op := .mov (.c (.bool false)) }])
  ((.seq (.reg false [
    { dst := some 5, op := .mov (.c (.int .u8 0)) }])
  ((.seq ((.seq (.reg false [
    { dst := some 7, op := .mov (.c (.int .i64 0)) }])
  (.block 0 (.loop [2, 3, 4, 5, 7] [2, 3] b12_0))))
  (.keep [5] [] ((.seq (.reg false [
    { dst := some 20, op := .mov (.t 5) },
    { dst := some 21, op := .bin .eql (.t 20) (.c (.int .u8 0)) },
    { dst := some 4, op := .mov (.t 21) }])
  (.ret)))))))))
/-- with its results -/
def a12 : AFun := ⟨c12, [(4, none)], 22⟩

/-- estreat/tag.Key: parameters api.Key int int -/
def c13 : AC :=
  (.seq (.reg false [
    { dst := some 3, op := .box 3 (.t 0) },
    { dst := some 6, op := .alloc 6 z23 },
    { dst := some 7, op := .mov (.c (.int .i64 0)) }])
  ((.seq ((.seq (.reg false [
    { dst := some 8, op := .mov (.t 1) },
    { dst := some 9, op := .bin .lss (.t 8) (.c (.int .i64 1)) },
    { dst := some 10, op := .mov (.t 9) },
    { dst := some 11, op := .mov (.t 1), guard := some (10, false) },
    { dst := some 12, op := .bin .gtr (.t 11) (.c (.int .i64 5)), guard := some (10, false) },
    { dst := some 13, op := .pick (.t 10) (.c (.bool true)) (.t 12) },
    { dst := some 14, op := .mov (.t 13) },
    { dst := some 15, op := .mov (.t 2), guard := some (14, false) },
    { dst := some 16, op := .bin .lss (.t 15) (.c (.int .i64 1)), guard := some (14, false) },
    { dst := some 17, op := .pick (.t 14) (.c (.bool true)) (.t 16) },
    { dst := some 18, op := .mov (.t 17) },
    { dst := some 19, op := .mov (.t 2), guard := some (18, false) },
    { dst := some 20, op := .bin .gtr (.t 19) (.c (.int .i64 3)), guard := some (18, false) },
    { dst := some 21, op := .pick (.t 18) (.c (.bool true)) (.t 20) }])
  (.cond (.t 21) ((.seq (.reg false [
    { dst := some 22, op := .build z23 [] },
    { dst := none, op := .store 32 (.t 6) (.t 22) },
    { dst := some 7, op := .mov (.c (.int .i64 50)) }])
  (.ret))) (.skip))))
  (.keep [1, 2, 3, 6] [3, 6] ((.seq (.reg false [
    { dst := some 23, op := .load (some 32) (.t 3) },
    { dst := some 24, op := .mov (.t 1) },
    { dst := some 25, op := .conv .u8 (.t 24) },
    { dst := some 26, op := .mov (.t 2) },
    { dst := some 27, op := .conv .u8 (.t 26) },
    { dst := some 28, op := .bslice 28 1 [(.int .u8 0)] 3 [(0, (.c (.int .u8 75))), (1, (.t 25)), (2, (.t 27))] },
    { dst := some 29, op := .b2s (.t 28) },
    { dst := some 30, op := .call 31000 10 [(.t 23), (.t 29)] },
    { dst := none, op := .store 32 (.t 6) (.t 30) },
    { dst := some 7, op := .mov (.c (.int .i64 0)) }])
  (.ret)))))))
/-- with its results -/
def a13 : AFun := ⟨c13, [(6, some (some 32)), (7, none)], 31⟩

/-- estreat/estreatref06.Owner: parameters int int -/
def c14 : AC :=
  (.seq (.reg false [
    { dst := some 4, op := .mov (.c (.bool false)) }])
  ((.seq (.reg false [
    { dst := some 5, op := .mov (.t 0) },
    { dst := some 6, op := .bin .geq (.t 5) (.c (.int .i64 1)) },
    { dst := some 7, op := .mov (.t 6) },
    { dst := some 8, op := .mov (.t 0), guard := some (7, true) },
    { dst := some 9, op := .bin .leq (.t 8) (.c (.int .i64 5)), guard := some (7, true) },
    { dst := some 10, op := .pick (.t 7) (.t 9) (.c (.bool false)) },
    { dst := some 11, op := .mov (.t 10) },
    { dst := some 12, op := .mov (.t 1), guard := some (11, true) },
    { dst := some 13, op := .bin .geq (.t 12) (.c (.int .i64 1)), guard := some (11, true) },
    { dst := some 14, op := .pick (.t 11) (.t 13) (.c (.bool false)) },
    { dst := some 15, op := .mov (.t 14) },
    { dst := some 16, op := .mov (.t 1), guard := some (15, true) },
    { dst := some 17, op := .bin .leq (.t 16) (.c (.int .i64 3)), guard := some (15, true) },
    { dst := some 18, op := .pick (.t 15) (.t 17) (.c (.bool false)) },
    { dst := some 4, op := .mov (.t 18) }])
  (.ret))))
/-- with its results -/
def a14 : AFun := ⟨c14, [(4, none)], 19⟩

/-- estreat/estreatref06.Key: parameters api.Key int int -/
def c15 : AC :=
  (.seq (.reg false [
    { dst := some 3, op := .box 3 (.t 0) },
    { dst := some 6, op := .alloc 6 z23 }])
  ((.seq (.reg false [
    { dst := some 7, op := .load (some 32) (.t 3) },
    { dst := some 8, op := .mov (.t 1) },
    { dst := some 9, op := .conv .u8 (.t 8) },
    { dst := some 10, op := .mov (.t 2) },
    { dst := some 11, op := .conv .u8 (.t 10) },
    { dst := some 12, op := .bslice 12 1 [(.int .u8 0)] 3 [(0, (.c (.int .u8 75))), (1, (.t 9)), (2, (.t 11))] },
    { dst := some 13, op := .b2s (.t 12) },
    { dst := some 14, op := .call 15000 11 [(.t 7), (.t 13)] },
    { dst := none, op := .store 32 (.t 6) (.t 14) }])
  (.ret))))
/-- with its results -/
def a15 : AFun := ⟨c15, [(6, some (some 32))], 15⟩

/-- estreat/tag.Holds: parameters api.Key int int string api.Digest -/
def c16 : AC :=
  (.seq (.reg false [
    { dst := some 5, op := .box 5 (.t 0) },
    { dst := some 9, op := .box 9 (.t 4) },
    { dst := some 10, op := .mov (.c (.int .i64 0)) }])
  ((.seq (.reg false [
    { dst := some 14, op := .load (some 32) (.t 5) },
    { dst := some 15, op := .mov (.t 1) },
    { dst := some 16, op := .mov (.t 2) },
    { dst := some 17, op := .call 18000 13 [(.t 14), (.t 15), (.t 16)] },
    { dst := some 13, op := .mov (.t 17) },
    { dst := some 18, op := .ext 0 (.t 13) },
    { dst := some 19, op := .ext 1 (.t 13) },
    { dst := some 11, op := .alloc 11 z23 },
    { dst := none, op := .store 32 (.t 11) (.t 18) },
    { dst := some 12, op := .mov (.t 19) }])
  (.keep [3, 9, 11, 12] [9, 11] ((.seq (.block 0 ((.seq (.reg false [
    { dst := some 21, op := .mov (.t 12) },
    { dst := some 22, op := .bin .neq (.t 21) (.c (.int .i64 0)) },
    { dst := some 20, op := .mov (.t 22) }])
  (.cond (.t 20) ((.seq (.reg false [
    { dst := some 23, op := .mov (.t 12) },
    { dst := some 10, op := .mov (.t 23) }])
  (.ret))) ((.seq (.reg true [
    { dst := some 25, op := .load (some 32) (.t 11), rs := [11], tn := [11] },
    { dst := some 26, op := .mov (.t 3), rs := [3] },
    { dst := some 27, op := .call 28000 10 [(.t 25), (.t 26)], rs := [25, 26], an := [0, 1] },
    { dst := some 28, op := .load (some 32) (.t 9), rs := [9], tn := [9] },
    { dst := some 29, op := .call 30000 12 [(.t 27), (.t 28)], rs := [27, 28], an := [2, 3] },
    { dst := some 30, op := .un .not (.t 29), rs := [29], an := [4] },
    { dst := some 24, op := .mov (.t 30), rs := [30], an := [5] }])
  (.cond (.t 24) ((.seq (.reg false [
    { dst := some 10, op := .mov (.c (.int .i64 72)) }])
  (.ret))) (.skip))))))))
  (.keep [] [] ((.seq (.reg false [
    { dst := some 10, op := .mov (.c (.int .i64 0)) }])
  (.ret))))))))))
/-- with its results -/
def a16 : AFun := ⟨c16, [(10, none)], 31⟩

/-- estreat/estreatref06.Holds: parameters api.Key int int string api.Digest -/
def c17 : AC :=
  (.seq (.reg false [
    { dst := some 5, op := .box 5 (.t 0) },
    { dst := some 9, op := .box 9 (.t 4) },
    { dst := some 10, op := .mov (.c (.int .i64 0)) }])
  ((.seq ((.seq (.reg false [
    { dst := some 11, op := .mov (.t 1) },
    { dst := some 12, op := .mov (.t 2) },
    { dst := some 13, op := .call 14000 14 [(.t 11), (.t 12)] },
    { dst := some 14, op := .un .not (.t 13) }])
  (.cond (.t 14) ((.seq (.reg false [
    { dst := some 10, op := .mov (.c (.int .i64 50)) }])
  (.ret))) (.skip))))
  (.keep [1, 2, 3, 5, 9] [5, 9] ((.seq ((.seq (.reg true [
    { dst := some 15, op := .load (some 32) (.t 5), rs := [5], tn := [5] },
    { dst := some 16, op := .mov (.t 1), rs := [1] },
    { dst := some 17, op := .mov (.t 2), rs := [2] },
    { dst := some 18, op := .call 19000 15 [(.t 15), (.t 16), (.t 17)], rs := [15, 16, 17], an := [0, 1, 2] },
    { dst := some 19, op := .mov (.t 3), rs := [3] },
    { dst := some 20, op := .call 21000 11 [(.t 18), (.t 19)], rs := [18, 19], an := [3, 4] },
    { dst := some 21, op := .load (some 32) (.t 9), rs := [9], tn := [9] },
    { dst := some 22, op := .eqa true [0, 0, 0, 0, 0, 0, 0, 0, 0, 0, 0, 0, 0, 0, 0, 0, 0, 0, 0, 0, 0, 0, 0, 0, 0, 0, 0, 0, 0, 0, 0, 0] (.t 20) (.t 21), rs := [20, 21], an := [5, 6] }])
  (.cond (.t 22) ((.seq (.reg false [
    { dst := some 10, op := .mov (.c (.int .i64 72)) }])
  (.ret))) (.skip))))
  (.keep [] [] ((.seq (.reg false [
    { dst := some 10, op := .mov (.c (.int .i64 0)) }])
  (.ret))))))))))
/-- with its results -/
def a17 : AFun := ⟨c17, [(10, none)], 23⟩

/-- estreat/sha.begin: parameters  -/
def c18 : AC :=
  (.seq (.reg false [
    { dst := some 0, op := .alloc 0 z46 }])
  ((.seq (.reg false [
    { dst := some 1, op := .build z43 [(0, 1, (.c (.int .u32 1779033703))), (1, 1, (.c (.int .u32 3144134277))), (2, 1, (.c (.int .u32 1013904242))), (3, 1, (.c (.int .u32 2773480762))), (4, 1, (.c (.int .u32 1359893119))), (5, 1, (.c (.int .u32 2600822924))), (6, 1, (.c (.int .u32 528734635))), (7, 1, (.c (.int .u32 1541459225)))] },
    { dst := some 2, op := .build z46 [(0, 8, (.t 1))] },
    { dst := none, op := .store 10 (.t 0) (.t 2) }])
  (.ret))))
/-- with its results -/
def a18 : AFun := ⟨c18, [(0, some (some 10))], 3⟩

def b19_0 : AC :=
  (.seq ((.seq (.reg false [
    { dst := some 23, op := .mov (.t 0) },
    { dst := some 24, op := .nilck (.t 23) },
    { dst := some 25, op := .fad 8 (.t 24) },
    { dst := some 26, op := .load none (.t 25) },
    { dst := some 27, op := .len (.t 26) },
    { dst := some 28, op := .bin .geq (.t 27) (.c (.int .i64 64)) }])
  (.cond (.t 28) (.skip) (.exit 0))))
  (.keep [0] [20, 100000, 100009] (.block 1 ((.seq (.reg false [
    { dst := some 29, op := .mov (.t 0) },
    { dst := some 30, op := .mov (.t 0) },
    { dst := some 31, op := .nilck (.t 30) },
    { dst := some 32, op := .fad 8 (.t 31) },
    { dst := some 33, op := .load none (.t 32) },
    { dst := some 34, op := .slc 1 (.t 33) none (some (.c (.int .i64 64))) none },
    { dst := some 35, op := .inl 25 [(.t 29), (.t 34)] }])
  (.keep [0] [20, 100000, 100009] (.reg false [
    { dst := some 36, op := .mov (.t 0) },
    { dst := some 37, op := .mov (.t 0) },
    { dst := some 38, op := .nilck (.t 37) },
    { dst := some 39, op := .fad 8 (.t 38) },
    { dst := some 40, op := .load none (.t 39) },
    { dst := some 41, op := .slc 1 (.t 40) (some (.c (.int .i64 64))) none none },
    { dst := some 42, op := .nilck (.t 36) },
    { dst := some 43, op := .fad 8 (.t 42) },
    { dst := none, op := .store 1 (.t 43) (.t 41) }])))))))
/-- (*estreat/sha.state).take: parameters *sha.state string -/
def c19 : AC :=
  (.seq (.reg false [
    { dst := some 4, op := .mov (.t 0) },
    { dst := some 5, op := .nilck (.t 4) },
    { dst := some 6, op := .fad 9 (.t 5) },
    { dst := some 7, op := .load none (.t 6) },
    { dst := some 8, op := .mov (.t 1) },
    { dst := some 9, op := .lenS (.t 8) },
    { dst := some 10, op := .conv .u64 (.t 9) },
    { dst := some 11, op := .bin .add (.t 7) (.t 10) },
    { dst := some 12, op := .nilck (.t 4) },
    { dst := some 13, op := .fad 9 (.t 12) },
    { dst := none, op := .store 1 (.t 13) (.t 11) }])
  (.keep [0, 1] [20, 100000, 100009] ((.seq (.reg false [
    { dst := some 14, op := .mov (.t 0) },
    { dst := some 15, op := .mov (.t 0) },
    { dst := some 16, op := .nilck (.t 15) },
    { dst := some 17, op := .fad 8 (.t 16) },
    { dst := some 18, op := .load none (.t 17) },
    { dst := some 19, op := .mov (.t 1) },
    { dst := some 20, op := .app 20 1 1 (.t 18) (.t 19) },
    { dst := some 21, op := .nilck (.t 14) },
    { dst := some 22, op := .fad 8 (.t 21) },
    { dst := none, op := .store 1 (.t 22) (.t 20) }])
  (.keep [0] [20, 100000, 100009] (.block 0 (.loop [0] [20, 100000, 100009] b19_0)))))))
/-- with its results -/
def a19 : AFun := ⟨c19, [], 44⟩

def b20_0 : AC :=
  (.seq (.reg false [
    { dst := some 8, op := .bin .lss (.t 7) (.c (.int .i64 32)) }])
  ((.seq (.cond (.t 8) (.skip) (.exit 0))
  ((.seq (.block 1 ((.seq (.reg false [
    { dst := some 9, op := .idx 32 1 none (.t 6) (.t 7) },
    { dst := some 5, op := .mov (.t 9) }])
  (.reg true [
    { dst := some 10, op := .mov (.t 3), rs := [3], tn := [18] },
    { dst := some 11, op := .mov (.t 5), rs := [5] },
    { dst := some 12, op := .bin .shr (.t 11) (.c (.int .u64 4)), rs := [11], an := [1] },
    { dst := some 13, op := .idxs (.c (.str ⟨#[48, 49, 50, 51, 52, 53, 54, 55, 56, 57, 97, 98, 99, 100, 101, 102]⟩)) (.t 12), rs := [12], an := [2] },
    { dst := some 14, op := .mov (.t 5), rs := [5] },
    { dst := some 15, op := .bin .and (.t 14) (.c (.int .u8 15)), rs := [14], an := [4] },
    { dst := some 16, op := .idxs (.c (.str ⟨#[48, 49, 50, 51, 52, 53, 54, 55, 56, 57, 97, 98, 99, 100, 101, 102]⟩)) (.t 15), rs := [15], an := [5] },
    { dst := some 17, op := .bslice 17 1 [(.int .u8 0)] 2 [(0, (.t 13)), (1, (.t 16))], rs := [13, 16], tn := [17], wn := [17], an := [3, 6] },
    { dst := some 18, op := .app 18 1 1 (.t 10) (.t 17), rs := [10, 17], tn := [17, 18], wn := [17, 18], an := [0, 7] },
    { dst := some 3, op := .mov (.t 18), rs := [18], tn := [18], an := [0, 8] }]))))
  (.keep [2, 3, 6, 7] [18] (.reg false [
    { dst := some 19, op := .bin .add (.t 7) (.c (.int .i64 1)) },
    { dst := some 7, op := .mov (.t 19) }])))))))
/-- estreat/sha.Hex: parameters api.Digest -/
def c20 : AC :=
  (.seq (.reg false [
    { dst := some 1, op := .box 1 (.t 0) },
    { dst := some 2, op := .mov (.c (.str ⟨#[]⟩)) }])
  ((.seq (.reg false [
    { dst := some 3, op := .mov (.c .nilS) }])
  ((.seq ((.seq (.reg false [
    { dst := some 6, op := .load (some 32) (.t 1) },
    { dst := some 7, op := .mov (.c (.int .i64 0)) }])
  (.block 0 (.loop [2, 3, 6, 7] [18] b20_0))))
  (.keep [3] [18] ((.seq (.reg false [
    { dst := some 20, op := .mov (.t 3) },
    { dst := some 21, op := .b2s (.t 20) },
    { dst := some 2, op := .mov (.t 21) }])
  (.ret)))))))))
/-- with its results -/
def a20 : AFun := ⟨c20, [(2, none)], 22⟩

def b21_0 : AC :=
  (.seq (.reg false [
    { dst := some 11, op := .bin .lss (.t 10) (.c (.int .i64 64)) }])
  ((.seq (.cond (.t 11) (.skip) (.exit 0))
  ((.seq (.block 1 ((.seq (.reg false [
    { dst := some 12, op := .mov (.t 10) },
    { dst := some 6, op := .mov (.t 12) }])
  (.reg false [
    { dst := some 13, op := .mov (.t 6) },
    { dst := some 14, op := .iada 64 1 (.t 5) (.t 13) },
    { dst := some 15, op := .load none (.t 14) },
    { dst := some 16, op := .mov (.t 1) },
    { dst := some 17, op := .bin .xor (.t 15) (.t 16) },
    { dst := some 18, op := .iada 64 1 (.t 5) (.t 13) },
    { dst := none, op := .store 1 (.t 18) (.t 17) }]))))
  (.keep [1, 4, 5, 10] [5] (.reg false [
    { dst := some 19, op := .bin .add (.t 10) (.c (.int .i64 1)) },
    { dst := some 10, op := .mov (.t 19) }])))))))
/-- estreat/tag.block: parameters api.Key uint8 -/
def c21 : AC :=
  (.seq (.reg false [
    { dst := some 2, op := .box 2 (.t 0) },
    { dst := some 4, op := .mov (.c (.str ⟨#[]⟩)) }])
  ((.seq (.reg false [
    { dst := some 5, op := .alloc 5 z55 }])
  ((.seq (.reg true [
    { dst := some 7, op := .slca 64 (.t 5) none none, rs := [5], tn := [5] },
    { dst := some 8, op := .slca 32 (.t 2) none none, rs := [2], tn := [2] },
    { dst := some 9, op := .cpy 1 (.t 7) (.t 8), rs := [7, 8], tn := [2, 5], wn := [2, 5], an := [0, 1] }])
  ((.seq ((.seq (.reg false [
    { dst := some 10, op := .mov (.c (.int .i64 0)) }])
  (.block 0 (.loop [1, 4, 5, 10] [5] b21_0))))
  (.keep [5] [5] ((.seq (.reg false [
    { dst := some 20, op := .slca 64 (.t 5) none none },
    { dst := some 21, op := .b2s (.t 20) },
    { dst := some 4, op := .mov (.t 21) }])
  (.ret)))))))))))
/-- with its results -/
def a21 : AFun := ⟨c21, [(4, none)], 22⟩

def b22_0 : AC :=
  (.seq ((.seq (.reg false [
    { dst := some 24, op := .mov (.t 7) },
    { dst := some 25, op := .bin .lss (.t 24) (.c (.int .i64 32)) }])
  (.cond (.t 25) (.skip) (.exit 2))))
  ((.seq (.block 3 (.reg false [
    { dst := some 28, op := .mov (.t 7) },
    { dst := some 29, op := .mov (.t 7) },
    { dst := some 30, op := .bin .quo (.t 29) (.c (.int .i64 4)) },
    { dst := some 31, op := .iada 8 1 (.t 3) (.t 30) },
    { dst := some 32, op := .load none (.t 31) },
    { dst := some 33, op := .mov (.t 7) },
    { dst := some 34, op := .bin .rem (.t 33) (.c (.int .i64 4)) },
    { dst := some 35, op := .bin .mul (.c (.int .i64 8)) (.t 34) },
    { dst := some 36, op := .bin .sub (.c (.int .i64 24)) (.t 35) },
    { dst := some 37, op := .bin .shr (.t 32) (.t 36) },
    { dst := some 38, op := .conv .u8 (.t 37) },
    { dst := some 39, op := .iada 32 1 (.t 6) (.t 28) },
    { dst := none, op := .store 1 (.t 39) (.t 38) }]))
  (.keep [2, 3, 6, 7] [2, 3, 6] (.reg false [
    { dst := some 26, op := .mov (.t 7) },
    { dst := some 27, op := .bin .add (.t 26) (.c (.int .i64 1)) },
    { dst := some 7, op := .mov (.t 27) }])))))
def b22_1 : AC :=
  (.seq ((.seq (.reg false [
    { dst := some 11, op := .mov (.t 5) },
    { dst := some 12, op := .mov (.t 4) },
    { dst := some 13, op := .len (.t 12) },
    { dst := some 14, op := .bin .lss (.t 11) (.t 13) }])
  (.cond (.t 14) (.skip) (.exit 0))))
  (.keep [2, 3, 4, 5] [2, 3, 11000] ((.seq (.block 1 (.reg true [
    { dst := some 17, op := .load (some 8) (.t 3), rs := [3], tn := [3] },
    { dst := some 18, op := .mov (.t 4), rs := [4], tn := [11000] },
    { dst := some 19, op := .mov (.t 5), rs := [5] },
    { dst := some 20, op := .mov (.t 5), rs := [5] },
    { dst := some 21, op := .bin .add (.t 20) (.c (.int .i64 64)), rs := [20], an := [3] },
    { dst := some 22, op := .slc 1 (.t 18) (some (.t 19)) (some (.t 21)) none, rs := [18, 19, 21], tn := [11000], an := [1, 2, 4] },
    { dst := some 23, op := .call 24000 27 [(.t 17), (.t 22)], rs := [17, 22], tn := [11000], an := [0, 5] },
    { dst := none, op := .store 8 (.t 3) (.t 23), rs := [3, 23], tn := [3], wn := [3], an := [0, 6] }]))
  (.keep [2, 3, 4, 5] [2, 3, 11000] (.reg false [
    { dst := some 15, op := .mov (.t 5) },
    { dst := some 16, op := .bin .add (.t 15) (.c (.int .i64 64)) },
    { dst := some 5, op := .mov (.t 16) }]))))))
/-- estreat/estreatref02.Sum: parameters string -/
def c22 : AC :=
  (.seq (.reg false [
    { dst := some 2, op := .alloc 2 z25 }])
  ((.seq (.reg false [
    { dst := some 8, op := .build z43 [(0, 1, (.c (.int .u32 1779033703))), (1, 1, (.c (.int .u32 3144134277))), (2, 1, (.c (.int .u32 1013904242))), (3, 1, (.c (.int .u32 2773480762))), (4, 1, (.c (.int .u32 1359893119))), (5, 1, (.c (.int .u32 2600822924))), (6, 1, (.c (.int .u32 528734635))), (7, 1, (.c (.int .u32 1541459225)))] },
    { dst := some 3, op := .alloc 3 z43 },
    { dst := none, op := .store 8 (.t 3) (.t 8) }])
  ((.seq (.reg false [
    { dst := some 9, op := .mov (.t 0) },
    { dst := some 10, op := .call 11000 26 [(.t 9)] },
    { dst := some 4, op := .mov (.t 10) }])
  ((.seq ((.seq (.reg false [
    { dst := some 5, op := .mov (.c (.int .i64 0)) }])
  (.block 0 (.loop [2, 3, 4, 5] [2, 3, 11000] b22_1))))
  (.keep [2, 3] [2, 3] ((.seq (.reg false [
    { dst := some 6, op := .alloc 6 z25 }])
  ((.seq ((.seq (.reg false [
    { dst := some 7, op := .mov (.c (.int .i64 0)) }])
  (.block 2 (.loop [2, 3, 6, 7] [2, 3, 6] b22_0))))
  (.keep [2, 6] [2, 6] ((.seq (.reg false [
    { dst := some 40, op := .load (some 32) (.t 6) },
    { dst := none, op := .store 32 (.t 2) (.t 40) }])
  (.ret))))))))))))))))
/-- with its results -/
def a22 : AFun := ⟨c22, [(2, some (some 32))], 41⟩

def b23_0 : AC :=
  (.seq ((.seq (.reg false [
    { dst := some 8, op := .mov (.t 6) },
    { dst := some 9, op := .bin .lss (.t 8) (.c (.int .i64 64)) }])
  (.cond (.t 9) (.skip) (.exit 0))))
  ((.seq (.block 1 ((.seq (.reg false [
    { dst := some 7, op := .mov (.c (.int .u8 0)) }])
  ((.seq ((.seq (.reg false [
    { dst := some 12, op := .mov (.t 6) },
    { dst := some 13, op := .bin .lss (.t 12) (.c (.int .i64 32)) }])
  (.cond (.t 13) (.reg false [
    { dst := some 14, op := .mov (.t 6) },
    { dst := some 15, op := .iada 32 1 (.t 2) (.t 14) },
    { dst := some 16, op := .load none (.t 15) },
    { dst := some 7, op := .mov (.t 16) }]) (.skip))))
  (.keep [1, 2, 4, 5, 6, 7] [2, 22] (.reg false [
    { dst := some 17, op := .mov (.t 5) },
    { dst := some 18, op := .mov (.t 7) },
    { dst := some 19, op := .mov (.t 1) },
    { dst := some 20, op := .bin .xor (.t 18) (.t 19) },
    { dst := some 21, op := .bslice 21 1 [(.int .u8 0)] 1 [(0, (.t 20))] },
    { dst := some 22, op := .app 22 1 1 (.t 17) (.t 21) },
    { dst := some 5, op := .mov (.t 22) }])))))))
  (.keep [1, 2, 4, 5, 6] [2, 22] (.reg false [
    { dst := some 10, op := .mov (.t 6) },
    { dst := some 11, op := .bin .add (.t 10) (.c (.int .i64 1)) },
    { dst := some 6, op := .mov (.t 11) }])))))
/-- estreat/estreatref06.block: parameters api.Key uint8 -/
def c23 : AC :=
  (.seq (.reg false [
    { dst := some 2, op := .box 2 (.t 0) },
    { dst := some 4, op := .mov (.c (.str ⟨#[]⟩)) }])
  ((.seq (.reg false [
    { dst := some 5, op := .mov (.c .nilS) }])
  ((.seq ((.seq (.reg false [
    { dst := some 6, op := .mov (.c (.int .i64 0)) }])
  (.block 0 (.loop [1, 2, 4, 5, 6] [2, 22] b23_0))))
  (.keep [5] [22] ((.seq (.reg false [
    { dst := some 23, op := .mov (.t 5) },
    { dst := some 24, op := .b2s (.t 23) },
    { dst := some 4, op := .mov (.t 24) }])
  (.ret)))))))))
/-- with its results -/
def a23 : AFun := ⟨c23, [(4, none)], 25⟩

/-- estreat/estreatref02.Text: parameters api.Digest -/
def c24 : AC :=
  (.seq (.reg false [
    { dst := some 1, op := .box 1 (.t 0) },
    { dst := some 2, op := .mov (.c (.str ⟨#[]⟩)) }])
  ((.seq (.reg false [
    { dst := some 3, op := .slca 32 (.t 1) none none },
    { dst := some 4, op := .b2s (.t 3) },
    { dst := some 2, op := .mov (.t 4) }])
  (.ret))))
/-- with its results -/
def a24 : AFun := ⟨c24, [(2, none)], 5⟩

def b25_0 : AC :=
  (.seq (.reg false [
    { dst := some 141, op := .bin .lss (.t 140) (.c (.int .i64 8)) }])
  ((.seq (.cond (.t 141) (.skip) (.exit 4))
  ((.seq (.block 5 ((.seq (.reg false [
    { dst := some 142, op := .mov (.t 140) },
    { dst := some 143, op := .idx 8 1 none (.t 139) (.t 140) },
    { dst := some 16, op := .mov (.t 142) },
    { dst := some 17, op := .mov (.t 143) }])
  (.keep [0, 16, 17, 139, 140] [100000, 100009] (.reg true [
    { dst := some 144, op := .mov (.t 0), rs := [0], tn := [100000, 100009] },
    { dst := some 145, op := .mov (.t 16), rs := [16] },
    { dst := some 146, op := .nilck (.t 144), rs := [144], tn := [100000, 100009], an := [0] },
    { dst := some 147, op := .fad 0 (.t 146), rs := [146], tn := [100000, 100009], an := [2] },
    { dst := some 148, op := .iada 8 1 (.t 147) (.t 145), rs := [145, 147], tn := [100000, 100009], an := [1, 3] },
    { dst := some 149, op := .load none (.t 148), rs := [148], tn := [100000, 100009], an := [4] },
    { dst := some 150, op := .mov (.t 17), rs := [17] },
    { dst := some 151, op := .bin .add (.t 149) (.t 150), rs := [149, 150], an := [5, 6] },
    { dst := some 152, op := .nilck (.t 144), rs := [144], tn := [100000, 100009], an := [0] },
    { dst := some 153, op := .fad 0 (.t 152), rs := [152], tn := [100000, 100009], an := [8] },
    { dst := some 154, op := .iada 8 1 (.t 153) (.t 145), rs := [145, 153], tn := [100000, 100009], an := [1, 8, 9] },
    { dst := none, op := .store 1 (.t 154) (.t 151), rs := [151, 154], tn := [100000, 100009], wn := [100000], an := [0, 2, 3, 4, 5, 7, 8, 9, 10] }])))))
  (.keep [0, 139, 140] [100000, 100009] (.reg false [
    { dst := some 155, op := .bin .add (.t 140) (.c (.int .i64 1)) },
    { dst := some 140, op := .mov (.t 155) }])))))))
def b25_1 : AC :=
  (.seq (.reg false [
    { dst := some 43, op := .bin .lss (.t 42) (.c (.int .i64 64)) }])
  ((.seq (.cond (.t 43) (.skip) (.exit 2))
  ((.seq (.block 3 ((.seq (.reg false [
    { dst := some 44, op := .mov (.t 42) },
    { dst := some 45, op := .idx 64 1 none (.t 41) (.t 42) },
    { dst := some 8, op := .mov (.t 44) },
    { dst := some 9, op := .mov (.t 45) }])
  (.keep [0, 4, 7, 8, 9, 41, 42] [4, 7, 100000, 100009] ((.seq (.reg true [
    { dst := some 46, op := .iada 8 1 (.t 7) (.c (.int .i64 4)), rs := [7], tn := [7] },
    { dst := some 47, op := .load none (.t 46), rs := [46], tn := [7], an := [0] },
    { dst := some 48, op := .iada 8 1 (.t 7) (.c (.int .i64 0)), rs := [7], tn := [7] },
    { dst := some 49, op := .load none (.t 48), rs := [48], tn := [7], an := [2] },
    { dst := some 10, op := .mov (.t 47), rs := [47], an := [1] },
    { dst := some 11, op := .mov (.t 49), rs := [49], an := [3] }])
  (.keep [0, 4, 7, 8, 9, 10, 11, 41, 42] [4, 7, 100000, 100009] ((.seq (.reg true [
    { dst := some 50, op := .iada 8 1 (.t 7) (.c (.int .i64 7)), rs := [7], tn := [7] },
    { dst := some 51, op := .load none (.t 50), rs := [50], tn := [7], an := [0] },
    { dst := some 52, op := .mov (.t 10), rs := [10] },
    { dst := some 53, op := .mov (.t 10), rs := [10] },
    { dst := some 54, op := .call 55000 29 [(.t 53), (.c (.int .i64 (-25)))], rs := [53], an := [3] },
    { dst := some 55, op := .call 56000 28 [(.t 52), (.c (.int .i64 6)), (.c (.int .i64 11)), (.t 54)], rs := [52, 54], an := [2, 4] },
    { dst := some 56, op := .bin .add (.t 51) (.t 55), rs := [51, 55], an := [1, 5] },
    { dst := some 57, op := .iada 8 1 (.t 7) (.c (.int .i64 6)), rs := [7], tn := [7] },
    { dst := some 58, op := .load none (.t 57), rs := [57], tn := [7], an := [7] },
    { dst := some 59, op := .mov (.t 10), rs := [10] },
    { dst := some 60, op := .iada 8 1 (.t 7) (.c (.int .i64 5)), rs := [7], tn := [7] },
    { dst := some 61, op := .load none (.t 60), rs := [60], tn := [7], an := [10] },
    { dst := some 62, op := .iada 8 1 (.t 7) (.c (.int .i64 6)), rs := [7], tn := [7] },
    { dst := some 63, op := .load none (.t 62), rs := [62], tn := [7], an := [12] },
    { dst := some 64, op := .bin .xor (.t 61) (.t 63), rs := [61, 63], an := [11, 13] },
    { dst := some 65, op := .bin .and (.t 59) (.t 64), rs := [59, 64], an := [9, 14] },
    { dst := some 66, op := .bin .xor (.t 58) (.t 65), rs := [58, 65], an := [8, 15] },
    { dst := some 67, op := .bin .add (.t 56) (.t 66), rs := [56, 66], an := [6, 16] },
    { dst := some 68, op := .mov (.t 9), rs := [9] },
    { dst := some 69, op := .bin .add (.t 67) (.t 68), rs := [67, 68], an := [17, 18] },
    { dst := some 70, op := .mov (.t 8), rs := [8] },
    { dst := some 71, op := .bin .rem (.t 70) (.c (.int .i64 16)), rs := [70], an := [20] },
    { dst := some 72, op := .iada 16 1 (.t 4) (.t 71), rs := [4, 71], tn := [4], an := [21] },
    { dst := some 73, op := .load none (.t 72), rs := [72], tn := [4], an := [22] },
    { dst := some 74, op := .bin .add (.t 69) (.t 73), rs := [69, 73], an := [19, 23] },
    { dst := some 12, op := .mov (.t 74), rs := [74], an := [24] }])
  (.keep [0, 4, 7, 8, 11, 12, 41, 42] [4, 7, 100000, 100009] ((.seq (.reg true [
    { dst := some 75, op := .mov (.t 11), rs := [11] },
    { dst := some 76, op := .mov (.t 11), rs := [11] },
    { dst := some 77, op := .call 78000 29 [(.t 76), (.c (.int .i64 (-22)))], rs := [76], an := [1] },
    { dst := some 78, op := .call 79000 28 [(.t 75), (.c (.int .i64 2)), (.c (.int .i64 13)), (.t 77)], rs := [75, 77], an := [0, 2] },
    { dst := some 79, op := .mov (.t 11), rs := [11] },
    { dst := some 80, op := .iada 8 1 (.t 7) (.c (.int .i64 1)), rs := [7], tn := [7] },
    { dst := some 81, op := .load none (.t 80), rs := [80], tn := [7], an := [5] },
    { dst := some 82, op := .bin .and (.t 79) (.t 81), rs := [79, 81], an := [4, 6] },
    { dst := some 83, op := .mov (.t 11), rs := [11] },
    { dst := some 84, op := .iada 8 1 (.t 7) (.c (.int .i64 2)), rs := [7], tn := [7] },
    { dst := some 85, op := .load none (.t 84), rs := [84], tn := [7], an := [9] },
    { dst := some 86, op := .bin .and (.t 83) (.t 85), rs := [83, 85], an := [8, 10] },
    { dst := some 87, op := .bin .xor (.t 82) (.t 86), rs := [82, 86], an := [7, 11] },
    { dst := some 88, op := .iada 8 1 (.t 7) (.c (.int .i64 1)), rs := [7], tn := [7] },
    { dst := some 89, op := .load none (.t 88), rs := [88], tn := [7], an := [13] },
    { dst := some 90, op := .iada 8 1 (.t 7) (.c (.int .i64 2)), rs := [7], tn := [7] },
    { dst := some 91, op := .load none (.t 90), rs := [90], tn := [7], an := [15] },
    { dst := some 92, op := .bin .and (.t 89) (.t 91), rs := [89, 91], an := [14, 16] },
    { dst := some 93, op := .bin .xor (.t 87) (.t 92), rs := [87, 92], an := [12, 17] },
    { dst := some 94, op := .bin .add (.t 78) (.t 93), rs := [78, 93], an := [3, 18] },
    { dst := some 13, op := .mov (.t 94), rs := [94], an := [19] }])
  (.keep [0, 4, 7, 8, 12, 13, 41, 42] [4, 7, 100000, 100009] ((.seq (.reg true [
    { dst := some 95, op := .slca 8 (.t 7) (some (.c (.int .i64 1))) none, rs := [7], tn := [7] },
    { dst := some 96, op := .slca 8 (.t 7) none (some (.c (.int .i64 7))), rs := [7], tn := [7] },
    { dst := some 97, op := .cpy 1 (.t 95) (.t 96), rs := [95, 96], tn := [7], wn := [7], an := [0, 1] }])
  ((.seq (.reg false [
    { dst := some 98, op := .mov (.t 12) },
    { dst := some 99, op := .mov (.t 13) },
    { dst := some 100, op := .bin .add (.t 98) (.t 99) },
    { dst := some 101, op := .iada 8 1 (.t 7) (.c (.int .i64 0)) },
    { dst := none, op := .store 1 (.t 101) (.t 100) }])
  (.keep [0, 4, 7, 8, 12, 41, 42] [4, 7, 100000, 100009] ((.seq (.reg false [
    { dst := some 102, op := .iada 8 1 (.t 7) (.c (.int .i64 4)) },
    { dst := some 103, op := .load none (.t 102) },
    { dst := some 104, op := .mov (.t 12) },
    { dst := some 105, op := .bin .add (.t 103) (.t 104) },
    { dst := some 106, op := .iada 8 1 (.t 7) (.c (.int .i64 4)) },
    { dst := none, op := .store 1 (.t 106) (.t 105) }])
  (.keep [0, 4, 7, 8, 41, 42] [4, 7, 100000, 100009] ((.seq (.reg true [
    { dst := some 107, op := .mov (.t 8), rs := [8] },
    { dst := some 108, op := .bin .add (.t 107) (.c (.int .i64 1)), rs := [107], an := [0] },
    { dst := some 109, op := .bin .rem (.t 108) (.c (.int .i64 16)), rs := [108], an := [1] },
    { dst := some 110, op := .iada 16 1 (.t 4) (.t 109), rs := [4, 109], tn := [4], an := [2] },
    { dst := some 111, op := .load none (.t 110), rs := [110], tn := [4], an := [3] },
    { dst := some 112, op := .mov (.t 8), rs := [8] },
    { dst := some 113, op := .bin .add (.t 112) (.c (.int .i64 14)), rs := [112], an := [5] },
    { dst := some 114, op := .bin .rem (.t 113) (.c (.int .i64 16)), rs := [113], an := [6] },
    { dst := some 115, op := .iada 16 1 (.t 4) (.t 114), rs := [4, 114], tn := [4], an := [7] },
    { dst := some 116, op := .load none (.t 115), rs := [115], tn := [4], an := [8] },
    { dst := some 14, op := .mov (.t 111), rs := [111], an := [4] },
    { dst := some 15, op := .mov (.t 116), rs := [116], an := [9] }])
  (.keep [0, 4, 7, 8, 14, 15, 41, 42] [4, 7, 100000, 100009] (.reg true [
    { dst := some 117, op := .mov (.t 8), rs := [8] },
    { dst := some 118, op := .bin .rem (.t 117) (.c (.int .i64 16)), rs := [117], an := [0] },
    { dst := some 119, op := .iada 16 1 (.t 4) (.t 118), rs := [4, 118], tn := [4], an := [1] },
    { dst := some 120, op := .load none (.t 119), rs := [119], tn := [4], an := [2] },
    { dst := some 121, op := .mov (.t 8), rs := [8] },
    { dst := some 122, op := .bin .add (.t 121) (.c (.int .i64 9)), rs := [121], an := [4] },
    { dst := some 123, op := .bin .rem (.t 122) (.c (.int .i64 16)), rs := [122], an := [5] },
    { dst := some 124, op := .iada 16 1 (.t 4) (.t 123), rs := [4, 123], tn := [4], an := [6] },
    { dst := some 125, op := .load none (.t 124), rs := [124], tn := [4], an := [7] },
    { dst := some 126, op := .mov (.t 14), rs := [14] },
    { dst := some 127, op := .mov (.t 14), rs := [14] },
    { dst := some 128, op := .bin .shr (.t 127) (.c (.int .u64 3)), rs := [127], an := [10] },
    { dst := some 129, op := .call 130000 28 [(.t 126), (.c (.int .i64 7)), (.c (.int .i64 18)), (.t 128)], rs := [126, 128], an := [9, 11] },
    { dst := some 130, op := .bin .add (.t 125) (.t 129), rs := [125, 129], an := [8, 12] },
    { dst := some 131, op := .mov (.t 15), rs := [15] },
    { dst := some 132, op := .mov (.t 15), rs := [15] },
    { dst := some 133, op := .bin .shr (.t 132) (.c (.int .u64 10)), rs := [132], an := [15] },
    { dst := some 134, op := .call 135000 28 [(.t 131), (.c (.int .i64 17)), (.c (.int .i64 19)), (.t 133)], rs := [131, 133], an := [14, 16] },
    { dst := some 135, op := .bin .add (.t 130) (.t 134), rs := [130, 134], an := [13, 17] },
    { dst := some 136, op := .bin .add (.t 120) (.t 135), rs := [120, 135], an := [3, 18] },
    { dst := some 137, op := .iada 16 1 (.t 4) (.t 118), rs := [4, 118], tn := [4], an := [1] },
    { dst := none, op := .store 1 (.t 137) (.t 136), rs := [136, 137], tn := [4], wn := [4], an := [2, 3, 7, 8, 19, 20] }])))))))))))))))))))))))))
  (.keep [0, 4, 7, 41, 42] [4, 7, 100000, 100009] (.reg false [
    { dst := some 138, op := .bin .add (.t 42) (.c (.int .i64 1)) },
    { dst := some 42, op := .mov (.t 138) }])))))))
def b25_2 : AC :=
  (.seq (.reg false [
    { dst := some 21, op := .bin .lss (.t 20) (.t 19) }])
  ((.seq (.cond (.t 21) (.skip) (.exit 0))
  ((.seq (.block 1 ((.seq (.reg false [
    { dst := some 22, op := .mov (.t 20) },
    { dst := some 23, op := .iad 1 (.t 18) (.t 20) },
    { dst := some 24, op := .load none (.t 23) },
    { dst := some 5, op := .mov (.t 22) },
    { dst := some 6, op := .mov (.t 24) }])
  (.keep [0, 4, 5, 6, 18, 19, 20] [4, 100000, 100009, 100200] (.reg false [
    { dst := some 25, op := .mov (.t 5) },
    { dst := some 26, op := .bin .quo (.t 25) (.c (.int .i64 4)) },
    { dst := some 27, op := .mov (.t 5) },
    { dst := some 28, op := .bin .quo (.t 27) (.c (.int .i64 4)) },
    { dst := some 29, op := .iada 16 1 (.t 4) (.t 28) },
    { dst := some 30, op := .load none (.t 29) },
    { dst := some 31, op := .bin .shl (.t 30) (.c (.int .u64 8)) },
    { dst := some 32, op := .mov (.t 6) },
    { dst := some 33, op := .conv .u32 (.t 32) },
    { dst := some 34, op := .bin .or (.t 31) (.t 33) },
    { dst := some 35, op := .iada 16 1 (.t 4) (.t 26) },
    { dst := none, op := .store 1 (.t 35) (.t 34) }])))))
  (.keep [0, 4, 18, 19, 20] [4, 100000, 100009, 100200] (.reg false [
    { dst := some 36, op := .bin .add (.t 20) (.c (.int .i64 1)) },
    { dst := some 20, op := .mov (.t 36) }])))))))
/-- (*estreat/sha.state).round: parameters *sha.state []uint8 -/
def c25 : AC :=
  (.seq (.reg false [
    { dst := some 4, op := .alloc 4 z58 }])
  ((.seq ((.seq (.reg false [
    { dst := some 18, op := .mov (.t 1) },
    { dst := some 19, op := .len (.t 18) },
    { dst := some 20, op := .mov (.c (.int .i64 0)) }])
  (.block 0 (.loop [0, 4, 18, 19, 20] [4, 100000, 100009, 100200] b25_2))))
  (.keep [0, 4] [4, 100000, 100009] ((.seq (.reg false [
    { dst := some 37, op := .mov (.t 0) },
    { dst := some 38, op := .nilck (.t 37) },
    { dst := some 39, op := .fad 0 (.t 38) },
    { dst := some 40, op := .load (some 8) (.t 39) },
    { dst := some 7, op := .alloc 7 z43 },
    { dst := none, op := .store 8 (.t 7) (.t 40) }])
  (.keep [0, 4, 7] [4, 7, 100000, 100009] ((.seq ((.seq (.reg false [
    { dst := some 41, op := .load (some 64) (.g 0) },
    { dst := some 42, op := .mov (.c (.int .i64 0)) }])
  (.block 2 (.loop [0, 4, 7, 41, 42] [4, 7, 100000, 100009] b25_1))))
  (.keep [0, 7] [7, 100000, 100009] ((.seq (.reg false [
    { dst := some 139, op := .load (some 8) (.t 7) },
    { dst := some 140, op := .mov (.c (.int .i64 0)) }])
  (.block 4 (.loop [0, 139, 140] [100000, 100009] b25_0))))))))))))))
/-- with its results -/
def a25 : AFun := ⟨c25, [], 156⟩

def b26_0 : AC :=
  (.seq ((.seq (.reg false [
    { dst := some 23, op := .mov (.t 5) },
    { dst := some 24, op := .bin .geq (.t 23) (.c (.int .i64 0)) }])
  (.cond (.t 24) (.skip) (.exit 2))))
  ((.seq (.block 3 (.reg false [
    { dst := some 27, op := .mov (.t 3) },
    { dst := some 28, op := .mov (.t 4) },
    { dst := some 29, op := .mov (.t 5) },
    { dst := some 30, op := .bin .mul (.c (.int .i64 8)) (.t 29) },
    { dst := some 31, op := .bin .shr (.t 28) (.t 30) },
    { dst := some 32, op := .conv .u8 (.t 31) },
    { dst := some 33, op := .bslice 33 1 [(.int .u8 0)] 1 [(0, (.t 32))] },
    { dst := some 34, op := .app 34 1 1 (.t 27) (.t 33) },
    { dst := some 3, op := .mov (.t 34) }]))
  (.keep [2, 3, 4, 5] [8, 11, 18, 34] (.reg false [
    { dst := some 25, op := .mov (.t 5) },
    { dst := some 26, op := .bin .sub (.t 25) (.c (.int .i64 1)) },
    { dst := some 5, op := .mov (.t 26) }])))))
def b26_1 : AC :=
  (.seq ((.seq (.reg false [
    { dst := some 12, op := .mov (.t 3) },
    { dst := some 13, op := .len (.t 12) },
    { dst := some 14, op := .bin .rem (.t 13) (.c (.int .i64 64)) },
    { dst := some 15, op := .bin .neq (.t 14) (.c (.int .i64 56)) }])
  (.cond (.t 15) (.skip) (.exit 0))))
  (.keep [0, 2, 3] [8, 11, 18, 34] (.block 1 (.reg false [
    { dst := some 16, op := .mov (.t 3) },
    { dst := some 17, op := .bslice 17 1 [(.int .u8 0)] 1 [(0, (.c (.int .u8 0)))] },
    { dst := some 18, op := .app 18 1 1 (.t 16) (.t 17) },
    { dst := some 3, op := .mov (.t 18) }]))))
/-- estreat/estreatref02.message: parameters string -/
def c26 : AC :=
  (.seq (.reg false [
    { dst := some 2, op := .mov (.c .nilS) }])
  ((.seq (.reg false [
    { dst := some 3, op := .mov (.c .nilS) }])
  ((.seq (.reg false [
    { dst := some 6, op := .mov (.t 3) },
    { dst := some 7, op := .mov (.t 0) },
    { dst := some 8, op := .app 8 1 1 (.t 6) (.t 7) },
    { dst := some 3, op := .mov (.t 8) }])
  (.keep [0, 3] [8, 11, 18, 34] ((.seq (.reg false [
    { dst := some 9, op := .mov (.t 3) },
    { dst := some 10, op := .bslice 10 1 [(.int .u8 0)] 1 [(0, (.c (.int .u8 128)))] },
    { dst := some 11, op := .app 11 1 1 (.t 9) (.t 10) },
    { dst := some 3, op := .mov (.t 11) }])
  (.keep [0, 3] [8, 11, 18, 34] ((.seq (.block 0 (.loop [0, 2, 3] [8, 11, 18, 34] b26_1))
  (.keep [0, 3] [8, 11, 18, 34] ((.seq (.reg false [
    { dst := some 19, op := .mov (.t 0) },
    { dst := some 20, op := .lenS (.t 19) },
    { dst := some 21, op := .conv .u64 (.t 20) },
    { dst := some 22, op := .bin .mul (.t 21) (.c (.int .u64 8)) },
    { dst := some 4, op := .mov (.t 22) }])
  (.keep [3, 4] [8, 11, 18, 34] ((.seq ((.seq (.reg false [
    { dst := some 5, op := .mov (.c (.int .i64 7)) }])
  (.block 2 (.loop [2, 3, 4, 5] [8, 11, 18, 34] b26_0))))
  (.keep [3] [8, 11, 18, 34] ((.seq (.reg false [
    { dst := some 35, op := .mov (.t 3) },
    { dst := some 2, op := .mov (.t 35) }])
  (.ret)))))))))))))))))))))
/-- with its results -/
def a26 : AFun := ⟨c26, [(2, none)], 36⟩

def b27_0 : AC :=
  (.seq ((.seq (.reg false [
    { dst := some 102, op := .mov (.t 10) },
    { dst := some 103, op := .bin .lss (.t 102) (.c (.int .i64 8)) }])
  (.cond (.t 103) (.skip) (.exit 2))))
  ((.seq (.block 3 (.reg true [
    { dst := some 106, op := .mov (.t 10), rs := [10] },
    { dst := some 107, op := .mov (.t 10), rs := [10] },
    { dst := some 108, op := .iada 8 1 (.t 2) (.t 107), rs := [2, 107], tn := [2], an := [1] },
    { dst := some 109, op := .load none (.t 108), rs := [108], tn := [2], an := [2] },
    { dst := some 110, op := .mov (.t 10), rs := [10] },
    { dst := some 111, op := .iada 8 1 (.t 6) (.t 110), rs := [6, 110], tn := [6], an := [4] },
    { dst := some 112, op := .load none (.t 111), rs := [111], tn := [6], an := [5] },
    { dst := some 113, op := .bin .add (.t 109) (.t 112), rs := [109, 112], an := [3, 6] },
    { dst := some 114, op := .iada 8 1 (.t 2) (.t 106), rs := [2, 106], tn := [2], an := [0] },
    { dst := none, op := .store 1 (.t 114) (.t 113), rs := [113, 114], tn := [2], wn := [2], an := [2, 3, 7, 8] }]))
  (.keep [2, 4, 6, 10] [2, 4, 6] (.reg false [
    { dst := some 104, op := .mov (.t 10) },
    { dst := some 105, op := .bin .add (.t 104) (.c (.int .i64 1)) },
    { dst := some 10, op := .mov (.t 105) }])))))
def b27_1 : AC :=
  (.seq ((.seq (.reg false [
    { dst := some 14, op := .mov (.t 7) },
    { dst := some 15, op := .bin .lss (.t 14) (.c (.int .i64 64)) }])
  (.cond (.t 15) (.skip) (.exit 0))))
  ((.seq (.block 1 ((.seq (.reg true [
    { dst := some 18, op := .iada 8 1 (.t 6) (.c (.int .i64 7)), rs := [6], tn := [6] },
    { dst := some 19, op := .load none (.t 18), rs := [18], tn := [6], an := [0] },
    { dst := some 20, op := .iada 8 1 (.t 6) (.c (.int .i64 4)), rs := [6], tn := [6] },
    { dst := some 21, op := .load none (.t 20), rs := [20], tn := [6], an := [2] },
    { dst := some 22, op := .call 23000 31 [(.t 21), (.c (.int .i64 6))], rs := [21], an := [3] },
    { dst := some 23, op := .iada 8 1 (.t 6) (.c (.int .i64 4)), rs := [6], tn := [6] },
    { dst := some 24, op := .load none (.t 23), rs := [23], tn := [6], an := [5] },
    { dst := some 25, op := .call 26000 31 [(.t 24), (.c (.int .i64 11))], rs := [24], an := [6] },
    { dst := some 26, op := .bin .xor (.t 22) (.t 25), rs := [22, 25], an := [4, 7] },
    { dst := some 27, op := .iada 8 1 (.t 6) (.c (.int .i64 4)), rs := [6], tn := [6] },
    { dst := some 28, op := .load none (.t 27), rs := [27], tn := [6], an := [9] },
    { dst := some 29, op := .call 30000 31 [(.t 28), (.c (.int .i64 25))], rs := [28], an := [10] },
    { dst := some 30, op := .bin .xor (.t 26) (.t 29), rs := [26, 29], an := [8, 11] },
    { dst := some 31, op := .bin .add (.t 19) (.t 30), rs := [19, 30], an := [1, 12] },
    { dst := some 32, op := .iada 8 1 (.t 6) (.c (.int .i64 4)), rs := [6], tn := [6] },
    { dst := some 33, op := .load none (.t 32), rs := [32], tn := [6], an := [14] },
    { dst := some 34, op := .iada 8 1 (.t 6) (.c (.int .i64 5)), rs := [6], tn := [6] },
    { dst := some 35, op := .load none (.t 34), rs := [34], tn := [6], an := [16] },
    { dst := some 36, op := .bin .and (.t 33) (.t 35), rs := [33, 35], an := [15, 17] },
    { dst := some 37, op := .iada 8 1 (.t 6) (.c (.int .i64 4)), rs := [6], tn := [6] },
    { dst := some 38, op := .load none (.t 37), rs := [37], tn := [6], an := [19] },
    { dst := some 39, op := .un .xor (.t 38), rs := [38], an := [20] },
    { dst := some 40, op := .iada 8 1 (.t 6) (.c (.int .i64 6)), rs := [6], tn := [6] },
    { dst := some 41, op := .load none (.t 40), rs := [40], tn := [6], an := [22] },
    { dst := some 42, op := .bin .and (.t 39) (.t 41), rs := [39, 41], an := [21, 23] },
    { dst := some 43, op := .bin .xor (.t 36) (.t 42), rs := [36, 42], an := [18, 24] },
    { dst := some 44, op := .bin .add (.t 31) (.t 43), rs := [31, 43], an := [13, 25] },
    { dst := some 45, op := .mov (.t 7), rs := [7] },
    { dst := some 46, op := .iada 64 1 (.g 1) (.t 45), rs := [45], an := [27] },
    { dst := some 47, op := .load none (.t 46), rs := [46], an := [28] },
    { dst := some 48, op := .bin .add (.t 44) (.t 47), rs := [44, 47], an := [26, 29] },
    { dst := some 49, op := .mov (.t 7), rs := [7] },
    { dst := some 50, op := .iada 64 1 (.t 5) (.t 49), rs := [5, 49], tn := [5], an := [31] },
    { dst := some 51, op := .load none (.t 50), rs := [50], tn := [5], an := [32] },
    { dst := some 52, op := .bin .add (.t 48) (.t 51), rs := [48, 51], an := [30, 33] },
    { dst := some 8, op := .mov (.t 52), rs := [52], an := [34] }])
  (.keep [2, 4, 5, 6, 7, 8] [2, 4, 5, 6] ((.seq (.reg true [
    { dst := some 53, op := .iada 8 1 (.t 6) (.c (.int .i64 0)), rs := [6], tn := [6] },
    { dst := some 54, op := .load none (.t 53), rs := [53], tn := [6], an := [0] },
    { dst := some 55, op := .call 56000 31 [(.t 54), (.c (.int .i64 2))], rs := [54], an := [1] },
    { dst := some 56, op := .iada 8 1 (.t 6) (.c (.int .i64 0)), rs := [6], tn := [6] },
    { dst := some 57, op := .load none (.t 56), rs := [56], tn := [6], an := [3] },
    { dst := some 58, op := .call 59000 31 [(.t 57), (.c (.int .i64 13))], rs := [57], an := [4] },
    { dst := some 59, op := .bin .xor (.t 55) (.t 58), rs := [55, 58], an := [2, 5] },
    { dst := some 60, op := .iada 8 1 (.t 6) (.c (.int .i64 0)), rs := [6], tn := [6] },
    { dst := some 61, op := .load none (.t 60), rs := [60], tn := [6], an := [7] },
    { dst := some 62, op := .call 63000 31 [(.t 61), (.c (.int .i64 22))], rs := [61], an := [8] },
    { dst := some 63, op := .bin .xor (.t 59) (.t 62), rs := [59, 62], an := [6, 9] },
    { dst := some 64, op := .iada 8 1 (.t 6) (.c (.int .i64 0)), rs := [6], tn := [6] },
    { dst := some 65, op := .load none (.t 64), rs := [64], tn := [6], an := [11] },
    { dst := some 66, op := .iada 8 1 (.t 6) (.c (.int .i64 1)), rs := [6], tn := [6] },
    { dst := some 67, op := .load none (.t 66), rs := [66], tn := [6], an := [13] },
    { dst := some 68, op := .bin .and (.t 65) (.t 67), rs := [65, 67], an := [12, 14] },
    { dst := some 69, op := .iada 8 1 (.t 6) (.c (.int .i64 0)), rs := [6], tn := [6] },
    { dst := some 70, op := .load none (.t 69), rs := [69], tn := [6], an := [16] },
    { dst := some 71, op := .iada 8 1 (.t 6) (.c (.int .i64 2)), rs := [6], tn := [6] },
    { dst := some 72, op := .load none (.t 71), rs := [71], tn := [6], an := [18] },
    { dst := some 73, op := .bin .and (.t 70) (.t 72), rs := [70, 72], an := [17, 19] },
    { dst := some 74, op := .bin .xor (.t 68) (.t 73), rs := [68, 73], an := [15, 20] },
    { dst := some 75, op := .iada 8 1 (.t 6) (.c (.int .i64 1)), rs := [6], tn := [6] },
    { dst := some 76, op := .load none (.t 75), rs := [75], tn := [6], an := [22] },
    { dst := some 77, op := .iada 8 1 (.t 6) (.c (.int .i64 2)), rs := [6], tn := [6] },
    { dst := some 78, op := .load none (.t 77), rs := [77], tn := [6], an := [24] },
    { dst := some 79, op := .bin .and (.t 76) (.t 78), rs := [76, 78], an := [23, 25] },
    { dst := some 80, op := .bin .xor (.t 74) (.t 79), rs := [74, 79], an := [21, 26] },
    { dst := some 81, op := .bin .add (.t 63) (.t 80), rs := [63, 80], an := [10, 27] },
    { dst := some 9, op := .mov (.t 81), rs := [81], an := [28] }])
  (.keep [2, 4, 5, 6, 7, 8, 9] [2, 4, 5, 6] (.reg false [
    { dst := some 82, op := .mov (.t 8) },
    { dst := some 83, op := .mov (.t 9) },
    { dst := some 84, op := .bin .add (.t 82) (.t 83) },
    { dst := some 85, op := .iada 8 1 (.t 6) (.c (.int .i64 0)) },
    { dst := some 86, op := .load none (.t 85) },
    { dst := some 87, op := .iada 8 1 (.t 6) (.c (.int .i64 1)) },
    { dst := some 88, op := .load none (.t 87) },
    { dst := some 89, op := .iada 8 1 (.t 6) (.c (.int .i64 2)) },
    { dst := some 90, op := .load none (.t 89) },
    { dst := some 91, op := .iada 8 1 (.t 6) (.c (.int .i64 3)) },
    { dst := some 92, op := .load none (.t 91) },
    { dst := some 93, op := .mov (.t 8) },
    { dst := some 94, op := .bin .add (.t 92) (.t 93) },
    { dst := some 95, op := .iada 8 1 (.t 6) (.c (.int .i64 4)) },
    { dst := some 96, op := .load none (.t 95) },
    { dst := some 97, op := .iada 8 1 (.t 6) (.c (.int .i64 5)) },
    { dst := some 98, op := .load none (.t 97) },
    { dst := some 99, op := .iada 8 1 (.t 6) (.c (.int .i64 6)) },
    { dst := some 100, op := .load none (.t 99) },
    { dst := some 101, op := .build z43 [(0, 1, (.t 84)), (1, 1, (.t 86)), (2, 1, (.t 88)), (3, 1, (.t 90)), (4, 1, (.t 94)), (5, 1, (.t 96)), (6, 1, (.t 98)), (7, 1, (.t 100))] },
    { dst := none, op := .store 8 (.t 6) (.t 101) }]))))))))
  (.keep [2, 4, 5, 6, 7] [2, 4, 5, 6] (.reg false [
    { dst := some 16, op := .mov (.t 7) },
    { dst := some 17, op := .bin .add (.t 16) (.c (.int .i64 1)) },
    { dst := some 7, op := .mov (.t 17) }])))))
/-- estreat/estreatref02.block: parameters [8]uint32 []uint8 -/
def c27 : AC :=
  (.seq (.reg false [
    { dst := some 2, op := .box 2 (.t 0) },
    { dst := some 4, op := .alloc 4 z43 }])
  ((.seq (.reg false [
    { dst := some 11, op := .mov (.t 1) },
    { dst := some 12, op := .call 13000 30 [(.t 11)] },
    { dst := some 5, op := .alloc 5 z59 },
    { dst := none, op := .store 64 (.t 5) (.t 12) }])
  (.keep [2, 4, 5] [2, 4, 5] ((.seq (.reg false [
    { dst := some 13, op := .load (some 8) (.t 2) },
    { dst := some 6, op := .alloc 6 z43 },
    { dst := none, op := .store 8 (.t 6) (.t 13) }])
  ((.seq ((.seq (.reg false [
    { dst := some 7, op := .mov (.c (.int .i64 0)) }])
  (.block 0 (.loop [2, 4, 5, 6, 7] [2, 4, 5, 6] b27_1))))
  (.keep [2, 4, 6] [2, 4, 6] ((.seq ((.seq (.reg false [
    { dst := some 10, op := .mov (.c (.int .i64 0)) }])
  (.block 2 (.loop [2, 4, 6, 10] [2, 4, 6] b27_0))))
  (.keep [2, 4] [2, 4] ((.seq (.reg false [
    { dst := some 115, op := .load (some 8) (.t 2) },
    { dst := none, op := .store 8 (.t 4) (.t 115) }])
  (.ret)))))))))))))))
/-- with its results -/
def a27 : AFun := ⟨c27, [(4, some (some 8))], 116⟩

/-- estreat/sha.three: parameters uint32 int int uint32 -/
def c28 : AC :=
  (.seq (.reg false [
    { dst := some 8, op := .mov (.c (.int .u32 0)) }])
  ((.seq (.reg false [
    { dst := some 9, op := .mov (.t 0) },
    { dst := some 10, op := .mov (.t 1) },
    { dst := some 11, op := .un .neg (.t 10) },
    { dst := some 12, op := .call 13000 29 [(.t 9), (.t 11)] },
    { dst := some 13, op := .mov (.t 0) },
    { dst := some 14, op := .mov (.t 2) },
    { dst := some 15, op := .un .neg (.t 14) },
    { dst := some 16, op := .call 17000 29 [(.t 13), (.t 15)] },
    { dst := some 17, op := .bin .xor (.t 12) (.t 16) },
    { dst := some 18, op := .mov (.t 3) },
    { dst := some 19, op := .bin .xor (.t 17) (.t 18) },
    { dst := some 8, op := .mov (.t 19) }])
  (.ret))))
/-- with its results -/
def a28 : AFun := ⟨c28, [(8, none)], 20⟩

/-- math/bits.RotateLeft32: parameters uint32 int -/
def c29 : AC :=
  (.seq (.reg false [
    { dst := some 4, op := .mov (.c (.int .u32 0)) }])
  ((.seq (.reg false [
    { dst := some 6, op := .mov (.t 1) },
    { dst := some 7, op := .conv .u64 (.t 6) },
    { dst := some 8, op := .bin .and (.t 7) (.c (.int .u64 31)) },
    { dst := some 5, op := .mov (.t 8) }])
  (.keep [0, 5] [] ((.seq (.reg false [
    { dst := some 9, op := .mov (.t 0) },
    { dst := some 10, op := .mov (.t 5) },
    { dst := some 11, op := .bin .shl (.t 9) (.t 10) },
    { dst := some 12, op := .mov (.t 0) },
    { dst := some 13, op := .mov (.t 5) },
    { dst := some 14, op := .bin .sub (.c (.int .u64 32)) (.t 13) },
    { dst := some 15, op := .bin .shr (.t 12) (.t 14) },
    { dst := some 16, op := .bin .or (.t 11) (.t 15) },
    { dst := some 4, op := .mov (.t 16) }])
  (.ret)))))))
/-- with its results -/
def a29 : AFun := ⟨c29, [(4, none)], 17⟩

def b30_0 : AC :=
  (.seq ((.seq (.reg false [
    { dst := some 32, op := .mov (.t 6) },
    { dst := some 33, op := .bin .lss (.t 32) (.c (.int .i64 64)) }])
  (.cond (.t 33) (.skip) (.exit 4))))
  ((.seq (.block 5 ((.seq (.reg false [
    { dst := some 36, op := .mov (.t 6) },
    { dst := some 37, op := .bin .sub (.t 36) (.c (.int .i64 15)) },
    { dst := some 38, op := .iada 64 1 (.t 3) (.t 37) },
    { dst := some 39, op := .load none (.t 38) },
    { dst := some 7, op := .mov (.t 39) }])
  (.keep [2, 3, 6, 7] [2, 3] ((.seq (.reg false [
    { dst := some 40, op := .mov (.t 6) },
    { dst := some 41, op := .bin .sub (.t 40) (.c (.int .i64 2)) },
    { dst := some 42, op := .iada 64 1 (.t 3) (.t 41) },
    { dst := some 43, op := .load none (.t 42) },
    { dst := some 8, op := .mov (.t 43) }])
  (.keep [2, 3, 6, 7, 8] [2, 3] (.reg true [
    { dst := some 44, op := .mov (.t 6), rs := [6] },
    { dst := some 45, op := .mov (.t 6), rs := [6] },
    { dst := some 46, op := .bin .sub (.t 45) (.c (.int .i64 16)), rs := [45], an := [1] },
    { dst := some 47, op := .iada 64 1 (.t 3) (.t 46), rs := [3, 46], tn := [3], an := [2] },
    { dst := some 48, op := .load none (.t 47), rs := [47], tn := [3], an := [3] },
    { dst := some 49, op := .mov (.t 6), rs := [6] },
    { dst := some 50, op := .bin .sub (.t 49) (.c (.int .i64 7)), rs := [49], an := [5] },
    { dst := some 51, op := .iada 64 1 (.t 3) (.t 50), rs := [3, 50], tn := [3], an := [6] },
    { dst := some 52, op := .load none (.t 51), rs := [51], tn := [3], an := [7] },
    { dst := some 53, op := .bin .add (.t 48) (.t 52), rs := [48, 52], an := [4, 8] },
    { dst := some 54, op := .mov (.t 7), rs := [7] },
    { dst := some 55, op := .call 56000 31 [(.t 54), (.c (.int .i64 7))], rs := [54], an := [10] },
    { dst := some 56, op := .mov (.t 7), rs := [7] },
    { dst := some 57, op := .call 58000 31 [(.t 56), (.c (.int .i64 18))], rs := [56], an := [12] },
    { dst := some 58, op := .bin .xor (.t 55) (.t 57), rs := [55, 57], an := [11, 13] },
    { dst := some 59, op := .mov (.t 7), rs := [7] },
    { dst := some 60, op := .bin .shr (.t 59) (.c (.int .u64 3)), rs := [59], an := [15] },
    { dst := some 61, op := .bin .xor (.t 58) (.t 60), rs := [58, 60], an := [14, 16] },
    { dst := some 62, op := .bin .add (.t 53) (.t 61), rs := [53, 61], an := [9, 17] },
    { dst := some 63, op := .mov (.t 8), rs := [8] },
    { dst := some 64, op := .call 65000 31 [(.t 63), (.c (.int .i64 17))], rs := [63], an := [19] },
    { dst := some 65, op := .mov (.t 8), rs := [8] },
    { dst := some 66, op := .call 67000 31 [(.t 65), (.c (.int .i64 19))], rs := [65], an := [21] },
    { dst := some 67, op := .bin .xor (.t 64) (.t 66), rs := [64, 66], an := [20, 22] },
    { dst := some 68, op := .mov (.t 8), rs := [8] },
    { dst := some 69, op := .bin .shr (.t 68) (.c (.int .u64 10)), rs := [68], an := [24] },
    { dst := some 70, op := .bin .xor (.t 67) (.t 69), rs := [67, 69], an := [23, 25] },
    { dst := some 71, op := .bin .add (.t 62) (.t 70), rs := [62, 70], an := [18, 26] },
    { dst := some 72, op := .iada 64 1 (.t 3) (.t 44), rs := [3, 44], tn := [3], an := [0] },
    { dst := none, op := .store 1 (.t 72) (.t 71), rs := [71, 72], tn := [3], wn := [3], an := [3, 4, 7, 8, 27, 28] }]))))))))
  (.keep [2, 3, 6] [2, 3] (.reg false [
    { dst := some 34, op := .mov (.t 6) },
    { dst := some 35, op := .bin .add (.t 34) (.c (.int .i64 1)) },
    { dst := some 6, op := .mov (.t 35) }])))))
def b30_1 : AC :=
  (.seq ((.seq (.reg false [
    { dst := some 13, op := .mov (.t 5) },
    { dst := some 14, op := .bin .lss (.t 13) (.c (.int .i64 4)) }])
  (.cond (.t 14) (.skip) (.exit 2))))
  ((.seq (.block 3 (.reg true [
    { dst := some 17, op := .mov (.t 4), rs := [4] },
    { dst := some 18, op := .mov (.t 4), rs := [4] },
    { dst := some 19, op := .iada 64 1 (.t 3) (.t 18), rs := [3, 18], tn := [3], an := [1] },
    { dst := some 20, op := .load none (.t 19), rs := [19], tn := [3], an := [2] },
    { dst := some 21, op := .bin .mul (.t 20) (.c (.int .u32 256)), rs := [20], an := [3] },
    { dst := some 22, op := .mov (.t 0), rs := [0], tn := [100000] },
    { dst := some 23, op := .mov (.t 4), rs := [4] },
    { dst := some 24, op := .bin .mul (.c (.int .i64 4)) (.t 23), rs := [23], an := [6] },
    { dst := some 25, op := .mov (.t 5), rs := [5] },
    { dst := some 26, op := .bin .add (.t 24) (.t 25), rs := [24, 25], an := [7, 8] },
    { dst := some 27, op := .iad 1 (.t 22) (.t 26), rs := [22, 26], tn := [100000], an := [5, 9] },
    { dst := some 28, op := .load none (.t 27), rs := [27], tn := [100000], an := [10] },
    { dst := some 29, op := .conv .u32 (.t 28), rs := [28], an := [11] },
    { dst := some 30, op := .bin .add (.t 21) (.t 29), rs := [21, 29], an := [4, 12] },
    { dst := some 31, op := .iada 64 1 (.t 3) (.t 17), rs := [3, 17], tn := [3], an := [0] },
    { dst := none, op := .store 1 (.t 31) (.t 30), rs := [30, 31], tn := [3], wn := [3], an := [2, 3, 13, 14] }]))
  (.keep [0, 2, 3, 4, 5] [2, 3, 100000] (.reg false [
    { dst := some 15, op := .mov (.t 5) },
    { dst := some 16, op := .bin .add (.t 15) (.c (.int .i64 1)) },
    { dst := some 5, op := .mov (.t 16) }])))))
def b30_2 : AC :=
  (.seq ((.seq (.reg false [
    { dst := some 9, op := .mov (.t 4) },
    { dst := some 10, op := .bin .lss (.t 9) (.c (.int .i64 16)) }])
  (.cond (.t 10) (.skip) (.exit 0))))
  ((.seq (.block 1 ((.seq (.reg false [
    { dst := some 5, op := .mov (.c (.int .i64 0)) }])
  (.block 2 (.loop [0, 2, 3, 4, 5] [2, 3, 100000] b30_1)))))
  (.keep [0, 2, 3, 4] [2, 3, 100000] (.reg false [
    { dst := some 11, op := .mov (.t 4) },
    { dst := some 12, op := .bin .add (.t 11) (.c (.int .i64 1)) },
    { dst := some 4, op := .mov (.t 12) }])))))
/-- estreat/estreatref02.words: parameters []uint8 -/
def c30 : AC :=
  (.seq (.reg false [
    { dst := some 2, op := .alloc 2 z59 }])
  ((.seq (.reg false [
    { dst := some 3, op := .alloc 3 z59 }])
  ((.seq ((.seq (.reg false [
    { dst := some 4, op := .mov (.c (.int .i64 0)) }])
  (.block 0 (.loop [0, 2, 3, 4] [2, 3, 100000] b30_2))))
  (.keep [2, 3] [2, 3] ((.seq ((.seq (.reg false [
    { dst := some 6, op := .mov (.c (.int .i64 16)) }])
  (.block 4 (.loop [2, 3, 6] [2, 3] b30_0))))
  (.keep [2, 3] [2, 3] ((.seq (.reg false [
    { dst := some 73, op := .load (some 64) (.t 3) },
    { dst := none, op := .store 64 (.t 2) (.t 73) }])
  (.ret))))))))))))
/-- with its results -/
def a30 : AFun := ⟨c30, [(2, some (some 64))], 74⟩

/-- estreat/estreatref02.turn: parameters uint32 int -/
def c31 : AC :=
  (.seq (.reg false [
    { dst := some 4, op := .mov (.c (.int .u32 0)) }])
  ((.seq (.reg true [
    { dst := some 5, op := .mov (.t 0), rs := [0] },
    { dst := some 6, op := .mov (.t 1), rs := [1] },
    { dst := some 7, op := .bin .shr (.t 5) (.t 6), rs := [5, 6], an := [0, 1] },
    { dst := some 8, op := .mov (.t 0), rs := [0] },
    { dst := some 9, op := .mov (.t 1), rs := [1] },
    { dst := some 10, op := .bin .sub (.c (.int .i64 32)) (.t 9), rs := [9], an := [4] },
    { dst := some 11, op := .bin .shl (.t 8) (.t 10), rs := [8, 10], an := [3, 5] },
    { dst := some 12, op := .bin .or (.t 7) (.t 11), rs := [7, 11], an := [2, 6] },
    { dst := some 4, op := .mov (.t 12), rs := [12], an := [7] }])
  (.ret))))
/-- with its results -/
def a31 : AFun := ⟨c31, [(4, none)], 13⟩

def b25i_0 : AC :=
  (.seq (.reg false [
    { dst := some 141, op := .bin .lss (.t 140) (.c (.int .i64 8)) }])
  ((.seq (.cond (.t 141) (.skip) (.exit 4))
  ((.seq (.block 5 ((.seq (.reg false [
    { dst := some 142, op := .mov (.t 140) },
    { dst := some 143, op := .idx 8 1 none (.t 139) (.t 140) },
    { dst := some 16, op := .mov (.t 142) },
    { dst := some 17, op := .mov (.t 143) }])
  (.keep [0, 16, 17, 139, 140] [20, 100000, 100009] (.reg true [
    { dst := some 144, op := .mov (.t 0), rs := [0], tn := [20, 100000, 100009] },
    { dst := some 145, op := .mov (.t 16), rs := [16] },
    { dst := some 146, op := .nilck (.t 144), rs := [144], tn := [20, 100000, 100009], an := [0] },
    { dst := some 147, op := .fad 0 (.t 146), rs := [146], tn := [20, 100000, 100009], an := [2] },
    { dst := some 148, op := .iada 8 1 (.t 147) (.t 145), rs := [145, 147], tn := [20, 100000, 100009], an := [1, 3] },
    { dst := some 149, op := .load none (.t 148), rs := [148], tn := [20, 100000, 100009], an := [4] },
    { dst := some 150, op := .mov (.t 17), rs := [17] },
    { dst := some 151, op := .bin .add (.t 149) (.t 150), rs := [149, 150], an := [5, 6] },
    { dst := some 152, op := .nilck (.t 144), rs := [144], tn := [20, 100000, 100009], an := [0] },
    { dst := some 153, op := .fad 0 (.t 152), rs := [152], tn := [20, 100000, 100009], an := [8] },
    { dst := some 154, op := .iada 8 1 (.t 153) (.t 145), rs := [145, 153], tn := [20, 100000, 100009], an := [1, 8, 9] },
    { dst := none, op := .store 1 (.t 154) (.t 151), rs := [151, 154], tn := [20, 100000, 100009], wn := [100000], an := [0, 2, 3, 4, 5, 7, 8, 9, 10] }])))))
  (.keep [0, 139, 140] [20, 100000, 100009] (.reg false [
    { dst := some 155, op := .bin .add (.t 140) (.c (.int .i64 1)) },
    { dst := some 140, op := .mov (.t 155) }])))))))
def b25i_1 : AC :=
  (.seq (.reg false [
    { dst := some 43, op := .bin .lss (.t 42) (.c (.int .i64 64)) }])
  ((.seq (.cond (.t 43) (.skip) (.exit 2))
  ((.seq (.block 3 ((.seq (.reg false [
    { dst := some 44, op := .mov (.t 42) },
    { dst := some 45, op := .idx 64 1 none (.t 41) (.t 42) },
    { dst := some 8, op := .mov (.t 44) },
    { dst := some 9, op := .mov (.t 45) }])
  (.keep [0, 4, 7, 8, 9, 41, 42] [20, 100000, 100009, 3250004, 3250007] ((.seq (.reg true [
    { dst := some 46, op := .iada 8 1 (.t 7) (.c (.int .i64 4)), rs := [7], tn := [3250007] },
    { dst := some 47, op := .load none (.t 46), rs := [46], tn := [3250007], an := [0] },
    { dst := some 48, op := .iada 8 1 (.t 7) (.c (.int .i64 0)), rs := [7], tn := [3250007] },
    { dst := some 49, op := .load none (.t 48), rs := [48], tn := [3250007], an := [2] },
    { dst := some 10, op := .mov (.t 47), rs := [47], an := [1] },
    { dst := some 11, op := .mov (.t 49), rs := [49], an := [3] }])
  (.keep [0, 4, 7, 8, 9, 10, 11, 41, 42] [20, 100000, 100009, 3250004, 3250007] ((.seq (.reg true [
    { dst := some 50, op := .iada 8 1 (.t 7) (.c (.int .i64 7)), rs := [7], tn := [3250007] },
    { dst := some 51, op := .load none (.t 50), rs := [50], tn := [3250007], an := [0] },
    { dst := some 52, op := .mov (.t 10), rs := [10] },
    { dst := some 53, op := .mov (.t 10), rs := [10] },
    { dst := some 54, op := .call 3250055000 29 [(.t 53), (.c (.int .i64 (-25)))], rs := [53], an := [3] },
    { dst := some 55, op := .call 3250056000 28 [(.t 52), (.c (.int .i64 6)), (.c (.int .i64 11)), (.t 54)], rs := [52, 54], an := [2, 4] },
    { dst := some 56, op := .bin .add (.t 51) (.t 55), rs := [51, 55], an := [1, 5] },
    { dst := some 57, op := .iada 8 1 (.t 7) (.c (.int .i64 6)), rs := [7], tn := [3250007] },
    { dst := some 58, op := .load none (.t 57), rs := [57], tn := [3250007], an := [7] },
    { dst := some 59, op := .mov (.t 10), rs := [10] },
    { dst := some 60, op := .iada 8 1 (.t 7) (.c (.int .i64 5)), rs := [7], tn := [3250007] },
    { dst := some 61, op := .load none (.t 60), rs := [60], tn := [3250007], an := [10] },
    { dst := some 62, op := .iada 8 1 (.t 7) (.c (.int .i64 6)), rs := [7], tn := [3250007] },
    { dst := some 63, op := .load none (.t 62), rs := [62], tn := [3250007], an := [12] },
    { dst := some 64, op := .bin .xor (.t 61) (.t 63), rs := [61, 63], an := [11, 13] },
    { dst := some 65, op := .bin .and (.t 59) (.t 64), rs := [59, 64], an := [9, 14] },
    { dst := some 66, op := .bin .xor (.t 58) (.t 65), rs := [58, 65], an := [8, 15] },
    { dst := some 67, op := .bin .add (.t 56) (.t 66), rs := [56, 66], an := [6, 16] },
    { dst := some 68, op := .mov (.t 9), rs := [9] },
    { dst := some 69, op := .bin .add (.t 67) (.t 68), rs := [67, 68], an := [17, 18] },
    { dst := some 70, op := .mov (.t 8), rs := [8] },
    { dst := some 71, op := .bin .rem (.t 70) (.c (.int .i64 16)), rs := [70], an := [20] },
    { dst := some 72, op := .iada 16 1 (.t 4) (.t 71), rs := [4, 71], tn := [3250004], an := [21] },
    { dst := some 73, op := .load none (.t 72), rs := [72], tn := [3250004], an := [22] },
    { dst := some 74, op := .bin .add (.t 69) (.t 73), rs := [69, 73], an := [19, 23] },
    { dst := some 12, op := .mov (.t 74), rs := [74], an := [24] }])
  (.keep [0, 4, 7, 8, 11, 12, 41, 42] [20, 100000, 100009, 3250004, 3250007] ((.seq (.reg true [
    { dst := some 75, op := .mov (.t 11), rs := [11] },
    { dst := some 76, op := .mov (.t 11), rs := [11] },
    { dst := some 77, op := .call 3250078000 29 [(.t 76), (.c (.int .i64 (-22)))], rs := [76], an := [1] },
    { dst := some 78, op := .call 3250079000 28 [(.t 75), (.c (.int .i64 2)), (.c (.int .i64 13)), (.t 77)], rs := [75, 77], an := [0, 2] },
    { dst := some 79, op := .mov (.t 11), rs := [11] },
    { dst := some 80, op := .iada 8 1 (.t 7) (.c (.int .i64 1)), rs := [7], tn := [3250007] },
    { dst := some 81, op := .load none (.t 80), rs := [80], tn := [3250007], an := [5] },
    { dst := some 82, op := .bin .and (.t 79) (.t 81), rs := [79, 81], an := [4, 6] },
    { dst := some 83, op := .mov (.t 11), rs := [11] },
    { dst := some 84, op := .iada 8 1 (.t 7) (.c (.int .i64 2)), rs := [7], tn := [3250007] },
    { dst := some 85, op := .load none (.t 84), rs := [84], tn := [3250007], an := [9] },
    { dst := some 86, op := .bin .and (.t 83) (.t 85), rs := [83, 85], an := [8, 10] },
    { dst := some 87, op := .bin .xor (.t 82) (.t 86), rs := [82, 86], an := [7, 11] },
    { dst := some 88, op := .iada 8 1 (.t 7) (.c (.int .i64 1)), rs := [7], tn := [3250007] },
    { dst := some 89, op := .load none (.t 88), rs := [88], tn := [3250007], an := [13] },
    { dst := some 90, op := .iada 8 1 (.t 7) (.c (.int .i64 2)), rs := [7], tn := [3250007] },
    { dst := some 91, op := .load none (.t 90), rs := [90], tn := [3250007], an := [15] },
    { dst := some 92, op := .bin .and (.t 89) (.t 91), rs := [89, 91], an := [14, 16] },
    { dst := some 93, op := .bin .xor (.t 87) (.t 92), rs := [87, 92], an := [12, 17] },
    { dst := some 94, op := .bin .add (.t 78) (.t 93), rs := [78, 93], an := [3, 18] },
    { dst := some 13, op := .mov (.t 94), rs := [94], an := [19] }])
  (.keep [0, 4, 7, 8, 12, 13, 41, 42] [20, 100000, 100009, 3250004, 3250007] ((.seq (.reg true [
    { dst := some 95, op := .slca 8 (.t 7) (some (.c (.int .i64 1))) none, rs := [7], tn := [3250007] },
    { dst := some 96, op := .slca 8 (.t 7) none (some (.c (.int .i64 7))), rs := [7], tn := [3250007] },
    { dst := some 97, op := .cpy 1 (.t 95) (.t 96), rs := [95, 96], tn := [3250007], wn := [3250007], an := [0, 1] }])
  ((.seq (.reg false [
    { dst := some 98, op := .mov (.t 12) },
    { dst := some 99, op := .mov (.t 13) },
    { dst := some 100, op := .bin .add (.t 98) (.t 99) },
    { dst := some 101, op := .iada 8 1 (.t 7) (.c (.int .i64 0)) },
    { dst := none, op := .store 1 (.t 101) (.t 100) }])
  (.keep [0, 4, 7, 8, 12, 41, 42] [20, 100000, 100009, 3250004, 3250007] ((.seq (.reg false [
    { dst := some 102, op := .iada 8 1 (.t 7) (.c (.int .i64 4)) },
    { dst := some 103, op := .load none (.t 102) },
    { dst := some 104, op := .mov (.t 12) },
    { dst := some 105, op := .bin .add (.t 103) (.t 104) },
    { dst := some 106, op := .iada 8 1 (.t 7) (.c (.int .i64 4)) },
    { dst := none, op := .store 1 (.t 106) (.t 105) }])
  (.keep [0, 4, 7, 8, 41, 42] [20, 100000, 100009, 3250004, 3250007] ((.seq (.reg true [
    { dst := some 107, op := .mov (.t 8), rs := [8] },
    { dst := some 108, op := .bin .add (.t 107) (.c (.int .i64 1)), rs := [107], an := [0] },
    { dst := some 109, op := .bin .rem (.t 108) (.c (.int .i64 16)), rs := [108], an := [1] },
    { dst := some 110, op := .iada 16 1 (.t 4) (.t 109), rs := [4, 109], tn := [3250004], an := [2] },
    { dst := some 111, op := .load none (.t 110), rs := [110], tn := [3250004], an := [3] },
    { dst := some 112, op := .mov (.t 8), rs := [8] },
    { dst := some 113, op := .bin .add (.t 112) (.c (.int .i64 14)), rs := [112], an := [5] },
    { dst := some 114, op := .bin .rem (.t 113) (.c (.int .i64 16)), rs := [113], an := [6] },
    { dst := some 115, op := .iada 16 1 (.t 4) (.t 114), rs := [4, 114], tn := [3250004], an := [7] },
    { dst := some 116, op := .load none (.t 115), rs := [115], tn := [3250004], an := [8] },
    { dst := some 14, op := .mov (.t 111), rs := [111], an := [4] },
    { dst := some 15, op := .mov (.t 116), rs := [116], an := [9] }])
  (.keep [0, 4, 7, 8, 14, 15, 41, 42] [20, 100000, 100009, 3250004, 3250007] (.reg true [
    { dst := some 117, op := .mov (.t 8), rs := [8] },
    { dst := some 118, op := .bin .rem (.t 117) (.c (.int .i64 16)), rs := [117], an := [0] },
    { dst := some 119, op := .iada 16 1 (.t 4) (.t 118), rs := [4, 118], tn := [3250004], an := [1] },
    { dst := some 120, op := .load none (.t 119), rs := [119], tn := [3250004], an := [2] },
    { dst := some 121, op := .mov (.t 8), rs := [8] },
    { dst := some 122, op := .bin .add (.t 121) (.c (.int .i64 9)), rs := [121], an := [4] },
    { dst := some 123, op := .bin .rem (.t 122) (.c (.int .i64 16)), rs := [122], an := [5] },
    { dst := some 124, op := .iada 16 1 (.t 4) (.t 123), rs := [4, 123], tn := [3250004], an := [6] },
    { dst := some 125, op := .load none (.t 124), rs := [124], tn := [3250004], an := [7] },
    { dst := some 126, op := .mov (.t 14), rs := [14] },
    { dst := some 127, op := .mov (.t 14), rs := [14] },
    { dst := some 128, op := .bin .shr (.t 127) (.c (.int .u64 3)), rs := [127], an := [10] },
    { dst := some 129, op := .call 3250130000 28 [(.t 126), (.c (.int .i64 7)), (.c (.int .i64 18)), (.t 128)], rs := [126, 128], an := [9, 11] },
    { dst := some 130, op := .bin .add (.t 125) (.t 129), rs := [125, 129], an := [8, 12] },
    { dst := some 131, op := .mov (.t 15), rs := [15] },
    { dst := some 132, op := .mov (.t 15), rs := [15] },
    { dst := some 133, op := .bin .shr (.t 132) (.c (.int .u64 10)), rs := [132], an := [15] },
    { dst := some 134, op := .call 3250135000 28 [(.t 131), (.c (.int .i64 17)), (.c (.int .i64 19)), (.t 133)], rs := [131, 133], an := [14, 16] },
    { dst := some 135, op := .bin .add (.t 130) (.t 134), rs := [130, 134], an := [13, 17] },
    { dst := some 136, op := .bin .add (.t 120) (.t 135), rs := [120, 135], an := [3, 18] },
    { dst := some 137, op := .iada 16 1 (.t 4) (.t 118), rs := [4, 118], tn := [3250004], an := [1] },
    { dst := none, op := .store 1 (.t 137) (.t 136), rs := [136, 137], tn := [3250004], wn := [3250004], an := [2, 3, 7, 8, 19, 20] }])))))))))))))))))))))))))
  (.keep [0, 4, 7, 41, 42] [20, 100000, 100009, 3250004, 3250007] (.reg false [
    { dst := some 138, op := .bin .add (.t 42) (.c (.int .i64 1)) },
    { dst := some 42, op := .mov (.t 138) }])))))))
def b25i_2 : AC :=
  (.seq (.reg false [
    { dst := some 21, op := .bin .lss (.t 20) (.t 19) }])
  ((.seq (.cond (.t 21) (.skip) (.exit 0))
  ((.seq (.block 1 ((.seq (.reg false [
    { dst := some 22, op := .mov (.t 20) },
    { dst := some 23, op := .iad 1 (.t 18) (.t 20) },
    { dst := some 24, op := .load none (.t 23) },
    { dst := some 5, op := .mov (.t 22) },
    { dst := some 6, op := .mov (.t 24) }])
  (.keep [0, 4, 5, 6, 18, 19, 20] [20, 100000, 100009, 3250004] (.reg false [
    { dst := some 25, op := .mov (.t 5) },
    { dst := some 26, op := .bin .quo (.t 25) (.c (.int .i64 4)) },
    { dst := some 27, op := .mov (.t 5) },
    { dst := some 28, op := .bin .quo (.t 27) (.c (.int .i64 4)) },
    { dst := some 29, op := .iada 16 1 (.t 4) (.t 28) },
    { dst := some 30, op := .load none (.t 29) },
    { dst := some 31, op := .bin .shl (.t 30) (.c (.int .u64 8)) },
    { dst := some 32, op := .mov (.t 6) },
    { dst := some 33, op := .conv .u32 (.t 32) },
    { dst := some 34, op := .bin .or (.t 31) (.t 33) },
    { dst := some 35, op := .iada 16 1 (.t 4) (.t 26) },
    { dst := none, op := .store 1 (.t 35) (.t 34) }])))))
  (.keep [0, 4, 18, 19, 20] [20, 100000, 100009, 3250004] (.reg false [
    { dst := some 36, op := .bin .add (.t 20) (.c (.int .i64 1)) },
    { dst := some 20, op := .mov (.t 36) }])))))))
/-- (*estreat/sha.state).round: parameters *sha.state []uint8 -/
def c25i : AC :=
  (.seq (.reg false [
    { dst := some 4, op := .alloc 3250004 z58 }])
  ((.seq ((.seq (.reg false [
    { dst := some 18, op := .mov (.t 1) },
    { dst := some 19, op := .len (.t 18) },
    { dst := some 20, op := .mov (.c (.int .i64 0)) }])
  (.block 0 (.loop [0, 4, 18, 19, 20] [20, 100000, 100009, 3250004] b25i_2))))
  (.keep [0, 4] [20, 100000, 100009, 3250004] ((.seq (.reg false [
    { dst := some 37, op := .mov (.t 0) },
    { dst := some 38, op := .nilck (.t 37) },
    { dst := some 39, op := .fad 0 (.t 38) },
    { dst := some 40, op := .load (some 8) (.t 39) },
    { dst := some 7, op := .alloc 3250007 z43 },
    { dst := none, op := .store 8 (.t 7) (.t 40) }])
  (.keep [0, 4, 7] [20, 100000, 100009, 3250004, 3250007] ((.seq ((.seq (.reg false [
    { dst := some 41, op := .load (some 64) (.g 0) },
    { dst := some 42, op := .mov (.c (.int .i64 0)) }])
  (.block 2 (.loop [0, 4, 7, 41, 42] [20, 100000, 100009, 3250004, 3250007] b25i_1))))
  (.keep [0, 7] [20, 100000, 100009, 3250007] ((.seq (.reg false [
    { dst := some 139, op := .load (some 8) (.t 7) },
    { dst := some 140, op := .mov (.c (.int .i64 0)) }])
  (.block 4 (.loop [0, 139, 140] [20, 100000, 100009] b25i_0))))))))))))))
/-- with its results -/
def a25i : AFun := ⟨c25i, [], 156⟩

end Go.Abs.Tryd

namespace Go.Abs.Tryd
open Go Go.Abs Go.Proofs
/-- the seat's code -/
def T : List (Nat × AFun) := [(3, a3), (4, a4), (5, a5), (6, a6), (7, a7), (8, a8), (9, a9), (10, a10), (11, a11), (12, a12), (13, a13), (14, a14), (15, a15), (16, a16), (17, a17), (18, a18), (19, a19), (20, a20), (21, a21), (22, a22), (23, a23), (24, a24), (25, a25), (26, a26), (27, a27), (28, a28), (29, a29), (30, a30), (31, a31)]
def T2 : List (Nat × AFun) := [(25, a25i)]
theorem tab : tabOK Tryd.prog T = true := by kernel_rfl
theorem tab2 : tabOK Tryd.prog T2 = true := by kernel_rfl
def Q (n : Nat) : Nat → Option FnF := Phi T T2 3000 n
def E (n f : Nat) : CallF := Ev T T2 3000 n f
def I (n f : Nat) : InlF := Iv T T2 3000 n f
theorem q3 (n : Nat) : Q (n + 1) 3 = some ⟨E (n + 1) 3, I (n + 1) 3⟩ := rfl
theorem e3 (n : Nat) : E (n + 1) 3 = evFun (Q n) 3000 a3 := rfl
theorem q4 (n : Nat) : Q (n + 1) 4 = some ⟨E (n + 1) 4, I (n + 1) 4⟩ := rfl
theorem e4 (n : Nat) : E (n + 1) 4 = evFun (Q n) 3000 a4 := rfl
theorem q5 (n : Nat) : Q (n + 1) 5 = some ⟨E (n + 1) 5, I (n + 1) 5⟩ := rfl
theorem e5 (n : Nat) : E (n + 1) 5 = evFun (Q n) 3000 a5 := rfl
theorem q6 (n : Nat) : Q (n + 1) 6 = some ⟨E (n + 1) 6, I (n + 1) 6⟩ := rfl
theorem e6 (n : Nat) : E (n + 1) 6 = evFun (Q n) 3000 a6 := rfl
theorem q7 (n : Nat) : Q (n + 1) 7 = some ⟨E (n + 1) 7, I (n + 1) 7⟩ := rfl
theorem e7 (n : Nat) : E (n + 1) 7 = evFun (Q n) 3000 a7 := rfl
theorem q8 (n : Nat) : Q (n + 1) 8 = some ⟨E (n + 1) 8, I (n + 1) 8⟩ := rfl
theorem e8 (n : Nat) : E (n + 1) 8 = evFun (Q n) 3000 a8 := rfl
theorem q9 (n : Nat) : Q (n + 1) 9 = some ⟨E (n + 1) 9, I (n + 1) 9⟩ := rfl
theorem e9 (n : Nat) : E (n + 1) 9 = evFun (Q n) 3000 a9 := rfl
theorem q10 (n : Nat) : Q (n + 1) 10 = some ⟨E (n + 1) 10, I (n + 1) 10⟩ := rfl
theorem e10 (n : Nat) : E (n + 1) 10 = evFun (Q n) 3000 a10 := rfl
theorem q11 (n : Nat) : Q (n + 1) 11 = some ⟨E (n + 1) 11, I (n + 1) 11⟩ := rfl
theorem e11 (n : Nat) : E (n + 1) 11 = evFun (Q n) 3000 a11 := rfl
theorem q12 (n : Nat) : Q (n + 1) 12 = some ⟨E (n + 1) 12, I (n + 1) 12⟩ := rfl
theorem e12 (n : Nat) : E (n + 1) 12 = evFun (Q n) 3000 a12 := rfl
theorem q13 (n : Nat) : Q (n + 1) 13 = some ⟨E (n + 1) 13, I (n + 1) 13⟩ := rfl
theorem e13 (n : Nat) : E (n + 1) 13 = evFun (Q n) 3000 a13 := rfl
theorem q14 (n : Nat) : Q (n + 1) 14 = some ⟨E (n + 1) 14, I (n + 1) 14⟩ := rfl
theorem e14 (n : Nat) : E (n + 1) 14 = evFun (Q n) 3000 a14 := rfl
theorem q15 (n : Nat) : Q (n + 1) 15 = some ⟨E (n + 1) 15, I (n + 1) 15⟩ := rfl
theorem e15 (n : Nat) : E (n + 1) 15 = evFun (Q n) 3000 a15 := rfl
theorem q16 (n : Nat) : Q (n + 1) 16 = some ⟨E (n + 1) 16, I (n + 1) 16⟩ := rfl
theorem e16 (n : Nat) : E (n + 1) 16 = evFun (Q n) 3000 a16 := rfl
theorem q17 (n : Nat) : Q (n + 1) 17 = some ⟨E (n + 1) 17, I (n + 1) 17⟩ := rfl
theorem e17 (n : Nat) : E (n + 1) 17 = evFun (Q n) 3000 a17 := rfl
theorem q18 (n : Nat) : Q (n + 1) 18 = some ⟨E (n + 1) 18, I (n + 1) 18⟩ := rfl
theorem e18 (n : Nat) : E (n + 1) 18 = evFun (Q n) 3000 a18 := rfl
theorem q19 (n : Nat) : Q (n + 1) 19 = some ⟨E (n + 1) 19, I (n + 1) 19⟩ := rfl
theorem e19 (n : Nat) : E (n + 1) 19 = evFun (Q n) 3000 a19 := rfl
theorem q20 (n : Nat) : Q (n + 1) 20 = some ⟨E (n + 1) 20, I (n + 1) 20⟩ := rfl
theorem e20 (n : Nat) : E (n + 1) 20 = evFun (Q n) 3000 a20 := rfl
theorem q21 (n : Nat) : Q (n + 1) 21 = some ⟨E (n + 1) 21, I (n + 1) 21⟩ := rfl
theorem e21 (n : Nat) : E (n + 1) 21 = evFun (Q n) 3000 a21 := rfl
theorem q22 (n : Nat) : Q (n + 1) 22 = some ⟨E (n + 1) 22, I (n + 1) 22⟩ := rfl
theorem e22 (n : Nat) : E (n + 1) 22 = evFun (Q n) 3000 a22 := rfl
theorem q23 (n : Nat) : Q (n + 1) 23 = some ⟨E (n + 1) 23, I (n + 1) 23⟩ := rfl
theorem e23 (n : Nat) : E (n + 1) 23 = evFun (Q n) 3000 a23 := rfl
theorem q24 (n : Nat) : Q (n + 1) 24 = some ⟨E (n + 1) 24, I (n + 1) 24⟩ := rfl
theorem e24 (n : Nat) : E (n + 1) 24 = evFun (Q n) 3000 a24 := rfl
theorem q25 (n : Nat) : Q (n + 1) 25 = some ⟨E (n + 1) 25, I (n + 1) 25⟩ := rfl
theorem e25 (n : Nat) : E (n + 1) 25 = evFun (Q n) 3000 a25 := rfl
theorem q26 (n : Nat) : Q (n + 1) 26 = some ⟨E (n + 1) 26, I (n + 1) 26⟩ := rfl
theorem e26 (n : Nat) : E (n + 1) 26 = evFun (Q n) 3000 a26 := rfl
theorem q27 (n : Nat) : Q (n + 1) 27 = some ⟨E (n + 1) 27, I (n + 1) 27⟩ := rfl
theorem e27 (n : Nat) : E (n + 1) 27 = evFun (Q n) 3000 a27 := rfl
theorem q28 (n : Nat) : Q (n + 1) 28 = some ⟨E (n + 1) 28, I (n + 1) 28⟩ := rfl
theorem e28 (n : Nat) : E (n + 1) 28 = evFun (Q n) 3000 a28 := rfl
theorem q29 (n : Nat) : Q (n + 1) 29 = some ⟨E (n + 1) 29, I (n + 1) 29⟩ := rfl
theorem e29 (n : Nat) : E (n + 1) 29 = evFun (Q n) 3000 a29 := rfl
theorem q30 (n : Nat) : Q (n + 1) 30 = some ⟨E (n + 1) 30, I (n + 1) 30⟩ := rfl
theorem e30 (n : Nat) : E (n + 1) 30 = evFun (Q n) 3000 a30 := rfl
theorem q31 (n : Nat) : Q (n + 1) 31 = some ⟨E (n + 1) 31, I (n + 1) 31⟩ := rfl
theorem e31 (n : Nat) : E (n + 1) 31 = evFun (Q n) 3000 a31 := rfl
theorem i25 (n : Nat) : I (n + 1) 25 = evInl (Q n) 3000 a25i := rfl
theorem ref (n f : Nat) {F} (h : Q n f = some F) : Refines Tryd.prog f (E n f) := Ev_refines tab tab2 h
end Go.Abs.Tryd

namespace Go.Abs.Sha
open Go Go.Abs
abbrev W := BitVec 32
def rr (x : W) (n : Nat) : W := x >>> n ||| x <<< (32 - n)
def s0 (x : W) : W := (rr x 7 ^^^ rr x 18) ^^^ x >>> 3
def s1 (x : W) : W := (rr x 17 ^^^ rr x 19) ^^^ x >>> 10
structure V8 where
  v0 : W
  v1 : W
  v2 : W
  v3 : W
  v4 : W
  v5 : W
  v6 : W
  v7 : W
/-- what is added twice -/
def pp (k w : W) (v : V8) : W := v.v7 + ((rr v.v4 6 ^^^ rr v.v4 11) ^^^ rr v.v4 25) + (v.v4 &&& v.v5 ^^^ ~~~v.v4 &&& v.v6) + k + w
def qq (v : V8) : W := ((rr v.v0 2 ^^^ rr v.v0 13) ^^^ rr v.v0 22) + ((v.v0 &&& v.v1 ^^^ v.v0 &&& v.v2) ^^^ v.v1 &&& v.v2)
def stp (k w : W) (v : V8) : V8 := ⟨pp k w v + qq v, v.v0, v.v1, v.v2, v.v3 + pp k w v, v.v4, v.v5, v.v6⟩
def V8.list (v : V8) : List W := [v.v0, v.v1, v.v2, v.v3, v.v4, v.v5, v.v6, v.v7]
def add8 (a b : V8) : V8 := ⟨a.v0 + b.v0, a.v1 + b.v1, a.v2 + b.v2, a.v3 + b.v3, a.v4 + b.v4, a.v5 + b.v5, a.v6 + b.v6, a.v7 + b.v7⟩
def KK : List W := Tryd.glob0.map fun
  | .int _ n => BitVec.ofInt 32 n
  | _ => 0
theorem glob1_ws : Tryd.glob0 = ws KK := by kernel_rfl
theorem KK_len : KK.length = 64 := by kernel_rfl
def cmp (w : Nat → W) : Nat → V8 → V8
  | 0, v => v
  | t + 1, v => stp (KK.getD t 0) (w t) (cmp w t v)
/-- the first k bytes of word t -/
def wd (l : List UInt8) (t : Nat) : Nat → W
  | 0 => 0
  | k + 1 => wd l t k <<< 8 ||| wb (l.getD (4 * t + k) 0)
def nx (l : List W) : W := l.getD (l.length - 16) 0 + l.getD (l.length - 7) 0 + s0 (l.getD (l.length - 15) 0) + s1 (l.getD (l.length - 2) 0)
def sch : Nat → List W → List W
  | 0, l => l
  | n + 1, l => sch n (l ++ [nx l])
def wl (l : List UInt8) : List W := sch 64 ((List.range 16).map fun t => wd l t 4)
def wf (l : List UInt8) (t : Nat) : W := (wl l).getD t 0
def blk (l : List UInt8) (v : V8) : V8 := add8 v (cmp (wf l) 64 v)
def ab : Nat → List UInt8 → V8 → V8 × List UInt8
  | 0, l, v => (v, l)
  | n + 1, l, v => if l.length < 64 then (v, l) else ab n (l.drop 64) (blk (l.take 64) v)
def absorb (l : List UInt8) (v : V8) : V8 × List UInt8 := ab (l.length / 64) l v
def zeros (n : Nat) : Nat := (119 - n % 64) % 64
def be8 (x : Nat) : List UInt8 := (List.range 8).map fun i => UInt8.ofNat (x / 2 ^ (56 - 8 * i))
def pad (n : Nat) : List UInt8 := 128 :: (List.replicate (zeros n) 0 ++ be8 (n * 8))
def dg (v : V8) : List UInt8 := (List.range 32).map fun i => UInt8.ofNat ((v.list.getD (i / 4) 0).toNat / 2 ^ (24 - 8 * (i % 4)))
def iv : V8 := ⟨1779033703, 3144134277, 1013904242, 2773480762, 1359893119, 2600822924, 528734635, 1541459225⟩
def sha (m : List UInt8) : List UInt8 := dg (absorb (m ++ pad m.length) iv).1
end Go.Abs.Sha

namespace Go.Abs.Sha
open Go Go.Abs
def ar (n : Nat) (f : Nat → W) : List W := (List.range n).map f
@[simp] theorem ar_len (n f) : (ar n f).length = n := by simp [ar]
theorem ar_get {n i : Nat} (f) (h : i < n) : (ar n f).getD i 0 = f i := by simp [ar, List.getD, h]
theorem ar_get? {n i : Nat} (f) (h : i < n) : (ar n f)[i]? = some (f i) := by simp [ar, h]
theorem ar_congr {n f g} (h : ∀ i, i < n → f i = g i) : ar n f = ar n g := by
  unfold ar
  exact List.map_congr_left fun i hi => h i (by simpa using hi)
theorem ar_set {n i : Nat} {f g : Nat → W} {x : W} (h : i < n) (h1 : g i = x) (h2 : ∀ j, j < n → j ≠ i → g j = f j) : (ar n f).set i x = ar n g := by
  apply List.ext_getElem?
  intro j
  rw [List.getElem?_set]
  by_cases e : i = j
  · subst e; simp [ar, h, h1]
  · rw [if_neg e]
    by_cases hj : j < n
    · rw [ar_get? f hj, ar_get? g hj, h2 j hj (Ne.symm e)]
    · simp [ar, hj]
theorem wb_zero_hi (b : UInt8) (x : W) : x <<< 8 &&& wb b = 0 := by
  apply BitVec.eq_of_getLsbD_eq
  intro i hi
  have hb := b.toNat_lt
  simp only [BitVec.getLsbD_and, BitVec.getLsbD_shiftLeft, wb, BitVec.getLsbD_ofNat, BitVec.getLsbD_zero]
  by_cases h : i < 8
  · simp [h]
  · rw [Nat.testBit_lt_two_pow (i := i) (x := b.toNat) (Nat.lt_of_lt_of_le hb (Nat.pow_le_pow_right (by omega) (by omega)))]
    simp
theorem or_wb (b : UInt8) (x : W) : x <<< 8 ||| wb b = x <<< 8 + wb b := (BitVec.add_eq_or_of_and_eq_zero _ _ (wb_zero_hi b x)).symm
theorem mul256 (x : W) : x * 256#32 = x <<< 8 := by
  rw [BitVec.shiftLeft_eq_mul_twoPow]; rfl
theorem ch_eq (a b c : W) : (c ^^^ a &&& (b ^^^ c)) = (a &&& b ^^^ ~~~a &&& c) := by
  apply BitVec.eq_of_getLsbD_eq
  intro i hi
  simp only [BitVec.getLsbD_and, BitVec.getLsbD_xor, BitVec.getLsbD_not, hi]
  cases a.getLsbD i <;> cases b.getLsbD i <;> cases c.getLsbD i <;> rfl

theorem sch_len : ∀ n l, (sch n l).length = l.length + n
  | 0, l => rfl
  | n + 1, l => by rw [sch, sch_len n]; simp; omega
theorem sch_get : ∀ n l i, i < l.length → (sch n l).getD i 0 = l.getD i 0
  | 0, l, i, h => rfl
  | n + 1, l, i, h => by
    rw [sch, sch_get n _ i (by simp; omega)]
    simp [List.getD, List.getElem?_append_left h]
theorem sch_nx : ∀ n l t, 16 ≤ l.length → l.length ≤ t → t < l.length + n →
    (sch n l).getD t 0 = (sch n l).getD (t - 16) 0 + (sch n l).getD (t - 7) 0 + s0 ((sch n l).getD (t - 15) 0) + s1 ((sch n l).getD (t - 2) 0)
  | 0, l, t, h, h1, h2 => by omega
  | n + 1, l, t, h, h1, h2 => by
    by_cases e : t = l.length
    · subst e
      rw [sch]
      rw [sch_get n _ l.length (by simp), sch_get n _ (l.length - 16) (by simp; omega), sch_get n _ (l.length - 7) (by simp; omega), sch_get n _ (l.length - 15) (by simp; omega), sch_get n _ (l.length - 2) (by simp; omega)]
      have g : ∀ i, i < l.length → (l ++ [nx l]).getD i 0 = l.getD i 0 := fun i hi => by simp [List.getD, List.getElem?_append_left hi]
      rw [g (l.length - 16) (by omega), g (l.length - 7) (by omega), g (l.length - 15) (by omega), g (l.length - 2) (by omega)]
      have e0 : (l ++ [nx l]).getD l.length 0 = nx l := by simp [List.getD]
      rw [e0, nx]
    · rw [sch]
      exact sch_nx n _ t (by simp; omega) (by simp; omega) (by simp; omega)
theorem wf_lo (l : List UInt8) {t : Nat} (h : t < 16) : wf l t = wd l t 4 := by
  unfold wf wl
  rw [sch_get _ _ _ (by simpa using h)]
  exact ar_get (fun t => wd l t 4) h
theorem wf_hi (l : List UInt8) {t : Nat} (h : 16 ≤ t) (h2 : t < 80) : wf l t = wf l (t - 16) + wf l (t - 7) + s0 (wf l (t - 15)) + s1 (wf l (t - 2)) := by
  unfold wf wl
  exact sch_nx _ _ t (by simp) (by simpa using h) (by simpa using h2)
/-- the window of sixteen words from t on -/
def win (w : Nat → W) (t : Nat) : List W := ar 16 fun i => w (t + (i + 16 - t % 16) % 16)
theorem win_get (w : Nat → W) (t k : Nat) (h : k < 16) : (win w t).getD ((t + k) % 16) 0 = w (t + k) := by
  unfold win
  rw [ar_get _ (by omega)]
  congr 1
  omega
theorem win_set (w : Nat → W) (t : Nat) (x : W) (h : x = w (t + 16)) : (win w t).set (t % 16) x = win w (t + 1) := by
  unfold win
  apply ar_set (by omega)
  · rw [h]; congr 1; omega
  · intro j hj hne
    congr 1
    omega

theorem ab_step (l : List UInt8) (v : V8) : absorb l v = if l.length < 64 then (v, l) else absorb (l.drop 64) (blk (l.take 64) v) := by
  unfold absorb
  by_cases h : l.length < 64
  · rw [if_pos h]
    have : l.length / 64 = 0 := by omega
    rw [this]; rfl
  · rw [if_neg h]
    have e : l.length / 64 = (l.drop 64).length / 64 + 1 := by simp; omega
    rw [e, ab, if_neg h]
theorem absorb_short {l : List UInt8} (v : V8) (h : l.length < 64) : absorb l v = (v, l) := by rw [ab_step, if_pos h]
theorem absorb_long {l : List UInt8} (v : V8) (h : 64 ≤ l.length) : absorb l v = absorb (l.drop 64) (blk (l.take 64) v) := by rw [ab_step, if_neg (by omega)]
theorem absorb_append : ∀ (n : Nat) (a b : List UInt8) (v : V8), a.length ≤ n → absorb (a ++ b) v = absorb ((absorb a v).2 ++ b) (absorb a v).1
  | n, a, b, v, h => by
    by_cases h1 : a.length < 64
    · rw [absorb_short v h1]
    · match n with
      | 0 => omega
      | n + 1 =>
      rw [absorb_long (l := a) v (by omega), absorb_long (l := a ++ b) v (by simp; omega)]
      rw [List.drop_append_of_le_length (by omega), List.take_append_of_le_length (by omega)]
      exact absorb_append n _ b _ (by simp; omega)
theorem absorb_rest : ∀ (n : Nat) (a : List UInt8) (v : V8), a.length ≤ n → (absorb a v).2.length = a.length % 64
  | n, a, v, h => by
    by_cases h1 : a.length < 64
    · rw [absorb_short v h1]; exact (Nat.mod_eq_of_lt h1).symm
    · match n with
      | 0 => omega
      | n + 1 =>
      rw [absorb_long v (by omega), absorb_rest n _ _ (by simp; omega)]
      simp; omega
theorem be8_len (x) : (be8 x).length = 8 := by simp [be8]
theorem pad_len (n : Nat) : (pad n).length = 1 + zeros n + 8 := by simp [pad, be8_len]; omega
theorem full_len (m : List UInt8) : (m ++ pad m.length).length % 64 = 0 := by
  rw [List.length_append, pad_len]; unfold zeros; omega
end Go.Abs.Sha

namespace Go.Abs.Tryd
open Go Go.Abs Go.Proofs Go.Abs.Sha
set_option maxHeartbeats 16000000
set_option maxRecDepth 100000
set_option linter.unusedSimpArgs false
set_option linter.unusedVariables false
theorem rot_of (n : Nat) (x : W) (a : Int) (b : Nat) (k : Nat) (hk : k < 32) (hk0 : 0 < k) (hb : b = 32 - k)
    (h1 : abits .and .u64 (IntKind.u64.wrap a) 31 = some (.int .u64 (b : Int))) : E (n + 1) 29 [.int .u32 (N x), .int .i64 a] = some (.int .u32 (N (rr x k)), []) := by
  rw [e29]
  subst hb
  have s1 := N_shl x (32 - k)
  have s2 := N_shr x k
  have w1 : IntKind.u64.wrap (32 - ((32 - k : Nat) : Int)) = (k : Int) := by rw [wrap_u64]; omega
  have m1 : min (32 - k) 32 = 32 - k := by omega
  have m2 : min k 32 = k := by omega
  have p1 : ¬ ((32 - k : Nat) : Int) < 0 := by omega
  have p2 : ¬ (k : Int) < 0 := by omega
  simp -implicitDefEqProofs [a29, c29, h1, abin, s1, s2, w1, m1, m2, p1, p2]
  rw [rr, BitVec.or_comm]
theorem rot2 (n : Nat) (x : W) : E (n + 1) 29 [.int .u32 (N x), .int .i64 (-2)] = some (.int .u32 (N (rr x 2)), []) := rot_of n x _ 30 2 (by omega) (by omega) (by omega) (by kernel_rfl)
theorem rot6 (n : Nat) (x : W) : E (n + 1) 29 [.int .u32 (N x), .int .i64 (-6)] = some (.int .u32 (N (rr x 6)), []) := rot_of n x _ 26 6 (by omega) (by omega) (by omega) (by kernel_rfl)
theorem rot7 (n : Nat) (x : W) : E (n + 1) 29 [.int .u32 (N x), .int .i64 (-7)] = some (.int .u32 (N (rr x 7)), []) := rot_of n x _ 25 7 (by omega) (by omega) (by omega) (by kernel_rfl)
theorem rot11 (n : Nat) (x : W) : E (n + 1) 29 [.int .u32 (N x), .int .i64 (-11)] = some (.int .u32 (N (rr x 11)), []) := rot_of n x _ 21 11 (by omega) (by omega) (by omega) (by kernel_rfl)
theorem rot13 (n : Nat) (x : W) : E (n + 1) 29 [.int .u32 (N x), .int .i64 (-13)] = some (.int .u32 (N (rr x 13)), []) := rot_of n x _ 19 13 (by omega) (by omega) (by omega) (by kernel_rfl)
theorem rot17 (n : Nat) (x : W) : E (n + 1) 29 [.int .u32 (N x), .int .i64 (-17)] = some (.int .u32 (N (rr x 17)), []) := rot_of n x _ 15 17 (by omega) (by omega) (by omega) (by kernel_rfl)
theorem rot18 (n : Nat) (x : W) : E (n + 1) 29 [.int .u32 (N x), .int .i64 (-18)] = some (.int .u32 (N (rr x 18)), []) := rot_of n x _ 14 18 (by omega) (by omega) (by omega) (by kernel_rfl)
theorem rot19 (n : Nat) (x : W) : E (n + 1) 29 [.int .u32 (N x), .int .i64 (-19)] = some (.int .u32 (N (rr x 19)), []) := rot_of n x _ 13 19 (by omega) (by omega) (by omega) (by kernel_rfl)
theorem rot22 (n : Nat) (x : W) : E (n + 1) 29 [.int .u32 (N x), .int .i64 (-22)] = some (.int .u32 (N (rr x 22)), []) := rot_of n x _ 10 22 (by omega) (by omega) (by omega) (by kernel_rfl)
theorem rot25 (n : Nat) (x : W) : E (n + 1) 29 [.int .u32 (N x), .int .i64 (-25)] = some (.int .u32 (N (rr x 25)), []) := rot_of n x _ 7 25 (by omega) (by omega) (by omega) (by kernel_rfl)
theorem three_of (n : Nat) (x l : W) (a b : Nat) (ha : E (n + 1) 29 [.int .u32 (N x), .int .i64 (-(a : Int))] = some (.int .u32 (N (rr x a)), []))
    (hb : E (n + 1) 29 [.int .u32 (N x), .int .i64 (-(b : Int))] = some (.int .u32 (N (rr x b)), [])) (h1 : IntKind.i64.wrap (0 - (a : Int)) = -(a : Int)) (h2 : IntKind.i64.wrap (0 - (b : Int)) = -(b : Int)) :
    E (n + 2) 28 [.int .u32 (N x), .int .i64 a, .int .i64 b, .int .u32 (N l)] = some (.int .u32 (N ((rr x a ^^^ rr x b) ^^^ l)), []) := by
  rw [e28]
  have h1' : IntKind.i64.wrap (-(a : Int)) = -(a : Int) := by simpa using h1
  have h2' : IntKind.i64.wrap (-(b : Int)) = -(b : Int) := by simpa using h2
  simp -implicitDefEqProofs [a28, c28, q29, h1', h2', ha, hb, abin]
theorem three6 (n : Nat) (x l : W) : E (n + 2) 28 [.int .u32 (N x), .int .i64 6, .int .i64 11, .int .u32 (N l)] = some (.int .u32 (N ((rr x 6 ^^^ rr x 11) ^^^ l)), []) := three_of n x l 6 11 (rot6 n x) (rot11 n x) (by kernel_rfl) (by kernel_rfl)
theorem three2 (n : Nat) (x l : W) : E (n + 2) 28 [.int .u32 (N x), .int .i64 2, .int .i64 13, .int .u32 (N l)] = some (.int .u32 (N ((rr x 2 ^^^ rr x 13) ^^^ l)), []) := three_of n x l 2 13 (rot2 n x) (rot13 n x) (by kernel_rfl) (by kernel_rfl)
theorem three7 (n : Nat) (x l : W) : E (n + 2) 28 [.int .u32 (N x), .int .i64 7, .int .i64 18, .int .u32 (N l)] = some (.int .u32 (N ((rr x 7 ^^^ rr x 18) ^^^ l)), []) := three_of n x l 7 18 (rot7 n x) (rot18 n x) (by kernel_rfl) (by kernel_rfl)
theorem three17 (n : Nat) (x l : W) : E (n + 2) 28 [.int .u32 (N x), .int .i64 17, .int .i64 19, .int .u32 (N l)] = some (.int .u32 (N ((rr x 17 ^^^ rr x 19) ^^^ l)), []) := three_of n x l 17 19 (rot17 n x) (rot19 n x) (by kernel_rfl) (by kernel_rfl)
theorem turn_of (n : Nat) (x : W) (k : Nat) (hk : k < 32) (hk0 : 0 < k) : E (n + 1) 31 [.int .u32 (N x), .int .i64 k] = some (.int .u32 (N (rr x k)), []) := by
  rw [e31]
  have s1 := N_shl x (32 - k)
  have s2 := N_shr x k
  have w1 : IntKind.i64.wrap (32 - (k : Int)) = ((32 - k : Nat) : Int) := by rw [wrap_i64 _ (by omega) (by omega)]; omega
  have m1 : min (32 - k) 32 = 32 - k := by omega
  have m2 : min k 32 = k := by omega
  have p1 : ¬ ((32 - k : Nat) : Int) < 0 := by omega
  have p2 : ¬ (k : Int) < 0 := by omega
  simp -implicitDefEqProofs [a31, c31, abin, s1, s2, w1, m1, m2, p1, p2]
  rfl
theorem turn2 (n : Nat) (x : W) : E (n + 1) 31 [.int .u32 (N x), .int .i64 2] = some (.int .u32 (N (rr x 2)), []) := turn_of n x 2 (by omega) (by omega)
theorem turn6 (n : Nat) (x : W) : E (n + 1) 31 [.int .u32 (N x), .int .i64 6] = some (.int .u32 (N (rr x 6)), []) := turn_of n x 6 (by omega) (by omega)
theorem turn7 (n : Nat) (x : W) : E (n + 1) 31 [.int .u32 (N x), .int .i64 7] = some (.int .u32 (N (rr x 7)), []) := turn_of n x 7 (by omega) (by omega)
theorem turn11 (n : Nat) (x : W) : E (n + 1) 31 [.int .u32 (N x), .int .i64 11] = some (.int .u32 (N (rr x 11)), []) := turn_of n x 11 (by omega) (by omega)
theorem turn13 (n : Nat) (x : W) : E (n + 1) 31 [.int .u32 (N x), .int .i64 13] = some (.int .u32 (N (rr x 13)), []) := turn_of n x 13 (by omega) (by omega)
theorem turn17 (n : Nat) (x : W) : E (n + 1) 31 [.int .u32 (N x), .int .i64 17] = some (.int .u32 (N (rr x 17)), []) := turn_of n x 17 (by omega) (by omega)
theorem turn18 (n : Nat) (x : W) : E (n + 1) 31 [.int .u32 (N x), .int .i64 18] = some (.int .u32 (N (rr x 18)), []) := turn_of n x 18 (by omega) (by omega)
theorem turn19 (n : Nat) (x : W) : E (n + 1) 31 [.int .u32 (N x), .int .i64 19] = some (.int .u32 (N (rr x 19)), []) := turn_of n x 19 (by omega) (by omega)
theorem turn22 (n : Nat) (x : W) : E (n + 1) 31 [.int .u32 (N x), .int .i64 22] = some (.int .u32 (N (rr x 22)), []) := turn_of n x 22 (by omega) (by omega)
theorem turn25 (n : Nat) (x : W) : E (n + 1) 31 [.int .u32 (N x), .int .i64 25] = some (.int .u32 (N (rr x 25)), []) := turn_of n x 25 (by omega) (by omega)
end Go.Abs.Tryd

namespace Go.Abs.Tryd
open Go Go.Abs Go.Proofs Go.Abs.Sha
set_option maxHeartbeats 16000000
set_option maxRecDepth 100000
set_option linter.unusedSimpArgs false
set_option linter.unusedVariables false
/-- the array that a slice of bytes shows: made by take itself, or come in -/
def nmv : Bool → Nat
  | true => 20
  | false => 100009
def HX (b : Bool) (g2 : Nat) (A : Blk) (g : Nat) (S : Blk) (r : AH) : AH := match b with
  | true => ⟨20, g2, A⟩ :: ⟨100000, g, S⟩ :: r
  | false => ⟨100000, g, S⟩ :: ⟨100009, g2, A⟩ :: r
theorem quo4 (i : Nat) (h : i < 10000) : IntKind.i64.wrap ((i : Int) / 4) = ((i / 4 : Nat) : Int) := by
  rw [wrap_i64 _ (by omega) (by omega)]; omega
theorem stepW (Φ : Nat → Option FnF) (K : Nat) (b : Bool) (g2 g g4 c k : Nat) (fz : Bool) (lb : List UInt8) (off i : Nat) (S : Blk) (L : List W) (hL : L.length = 16) (hi : i < 64) (ho : off + 64 ≤ lb.length) :
    iter (ev Φ K b25i_2) [0, 4, 18, 19, 20] [20, 100000, 100009, 3250004] (k + 1) ⟨[(0, .ptr 100000 g 0), (4, .ptr 3250004 g4 0), (18, .own (nmv b) g2 off 64), (19, .int .i64 64), (20, .int .i64 i)], HX b g2 (.arr 1 (byteRows lb) fz) g S [⟨3250004, g4, .var (ws L)⟩], c⟩ =
    iter (ev Φ K b25i_2) [0, 4, 18, 19, 20] [20, 100000, 100009, 3250004] k ⟨[(0, .ptr 100000 g 0), (4, .ptr 3250004 g4 0), (18, .own (nmv b) g2 off 64), (19, .int .i64 64), (20, .int .i64 (i + 1 : Nat))], HX b g2 (.arr 1 (byteRows lb) fz) g S [⟨3250004, g4, .var (ws (L.set (i / 4) (L.getD (i / 4) 0 <<< 8 ||| wb (lb.getD (off + i) 0))))⟩], c⟩ := by
  have h1 : (i : Int) < 64 := by omega
  have w1 : IntKind.i64.wrap ((i : Int) + 1) = (i : Int) + 1 := wrap_i64 _ (by omega) (by omega)
  have q1 := quo4 i (by omega)
  have j1 : i / 4 < L.length := by omega
  have j2 : i / 4 < 16 := by omega
  have j3 : i / 4 + 1 ≤ 16 := by omega
  have hget := ws_at j1
  have hget2 := (List.getElem?_eq_some_iff.1 hget).2
  have hlen := ws_len L
  have r1 := rows_at (l := lb) (i := off + i) (by omega)
  have r2 := (List.getElem?_eq_some_iff.1 r1).2
  have rl := rows_len lb
  have hs := N_shl (L.getD (i / 4) 0) 8
  simp only [show (2 : Int) ^ 8 = 256 from rfl] at hs
  have hp := ws_put L (L.getD (i / 4) 0 <<< 8 ||| wb (lb.getD (off + i) 0)) j1
  generalize ws (L.set (i / 4) (L.getD (i / 4) 0 <<< 8 ||| wb (lb.getD (off + i) 0))) = M at *
  generalize lb.getD (off + i) 0 = z at *
  generalize L.getD (i / 4) 0 = y at *
  have o1 : off + i < lb.length := by omega
  have p1 : (0 : Int) ≤ (i : Int) / 4 := by omega
  have p2 : ((i : Int) / 4).toNat = i / 4 := by omega
  have z1 : 0 ≤ ((i / 4 : Nat) : Int) := by omega
  have z2 : ((i / 4 : Nat) : Int).toNat = i / 4 := by omega
  generalize ((i / 4 : Nat) : Int) = u at *
  cases b
  · apply iter_norm
    simp -implicitDefEqProofs [b25i_2, St.keep, HX, nmv, h1, hi, w1, q1, j2, j3, hL, hlen, hget, hget2, r1, r2, rl, o1, hs, hp, z1, z2, abin]
  · apply iter_norm
    simp -implicitDefEqProofs [b25i_2, St.keep, HX, nmv, h1, hi, w1, q1, j2, j3, hL, hlen, hget, hget2, r1, r2, rl, o1, hs, hp, z1, z2, abin]
/-- the words behind n bytes of a block -/
def LW (m : Nat) (l : List UInt8) (n : Nat) : List W := ar m fun t => wd l t (min 4 (n - 4 * t))
theorem LW_len (m l n) : (LW m l n).length = m := ar_len _ _
theorem LW_set (m : Nat) (l : List UInt8) (n : Nat) (h : n < 4 * m) (x : UInt8) (hx : l.getD n 0 = x) : (LW m l n).set (n / 4) ((LW m l n).getD (n / 4) 0 <<< 8 ||| wb x) = LW m l (n + 1) := by
  unfold LW
  apply ar_set (by omega)
  · rw [ar_get _ (by omega)]
    have e1 : min 4 (n + 1 - 4 * (n / 4)) = n % 4 + 1 := by omega
    have e2 : min 4 (n - 4 * (n / 4)) = n % 4 := by omega
    rw [e1, e2, wd, show 4 * (n / 4) + n % 4 = n by omega, hx]
  · intro j hj hne
    have e1 : min 4 (n + 1 - 4 * j) = min 4 (n - 4 * j) := by omega
    rw [e1]
def blkOf (lb : List UInt8) (off : Nat) : List UInt8 := (lb.drop off).take 64
theorem blkOf_get (lb : List UInt8) (off i : Nat) (h : i < 64) (ho : off + 64 ≤ lb.length) : (blkOf lb off).getD i 0 = lb.getD (off + i) 0 := by
  simp [blkOf, List.getD, h]
theorem loopW (Φ : Nat → Option FnF) (K : Nat) (b : Bool) (g2 g g4 c : Nat) (fz : Bool) (lb : List UInt8) (off : Nat) (S : Blk) (ho : off + 64 ≤ lb.length) : ∀ (d i k : Nat), i + d = 64 → d < k →
    iter (ev Φ K b25i_2) [0, 4, 18, 19, 20] [20, 100000, 100009, 3250004] k ⟨[(0, .ptr 100000 g 0), (4, .ptr 3250004 g4 0), (18, .own (nmv b) g2 off 64), (19, .int .i64 64), (20, .int .i64 i)], HX b g2 (.arr 1 (byteRows lb) fz) g S [⟨3250004, g4, .var (ws (LW 16 (blkOf lb off) i))⟩], c⟩ =
    some (.exit 0, ⟨[(0, .ptr 100000 g 0), (4, .ptr 3250004 g4 0), (18, .own (nmv b) g2 off 64), (19, .int .i64 64), (20, .int .i64 64), (21, .bool false)], HX b g2 (.arr 1 (byteRows lb) fz) g S [⟨3250004, g4, .var (ws (LW 16 (blkOf lb off) 64))⟩], c⟩)
  | 0, i, 0, hi, hk => by omega
  | 0, i, k + 1, hi, hk => by
    obtain rfl : i = 64 := by omega
    rw [iter_succ]
    cases b <;> simp -implicitDefEqProofs [b25i_2, HX, nmv]
  | d + 1, i, 0, hi, hk => by omega
  | d + 1, i, k + 1, hi, hk => by
    rw [stepW Φ K b g2 g g4 c k fz lb off i S _ (LW_len _ _ _) (by omega) ho, LW_set 16 _ i (by omega) _ (blkOf_get lb off i (by omega) ho)]
    exact loopW Φ K b g2 g g4 c fz lb off S ho d (i + 1) k (by omega) (by omega)
theorem z53_ws : ws (List.replicate 16 (0 : W)) = z58 := by kernel_rfl
theorem LW0 (l : List UInt8) : ws (LW 16 l 0) = z58 := by
  have : LW 16 l 0 = List.replicate 16 0 := by
    unfold LW ar
    simp [wd, List.map_const']
  rw [this]; exact z53_ws
theorem LW64 (l : List UInt8) : LW 16 l 64 = win (wf l) 0 := by
  unfold LW win
  apply ar_congr
  intro i hi
  rw [show min 4 (64 - 4 * i) = 4 by omega, show 0 + (i + 16 - 0 % 16) % 16 = i by omega, wf_lo l hi]
end Go.Abs.Tryd

namespace Go.Abs.Tryd
open Go Go.Abs Go.Proofs Go.Abs.Sha
set_option maxHeartbeats 64000000
set_option maxRecDepth 100000
set_option linter.unusedSimpArgs false
set_option linter.unusedVariables false
def vc (v : V8) : List AV := [.int .u32 (N v.v0), .int .u32 (N v.v1), .int .u32 (N v.v2), .int .u32 (N v.v3), .int .u32 (N v.v4), .int .u32 (N v.v5), .int .u32 (N v.v6), .int .u32 (N v.v7)]
theorem stepR (n K : Nat) (b : Bool) (g2 g g4 g7 c k : Nat) (A S : Blk) (t : Nat) (L : List W) (hL : L.length = 16) (ht : t < 64) (v : V8) (hg4 : g4 < c) (hg7 : g7 < c) :
    iter (ev (Q (n + 2)) K b25i_1) [0, 4, 7, 41, 42] [20, 100000, 100009, 3250004, 3250007] (k + 1) ⟨[(0, .ptr 100000 g 0), (4, .ptr 3250004 g4 0), (7, .ptr 3250007 g7 0), (41, .agg (ws KK)), (42, .int .i64 t)], HX b g2 A g S [⟨3250004, g4, .var (ws L)⟩, ⟨3250007, g7, .var (vc v)⟩], c⟩ =
    iter (ev (Q (n + 2)) K b25i_1) [0, 4, 7, 41, 42] [20, 100000, 100009, 3250004, 3250007] k ⟨[(0, .ptr 100000 g 0), (4, .ptr 3250004 g4 0), (7, .ptr 3250007 g7 0), (41, .agg (ws KK)), (42, .int .i64 (t + 1 : Nat))], HX b g2 A g S [⟨3250004, g4, .var (ws (L.set (t % 16) (L.getD (t % 16) 0 + (L.getD ((t + 9) % 16) 0 + s0 (L.getD ((t + 1) % 16) 0) + s1 (L.getD ((t + 14) % 16) 0)))))⟩, ⟨3250007, g7, .var (vc (stp (KK.getD t 0) (L.getD (t % 16) 0) v))⟩], c⟩ := by
  have h1 : (t : Int) < 64 := by omega
  have w1 : IntKind.i64.wrap ((t : Int) + 1) = (t : Int) + 1 := wrap_i64 _ (by omega) (by omega)
  have w9 : IntKind.i64.wrap ((t : Int) + 9) = (t : Int) + 9 := wrap_i64 _ (by omega) (by omega)
  have w14 : IntKind.i64.wrap ((t : Int) + 14) = (t : Int) + 14 := wrap_i64 _ (by omega) (by omega)
  have hlen := ws_len L
  have kl := ws_len KK
  have k0 := KK_len
  have hk := ws_at (L := KK) (i := t) (by omega)
  have hk2 := (List.getElem?_eq_some_iff.1 hk).2
  have m0 : t % 16 < 16 := by omega
  have m0' : t % 16 ≤ 15 := by omega
  have m1 : (t + 1) % 16 < 16 := by omega
  have m9 : (t + 9) % 16 < 16 := by omega
  have m14 : (t + 14) % 16 < 16 := by omega
  have a0 := ws_at (L := L) (i := t % 16) (by omega)
  have a1 := ws_at (L := L) (i := (t + 1) % 16) (by omega)
  have a9 := ws_at (L := L) (i := (t + 9) % 16) (by omega)
  have a14 := ws_at (L := L) (i := (t + 14) % 16) (by omega)
  have b0 := (List.getElem?_eq_some_iff.1 a0).2
  have b1 := (List.getElem?_eq_some_iff.1 a1).2
  have b9 := (List.getElem?_eq_some_iff.1 a9).2
  have b14 := (List.getElem?_eq_some_iff.1 a14).2
  have c0 : ((t : Int) % 16).toNat = t % 16 := by omega
  have c1 : (((t : Int) + 1) % 16).toNat = (t + 1) % 16 := by omega
  have c9 : (((t : Int) + 9) % 16).toNat = (t + 9) % 16 := by omega
  have c14 : (((t : Int) + 14) % 16).toNat = (t + 14) % 16 := by omega
  have d0 : (0 : Int) ≤ (t : Int) % 16 := by omega
  have d1 : (0 : Int) ≤ ((t : Int) + 1) % 16 := by omega
  have d9 : (0 : Int) ≤ ((t : Int) + 9) % 16 := by omega
  have d14 : (0 : Int) ≤ ((t : Int) + 14) % 16 := by omega
  have e0 : (t : Int).tmod 16 = (t : Int) % 16 := Int.tmod_eq_emod_of_nonneg (by omega)
  have e1 : ((t : Int) + 1).tmod 16 = ((t : Int) + 1) % 16 := Int.tmod_eq_emod_of_nonneg (by omega)
  have e9 : ((t : Int) + 9).tmod 16 = ((t : Int) + 9) % 16 := Int.tmod_eq_emod_of_nonneg (by omega)
  have e14 : ((t : Int) + 14).tmod 16 = ((t : Int) + 14) % 16 := Int.tmod_eq_emod_of_nonneg (by omega)
  have hp := ws_put L (i := t % 16) (L.getD (t % 16) 0 + (L.getD ((t + 9) % 16) 0 + s0 (L.getD ((t + 1) % 16) 0) + s1 (L.getD ((t + 14) % 16) 0))) (by omega)
  have lw := plains_low (ws_plain L)
  have lm := plains_low (ws_plain (L.set (t % 16) (L.getD (t % 16) 0 + (L.getD ((t + 9) % 16) 0 + s0 (L.getD ((t + 1) % 16) 0) + s1 (L.getD ((t + 14) % 16) 0)))))
  generalize ws (L.set (t % 16) (L.getD (t % 16) 0 + (L.getD ((t + 9) % 16) 0 + s0 (L.getD ((t + 1) % 16) 0) + s1 (L.getD ((t + 14) % 16) 0)))) = M at *
  generalize L.getD (t % 16) 0 = x0 at *
  generalize L.getD ((t + 1) % 16) 0 = x1 at *
  generalize L.getD ((t + 9) % 16) 0 = x9 at *
  generalize L.getD ((t + 14) % 16) 0 = x14 at *
  generalize KK.getD t 0 = kk at *
  have f3 := N_shr x1 3
  have f10 := N_shr x14 10
  simp only [show (2 : Int) ^ 3 = 8 from rfl, show (2 : Int) ^ 10 = 1024 from rfl] at f3 f10
  simp only [s0, s1] at hp
  obtain ⟨v0, v1, v2, v3, v4, v5, v6, v7⟩ := v
  cases b
  · apply iter_norm
    simp (config := { maxSteps := 3000000 }) -implicitDefEqProofs [b25i_1, St.keep, HX, h1, ht, w1, w9, w14, hlen, hL, kl, k0, hk, hk2, m0, m1, m9, m14, a0, a1, a9, a14, b0, b1, b9, b14, c0, c1, c9, c14, d0, d1, d9, d14, e0, e1, e9, e14, hp, f3, f10, abin, vc, q28, q29, hg4, hg7, lw, lm, m0', acopy, stp, pp, qq, ch_eq, three6, three2, three7, three17, rot25, rot22]
  · apply iter_norm
    simp (config := { maxSteps := 3000000 }) -implicitDefEqProofs [b25i_1, St.keep, HX, h1, ht, w1, w9, w14, hlen, hL, kl, k0, hk, hk2, m0, m1, m9, m14, a0, a1, a9, a14, b0, b1, b9, b14, c0, c1, c9, c14, d0, d1, d9, d14, e0, e1, e9, e14, hp, f3, f10, abin, vc, q28, q29, hg4, hg7, lw, lm, m0', acopy, stp, pp, qq, ch_eq, three6, three2, three7, three17, rot25, rot22]
end Go.Abs.Tryd

namespace Go.Abs.Tryd
open Go Go.Abs Go.Proofs Go.Abs.Sha
set_option maxHeartbeats 64000000
set_option maxRecDepth 100000
set_option linter.unusedSimpArgs false
set_option linter.unusedVariables false
theorem loopR (n K : Nat) (b : Bool) (g2 g g4 g7 c : Nat) (A S : Blk) (l : List UInt8) (v : V8) (hg4 : g4 < c) (hg7 : g7 < c) : ∀ (d t k : Nat), t + d = 64 → d < k →
    iter (ev (Q (n + 2)) K b25i_1) [0, 4, 7, 41, 42] [20, 100000, 100009, 3250004, 3250007] k ⟨[(0, .ptr 100000 g 0), (4, .ptr 3250004 g4 0), (7, .ptr 3250007 g7 0), (41, .agg (ws KK)), (42, .int .i64 t)], HX b g2 A g S [⟨3250004, g4, .var (ws (win (wf l) t))⟩, ⟨3250007, g7, .var (vc (cmp (wf l) t v))⟩], c⟩ =
    some (.exit 2, ⟨[(0, .ptr 100000 g 0), (4, .ptr 3250004 g4 0), (7, .ptr 3250007 g7 0), (41, .agg (ws KK)), (42, .int .i64 64), (43, .bool false)], HX b g2 A g S [⟨3250004, g4, .var (ws (win (wf l) 64))⟩, ⟨3250007, g7, .var (vc (cmp (wf l) 64 v))⟩], c⟩)
  | 0, t, 0, hi, hk => by omega
  | 0, t, k + 1, hi, hk => by
    obtain rfl : t = 64 := by omega
    rw [iter_succ]
    cases b <;> simp -implicitDefEqProofs [b25i_1, HX]
  | d + 1, t, 0, hi, hk => by omega
  | d + 1, t, k + 1, hi, hk => by
    rw [stepR n K b g2 g g4 g7 c k A S t (win (wf l) t) (ar_len _ _) (by omega) (cmp (wf l) t v) hg4 hg7]
    have w0 := win_get (wf l) t 0 (by omega)
    rw [Nat.add_zero] at w0
    rw [win_get (wf l) t 1 (by omega), win_get (wf l) t 9 (by omega), win_get (wf l) t 14 (by omega), w0]
    rw [win_set (wf l) t _ (by rw [wf_hi l (t := t + 16) (by omega) (by omega)]; simp only [show t + 16 - 16 = t by omega, show t + 16 - 7 = t + 9 by omega, show t + 16 - 15 = t + 1 by omega, show t + 16 - 2 = t + 14 by omega, BitVec.add_assoc])]
    exact loopR n K b g2 g g4 g7 c A S l v hg4 hg7 d (t + 1) k (by omega) (by omega)

theorem stepA0 (Φ : Nat → Option FnF) (K : Nat) (b : Bool) (g2 g c k : Nat) (rows : List (List AV)) (fz : Bool) (off len : Nat) (m : Int) (u0 u1 u2 u3 u4 u5 u6 u7 x0 x1 x2 x3 x4 x5 x6 x7 : W) (hg : g < c) (hg2 : g2 < c) :
    let r : AV := .own (nmv b) g2 off len
    let z : AV := .int .u64 m
    iter (ev Φ K b25i_0) [0, 139, 140] [20, 100000, 100009] (k + 1) ⟨[(0, .ptr 100000 g 0), (139, .agg [.int .u32 (N x0), .int .u32 (N x1), .int .u32 (N x2), .int .u32 (N x3), .int .u32 (N x4), .int .u32 (N x5), .int .u32 (N x6), .int .u32 (N x7)]), (140, .int .i64 0)], HX b g2 (.arr 1 rows fz) g (.var [.int .u32 (N u0), .int .u32 (N u1), .int .u32 (N u2), .int .u32 (N u3), .int .u32 (N u4), .int .u32 (N u5), .int .u32 (N u6), .int .u32 (N u7), r, z]) [], c⟩ =
    iter (ev Φ K b25i_0) [0, 139, 140] [20, 100000, 100009] k ⟨[(0, .ptr 100000 g 0), (139, .agg [.int .u32 (N x0), .int .u32 (N x1), .int .u32 (N x2), .int .u32 (N x3), .int .u32 (N x4), .int .u32 (N x5), .int .u32 (N x6), .int .u32 (N x7)]), (140, .int .i64 1)], HX b g2 (.arr 1 rows fz) g (.var [.int .u32 (N (u0 + x0)), .int .u32 (N u1), .int .u32 (N u2), .int .u32 (N u3), .int .u32 (N u4), .int .u32 (N u5), .int .u32 (N u6), .int .u32 (N u7), r, z]) [], c⟩ := by
  have w1 : IntKind.i64.wrap 1 = 1 := wrap_i64 _ (by omega) (by omega)
  cases b <;> (apply iter_norm; simp -implicitDefEqProofs [b25i_0, St.keep, HX, nmv, hg, hg2, w1, abin])
theorem stepA1 (Φ : Nat → Option FnF) (K : Nat) (b : Bool) (g2 g c k : Nat) (rows : List (List AV)) (fz : Bool) (off len : Nat) (m : Int) (u0 u1 u2 u3 u4 u5 u6 u7 x0 x1 x2 x3 x4 x5 x6 x7 : W) (hg : g < c) (hg2 : g2 < c) :
    let r : AV := .own (nmv b) g2 off len
    let z : AV := .int .u64 m
    iter (ev Φ K b25i_0) [0, 139, 140] [20, 100000, 100009] (k + 1) ⟨[(0, .ptr 100000 g 0), (139, .agg [.int .u32 (N x0), .int .u32 (N x1), .int .u32 (N x2), .int .u32 (N x3), .int .u32 (N x4), .int .u32 (N x5), .int .u32 (N x6), .int .u32 (N x7)]), (140, .int .i64 1)], HX b g2 (.arr 1 rows fz) g (.var [.int .u32 (N (u0 + x0)), .int .u32 (N u1), .int .u32 (N u2), .int .u32 (N u3), .int .u32 (N u4), .int .u32 (N u5), .int .u32 (N u6), .int .u32 (N u7), r, z]) [], c⟩ =
    iter (ev Φ K b25i_0) [0, 139, 140] [20, 100000, 100009] k ⟨[(0, .ptr 100000 g 0), (139, .agg [.int .u32 (N x0), .int .u32 (N x1), .int .u32 (N x2), .int .u32 (N x3), .int .u32 (N x4), .int .u32 (N x5), .int .u32 (N x6), .int .u32 (N x7)]), (140, .int .i64 2)], HX b g2 (.arr 1 rows fz) g (.var [.int .u32 (N (u0 + x0)), .int .u32 (N (u1 + x1)), .int .u32 (N u2), .int .u32 (N u3), .int .u32 (N u4), .int .u32 (N u5), .int .u32 (N u6), .int .u32 (N u7), r, z]) [], c⟩ := by
  have w1 : IntKind.i64.wrap 2 = 2 := wrap_i64 _ (by omega) (by omega)
  cases b <;> (apply iter_norm; simp -implicitDefEqProofs [b25i_0, St.keep, HX, nmv, hg, hg2, w1, abin])
theorem stepA2 (Φ : Nat → Option FnF) (K : Nat) (b : Bool) (g2 g c k : Nat) (rows : List (List AV)) (fz : Bool) (off len : Nat) (m : Int) (u0 u1 u2 u3 u4 u5 u6 u7 x0 x1 x2 x3 x4 x5 x6 x7 : W) (hg : g < c) (hg2 : g2 < c) :
    let r : AV := .own (nmv b) g2 off len
    let z : AV := .int .u64 m
    iter (ev Φ K b25i_0) [0, 139, 140] [20, 100000, 100009] (k + 1) ⟨[(0, .ptr 100000 g 0), (139, .agg [.int .u32 (N x0), .int .u32 (N x1), .int .u32 (N x2), .int .u32 (N x3), .int .u32 (N x4), .int .u32 (N x5), .int .u32 (N x6), .int .u32 (N x7)]), (140, .int .i64 2)], HX b g2 (.arr 1 rows fz) g (.var [.int .u32 (N (u0 + x0)), .int .u32 (N (u1 + x1)), .int .u32 (N u2), .int .u32 (N u3), .int .u32 (N u4), .int .u32 (N u5), .int .u32 (N u6), .int .u32 (N u7), r, z]) [], c⟩ =
    iter (ev Φ K b25i_0) [0, 139, 140] [20, 100000, 100009] k ⟨[(0, .ptr 100000 g 0), (139, .agg [.int .u32 (N x0), .int .u32 (N x1), .int .u32 (N x2), .int .u32 (N x3), .int .u32 (N x4), .int .u32 (N x5), .int .u32 (N x6), .int .u32 (N x7)]), (140, .int .i64 3)], HX b g2 (.arr 1 rows fz) g (.var [.int .u32 (N (u0 + x0)), .int .u32 (N (u1 + x1)), .int .u32 (N (u2 + x2)), .int .u32 (N u3), .int .u32 (N u4), .int .u32 (N u5), .int .u32 (N u6), .int .u32 (N u7), r, z]) [], c⟩ := by
  have w1 : IntKind.i64.wrap 3 = 3 := wrap_i64 _ (by omega) (by omega)
  cases b <;> (apply iter_norm; simp -implicitDefEqProofs [b25i_0, St.keep, HX, nmv, hg, hg2, w1, abin])
theorem stepA3 (Φ : Nat → Option FnF) (K : Nat) (b : Bool) (g2 g c k : Nat) (rows : List (List AV)) (fz : Bool) (off len : Nat) (m : Int) (u0 u1 u2 u3 u4 u5 u6 u7 x0 x1 x2 x3 x4 x5 x6 x7 : W) (hg : g < c) (hg2 : g2 < c) :
    let r : AV := .own (nmv b) g2 off len
    let z : AV := .int .u64 m
    iter (ev Φ K b25i_0) [0, 139, 140] [20, 100000, 100009] (k + 1) ⟨[(0, .ptr 100000 g 0), (139, .agg [.int .u32 (N x0), .int .u32 (N x1), .int .u32 (N x2), .int .u32 (N x3), .int .u32 (N x4), .int .u32 (N x5), .int .u32 (N x6), .int .u32 (N x7)]), (140, .int .i64 3)], HX b g2 (.arr 1 rows fz) g (.var [.int .u32 (N (u0 + x0)), .int .u32 (N (u1 + x1)), .int .u32 (N (u2 + x2)), .int .u32 (N u3), .int .u32 (N u4), .int .u32 (N u5), .int .u32 (N u6), .int .u32 (N u7), r, z]) [], c⟩ =
    iter (ev Φ K b25i_0) [0, 139, 140] [20, 100000, 100009] k ⟨[(0, .ptr 100000 g 0), (139, .agg [.int .u32 (N x0), .int .u32 (N x1), .int .u32 (N x2), .int .u32 (N x3), .int .u32 (N x4), .int .u32 (N x5), .int .u32 (N x6), .int .u32 (N x7)]), (140, .int .i64 4)], HX b g2 (.arr 1 rows fz) g (.var [.int .u32 (N (u0 + x0)), .int .u32 (N (u1 + x1)), .int .u32 (N (u2 + x2)), .int .u32 (N (u3 + x3)), .int .u32 (N u4), .int .u32 (N u5), .int .u32 (N u6), .int .u32 (N u7), r, z]) [], c⟩ := by
  have w1 : IntKind.i64.wrap 4 = 4 := wrap_i64 _ (by omega) (by omega)
  cases b <;> (apply iter_norm; simp -implicitDefEqProofs [b25i_0, St.keep, HX, nmv, hg, hg2, w1, abin])
theorem stepA4 (Φ : Nat → Option FnF) (K : Nat) (b : Bool) (g2 g c k : Nat) (rows : List (List AV)) (fz : Bool) (off len : Nat) (m : Int) (u0 u1 u2 u3 u4 u5 u6 u7 x0 x1 x2 x3 x4 x5 x6 x7 : W) (hg : g < c) (hg2 : g2 < c) :
    let r : AV := .own (nmv b) g2 off len
    let z : AV := .int .u64 m
    iter (ev Φ K b25i_0) [0, 139, 140] [20, 100000, 100009] (k + 1) ⟨[(0, .ptr 100000 g 0), (139, .agg [.int .u32 (N x0), .int .u32 (N x1), .int .u32 (N x2), .int .u32 (N x3), .int .u32 (N x4), .int .u32 (N x5), .int .u32 (N x6), .int .u32 (N x7)]), (140, .int .i64 4)], HX b g2 (.arr 1 rows fz) g (.var [.int .u32 (N (u0 + x0)), .int .u32 (N (u1 + x1)), .int .u32 (N (u2 + x2)), .int .u32 (N (u3 + x3)), .int .u32 (N u4), .int .u32 (N u5), .int .u32 (N u6), .int .u32 (N u7), r, z]) [], c⟩ =
    iter (ev Φ K b25i_0) [0, 139, 140] [20, 100000, 100009] k ⟨[(0, .ptr 100000 g 0), (139, .agg [.int .u32 (N x0), .int .u32 (N x1), .int .u32 (N x2), .int .u32 (N x3), .int .u32 (N x4), .int .u32 (N x5), .int .u32 (N x6), .int .u32 (N x7)]), (140, .int .i64 5)], HX b g2 (.arr 1 rows fz) g (.var [.int .u32 (N (u0 + x0)), .int .u32 (N (u1 + x1)), .int .u32 (N (u2 + x2)), .int .u32 (N (u3 + x3)), .int .u32 (N (u4 + x4)), .int .u32 (N u5), .int .u32 (N u6), .int .u32 (N u7), r, z]) [], c⟩ := by
  have w1 : IntKind.i64.wrap 5 = 5 := wrap_i64 _ (by omega) (by omega)
  cases b <;> (apply iter_norm; simp -implicitDefEqProofs [b25i_0, St.keep, HX, nmv, hg, hg2, w1, abin])
theorem stepA5 (Φ : Nat → Option FnF) (K : Nat) (b : Bool) (g2 g c k : Nat) (rows : List (List AV)) (fz : Bool) (off len : Nat) (m : Int) (u0 u1 u2 u3 u4 u5 u6 u7 x0 x1 x2 x3 x4 x5 x6 x7 : W) (hg : g < c) (hg2 : g2 < c) :
    let r : AV := .own (nmv b) g2 off len
    let z : AV := .int .u64 m
    iter (ev Φ K b25i_0) [0, 139, 140] [20, 100000, 100009] (k + 1) ⟨[(0, .ptr 100000 g 0), (139, .agg [.int .u32 (N x0), .int .u32 (N x1), .int .u32 (N x2), .int .u32 (N x3), .int .u32 (N x4), .int .u32 (N x5), .int .u32 (N x6), .int .u32 (N x7)]), (140, .int .i64 5)], HX b g2 (.arr 1 rows fz) g (.var [.int .u32 (N (u0 + x0)), .int .u32 (N (u1 + x1)), .int .u32 (N (u2 + x2)), .int .u32 (N (u3 + x3)), .int .u32 (N (u4 + x4)), .int .u32 (N u5), .int .u32 (N u6), .int .u32 (N u7), r, z]) [], c⟩ =
    iter (ev Φ K b25i_0) [0, 139, 140] [20, 100000, 100009] k ⟨[(0, .ptr 100000 g 0), (139, .agg [.int .u32 (N x0), .int .u32 (N x1), .int .u32 (N x2), .int .u32 (N x3), .int .u32 (N x4), .int .u32 (N x5), .int .u32 (N x6), .int .u32 (N x7)]), (140, .int .i64 6)], HX b g2 (.arr 1 rows fz) g (.var [.int .u32 (N (u0 + x0)), .int .u32 (N (u1 + x1)), .int .u32 (N (u2 + x2)), .int .u32 (N (u3 + x3)), .int .u32 (N (u4 + x4)), .int .u32 (N (u5 + x5)), .int .u32 (N u6), .int .u32 (N u7), r, z]) [], c⟩ := by
  have w1 : IntKind.i64.wrap 6 = 6 := wrap_i64 _ (by omega) (by omega)
  cases b <;> (apply iter_norm; simp -implicitDefEqProofs [b25i_0, St.keep, HX, nmv, hg, hg2, w1, abin])
theorem stepA6 (Φ : Nat → Option FnF) (K : Nat) (b : Bool) (g2 g c k : Nat) (rows : List (List AV)) (fz : Bool) (off len : Nat) (m : Int) (u0 u1 u2 u3 u4 u5 u6 u7 x0 x1 x2 x3 x4 x5 x6 x7 : W) (hg : g < c) (hg2 : g2 < c) :
    let r : AV := .own (nmv b) g2 off len
    let z : AV := .int .u64 m
    iter (ev Φ K b25i_0) [0, 139, 140] [20, 100000, 100009] (k + 1) ⟨[(0, .ptr 100000 g 0), (139, .agg [.int .u32 (N x0), .int .u32 (N x1), .int .u32 (N x2), .int .u32 (N x3), .int .u32 (N x4), .int .u32 (N x5), .int .u32 (N x6), .int .u32 (N x7)]), (140, .int .i64 6)], HX b g2 (.arr 1 rows fz) g (.var [.int .u32 (N (u0 + x0)), .int .u32 (N (u1 + x1)), .int .u32 (N (u2 + x2)), .int .u32 (N (u3 + x3)), .int .u32 (N (u4 + x4)), .int .u32 (N (u5 + x5)), .int .u32 (N u6), .int .u32 (N u7), r, z]) [], c⟩ =
    iter (ev Φ K b25i_0) [0, 139, 140] [20, 100000, 100009] k ⟨[(0, .ptr 100000 g 0), (139, .agg [.int .u32 (N x0), .int .u32 (N x1), .int .u32 (N x2), .int .u32 (N x3), .int .u32 (N x4), .int .u32 (N x5), .int .u32 (N x6), .int .u32 (N x7)]), (140, .int .i64 7)], HX b g2 (.arr 1 rows fz) g (.var [.int .u32 (N (u0 + x0)), .int .u32 (N (u1 + x1)), .int .u32 (N (u2 + x2)), .int .u32 (N (u3 + x3)), .int .u32 (N (u4 + x4)), .int .u32 (N (u5 + x5)), .int .u32 (N (u6 + x6)), .int .u32 (N u7), r, z]) [], c⟩ := by
  have w1 : IntKind.i64.wrap 7 = 7 := wrap_i64 _ (by omega) (by omega)
  cases b <;> (apply iter_norm; simp -implicitDefEqProofs [b25i_0, St.keep, HX, nmv, hg, hg2, w1, abin])
theorem stepA7 (Φ : Nat → Option FnF) (K : Nat) (b : Bool) (g2 g c k : Nat) (rows : List (List AV)) (fz : Bool) (off len : Nat) (m : Int) (u0 u1 u2 u3 u4 u5 u6 u7 x0 x1 x2 x3 x4 x5 x6 x7 : W) (hg : g < c) (hg2 : g2 < c) :
    let r : AV := .own (nmv b) g2 off len
    let z : AV := .int .u64 m
    iter (ev Φ K b25i_0) [0, 139, 140] [20, 100000, 100009] (k + 1) ⟨[(0, .ptr 100000 g 0), (139, .agg [.int .u32 (N x0), .int .u32 (N x1), .int .u32 (N x2), .int .u32 (N x3), .int .u32 (N x4), .int .u32 (N x5), .int .u32 (N x6), .int .u32 (N x7)]), (140, .int .i64 7)], HX b g2 (.arr 1 rows fz) g (.var [.int .u32 (N (u0 + x0)), .int .u32 (N (u1 + x1)), .int .u32 (N (u2 + x2)), .int .u32 (N (u3 + x3)), .int .u32 (N (u4 + x4)), .int .u32 (N (u5 + x5)), .int .u32 (N (u6 + x6)), .int .u32 (N u7), r, z]) [], c⟩ =
    iter (ev Φ K b25i_0) [0, 139, 140] [20, 100000, 100009] k ⟨[(0, .ptr 100000 g 0), (139, .agg [.int .u32 (N x0), .int .u32 (N x1), .int .u32 (N x2), .int .u32 (N x3), .int .u32 (N x4), .int .u32 (N x5), .int .u32 (N x6), .int .u32 (N x7)]), (140, .int .i64 8)], HX b g2 (.arr 1 rows fz) g (.var [.int .u32 (N (u0 + x0)), .int .u32 (N (u1 + x1)), .int .u32 (N (u2 + x2)), .int .u32 (N (u3 + x3)), .int .u32 (N (u4 + x4)), .int .u32 (N (u5 + x5)), .int .u32 (N (u6 + x6)), .int .u32 (N (u7 + x7)), r, z]) [], c⟩ := by
  have w1 : IntKind.i64.wrap 8 = 8 := wrap_i64 _ (by omega) (by omega)
  cases b <;> (apply iter_norm; simp -implicitDefEqProofs [b25i_0, St.keep, HX, nmv, hg, hg2, w1, abin])
theorem loopA (Φ : Nat → Option FnF) (K : Nat) (b : Bool) (g2 g c k : Nat) (rows : List (List AV)) (fz : Bool) (off len : Nat) (m : Int) (u0 u1 u2 u3 u4 u5 u6 u7 x0 x1 x2 x3 x4 x5 x6 x7 : W) (hg : g < c) (hg2 : g2 < c) :
    iter (ev Φ K b25i_0) [0, 139, 140] [20, 100000, 100009] (k + 9) ⟨[(0, .ptr 100000 g 0), (139, .agg [.int .u32 (N x0), .int .u32 (N x1), .int .u32 (N x2), .int .u32 (N x3), .int .u32 (N x4), .int .u32 (N x5), .int .u32 (N x6), .int .u32 (N x7)]), (140, .int .i64 0)], HX b g2 (.arr 1 rows fz) g (.var [.int .u32 (N u0), .int .u32 (N u1), .int .u32 (N u2), .int .u32 (N u3), .int .u32 (N u4), .int .u32 (N u5), .int .u32 (N u6), .int .u32 (N u7), .own (nmv b) g2 off len, .int .u64 m]) [], c⟩ =
    some (.exit 4, ⟨[(0, .ptr 100000 g 0), (139, .agg [.int .u32 (N x0), .int .u32 (N x1), .int .u32 (N x2), .int .u32 (N x3), .int .u32 (N x4), .int .u32 (N x5), .int .u32 (N x6), .int .u32 (N x7)]), (140, .int .i64 8), (141, .bool false)], HX b g2 (.arr 1 rows fz) g (.var [.int .u32 (N (u0 + x0)), .int .u32 (N (u1 + x1)), .int .u32 (N (u2 + x2)), .int .u32 (N (u3 + x3)), .int .u32 (N (u4 + x4)), .int .u32 (N (u5 + x5)), .int .u32 (N (u6 + x6)), .int .u32 (N (u7 + x7)), .own (nmv b) g2 off len, .int .u64 m]) [], c⟩) := by
  rw [stepA0 Φ K b g2 g c (k + 8) rows fz off len m u0 u1 u2 u3 u4 u5 u6 u7 x0 x1 x2 x3 x4 x5 x6 x7 hg hg2]
  rw [stepA1 Φ K b g2 g c (k + 7) rows fz off len m u0 u1 u2 u3 u4 u5 u6 u7 x0 x1 x2 x3 x4 x5 x6 x7 hg hg2]
  rw [stepA2 Φ K b g2 g c (k + 6) rows fz off len m u0 u1 u2 u3 u4 u5 u6 u7 x0 x1 x2 x3 x4 x5 x6 x7 hg hg2]
  rw [stepA3 Φ K b g2 g c (k + 5) rows fz off len m u0 u1 u2 u3 u4 u5 u6 u7 x0 x1 x2 x3 x4 x5 x6 x7 hg hg2]
  rw [stepA4 Φ K b g2 g c (k + 4) rows fz off len m u0 u1 u2 u3 u4 u5 u6 u7 x0 x1 x2 x3 x4 x5 x6 x7 hg hg2]
  rw [stepA5 Φ K b g2 g c (k + 3) rows fz off len m u0 u1 u2 u3 u4 u5 u6 u7 x0 x1 x2 x3 x4 x5 x6 x7 hg hg2]
  rw [stepA6 Φ K b g2 g c (k + 2) rows fz off len m u0 u1 u2 u3 u4 u5 u6 u7 x0 x1 x2 x3 x4 x5 x6 x7 hg hg2]
  rw [stepA7 Φ K b g2 g c (k + 1) rows fz off len m u0 u1 u2 u3 u4 u5 u6 u7 x0 x1 x2 x3 x4 x5 x6 x7 hg hg2]
  rw [iter_succ]
  cases b <;> simp -implicitDefEqProofs [b25i_0, HX, nmv]
theorem cmp_0 (w : Nat → W) (v : V8) : cmp w 0 v = v := rfl
theorem round23 (n : Nat) (b : Bool) (g2 g c : Nat) (fz : Bool) (lb : List UInt8) (off len : Nat) (m : Int) (v : V8) (ho : off + 64 ≤ lb.length) (hg : g < c) (hg2 : g2 < c) :
    I (n + 3) 25 (HX b g2 (.arr 1 (byteRows lb) fz) g (.var (vc v ++ [.own (nmv b) g2 off len, .int .u64 m])) []) c [.ptr 100000 g 0, .own (nmv b) g2 off 64] =
    some (.tup [], HX b g2 (.arr 1 (byteRows lb) fz) g (.var (vc (blk (blkOf lb off) v) ++ [.own (nmv b) g2 off len, .int .u64 m])) [], c + 2) := by
  rw [i25]
  have lw := loopW (Q (n + 2)) 3000 b g2 g c (c + 1) fz lb off (.var (vc v ++ [.own (nmv b) g2 off len, .int .u64 m])) ho 64 0 3000 (by omega) (by omega)
  rw [LW0, LW64] at lw
  have lr := loopR n 3000 b g2 g c (c + 1) (c + 1 + 1) (.arr 1 (byteRows lb) fz) (.var (vc v ++ [.own (nmv b) g2 off len, .int .u64 m])) (blkOf lb off) v (by omega) (by omega) 64 0 3000 (by omega) (by omega)
  have hblk : blk (blkOf lb off) v = add8 v (cmp (wf (blkOf lb off)) 64 v) := rfl
  rw [hblk]
  rw [cmp_0] at lr
  generalize hV : (cmp (wf (blkOf lb off)) 64 v) = V at *
  generalize win (wf (blkOf lb off)) 64 = W64 at *
  generalize win (wf (blkOf lb off)) 0 = W0 at *
  obtain ⟨u0, u1, u2, u3, u4, u5, u6, u7⟩ := v
  obtain ⟨x0, x1, x2, x3, x4, x5, x6, x7⟩ := V
  have hgl : Globs.look 0 = some (ws KK) := by rw [← glob1_ws]; rfl
  have kl : (ws KK).length = 64 := by rw [ws_len, KK_len]
  have kt : (ws KK).take 64 = ws KK := List.take_of_length_le (by omega)
  have la := loopA (Q (n + 2)) 3000 b g2 g (c + 1 + 1) 2991 (byteRows lb) fz off len m u0 u1 u2 u3 u4 u5 u6 u7 x0 x1 x2 x3 x4 x5 x6 x7 (by omega) (by omega)
  have z1 : z43.length = 8 := rfl
  have z2 : z43.drop 8 = [] := rfl
  clear hV hblk
  cases b
  · simp [HX, nmv, vc] at lw lr la
    simp -implicitDefEqProofs [evInl, a25i, c25i, HX, nmv, vc]
    rw [iter_keep]; simp
    rw [lw]
    simp -implicitDefEqProofs [HX, nmv, vc, hgl, kl, kt, z1, z2]
    rw [iter_keep]; simp
    rw [lr]
    simp -implicitDefEqProofs [HX, nmv, vc]
    rw [iter_keep]; simp
    rw [la]
    simp [add8]
  · simp [HX, nmv, vc] at lw lr la
    simp -implicitDefEqProofs [evInl, a25i, c25i, HX, nmv, vc]
    rw [iter_keep]; simp
    rw [lw]
    simp -implicitDefEqProofs [HX, nmv, vc, hgl, kl, kt, z1, z2]
    rw [iter_keep]; simp
    rw [lr]
    simp -implicitDefEqProofs [HX, nmv, vc]
    rw [iter_keep]; simp
    rw [la]
    simp [add8]
end Go.Abs.Tryd

namespace Go.Abs.Tryd
open Go Go.Abs Go.Proofs Go.Abs.Sha
set_option maxHeartbeats 64000000
set_option maxRecDepth 100000
set_option linter.unusedSimpArgs false
set_option linter.unusedVariables false
theorem step19 (n K : Nat) (b : Bool) (g2 g c k : Nat) (fz : Bool) (lb : List UInt8) (off len : Nat) (m : Int) (v : V8) (ho : off + len = lb.length) (h64 : 64 ≤ len) (hg : g < c) (hg2 : g2 < c) :
    iter (ev (Q (n + 3)) K b19_0) [0] [20, 100000, 100009] (k + 1) ⟨[(0, .ptr 100000 g 0)], HX b g2 (.arr 1 (byteRows lb) fz) g (.var (vc v ++ [.own (nmv b) g2 off len, .int .u64 m])) [], c⟩ =
    iter (ev (Q (n + 3)) K b19_0) [0] [20, 100000, 100009] k ⟨[(0, .ptr 100000 g 0)], HX b g2 (.arr 1 (byteRows lb) fz) g (.var (vc (blk (blkOf lb off) v) ++ [.own (nmv b) g2 (off + 64) (len - 64), .int .u64 m])) [], c + 2⟩ := by
  have hr := round23 n b g2 g c fz lb off len m v (by omega) hg hg2
  generalize blk (blkOf lb off) v = V at *
  obtain ⟨u0, u1, u2, u3, u4, u5, u6, u7⟩ := v
  obtain ⟨x0, x1, x2, x3, x4, x5, x6, x7⟩ := V
  have rl := rows_len lb
  have c1 : (64 : Int) ≤ (len : Int) := by omega
  have c2 : 64 ≤ lb.length - off := by omega
  have c2' : (64 : Int) ≤ ((lb.length - off : Nat) : Int) := by omega
  have c3 : off + 64 ≤ lb.length := by omega
  have c4 : off + len ≤ lb.length := by omega
  cases b
  · apply iter_norm
    simp [HX, nmv, vc] at hr
    simp -implicitDefEqProofs [b19_0, St.keep, HX, nmv, vc, rl, abin, c1, c2, c2', c3, c4, h64, q25, hr]
  · apply iter_norm
    simp [HX, nmv, vc] at hr
    simp -implicitDefEqProofs [b19_0, St.keep, HX, nmv, vc, rl, abin, c1, c2, c2', c3, c4, h64, q25, hr]
theorem loop19 (n K : Nat) (b : Bool) (g2 g : Nat) (fz : Bool) (lb : List UInt8) (m : Int) : ∀ (d off len c k : Nat) (v : V8), len / 64 = d → d < k → off + len = lb.length → g < c → g2 < c →
    ∃ e off' len' c', iter (ev (Q (n + 3)) K b19_0) [0] [20, 100000, 100009] k ⟨[(0, .ptr 100000 g 0)], HX b g2 (.arr 1 (byteRows lb) fz) g (.var (vc v ++ [.own (nmv b) g2 off len, .int .u64 m])) [], c⟩ =
      some (.exit 0, ⟨e, HX b g2 (.arr 1 (byteRows lb) fz) g (.var (vc (absorb (lb.drop off) v).1 ++ [.own (nmv b) g2 off' len', .int .u64 m])) [], c'⟩) ∧ off' + len' = lb.length ∧ (absorb (lb.drop off) v).2 = lb.drop off'
  | 0, off, len, c, 0, v, hd, hk, ho, hg, hg2 => by omega
  | 0, off, len, c, k + 1, v, hd, hk, ho, hg, hg2 => by
    have hs : (lb.drop off).length < 64 := by rw [List.length_drop]; omega
    rw [absorb_short v hs]
    obtain ⟨u0, u1, u2, u3, u4, u5, u6, u7⟩ := v
    have c1 : ¬ (64 : Int) ≤ (len : Int) := by omega
    have : ∃ e, iter (ev (Q (n + 3)) K b19_0) [0] [20, 100000, 100009] (k + 1) ⟨[(0, .ptr 100000 g 0)], HX b g2 (.arr 1 (byteRows lb) fz) g (.var (vc ⟨u0, u1, u2, u3, u4, u5, u6, u7⟩ ++ [.own (nmv b) g2 off len, .int .u64 m])) [], c⟩ =
      some (.exit 0, ⟨e, HX b g2 (.arr 1 (byteRows lb) fz) g (.var (vc ⟨u0, u1, u2, u3, u4, u5, u6, u7⟩ ++ [.own (nmv b) g2 off len, .int .u64 m])) [], c⟩) := by
      rw [iter_succ]
      cases b <;> simp -implicitDefEqProofs [b19_0, HX, nmv, vc, abin, c1]
    obtain ⟨e, he⟩ := this
    exact ⟨e, off, len, c, he, ho, rfl⟩
  | d + 1, off, len, c, 0, v, hd, hk, ho, hg, hg2 => by omega
  | d + 1, off, len, c, k + 1, v, hd, hk, ho, hg, hg2 => by
    rw [step19 n K b g2 g c k fz lb off len m v ho (by omega) hg hg2]
    have hl : 64 ≤ (lb.drop off).length := by rw [List.length_drop]; omega
    rw [absorb_long v hl, List.drop_drop]
    exact loop19 n K b g2 g fz lb m d (off + 64) (len - 64) (c + 2) k _ (by omega) (by omega) (by omega) (by omega) (by omega)
/-- what lies in rest -/
inductive Rst : AV → List UInt8 → Prop
  | nil : Rst .nilS []
  | fr (l : List UInt8) : Rst (.fr 1 (byteRows l)) l
theorem take19 (n : Nat) (r : AV) (l p : List UInt8) (m : Int) (v : V8) (R : Rst r l) (h : l.length + p.length ≤ 150000) :
    ∃ r', E (n + 4) 19 [.pv (vc v ++ [r, .int .u64 m]), .str ⟨p.toArray⟩] = some (.tup [], [vc (absorb (l ++ p) v).1 ++ [r', .int .u64 (IntKind.u64.wrap (m + IntKind.u64.wrap p.length))]]) ∧ Rst r' (absorb (l ++ p) v).2 := by
  rw [e19]
  have sz : (⟨p.toArray⟩ : ByteArray).size = p.length := by simp [ByteArray.size]
  generalize hM : IntKind.u64.wrap (m + IntKind.u64.wrap p.length) = M
  cases R with
  | nil =>
    cases p with
    | nil =>
      refine ⟨.nilS, ?_, ?_⟩
      · rw [show ([] : List UInt8) ++ [] = [] from rfl, absorb_short v (by simp)]
        obtain ⟨u0, u1, u2, u3, u4, u5, u6, u7⟩ := v
        simp at hM
        simp -implicitDefEqProofs [a19, c19, vc, abin, aappend, byteRows, iter_succ, b19_0, hM]
      · rw [show ([] : List UInt8) ++ [] = [] from rfl, absorb_short v (by simp)]; exact .nil
    | cons x p =>
      rw [List.nil_append]
      obtain ⟨e, off', len', c', hl, ho, ha⟩ := loop19 n 3000 true 1 0 false (x :: p) M ((p.length + 1) / 64) 0 (p.length + 1) 2 3000 v rfl (by simp at h; omega) (by simp) (by omega) (by omega)
      rw [List.drop_zero] at hl ha
      refine ⟨.fr 1 (byteRows ((x :: p).drop off')), ?_, by rw [ha]; exact .fr _⟩
      have rl := rows_len (x :: p)
      have hb : byteRows (x :: p) = [.int .u8 x.toNat] :: byteRows p := rfl
      have h2 : p.length ≤ 17592186044415 := by simp at h; omega
      have lp := rows_len p
      have ht : (byteRows ((x :: p).drop off')).take len' = byteRows ((x :: p).drop off') := List.take_of_length_le (by rw [rows_len, List.length_drop]; omega)
      rw [← rows_drop] at ht ⊢
      have hle : off' + len' ≤ (byteRows (x :: p)).length := by omega
      generalize (absorb (x :: p) v).1 = V at *
      obtain ⟨u0, u1, u2, u3, u4, u5, u6, u7⟩ := v
      obtain ⟨x0, x1, x2, x3, x4, x5, x6, x7⟩ := V
      simp [HX, nmv, vc] at hl
      have hM' : IntKind.u64.wrap (m + IntKind.u64.wrap ((p.length : Int) + 1)) = M := by rw [← hM]; simp
      have e1 : (⟨(x :: p).toArray⟩ : ByteArray).data.toList = x :: p := rfl
      simp -implicitDefEqProofs [a19, c19, vc, abin, aappend, sz, hM', hb, lp, maxBytes, h2]
      rw [← hb, iter_keep]
      simp
      rw [hl]
      simp -implicitDefEqProofs [hle, ht]
  | fr =>
    obtain ⟨e, off', len', c', hl, ho, ha⟩ := loop19 n 3000 false 2 1 false (l ++ p) M ((l.length + p.length) / 64) 0 (l.length + p.length) 3 3000 v rfl (by omega) (by simp) (by omega) (by omega)
    rw [List.drop_zero] at hl ha
    refine ⟨.fr 1 (byteRows ((l ++ p).drop off')), ?_, by rw [ha]; exact .fr _⟩
    have rl := rows_len l
    have rp := rows_len p
    have rlp := rows_len (l ++ p)
    rw [List.length_append] at ho rlp
    have ht : (byteRows ((l ++ p).drop off')).take len' = byteRows ((l ++ p).drop off') := List.take_of_length_le (by rw [rows_len, List.length_drop, List.length_append]; omega)
    rw [← rows_drop] at ht ⊢
    have hle : off' + len' ≤ (byteRows (l ++ p)).length := by omega
    have hb := rows_append l p
    have tk : (byteRows l).take l.length = byteRows l := List.take_of_length_le (by omega)
    have h2 : l.length + p.length ≤ 17592186044416 := by omega
    generalize (absorb (l ++ p) v).1 = V at *
    obtain ⟨u0, u1, u2, u3, u4, u5, u6, u7⟩ := v
    obtain ⟨x0, x1, x2, x3, x4, x5, x6, x7⟩ := V
    simp [HX, nmv, vc] at hl
    have e1 : (⟨p.toArray⟩ : ByteArray).data.toList = p := rfl
    have h3 : l.length + p.length ≤ l.length ↔ p = [] := by
      constructor
      · intro h; exact List.eq_nil_of_length_eq_zero (by omega)
      · rintro rfl; simp
    by_cases hp : p = []
    · subst hp
      simp at hM hb hl hle ht rlp
      simp -implicitDefEqProofs [a19, c19, vc, abin, aappend, hM, rl, rp, maxBytes, tk, show byteRows [] = [] from rfl, show l.length ≤ 17592186044416 by omega]
      rw [iter_keep]
      simp
      rw [hl]
      simp -implicitDefEqProofs [hle, ht]
    · simp -implicitDefEqProofs [a19, c19, vc, abin, aappend, hM, sz, rl, rp, maxBytes, tk, h2, h3, hp]
      rw [← hb, iter_keep]
      simp
      rw [hl]
      simp -implicitDefEqProofs [hle, ht]
end Go.Abs.Tryd

namespace Go.Abs.Tryd
open Go Go.Abs Go.Proofs Go.Abs.Sha
set_option maxHeartbeats 64000000
set_option maxRecDepth 100000
set_option linter.unusedSimpArgs false
set_option linter.unusedVariables false
theorem begin18 (n : Nat) : E (n + 1) 18 [] = some (.agg (vc iv ++ [.nilS, .int .u64 0]), []) := by kernel_rfl
/-- what lies in rest, in the caller's memory -/
inductive R3 (c : Nat) : AV → List UInt8 → AH → Prop
  | nil : R3 c .nilS [] []
  | own (l : List UInt8) (g : Nat) (hg : g < c) : R3 c (.own 1003008 g 0 l.length) l [⟨1003008, g, .arr 1 (byteRows l) false⟩]
def strRows (ps : List (List UInt8)) : List (List AV) := ps.map fun p => [.str ⟨p.toArray⟩]
theorem strRows_at {ps : List (List UInt8)} {i : Nat} (h : i < ps.length) : (strRows ps)[i]? = some [.str ⟨(ps[i]).toArray⟩] := by simp [strRows, h]
theorem strRows_len (ps) : (strRows ps).length = ps.length := by simp [strRows]
theorem stepP (n K : Nat) (g2 g3 c k : Nat) (x : Bool) (ps : List (List UInt8)) (i : Nat) (v : V8) (r : AV) (l : List UInt8) (h : AH) (m : Nat) (R : R3 c r l h) (hi : i < ps.length) (hN : ps.length < 3000) (hg2 : g2 < c) (hg3 : g3 < c)
    (hl : l.length < 64) (hp : (ps[i]).length ≤ 100000) (hm : m ≤ 1000000000000) :
    ∃ r' h' c', iter (ev (Q (n + 4)) K b8_2) [2, 3, 12, 13, 14] [2, 3, 12008, 100000, 1003008] (k + 1) ⟨[(2, .ptr 2 g2 0), (3, .ptr 3 g3 0), (12, .ro x 1 (strRows ps)), (13, .int .i64 ps.length), (14, .int .i64 i)], ⟨2, g2, .var z25⟩ :: ⟨3, g3, .var (vc v ++ [r, .int .u64 m])⟩ :: h, c⟩ =
    iter (ev (Q (n + 4)) K b8_2) [2, 3, 12, 13, 14] [2, 3, 12008, 100000, 1003008] k ⟨[(2, .ptr 2 g2 0), (3, .ptr 3 g3 0), (12, .ro x 1 (strRows ps)), (13, .int .i64 ps.length), (14, .int .i64 (i + 1 : Nat))], ⟨2, g2, .var z25⟩ :: ⟨3, g3, .var (vc (absorb (l ++ ps[i]) v).1 ++ [r', .int .u64 (m + (ps[i]).length : Nat)])⟩ :: h', c'⟩ ∧ R3 c' r' (absorb (l ++ ps[i]) v).2 h' ∧ c ≤ c' := by
  have h1 : (i : Int) < (ps.length : Int) := by omega
  have w1 : IntKind.i64.wrap ((i : Int) + 1) = (i : Int) + 1 := wrap_i64 _ (by omega) (by omega)
  have sr := strRows_at hi
  have sr2 := (List.getElem?_eq_some_iff.1 sr).2
  have sl := strRows_len ps
  generalize ps[i] = p at *
  have wm : IntKind.u64.wrap ((m : Int) + IntKind.u64.wrap p.length) = ((m + p.length : Nat) : Int) := by rw [wrap_u64, wrap_u64]; omega
  cases R with
  | nil =>
    obtain ⟨r', ht, R'⟩ := take19 n .nilS [] p m v .nil (by simp; omega)
    rw [wm] at ht
    generalize absorb ([] ++ p) v = A at *
    obtain ⟨V, l'⟩ := A
    simp only at ht R'
    obtain ⟨u0, u1, u2, u3, u4, u5, u6, u7⟩ := v
    obtain ⟨x0, x1, x2, x3, x4, x5, x6, x7⟩ := V
    simp only [vc, List.cons_append, List.nil_append] at ht
    cases R' with
    | nil =>
      refine ⟨.nilS, [], c, ?_, .nil, Nat.le_refl _⟩
      apply iter_norm
      simp -implicitDefEqProofs [b8_2, St.keep, h1, hi, w1, sr, sr2, sl, vc, abin, q19, ht, hg2, hg3]
    | fr =>
      refine ⟨.own 1003008 c 0 l'.length, [⟨1003008, c, .arr 1 (byteRows l') false⟩], c + 1, ?_, .own _ _ (by omega), by omega⟩
      apply iter_norm
      simp -implicitDefEqProofs [b8_2, St.keep, h1, hi, w1, sr, sr2, sl, vc, abin, q19, ht, hg2, hg3, rows_len]
  | own _ g hg =>
    obtain ⟨r', ht, R'⟩ := take19 n (.fr 1 (byteRows l)) l p m v (.fr _) (by omega)
    rw [wm] at ht
    generalize absorb (l ++ p) v = A at *
    obtain ⟨V, l'⟩ := A
    simp only at ht R'
    obtain ⟨u0, u1, u2, u3, u4, u5, u6, u7⟩ := v
    obtain ⟨x0, x1, x2, x3, x4, x5, x6, x7⟩ := V
    simp only [vc, List.cons_append, List.nil_append] at ht
    have rl := rows_len l
    have tk : (byteRows l).take l.length = byteRows l := List.take_of_length_le (by omega)
    cases R' with
    | nil =>
      refine ⟨.nilS, [], c, ?_, .nil, Nat.le_refl _⟩
      apply iter_norm
      simp -implicitDefEqProofs [b8_2, St.keep, h1, hi, w1, sr, sr2, sl, vc, abin, q19, ht, hg2, hg3, rl, tk]
    | fr =>
      refine ⟨.own 1003008 c 0 l'.length, [⟨1003008, c, .arr 1 (byteRows l') false⟩], c + 1, ?_, .own _ _ (by omega), by omega⟩
      apply iter_norm
      simp -implicitDefEqProofs [b8_2, St.keep, h1, hi, w1, sr, sr2, sl, vc, abin, q19, ht, hg2, hg3, rl, tk, rows_len]
theorem loopP (n K : Nat) (g2 g3 : Nat) (x : Bool) (ps : List (List UInt8)) (hN : ps.length < 3000) (hT : ps.flatten.length ≤ 100000) : ∀ (d i k c : Nat) (v : V8) (r : AV) (l : List UInt8) (h : AH), i + d = ps.length → d < k → R3 c r l h → g2 < c → g3 < c → absorb ((ps.take i).flatten) iv = (v, l) →
    ∃ r' h' c', iter (ev (Q (n + 4)) K b8_2) [2, 3, 12, 13, 14] [2, 3, 12008, 100000, 1003008] k ⟨[(2, .ptr 2 g2 0), (3, .ptr 3 g3 0), (12, .ro x 1 (strRows ps)), (13, .int .i64 ps.length), (14, .int .i64 i)], ⟨2, g2, .var z25⟩ :: ⟨3, g3, .var (vc v ++ [r, .int .u64 ((ps.take i).flatten.length : Nat)])⟩ :: h, c⟩ =
      some (.exit 0, ⟨[(2, .ptr 2 g2 0), (3, .ptr 3 g3 0), (12, .ro x 1 (strRows ps)), (13, .int .i64 ps.length), (14, .int .i64 ps.length), (15, .bool false)], ⟨2, g2, .var z25⟩ :: ⟨3, g3, .var (vc (absorb ps.flatten iv).1 ++ [r', .int .u64 (ps.flatten.length : Nat)])⟩ :: h', c'⟩) ∧ R3 c' r' (absorb ps.flatten iv).2 h' ∧ c ≤ c'
  | 0, i, 0, c, v, r, l, h, hi, hk, R, hg2, hg3, ha => by omega
  | 0, i, k + 1, c, v, r, l, h, hi, hk, R, hg2, hg3, ha => by
    obtain rfl : i = ps.length := by omega
    rw [List.take_of_length_le (Nat.le_refl _)] at ha ⊢
    rw [ha]
    refine ⟨r, h, c, ?_, R, Nat.le_refl _⟩
    rw [iter_succ]
    obtain ⟨u0, u1, u2, u3, u4, u5, u6, u7⟩ := v
    cases R <;> simp -implicitDefEqProofs [b8_2, vc]
  | d + 1, i, 0, c, v, r, l, h, hi, hk, R, hg2, hg3, ha => by omega
  | d + 1, i, k + 1, c, v, r, l, h, hi, hk, R, hg2, hg3, ha => by
    have hi' : i < ps.length := by omega
    have e1 : ps.take (i + 1) = ps.take i ++ [ps[i]] := by rw [List.take_add_one, List.getElem?_eq_getElem hi']; rfl
    have e2 : (ps.take (i + 1)).flatten = (ps.take i).flatten ++ ps[i] := by rw [e1, List.flatten_append]; simp only [List.flatten_cons, List.flatten_nil, List.append_nil]
    have e3 : ps.flatten = (ps.take (i + 1)).flatten ++ (ps.drop (i + 1)).flatten := by rw [← List.flatten_append, List.take_append_drop]
    have e4 : (ps.take i).flatten.length + ps[i].length ≤ 100000 := by
      have := congrArg List.length e3
      rw [List.length_append, e2, List.length_append] at this
      omega
    have hl : l.length < 64 := by
      have := absorb_rest _ (ps.take i).flatten iv (Nat.le_refl _)
      rw [ha] at this
      simp only at this
      omega
    obtain ⟨r1, h1, c1, s1, R1, hc⟩ := stepP n K g2 g3 c k x ps i v r l h (ps.take i).flatten.length R hi' hN hg2 hg3 hl (by omega) (by omega)
    rw [s1]
    have ea : absorb ((ps.take (i + 1)).flatten) iv = absorb (l ++ ps[i]) v := by
      rw [e2, absorb_append _ _ _ _ (Nat.le_refl _), ha]
    have el : (ps.take i).flatten.length + ps[i].length = (ps.take (i + 1)).flatten.length := by rw [e2, List.length_append]
    rw [el]
    obtain ⟨r2, h2, c2, s2, R2, hc2⟩ := loopP n K g2 g3 x ps hN hT d (i + 1) k c1 (absorb (l ++ ps[i]) v).1 r1 (absorb (l ++ ps[i]) v).2 h1 (by omega) (by omega) R1 (by omega) (by omega) ea
    exact ⟨r2, h2, c2, s2, R2, by omega⟩
end Go.Abs.Tryd

namespace Go.Abs.Tryd
open Go Go.Abs Go.Proofs Go.Abs.Sha
set_option maxHeartbeats 64000000
set_option maxRecDepth 100000
set_option linter.unusedSimpArgs false
set_option linter.unusedVariables false
theorem byte_shr (a e : Nat) : IntKind.u8.wrap (((a / 2 ^ e : Nat)) : Int) = (((UInt8.ofNat (a / 2 ^ e)).toNat : Nat) : Int) := by
  rw [wrap_u8]; simp
theorem fdiv_pow (a e : Nat) : (a : Int).fdiv (2 ^ e) = ((a / 2 ^ e : Nat) : Int) := by
  rw [Int.fdiv_eq_ediv_of_nonneg _ (Int.le_of_lt (Int.pow_pos (by decide)))]
  simp
theorem stepB (Φ : Nat → Option FnF) (K : Nat) (g2 g3 c k : Nat) (A B : Blk) (h : AH) (r : AV) (l : List UInt8) (R : R3 c r l h) (i x : Nat) (hi : i < 8) (P : List UInt8) (q g : Nat) (hP : P.length ≤ 100) :
    ∃ g' c', iter (ev Φ K b8_1) [2, 3, 6, 7, 33] [2, 3, 30, 44, 12008, 1003008] (k + 1) ⟨[(2, .ptr 2 g2 0), (3, .ptr 3 g3 0), (6, .int .u64 x), (7, .own 30 g 0 P.length), (33, .int .i64 i)], ⟨2, g2, A⟩ :: ⟨3, g3, B⟩ :: ⟨30, g, .arr 1 (byteRows (P ++ List.replicate (q + 1) 0)) false⟩ :: h, c⟩ =
    iter (ev Φ K b8_1) [2, 3, 6, 7, 33] [2, 3, 30, 44, 12008, 1003008] k ⟨[(2, .ptr 2 g2 0), (3, .ptr 3 g3 0), (6, .int .u64 x), (7, .own 30 g' 0 (P ++ [UInt8.ofNat (x / 2 ^ (56 - 8 * i))]).length), (33, .int .i64 (i + 1 : Nat))], ⟨2, g2, A⟩ :: ⟨3, g3, B⟩ :: ⟨30, g', .arr 1 (byteRows ((P ++ [UInt8.ofNat (x / 2 ^ (56 - 8 * i))]) ++ List.replicate q 0)) false⟩ :: h, c'⟩ ∧ c ≤ c' := by
  have h1 : (i : Int) < 8 := by omega
  have w1 : IntKind.i64.wrap ((i : Int) + 1) = (i : Int) + 1 := wrap_i64 _ (by omega) (by omega)
  have w2 : IntKind.i64.wrap (8 * (i : Int)) = 8 * (i : Int) := wrap_i64 _ (by omega) (by omega)
  have w3 : IntKind.i64.wrap (56 - 8 * (i : Int)) = ((56 - 8 * i : Nat) : Int) := by rw [wrap_i64 _ (by omega) (by omega)]; omega
  have m1 : min (56 - 8 * i) 64 = 56 - 8 * i := by omega
  generalize 56 - 8 * i = e at *
  have n1 : ¬ (e : Int) < 0 := by omega
  have f1 := fdiv_pow x e
  have b1 := byte_shr x e
  have tk : (byteRows (P ++ List.replicate (q + 1) 0)).take P.length = byteRows P := by rw [rows_take]; simp
  have dr : (byteRows (P ++ List.replicate (q + 1) 0)).drop (P.length + 1) = byteRows (List.replicate q 0) := by
    rw [rows_drop, List.drop_append, List.drop_eq_nil_of_le (by omega)]; simp
  have ln : (byteRows (P ++ List.replicate (q + 1) 0)).length = P.length + (q + 1) := by rw [rows_len]; simp
  have ea : byteRows ((P ++ [UInt8.ofNat (x / 2 ^ e)]) ++ List.replicate q 0) = byteRows P ++ [AV.int .u8 ((UInt8.ofNat (x / 2 ^ e)).toNat : Nat)] :: byteRows (List.replicate q 0) := by
    simp [byteRows]
  rw [ea]
  generalize byteRows (P ++ List.replicate (q + 1) 0) = M at *
  have l1 : P.length ≤ M.length := by omega
  have l2 : P.length + 1 ≤ M.length := by omega
  have l3 : P.length + 1 ≤ 17592186044416 := by omega
  have l4 : P.length ≤ 17592186044415 := by omega
  refine ⟨c + 1, c + 2, ?_, by omega⟩
  apply iter_norm
  cases R <;> simp -implicitDefEqProofs [b8_1, St.keep, h1, hi, w1, w2, w3, m1, n1, f1, b1, tk, dr, aappend, maxBytes, abin, l1, l2, l3, l4]
  all_goals exact wrap_u8 _
theorem loopB (Φ : Nat → Option FnF) (K : Nat) (g2 g3 : Nat) (A B : Blk) (h : AH) (r : AV) (l : List UInt8) (x : Nat) (P : List UInt8) (hP : P.length ≤ 90) : ∀ (d i k g c : Nat), i + d = 8 → d < k → R3 c r l h →
    ∃ g' c', iter (ev Φ K b8_1) [2, 3, 6, 7, 33] [2, 3, 30, 44, 12008, 1003008] k ⟨[(2, .ptr 2 g2 0), (3, .ptr 3 g3 0), (6, .int .u64 x), (7, .own 30 g 0 (P ++ (be8 x).take i).length), (33, .int .i64 i)], ⟨2, g2, A⟩ :: ⟨3, g3, B⟩ :: ⟨30, g, .arr 1 (byteRows ((P ++ (be8 x).take i) ++ List.replicate (128 - P.length - i) 0)) false⟩ :: h, c⟩ =
      some (.exit 2, ⟨[(2, .ptr 2 g2 0), (3, .ptr 3 g3 0), (6, .int .u64 x), (7, .own 30 g' 0 (P ++ be8 x).length), (33, .int .i64 8), (34, .bool false)], ⟨2, g2, A⟩ :: ⟨3, g3, B⟩ :: ⟨30, g', .arr 1 (byteRows ((P ++ be8 x) ++ List.replicate (120 - P.length) 0)) false⟩ :: h, c'⟩) ∧ R3 c' r l h ∧ c ≤ c'
  | 0, i, 0, g, c, hi, hk, R => by omega
  | 0, i, k + 1, g, c, hi, hk, R => by
    obtain rfl : i = 8 := by omega
    rw [List.take_of_length_le (l := be8 x) (by rw [be8_len]; omega), show 128 - P.length - 8 = 120 - P.length by omega]
    refine ⟨g, c, ?_, R, Nat.le_refl _⟩
    rw [iter_succ]
    cases R <;> simp -implicitDefEqProofs [b8_1]
  | d + 1, i, 0, g, c, hi, hk, R => by omega
  | d + 1, i, k + 1, g, c, hi, hk, R => by
    have hb : i < (be8 x).length := by rw [be8_len]; omega
    have e1 : (be8 x).take (i + 1) = (be8 x).take i ++ [UInt8.ofNat (x / 2 ^ (56 - 8 * i))] := by
      rw [List.take_add_one, List.getElem?_eq_getElem hb]
      simp [be8]
    obtain ⟨g1, c1, s1, hc⟩ := stepB Φ K g2 g3 c k A B h r l R i x (by omega) (P ++ (be8 x).take i) (128 - P.length - i - 1) g (by rw [List.length_append, List.length_take, be8_len]; omega)
    rw [show 128 - P.length - i - 1 + 1 = 128 - P.length - i by omega] at s1
    rw [s1]
    rw [List.append_assoc, ← e1]
    have R1 : R3 c1 r l h := by
      cases R with
      | nil => exact .nil
      | own _ g hg => exact .own _ _ (by omega)
    obtain ⟨g2', c2, s2, R2, hc2⟩ := loopB Φ K g2 g3 A B h r l x P hP d (i + 1) k g1 c1 (by omega) (by omega) R1
    rw [show 128 - P.length - (i + 1) = 128 - P.length - i - 1 by omega] at s2
    exact ⟨g2', c2, s2, R2, by omega⟩
def u8s (t : List UInt8) : List AV := t.map fun b => .int .u8 b.toNat
theorem u8s_len (ds : List UInt8) : (u8s ds).length = ds.length := by simp [u8s]
theorem u8s_plain : ∀ ds : List UInt8, (u8s ds).all AV.plain = true
  | [] => rfl
  | b :: r => by
    have : u8s (b :: r) = .int .u8 b.toNat :: u8s r := rfl
    rw [this, List.all_cons, u8s_plain r]; rfl
def bs (n : Nat) (f : Nat → UInt8) : List UInt8 := (List.range n).map f
@[simp] theorem bs_len (n f) : (bs n f).length = n := by simp [bs]
theorem bs_put {n i : Nat} {f g : Nat → UInt8} {x : UInt8} (h : i < n) (h1 : g i = x) (h2 : ∀ j, j < n → j ≠ i → g j = f j) :
    (u8s (bs n f)).take i ++ AV.int .u8 ((x.toNat : Nat) : Int) :: (u8s (bs n f)).drop (i + 1) = u8s (bs n g) := by
  apply List.ext_getElem?
  intro j
  by_cases e : j < i
  · rw [List.getElem?_append_left (by simp [u8s]; omega)]
    simp [u8s, bs, e, show j < n by omega, h2 j (by omega) (by omega)]
  · rw [List.getElem?_append_right (by simp [u8s]; omega)]
    have ln : (List.take i (u8s (bs n f))).length = i := by simp [u8s]; omega
    rw [ln]
    by_cases e2 : j = i
    · subst e2; simp [u8s, bs, h, h1]
    · obtain ⟨d, rfl⟩ : ∃ d, j = i + (d + 1) := ⟨j - i - 1, by omega⟩
      rw [show i + (d + 1) - i = d + 1 by omega, List.getElem?_cons_succ]
      by_cases hj : i + (d + 1) < n
      · simp [u8s, bs, show i + 1 + d < n by omega, hj, ← h2 (i + (d + 1)) hj (by omega)]
        rw [show i + 1 + d = i + (d + 1) by omega]
        rw [h2 (i + (d + 1)) hj (by omega)]
      · simp [u8s, bs, hj, show ¬ i + 1 + d < n by omega]
end Go.Abs.Tryd

namespace Go.Abs.Tryd
open Go Go.Abs Go.Proofs Go.Abs.Sha
set_option maxHeartbeats 64000000
set_option maxRecDepth 100000
set_option linter.unusedSimpArgs false
set_option linter.unusedVariables false
/-- a digest's byte -/
def dgb (v : V8) (i : Nat) : UInt8 := UInt8.ofNat ((v.list.getD (i / 4) 0).toNat / 2 ^ (24 - 8 * (i % 4)))
theorem dg_bs (v : V8) : dg v = bs 32 (dgb v) := rfl
def dgn (v : V8) (i : Nat) : List UInt8 := bs 32 fun j => if j < i then dgb v j else 0
theorem dgn0 (v : V8) : u8s (dgn v 0) = z25 := by
  have : dgn v 0 = List.replicate 32 0 := by simp [dgn, bs, List.map_const']
  rw [this]
  exact (by kernel_rfl : u8s (List.replicate 32 0) = z25)
theorem dgn32 (v : V8) : dgn v 32 = dg v := by
  rw [dg_bs]; unfold dgn bs
  apply List.map_congr_left
  intro j hj
  rw [if_pos (by simpa using hj)]
theorem vc_list (v : V8) : vc v = ws v.list := rfl
theorem stepD (Φ : Nat → Option FnF) (K : Nat) (g2 g3 g9 c k : Nat) (A : Blk) (C : List AV) (h : AH) (r : AV) (l : List UInt8) (R : R3 c r l h) (i : Nat) (hi : i < 32) (v : V8) (hC : ∀ j, j < 8 → C[j]? = some (.int .u32 (N (v.list.getD j 0)))) :
    iter (ev Φ K b8_0) [2, 3, 9, 49] [2, 3, 9, 12008, 1003008] (k + 1) ⟨[(2, .ptr 2 g2 0), (3, .ptr 3 g3 0), (9, .ptr 9 g9 0), (49, .int .i64 i)], ⟨2, g2, A⟩ :: ⟨3, g3, .var C⟩ :: ⟨9, g9, .var (u8s (dgn v i))⟩ :: h, c⟩ =
    iter (ev Φ K b8_0) [2, 3, 9, 49] [2, 3, 9, 12008, 1003008] k ⟨[(2, .ptr 2 g2 0), (3, .ptr 3 g3 0), (9, .ptr 9 g9 0), (49, .int .i64 (i + 1 : Nat))], ⟨2, g2, A⟩ :: ⟨3, g3, .var C⟩ :: ⟨9, g9, .var (u8s (dgn v (i + 1)))⟩ :: h, c⟩ := by
  have h1 : (i : Int) < 32 := by omega
  have w1 : IntKind.i64.wrap ((i : Int) + 1) = (i : Int) + 1 := wrap_i64 _ (by omega) (by omega)
  have q1 := quo4 i (by omega)
  have j1 : i / 4 < 8 := by omega
  have hc := hC (i / 4) j1
  have hc2 := (List.getElem?_eq_some_iff.1 hc).2
  have hc3 := (List.getElem?_eq_some_iff.1 hc).1
  have z1 : 0 ≤ ((i / 4 : Nat) : Int) := by omega
  have z2 : ((i / 4 : Nat) : Int).toNat = i / 4 := by omega
  have e4 : (i : Int).tmod 4 = ((i % 4 : Nat) : Int) := by rw [Int.tmod_eq_emod_of_nonneg (by omega)]; omega
  have w2 : IntKind.i64.wrap (((i % 4 : Nat) : Int) * 8) = ((i % 4 : Nat) : Int) * 8 := wrap_i64 _ (by omega) (by omega)
  have w3 : IntKind.i64.wrap (24 - ((i % 4 : Nat) : Int) * 8) = ((24 - 8 * (i % 4) : Nat) : Int) := by rw [wrap_i64 _ (by omega) (by omega)]; omega
  have m1 : min (24 - 8 * (i % 4)) 32 = 24 - 8 * (i % 4) := by omega
  have n1 : ¬ ((24 - 8 * (i % 4) : Nat) : Int) < 0 := by omega
  have hb : dgb v i = UInt8.ofNat ((v.list.getD (i / 4) 0).toNat / 2 ^ (24 - 8 * (i % 4))) := rfl
  have hp := bs_put (n := 32) (i := i) (f := fun j => if j < i then dgb v j else 0) (g := fun j => if j < i + 1 then dgb v j else 0) (x := dgb v i) hi (by simp) (by
    intro j hj hne
    by_cases hji : j < i
    · simp [hji, show j < i + 1 by omega]
    · simp [hji, show ¬ j < i + 1 by omega])
  rw [hb] at hp
  change List.take i (u8s (dgn v i)) ++ _ :: List.drop (i + 1) (u8s (dgn v i)) = u8s (dgn v (i + 1)) at hp
  have dl : (u8s (dgn v i)).length = 32 := by rw [u8s_len]; exact bs_len _ _
  generalize u8s (dgn v i) = D1 at *
  generalize u8s (dgn v (i + 1)) = D2 at *
  generalize v.list.getD (i / 4) 0 = y at *
  have f1 := fdiv_pow y.toNat (24 - 8 * (i % 4))
  have b1 := byte_shr y.toNat (24 - 8 * (i % 4))
  change (N y).fdiv _ = _ at f1
  generalize (UInt8.ofNat (y.toNat / 2 ^ (24 - 8 * (i % 4)))).toNat = bb at *
  generalize ((y.toNat / 2 ^ (24 - 8 * (i % 4)) : Nat) : Int) = yy at *
  generalize 24 - 8 * (i % 4) = e at *
  generalize ((i % 4 : Nat) : Int) = r4 at *
  generalize ((i / 4 : Nat) : Int) = u at *
  have p1 : i + 1 ≤ 32 := by omega
  have e4' : (i : Int) % 4 = r4 := by rw [← e4, Int.tmod_eq_emod_of_nonneg (by omega)]
  apply iter_norm
  cases R <;> simp -implicitDefEqProofs [b8_0, St.keep, h1, hi, w1, q1, hc, hc2, hc3, z1, z2, j1, e4, e4', w2, w3, m1, n1, f1, b1, hp, dl, p1, abin]
theorem loopD (Φ : Nat → Option FnF) (K : Nat) (g2 g3 g9 c : Nat) (A : Blk) (C : List AV) (h : AH) (r : AV) (l : List UInt8) (R : R3 c r l h) (v : V8) (hC : ∀ j, j < 8 → C[j]? = some (.int .u32 (N (v.list.getD j 0)))) : ∀ (d i k : Nat), i + d = 32 → d < k →
    iter (ev Φ K b8_0) [2, 3, 9, 49] [2, 3, 9, 12008, 1003008] k ⟨[(2, .ptr 2 g2 0), (3, .ptr 3 g3 0), (9, .ptr 9 g9 0), (49, .int .i64 i)], ⟨2, g2, A⟩ :: ⟨3, g3, .var C⟩ :: ⟨9, g9, .var (u8s (dgn v i))⟩ :: h, c⟩ =
    some (.exit 4, ⟨[(2, .ptr 2 g2 0), (3, .ptr 3 g3 0), (9, .ptr 9 g9 0), (49, .int .i64 32), (50, .bool false)], ⟨2, g2, A⟩ :: ⟨3, g3, .var C⟩ :: ⟨9, g9, .var (u8s (dg v))⟩ :: h, c⟩)
  | 0, i, 0, hi, hk => by omega
  | 0, i, k + 1, hi, hk => by
    obtain rfl : i = 32 := by omega
    rw [dgn32, iter_succ]
    cases R <;> simp -implicitDefEqProofs [b8_0]
  | d + 1, i, 0, hi, hk => by omega
  | d + 1, i, k + 1, hi, hk => by
    rw [stepD Φ K g2 g3 g9 c k A C h r l R i (by omega) v hC]
    exact loopD Φ K g2 g3 g9 c A C h r l R v hC d (i + 1) k (by omega) (by omega)
/-- parts as they come -/
inductive Parts : AV → List (List UInt8) → Prop
  | nil : Parts .nilS []
  | emp : Parts .emp []
  | ro (x : Bool) (ps : List (List UInt8)) : Parts (.ro x 1 (strRows ps)) ps
end Go.Abs.Tryd

namespace Go.Abs.Tryd
open Go Go.Abs Go.Proofs Go.Abs.Sha
set_option maxHeartbeats 64000000
set_option maxRecDepth 100000
set_option linter.unusedSimpArgs false
set_option linter.unusedVariables false
theorem loopPA (n : Nat) (g2 g3 c : Nat) {a : AV} {ps : List (List UInt8)} (hA : Parts a ps) (hN : ps.length < 2999) (hT : ps.flatten.length ≤ 100000) (hg2 : g2 < c) (hg3 : g3 < c) :
    ∃ r h c', iter (ev (Q (n + 4)) 3000 b8_2) [2, 3, 12, 13, 14] [2, 3, 12008, 100000, 1003008] 3000 ⟨[(2, .ptr 2 g2 0), (3, .ptr 3 g3 0), (12, a), (13, .int .i64 ps.length), (14, .int .i64 0)], [⟨2, g2, .var z25⟩, ⟨3, g3, .var (vc iv ++ [.nilS, .int .u64 0])⟩], c⟩ =
      some (.exit 0, ⟨[(2, .ptr 2 g2 0), (3, .ptr 3 g3 0), (12, a), (13, .int .i64 ps.length), (14, .int .i64 ps.length), (15, .bool false)], ⟨2, g2, .var z25⟩ :: ⟨3, g3, .var (vc (absorb ps.flatten iv).1 ++ [r, .int .u64 (ps.flatten.length : Nat)])⟩ :: h, c'⟩) ∧ R3 c' r (absorb ps.flatten iv).2 h ∧ c ≤ c' := by
  cases hA with
  | nil =>
    refine ⟨.nilS, [], c, ?_, by rw [absorb_short _ (by simp)]; exact .nil, Nat.le_refl _⟩
    rw [iter_succ, absorb_short _ (by simp)]
    generalize vc iv = C
    simp -implicitDefEqProofs [b8_2]
  | emp =>
    refine ⟨.nilS, [], c, ?_, by rw [absorb_short _ (by simp)]; exact .nil, Nat.le_refl _⟩
    rw [iter_succ, absorb_short _ (by simp)]
    generalize vc iv = C
    simp -implicitDefEqProofs [b8_2]
  | ro x ps =>
    obtain ⟨r, h, c', e, R, hc⟩ := loopP n 3000 g2 g3 x ps (by omega) hT ps.length 0 3000 c iv .nilS [] [] (by omega) (by omega) .nil hg2 hg3 (by rw [absorb_short _ (by simp)]; rfl)
    exact ⟨r, h, c', e, R, hc⟩
theorem hC_of (V : V8) (x : List AV) (j : Nat) (hj : j < 8) : (vc V ++ x)[j]? = some (.int .u32 (N (V.list.getD j 0))) := by
  have hl : V.list.length = 8 := rfl
  rw [List.getElem?_append_left (by rw [vc_list, ws_len]; omega), vc_list]
  exact ws_at (by omega)
/-- the end: the digest's bytes -/
theorem tail10 (T : Nat) (l : List UInt8) (h : l.length = T % 64) : ((119 - l.length) % 64 : Nat) = zeros T := by unfold zeros; rw [h]
theorem z27_len : z25.length = 32 := rfl
theorem z27_drop : z25.drop 32 = [] := rfl
theorem rep_set (z : Nat) (hz : z < 64) (x : Nat) : (byteRows (List.replicate 128 0)).set 0 [AV.int .u8 128] = byteRows ((128 :: List.replicate z 0 ++ (be8 x).take 0) ++ List.replicate (128 - (128 :: List.replicate z (0 : UInt8)).length - 0) 0) := by
  have e : (List.replicate 128 (0 : UInt8)) = 0 :: List.replicate 127 0 := rfl
  rw [e]
  have e2 : (128 :: List.replicate z (0 : UInt8) ++ (be8 x).take 0) ++ List.replicate (128 - (128 :: List.replicate z (0 : UInt8)).length - 0) 0 = 128 :: List.replicate 127 0 := by
    rw [List.take_zero, List.append_nil, List.cons_append, List.length_cons, List.length_replicate, Nat.sub_zero, List.replicate_append_replicate]
    congr 2
    omega
  rw [e2]
  rfl
theorem of10 (n : Nat) (a : AV) (ps : List (List UInt8)) (hA : Parts a ps) (hN : ps.length < 2999) (hT : ps.flatten.length ≤ 100000) : E (n + 5) 8 [a] = some (.agg (u8s (sha ps.flatten)), []) := by
  rw [e8]
  have hin : ∀ h c nm, inVal h c nm a = some (a, h, c) := by intro h c nm; cases hA <;> rfl
  have hal : alen a = some ps.length := by cases hA <;> simp [strRows_len]
  have hb := begin18 (n + 3)
  obtain ⟨r, h, c, hl, R, hc⟩ := loopPA n 0 1 2 hA hN hT (by omega) (by omega)
  have hr := absorb_rest _ ps.flatten iv (Nat.le_refl _)
  have hsha : sha ps.flatten = dg (absorb ((absorb ps.flatten iv).2 ++ pad ps.flatten.length) (absorb ps.flatten iv).1).1 := by
    unfold sha; rw [absorb_append _ _ _ _ (Nat.le_refl _)]
  rw [hsha]
  generalize hTT : ps.flatten.length = T at *
  generalize absorb ps.flatten iv = A at *
  obtain ⟨V, l⟩ := A
  simp only at hl R hr ⊢
  have w8 : IntKind.u64.wrap ((T : Int) * 8) = ((T * 8 : Nat) : Int) := by rw [wrap_u64]; omega
  have wz : IntKind.i64.wrap (119 - (l.length : Int)) = ((119 - l.length : Nat) : Int) := by rw [wrap_i64 _ (by omega) (by omega)]; omega
  have zl : zeros T < 64 := by unfold zeros; omega
  have tz : ((119 - l.length : Nat) : Int).tmod 64 = (zeros T : Int) := by rw [Int.tmod_eq_emod_of_nonneg (by omega), ← tail10 T l hr]; omega
  have hpad : pad T = (128 :: List.replicate (zeros T) 0) ++ be8 (T * 8) := rfl
  generalize zeros T = z at *
  have w1z : IntKind.i64.wrap (1 + (z : Int)) = 1 + (z : Int) := wrap_i64 _ (by omega) (by omega)
  obtain ⟨gB, cB, lB, RB, hcB⟩ := loopB (Q (n + 4)) 3000 0 1 (.var z25) (.var (vc V ++ [r, .int .u64 T])) h r l (T * 8) (128 :: List.replicate z 0) (by simp; omega) 8 0 3000 c (c + 1) (by omega) (by omega) (by cases R with | nil => exact .nil | own _ g hg => exact .own _ _ (by omega))
  have hset := rep_set z zl (T * 8)
  have h0 : (byteRows (List.replicate 128 0))[0]? = some [AV.int .u8 0] := rfl
  have hrep : List.replicate 128 [AV.int .u8 0] = byteRows (List.replicate 128 0) := by simp [byteRows, -List.reduceReplicate]
  have hPl : ((128 : UInt8) :: List.replicate z 0 ++ (be8 (T * 8)).take 0).length = 1 + z := by simp; omega
  rw [hPl] at lB
  have ml : (byteRows (List.replicate 128 0)).length = 128 := by rw [rows_len, List.length_replicate]
  rw [← hset] at lB
  generalize byteRows (List.replicate 128 0) = M0 at *
  rw [← hpad] at lB
  have tk : (byteRows (pad T ++ List.replicate (120 - ((128 : UInt8) :: List.replicate z 0).length) 0)).take (pad T).length = byteRows (pad T) := by rw [rows_take]; simp
  have pl : (pad T).length ≤ (byteRows (pad T ++ List.replicate (120 - ((128 : UInt8) :: List.replicate z 0).length) 0)).length := by rw [rows_len]; simp
  have tb := toBytes_rows (pad T)
  have pl2 : (pad T).length = 9 + z := by rw [hpad]; simp [be8_len]; omega
  generalize byteRows (pad T ++ List.replicate (120 - ((128 : UInt8) :: List.replicate z 0).length) 0) = MB at *
  have hx1 : z + 1 ≤ 128 := by omega
  obtain ⟨u0, u1, u2, u3, u4, u5, u6, u7⟩ := V
  have z42l : z46.length = 10 := rfl
  have z42d : z46.drop 10 = [] := rfl
  have hx2 : 1 + z ≤ 128 := by omega
  have hx3 : 0 < 1 + z := by omega
  have h0g := (List.getElem?_eq_some_iff.1 h0).2
  have p1 : 0 ≤ 1 + (z : Int) := by omega
  have p2 : (1 + (z : Int)).toNat = 1 + z := by omega
  cases R with
  | nil =>
    have w119 : IntKind.i64.wrap 119 = 119 := wrap_i64 _ (by omega) (by omega)
    simp at wz tz
    obtain ⟨r', ht, R'⟩ := take19 n .nilS [] (pad T) T ⟨u0, u1, u2, u3, u4, u5, u6, u7⟩ .nil (by simp; omega)
    simp only [List.nil_append] at ht R' ⊢
    generalize IntKind.u64.wrap ((T : Int) + IntKind.u64.wrap ((pad T).length : Nat)) = m' at *
    generalize absorb (pad T) ⟨u0, u1, u2, u3, u4, u5, u6, u7⟩ = A' at *
    obtain ⟨V', l'⟩ := A'
    simp only at ht R' ⊢
    simp [vc] at hl lB
    cases R' with
    | nil =>
      have ld := loopD (Q (n + 4)) 3000 0 1 cB (cB + 1) (.var z25) (vc V' ++ [.nilS, .int .u64 m']) [] .nilS [] .nil V' (hC_of V' _) 32 0 3000 (by omega) (by omega)
      rw [dgn0] at ld
      have dp := u8s_plain (dg V')
      have dl : (u8s (dg V')).length = 32 := by rw [u8s_len, dg_bs]; exact bs_len _ _
      generalize u8s (dg V') = D at *
      obtain ⟨x0, x1, x2, x3, x4, x5, x6, x7⟩ := V'
      simp [vc] at ht ld
      have dt : D.take 32 = D := List.take_of_length_le (by omega)
      have dok := plains_cells dp
      have dmv := plains_mv dp
      simp -implicitDefEqProofs [-List.reduceReplicate, a8, c8, hin, hal, q18, hb, abin, vc, z42l, z42d]
      rw [iter_keep]
      simp
      rw [hl]
      simp -implicitDefEqProofs [-List.reduceReplicate, abin, w8, w119, tz, w1z, maxBytes, hrep, h0, ml, hx1, hx2, hx3, h0g, p1, p2]
      rw [iter_keep]
      simp
      rw [lB]
      simp -implicitDefEqProofs [tk, pl, tb, q19, ht, rows_len]
      rw [iter_keep]
      simp
      rw [ld]
      simp -implicitDefEqProofs [dl, dt, dok, dmv, z27_len, z27_drop]
    | fr =>
      have ld := loopD (Q (n + 4)) 3000 0 1 (cB + 1) (cB + 1 + 1) (.var z25) (vc V' ++ [.own 1003008 cB 0 l'.length, .int .u64 m']) [⟨1003008, cB, .arr 1 (byteRows l') false⟩] (.own 1003008 cB 0 l'.length) l' (.own _ _ (by omega)) V' (hC_of V' _) 32 0 3000 (by omega) (by omega)
      rw [dgn0] at ld
      have dp := u8s_plain (dg V')
      have dl : (u8s (dg V')).length = 32 := by rw [u8s_len, dg_bs]; exact bs_len _ _
      generalize u8s (dg V') = D at *
      obtain ⟨x0, x1, x2, x3, x4, x5, x6, x7⟩ := V'
      simp [vc] at ht ld
      have dt : D.take 32 = D := List.take_of_length_le (by omega)
      have dok := plains_cells dp
      have dmv := plains_mv dp
      simp -implicitDefEqProofs [-List.reduceReplicate, a8, c8, hin, hal, q18, hb, abin, vc, z42l, z42d]
      rw [iter_keep]
      simp
      rw [hl]
      simp -implicitDefEqProofs [-List.reduceReplicate, abin, w8, w119, tz, w1z, maxBytes, hrep, h0, ml, hx1, hx2, hx3, h0g, p1, p2]
      rw [iter_keep]
      simp
      rw [lB]
      simp -implicitDefEqProofs [tk, pl, tb, q19, ht, rows_len]
      rw [iter_keep]
      simp
      rw [ld]
      simp -implicitDefEqProofs [dl, dt, dok, dmv, z27_len, z27_drop]
  | own _ g hg =>
    have rl := rows_len l
    have tkl : (byteRows l).take l.length = byteRows l := List.take_of_length_le (by omega)
    generalize ((119 - l.length : Nat) : Int) = u119 at *
    obtain ⟨r', ht, R'⟩ := take19 n (.fr 1 (byteRows l)) l (pad T) T ⟨u0, u1, u2, u3, u4, u5, u6, u7⟩ (.fr _) (by omega)
    generalize IntKind.u64.wrap ((T : Int) + IntKind.u64.wrap ((pad T).length : Nat)) = m' at *
    generalize absorb (l ++ pad T) ⟨u0, u1, u2, u3, u4, u5, u6, u7⟩ = A' at *
    obtain ⟨V', l'⟩ := A'
    simp only at ht R' ⊢
    simp [vc] at hl lB
    cases R' with
    | nil =>
      have ld := loopD (Q (n + 4)) 3000 0 1 cB (cB + 1) (.var z25) (vc V' ++ [.nilS, .int .u64 m']) [] .nilS [] .nil V' (hC_of V' _) 32 0 3000 (by omega) (by omega)
      rw [dgn0] at ld
      have dp := u8s_plain (dg V')
      have dl : (u8s (dg V')).length = 32 := by rw [u8s_len, dg_bs]; exact bs_len _ _
      generalize u8s (dg V') = D at *
      obtain ⟨x0, x1, x2, x3, x4, x5, x6, x7⟩ := V'
      simp [vc] at ht ld
      have dt : D.take 32 = D := List.take_of_length_le (by omega)
      have dok := plains_cells dp
      have dmv := plains_mv dp
      simp -implicitDefEqProofs [-List.reduceReplicate, a8, c8, hin, hal, q18, hb, abin, vc, z42l, z42d]
      rw [iter_keep]
      simp
      rw [hl]
      simp -implicitDefEqProofs [-List.reduceReplicate, abin, w8, wz, tz, w1z, maxBytes, hrep, h0, ml, hx1, hx2, hx3, h0g, p1, p2, rl, tkl, hg]
      rw [iter_keep]
      simp
      rw [lB]
      simp -implicitDefEqProofs [tk, pl, tb, q19, ht, rl, tkl, hg, rows_len]
      rw [iter_keep]
      simp
      rw [ld]
      simp -implicitDefEqProofs [dl, dt, dok, dmv, z27_len, z27_drop]
    | fr =>
      have ld := loopD (Q (n + 4)) 3000 0 1 (cB + 1) (cB + 1 + 1) (.var z25) (vc V' ++ [.own 1003008 cB 0 l'.length, .int .u64 m']) [⟨1003008, cB, .arr 1 (byteRows l') false⟩] (.own 1003008 cB 0 l'.length) l' (.own _ _ (by omega)) V' (hC_of V' _) 32 0 3000 (by omega) (by omega)
      rw [dgn0] at ld
      have dp := u8s_plain (dg V')
      have dl : (u8s (dg V')).length = 32 := by rw [u8s_len, dg_bs]; exact bs_len _ _
      generalize u8s (dg V') = D at *
      obtain ⟨x0, x1, x2, x3, x4, x5, x6, x7⟩ := V'
      simp [vc] at ht ld
      have dt : D.take 32 = D := List.take_of_length_le (by omega)
      have dok := plains_cells dp
      have dmv := plains_mv dp
      simp -implicitDefEqProofs [-List.reduceReplicate, a8, c8, hin, hal, q18, hb, abin, vc, z42l, z42d]
      rw [iter_keep]
      simp
      rw [hl]
      simp -implicitDefEqProofs [-List.reduceReplicate, abin, w8, wz, tz, w1z, maxBytes, hrep, h0, ml, hx1, hx2, hx3, h0g, p1, p2, rl, tkl, hg]
      rw [iter_keep]
      simp
      rw [lB]
      simp -implicitDefEqProofs [tk, pl, tb, q19, ht, rl, tkl, hg, rows_len]
      rw [iter_keep]
      simp
      rw [ld]
      simp -implicitDefEqProofs [dl, dt, dok, dmv, z27_len, z27_drop]
end Go.Abs.Tryd

namespace Go.Abs.Tryd
open Go Go.Abs Go.Proofs Go.Abs.Sha
set_option maxHeartbeats 64000000
set_option maxRecDepth 100000
set_option linter.unusedSimpArgs false
set_option linter.unusedVariables false
theorem size_of (l : List UInt8) : (⟨l.toArray⟩ : ByteArray).size = l.length := by simp [ByteArray.size]
theorem dg_len (v : V8) : (dg v).length = 32 := by rw [dg_bs]; exact bs_len _ _
theorem sha_len (m : List UInt8) : (sha m).length = 32 := dg_len _
theorem cells32 (m : List UInt8) : (u8s (sha m)).length = 32 := by rw [u8s_len, sha_len]
theorem of10' (n : Nat) (a : AV) (ps : List (List UInt8)) (m : List UInt8) (hA : Parts a ps) (hN : ps.length < 2999) (hm : ps.flatten = m) (hT : m.length ≤ 100000) : E (n + 5) 8 [a] = some (.agg (u8s (sha m)), []) := by
  subst hm; exact of10 n a ps hA hN hT
theorem u8s_map (l : List UInt8) : (u8s l).map (fun c => [c]) = byteRows l := by simp [u8s, byteRows]
theorem mkB (s : ByteArray) : ∃ l : List UInt8, s = ⟨l.toArray⟩ := ⟨s.data.toList, by cases s; simp⟩
theorem ok_bytes : ∀ (k : Nat) (l : List AV), okRow (List.replicate k (.int .u8)) l → ∃ ds : List UInt8, ds.length = k ∧ l = u8s ds
  | 0, l, h => ⟨[], rfl, by rw [h.nil_inv]; rfl⟩
  | k + 1, l, h => by
    rw [List.replicate_succ] at h
    obtain ⟨n, vs, rfl, hw, h2⟩ := h.int
    obtain ⟨ds, h3, rfl⟩ := ok_bytes k vs h2
    simp only [Lit.wf, Bool.and_eq_true, decide_eq_true_eq] at hw
    have e1 : IntKind.min .u8 = 0 := rfl
    have e2 : IntKind.max .u8 = 255 := rfl
    refine ⟨UInt8.ofNat n.toNat :: ds, by simp [h3], ?_⟩
    simp only [u8s, List.map_cons]
    congr 2
    simp
    omega
theorem kinds_u8s : ∀ ds : List UInt8, kindsOK (List.replicate ds.length 0) (u8s ds) = true
  | [] => rfl
  | b :: r => by
    have : u8s (b :: r) = .int .u8 b.toNat :: u8s r := rfl
    rw [List.length_cons, List.replicate_succ, this, kindsOK, kinds_u8s r]; rfl
theorem self32 (l : List UInt8) (h : l.length = 32) : aeqCells [0, 0, 0, 0, 0, 0, 0, 0, 0, 0, 0, 0, 0, 0, 0, 0, 0, 0, 0, 0, 0, 0, 0, 0, 0, 0, 0, 0, 0, 0, 0, 0] (u8s l) (u8s l) = some true := by
  have hk := aeq_self (kinds_u8s l)
  rw [h] at hk
  exact hk
theorem ext_lo (a b : List UInt8) : (⟨(a ++ b).toArray⟩ : ByteArray).extract 0 a.length = ⟨a.toArray⟩ := by
  apply ByteArray.ext
  simp [ByteArray.data_extract]
theorem ext_hi (a b : List UInt8) : (⟨(a ++ b).toArray⟩ : ByteArray).extract a.length (a ++ b).length = ⟨b.toArray⟩ := by
  apply ByteArray.ext
  simp [ByteArray.data_extract]
abbrev k32 : List Nat := [0, 0, 0, 0, 0, 0, 0, 0, 0, 0, 0, 0, 0, 0, 0, 0, 0, 0, 0, 0, 0, 0, 0, 0, 0, 0, 0, 0, 0, 0, 0, 0]
theorem ext_take (l : List UInt8) (k : Nat) : (⟨l.toArray⟩ : ByteArray).extract 0 k = ⟨(l.take k).toArray⟩ := by
  apply ByteArray.ext
  simp [ByteArray.data_extract]
theorem ext_drop (l : List UInt8) (k : Nat) : (⟨l.toArray⟩ : ByteArray).extract k l.length = ⟨(l.drop k).toArray⟩ := by
  apply ByteArray.ext
  simp [ByteArray.data_extract]
  exact List.take_of_length_le (by simp)
end Go.Abs.Tryd

namespace Go.Abs
variable [Globs]
open Go
/- one piece of code behind the other, each with an equation of its own -/
theorem ev_seqN {Φ : Nat → Option FnF} {k : Nat} {a b : AC} {s s1 : St} {r : Option (Ex × St)} (h : ev Φ k a s = some (.normal, s1)) (h2 : ev Φ k b s1 = r) : ev Φ k (.seq a b) s = r := by
  rw [ev, h]; exact h2
theorem ev_seqR {Φ : Nat → Option FnF} {k : Nat} {a b : AC} {s s1 : St} {e : Ex} (he : e ≠ .normal) (h : ev Φ k a s = some (e, s1)) : ev Φ k (.seq a b) s = some (e, s1) := by
  rw [ev, h]
  cases e <;> first | rfl | exact absurd rfl he
theorem ev_keepN {Φ : Nat → Option FnF} {k : Nat} {a : AC} {kt kh : List Nat} {s : St} {r : Option (Ex × St)} (h : ev Φ k a ⟨envOnly kt s.env, s.h.only kh, s.c⟩ = r) : ev Φ k (.keep kt kh a) s = r := h
theorem ev_loopN {Φ : Nat → Option FnF} {k id : Nat} {a b : AC} {kt kh : List Nat} {s s0 s1 : St}
    (h0 : (ev Φ k a s).map (fun q => (q.1, q.2.keep kt kh)) = some (.normal, s0)) (h1 : iter (ev Φ k b) kt kh k s0 = some (.exit id, s1)) : ev Φ k (.seq a (.block id (.loop kt kh b))) s = some (.normal, s1) := by
  rw [Option.map_eq_some_iff] at h0
  obtain ⟨⟨e, q⟩, h2, h3⟩ := h0
  simp only [Prod.mk.injEq] at h3
  obtain ⟨rfl, rfl⟩ := h3
  refine ev_seqN h2 ?_
  rw [ev, ev]
  have : iter (ev Φ k b) kt kh k q = some (.exit id, s1) := by
    rw [← h1]; exact iter_keep _ _ _ _ _
  rw [this]
  simp
theorem ev_loopR {Φ : Nat → Option FnF} {k id : Nat} {a b : AC} {kt kh : List Nat} {s s0 s1 : St}
    (h0 : (ev Φ k a s).map (fun q => (q.1, q.2.keep kt kh)) = some (.normal, s0)) (h1 : iter (ev Φ k b) kt kh k s0 = some (.ret, s1)) : ev Φ k (.seq a (.block id (.loop kt kh b))) s = some (.ret, s1) := by
  rw [Option.map_eq_some_iff] at h0
  obtain ⟨⟨e, q⟩, h2, h3⟩ := h0
  simp only [Prod.mk.injEq] at h3
  obtain ⟨rfl, rfl⟩ := h3
  refine ev_seqN h2 ?_
  rw [ev, ev]
  have : iter (ev Φ k b) kt kh k q = some (.ret, s1) := by
    rw [← h1]; exact iter_keep _ _ _ _ _
  rw [this]
theorem fun_of {Φ : Nat → Option FnF} {k : Nat} {f : AFun} {bs : List AV} {q : List AV × AH × Nat} {s' : St} {e : Ex} {r : AV × List (List AV)} (hn : ¬ f.ntmps < bs.length) (hin : inVals [] 0 100000 bs = some q)
    (hbody : ev Φ k f.code ⟨envOf 0 q.1, q.2.1, q.2.2⟩ = some (e, s')) (he : e = .normal ∨ e = .ret)
    (hres : ((resVals s' f.res).bind fun vs => (outPvs s'.h (argPvs bs q.1)).bind fun ps => (outRes ps.2 (resVal vs)).map fun r => (r.1, ps.1)) = some r) : evFun Φ k f bs = some r := by
  unfold evFun
  rw [if_neg hn, hin, Option.bind_some]
  have : evBody Φ k f ⟨envOf 0 q.1, q.2.1, q.2.2⟩ = some s' := by
    unfold evBody
    rw [hbody]
    rcases he with rfl | rfl <;> rfl
  rw [this, Option.bind_some]
  exact hres
end Go.Abs

namespace Go.Abs.Tryd
open Go Go.Abs Go.Proofs Go.Abs.Sha
set_option maxHeartbeats 64000000
set_option maxRecDepth 100000
set_option linter.unusedSimpArgs false
set_option linter.unusedVariables false
theorem b_ofInt (a : UInt8) : BitVec.ofInt 8 (a.toNat : Int) = a.toBitVec := by
  apply BitVec.eq_of_toNat_eq
  rw [BitVec.ofInt_natCast, BitVec.toNat_ofNat]
  have := a.toNat_lt
  simp only [UInt8.toNat_toBitVec]
  omega
theorem b_wrap (a : UInt8) : IntKind.u8.wrap (a.toBitVec.toNat : Int) = (a.toNat : Int) := by
  rw [wrap_u8]
  have := a.toNat_lt
  simp only [UInt8.toNat_toBitVec]
  omega
theorem b_xor (a b : UInt8) : abits .xor .u8 (a.toNat : Int) (b.toNat : Int) = some (.int .u8 ((a ^^^ b).toNat : Nat)) := by
  show some (AV.int .u8 (IntKind.u8.wrap ((BitVec.ofInt 8 (a.toNat : Int) ^^^ BitVec.ofInt 8 (b.toNat : Int)).toNat : Int))) = _
  rw [b_ofInt, b_ofInt, ← UInt8.toBitVec_xor, b_wrap]
theorem b_or (a b : UInt8) : abits .or .u8 (a.toNat : Int) (b.toNat : Int) = some (.int .u8 ((a ||| b).toNat : Nat)) := by
  show some (AV.int .u8 (IntKind.u8.wrap ((BitVec.ofInt 8 (a.toNat : Int) ||| BitVec.ofInt 8 (b.toNat : Int)).toNat : Int))) = _
  rw [b_ofInt, b_ofInt, ← UInt8.toBitVec_or, b_wrap]
theorem u8s_at {l : List UInt8} {i : Nat} (h : i < l.length) : (u8s l)[i]? = some (.int .u8 (l.getD i 0).toNat) := by simp [u8s, h, List.getD]
theorem bs_get {n i : Nat} (f : Nat → UInt8) (h : i < n) : (bs n f).getD i 0 = f i := by simp [bs, List.getD, h]
/-- a key's byte in a block of 64 -/
def kk (key : List UInt8) (i : Nat) : UInt8 := if i < 32 then key.getD i 0 else 0
def tb (key : List UInt8) (by' : UInt8) : List UInt8 := bs 64 fun i => kk key i ^^^ by'
theorem tb_len (key by') : (tb key by').length = 64 := bs_len _ _
def tbn (key : List UInt8) (by' : UInt8) (i : Nat) : List UInt8 := bs 64 fun j => if j < i then kk key j ^^^ by' else kk key j
theorem tbn64 (key by') : tbn key by' 64 = tb key by' := by
  unfold tbn tb bs
  apply List.map_congr_left
  intro j hj
  rw [if_pos (by simpa using hj)]
theorem tbn0 (key : List UInt8) (by') (hk : key.length = 32) : tbn key by' 0 = key ++ List.replicate 32 0 := by
  apply List.ext_getElem?
  intro j
  by_cases h : j < 64
  · unfold tbn kk bs
    by_cases h2 : j < 32
    · rw [List.getElem?_append_left (by omega)]
      simp [h, h2, List.getD, hk]
    · rw [List.getElem?_append_right (by omega)]
      rw [List.getElem?_replicate, if_pos (by omega)]
      simp [h, h2]
  · rw [List.getElem?_eq_none (by simp [tbn]; omega), List.getElem?_eq_none (by simp [hk]; omega)]
theorem rows_flat (l : List UInt8) : (byteRows l).flatten = u8s l := by
  induction l with
  | nil => rfl
  | cons b r ih =>
    have e1 : byteRows (b :: r) = [.int .u8 b.toNat] :: byteRows r := rfl
    have e2 : u8s (b :: r) = .int .u8 b.toNat :: u8s r := rfl
    rw [e1, e2, List.flatten_cons, ih]; rfl
theorem u8s_append (a b : List UInt8) : u8s (a ++ b) = u8s a ++ u8s b := by simp [u8s]
theorem z55_drop : z55.drop 32 = u8s (List.replicate 32 0) := by kernel_rfl
theorem z55_len : z55.length = 64 := rfl
theorem z55_plain : z55.all AV.plain = true := by kernel_rfl
theorem step21b (Φ : Nat → Option FnF) (K : Nat) (key : List UInt8) (by' : UInt8) (g5 c k i : Nat) (hi : i < 64) (D : List UInt8) (hD : D.length = 64) (D2 : List UInt8)
    (hp : (u8s D).take i ++ AV.int .u8 (((D.getD i 0 ^^^ by').toNat : Nat) : Int) :: (u8s D).drop (i + 1) = u8s D2) :
    iter (ev Φ K b21_0) [1, 4, 5, 10] [5] (k + 1) ⟨[(1, .int .u8 by'.toNat), (4, .str ⟨#[]⟩), (5, .ptr 5 g5 0), (10, .int .i64 i)], [⟨5, g5, .var (u8s D)⟩], c⟩ =
    iter (ev Φ K b21_0) [1, 4, 5, 10] [5] k ⟨[(1, .int .u8 by'.toNat), (4, .str ⟨#[]⟩), (5, .ptr 5 g5 0), (10, .int .i64 (i + 1 : Nat))], [⟨5, g5, .var (u8s D2)⟩], c⟩ := by
  have h1 : (i : Int) < 64 := by omega
  have w1 : IntKind.i64.wrap ((i : Int) + 1) = (i : Int) + 1 := wrap_i64 _ (by omega) (by omega)
  have a0 := u8s_at (l := D) (i := i) (by omega)
  have b0 := (List.getElem?_eq_some_iff.1 a0).2
  have dl : (u8s D).length = 64 := by rw [u8s_len, hD]
  have bx := b_xor (D.getD i 0) by'
  have p1 : i + 1 ≤ 64 := by omega
  generalize u8s D2 = E2 at *
  generalize u8s D = E1 at *
  generalize (D.getD i 0 ^^^ by').toNat = r at *
  generalize (D.getD i 0).toNat = x at *
  generalize by'.toNat = y at *
  apply iter_norm
  simp -implicitDefEqProofs [b21_0, St.keep, h1, hi, w1, a0, b0, dl, bx, hp, p1, abin]
theorem loop21b (Φ : Nat → Option FnF) (K : Nat) (key : List UInt8) (by' : UInt8) (g5 c : Nat) : ∀ (d i k : Nat), i + d = 64 → d < k →
    iter (ev Φ K b21_0) [1, 4, 5, 10] [5] k ⟨[(1, .int .u8 by'.toNat), (4, .str ⟨#[]⟩), (5, .ptr 5 g5 0), (10, .int .i64 i)], [⟨5, g5, .var (u8s (tbn key by' i))⟩], c⟩ =
    some (.exit 0, ⟨[(1, .int .u8 by'.toNat), (4, .str ⟨#[]⟩), (5, .ptr 5 g5 0), (10, .int .i64 64), (11, .bool false)], [⟨5, g5, .var (u8s (tb key by'))⟩], c⟩)
  | 0, i, 0, hi, hk => by omega
  | 0, i, k + 1, hi, hk => by
    obtain rfl : i = 64 := by omega
    rw [tbn64, iter_succ]
    simp -implicitDefEqProofs [b21_0, abin]
  | d + 1, i, 0, hi, hk => by omega
  | d + 1, i, k + 1, hi, hk => by
    have hg : (tbn key by' i).getD i 0 = kk key i := by unfold tbn; rw [bs_get _ (by omega), if_neg (by omega)]
    have hp := bs_put (n := 64) (i := i) (f := fun j => if j < i then kk key j ^^^ by' else kk key j) (g := fun j => if j < i + 1 then kk key j ^^^ by' else kk key j) (x := kk key i ^^^ by') (by omega) (by simp) (by
      intro j hj hne
      by_cases hji : j < i
      · simp [hji, show j < i + 1 by omega]
      · simp [hji, show ¬ j < i + 1 by omega])
    rw [step21b Φ K key by' g5 c k i (by omega) (tbn key by' i) (bs_len _ _) (tbn key by' (i + 1)) (by rw [hg]; exact hp)]
    exact loop21b Φ K key by' g5 c d (i + 1) k (by omega) (by omega)
theorem block21t (n : Nat) (key : List UInt8) (hk : key.length = 32) (by' : UInt8) : E (n + 1) 21 [.agg (u8s key), .int .u8 by'.toNat] = some (.str ⟨(tb key by').toArray⟩, []) := by
  rw [e21]
  have lb := loop21b (Q n) 3000 key by' 1 2 64 0 3000 (by omega) (by omega)
  rw [tbn0 key by' hk, u8s_append] at lb
  have pk := u8s_plain key
  have kl : (u8s key).length = 32 := by rw [u8s_len, hk]
  have kt : (u8s key).take 32 = u8s key := List.take_of_length_le (by omega)
  have km := u8s_map key
  have bl : (byteRows key).length = 32 := by rw [rows_len, hk]
  have bt : (byteRows key).take 32 = byteRows key := List.take_of_length_le (by omega)
  have bf := rows_flat key
  have sm : (List.take 32 (List.map List.length (byteRows key))).sum = 32 := by
    have e : List.map List.length (byteRows key) = List.replicate key.length 1 := by
      clear lb pk kl kt km bl bt bf hk
      induction key with
      | nil => rfl
      | cons b r ih =>
        have e1 : byteRows (b :: r) = [.int .u8 b.toNat] :: byteRows r := rfl
        rw [e1, List.map_cons, ih]; rfl
    rw [e, hk]; rfl
  have zd := z55_drop
  have p2 : (u8s key ++ u8s (List.replicate 32 0)).all AV.plain = true := by rw [← u8s_append]; exact u8s_plain _
  have tp := u8s_plain (tb key by')
  have tl : (u8s (tb key by')).length = 64 := by rw [u8s_len, tb_len]
  have tt : (u8s (tb key by')).take 64 = u8s (tb key by') := List.take_of_length_le (by omega)
  have tm := u8s_map (tb key by')
  have tr := toBytes_rows (tb key by')
  generalize u8s (tb key by') = T at *
  generalize u8s (List.replicate 32 0) = Z at *
  generalize u8s key = C at *
  generalize by'.toNat = y at *
  have hb : ∃ e, ev (Q n) 3000 a21.code ⟨[(0, .agg C), (1, .int .u8 y)], [], 0⟩ = some (.ret, ⟨(4, .str ⟨(tb key by').toArray⟩) :: e, [⟨5, 1, .var T⟩], 2⟩) := by
    refine ⟨[(5, .ptr 5 1 0), (20, .vsl 5 1 0 64), (21, .str ⟨(tb key by').toArray⟩)], ?_⟩
    rw [show a21.code = Tryd.c21 from rfl, Tryd.c21]
    refine ev_seqN (s1 := ⟨[(0, .agg C), (1, .int .u8 y), (2, .ptr 2 0 0), (4, .str ⟨#[]⟩)], [⟨2, 0, .var C⟩], 1⟩) (by simp [plains_cells pk]) ?_
    refine ev_seqN (s1 := ⟨[(0, .agg C), (1, .int .u8 y), (2, .ptr 2 0 0), (4, .str ⟨#[]⟩), (5, .ptr 5 1 0)], [⟨2, 0, .var C⟩, ⟨5, 1, .var z55⟩], 2⟩) (by simp) ?_
    refine ev_seqN (s1 := ⟨[(0, .agg C), (1, .int .u8 y), (2, .ptr 2 0 0), (4, .str ⟨#[]⟩), (5, .ptr 5 1 0), (7, .vsl 5 1 0 64), (8, .vsl 2 0 0 32), (9, .int .i64 32)], [⟨2, 0, .var C⟩, ⟨5, 1, .var (C ++ Z)⟩], 2⟩) (by simp -implicitDefEqProofs [acopy, kl, kt, km, bl, bt, bf, sm, zd, z55_len, pk, plains_low pk, plains_low z55_plain, plains_low p2]) ?_
    refine ev_seqN (ev_loopN (by simp [St.keep]) lb) ?_
    refine ev_keepN ?_
    simp -implicitDefEqProofs [tl, tt, tm, tr, tp]
  obtain ⟨e, hb⟩ := hb
  refine fun_of (q := ([.agg C, .int .u8 y], [], 0)) (by simp [a21]) (by simp [plains_in pk]) hb (.inr rfl) ?_
  simp -implicitDefEqProofs [a21]
end Go.Abs.Tryd

namespace Go.Abs.Tryd
open Go Go.Abs Go.Proofs Go.Abs.Sha
set_option maxHeartbeats 64000000
set_option maxRecDepth 100000
set_option linter.unusedSimpArgs false
set_option linter.unusedVariables false
/-- bytes in a slice of the call's own -/
inductive R22 (c : Nat) : AV → List UInt8 → AH → Prop
  | nil : R22 c .nilS [] []
  | own (l : List UInt8) (g : Nat) (hg : g < c) : R22 c (.own 22 g 0 l.length) l [⟨22, g, .arr 1 (byteRows l) false⟩]
theorem step23b (Φ : Nat → Option FnF) (K : Nat) (key : List UInt8) (hk : key.length = 32) (by' : UInt8) (g2 c k i : Nat) (hi : i < 64) (v : AV) (P : List UInt8) (h : AH) (R : R22 c v P h) (hP : P.length ≤ 100) :
    ∃ v' h' c', iter (ev Φ K b23_0) [1, 2, 4, 5, 6] [2, 22] (k + 1) ⟨[(1, .int .u8 by'.toNat), (2, .ptr 2 g2 0), (4, .str ⟨#[]⟩), (5, v), (6, .int .i64 i)], ⟨2, g2, .var (u8s key)⟩ :: h, c⟩ =
    iter (ev Φ K b23_0) [1, 2, 4, 5, 6] [2, 22] k ⟨[(1, .int .u8 by'.toNat), (2, .ptr 2 g2 0), (4, .str ⟨#[]⟩), (5, v'), (6, .int .i64 (i + 1 : Nat))], ⟨2, g2, .var (u8s key)⟩ :: h', c'⟩ ∧ R22 c' v' (P ++ [kk key i ^^^ by']) h' := by
  have h1 : (i : Int) < 64 := by omega
  have w1 : IntKind.i64.wrap ((i : Int) + 1) = (i : Int) + 1 := wrap_i64 _ (by omega) (by omega)
  have bx := b_xor (kk key i) by'
  have bx0 : i ≥ 32 → kk key i = 0 := fun h => by unfold kk; rw [if_neg (by omega)]
  have dl : (u8s key).length = 32 := by rw [u8s_len, hk]
  have e1 : (byteRows P).length = P.length := rows_len P
  have e2 : (byteRows P).take P.length = byteRows P := List.take_of_length_le (by omega)
  have e3 : P.length + 1 ≤ 17592186044416 := by omega
  have e4 : P.length ≤ 17592186044415 := by omega
  have e5 : ¬ P.length + 1 ≤ P.length := by omega
  have ea : byteRows (P ++ [kk key i ^^^ by']) = byteRows P ++ [[AV.int .u8 (((kk key i ^^^ by').toNat : Nat) : Int)]] := by simp [byteRows]
  by_cases h32 : i < 32
  · have h2 : (i : Int) < 32 := by omega
    have a0 : (u8s key)[i]? = some (.int .u8 (kk key i).toNat) := by
      rw [u8s_at (by omega)]; unfold kk; rw [if_pos h32]
    have b0 := (List.getElem?_eq_some_iff.1 a0).2
    cases R with
    | nil =>
      refine ⟨.own 22 (c + 1) 0 1, [⟨22, c + 1, .arr 1 (byteRows ([] ++ [kk key i ^^^ by'])) false⟩], c + 2, ?_, .own [kk key i ^^^ by'] (c + 1) (by omega)⟩
      rw [ea]
      generalize (kk key i ^^^ by').toNat = r at *
      generalize (kk key i).toNat = x at *
      apply iter_norm
      simp -implicitDefEqProofs [b23_0, St.keep, h1, h2, h32, w1, a0, b0, dl, bx, aappend, maxBytes, abin]
      all_goals simp [byteRows]
    | own _ g hg =>
      refine ⟨.own 22 (c + 1) 0 (P ++ [kk key i ^^^ by']).length, [⟨22, c + 1, .arr 1 (byteRows (P ++ [kk key i ^^^ by'])) false⟩], c + 2, ?_, .own _ (c + 1) (by omega)⟩
      rw [ea]
      generalize (kk key i ^^^ by') = rr at *
      generalize rr.toNat = r at *
      generalize (kk key i).toNat = x at *
      apply iter_norm
      simp -implicitDefEqProofs [b23_0, St.keep, h1, h2, h32, w1, a0, b0, dl, bx, aappend, maxBytes, abin, e1, e2, e3, e4, e5]
  · have h2 : ¬ (i : Int) < 32 := by omega
    rw [bx0 (by omega)] at bx ea ⊢
    have bx' : abits .xor .u8 0 (by'.toNat : Int) = some (.int .u8 (((0 ^^^ by' : UInt8).toNat : Nat) : Int)) := bx
    cases R with
    | nil =>
      refine ⟨.own 22 (c + 1) 0 1, [⟨22, c + 1, .arr 1 (byteRows ([] ++ [0 ^^^ by'])) false⟩], c + 2, ?_, .own [0 ^^^ by'] (c + 1) (by omega)⟩
      rw [ea]
      generalize (0 ^^^ by' : UInt8).toNat = r at *
      apply iter_norm
      simp -implicitDefEqProofs [b23_0, St.keep, h1, h2, h32, w1, dl, bx', aappend, maxBytes, abin]
      all_goals simp [byteRows]
    | own _ g hg =>
      refine ⟨.own 22 (c + 1) 0 (P ++ [0 ^^^ by']).length, [⟨22, c + 1, .arr 1 (byteRows (P ++ [0 ^^^ by'])) false⟩], c + 2, ?_, .own _ (c + 1) (by omega)⟩
      rw [ea]
      generalize (0 ^^^ by' : UInt8) = rr at *
      generalize rr.toNat = r at *
      apply iter_norm
      simp -implicitDefEqProofs [b23_0, St.keep, h1, h2, h32, w1, dl, bx', aappend, maxBytes, abin, e1, e2, e3, e4, e5]
theorem tb_take (key : List UInt8) (by' : UInt8) (i : Nat) (h : i < 64) : (tb key by').take (i + 1) = (tb key by').take i ++ [kk key i ^^^ by'] := by
  rw [List.take_add_one, List.getElem?_eq_getElem (by rw [tb_len]; omega)]
  simp [tb, bs]
theorem loop23b (Φ : Nat → Option FnF) (K : Nat) (key : List UInt8) (hk : key.length = 32) (by' : UInt8) (g2 : Nat) : ∀ (d i k c : Nat) (v : AV) (h : AH), i + d = 64 → d < k → R22 c v ((tb key by').take i) h →
    ∃ v' h' c', iter (ev Φ K b23_0) [1, 2, 4, 5, 6] [2, 22] k ⟨[(1, .int .u8 by'.toNat), (2, .ptr 2 g2 0), (4, .str ⟨#[]⟩), (5, v), (6, .int .i64 i)], ⟨2, g2, .var (u8s key)⟩ :: h, c⟩ =
      some (.exit 0, ⟨[(1, .int .u8 by'.toNat), (2, .ptr 2 g2 0), (4, .str ⟨#[]⟩), (5, v'), (6, .int .i64 64), (8, .int .i64 64), (9, .bool false)], ⟨2, g2, .var (u8s key)⟩ :: h', c'⟩) ∧ R22 c' v' (tb key by') h'
  | 0, i, 0, c, v, h, hi, hk', R => by omega
  | 0, i, k + 1, c, v, h, hi, hk', R => by
    obtain rfl : i = 64 := by omega
    rw [List.take_of_length_le (by rw [tb_len]; omega)] at R
    refine ⟨v, h, c, ?_, R⟩
    rw [iter_succ]
    generalize tb key by' = T at *
    cases R <;> simp -implicitDefEqProofs [b23_0, abin]
  | d + 1, i, 0, c, v, h, hi, hk', R => by omega
  | d + 1, i, k + 1, c, v, h, hi, hk', R => by
    obtain ⟨v1, h1, c1, e1, R1⟩ := step23b Φ K key hk by' g2 c k i (by omega) v _ h R (by rw [List.length_take, tb_len]; omega)
    rw [e1]
    exact loop23b Φ K key hk by' g2 d (i + 1) k c1 v1 h1 (by omega) (by omega) (by rw [tb_take _ _ _ (by omega)]; exact R1)
theorem block23t (n : Nat) (key : List UInt8) (hk : key.length = 32) (by' : UInt8) : E (n + 1) 23 [.agg (u8s key), .int .u8 by'.toNat] = some (.str ⟨(tb key by').toArray⟩, []) := by
  rw [e23]
  obtain ⟨v, h, c, lb, R⟩ := loop23b (Q n) 3000 key hk by' 0 64 0 3000 1 .nilS [] (by omega) (by omega) .nil
  have pk := u8s_plain key
  have tr := toBytes_rows (tb key by')
  have rl := rows_len (tb key by')
  have tk : (byteRows (tb key by')).take (tb key by').length = byteRows (tb key by') := List.take_of_length_le (by omega)
  have t0 : tb key by' ≠ [] := by intro h; have := tb_len key by'; rw [h] at this; simp at this
  generalize tb key by' = T at *
  generalize u8s key = C at *
  generalize by'.toNat = y at *
  have hb : ∃ e h c, ev (Q n) 3000 a23.code ⟨[(0, .agg C), (1, .int .u8 y)], [], 0⟩ = some (.ret, ⟨(4, .str ⟨T.toArray⟩) :: e, h, c⟩) := by
    rw [show a23.code = Tryd.c23 from rfl, Tryd.c23]
    cases R with
    | nil => exact absurd rfl t0
    | own _ g hg =>
    refine ⟨[(5, .own 22 g 0 T.length), (23, .own 22 g 0 T.length), (24, .str ⟨T.toArray⟩)], [⟨22, g, .arr 1 (byteRows T) false⟩], c, ?_⟩
    refine ev_seqN (s1 := ⟨[(0, .agg C), (1, .int .u8 y), (2, .ptr 2 0 0), (4, .str ⟨#[]⟩)], [⟨2, 0, .var C⟩], 1⟩) (by simp [plains_cells pk]) ?_
    refine ev_seqN (s1 := ⟨[(0, .agg C), (1, .int .u8 y), (2, .ptr 2 0 0), (4, .str ⟨#[]⟩), (5, .nilS)], [⟨2, 0, .var C⟩], 1⟩) (by simp) ?_
    refine ev_seqN (ev_loopN (by simp [St.keep]) lb) ?_
    refine ev_keepN ?_
    simp -implicitDefEqProofs [tr, rl, tk]
  obtain ⟨e, h, c, hb⟩ := hb
  refine fun_of (q := ([.agg C, .int .u8 y], [], 0)) (by simp [a23]) (by simp [plains_in pk]) hb (.inr rfl) ?_
  simp -implicitDefEqProofs [a23]
end Go.Abs.Tryd

namespace Go.Abs.Tryd
open Go Go.Abs Go.Proofs Go.Abs.Sha
set_option maxHeartbeats 64000000
set_option maxRecDepth 100000
set_option linter.unusedSimpArgs false
set_option linter.unusedVariables false
def mac (key data : List UInt8) : List UInt8 := sha (tb key 92 ++ sha (tb key 54 ++ data))
theorem mac_len (key data) : (mac key data).length = 32 := sha_len _
theorem z25_len : z25.length = 32 := rfl
theorem z25_drop : z25.drop 32 = [] := rfl
theorem z23_len : z23.length = 32 := rfl
theorem z23_drop : z23.drop 32 = [] := rfl
theorem z23_plain : z23.all AV.plain = true := by kernel_rfl
theorem z23_u8s : z23 = u8s (List.replicate 32 0) := by kernel_rfl
theorem mac10_of (Φ : Nat → Option FnF) (K : Nat) (F21 F8 : CallF) (G21 G8 : InlF) (h21 : Φ 21 = some ⟨F21, G21⟩) (h8 : Φ 8 = some ⟨F8, G8⟩) (C : List AV) (pk : C.all AV.plain = true) (kl : C.length = 32) (s B1 B2 : ByteArray) (d : List UInt8) (hd : d.length = 32) (R : List AV) (pr : R.all AV.plain = true) (lr : R.length = 32)
    (c1 : F21 [.agg C, .int .u8 54] = some (.str B1, [])) (c2 : F21 [.agg C, .int .u8 92] = some (.str B2, []))
    (o1 : F8 [.ro true 1 [[.str B1], [.str s]]] = some (.agg (u8s d), [])) (o2 : F8 [.ro true 1 [[.str B2], [.str ⟨d.toArray⟩]]] = some (.agg R, [])) :
    evFun Φ K a10 [.agg C, .str s] = some (.agg R, []) := by
  have kt : C.take 32 = C := List.take_of_length_le (by omega)
  have pd := u8s_plain d
  have dl : (u8s d).length = 32 := by rw [u8s_len, hd]
  have dt : (u8s d).take 32 = u8s d := List.take_of_length_le (by omega)
  have dm := u8s_map d
  have dr := toBytes_rows d
  have rt : R.take 32 = R := List.take_of_length_le (by omega)
  generalize u8s d = D at *
  simp -implicitDefEqProofs [a10, Tryd.c10, h21, h8, c1, c2, o1, o2, kl, kt, dl, dt, dm, dr, lr, rt, pd, plains_cells pk, plains_in pk, plains_low pk, plains_lend pk, plains_cells pd, plains_in pd, plains_low pd, plains_cells pr, plains_in pr, plains_low pr, plains_mv pr, z25_len, z25_drop]
theorem mac10 (n : Nat) (key data : List UInt8) (hk : key.length = 32) (hd : data.length ≤ 90000) : E (n + 6) 10 [.agg (u8s key), .str ⟨data.toArray⟩] = some (.agg (u8s (mac key data)), []) := by
  rw [e10]
  exact mac10_of _ _ _ _ _ _ (q21 (n + 4)) (q8 (n + 4)) _ (u8s_plain _) (by rw [u8s_len, hk]) _ _ _ (sha (tb key 54 ++ data)) (sha_len _) _ (u8s_plain _) (by rw [u8s_len, mac_len])
    (block21t (n + 4) key hk 54) (block21t (n + 4) key hk 92)
    (of10' n (.ro true 1 (strRows [tb key 54, data])) [tb key 54, data] (tb key 54 ++ data) (.ro true _) (by simp) (by simp) (by simp [tb_len]; omega))
    (of10' n (.ro true 1 (strRows [tb key 92, sha (tb key 54 ++ data)])) [tb key 92, sha (tb key 54 ++ data)] (tb key 92 ++ sha (tb key 54 ++ data)) (.ro true _) (by simp) (by simp) (by simp [tb_len, sha_len]))
theorem text24 (n : Nat) (a : List UInt8) (ha : a.length = 32) : E (n + 1) 24 [.agg (u8s a)] = some (.str ⟨a.toArray⟩, []) := by
  rw [e24]
  have pa := u8s_plain a
  have la : (u8s a).length = 32 := by rw [u8s_len, ha]
  have ta : (u8s a).take 32 = u8s a := List.take_of_length_le (by omega)
  have ma := u8s_map a
  have ra := toBytes_rows a
  simp -implicitDefEqProofs [a24, Tryd.c24, plains_cells pa, plains_in pa, la, ta, ma, ra, pa]
theorem mac11_of (Φ : Nat → Option FnF) (K : Nat) (F23 F22 F24 : CallF) (G23 G22 G24 : InlF) (h23 : Φ 23 = some ⟨F23, G23⟩) (h22 : Φ 22 = some ⟨F22, G22⟩) (h24 : Φ 24 = some ⟨F24, G24⟩) (C : List AV) (pk : C.all AV.plain = true) (kl : C.length = 32) (s B1 B2 S1 S2 T : ByteArray) (D : List AV) (pd : D.all AV.plain = true) (dl : D.length = 32) (R : List AV) (pr : R.all AV.plain = true) (lr : R.length = 32)
    (c1 : F23 [.agg C, .int .u8 54] = some (.str B1, [])) (c2 : F23 [.agg C, .int .u8 92] = some (.str B2, []))
    (a1 : astr .add B1 s = some (.str S1)) (a2 : astr .add B2 T = some (.str S2)) (t1 : F24 [.agg D] = some (.str T, []))
    (o1 : F22 [.str S1] = some (.agg D, [])) (o2 : F22 [.str S2] = some (.agg R, [])) :
    evFun Φ K a11 [.agg C, .str s] = some (.agg R, []) := by
  have kt : C.take 32 = C := List.take_of_length_le (by omega)
  have dt : D.take 32 = D := List.take_of_length_le (by omega)
  have rt : R.take 32 = R := List.take_of_length_le (by omega)
  simp -implicitDefEqProofs [a11, Tryd.c11, h23, h22, h24, c1, c2, a1, a2, t1, o1, o2, kl, kt, dl, dt, lr, rt, plains_cells pk, plains_in pk, plains_low pk, plains_lend pk, plains_cells pd, plains_in pd, plains_low pd, plains_lend pd, plains_cells pr, plains_in pr, plains_low pr, plains_mv pr, z25_len, z25_drop, abin]
/-- what Same has gathered -/
def acc (a b : List UInt8) : Nat → UInt8
  | 0 => 0
  | i + 1 => acc a b i ||| (a.getD i 0 ^^^ b.getD i 0)
theorem acc_zero (a b : List UInt8) : ∀ i, acc a b i = 0 ↔ ∀ j, j < i → a.getD j 0 = b.getD j 0
  | 0 => by simp [acc]
  | i + 1 => by
    rw [acc, UInt8.or_eq_zero_iff, acc_zero a b i, UInt8.xor_eq_zero_iff]
    constructor
    · rintro ⟨h1, h2⟩ j hj
      by_cases e : j = i
      · subst e; exact h2
      · exact h1 j (by omega)
    · intro h; exact ⟨fun j hj => h j (by omega), h i (by omega)⟩
theorem acc_eq (a b : List UInt8) (ha : a.length = 32) (hb : b.length = 32) : acc a b 32 = 0 ↔ a = b := by
  rw [acc_zero]
  constructor
  · intro h
    apply List.ext_getElem (by omega)
    intro j h1 h2
    have := h j (by omega)
    simpa [List.getD, h1, h2] using this
  · rintro rfl j _; rfl
theorem step12 (Φ : Nat → Option FnF) (K : Nat) (a b : List UInt8) (ha : a.length = 32) (hb : b.length = 32) (g2 g3 c k i : Nat) (hi : i < 32) (x : UInt8) (hg2 : g2 < c) (hg3 : g3 < c) :
    iter (ev Φ K b12_0) [2, 3, 4, 5, 7] [2, 3] (k + 1) ⟨[(2, .ptr 2 g2 0), (3, .ptr 3 g3 0), (4, .bool false), (5, .int .u8 x.toNat), (7, .int .i64 i)], [⟨2, g2, .var (u8s a)⟩, ⟨3, g3, .var (u8s b)⟩], c⟩ =
    iter (ev Φ K b12_0) [2, 3, 4, 5, 7] [2, 3] k ⟨[(2, .ptr 2 g2 0), (3, .ptr 3 g3 0), (4, .bool false), (5, .int .u8 (x ||| (a.getD i 0 ^^^ b.getD i 0)).toNat), (7, .int .i64 (i + 1 : Nat))], [⟨2, g2, .var (u8s a)⟩, ⟨3, g3, .var (u8s b)⟩], c⟩ := by
  have h1 : (i : Int) < 32 := by omega
  have w1 : IntKind.i64.wrap ((i : Int) + 1) = (i : Int) + 1 := wrap_i64 _ (by omega) (by omega)
  have a0 := u8s_at (l := a) (i := i) (by omega)
  have a1 := (List.getElem?_eq_some_iff.1 a0).2
  have b0 := u8s_at (l := b) (i := i) (by omega)
  have b1 := (List.getElem?_eq_some_iff.1 b0).2
  have la : (u8s a).length = 32 := by rw [u8s_len, ha]
  have lb : (u8s b).length = 32 := by rw [u8s_len, hb]
  have pa := u8s_plain a
  have pb := u8s_plain b
  have bx := b_xor (a.getD i 0) (b.getD i 0)
  have bo := b_or x (a.getD i 0 ^^^ b.getD i 0)
  generalize u8s a = A at *
  generalize u8s b = B at *
  generalize (x ||| (a.getD i 0 ^^^ b.getD i 0)).toNat = r at *
  generalize (a.getD i 0 ^^^ b.getD i 0).toNat = y at *
  generalize (a.getD i 0).toNat = u at *
  generalize (b.getD i 0).toNat = v at *
  generalize x.toNat = w at *
  apply iter_norm
  simp -implicitDefEqProofs [b12_0, St.keep, h1, hi, w1, a0, a1, b0, b1, la, lb, bx, bo, hg2, hg3, plains_low pa, plains_low pb, abin]
theorem loop12 (Φ : Nat → Option FnF) (K : Nat) (a b : List UInt8) (ha : a.length = 32) (hb : b.length = 32) (g2 g3 c : Nat) (hg2 : g2 < c) (hg3 : g3 < c) : ∀ (d i k : Nat), i + d = 32 → d < k →
    iter (ev Φ K b12_0) [2, 3, 4, 5, 7] [2, 3] k ⟨[(2, .ptr 2 g2 0), (3, .ptr 3 g3 0), (4, .bool false), (5, .int .u8 (acc a b i).toNat), (7, .int .i64 i)], [⟨2, g2, .var (u8s a)⟩, ⟨3, g3, .var (u8s b)⟩], c⟩ =
    some (.exit 0, ⟨[(2, .ptr 2 g2 0), (3, .ptr 3 g3 0), (4, .bool false), (5, .int .u8 (acc a b 32).toNat), (7, .int .i64 32), (8, .bool false)], [⟨2, g2, .var (u8s a)⟩, ⟨3, g3, .var (u8s b)⟩], c⟩)
  | 0, i, 0, hi, hk => by omega
  | 0, i, k + 1, hi, hk => by
    obtain rfl : i = 32 := by omega
    rw [iter_succ]
    generalize acc a b 32 = x
    simp -implicitDefEqProofs [b12_0, abin]
  | d + 1, i, 0, hi, hk => by omega
  | d + 1, i, k + 1, hi, hk => by
    rw [step12 Φ K a b ha hb g2 g3 c k i (by omega) (acc a b i) hg2 hg3]
    exact loop12 Φ K a b ha hb g2 g3 c hg2 hg3 d (i + 1) k (by omega) (by omega)
theorem u8_zero (x : UInt8) : ((x.toNat : Int) == 0) = decide (x = 0) := by
  by_cases h : x = 0
  · subst h; rfl
  · have : x.toNat ≠ 0 := fun e => h (UInt8.toNat_inj.1 (by rw [e]; rfl))
    rw [decide_eq_false h, beq_eq_false_iff_ne]
    omega
theorem same12 (n : Nat) (a b : List UInt8) (ha : a.length = 32) (hb : b.length = 32) : E (n + 1) 12 [.agg (u8s a), .agg (u8s b)] = some (.bool (decide (a = b)), []) := by
  rw [e12]
  have lb := loop12 (Q n) 3000 a b ha hb 0 1 2 (by omega) (by omega) 32 0 3000 (by omega) (by omega)
  have hz := u8_zero (acc a b 32)
  have he : decide (acc a b 32 = 0) = decide (a = b) := decide_eq_decide.2 (acc_eq a b ha hb)
  rw [he] at hz
  have pa := u8s_plain a
  have pb := u8s_plain b
  have hacc : acc a b 0 = 0 := rfl
  rw [hacc] at lb
  generalize acc a b 32 = x at *
  generalize u8s a = A at *
  generalize u8s b = B at *
  have hb' : ∃ e, ev (Q n) 3000 a12.code ⟨[(0, .agg A), (1, .agg B)], [], 0⟩ = some (.ret, ⟨(4, .bool (decide (a = b))) :: e, [], 2⟩) := by
    refine ⟨[(5, .int .u8 x.toNat), (20, .int .u8 x.toNat), (21, .bool (decide (a = b)))], ?_⟩
    rw [show a12.code = Tryd.c12 from rfl, Tryd.c12]
    refine ev_seqN (s1 := ⟨[(0, .agg A), (1, .agg B), (2, .ptr 2 0 0), (3, .ptr 3 1 0), (4, .bool false)], [⟨2, 0, .var A⟩, ⟨3, 1, .var B⟩], 2⟩) (by simp [plains_cells pa, plains_cells pb]) ?_
    refine ev_seqN (s1 := ⟨[(0, .agg A), (1, .agg B), (2, .ptr 2 0 0), (3, .ptr 3 1 0), (4, .bool false), (5, .int .u8 0)], [⟨2, 0, .var A⟩, ⟨3, 1, .var B⟩], 2⟩) (by simp) ?_
    refine ev_seqN (ev_loopN (by simp [St.keep]) lb) ?_
    refine ev_keepN ?_
    simp -implicitDefEqProofs [hz, abin]
  obtain ⟨e, hb'⟩ := hb'
  refine fun_of (q := ([.agg A, .agg B], [], 0)) (by simp [a12]) (by simp [plains_in pa, plains_in pb]) hb' (.inr rfl) ?_
  simp -implicitDefEqProofs [a12]
end Go.Abs.Tryd

namespace Go.Abs.Tryd
open Go Go.Abs Go.Proofs Go.Abs.Sha
set_option maxHeartbeats 64000000
set_option maxRecDepth 100000
set_option linter.unusedSimpArgs false
set_option linter.unusedVariables false
/-- may there be such a node? -/
def okn (r m : Int) : Prop := 1 ≤ r ∧ r ≤ 5 ∧ 1 ≤ m ∧ m ≤ 3
instance (r m : Int) : Decidable (okn r m) := by unfold okn; infer_instance
def kd (r m : Int) : List UInt8 := [75, UInt8.ofNat r.toNat, UInt8.ofNat m.toNat]
def tkey (key : List UInt8) (r m : Int) : List UInt8 := if okn r m then mac key (kd r m) else List.replicate 32 0
theorem tkey_len (key r m) : (tkey key r m).length = 32 := by unfold tkey; split <;> simp [mac_len]
def tkE (r m : Int) : Int := if okn r m then 0 else 50
theorem kd_bytes (r m : Int) (h : okn r m) : IntKind.u8.wrap r = r ∧ IntKind.u8.wrap m = m ∧ toBytes [[.int .u8 75], [.int .u8 r], [.int .u8 m]] = some (kd r m) := by
  unfold okn at h
  refine ⟨by rw [wrap_u8]; omega, by rw [wrap_u8]; omega, ?_⟩
  simp [toBytes, kd]
theorem key13_bad (Φ : Nat → Option FnF) (K : Nat) (C : List AV) (pk : C.all AV.plain = true) (r m : Int) (h : ¬ okn r m) : evFun Φ K a13 [.agg C, .int .i64 r, .int .i64 m] = some (.tup [.agg z23, .int .i64 50], []) := by
  unfold okn at h
  have zt : z23.take 32 = z23 := List.take_of_length_le (by rw [z23_len]; omega)
  by_cases h1 : r < 1
  · simp -implicitDefEqProofs [a13, Tryd.c13, h1, plains_cells pk, plains_in pk, plains_cells z23_plain, plains_mv z23_plain, z23_len, z23_drop, zt, abin]
  by_cases h2 : 5 < r
  · simp -implicitDefEqProofs [a13, Tryd.c13, h1, h2, plains_cells pk, plains_in pk, plains_cells z23_plain, plains_mv z23_plain, z23_len, z23_drop, zt, abin]
  by_cases h3 : m < 1
  · simp -implicitDefEqProofs [a13, Tryd.c13, h1, h2, h3, plains_cells pk, plains_in pk, plains_cells z23_plain, plains_mv z23_plain, z23_len, z23_drop, zt, abin]
  have h4 : 3 < m := by omega
  simp -implicitDefEqProofs [a13, Tryd.c13, h1, h2, h3, h4, plains_cells pk, plains_in pk, plains_cells z23_plain, plains_mv z23_plain, z23_len, z23_drop, zt, abin]
theorem key13_ok (Φ : Nat → Option FnF) (K : Nat) (F10 : CallF) (G10 : InlF) (h10 : Φ 10 = some ⟨F10, G10⟩) (C : List AV) (pk : C.all AV.plain = true) (kl : C.length = 32) (r m : Int) (h : okn r m) (R : List AV) (pr : R.all AV.plain = true) (lr : R.length = 32)
    (o : F10 [.agg C, .str ⟨(kd r m).toArray⟩] = some (.agg R, [])) : evFun Φ K a13 [.agg C, .int .i64 r, .int .i64 m] = some (.tup [.agg R, .int .i64 0], []) := by
  obtain ⟨w1, w2, tb⟩ := kd_bytes r m h
  unfold okn at h
  have h1 : ¬ r < 1 := by omega
  have h2 : ¬ 5 < r := by omega
  have h3 : ¬ m < 1 := by omega
  have h4 : ¬ 3 < m := by omega
  have kt : C.take 32 = C := List.take_of_length_le (by omega)
  have rt : R.take 32 = R := List.take_of_length_le (by omega)
  simp -implicitDefEqProofs [a13, Tryd.c13, h10, o, h1, h2, h3, h4, w1, w2, tb, kl, kt, lr, rt, plains_cells pk, plains_in pk, plains_lend pk, plains_cells pr, plains_in pr, plains_mv pr, plains_cells z23_plain, plains_mv z23_plain, z23_len, z23_drop, abin]
theorem key13 (n : Nat) (key : List UInt8) (hk : key.length = 32) (r m : Int) : E (n + 7) 13 [.agg (u8s key), .int .i64 r, .int .i64 m] = some (.tup [.agg (u8s (tkey key r m)), .int .i64 (tkE r m)], []) := by
  rw [e13]
  by_cases h : okn r m
  · rw [tkey, tkE, if_pos h, if_pos h]
    exact key13_ok _ _ _ _ (q10 (n + 5)) _ (u8s_plain _) (by rw [u8s_len, hk]) r m h _ (u8s_plain _) (by rw [u8s_len, mac_len]) (mac10 n key (kd r m) hk (by simp [kd]))
  · rw [tkey, tkE, if_neg h, if_neg h, ← z23_u8s]
    exact key13_bad _ _ _ (u8s_plain _) r m h
theorem owner14 (n : Nat) (r m : Int) : E (n + 1) 14 [.int .i64 r, .int .i64 m] = some (.bool (decide (okn r m)), []) := by
  rw [e14]
  by_cases h1 : 1 ≤ r
  · by_cases h2 : r ≤ 5
    · by_cases h3 : 1 ≤ m
      · by_cases h4 : m ≤ 3
        · have h : okn r m := ⟨h1, h2, h3, h4⟩
          simp -implicitDefEqProofs [a14, Tryd.c14, h, h1, h2, h3, h4, abin]
        · have h : ¬ okn r m := fun h => h4 h.2.2.2
          simp -implicitDefEqProofs [a14, Tryd.c14, h, h1, h2, h3, h4, abin]
      · have h : ¬ okn r m := fun h => h3 h.2.2.1
        simp -implicitDefEqProofs [a14, Tryd.c14, h, h1, h2, h3, abin]
    · have h : ¬ okn r m := fun h => h2 h.2.1
      simp -implicitDefEqProofs [a14, Tryd.c14, h, h1, h2, abin]
  · have h : ¬ okn r m := fun h => h1 h.1
    simp -implicitDefEqProofs [a14, Tryd.c14, h, h1, abin]
theorem key15_of (Φ : Nat → Option FnF) (K : Nat) (F11 : CallF) (G11 : InlF) (h11 : Φ 11 = some ⟨F11, G11⟩) (C : List AV) (pk : C.all AV.plain = true) (kl : C.length = 32) (r m : Int) (h : okn r m) (R : List AV) (pr : R.all AV.plain = true) (lr : R.length = 32)
    (o : F11 [.agg C, .str ⟨(kd r m).toArray⟩] = some (.agg R, [])) : evFun Φ K a15 [.agg C, .int .i64 r, .int .i64 m] = some (.agg R, []) := by
  obtain ⟨w1, w2, tb⟩ := kd_bytes r m h
  have kt : C.take 32 = C := List.take_of_length_le (by omega)
  have rt : R.take 32 = R := List.take_of_length_le (by omega)
  simp -implicitDefEqProofs [a15, Tryd.c15, h11, o, w1, w2, tb, kl, kt, lr, rt, plains_cells pk, plains_in pk, plains_lend pk, plains_cells pr, plains_in pr, plains_mv pr, plains_cells z23_plain, plains_mv z23_plain, z23_len, z23_drop, abin]
def hold (key : List UInt8) (r m : Int) (data t : List UInt8) : Int := if okn r m then (if mac (tkey key r m) data = t then 0 else 72) else 50
theorem holds16_of (Φ : Nat → Option FnF) (K : Nat) (F10 F12 F13 : CallF) (G10 G12 G13 : InlF) (h10 : Φ 10 = some ⟨F10, G10⟩) (h12 : Φ 12 = some ⟨F12, G12⟩) (h13 : Φ 13 = some ⟨F13, G13⟩) (C T N : List AV) (pk : C.all AV.plain = true) (kl : C.length = 32) (pt : T.all AV.plain = true) (tl : T.length = 32) (pn : N.all AV.plain = true) (nl : N.length = 32)
    (r m e : Int) (he : e = 0 ∨ e = 50) (s : ByteArray) (R : List AV) (pr : R.all AV.plain = true) (lr : R.length = 32) (b : Bool)
    (o13 : F13 [.agg C, .int .i64 r, .int .i64 m] = some (.tup [.agg N, .int .i64 e], []))
    (o10 : F10 [.agg N, .str s] = some (.agg R, [])) (o12 : F12 [.agg R, .agg T] = some (.bool b, [])) :
    evFun Φ K a16 [.agg C, .int .i64 r, .int .i64 m, .str s, .agg T] = some (.int .i64 (if e = 0 then (if b = true then 0 else 72) else 50), []) := by
  have kt : C.take 32 = C := List.take_of_length_le (by omega)
  have tt : T.take 32 = T := List.take_of_length_le (by omega)
  have nt : N.take 32 = N := List.take_of_length_le (by omega)
  rcases he with rfl | rfl
  · cases b <;> simp -implicitDefEqProofs [a16, Tryd.c16, h10, h12, h13, o10, o12, o13, kl, kt, tl, tt, nl, nt, plains_cells pk, plains_in pk, plains_low pk, plains_lend pk, plains_cells pt, plains_in pt, plains_low pt, plains_lend pt, plains_cells pn, plains_in pn, plains_low pn, plains_lend pn, plains_in pr, plains_low pr, plains_lend pr, z23_len, z23_drop, abin]
  · simp -implicitDefEqProofs [a16, Tryd.c16, h10, h12, h13, o10, o12, o13, kl, kt, tl, tt, nl, nt, plains_cells pk, plains_in pk, plains_low pk, plains_lend pk, plains_cells pt, plains_in pt, plains_low pt, plains_lend pt, plains_cells pn, plains_in pn, plains_low pn, plains_lend pn, plains_in pr, plains_low pr, plains_lend pr, z23_len, z23_drop, abin]
theorem holds16 (n : Nat) (key t data : List UInt8) (hk : key.length = 32) (ht : t.length = 32) (hd : data.length ≤ 90000) (r m : Int) : E (n + 8) 16 [.agg (u8s key), .int .i64 r, .int .i64 m, .str ⟨data.toArray⟩, .agg (u8s t)] = some (.int .i64 (hold key r m data t), []) := by
  rw [e16]
  have h := holds16_of _ 3000 _ _ _ _ _ _ (q10 (n + 6)) (q12 (n + 6)) (q13 (n + 6)) _ _ _ (u8s_plain key) (by rw [u8s_len, hk]) (u8s_plain t) (by rw [u8s_len, ht]) (u8s_plain (tkey key r m)) (by rw [u8s_len, tkey_len]) r m (tkE r m) (by unfold tkE; split <;> simp) ⟨data.toArray⟩ _ (u8s_plain _) (by rw [u8s_len, mac_len]) _
    (key13 n key hk r m) (mac10 (n + 1) (tkey key r m) data (tkey_len _ _ _) hd) (same12 (n + 6) (mac (tkey key r m) data) t (mac_len _ _) ht)
  rw [show (if tkE r m = 0 then (if decide (mac (tkey key r m) data = t) = true then (0 : Int) else 72) else 50) = hold key r m data t by
    unfold tkE hold
    by_cases ho : okn r m
    · simp [ho]
    · simp [ho]] at h
  exact h
theorem holds17_of (Φ : Nat → Option FnF) (K : Nat) (F11 F14 F15 : CallF) (G11 G14 G15 : InlF) (h11 : Φ 11 = some ⟨F11, G11⟩) (h14 : Φ 14 = some ⟨F14, G14⟩) (h15 : Φ 15 = some ⟨F15, G15⟩) (C T N : List AV) (pk : C.all AV.plain = true) (kl : C.length = 32) (pt : T.all AV.plain = true) (tl : T.length = 32) (pn : N.all AV.plain = true)
    (r m : Int) (s : ByteArray) (R : List AV) (pr : R.all AV.plain = true) (lr : R.length = 32) (b : Bool)
    (o14 : F14 [.int .i64 r, .int .i64 m] = some (.bool true, [])) (o15 : F15 [.agg C, .int .i64 r, .int .i64 m] = some (.agg N, []))
    (o11 : F11 [.agg N, .str s] = some (.agg R, [])) (hb : aeqCells k32 R T = some b) :
    evFun Φ K a17 [.agg C, .int .i64 r, .int .i64 m, .str s, .agg T] = some (.int .i64 (if b = true then 0 else 72), []) := by
  have kt : C.take 32 = C := List.take_of_length_le (by omega)
  have tt : T.take 32 = T := List.take_of_length_le (by omega)
  cases b <;> simp -implicitDefEqProofs [a17, Tryd.c17, h11, h14, h15, o11, o14, o15, hb, kl, kt, tl, tt, lr, plains_cells pk, plains_in pk, plains_low pk, plains_lend pk, plains_cells pt, plains_in pt, plains_low pt, plains_lend pt, plains_in pn, plains_low pn, plains_lend pn, plains_in pr, plains_low pr, plains_lend pr, abin]
theorem holds17_no (Φ : Nat → Option FnF) (K : Nat) (F14 : CallF) (G14 : InlF) (h14 : Φ 14 = some ⟨F14, G14⟩) (C T : List AV) (pk : C.all AV.plain = true) (pt : T.all AV.plain = true)
    (r m : Int) (s : ByteArray) (o14 : F14 [.int .i64 r, .int .i64 m] = some (.bool false, [])) :
    evFun Φ K a17 [.agg C, .int .i64 r, .int .i64 m, .str s, .agg T] = some (.int .i64 50, []) := by
  simp -implicitDefEqProofs [a17, Tryd.c17, h14, o14, plains_cells pk, plains_in pk, plains_cells pt, plains_in pt, abin]
/-- equality of two rows of bytes -/
theorem aeq_bytes : ∀ a b : List UInt8, a.length = b.length → aeqCells (List.replicate a.length 0) (u8s a) (u8s b) = some (decide (a = b))
  | [], [], _ => rfl
  | x :: a, y :: b, h => by
    have ih := aeq_bytes a b (by simpa using h)
    have e1 : u8s (x :: a) = .int .u8 x.toNat :: u8s a := rfl
    have e2 : u8s (y :: b) = .int .u8 y.toNat :: u8s b := rfl
    rw [List.length_cons, List.replicate_succ, e1, e2, aeqCells, aeq1]
    by_cases hxy : x = y
    · subst hxy
      simp [ih]
    · have : ((x.toNat : Int) == (y.toNat : Int)) = false := by
        rw [beq_eq_false_iff_ne]; intro e; exact hxy (UInt8.toNat_inj.1 (by omega))
      simp [this, hxy]
theorem aeq32 (a b : List UInt8) (ha : a.length = 32) (hb : b.length = 32) : aeqCells k32 (u8s a) (u8s b) = some (decide (a = b)) := by
  have := aeq_bytes a b (by omega)
  rw [ha] at this
  exact this
end Go.Abs.Tryd

namespace Go.Abs.Tryd
open Go Go.Abs Go.Proofs Go.Abs.Sha
set_option maxHeartbeats 64000000
set_option maxRecDepth 100000
set_option linter.unusedSimpArgs false
set_option linter.unusedVariables false
abbrev zk : List UInt8 := List.replicate 32 0
theorem mac_zero : mac zk [] = [182, 19, 103, 154, 8, 20, 217, 236, 119, 47, 149, 215, 120, 195, 95, 197, 255, 22, 151, 196, 147, 113, 86, 83, 198, 199, 18, 20, 66, 146, 197, 173] := by decide +kernel
theorem hex_zero (n : Nat) : E (n + 1) 20 [.agg (u8s [182, 19, 103, 154, 8, 20, 217, 236, 119, 47, 149, 215, 120, 195, 95, 197, 255, 22, 151, 196, 147, 113, 86, 83, 198, 199, 18, 20, 66, 146, 197, 173])] = some (.str ⟨#[98, 54, 49, 51, 54, 55, 57, 97, 48, 56, 49, 52, 100, 57, 101, 99, 55, 55, 50, 102, 57, 53, 100, 55, 55, 56, 99, 51, 53, 102, 99, 53, 102, 102, 49, 54, 57, 55, 99, 52, 57, 51, 55, 49, 53, 54, 53, 51, 99, 54, 99, 55, 49, 50, 49, 52, 52, 50, 57, 50, 99, 53, 97, 100]⟩, []) := by kernel_rfl
theorem macs_of (Φ : Nat → Option FnF) (K : Nat) (F13 F10 F20 : CallF) (G13 G10 G20 : InlF) (h13 : Φ 13 = some ⟨F13, G13⟩) (h10 : Φ 10 = some ⟨F10, G10⟩) (h20 : Φ 20 = some ⟨F20, G20⟩) (N1 N2 N3 D : List AV) (p1 : N1.all AV.plain = true) (l1 : N1.length = 32) (p2 : N2.all AV.plain = true) (l2 : N2.length = 32) (p3 : N3.all AV.plain = true) (l3 : N3.length = 32) (pd : D.all AV.plain = true)
    (o1 : F13 [.agg z23, .int .i64 0, .int .i64 1] = some (.tup [.agg N1, .int .i64 50], [])) (o2 : F13 [.agg z23, .int .i64 1, .int .i64 4] = some (.tup [.agg N2, .int .i64 50], [])) (o3 : F13 [.agg z23, .int .i64 5, .int .i64 3] = some (.tup [.agg N3, .int .i64 0], []))
    (o10 : F10 [.agg z23, .str ⟨#[]⟩] = some (.agg D, [])) (o20 : F20 [.agg D] = some (.str ⟨#[98, 54, 49, 51, 54, 55, 57, 97, 48, 56, 49, 52, 100, 57, 101, 99, 55, 55, 50, 102, 57, 53, 100, 55, 55, 56, 99, 51, 53, 102, 99, 53, 102, 102, 49, 54, 57, 55, 99, 52, 57, 51, 55, 49, 53, 54, 53, 51, 99, 54, 99, 55, 49, 50, 49, 52, 52, 50, 57, 50, 99, 53, 97, 100]⟩, [])) : evFun Φ K a9 [] = some (.bool true, []) := by
  simp -implicitDefEqProofs [a9, Tryd.c9, h13, h10, h20, o1, o2, o3, o10, o20, plains_cells p1, plains_in p1, plains_cells p2, plains_in p2, plains_cells p3, plains_in p3, plains_in pd, plains_lend pd, plains_lend z23_plain, l1, l2, l3, z23_len, z23_drop, abin]
theorem macs9 (n : Nat) : E (n + 8) 9 [] = some (.bool true, []) := by
  rw [e9]
  have k (r m : Int) : E (n + 7) 13 [.agg z23, .int .i64 r, .int .i64 m] = some (.tup [.agg (u8s (tkey zk r m)), .int .i64 (tkE r m)], []) := by rw [z23_u8s]; exact key13 n zk (by simp) r m
  have o10 : E (n + 7) 10 [.agg z23, .str ⟨#[]⟩] = some (.agg (u8s (mac zk [])), []) := by rw [z23_u8s]; exact mac10 (n + 1) zk [] (by simp) (by simp)
  have x1 : tkE 0 1 = 50 := by decide
  have x2 : tkE 1 4 = 50 := by decide
  have x3 : tkE 5 3 = 0 := by decide
  have o1 := k 0 1
  have o2 := k 1 4
  have o3 := k 5 3
  rw [x1] at o1
  rw [x2] at o2
  rw [x3] at o3
  rw [mac_zero] at o10
  exact macs_of _ _ _ _ _ _ _ _ (q13 (n + 6)) (q10 (n + 6)) (q20 (n + 6)) _ _ _ _ (u8s_plain _) (by rw [u8s_len, tkey_len]) (u8s_plain _) (by rw [u8s_len, tkey_len]) (u8s_plain _) (by rw [u8s_len, tkey_len]) (u8s_plain _) o1 o2 o3 o10 (hex_zero _)

theorem law7_long (Φ : Nat → Option FnF) (K : Nat) (C T U : List AV) (pk : C.all AV.plain = true) (pt : T.all AV.plain = true) (pu : U.all AV.plain = true) (r m : Int) (s : ByteArray) (hs : 16384 < (s.size : Int)) :
    evFun Φ K a7 [.agg C, .int .i64 r, .int .i64 m, .str s, .agg T, .agg U] = some (.bool true, []) := by
  simp -implicitDefEqProofs [a7, Tryd.c7, hs, plains_cells pk, plains_in pk, plains_low pk, plains_lend pk, plains_mv pk, plains_cells pt, plains_in pt, plains_low pt, plains_lend pt, plains_mv pt, plains_cells pu, plains_in pu, plains_low pu, plains_lend pu, plains_mv pu, abin]
theorem law7_of (Φ : Nat → Option FnF) (K : Nat) (F16 F9 : CallF) (G16 G9 : InlF) (h16 : Φ 16 = some ⟨F16, G16⟩) (h9 : Φ 9 = some ⟨F9, G9⟩) (C T U : List AV) (pk : C.all AV.plain = true) (kl : C.length = 32) (pt : T.all AV.plain = true) (tl : T.length = 32) (pu : U.all AV.plain = true) (ul : U.length = 32) (r m : Int) (s : ByteArray) (hs : ¬ 16384 < (s.size : Int)) (e1 e2 : Int)
    (o1 : F16 [.agg C, .int .i64 r, .int .i64 m, .str s, .agg T] = some (.int .i64 e1, [])) (o2 : F16 [.agg C, .int .i64 r, .int .i64 m, .str s, .agg U] = some (.int .i64 e2, [])) (o9 : F9 [] = some (.bool true, []))
    (hq : e1 = 0 → e2 = 0 → aeqCells k32 T U = some true) : evFun Φ K a7 [.agg C, .int .i64 r, .int .i64 m, .str s, .agg T, .agg U] = some (.bool true, []) := by
  have kt : C.take 32 = C := List.take_of_length_le (by omega)
  have tt : T.take 32 = T := List.take_of_length_le (by omega)
  have ut : U.take 32 = U := List.take_of_length_le (by omega)
  by_cases h1 : e1 = 0
  · by_cases h2 : e2 = 0
    · have hq' := hq h1 h2
      subst h1
      subst h2
      simp -implicitDefEqProofs [a7, Tryd.c7, h16, h9, hs, o1, o2, o9, hq', kl, kt, tl, tt, ul, ut, plains_cells pk, plains_in pk, plains_low pk, plains_lend pk, plains_mv pk, plains_cells pt, plains_in pt, plains_low pt, plains_lend pt, plains_mv pt, plains_cells pu, plains_in pu, plains_low pu, plains_lend pu, plains_mv pu, abin]
    · have h2' : (e2 == 0) = false := by rw [beq_eq_false_iff_ne]; exact h2
      have h2n : (e2 != 0) = true := by simp [bne, h2']
      subst h1
      simp -implicitDefEqProofs [a7, Tryd.c7, h16, h9, hs, o1, o2, o9, h2, h2', h2n, kl, kt, tl, tt, ul, ut, plains_cells pk, plains_in pk, plains_low pk, plains_lend pk, plains_mv pk, plains_cells pt, plains_in pt, plains_low pt, plains_lend pt, plains_mv pt, plains_cells pu, plains_in pu, plains_low pu, plains_lend pu, plains_mv pu, abin]
  · have h1' : (e1 == 0) = false := by rw [beq_eq_false_iff_ne]; exact h1
    have h1n : (e1 != 0) = true := by simp [bne, h1']
    simp -implicitDefEqProofs [a7, Tryd.c7, h16, h9, hs, o1, o2, o9, h1, h1', h1n, kl, kt, tl, tt, ul, ut, plains_cells pk, plains_in pk, plains_low pk, plains_lend pk, plains_mv pk, plains_cells pt, plains_in pt, plains_low pt, plains_lend pt, plains_mv pt, plains_cells pu, plains_in pu, plains_low pu, plains_lend pu, plains_mv pu, abin]
theorem hold_zero {key t data : List UInt8} {r m : Int} (h : hold key r m data t = 0) : okn r m ∧ mac (tkey key r m) data = t := by
  unfold hold at h
  by_cases h1 : okn r m
  · rw [if_pos h1] at h
    by_cases h2 : mac (tkey key r m) data = t
    · exact ⟨h1, h2⟩
    · rw [if_neg h2] at h; cases h
  · rw [if_neg h1] at h; cases h
theorem law7 (x0 x1 x2 x3 x4 x5 : AV) (o0 : ∃ cs, x0 = .agg cs ∧ okRow (List.replicate 32 (.int .u8)) cs) (o1 : okRow [.int .i64] [x1]) (o2 : okRow [.int .i64] [x2]) (o3 : okRow [.str] [x3]) (o4 : ∃ cs, x4 = .agg cs ∧ okRow (List.replicate 32 (.int .u8)) cs) (o5 : ∃ cs, x5 = .agg cs ∧ okRow (List.replicate 32 (.int .u8)) cs) : E 11 7 [x0, x1, x2, x3, x4, x5] = some (.bool true, []) := by
  obtain ⟨cs, rfl, h0⟩ := o0
  obtain ⟨key, hk, rfl⟩ := ok_bytes 32 cs h0
  obtain ⟨r, vs, e1, _, _⟩ := o1.int
  obtain ⟨rfl, _⟩ : x1 = .int .i64 r ∧ _ := by simpa using e1
  obtain ⟨m, vs2, e2, _, _⟩ := o2.int
  obtain ⟨rfl, _⟩ : x2 = .int .i64 m ∧ _ := by simpa using e2
  obtain ⟨s, vs3, e3, _, _⟩ := o3.str
  obtain ⟨rfl, _⟩ : x3 = .str s ∧ _ := by simpa using e3
  obtain ⟨ct, rfl, h4⟩ := o4
  obtain ⟨t, ht, rfl⟩ := ok_bytes 32 ct h4
  obtain ⟨cu, rfl, h5⟩ := o5
  obtain ⟨u, hu, rfl⟩ := ok_bytes 32 cu h5
  obtain ⟨l, rfl⟩ := mkB s
  rw [e7]
  by_cases hs : 16384 < (((⟨l.toArray⟩ : ByteArray).size : Nat) : Int)
  · exact law7_long _ _ _ _ _ (u8s_plain _) (u8s_plain _) (u8s_plain _) r m _ hs
  · have hl : l.length ≤ 90000 := by rw [size_of] at hs; omega
    refine law7_of _ _ _ _ _ _ (q16 9) (q9 9) _ _ _ (u8s_plain _) (by rw [u8s_len, hk]) (u8s_plain _) (by rw [u8s_len, ht]) (u8s_plain _) (by rw [u8s_len, hu]) r m _ hs _ _ (holds16 2 key t l hk ht hl r m) (holds16 2 key u l hk hu hl r m) (macs9 2) ?_
    intro z1 z2
    rw [aeq32 t u ht hu, decide_eq_true ((hold_zero z1).2.symm.trans (hold_zero z2).2)]
theorem ref7 : Refines Go.Proofs.Tryd.prog 7 (E 11 7) := ref 11 7 (q7 10)
theorem law4_long (Φ : Nat → Option FnF) (K : Nat) (C T U : List AV) (pk : C.all AV.plain = true) (pt : T.all AV.plain = true) (pu : U.all AV.plain = true) (s : ByteArray) (hs : 16384 < (s.size : Int)) :
    evFun Φ K a4 [.agg C, .str s, .agg T, .agg U] = some (.bool true, []) := by
  simp -implicitDefEqProofs [a4, Tryd.c4, hs, plains_cells pk, plains_in pk, plains_low pk, plains_lend pk, plains_mv pk, plains_cells pt, plains_in pt, plains_low pt, plains_lend pt, plains_mv pt, plains_cells pu, plains_in pu, plains_low pu, plains_lend pu, plains_mv pu, abin]
theorem law4_of (Φ : Nat → Option FnF) (K : Nat) (F9 F10 F11 F12 : CallF) (G9 G10 G11 G12 : InlF) (h9 : Φ 9 = some ⟨F9, G9⟩) (h10 : Φ 10 = some ⟨F10, G10⟩) (h11 : Φ 11 = some ⟨F11, G11⟩) (h12 : Φ 12 = some ⟨F12, G12⟩) (C T U R : List AV) (pk : C.all AV.plain = true) (kl : C.length = 32) (pt : T.all AV.plain = true) (tl : T.length = 32) (pu : U.all AV.plain = true) (ul : U.length = 32) (pr : R.all AV.plain = true) (rl : R.length = 32) (s : ByteArray) (hs : ¬ 16384 < (s.size : Int)) (b : Bool)
    (o9 : F9 [] = some (.bool true, [])) (o10 : F10 [.agg C, .str s] = some (.agg R, [])) (o11 : F11 [.agg C, .str s] = some (.agg R, [])) (o12 : F12 [.agg T, .agg U] = some (.bool b, [])) (o12' : F12 [.agg T, .agg T] = some (.bool true, []))
    (k1 : aeqCells k32 R R = some true) (k2 : aeqCells k32 T U = some b) : evFun Φ K a4 [.agg C, .str s, .agg T, .agg U] = some (.bool true, []) := by
  have kt : C.take 32 = C := List.take_of_length_le (by omega)
  have tt : T.take 32 = T := List.take_of_length_le (by omega)
  have ut : U.take 32 = U := List.take_of_length_le (by omega)
  cases b <;> simp -implicitDefEqProofs [a4, Tryd.c4, h9, h10, h11, h12, hs, o9, o10, o11, o12, o12', k1, k2, kl, kt, tl, tt, ul, ut, rl, plains_cells pk, plains_in pk, plains_low pk, plains_lend pk, plains_mv pk, plains_cells pt, plains_in pt, plains_low pt, plains_lend pt, plains_mv pt, plains_cells pu, plains_in pu, plains_low pu, plains_lend pu, plains_mv pu, plains_cells pr, plains_in pr, plains_low pr, plains_lend pr, plains_mv pr, abin]
end Go.Abs.Tryd

namespace Go.Abs.Tryd
open Go Go.Abs Go.Proofs Go.Abs.Sha
set_option maxHeartbeats 64000000
set_option maxRecDepth 100000
set_option linter.unusedSimpArgs false
set_option linter.unusedVariables false
theorem law5_long (Φ : Nat → Option FnF) (K : Nat) (C T : List AV) (pk : C.all AV.plain = true) (pt : T.all AV.plain = true) (r m : Int) (s : ByteArray) (hs : 16384 < (s.size : Int)) :
    evFun Φ K a5 [.agg C, .int .i64 r, .int .i64 m, .str s, .agg T] = some (.bool true, []) := by
  simp -implicitDefEqProofs [a5, Tryd.c5, hs, plains_cells pk, plains_in pk, plains_low pk, plains_lend pk, plains_mv pk, plains_cells pt, plains_in pt, plains_low pt, plains_lend pt, plains_mv pt, abin]
theorem law5_ok (Φ : Nat → Option FnF) (K : Nat) (F9 F13 F14 F15 F16 F17 : CallF) (G9 G13 G14 G15 G16 G17 : InlF) (h9 : Φ 9 = some ⟨F9, G9⟩) (h13 : Φ 13 = some ⟨F13, G13⟩) (h14 : Φ 14 = some ⟨F14, G14⟩) (h15 : Φ 15 = some ⟨F15, G15⟩) (h16 : Φ 16 = some ⟨F16, G16⟩) (h17 : Φ 17 = some ⟨F17, G17⟩) (C T N : List AV) (pk : C.all AV.plain = true) (kl : C.length = 32) (pt : T.all AV.plain = true) (tl : T.length = 32) (pn : N.all AV.plain = true) (nl : N.length = 32) (r m : Int) (s : ByteArray) (hs : ¬ 16384 < (s.size : Int)) (e : Int)
    (o9 : F9 [] = some (.bool true, [])) (o13 : F13 [.agg C, .int .i64 r, .int .i64 m] = some (.tup [.agg N, .int .i64 0], [])) (o14 : F14 [.int .i64 r, .int .i64 m] = some (.bool true, [])) (o15 : F15 [.agg C, .int .i64 r, .int .i64 m] = some (.agg N, []))
    (o16 : F16 [.agg C, .int .i64 r, .int .i64 m, .str s, .agg T] = some (.int .i64 e, [])) (o17 : F17 [.agg C, .int .i64 r, .int .i64 m, .str s, .agg T] = some (.int .i64 e, [])) (k1 : aeqCells k32 N N = some true) :
    evFun Φ K a5 [.agg C, .int .i64 r, .int .i64 m, .str s, .agg T] = some (.bool true, []) := by
  have kt : C.take 32 = C := List.take_of_length_le (by omega)
  have tt : T.take 32 = T := List.take_of_length_le (by omega)
  have nt : N.take 32 = N := List.take_of_length_le (by omega)
  simp -implicitDefEqProofs [a5, Tryd.c5, h9, h13, h14, h15, h16, h17, hs, o9, o13, o14, o15, o16, o17, k1, kl, kt, tl, tt, nl, nt, plains_cells pk, plains_in pk, plains_low pk, plains_lend pk, plains_mv pk, plains_cells pt, plains_in pt, plains_low pt, plains_lend pt, plains_mv pt, plains_cells pn, plains_in pn, plains_low pn, plains_lend pn, plains_mv pn, plains_cells z23_plain, plains_in z23_plain, plains_low z23_plain, plains_lend z23_plain, plains_mv z23_plain, z23_len, z23_drop, abin]
theorem law5_no (Φ : Nat → Option FnF) (K : Nat) (F9 F13 F14 F16 F17 : CallF) (G9 G13 G14 G16 G17 : InlF) (h9 : Φ 9 = some ⟨F9, G9⟩) (h13 : Φ 13 = some ⟨F13, G13⟩) (h14 : Φ 14 = some ⟨F14, G14⟩) (h16 : Φ 16 = some ⟨F16, G16⟩) (h17 : Φ 17 = some ⟨F17, G17⟩) (C T : List AV) (pk : C.all AV.plain = true) (kl : C.length = 32) (pt : T.all AV.plain = true) (tl : T.length = 32) (r m : Int) (s : ByteArray) (hs : ¬ 16384 < (s.size : Int)) (e : Int)
    (o9 : F9 [] = some (.bool true, [])) (o13 : F13 [.agg C, .int .i64 r, .int .i64 m] = some (.tup [.agg z23, .int .i64 50], [])) (o14 : F14 [.int .i64 r, .int .i64 m] = some (.bool false, []))
    (o16 : F16 [.agg C, .int .i64 r, .int .i64 m, .str s, .agg T] = some (.int .i64 e, [])) (o17 : F17 [.agg C, .int .i64 r, .int .i64 m, .str s, .agg T] = some (.int .i64 e, [])) (k1 : aeqCells k32 z23 z23 = some true) :
    evFun Φ K a5 [.agg C, .int .i64 r, .int .i64 m, .str s, .agg T] = some (.bool true, []) := by
  have kt : C.take 32 = C := List.take_of_length_le (by omega)
  have tt : T.take 32 = T := List.take_of_length_le (by omega)
  have zt : z23.take 32 = z23 := List.take_of_length_le (by rw [z23_len]; omega)
  simp -implicitDefEqProofs [a5, Tryd.c5, h9, h13, h14, h16, h17, hs, o9, o13, o14, o16, o17, k1, kl, kt, tl, tt, zt, plains_cells pk, plains_in pk, plains_low pk, plains_lend pk, plains_mv pk, plains_cells pt, plains_in pt, plains_low pt, plains_lend pt, plains_mv pt, plains_cells z23_plain, plains_in z23_plain, plains_low z23_plain, plains_lend z23_plain, plains_mv z23_plain, z23_len, z23_drop, abin]
theorem law6_skip (Φ : Nat → Option FnF) (K : Nat) (C : List AV) (pk : C.all AV.plain = true) (r m a y : Int) (s : ByteArray) (hs : 16384 < (s.size : Int) ∨ a < 0 ∨ 32 ≤ a) :
    evFun Φ K a6 [.agg C, .int .i64 r, .int .i64 m, .str s, .int .i64 a, .int .u8 y] = some (.bool true, []) := by
  by_cases h1 : 16384 < (s.size : Int)
  · simp -implicitDefEqProofs [a6, Tryd.c6, h1, plains_cells pk, plains_in pk, plains_low pk, plains_lend pk, plains_mv pk, abin]
  by_cases h2 : a < 0
  · simp -implicitDefEqProofs [a6, Tryd.c6, h1, h2, plains_cells pk, plains_in pk, plains_low pk, plains_lend pk, plains_mv pk, abin]
  have h3 : 32 ≤ a := by omega
  simp -implicitDefEqProofs [a6, Tryd.c6, h1, h2, h3, plains_cells pk, plains_in pk, plains_low pk, plains_lend pk, plains_mv pk, abin]
theorem law6_no (Φ : Nat → Option FnF) (K : Nat) (F9 F10 F13 F16 : CallF) (G9 G10 G13 G16 : InlF) (h9 : Φ 9 = some ⟨F9, G9⟩) (h10 : Φ 10 = some ⟨F10, G10⟩) (h13 : Φ 13 = some ⟨F13, G13⟩) (h16 : Φ 16 = some ⟨F16, G16⟩) (C N T : List AV) (pk : C.all AV.plain = true) (kl : C.length = 32) (pn : N.all AV.plain = true) (nl : N.length = 32) (pt : T.all AV.plain = true) (tl : T.length = 32) (r m a y : Int) (s : ByteArray) (h1 : ¬ 16384 < (s.size : Int)) (h2 : ¬ a < 0) (h3 : ¬ 32 ≤ a)
    (o9 : F9 [] = some (.bool true, [])) (o13 : F13 [.agg C, .int .i64 r, .int .i64 m] = some (.tup [.agg N, .int .i64 50], [])) (o10 : F10 [.agg N, .str s] = some (.agg T, [])) (o16 : F16 [.agg C, .int .i64 r, .int .i64 m, .str s, .agg T] = some (.int .i64 50, [])) :
    evFun Φ K a6 [.agg C, .int .i64 r, .int .i64 m, .str s, .int .i64 a, .int .u8 y] = some (.bool true, []) := by
  have kt : C.take 32 = C := List.take_of_length_le (by omega)
  have nt : N.take 32 = N := List.take_of_length_le (by omega)
  have tt : T.take 32 = T := List.take_of_length_le (by omega)
  simp -implicitDefEqProofs [a6, Tryd.c6, h9, h10, h13, h16, o9, o10, o13, o16, h1, h2, h3, kl, kt, nl, nt, tl, tt, plains_cells pk, plains_in pk, plains_low pk, plains_lend pk, plains_mv pk, plains_cells pn, plains_in pn, plains_low pn, plains_lend pn, plains_mv pn, plains_cells pt, plains_in pt, plains_low pt, plains_lend pt, plains_mv pt, z23_len, z23_drop, z25_len, z25_drop, abin]
theorem law6_of (Φ : Nat → Option FnF) (K : Nat) (F9 F10 F12 F13 F16 : CallF) (G9 G10 G12 G13 G16 : InlF) (h9 : Φ 9 = some ⟨F9, G9⟩) (h10 : Φ 10 = some ⟨F10, G10⟩) (h12 : Φ 12 = some ⟨F12, G12⟩) (h13 : Φ 13 = some ⟨F13, G13⟩) (h16 : Φ 16 = some ⟨F16, G16⟩) (C N T U : List AV) (pk : C.all AV.plain = true) (kl : C.length = 32) (pn : N.all AV.plain = true) (nl : N.length = 32) (pt : T.all AV.plain = true) (tl : T.length = 32) (pu : U.all AV.plain = true) (ul : U.length = 32) (r m y x z : Int) (i : Nat) (hi : i < 32) (s : ByteArray) (h1 : ¬ 16384 < (s.size : Int)) (b : Bool) (hb : (y == 0) = b)
    (ti : T[i]? = some (.int .u8 x)) (bx : abits .xor .u8 x y = some (.int .u8 z)) (hu : T.take i ++ AV.int .u8 z :: T.drop (i + 1) = U)
    (o9 : F9 [] = some (.bool true, [])) (o13 : F13 [.agg C, .int .i64 r, .int .i64 m] = some (.tup [.agg N, .int .i64 0], [])) (o10 : F10 [.agg N, .str s] = some (.agg T, [])) (o16 : F16 [.agg C, .int .i64 r, .int .i64 m, .str s, .agg T] = some (.int .i64 0, []))
    (o16' : F16 [.agg C, .int .i64 r, .int .i64 m, .str s, .agg U] = some (.int .i64 (if b = true then 0 else 72), [])) (o12 : F12 [.agg T, .agg U] = some (.bool b, [])) :
    evFun Φ K a6 [.agg C, .int .i64 r, .int .i64 m, .str s, .int .i64 i, .int .u8 y] = some (.bool true, []) := by
  have kt : C.take 32 = C := List.take_of_length_le (by omega)
  have nt : N.take 32 = N := List.take_of_length_le (by omega)
  have tt : T.take 32 = T := List.take_of_length_le (by omega)
  have ut : U.take 32 = U := List.take_of_length_le (by omega)
  have h2 : ¬ (i : Int) < 0 := by omega
  have h3 : ¬ (32 : Int) ≤ (i : Int) := by omega
  have ti2 := (List.getElem?_eq_some_iff.1 ti).2
  have p1 : i + 1 ≤ 32 := by omega
  cases b <;> simp -implicitDefEqProofs [a6, Tryd.c6, h9, h10, h12, h13, h16, o9, o10, o12, o13, o16, o16', hb, ti, ti2, bx, hu, p1, hi, h1, h2, h3, kl, kt, nl, nt, tl, tt, ul, ut, plains_cells pk, plains_in pk, plains_low pk, plains_lend pk, plains_mv pk, plains_cells pn, plains_in pn, plains_low pn, plains_lend pn, plains_mv pn, plains_cells pt, plains_in pt, plains_low pt, plains_lend pt, plains_mv pt, plains_cells pu, plains_in pu, plains_low pu, plains_lend pu, plains_mv pu, z23_len, z23_drop, z25_len, z25_drop, abin]
theorem set_u8s (t : List UInt8) (i : Nat) (z : UInt8) (h : i < t.length) : (u8s t).take i ++ AV.int .u8 ((z.toNat : Nat) : Int) :: (u8s t).drop (i + 1) = u8s (t.set i z) := by
  rw [List.set_eq_take_append_cons_drop, if_pos h]
  simp [u8s]
theorem set_same (t : List UInt8) (i : Nat) (h : i < t.length) (y : UInt8) : (t = t.set i (t.getD i 0 ^^^ y)) ↔ y = 0 := by
  constructor
  · intro e
    have := congrArg (fun l => l.getD i 0) e
    simp only [List.getD_eq_getElem?_getD, List.getElem?_set_self h, Option.getD_some] at this
    generalize (t[i]?.getD 0) = x at this
    have h2 : x ^^^ (x ^^^ y) = x ^^^ x := by rw [← this]
    rw [← UInt8.xor_assoc, UInt8.xor_self, UInt8.zero_xor] at h2
    exact h2
  · rintro rfl
    have : t.getD i 0 = t[i] := by simp [List.getD, h]
    rw [UInt8.xor_zero, this, List.set_getElem_self]
theorem law6 (x0 x1 x2 x3 x4 x5 : AV) (o0 : ∃ cs, x0 = .agg cs ∧ okRow (List.replicate 32 (.int .u8)) cs) (o1 : okRow [.int .i64] [x1]) (o2 : okRow [.int .i64] [x2]) (o3 : okRow [.str] [x3]) (o4 : okRow [.int .i64] [x4]) (o5 : okRow [.int .u8] [x5]) : E 11 6 [x0, x1, x2, x3, x4, x5] = some (.bool true, []) := by
  obtain ⟨cs, rfl, h0⟩ := o0
  obtain ⟨key, hk, rfl⟩ := ok_bytes 32 cs h0
  obtain ⟨r, vs, e1, _, _⟩ := o1.int
  obtain ⟨rfl, _⟩ : x1 = .int .i64 r ∧ _ := by simpa using e1
  obtain ⟨m, vs2, e2, _, _⟩ := o2.int
  obtain ⟨rfl, _⟩ : x2 = .int .i64 m ∧ _ := by simpa using e2
  obtain ⟨s, vs3, e3, _, _⟩ := o3.str
  obtain ⟨rfl, _⟩ : x3 = .str s ∧ _ := by simpa using e3
  obtain ⟨a, vs4, e4', _, _⟩ := o4.int
  obtain ⟨rfl, _⟩ : x4 = .int .i64 a ∧ _ := by simpa using e4'
  obtain ⟨ds, hd, e5'⟩ := ok_bytes 1 [x5] o5
  obtain ⟨y, rfl⟩ : ∃ y, ds = [y] := by
    match ds, hd with
    | [y], _ => exact ⟨y, rfl⟩
  obtain rfl : x5 = .int .u8 y.toNat := by simpa [u8s] using e5'
  obtain ⟨l, rfl⟩ := mkB s
  rw [e6]
  by_cases hs : 16384 < (((⟨l.toArray⟩ : ByteArray).size : Nat) : Int) ∨ a < 0 ∨ 32 ≤ a
  · exact law6_skip _ _ _ (u8s_plain _) r m a _ _ hs
  · have hl : l.length ≤ 90000 := by rw [size_of] at hs; omega
    have hs1 : ¬ 16384 < (((⟨l.toArray⟩ : ByteArray).size : Nat) : Int) := fun h => hs (.inl h)
    obtain ⟨i, rfl⟩ : ∃ i : Nat, a = i := ⟨a.toNat, by omega⟩
    have hi : i < 32 := by omega
    have k13 := key13 3 key hk r m
    have k10 := mac10 4 (tkey key r m) l (tkey_len _ _ _) hl
    by_cases ho : okn r m
    · rw [tkE, if_pos ho] at k13
      have hh : ∀ t : List UInt8, hold key r m l t = if decide (mac (tkey key r m) l = t) = true then 0 else 72 := by
        intro t; unfold hold; simp [ho]
      have ht := mac_len (tkey key r m) l
      have hA : ∀ T : List UInt8, T.length = 32 → E 10 16 [.agg (u8s key), .int .i64 r, .int .i64 m, .str ⟨l.toArray⟩, .agg (u8s T)] = some (.int .i64 (if decide (mac (tkey key r m) l = T) = true then 0 else 72), []) := by
        intro T hT; rw [← hh]; exact holds16 2 key T l hk hT hl r m
      have h1 := hA _ ht
      rw [decide_eq_true rfl, if_pos rfl] at h1
      generalize mac (tkey key r m) l = t at *
      have hset : (t.set i (t.getD i 0 ^^^ y)).length = 32 := by simp [ht]
      have hss := set_same t i (by omega) y
      have hdec : decide (t = t.set i (t.getD i 0 ^^^ y)) = decide (y = 0) := decide_eq_decide.2 hss
      have h2 := hA _ hset
      rw [hdec] at h2
      have h12 := same12 9 t _ ht hset
      rw [hdec] at h12
      exact law6_of _ _ _ _ _ _ _ _ _ _ _ _ (q9 9) (q10 9) (q12 9) (q13 9) (q16 9) _ _ _ _ (u8s_plain _) (by rw [u8s_len, hk]) (u8s_plain _) (by rw [u8s_len, tkey_len]) (u8s_plain _) (by rw [u8s_len, ht]) (u8s_plain _) (by rw [u8s_len, hset]) r m _ _ _ i hi _ hs1 (decide (y = 0)) (u8_zero y) (u8s_at (by omega)) (b_xor _ y) (set_u8s t i _ (by omega)) (macs9 2) k13 k10 h1 h2 h12
    · rw [tkE, if_neg ho] at k13
      have h1 := holds16 2 key (mac (tkey key r m) l) l hk (mac_len _ _) hl r m
      rw [show hold key r m l (mac (tkey key r m) l) = 50 by unfold hold; rw [if_neg ho]] at h1
      exact law6_no _ _ _ _ _ _ _ _ _ _ (q9 9) (q10 9) (q13 9) (q16 9) _ _ _ (u8s_plain _) (by rw [u8s_len, hk]) (u8s_plain _) (by rw [u8s_len, tkey_len]) (u8s_plain _) (by rw [u8s_len, mac_len]) r m _ _ _ hs1 (by omega) (by omega) (macs9 2) k13 k10 h1
theorem ref6 : Refines Go.Proofs.Tryd.prog 6 (E 11 6) := ref 11 6 (q6 10)
end Go.Abs.Tryd

namespace Go.Abs.Tryd
open Go Go.Abs Go.Proofs Go.Abs.Sha
set_option maxHeartbeats 64000000
set_option maxRecDepth 100000
set_option linter.unusedSimpArgs false
set_option linter.unusedVariables false
theorem rows_set (X : List UInt8) (i : Nat) (v : UInt8) : (byteRows X).set i [.int .u8 v.toNat] = byteRows (X.set i v) := by simp [byteRows, List.map_set]
theorem rows_set_at {X : List UInt8} {i : Nat} (v : UInt8) (h : i < X.length) : (byteRows (X.set i v))[i]? = some [.int .u8 v.toNat] := by
  rw [rows_at (by simpa using h)]
  simp [List.getD, h]
theorem step3 (Φ : Nat → Option FnF) (K : Nat) (key : List UInt8) (hk : key.length = 32) (s : ByteArray) (g2 gA gB c k i : Nat) (hi : i < 64) (X Y : List UInt8) (hX : X.length = 64) (hY : Y.length = 64) :
    iter (ev Φ K b3_0) [1, 2, 4, 5, 6, 7] [2, 12, 13] (k + 1) ⟨[(1, .str s), (2, .ptr 2 g2 0), (5, .own 12 gA 0 64), (6, .own 13 gB 0 64), (7, .int .i64 i)], [⟨2, g2, .var (u8s key)⟩, ⟨12, gA, .arr 1 (byteRows X) false⟩, ⟨13, gB, .arr 1 (byteRows Y) false⟩], c⟩ =
    iter (ev Φ K b3_0) [1, 2, 4, 5, 6, 7] [2, 12, 13] k ⟨[(1, .str s), (2, .ptr 2 g2 0), (5, .own 12 gA 0 64), (6, .own 13 gB 0 64), (7, .int .i64 (i + 1 : Nat))], [⟨2, g2, .var (u8s key)⟩, ⟨12, gA, .arr 1 (byteRows (X.set i (kk key i ^^^ 54))) false⟩, ⟨13, gB, .arr 1 (byteRows (Y.set i (kk key i ^^^ 92))) false⟩], c⟩ := by
  have h1 : (i : Int) < 64 := by omega
  have w1 : IntKind.i64.wrap ((i : Int) + 1) = (i : Int) + 1 := wrap_i64 _ (by omega) (by omega)
  have x0 := rows_at (l := X) (i := i) (by omega)
  have x1 : (byteRows X).set i [.int .u8 54] = byteRows (X.set i 54) := rows_set X i 54
  have x2 : (byteRows (X.set i 54))[i]? = some [.int .u8 54] := rows_set_at 54 (by omega)
  have x3 := rows_set (X.set i 54) i (kk key i ^^^ 54)
  rw [List.set_set] at x3
  have y0 := rows_at (l := Y) (i := i) (by omega)
  have y1 : (byteRows Y).set i [.int .u8 92] = byteRows (Y.set i 92) := rows_set Y i 92
  have y2 : (byteRows (Y.set i 92))[i]? = some [.int .u8 92] := rows_set_at 92 (by omega)
  have y3 := rows_set (Y.set i 92) i (kk key i ^^^ 92)
  rw [List.set_set] at y3
  have x0' := (List.getElem?_eq_some_iff.1 x0).2
  have x2' := (List.getElem?_eq_some_iff.1 x2).2
  have y0' := (List.getElem?_eq_some_iff.1 y0).2
  have y2' := (List.getElem?_eq_some_iff.1 y2).2
  have xl : i < (byteRows X).length := by rw [rows_len]; omega
  have yl : i < (byteRows Y).length := by rw [rows_len]; omega
  have xl2 : i < (byteRows (X.set i 54)).length := by rw [rows_len]; simp; omega
  have yl2 : i < (byteRows (Y.set i 92)).length := by rw [rows_len]; simp; omega
  have dl : (u8s key).length = 32 := by rw [u8s_len, hk]
  by_cases h32 : i < 32
  · have h2 : (i : Int) < 32 := by omega
    have a0 : (u8s key)[i]? = some (.int .u8 (kk key i).toNat) := by
      rw [u8s_at (by omega)]; unfold kk; rw [if_pos h32]
    have b0 := (List.getElem?_eq_some_iff.1 a0).2
    have bx : abits .xor .u8 ((kk key i).toNat : Int) 54 = some (.int .u8 ((kk key i ^^^ 54).toNat : Nat)) := b_xor (kk key i) 54
    have by' : abits .xor .u8 ((kk key i).toNat : Int) 92 = some (.int .u8 ((kk key i ^^^ 92).toNat : Nat)) := b_xor (kk key i) 92
    generalize byteRows (X.set i (kk key i ^^^ 54)) = X3 at *
    generalize byteRows (Y.set i (kk key i ^^^ 92)) = Y3 at *
    generalize byteRows (X.set i 54) = X2 at *
    generalize byteRows (Y.set i 92) = Y2 at *
    generalize byteRows X = X1 at *
    generalize byteRows Y = Y1 at *
    generalize (kk key i ^^^ 54).toNat = p at *
    generalize (kk key i ^^^ 92).toNat = q at *
    generalize (kk key i).toNat = u at *
    generalize u8s key = C at *
    apply iter_norm
    simp -implicitDefEqProofs [b3_0, St.keep, h1, h2, h32, hi, w1, x0, x1, x2, x3, y0, y1, y2, y3, x0', x2', y0', y2', xl, yl, xl2, yl2, dl, a0, b0, bx, by', abin]
  · have h2 : ¬ (i : Int) < 32 := by omega
    have hz : kk key i = 0 := by unfold kk; rw [if_neg (by omega)]
    have e54 : (0 ^^^ 54 : UInt8) = 54 := by decide
    have e92 : (0 ^^^ 92 : UInt8) = 92 := by decide
    rw [hz, e54, e92]
    generalize byteRows (X.set i 54) = X2 at *
    generalize byteRows (Y.set i 92) = Y2 at *
    generalize byteRows X = X1 at *
    generalize byteRows Y = Y1 at *
    generalize u8s key = C at *
    apply iter_norm
    simp -implicitDefEqProofs [b3_0, St.keep, h1, h2, h32, hi, w1, x0, x1, y0, y1, x0', y0', xl, yl, dl, abin]
def tbz (key : List UInt8) (y : UInt8) (i : Nat) : List UInt8 := bs 64 fun j => if j < i then kk key j ^^^ y else 0
theorem tbz_set (key : List UInt8) (y : UInt8) (i : Nat) (hi : i < 64) : (tbz key y i).set i (kk key i ^^^ y) = tbz key y (i + 1) := by
  apply List.ext_getElem?
  intro j
  rw [List.getElem?_set]
  by_cases e : i = j
  · subst e; simp [tbz, bs, hi]
  · rw [if_neg e]
    by_cases hj : j < 64
    · by_cases h : j < i
      · simp [tbz, bs, hj, h, show j < i + 1 by omega]
      · simp [tbz, bs, hj, h, show ¬ j < i + 1 by omega]
    · simp [tbz, bs, hj]
theorem tbz64 (key y) : tbz key y 64 = tb key y := by
  unfold tbz tb bs
  apply List.map_congr_left
  intro j hj
  rw [if_pos (by simpa using hj)]
theorem tbz0 (key : List UInt8) (y) : byteRows (tbz key y 0) = List.replicate 64 [.int .u8 0] := by
  have : tbz key y 0 = List.replicate 64 0 := by
    unfold tbz bs
    have e : (fun j => if j < 0 then kk key j ^^^ y else (0 : UInt8)) = fun _ => 0 := by funext j; rw [if_neg (by omega)]
    rw [e, List.map_const', List.length_range]
  rw [this]
  unfold byteRows
  rw [List.map_replicate]
  rfl
theorem loop3 (Φ : Nat → Option FnF) (K : Nat) (key : List UInt8) (hk : key.length = 32) (s : ByteArray) (g2 gA gB c : Nat) : ∀ (d i k : Nat), i + d = 64 → d < k →
    iter (ev Φ K b3_0) [1, 2, 4, 5, 6, 7] [2, 12, 13] k ⟨[(1, .str s), (2, .ptr 2 g2 0), (5, .own 12 gA 0 64), (6, .own 13 gB 0 64), (7, .int .i64 i)], [⟨2, g2, .var (u8s key)⟩, ⟨12, gA, .arr 1 (byteRows (tbz key 54 i)) false⟩, ⟨13, gB, .arr 1 (byteRows (tbz key 92 i)) false⟩], c⟩ =
    some (.exit 0, ⟨[(1, .str s), (2, .ptr 2 g2 0), (5, .own 12 gA 0 64), (6, .own 13 gB 0 64), (7, .int .i64 64), (14, .int .i64 64), (15, .bool false)], [⟨2, g2, .var (u8s key)⟩, ⟨12, gA, .arr 1 (byteRows (tb key 54)) false⟩, ⟨13, gB, .arr 1 (byteRows (tb key 92)) false⟩], c⟩)
  | 0, i, 0, hi, hk' => by omega
  | 0, i, k + 1, hi, hk' => by
    obtain rfl : i = 64 := by omega
    rw [tbz64, tbz64, iter_succ]
    generalize byteRows (tb key 54) = A
    generalize byteRows (tb key 92) = B
    simp -implicitDefEqProofs [b3_0, abin]
  | d + 1, i, 0, hi, hk' => by omega
  | d + 1, i, k + 1, hi, hk' => by
    rw [step3 Φ K key hk s g2 gA gB c k i (by omega) (tbz key 54 i) (tbz key 92 i) (bs_len _ _) (bs_len _ _), tbz_set _ _ _ (by omega), tbz_set _ _ _ (by omega)]
    exact loop3 Φ K key hk s g2 gA gB c d (i + 1) k (by omega) (by omega)
theorem ev_seqE {Φ : Nat → Option FnF} {k : Nat} {a b : AC} {s s1 : St} {p : St → Prop} (h : ev Φ k a s = some (.normal, s1)) (h2 : ∃ st, ev Φ k b s1 = some (.ret, st) ∧ p st) : ∃ st, ev Φ k (.seq a b) s = some (.ret, st) ∧ p st := by
  obtain ⟨st, h3, h4⟩ := h2
  exact ⟨st, ev_seqN h h3, h4⟩
theorem ev_keepE {Φ : Nat → Option FnF} {k : Nat} {a : AC} {kt kh : List Nat} {s : St} {p : St → Prop} (h : ∃ st, ev Φ k a ⟨envOnly kt s.env, s.h.only kh, s.c⟩ = some (.ret, st) ∧ p st) : ∃ st, ev Φ k (.keep kt kh a) s = some (.ret, st) ∧ p st := h
theorem law3_long (Φ : Nat → Option FnF) (K : Nat) (C : List AV) (pk : C.all AV.plain = true) (s : ByteArray) (hs : 16384 < (s.size : Int)) : evFun Φ K a3 [.agg C, .str s] = some (.bool true, []) := by
  simp -implicitDefEqProofs [a3, Tryd.c3, hs, plains_cells pk, plains_in pk, plains_low pk, plains_lend pk, plains_mv pk, abin]
theorem law3_of (Φ : Nat → Option FnF) (F8 F9 F10 : CallF) (G8 G9 G10 : InlF) (h8 : Φ 8 = some ⟨F8, G8⟩) (h9 : Φ 9 = some ⟨F9, G9⟩) (h10 : Φ 10 = some ⟨F10, G10⟩) (key : List UInt8) (hk : key.length = 32) (s : ByteArray) (hs : ¬ 16384 < (s.size : Int)) (d : List UInt8) (hd : d.length = 32) (R : List AV) (pr : R.all AV.plain = true) (rl : R.length = 32)
    (o8 : F8 [.ro true 1 [[.str ⟨(tb key 54).toArray⟩], [.str s]]] = some (.agg (u8s d), [])) (o9 : F9 [] = some (.bool true, [])) (o10 : F10 [.agg (u8s key), .str s] = some (.agg R, []))
    (o8' : F8 [.ro true 1 [[.str ⟨(tb key 92).toArray⟩], [.str ⟨d.toArray⟩]]] = some (.agg R, [])) (k1 : aeqCells k32 R R = some true) : evFun Φ 3000 a3 [.agg (u8s key), .str s] = some (.bool true, []) := by
  have lp := loop3 Φ 3000 key hk s 0 1 2 3 64 0 3000 (by omega) (by omega)
  rw [tbz0, tbz0] at lp
  have pk := u8s_plain key
  have kl : (u8s key).length = 32 := by rw [u8s_len, hk]
  have kt : (u8s key).take 32 = u8s key := List.take_of_length_le (by omega)
  have r1 := toBytes_rows (tb key 54)
  have r2 := toBytes_rows (tb key 92)
  have l1 : (byteRows (tb key 54)).length = 64 := by rw [rows_len, tb_len]
  have l2 : (byteRows (tb key 92)).length = 64 := by rw [rows_len, tb_len]
  have t1 : (byteRows (tb key 54)).take 64 = byteRows (tb key 54) := List.take_of_length_le (by omega)
  have t2 : (byteRows (tb key 92)).take 64 = byteRows (tb key 92) := List.take_of_length_le (by omega)
  have pd := u8s_plain d
  have dl : (u8s d).length = 32 := by rw [u8s_len, hd]
  have dt : (u8s d).take 32 = u8s d := List.take_of_length_le (by omega)
  have dm := u8s_map d
  have dr := toBytes_rows d
  have rt : R.take 32 = R := List.take_of_length_le (by omega)
  generalize hA : byteRows (tb key 54) = A at *
  generalize hB : byteRows (tb key 92) = B at *
  generalize hZ : List.replicate 64 [AV.int .u8 0] = Z at *
  generalize u8s d = D at *
  generalize u8s key = C at *
  have hb : ∃ st, ev Φ 3000 a3.code ⟨[(0, .agg C), (1, .str s)], [], 0⟩ = some (.ret, st) ∧ envGet st.env 4 = some (.bool true) := by
      rw [show a3.code = Tryd.c3 from rfl, Tryd.c3]
      refine ev_seqE (s1 := ⟨[(0, .agg C), (1, .str s), (2, .ptr 2 0 0), (4, .bool false)], [⟨2, 0, .var C⟩], 1⟩) (by simp [plains_cells pk, plains_in pk, plains_low pk, plains_lend pk, plains_mv pk]) ?_
      refine ev_seqE (s1 := ⟨[(0, .agg C), (1, .str s), (2, .ptr 2 0 0), (4, .bool false), (9, .str s), (10, .int .i64 s.size), (11, .bool false)], [⟨2, 0, .var C⟩], 1⟩) (by simp [hs, abin]) ?_
      refine ev_keepE ?_
      refine ev_seqE (s1 := ⟨[(1, .str s), (2, .ptr 2 0 0), (5, .own 12 1 0 64), (12, .own 12 1 0 64)], [⟨2, 0, .var C⟩, ⟨12, 1, .arr 1 Z false⟩], 2⟩) (by simp [-List.reduceReplicate, hZ, maxBytes]) ?_
      refine ev_seqE (s1 := ⟨[(1, .str s), (2, .ptr 2 0 0), (5, .own 12 1 0 64), (6, .own 13 2 0 64), (12, .own 12 1 0 64), (13, .own 13 2 0 64)], [⟨2, 0, .var C⟩, ⟨12, 1, .arr 1 Z false⟩, ⟨13, 2, .arr 1 Z false⟩], 3⟩) (by simp [-List.reduceReplicate, hZ, maxBytes]) ?_
      refine ev_seqE (ev_loopN (by simp [St.keep]) lp) ?_
      refine ev_keepE ?_
      refine ev_seqE (s1 := ⟨[(1, .str s), (2, .ptr 2 0 0), (5, .own 12 1 0 64), (6, .own 13 2 0 64), (8, .ptr 8 4 0), (40, .own 12 1 0 64), (41, .str ⟨(tb key 54).toArray⟩), (42, .str s), (43, .own 43 3 0 2), (44, .agg D)], [⟨2, 0, .var C⟩, ⟨8, 4, .var D⟩, ⟨12, 1, .arr 1 A false⟩, ⟨13, 2, .arr 1 B false⟩, ⟨43, 3, .arr 1 [[.str ⟨(tb key 54).toArray⟩], [.str s]] false⟩], 5⟩) (by simp -implicitDefEqProofs [h8, o8, l1, t1, r1, dl, plains_cells pd, plains_in pd, plains_low pd, plains_lend pd, plains_mv pd, z25_len, z25_drop]) ?_
      refine ev_keepE ?_
      simp -implicitDefEqProofs [h8, h9, h10, o8', o9, o10, k1, kl, kt, l2, t2, r2, dl, dt, dm, dr, rl, pd, plains_cells pk, plains_in pk, plains_low pk, plains_lend pk, plains_mv pk, plains_cells pd, plains_in pd, plains_low pd, plains_lend pd, plains_mv pd, plains_cells pr, plains_in pr, plains_low pr, plains_lend pr, plains_mv pr]
  obtain ⟨st, hb, h4⟩ := hb
  refine fun_of (q := ([.agg C, .str s], [], 0)) (by simp [a3]) (by simp [plains_in pk]) hb (.inr rfl) ?_
  simp -implicitDefEqProofs [a3, h4]
theorem law3 (x0 x1 : AV) (o0 : ∃ cs, x0 = .agg cs ∧ okRow (List.replicate 32 (.int .u8)) cs) (o1 : okRow [.str] [x1]) : E 11 3 [x0, x1] = some (.bool true, []) := by
  obtain ⟨cs, rfl, h0⟩ := o0
  obtain ⟨key, hk, rfl⟩ := ok_bytes 32 cs h0
  obtain ⟨s, vs3, e3', _, _⟩ := o1.str
  obtain ⟨rfl, _⟩ : x1 = .str s ∧ _ := by simpa using e3'
  obtain ⟨l, rfl⟩ := mkB s
  rw [e3]
  by_cases hs : 16384 < (((⟨l.toArray⟩ : ByteArray).size : Nat) : Int)
  · exact law3_long _ _ _ (u8s_plain _) _ hs
  · have hl : l.length ≤ 90000 := by rw [size_of] at hs; omega
    exact law3_of _ _ _ _ _ _ _ (q8 9) (q9 9) (q10 9) key hk _ hs (sha (tb key 54 ++ l)) (sha_len _) (u8s (mac key l)) (u8s_plain _) (by rw [u8s_len, mac_len])
      (of10' 5 (.ro true 1 (strRows [tb key 54, l])) [tb key 54, l] (tb key 54 ++ l) (.ro true _) (by simp) (by simp) (by simp [tb_len]; omega)) (macs9 2) (mac10 4 key l hk hl)
      (of10' 5 (.ro true 1 (strRows [tb key 92, sha (tb key 54 ++ l)])) [tb key 92, sha (tb key 54 ++ l)] (tb key 92 ++ sha (tb key 54 ++ l)) (.ro true _) (by simp) (by simp) (by simp [tb_len, sha_len])) (self32 _ (mac_len _ _))
theorem ref3 : Refines Go.Proofs.Tryd.prog 3 (E 11 3) := ref 11 3 (q3 10)
end Go.Abs.Tryd
