/- Simplified code of Go functions, by scode.py. -/
import Derived.Test.YtcjnmejhdoeafaaDoorEvNW
set_option linter.unusedVariables false
set_option linter.unusedSimpArgs false
namespace Go.Ev
/-- hurdle/ins.shapes: operation, word, has K, has ways. -/
def shapeRows : List (Int × List UInt8 × Bool × Bool) :=
  [(0, [108, 100], true, false),
   (1, [108, 100, 120], true, false),
   (2, [115, 116], true, false),
   (3, [115, 116, 120], true, false),
   (4, [97, 100, 100], true, false),
   (20, [115, 117, 98], true, false),
   (36, [109, 117, 108], true, false),
   (52, [100, 105, 118], true, false),
   (68, [111, 114], true, false),
   (84, [97, 110, 100], true, false),
   (100, [108, 115, 104], true, false),
   (116, [114, 115, 104], true, false),
   (164, [120, 111, 114], true, false),
   (12, [97, 100, 100, 120], false, false),
   (28, [115, 117, 98, 120], false, false),
   (44, [109, 117, 108, 120], false, false),
   (60, [100, 105, 118, 120], false, false),
   (76, [111, 114, 120], false, false),
   (92, [97, 110, 100, 120], false, false),
   (108, [108, 115, 104, 120], false, false),
   (124, [114, 115, 104, 120], false, false),
   (172, [120, 111, 114, 120], false, false),
   (132, [110, 101, 103], false, false),
   (7, [116, 97, 120], false, false),
   (135, [116, 120, 97], false, false),
   (32, [97, 98, 115], true, false),
   (96, [109, 101, 109], true, false),
   (97, [109, 101, 109, 120], true, false),
   (5, [106, 97], true, false),
   (6, [114, 101, 116], true, false),
   (22, [114, 101, 116, 97], false, false),
   (21, [106, 101, 113], true, true),
   (37, [106, 103, 116], true, true),
   (53, [106, 103, 101], true, true),
   (69, [106, 115, 101, 116], true, true),
   (29, [106, 101, 113, 120], false, true),
   (45, [106, 103, 116, 120], false, true),
   (61, [106, 103, 101, 120], false, true),
   (77, [106, 115, 101, 116, 120], false, true)]
def g_ins_shapes : List V := (shapeRows.map fun r => [V.int .i64 r.1, .str r.2.1, .bool r.2.2.1, .bool r.2.2.2]).flatten
/-- hurdle/ins.of -/
def c_ins_of : SFn := ⟨17,
  .seq (.region 1 [⟨(some 2), .alloc 0 ([.int .i64 0, .str [], .bool false, .bool false]), none⟩, ⟨(some 3), .mv (.c (.bool false)), none⟩]) (.seq (.seq
    (.region 0 [⟨(some 6), .load 156 true false (.c (.cptr g_ins_shapes)), none⟩, ⟨(some 7), .mv (.c (.int .i64 0)), none⟩]) (.block 0 (.loop [0, 2, 6, 7] (.seq
    (.region 0 [⟨(some 8), .bin .lss (.t 7) (.c (.int .i64 39)), none⟩]) (.seq (.cond (.t 8) (.skip) (.exit 0)) (.seq (.block 1 (.seq (.region 1 [⟨(some 9), .idx 39 4 true
    (.t 6) (.t 7), none⟩, ⟨(some 5), .alloc 0 ([.int .i64 0, .str [], .bool false, .bool false]), none⟩, ⟨none, .store 4 (.t 5) (.t 9), none⟩]) (.seq
    (.region 0 [⟨(some 10), .faddr 0 (.t 5), none⟩, ⟨(some 11), .load 1 false false (.t 10), none⟩, ⟨(some 12), .mv (.t 0), none⟩, ⟨(some 13), .bin .eql (.t 11) (.t 12),
   none⟩]) (.seq (.keep [0, 2, 5, 6, 7, 13]) (.cond (.t 13) (.seq (.region 0 [⟨(some 14), .load 4 true false (.t 5), none⟩, ⟨none, .store 4 (.t 2) (.t 14), none⟩,
   ⟨(some 3), .mv (.c (.bool true)), none⟩]) (.ret)) (.skip)))))) (.seq (.keep [0, 2, 6, 7]) (.region 0 [⟨(some 15), .bin .add (.t 7) (.c (.int .i64 1)), none⟩, ⟨(some 7),
   .mv (.t 15), none⟩])))))))) (.seq (.keep [2]) (.seq (.region 0 [⟨(some 16), .build ([.int .i64 0, .str [], .bool false, .bool false]) [], none⟩, ⟨none, .store 4 (.t 2)
    (.t 16), none⟩, ⟨(some 3), .mv (.c (.bool false)), none⟩]) (.ret)))),
  [.cell 2 4 true, .tmp 3]⟩
/-- hurdle/ins.Right -/
def c_ins_Right : SFn := ⟨52,
  .seq (.region 1 [⟨(some 1), .box 0 (.t 0), none⟩, ⟨(some 2), .mv (.c (.bool false)), none⟩]) (.seq (.region 1 [⟨(some 6), .faddr 0 (.t 1), none⟩, ⟨(some 7),
   .load 1 false false (.t 6), none⟩, ⟨(some 8), .pcall 139 [.t 7], none⟩, ⟨(some 5), .mv (.t 8), none⟩, ⟨(some 9), .ext 0 (.t 5), none⟩, ⟨(some 10), .ext 1 (.t 5), none⟩,
   ⟨(some 3), .alloc 0 ([.int .i64 0, .str [], .bool false, .bool false]), none⟩, ⟨none, .store 4 (.t 3) (.t 9), none⟩, ⟨(some 4), .mv (.t 10), none⟩]) (.seq (.keep [1, 3,
   4]) (.seq (.seq (.region 0 [⟨(some 11), .mv (.t 4), none⟩, ⟨(some 12), .un .not (.t 11), none⟩, ⟨(some 13), .mv (.t 12), none⟩, ⟨(some 14), .faddr 2 (.t 3), (some (13,
   false))⟩, ⟨(some 15), .load 1 false false (.t 14), (some (13, false))⟩, ⟨(some 16), .un .not (.t 15), (some (13, false))⟩, ⟨(some 17), .mv (.t 16), (some (13, false))⟩,
   ⟨(some 18), .faddr 3 (.t 1), (some (17, true))⟩, ⟨(some 19), .load 1 false false (.t 18), (some (17, true))⟩, ⟨(some 20), .bin .neq (.t 19) (.c (.int .u32 0)), (some
    (17, true))⟩, ⟨(some 21), .pick (.t 17) (.t 20) (.c (.bool false)), (some (13, false))⟩, ⟨(some 22), .pick (.t 13) (.c (.bool true)) (.t 21), none⟩]) (.seq (.keep [1,
   3, 22]) (.cond (.t 22) (.seq (.region 0 [⟨(some 2), .mv (.c (.bool false)), none⟩]) (.ret)) (.skip)))) (.seq (.keep [1, 3]) (.seq (.seq (.region 0 [⟨(some 23), .faddr 3
    (.t 3), none⟩, ⟨(some 24), .load 1 false false (.t 23), none⟩, ⟨(some 25), .un .not (.t 24), none⟩]) (.cond (.t 25) (.seq (.region 0 [⟨(some 26), .faddr 1 (.t 1),
   none⟩, ⟨(some 27), .load 1 false false (.t 26), none⟩, ⟨(some 28), .bin .eql (.t 27) (.c (.int .i64 0)), none⟩, ⟨(some 29), .mv (.t 28), none⟩, ⟨(some 30), .faddr 2
    (.t 1), (some (29, true))⟩, ⟨(some 31), .load 1 false false (.t 30), (some (29, true))⟩, ⟨(some 32), .bin .eql (.t 31) (.c (.int .i64 0)), (some (29, true))⟩,
   ⟨(some 33), .pick (.t 29) (.t 32) (.c (.bool false)), none⟩, ⟨(some 2), .mv (.t 33), none⟩]) (.ret)) (.skip))) (.seq (.keep [1]) (.seq (.region 0 [⟨(some 34), .faddr 1
    (.t 1), none⟩, ⟨(some 35), .load 1 false false (.t 34), none⟩, ⟨(some 36), .bin .geq (.t 35) (.c (.int .i64 0)), none⟩, ⟨(some 37), .mv (.t 36), none⟩, ⟨(some 38),
   .faddr 1 (.t 1), (some (37, true))⟩, ⟨(some 39), .load 1 false false (.t 38), (some (37, true))⟩, ⟨(some 40), .bin .leq (.t 39) (.c (.int .i64 255)), (some (37,
   true))⟩, ⟨(some 41), .pick (.t 37) (.t 40) (.c (.bool false)), none⟩, ⟨(some 42), .mv (.t 41), none⟩, ⟨(some 43), .faddr 2 (.t 1), (some (42, true))⟩, ⟨(some 44),
   .load 1 false false (.t 43), (some (42, true))⟩, ⟨(some 45), .bin .geq (.t 44) (.c (.int .i64 0)), (some (42, true))⟩, ⟨(some 46), .pick (.t 42) (.t 45) (.c
    (.bool false)), none⟩, ⟨(some 47), .mv (.t 46), none⟩, ⟨(some 48), .faddr 2 (.t 1), (some (47, true))⟩, ⟨(some 49), .load 1 false false (.t 48), (some (47, true))⟩,
   ⟨(some 50), .bin .leq (.t 49) (.c (.int .i64 255)), (some (47, true))⟩, ⟨(some 51), .pick (.t 47) (.t 50) (.c (.bool false)), none⟩, ⟨(some 2), .mv (.t 51), none⟩])
    (.ret)))))))),
  [.tmp 2]⟩
/-- hurdle/ins.Branch -/
def c_ins_Branch : SFn := ⟨23,
  .seq (.region 1 [⟨(some 1), .box 0 (.t 0), none⟩, ⟨(some 2), .mv (.c (.bool false)), none⟩]) (.seq (.region 1 [⟨(some 6), .faddr 0 (.t 1), none⟩, ⟨(some 7),
   .load 1 false false (.t 6), none⟩, ⟨(some 8), .pcall 139 [.t 7], none⟩, ⟨(some 5), .mv (.t 8), none⟩, ⟨(some 9), .ext 0 (.t 5), none⟩, ⟨(some 10), .ext 1 (.t 5), none⟩,
   ⟨(some 3), .alloc 0 ([.int .i64 0, .str [], .bool false, .bool false]), none⟩, ⟨none, .store 4 (.t 3) (.t 9), none⟩, ⟨(some 4), .mv (.t 10), none⟩]) (.seq (.keep [1,
   4]) (.seq (.region 0 [⟨(some 11), .mv (.t 4), none⟩, ⟨(some 12), .mv (.t 11), none⟩, ⟨(some 13), .faddr 0 (.t 1), (some (12, true))⟩, ⟨(some 14), .load 1 false false
    (.t 13), (some (12, true))⟩, ⟨(some 15), .bin .and (.t 14) (.c (.int .i64 7)), (some (12, true))⟩, ⟨(some 16), .bin .eql (.t 15) (.c (.int .i64 5)), (some (12,
   true))⟩, ⟨(some 17), .pick (.t 12) (.t 16) (.c (.bool false)), none⟩, ⟨(some 18), .mv (.t 17), none⟩, ⟨(some 19), .faddr 0 (.t 1), (some (18, true))⟩, ⟨(some 20),
   .load 1 false false (.t 19), (some (18, true))⟩, ⟨(some 21), .bin .neq (.t 20) (.c (.int .i64 5)), (some (18, true))⟩, ⟨(some 22), .pick (.t 18) (.t 21) (.c
    (.bool false)), none⟩, ⟨(some 2), .mv (.t 22), none⟩]) (.ret)))),
  [.tmp 2]⟩
/-- hurdle/ins.Ends -/
def c_ins_Ends : SFn := ⟨11,
  .seq (.region 1 [⟨(some 1), .box 0 (.t 0), none⟩, ⟨(some 2), .mv (.c (.bool false)), none⟩]) (.seq (.region 0 [⟨(some 3), .faddr 0 (.t 1), none⟩, ⟨(some 4),
   .load 1 false false (.t 3), none⟩, ⟨(some 5), .bin .eql (.t 4) (.c (.int .i64 6)), none⟩, ⟨(some 6), .mv (.t 5), none⟩, ⟨(some 7), .faddr 0 (.t 1), (some (6, false))⟩,
   ⟨(some 8), .load 1 false false (.t 7), (some (6, false))⟩, ⟨(some 9), .bin .eql (.t 8) (.c (.int .i64 22)), (some (6, false))⟩, ⟨(some 10), .pick (.t 6) (.c
    (.bool true)) (.t 9), none⟩, ⟨(some 2), .mv (.t 10), none⟩]) (.ret)),
  [.tmp 2]⟩
/-- hurdle/word.Parse -/
def c_word_Parse : SFn := ⟨64,
  .seq (.region 0 [⟨(some 2), .mv (.c (.int .u64 0)), none⟩, ⟨(some 3), .mv (.c (.int .i64 0)), none⟩]) (.seq (.seq (.region 0 [⟨(some 7), .mv (.t 0), none⟩, ⟨(some 8),
   .len true (.t 7), none⟩, ⟨(some 9), .bin .lss (.t 8) (.c (.int .i64 3)), none⟩, ⟨(some 10), .mv (.t 9), none⟩, ⟨(some 11), .mv (.t 0), (some (10, false))⟩, ⟨(some 12),
   .len true (.t 11), (some (10, false))⟩, ⟨(some 13), .bin .gtr (.t 12) (.c (.int .i64 18)), (some (10, false))⟩, ⟨(some 14), .pick (.t 10) (.c (.bool true)) (.t 13),
   none⟩, ⟨(some 15), .mv (.t 14), none⟩, ⟨(some 16), .mv (.t 0), (some (15, false))⟩, ⟨(some 17), .sslc (.t 16) none (some (.c (.int .i64 2))), (some (15, false))⟩,
   ⟨(some 18), .bin .neq (.t 17) (.c (.str [48, 120])), (some (15, false))⟩, ⟨(some 19), .pick (.t 15) (.c (.bool true)) (.t 18), none⟩, ⟨(some 20), .mv (.t 19), none⟩,
   ⟨(some 21), .mv (.t 0), (some (20, false))⟩, ⟨(some 22), .sidx (.t 21) (.c (.int .i64 2)), (some (20, false))⟩, ⟨(some 23), .bin .eql (.t 22) (.c (.int .u8 48)), (some
    (20, false))⟩, ⟨(some 24), .mv (.t 23), (some (20, false))⟩, ⟨(some 25), .mv (.t 0), (some (24, true))⟩, ⟨(some 26), .len true (.t 25), (some (24, true))⟩, ⟨(some 27),
   .bin .gtr (.t 26) (.c (.int .i64 3)), (some (24, true))⟩, ⟨(some 28), .pick (.t 24) (.t 27) (.c (.bool false)), (some (20, false))⟩, ⟨(some 29), .pick (.t 20) (.c
    (.bool true)) (.t 28), none⟩]) (.seq (.keep [0, 29]) (.cond (.t 29) (.seq (.region 0 [⟨(some 2), .mv (.c (.int .u64 0)), none⟩, ⟨(some 3), .mv (.c (.int .i64 2)),
   none⟩]) (.ret)) (.skip)))) (.seq (.keep [0]) (.seq (.region 0 [⟨(some 4), .mv (.c (.int .u64 0)), none⟩]) (.seq (.seq (.region 1 [⟨(some 30), .mv (.t 0), none⟩,
   ⟨(some 31), .sslc (.t 30) (some (.c (.int .i64 2))) none, none⟩, ⟨(some 32), .rng 0 (.t 31), none⟩]) (.block 0 (.loop [4, 32] (.seq (.region 0 [⟨(some 33), .nxt
    (.t 32), none⟩, ⟨(some 34), .ext 0 (.t 33), none⟩]) (.seq (.cond (.t 34) (.skip) (.exit 0)) (.block 1 (.seq (.region 0 [⟨(some 35), .ext 2 (.t 33), none⟩, ⟨(some 6),
   .mv (.t 35), none⟩]) (.block 2 (.seq (.region 0 [⟨(some 37), .mv (.t 6), none⟩, ⟨(some 38), .bin .geq (.t 37) (.c (.int .i32 48)), none⟩, ⟨(some 39), .mv (.t 38),
   none⟩, ⟨(some 40), .mv (.t 6), (some (39, true))⟩, ⟨(some 41), .bin .leq (.t 40) (.c (.int .i32 57)), (some (39, true))⟩, ⟨(some 42), .pick (.t 39) (.t 41) (.c
    (.bool false)), none⟩, ⟨(some 36), .mv (.t 42), none⟩]) (.seq (.keep [4, 6, 32, 36]) (.cond (.t 36) (.region 0 [⟨(some 43), .mv (.t 4), none⟩, ⟨(some 44), .bin .shl
    (.t 43) (.c (.int .u64 4)), none⟩, ⟨(some 45), .mv (.t 6), none⟩, ⟨(some 46), .bin .sub (.t 45) (.c (.int .i32 48)), none⟩, ⟨(some 47), .conv .u64 (.t 46), none⟩,
   ⟨(some 48), .bin .or (.t 44) (.t 47), none⟩, ⟨(some 4), .mv (.t 48), none⟩]) (.seq (.region 0 [⟨(some 50), .mv (.t 6), none⟩, ⟨(some 51), .bin .geq (.t 50) (.c
    (.int .i32 97)), none⟩, ⟨(some 52), .mv (.t 51), none⟩, ⟨(some 53), .mv (.t 6), (some (52, true))⟩, ⟨(some 54), .bin .leq (.t 53) (.c (.int .i32 102)), (some (52,
   true))⟩, ⟨(some 55), .pick (.t 52) (.t 54) (.c (.bool false)), none⟩, ⟨(some 49), .mv (.t 55), none⟩]) (.seq (.keep [4, 6, 32, 49]) (.cond (.t 49)
    (.region 0 [⟨(some 56), .mv (.t 4), none⟩, ⟨(some 57), .bin .shl (.t 56) (.c (.int .u64 4)), none⟩, ⟨(some 58), .mv (.t 6), none⟩, ⟨(some 59), .bin .sub (.t 58) (.c
    (.int .i32 97)), none⟩, ⟨(some 60), .bin .add (.t 59) (.c (.int .i32 10)), none⟩, ⟨(some 61), .conv .u64 (.t 60), none⟩, ⟨(some 62), .bin .or (.t 57) (.t 61), none⟩,
   ⟨(some 4), .mv (.t 62), none⟩]) (.seq (.region 0 [⟨(some 2), .mv (.c (.int .u64 0)), none⟩, ⟨(some 3), .mv (.c (.int .i64 2)), none⟩]) (.ret)))))))))))))))) (.seq
    (.keep [4]) (.seq (.region 0 [⟨(some 63), .mv (.t 4), none⟩, ⟨(some 2), .mv (.t 63), none⟩, ⟨(some 3), .mv (.c (.int .i64 0)), none⟩]) (.ret))))))),
  [.tmp 2, .tmp 3]⟩
/-- hurdle/ins.words -/
def c_ins_words : SFn := ⟨30,
  .seq (.region 0 [⟨(some 2), .mv (.c (.vs [] .full)), none⟩]) (.seq (.region 0 [⟨(some 3), .mv (.c (.vs [] .full)), none⟩]) (.seq (.region 0 [⟨(some 4), .mv (.c
    (.int .i64 0)), none⟩]) (.seq (.seq (.region 1 [⟨(some 7), .mv (.t 0), none⟩, ⟨(some 8), .rng 0 (.t 7), none⟩]) (.seq (.give 3 none) (.block 0 (.loop [0, 3, 4, 8]
    (.seq (.region 0 [⟨(some 9), .nxt (.t 8), none⟩, ⟨(some 10), .ext 0 (.t 9), none⟩]) (.seq (.cond (.t 10) (.skip) (.exit 0)) (.block 1 (.seq (.region 0 [⟨(some 11),
   .ext 1 (.t 9), none⟩, ⟨(some 12), .ext 2 (.t 9), none⟩, ⟨(some 5), .mv (.t 11), none⟩, ⟨(some 6), .mv (.t 12), none⟩]) (.seq (.region 0 [⟨(some 13), .mv (.t 6), none⟩,
   ⟨(some 14), .bin .eql (.t 13) (.c (.int .i32 32)), none⟩]) (.cond (.t 14) (.seq (.region 1 [⟨(some 15), .mv (.t 3), none⟩, ⟨(some 16), .mv (.t 0), none⟩, ⟨(some 17),
   .mv (.t 4), none⟩, ⟨(some 18), .mv (.t 5), none⟩, ⟨(some 19), .sslc (.t 16) (some (.t 17)) (some (.t 18)), none⟩, ⟨(some 20), .bslice 1 ([.str []]) [(0, .t 19)], none⟩,
   ⟨(some 21), .app 0 1 16 (.t 15) (.t 20), none⟩, ⟨(some 3), .mv (.t 21), none⟩]) (.seq (.keep [0, 3, 5, 8]) (.region 0 [⟨(some 22), .mv (.t 5), none⟩, ⟨(some 23),
   .bin .add (.t 22) (.c (.int .i64 1)), none⟩, ⟨(some 4), .mv (.t 23), none⟩]))) (.skip))))))))))) (.seq (.keep [0, 3, 4]) (.seq (.region 1 [⟨(some 24), .mv (.t 3),
   none⟩, ⟨(some 25), .mv (.t 0), none⟩, ⟨(some 26), .mv (.t 4), none⟩, ⟨(some 27), .sslc (.t 25) (some (.t 26)) none, none⟩, ⟨(some 28), .bslice 1 ([.str []]) [(0,
   .t 27)], none⟩, ⟨(some 29), .app 0 1 16 (.t 24) (.t 28), none⟩, ⟨(some 2), .mv (.t 29), none⟩]) (.ret)))))),
  [.tmp 2]⟩
/-- hurdle/ins.Parse$1 -/
def c_ins_Parse_1 : SFn := ⟨29,
  .seq (.region 0 [⟨(some 4), .mv (.c (.int .u64 0)), none⟩]) (.seq (.seq (.region 0 [⟨(some 7), .load 1 false false (.t 1), none⟩, ⟨(some 8), .len false (.t 7), none⟩,
   ⟨(some 9), .bin .eql (.t 8) (.c (.int .i64 0)), none⟩]) (.cond (.t 9) (.seq (.region 0 [⟨(some 10), .faddr 0 (.t 2), none⟩, ⟨none, .store 1 (.t 10) (.c (.int .i64
    (-1))), none⟩]) (.seq (.region 0 [⟨(some 4), .mv (.c (.int .u64 0)), none⟩]) (.ret))) (.skip))) (.seq (.keep [0, 1, 2]) (.seq (.region 0 [⟨(some 12),
   .load 1 false false (.t 1), none⟩, ⟨(some 13), .iaddr 1 (.t 12) (.c (.int .i64 0)), none⟩, ⟨(some 14), .load 1 false false (.t 13), none⟩, ⟨(some 15),
   .pcall 144 [.t 14], none⟩, ⟨(some 11), .mv (.t 15), none⟩, ⟨(some 16), .ext 0 (.t 11), none⟩, ⟨(some 17), .ext 1 (.t 11), none⟩, ⟨(some 5), .mv (.t 16), none⟩,
   ⟨(some 6), .mv (.t 17), none⟩]) (.seq (.keep [0, 1, 2, 5, 6]) (.seq (.seq (.region 0 [⟨(some 18), .mv (.t 6), none⟩, ⟨(some 19), .bin .neq (.t 18) (.c (.int .i64 0)),
   none⟩, ⟨(some 20), .mv (.t 19), none⟩, ⟨(some 21), .mv (.t 5), (some (20, false))⟩, ⟨(some 22), .mv (.t 0), (some (20, false))⟩, ⟨(some 23), .bin .gtr (.t 21) (.t 22),
   (some (20, false))⟩, ⟨(some 24), .pick (.t 20) (.c (.bool true)) (.t 23), none⟩]) (.seq (.keep [1, 2, 5, 24]) (.cond (.t 24) (.region 0 [⟨(some 25), .faddr 0 (.t 2),
   none⟩, ⟨none, .store 1 (.t 25) (.c (.int .i64 (-1))), none⟩]) (.skip)))) (.seq (.keep [1, 5]) (.seq (.region 0 [⟨(some 26), .load 1 false false (.t 1), none⟩,
   ⟨(some 27), .slc 1 (.t 26) (some (.c (.int .i64 1))) none none, none⟩, ⟨none, .store 1 (.t 1) (.t 27), none⟩]) (.seq (.region 0 [⟨(some 28), .mv (.t 5), none⟩,
   ⟨(some 4), .mv (.t 28), none⟩]) (.ret))))))))),
  [.tmp 4]⟩
/-- hurdle/ins.Parse -/
def c_ins_Parse : SFn := ⟨55,
  .seq (.region 1 [⟨(some 2), .alloc 0 ([.int .i64 0, .int .i64 0, .int .i64 0, .int .u32 0]), none⟩, ⟨(some 3), .mv (.c (.int .i64 0)), none⟩]) (.seq
    (.region 0 [⟨(some 10), .mv (.t 0), none⟩, ⟨(some 11), .pcall 145 [.t 10], none⟩, ⟨(some 4), .mv (.t 11), none⟩]) (.seq (.seq (.region 0 [⟨(some 12),
   .load 156 true false (.c (.cptr g_ins_shapes)), none⟩, ⟨(some 13), .mv (.c (.int .i64 0)), none⟩]) (.block 0 (.loop [2, 4, 12, 13] (.seq (.region 0 [⟨(some 14),
   .bin .lss (.t 13) (.c (.int .i64 39)), none⟩]) (.seq (.cond (.t 14) (.skip) (.exit 0)) (.seq (.block 1 (.seq (.region 1 [⟨(some 15), .idx 39 4 true (.t 12) (.t 13),
   none⟩, ⟨(some 6), .alloc 0 ([.int .i64 0, .str [], .bool false, .bool false]), none⟩, ⟨none, .store 4 (.t 6) (.t 15), none⟩]) (.seq (.seq (.region 0 [⟨(some 16),
   .faddr 1 (.t 6), none⟩, ⟨(some 17), .load 1 false true (.t 16), none⟩, ⟨(some 18), .mv (.t 4), none⟩, ⟨(some 19), .iaddr 1 (.t 18) (.c (.int .i64 0)), none⟩,
   ⟨(some 20), .load 1 false true (.t 19), none⟩, ⟨(some 21), .bin .neq (.t 17) (.t 20), none⟩]) (.seq (.keep [2, 4, 6, 12, 13, 21]) (.cond (.t 21) (.exit 1) (.skip))))
    (.seq (.keep [2, 4, 6]) (.seq (.region 1 [⟨(some 22), .faddr 0 (.t 6), none⟩, ⟨(some 23), .load 1 false false (.t 22), none⟩, ⟨(some 24), .build ([.int .i64 0,
   .int .i64 0, .int .i64 0, .int .u32 0]) [(0, 1, .t 23)], none⟩, ⟨(some 7), .alloc 0 ([.int .i64 0, .int .i64 0, .int .i64 0, .int .u32 0]), none⟩, ⟨none, .store 4
    (.t 7) (.t 24), none⟩]) (.seq (.keep [2, 4, 6, 7]) (.seq (.region 1 [⟨(some 25), .mv (.t 4), none⟩, ⟨(some 26), .slc 1 (.t 25) (some (.c (.int .i64 1))) none none,
   none⟩, ⟨(some 8), .alloc 0 ([.vs [] .full]), none⟩, ⟨none, .store 1 (.t 8) (.t 26), none⟩]) (.seq (.region 0 [⟨(some 27), .mkfn 146 [.t 8, .t 7], none⟩, ⟨(some 9), .mv
    (.t 27), none⟩]) (.seq (.seq (.region 0 [⟨(some 28), .faddr 2 (.t 6), none⟩, ⟨(some 29), .load 1 false false (.t 28), none⟩]) (.cond (.t 29) (.region 0 [⟨(some 30),
   .mv (.t 9), none⟩, ⟨(some 31), .vcall false (.t 30) [.c (.int .u64 4294967295)], none⟩, ⟨(some 32), .conv .u32 (.t 31), none⟩, ⟨(some 33), .faddr 3 (.t 7), none⟩,
   ⟨none, .store 1 (.t 33) (.t 32), none⟩]) (.skip))) (.seq (.keep [2, 6, 7, 8, 9]) (.seq (.seq (.region 0 [⟨(some 34), .faddr 3 (.t 6), none⟩, ⟨(some 35),
   .load 1 false false (.t 34), none⟩]) (.cond (.t 35) (.seq (.region 0 [⟨(some 36), .mv (.t 9), none⟩, ⟨(some 37), .vcall false (.t 36) [.c (.int .u64 255)], none⟩,
   ⟨(some 38), .conv .i64 (.t 37), none⟩, ⟨(some 39), .faddr 1 (.t 7), none⟩, ⟨none, .store 1 (.t 39) (.t 38), none⟩]) (.seq (.keep [2, 7, 8, 9]) (.region 0 [⟨(some 40),
   .mv (.t 9), none⟩, ⟨(some 41), .vcall false (.t 40) [.c (.int .u64 255)], none⟩, ⟨(some 42), .conv .i64 (.t 41), none⟩, ⟨(some 43), .faddr 2 (.t 7), none⟩, ⟨none,
   .store 1 (.t 43) (.t 42), none⟩]))) (.skip))) (.seq (.keep [2, 7, 8]) (.seq (.seq (.region 0 [⟨(some 44), .faddr 0 (.t 7), none⟩, ⟨(some 45), .load 1 false false
    (.t 44), none⟩, ⟨(some 46), .bin .lss (.t 45) (.c (.int .i64 0)), none⟩, ⟨(some 47), .mv (.t 46), none⟩, ⟨(some 48), .load 1 false false (.t 8), (some (47, false))⟩,
   ⟨(some 49), .len false (.t 48), (some (47, false))⟩, ⟨(some 50), .bin .gtr (.t 49) (.c (.int .i64 0)), (some (47, false))⟩, ⟨(some 51), .pick (.t 47) (.c (.bool true))
    (.t 50), none⟩]) (.seq (.keep [2, 7, 51]) (.cond (.t 51) (.exit 0) (.skip)))) (.seq (.keep [2, 7]) (.seq (.region 0 [⟨(some 52), .load 4 true false (.t 7), none⟩,
   ⟨none, .store 4 (.t 2) (.t 52), none⟩, ⟨(some 3), .mv (.c (.int .i64 0)), none⟩]) (.ret)))))))))))))))) (.seq (.keep [2, 4, 12, 13]) (.region 0 [⟨(some 53), .bin .add
    (.t 13) (.c (.int .i64 1)), none⟩, ⟨(some 13), .mv (.t 53), none⟩])))))))) (.seq (.keep [2]) (.seq (.region 0 [⟨(some 54), .build ([.int .i64 0, .int .i64 0,
   .int .i64 0, .int .u32 0]) [], none⟩, ⟨none, .store 4 (.t 2) (.t 54), none⟩, ⟨(some 3), .mv (.c (.int .i64 2)), none⟩]) (.ret))))),
  [.cell 2 4 true, .tmp 3]⟩
/-- hurdle/codec.Parse -/
def c_codec_Parse : SFn := ⟨55,
  .seq (.region 0 [⟨(some 2), .mv (.c (.vs [] .full)), none⟩, ⟨(some 3), .mv (.c (.int .i64 0)), none⟩, ⟨(some 4), .mv (.c (.int .i64 0)), none⟩]) (.seq (.keep [0]) (.seq
    (.region 0 [⟨(some 5), .mv (.c (.vs [] .full)), none⟩]) (.seq (.region 0 [⟨(some 6), .mv (.c (.int .i64 0)), none⟩]) (.seq (.seq (.region 0 [⟨(some 10), .mv (.t 0),
   none⟩, ⟨(some 11), .len true (.t 10), none⟩, ⟨(some 12), .mv (.c (.int .i64 0)), none⟩]) (.seq (.give 5 none) (.block 0 (.loop [0, 5, 6, 11, 12] (.seq
    (.region 0 [⟨(some 13), .bin .lss (.t 12) (.t 11), none⟩]) (.seq (.cond (.t 13) (.skip) (.exit 0)) (.seq (.block 1 (.seq (.region 0 [⟨(some 14), .mv (.t 12), none⟩,
   ⟨(some 7), .mv (.t 14), none⟩]) (.seq (.seq (.region 0 [⟨(some 15), .mv (.t 0), none⟩, ⟨(some 16), .mv (.t 7), none⟩, ⟨(some 17), .sidx (.t 15) (.t 16), none⟩,
   ⟨(some 18), .bin .neq (.t 17) (.c (.int .u8 10)), none⟩]) (.seq (.keep [0, 5, 6, 7, 11, 12, 18]) (.cond (.t 18) (.exit 1) (.skip)))) (.seq (.keep [0, 5, 6, 7, 11, 12])
    (.seq (.seq (.region 0 [⟨(some 19), .mv (.t 5), none⟩, ⟨(some 20), .len false (.t 19), none⟩, ⟨(some 21), .bin .eql (.t 20) (.c (.int .i64 4096)), none⟩]) (.cond
    (.t 21) (.seq (.region 0 [⟨(some 22), .mv (.t 5), none⟩, ⟨(some 23), .len false (.t 22), none⟩, ⟨(some 2), .mv (.c (.vs [] .full)), none⟩, ⟨(some 3), .mv (.t 23),
   none⟩, ⟨(some 4), .mv (.c (.int .i64 3)), none⟩]) (.ret)) (.skip))) (.seq (.keep [0, 5, 6, 7, 11, 12]) (.seq (.region 1 [⟨(some 25), .mv (.t 0), none⟩, ⟨(some 26), .mv
    (.t 6), none⟩, ⟨(some 27), .mv (.t 7), none⟩, ⟨(some 28), .sslc (.t 25) (some (.t 26)) (some (.t 27)), none⟩, ⟨(some 29), .pcall 147 [.t 28], none⟩, ⟨(some 24), .mv
    (.t 29), none⟩, ⟨(some 30), .ext 0 (.t 24), none⟩, ⟨(some 31), .ext 1 (.t 24), none⟩, ⟨(some 8), .alloc 0 ([.int .i64 0, .int .i64 0, .int .i64 0, .int .u32 0]),
   none⟩, ⟨none, .store 4 (.t 8) (.t 30), none⟩, ⟨(some 9), .mv (.t 31), none⟩]) (.seq (.keep [0, 5, 7, 8, 9, 11, 12]) (.seq (.seq (.region 0 [⟨(some 32), .mv (.t 9),
   none⟩, ⟨(some 33), .bin .neq (.t 32) (.c (.int .i64 0)), none⟩]) (.cond (.t 33) (.seq (.region 0 [⟨(some 34), .mv (.t 5), none⟩, ⟨(some 35), .len false (.t 34), none⟩,
   ⟨(some 2), .mv (.c (.vs [] .full)), none⟩, ⟨(some 3), .mv (.t 35), none⟩, ⟨(some 4), .mv (.c (.int .i64 2)), none⟩]) (.ret)) (.skip))) (.seq (.keep [0, 5, 7, 8, 11,
   12]) (.seq (.region 1 [⟨(some 36), .mv (.t 5), none⟩, ⟨(some 37), .load 4 true false (.t 8), none⟩, ⟨(some 38), .bslice 1 ([.int .i64 0, .int .i64 0, .int .i64 0,
   .int .u32 0]) [(0, .t 37)], none⟩, ⟨(some 39), .app 0 4 32 (.t 36) (.t 38), none⟩, ⟨(some 5), .mv (.t 39), none⟩]) (.seq (.keep [0, 5, 7, 11, 12])
    (.region 0 [⟨(some 40), .mv (.t 7), none⟩, ⟨(some 41), .bin .add (.t 40) (.c (.int .i64 1)), none⟩, ⟨(some 6), .mv (.t 41), none⟩]))))))))))))) (.seq (.keep [0, 5, 6,
   11, 12]) (.region 0 [⟨(some 42), .bin .add (.t 12) (.c (.int .i64 1)), none⟩, ⟨(some 12), .mv (.t 42), none⟩]))))))))) (.seq (.keep [0, 5, 6]) (.seq (.seq
    (.region 0 [⟨(some 43), .mv (.t 6), none⟩, ⟨(some 44), .mv (.t 0), none⟩, ⟨(some 45), .len true (.t 44), none⟩, ⟨(some 46), .bin .lss (.t 43) (.t 45), none⟩]) (.seq
    (.keep [5, 46]) (.cond (.t 46) (.seq (.seq (.region 0 [⟨(some 47), .mv (.t 5), none⟩, ⟨(some 48), .len false (.t 47), none⟩, ⟨(some 49), .bin .eql (.t 48) (.c
    (.int .i64 4096)), none⟩]) (.cond (.t 49) (.seq (.region 0 [⟨(some 50), .mv (.t 5), none⟩, ⟨(some 51), .len false (.t 50), none⟩, ⟨(some 2), .mv (.c (.vs [] .full)),
   none⟩, ⟨(some 3), .mv (.t 51), none⟩, ⟨(some 4), .mv (.c (.int .i64 3)), none⟩]) (.ret)) (.skip))) (.seq (.keep [5]) (.seq (.region 0 [⟨(some 52), .mv (.t 5), none⟩,
   ⟨(some 53), .len false (.t 52), none⟩, ⟨(some 2), .mv (.c (.vs [] .full)), none⟩, ⟨(some 3), .mv (.t 53), none⟩, ⟨(some 4), .mv (.c (.int .i64 2)), none⟩]) (.ret))))
    (.skip)))) (.seq (.keep [5]) (.seq (.region 0 [⟨(some 54), .mv (.t 5), none⟩, ⟨(some 2), .mv (.t 54), none⟩, ⟨(some 3), .mv (.c (.int .i64 0)), none⟩, ⟨(some 4), .mv
    (.c (.int .i64 0)), none⟩]) (.ret))))))))),
  [.tmp 2, .tmp 3, .tmp 4]⟩
/-- hurdle/check.rules$1 -/
def c_check_rules_1 : SFn := ⟨7,
  .seq (.region 0 [⟨(some 4), .mv (.c (.int .i64 0)), none⟩]) (.seq (.seq (.region 0 [⟨(some 5), .mv (.t 0), none⟩]) (.cond (.t 5) (.seq (.region 0 [⟨(some 4), .mv (.c
    (.int .i64 0)), none⟩]) (.ret)) (.skip))) (.seq (.region 0 [⟨(some 6), .mv (.t 1), none⟩, ⟨(some 4), .mv (.t 6), none⟩]) (.ret))),
  [.tmp 4]⟩
/-- hurdle/check.rules$2 -/
def c_check_rules_2 : SFn := ⟨9,
  .seq (.region 1 [⟨(some 2), .box 0 (.t 0), none⟩, ⟨(some 3), .mv (.c (.int .i64 0)), none⟩]) (.seq (.region 0 [⟨(some 4), .load 1 false false (.t 1), none⟩, ⟨(some 5),
   .faddr 3 (.t 2), none⟩, ⟨(some 6), .load 1 false false (.t 5), none⟩, ⟨(some 7), .bin .lss (.t 6) (.c (.int .u32 16)), none⟩, ⟨(some 8), .vcall false (.t 4) [.t 7, .c
    (.int .i64 7)], none⟩, ⟨(some 3), .mv (.t 8), none⟩]) (.ret)),
  [.tmp 3]⟩
/-- hurdle/check.rules$3 -/
def c_check_rules_3 : SFn := ⟨9,
  .seq (.region 1 [⟨(some 2), .box 0 (.t 0), none⟩, ⟨(some 3), .mv (.c (.int .i64 0)), none⟩]) (.seq (.region 0 [⟨(some 4), .load 1 false false (.t 1), none⟩, ⟨(some 5),
   .faddr 3 (.t 2), none⟩, ⟨(some 6), .load 1 false false (.t 5), none⟩, ⟨(some 7), .bin .lss (.t 6) (.c (.int .u32 32)), none⟩, ⟨(some 8), .vcall false (.t 4) [.t 7, .c
    (.int .i64 1)], none⟩, ⟨(some 3), .mv (.t 8), none⟩]) (.ret)),
  [.tmp 3]⟩
/-- hurdle/check.rules$4 -/
def c_check_rules_4 : SFn := ⟨15,
  .seq (.region 1 [⟨(some 2), .box 0 (.t 0), none⟩, ⟨(some 3), .mv (.c (.int .i64 0)), none⟩]) (.seq (.region 0 [⟨(some 4), .load 1 false false (.t 1), none⟩, ⟨(some 5),
   .faddr 3 (.t 2), none⟩, ⟨(some 6), .load 1 false false (.t 5), none⟩, ⟨(some 7), .bin .rem (.t 6) (.c (.int .u32 4)), none⟩, ⟨(some 8), .bin .eql (.t 7) (.c
    (.int .u32 0)), none⟩, ⟨(some 9), .mv (.t 8), none⟩, ⟨(some 10), .faddr 3 (.t 2), (some (9, true))⟩, ⟨(some 11), .load 1 false false (.t 10), (some (9, true))⟩,
   ⟨(some 12), .bin .lss (.t 11) (.c (.int .u32 64)), (some (9, true))⟩, ⟨(some 13), .pick (.t 9) (.t 12) (.c (.bool false)), none⟩, ⟨(some 14), .vcall false
    (.t 4) [.t 13, .c (.int .i64 6)], none⟩, ⟨(some 3), .mv (.t 14), none⟩]) (.ret)),
  [.tmp 3]⟩
/-- hurdle/check.rules$5 -/
def c_check_rules_5 : SFn := ⟨9,
  .seq (.region 1 [⟨(some 2), .box 0 (.t 0), none⟩, ⟨(some 3), .mv (.c (.int .i64 0)), none⟩]) (.seq (.region 0 [⟨(some 4), .load 1 false false (.t 1), none⟩, ⟨(some 5),
   .faddr 3 (.t 2), none⟩, ⟨(some 6), .load 1 false false (.t 5), none⟩, ⟨(some 7), .bin .neq (.t 6) (.c (.int .u32 0)), none⟩, ⟨(some 8), .vcall false (.t 4) [.t 7, .c
    (.int .i64 8)], none⟩, ⟨(some 3), .mv (.t 8), none⟩]) (.ret)),
  [.tmp 3]⟩
/-- hurdle/check.rules -/
def c_check_rules : SFn := ⟨16,
  .seq (.region 0 [⟨(some 0), .mv (.c (.nilm)), none⟩]) (.seq (.region 1 [⟨(some 1), .alloc 0 ([.nilf]), none⟩, ⟨none, .store 1 (.t 1) (.c (.fn 149 [])), none⟩]) (.seq
    (.region 0 [⟨(some 4), .mkfn 150 [.t 1], none⟩, ⟨(some 2), .mv (.t 4), none⟩]) (.seq (.region 0 [⟨(some 5), .mkfn 151 [.t 1], none⟩, ⟨(some 3), .mv (.t 5), none⟩])
    (.seq (.region 1 [⟨(some 6), .mkmap 0, none⟩, ⟨(some 7), .mkfn 152 [.t 1], none⟩, ⟨none, .mput (.sc .int) (.t 6) (.c (.int .i64 32)) (.t 7), none⟩, ⟨(some 8),
   .mkfn 153 [.t 1], none⟩, ⟨none, .mput (.sc .int) (.t 6) (.c (.int .i64 52)) (.t 8), none⟩, ⟨(some 9), .mv (.t 2), none⟩, ⟨none, .mput (.sc .int) (.t 6) (.c
    (.int .i64 2)) (.t 9), none⟩, ⟨(some 10), .mv (.t 2), none⟩, ⟨none, .mput (.sc .int) (.t 6) (.c (.int .i64 3)) (.t 10), none⟩, ⟨(some 11), .mv (.t 2), none⟩, ⟨none,
   .mput (.sc .int) (.t 6) (.c (.int .i64 96)) (.t 11), none⟩, ⟨(some 12), .mv (.t 2), none⟩, ⟨none, .mput (.sc .int) (.t 6) (.c (.int .i64 97)) (.t 12), none⟩,
   ⟨(some 13), .mv (.t 3), none⟩, ⟨none, .mput (.sc .int) (.t 6) (.c (.int .i64 100)) (.t 13), none⟩, ⟨(some 14), .mv (.t 3), none⟩, ⟨none, .mput (.sc .int) (.t 6) (.c
    (.int .i64 116)) (.t 14), none⟩, ⟨(some 15), .mv (.t 6), none⟩, ⟨(some 0), .mv (.t 15), none⟩]) (.ret))))),
  [.tmp 0]⟩
/-- hurdle/check.ways -/
def c_check_ways : SFn := ⟨41,
  .seq (.region 1 [⟨(some 2), .box 0 (.t 0), none⟩, ⟨(some 4), .mv (.c (.vs [] .full)), none⟩]) (.seq (.region 0 [⟨(some 6), .mv (.t 1), none⟩, ⟨(some 7), .bin .add (.t 6)
    (.c (.int .i64 1)), none⟩, ⟨(some 5), .mv (.t 7), none⟩]) (.seq (.block 0 (.seq (.region 0 [⟨(some 9), .load 4 true false (.t 2), none⟩, ⟨(some 10), .pcall 143 [.t 9],
   none⟩, ⟨(some 8), .mv (.t 10), none⟩]) (.cond (.t 8) (.seq (.region 0 [⟨(some 4), .mv (.c (.vs [] .full)), none⟩]) (.ret)) (.seq (.region 0 [⟨(some 12), .faddr 0
    (.t 2), none⟩, ⟨(some 13), .load 1 false false (.t 12), none⟩, ⟨(some 14), .bin .eql (.t 13) (.c (.int .i64 5)), none⟩, ⟨(some 11), .mv (.t 14), none⟩]) (.seq
    (.keep [2, 5, 11]) (.cond (.t 11) (.seq (.region 0 [⟨(some 15), .mv (.t 5), none⟩, ⟨(some 16), .faddr 3 (.t 2), none⟩, ⟨(some 17), .load 1 false false (.t 16), none⟩,
   ⟨(some 18), .conv .i64 (.t 17), none⟩, ⟨(some 19), .bin .add (.t 15) (.t 18), none⟩, ⟨(some 20), .bslice 1 ([.int .i64 0]) [(0, .t 19)], none⟩, ⟨(some 4), .mv (.t 20),
   none⟩]) (.ret)) (.seq (.region 0 [⟨(some 22), .load 4 true false (.t 2), none⟩, ⟨(some 23), .pcall 142 [.t 22], none⟩, ⟨(some 21), .mv (.t 23), none⟩]) (.cond (.t 21)
    (.seq (.region 0 [⟨(some 24), .mv (.t 5), none⟩, ⟨(some 25), .faddr 1 (.t 2), none⟩, ⟨(some 26), .load 1 false false (.t 25), none⟩, ⟨(some 27), .faddr 2 (.t 2),
   none⟩, ⟨(some 28), .load 1 false false (.t 27), none⟩, ⟨(some 29), .mm false [.t 26, .t 28], none⟩, ⟨(some 30), .bin .add (.t 24) (.t 29), none⟩, ⟨(some 31), .mv
    (.t 5), none⟩, ⟨(some 32), .faddr 1 (.t 2), none⟩, ⟨(some 33), .load 1 false false (.t 32), none⟩, ⟨(some 34), .faddr 2 (.t 2), none⟩, ⟨(some 35), .load 1 false false
    (.t 34), none⟩, ⟨(some 36), .mm true [.t 33, .t 35], none⟩, ⟨(some 37), .bin .add (.t 31) (.t 36), none⟩, ⟨(some 38), .bslice 2 ([.int .i64 0]) [(0, .t 30), (1,
   .t 37)], none⟩, ⟨(some 4), .mv (.t 38), none⟩]) (.ret)) (.skip))))))))) (.seq (.keep [5]) (.seq (.region 0 [⟨(some 39), .mv (.t 5), none⟩, ⟨(some 40), .bslice 1
    ([.int .i64 0]) [(0, .t 39)], none⟩, ⟨(some 4), .mv (.t 40), none⟩]) (.ret))))),
  [.tmp 4]⟩
/-- hurdle/check.Check -/
def c_check_Check : SFn := ⟨81,
  .seq (.region 0 [⟨(some 2), .mv (.c (.int .i64 0)), none⟩, ⟨(some 3), .mv (.c (.int .i64 0)), none⟩]) (.seq (.block 0 (.seq (.region 0 [⟨(some 14), .mv (.t 0), none⟩,
   ⟨(some 15), .len false (.t 14), none⟩, ⟨(some 16), .bin .eql (.t 15) (.c (.int .i64 0)), none⟩, ⟨(some 13), .mv (.t 16), none⟩]) (.seq (.keep [0, 13]) (.cond (.t 13)
    (.seq (.region 0 [⟨(some 2), .mv (.c (.int .i64 0)), none⟩, ⟨(some 3), .mv (.c (.int .i64 5)), none⟩]) (.ret)) (.seq (.region 0 [⟨(some 18), .mv (.t 0), none⟩,
   ⟨(some 19), .len false (.t 18), none⟩, ⟨(some 20), .bin .gtr (.t 19) (.c (.int .i64 4096)), none⟩, ⟨(some 17), .mv (.t 20), none⟩]) (.seq (.keep [0, 17]) (.cond
    (.t 17) (.seq (.region 0 [⟨(some 2), .mv (.c (.int .i64 0)), none⟩, ⟨(some 3), .mv (.c (.int .i64 3)), none⟩]) (.ret)) (.skip)))))))) (.seq (.keep [0]) (.seq
    (.region 0 [⟨(some 21), .kcall false 154 [], none⟩, ⟨(some 4), .mv (.t 21), none⟩]) (.seq (.seq (.region 0 [⟨(some 22), .mv (.t 0), none⟩, ⟨(some 23), .len false
    (.t 22), none⟩, ⟨(some 24), .mv (.c (.int .i64 0)), none⟩]) (.block 1 (.loop [0, 4, 22, 23, 24] (.seq (.region 0 [⟨(some 25), .bin .lss (.t 24) (.t 23), none⟩]) (.seq
    (.cond (.t 25) (.skip) (.exit 1)) (.seq (.block 2 (.seq (.region 1 [⟨(some 26), .mv (.t 24), none⟩, ⟨(some 27), .iaddr 4 (.t 22) (.t 24), none⟩, ⟨(some 28),
   .load 4 true false (.t 27), none⟩, ⟨(some 6), .alloc 0 ([.int .i64 0, .int .i64 0, .int .i64 0, .int .u32 0]), none⟩, ⟨(some 5), .mv (.t 26), none⟩, ⟨none, .store 4
    (.t 6) (.t 28), none⟩]) (.seq (.keep [0, 4, 5, 6, 22, 23, 24]) (.seq (.seq (.region 0 [⟨(some 29), .load 4 true false (.t 6), none⟩, ⟨(some 30), .pcall 140 [.t 29],
   none⟩, ⟨(some 31), .un .not (.t 30), none⟩]) (.cond (.t 31) (.seq (.region 0 [⟨(some 32), .mv (.t 5), none⟩, ⟨(some 2), .mv (.t 32), none⟩, ⟨(some 3), .mv (.c
    (.int .i64 1)), none⟩]) (.ret)) (.skip))) (.seq (.keep [0, 4, 5, 6, 22, 23, 24]) (.seq (.seq (.region 0 [⟨(some 33), .mv (.t 4), none⟩, ⟨(some 34), .faddr 0 (.t 6),
   none⟩, ⟨(some 35), .load 1 false false (.t 34), none⟩, ⟨(some 36), .mget (.sc .int) false (.nilf) (.t 33) (.t 35), none⟩, ⟨(some 7), .mv (.t 36), none⟩]) (.seq
    (.keep [0, 4, 5, 6, 7, 22, 23, 24]) (.seq (.region 0 [⟨(some 37), .mv (.t 7), none⟩, ⟨(some 38), .nileq 0 true (.t 37), none⟩]) (.cond (.t 38) (.seq
    (.region 0 [⟨(some 39), .mv (.t 7), none⟩, ⟨(some 40), .load 4 true false (.t 6), none⟩, ⟨(some 41), .vcall false (.t 39) [.t 40], none⟩, ⟨(some 8), .mv (.t 41),
   none⟩]) (.seq (.keep [0, 4, 5, 6, 8, 22, 23, 24]) (.seq (.region 0 [⟨(some 42), .mv (.t 8), none⟩, ⟨(some 43), .bin .neq (.t 42) (.c (.int .i64 0)), none⟩]) (.cond
    (.t 43) (.seq (.region 0 [⟨(some 44), .mv (.t 5), none⟩, ⟨(some 45), .mv (.t 8), none⟩, ⟨(some 2), .mv (.t 44), none⟩, ⟨(some 3), .mv (.t 45), none⟩]) (.ret))
    (.skip))))) (.skip))))) (.seq (.keep [0, 4, 5, 6, 22, 23, 24]) (.seq (.region 0 [⟨(some 46), .faddr 0 (.t 6), none⟩, ⟨(some 47), .load 1 false false (.t 46), none⟩,
   ⟨(some 48), .bin .eql (.t 47) (.c (.int .i64 5)), none⟩, ⟨(some 49), .mv (.t 48), none⟩, ⟨(some 50), .load 4 true false (.t 6), (some (49, false))⟩, ⟨(some 51),
   .pcall 142 [.t 50], (some (49, false))⟩, ⟨(some 52), .pick (.t 49) (.c (.bool true)) (.t 51), none⟩, ⟨(some 9), .mv (.t 52), none⟩]) (.seq (.keep [0, 4, 5, 6, 9, 22,
   23, 24]) (.seq (.region 0 [⟨(some 53), .load 4 true false (.t 6), none⟩, ⟨(some 54), .mv (.t 5), none⟩, ⟨(some 55), .pcall 155 [.t 53, .t 54], none⟩, ⟨(some 56),
   .len false (.t 55), none⟩, ⟨(some 57), .mv (.c (.int .i64 0)), none⟩]) (.block 3 (.loop [0, 4, 5, 9, 22, 23, 24, 55, 56, 57] (.seq (.region 0 [⟨(some 58), .bin .lss
    (.t 57) (.t 56), none⟩]) (.seq (.cond (.t 58) (.skip) (.exit 3)) (.seq (.block 4 (.seq (.region 0 [⟨(some 59), .iaddr 1 (.t 55) (.t 57), none⟩, ⟨(some 60),
   .load 1 false false (.t 59), none⟩, ⟨(some 11), .mv (.t 60), none⟩]) (.seq (.region 0 [⟨(some 61), .mv (.t 9), none⟩, ⟨(some 62), .mv (.t 61), none⟩, ⟨(some 63), .mv
    (.t 11), (some (62, true))⟩, ⟨(some 64), .mv (.t 0), (some (62, true))⟩, ⟨(some 65), .len false (.t 64), (some (62, true))⟩, ⟨(some 66), .bin .geq (.t 63) (.t 65),
   (some (62, true))⟩, ⟨(some 67), .pick (.t 62) (.t 66) (.c (.bool false)), none⟩]) (.seq (.keep [0, 4, 5, 9, 22, 23, 24, 55, 56, 57, 67]) (.cond (.t 67) (.seq
    (.region 0 [⟨(some 68), .mv (.t 5), none⟩, ⟨(some 2), .mv (.t 68), none⟩, ⟨(some 3), .mv (.c (.int .i64 4)), none⟩]) (.ret)) (.skip)))))) (.seq (.keep [0, 4, 5, 9, 22,
   23, 24, 55, 56, 57]) (.region 0 [⟨(some 69), .bin .add (.t 57) (.c (.int .i64 1)), none⟩, ⟨(some 57), .mv (.t 69), none⟩]))))))))))))))))) (.seq (.keep [0, 4, 22, 23,
   24]) (.region 0 [⟨(some 70), .bin .add (.t 24) (.c (.int .i64 1)), none⟩, ⟨(some 24), .mv (.t 70), none⟩])))))))) (.seq (.keep [0]) (.seq (.seq (.region 0 [⟨(some 71),
   .mv (.t 0), none⟩, ⟨(some 72), .len false (.t 71), none⟩, ⟨(some 73), .bin .sub (.t 72) (.c (.int .i64 1)), none⟩, ⟨(some 12), .mv (.t 73), none⟩]) (.seq (.keep [0,
   12]) (.seq (.region 0 [⟨(some 74), .mv (.t 0), none⟩, ⟨(some 75), .mv (.t 12), none⟩, ⟨(some 76), .iaddr 4 (.t 74) (.t 75), none⟩, ⟨(some 77), .load 4 true false
    (.t 76), none⟩, ⟨(some 78), .pcall 143 [.t 77], none⟩, ⟨(some 79), .un .not (.t 78), none⟩]) (.seq (.keep [12, 79]) (.cond (.t 79) (.seq (.region 0 [⟨(some 80), .mv
    (.t 12), none⟩, ⟨(some 2), .mv (.t 80), none⟩, ⟨(some 3), .mv (.c (.int .i64 5)), none⟩]) (.ret)) (.skip)))))) (.seq (.keep []) (.seq (.region 0 [⟨(some 2), .mv (.c
    (.int .i64 0)), none⟩, ⟨(some 3), .mv (.c (.int .i64 0)), none⟩]) (.ret))))))))),
  [.tmp 2, .tmp 3]⟩
/-- hurdle/check.Sound -/
def c_check_Sound : SFn := ⟨12,
  .seq (.region 0 [⟨(some 2), .mv (.c (.bool false)), none⟩]) (.seq (.region 0 [⟨(some 6), .mv (.t 0), none⟩, ⟨(some 7), .pcall 156 [.t 6], none⟩, ⟨(some 5), .mv (.t 7),
   none⟩, ⟨(some 8), .ext 0 (.t 5), none⟩, ⟨(some 9), .ext 1 (.t 5), none⟩, ⟨(some 3), .mv (.t 8), none⟩, ⟨(some 4), .mv (.t 9), none⟩]) (.seq (.keep [4]) (.seq
    (.region 0 [⟨(some 10), .mv (.t 4), none⟩, ⟨(some 11), .bin .eql (.t 10) (.c (.int .i64 0)), none⟩, ⟨(some 2), .mv (.t 11), none⟩]) (.ret)))),
  [.tmp 2]⟩
/-- A table that holds these. -/
class HasIns (G : Tbl) : Prop where
  h_ins_of : G 139 = some c_ins_of
  h_ins_Right : G 140 = some c_ins_Right
  h_ins_Branch : G 142 = some c_ins_Branch
  h_ins_Ends : G 143 = some c_ins_Ends
/-- A table that holds these. -/
class HasCheck (G : Tbl) : Prop where
  h_check_rules_1 : G 149 = some c_check_rules_1
  h_check_rules_2 : G 150 = some c_check_rules_2
  h_check_rules_3 : G 151 = some c_check_rules_3
  h_check_rules_4 : G 152 = some c_check_rules_4
  h_check_rules_5 : G 153 = some c_check_rules_5
  h_check_rules : G 154 = some c_check_rules
  h_check_ways : G 155 = some c_check_ways
  h_check_Check : G 156 = some c_check_Check
  h_check_Sound : G 157 = some c_check_Sound
end Go.Ev
/- Simplified code of Go functions, by scode.py. -/
namespace Go.Ev
/-- hurdle/hurdleref02.branch -/
def c_hurdleref02_branch : SFn := ⟨5,
  .seq (.region 0 [⟨(some 2), .mv (.c (.bool false)), none⟩]) (.seq (.region 0 [⟨(some 3), .mv (.t 0), none⟩, ⟨(some 4), .bin .geq (.t 3) (.c (.int .i64 31)), none⟩,
   ⟨(some 2), .mv (.t 4), none⟩]) (.ret)),
  [.tmp 2]⟩
/-- hurdle/hurdleref02.plain -/
def c_hurdleref02_plain : SFn := ⟨17,
  .seq (.region 0 [⟨(some 2), .mv (.c (.bool false)), none⟩]) (.seq (.region 0 [⟨(some 3), .mv (.t 0), none⟩, ⟨(some 4), .bin .geq (.t 3) (.c (.int .i64 13)), none⟩,
   ⟨(some 5), .mv (.t 4), none⟩, ⟨(some 6), .mv (.t 0), (some (5, true))⟩, ⟨(some 7), .bin .leq (.t 6) (.c (.int .i64 24)), (some (5, true))⟩, ⟨(some 8), .pick (.t 5)
    (.t 7) (.c (.bool false)), none⟩, ⟨(some 9), .mv (.t 8), none⟩, ⟨(some 10), .mv (.t 0), (some (9, false))⟩, ⟨(some 11), .bin .eql (.t 10) (.c (.int .i64 30)), (some
    (9, false))⟩, ⟨(some 12), .pick (.t 9) (.c (.bool true)) (.t 11), none⟩, ⟨(some 13), .mv (.t 12), none⟩, ⟨(some 14), .mv (.t 0), (some (13, false))⟩, ⟨(some 15),
   .bin .geq (.t 14) (.c (.int .i64 35)), (some (13, false))⟩, ⟨(some 16), .pick (.t 13) (.c (.bool true)) (.t 15), none⟩, ⟨(some 2), .mv (.t 16), none⟩]) (.ret)),
  [.tmp 2]⟩
/-- hurdle/hurdleref02.place -/
def c_hurdleref02_place : SFn := ⟨19,
  .seq (.region 0 [⟨(some 2), .mv (.c (.int .i64 0)), none⟩]) (.seq (.region 0 [⟨(some 5), .pcall 177 [], none⟩, ⟨(some 3), .mv (.t 5), none⟩]) (.seq (.seq
    (.region 0 [⟨(some 4), .mv (.c (.int .i64 0)), none⟩]) (.block 0 (.loop [0, 3, 4] (.seq (.seq (.region 0 [⟨(some 6), .mv (.t 4), none⟩, ⟨(some 7), .mv (.t 3), none⟩,
   ⟨(some 8), .len false (.t 7), none⟩, ⟨(some 9), .bin .lss (.t 6) (.t 8), none⟩]) (.seq (.keep [0, 3, 4, 9]) (.cond (.t 9) (.skip) (.exit 0)))) (.seq (.keep [0, 3, 4])
    (.seq (.block 1 (.seq (.region 0 [⟨(some 12), .mv (.t 3), none⟩, ⟨(some 13), .mv (.t 4), none⟩, ⟨(some 14), .iaddr 1 (.t 12) (.t 13), none⟩, ⟨(some 15),
   .load 1 false false (.t 14), none⟩, ⟨(some 16), .mv (.t 0), none⟩, ⟨(some 17), .bin .eql (.t 15) (.t 16), none⟩]) (.seq (.keep [0, 3, 4, 17]) (.cond (.t 17) (.seq
    (.region 0 [⟨(some 18), .mv (.t 4), none⟩, ⟨(some 2), .mv (.t 18), none⟩]) (.ret)) (.skip))))) (.seq (.keep [0, 3, 4]) (.region 0 [⟨(some 10), .mv (.t 4), none⟩,
   ⟨(some 11), .bin .add (.t 10) (.c (.int .i64 1)), none⟩, ⟨(some 4), .mv (.t 11), none⟩])))))))) (.seq (.keep []) (.seq (.region 0 [⟨(some 2), .mv (.c (.int .i64
    (-1))), none⟩]) (.ret))))),
  [.tmp 2]⟩
/-- hurdle/hurdleref02.Ops -/
def c_hurdleref02_Ops : SFn := ⟨2,
  .seq (.region 0 [⟨(some 0), .mv (.c (.vs [] .full)), none⟩]) (.seq (.region 0 [⟨(some 1), .bslice 39 ([.int .i64 0]) [(0, .c (.int .i64 0)), (1, .c (.int .i64 1)), (2, .c
    (.int .i64 2)), (3, .c (.int .i64 3)), (4, .c (.int .i64 4)), (5, .c (.int .i64 20)), (6, .c (.int .i64 36)), (7, .c (.int .i64 52)), (8, .c (.int .i64 68)), (9, .c
    (.int .i64 84)), (10, .c (.int .i64 100)), (11, .c (.int .i64 116)), (12, .c (.int .i64 164)), (13, .c (.int .i64 12)), (14, .c (.int .i64 28)), (15, .c
    (.int .i64 44)), (16, .c (.int .i64 60)), (17, .c (.int .i64 76)), (18, .c (.int .i64 92)), (19, .c (.int .i64 108)), (20, .c (.int .i64 124)), (21, .c
    (.int .i64 172)), (22, .c (.int .i64 132)), (23, .c (.int .i64 7)), (24, .c (.int .i64 135)), (25, .c (.int .i64 32)), (26, .c (.int .i64 96)), (27, .c
    (.int .i64 97)), (28, .c (.int .i64 5)), (29, .c (.int .i64 6)), (30, .c (.int .i64 22)), (31, .c (.int .i64 21)), (32, .c (.int .i64 37)), (33, .c (.int .i64 53)),
   (34, .c (.int .i64 69)), (35, .c (.int .i64 29)), (36, .c (.int .i64 45)), (37, .c (.int .i64 61)), (38, .c (.int .i64 77))], none⟩, ⟨(some 0), .mv (.t 1), none⟩])
    (.ret)),
  [.tmp 0]⟩
/-- hurdle/hurdleref02.Right -/
def c_hurdleref02_Right : SFn := ⟨46,
  .seq (.region 1 [⟨(some 1), .box 0 (.t 0), none⟩, ⟨(some 2), .mv (.c (.bool false)), none⟩]) (.seq (.region 0 [⟨(some 4), .faddr 0 (.t 1), none⟩, ⟨(some 5),
   .load 1 false false (.t 4), none⟩, ⟨(some 6), .pcall 176 [.t 5], none⟩, ⟨(some 3), .mv (.t 6), none⟩]) (.seq (.keep [1, 3]) (.seq (.seq (.region 0 [⟨(some 7), .mv
    (.t 3), none⟩, ⟨(some 8), .bin .lss (.t 7) (.c (.int .i64 0)), none⟩, ⟨(some 9), .mv (.t 8), none⟩, ⟨(some 10), .mv (.t 3), (some (9, false))⟩, ⟨(some 11),
   .pcall 175 [.t 10], (some (9, false))⟩, ⟨(some 12), .mv (.t 11), (some (9, false))⟩, ⟨(some 13), .faddr 3 (.t 1), (some (12, true))⟩, ⟨(some 14), .load 1 false false
    (.t 13), (some (12, true))⟩, ⟨(some 15), .bin .neq (.t 14) (.c (.int .u32 0)), (some (12, true))⟩, ⟨(some 16), .pick (.t 12) (.t 15) (.c (.bool false)), (some (9,
   false))⟩, ⟨(some 17), .pick (.t 9) (.c (.bool true)) (.t 16), none⟩]) (.seq (.keep [1, 3, 17]) (.cond (.t 17) (.seq (.region 0 [⟨(some 2), .mv (.c (.bool false)),
   none⟩]) (.ret)) (.skip)))) (.seq (.keep [1, 3]) (.seq (.seq (.region 0 [⟨(some 18), .mv (.t 3), none⟩, ⟨(some 19), .pcall 174 [.t 18], none⟩]) (.cond (.t 19) (.seq
    (.region 0 [⟨(some 20), .faddr 1 (.t 1), none⟩, ⟨(some 21), .load 1 false false (.t 20), none⟩, ⟨(some 22), .bin .geq (.t 21) (.c (.int .i64 0)), none⟩, ⟨(some 23),
   .mv (.t 22), none⟩, ⟨(some 24), .faddr 1 (.t 1), (some (23, true))⟩, ⟨(some 25), .load 1 false false (.t 24), (some (23, true))⟩, ⟨(some 26), .bin .lss (.t 25) (.c
    (.int .i64 256)), (some (23, true))⟩, ⟨(some 27), .pick (.t 23) (.t 26) (.c (.bool false)), none⟩, ⟨(some 28), .mv (.t 27), none⟩, ⟨(some 29), .faddr 2 (.t 1), (some
    (28, true))⟩, ⟨(some 30), .load 1 false false (.t 29), (some (28, true))⟩, ⟨(some 31), .bin .geq (.t 30) (.c (.int .i64 0)), (some (28, true))⟩, ⟨(some 32), .pick
    (.t 28) (.t 31) (.c (.bool false)), none⟩, ⟨(some 33), .mv (.t 32), none⟩, ⟨(some 34), .faddr 2 (.t 1), (some (33, true))⟩, ⟨(some 35), .load 1 false false (.t 34),
   (some (33, true))⟩, ⟨(some 36), .bin .lss (.t 35) (.c (.int .i64 256)), (some (33, true))⟩, ⟨(some 37), .pick (.t 33) (.t 36) (.c (.bool false)), none⟩, ⟨(some 2), .mv
    (.t 37), none⟩]) (.ret)) (.skip))) (.seq (.keep [1]) (.seq (.region 0 [⟨(some 38), .faddr 1 (.t 1), none⟩, ⟨(some 39), .load 1 false false (.t 38), none⟩, ⟨(some 40),
   .bin .eql (.t 39) (.c (.int .i64 0)), none⟩, ⟨(some 41), .mv (.t 40), none⟩, ⟨(some 42), .faddr 2 (.t 1), (some (41, true))⟩, ⟨(some 43), .load 1 false false (.t 42),
   (some (41, true))⟩, ⟨(some 44), .bin .eql (.t 43) (.c (.int .i64 0)), (some (41, true))⟩, ⟨(some 45), .pick (.t 41) (.t 44) (.c (.bool false)), none⟩, ⟨(some 2), .mv
    (.t 45), none⟩]) (.ret)))))))),
  [.tmp 2]⟩
/-- hurdle/hurdleref02.Branch -/
def c_hurdleref02_Branch : SFn := ⟨7,
  .seq (.region 1 [⟨(some 1), .box 0 (.t 0), none⟩, ⟨(some 2), .mv (.c (.bool false)), none⟩]) (.seq (.region 0 [⟨(some 3), .faddr 0 (.t 1), none⟩, ⟨(some 4),
   .load 1 false false (.t 3), none⟩, ⟨(some 5), .pcall 176 [.t 4], none⟩, ⟨(some 6), .pcall 174 [.t 5], none⟩, ⟨(some 2), .mv (.t 6), none⟩]) (.ret)),
  [.tmp 2]⟩
/-- hurdle/hurdleref02.Ends -/
def c_hurdleref02_Ends : SFn := ⟨11,
  .seq (.region 1 [⟨(some 1), .box 0 (.t 0), none⟩, ⟨(some 2), .mv (.c (.bool false)), none⟩]) (.seq (.region 0 [⟨(some 3), .faddr 0 (.t 1), none⟩, ⟨(some 4),
   .load 1 false false (.t 3), none⟩, ⟨(some 5), .bin .eql (.t 4) (.c (.int .i64 6)), none⟩, ⟨(some 6), .mv (.t 5), none⟩, ⟨(some 7), .faddr 0 (.t 1), (some (6, false))⟩,
   ⟨(some 8), .load 1 false false (.t 7), (some (6, false))⟩, ⟨(some 9), .bin .eql (.t 8) (.c (.int .i64 22)), (some (6, false))⟩, ⟨(some 10), .pick (.t 6) (.c
    (.bool true)) (.t 9), none⟩, ⟨(some 2), .mv (.t 10), none⟩]) (.ret)),
  [.tmp 2]⟩
/-- hurdle/hurdleref05.One -/
def c_hurdleref05_One : SFn := ⟨98,
  .seq (.region 1 [⟨(some 3), .box 0 (.t 0), none⟩, ⟨(some 6), .mv (.c (.int .i64 0)), none⟩]) (.seq (.seq (.region 0 [⟨(some 8), .load 4 true false (.t 3), none⟩,
   ⟨(some 9), .pcall 178 [.t 8], none⟩, ⟨(some 10), .un .not (.t 9), none⟩]) (.cond (.t 10) (.seq (.region 0 [⟨(some 6), .mv (.c (.int .i64 1)), none⟩]) (.ret)) (.skip)))
    (.seq (.keep [1, 2, 3]) (.seq (.seq (.region 0 [⟨(some 11), .faddr 0 (.t 3), none⟩, ⟨(some 12), .load 1 false false (.t 11), none⟩, ⟨(some 13), .bin .eql (.t 12) (.c
    (.int .i64 32)), none⟩, ⟨(some 14), .mv (.t 13), none⟩, ⟨(some 15), .faddr 3 (.t 3), (some (14, true))⟩, ⟨(some 16), .load 1 false false (.t 15), (some (14, true))⟩,
   ⟨(some 17), .bin .rem (.t 16) (.c (.int .u32 4)), (some (14, true))⟩, ⟨(some 18), .bin .neq (.t 17) (.c (.int .u32 0)), (some (14, true))⟩, ⟨(some 19), .mv (.t 18),
   (some (14, true))⟩, ⟨(some 20), .faddr 3 (.t 3), (some (19, false))⟩, ⟨(some 21), .load 1 false false (.t 20), (some (19, false))⟩, ⟨(some 22), .bin .gtr (.t 21) (.c
    (.int .u32 60)), (some (19, false))⟩, ⟨(some 23), .pick (.t 19) (.c (.bool true)) (.t 22), (some (14, true))⟩, ⟨(some 24), .pick (.t 14) (.t 23) (.c (.bool false)),
   none⟩]) (.seq (.keep [1, 2, 3, 24]) (.cond (.t 24) (.seq (.region 0 [⟨(some 6), .mv (.c (.int .i64 6)), none⟩]) (.ret)) (.skip)))) (.seq (.keep [1, 2, 3]) (.seq (.seq
    (.region 0 [⟨(some 25), .faddr 0 (.t 3), none⟩, ⟨(some 26), .load 1 false false (.t 25), none⟩, ⟨(some 27), .bin .eql (.t 26) (.c (.int .i64 2)), none⟩, ⟨(some 28),
   .mv (.t 27), none⟩, ⟨(some 29), .faddr 0 (.t 3), (some (28, false))⟩, ⟨(some 30), .load 1 false false (.t 29), (some (28, false))⟩, ⟨(some 31), .bin .eql (.t 30) (.c
    (.int .i64 3)), (some (28, false))⟩, ⟨(some 32), .pick (.t 28) (.c (.bool true)) (.t 31), none⟩, ⟨(some 33), .mv (.t 32), none⟩, ⟨(some 34), .faddr 0 (.t 3), (some
    (33, false))⟩, ⟨(some 35), .load 1 false false (.t 34), (some (33, false))⟩, ⟨(some 36), .bin .eql (.t 35) (.c (.int .i64 96)), (some (33, false))⟩, ⟨(some 37), .pick
    (.t 33) (.c (.bool true)) (.t 36), none⟩, ⟨(some 38), .mv (.t 37), none⟩, ⟨(some 39), .faddr 0 (.t 3), (some (38, false))⟩, ⟨(some 40), .load 1 false false (.t 39),
   (some (38, false))⟩, ⟨(some 41), .bin .eql (.t 40) (.c (.int .i64 97)), (some (38, false))⟩, ⟨(some 42), .pick (.t 38) (.c (.bool true)) (.t 41), none⟩, ⟨(some 43), .mv
    (.t 42), none⟩, ⟨(some 44), .faddr 3 (.t 3), (some (43, true))⟩, ⟨(some 45), .load 1 false false (.t 44), (some (43, true))⟩, ⟨(some 46), .bin .gtr (.t 45) (.c
    (.int .u32 15)), (some (43, true))⟩, ⟨(some 47), .pick (.t 43) (.t 46) (.c (.bool false)), none⟩]) (.seq (.keep [1, 2, 3, 47]) (.cond (.t 47) (.seq
    (.region 0 [⟨(some 6), .mv (.c (.int .i64 7)), none⟩]) (.ret)) (.skip)))) (.seq (.keep [1, 2, 3]) (.seq (.seq (.region 0 [⟨(some 48), .faddr 0 (.t 3), none⟩,
   ⟨(some 49), .load 1 false false (.t 48), none⟩, ⟨(some 50), .bin .eql (.t 49) (.c (.int .i64 52)), none⟩, ⟨(some 51), .mv (.t 50), none⟩, ⟨(some 52), .faddr 3 (.t 3),
   (some (51, true))⟩, ⟨(some 53), .load 1 false false (.t 52), (some (51, true))⟩, ⟨(some 54), .bin .eql (.t 53) (.c (.int .u32 0)), (some (51, true))⟩, ⟨(some 55), .pick
    (.t 51) (.t 54) (.c (.bool false)), none⟩]) (.seq (.keep [1, 2, 3, 55]) (.cond (.t 55) (.seq (.region 0 [⟨(some 6), .mv (.c (.int .i64 8)), none⟩]) (.ret)) (.skip))))
    (.seq (.keep [1, 2, 3]) (.seq (.seq (.region 0 [⟨(some 56), .faddr 0 (.t 3), none⟩, ⟨(some 57), .load 1 false false (.t 56), none⟩, ⟨(some 58), .bin .eql (.t 57) (.c
    (.int .i64 100)), none⟩, ⟨(some 59), .mv (.t 58), none⟩, ⟨(some 60), .faddr 0 (.t 3), (some (59, false))⟩, ⟨(some 61), .load 1 false false (.t 60), (some (59,
   false))⟩, ⟨(some 62), .bin .eql (.t 61) (.c (.int .i64 116)), (some (59, false))⟩, ⟨(some 63), .pick (.t 59) (.c (.bool true)) (.t 62), none⟩, ⟨(some 64), .mv (.t 63),
   none⟩, ⟨(some 65), .faddr 3 (.t 3), (some (64, true))⟩, ⟨(some 66), .load 1 false false (.t 65), (some (64, true))⟩, ⟨(some 67), .bin .gtr (.t 66) (.c (.int .u32 31)),
   (some (64, true))⟩, ⟨(some 68), .pick (.t 64) (.t 67) (.c (.bool false)), none⟩]) (.seq (.keep [1, 2, 3, 68]) (.cond (.t 68) (.seq (.region 0 [⟨(some 6), .mv (.c
    (.int .i64 1)), none⟩]) (.ret)) (.skip)))) (.seq (.keep [1, 2, 3]) (.seq (.region 0 [⟨(some 69), .mv (.t 2), none⟩, ⟨(some 70), .bin .sub (.t 69) (.c (.int .i64 1)),
   none⟩, ⟨(some 71), .mv (.t 1), none⟩, ⟨(some 72), .bin .sub (.t 70) (.t 71), none⟩, ⟨(some 7), .mv (.t 72), none⟩]) (.seq (.keep [3, 7]) (.seq (.seq
    (.region 0 [⟨(some 73), .faddr 0 (.t 3), none⟩, ⟨(some 74), .load 1 false false (.t 73), none⟩, ⟨(some 75), .bin .eql (.t 74) (.c (.int .i64 5)), none⟩, ⟨(some 76),
   .mv (.t 75), none⟩, ⟨(some 77), .faddr 3 (.t 3), (some (76, true))⟩, ⟨(some 78), .load 1 false false (.t 77), (some (76, true))⟩, ⟨(some 79), .conv .u64 (.t 78), (some
    (76, true))⟩, ⟨(some 80), .mv (.t 7), (some (76, true))⟩, ⟨(some 81), .conv .u64 (.t 80), (some (76, true))⟩, ⟨(some 82), .bin .geq (.t 79) (.t 81), (some (76,
   true))⟩, ⟨(some 83), .pick (.t 76) (.t 82) (.c (.bool false)), none⟩]) (.seq (.keep [3, 7, 83]) (.cond (.t 83) (.seq (.region 0 [⟨(some 6), .mv (.c (.int .i64 4)),
   none⟩]) (.ret)) (.skip)))) (.seq (.keep [3, 7]) (.seq (.seq (.region 0 [⟨(some 84), .load 4 true false (.t 3), none⟩, ⟨(some 85), .pcall 180 [.t 84], none⟩, ⟨(some 86),
   .mv (.t 85), none⟩, ⟨(some 87), .faddr 1 (.t 3), (some (86, true))⟩, ⟨(some 88), .load 1 false false (.t 87), (some (86, true))⟩, ⟨(some 89), .mv (.t 7), (some (86,
   true))⟩, ⟨(some 90), .bin .geq (.t 88) (.t 89), (some (86, true))⟩, ⟨(some 91), .mv (.t 90), (some (86, true))⟩, ⟨(some 92), .faddr 2 (.t 3), (some (91, false))⟩,
   ⟨(some 93), .load 1 false false (.t 92), (some (91, false))⟩, ⟨(some 94), .mv (.t 7), (some (91, false))⟩, ⟨(some 95), .bin .geq (.t 93) (.t 94), (some (91, false))⟩,
   ⟨(some 96), .pick (.t 91) (.c (.bool true)) (.t 95), (some (86, true))⟩, ⟨(some 97), .pick (.t 86) (.t 96) (.c (.bool false)), none⟩]) (.seq (.keep [97]) (.cond
    (.t 97) (.seq (.region 0 [⟨(some 6), .mv (.c (.int .i64 4)), none⟩]) (.ret)) (.skip)))) (.seq (.keep []) (.seq (.region 0 [⟨(some 6), .mv (.c (.int .i64 0)), none⟩])
    (.ret)))))))))))))))))),
  [.tmp 6]⟩
/-- hurdle/hurdleref05.Check -/
def c_hurdleref05_Check : SFn := ⟨41,
  .seq (.region 0 [⟨(some 2), .mv (.c (.int .i64 0)), none⟩, ⟨(some 3), .mv (.c (.int .i64 0)), none⟩]) (.seq (.seq (.region 0 [⟨(some 6), .mv (.t 0), none⟩, ⟨(some 7),
   .len false (.t 6), none⟩, ⟨(some 8), .bin .eql (.t 7) (.c (.int .i64 0)), none⟩]) (.cond (.t 8) (.seq (.region 0 [⟨(some 2), .mv (.c (.int .i64 0)), none⟩, ⟨(some 3),
   .mv (.c (.int .i64 5)), none⟩]) (.ret)) (.skip))) (.seq (.keep [0]) (.seq (.seq (.region 0 [⟨(some 9), .mv (.t 0), none⟩, ⟨(some 10), .len false (.t 9), none⟩,
   ⟨(some 11), .bin .gtr (.t 10) (.c (.int .i64 4096)), none⟩]) (.cond (.t 11) (.seq (.region 0 [⟨(some 2), .mv (.c (.int .i64 0)), none⟩, ⟨(some 3), .mv (.c
    (.int .i64 3)), none⟩]) (.ret)) (.skip))) (.seq (.keep [0]) (.seq (.seq (.region 0 [⟨(some 4), .mv (.c (.int .i64 0)), none⟩]) (.block 0 (.loop [0, 4] (.seq (.seq
    (.region 0 [⟨(some 12), .mv (.t 4), none⟩, ⟨(some 13), .mv (.t 0), none⟩, ⟨(some 14), .len false (.t 13), none⟩, ⟨(some 15), .bin .lss (.t 12) (.t 14), none⟩]) (.seq
    (.keep [0, 4, 15]) (.cond (.t 15) (.skip) (.exit 0)))) (.seq (.keep [0, 4]) (.seq (.block 1 (.seq (.region 0 [⟨(some 18), .mv (.t 0), none⟩, ⟨(some 19), .mv (.t 4),
   none⟩, ⟨(some 20), .iaddr 4 (.t 18) (.t 19), none⟩, ⟨(some 21), .load 4 true false (.t 20), none⟩, ⟨(some 22), .mv (.t 4), none⟩, ⟨(some 23), .mv (.t 0), none⟩,
   ⟨(some 24), .len false (.t 23), none⟩, ⟨(some 25), .pcall 186 [.t 21, .t 22, .t 24], none⟩, ⟨(some 5), .mv (.t 25), none⟩]) (.seq (.keep [0, 4, 5]) (.seq
    (.region 0 [⟨(some 26), .mv (.t 5), none⟩, ⟨(some 27), .bin .neq (.t 26) (.c (.int .i64 0)), none⟩]) (.cond (.t 27) (.seq (.region 0 [⟨(some 28), .mv (.t 4), none⟩,
   ⟨(some 29), .mv (.t 5), none⟩, ⟨(some 2), .mv (.t 28), none⟩, ⟨(some 3), .mv (.t 29), none⟩]) (.ret)) (.skip)))))) (.seq (.keep [0, 4]) (.region 0 [⟨(some 16), .mv
    (.t 4), none⟩, ⟨(some 17), .bin .add (.t 16) (.c (.int .i64 1)), none⟩, ⟨(some 4), .mv (.t 17), none⟩])))))))) (.seq (.keep [0]) (.seq (.seq (.region 0 [⟨(some 30),
   .mv (.t 0), none⟩, ⟨(some 31), .mv (.t 0), none⟩, ⟨(some 32), .len false (.t 31), none⟩, ⟨(some 33), .bin .sub (.t 32) (.c (.int .i64 1)), none⟩, ⟨(some 34), .iaddr 4
    (.t 30) (.t 33), none⟩, ⟨(some 35), .load 4 true false (.t 34), none⟩, ⟨(some 36), .pcall 181 [.t 35], none⟩, ⟨(some 37), .un .not (.t 36), none⟩]) (.seq (.keep [0,
   37]) (.cond (.t 37) (.seq (.region 0 [⟨(some 38), .mv (.t 0), none⟩, ⟨(some 39), .len false (.t 38), none⟩, ⟨(some 40), .bin .sub (.t 39) (.c (.int .i64 1)), none⟩,
   ⟨(some 2), .mv (.t 40), none⟩, ⟨(some 3), .mv (.c (.int .i64 5)), none⟩]) (.ret)) (.skip)))) (.seq (.keep []) (.seq (.region 0 [⟨(some 2), .mv (.c (.int .i64 0)),
   none⟩, ⟨(some 3), .mv (.c (.int .i64 0)), none⟩]) (.ret)))))))))),
  [.tmp 2, .tmp 3]⟩
/-- hurdle/hurdleref05.Sound -/
def c_hurdleref05_Sound : SFn := ⟨12,
  .seq (.region 0 [⟨(some 2), .mv (.c (.bool false)), none⟩]) (.seq (.region 0 [⟨(some 6), .mv (.t 0), none⟩, ⟨(some 7), .pcall 187 [.t 6], none⟩, ⟨(some 5), .mv (.t 7),
   none⟩, ⟨(some 8), .ext 0 (.t 5), none⟩, ⟨(some 9), .ext 1 (.t 5), none⟩, ⟨(some 3), .mv (.t 8), none⟩, ⟨(some 4), .mv (.t 9), none⟩]) (.seq (.keep [4]) (.seq
    (.region 0 [⟨(some 10), .mv (.t 4), none⟩, ⟨(some 11), .bin .eql (.t 10) (.c (.int .i64 0)), none⟩, ⟨(some 2), .mv (.t 11), none⟩]) (.ret)))),
  [.tmp 2]⟩
/-- hurdle/hurdleref03.Same -/
def c_hurdleref03_Same : SFn := ⟨26,
  .seq (.region 0 [⟨(some 4), .mv (.c (.bool false)), none⟩]) (.seq (.seq (.region 0 [⟨(some 6), .mv (.t 0), none⟩, ⟨(some 7), .len false (.t 6), none⟩, ⟨(some 8), .mv
    (.t 1), none⟩, ⟨(some 9), .len false (.t 8), none⟩, ⟨(some 10), .bin .neq (.t 7) (.t 9), none⟩]) (.seq (.keep [0, 1, 10]) (.cond (.t 10) (.seq (.region 0 [⟨(some 4),
   .mv (.c (.bool false)), none⟩]) (.ret)) (.skip)))) (.seq (.keep [0, 1]) (.seq (.seq (.region 0 [⟨(some 5), .mv (.c (.int .i64 0)), none⟩]) (.block 0 (.loop [0, 1, 5]
    (.seq (.seq (.region 0 [⟨(some 11), .mv (.t 5), none⟩, ⟨(some 12), .mv (.t 0), none⟩, ⟨(some 13), .len false (.t 12), none⟩, ⟨(some 14), .bin .lss (.t 11) (.t 13),
   none⟩]) (.seq (.keep [0, 1, 5, 14]) (.cond (.t 14) (.skip) (.exit 0)))) (.seq (.keep [0, 1, 5]) (.seq (.block 1 (.seq (.region 0 [⟨(some 17), .mv (.t 0), none⟩,
   ⟨(some 18), .mv (.t 5), none⟩, ⟨(some 19), .iaddr 4 (.t 17) (.t 18), none⟩, ⟨(some 20), .load 4 true true (.t 19), none⟩, ⟨(some 21), .mv (.t 1), none⟩, ⟨(some 22), .mv
    (.t 5), none⟩, ⟨(some 23), .iaddr 4 (.t 21) (.t 22), none⟩, ⟨(some 24), .load 4 true true (.t 23), none⟩, ⟨(some 25), .aeq ([.int, .int, .int, .int]) true (.t 20)
    (.t 24), none⟩]) (.seq (.keep [0, 1, 5, 25]) (.cond (.t 25) (.seq (.region 0 [⟨(some 4), .mv (.c (.bool false)), none⟩]) (.ret)) (.skip))))) (.seq (.keep [0, 1, 5])
    (.region 0 [⟨(some 15), .mv (.t 5), none⟩, ⟨(some 16), .bin .add (.t 15) (.c (.int .i64 1)), none⟩, ⟨(some 5), .mv (.t 16), none⟩])))))))) (.seq (.keep []) (.seq
    (.region 0 [⟨(some 4), .mv (.c (.bool true)), none⟩]) (.ret)))))),
  [.tmp 4]⟩
/-- A table that holds these. -/
class HasR2 (G : Tbl) : Prop where
  h_hurdleref02_branch : G 174 = some c_hurdleref02_branch
  h_hurdleref02_plain : G 175 = some c_hurdleref02_plain
  h_hurdleref02_place : G 176 = some c_hurdleref02_place
  h_hurdleref02_Ops : G 177 = some c_hurdleref02_Ops
  h_hurdleref02_Right : G 178 = some c_hurdleref02_Right
  h_hurdleref02_Branch : G 180 = some c_hurdleref02_Branch
  h_hurdleref02_Ends : G 181 = some c_hurdleref02_Ends
/-- A table that holds these. -/
class HasR5o (G : Tbl) : Prop where
  h_hurdleref05_One : G 186 = some c_hurdleref05_One
/-- A table that holds these. -/
class HasR5 (G : Tbl) : Prop extends HasR5o G where
  h_hurdleref05_Check : G 187 = some c_hurdleref05_Check
  h_hurdleref05_Sound : G 188 = some c_hurdleref05_Sound
/-- A table that holds these. -/
class HasR3 (G : Tbl) : Prop where
  h_hurdleref03_Same : G 201 = some c_hurdleref03_Same
end Go.Ev
/- Simplified code of Go functions, by scode.py. -/
namespace Go.Ev
/-- hurdle/window.Right -/
def c_window_Right : SFn := ⟨33,
  .seq (.region 0 [⟨(some 2), .mv (.c (.bool false)), none⟩]) (.seq (.seq (.region 0 [⟨(some 5), .mv (.t 0), none⟩, ⟨(some 6), .len false (.t 5), none⟩, ⟨(some 7), .bin .gtr
    (.t 6) (.c (.int .i64 32)), none⟩]) (.cond (.t 7) (.seq (.region 0 [⟨(some 2), .mv (.c (.bool false)), none⟩]) (.ret)) (.skip))) (.seq (.keep [0]) (.seq (.seq
    (.region 0 [⟨(some 8), .mv (.t 0), none⟩, ⟨(some 9), .len false (.t 8), none⟩, ⟨(some 10), .mv (.c (.int .i64 0)), none⟩]) (.block 0 (.loop [0, 8, 9, 10] (.seq
    (.region 0 [⟨(some 11), .bin .lss (.t 10) (.t 9), none⟩]) (.seq (.cond (.t 11) (.skip) (.exit 0)) (.seq (.block 1 (.seq (.region 1 [⟨(some 12), .iaddr 4 (.t 8)
    (.t 10), none⟩, ⟨(some 13), .load 4 true false (.t 12), none⟩, ⟨(some 4), .alloc 0 ([.int .i64 0, .int .i64 0, .int .i64 0, .int .u32 0]), none⟩, ⟨none, .store 4
    (.t 4) (.t 13), none⟩]) (.seq (.region 0 [⟨(some 14), .faddr 0 (.t 4), none⟩, ⟨(some 15), .load 1 false false (.t 14), none⟩, ⟨(some 16), .bin .eql (.t 15) (.c
    (.int .i64 5)), none⟩, ⟨(some 17), .mv (.t 16), none⟩, ⟨(some 18), .load 4 true false (.t 4), (some (17, false))⟩, ⟨(some 19), .pcall 142 [.t 18], (some (17, false))⟩,
   ⟨(some 20), .pick (.t 17) (.c (.bool true)) (.t 19), none⟩, ⟨(some 21), .mv (.t 20), none⟩, ⟨(some 22), .load 4 true false (.t 4), (some (21, false))⟩, ⟨(some 23),
   .pcall 143 [.t 22], (some (21, false))⟩, ⟨(some 24), .pick (.t 21) (.c (.bool true)) (.t 23), none⟩]) (.seq (.keep [0, 8, 9, 10, 24]) (.cond (.t 24) (.seq
    (.region 0 [⟨(some 2), .mv (.c (.bool false)), none⟩]) (.ret)) (.skip)))))) (.seq (.keep [0, 8, 9, 10]) (.region 0 [⟨(some 25), .bin .add (.t 10) (.c (.int .i64 1)),
   none⟩, ⟨(some 10), .mv (.t 25), none⟩])))))))) (.seq (.keep [0]) (.seq (.region 2 [⟨(some 26), .bslice 0 ([.int .i64 0, .int .i64 0, .int .i64 0, .int .u32 0]) [],
   none⟩, ⟨(some 27), .mv (.t 0), none⟩, ⟨(some 28), .app 0 4 32 (.t 26) (.t 27), none⟩, ⟨(some 29), .build ([.int .i64 0, .int .i64 0, .int .i64 0, .int .u32 0]) [(0, 1,
   .c (.int .i64 22))], none⟩, ⟨(some 30), .bslice 1 ([.int .i64 0, .int .i64 0, .int .i64 0, .int .u32 0]) [(0, .t 29)], none⟩, ⟨(some 31), .app 1 4 32 (.t 28) (.t 30),
   none⟩, ⟨(some 32), .pcall 157 [.t 31], none⟩, ⟨(some 2), .mv (.t 32), none⟩]) (.ret)))))),
  [.tmp 2]⟩
/-- hurdle/hurdleref17.Right -/
def c_hurdleref17_Right : SFn := ⟨41,
  .seq (.region 0 [⟨(some 2), .mv (.c (.bool false)), none⟩]) (.seq (.seq (.region 0 [⟨(some 3), .mv (.c (.int .i64 0)), none⟩]) (.block 0 (.loop [0, 3] (.seq (.seq
    (.region 0 [⟨(some 4), .mv (.t 3), none⟩, ⟨(some 5), .mv (.t 0), none⟩, ⟨(some 6), .len false (.t 5), none⟩, ⟨(some 7), .bin .lss (.t 4) (.t 6), none⟩]) (.seq
    (.keep [0, 3, 7]) (.cond (.t 7) (.skip) (.exit 0)))) (.seq (.keep [0, 3]) (.seq (.block 1 (.seq (.region 0 [⟨(some 10), .mv (.t 0), none⟩, ⟨(some 11), .mv (.t 3),
   none⟩, ⟨(some 12), .iaddr 4 (.t 10) (.t 11), none⟩, ⟨(some 13), .faddr 0 (.t 12), none⟩, ⟨(some 14), .load 1 false false (.t 13), none⟩, ⟨(some 15), .bin .eql (.t 14)
    (.c (.int .i64 5)), none⟩, ⟨(some 16), .mv (.t 15), none⟩, ⟨(some 17), .mv (.t 0), (some (16, false))⟩, ⟨(some 18), .mv (.t 3), (some (16, false))⟩, ⟨(some 19),
   .iaddr 4 (.t 17) (.t 18), (some (16, false))⟩, ⟨(some 20), .load 4 true false (.t 19), (some (16, false))⟩, ⟨(some 21), .pcall 180 [.t 20], (some (16, false))⟩,
   ⟨(some 22), .pick (.t 16) (.c (.bool true)) (.t 21), none⟩, ⟨(some 23), .mv (.t 22), none⟩, ⟨(some 24), .mv (.t 0), (some (23, false))⟩, ⟨(some 25), .mv (.t 3), (some
    (23, false))⟩, ⟨(some 26), .iaddr 4 (.t 24) (.t 25), (some (23, false))⟩, ⟨(some 27), .load 4 true false (.t 26), (some (23, false))⟩, ⟨(some 28), .pcall 181 [.t 27],
   (some (23, false))⟩, ⟨(some 29), .pick (.t 23) (.c (.bool true)) (.t 28), none⟩, ⟨(some 30), .mv (.t 29), none⟩, ⟨(some 31), .mv (.t 0), (some (30, false))⟩,
   ⟨(some 32), .mv (.t 3), (some (30, false))⟩, ⟨(some 33), .iaddr 4 (.t 31) (.t 32), (some (30, false))⟩, ⟨(some 34), .load 4 true false (.t 33), (some (30, false))⟩,
   ⟨(some 35), .pcall 186 [.t 34, .c (.int .i64 0), .c (.int .i64 2)], (some (30, false))⟩, ⟨(some 36), .bin .neq (.t 35) (.c (.int .i64 0)), (some (30, false))⟩,
   ⟨(some 37), .pick (.t 30) (.c (.bool true)) (.t 36), none⟩]) (.seq (.keep [0, 3, 37]) (.cond (.t 37) (.seq (.region 0 [⟨(some 2), .mv (.c (.bool false)), none⟩])
    (.ret)) (.skip))))) (.seq (.keep [0, 3]) (.region 0 [⟨(some 8), .mv (.t 3), none⟩, ⟨(some 9), .bin .add (.t 8) (.c (.int .i64 1)), none⟩, ⟨(some 3), .mv (.t 9),
   none⟩])))))))) (.seq (.keep [0]) (.seq (.region 0 [⟨(some 38), .mv (.t 0), none⟩, ⟨(some 39), .len false (.t 38), none⟩, ⟨(some 40), .bin .leq (.t 39) (.c
    (.int .i64 32)), none⟩, ⟨(some 2), .mv (.t 40), none⟩]) (.ret)))),
  [.tmp 2]⟩
/-- hurdle/splice.targets -/
def c_splice_targets : SFn := ⟨45,
  .seq (.region 0 [⟨(some 2), .mv (.c (.vs [] .full)), none⟩]) (.seq (.region 1 [⟨(some 6), .mv (.t 0), none⟩, ⟨(some 7), .len false (.t 6), none⟩, ⟨(some 8), .mksl 0 1
    ([.bool false]) (.t 7), none⟩, ⟨(some 3), .mv (.t 8), none⟩]) (.seq (.keep [0, 3]) (.seq (.seq (.region 0 [⟨(some 9), .mv (.t 0), none⟩, ⟨(some 10), .len false
    (.t 9), none⟩, ⟨(some 11), .mv (.c (.int .i64 0)), none⟩]) (.block 0 (.loop [3, 9, 10, 11] (.seq (.region 0 [⟨(some 12), .bin .lss (.t 11) (.t 10), none⟩]) (.seq
    (.cond (.t 12) (.skip) (.exit 0)) (.seq (.block 1 (.seq (.region 1 [⟨(some 13), .mv (.t 11), none⟩, ⟨(some 14), .iaddr 4 (.t 9) (.t 11), none⟩, ⟨(some 15),
   .load 4 true false (.t 14), none⟩, ⟨(some 5), .alloc 0 ([.int .i64 0, .int .i64 0, .int .i64 0, .int .u32 0]), none⟩, ⟨(some 4), .mv (.t 13), none⟩, ⟨none, .store 4
    (.t 5) (.t 15), none⟩]) (.seq (.keep [3, 4, 5, 9, 10, 11]) (.seq (.seq (.region 0 [⟨(some 16), .faddr 0 (.t 5), none⟩, ⟨(some 17), .load 1 false false (.t 16), none⟩,
   ⟨(some 18), .bin .eql (.t 17) (.c (.int .i64 5)), none⟩]) (.cond (.t 18) (.region 0 [⟨(some 19), .mv (.t 3), none⟩, ⟨(some 20), .mv (.t 4), none⟩, ⟨(some 21), .bin .add
    (.t 20) (.c (.int .i64 1)), none⟩, ⟨(some 22), .faddr 3 (.t 5), none⟩, ⟨(some 23), .load 1 false false (.t 22), none⟩, ⟨(some 24), .conv .i64 (.t 23), none⟩,
   ⟨(some 25), .bin .add (.t 21) (.t 24), none⟩, ⟨(some 26), .iaddr 1 (.t 19) (.t 25), none⟩, ⟨none, .store 1 (.t 26) (.c (.bool true)), none⟩]) (.skip))) (.seq
    (.keep [3, 4, 5, 9, 10, 11]) (.seq (.region 0 [⟨(some 27), .load 4 true false (.t 5), none⟩, ⟨(some 28), .pcall 142 [.t 27], none⟩]) (.cond (.t 28)
    (.region 0 [⟨(some 29), .mv (.t 3), none⟩, ⟨(some 30), .mv (.t 4), none⟩, ⟨(some 31), .bin .add (.t 30) (.c (.int .i64 1)), none⟩, ⟨(some 32), .faddr 1 (.t 5), none⟩,
   ⟨(some 33), .loadR 1 false 5 (.t 32), none⟩, ⟨(some 34), .bin .add (.t 31) (.t 33), none⟩, ⟨(some 35), .mv (.t 3), none⟩, ⟨(some 36), .mv (.t 4), none⟩, ⟨(some 37),
   .bin .add (.t 36) (.c (.int .i64 1)), none⟩, ⟨(some 38), .faddr 2 (.t 5), none⟩, ⟨(some 39), .loadR 1 false 5 (.t 38), none⟩, ⟨(some 40), .bin .add (.t 37) (.t 39),
   none⟩, ⟨(some 41), .iaddr 1 (.t 29) (.t 34), none⟩, ⟨none, .storeA 1 [5] (.t 41) (.c (.bool true)), none⟩, ⟨(some 42), .iaddr 1 (.t 35) (.t 40), none⟩, ⟨none,
   .storeA 1 [5] (.t 42) (.c (.bool true)), none⟩]) (.skip)))))))) (.seq (.keep [3, 9, 10, 11]) (.region 0 [⟨(some 43), .bin .add (.t 11) (.c (.int .i64 1)), none⟩,
   ⟨(some 11), .mv (.t 43), none⟩])))))))) (.seq (.keep [3]) (.seq (.region 0 [⟨(some 44), .mv (.t 3), none⟩, ⟨(some 2), .mv (.t 44), none⟩]) (.ret)))))),
  [.tmp 2]⟩
/-- hurdle/splice.free -/
def c_splice_free : SFn := ⟨53,
  .seq (.region 0 [⟨(some 8), .mv (.c (.bool false)), none⟩]) (.seq (.seq (.region 0 [⟨(some 10), .mv (.t 2), none⟩, ⟨(some 11), .bin .lss (.t 10) (.c (.int .i64 0)), none⟩,
   ⟨(some 12), .mv (.t 11), none⟩, ⟨(some 13), .mv (.t 3), (some (12, false))⟩, ⟨(some 14), .bin .lss (.t 13) (.c (.int .i64 1)), (some (12, false))⟩, ⟨(some 15), .pick
    (.t 12) (.c (.bool true)) (.t 14), none⟩, ⟨(some 16), .mv (.t 15), none⟩, ⟨(some 17), .mv (.t 2), (some (16, false))⟩, ⟨(some 18), .mv (.t 0), (some (16, false))⟩,
   ⟨(some 19), .len false (.t 18), (some (16, false))⟩, ⟨(some 20), .bin .geq (.t 17) (.t 19), (some (16, false))⟩, ⟨(some 21), .pick (.t 16) (.c (.bool true)) (.t 20),
   none⟩, ⟨(some 22), .mv (.t 21), none⟩, ⟨(some 23), .mv (.t 3), (some (22, false))⟩, ⟨(some 24), .mv (.t 0), (some (22, false))⟩, ⟨(some 25), .len false (.t 24), (some
    (22, false))⟩, ⟨(some 26), .mv (.t 2), (some (22, false))⟩, ⟨(some 27), .bin .sub (.t 25) (.t 26), (some (22, false))⟩, ⟨(some 28), .bin .gtr (.t 23) (.t 27), (some
    (22, false))⟩, ⟨(some 29), .pick (.t 22) (.c (.bool true)) (.t 28), none⟩, ⟨(some 30), .mv (.t 29), none⟩, ⟨(some 31), .mv (.t 0), (some (30, false))⟩, ⟨(some 32), .mv
    (.t 2), (some (30, false))⟩, ⟨(some 33), .mv (.t 2), (some (30, false))⟩, ⟨(some 34), .mv (.t 3), (some (30, false))⟩, ⟨(some 35), .bin .add (.t 33) (.t 34), (some
    (30, false))⟩, ⟨(some 36), .slc 4 (.t 31) (some (.t 32)) (some (.t 35)) none, (some (30, false))⟩, ⟨(some 37), .pcall 202 [.t 36], (some (30, false))⟩, ⟨(some 38),
   .un .not (.t 37), (some (30, false))⟩, ⟨(some 39), .pick (.t 30) (.c (.bool true)) (.t 38), none⟩]) (.seq (.keep [1, 2, 3, 39]) (.cond (.t 39) (.seq
    (.region 0 [⟨(some 8), .mv (.c (.bool false)), none⟩]) (.ret)) (.skip)))) (.seq (.keep [1, 2, 3]) (.seq (.seq (.region 0 [⟨(some 40), .mv (.t 2), none⟩, ⟨(some 41),
   .bin .add (.t 40) (.c (.int .i64 1)), none⟩, ⟨(some 9), .mv (.t 41), none⟩]) (.block 0 (.loop [1, 2, 3, 9] (.seq (.seq (.region 0 [⟨(some 42), .mv (.t 9), none⟩,
   ⟨(some 43), .mv (.t 2), none⟩, ⟨(some 44), .mv (.t 3), none⟩, ⟨(some 45), .bin .add (.t 43) (.t 44), none⟩, ⟨(some 46), .bin .lss (.t 42) (.t 45), none⟩]) (.seq
    (.keep [1, 2, 3, 9, 46]) (.cond (.t 46) (.skip) (.exit 0)))) (.seq (.keep [1, 2, 3, 9]) (.seq (.block 1 (.seq (.region 0 [⟨(some 49), .mv (.t 1), none⟩, ⟨(some 50),
   .mv (.t 9), none⟩, ⟨(some 51), .iaddr 1 (.t 49) (.t 50), none⟩, ⟨(some 52), .load 1 false false (.t 51), none⟩]) (.seq (.keep [1, 2, 3, 9, 52]) (.cond (.t 52) (.seq
    (.region 0 [⟨(some 8), .mv (.c (.bool false)), none⟩]) (.ret)) (.skip))))) (.seq (.keep [1, 2, 3, 9]) (.region 0 [⟨(some 47), .mv (.t 9), none⟩, ⟨(some 48), .bin .add
    (.t 47) (.c (.int .i64 1)), none⟩, ⟨(some 9), .mv (.t 48), none⟩])))))))) (.seq (.keep []) (.seq (.region 0 [⟨(some 8), .mv (.c (.bool true)), none⟩]) (.ret)))))),
  [.tmp 8]⟩
/-- hurdle/splice.Free -/
def c_splice_Free : SFn := ⟨17,
  .seq (.region 0 [⟨(some 6), .mv (.c (.bool false)), none⟩]) (.seq (.region 0 [⟨(some 7), .mv (.t 0), none⟩, ⟨(some 8), .pcall 157 [.t 7], none⟩, ⟨(some 9), .mv (.t 8),
   none⟩, ⟨(some 10), .mv (.t 0), (some (9, true))⟩, ⟨(some 11), .mv (.t 0), (some (9, true))⟩, ⟨(some 12), .pcall 204 [.t 11], (some (9, true))⟩, ⟨(some 13), .mv (.t 1),
   (some (9, true))⟩, ⟨(some 14), .mv (.t 2), (some (9, true))⟩, ⟨(some 15), .pcall 205 [.t 10, .t 12, .t 13, .t 14], (some (9, true))⟩, ⟨(some 16), .pick (.t 9) (.t 15)
    (.c (.bool false)), none⟩, ⟨(some 6), .mv (.t 16), none⟩]) (.ret)),
  [.tmp 6]⟩
/-- hurdle/splice.Put$1 -/
def c_splice_Put_1 : SFn := ⟨23,
  .seq (.region 0 [⟨(some 7), .mv (.c (.int .i64 0)), none⟩]) (.seq (.seq (.region 0 [⟨(some 8), .mv (.t 0), none⟩, ⟨(some 9), .load 1 false false (.t 2), none⟩, ⟨(some 10),
   .bin .lss (.t 8) (.t 9), none⟩, ⟨(some 11), .mv (.t 10), none⟩, ⟨(some 12), .mv (.t 0), (some (11, true))⟩, ⟨(some 13), .bin .add (.t 12) (.c (.int .i64 1)), (some
    (11, true))⟩, ⟨(some 14), .mv (.t 1), (some (11, true))⟩, ⟨(some 15), .bin .add (.t 13) (.t 14), (some (11, true))⟩, ⟨(some 16), .load 1 false false (.t 3), (some
    (11, true))⟩, ⟨(some 17), .bin .geq (.t 15) (.t 16), (some (11, true))⟩, ⟨(some 18), .pick (.t 11) (.t 17) (.c (.bool false)), none⟩]) (.seq (.keep [1, 4, 18]) (.cond
    (.t 18) (.seq (.region 0 [⟨(some 19), .mv (.t 1), none⟩, ⟨(some 20), .load 1 false false (.t 4), none⟩, ⟨(some 21), .bin .sub (.t 19) (.t 20), none⟩, ⟨(some 7), .mv
    (.t 21), none⟩]) (.ret)) (.skip)))) (.seq (.keep [1]) (.seq (.region 0 [⟨(some 22), .mv (.t 1), none⟩, ⟨(some 7), .mv (.t 22), none⟩]) (.ret)))),
  [.tmp 7]⟩
/-- hurdle/splice.Put -/
def c_splice_Put : SFn := ⟨94,
  .seq (.region 1 [⟨(some 5), .box 0 (.t 1), none⟩, ⟨(some 8), .mv (.c (.vs [] .full)), none⟩, ⟨(some 9), .mv (.c (.int .i64 0)), none⟩]) (.seq (.seq
    (.region 0 [⟨(some 16), .mv (.t 0), none⟩, ⟨(some 17), .load 1 false false (.t 5), none⟩, ⟨(some 18), .mv (.t 2), none⟩, ⟨(some 19), .pcall 206 [.t 16, .t 17, .t 18],
   none⟩, ⟨(some 20), .un .not (.t 19), none⟩, ⟨(some 21), .mv (.t 20), none⟩, ⟨(some 22), .mv (.t 3), (some (21, false))⟩, ⟨(some 23), .pcall 202 [.t 22], (some (21,
   false))⟩, ⟨(some 24), .un .not (.t 23), (some (21, false))⟩, ⟨(some 25), .pick (.t 21) (.c (.bool true)) (.t 24), none⟩, ⟨(some 26), .mv (.t 25), none⟩, ⟨(some 27), .mv
    (.t 3), (some (26, false))⟩, ⟨(some 28), .len false (.t 27), (some (26, false))⟩, ⟨(some 29), .mv (.t 2), (some (26, false))⟩, ⟨(some 30), .bin .gtr (.t 28) (.t 29),
   (some (26, false))⟩, ⟨(some 31), .pick (.t 26) (.c (.bool true)) (.t 30), none⟩]) (.seq (.keep [0, 2, 3, 5, 31]) (.cond (.t 31) (.seq (.region 0 [⟨(some 8), .mv (.c
    (.vs [] .full)), none⟩, ⟨(some 9), .mv (.c (.int .i64 1)), none⟩]) (.ret)) (.skip)))) (.seq (.keep [0, 2, 3, 5]) (.seq (.region 1 [⟨(some 32), .load 1 false false
    (.t 5), none⟩, ⟨(some 33), .mv (.t 2), none⟩, ⟨(some 34), .bin .add (.t 32) (.t 33), none⟩, ⟨(some 10), .alloc 0 ([.int .i64 0]), none⟩, ⟨none, .store 1 (.t 10)
    (.t 34), none⟩]) (.seq (.keep [0, 2, 3, 5, 10]) (.seq (.region 1 [⟨(some 35), .mv (.t 2), none⟩, ⟨(some 36), .mv (.t 3), none⟩, ⟨(some 37), .len false (.t 36), none⟩,
   ⟨(some 38), .bin .sub (.t 35) (.t 37), none⟩, ⟨(some 11), .alloc 0 ([.int .i64 0]), none⟩, ⟨none, .store 1 (.t 11) (.t 38), none⟩]) (.seq (.keep [0, 3, 5, 10, 11])
    (.seq (.region 0 [⟨(some 39), .mkfn 207 [.t 5, .t 10, .t 11], none⟩, ⟨(some 12), .mv (.t 39), none⟩]) (.seq (.region 0 [⟨(some 13), .mv (.c (.vs [] .full)), none⟩])
    (.seq (.seq (.region 0 [⟨(some 40), .mv (.t 0), none⟩, ⟨(some 41), .len false (.t 40), none⟩, ⟨(some 42), .mv (.c (.int .i64 0)), none⟩]) (.seq (.give 13 none)
    (.block 0 (.loop [3, 5, 10, 12, 13, 40, 41, 42] (.seq (.region 0 [⟨(some 43), .bin .lss (.t 42) (.t 41), none⟩]) (.seq (.cond (.t 43) (.skip) (.exit 0)) (.seq
    (.block 1 (.seq (.region 1 [⟨(some 44), .mv (.t 42), none⟩, ⟨(some 45), .iaddr 4 (.t 40) (.t 42), none⟩, ⟨(some 46), .load 4 true false (.t 45), none⟩, ⟨(some 15),
   .alloc 0 ([.int .i64 0, .int .i64 0, .int .i64 0, .int .u32 0]), none⟩, ⟨(some 14), .mv (.t 44), none⟩, ⟨none, .store 4 (.t 15) (.t 46), none⟩]) (.seq (.keep [3, 5, 10,
   12, 13, 14, 15, 40, 41, 42]) (.seq (.seq (.region 0 [⟨(some 47), .mv (.t 14), none⟩, ⟨(some 48), .load 1 false false (.t 5), none⟩, ⟨(some 49), .bin .eql (.t 47)
    (.t 48), none⟩]) (.cond (.t 49) (.region 1 [⟨(some 50), .mv (.t 13), none⟩, ⟨(some 51), .mv (.t 3), none⟩, ⟨(some 52), .app 0 4 32 (.t 50) (.t 51), none⟩, ⟨(some 13),
   .mv (.t 52), none⟩]) (.skip))) (.seq (.keep [3, 5, 10, 12, 13, 14, 15, 40, 41, 42]) (.seq (.seq (.region 0 [⟨(some 53), .mv (.t 14), none⟩, ⟨(some 54),
   .load 1 false false (.t 5), none⟩, ⟨(some 55), .bin .geq (.t 53) (.t 54), none⟩, ⟨(some 56), .mv (.t 55), none⟩, ⟨(some 57), .mv (.t 14), (some (56, true))⟩,
   ⟨(some 58), .load 1 false false (.t 10), (some (56, true))⟩, ⟨(some 59), .bin .lss (.t 57) (.t 58), (some (56, true))⟩, ⟨(some 60), .pick (.t 56) (.t 59) (.c
    (.bool false)), none⟩]) (.seq (.keep [3, 5, 10, 12, 13, 14, 15, 40, 41, 42, 60]) (.cond (.t 60) (.exit 1) (.skip)))) (.seq (.keep [3, 5, 10, 12, 13, 14, 15, 40, 41,
   42]) (.seq (.block 2 (.seq (.region 0 [⟨(some 62), .faddr 0 (.t 15), none⟩, ⟨(some 63), .load 1 false false (.t 62), none⟩, ⟨(some 64), .bin .eql (.t 63) (.c
    (.int .i64 5)), none⟩, ⟨(some 61), .mv (.t 64), none⟩]) (.seq (.keep [3, 5, 10, 12, 13, 14, 15, 40, 41, 42, 61]) (.cond (.t 61) (.region 0 [⟨(some 65), .mv (.t 12),
   none⟩, ⟨(some 66), .mv (.t 14), none⟩, ⟨(some 67), .faddr 3 (.t 15), none⟩, ⟨(some 68), .load 1 false false (.t 67), none⟩, ⟨(some 69), .conv .i64 (.t 68), none⟩,
   ⟨(some 70), .vcall false (.t 65) [.t 66, .t 69], none⟩, ⟨(some 71), .conv .u32 (.t 70), none⟩, ⟨(some 72), .faddr 3 (.t 15), none⟩, ⟨none, .store 1 (.t 72) (.t 71),
   none⟩]) (.seq (.region 0 [⟨(some 74), .load 4 true false (.t 15), none⟩, ⟨(some 75), .pcall 142 [.t 74], none⟩, ⟨(some 73), .mv (.t 75), none⟩]) (.cond (.t 73)
    (.region 0 [⟨(some 76), .mv (.t 12), none⟩, ⟨(some 77), .mv (.t 14), none⟩, ⟨(some 78), .faddr 1 (.t 15), none⟩, ⟨(some 79), .load 1 false true (.t 78), none⟩,
   ⟨(some 80), .vcall true (.t 76) [.t 77, .t 79], none⟩, ⟨(some 81), .mv (.t 12), none⟩, ⟨(some 82), .mv (.t 14), none⟩, ⟨(some 83), .faddr 2 (.t 15), none⟩, ⟨(some 84),
   .load 1 false true (.t 83), none⟩, ⟨(some 85), .vcall true (.t 81) [.t 82, .t 84], none⟩, ⟨(some 86), .faddr 1 (.t 15), none⟩, ⟨none, .store 1 (.t 86) (.t 80), none⟩,
   ⟨(some 87), .faddr 2 (.t 15), none⟩, ⟨none, .store 1 (.t 87) (.t 85), none⟩]) (.skip))))))) (.seq (.keep [3, 5, 10, 12, 13, 15, 40, 41, 42]) (.region 1 [⟨(some 88), .mv
    (.t 13), none⟩, ⟨(some 89), .load 4 true false (.t 15), none⟩, ⟨(some 90), .bslice 1 ([.int .i64 0, .int .i64 0, .int .i64 0, .int .u32 0]) [(0, .t 89)], none⟩,
   ⟨(some 91), .app 0 4 32 (.t 88) (.t 90), none⟩, ⟨(some 13), .mv (.t 91), none⟩])))))))))) (.seq (.keep [3, 5, 10, 12, 13, 40, 41, 42]) (.region 0 [⟨(some 92), .bin .add
    (.t 42) (.c (.int .i64 1)), none⟩, ⟨(some 42), .mv (.t 92), none⟩]))))))))) (.seq (.keep [13]) (.seq (.region 0 [⟨(some 93), .mv (.t 13), none⟩, ⟨(some 8), .mv
    (.t 93), none⟩, ⟨(some 9), .mv (.c (.int .i64 0)), none⟩]) (.ret)))))))))))),
  [.tmp 8, .tmp 9]⟩
/-- hurdle/splice.Pieces -/
def c_splice_Pieces : SFn := ⟨42,
  .seq (.region 0 [⟨(some 4), .mv (.c (.vs [] .full)), none⟩]) (.seq (.seq (.region 0 [⟨(some 9), .mv (.t 0), none⟩, ⟨(some 10), .pcall 157 [.t 9], none⟩, ⟨(some 11),
   .un .not (.t 10), none⟩]) (.cond (.t 11) (.seq (.region 0 [⟨(some 4), .mv (.c (.vs [] .full)), none⟩]) (.ret)) (.skip))) (.seq (.keep [0, 1]) (.seq
    (.region 0 [⟨(some 12), .mv (.t 0), none⟩, ⟨(some 13), .pcall 204 [.t 12], none⟩, ⟨(some 5), .mv (.t 13), none⟩]) (.seq (.region 0 [⟨(some 6), .mv (.c
    (.vs [] .full)), none⟩]) (.seq (.seq (.region 0 [⟨(some 14), .mv (.t 0), none⟩, ⟨(some 15), .len false (.t 14), none⟩, ⟨(some 16), .mv (.c (.int .i64 0)), none⟩])
    (.seq (.give 6 none) (.block 0 (.loop [0, 1, 5, 6, 15, 16] (.seq (.region 0 [⟨(some 17), .bin .lss (.t 16) (.t 15), none⟩]) (.seq (.cond (.t 17) (.skip) (.exit 0))
    (.seq (.block 1 (.seq (.region 0 [⟨(some 18), .mv (.t 16), none⟩, ⟨(some 7), .mv (.t 18), none⟩]) (.seq (.region 0 [⟨(some 19), .mv (.t 1), none⟩, ⟨(some 20), .mv
    (.t 0), none⟩, ⟨(some 21), .len false (.t 20), none⟩, ⟨(some 22), .mv (.t 7), none⟩, ⟨(some 23), .bin .sub (.t 21) (.t 22), none⟩, ⟨(some 24), .mm false [.t 19, .t 23,
   .c (.int .i64 32)], none⟩, ⟨(some 8), .mv (.t 24), none⟩]) (.seq (.keep [0, 1, 5, 6, 7, 8, 15, 16]) (.seq (.give 6 none) (.block 2 (.loop [0, 1, 5, 6, 7, 8, 15, 16]
    (.seq (.seq (.region 0 [⟨(some 25), .mv (.t 8), none⟩, ⟨(some 26), .bin .geq (.t 25) (.c (.int .i64 2)), none⟩]) (.cond (.t 26) (.skip) (.exit 2))) (.seq (.block 3
    (.seq (.region 0 [⟨(some 29), .mv (.t 0), none⟩, ⟨(some 30), .mv (.t 5), none⟩, ⟨(some 31), .mv (.t 7), none⟩, ⟨(some 32), .mv (.t 8), none⟩, ⟨(some 33),
   .pcall 205 [.t 29, .t 30, .t 31, .t 32], none⟩]) (.seq (.keep [0, 1, 5, 6, 7, 8, 15, 16, 33]) (.cond (.t 33) (.region 1 [⟨(some 34), .mv (.t 6), none⟩, ⟨(some 35), .mv
    (.t 7), none⟩, ⟨(some 36), .mv (.t 8), none⟩, ⟨(some 37), .build ([.int .i64 0, .int .i64 0]) [(0, 1, .t 35), (1, 1, .t 36)], none⟩, ⟨(some 38), .bslice 1
    ([.int .i64 0, .int .i64 0]) [(0, .t 37)], none⟩, ⟨(some 39), .app 0 2 16 (.t 34) (.t 38), none⟩, ⟨(some 6), .mv (.t 39), none⟩]) (.skip))))) (.seq (.keep [0, 1, 5, 6,
   7, 8, 15, 16]) (.region 0 [⟨(some 27), .mv (.t 8), none⟩, ⟨(some 28), .bin .sub (.t 27) (.c (.int .i64 1)), none⟩, ⟨(some 8), .mv (.t 28), none⟩]))))))))))) (.seq
    (.keep [0, 1, 5, 6, 15, 16]) (.region 0 [⟨(some 40), .bin .add (.t 16) (.c (.int .i64 1)), none⟩, ⟨(some 16), .mv (.t 40), none⟩]))))))))) (.seq (.keep [6]) (.seq
    (.region 0 [⟨(some 41), .mv (.t 6), none⟩, ⟨(some 4), .mv (.t 41), none⟩]) (.ret)))))))),
  [.tmp 4]⟩
/-- hurdle/hurdleref22.jumps -/
def c_hurdleref22_jumps : SFn := ⟨45,
  .seq (.region 0 [⟨(some 6), .mv (.c (.bool false)), none⟩]) (.seq (.region 1 [⟨(some 8), .mv (.t 0), none⟩, ⟨(some 9), .mv (.t 1), none⟩, ⟨(some 10), .iaddr 4 (.t 8)
    (.t 9), none⟩, ⟨(some 11), .load 4 true false (.t 10), none⟩, ⟨(some 7), .alloc 0 ([.int .i64 0, .int .i64 0, .int .i64 0, .int .u32 0]), none⟩, ⟨none, .store 4
    (.t 7) (.t 11), none⟩]) (.seq (.keep [1, 2, 7]) (.seq (.seq (.region 0 [⟨(some 12), .faddr 0 (.t 7), none⟩, ⟨(some 13), .load 1 false false (.t 12), none⟩, ⟨(some 14),
   .bin .eql (.t 13) (.c (.int .i64 5)), none⟩]) (.cond (.t 14) (.seq (.region 0 [⟨(some 15), .mv (.t 1), none⟩, ⟨(some 16), .conv .u64 (.t 15), none⟩, ⟨(some 17),
   .bin .add (.t 16) (.c (.int .u64 1)), none⟩, ⟨(some 18), .faddr 3 (.t 7), none⟩, ⟨(some 19), .load 1 false false (.t 18), none⟩, ⟨(some 20), .conv .u64 (.t 19), none⟩,
   ⟨(some 21), .bin .add (.t 17) (.t 20), none⟩, ⟨(some 22), .mv (.t 2), none⟩, ⟨(some 23), .conv .u64 (.t 22), none⟩, ⟨(some 24), .bin .eql (.t 21) (.t 23), none⟩,
   ⟨(some 6), .mv (.t 24), none⟩]) (.ret)) (.skip))) (.seq (.keep [1, 2, 7]) (.seq (.region 0 [⟨(some 25), .load 4 true false (.t 7), none⟩, ⟨(some 26),
   .pcall 180 [.t 25], none⟩, ⟨(some 27), .mv (.t 26), none⟩, ⟨(some 28), .mv (.t 1), (some (27, true))⟩, ⟨(some 29), .bin .add (.t 28) (.c (.int .i64 1)), (some (27,
   true))⟩, ⟨(some 30), .faddr 1 (.t 7), (some (27, true))⟩, ⟨(some 31), .load 1 false false (.t 30), (some (27, true))⟩, ⟨(some 32), .bin .add (.t 29) (.t 31), (some
    (27, true))⟩, ⟨(some 33), .mv (.t 2), (some (27, true))⟩, ⟨(some 34), .bin .eql (.t 32) (.t 33), (some (27, true))⟩, ⟨(some 35), .mv (.t 34), (some (27, true))⟩,
   ⟨(some 36), .mv (.t 1), (some (35, false))⟩, ⟨(some 37), .bin .add (.t 36) (.c (.int .i64 1)), (some (35, false))⟩, ⟨(some 38), .faddr 2 (.t 7), (some (35, false))⟩,
   ⟨(some 39), .load 1 false false (.t 38), (some (35, false))⟩, ⟨(some 40), .bin .add (.t 37) (.t 39), (some (35, false))⟩, ⟨(some 41), .mv (.t 2), (some (35, false))⟩,
   ⟨(some 42), .bin .eql (.t 40) (.t 41), (some (35, false))⟩, ⟨(some 43), .pick (.t 35) (.c (.bool true)) (.t 42), (some (27, true))⟩, ⟨(some 44), .pick (.t 27) (.t 43)
    (.c (.bool false)), none⟩, ⟨(some 6), .mv (.t 44), none⟩]) (.ret)))))),
  [.tmp 6]⟩
/-- hurdle/hurdleref22.Free -/
def c_hurdleref22_Free : SFn := ⟨63,
  .seq (.region 0 [⟨(some 6), .mv (.c (.bool false)), none⟩]) (.seq (.seq (.region 0 [⟨(some 9), .mv (.t 0), none⟩, ⟨(some 10), .pcall 188 [.t 9], none⟩, ⟨(some 11),
   .un .not (.t 10), none⟩, ⟨(some 12), .mv (.t 11), none⟩, ⟨(some 13), .mv (.t 1), (some (12, false))⟩, ⟨(some 14), .bin .lss (.t 13) (.c (.int .i64 0)), (some (12,
   false))⟩, ⟨(some 15), .pick (.t 12) (.c (.bool true)) (.t 14), none⟩, ⟨(some 16), .mv (.t 15), none⟩, ⟨(some 17), .mv (.t 2), (some (16, false))⟩, ⟨(some 18), .bin .lss
    (.t 17) (.c (.int .i64 1)), (some (16, false))⟩, ⟨(some 19), .pick (.t 16) (.c (.bool true)) (.t 18), none⟩, ⟨(some 20), .mv (.t 19), none⟩, ⟨(some 21), .mv (.t 1),
   (some (20, false))⟩, ⟨(some 22), .mv (.t 0), (some (20, false))⟩, ⟨(some 23), .len false (.t 22), (some (20, false))⟩, ⟨(some 24), .bin .geq (.t 21) (.t 23), (some
    (20, false))⟩, ⟨(some 25), .pick (.t 20) (.c (.bool true)) (.t 24), none⟩, ⟨(some 26), .mv (.t 25), none⟩, ⟨(some 27), .mv (.t 2), (some (26, false))⟩, ⟨(some 28), .mv
    (.t 0), (some (26, false))⟩, ⟨(some 29), .len false (.t 28), (some (26, false))⟩, ⟨(some 30), .mv (.t 1), (some (26, false))⟩, ⟨(some 31), .bin .sub (.t 29) (.t 30),
   (some (26, false))⟩, ⟨(some 32), .bin .gtr (.t 27) (.t 31), (some (26, false))⟩, ⟨(some 33), .pick (.t 26) (.c (.bool true)) (.t 32), none⟩, ⟨(some 34), .mv (.t 33),
   none⟩, ⟨(some 35), .mv (.t 0), (some (34, false))⟩, ⟨(some 36), .mv (.t 1), (some (34, false))⟩, ⟨(some 37), .mv (.t 1), (some (34, false))⟩, ⟨(some 38), .mv (.t 2),
   (some (34, false))⟩, ⟨(some 39), .bin .add (.t 37) (.t 38), (some (34, false))⟩, ⟨(some 40), .slc 4 (.t 35) (some (.t 36)) (some (.t 39)) none, (some (34, false))⟩,
   ⟨(some 41), .pcall 203 [.t 40], (some (34, false))⟩, ⟨(some 42), .un .not (.t 41), (some (34, false))⟩, ⟨(some 43), .pick (.t 34) (.c (.bool true)) (.t 42), none⟩])
    (.seq (.keep [0, 1, 2, 43]) (.cond (.t 43) (.seq (.region 0 [⟨(some 6), .mv (.c (.bool false)), none⟩]) (.ret)) (.skip)))) (.seq (.keep [0, 1, 2]) (.seq (.seq
    (.region 0 [⟨(some 44), .mv (.t 1), none⟩, ⟨(some 45), .bin .add (.t 44) (.c (.int .i64 1)), none⟩, ⟨(some 7), .mv (.t 45), none⟩]) (.block 0 (.loop [0, 1, 2, 7]
    (.seq (.seq (.region 0 [⟨(some 46), .mv (.t 7), none⟩, ⟨(some 47), .mv (.t 1), none⟩, ⟨(some 48), .mv (.t 2), none⟩, ⟨(some 49), .bin .add (.t 47) (.t 48), none⟩,
   ⟨(some 50), .bin .lss (.t 46) (.t 49), none⟩]) (.seq (.keep [0, 1, 2, 7, 50]) (.cond (.t 50) (.skip) (.exit 0)))) (.seq (.keep [0, 1, 2, 7]) (.seq (.block 1 (.seq
    (.region 0 [⟨(some 8), .mv (.c (.int .i64 0)), none⟩]) (.block 2 (.loop [0, 1, 2, 7, 8] (.seq (.seq (.region 0 [⟨(some 53), .mv (.t 8), none⟩, ⟨(some 54), .mv (.t 0),
   none⟩, ⟨(some 55), .len false (.t 54), none⟩, ⟨(some 56), .bin .lss (.t 53) (.t 55), none⟩]) (.seq (.keep [0, 1, 2, 7, 8, 56]) (.cond (.t 56) (.skip) (.exit 2))))
    (.seq (.keep [0, 1, 2, 7, 8]) (.seq (.block 3 (.seq (.region 0 [⟨(some 59), .mv (.t 0), none⟩, ⟨(some 60), .mv (.t 8), none⟩, ⟨(some 61), .mv (.t 7), none⟩,
   ⟨(some 62), .pcall 210 [.t 59, .t 60, .t 61], none⟩]) (.seq (.keep [0, 1, 2, 7, 8, 62]) (.cond (.t 62) (.seq (.region 0 [⟨(some 6), .mv (.c (.bool false)), none⟩])
    (.ret)) (.skip))))) (.seq (.keep [0, 1, 2, 7, 8]) (.region 0 [⟨(some 57), .mv (.t 8), none⟩, ⟨(some 58), .bin .add (.t 57) (.c (.int .i64 1)), none⟩, ⟨(some 8), .mv
    (.t 58), none⟩]))))))))) (.seq (.keep [0, 1, 2, 7]) (.region 0 [⟨(some 51), .mv (.t 7), none⟩, ⟨(some 52), .bin .add (.t 51) (.c (.int .i64 1)), none⟩, ⟨(some 7), .mv
    (.t 52), none⟩])))))))) (.seq (.keep []) (.seq (.region 0 [⟨(some 6), .mv (.c (.bool true)), none⟩]) (.ret)))))),
  [.tmp 6]⟩
/-- hurdle/hurdleref22.place -/
def c_hurdleref22_place : SFn := ⟨18,
  .seq (.region 0 [⟨(some 8), .mv (.c (.int .i64 0)), none⟩]) (.seq (.seq (.region 0 [⟨(some 9), .mv (.t 0), none⟩, ⟨(some 10), .mv (.t 1), none⟩, ⟨(some 11), .bin .leq
    (.t 9) (.t 10), none⟩]) (.cond (.t 11) (.seq (.region 0 [⟨(some 12), .mv (.t 0), none⟩, ⟨(some 8), .mv (.t 12), none⟩]) (.ret)) (.skip))) (.seq (.keep [0, 2, 3])
    (.seq (.region 0 [⟨(some 13), .mv (.t 0), none⟩, ⟨(some 14), .mv (.t 2), none⟩, ⟨(some 15), .bin .sub (.t 13) (.t 14), none⟩, ⟨(some 16), .mv (.t 3), none⟩,
   ⟨(some 17), .bin .add (.t 15) (.t 16), none⟩, ⟨(some 8), .mv (.t 17), none⟩]) (.ret)))),
  [.tmp 8]⟩
/-- hurdle/hurdleref22.Put -/
def c_hurdleref22_Put : SFn := ⟨132,
  .seq (.region 0 [⟨(some 8), .mv (.c (.vs [] .full)), none⟩, ⟨(some 9), .mv (.c (.int .i64 0)), none⟩]) (.seq (.seq (.region 0 [⟨(some 14), .mv (.t 0), none⟩, ⟨(some 15),
   .mv (.t 1), none⟩, ⟨(some 16), .mv (.t 2), none⟩, ⟨(some 17), .pcall 211 [.t 14, .t 15, .t 16], none⟩, ⟨(some 18), .un .not (.t 17), none⟩, ⟨(some 19), .mv (.t 18),
   none⟩, ⟨(some 20), .mv (.t 3), (some (19, false))⟩, ⟨(some 21), .pcall 203 [.t 20], (some (19, false))⟩, ⟨(some 22), .un .not (.t 21), (some (19, false))⟩, ⟨(some 23),
   .pick (.t 19) (.c (.bool true)) (.t 22), none⟩, ⟨(some 24), .mv (.t 23), none⟩, ⟨(some 25), .mv (.t 3), (some (24, false))⟩, ⟨(some 26), .len false (.t 25), (some (24,
   false))⟩, ⟨(some 27), .mv (.t 2), (some (24, false))⟩, ⟨(some 28), .bin .gtr (.t 26) (.t 27), (some (24, false))⟩, ⟨(some 29), .pick (.t 24) (.c (.bool true)) (.t 28),
   none⟩]) (.seq (.keep [0, 1, 2, 3, 29]) (.cond (.t 29) (.seq (.region 0 [⟨(some 8), .mv (.c (.vs [] .full)), none⟩, ⟨(some 9), .mv (.c (.int .i64 1)), none⟩]) (.ret))
    (.skip)))) (.seq (.keep [0, 1, 2, 3]) (.seq (.region 3 [⟨(some 30), .bslice 0 ([.int .i64 0, .int .i64 0, .int .i64 0, .int .u32 0]) [], none⟩, ⟨(some 31), .mv
    (.t 0), none⟩, ⟨(some 32), .mv (.t 1), none⟩, ⟨(some 33), .slc 4 (.t 31) none (some (.t 32)) none, none⟩, ⟨(some 34), .appG false 0 4 32 (.t 30) (.t 33), none⟩, ⟨(some 35),
   .mv (.t 3), none⟩, ⟨(some 36), .appG false 1 4 32 (.t 34) (.t 35), none⟩, ⟨(some 37), .mv (.t 0), none⟩, ⟨(some 38), .mv (.t 1), none⟩, ⟨(some 39), .mv (.t 2), none⟩,
   ⟨(some 40), .bin .add (.t 38) (.t 39), none⟩, ⟨(some 41), .slc 4 (.t 37) (some (.t 40)) none none, none⟩, ⟨(some 42), .appG true 2 4 32 (.t 36) (.t 41), none⟩, ⟨(some 10),
   .mv (.t 42), none⟩]) (.seq (.keep [0, 1, 2, 3, 10]) (.seq (.seq (.region 0 [⟨(some 11), .mv (.c (.int .i64 0)), none⟩]) (.block 0 (.loop [0, 1, 2, 3, 10, 11] (.seq
    (.seq (.region 0 [⟨(some 43), .mv (.t 11), none⟩, ⟨(some 44), .mv (.t 0), none⟩, ⟨(some 45), .len false (.t 44), none⟩, ⟨(some 46), .bin .lss (.t 43) (.t 45), none⟩])
    (.seq (.keep [0, 1, 2, 3, 10, 11, 46]) (.cond (.t 46) (.skip) (.exit 0)))) (.seq (.keep [0, 1, 2, 3, 10, 11]) (.seq (.block 1 (.seq (.seq (.region 0 [⟨(some 49), .mv
    (.t 11), none⟩, ⟨(some 50), .mv (.t 1), none⟩, ⟨(some 51), .bin .geq (.t 49) (.t 50), none⟩, ⟨(some 52), .mv (.t 51), none⟩, ⟨(some 53), .mv (.t 11), (some (52,
   true))⟩, ⟨(some 54), .mv (.t 1), (some (52, true))⟩, ⟨(some 55), .mv (.t 2), (some (52, true))⟩, ⟨(some 56), .bin .add (.t 54) (.t 55), (some (52, true))⟩, ⟨(some 57),
   .bin .lss (.t 53) (.t 56), (some (52, true))⟩, ⟨(some 58), .pick (.t 52) (.t 57) (.c (.bool false)), none⟩]) (.seq (.keep [0, 1, 2, 3, 10, 11, 58]) (.cond (.t 58)
    (.exit 1) (.skip)))) (.seq (.keep [0, 1, 2, 3, 10, 11]) (.seq (.region 0 [⟨(some 59), .mv (.t 11), none⟩, ⟨(some 12), .mv (.t 59), none⟩]) (.seq (.seq
    (.region 0 [⟨(some 60), .mv (.t 11), none⟩, ⟨(some 61), .mv (.t 1), none⟩, ⟨(some 62), .bin .gtr (.t 60) (.t 61), none⟩]) (.cond (.t 62) (.region 0 [⟨(some 63), .mv
    (.t 11), none⟩, ⟨(some 64), .mv (.t 2), none⟩, ⟨(some 65), .bin .sub (.t 63) (.t 64), none⟩, ⟨(some 66), .mv (.t 3), none⟩, ⟨(some 67), .len false (.t 66), none⟩,
   ⟨(some 68), .bin .add (.t 65) (.t 67), none⟩, ⟨(some 12), .mv (.t 68), none⟩]) (.skip))) (.seq (.keep [0, 1, 2, 3, 10, 11, 12]) (.seq (.region 1 [⟨(some 69), .mv
    (.t 0), none⟩, ⟨(some 70), .mv (.t 11), none⟩, ⟨(some 71), .iaddr 4 (.t 69) (.t 70), none⟩, ⟨(some 72), .load 4 true false (.t 71), none⟩, ⟨(some 13), .alloc 0
    ([.int .i64 0, .int .i64 0, .int .i64 0, .int .u32 0]), none⟩, ⟨none, .store 4 (.t 13) (.t 72), none⟩]) (.seq (.keep [0, 1, 2, 3, 10, 11, 12, 13]) (.seq (.seq
    (.region 0 [⟨(some 73), .faddr 0 (.t 13), none⟩, ⟨(some 74), .load 1 false false (.t 73), none⟩, ⟨(some 75), .bin .eql (.t 74) (.c (.int .i64 5)), none⟩]) (.cond
    (.t 75) (.region 0 [⟨(some 76), .mv (.t 10), none⟩, ⟨(some 77), .mv (.t 12), none⟩, ⟨(some 78), .mv (.t 11), none⟩, ⟨(some 79), .bin .add (.t 78) (.c (.int .i64 1)),
   none⟩, ⟨(some 80), .faddr 3 (.t 13), none⟩, ⟨(some 81), .load 1 false false (.t 80), none⟩, ⟨(some 82), .conv .i64 (.t 81), none⟩, ⟨(some 83), .bin .add (.t 79)
    (.t 82), none⟩, ⟨(some 84), .mv (.t 1), none⟩, ⟨(some 85), .mv (.t 2), none⟩, ⟨(some 86), .mv (.t 3), none⟩, ⟨(some 87), .len false (.t 86), none⟩, ⟨(some 88),
   .pcall 212 [.t 83, .t 84, .t 85, .t 87], none⟩, ⟨(some 89), .mv (.t 12), none⟩, ⟨(some 90), .bin .sub (.t 88) (.t 89), none⟩, ⟨(some 91), .bin .sub (.t 90) (.c
    (.int .i64 1)), none⟩, ⟨(some 92), .conv .u32 (.t 91), none⟩, ⟨(some 93), .iaddr 4 (.t 76) (.t 77), none⟩, ⟨(some 94), .faddr 3 (.t 93), none⟩, ⟨none, .store 1
    (.t 94) (.t 92), none⟩]) (.skip))) (.seq (.keep [0, 1, 2, 3, 10, 11, 12, 13]) (.seq (.region 0 [⟨(some 95), .load 4 true false (.t 13), none⟩, ⟨(some 96),
   .pcall 180 [.t 95], none⟩]) (.cond (.t 96) (.seq (.region 0 [⟨(some 97), .mv (.t 10), none⟩, ⟨(some 98), .mv (.t 12), none⟩, ⟨(some 99), .mv (.t 11), none⟩,
   ⟨(some 100), .bin .add (.t 99) (.c (.int .i64 1)), none⟩, ⟨(some 101), .faddr 1 (.t 13), none⟩, ⟨(some 102), .load 1 false false (.t 101), none⟩, ⟨(some 103), .bin .add
    (.t 100) (.t 102), none⟩, ⟨(some 104), .mv (.t 1), none⟩, ⟨(some 105), .mv (.t 2), none⟩, ⟨(some 106), .mv (.t 3), none⟩, ⟨(some 107), .len false (.t 106), none⟩,
   ⟨(some 108), .pcall 212 [.t 103, .t 104, .t 105, .t 107], none⟩, ⟨(some 109), .mv (.t 12), none⟩, ⟨(some 110), .bin .sub (.t 108) (.t 109), none⟩, ⟨(some 111),
   .bin .sub (.t 110) (.c (.int .i64 1)), none⟩, ⟨(some 112), .iaddr 4 (.t 97) (.t 98), none⟩, ⟨(some 113), .faddr 1 (.t 112), none⟩, ⟨none, .store 1 (.t 113) (.t 111),
   none⟩]) (.seq (.keep [0, 1, 2, 3, 10, 11, 12, 13]) (.region 0 [⟨(some 114), .mv (.t 10), none⟩, ⟨(some 115), .mv (.t 12), none⟩, ⟨(some 116), .mv (.t 11), none⟩,
   ⟨(some 117), .bin .add (.t 116) (.c (.int .i64 1)), none⟩, ⟨(some 118), .faddr 2 (.t 13), none⟩, ⟨(some 119), .load 1 false false (.t 118), none⟩, ⟨(some 120),
   .bin .add (.t 117) (.t 119), none⟩, ⟨(some 121), .mv (.t 1), none⟩, ⟨(some 122), .mv (.t 2), none⟩, ⟨(some 123), .mv (.t 3), none⟩, ⟨(some 124), .len false (.t 123),
   none⟩, ⟨(some 125), .pcall 212 [.t 120, .t 121, .t 122, .t 124], none⟩, ⟨(some 126), .mv (.t 12), none⟩, ⟨(some 127), .bin .sub (.t 125) (.t 126), none⟩, ⟨(some 128),
   .bin .sub (.t 127) (.c (.int .i64 1)), none⟩, ⟨(some 129), .iaddr 4 (.t 114) (.t 115), none⟩, ⟨(some 130), .faddr 2 (.t 129), none⟩, ⟨none, .store 1 (.t 130) (.t 128),
   none⟩]))) (.skip))))))))))))) (.seq (.keep [0, 1, 2, 3, 10, 11]) (.region 0 [⟨(some 47), .mv (.t 11), none⟩, ⟨(some 48), .bin .add (.t 47) (.c (.int .i64 1)), none⟩,
   ⟨(some 11), .mv (.t 48), none⟩])))))))) (.seq (.keep [10]) (.seq (.region 0 [⟨(some 131), .mv (.t 10), none⟩, ⟨(some 8), .mv (.t 131), none⟩, ⟨(some 9), .mv (.c
    (.int .i64 0)), none⟩]) (.ret)))))))),
  [.tmp 8, .tmp 9]⟩
/-- A table that holds these. -/
class HasWRight (G : Tbl) : Prop where
  h_window_Right : G 202 = some c_window_Right
/-- A table that holds these. -/
class HasR17 (G : Tbl) : Prop where
  h_hurdleref17_Right : G 203 = some c_hurdleref17_Right
/-- A table that holds these. -/
class HasSpl (G : Tbl) : Prop where
  h_splice_targets : G 204 = some c_splice_targets
  h_splice_free : G 205 = some c_splice_free
  h_splice_Free : G 206 = some c_splice_Free
  h_splice_Put_1 : G 207 = some c_splice_Put_1
  h_splice_Put : G 208 = some c_splice_Put
/-- A table that holds these. -/
class HasR22 (G : Tbl) : Prop where
  h_hurdleref22_jumps : G 210 = some c_hurdleref22_jumps
  h_hurdleref22_Free : G 211 = some c_hurdleref22_Free
  h_hurdleref22_place : G 212 = some c_hurdleref22_place
  h_hurdleref22_Put : G 213 = some c_hurdleref22_Put
end Go.Ev
/- Simplified code of Go functions, by scode.py. -/
namespace Go.Ev
/-- hurdle/hurdlelaw22.great -/
def c_hurdlelaw22_great : SFn := ⟨13,
  .seq (.region 0 [⟨(some 4), .mv (.c (.bool false)), none⟩]) (.seq (.region 0 [⟨(some 5), .mv (.t 0), none⟩, ⟨(some 6), .len false (.t 5), none⟩, ⟨(some 7), .bin .gtr
    (.t 6) (.c (.int .i64 100)), none⟩, ⟨(some 8), .mv (.t 7), none⟩, ⟨(some 9), .mv (.t 1), (some (8, false))⟩, ⟨(some 10), .len false (.t 9), (some (8, false))⟩,
   ⟨(some 11), .bin .gtr (.t 10) (.c (.int .i64 100)), (some (8, false))⟩, ⟨(some 12), .pick (.t 8) (.c (.bool true)) (.t 11), none⟩, ⟨(some 4), .mv (.t 12), none⟩])
    (.ret)),
  [.tmp 4]⟩
/-- hurdle/hurdlelaw22.knows -/
def c_hurdlelaw22_knows : SFn := ⟨58,
  .seq (.region 0 [⟨(some 0), .mv (.c (.bool false)), none⟩]) (.seq (.region 0 [⟨(some 8), .pcall 148 [.c (.str [110, 101, 103, 10, 110, 101, 103, 10, 114, 101, 116, 97,
   10])], none⟩, ⟨(some 7), .mv (.t 8), none⟩, ⟨(some 9), .ext 0 (.t 7), none⟩, ⟨(some 10), .ext 1 (.t 7), none⟩, ⟨(some 11), .ext 2 (.t 7), none⟩, ⟨(some 1), .mv (.t 9),
   none⟩, ⟨(some 2), .mv (.t 10), none⟩, ⟨(some 3), .mv (.t 11), none⟩]) (.seq (.keep [1, 3]) (.seq (.region 0 [⟨(some 13), .mv (.t 1), none⟩, ⟨(some 14),
   .pcall 208 [.t 13, .c (.int .i64 0), .c (.int .i64 2), .c (.vs [] .full)], none⟩, ⟨(some 12), .mv (.t 14), none⟩, ⟨(some 15), .ext 0 (.t 12), none⟩, ⟨(some 16), .ext 1
    (.t 12), none⟩, ⟨(some 4), .mv (.t 15), none⟩, ⟨(some 5), .mv (.t 16), none⟩]) (.seq (.keep [1, 3, 4, 5]) (.seq (.region 0 [⟨(some 17), .mv (.t 1), none⟩, ⟨(some 18),
   .pcall 209 [.t 17, .c (.int .i64 4)], none⟩, ⟨(some 6), .mv (.t 18), none⟩]) (.seq (.region 0 [⟨(some 19), .mv (.t 3), none⟩, ⟨(some 20), .bin .eql (.t 19) (.c
    (.int .i64 0)), none⟩, ⟨(some 21), .mv (.t 20), none⟩, ⟨(some 22), .mv (.t 4), (some (21, true))⟩, ⟨(some 23), .len false (.t 22), (some (21, true))⟩, ⟨(some 24),
   .bin .eql (.t 23) (.c (.int .i64 1)), (some (21, true))⟩, ⟨(some 25), .pick (.t 21) (.t 24) (.c (.bool false)), none⟩, ⟨(some 26), .mv (.t 25), none⟩, ⟨(some 27), .mv
    (.t 4), (some (26, true))⟩, ⟨(some 28), .iaddr 4 (.t 27) (.c (.int .i64 0)), (some (26, true))⟩, ⟨(some 29), .load 4 true false (.t 28), (some (26, true))⟩,
   ⟨(some 30), .build ([.int .i64 0, .int .i64 0, .int .i64 0, .int .u32 0]) [(0, 1, .c (.int .i64 22))], (some (26, true))⟩, ⟨(some 31), .aeq ([.int, .int, .int,
   .int]) false (.t 29) (.t 30), (some (26, true))⟩, ⟨(some 32), .pick (.t 26) (.t 31) (.c (.bool false)), none⟩, ⟨(some 33), .mv (.t 32), none⟩, ⟨(some 34), .mv (.t 5),
   (some (33, true))⟩, ⟨(some 35), .bin .eql (.t 34) (.c (.int .i64 0)), (some (33, true))⟩, ⟨(some 36), .pick (.t 33) (.t 35) (.c (.bool false)), none⟩, ⟨(some 37), .mv
    (.t 36), none⟩, ⟨(some 38), .mv (.t 6), (some (37, true))⟩, ⟨(some 39), .len false (.t 38), (some (37, true))⟩, ⟨(some 40), .bin .eql (.t 39) (.c (.int .i64 1)), (some
    (37, true))⟩, ⟨(some 41), .pick (.t 37) (.t 40) (.c (.bool false)), none⟩, ⟨(some 42), .mv (.t 41), none⟩, ⟨(some 43), .mv (.t 6), (some (42, true))⟩, ⟨(some 44),
   .iaddr 2 (.t 43) (.c (.int .i64 0)), (some (42, true))⟩, ⟨(some 45), .load 2 true false (.t 44), (some (42, true))⟩, ⟨(some 46), .build ([.int .i64 0,
   .int .i64 0]) [(0, 1, .c (.int .i64 0)), (1, 1, .c (.int .i64 2))], (some (42, true))⟩, ⟨(some 47), .aeq ([.int, .int]) false (.t 45) (.t 46), (some (42, true))⟩,
   ⟨(some 48), .pick (.t 42) (.t 47) (.c (.bool false)), none⟩, ⟨(some 49), .mv (.t 48), none⟩, ⟨(some 50), .mv (.t 1), (some (49, true))⟩, ⟨(some 51), .pcall 206 [.t 50,
   .c (.int .i64 0), .c (.int .i64 2)], (some (49, true))⟩, ⟨(some 52), .pick (.t 49) (.t 51) (.c (.bool false)), none⟩, ⟨(some 53), .mv (.t 52), none⟩, ⟨(some 54), .mv
    (.t 1), (some (53, true))⟩, ⟨(some 55), .pcall 206 [.t 54, .c (.int .i64 0), .c (.int .i64 3)], (some (53, true))⟩, ⟨(some 56), .un .not (.t 55), (some (53, true))⟩,
   ⟨(some 57), .pick (.t 53) (.t 56) (.c (.bool false)), none⟩, ⟨(some 0), .mv (.t 57), none⟩]) (.ret))))))),
  [.tmp 0]⟩
/-- hurdle/hurdlelaw22.SplicePuts -/
def c_hurdlelaw22_SplicePuts : SFn := ⟨55,
  .seq (.region 0 [⟨(some 8), .mv (.c (.bool false)), none⟩]) (.seq (.seq (.region 0 [⟨(some 13), .mv (.t 0), none⟩, ⟨(some 14), .mv (.t 3), none⟩, ⟨(some 15),
   .pcall 223 [.t 13, .t 14], none⟩]) (.cond (.t 15) (.seq (.region 0 [⟨(some 16), .pcall 224 [], none⟩, ⟨(some 8), .mv (.t 16), none⟩]) (.ret)) (.skip))) (.seq
    (.keep [0, 1, 2, 3]) (.seq (.region 0 [⟨(some 18), .mv (.t 0), none⟩, ⟨(some 19), .mv (.t 1), none⟩, ⟨(some 20), .mv (.t 2), none⟩, ⟨(some 21), .mv (.t 3), none⟩,
   ⟨(some 22), .pcall 208 [.t 18, .t 19, .t 20, .t 21], none⟩, ⟨(some 17), .mv (.t 22), none⟩, ⟨(some 23), .ext 0 (.t 17), none⟩, ⟨(some 24), .ext 1 (.t 17), none⟩,
   ⟨(some 9), .mv (.t 23), none⟩, ⟨(some 10), .mv (.t 24), none⟩]) (.seq (.keep [0, 1, 2, 3, 9, 10]) (.seq (.region 0 [⟨(some 26), .mv (.t 0), none⟩, ⟨(some 27), .mv
    (.t 1), none⟩, ⟨(some 28), .mv (.t 2), none⟩, ⟨(some 29), .mv (.t 3), none⟩, ⟨(some 30), .pcall 213 [.t 26, .t 27, .t 28, .t 29], none⟩, ⟨(some 25), .mv (.t 30),
   none⟩, ⟨(some 31), .ext 0 (.t 25), none⟩, ⟨(some 32), .ext 1 (.t 25), none⟩, ⟨(some 11), .mv (.t 31), none⟩, ⟨(some 12), .mv (.t 32), none⟩]) (.seq (.keep [0, 1, 2, 9,
   10, 11, 12]) (.seq (.region 0 [⟨(some 33), .mv (.t 0), none⟩, ⟨(some 34), .mv (.t 1), none⟩, ⟨(some 35), .mv (.t 2), none⟩, ⟨(some 36), .pcall 206 [.t 33, .t 34,
   .t 35], none⟩, ⟨(some 37), .mv (.t 0), none⟩, ⟨(some 38), .mv (.t 1), none⟩, ⟨(some 39), .mv (.t 2), none⟩, ⟨(some 40), .pcall 211 [.t 37, .t 38, .t 39], none⟩,
   ⟨(some 41), .beq false (.t 36) (.t 40), none⟩, ⟨(some 42), .mv (.t 41), none⟩, ⟨(some 43), .mv (.t 9), (some (42, true))⟩, ⟨(some 44), .mv (.t 11), (some (42, true))⟩,
   ⟨(some 45), .pcall 201 [.t 43, .t 44], (some (42, true))⟩, ⟨(some 46), .pick (.t 42) (.t 45) (.c (.bool false)), none⟩, ⟨(some 47), .mv (.t 46), none⟩, ⟨(some 48), .mv
    (.t 10), (some (47, true))⟩, ⟨(some 49), .mv (.t 12), (some (47, true))⟩, ⟨(some 50), .bin .eql (.t 48) (.t 49), (some (47, true))⟩, ⟨(some 51), .pick (.t 47) (.t 50)
    (.c (.bool false)), none⟩, ⟨(some 52), .mv (.t 51), none⟩, ⟨(some 53), .pcall 224 [], (some (52, true))⟩, ⟨(some 54), .pick (.t 52) (.t 53) (.c (.bool false)), none⟩,
   ⟨(some 8), .mv (.t 54), none⟩]) (.ret)))))))),
  [.tmp 8]⟩
/-- A table that holds these. -/
class HasL22 (G : Tbl) : Prop where
  h_hurdlelaw22_great : G 223 = some c_hurdlelaw22_great
  h_hurdlelaw22_SplicePuts : G 225 = some c_hurdlelaw22_SplicePuts
end Go.Ev
