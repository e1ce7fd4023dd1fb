/- Simplified code of Go functions, by scode.py. -/
import Derived.Test.YtdomogpjchpbnaaEvNW
namespace Go.Ev
/-- hurdle/bits.counts -/
def c_bits_counts : SFn := ⟨27,
  .seq (.region 1 [⟨(some 2), .box 0 (.t 0), none⟩, ⟨(some 4), .mv (.c (.bool false)), none⟩]) (.seq (.seq (.region 0 [⟨(some 6), .faddr 1 (.t 2), none⟩, ⟨(some 7),
   .load 1 false false (.t 6), none⟩, ⟨(some 8), .len false (.t 7), none⟩, ⟨(some 9), .mv (.c (.int .i64 0)), none⟩]) (.block 0 (.loop [1, 2, 8, 9] (.seq
    (.region 0 [⟨(some 10), .bin .lss (.t 9) (.t 8), none⟩]) (.seq (.cond (.t 10) (.skip) (.exit 0)) (.seq (.block 1 (.seq (.region 0 [⟨(some 11), .mv (.t 9), none⟩,
   ⟨(some 5), .mv (.t 11), none⟩]) (.seq (.region 0 [⟨(some 12), .faddr 1 (.t 2), none⟩, ⟨(some 13), .load 1 false true (.t 12), none⟩, ⟨(some 14), .mv (.t 5), none⟩,
   ⟨(some 15), .iaddr 1 (.t 13) (.t 14), none⟩, ⟨(some 16), .load 1 false true (.t 15), none⟩, ⟨(some 17), .faddr 1 (.t 2), none⟩, ⟨(some 18), .load 1 false true (.t 17),
   none⟩, ⟨(some 19), .mv (.t 5), none⟩, ⟨(some 20), .mv (.t 1), none⟩, ⟨(some 21), .bin .shl (.c (.int .i64 1)) (.t 20), none⟩, ⟨(some 22), .bin .xor (.t 19) (.t 21),
   none⟩, ⟨(some 23), .iaddr 1 (.t 18) (.t 22), none⟩, ⟨(some 24), .load 1 false true (.t 23), none⟩, ⟨(some 25), .bin .neq (.t 16) (.t 24), none⟩]) (.seq (.keep [1, 2, 8,
   9, 25]) (.cond (.t 25) (.seq (.region 0 [⟨(some 4), .mv (.c (.bool true)), none⟩]) (.ret)) (.skip)))))) (.seq (.keep [1, 2, 8, 9]) (.region 0 [⟨(some 26), .bin .add
    (.t 9) (.c (.int .i64 1)), none⟩, ⟨(some 9), .mv (.t 26), none⟩])))))))) (.seq (.keep []) (.seq (.region 0 [⟨(some 4), .mv (.c (.bool false)), none⟩]) (.ret)))),
  [.tmp 4]⟩
/-- hurdle/bits.Right -/
def c_bits_Right : SFn := ⟨54,
  .seq (.region 1 [⟨(some 1), .box 0 (.t 0), none⟩, ⟨(some 2), .mv (.c (.bool false)), none⟩]) (.seq (.seq (.region 0 [⟨(some 5), .faddr 0 (.t 1), none⟩, ⟨(some 6),
   .load 1 false true (.t 5), none⟩, ⟨(some 7), .len false (.t 6), none⟩, ⟨(some 8), .bin .gtr (.t 7) (.c (.int .i64 4)), none⟩, ⟨(some 9), .mv (.t 8), none⟩, ⟨(some 10),
   .faddr 1 (.t 1), (some (9, false))⟩, ⟨(some 11), .load 1 false true (.t 10), (some (9, false))⟩, ⟨(some 12), .len false (.t 11), (some (9, false))⟩, ⟨(some 13),
   .faddr 0 (.t 1), (some (9, false))⟩, ⟨(some 14), .load 1 false true (.t 13), (some (9, false))⟩, ⟨(some 15), .len false (.t 14), (some (9, false))⟩, ⟨(some 16),
   .bin .shl (.c (.int .i64 1)) (.t 15), (some (9, false))⟩, ⟨(some 17), .bin .neq (.t 12) (.t 16), (some (9, false))⟩, ⟨(some 18), .pick (.t 9) (.c (.bool true))
    (.t 17), none⟩]) (.seq (.keep [1, 18]) (.cond (.t 18) (.seq (.region 0 [⟨(some 2), .mv (.c (.bool false)), none⟩]) (.ret)) (.skip)))) (.seq (.keep [1]) (.seq (.seq
    (.region 0 [⟨(some 19), .faddr 0 (.t 1), none⟩, ⟨(some 20), .load 1 false false (.t 19), none⟩, ⟨(some 21), .len false (.t 20), none⟩, ⟨(some 22), .mv (.c
    (.int .i64 0)), none⟩]) (.block 0 (.loop [1, 20, 21, 22] (.seq (.region 0 [⟨(some 23), .bin .lss (.t 22) (.t 21), none⟩]) (.seq (.cond (.t 23) (.skip) (.exit 0))
    (.seq (.block 1 (.seq (.region 0 [⟨(some 24), .mv (.t 22), none⟩, ⟨(some 25), .iaddr 1 (.t 20) (.t 22), none⟩, ⟨(some 26), .load 1 false false (.t 25), none⟩,
   ⟨(some 3), .mv (.t 24), none⟩, ⟨(some 4), .mv (.t 26), none⟩]) (.seq (.keep [1, 3, 4, 20, 21, 22]) (.seq (.region 0 [⟨(some 27), .mv (.t 4), none⟩, ⟨(some 28),
   .bin .lss (.t 27) (.c (.int .i64 0)), none⟩, ⟨(some 29), .mv (.t 28), none⟩, ⟨(some 30), .mv (.t 4), (some (29, false))⟩, ⟨(some 31), .bin .geq (.t 30) (.c
    (.int .i64 34)), (some (29, false))⟩, ⟨(some 32), .pick (.t 29) (.c (.bool true)) (.t 31), none⟩, ⟨(some 33), .mv (.t 32), none⟩, ⟨(some 34), .mv (.t 3), (some (33,
   false))⟩, ⟨(some 35), .bin .gtr (.t 34) (.c (.int .i64 0)), (some (33, false))⟩, ⟨(some 36), .mv (.t 35), (some (33, false))⟩, ⟨(some 37), .faddr 0 (.t 1), (some (36,
   true))⟩, ⟨(some 38), .load 1 false false (.t 37), (some (36, true))⟩, ⟨(some 39), .mv (.t 3), (some (36, true))⟩, ⟨(some 40), .bin .sub (.t 39) (.c (.int .i64 1)),
   (some (36, true))⟩, ⟨(some 41), .iaddr 1 (.t 38) (.t 40), (some (36, true))⟩, ⟨(some 42), .load 1 false false (.t 41), (some (36, true))⟩, ⟨(some 43), .mv (.t 4), (some
    (36, true))⟩, ⟨(some 44), .bin .geq (.t 42) (.t 43), (some (36, true))⟩, ⟨(some 45), .pick (.t 36) (.t 44) (.c (.bool false)), (some (33, false))⟩, ⟨(some 46), .pick
    (.t 33) (.c (.bool true)) (.t 45), none⟩, ⟨(some 47), .mv (.t 46), none⟩, ⟨(some 48), .load 2 true false (.t 1), (some (47, false))⟩, ⟨(some 49), .mv (.t 3), (some
    (47, false))⟩, ⟨(some 50), .pcall 100 [.t 48, .t 49], (some (47, false))⟩, ⟨(some 51), .un .not (.t 50), (some (47, false))⟩, ⟨(some 52), .pick (.t 47) (.c
    (.bool true)) (.t 51), none⟩]) (.seq (.keep [1, 20, 21, 22, 52]) (.cond (.t 52) (.seq (.region 0 [⟨(some 2), .mv (.c (.bool false)), none⟩]) (.ret)) (.skip)))))))
    (.seq (.keep [1, 20, 21, 22]) (.region 0 [⟨(some 53), .bin .add (.t 22) (.c (.int .i64 1)), none⟩, ⟨(some 22), .mv (.t 53), none⟩])))))))) (.seq (.keep []) (.seq
    (.region 0 [⟨(some 2), .mv (.c (.bool true)), none⟩]) (.ret)))))),
  [.tmp 2]⟩
/-- hurdle/bits.Const -/
def c_bits_Const : SFn := ⟨6,
  .seq (.region 1 [⟨(some 2), .alloc 0 ([.vs [] .full, .vs [] .full]), none⟩]) (.seq (.region 0 [⟨(some 3), .mv (.t 0), none⟩, ⟨(some 4), .bslice 1 ([.int .u32 0]) [(0,
   .t 3)], none⟩, ⟨(some 5), .build ([.vs [] .full, .vs [] .full]) [(1, 1, .t 4)], none⟩, ⟨none, .store 2 (.t 2) (.t 5), none⟩]) (.ret)),
  [.cell 2 2 true]⟩
/-- hurdle/bits.Var -/
def c_bits_Var : SFn := ⟨15,
  .seq (.region 1 [⟨(some 2), .alloc 0 ([.vs [] .full, .vs [] .full]), none⟩, ⟨(some 3), .mv (.c (.int .i64 0)), none⟩]) (.seq (.seq (.region 0 [⟨(some 4), .mv (.t 0),
   none⟩, ⟨(some 5), .bin .lss (.t 4) (.c (.int .i64 0)), none⟩, ⟨(some 6), .mv (.t 5), none⟩, ⟨(some 7), .mv (.t 0), (some (6, false))⟩, ⟨(some 8), .bin .geq (.t 7) (.c
    (.int .i64 34)), (some (6, false))⟩, ⟨(some 9), .pick (.t 6) (.c (.bool true)) (.t 8), none⟩]) (.seq (.keep [0, 2, 9]) (.cond (.t 9) (.seq (.region 0 [⟨(some 10),
   .build ([.vs [] .full, .vs [] .full]) [], none⟩, ⟨none, .store 2 (.t 2) (.t 10), none⟩, ⟨(some 3), .mv (.c (.int .i64 1)), none⟩]) (.ret)) (.skip)))) (.seq (.keep [0,
   2]) (.seq (.region 0 [⟨(some 11), .mv (.t 0), none⟩, ⟨(some 12), .bslice 1 ([.int .i64 0]) [(0, .t 11)], none⟩, ⟨(some 13), .bslice 2 ([.int .u32 0]) [(0, .c
    (.int .u32 0)), (1, .c (.int .u32 4294967295))], none⟩, ⟨(some 14), .build ([.vs [] .full, .vs [] .full]) [(0, 1, .t 12), (1, 1, .t 13)], none⟩, ⟨none, .store 2
    (.t 2) (.t 14), none⟩, ⟨(some 3), .mv (.c (.int .i64 0)), none⟩]) (.ret)))),
  [.cell 2 2 true, .tmp 3]⟩
/-- hurdle/bits.union -/
def c_bits_union : SFn := ⟨70,
  .seq (.region 0 [⟨(some 4), .mv (.c (.vs [] .full)), none⟩]) (.seq (.region 0 [⟨(some 5), .mv (.c (.vs [] .full)), none⟩]) (.seq (.seq (.give 5 none) (.block 0 (.loop [0,
   1, 5] (.seq (.seq (.region 0 [⟨(some 6), .mv (.t 0), none⟩, ⟨(some 7), .len false (.t 6), none⟩, ⟨(some 8), .mv (.t 1), none⟩, ⟨(some 9), .len false (.t 8), none⟩,
   ⟨(some 10), .bin .add (.t 7) (.t 9), none⟩, ⟨(some 11), .bin .gtr (.t 10) (.c (.int .i64 0)), none⟩]) (.seq (.keep [0, 1, 5, 11]) (.cond (.t 11) (.skip) (.exit 0))))
    (.seq (.keep [0, 1, 5]) (.block 1 (.block 2 (.seq (.region 0 [⟨(some 23), .mv (.t 1), none⟩, ⟨(some 24), .len false (.t 23), none⟩, ⟨(some 25), .bin .eql (.t 24) (.c
    (.int .i64 0)), none⟩, ⟨(some 26), .mv (.t 25), none⟩, ⟨(some 27), .mv (.t 0), (some (26, false))⟩, ⟨(some 28), .len false (.t 27), (some (26, false))⟩, ⟨(some 29),
   .bin .gtr (.t 28) (.c (.int .i64 0)), (some (26, false))⟩, ⟨(some 30), .mv (.t 29), (some (26, false))⟩, ⟨(some 31), .mv (.t 0), (some (30, true))⟩, ⟨(some 32),
   .iaddr 1 (.t 31) (.c (.int .i64 0)), (some (30, true))⟩, ⟨(some 33), .load 1 false true (.t 32), (some (30, true))⟩, ⟨(some 34), .mv (.t 1), (some (30, true))⟩,
   ⟨(some 35), .iaddr 1 (.t 34) (.c (.int .i64 0)), (some (30, true))⟩, ⟨(some 36), .load 1 false true (.t 35), (some (30, true))⟩, ⟨(some 37), .bin .lss (.t 33) (.t 36),
   (some (30, true))⟩, ⟨(some 38), .pick (.t 30) (.t 37) (.c (.bool false)), (some (26, false))⟩, ⟨(some 39), .pick (.t 26) (.c (.bool true)) (.t 38), none⟩, ⟨(some 22),
   .mv (.t 39), none⟩]) (.seq (.keep [0, 1, 5, 22]) (.cond (.t 22) (.region 1 [⟨(some 40), .mv (.t 5), none⟩, ⟨(some 41), .mv (.t 0), none⟩, ⟨(some 42), .iaddr 1 (.t 41)
    (.c (.int .i64 0)), none⟩, ⟨(some 43), .load 1 false true (.t 42), none⟩, ⟨(some 44), .bslice 1 ([.int .i64 0]) [(0, .t 43)], none⟩, ⟨(some 45), .app 0 1 8 (.t 40)
    (.t 44), none⟩, ⟨(some 46), .mv (.t 0), none⟩, ⟨(some 47), .slc 1 (.t 46) (some (.c (.int .i64 1))) none none, none⟩, ⟨(some 5), .mv (.t 45), none⟩, ⟨(some 0), .mv
    (.t 47), none⟩]) (.seq (.region 0 [⟨(some 49), .mv (.t 0), none⟩, ⟨(some 50), .len false (.t 49), none⟩, ⟨(some 51), .bin .eql (.t 50) (.c (.int .i64 0)), none⟩,
   ⟨(some 52), .mv (.t 51), none⟩, ⟨(some 53), .mv (.t 1), (some (52, false))⟩, ⟨(some 54), .iaddr 1 (.t 53) (.c (.int .i64 0)), (some (52, false))⟩, ⟨(some 55),
   .load 1 false true (.t 54), (some (52, false))⟩, ⟨(some 56), .mv (.t 0), (some (52, false))⟩, ⟨(some 57), .iaddr 1 (.t 56) (.c (.int .i64 0)), (some (52, false))⟩,
   ⟨(some 58), .load 1 false true (.t 57), (some (52, false))⟩, ⟨(some 59), .bin .lss (.t 55) (.t 58), (some (52, false))⟩, ⟨(some 60), .pick (.t 52) (.c (.bool true))
    (.t 59), none⟩, ⟨(some 48), .mv (.t 60), none⟩]) (.seq (.keep [0, 1, 5, 48]) (.cond (.t 48) (.region 1 [⟨(some 61), .mv (.t 5), none⟩, ⟨(some 62), .mv (.t 1), none⟩,
   ⟨(some 63), .iaddr 1 (.t 62) (.c (.int .i64 0)), none⟩, ⟨(some 64), .load 1 false true (.t 63), none⟩, ⟨(some 65), .bslice 1 ([.int .i64 0]) [(0, .t 64)], none⟩,
   ⟨(some 66), .app 0 1 8 (.t 61) (.t 65), none⟩, ⟨(some 67), .mv (.t 1), none⟩, ⟨(some 68), .slc 1 (.t 67) (some (.c (.int .i64 1))) none none, none⟩, ⟨(some 5), .mv
    (.t 66), none⟩, ⟨(some 1), .mv (.t 68), none⟩]) (.region 1 [⟨(some 12), .mv (.t 5), none⟩, ⟨(some 13), .mv (.t 0), none⟩, ⟨(some 14), .iaddr 1 (.t 13) (.c
    (.int .i64 0)), none⟩, ⟨(some 15), .load 1 false true (.t 14), none⟩, ⟨(some 16), .bslice 1 ([.int .i64 0]) [(0, .t 15)], none⟩, ⟨(some 17), .app 0 1 8 (.t 12)
    (.t 16), none⟩, ⟨(some 18), .mv (.t 0), none⟩, ⟨(some 19), .slc 1 (.t 18) (some (.c (.int .i64 1))) none none, none⟩, ⟨(some 20), .mv (.t 1), none⟩, ⟨(some 21), .slc 1
    (.t 20) (some (.c (.int .i64 1))) none none, none⟩, ⟨(some 5), .mv (.t 17), none⟩, ⟨(some 0), .mv (.t 19), none⟩, ⟨(some 1), .mv (.t 21), none⟩])))))))))))))) (.seq
    (.keep [5]) (.seq (.region 0 [⟨(some 69), .mv (.t 5), none⟩, ⟨(some 4), .mv (.t 69), none⟩]) (.ret))))),
  [.tmp 4]⟩
/-- hurdle/bits.at -/
def c_bits_at : SFn := ⟨48,
  .seq (.region 1 [⟨(some 3), .box 0 (.t 0), none⟩, ⟨(some 6), .mv (.c (.int .u32 0)), none⟩]) (.seq (.region 0 [⟨(some 7), .mv (.c (.int .i64 0)), none⟩, ⟨(some 8), .mv
    (.c (.int .i64 0)), none⟩]) (.seq (.seq (.region 0 [⟨(some 11), .mv (.t 1), none⟩, ⟨(some 12), .len false (.t 11), none⟩, ⟨(some 13), .mv (.c (.int .i64 0)), none⟩])
    (.block 0 (.loop [2, 3, 7, 8, 11, 12, 13] (.seq (.region 0 [⟨(some 14), .bin .lss (.t 13) (.t 12), none⟩]) (.seq (.cond (.t 14) (.skip) (.exit 0)) (.seq (.block 1
    (.seq (.region 0 [⟨(some 15), .mv (.t 13), none⟩, ⟨(some 16), .iaddr 1 (.t 11) (.t 13), none⟩, ⟨(some 17), .load 1 false false (.t 16), none⟩, ⟨(some 9), .mv (.t 15),
   none⟩, ⟨(some 10), .mv (.t 17), none⟩]) (.seq (.keep [2, 3, 7, 8, 9, 10, 11, 12, 13]) (.seq (.region 0 [⟨(some 18), .mv (.t 8), none⟩, ⟨(some 19), .faddr 0 (.t 3),
   none⟩, ⟨(some 20), .load 1 false false (.t 19), none⟩, ⟨(some 21), .len false (.t 20), none⟩, ⟨(some 22), .bin .lss (.t 18) (.t 21), none⟩, ⟨(some 23), .mv (.t 22),
   none⟩, ⟨(some 24), .faddr 0 (.t 3), (some (23, true))⟩, ⟨(some 25), .load 1 false false (.t 24), (some (23, true))⟩, ⟨(some 26), .mv (.t 8), (some (23, true))⟩,
   ⟨(some 27), .iaddr 1 (.t 25) (.t 26), (some (23, true))⟩, ⟨(some 28), .load 1 false false (.t 27), (some (23, true))⟩, ⟨(some 29), .mv (.t 10), (some (23, true))⟩,
   ⟨(some 30), .bin .eql (.t 28) (.t 29), (some (23, true))⟩, ⟨(some 31), .pick (.t 23) (.t 30) (.c (.bool false)), none⟩]) (.seq (.keep [2, 3, 7, 8, 9, 11, 12, 13, 31])
    (.cond (.t 31) (.seq (.region 0 [⟨(some 32), .mv (.t 7), none⟩, ⟨(some 33), .mv (.t 2), none⟩, ⟨(some 34), .mv (.t 9), none⟩, ⟨(some 35), .bin .shr (.t 33) (.t 34),
   none⟩, ⟨(some 36), .bin .and (.t 35) (.c (.int .i64 1)), none⟩, ⟨(some 37), .mv (.t 8), none⟩, ⟨(some 38), .bin .shl (.t 36) (.t 37), none⟩, ⟨(some 39), .bin .or
    (.t 32) (.t 38), none⟩, ⟨(some 7), .mv (.t 39), none⟩]) (.seq (.keep [2, 3, 7, 8, 11, 12, 13]) (.region 0 [⟨(some 40), .mv (.t 8), none⟩, ⟨(some 41), .bin .add
    (.t 40) (.c (.int .i64 1)), none⟩, ⟨(some 8), .mv (.t 41), none⟩]))) (.skip))))))) (.seq (.keep [2, 3, 7, 8, 11, 12, 13]) (.region 0 [⟨(some 42), .bin .add (.t 13)
    (.c (.int .i64 1)), none⟩, ⟨(some 13), .mv (.t 42), none⟩])))))))) (.seq (.keep [3, 7]) (.seq (.region 0 [⟨(some 43), .faddr 1 (.t 3), none⟩, ⟨(some 44),
   .load 1 false false (.t 43), none⟩, ⟨(some 45), .mv (.t 7), none⟩, ⟨(some 46), .iaddr 1 (.t 44) (.t 45), none⟩, ⟨(some 47), .load 1 false false (.t 46), none⟩,
   ⟨(some 6), .mv (.t 47), none⟩]) (.ret))))),
  [.tmp 6]⟩
/-- hurdle/bits.plain -/
def c_bits_plain : SFn := ⟨54,
  .seq (.region 2 [⟨(some 1), .box 0 (.t 0), none⟩, ⟨(some 2), .alloc 1 ([.vs [] .full, .vs [] .full]), none⟩]) (.seq (.seq (.region 0 [⟨(some 3), .mv (.c (.int .i64 0)),
   none⟩]) (.block 0 (.loop [1, 2, 3] (.seq (.seq (.region 0 [⟨(some 6), .mv (.t 3), none⟩, ⟨(some 7), .faddr 0 (.t 1), none⟩, ⟨(some 8), .load 1 false false (.t 7),
   none⟩, ⟨(some 9), .len false (.t 8), none⟩, ⟨(some 10), .bin .lss (.t 6) (.t 9), none⟩]) (.seq (.keep [1, 2, 3, 10]) (.cond (.t 10) (.skip) (.exit 0)))) (.seq
    (.keep [1, 2, 3]) (.seq (.block 1 (.seq (.seq (.region 0 [⟨(some 13), .load 2 true false (.t 1), none⟩, ⟨(some 14), .mv (.t 3), none⟩, ⟨(some 15), .pcall 100 [.t 13,
   .t 14], none⟩]) (.cond (.t 15) (.exit 1) (.skip))) (.seq (.keep [1, 2, 3]) (.seq (.region 1 [⟨(some 4), .alloc 0 ([.vs [] .full, .vs [] .full]), none⟩]) (.seq
    (.region 2 [⟨(some 16), .faddr 0 (.t 4), none⟩, ⟨(some 17), .load 1 false true (.t 16), none⟩, ⟨(some 18), .faddr 0 (.t 1), none⟩, ⟨(some 19), .load 1 false true
    (.t 18), none⟩, ⟨(some 20), .mv (.t 3), none⟩, ⟨(some 21), .slc 1 (.t 19) none (some (.t 20)) none, none⟩, ⟨(some 22), .app 0 1 8 (.t 17) (.t 21), none⟩, ⟨(some 23),
   .faddr 0 (.t 1), none⟩, ⟨(some 24), .load 1 false true (.t 23), none⟩, ⟨(some 25), .mv (.t 3), none⟩, ⟨(some 26), .bin .add (.t 25) (.c (.int .i64 1)), none⟩,
   ⟨(some 27), .slc 1 (.t 24) (some (.t 26)) none none, none⟩, ⟨(some 28), .app 1 1 8 (.t 22) (.t 27), none⟩, ⟨(some 29), .faddr 0 (.t 4), none⟩, ⟨none, .store 1 (.t 29)
    (.t 28), none⟩]) (.seq (.keep [1, 2, 3, 4]) (.seq (.seq (.region 0 [⟨(some 30), .faddr 1 (.t 1), none⟩, ⟨(some 31), .load 1 false false (.t 30), none⟩, ⟨(some 32),
   .len false (.t 31), none⟩, ⟨(some 33), .mv (.c (.int .i64 0)), none⟩]) (.seq (.give 4 (some 1)) (.block 2 (.loop [1, 2, 3, 4, 32, 33] (.seq (.region 0 [⟨(some 34),
   .bin .lss (.t 33) (.t 32), none⟩]) (.seq (.cond (.t 34) (.skip) (.exit 2)) (.seq (.block 3 (.seq (.region 0 [⟨(some 35), .mv (.t 33), none⟩, ⟨(some 5), .mv (.t 35),
   none⟩]) (.seq (.region 0 [⟨(some 36), .mv (.t 5), none⟩, ⟨(some 37), .mv (.t 3), none⟩, ⟨(some 38), .bin .shr (.t 36) (.t 37), none⟩, ⟨(some 39), .bin .and (.t 38) (.c
    (.int .i64 1)), none⟩, ⟨(some 40), .bin .eql (.t 39) (.c (.int .i64 0)), none⟩]) (.seq (.keep [1, 2, 3, 4, 5, 32, 33, 40]) (.cond (.t 40) (.region 1 [⟨(some 41),
   .faddr 1 (.t 4), none⟩, ⟨(some 42), .load 1 false true (.t 41), none⟩, ⟨(some 43), .faddr 1 (.t 1), none⟩, ⟨(some 44), .load 1 false true (.t 43), none⟩, ⟨(some 45),
   .mv (.t 5), none⟩, ⟨(some 46), .iaddr 1 (.t 44) (.t 45), none⟩, ⟨(some 47), .load 1 false true (.t 46), none⟩, ⟨(some 48), .bslice 1 ([.int .u32 0]) [(0, .t 47)],
   none⟩, ⟨(some 49), .app 0 1 4 (.t 42) (.t 48), none⟩, ⟨(some 50), .faddr 1 (.t 4), none⟩, ⟨none, .store 1 (.t 50) (.t 49), none⟩]) (.skip)))))) (.seq (.keep [1, 2, 3,
   4, 32, 33]) (.region 0 [⟨(some 51), .bin .add (.t 33) (.c (.int .i64 1)), none⟩, ⟨(some 33), .mv (.t 51), none⟩]))))))))) (.seq (.keep [1, 2, 4])
    (.region 0 [⟨(some 52), .load 2 true false (.t 4), none⟩, ⟨none, .store 2 (.t 1) (.t 52), none⟩, ⟨(some 3), .mv (.c (.int .i64 (-1))), none⟩]))))))))) (.seq
    (.keep [1, 2, 3]) (.region 0 [⟨(some 11), .mv (.t 3), none⟩, ⟨(some 12), .bin .add (.t 11) (.c (.int .i64 1)), none⟩, ⟨(some 3), .mv (.t 12), none⟩])))))))) (.seq
    (.keep [1, 2]) (.seq (.region 0 [⟨(some 53), .load 2 true false (.t 1), none⟩, ⟨none, .store 2 (.t 2) (.t 53), none⟩]) (.ret)))),
  [.cell 2 2 true]⟩
/-- hurdle/bits.Do$1 -/
def c_bits_Do_1 : SFn := ⟨25,
  .seq (.region 0 [⟨(some 6), .mv (.c (.int .u32 0)), none⟩]) (.seq (.region 0 [⟨(some 10), .load 1 false true (.t 1), none⟩, ⟨(some 11), .load 2 true true (.t 2), none⟩,
   ⟨(some 12), .faddr 0 (.t 3), none⟩, ⟨(some 13), .load 1 false true (.t 12), none⟩, ⟨(some 14), .mv (.t 0), none⟩, ⟨(some 15), .pcall 105 [.t 11, .t 13, .t 14], none⟩,
   ⟨(some 16), .load 2 true true (.t 4), none⟩, ⟨(some 17), .faddr 0 (.t 3), none⟩, ⟨(some 18), .load 1 false true (.t 17), none⟩, ⟨(some 19), .mv (.t 0), none⟩,
   ⟨(some 20), .pcall 105 [.t 16, .t 18, .t 19], none⟩, ⟨(some 21), .pcall 107 [.t 10, .t 15, .t 20], none⟩, ⟨(some 9), .mv (.t 21), none⟩, ⟨(some 22), .ext 0 (.t 9),
   none⟩, ⟨(some 23), .ext 1 (.t 9), none⟩, ⟨(some 7), .mv (.t 22), none⟩, ⟨(some 8), .mv (.t 23), none⟩]) (.seq (.keep [7]) (.seq (.region 0 [⟨(some 24), .mv (.t 7),
   none⟩, ⟨(some 6), .mv (.t 24), none⟩]) (.ret)))),
  [.tmp 6]⟩
/-- hurdle/bits.Do -/
def c_bits_Do : SFn := ⟨62,
  .seq (.region 4 [⟨(some 3), .box 0 (.t 0), none⟩, ⟨(some 4), .box 1 (.t 1), none⟩, ⟨(some 5), .box 2 (.t 2), none⟩, ⟨(some 6), .alloc 3 ([.vs [] .full, .vs [] .full]),
   none⟩, ⟨(some 7), .mv (.c (.bool false)), none⟩]) (.seq (.seq (.region 0 [⟨(some 11), .load 1 false false (.t 3), none⟩, ⟨(some 12), .bin .neq (.t 11) (.c
    (.int .i64 68)), none⟩, ⟨(some 13), .mv (.t 12), none⟩, ⟨(some 14), .load 1 false false (.t 3), (some (13, true))⟩, ⟨(some 15), .bin .neq (.t 14) (.c (.int .i64 84)),
   (some (13, true))⟩, ⟨(some 16), .pick (.t 13) (.t 15) (.c (.bool false)), none⟩, ⟨(some 17), .mv (.t 16), none⟩, ⟨(some 18), .load 1 false false (.t 3), (some (17,
   true))⟩, ⟨(some 19), .bin .neq (.t 18) (.c (.int .i64 164)), (some (17, true))⟩, ⟨(some 20), .pick (.t 17) (.t 19) (.c (.bool false)), none⟩, ⟨(some 21), .mv (.t 20),
   none⟩, ⟨(some 22), .load 2 true false (.t 4), (some (21, false))⟩, ⟨(some 23), .pcall 101 [.t 22], (some (21, false))⟩, ⟨(some 24), .un .not (.t 23), (some (21,
   false))⟩, ⟨(some 25), .pick (.t 21) (.c (.bool true)) (.t 24), none⟩, ⟨(some 26), .mv (.t 25), none⟩, ⟨(some 27), .load 2 true false (.t 5), (some (26, false))⟩,
   ⟨(some 28), .pcall 101 [.t 27], (some (26, false))⟩, ⟨(some 29), .un .not (.t 28), (some (26, false))⟩, ⟨(some 30), .pick (.t 26) (.c (.bool true)) (.t 29), none⟩])
    (.seq (.keep [3, 4, 5, 6, 30]) (.cond (.t 30) (.seq (.region 0 [⟨(some 31), .build ([.vs [] .full, .vs [] .full]) [], none⟩, ⟨none, .store 2 (.t 6) (.t 31), none⟩,
   ⟨(some 7), .mv (.c (.bool false)), none⟩]) (.ret)) (.skip)))) (.seq (.keep [3, 4, 5, 6]) (.seq (.region 1 [⟨(some 32), .faddr 0 (.t 4), none⟩, ⟨(some 33),
   .load 1 false false (.t 32), none⟩, ⟨(some 34), .faddr 0 (.t 5), none⟩, ⟨(some 35), .load 1 false false (.t 34), none⟩, ⟨(some 36), .pcall 104 [.t 33, .t 35], none⟩,
   ⟨(some 37), .build ([.vs [] .full, .vs [] .full]) [(0, 1, .t 36)], none⟩, ⟨(some 8), .alloc 0 ([.vs [] .full, .vs [] .full]), none⟩, ⟨none, .store 2 (.t 8) (.t 37),
   none⟩]) (.seq (.keep [3, 4, 5, 6, 8]) (.seq (.seq (.region 0 [⟨(some 38), .faddr 0 (.t 8), none⟩, ⟨(some 39), .load 1 false false (.t 38), none⟩, ⟨(some 40), .len false
    (.t 39), none⟩, ⟨(some 41), .bin .gtr (.t 40) (.c (.int .i64 4)), none⟩]) (.seq (.keep [3, 4, 5, 6, 8, 41]) (.cond (.t 41) (.seq (.region 0 [⟨(some 42), .build
    ([.vs [] .full, .vs [] .full]) [], none⟩, ⟨none, .store 2 (.t 6) (.t 42), none⟩, ⟨(some 7), .mv (.c (.bool false)), none⟩]) (.ret)) (.skip)))) (.seq (.keep [3, 4, 5,
   6, 8]) (.seq (.region 0 [⟨(some 43), .mkfn 108 [.t 3, .t 4, .t 8, .t 5], none⟩, ⟨(some 9), .mv (.t 43), none⟩]) (.seq (.seq (.region 0 [⟨(some 44), .faddr 0 (.t 8),
   none⟩, ⟨(some 45), .load 1 false false (.t 44), none⟩, ⟨(some 46), .len false (.t 45), none⟩, ⟨(some 47), .bin .shl (.c (.int .i64 1)) (.t 46), none⟩, ⟨(some 48), .mv
    (.c (.int .i64 0)), none⟩]) (.seq (.keep [6, 8, 9, 47, 48]) (.seq (.give 8 (some 1)) (.block 0 (.loop [6, 8, 9, 47, 48] (.seq (.region 0 [⟨(some 49), .bin .lss
    (.t 48) (.t 47), none⟩]) (.seq (.cond (.t 49) (.skip) (.exit 0)) (.seq (.block 1 (.seq (.region 0 [⟨(some 50), .mv (.t 48), none⟩, ⟨(some 10), .mv (.t 50), none⟩])
    (.region 1 [⟨(some 51), .faddr 1 (.t 8), none⟩, ⟨(some 52), .load 1 false true (.t 51), none⟩, ⟨(some 53), .mv (.t 9), none⟩, ⟨(some 54), .mv (.t 10), none⟩,
   ⟨(some 55), .vcall true (.t 53) [.t 54], none⟩, ⟨(some 56), .bslice 1 ([.int .u32 0]) [(0, .t 55)], none⟩, ⟨(some 57), .app 0 1 4 (.t 52) (.t 56), none⟩, ⟨(some 58),
   .faddr 1 (.t 8), none⟩, ⟨none, .store 1 (.t 58) (.t 57), none⟩]))) (.seq (.keep [6, 8, 9, 47, 48]) (.region 0 [⟨(some 59), .bin .add (.t 48) (.c (.int .i64 1)), none⟩,
   ⟨(some 48), .mv (.t 59), none⟩])))))))))) (.seq (.keep [6, 8]) (.seq (.region 0 [⟨(some 60), .load 2 true false (.t 8), none⟩, ⟨(some 61), .pcall 106 [.t 60], none⟩,
   ⟨none, .store 2 (.t 6) (.t 61), none⟩, ⟨(some 7), .mv (.c (.bool true)), none⟩]) (.ret))))))))))),
  [.cell 6 2 true, .tmp 7]⟩
/-- hurdle/bits.Eval -/
def c_bits_Eval : SFn := ⟨49,
  .seq (.region 2 [⟨(some 2), .box 0 (.t 0), none⟩, ⟨(some 3), .box 1 (.t 1), none⟩, ⟨(some 4), .mv (.c (.int .u32 0)), none⟩, ⟨(some 5), .mv (.c (.bool false)), none⟩])
    (.seq (.seq (.region 0 [⟨(some 11), .load 2 true false (.t 2), none⟩, ⟨(some 12), .pcall 101 [.t 11], none⟩, ⟨(some 13), .un .not (.t 12), none⟩]) (.cond (.t 13)
    (.seq (.region 0 [⟨(some 4), .mv (.c (.int .u32 0)), none⟩, ⟨(some 5), .mv (.c (.bool false)), none⟩]) (.ret)) (.skip))) (.seq (.keep [2, 3]) (.seq
    (.region 0 [⟨(some 6), .mv (.c (.int .u32 0)), none⟩]) (.seq (.seq (.region 0 [⟨(some 14), .mv (.c (.int .i64 0)), none⟩]) (.block 0 (.loop [2, 3, 6, 14] (.seq
    (.region 0 [⟨(some 15), .bin .lss (.t 14) (.c (.int .i64 32)), none⟩]) (.seq (.cond (.t 15) (.skip) (.exit 0)) (.seq (.block 1 (.seq (.region 0 [⟨(some 16), .mv
    (.t 14), none⟩, ⟨(some 7), .mv (.t 16), none⟩]) (.seq (.region 0 [⟨(some 8), .mv (.c (.int .i64 0)), none⟩]) (.seq (.seq (.region 0 [⟨(some 17), .faddr 0 (.t 2),
   none⟩, ⟨(some 18), .load 1 false false (.t 17), none⟩, ⟨(some 19), .len false (.t 18), none⟩, ⟨(some 20), .mv (.c (.int .i64 0)), none⟩]) (.block 2 (.loop [2, 3, 6, 7,
   8, 14, 18, 19, 20] (.seq (.region 0 [⟨(some 21), .bin .lss (.t 20) (.t 19), none⟩]) (.seq (.cond (.t 21) (.skip) (.exit 2)) (.seq (.block 3 (.seq
    (.region 0 [⟨(some 22), .mv (.t 20), none⟩, ⟨(some 23), .iaddr 1 (.t 18) (.t 20), none⟩, ⟨(some 24), .load 1 false false (.t 23), none⟩, ⟨(some 9), .mv (.t 22), none⟩,
   ⟨(some 10), .mv (.t 24), none⟩]) (.seq (.keep [2, 3, 6, 7, 8, 9, 10, 14, 18, 19, 20]) (.region 0 [⟨(some 25), .mv (.t 8), none⟩, ⟨(some 26), .mv (.t 10), none⟩,
   ⟨(some 27), .iaddrA 34 1 (.t 3) (.t 26), none⟩, ⟨(some 28), .load 1 false false (.t 27), none⟩, ⟨(some 29), .mv (.t 7), none⟩, ⟨(some 30), .bin .shr (.t 28) (.t 29),
   none⟩, ⟨(some 31), .bin .and (.t 30) (.c (.int .u32 1)), none⟩, ⟨(some 32), .conv .i64 (.t 31), none⟩, ⟨(some 33), .mv (.t 9), none⟩, ⟨(some 34), .bin .shl (.t 32)
    (.t 33), none⟩, ⟨(some 35), .bin .or (.t 25) (.t 34), none⟩, ⟨(some 8), .mv (.t 35), none⟩])))) (.seq (.keep [2, 3, 6, 7, 8, 14, 18, 19, 20]) (.region 0 [⟨(some 36),
   .bin .add (.t 20) (.c (.int .i64 1)), none⟩, ⟨(some 20), .mv (.t 36), none⟩])))))))) (.seq (.keep [2, 3, 6, 7, 8, 14]) (.region 0 [⟨(some 37), .mv (.t 6), none⟩,
   ⟨(some 38), .faddr 1 (.t 2), none⟩, ⟨(some 39), .load 1 false true (.t 38), none⟩, ⟨(some 40), .mv (.t 8), none⟩, ⟨(some 41), .iaddr 1 (.t 39) (.t 40), none⟩,
   ⟨(some 42), .load 1 false true (.t 41), none⟩, ⟨(some 43), .mv (.t 7), none⟩, ⟨(some 44), .bin .shl (.c (.int .u32 1)) (.t 43), none⟩, ⟨(some 45), .bin .and (.t 42)
    (.t 44), none⟩, ⟨(some 46), .bin .or (.t 37) (.t 45), none⟩, ⟨(some 6), .mv (.t 46), none⟩])))))) (.seq (.keep [2, 3, 6, 14]) (.region 0 [⟨(some 47), .bin .add
    (.t 14) (.c (.int .i64 1)), none⟩, ⟨(some 14), .mv (.t 47), none⟩])))))))) (.seq (.keep [6]) (.seq (.region 0 [⟨(some 48), .mv (.t 6), none⟩, ⟨(some 4), .mv (.t 48),
   none⟩, ⟨(some 5), .mv (.c (.bool true)), none⟩]) (.ret))))))),
  [.tmp 4, .tmp 5]⟩
/-- hurdle/bits.Apart -/
def c_bits_Apart : SFn := ⟨59,
  .seq (.region 3 [⟨(some 2), .box 0 (.t 0), none⟩, ⟨(some 3), .box 1 (.t 1), none⟩, ⟨(some 4), .alloc 2 (rep 34 (.int .u32 0)), none⟩, ⟨(some 5), .mv (.c
    (.bool false)), none⟩]) (.seq (.region 1 [⟨(some 6), .alloc 0 (rep 34 (.int .u32 0)), none⟩]) (.seq (.seq (.region 0 [⟨(some 11), .load 2 true false
    (.t 2), none⟩, ⟨(some 12), .pcall 101 [.t 11], none⟩, ⟨(some 13), .un .not (.t 12), none⟩, ⟨(some 14), .mv (.t 13), none⟩, ⟨(some 15), .load 2 true false (.t 3), (some
    (14, false))⟩, ⟨(some 16), .pcall 101 [.t 15], (some (14, false))⟩, ⟨(some 17), .un .not (.t 16), (some (14, false))⟩, ⟨(some 18), .pick (.t 14) (.c (.bool true))
    (.t 17), none⟩]) (.seq (.keep [2, 3, 4, 6, 18]) (.cond (.t 18) (.seq (.region 0 [⟨(some 19), .load 34 true false (.t 6), none⟩, ⟨none, .store 34 (.t 4) (.t 19), none⟩,
   ⟨(some 5), .mv (.c (.bool false)), none⟩]) (.ret)) (.skip)))) (.seq (.keep [2, 3, 4, 6]) (.seq (.region 0 [⟨(some 20), .faddr 0 (.t 2), none⟩, ⟨(some 21),
   .load 1 false false (.t 20), none⟩, ⟨(some 22), .faddr 0 (.t 3), none⟩, ⟨(some 23), .load 1 false false (.t 22), none⟩, ⟨(some 24), .pcall 104 [.t 21, .t 23], none⟩,
   ⟨(some 7), .mv (.t 24), none⟩]) (.seq (.keep [2, 3, 4, 6, 7]) (.seq (.seq (.region 0 [⟨(some 25), .mv (.t 7), none⟩, ⟨(some 26), .len false (.t 25), none⟩, ⟨(some 27),
   .bin .shl (.c (.int .i64 1)) (.t 26), none⟩, ⟨(some 28), .mv (.c (.int .i64 0)), none⟩]) (.block 0 (.loop [2, 3, 4, 6, 7, 27, 28] (.seq (.region 0 [⟨(some 29),
   .bin .lss (.t 28) (.t 27), none⟩]) (.seq (.cond (.t 29) (.skip) (.exit 0)) (.seq (.block 1 (.seq (.region 0 [⟨(some 30), .mv (.t 28), none⟩, ⟨(some 8), .mv (.t 30),
   none⟩]) (.seq (.seq (.region 0 [⟨(some 31), .load 2 true true (.t 2), none⟩, ⟨(some 32), .mv (.t 7), none⟩, ⟨(some 33), .mv (.t 8), none⟩, ⟨(some 34),
   .pcall 105 [.t 31, .t 32, .t 33], none⟩, ⟨(some 35), .load 2 true true (.t 3), none⟩, ⟨(some 36), .mv (.t 7), none⟩, ⟨(some 37), .mv (.t 8), none⟩, ⟨(some 38),
   .pcall 105 [.t 35, .t 36, .t 37], none⟩, ⟨(some 39), .bin .eql (.t 34) (.t 38), none⟩]) (.seq (.keep [2, 3, 4, 6, 7, 8, 27, 28, 39]) (.cond (.t 39) (.exit 1)
    (.skip)))) (.seq (.keep [4, 6, 7, 8]) (.seq (.seq (.region 0 [⟨(some 40), .mv (.t 7), none⟩, ⟨(some 41), .len false (.t 40), none⟩, ⟨(some 42), .mv (.c
    (.int .i64 0)), none⟩]) (.block 2 (.loop [4, 6, 8, 40, 41, 42] (.seq (.region 0 [⟨(some 43), .bin .lss (.t 42) (.t 41), none⟩]) (.seq (.cond (.t 43) (.skip)
    (.exit 2)) (.seq (.block 3 (.seq (.region 0 [⟨(some 44), .mv (.t 42), none⟩, ⟨(some 45), .iaddr 1 (.t 40) (.t 42), none⟩, ⟨(some 46), .load 1 false false (.t 45),
   none⟩, ⟨(some 9), .mv (.t 44), none⟩, ⟨(some 10), .mv (.t 46), none⟩]) (.seq (.keep [4, 6, 8, 9, 10, 40, 41, 42]) (.region 0 [⟨(some 47), .mv (.t 10), none⟩,
   ⟨(some 48), .mv (.t 8), none⟩, ⟨(some 49), .mv (.t 9), none⟩, ⟨(some 50), .bin .shr (.t 48) (.t 49), none⟩, ⟨(some 51), .bin .and (.t 50) (.c (.int .i64 1)), none⟩,
   ⟨(some 52), .conv .u32 (.t 51), none⟩, ⟨(some 53), .bin .mul (.c (.int .u32 4294967295)) (.t 52), none⟩, ⟨(some 54), .iaddrA 34 1 (.t 6) (.t 47), none⟩, ⟨none, .store 1
    (.t 54) (.t 53), none⟩])))) (.seq (.keep [4, 6, 8, 40, 41, 42]) (.region 0 [⟨(some 55), .bin .add (.t 42) (.c (.int .i64 1)), none⟩, ⟨(some 42), .mv (.t 55),
   none⟩])))))))) (.seq (.keep [4, 6]) (.seq (.region 0 [⟨(some 56), .load 34 true false (.t 6), none⟩, ⟨none, .store 34 (.t 4) (.t 56), none⟩, ⟨(some 5), .mv (.c
    (.bool true)), none⟩]) (.ret)))))))) (.seq (.keep [2, 3, 4, 6, 7, 27, 28]) (.region 0 [⟨(some 57), .bin .add (.t 28) (.c (.int .i64 1)), none⟩, ⟨(some 28), .mv
    (.t 57), none⟩])))))))) (.seq (.keep [4, 6]) (.seq (.region 0 [⟨(some 58), .load 34 true false (.t 6), none⟩, ⟨none, .store 34 (.t 4) (.t 58), none⟩, ⟨(some 5), .mv
    (.c (.bool false)), none⟩]) (.ret))))))))),
  [.cell 4 34 true, .tmp 5]⟩
/-- A table that holds these. -/
class HasBits (G : Tbl) : Prop extends HasWd G where
  h_bits_counts : G 100 = some c_bits_counts
  h_bits_Right : G 101 = some c_bits_Right
  h_bits_Const : G 102 = some c_bits_Const
  h_bits_Var : G 103 = some c_bits_Var
  h_bits_union : G 104 = some c_bits_union
  h_bits_at : G 105 = some c_bits_at
  h_bits_plain : G 106 = some c_bits_plain
  h_bits_Do_1 : G 108 = some c_bits_Do_1
  h_bits_Do : G 109 = some c_bits_Do
/-- A table that holds these. -/
class HasBitsE (G : Tbl) : Prop extends HasBits G where
  h_bits_Eval : G 110 = some c_bits_Eval
/-- A table that holds these. -/
class HasBitsA (G : Tbl) : Prop extends HasBitsE G where
  h_bits_Apart : G 112 = some c_bits_Apart
end Go.Ev
/- Simplified code of Go functions, by scode.py. -/
namespace Go.Ev
/-- hurdle/affine.Const -/
def c_affine_Const : SFn := ⟨5,
  .seq (.region 1 [⟨(some 2), .alloc 0 (rep 35 (.int .u32 0)), none⟩]) (.seq (.region 0 [⟨(some 3), .mv (.t 0), none⟩, ⟨(some 4), .build (rep 35 (.int .u32 0)) [(0, 1,
   .t 3)], none⟩, ⟨none, .store 35 (.t 2) (.t 4), none⟩]) (.ret)),
  [.cell 2 35 true]⟩
/-- hurdle/affine.Var -/
def c_affine_Var : SFn := ⟨16,
  .seq (.region 1 [⟨(some 2), .alloc 0 (rep 35 (.int .u32 0)), none⟩, ⟨(some 3), .mv (.c (.int .i64 0)), none⟩]) (.seq (.seq (.region 0 [⟨(some 5), .mv (.t 0), none⟩,
   ⟨(some 6), .bin .lss (.t 5) (.c (.int .i64 0)), none⟩, ⟨(some 7), .mv (.t 6), none⟩, ⟨(some 8), .mv (.t 0), (some (7, false))⟩, ⟨(some 9), .bin .geq (.t 8) (.c
    (.int .i64 34)), (some (7, false))⟩, ⟨(some 10), .pick (.t 7) (.c (.bool true)) (.t 9), none⟩]) (.seq (.keep [0, 2, 10]) (.cond (.t 10) (.seq (.region 0 [⟨(some 11),
   .build (rep 35 (.int .u32 0)) [], none⟩, ⟨none, .store 35 (.t 2) (.t 11), none⟩, ⟨(some 3), .mv (.c (.int .i64 1)), none⟩]) (.ret)) (.skip)))) (.seq (.keep [0, 2])
    (.seq (.region 1 [⟨(some 4), .alloc 0 (rep 35 (.int .u32 0)), none⟩]) (.seq (.region 0 [⟨(some 12), .mv (.t 0), none⟩, ⟨(some 13), .faddr 1 (.t 4), none⟩, ⟨(some 14),
   .iaddrA 34 1 (.t 13) (.t 12), none⟩, ⟨none, .store 1 (.t 14) (.c (.int .u32 1)), none⟩]) (.seq (.keep [2, 4]) (.seq (.region 0 [⟨(some 15), .load 35 true false (.t 4),
   none⟩, ⟨none, .store 35 (.t 2) (.t 15), none⟩, ⟨(some 3), .mv (.c (.int .i64 0)), none⟩]) (.ret))))))),
  [.cell 2 35 true, .tmp 3]⟩
/-- hurdle/affine.both -/
def c_affine_both : SFn := ⟨33,
  .seq (.region 3 [⟨(some 3), .box 0 (.t 0), none⟩, ⟨(some 4), .box 1 (.t 1), none⟩, ⟨(some 6), .alloc 2 (rep 35 (.int .u32 0)), none⟩]) (.seq (.region 0 [⟨(some 8), .mv
    (.t 2), none⟩, ⟨(some 9), .faddr 0 (.t 3), none⟩, ⟨(some 10), .load 1 false false (.t 9), none⟩, ⟨(some 11), .faddr 0 (.t 4), none⟩, ⟨(some 12), .load 1 false false
    (.t 11), none⟩, ⟨(some 13), .vcall false (.t 8) [.t 10, .t 12], none⟩, ⟨(some 14), .faddr 0 (.t 3), none⟩, ⟨none, .store 1 (.t 14) (.t 13), none⟩]) (.seq (.keep [2, 3,
   4, 6]) (.seq (.seq (.region 0 [⟨(some 15), .mv (.c (.int .i64 0)), none⟩]) (.block 0 (.loop [2, 3, 4, 6, 15] (.seq (.region 0 [⟨(some 16), .bin .lss (.t 15) (.c
    (.int .i64 34)), none⟩]) (.seq (.cond (.t 16) (.skip) (.exit 0)) (.seq (.block 1 (.seq (.region 0 [⟨(some 17), .mv (.t 15), none⟩, ⟨(some 7), .mv (.t 17), none⟩])
    (.region 0 [⟨(some 18), .mv (.t 7), none⟩, ⟨(some 19), .mv (.t 2), none⟩, ⟨(some 20), .mv (.t 7), none⟩, ⟨(some 21), .faddr 1 (.t 3), none⟩, ⟨(some 22), .iaddrA 34 1
    (.t 21) (.t 20), none⟩, ⟨(some 23), .load 1 false true (.t 22), none⟩, ⟨(some 24), .mv (.t 7), none⟩, ⟨(some 25), .faddr 1 (.t 4), none⟩, ⟨(some 26), .iaddrA 34 1
    (.t 25) (.t 24), none⟩, ⟨(some 27), .load 1 false true (.t 26), none⟩, ⟨(some 28), .vcall true (.t 19) [.t 23, .t 27], none⟩, ⟨(some 29), .faddr 1 (.t 3), none⟩,
   ⟨(some 30), .iaddrA 34 1 (.t 29) (.t 18), none⟩, ⟨none, .store 1 (.t 30) (.t 28), none⟩]))) (.seq (.keep [2, 3, 4, 6, 15]) (.region 0 [⟨(some 31), .bin .add (.t 15)
    (.c (.int .i64 1)), none⟩, ⟨(some 15), .mv (.t 31), none⟩])))))))) (.seq (.keep [3, 6]) (.seq (.region 0 [⟨(some 32), .load 35 true false (.t 3), none⟩, ⟨none,
   .store 35 (.t 6) (.t 32), none⟩]) (.ret)))))),
  [.cell 6 35 true]⟩
/-- hurdle/affine.Add$1 -/
def c_affine_Add_1 : SFn := ⟨8,
  .seq (.region 0 [⟨(some 4), .mv (.c (.int .u32 0)), none⟩]) (.seq (.region 0 [⟨(some 5), .mv (.t 0), none⟩, ⟨(some 6), .mv (.t 1), none⟩, ⟨(some 7), .bin .add (.t 5)
    (.t 6), none⟩, ⟨(some 4), .mv (.t 7), none⟩]) (.ret)),
  [.tmp 4]⟩
/-- hurdle/affine.Add -/
def c_affine_Add : SFn := ⟨8,
  .seq (.region 3 [⟨(some 2), .box 0 (.t 0), none⟩, ⟨(some 3), .box 1 (.t 1), none⟩, ⟨(some 4), .alloc 2 (rep 35 (.int .u32 0)), none⟩]) (.seq (.region 0 [⟨(some 5),
   .load 35 true false (.t 2), none⟩, ⟨(some 6), .load 35 true false (.t 3), none⟩, ⟨(some 7), .scall 245 [.t 5, .t 6, .c (.fn 246 [])], none⟩, ⟨none, .store 35 (.t 4)
    (.t 7), none⟩]) (.ret)),
  [.cell 4 35 true]⟩
/-- hurdle/affine.Sub$1 -/
def c_affine_Sub_1 : SFn := ⟨8,
  .seq (.region 0 [⟨(some 4), .mv (.c (.int .u32 0)), none⟩]) (.seq (.region 0 [⟨(some 5), .mv (.t 0), none⟩, ⟨(some 6), .mv (.t 1), none⟩, ⟨(some 7), .bin .sub (.t 5)
    (.t 6), none⟩, ⟨(some 4), .mv (.t 7), none⟩]) (.ret)),
  [.tmp 4]⟩
/-- hurdle/affine.Sub -/
def c_affine_Sub : SFn := ⟨8,
  .seq (.region 3 [⟨(some 2), .box 0 (.t 0), none⟩, ⟨(some 3), .box 1 (.t 1), none⟩, ⟨(some 4), .alloc 2 (rep 35 (.int .u32 0)), none⟩]) (.seq (.region 0 [⟨(some 5),
   .load 35 true false (.t 2), none⟩, ⟨(some 6), .load 35 true false (.t 3), none⟩, ⟨(some 7), .scall 245 [.t 5, .t 6, .c (.fn 248 [])], none⟩, ⟨none, .store 35 (.t 4)
    (.t 7), none⟩]) (.ret)),
  [.cell 4 35 true]⟩
/-- hurdle/affine.Mul$1 -/
def c_affine_Mul_1 : SFn := ⟨9,
  .seq (.region 0 [⟨(some 5), .mv (.c (.int .u32 0)), none⟩]) (.seq (.region 0 [⟨(some 6), .mv (.t 0), none⟩, ⟨(some 7), .load 1 false false (.t 2), none⟩, ⟨(some 8),
   .bin .mul (.t 6) (.t 7), none⟩, ⟨(some 5), .mv (.t 8), none⟩]) (.ret)),
  [.tmp 5]⟩
/-- hurdle/affine.Mul -/
def c_affine_Mul : SFn := ⟨9,
  .seq (.region 3 [⟨(some 2), .box 0 (.t 0), none⟩, ⟨(some 3), .box 1 (.t 1), none⟩, ⟨(some 4), .alloc 2 (rep 35 (.int .u32 0)), none⟩]) (.seq (.region 0 [⟨(some 5),
   .load 35 true false (.t 2), none⟩, ⟨(some 6), .load 35 true false (.t 2), none⟩, ⟨(some 7), .mkfn 250 [.t 3], none⟩, ⟨(some 8), .scall 245 [.t 5, .t 6, .t 7], none⟩,
   ⟨none, .store 35 (.t 4) (.t 8), none⟩]) (.ret)),
  [.cell 4 35 true]⟩
/-- hurdle/affine.Eval -/
def c_affine_Eval : SFn := ⟨25,
  .seq (.region 2 [⟨(some 2), .box 0 (.t 0), none⟩, ⟨(some 3), .box 1 (.t 1), none⟩, ⟨(some 4), .mv (.c (.int .u32 0)), none⟩]) (.seq (.region 0 [⟨(some 8), .faddr 0
    (.t 2), none⟩, ⟨(some 9), .load 1 false false (.t 8), none⟩, ⟨(some 5), .mv (.t 9), none⟩]) (.seq (.seq (.region 0 [⟨(some 10), .faddr 1 (.t 2), none⟩, ⟨(some 11),
   .load 34 true false (.t 10), none⟩, ⟨(some 12), .mv (.c (.int .i64 0)), none⟩]) (.block 0 (.loop [3, 5, 11, 12] (.seq (.region 0 [⟨(some 13), .bin .lss (.t 12) (.c
    (.int .i64 34)), none⟩]) (.seq (.cond (.t 13) (.skip) (.exit 0)) (.seq (.block 1 (.seq (.region 0 [⟨(some 14), .mv (.t 12), none⟩, ⟨(some 15), .idx 34 1 false (.t 11)
    (.t 12), none⟩, ⟨(some 6), .mv (.t 14), none⟩, ⟨(some 7), .mv (.t 15), none⟩]) (.region 0 [⟨(some 16), .mv (.t 5), none⟩, ⟨(some 17), .mv (.t 7), none⟩, ⟨(some 18),
   .mv (.t 6), none⟩, ⟨(some 19), .iaddrA 34 1 (.t 3) (.t 18), none⟩, ⟨(some 20), .load 1 false false (.t 19), none⟩, ⟨(some 21), .bin .mul (.t 17) (.t 20), none⟩,
   ⟨(some 22), .bin .add (.t 16) (.t 21), none⟩, ⟨(some 5), .mv (.t 22), none⟩]))) (.seq (.keep [3, 5, 11, 12]) (.region 0 [⟨(some 23), .bin .add (.t 12) (.c
    (.int .i64 1)), none⟩, ⟨(some 12), .mv (.t 23), none⟩])))))))) (.seq (.keep [5]) (.seq (.region 0 [⟨(some 24), .mv (.t 5), none⟩, ⟨(some 4), .mv (.t 24), none⟩])
    (.ret))))),
  [.tmp 4]⟩
/-- hurdle/affine.Constant -/
def c_affine_Constant : SFn := ⟨10,
  .seq (.region 1 [⟨(some 1), .box 0 (.t 0), none⟩, ⟨(some 2), .mv (.c (.int .u32 0)), none⟩, ⟨(some 3), .mv (.c (.bool false)), none⟩]) (.seq (.seq (.region 0 [⟨(some 4),
   .faddr 1 (.t 1), none⟩, ⟨(some 5), .load 34 true false (.t 4), none⟩, ⟨(some 6), .build (rep 34 (.int .u32 0)) [], none⟩, ⟨(some 7), .aeq (List.replicate 34 .int) true
    (.t 5) (.t 6), none⟩]) (.seq (.keep [1, 7]) (.cond (.t 7) (.seq (.region 0 [⟨(some 2), .mv (.c (.int .u32 0)), none⟩, ⟨(some 3), .mv (.c (.bool false)), none⟩])
    (.ret)) (.skip)))) (.seq (.keep [1]) (.seq (.region 0 [⟨(some 8), .faddr 0 (.t 1), none⟩, ⟨(some 9), .load 1 false false (.t 8), none⟩, ⟨(some 2), .mv (.t 9), none⟩,
   ⟨(some 3), .mv (.c (.bool true)), none⟩]) (.ret)))),
  [.tmp 2, .tmp 3]⟩
/-- hurdle/affine.Single -/
def c_affine_Single : SFn := ⟨28,
  .seq (.region 1 [⟨(some 1), .box 0 (.t 0), none⟩, ⟨(some 2), .mv (.c (.int .i64 0)), none⟩, ⟨(some 3), .mv (.c (.bool false)), none⟩]) (.seq (.seq (.region 0 [⟨(some 8),
   .faddr 1 (.t 1), none⟩, ⟨(some 9), .load 34 true false (.t 8), none⟩, ⟨(some 10), .mv (.c (.int .i64 0)), none⟩]) (.block 0 (.loop [1, 9, 10] (.seq
    (.region 0 [⟨(some 11), .bin .lss (.t 10) (.c (.int .i64 34)), none⟩]) (.seq (.cond (.t 11) (.skip) (.exit 0)) (.seq (.block 1 (.seq (.region 0 [⟨(some 12), .mv
    (.t 10), none⟩, ⟨(some 13), .idx 34 1 false (.t 9) (.t 10), none⟩, ⟨(some 4), .mv (.t 12), none⟩, ⟨(some 5), .mv (.t 13), none⟩]) (.seq (.region 1 [⟨(some 15), .mv
    (.t 4), none⟩, ⟨(some 16), .pcall 244 [.t 15], none⟩, ⟨(some 14), .mv (.t 16), none⟩, ⟨(some 17), .ext 0 (.t 14), none⟩, ⟨(some 18), .ext 1 (.t 14), none⟩, ⟨(some 6),
   .alloc 0 (rep 35 (.int .u32 0)), none⟩, ⟨none, .store 35 (.t 6) (.t 17), none⟩, ⟨(some 7), .mv (.t 18), none⟩]) (.seq (.keep [1, 4, 5, 6, 9, 10]) (.seq
    (.region 0 [⟨(some 19), .mv (.t 5), none⟩, ⟨(some 20), .bin .eql (.t 19) (.c (.int .u32 1)), none⟩, ⟨(some 21), .mv (.t 20), none⟩, ⟨(some 22), .load 35 true false
    (.t 6), (some (21, true))⟩, ⟨(some 23), .load 35 true false (.t 1), (some (21, true))⟩, ⟨(some 24), .aeq (List.replicate 35 .int) false (.t 22) (.t 23), (some (21,
   true))⟩, ⟨(some 25), .pick (.t 21) (.t 24) (.c (.bool false)), none⟩]) (.seq (.keep [1, 4, 9, 10, 25]) (.cond (.t 25) (.seq (.region 0 [⟨(some 26), .mv (.t 4), none⟩,
   ⟨(some 2), .mv (.t 26), none⟩, ⟨(some 3), .mv (.c (.bool true)), none⟩]) (.ret)) (.skip)))))))) (.seq (.keep [1, 9, 10]) (.region 0 [⟨(some 27), .bin .add (.t 10) (.c
    (.int .i64 1)), none⟩, ⟨(some 10), .mv (.t 27), none⟩])))))))) (.seq (.keep []) (.seq (.region 0 [⟨(some 2), .mv (.c (.int .i64 0)), none⟩, ⟨(some 3), .mv (.c
    (.bool false)), none⟩]) (.ret)))),
  [.tmp 2, .tmp 3]⟩
/-- hurdle/affine.Apart -/
def c_affine_Apart : SFn := ⟨32,
  .seq (.region 3 [⟨(some 2), .box 0 (.t 0), none⟩, ⟨(some 3), .box 1 (.t 1), none⟩, ⟨(some 4), .alloc 2 (rep 34 (.int .u32 0)), none⟩, ⟨(some 5), .mv (.c (.bool false)),
   none⟩]) (.seq (.region 1 [⟨(some 6), .alloc 0 (rep 34 (.int .u32 0)), none⟩]) (.seq (.seq (.region 0 [⟨(some 9), .faddr 0 (.t 2), none⟩, ⟨(some 10), .load 1 false false
    (.t 9), none⟩, ⟨(some 11), .faddr 0 (.t 3), none⟩, ⟨(some 12), .load 1 false false (.t 11), none⟩, ⟨(some 13), .bin .neq (.t 10) (.t 12), none⟩]) (.seq (.keep [2, 3,
   4, 6, 13]) (.cond (.t 13) (.seq (.region 0 [⟨(some 14), .load 34 true false (.t 6), none⟩, ⟨none, .store 34 (.t 4) (.t 14), none⟩, ⟨(some 5), .mv (.c (.bool true)),
   none⟩]) (.ret)) (.skip)))) (.seq (.keep [2, 3, 4, 6]) (.seq (.seq (.region 0 [⟨(some 15), .faddr 1 (.t 2), none⟩, ⟨(some 16), .load 34 true false (.t 15), none⟩,
   ⟨(some 17), .mv (.c (.int .i64 0)), none⟩]) (.block 0 (.loop [3, 4, 6, 16, 17] (.seq (.region 0 [⟨(some 18), .bin .lss (.t 17) (.c (.int .i64 34)), none⟩]) (.seq
    (.cond (.t 18) (.skip) (.exit 0)) (.seq (.block 1 (.seq (.region 0 [⟨(some 19), .mv (.t 17), none⟩, ⟨(some 20), .idx 34 1 false (.t 16) (.t 17), none⟩, ⟨(some 7), .mv
    (.t 19), none⟩, ⟨(some 8), .mv (.t 20), none⟩]) (.seq (.region 0 [⟨(some 21), .mv (.t 8), none⟩, ⟨(some 22), .mv (.t 7), none⟩, ⟨(some 23), .faddr 1 (.t 3), none⟩,
   ⟨(some 24), .iaddrA 34 1 (.t 23) (.t 22), none⟩, ⟨(some 25), .load 1 false false (.t 24), none⟩, ⟨(some 26), .bin .neq (.t 21) (.t 25), none⟩]) (.seq (.keep [3, 4, 6,
   7, 16, 17, 26]) (.cond (.t 26) (.seq (.region 0 [⟨(some 27), .mv (.t 7), none⟩, ⟨(some 28), .iaddrA 34 1 (.t 6) (.t 27), none⟩, ⟨none, .store 1 (.t 28) (.c
    (.int .u32 1)), none⟩]) (.seq (.region 0 [⟨(some 29), .load 34 true false (.t 6), none⟩, ⟨none, .store 34 (.t 4) (.t 29), none⟩, ⟨(some 5), .mv (.c (.bool true)),
   none⟩]) (.ret))) (.skip)))))) (.seq (.keep [3, 4, 6, 16, 17]) (.region 0 [⟨(some 30), .bin .add (.t 17) (.c (.int .i64 1)), none⟩, ⟨(some 17), .mv (.t 30),
   none⟩])))))))) (.seq (.keep [4, 6]) (.seq (.region 0 [⟨(some 31), .load 34 true false (.t 6), none⟩, ⟨none, .store 34 (.t 4) (.t 31), none⟩, ⟨(some 5), .mv (.c
    (.bool false)), none⟩]) (.ret))))))),
  [.cell 4 34 true, .tmp 5]⟩
/-- hurdle/sym.New -/
def c_sym_New : SFn := ⟨4,
  .seq (.region 0 [⟨(some 0), .mv (.c (.nilp)), none⟩]) (.seq (.region 2 [⟨(some 1), .mkmap 0, none⟩, ⟨(some 2), .build ([.vs [] .full, .nilm]) [(1, 1, .t 1)], none⟩,
   ⟨(some 3), .box 1 (.t 2), none⟩, ⟨(some 0), .mv (.t 3), none⟩]) (.ret)),
  [.tmp 0]⟩
/-- (*hurdle/sym.Book).Len -/
def c_sym_Book_Len : SFn := ⟨10,
  .seq (.region 0 [⟨(some 2), .mv (.c (.int .i64 0)), none⟩]) (.seq (.seq (.region 0 [⟨(some 3), .mv (.t 0), none⟩, ⟨(some 4), .nileq 1 false (.t 3), none⟩]) (.cond (.t 4)
    (.seq (.region 0 [⟨(some 2), .mv (.c (.int .i64 0)), none⟩]) (.ret)) (.skip))) (.seq (.keep [0]) (.seq (.region 0 [⟨(some 5), .mv (.t 0), none⟩, ⟨(some 6), .nilck
    (.t 5), none⟩, ⟨(some 7), .faddr 0 (.t 6), none⟩, ⟨(some 8), .load 1 false false (.t 7), none⟩, ⟨(some 9), .len false (.t 8), none⟩, ⟨(some 2), .mv (.t 9), none⟩])
    (.ret)))),
  [.tmp 2]⟩
/-- (*hurdle/sym.Book).has -/
def c_sym_Book_has : SFn := ⟨13,
  .seq (.region 0 [⟨(some 4), .mv (.c (.bool false)), none⟩]) (.seq (.region 0 [⟨(some 5), .mv (.t 1), none⟩, ⟨(some 6), .bin .geq (.t 5) (.c (.int .i64 0)), none⟩,
   ⟨(some 7), .mv (.t 6), none⟩, ⟨(some 8), .mv (.t 1), (some (7, true))⟩, ⟨(some 9), .mv (.t 0), (some (7, true))⟩, ⟨(some 10), .scall 257 [.t 9], (some (7, true))⟩,
   ⟨(some 11), .bin .lss (.t 8) (.t 10), (some (7, true))⟩, ⟨(some 12), .pick (.t 7) (.t 11) (.c (.bool false)), none⟩, ⟨(some 4), .mv (.t 12), none⟩]) (.ret)),
  [.tmp 4]⟩
/-- (*hurdle/sym.Book).id -/
def c_sym_Book_id : SFn := ⟨42,
  .seq (.region 1 [⟨(some 3), .box 0 (.t 1), none⟩, ⟨(some 4), .mv (.c (.int .i64 0)), none⟩]) (.seq (.seq (.region 0 [⟨(some 7), .mv (.t 0), none⟩, ⟨(some 8),
   .nileq 1 false (.t 7), none⟩]) (.cond (.t 8) (.seq (.region 0 [⟨(some 4), .mv (.c (.int .i64 (-1))), none⟩]) (.ret)) (.skip))) (.seq (.keep [0, 3]) (.seq
    (.region 0 [⟨(some 10), .mv (.t 0), none⟩, ⟨(some 11), .nilck (.t 10), none⟩, ⟨(some 12), .faddr 1 (.t 11), none⟩, ⟨(some 13), .load 1 false true (.t 12), none⟩,
   ⟨(some 14), .load 60 true true (.t 3), none⟩, ⟨(some 15), .mget (.row (List.replicate 60 .int)) true (.int .i64 0) (.t 13) (.t 14), none⟩, ⟨(some 9), .mv (.t 15),
   none⟩, ⟨(some 16), .ext 0 (.t 9), none⟩, ⟨(some 17), .ext 1 (.t 9), none⟩, ⟨(some 5), .mv (.t 16), none⟩, ⟨(some 6), .mv (.t 17), none⟩]) (.seq (.keep [0, 3, 5, 6])
    (.seq (.seq (.region 0 [⟨(some 18), .mv (.t 6), none⟩, ⟨(some 19), .un .not (.t 18), none⟩]) (.cond (.t 19) (.seq (.region 0 [⟨(some 20), .mv (.t 0), none⟩,
   ⟨(some 21), .nilck (.t 20), none⟩, ⟨(some 22), .faddr 0 (.t 21), none⟩, ⟨(some 23), .load 1 false false (.t 22), none⟩, ⟨(some 24), .len false (.t 23), none⟩,
   ⟨(some 5), .mv (.t 24), none⟩]) (.seq (.keep [0, 3, 5]) (.seq (.region 0 [⟨(some 25), .mv (.t 0), none⟩, ⟨(some 26), .nilck (.t 25), none⟩, ⟨(some 27), .faddr 1
    (.t 26), none⟩, ⟨(some 28), .load 1 false true (.t 27), none⟩, ⟨(some 29), .load 60 true true (.t 3), none⟩, ⟨(some 30), .mv (.t 5), none⟩, ⟨none, .mput (.row
    (List.replicate 60 .int)) (.t 28) (.t 29) (.t 30), none⟩]) (.seq (.keep [0, 3, 5]) (.region 1 [⟨(some 31), .mv (.t 0), none⟩, ⟨(some 32), .mv (.t 0), none⟩,
   ⟨(some 33), .nilck (.t 32), none⟩, ⟨(some 34), .faddr 0 (.t 33), none⟩, ⟨(some 35), .load 1 false true (.t 34), none⟩, ⟨(some 36), .load 60 true true (.t 3), none⟩,
   ⟨(some 37), .bslice 1 ([.int .i64 0] ++ rep 35 (.int .u32 0) ++ [.int .i64 0, .int .i64 0, .int .i64 0, .int .i64 0, .int .i64 0] ++ rep 16
    (.int .u32 0) ++ [.int .i64 0, .int .i64 0, .int .i64 0]) [(0, .t 36)], none⟩, ⟨(some 38), .app 0 60 280 (.t 35) (.t 37), none⟩, ⟨(some 39), .nilck (.t 31), none⟩,
   ⟨(some 40), .faddr 0 (.t 39), none⟩, ⟨none, .store 1 (.t 40) (.t 38), none⟩]))))) (.skip))) (.seq (.keep [5]) (.seq (.region 0 [⟨(some 41), .mv (.t 5), none⟩,
   ⟨(some 4), .mv (.t 41), none⟩]) (.ret)))))))),
  [.tmp 4]⟩
/-- (*hurdle/sym.Book).sum -/
def c_sym_Book_sum : SFn := ⟨9,
  .seq (.region 1 [⟨(some 3), .box 0 (.t 1), none⟩, ⟨(some 4), .mv (.c (.int .i64 0)), none⟩]) (.seq (.region 0 [⟨(some 5), .mv (.t 0), none⟩, ⟨(some 6), .load 35 true false
    (.t 3), none⟩, ⟨(some 7), .build ([.int .i64 0] ++ rep 35 (.int .u32 0) ++ [.int .i64 0, .int .i64 0, .int .i64 0, .int .i64 0, .int .i64 0] ++ rep 16
    (.int .u32 0) ++ [.int .i64 0, .int .i64 0, .int .i64 0]) [(0, 1, .c (.int .i64 0)), (1, 35, .t 6)], none⟩, ⟨(some 8), .scall 259 [.t 5, .t 7], none⟩, ⟨(some 4), .mv
    (.t 8), none⟩]) (.ret)),
  [.tmp 4]⟩
/-- (*hurdle/sym.Book).bits -/
def c_sym_Book_bits : SFn := ⟨81,
  .seq (.region 1 [⟨(some 3), .box 0 (.t 1), none⟩, ⟨(some 4), .mv (.c (.int .i64 0)), none⟩]) (.seq (.seq (.region 0 [⟨(some 8), .faddr 0 (.t 3), none⟩, ⟨(some 9),
   .load 1 false false (.t 8), none⟩, ⟨(some 10), .len false (.t 9), none⟩, ⟨(some 11), .bin .eql (.t 10) (.c (.int .i64 0)), none⟩]) (.seq (.keep [0, 3, 11]) (.cond
    (.t 11) (.seq (.region 0 [⟨(some 12), .mv (.t 0), none⟩, ⟨(some 13), .faddr 1 (.t 3), none⟩, ⟨(some 14), .load 1 false false (.t 13), none⟩, ⟨(some 15), .iaddr 1
    (.t 14) (.c (.int .i64 0)), none⟩, ⟨(some 16), .load 1 false false (.t 15), none⟩, ⟨(some 17), .scall 262 [.t 12, .t 16], none⟩, ⟨(some 4), .mv (.t 17), none⟩])
    (.ret)) (.skip)))) (.seq (.keep [0, 3]) (.seq (.seq (.region 1 [⟨(some 19), .faddr 0 (.t 3), none⟩, ⟨(some 20), .load 1 false false (.t 19), none⟩, ⟨(some 21),
   .iaddr 1 (.t 20) (.c (.int .i64 0)), none⟩, ⟨(some 22), .load 1 false false (.t 21), none⟩, ⟨(some 23), .pcall 244 [.t 22], none⟩, ⟨(some 18), .mv (.t 23), none⟩,
   ⟨(some 24), .ext 0 (.t 18), none⟩, ⟨(some 25), .ext 1 (.t 18), none⟩, ⟨(some 5), .alloc 0 (rep 35 (.int .u32 0)), none⟩, ⟨none, .store 35 (.t 5) (.t 24), none⟩,
   ⟨(some 6), .mv (.t 25), none⟩]) (.seq (.keep [0, 3, 5]) (.seq (.region 0 [⟨(some 26), .faddr 0 (.t 3), none⟩, ⟨(some 27), .load 1 false false (.t 26), none⟩,
   ⟨(some 28), .len false (.t 27), none⟩, ⟨(some 29), .bin .eql (.t 28) (.c (.int .i64 1)), none⟩]) (.seq (.keep [0, 3, 5, 29]) (.cond (.t 29) (.block 0 (.seq
    (.region 0 [⟨(some 31), .faddr 1 (.t 3), none⟩, ⟨(some 32), .load 1 false false (.t 31), none⟩, ⟨(some 33), .iaddr 1 (.t 32) (.c (.int .i64 0)), none⟩, ⟨(some 34),
   .load 1 false false (.t 33), none⟩, ⟨(some 35), .bin .eql (.t 34) (.c (.int .u32 0)), none⟩, ⟨(some 36), .mv (.t 35), none⟩, ⟨(some 37), .faddr 1 (.t 3), (some (36,
   true))⟩, ⟨(some 38), .load 1 false false (.t 37), (some (36, true))⟩, ⟨(some 39), .iaddr 1 (.t 38) (.c (.int .i64 1)), (some (36, true))⟩, ⟨(some 40),
   .load 1 false false (.t 39), (some (36, true))⟩, ⟨(some 41), .bin .eql (.t 40) (.c (.int .u32 4294967295)), (some (36, true))⟩, ⟨(some 42), .pick (.t 36) (.t 41) (.c
    (.bool false)), none⟩, ⟨(some 30), .mv (.t 42), none⟩]) (.seq (.keep [0, 3, 5, 30]) (.cond (.t 30) (.seq (.region 0 [⟨(some 43), .mv (.t 0), none⟩, ⟨(some 44),
   .load 35 true false (.t 5), none⟩, ⟨(some 45), .scall 260 [.t 43, .t 44], none⟩, ⟨(some 4), .mv (.t 45), none⟩]) (.ret)) (.seq (.region 0 [⟨(some 47), .faddr 1 (.t 3),
   none⟩, ⟨(some 48), .load 1 false false (.t 47), none⟩, ⟨(some 49), .iaddr 1 (.t 48) (.c (.int .i64 0)), none⟩, ⟨(some 50), .load 1 false false (.t 49), none⟩,
   ⟨(some 51), .bin .eql (.t 50) (.c (.int .u32 4294967295)), none⟩, ⟨(some 52), .mv (.t 51), none⟩, ⟨(some 53), .faddr 1 (.t 3), (some (52, true))⟩, ⟨(some 54),
   .load 1 false false (.t 53), (some (52, true))⟩, ⟨(some 55), .iaddr 1 (.t 54) (.c (.int .i64 1)), (some (52, true))⟩, ⟨(some 56), .load 1 false false (.t 55), (some
    (52, true))⟩, ⟨(some 57), .bin .eql (.t 56) (.c (.int .u32 0)), (some (52, true))⟩, ⟨(some 58), .pick (.t 52) (.t 57) (.c (.bool false)), none⟩, ⟨(some 46), .mv
    (.t 58), none⟩]) (.seq (.keep [0, 3, 5, 46]) (.cond (.t 46) (.seq (.region 0 [⟨(some 59), .mv (.t 0), none⟩, ⟨(some 60), .pcall 243 [.c (.int .u32 4294967295)], none⟩,
   ⟨(some 61), .load 35 true true (.t 5), none⟩, ⟨(some 62), .pcall 249 [.t 60, .t 61], none⟩, ⟨(some 63), .scall 260 [.t 59, .t 62], none⟩, ⟨(some 4), .mv (.t 63),
   none⟩]) (.ret)) (.skip)))))))) (.skip)))))) (.seq (.keep [0, 3]) (.seq (.region 1 [⟨(some 64), .faddr 0 (.t 3), none⟩, ⟨(some 65), .load 1 false false (.t 64), none⟩,
   ⟨(some 66), .len false (.t 65), none⟩, ⟨(some 67), .build ([.int .i64 0] ++ rep 35 (.int .u32 0) ++ [.int .i64 0, .int .i64 0, .int .i64 0, .int .i64 0,
   .int .i64 0] ++ rep 16 (.int .u32 0) ++ [.int .i64 0, .int .i64 0, .int .i64 0]) [(0, 1, .c (.int .i64 1)), (36, 1, .t 66)], none⟩, ⟨(some 7), .alloc 0
    ([.int .i64 0] ++ rep 35 (.int .u32 0) ++ [.int .i64 0, .int .i64 0, .int .i64 0, .int .i64 0, .int .i64 0] ++ rep 16 (.int .u32 0) ++ [.int .i64 0, .int .i64 0,
   .int .i64 0]), none⟩, ⟨none, .store 60 (.t 7) (.t 67), none⟩]) (.seq (.keep [0, 3, 7]) (.seq (.region 0 [⟨(some 68), .faddr 37 (.t 7), none⟩, ⟨(some 69), .slcA 4 1
    (.t 68) none none, none⟩, ⟨(some 70), .faddr 0 (.t 3), none⟩, ⟨(some 71), .load 1 false true (.t 70), none⟩, ⟨(some 72), .cpy 1 (.t 69) (.t 71), none⟩]) (.seq
    (.keep [0, 3, 7]) (.seq (.region 0 [⟨(some 73), .faddr 41 (.t 7), none⟩, ⟨(some 74), .slcA 16 1 (.t 73) none none, none⟩, ⟨(some 75), .faddr 1 (.t 3), none⟩,
   ⟨(some 76), .load 1 false true (.t 75), none⟩, ⟨(some 77), .cpy 1 (.t 74) (.t 76), none⟩]) (.seq (.keep [0, 7]) (.seq (.region 0 [⟨(some 78), .mv (.t 0), none⟩,
   ⟨(some 79), .load 60 true false (.t 7), none⟩, ⟨(some 80), .scall 259 [.t 78, .t 79], none⟩, ⟨(some 4), .mv (.t 80), none⟩]) (.ret)))))))))))),
  [.tmp 4]⟩
/-- (*hurdle/sym.Book).Const -/
def c_sym_Book_Const : SFn := ⟨9,
  .seq (.region 0 [⟨(some 4), .mv (.c (.int .i64 0)), none⟩]) (.seq (.region 0 [⟨(some 5), .mv (.t 0), none⟩, ⟨(some 6), .mv (.t 1), none⟩, ⟨(some 7), .pcall 243 [.t 6],
   none⟩, ⟨(some 8), .scall 260 [.t 5, .t 7], none⟩, ⟨(some 4), .mv (.t 8), none⟩]) (.ret)),
  [.tmp 4]⟩
/-- (*hurdle/sym.Book).Var -/
def c_sym_Book_Var : SFn := ⟨17,
  .seq (.region 0 [⟨(some 4), .mv (.c (.int .i64 0)), none⟩]) (.seq (.region 1 [⟨(some 8), .mv (.t 1), none⟩, ⟨(some 9), .pcall 244 [.t 8], none⟩, ⟨(some 7), .mv (.t 9),
   none⟩, ⟨(some 10), .ext 0 (.t 7), none⟩, ⟨(some 11), .ext 1 (.t 7), none⟩, ⟨(some 5), .alloc 0 (rep 35 (.int .u32 0)), none⟩, ⟨none, .store 35 (.t 5) (.t 10), none⟩,
   ⟨(some 6), .mv (.t 11), none⟩]) (.seq (.keep [0, 5, 6]) (.seq (.seq (.region 0 [⟨(some 12), .mv (.t 6), none⟩, ⟨(some 13), .bin .neq (.t 12) (.c (.int .i64 0)), none⟩])
    (.cond (.t 13) (.seq (.region 0 [⟨(some 4), .mv (.c (.int .i64 (-1))), none⟩]) (.ret)) (.skip))) (.seq (.keep [0, 5]) (.seq (.region 0 [⟨(some 14), .mv (.t 0), none⟩,
   ⟨(some 15), .load 35 true false (.t 5), none⟩, ⟨(some 16), .scall 260 [.t 14, .t 15], none⟩, ⟨(some 4), .mv (.t 16), none⟩]) (.ret)))))),
  [.tmp 4]⟩
/-- (*hurdle/sym.Book).asSum -/
def c_sym_Book_asSum : SFn := ⟨23,
  .seq (.region 1 [⟨(some 4), .alloc 0 (rep 35 (.int .u32 0)), none⟩, ⟨(some 5), .mv (.c (.bool false)), none⟩]) (.seq (.region 0 [⟨(some 6), .mv (.t 0), none⟩, ⟨(some 7),
   .nilck (.t 6), none⟩, ⟨(some 8), .faddr 0 (.t 7), none⟩, ⟨(some 9), .loadR 1 false 0 (.t 8), none⟩, ⟨(some 10), .mv (.t 1), none⟩, ⟨(some 11), .iaddr 60 (.t 9)
    (.t 10), none⟩, ⟨(some 12), .faddr 1 (.t 11), none⟩, ⟨(some 13), .loadC 35 true (.t 12), none⟩, ⟨(some 14), .mv (.t 0), none⟩, ⟨(some 15), .nilck (.t 14), none⟩,
   ⟨(some 16), .faddr 0 (.t 15), none⟩, ⟨(some 17), .loadR 1 false 0 (.t 16), none⟩, ⟨(some 18), .mv (.t 1), none⟩, ⟨(some 19), .iaddr 60 (.t 17) (.t 18), none⟩,
   ⟨(some 20), .faddr 0 (.t 19), none⟩, ⟨(some 21), .loadC 1 false (.t 20), none⟩, ⟨(some 22), .bin .eql (.t 21) (.c (.int .i64 0)), none⟩, ⟨none, .storeA 35 [0] (.t 4)
    (.t 13), none⟩, ⟨(some 5), .mv (.t 22), none⟩]) (.ret)),
  [.cell 4 35 true, .tmp 5]⟩
/-- (*hurdle/sym.Book).asBits -/
def c_sym_Book_asBits : SFn := ⟨87,
  .seq (.region 1 [⟨(some 4), .alloc 0 ([.vs [] .full, .vs [] .full]), none⟩, ⟨(some 5), .mv (.c (.bool false)), none⟩]) (.seq (.region 1 [⟨(some 16), .mv (.t 0), none⟩,
   ⟨(some 17), .nilck (.t 16), none⟩, ⟨(some 18), .faddr 0 (.t 17), none⟩, ⟨(some 19), .load 1 false false (.t 18), none⟩, ⟨(some 20), .mv (.t 1), none⟩, ⟨(some 21),
   .iaddr 60 (.t 19) (.t 20), none⟩, ⟨(some 22), .load 60 true false (.t 21), none⟩, ⟨(some 6), .alloc 0 ([.int .i64 0] ++ rep 35 (.int .u32 0) ++ [.int .i64 0,
   .int .i64 0, .int .i64 0, .int .i64 0, .int .i64 0] ++ rep 16 (.int .u32 0) ++ [.int .i64 0, .int .i64 0, .int .i64 0]), none⟩, ⟨none, .store 60 (.t 6) (.t 22), none⟩])
    (.seq (.keep [4, 6]) (.seq (.seq (.region 0 [⟨(some 23), .faddr 0 (.t 6), none⟩, ⟨(some 24), .load 1 false false (.t 23), none⟩, ⟨(some 25), .bin .eql (.t 24) (.c
    (.int .i64 1)), none⟩]) (.cond (.t 25) (.seq (.region 0 [⟨(some 26), .faddr 37 (.t 6), none⟩, ⟨(some 27), .faddr 36 (.t 6), none⟩, ⟨(some 28), .load 1 false true
    (.t 27), none⟩, ⟨(some 29), .slcA 4 1 (.t 26) none (some (.t 28)), none⟩, ⟨(some 30), .faddr 41 (.t 6), none⟩, ⟨(some 31), .faddr 36 (.t 6), none⟩, ⟨(some 32),
   .load 1 false true (.t 31), none⟩, ⟨(some 33), .bin .shl (.c (.int .i64 1)) (.t 32), none⟩, ⟨(some 34), .slcA 16 1 (.t 30) none (some (.t 33)), none⟩, ⟨(some 35),
   .build ([.vs [] .full, .vs [] .full]) [(0, 1, .t 29), (1, 1, .t 34)], none⟩, ⟨none, .store 2 (.t 4) (.t 35), none⟩, ⟨(some 5), .mv (.c (.bool true)), none⟩]) (.seq
    (.freeze 4) (.ret))) (.skip))) (.seq (.keep [4, 6]) (.seq (.seq (.region 0 [⟨(some 36), .faddr 0 (.t 6), none⟩, ⟨(some 37), .load 1 false false (.t 36), none⟩,
   ⟨(some 38), .bin .neq (.t 37) (.c (.int .i64 0)), none⟩]) (.cond (.t 38) (.seq (.region 0 [⟨(some 39), .build ([.vs [] .full, .vs [] .full]) [], none⟩, ⟨none, .store 2
    (.t 4) (.t 39), none⟩, ⟨(some 5), .mv (.c (.bool false)), none⟩]) (.seq (.freeze 4) (.ret))) (.skip))) (.seq (.keep [4, 6]) (.seq (.seq (.region 0 [⟨(some 41),
   .faddr 1 (.t 6), none⟩, ⟨(some 42), .load 35 true false (.t 41), none⟩, ⟨(some 43), .pcall 253 [.t 42], none⟩, ⟨(some 40), .mv (.t 43), none⟩, ⟨(some 44), .ext 0
    (.t 40), none⟩, ⟨(some 45), .ext 1 (.t 40), none⟩, ⟨(some 7), .mv (.t 44), none⟩, ⟨(some 8), .mv (.t 45), none⟩]) (.seq (.keep [4, 6, 7, 8]) (.seq
    (.region 0 [⟨(some 46), .mv (.t 8), none⟩]) (.cond (.t 46) (.seq (.region 0 [⟨(some 47), .mv (.t 7), none⟩, ⟨(some 48), .pcall 102 [.t 47], none⟩, ⟨none, .store 2
    (.t 4) (.t 48), none⟩, ⟨(some 5), .mv (.c (.bool true)), none⟩]) (.seq (.freeze 4) (.ret))) (.skip))))) (.seq (.keep [4, 6]) (.seq (.region 1 [⟨(some 49),
   .pcall 243 [.c (.int .u32 4294967295)], none⟩, ⟨(some 50), .faddr 1 (.t 6), none⟩, ⟨(some 51), .load 35 true true (.t 50), none⟩, ⟨(some 52), .pcall 249 [.t 49, .t 51],
   none⟩, ⟨(some 9), .alloc 0 (rep 35 (.int .u32 0)), none⟩, ⟨none, .store 35 (.t 9) (.t 52), none⟩]) (.seq (.keep [4, 6, 9]) (.seq (.seq (.region 0 [⟨(some 53), .faddr 1
    (.t 6), none⟩, ⟨(some 54), .load 35 true false (.t 53), none⟩, ⟨(some 55), .load 35 true false (.t 9), none⟩, ⟨(some 56), .bslice 2 (rep 35 (.int .u32 0)) [(0, .t 54),
   (1, .t 55)], none⟩, ⟨(some 57), .len false (.t 56), none⟩, ⟨(some 58), .mv (.c (.int .i64 0)), none⟩]) (.seq (.keep [4, 6, 56, 57, 58]) (.block 0 (.loop [4, 6, 56, 57,
   58] (.seq (.region 0 [⟨(some 59), .bin .lss (.t 58) (.t 57), none⟩]) (.seq (.cond (.t 59) (.skip) (.exit 0)) (.seq (.block 1 (.seq (.region 1 [⟨(some 60), .iaddr 35
    (.t 56) (.t 58), none⟩, ⟨(some 61), .load 35 true false (.t 60), none⟩, ⟨(some 11), .alloc 0 (rep 35 (.int .u32 0)), none⟩, ⟨none, .store 35 (.t 11) (.t 61), none⟩])
    (.seq (.region 0 [⟨(some 63), .load 35 true false (.t 11), none⟩, ⟨(some 64), .pcall 254 [.t 63], none⟩, ⟨(some 62), .mv (.t 64), none⟩, ⟨(some 65), .ext 0 (.t 62),
   none⟩, ⟨(some 66), .ext 1 (.t 62), none⟩, ⟨(some 12), .mv (.t 65), none⟩, ⟨(some 13), .mv (.t 66), none⟩]) (.seq (.keep [4, 6, 11, 12, 13, 56, 57, 58]) (.seq (.seq
    (.region 0 [⟨(some 67), .mv (.t 13), none⟩, ⟨(some 68), .un .not (.t 67), none⟩]) (.cond (.t 68) (.exit 1) (.skip))) (.seq (.region 1 [⟨(some 70), .mv (.t 12), none⟩,
   ⟨(some 71), .pcall 103 [.t 70], none⟩, ⟨(some 69), .mv (.t 71), none⟩, ⟨(some 72), .ext 0 (.t 69), none⟩, ⟨(some 73), .ext 1 (.t 69), none⟩, ⟨(some 14), .alloc 0
    ([.vs [] .full, .vs [] .full]), none⟩, ⟨none, .store 2 (.t 14) (.t 72), none⟩, ⟨(some 15), .mv (.t 73), none⟩]) (.seq (.keep [4, 6, 11, 14]) (.seq (.seq
    (.region 0 [⟨(some 74), .load 35 true false (.t 11), none⟩, ⟨(some 75), .faddr 1 (.t 6), none⟩, ⟨(some 76), .load 35 true false (.t 75), none⟩, ⟨(some 77), .aeq
    (List.replicate 35 .int) true (.t 74) (.t 76), none⟩]) (.seq (.keep [4, 14, 77]) (.cond (.t 77) (.region 0 [⟨(some 79), .load 2 true true (.t 14), none⟩, ⟨(some 80),
   .pcall 102 [.c (.int .u32 4294967295)], none⟩, ⟨(some 81), .pcall 109 [.c (.int .i64 164), .t 79, .t 80], none⟩, ⟨(some 78), .mv (.t 81), none⟩, ⟨(some 82), .ext 0
    (.t 78), none⟩, ⟨(some 83), .ext 1 (.t 78), none⟩, ⟨none, .store 2 (.t 14) (.t 82), none⟩]) (.skip)))) (.seq (.keep [4, 14]) (.seq (.region 0 [⟨(some 84),
   .load 2 true false (.t 14), none⟩, ⟨none, .store 2 (.t 4) (.t 84), none⟩, ⟨(some 5), .mv (.c (.bool true)), none⟩]) (.seq (.freeze 4) (.ret)))))))))))) (.seq
    (.keep [4, 6, 56, 57, 58]) (.region 0 [⟨(some 85), .bin .add (.t 58) (.c (.int .i64 1)), none⟩, ⟨(some 58), .mv (.t 85), none⟩]))))))))) (.seq (.keep [4]) (.seq
    (.region 0 [⟨(some 86), .build ([.vs [] .full, .vs [] .full]) [], none⟩, ⟨none, .store 2 (.t 4) (.t 86), none⟩, ⟨(some 5), .mv (.c (.bool false)), none⟩]) (.seq
    (.freeze 4) (.ret))))))))))))))),
  [.cell 4 2 true, .tmp 5]⟩
/-- (*hurdle/sym.Book).Constant -/
def c_sym_Book_Constant : SFn := ⟨24,
  .seq (.region 0 [⟨(some 4), .mv (.c (.int .u32 0)), none⟩, ⟨(some 5), .mv (.c (.bool false)), none⟩]) (.seq (.seq (.region 0 [⟨(some 8), .mv (.t 0), none⟩, ⟨(some 9), .mv
    (.t 1), none⟩, ⟨(some 10), .scall 258 [.t 8, .t 9], none⟩, ⟨(some 11), .un .not (.t 10), none⟩]) (.seq (.keep [0, 1, 11]) (.cond (.t 11) (.seq (.region 0 [⟨(some 4),
   .mv (.c (.int .u32 0)), none⟩, ⟨(some 5), .mv (.c (.bool false)), none⟩]) (.ret)) (.skip)))) (.seq (.keep [0, 1]) (.seq (.region 1 [⟨(some 13), .mv (.t 0), none⟩,
   ⟨(some 14), .mv (.t 1), none⟩, ⟨(some 15), .scall 264 [.t 13, .t 14], none⟩, ⟨(some 12), .mv (.t 15), none⟩, ⟨(some 16), .ext 0 (.t 12), none⟩, ⟨(some 17), .ext 1
    (.t 12), none⟩, ⟨(some 6), .alloc 0 (rep 35 (.int .u32 0)), none⟩, ⟨none, .store 35 (.t 6) (.t 16), none⟩, ⟨(some 7), .mv (.t 17), none⟩]) (.seq (.keep [6, 7]) (.seq
    (.seq (.region 0 [⟨(some 18), .mv (.t 7), none⟩, ⟨(some 19), .un .not (.t 18), none⟩]) (.cond (.t 19) (.seq (.region 0 [⟨(some 4), .mv (.c (.int .u32 0)), none⟩,
   ⟨(some 5), .mv (.c (.bool false)), none⟩]) (.ret)) (.skip))) (.seq (.keep [6]) (.seq (.region 0 [⟨(some 20), .load 35 true false (.t 6), none⟩, ⟨(some 21),
   .pcall 253 [.t 20], none⟩, ⟨(some 22), .ext 0 (.t 21), none⟩, ⟨(some 23), .ext 1 (.t 21), none⟩, ⟨(some 4), .mv (.t 22), none⟩, ⟨(some 5), .mv (.t 23), none⟩])
    (.ret)))))))),
  [.tmp 4, .tmp 5]⟩
/-- (*hurdle/sym.Book).sums -/
def c_sym_Book_sums : SFn := ⟨120,
  .seq (.region 0 [⟨(some 8), .mv (.c (.int .i64 0)), none⟩, ⟨(some 9), .mv (.c (.bool false)), none⟩]) (.seq (.region 1 [⟨(some 23), .mv (.t 0), none⟩, ⟨(some 24), .mv
    (.t 2), none⟩, ⟨(some 25), .scall 264 [.t 23, .t 24], none⟩, ⟨(some 22), .mv (.t 25), none⟩, ⟨(some 26), .ext 0 (.t 22), none⟩, ⟨(some 27), .ext 1 (.t 22), none⟩,
   ⟨(some 10), .alloc 0 (rep 35 (.int .u32 0)), none⟩, ⟨none, .store 35 (.t 10) (.t 26), none⟩, ⟨(some 11), .mv (.t 27), none⟩]) (.seq (.keep [0, 1, 3, 10, 11]) (.seq
    (.region 1 [⟨(some 29), .mv (.t 0), none⟩, ⟨(some 30), .mv (.t 3), none⟩, ⟨(some 31), .scall 264 [.t 29, .t 30], none⟩, ⟨(some 28), .mv (.t 31), none⟩, ⟨(some 32),
   .ext 0 (.t 28), none⟩, ⟨(some 33), .ext 1 (.t 28), none⟩, ⟨(some 12), .alloc 0 (rep 35 (.int .u32 0)), none⟩, ⟨none, .store 35 (.t 12) (.t 32), none⟩, ⟨(some 13), .mv
    (.t 33), none⟩]) (.seq (.keep [0, 1, 10, 11, 12, 13]) (.seq (.seq (.region 0 [⟨(some 34), .mv (.t 11), none⟩, ⟨(some 35), .un .not (.t 34), none⟩, ⟨(some 36), .mv
    (.t 35), none⟩, ⟨(some 37), .mv (.t 13), (some (36, false))⟩, ⟨(some 38), .un .not (.t 37), (some (36, false))⟩, ⟨(some 39), .pick (.t 36) (.c (.bool true)) (.t 38),
   none⟩]) (.seq (.keep [0, 1, 10, 12, 39]) (.cond (.t 39) (.seq (.region 0 [⟨(some 8), .mv (.c (.int .i64 0)), none⟩, ⟨(some 9), .mv (.c (.bool false)), none⟩]) (.ret))
    (.skip)))) (.seq (.keep [0, 1, 10, 12]) (.seq (.region 0 [⟨(some 41), .load 35 true false (.t 10), none⟩, ⟨(some 42), .pcall 253 [.t 41], none⟩, ⟨(some 40), .mv
    (.t 42), none⟩, ⟨(some 43), .ext 0 (.t 40), none⟩, ⟨(some 44), .ext 1 (.t 40), none⟩, ⟨(some 14), .mv (.t 43), none⟩, ⟨(some 15), .mv (.t 44), none⟩]) (.seq
    (.keep [0, 1, 10, 12, 14, 15]) (.seq (.region 0 [⟨(some 46), .load 35 true false (.t 12), none⟩, ⟨(some 47), .pcall 253 [.t 46], none⟩, ⟨(some 45), .mv (.t 47), none⟩,
   ⟨(some 48), .ext 0 (.t 45), none⟩, ⟨(some 49), .ext 1 (.t 45), none⟩, ⟨(some 16), .mv (.t 48), none⟩, ⟨(some 17), .mv (.t 49), none⟩]) (.seq (.keep [0, 1, 10, 12, 14,
   15, 16, 17]) (.seq (.block 0 (.seq (.region 0 [⟨(some 51), .mv (.t 1), none⟩, ⟨(some 52), .bin .eql (.t 51) (.c (.int .i64 4)), none⟩, ⟨(some 50), .mv (.t 52), none⟩])
    (.cond (.t 50) (.seq (.region 0 [⟨(some 53), .mv (.t 0), none⟩, ⟨(some 54), .load 35 true false (.t 10), none⟩, ⟨(some 55), .load 35 true false (.t 12), none⟩,
   ⟨(some 56), .pcall 247 [.t 54, .t 55], none⟩, ⟨(some 57), .scall 260 [.t 53, .t 56], none⟩, ⟨(some 8), .mv (.t 57), none⟩, ⟨(some 9), .mv (.c (.bool true)), none⟩])
    (.ret)) (.seq (.region 0 [⟨(some 59), .mv (.t 1), none⟩, ⟨(some 60), .bin .eql (.t 59) (.c (.int .i64 20)), none⟩, ⟨(some 58), .mv (.t 60), none⟩]) (.cond (.t 58)
    (.seq (.region 0 [⟨(some 61), .mv (.t 0), none⟩, ⟨(some 62), .load 35 true false (.t 10), none⟩, ⟨(some 63), .load 35 true false (.t 12), none⟩, ⟨(some 64),
   .pcall 249 [.t 62, .t 63], none⟩, ⟨(some 65), .scall 260 [.t 61, .t 64], none⟩, ⟨(some 8), .mv (.t 65), none⟩, ⟨(some 9), .mv (.c (.bool true)), none⟩]) (.ret)) (.seq
    (.region 0 [⟨(some 67), .mv (.t 1), none⟩, ⟨(some 68), .bin .eql (.t 67) (.c (.int .i64 36)), none⟩, ⟨(some 69), .mv (.t 68), none⟩, ⟨(some 70), .mv (.t 17), (some
    (69, true))⟩, ⟨(some 71), .pick (.t 69) (.t 70) (.c (.bool false)), none⟩, ⟨(some 66), .mv (.t 71), none⟩]) (.seq (.keep [0, 1, 10, 12, 14, 15, 16, 17, 66]) (.cond
    (.t 66) (.seq (.region 0 [⟨(some 72), .mv (.t 0), none⟩, ⟨(some 73), .load 35 true false (.t 10), none⟩, ⟨(some 74), .mv (.t 16), none⟩, ⟨(some 75), .pcall 251 [.t 73,
   .t 74], none⟩, ⟨(some 76), .scall 260 [.t 72, .t 75], none⟩, ⟨(some 8), .mv (.t 76), none⟩, ⟨(some 9), .mv (.c (.bool true)), none⟩]) (.ret)) (.seq
    (.region 0 [⟨(some 78), .mv (.t 1), none⟩, ⟨(some 79), .bin .eql (.t 78) (.c (.int .i64 36)), none⟩, ⟨(some 80), .mv (.t 79), none⟩, ⟨(some 81), .mv (.t 15), (some
    (80, true))⟩, ⟨(some 82), .pick (.t 80) (.t 81) (.c (.bool false)), none⟩, ⟨(some 77), .mv (.t 82), none⟩]) (.seq (.keep [0, 1, 10, 12, 14, 15, 16, 17, 77]) (.cond
    (.t 77) (.seq (.region 0 [⟨(some 83), .mv (.t 0), none⟩, ⟨(some 84), .load 35 true false (.t 12), none⟩, ⟨(some 85), .mv (.t 14), none⟩, ⟨(some 86), .pcall 251 [.t 84,
   .t 85], none⟩, ⟨(some 87), .scall 260 [.t 83, .t 86], none⟩, ⟨(some 8), .mv (.t 87), none⟩, ⟨(some 9), .mv (.c (.bool true)), none⟩]) (.ret)) (.seq
    (.region 0 [⟨(some 89), .mv (.t 1), none⟩, ⟨(some 90), .bin .eql (.t 89) (.c (.int .i64 100)), none⟩, ⟨(some 91), .mv (.t 90), none⟩, ⟨(some 92), .mv (.t 17), (some
    (91, true))⟩, ⟨(some 93), .pick (.t 91) (.t 92) (.c (.bool false)), none⟩, ⟨(some 88), .mv (.t 93), none⟩]) (.seq (.keep [0, 1, 10, 14, 15, 16, 17, 88]) (.cond
    (.t 88) (.seq (.region 0 [⟨(some 95), .mv (.t 16), none⟩, ⟨(some 96), .pcall 107 [.c (.int .i64 100), .c (.int .u32 1), .t 95], none⟩, ⟨(some 94), .mv (.t 96), none⟩,
   ⟨(some 97), .ext 0 (.t 94), none⟩, ⟨(some 98), .ext 1 (.t 94), none⟩, ⟨(some 18), .mv (.t 97), none⟩, ⟨(some 19), .mv (.t 98), none⟩]) (.seq (.keep [0, 10, 18]) (.seq
    (.region 0 [⟨(some 99), .mv (.t 0), none⟩, ⟨(some 100), .load 35 true false (.t 10), none⟩, ⟨(some 101), .mv (.t 18), none⟩, ⟨(some 102), .pcall 251 [.t 100, .t 101],
   none⟩, ⟨(some 103), .scall 260 [.t 99, .t 102], none⟩, ⟨(some 8), .mv (.t 103), none⟩, ⟨(some 9), .mv (.c (.bool true)), none⟩]) (.ret)))) (.seq
    (.region 0 [⟨(some 105), .mv (.t 15), none⟩, ⟨(some 106), .mv (.t 105), none⟩, ⟨(some 107), .mv (.t 17), (some (106, true))⟩, ⟨(some 108), .pick (.t 106) (.t 107) (.c
    (.bool false)), none⟩, ⟨(some 104), .mv (.t 108), none⟩]) (.seq (.keep [0, 1, 14, 16, 104]) (.cond (.t 104) (.seq (.region 0 [⟨(some 110), .mv (.t 1), none⟩,
   ⟨(some 111), .mv (.t 14), none⟩, ⟨(some 112), .mv (.t 16), none⟩, ⟨(some 113), .pcall 107 [.t 110, .t 111, .t 112], none⟩, ⟨(some 109), .mv (.t 113), none⟩,
   ⟨(some 114), .ext 0 (.t 109), none⟩, ⟨(some 115), .ext 1 (.t 109), none⟩, ⟨(some 20), .mv (.t 114), none⟩, ⟨(some 21), .mv (.t 115), none⟩]) (.seq (.keep [0, 20, 21])
    (.seq (.region 0 [⟨(some 116), .mv (.t 0), none⟩, ⟨(some 117), .mv (.t 20), none⟩, ⟨(some 118), .scall 262 [.t 116, .t 117], none⟩, ⟨(some 119), .mv (.t 21), none⟩,
   ⟨(some 8), .mv (.t 118), none⟩, ⟨(some 9), .mv (.t 119), none⟩]) (.ret)))) (.skip)))))))))))))))))) (.seq (.keep []) (.seq (.region 0 [⟨(some 8), .mv (.c
    (.int .i64 0)), none⟩, ⟨(some 9), .mv (.c (.bool false)), none⟩]) (.ret)))))))))))))),
  [.tmp 8, .tmp 9]⟩
/-- (*hurdle/sym.Book).both -/
def c_sym_Book_both : SFn := ⟨46,
  .seq (.region 0 [⟨(some 8), .mv (.c (.int .i64 0)), none⟩, ⟨(some 9), .mv (.c (.bool false)), none⟩]) (.seq (.region 1 [⟨(some 17), .mv (.t 0), none⟩, ⟨(some 18), .mv
    (.t 2), none⟩, ⟨(some 19), .scall 265 [.t 17, .t 18], none⟩, ⟨(some 16), .mv (.t 19), none⟩, ⟨(some 20), .ext 0 (.t 16), none⟩, ⟨(some 21), .ext 1 (.t 16), none⟩,
   ⟨(some 10), .alloc 0 ([.vs [] .full, .vs [] .full]), none⟩, ⟨none, .store 2 (.t 10) (.t 20), none⟩, ⟨(some 11), .mv (.t 21), none⟩]) (.seq (.keep [0, 1, 3, 10, 11])
    (.seq (.region 1 [⟨(some 23), .mv (.t 0), none⟩, ⟨(some 24), .mv (.t 3), none⟩, ⟨(some 25), .scall 265 [.t 23, .t 24], none⟩, ⟨(some 22), .mv (.t 25), none⟩,
   ⟨(some 26), .ext 0 (.t 22), none⟩, ⟨(some 27), .ext 1 (.t 22), none⟩, ⟨(some 12), .alloc 0 ([.vs [] .full, .vs [] .full]), none⟩, ⟨none, .store 2 (.t 12) (.t 26),
   none⟩, ⟨(some 13), .mv (.t 27), none⟩]) (.seq (.keep [0, 1, 10, 11, 12, 13]) (.seq (.seq (.region 0 [⟨(some 28), .mv (.t 11), none⟩, ⟨(some 29), .un .not (.t 28),
   none⟩, ⟨(some 30), .mv (.t 29), none⟩, ⟨(some 31), .mv (.t 13), (some (30, false))⟩, ⟨(some 32), .un .not (.t 31), (some (30, false))⟩, ⟨(some 33), .pick (.t 30) (.c
    (.bool true)) (.t 32), none⟩]) (.seq (.keep [0, 1, 10, 12, 33]) (.cond (.t 33) (.seq (.region 0 [⟨(some 8), .mv (.c (.int .i64 0)), none⟩, ⟨(some 9), .mv (.c
    (.bool false)), none⟩]) (.ret)) (.skip)))) (.seq (.keep [0, 1, 10, 12]) (.seq (.region 1 [⟨(some 35), .mv (.t 1), none⟩, ⟨(some 36), .load 2 true false (.t 10), none⟩,
   ⟨(some 37), .load 2 true false (.t 12), none⟩, ⟨(some 38), .pcall 109 [.t 35, .t 36, .t 37], none⟩, ⟨(some 34), .mv (.t 38), none⟩, ⟨(some 39), .ext 0 (.t 34), none⟩,
   ⟨(some 40), .ext 1 (.t 34), none⟩, ⟨(some 14), .alloc 0 ([.vs [] .full, .vs [] .full]), none⟩, ⟨none, .store 2 (.t 14) (.t 39), none⟩, ⟨(some 15), .mv (.t 40), none⟩])
    (.seq (.keep [0, 14, 15]) (.seq (.seq (.region 0 [⟨(some 41), .mv (.t 15), none⟩, ⟨(some 42), .un .not (.t 41), none⟩]) (.cond (.t 42) (.seq (.region 0 [⟨(some 8), .mv
    (.c (.int .i64 0)), none⟩, ⟨(some 9), .mv (.c (.bool false)), none⟩]) (.ret)) (.skip))) (.seq (.keep [0, 14]) (.seq (.region 0 [⟨(some 43), .mv (.t 0), none⟩,
   ⟨(some 44), .load 2 true false (.t 14), none⟩, ⟨(some 45), .scall 261 [.t 43, .t 44], none⟩, ⟨(some 8), .mv (.t 45), none⟩, ⟨(some 9), .mv (.c (.bool true)), none⟩])
    (.ret)))))))))))),
  [.tmp 8, .tmp 9]⟩
/-- (*hurdle/sym.Book).plain -/
def c_sym_Book_plain : SFn := ⟨60,
  .seq (.region 0 [⟨(some 8), .mv (.c (.int .i64 0)), none⟩, ⟨(some 9), .mv (.c (.bool false)), none⟩]) (.seq (.region 0 [⟨(some 15), .mv (.t 0), none⟩, ⟨(some 16), .mv
    (.t 3), none⟩, ⟨(some 17), .scall 266 [.t 15, .t 16], none⟩, ⟨(some 14), .mv (.t 17), none⟩, ⟨(some 18), .ext 0 (.t 14), none⟩, ⟨(some 19), .ext 1 (.t 14), none⟩,
   ⟨(some 10), .mv (.t 18), none⟩, ⟨(some 11), .mv (.t 19), none⟩]) (.seq (.keep [1, 2, 3, 10, 11]) (.seq (.region 0 [⟨(some 20), .mv (.t 11), none⟩, ⟨(some 21), .mv
    (.t 20), none⟩, ⟨(some 22), .mv (.t 10), (some (21, true))⟩, ⟨(some 23), .bin .eql (.t 22) (.c (.int .u32 0)), (some (21, true))⟩, ⟨(some 24), .pick (.t 21) (.t 23)
    (.c (.bool false)), none⟩, ⟨(some 12), .mv (.t 24), none⟩]) (.seq (.keep [1, 2, 3, 10, 11, 12]) (.seq (.region 0 [⟨(some 25), .mv (.t 11), none⟩, ⟨(some 26), .mv
    (.t 25), none⟩, ⟨(some 27), .mv (.t 10), (some (26, true))⟩, ⟨(some 28), .bin .eql (.t 27) (.c (.int .u32 4294967295)), (some (26, true))⟩, ⟨(some 29), .pick (.t 26)
    (.t 28) (.c (.bool false)), none⟩, ⟨(some 13), .mv (.t 29), none⟩]) (.seq (.keep [1, 2, 3, 12, 13]) (.seq (.seq (.region 0 [⟨(some 30), .mv (.t 1), none⟩]) (.block 0
    (.seq (.seq (.region 0 [⟨(some 32), .bin .eql (.t 30) (.c (.int .i64 4)), none⟩, ⟨(some 31), .mv (.t 32), none⟩]) (.cond (.t 31) (.skip) (.seq (.region 0 [⟨(some 33),
   .bin .eql (.t 30) (.c (.int .i64 20)), none⟩, ⟨(some 31), .mv (.t 33), none⟩]) (.cond (.t 31) (.skip) (.seq (.region 0 [⟨(some 34), .bin .eql (.t 30) (.c
    (.int .i64 100)), none⟩, ⟨(some 31), .mv (.t 34), none⟩]) (.cond (.t 31) (.skip) (.region 0 [⟨(some 35), .bin .eql (.t 30) (.c (.int .i64 116)), none⟩, ⟨(some 31), .mv
    (.t 35), none⟩]))))))) (.seq (.keep [2, 3, 12, 13, 30, 31]) (.cond (.t 31) (.seq (.region 0 [⟨(some 36), .mv (.t 2), none⟩, ⟨(some 37), .mv (.t 12), none⟩, ⟨(some 8),
   .mv (.t 36), none⟩, ⟨(some 9), .mv (.t 37), none⟩]) (.ret)) (.seq (.region 0 [⟨(some 39), .bin .eql (.t 30) (.c (.int .i64 68)), none⟩, ⟨(some 38), .mv (.t 39), none⟩])
    (.cond (.t 38) (.seq (.region 0 [⟨(some 40), .mv (.t 2), none⟩, ⟨(some 41), .mv (.t 12), none⟩, ⟨(some 42), .mv (.t 41), none⟩, ⟨(some 43), .mv (.t 2), (some (42,
   false))⟩, ⟨(some 44), .mv (.t 3), (some (42, false))⟩, ⟨(some 45), .bin .eql (.t 43) (.t 44), (some (42, false))⟩, ⟨(some 46), .pick (.t 42) (.c (.bool true)) (.t 45),
   none⟩, ⟨(some 8), .mv (.t 40), none⟩, ⟨(some 9), .mv (.t 46), none⟩]) (.ret)) (.seq (.region 0 [⟨(some 48), .bin .eql (.t 30) (.c (.int .i64 164)), none⟩, ⟨(some 47),
   .mv (.t 48), none⟩]) (.cond (.t 47) (.seq (.region 0 [⟨(some 49), .mv (.t 2), none⟩, ⟨(some 50), .mv (.t 12), none⟩, ⟨(some 8), .mv (.t 49), none⟩, ⟨(some 9), .mv
    (.t 50), none⟩]) (.ret)) (.seq (.region 0 [⟨(some 52), .bin .eql (.t 30) (.c (.int .i64 84)), none⟩, ⟨(some 51), .mv (.t 52), none⟩]) (.cond (.t 51) (.seq
    (.region 0 [⟨(some 53), .mv (.t 2), none⟩, ⟨(some 54), .mv (.t 13), none⟩, ⟨(some 55), .mv (.t 54), none⟩, ⟨(some 56), .mv (.t 2), (some (55, false))⟩, ⟨(some 57), .mv
    (.t 3), (some (55, false))⟩, ⟨(some 58), .bin .eql (.t 56) (.t 57), (some (55, false))⟩, ⟨(some 59), .pick (.t 55) (.c (.bool true)) (.t 58), none⟩, ⟨(some 8), .mv
    (.t 53), none⟩, ⟨(some 9), .mv (.t 59), none⟩]) (.ret)) (.skip)))))))))))) (.seq (.keep []) (.seq (.region 0 [⟨(some 8), .mv (.c (.int .i64 0)), none⟩, ⟨(some 9), .mv
    (.c (.bool false)), none⟩]) (.ret)))))))))),
  [.tmp 8, .tmp 9]⟩
/-- (*hurdle/sym.Book).Alu$1 -/
def c_sym_Book_Alu_1 : SFn := ⟨13,
  .seq (.region 0 [⟨(some 4), .mv (.c (.int .i64 0)), none⟩, ⟨(some 5), .mv (.c (.bool false)), none⟩]) (.seq (.region 0 [⟨(some 6), .load 1 false false (.t 0), none⟩,
   ⟨(some 7), .load 1 false false (.t 1), none⟩, ⟨(some 8), .load 1 false false (.t 2), none⟩, ⟨(some 9), .load 1 false false (.t 3), none⟩, ⟨(some 10), .scall 267 [.t 6,
   .t 7, .t 8, .t 9], none⟩, ⟨(some 11), .ext 0 (.t 10), none⟩, ⟨(some 12), .ext 1 (.t 10), none⟩, ⟨(some 4), .mv (.t 11), none⟩, ⟨(some 5), .mv (.t 12), none⟩]) (.ret)),
  [.tmp 4, .tmp 5]⟩
/-- (*hurdle/sym.Book).Alu$2 -/
def c_sym_Book_Alu_2 : SFn := ⟨13,
  .seq (.region 0 [⟨(some 4), .mv (.c (.int .i64 0)), none⟩, ⟨(some 5), .mv (.c (.bool false)), none⟩]) (.seq (.region 0 [⟨(some 6), .load 1 false false (.t 0), none⟩,
   ⟨(some 7), .load 1 false false (.t 1), none⟩, ⟨(some 8), .load 1 false false (.t 2), none⟩, ⟨(some 9), .load 1 false false (.t 3), none⟩, ⟨(some 10), .scall 268 [.t 6,
   .t 7, .t 8, .t 9], none⟩, ⟨(some 11), .ext 0 (.t 10), none⟩, ⟨(some 12), .ext 1 (.t 10), none⟩, ⟨(some 4), .mv (.t 11), none⟩, ⟨(some 5), .mv (.t 12), none⟩]) (.ret)),
  [.tmp 4, .tmp 5]⟩
/-- (*hurdle/sym.Book).Alu$3 -/
def c_sym_Book_Alu_3 : SFn := ⟨13,
  .seq (.region 0 [⟨(some 4), .mv (.c (.int .i64 0)), none⟩, ⟨(some 5), .mv (.c (.bool false)), none⟩]) (.seq (.region 0 [⟨(some 6), .load 1 false false (.t 0), none⟩,
   ⟨(some 7), .load 1 false false (.t 1), none⟩, ⟨(some 8), .load 1 false false (.t 2), none⟩, ⟨(some 9), .load 1 false false (.t 3), none⟩, ⟨(some 10), .scall 269 [.t 6,
   .t 7, .t 8, .t 9], none⟩, ⟨(some 11), .ext 0 (.t 10), none⟩, ⟨(some 12), .ext 1 (.t 10), none⟩, ⟨(some 4), .mv (.t 11), none⟩, ⟨(some 5), .mv (.t 12), none⟩]) (.ret)),
  [.tmp 4, .tmp 5]⟩
/-- (*hurdle/sym.Book).Alu$4 -/
def c_sym_Book_Alu_4 : SFn := ⟨16,
  .seq (.region 0 [⟨(some 5), .mv (.c (.int .i64 0)), none⟩, ⟨(some 6), .mv (.c (.bool false)), none⟩]) (.seq (.seq (.region 0 [⟨(some 7), .load 1 false false (.t 0), none⟩,
   ⟨(some 8), .un .not (.t 7), none⟩]) (.cond (.t 8) (.seq (.region 0 [⟨(some 5), .mv (.c (.int .i64 0)), none⟩, ⟨(some 6), .mv (.c (.bool false)), none⟩]) (.ret))
    (.skip))) (.seq (.keep [1, 2, 3, 4]) (.seq (.region 0 [⟨(some 9), .load 1 false false (.t 1), none⟩, ⟨(some 10), .load 1 false false (.t 2), none⟩, ⟨(some 11),
   .load 1 false false (.t 3), none⟩, ⟨(some 12), .load 1 false false (.t 4), none⟩, ⟨(some 13), .scall 269 [.t 9, .t 10, .t 11, .t 12], none⟩, ⟨(some 14), .ext 0
    (.t 13), none⟩, ⟨(some 15), .ext 1 (.t 13), none⟩, ⟨(some 5), .mv (.t 14), none⟩, ⟨(some 6), .mv (.t 15), none⟩]) (.ret)))),
  [.tmp 5, .tmp 6]⟩
/-- (*hurdle/sym.Book).Alu -/
def c_sym_Book_Alu : SFn := ⟨83,
  .seq (.region 4 [⟨(some 4), .box 0 (.t 0), none⟩, ⟨(some 5), .box 1 (.t 1), none⟩, ⟨(some 6), .box 2 (.t 2), none⟩, ⟨(some 7), .box 3 (.t 3), none⟩, ⟨(some 8), .mv (.c
    (.int .i64 0)), none⟩]) (.seq (.seq (.region 0 [⟨(some 18), .load 1 false false (.t 5), none⟩, ⟨(some 19), .pcall 107 [.t 18, .c (.int .u32 0), .c (.int .u32 1)],
   none⟩, ⟨(some 17), .mv (.t 19), none⟩, ⟨(some 20), .ext 0 (.t 17), none⟩, ⟨(some 21), .ext 1 (.t 17), none⟩, ⟨(some 9), .mv (.t 20), none⟩, ⟨(some 10), .mv (.t 21),
   none⟩]) (.seq (.keep [4, 5, 6, 7, 10]) (.seq (.region 0 [⟨(some 22), .mv (.t 10), none⟩, ⟨(some 23), .un .not (.t 22), none⟩, ⟨(some 24), .mv (.t 23), none⟩,
   ⟨(some 25), .load 1 false false (.t 4), (some (24, false))⟩, ⟨(some 26), .load 1 false false (.t 6), (some (24, false))⟩, ⟨(some 27), .scall 258 [.t 25, .t 26], (some
    (24, false))⟩, ⟨(some 28), .un .not (.t 27), (some (24, false))⟩, ⟨(some 29), .pick (.t 24) (.c (.bool true)) (.t 28), none⟩, ⟨(some 30), .mv (.t 29), none⟩,
   ⟨(some 31), .load 1 false false (.t 4), (some (30, false))⟩, ⟨(some 32), .load 1 false false (.t 7), (some (30, false))⟩, ⟨(some 33), .scall 258 [.t 31, .t 32], (some
    (30, false))⟩, ⟨(some 34), .un .not (.t 33), (some (30, false))⟩, ⟨(some 35), .pick (.t 30) (.c (.bool true)) (.t 34), none⟩]) (.seq (.keep [4, 5, 6, 7, 35]) (.cond
    (.t 35) (.seq (.region 0 [⟨(some 8), .mv (.c (.int .i64 (-1))), none⟩]) (.ret)) (.skip)))))) (.seq (.keep [4, 5, 6, 7]) (.seq (.region 1 [⟨(some 36),
   .load 1 false false (.t 5), none⟩, ⟨(some 37), .bin .neq (.t 36) (.c (.int .i64 20)), none⟩, ⟨(some 38), .mv (.t 37), none⟩, ⟨(some 39), .load 1 false false (.t 5),
   (some (38, true))⟩, ⟨(some 40), .bin .neq (.t 39) (.c (.int .i64 52)), (some (38, true))⟩, ⟨(some 41), .pick (.t 38) (.t 40) (.c (.bool false)), none⟩, ⟨(some 42), .mv
    (.t 41), none⟩, ⟨(some 43), .load 1 false false (.t 5), (some (42, true))⟩, ⟨(some 44), .bin .neq (.t 43) (.c (.int .i64 100)), (some (42, true))⟩, ⟨(some 45), .pick
    (.t 42) (.t 44) (.c (.bool false)), none⟩, ⟨(some 46), .mv (.t 45), none⟩, ⟨(some 47), .load 1 false false (.t 5), (some (46, true))⟩, ⟨(some 48), .bin .neq (.t 47)
    (.c (.int .i64 116)), (some (46, true))⟩, ⟨(some 49), .pick (.t 46) (.t 48) (.c (.bool false)), none⟩, ⟨(some 11), .alloc 0 ([.bool false]), none⟩, ⟨none, .store 1
    (.t 11) (.t 49), none⟩]) (.seq (.keep [4, 5, 6, 7, 11]) (.seq (.region 1 [⟨(some 50), .mkfn 270 [.t 4, .t 5, .t 6, .t 7], none⟩, ⟨(some 51), .mkfn 271 [.t 4, .t 5,
   .t 6, .t 7], none⟩, ⟨(some 52), .mkfn 272 [.t 4, .t 5, .t 6, .t 7], none⟩, ⟨(some 53), .mkfn 273 [.t 11, .t 4, .t 5, .t 7, .t 6], none⟩, ⟨(some 54), .bsliceR 0 4
    ([.nilf]) [(0, .t 50), (1, .t 51), (2, .t 52), (3, .t 53)], none⟩, ⟨(some 12), .mv (.t 54), none⟩]) (.seq (.keep [4, 5, 6, 7, 11, 12]) (.seq (.seq
    (.region 0 [⟨(some 55), .mv (.t 12), none⟩, ⟨(some 56), .len false (.t 55), none⟩, ⟨(some 57), .mv (.c (.int .i64 0)), none⟩]) (.block 0 (.loop [4, 5, 6, 7, 11, 55,
   56, 57] (.seq (.region 0 [⟨(some 58), .bin .lss (.t 57) (.t 56), none⟩]) (.seq (.cond (.t 58) (.skip) (.exit 0)) (.seq (.block 1 (.seq (.region 0 [⟨(some 59), .iaddr 1
    (.t 55) (.t 57), none⟩, ⟨(some 60), .load 1 false false (.t 59), none⟩, ⟨(some 14), .mv (.t 60), none⟩]) (.seq (.region 0 [⟨(some 62), .mv (.t 14), none⟩, ⟨(some 63),
   .vcall false (.t 62) [], none⟩, ⟨(some 61), .mv (.t 63), none⟩, ⟨(some 64), .ext 0 (.t 61), none⟩, ⟨(some 65), .ext 1 (.t 61), none⟩, ⟨(some 15), .mv (.t 64), none⟩,
   ⟨(some 16), .mv (.t 65), none⟩]) (.seq (.keep [4, 5, 6, 7, 11, 15, 16, 55, 56, 57]) (.seq (.region 0 [⟨(some 66), .mv (.t 16), none⟩]) (.cond (.t 66) (.seq
    (.region 0 [⟨(some 67), .mv (.t 15), none⟩, ⟨(some 8), .mv (.t 67), none⟩]) (.ret)) (.skip))))))) (.seq (.keep [4, 5, 6, 7, 11, 55, 56, 57]) (.region 0 [⟨(some 68),
   .bin .add (.t 57) (.c (.int .i64 1)), none⟩, ⟨(some 57), .mv (.t 68), none⟩])))))))) (.seq (.keep [4, 5, 6, 7, 11]) (.seq (.seq (.region 0 [⟨(some 69),
   .load 1 false false (.t 11), none⟩, ⟨(some 70), .mv (.t 69), none⟩, ⟨(some 71), .load 1 false false (.t 6), (some (70, true))⟩, ⟨(some 72), .load 1 false false (.t 7),
   (some (70, true))⟩, ⟨(some 73), .bin .gtr (.t 71) (.t 72), (some (70, true))⟩, ⟨(some 74), .pick (.t 70) (.t 73) (.c (.bool false)), none⟩]) (.seq (.keep [4, 5, 6, 7,
   74]) (.cond (.t 74) (.region 0 [⟨(some 75), .load 1 false false (.t 7), none⟩, ⟨(some 76), .load 1 false false (.t 6), none⟩, ⟨none, .store 1 (.t 6) (.t 75), none⟩,
   ⟨none, .store 1 (.t 7) (.t 76), none⟩]) (.skip)))) (.seq (.keep [4, 5, 6, 7]) (.seq (.region 0 [⟨(some 77), .load 1 false false (.t 4), none⟩, ⟨(some 78),
   .load 1 false false (.t 5), none⟩, ⟨(some 79), .load 1 false false (.t 6), none⟩, ⟨(some 80), .load 1 false false (.t 7), none⟩, ⟨(some 81), .build
    ([.int .i64 0] ++ rep 35 (.int .u32 0) ++ [.int .i64 0, .int .i64 0, .int .i64 0, .int .i64 0, .int .i64 0] ++ rep 16 (.int .u32 0) ++ [.int .i64 0, .int .i64 0,
   .int .i64 0]) [(0, 1, .c (.int .i64 2)), (57, 1, .t 78), (58, 1, .t 79), (59, 1, .t 80)], none⟩, ⟨(some 82), .scall 259 [.t 77, .t 81], none⟩, ⟨(some 8), .mv (.t 82),
   none⟩]) (.ret)))))))))))),
  [.tmp 8]⟩
/-- (*hurdle/sym.Book).Neg -/
def c_sym_Book_Neg : SFn := ⟨14,
  .seq (.region 0 [⟨(some 4), .mv (.c (.int .i64 0)), none⟩]) (.seq (.seq (.region 0 [⟨(some 5), .mv (.t 0), none⟩, ⟨(some 6), .mv (.t 1), none⟩, ⟨(some 7),
   .scall 258 [.t 5, .t 6], none⟩, ⟨(some 8), .un .not (.t 7), none⟩]) (.seq (.keep [0, 1, 8]) (.cond (.t 8) (.seq (.region 0 [⟨(some 4), .mv (.c (.int .i64 (-1))),
   none⟩]) (.ret)) (.skip)))) (.seq (.keep [0, 1]) (.seq (.region 0 [⟨(some 9), .mv (.t 0), none⟩, ⟨(some 10), .mv (.t 0), none⟩, ⟨(some 11), .scall 262 [.t 10, .c
    (.int .u32 0)], none⟩, ⟨(some 12), .mv (.t 1), none⟩, ⟨(some 13), .scall 274 [.t 9, .c (.int .i64 20), .t 11, .t 12], none⟩, ⟨(some 4), .mv (.t 13), none⟩]) (.ret)))),
  [.tmp 4]⟩
/-- (*hurdle/sym.Book).Eval -/
def c_sym_Book_Eval : SFn := ⟨116,
  .seq (.region 1 [⟨(some 5), .box 0 (.t 2), none⟩, ⟨(some 6), .mv (.c (.int .u32 0)), none⟩, ⟨(some 7), .mv (.c (.bool false)), none⟩]) (.seq (.seq (.region 0 [⟨(some 19),
   .mv (.t 0), none⟩, ⟨(some 20), .mv (.t 1), none⟩, ⟨(some 21), .scall 258 [.t 19, .t 20], none⟩, ⟨(some 22), .un .not (.t 21), none⟩]) (.seq (.keep [0, 1, 5, 22])
    (.cond (.t 22) (.seq (.region 0 [⟨(some 6), .mv (.c (.int .u32 0)), none⟩, ⟨(some 7), .mv (.c (.bool false)), none⟩]) (.ret)) (.skip)))) (.seq (.keep [0, 1, 5]) (.seq
    (.region 1 [⟨(some 23), .mv (.t 1), none⟩, ⟨(some 24), .bin .add (.t 23) (.c (.int .i64 1)), none⟩, ⟨(some 25), .mksl 0 8 ([.int .u32 0, .bool false]) (.t 24), none⟩,
   ⟨(some 8), .mv (.t 25), none⟩]) (.seq (.keep [0, 1, 5, 8]) (.seq (.seq (.region 0 [⟨(some 26), .mv (.t 0), none⟩, ⟨(some 27), .nilck (.t 26), none⟩, ⟨(some 28),
   .faddr 0 (.t 27), none⟩, ⟨(some 29), .load 1 false false (.t 28), none⟩, ⟨(some 30), .mv (.t 1), none⟩, ⟨(some 31), .bin .add (.t 30) (.c (.int .i64 1)), none⟩,
   ⟨(some 32), .slc 60 (.t 29) none (some (.t 31)) none, none⟩, ⟨(some 33), .len false (.t 32), none⟩, ⟨(some 34), .mv (.c (.int .i64 0)), none⟩]) (.seq (.keep [0, 1, 5,
   8, 32, 33, 34]) (.block 0 (.loop [0, 1, 5, 8, 32, 33, 34] (.seq (.region 0 [⟨(some 35), .bin .lss (.t 34) (.t 33), none⟩]) (.seq (.cond (.t 35) (.skip) (.exit 0))
    (.seq (.block 1 (.seq (.region 1 [⟨(some 36), .mv (.t 34), none⟩, ⟨(some 37), .iaddr 60 (.t 32) (.t 34), none⟩, ⟨(some 38), .load 60 true false (.t 37), none⟩,
   ⟨(some 10), .alloc 0 ([.int .i64 0] ++ rep 35 (.int .u32 0) ++ [.int .i64 0, .int .i64 0, .int .i64 0, .int .i64 0, .int .i64 0] ++ rep 16
    (.int .u32 0) ++ [.int .i64 0, .int .i64 0, .int .i64 0]), none⟩, ⟨(some 9), .mv (.t 36), none⟩, ⟨none, .store 60 (.t 10) (.t 38), none⟩]) (.seq (.keep [0, 1, 5, 8, 9,
   10, 32, 33, 34]) (.seq (.region 0 [⟨(some 39), .faddr 0 (.t 10), none⟩, ⟨(some 40), .load 1 false false (.t 39), none⟩]) (.block 2 (.seq (.region 0 [⟨(some 76),
   .bin .eql (.t 40) (.c (.int .i64 0)), none⟩, ⟨(some 75), .mv (.t 76), none⟩]) (.cond (.t 75) (.region 0 [⟨(some 77), .mv (.t 8), none⟩, ⟨(some 78), .mv (.t 9), none⟩,
   ⟨(some 79), .faddr 1 (.t 10), none⟩, ⟨(some 80), .load 35 true false (.t 79), none⟩, ⟨(some 81), .load 34 true false (.t 5), none⟩, ⟨(some 82), .pcall 252 [.t 80,
   .t 81], none⟩, ⟨(some 83), .build ([.int .u32 0, .bool false]) [(0, 1, .t 82), (1, 1, .c (.bool true))], none⟩, ⟨(some 84), .iaddr 2 (.t 77) (.t 78), none⟩, ⟨none,
   .store 2 (.t 84) (.t 83), none⟩]) (.seq (.region 0 [⟨(some 86), .bin .eql (.t 40) (.c (.int .i64 1)), none⟩, ⟨(some 85), .mv (.t 86), none⟩]) (.cond (.t 85) (.seq
    (.region 1 [⟨(some 88), .mv (.t 0), none⟩, ⟨(some 89), .mv (.t 9), none⟩, ⟨(some 90), .scall 265 [.t 88, .t 89], none⟩, ⟨(some 87), .mv (.t 90), none⟩, ⟨(some 91),
   .ext 0 (.t 87), none⟩, ⟨(some 92), .ext 1 (.t 87), none⟩, ⟨(some 11), .alloc 0 ([.vs [] .full, .vs [] .full]), none⟩, ⟨none, .store 2 (.t 11) (.t 91), none⟩,
   ⟨(some 12), .mv (.t 92), none⟩]) (.seq (.keep [0, 1, 5, 8, 9, 11, 32, 33, 34]) (.seq (.region 0 [⟨(some 94), .load 2 true false (.t 11), none⟩, ⟨(some 95),
   .load 34 true false (.t 5), none⟩, ⟨(some 96), .pcall 110 [.t 94, .t 95], none⟩, ⟨(some 93), .mv (.t 96), none⟩, ⟨(some 97), .ext 0 (.t 93), none⟩, ⟨(some 98), .ext 1
    (.t 93), none⟩, ⟨(some 13), .mv (.t 97), none⟩, ⟨(some 14), .mv (.t 98), none⟩]) (.seq (.keep [0, 1, 5, 8, 9, 13, 14, 32, 33, 34]) (.region 0 [⟨(some 99), .mv (.t 8),
   none⟩, ⟨(some 100), .mv (.t 9), none⟩, ⟨(some 101), .mv (.t 13), none⟩, ⟨(some 102), .mv (.t 14), none⟩, ⟨(some 103), .build ([.int .u32 0, .bool false]) [(0, 1,
   .t 101), (1, 1, .t 102)], none⟩, ⟨(some 104), .iaddr 2 (.t 99) (.t 100), none⟩, ⟨none, .store 2 (.t 104) (.t 103), none⟩]))))) (.seq (.region 2 [⟨(some 41), .mv
    (.t 8), none⟩, ⟨(some 42), .faddr 58 (.t 10), none⟩, ⟨(some 43), .load 1 false true (.t 42), none⟩, ⟨(some 44), .iaddr 2 (.t 41) (.t 43), none⟩, ⟨(some 45),
   .load 2 true true (.t 44), none⟩, ⟨(some 46), .mv (.t 8), none⟩, ⟨(some 47), .faddr 59 (.t 10), none⟩, ⟨(some 48), .load 1 false true (.t 47), none⟩, ⟨(some 49),
   .iaddr 2 (.t 46) (.t 48), none⟩, ⟨(some 50), .load 2 true true (.t 49), none⟩, ⟨(some 15), .alloc 0 ([.int .u32 0, .bool false]), none⟩, ⟨(some 16), .alloc 1
    ([.int .u32 0, .bool false]), none⟩, ⟨none, .storeN 0 2 (.t 15) (.t 45), none⟩, ⟨none, .storeN 1 2 (.t 16) (.t 50), none⟩]) (.seq (.keep [0, 1, 5, 8, 9, 10, 15, 16,
   32, 33, 34]) (.seq (.region 0 [⟨(some 52), .faddr 57 (.t 10), none⟩, ⟨(some 53), .load 1 false false (.t 52), none⟩, ⟨(some 54), .faddr 0 (.t 15), none⟩, ⟨(some 55),
   .load 1 false false (.t 54), none⟩, ⟨(some 56), .faddr 0 (.t 16), none⟩, ⟨(some 57), .load 1 false false (.t 56), none⟩, ⟨(some 58), .pcall 107 [.t 53, .t 55, .t 57],
   none⟩, ⟨(some 51), .mv (.t 58), none⟩, ⟨(some 59), .ext 0 (.t 51), none⟩, ⟨(some 60), .ext 1 (.t 51), none⟩, ⟨(some 17), .mv (.t 59), none⟩, ⟨(some 18), .mv (.t 60),
   none⟩]) (.seq (.keep [0, 1, 5, 8, 9, 15, 16, 17, 18, 32, 33, 34]) (.seq (.region 0 [⟨(some 61), .faddr 1 (.t 15), none⟩, ⟨(some 62), .load 1 false false (.t 61), none⟩,
   ⟨(some 63), .mv (.t 62), none⟩, ⟨(some 64), .faddr 1 (.t 16), (some (63, true))⟩, ⟨(some 65), .load 1 false false (.t 64), (some (63, true))⟩, ⟨(some 66), .pick
    (.t 63) (.t 65) (.c (.bool false)), none⟩, ⟨(some 67), .mv (.t 66), none⟩, ⟨(some 68), .mv (.t 18), (some (67, true))⟩, ⟨(some 69), .pick (.t 67) (.t 68) (.c
    (.bool false)), none⟩]) (.seq (.keep [0, 1, 5, 8, 9, 17, 32, 33, 34, 69]) (.cond (.t 69) (.region 0 [⟨(some 70), .mv (.t 8), none⟩, ⟨(some 71), .mv (.t 9), none⟩,
   ⟨(some 72), .mv (.t 17), none⟩, ⟨(some 73), .build ([.int .u32 0, .bool false]) [(0, 1, .t 72), (1, 1, .c (.bool true))], none⟩, ⟨(some 74), .iaddr 2 (.t 70) (.t 71),
   none⟩, ⟨none, .store 2 (.t 74) (.t 73), none⟩]) (.skip))))))))))))))))) (.seq (.keep [0, 1, 5, 8, 32, 33, 34]) (.region 0 [⟨(some 105), .bin .add (.t 34) (.c
    (.int .i64 1)), none⟩, ⟨(some 34), .mv (.t 105), none⟩]))))))))) (.seq (.keep [1, 8]) (.seq (.region 0 [⟨(some 106), .mv (.t 8), none⟩, ⟨(some 107), .mv (.t 1), none⟩,
   ⟨(some 108), .iaddr 2 (.t 106) (.t 107), none⟩, ⟨(some 109), .faddr 0 (.t 108), none⟩, ⟨(some 110), .load 1 false true (.t 109), none⟩, ⟨(some 111), .mv (.t 8), none⟩,
   ⟨(some 112), .mv (.t 1), none⟩, ⟨(some 113), .iaddr 2 (.t 111) (.t 112), none⟩, ⟨(some 114), .faddr 1 (.t 113), none⟩, ⟨(some 115), .load 1 false true (.t 114), none⟩,
   ⟨(some 6), .mv (.t 110), none⟩, ⟨(some 7), .mv (.t 115), none⟩]) (.ret)))))))),
  [.tmp 6, .tmp 7]⟩
/-- (*hurdle/sym.Book).Apart -/
def c_sym_Book_Apart : SFn := ⟨74,
  .seq (.region 1 [⟨(some 6), .alloc 0 (rep 34 (.int .u32 0)), none⟩, ⟨(some 7), .mv (.c (.bool false)), none⟩]) (.seq (.region 1 [⟨(some 8), .alloc 0 (rep 34
    (.int .u32 0)), none⟩]) (.seq (.seq (.region 0 [⟨(some 15), .mv (.t 0), none⟩, ⟨(some 16), .mv (.t 1), none⟩, ⟨(some 17), .scall 258 [.t 15, .t 16], none⟩, ⟨(some 18),
   .un .not (.t 17), none⟩, ⟨(some 19), .mv (.t 18), none⟩, ⟨(some 20), .mv (.t 0), (some (19, false))⟩, ⟨(some 21), .mv (.t 2), (some (19, false))⟩, ⟨(some 22),
   .scall 258 [.t 20, .t 21], (some (19, false))⟩, ⟨(some 23), .un .not (.t 22), (some (19, false))⟩, ⟨(some 24), .pick (.t 19) (.c (.bool true)) (.t 23), none⟩,
   ⟨(some 25), .mv (.t 24), none⟩, ⟨(some 26), .mv (.t 1), (some (25, false))⟩, ⟨(some 27), .mv (.t 2), (some (25, false))⟩, ⟨(some 28), .bin .eql (.t 26) (.t 27), (some
    (25, false))⟩, ⟨(some 29), .pick (.t 25) (.c (.bool true)) (.t 28), none⟩]) (.seq (.keep [0, 1, 2, 6, 8, 29]) (.cond (.t 29) (.seq (.region 0 [⟨(some 30),
   .load 34 true false (.t 8), none⟩, ⟨none, .store 34 (.t 6) (.t 30), none⟩, ⟨(some 7), .mv (.c (.bool false)), none⟩]) (.ret)) (.skip)))) (.seq (.keep [0, 1, 2, 6, 8])
    (.seq (.region 1 [⟨(some 32), .mv (.t 0), none⟩, ⟨(some 33), .mv (.t 1), none⟩, ⟨(some 34), .scall 264 [.t 32, .t 33], none⟩, ⟨(some 31), .mv (.t 34), none⟩,
   ⟨(some 35), .ext 0 (.t 31), none⟩, ⟨(some 36), .ext 1 (.t 31), none⟩, ⟨(some 9), .alloc 0 (rep 35 (.int .u32 0)), none⟩, ⟨none, .store 35 (.t 9) (.t 35), none⟩,
   ⟨(some 10), .mv (.t 36), none⟩]) (.seq (.keep [0, 1, 2, 6, 8, 9, 10]) (.seq (.region 1 [⟨(some 38), .mv (.t 0), none⟩, ⟨(some 39), .mv (.t 2), none⟩, ⟨(some 40),
   .scall 264 [.t 38, .t 39], none⟩, ⟨(some 37), .mv (.t 40), none⟩, ⟨(some 41), .ext 0 (.t 37), none⟩, ⟨(some 42), .ext 1 (.t 37), none⟩, ⟨(some 11), .alloc 0 (rep 35
    (.int .u32 0)), none⟩, ⟨none, .store 35 (.t 11) (.t 41), none⟩, ⟨(some 12), .mv (.t 42), none⟩]) (.seq (.keep [0, 1, 2, 6, 8, 9, 10, 11, 12]) (.seq (.seq
    (.region 0 [⟨(some 43), .mv (.t 10), none⟩, ⟨(some 44), .mv (.t 43), none⟩, ⟨(some 45), .mv (.t 12), (some (44, true))⟩, ⟨(some 46), .pick (.t 44) (.t 45) (.c
    (.bool false)), none⟩]) (.seq (.keep [0, 1, 2, 6, 8, 9, 11, 46]) (.cond (.t 46) (.seq (.region 0 [⟨(some 47), .load 35 true false (.t 9), none⟩, ⟨(some 48),
   .load 35 true false (.t 11), none⟩, ⟨(some 49), .pcall 255 [.t 47, .t 48], none⟩, ⟨(some 50), .ext 0 (.t 49), none⟩, ⟨(some 51), .ext 1 (.t 49), none⟩, ⟨none, .store 34
    (.t 6) (.t 50), none⟩, ⟨(some 7), .mv (.t 51), none⟩]) (.ret)) (.skip)))) (.seq (.keep [0, 1, 2, 6, 8]) (.seq (.region 1 [⟨(some 53), .mv (.t 0), none⟩, ⟨(some 54),
   .mv (.t 1), none⟩, ⟨(some 55), .scall 265 [.t 53, .t 54], none⟩, ⟨(some 52), .mv (.t 55), none⟩, ⟨(some 56), .ext 0 (.t 52), none⟩, ⟨(some 57), .ext 1 (.t 52), none⟩,
   ⟨(some 13), .alloc 0 ([.vs [] .full, .vs [] .full]), none⟩, ⟨none, .store 2 (.t 13) (.t 56), none⟩, ⟨(some 10), .mv (.t 57), none⟩]) (.seq (.keep [0, 2, 6, 8, 10, 13])
    (.seq (.region 1 [⟨(some 59), .mv (.t 0), none⟩, ⟨(some 60), .mv (.t 2), none⟩, ⟨(some 61), .scall 265 [.t 59, .t 60], none⟩, ⟨(some 58), .mv (.t 61), none⟩,
   ⟨(some 62), .ext 0 (.t 58), none⟩, ⟨(some 63), .ext 1 (.t 58), none⟩, ⟨(some 14), .alloc 0 ([.vs [] .full, .vs [] .full]), none⟩, ⟨none, .store 2 (.t 14) (.t 62),
   none⟩, ⟨(some 12), .mv (.t 63), none⟩]) (.seq (.keep [6, 8, 10, 12, 13, 14]) (.seq (.seq (.region 0 [⟨(some 64), .mv (.t 10), none⟩, ⟨(some 65), .mv (.t 64), none⟩,
   ⟨(some 66), .mv (.t 12), (some (65, true))⟩, ⟨(some 67), .pick (.t 65) (.t 66) (.c (.bool false)), none⟩]) (.seq (.keep [6, 8, 13, 14, 67]) (.cond (.t 67) (.seq
    (.region 0 [⟨(some 68), .load 2 true false (.t 13), none⟩, ⟨(some 69), .load 2 true false (.t 14), none⟩, ⟨(some 70), .pcall 112 [.t 68, .t 69], none⟩, ⟨(some 71),
   .ext 0 (.t 70), none⟩, ⟨(some 72), .ext 1 (.t 70), none⟩, ⟨none, .store 34 (.t 6) (.t 71), none⟩, ⟨(some 7), .mv (.t 72), none⟩]) (.ret)) (.skip)))) (.seq (.keep [6,
   8]) (.seq (.region 0 [⟨(some 73), .load 34 true false (.t 8), none⟩, ⟨none, .store 34 (.t 6) (.t 73), none⟩, ⟨(some 7), .mv (.c (.bool false)), none⟩])
    (.ret))))))))))))))))),
  [.cell 6 34 true, .tmp 7]⟩
/-- A table that holds these. -/
class HasAffine (G : Tbl) : Prop where
  h_affine_Const : G 243 = some c_affine_Const
  h_affine_Var : G 244 = some c_affine_Var
  h_affine_both : G 245 = some c_affine_both
  h_affine_Add_1 : G 246 = some c_affine_Add_1
  h_affine_Add : G 247 = some c_affine_Add
  h_affine_Sub_1 : G 248 = some c_affine_Sub_1
  h_affine_Sub : G 249 = some c_affine_Sub
  h_affine_Mul_1 : G 250 = some c_affine_Mul_1
  h_affine_Mul : G 251 = some c_affine_Mul
  h_affine_Eval : G 252 = some c_affine_Eval
  h_affine_Constant : G 253 = some c_affine_Constant
  h_affine_Single : G 254 = some c_affine_Single
/-- A table that holds these. -/
class HasSymNew (G : Tbl) : Prop where
  h_sym_New : G 256 = some c_sym_New
/-- A table that holds these. -/
class HasSym (G : Tbl) : Prop where
  h_sym_Book_Len : G 257 = some c_sym_Book_Len
  h_sym_Book_has : G 258 = some c_sym_Book_has
  h_sym_Book_id : G 259 = some c_sym_Book_id
  h_sym_Book_sum : G 260 = some c_sym_Book_sum
  h_sym_Book_bits : G 261 = some c_sym_Book_bits
  h_sym_Book_Const : G 262 = some c_sym_Book_Const
  h_sym_Book_Var : G 263 = some c_sym_Book_Var
  h_sym_Book_asSum : G 264 = some c_sym_Book_asSum
  h_sym_Book_asBits : G 265 = some c_sym_Book_asBits
  h_sym_Book_Constant : G 266 = some c_sym_Book_Constant
  h_sym_Book_sums : G 267 = some c_sym_Book_sums
  h_sym_Book_both : G 268 = some c_sym_Book_both
  h_sym_Book_plain : G 269 = some c_sym_Book_plain
  h_sym_Book_Alu_1 : G 270 = some c_sym_Book_Alu_1
  h_sym_Book_Alu_2 : G 271 = some c_sym_Book_Alu_2
  h_sym_Book_Alu_3 : G 272 = some c_sym_Book_Alu_3
  h_sym_Book_Alu_4 : G 273 = some c_sym_Book_Alu_4
  h_sym_Book_Alu : G 274 = some c_sym_Book_Alu
  h_sym_Book_Neg : G 275 = some c_sym_Book_Neg
/-- A table that holds these. -/
class HasSymApart (G : Tbl) : Prop where
  h_sym_Book_Apart : G 277 = some c_sym_Book_Apart
/-- A table that holds these. -/
class HasAffApart (G : Tbl) : Prop where
  h_affine_Apart : G 255 = some c_affine_Apart
end Go.Ev
