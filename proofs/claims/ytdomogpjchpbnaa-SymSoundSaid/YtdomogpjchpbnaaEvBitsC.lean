/- Simplified code of Go functions, by scode.py. -/
import Derived.Test.YtdomogpjchpbnaaEvWordC
namespace Go.Ev

/-- hurdle/bits.counts -/
def c_bits_counts : SFn := ⟨27,
  .seq (.region 1 [⟨(some 2), .box 0 (.t 0), none⟩, ⟨(some 4), .mv (.c (.bool false)), none⟩]) (.seq (.seq (.region 0 [⟨(some 6), .faddr 1 (.t 2), none⟩, ⟨(some 7),
   .load 1 false false (.t 6), none⟩, ⟨(some 8), .len false (.t 7), none⟩, ⟨(some 9), .mv (.c (.int .i64 0)), none⟩]) (.block 0 (.loop [1, 2, 8, 9] (.seq
    (.region 0 [⟨(some 10), .bin .lss (.t 9) (.t 8), none⟩]) (.seq (.cond (.t 10) (.skip) (.exit 0)) (.seq (.block 1 (.seq (.region 0 [⟨(some 11), .mv (.t 9), none⟩,
   ⟨(some 5), .mv (.t 11), none⟩]) (.seq (.region 0 [⟨(some 12), .faddr 1 (.t 2), none⟩, ⟨(some 13), .load 1 false true (.t 12), none⟩, ⟨(some 14), .mv (.t 5), none⟩,
   ⟨(some 15), .iaddr 1 (.t 13) (.t 14), none⟩, ⟨(some 16), .load 1 false true (.t 15), none⟩, ⟨(some 17), .faddr 1 (.t 2), none⟩, ⟨(some 18), .load 1 false true (.t 17),
   none⟩, ⟨(some 19), .mv (.t 5), none⟩, ⟨(some 20), .mv (.t 1), none⟩, ⟨(some 21), .bin .shl (.c (.int .i64 1)) (.t 20), none⟩, ⟨(some 22), .bin .xor (.t 19) (.t 21),
   none⟩, ⟨(some 23), .iaddr 1 (.t 18) (.t 22), none⟩, ⟨(some 24), .load 1 false true (.t 23), none⟩, ⟨(some 25), .bin .neq (.t 16) (.t 24), none⟩]) (.seq (.keep [1, 2, 8,
   9, 25]) (.cond (.t 25) (.seq (.region 0 [⟨(some 4), .mv (.c (.bool true)), none⟩]) (.ret)) (.skip)))))) (.seq (.keep [1, 2, 8, 9]) (.region 0 [⟨(some 26), .bin .add
    (.t 9) (.c (.int .i64 1)), none⟩, ⟨(some 9), .mv (.t 26), none⟩])))))))) (.seq (.keep []) (.seq (.region 0 [⟨(some 4), .mv (.c (.bool false)), none⟩]) (.ret)))),
  [.tmp 4]⟩

/-- hurdle/bits.Right -/
def c_bits_Right : SFn := ⟨54,
  .seq (.region 1 [⟨(some 1), .box 0 (.t 0), none⟩, ⟨(some 2), .mv (.c (.bool false)), none⟩]) (.seq (.seq (.region 0 [⟨(some 5), .faddr 0 (.t 1), none⟩, ⟨(some 6),
   .load 1 false true (.t 5), none⟩, ⟨(some 7), .len false (.t 6), none⟩, ⟨(some 8), .bin .gtr (.t 7) (.c (.int .i64 4)), none⟩, ⟨(some 9), .mv (.t 8), none⟩, ⟨(some 10),
   .faddr 1 (.t 1), (some (9, false))⟩, ⟨(some 11), .load 1 false true (.t 10), (some (9, false))⟩, ⟨(some 12), .len false (.t 11), (some (9, false))⟩, ⟨(some 13),
   .faddr 0 (.t 1), (some (9, false))⟩, ⟨(some 14), .load 1 false true (.t 13), (some (9, false))⟩, ⟨(some 15), .len false (.t 14), (some (9, false))⟩, ⟨(some 16),
   .bin .shl (.c (.int .i64 1)) (.t 15), (some (9, false))⟩, ⟨(some 17), .bin .neq (.t 12) (.t 16), (some (9, false))⟩, ⟨(some 18), .pick (.t 9) (.c (.bool true))
    (.t 17), none⟩]) (.seq (.keep [1, 18]) (.cond (.t 18) (.seq (.region 0 [⟨(some 2), .mv (.c (.bool false)), none⟩]) (.ret)) (.skip)))) (.seq (.keep [1]) (.seq (.seq
    (.region 0 [⟨(some 19), .faddr 0 (.t 1), none⟩, ⟨(some 20), .load 1 false false (.t 19), none⟩, ⟨(some 21), .len false (.t 20), none⟩, ⟨(some 22), .mv (.c
    (.int .i64 0)), none⟩]) (.block 0 (.loop [1, 20, 21, 22] (.seq (.region 0 [⟨(some 23), .bin .lss (.t 22) (.t 21), none⟩]) (.seq (.cond (.t 23) (.skip) (.exit 0))
    (.seq (.block 1 (.seq (.region 0 [⟨(some 24), .mv (.t 22), none⟩, ⟨(some 25), .iaddr 1 (.t 20) (.t 22), none⟩, ⟨(some 26), .load 1 false false (.t 25), none⟩,
   ⟨(some 3), .mv (.t 24), none⟩, ⟨(some 4), .mv (.t 26), none⟩]) (.seq (.keep [1, 3, 4, 20, 21, 22]) (.seq (.region 0 [⟨(some 27), .mv (.t 4), none⟩, ⟨(some 28),
   .bin .lss (.t 27) (.c (.int .i64 0)), none⟩, ⟨(some 29), .mv (.t 28), none⟩, ⟨(some 30), .mv (.t 4), (some (29, false))⟩, ⟨(some 31), .bin .geq (.t 30) (.c
    (.int .i64 34)), (some (29, false))⟩, ⟨(some 32), .pick (.t 29) (.c (.bool true)) (.t 31), none⟩, ⟨(some 33), .mv (.t 32), none⟩, ⟨(some 34), .mv (.t 3), (some (33,
   false))⟩, ⟨(some 35), .bin .gtr (.t 34) (.c (.int .i64 0)), (some (33, false))⟩, ⟨(some 36), .mv (.t 35), (some (33, false))⟩, ⟨(some 37), .faddr 0 (.t 1), (some (36,
   true))⟩, ⟨(some 38), .load 1 false false (.t 37), (some (36, true))⟩, ⟨(some 39), .mv (.t 3), (some (36, true))⟩, ⟨(some 40), .bin .sub (.t 39) (.c (.int .i64 1)),
   (some (36, true))⟩, ⟨(some 41), .iaddr 1 (.t 38) (.t 40), (some (36, true))⟩, ⟨(some 42), .load 1 false false (.t 41), (some (36, true))⟩, ⟨(some 43), .mv (.t 4), (some
    (36, true))⟩, ⟨(some 44), .bin .geq (.t 42) (.t 43), (some (36, true))⟩, ⟨(some 45), .pick (.t 36) (.t 44) (.c (.bool false)), (some (33, false))⟩, ⟨(some 46), .pick
    (.t 33) (.c (.bool true)) (.t 45), none⟩, ⟨(some 47), .mv (.t 46), none⟩, ⟨(some 48), .load 2 true false (.t 1), (some (47, false))⟩, ⟨(some 49), .mv (.t 3), (some
    (47, false))⟩, ⟨(some 50), .pcall 100 [.t 48, .t 49], (some (47, false))⟩, ⟨(some 51), .un .not (.t 50), (some (47, false))⟩, ⟨(some 52), .pick (.t 47) (.c
    (.bool true)) (.t 51), none⟩]) (.seq (.keep [1, 20, 21, 22, 52]) (.cond (.t 52) (.seq (.region 0 [⟨(some 2), .mv (.c (.bool false)), none⟩]) (.ret)) (.skip)))))))
    (.seq (.keep [1, 20, 21, 22]) (.region 0 [⟨(some 53), .bin .add (.t 22) (.c (.int .i64 1)), none⟩, ⟨(some 22), .mv (.t 53), none⟩])))))))) (.seq (.keep []) (.seq
    (.region 0 [⟨(some 2), .mv (.c (.bool true)), none⟩]) (.ret)))))),
  [.tmp 2]⟩

/-- hurdle/bits.Const -/
def c_bits_Const : SFn := ⟨6,
  .seq (.region 1 [⟨(some 2), .alloc 0 ([.vs [] .full, .vs [] .full]), none⟩]) (.seq (.region 0 [⟨(some 3), .mv (.t 0), none⟩, ⟨(some 4), .bslice 1 ([.int .u32 0]) [(0,
   .t 3)], none⟩, ⟨(some 5), .build ([.vs [] .full, .vs [] .full]) [(1, 1, .t 4)], none⟩, ⟨none, .store 2 (.t 2) (.t 5), none⟩]) (.ret)),
  [.cell 2 2 true]⟩

/-- hurdle/bits.Var -/
def c_bits_Var : SFn := ⟨15,
  .seq (.region 1 [⟨(some 2), .alloc 0 ([.vs [] .full, .vs [] .full]), none⟩, ⟨(some 3), .mv (.c (.int .i64 0)), none⟩]) (.seq (.seq (.region 0 [⟨(some 4), .mv (.t 0),
   none⟩, ⟨(some 5), .bin .lss (.t 4) (.c (.int .i64 0)), none⟩, ⟨(some 6), .mv (.t 5), none⟩, ⟨(some 7), .mv (.t 0), (some (6, false))⟩, ⟨(some 8), .bin .geq (.t 7) (.c
    (.int .i64 34)), (some (6, false))⟩, ⟨(some 9), .pick (.t 6) (.c (.bool true)) (.t 8), none⟩]) (.seq (.keep [0, 2, 9]) (.cond (.t 9) (.seq (.region 0 [⟨(some 10),
   .build ([.vs [] .full, .vs [] .full]) [], none⟩, ⟨none, .store 2 (.t 2) (.t 10), none⟩, ⟨(some 3), .mv (.c (.int .i64 1)), none⟩]) (.ret)) (.skip)))) (.seq (.keep [0,
   2]) (.seq (.region 0 [⟨(some 11), .mv (.t 0), none⟩, ⟨(some 12), .bslice 1 ([.int .i64 0]) [(0, .t 11)], none⟩, ⟨(some 13), .bslice 2 ([.int .u32 0]) [(0, .c
    (.int .u32 0)), (1, .c (.int .u32 4294967295))], none⟩, ⟨(some 14), .build ([.vs [] .full, .vs [] .full]) [(0, 1, .t 12), (1, 1, .t 13)], none⟩, ⟨none, .store 2
    (.t 2) (.t 14), none⟩, ⟨(some 3), .mv (.c (.int .i64 0)), none⟩]) (.ret)))),
  [.cell 2 2 true, .tmp 3]⟩

/-- hurdle/bits.union -/
def c_bits_union : SFn := ⟨70,
  .seq (.region 0 [⟨(some 4), .mv (.c (.vs [] .full)), none⟩]) (.seq (.region 0 [⟨(some 5), .mv (.c (.vs [] .full)), none⟩]) (.seq (.seq (.give 5 none) (.block 0 (.loop [0,
   1, 5] (.seq (.seq (.region 0 [⟨(some 6), .mv (.t 0), none⟩, ⟨(some 7), .len false (.t 6), none⟩, ⟨(some 8), .mv (.t 1), none⟩, ⟨(some 9), .len false (.t 8), none⟩,
   ⟨(some 10), .bin .add (.t 7) (.t 9), none⟩, ⟨(some 11), .bin .gtr (.t 10) (.c (.int .i64 0)), none⟩]) (.seq (.keep [0, 1, 5, 11]) (.cond (.t 11) (.skip) (.exit 0))))
    (.seq (.keep [0, 1, 5]) (.block 1 (.block 2 (.seq (.region 0 [⟨(some 23), .mv (.t 1), none⟩, ⟨(some 24), .len false (.t 23), none⟩, ⟨(some 25), .bin .eql (.t 24) (.c
    (.int .i64 0)), none⟩, ⟨(some 26), .mv (.t 25), none⟩, ⟨(some 27), .mv (.t 0), (some (26, false))⟩, ⟨(some 28), .len false (.t 27), (some (26, false))⟩, ⟨(some 29),
   .bin .gtr (.t 28) (.c (.int .i64 0)), (some (26, false))⟩, ⟨(some 30), .mv (.t 29), (some (26, false))⟩, ⟨(some 31), .mv (.t 0), (some (30, true))⟩, ⟨(some 32),
   .iaddr 1 (.t 31) (.c (.int .i64 0)), (some (30, true))⟩, ⟨(some 33), .load 1 false true (.t 32), (some (30, true))⟩, ⟨(some 34), .mv (.t 1), (some (30, true))⟩,
   ⟨(some 35), .iaddr 1 (.t 34) (.c (.int .i64 0)), (some (30, true))⟩, ⟨(some 36), .load 1 false true (.t 35), (some (30, true))⟩, ⟨(some 37), .bin .lss (.t 33) (.t 36),
   (some (30, true))⟩, ⟨(some 38), .pick (.t 30) (.t 37) (.c (.bool false)), (some (26, false))⟩, ⟨(some 39), .pick (.t 26) (.c (.bool true)) (.t 38), none⟩, ⟨(some 22),
   .mv (.t 39), none⟩]) (.seq (.keep [0, 1, 5, 22]) (.cond (.t 22) (.region 1 [⟨(some 40), .mv (.t 5), none⟩, ⟨(some 41), .mv (.t 0), none⟩, ⟨(some 42), .iaddr 1 (.t 41)
    (.c (.int .i64 0)), none⟩, ⟨(some 43), .load 1 false true (.t 42), none⟩, ⟨(some 44), .bslice 1 ([.int .i64 0]) [(0, .t 43)], none⟩, ⟨(some 45), .app 0 1 8 (.t 40)
    (.t 44), none⟩, ⟨(some 46), .mv (.t 0), none⟩, ⟨(some 47), .slc 1 (.t 46) (some (.c (.int .i64 1))) none none, none⟩, ⟨(some 5), .mv (.t 45), none⟩, ⟨(some 0), .mv
    (.t 47), none⟩]) (.seq (.region 0 [⟨(some 49), .mv (.t 0), none⟩, ⟨(some 50), .len false (.t 49), none⟩, ⟨(some 51), .bin .eql (.t 50) (.c (.int .i64 0)), none⟩,
   ⟨(some 52), .mv (.t 51), none⟩, ⟨(some 53), .mv (.t 1), (some (52, false))⟩, ⟨(some 54), .iaddr 1 (.t 53) (.c (.int .i64 0)), (some (52, false))⟩, ⟨(some 55),
   .load 1 false true (.t 54), (some (52, false))⟩, ⟨(some 56), .mv (.t 0), (some (52, false))⟩, ⟨(some 57), .iaddr 1 (.t 56) (.c (.int .i64 0)), (some (52, false))⟩,
   ⟨(some 58), .load 1 false true (.t 57), (some (52, false))⟩, ⟨(some 59), .bin .lss (.t 55) (.t 58), (some (52, false))⟩, ⟨(some 60), .pick (.t 52) (.c (.bool true))
    (.t 59), none⟩, ⟨(some 48), .mv (.t 60), none⟩]) (.seq (.keep [0, 1, 5, 48]) (.cond (.t 48) (.region 1 [⟨(some 61), .mv (.t 5), none⟩, ⟨(some 62), .mv (.t 1), none⟩,
   ⟨(some 63), .iaddr 1 (.t 62) (.c (.int .i64 0)), none⟩, ⟨(some 64), .load 1 false true (.t 63), none⟩, ⟨(some 65), .bslice 1 ([.int .i64 0]) [(0, .t 64)], none⟩,
   ⟨(some 66), .app 0 1 8 (.t 61) (.t 65), none⟩, ⟨(some 67), .mv (.t 1), none⟩, ⟨(some 68), .slc 1 (.t 67) (some (.c (.int .i64 1))) none none, none⟩, ⟨(some 5), .mv
    (.t 66), none⟩, ⟨(some 1), .mv (.t 68), none⟩]) (.region 1 [⟨(some 12), .mv (.t 5), none⟩, ⟨(some 13), .mv (.t 0), none⟩, ⟨(some 14), .iaddr 1 (.t 13) (.c
    (.int .i64 0)), none⟩, ⟨(some 15), .load 1 false true (.t 14), none⟩, ⟨(some 16), .bslice 1 ([.int .i64 0]) [(0, .t 15)], none⟩, ⟨(some 17), .app 0 1 8 (.t 12)
    (.t 16), none⟩, ⟨(some 18), .mv (.t 0), none⟩, ⟨(some 19), .slc 1 (.t 18) (some (.c (.int .i64 1))) none none, none⟩, ⟨(some 20), .mv (.t 1), none⟩, ⟨(some 21), .slc 1
    (.t 20) (some (.c (.int .i64 1))) none none, none⟩, ⟨(some 5), .mv (.t 17), none⟩, ⟨(some 0), .mv (.t 19), none⟩, ⟨(some 1), .mv (.t 21), none⟩])))))))))))))) (.seq
    (.keep [5]) (.seq (.region 0 [⟨(some 69), .mv (.t 5), none⟩, ⟨(some 4), .mv (.t 69), none⟩]) (.ret))))),
  [.tmp 4]⟩

/-- hurdle/bits.at -/
def c_bits_at : SFn := ⟨48,
  .seq (.region 1 [⟨(some 3), .box 0 (.t 0), none⟩, ⟨(some 6), .mv (.c (.int .u32 0)), none⟩]) (.seq (.region 0 [⟨(some 7), .mv (.c (.int .i64 0)), none⟩, ⟨(some 8), .mv
    (.c (.int .i64 0)), none⟩]) (.seq (.seq (.region 0 [⟨(some 11), .mv (.t 1), none⟩, ⟨(some 12), .len false (.t 11), none⟩, ⟨(some 13), .mv (.c (.int .i64 0)), none⟩])
    (.block 0 (.loop [2, 3, 7, 8, 11, 12, 13] (.seq (.region 0 [⟨(some 14), .bin .lss (.t 13) (.t 12), none⟩]) (.seq (.cond (.t 14) (.skip) (.exit 0)) (.seq (.block 1
    (.seq (.region 0 [⟨(some 15), .mv (.t 13), none⟩, ⟨(some 16), .iaddr 1 (.t 11) (.t 13), none⟩, ⟨(some 17), .load 1 false false (.t 16), none⟩, ⟨(some 9), .mv (.t 15),
   none⟩, ⟨(some 10), .mv (.t 17), none⟩]) (.seq (.keep [2, 3, 7, 8, 9, 10, 11, 12, 13]) (.seq (.region 0 [⟨(some 18), .mv (.t 8), none⟩, ⟨(some 19), .faddr 0 (.t 3),
   none⟩, ⟨(some 20), .load 1 false false (.t 19), none⟩, ⟨(some 21), .len false (.t 20), none⟩, ⟨(some 22), .bin .lss (.t 18) (.t 21), none⟩, ⟨(some 23), .mv (.t 22),
   none⟩, ⟨(some 24), .faddr 0 (.t 3), (some (23, true))⟩, ⟨(some 25), .load 1 false false (.t 24), (some (23, true))⟩, ⟨(some 26), .mv (.t 8), (some (23, true))⟩,
   ⟨(some 27), .iaddr 1 (.t 25) (.t 26), (some (23, true))⟩, ⟨(some 28), .load 1 false false (.t 27), (some (23, true))⟩, ⟨(some 29), .mv (.t 10), (some (23, true))⟩,
   ⟨(some 30), .bin .eql (.t 28) (.t 29), (some (23, true))⟩, ⟨(some 31), .pick (.t 23) (.t 30) (.c (.bool false)), none⟩]) (.seq (.keep [2, 3, 7, 8, 9, 11, 12, 13, 31])
    (.cond (.t 31) (.seq (.region 0 [⟨(some 32), .mv (.t 7), none⟩, ⟨(some 33), .mv (.t 2), none⟩, ⟨(some 34), .mv (.t 9), none⟩, ⟨(some 35), .bin .shr (.t 33) (.t 34),
   none⟩, ⟨(some 36), .bin .and (.t 35) (.c (.int .i64 1)), none⟩, ⟨(some 37), .mv (.t 8), none⟩, ⟨(some 38), .bin .shl (.t 36) (.t 37), none⟩, ⟨(some 39), .bin .or
    (.t 32) (.t 38), none⟩, ⟨(some 7), .mv (.t 39), none⟩]) (.seq (.keep [2, 3, 7, 8, 11, 12, 13]) (.region 0 [⟨(some 40), .mv (.t 8), none⟩, ⟨(some 41), .bin .add
    (.t 40) (.c (.int .i64 1)), none⟩, ⟨(some 8), .mv (.t 41), none⟩]))) (.skip))))))) (.seq (.keep [2, 3, 7, 8, 11, 12, 13]) (.region 0 [⟨(some 42), .bin .add (.t 13)
    (.c (.int .i64 1)), none⟩, ⟨(some 13), .mv (.t 42), none⟩])))))))) (.seq (.keep [3, 7]) (.seq (.region 0 [⟨(some 43), .faddr 1 (.t 3), none⟩, ⟨(some 44),
   .load 1 false false (.t 43), none⟩, ⟨(some 45), .mv (.t 7), none⟩, ⟨(some 46), .iaddr 1 (.t 44) (.t 45), none⟩, ⟨(some 47), .load 1 false false (.t 46), none⟩,
   ⟨(some 6), .mv (.t 47), none⟩]) (.ret))))),
  [.tmp 6]⟩

/-- hurdle/bits.plain -/
def c_bits_plain : SFn := ⟨54,
  .seq (.region 2 [⟨(some 1), .box 0 (.t 0), none⟩, ⟨(some 2), .alloc 1 ([.vs [] .full, .vs [] .full]), none⟩]) (.seq (.seq (.region 0 [⟨(some 3), .mv (.c (.int .i64 0)),
   none⟩]) (.block 0 (.loop [1, 2, 3] (.seq (.seq (.region 0 [⟨(some 6), .mv (.t 3), none⟩, ⟨(some 7), .faddr 0 (.t 1), none⟩, ⟨(some 8), .load 1 false false (.t 7),
   none⟩, ⟨(some 9), .len false (.t 8), none⟩, ⟨(some 10), .bin .lss (.t 6) (.t 9), none⟩]) (.seq (.keep [1, 2, 3, 10]) (.cond (.t 10) (.skip) (.exit 0)))) (.seq
    (.keep [1, 2, 3]) (.seq (.block 1 (.seq (.seq (.region 0 [⟨(some 13), .load 2 true false (.t 1), none⟩, ⟨(some 14), .mv (.t 3), none⟩, ⟨(some 15), .pcall 100 [.t 13,
   .t 14], none⟩]) (.cond (.t 15) (.exit 1) (.skip))) (.seq (.keep [1, 2, 3]) (.seq (.region 1 [⟨(some 4), .alloc 0 ([.vs [] .full, .vs [] .full]), none⟩]) (.seq
    (.region 2 [⟨(some 16), .faddr 0 (.t 4), none⟩, ⟨(some 17), .load 1 false true (.t 16), none⟩, ⟨(some 18), .faddr 0 (.t 1), none⟩, ⟨(some 19), .load 1 false true
    (.t 18), none⟩, ⟨(some 20), .mv (.t 3), none⟩, ⟨(some 21), .slc 1 (.t 19) none (some (.t 20)) none, none⟩, ⟨(some 22), .app 0 1 8 (.t 17) (.t 21), none⟩, ⟨(some 23),
   .faddr 0 (.t 1), none⟩, ⟨(some 24), .load 1 false true (.t 23), none⟩, ⟨(some 25), .mv (.t 3), none⟩, ⟨(some 26), .bin .add (.t 25) (.c (.int .i64 1)), none⟩,
   ⟨(some 27), .slc 1 (.t 24) (some (.t 26)) none none, none⟩, ⟨(some 28), .app 1 1 8 (.t 22) (.t 27), none⟩, ⟨(some 29), .faddr 0 (.t 4), none⟩, ⟨none, .store 1 (.t 29)
    (.t 28), none⟩]) (.seq (.keep [1, 2, 3, 4]) (.seq (.seq (.region 0 [⟨(some 30), .faddr 1 (.t 1), none⟩, ⟨(some 31), .load 1 false false (.t 30), none⟩, ⟨(some 32),
   .len false (.t 31), none⟩, ⟨(some 33), .mv (.c (.int .i64 0)), none⟩]) (.seq (.give 4 (some 1)) (.block 2 (.loop [1, 2, 3, 4, 32, 33] (.seq (.region 0 [⟨(some 34),
   .bin .lss (.t 33) (.t 32), none⟩]) (.seq (.cond (.t 34) (.skip) (.exit 2)) (.seq (.block 3 (.seq (.region 0 [⟨(some 35), .mv (.t 33), none⟩, ⟨(some 5), .mv (.t 35),
   none⟩]) (.seq (.region 0 [⟨(some 36), .mv (.t 5), none⟩, ⟨(some 37), .mv (.t 3), none⟩, ⟨(some 38), .bin .shr (.t 36) (.t 37), none⟩, ⟨(some 39), .bin .and (.t 38) (.c
    (.int .i64 1)), none⟩, ⟨(some 40), .bin .eql (.t 39) (.c (.int .i64 0)), none⟩]) (.seq (.keep [1, 2, 3, 4, 5, 32, 33, 40]) (.cond (.t 40) (.region 1 [⟨(some 41),
   .faddr 1 (.t 4), none⟩, ⟨(some 42), .load 1 false true (.t 41), none⟩, ⟨(some 43), .faddr 1 (.t 1), none⟩, ⟨(some 44), .load 1 false true (.t 43), none⟩, ⟨(some 45),
   .mv (.t 5), none⟩, ⟨(some 46), .iaddr 1 (.t 44) (.t 45), none⟩, ⟨(some 47), .load 1 false true (.t 46), none⟩, ⟨(some 48), .bslice 1 ([.int .u32 0]) [(0, .t 47)],
   none⟩, ⟨(some 49), .app 0 1 4 (.t 42) (.t 48), none⟩, ⟨(some 50), .faddr 1 (.t 4), none⟩, ⟨none, .store 1 (.t 50) (.t 49), none⟩]) (.skip)))))) (.seq (.keep [1, 2, 3,
   4, 32, 33]) (.region 0 [⟨(some 51), .bin .add (.t 33) (.c (.int .i64 1)), none⟩, ⟨(some 33), .mv (.t 51), none⟩]))))))))) (.seq (.keep [1, 2, 4])
    (.region 0 [⟨(some 52), .load 2 true false (.t 4), none⟩, ⟨none, .store 2 (.t 1) (.t 52), none⟩, ⟨(some 3), .mv (.c (.int .i64 (-1))), none⟩]))))))))) (.seq
    (.keep [1, 2, 3]) (.region 0 [⟨(some 11), .mv (.t 3), none⟩, ⟨(some 12), .bin .add (.t 11) (.c (.int .i64 1)), none⟩, ⟨(some 3), .mv (.t 12), none⟩])))))))) (.seq
    (.keep [1, 2]) (.seq (.region 0 [⟨(some 53), .load 2 true false (.t 1), none⟩, ⟨none, .store 2 (.t 2) (.t 53), none⟩]) (.ret)))),
  [.cell 2 2 true]⟩

/-- hurdle/bits.Do$1 -/
def c_bits_Do_1 : SFn := ⟨25,
  .seq (.region 0 [⟨(some 6), .mv (.c (.int .u32 0)), none⟩]) (.seq (.region 0 [⟨(some 10), .load 1 false true (.t 1), none⟩, ⟨(some 11), .load 2 true true (.t 2), none⟩,
   ⟨(some 12), .faddr 0 (.t 3), none⟩, ⟨(some 13), .load 1 false true (.t 12), none⟩, ⟨(some 14), .mv (.t 0), none⟩, ⟨(some 15), .pcall 105 [.t 11, .t 13, .t 14], none⟩,
   ⟨(some 16), .load 2 true true (.t 4), none⟩, ⟨(some 17), .faddr 0 (.t 3), none⟩, ⟨(some 18), .load 1 false true (.t 17), none⟩, ⟨(some 19), .mv (.t 0), none⟩,
   ⟨(some 20), .pcall 105 [.t 16, .t 18, .t 19], none⟩, ⟨(some 21), .pcall 107 [.t 10, .t 15, .t 20], none⟩, ⟨(some 9), .mv (.t 21), none⟩, ⟨(some 22), .ext 0 (.t 9),
   none⟩, ⟨(some 23), .ext 1 (.t 9), none⟩, ⟨(some 7), .mv (.t 22), none⟩, ⟨(some 8), .mv (.t 23), none⟩]) (.seq (.keep [7]) (.seq (.region 0 [⟨(some 24), .mv (.t 7),
   none⟩, ⟨(some 6), .mv (.t 24), none⟩]) (.ret)))),
  [.tmp 6]⟩

/-- hurdle/bits.Do -/
def c_bits_Do : SFn := ⟨62,
  .seq (.region 4 [⟨(some 3), .box 0 (.t 0), none⟩, ⟨(some 4), .box 1 (.t 1), none⟩, ⟨(some 5), .box 2 (.t 2), none⟩, ⟨(some 6), .alloc 3 ([.vs [] .full, .vs [] .full]),
   none⟩, ⟨(some 7), .mv (.c (.bool false)), none⟩]) (.seq (.seq (.region 0 [⟨(some 11), .load 1 false false (.t 3), none⟩, ⟨(some 12), .bin .neq (.t 11) (.c
    (.int .i64 68)), none⟩, ⟨(some 13), .mv (.t 12), none⟩, ⟨(some 14), .load 1 false false (.t 3), (some (13, true))⟩, ⟨(some 15), .bin .neq (.t 14) (.c (.int .i64 84)),
   (some (13, true))⟩, ⟨(some 16), .pick (.t 13) (.t 15) (.c (.bool false)), none⟩, ⟨(some 17), .mv (.t 16), none⟩, ⟨(some 18), .load 1 false false (.t 3), (some (17,
   true))⟩, ⟨(some 19), .bin .neq (.t 18) (.c (.int .i64 164)), (some (17, true))⟩, ⟨(some 20), .pick (.t 17) (.t 19) (.c (.bool false)), none⟩, ⟨(some 21), .mv (.t 20),
   none⟩, ⟨(some 22), .load 2 true false (.t 4), (some (21, false))⟩, ⟨(some 23), .pcall 101 [.t 22], (some (21, false))⟩, ⟨(some 24), .un .not (.t 23), (some (21,
   false))⟩, ⟨(some 25), .pick (.t 21) (.c (.bool true)) (.t 24), none⟩, ⟨(some 26), .mv (.t 25), none⟩, ⟨(some 27), .load 2 true false (.t 5), (some (26, false))⟩,
   ⟨(some 28), .pcall 101 [.t 27], (some (26, false))⟩, ⟨(some 29), .un .not (.t 28), (some (26, false))⟩, ⟨(some 30), .pick (.t 26) (.c (.bool true)) (.t 29), none⟩])
    (.seq (.keep [3, 4, 5, 6, 30]) (.cond (.t 30) (.seq (.region 0 [⟨(some 31), .build ([.vs [] .full, .vs [] .full]) [], none⟩, ⟨none, .store 2 (.t 6) (.t 31), none⟩,
   ⟨(some 7), .mv (.c (.bool false)), none⟩]) (.ret)) (.skip)))) (.seq (.keep [3, 4, 5, 6]) (.seq (.region 1 [⟨(some 32), .faddr 0 (.t 4), none⟩, ⟨(some 33),
   .load 1 false false (.t 32), none⟩, ⟨(some 34), .faddr 0 (.t 5), none⟩, ⟨(some 35), .load 1 false false (.t 34), none⟩, ⟨(some 36), .pcall 104 [.t 33, .t 35], none⟩,
   ⟨(some 37), .build ([.vs [] .full, .vs [] .full]) [(0, 1, .t 36)], none⟩, ⟨(some 8), .alloc 0 ([.vs [] .full, .vs [] .full]), none⟩, ⟨none, .store 2 (.t 8) (.t 37),
   none⟩]) (.seq (.keep [3, 4, 5, 6, 8]) (.seq (.seq (.region 0 [⟨(some 38), .faddr 0 (.t 8), none⟩, ⟨(some 39), .load 1 false false (.t 38), none⟩, ⟨(some 40), .len false
    (.t 39), none⟩, ⟨(some 41), .bin .gtr (.t 40) (.c (.int .i64 4)), none⟩]) (.seq (.keep [3, 4, 5, 6, 8, 41]) (.cond (.t 41) (.seq (.region 0 [⟨(some 42), .build
    ([.vs [] .full, .vs [] .full]) [], none⟩, ⟨none, .store 2 (.t 6) (.t 42), none⟩, ⟨(some 7), .mv (.c (.bool false)), none⟩]) (.ret)) (.skip)))) (.seq (.keep [3, 4, 5,
   6, 8]) (.seq (.region 0 [⟨(some 43), .mkfn 108 [.t 3, .t 4, .t 8, .t 5], none⟩, ⟨(some 9), .mv (.t 43), none⟩]) (.seq (.seq (.region 0 [⟨(some 44), .faddr 0 (.t 8),
   none⟩, ⟨(some 45), .load 1 false false (.t 44), none⟩, ⟨(some 46), .len false (.t 45), none⟩, ⟨(some 47), .bin .shl (.c (.int .i64 1)) (.t 46), none⟩, ⟨(some 48), .mv
    (.c (.int .i64 0)), none⟩]) (.seq (.keep [6, 8, 9, 47, 48]) (.seq (.give 8 (some 1)) (.block 0 (.loop [6, 8, 9, 47, 48] (.seq (.region 0 [⟨(some 49), .bin .lss
    (.t 48) (.t 47), none⟩]) (.seq (.cond (.t 49) (.skip) (.exit 0)) (.seq (.block 1 (.seq (.region 0 [⟨(some 50), .mv (.t 48), none⟩, ⟨(some 10), .mv (.t 50), none⟩])
    (.region 1 [⟨(some 51), .faddr 1 (.t 8), none⟩, ⟨(some 52), .load 1 false true (.t 51), none⟩, ⟨(some 53), .mv (.t 9), none⟩, ⟨(some 54), .mv (.t 10), none⟩,
   ⟨(some 55), .vcall true (.t 53) [.t 54], none⟩, ⟨(some 56), .bslice 1 ([.int .u32 0]) [(0, .t 55)], none⟩, ⟨(some 57), .app 0 1 4 (.t 52) (.t 56), none⟩, ⟨(some 58),
   .faddr 1 (.t 8), none⟩, ⟨none, .store 1 (.t 58) (.t 57), none⟩]))) (.seq (.keep [6, 8, 9, 47, 48]) (.region 0 [⟨(some 59), .bin .add (.t 48) (.c (.int .i64 1)), none⟩,
   ⟨(some 48), .mv (.t 59), none⟩])))))))))) (.seq (.keep [6, 8]) (.seq (.region 0 [⟨(some 60), .load 2 true false (.t 8), none⟩, ⟨(some 61), .pcall 106 [.t 60], none⟩,
   ⟨none, .store 2 (.t 6) (.t 61), none⟩, ⟨(some 7), .mv (.c (.bool true)), none⟩]) (.ret))))))))))),
  [.cell 6 2 true, .tmp 7]⟩

/-- hurdle/bits.Eval -/
def c_bits_Eval : SFn := ⟨49,
  .seq (.region 2 [⟨(some 2), .box 0 (.t 0), none⟩, ⟨(some 3), .box 1 (.t 1), none⟩, ⟨(some 4), .mv (.c (.int .u32 0)), none⟩, ⟨(some 5), .mv (.c (.bool false)), none⟩])
    (.seq (.seq (.region 0 [⟨(some 11), .load 2 true false (.t 2), none⟩, ⟨(some 12), .pcall 101 [.t 11], none⟩, ⟨(some 13), .un .not (.t 12), none⟩]) (.cond (.t 13)
    (.seq (.region 0 [⟨(some 4), .mv (.c (.int .u32 0)), none⟩, ⟨(some 5), .mv (.c (.bool false)), none⟩]) (.ret)) (.skip))) (.seq (.keep [2, 3]) (.seq
    (.region 0 [⟨(some 6), .mv (.c (.int .u32 0)), none⟩]) (.seq (.seq (.region 0 [⟨(some 14), .mv (.c (.int .i64 0)), none⟩]) (.block 0 (.loop [2, 3, 6, 14] (.seq
    (.region 0 [⟨(some 15), .bin .lss (.t 14) (.c (.int .i64 32)), none⟩]) (.seq (.cond (.t 15) (.skip) (.exit 0)) (.seq (.block 1 (.seq (.region 0 [⟨(some 16), .mv
    (.t 14), none⟩, ⟨(some 7), .mv (.t 16), none⟩]) (.seq (.region 0 [⟨(some 8), .mv (.c (.int .i64 0)), none⟩]) (.seq (.seq (.region 0 [⟨(some 17), .faddr 0 (.t 2),
   none⟩, ⟨(some 18), .load 1 false false (.t 17), none⟩, ⟨(some 19), .len false (.t 18), none⟩, ⟨(some 20), .mv (.c (.int .i64 0)), none⟩]) (.block 2 (.loop [2, 3, 6, 7,
   8, 14, 18, 19, 20] (.seq (.region 0 [⟨(some 21), .bin .lss (.t 20) (.t 19), none⟩]) (.seq (.cond (.t 21) (.skip) (.exit 2)) (.seq (.block 3 (.seq
    (.region 0 [⟨(some 22), .mv (.t 20), none⟩, ⟨(some 23), .iaddr 1 (.t 18) (.t 20), none⟩, ⟨(some 24), .load 1 false false (.t 23), none⟩, ⟨(some 9), .mv (.t 22), none⟩,
   ⟨(some 10), .mv (.t 24), none⟩]) (.seq (.keep [2, 3, 6, 7, 8, 9, 10, 14, 18, 19, 20]) (.region 0 [⟨(some 25), .mv (.t 8), none⟩, ⟨(some 26), .mv (.t 10), none⟩,
   ⟨(some 27), .iaddrA 34 1 (.t 3) (.t 26), none⟩, ⟨(some 28), .load 1 false false (.t 27), none⟩, ⟨(some 29), .mv (.t 7), none⟩, ⟨(some 30), .bin .shr (.t 28) (.t 29),
   none⟩, ⟨(some 31), .bin .and (.t 30) (.c (.int .u32 1)), none⟩, ⟨(some 32), .conv .i64 (.t 31), none⟩, ⟨(some 33), .mv (.t 9), none⟩, ⟨(some 34), .bin .shl (.t 32)
    (.t 33), none⟩, ⟨(some 35), .bin .or (.t 25) (.t 34), none⟩, ⟨(some 8), .mv (.t 35), none⟩])))) (.seq (.keep [2, 3, 6, 7, 8, 14, 18, 19, 20]) (.region 0 [⟨(some 36),
   .bin .add (.t 20) (.c (.int .i64 1)), none⟩, ⟨(some 20), .mv (.t 36), none⟩])))))))) (.seq (.keep [2, 3, 6, 7, 8, 14]) (.region 0 [⟨(some 37), .mv (.t 6), none⟩,
   ⟨(some 38), .faddr 1 (.t 2), none⟩, ⟨(some 39), .load 1 false true (.t 38), none⟩, ⟨(some 40), .mv (.t 8), none⟩, ⟨(some 41), .iaddr 1 (.t 39) (.t 40), none⟩,
   ⟨(some 42), .load 1 false true (.t 41), none⟩, ⟨(some 43), .mv (.t 7), none⟩, ⟨(some 44), .bin .shl (.c (.int .u32 1)) (.t 43), none⟩, ⟨(some 45), .bin .and (.t 42)
    (.t 44), none⟩, ⟨(some 46), .bin .or (.t 37) (.t 45), none⟩, ⟨(some 6), .mv (.t 46), none⟩])))))) (.seq (.keep [2, 3, 6, 14]) (.region 0 [⟨(some 47), .bin .add
    (.t 14) (.c (.int .i64 1)), none⟩, ⟨(some 14), .mv (.t 47), none⟩])))))))) (.seq (.keep [6]) (.seq (.region 0 [⟨(some 48), .mv (.t 6), none⟩, ⟨(some 4), .mv (.t 48),
   none⟩, ⟨(some 5), .mv (.c (.bool true)), none⟩]) (.ret))))))),
  [.tmp 4, .tmp 5]⟩

/-- hurdle/bits.Same -/
def c_bits_Same : SFn := ⟨59,
  .seq (.region 2 [⟨(some 2), .box 0 (.t 0), none⟩, ⟨(some 3), .box 1 (.t 1), none⟩, ⟨(some 4), .mv (.c (.bool false)), none⟩]) (.seq (.seq (.region 0 [⟨(some 7), .faddr 0
    (.t 2), none⟩, ⟨(some 8), .load 1 false false (.t 7), none⟩, ⟨(some 9), .len false (.t 8), none⟩, ⟨(some 10), .faddr 0 (.t 3), none⟩, ⟨(some 11), .load 1 false false
    (.t 10), none⟩, ⟨(some 12), .len false (.t 11), none⟩, ⟨(some 13), .bin .neq (.t 9) (.t 12), none⟩, ⟨(some 14), .mv (.t 13), none⟩, ⟨(some 15), .faddr 1 (.t 2), (some
    (14, false))⟩, ⟨(some 16), .load 1 false false (.t 15), (some (14, false))⟩, ⟨(some 17), .len false (.t 16), (some (14, false))⟩, ⟨(some 18), .faddr 1 (.t 3), (some
    (14, false))⟩, ⟨(some 19), .load 1 false false (.t 18), (some (14, false))⟩, ⟨(some 20), .len false (.t 19), (some (14, false))⟩, ⟨(some 21), .bin .neq (.t 17)
    (.t 20), (some (14, false))⟩, ⟨(some 22), .pick (.t 14) (.c (.bool true)) (.t 21), none⟩]) (.seq (.keep [2, 3, 22]) (.cond (.t 22) (.seq (.region 0 [⟨(some 4), .mv
    (.c (.bool false)), none⟩]) (.ret)) (.skip)))) (.seq (.keep [2, 3]) (.seq (.seq (.region 0 [⟨(some 23), .faddr 0 (.t 2), none⟩, ⟨(some 24), .load 1 false false
    (.t 23), none⟩, ⟨(some 25), .len false (.t 24), none⟩, ⟨(some 26), .mv (.c (.int .i64 0)), none⟩]) (.block 0 (.loop [2, 3, 25, 26] (.seq (.region 0 [⟨(some 27),
   .bin .lss (.t 26) (.t 25), none⟩]) (.seq (.cond (.t 27) (.skip) (.exit 0)) (.seq (.block 1 (.seq (.region 0 [⟨(some 28), .mv (.t 26), none⟩, ⟨(some 5), .mv (.t 28),
   none⟩]) (.seq (.region 0 [⟨(some 29), .faddr 0 (.t 2), none⟩, ⟨(some 30), .load 1 false true (.t 29), none⟩, ⟨(some 31), .mv (.t 5), none⟩, ⟨(some 32), .iaddr 1
    (.t 30) (.t 31), none⟩, ⟨(some 33), .load 1 false true (.t 32), none⟩, ⟨(some 34), .faddr 0 (.t 3), none⟩, ⟨(some 35), .load 1 false true (.t 34), none⟩, ⟨(some 36),
   .mv (.t 5), none⟩, ⟨(some 37), .iaddr 1 (.t 35) (.t 36), none⟩, ⟨(some 38), .load 1 false true (.t 37), none⟩, ⟨(some 39), .bin .neq (.t 33) (.t 38), none⟩]) (.seq
    (.keep [2, 3, 25, 26, 39]) (.cond (.t 39) (.seq (.region 0 [⟨(some 4), .mv (.c (.bool false)), none⟩]) (.ret)) (.skip)))))) (.seq (.keep [2, 3, 25, 26])
    (.region 0 [⟨(some 40), .bin .add (.t 26) (.c (.int .i64 1)), none⟩, ⟨(some 26), .mv (.t 40), none⟩])))))))) (.seq (.keep [2, 3]) (.seq (.seq (.region 0 [⟨(some 41),
   .faddr 1 (.t 2), none⟩, ⟨(some 42), .load 1 false false (.t 41), none⟩, ⟨(some 43), .len false (.t 42), none⟩, ⟨(some 44), .mv (.c (.int .i64 0)), none⟩]) (.block 2
    (.loop [2, 3, 43, 44] (.seq (.region 0 [⟨(some 45), .bin .lss (.t 44) (.t 43), none⟩]) (.seq (.cond (.t 45) (.skip) (.exit 2)) (.seq (.block 3 (.seq
    (.region 0 [⟨(some 46), .mv (.t 44), none⟩, ⟨(some 6), .mv (.t 46), none⟩]) (.seq (.region 0 [⟨(some 47), .faddr 1 (.t 2), none⟩, ⟨(some 48), .load 1 false true
    (.t 47), none⟩, ⟨(some 49), .mv (.t 6), none⟩, ⟨(some 50), .iaddr 1 (.t 48) (.t 49), none⟩, ⟨(some 51), .load 1 false true (.t 50), none⟩, ⟨(some 52), .faddr 1
    (.t 3), none⟩, ⟨(some 53), .load 1 false true (.t 52), none⟩, ⟨(some 54), .mv (.t 6), none⟩, ⟨(some 55), .iaddr 1 (.t 53) (.t 54), none⟩, ⟨(some 56),
   .load 1 false true (.t 55), none⟩, ⟨(some 57), .bin .neq (.t 51) (.t 56), none⟩]) (.seq (.keep [2, 3, 43, 44, 57]) (.cond (.t 57) (.seq (.region 0 [⟨(some 4), .mv (.c
    (.bool false)), none⟩]) (.ret)) (.skip)))))) (.seq (.keep [2, 3, 43, 44]) (.region 0 [⟨(some 58), .bin .add (.t 44) (.c (.int .i64 1)), none⟩, ⟨(some 44), .mv
    (.t 58), none⟩])))))))) (.seq (.keep []) (.seq (.region 0 [⟨(some 4), .mv (.c (.bool true)), none⟩]) (.ret)))))))),
  [.tmp 4]⟩

/-- hurdle/bits.Apart -/
def c_bits_Apart : SFn := ⟨59,
  .seq (.region 3 [⟨(some 2), .box 0 (.t 0), none⟩, ⟨(some 3), .box 1 (.t 1), none⟩, ⟨(some 4), .alloc 2 (rep 34 (.int .u32 0)), none⟩, ⟨(some 5), .mv (.c
    (.bool false)), none⟩]) (.seq (.region 1 [⟨(some 6), .alloc 0 (rep 34 (.int .u32 0)), none⟩]) (.seq (.seq (.region 0 [⟨(some 11), .load 2 true false
    (.t 2), none⟩, ⟨(some 12), .pcall 101 [.t 11], none⟩, ⟨(some 13), .un .not (.t 12), none⟩, ⟨(some 14), .mv (.t 13), none⟩, ⟨(some 15), .load 2 true false (.t 3), (some
    (14, false))⟩, ⟨(some 16), .pcall 101 [.t 15], (some (14, false))⟩, ⟨(some 17), .un .not (.t 16), (some (14, false))⟩, ⟨(some 18), .pick (.t 14) (.c (.bool true))
    (.t 17), none⟩]) (.seq (.keep [2, 3, 4, 6, 18]) (.cond (.t 18) (.seq (.region 0 [⟨(some 19), .load 34 true false (.t 6), none⟩, ⟨none, .store 34 (.t 4) (.t 19), none⟩,
   ⟨(some 5), .mv (.c (.bool false)), none⟩]) (.ret)) (.skip)))) (.seq (.keep [2, 3, 4, 6]) (.seq (.region 0 [⟨(some 20), .faddr 0 (.t 2), none⟩, ⟨(some 21),
   .load 1 false false (.t 20), none⟩, ⟨(some 22), .faddr 0 (.t 3), none⟩, ⟨(some 23), .load 1 false false (.t 22), none⟩, ⟨(some 24), .pcall 104 [.t 21, .t 23], none⟩,
   ⟨(some 7), .mv (.t 24), none⟩]) (.seq (.keep [2, 3, 4, 6, 7]) (.seq (.seq (.region 0 [⟨(some 25), .mv (.t 7), none⟩, ⟨(some 26), .len false (.t 25), none⟩, ⟨(some 27),
   .bin .shl (.c (.int .i64 1)) (.t 26), none⟩, ⟨(some 28), .mv (.c (.int .i64 0)), none⟩]) (.block 0 (.loop [2, 3, 4, 6, 7, 27, 28] (.seq (.region 0 [⟨(some 29),
   .bin .lss (.t 28) (.t 27), none⟩]) (.seq (.cond (.t 29) (.skip) (.exit 0)) (.seq (.block 1 (.seq (.region 0 [⟨(some 30), .mv (.t 28), none⟩, ⟨(some 8), .mv (.t 30),
   none⟩]) (.seq (.seq (.region 0 [⟨(some 31), .load 2 true true (.t 2), none⟩, ⟨(some 32), .mv (.t 7), none⟩, ⟨(some 33), .mv (.t 8), none⟩, ⟨(some 34),
   .pcall 105 [.t 31, .t 32, .t 33], none⟩, ⟨(some 35), .load 2 true true (.t 3), none⟩, ⟨(some 36), .mv (.t 7), none⟩, ⟨(some 37), .mv (.t 8), none⟩, ⟨(some 38),
   .pcall 105 [.t 35, .t 36, .t 37], none⟩, ⟨(some 39), .bin .eql (.t 34) (.t 38), none⟩]) (.seq (.keep [2, 3, 4, 6, 7, 8, 27, 28, 39]) (.cond (.t 39) (.exit 1)
    (.skip)))) (.seq (.keep [4, 6, 7, 8]) (.seq (.seq (.region 0 [⟨(some 40), .mv (.t 7), none⟩, ⟨(some 41), .len false (.t 40), none⟩, ⟨(some 42), .mv (.c
    (.int .i64 0)), none⟩]) (.block 2 (.loop [4, 6, 8, 40, 41, 42] (.seq (.region 0 [⟨(some 43), .bin .lss (.t 42) (.t 41), none⟩]) (.seq (.cond (.t 43) (.skip)
    (.exit 2)) (.seq (.block 3 (.seq (.region 0 [⟨(some 44), .mv (.t 42), none⟩, ⟨(some 45), .iaddr 1 (.t 40) (.t 42), none⟩, ⟨(some 46), .load 1 false false (.t 45),
   none⟩, ⟨(some 9), .mv (.t 44), none⟩, ⟨(some 10), .mv (.t 46), none⟩]) (.seq (.keep [4, 6, 8, 9, 10, 40, 41, 42]) (.region 0 [⟨(some 47), .mv (.t 10), none⟩,
   ⟨(some 48), .mv (.t 8), none⟩, ⟨(some 49), .mv (.t 9), none⟩, ⟨(some 50), .bin .shr (.t 48) (.t 49), none⟩, ⟨(some 51), .bin .and (.t 50) (.c (.int .i64 1)), none⟩,
   ⟨(some 52), .conv .u32 (.t 51), none⟩, ⟨(some 53), .bin .mul (.c (.int .u32 4294967295)) (.t 52), none⟩, ⟨(some 54), .iaddrA 34 1 (.t 6) (.t 47), none⟩, ⟨none, .store 1
    (.t 54) (.t 53), none⟩])))) (.seq (.keep [4, 6, 8, 40, 41, 42]) (.region 0 [⟨(some 55), .bin .add (.t 42) (.c (.int .i64 1)), none⟩, ⟨(some 42), .mv (.t 55),
   none⟩])))))))) (.seq (.keep [4, 6]) (.seq (.region 0 [⟨(some 56), .load 34 true false (.t 6), none⟩, ⟨none, .store 34 (.t 4) (.t 56), none⟩, ⟨(some 5), .mv (.c
    (.bool true)), none⟩]) (.ret)))))))) (.seq (.keep [2, 3, 4, 6, 7, 27, 28]) (.region 0 [⟨(some 57), .bin .add (.t 28) (.c (.int .i64 1)), none⟩, ⟨(some 28), .mv
    (.t 57), none⟩])))))))) (.seq (.keep [4, 6]) (.seq (.region 0 [⟨(some 58), .load 34 true false (.t 6), none⟩, ⟨none, .store 34 (.t 4) (.t 58), none⟩, ⟨(some 5), .mv
    (.c (.bool false)), none⟩]) (.ret))))))))),
  [.cell 4 34 true, .tmp 5]⟩

/-- A table that holds these. -/
class HasBits (G : Tbl) : Prop extends HasWd G where
  h_bits_counts : G 100 = some c_bits_counts
  h_bits_Right : G 101 = some c_bits_Right
  h_bits_Const : G 102 = some c_bits_Const
  h_bits_Var : G 103 = some c_bits_Var
  h_bits_union : G 104 = some c_bits_union
  h_bits_at : G 105 = some c_bits_at
  h_bits_plain : G 106 = some c_bits_plain
  h_bits_Do_1 : G 108 = some c_bits_Do_1
  h_bits_Do : G 109 = some c_bits_Do
/-- A table that holds these. -/
class HasBitsE (G : Tbl) : Prop extends HasBits G where
  h_bits_Eval : G 110 = some c_bits_Eval
/-- A table that holds these. -/
class HasBitsA (G : Tbl) : Prop extends HasBitsE G where
  h_bits_Apart : G 112 = some c_bits_Apart
/-- A table that holds these. -/
class HasBitsS (G : Tbl) : Prop extends HasBitsA G where
  h_bits_Same : G 111 = some c_bits_Same

end Go.Ev
