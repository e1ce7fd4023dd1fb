/- Simplified code of Go functions, by scode.py. -/
import Derived.Test.YtdomogpjchpbnaaEvWordC
namespace Go.Ev

/-- hurdle/hurdleref15.size -/
def c_hurdleref15_size : SFn := ⟨13,
  .seq (.region 0 [⟨(some 2), .mv (.c (.int .i64 0)), none⟩]) (.seq (.region 0 [⟨(some 3), .mv (.c (.int .i64 1)), none⟩]) (.seq (.seq (.region 0 [⟨(some 4), .mv (.c
    (.int .i64 0)), none⟩]) (.block 0 (.loop [0, 3, 4] (.seq (.seq (.region 0 [⟨(some 5), .mv (.t 4), none⟩, ⟨(some 6), .mv (.t 0), none⟩, ⟨(some 7), .bin .lss (.t 5)
    (.t 6), none⟩]) (.cond (.t 7) (.skip) (.exit 0))) (.seq (.keep [0, 3, 4]) (.seq (.block 1 (.region 0 [⟨(some 10), .mv (.t 3), none⟩, ⟨(some 11), .bin .mul (.t 10) (.c
    (.int .i64 2)), none⟩, ⟨(some 3), .mv (.t 11), none⟩])) (.region 0 [⟨(some 8), .mv (.t 4), none⟩, ⟨(some 9), .bin .add (.t 8) (.c (.int .i64 1)), none⟩, ⟨(some 4), .mv
    (.t 9), none⟩]))))))) (.seq (.keep [3]) (.seq (.region 0 [⟨(some 12), .mv (.t 3), none⟩, ⟨(some 2), .mv (.t 12), none⟩]) (.ret))))),
  [.tmp 2]⟩

/-- hurdle/hurdleref15.turned -/
def c_hurdleref15_turned : SFn := ⟨19,
  .seq (.region 0 [⟨(some 4), .mv (.c (.int .i64 0)), none⟩]) (.seq (.seq (.region 0 [⟨(some 5), .mv (.t 0), none⟩, ⟨(some 6), .mv (.t 1), none⟩, ⟨(some 7),
   .pcall 113 [.t 6], none⟩, ⟨(some 8), .bin .quo (.t 5) (.t 7), none⟩, ⟨(some 9), .bin .rem (.t 8) (.c (.int .i64 2)), none⟩, ⟨(some 10), .bin .eql (.t 9) (.c
    (.int .i64 1)), none⟩]) (.seq (.keep [0, 1, 10]) (.cond (.t 10) (.seq (.region 0 [⟨(some 11), .mv (.t 0), none⟩, ⟨(some 12), .mv (.t 1), none⟩, ⟨(some 13),
   .pcall 113 [.t 12], none⟩, ⟨(some 14), .bin .sub (.t 11) (.t 13), none⟩, ⟨(some 4), .mv (.t 14), none⟩]) (.ret)) (.skip)))) (.seq (.keep [0, 1]) (.seq
    (.region 0 [⟨(some 15), .mv (.t 0), none⟩, ⟨(some 16), .mv (.t 1), none⟩, ⟨(some 17), .pcall 113 [.t 16], none⟩, ⟨(some 18), .bin .add (.t 15) (.t 17), none⟩,
   ⟨(some 4), .mv (.t 18), none⟩]) (.ret)))),
  [.tmp 4]⟩

/-- hurdle/hurdleref15.Right -/
def c_hurdleref15_Right : SFn := ⟨84,
  .seq (.region 1 [⟨(some 1), .box 0 (.t 0), none⟩, ⟨(some 2), .mv (.c (.bool false)), none⟩]) (.seq (.seq (.region 0 [⟨(some 6), .faddr 0 (.t 1), none⟩, ⟨(some 7),
   .load 1 false true (.t 6), none⟩, ⟨(some 8), .len false (.t 7), none⟩, ⟨(some 9), .bin .gtr (.t 8) (.c (.int .i64 4)), none⟩, ⟨(some 10), .mv (.t 9), none⟩, ⟨(some 11),
   .faddr 1 (.t 1), (some (10, false))⟩, ⟨(some 12), .load 1 false true (.t 11), (some (10, false))⟩, ⟨(some 13), .len false (.t 12), (some (10, false))⟩, ⟨(some 14),
   .faddr 0 (.t 1), (some (10, false))⟩, ⟨(some 15), .load 1 false true (.t 14), (some (10, false))⟩, ⟨(some 16), .len false (.t 15), (some (10, false))⟩, ⟨(some 17),
   .pcall 113 [.t 16], (some (10, false))⟩, ⟨(some 18), .bin .neq (.t 13) (.t 17), (some (10, false))⟩, ⟨(some 19), .pick (.t 10) (.c (.bool true)) (.t 18), none⟩]) (.seq
    (.keep [1, 19]) (.cond (.t 19) (.seq (.region 0 [⟨(some 2), .mv (.c (.bool false)), none⟩]) (.ret)) (.skip)))) (.seq (.keep [1]) (.seq (.seq (.region 0 [⟨(some 3), .mv
    (.c (.int .i64 0)), none⟩]) (.block 0 (.loop [1, 3] (.seq (.seq (.region 0 [⟨(some 20), .mv (.t 3), none⟩, ⟨(some 21), .faddr 0 (.t 1), none⟩, ⟨(some 22),
   .load 1 false false (.t 21), none⟩, ⟨(some 23), .len false (.t 22), none⟩, ⟨(some 24), .bin .lss (.t 20) (.t 23), none⟩]) (.seq (.keep [1, 3, 24]) (.cond (.t 24)
    (.skip) (.exit 0)))) (.seq (.keep [1, 3]) (.seq (.block 1 (.seq (.seq (.region 0 [⟨(some 27), .faddr 0 (.t 1), none⟩, ⟨(some 28), .load 1 false true (.t 27), none⟩,
   ⟨(some 29), .mv (.t 3), none⟩, ⟨(some 30), .iaddr 1 (.t 28) (.t 29), none⟩, ⟨(some 31), .load 1 false true (.t 30), none⟩, ⟨(some 32), .bin .lss (.t 31) (.c
    (.int .i64 0)), none⟩, ⟨(some 33), .mv (.t 32), none⟩, ⟨(some 34), .faddr 0 (.t 1), (some (33, false))⟩, ⟨(some 35), .load 1 false true (.t 34), (some (33, false))⟩,
   ⟨(some 36), .mv (.t 3), (some (33, false))⟩, ⟨(some 37), .iaddr 1 (.t 35) (.t 36), (some (33, false))⟩, ⟨(some 38), .load 1 false true (.t 37), (some (33, false))⟩,
   ⟨(some 39), .bin .gtr (.t 38) (.c (.int .i64 33)), (some (33, false))⟩, ⟨(some 40), .pick (.t 33) (.c (.bool true)) (.t 39), none⟩, ⟨(some 41), .mv (.t 40), none⟩,
   ⟨(some 42), .mv (.t 3), (some (41, false))⟩, ⟨(some 43), .bin .gtr (.t 42) (.c (.int .i64 0)), (some (41, false))⟩, ⟨(some 44), .mv (.t 43), (some (41, false))⟩,
   ⟨(some 45), .faddr 0 (.t 1), (some (44, true))⟩, ⟨(some 46), .load 1 false true (.t 45), (some (44, true))⟩, ⟨(some 47), .mv (.t 3), (some (44, true))⟩, ⟨(some 48),
   .iaddr 1 (.t 46) (.t 47), (some (44, true))⟩, ⟨(some 49), .load 1 false true (.t 48), (some (44, true))⟩, ⟨(some 50), .faddr 0 (.t 1), (some (44, true))⟩, ⟨(some 51),
   .load 1 false true (.t 50), (some (44, true))⟩, ⟨(some 52), .mv (.t 3), (some (44, true))⟩, ⟨(some 53), .bin .sub (.t 52) (.c (.int .i64 1)), (some (44, true))⟩,
   ⟨(some 54), .iaddr 1 (.t 51) (.t 53), (some (44, true))⟩, ⟨(some 55), .load 1 false true (.t 54), (some (44, true))⟩, ⟨(some 56), .bin .leq (.t 49) (.t 55), (some (44,
   true))⟩, ⟨(some 57), .pick (.t 44) (.t 56) (.c (.bool false)), (some (41, false))⟩, ⟨(some 58), .pick (.t 41) (.c (.bool true)) (.t 57), none⟩]) (.seq (.keep [1, 3,
   58]) (.cond (.t 58) (.seq (.region 0 [⟨(some 2), .mv (.c (.bool false)), none⟩]) (.ret)) (.skip)))) (.seq (.keep [1, 3]) (.seq (.region 0 [⟨(some 4), .mv (.c
    (.bool false)), none⟩]) (.seq (.seq (.region 0 [⟨(some 5), .mv (.c (.int .i64 0)), none⟩]) (.block 2 (.loop [1, 3, 4, 5] (.seq (.seq (.region 0 [⟨(some 59), .mv
    (.t 5), none⟩, ⟨(some 60), .faddr 1 (.t 1), none⟩, ⟨(some 61), .load 1 false false (.t 60), none⟩, ⟨(some 62), .len false (.t 61), none⟩, ⟨(some 63), .bin .lss
    (.t 59) (.t 62), none⟩]) (.seq (.keep [1, 3, 4, 5, 63]) (.cond (.t 63) (.skip) (.exit 2)))) (.seq (.keep [1, 3, 4, 5]) (.seq (.block 3 (.region 0 [⟨(some 66), .mv
    (.t 4), none⟩, ⟨(some 67), .mv (.t 66), none⟩, ⟨(some 68), .faddr 1 (.t 1), (some (67, false))⟩, ⟨(some 69), .load 1 false true (.t 68), (some (67, false))⟩,
   ⟨(some 70), .mv (.t 5), (some (67, false))⟩, ⟨(some 71), .iaddr 1 (.t 69) (.t 70), (some (67, false))⟩, ⟨(some 72), .load 1 false true (.t 71), (some (67, false))⟩,
   ⟨(some 73), .faddr 1 (.t 1), (some (67, false))⟩, ⟨(some 74), .load 1 false true (.t 73), (some (67, false))⟩, ⟨(some 75), .mv (.t 5), (some (67, false))⟩, ⟨(some 76),
   .mv (.t 3), (some (67, false))⟩, ⟨(some 77), .pcall 114 [.t 75, .t 76], (some (67, false))⟩, ⟨(some 78), .iaddr 1 (.t 74) (.t 77), (some (67, false))⟩, ⟨(some 79),
   .load 1 false true (.t 78), (some (67, false))⟩, ⟨(some 80), .bin .neq (.t 72) (.t 79), (some (67, false))⟩, ⟨(some 81), .pick (.t 67) (.c (.bool true)) (.t 80), none⟩,
   ⟨(some 4), .mv (.t 81), none⟩])) (.seq (.keep [1, 3, 4, 5]) (.region 0 [⟨(some 64), .mv (.t 5), none⟩, ⟨(some 65), .bin .add (.t 64) (.c (.int .i64 1)), none⟩,
   ⟨(some 5), .mv (.t 65), none⟩])))))))) (.seq (.keep [1, 3, 4]) (.seq (.region 0 [⟨(some 82), .mv (.t 4), none⟩, ⟨(some 83), .un .not (.t 82), none⟩]) (.cond (.t 83)
    (.seq (.region 0 [⟨(some 2), .mv (.c (.bool false)), none⟩]) (.ret)) (.skip))))))))) (.seq (.keep [1, 3]) (.region 0 [⟨(some 25), .mv (.t 3), none⟩, ⟨(some 26),
   .bin .add (.t 25) (.c (.int .i64 1)), none⟩, ⟨(some 3), .mv (.t 26), none⟩])))))))) (.seq (.keep []) (.seq (.region 0 [⟨(some 2), .mv (.c (.bool true)), none⟩])
    (.ret)))))),
  [.tmp 2]⟩

/-- hurdle/hurdleref15.Both -/
def c_hurdleref15_Both : SFn := ⟨54,
  .seq (.region 2 [⟨(some 2), .box 0 (.t 0), none⟩, ⟨(some 3), .box 1 (.t 1), none⟩, ⟨(some 4), .mv (.c (.vs [] .full)), none⟩]) (.seq (.region 0 [⟨(some 5), .mv (.c
    (.vs [] .full)), none⟩]) (.seq (.seq (.region 0 [⟨(some 6), .mv (.c (.int .i64 0)), none⟩]) (.seq (.give 5 none) (.block 0 (.loop [2, 3, 5, 6] (.seq (.seq
    (.region 0 [⟨(some 10), .mv (.t 6), none⟩, ⟨(some 11), .bin .lss (.t 10) (.c (.int .i64 34)), none⟩]) (.cond (.t 11) (.skip) (.exit 0))) (.seq (.block 1 (.seq
    (.region 0 [⟨(some 7), .mv (.c (.bool false)), none⟩]) (.seq (.seq (.region 0 [⟨(some 8), .mv (.c (.int .i64 0)), none⟩]) (.block 2 (.loop [2, 3, 5, 6, 7, 8] (.seq
    (.seq (.region 0 [⟨(some 14), .mv (.t 8), none⟩, ⟨(some 15), .faddr 0 (.t 2), none⟩, ⟨(some 16), .load 1 false false (.t 15), none⟩, ⟨(some 17), .len false (.t 16),
   none⟩, ⟨(some 18), .bin .lss (.t 14) (.t 17), none⟩]) (.seq (.keep [2, 3, 5, 6, 7, 8, 18]) (.cond (.t 18) (.skip) (.exit 2)))) (.seq (.keep [2, 3, 5, 6, 7, 8]) (.seq
    (.block 3 (.region 0 [⟨(some 21), .mv (.t 7), none⟩, ⟨(some 22), .mv (.t 21), none⟩, ⟨(some 23), .faddr 0 (.t 2), (some (22, false))⟩, ⟨(some 24), .load 1 false false
    (.t 23), (some (22, false))⟩, ⟨(some 25), .mv (.t 8), (some (22, false))⟩, ⟨(some 26), .iaddr 1 (.t 24) (.t 25), (some (22, false))⟩, ⟨(some 27), .load 1 false false
    (.t 26), (some (22, false))⟩, ⟨(some 28), .mv (.t 6), (some (22, false))⟩, ⟨(some 29), .bin .eql (.t 27) (.t 28), (some (22, false))⟩, ⟨(some 30), .pick (.t 22) (.c
    (.bool true)) (.t 29), none⟩, ⟨(some 7), .mv (.t 30), none⟩])) (.seq (.keep [2, 3, 5, 6, 7, 8]) (.region 0 [⟨(some 19), .mv (.t 8), none⟩, ⟨(some 20), .bin .add
    (.t 19) (.c (.int .i64 1)), none⟩, ⟨(some 8), .mv (.t 20), none⟩])))))))) (.seq (.keep [2, 3, 5, 6, 7]) (.seq (.seq (.region 0 [⟨(some 9), .mv (.c (.int .i64 0)),
   none⟩]) (.block 4 (.loop [2, 3, 5, 6, 7, 9] (.seq (.seq (.region 0 [⟨(some 31), .mv (.t 9), none⟩, ⟨(some 32), .faddr 0 (.t 3), none⟩, ⟨(some 33), .load 1 false false
    (.t 32), none⟩, ⟨(some 34), .len false (.t 33), none⟩, ⟨(some 35), .bin .lss (.t 31) (.t 34), none⟩]) (.seq (.keep [2, 3, 5, 6, 7, 9, 35]) (.cond (.t 35) (.skip)
    (.exit 4)))) (.seq (.keep [2, 3, 5, 6, 7, 9]) (.seq (.block 5 (.region 0 [⟨(some 38), .mv (.t 7), none⟩, ⟨(some 39), .mv (.t 38), none⟩, ⟨(some 40), .faddr 0 (.t 3),
   (some (39, false))⟩, ⟨(some 41), .load 1 false false (.t 40), (some (39, false))⟩, ⟨(some 42), .mv (.t 9), (some (39, false))⟩, ⟨(some 43), .iaddr 1 (.t 41) (.t 42),
   (some (39, false))⟩, ⟨(some 44), .load 1 false false (.t 43), (some (39, false))⟩, ⟨(some 45), .mv (.t 6), (some (39, false))⟩, ⟨(some 46), .bin .eql (.t 44) (.t 45),
   (some (39, false))⟩, ⟨(some 47), .pick (.t 39) (.c (.bool true)) (.t 46), none⟩, ⟨(some 7), .mv (.t 47), none⟩])) (.seq (.keep [2, 3, 5, 6, 7, 9])
    (.region 0 [⟨(some 36), .mv (.t 9), none⟩, ⟨(some 37), .bin .add (.t 36) (.c (.int .i64 1)), none⟩, ⟨(some 9), .mv (.t 37), none⟩])))))))) (.seq (.keep [2, 3, 5, 6,
   7]) (.seq (.region 0 [⟨(some 48), .mv (.t 7), none⟩]) (.cond (.t 48) (.region 1 [⟨(some 49), .mv (.t 5), none⟩, ⟨(some 50), .mv (.t 6), none⟩, ⟨(some 51), .bslice 1
    ([.int .i64 0]) [(0, .t 50)], none⟩, ⟨(some 52), .app 0 1 8 (.t 49) (.t 51), none⟩, ⟨(some 5), .mv (.t 52), none⟩]) (.skip))))))))) (.seq (.keep [2, 3, 5, 6])
    (.region 0 [⟨(some 12), .mv (.t 6), none⟩, ⟨(some 13), .bin .add (.t 12) (.c (.int .i64 1)), none⟩, ⟨(some 6), .mv (.t 13), none⟩])))))))) (.seq (.keep [5]) (.seq
    (.region 0 [⟨(some 53), .mv (.t 5), none⟩, ⟨(some 4), .mv (.t 53), none⟩]) (.ret))))),
  [.tmp 4]⟩

/-- hurdle/hurdleref15.Assign -/
def c_hurdleref15_Assign : SFn := ⟨27,
  .seq (.region 0 [⟨(some 4), .mv (.c (.vs [] .full)), none⟩]) (.seq (.region 1 [⟨(some 7), .mksl 0 4 ([.int .u32 0]) (.c (.int .i64 34)), none⟩, ⟨(some 5), .mv (.t 7),
   none⟩]) (.seq (.seq (.region 0 [⟨(some 6), .mv (.c (.int .i64 0)), none⟩]) (.block 0 (.loop [0, 1, 5, 6] (.seq (.seq (.region 0 [⟨(some 8), .mv (.t 6), none⟩,
   ⟨(some 9), .mv (.t 0), none⟩, ⟨(some 10), .len false (.t 9), none⟩, ⟨(some 11), .bin .lss (.t 8) (.t 10), none⟩]) (.seq (.keep [0, 1, 5, 6, 11]) (.cond (.t 11) (.skip)
    (.exit 0)))) (.seq (.keep [0, 1, 5, 6]) (.seq (.block 1 (.seq (.region 0 [⟨(some 14), .mv (.t 1), none⟩, ⟨(some 15), .mv (.t 6), none⟩, ⟨(some 16), .pcall 113 [.t 15],
   none⟩, ⟨(some 17), .bin .quo (.t 14) (.t 16), none⟩, ⟨(some 18), .bin .rem (.t 17) (.c (.int .i64 2)), none⟩, ⟨(some 19), .bin .eql (.t 18) (.c (.int .i64 1)), none⟩])
    (.seq (.keep [0, 1, 5, 6, 19]) (.cond (.t 19) (.region 0 [⟨(some 20), .mv (.t 5), none⟩, ⟨(some 21), .mv (.t 0), none⟩, ⟨(some 22), .mv (.t 6), none⟩, ⟨(some 23),
   .iaddr 1 (.t 21) (.t 22), none⟩, ⟨(some 24), .load 1 false false (.t 23), none⟩, ⟨(some 25), .iaddr 1 (.t 20) (.t 24), none⟩, ⟨none, .store 1 (.t 25) (.c
    (.int .u32 4294967295)), none⟩]) (.skip))))) (.seq (.keep [0, 1, 5, 6]) (.region 0 [⟨(some 12), .mv (.t 6), none⟩, ⟨(some 13), .bin .add (.t 12) (.c (.int .i64 1)),
   none⟩, ⟨(some 6), .mv (.t 13), none⟩])))))))) (.seq (.keep [5]) (.seq (.region 0 [⟨(some 26), .mv (.t 5), none⟩, ⟨(some 4), .mv (.t 26), none⟩]) (.ret))))),
  [.tmp 4]⟩

/-- hurdle/hurdleref15.bit -/
def c_hurdleref15_bit : SFn := ⟨13,
  .seq (.region 0 [⟨(some 4), .mv (.c (.int .i64 0)), none⟩]) (.seq (.region 0 [⟨(some 5), .mv (.t 0), none⟩, ⟨(some 6), .conv .u64 (.t 5), none⟩, ⟨(some 7), .mv (.t 1),
   none⟩, ⟨(some 8), .pcall 113 [.t 7], none⟩, ⟨(some 9), .conv .u64 (.t 8), none⟩, ⟨(some 10), .bin .quo (.t 6) (.t 9), none⟩, ⟨(some 11), .bin .rem (.t 10) (.c
    (.int .u64 2)), none⟩, ⟨(some 12), .conv .i64 (.t 11), none⟩, ⟨(some 4), .mv (.t 12), none⟩]) (.ret)),
  [.tmp 4]⟩

/-- hurdle/hurdleref15.Eval -/
def c_hurdleref15_Eval : SFn := ⟨50,
  .seq (.region 1 [⟨(some 2), .box 0 (.t 0), none⟩, ⟨(some 4), .mv (.c (.int .u32 0)), none⟩]) (.seq (.region 0 [⟨(some 5), .mv (.c (.int .u64 0)), none⟩]) (.seq (.seq
    (.region 0 [⟨(some 6), .mv (.c (.int .i64 0)), none⟩]) (.block 0 (.loop [1, 2, 5, 6] (.seq (.seq (.region 0 [⟨(some 9), .mv (.t 6), none⟩, ⟨(some 10), .bin .lss
    (.t 9) (.c (.int .i64 32)), none⟩]) (.cond (.t 10) (.skip) (.exit 0))) (.seq (.block 1 (.seq (.region 0 [⟨(some 7), .mv (.c (.int .i64 0)), none⟩]) (.seq (.seq
    (.region 0 [⟨(some 8), .mv (.c (.int .i64 0)), none⟩]) (.block 2 (.loop [1, 2, 5, 6, 7, 8] (.seq (.seq (.region 0 [⟨(some 13), .mv (.t 8), none⟩, ⟨(some 14), .faddr 0
    (.t 2), none⟩, ⟨(some 15), .load 1 false false (.t 14), none⟩, ⟨(some 16), .len false (.t 15), none⟩, ⟨(some 17), .bin .lss (.t 13) (.t 16), none⟩]) (.seq (.keep [1,
   2, 5, 6, 7, 8, 17]) (.cond (.t 17) (.skip) (.exit 2)))) (.seq (.keep [1, 2, 5, 6, 7, 8]) (.seq (.block 3 (.region 0 [⟨(some 20), .mv (.t 7), none⟩, ⟨(some 21), .mv
    (.t 8), none⟩, ⟨(some 22), .pcall 113 [.t 21], none⟩, ⟨(some 23), .mv (.t 1), none⟩, ⟨(some 24), .faddr 0 (.t 2), none⟩, ⟨(some 25), .load 1 false true (.t 24), none⟩,
   ⟨(some 26), .mv (.t 8), none⟩, ⟨(some 27), .iaddr 1 (.t 25) (.t 26), none⟩, ⟨(some 28), .load 1 false true (.t 27), none⟩, ⟨(some 29), .iaddr 1 (.t 23) (.t 28), none⟩,
   ⟨(some 30), .load 1 false true (.t 29), none⟩, ⟨(some 31), .mv (.t 6), none⟩, ⟨(some 32), .pcall 118 [.t 30, .t 31], none⟩, ⟨(some 33), .bin .mul (.t 22) (.t 32),
   none⟩, ⟨(some 34), .bin .add (.t 20) (.t 33), none⟩, ⟨(some 7), .mv (.t 34), none⟩])) (.seq (.keep [1, 2, 5, 6, 7, 8]) (.region 0 [⟨(some 18), .mv (.t 8), none⟩,
   ⟨(some 19), .bin .add (.t 18) (.c (.int .i64 1)), none⟩, ⟨(some 8), .mv (.t 19), none⟩])))))))) (.seq (.keep [1, 2, 5, 6, 7]) (.region 0 [⟨(some 35), .mv (.t 5), none⟩,
   ⟨(some 36), .mv (.t 6), none⟩, ⟨(some 37), .pcall 113 [.t 36], none⟩, ⟨(some 38), .faddr 1 (.t 2), none⟩, ⟨(some 39), .load 1 false true (.t 38), none⟩, ⟨(some 40), .mv
    (.t 7), none⟩, ⟨(some 41), .iaddr 1 (.t 39) (.t 40), none⟩, ⟨(some 42), .load 1 false true (.t 41), none⟩, ⟨(some 43), .mv (.t 6), none⟩, ⟨(some 44),
   .pcall 118 [.t 42, .t 43], none⟩, ⟨(some 45), .bin .mul (.t 37) (.t 44), none⟩, ⟨(some 46), .conv .u64 (.t 45), none⟩, ⟨(some 47), .bin .add (.t 35) (.t 46), none⟩,
   ⟨(some 5), .mv (.t 47), none⟩]))))) (.seq (.keep [1, 2, 5, 6]) (.region 0 [⟨(some 11), .mv (.t 6), none⟩, ⟨(some 12), .bin .add (.t 11) (.c (.int .i64 1)), none⟩,
   ⟨(some 6), .mv (.t 12), none⟩]))))))) (.seq (.keep [5]) (.seq (.region 0 [⟨(some 48), .mv (.t 5), none⟩, ⟨(some 49), .conv .u32 (.t 48), none⟩, ⟨(some 4), .mv (.t 49),
   none⟩]) (.ret))))),
  [.tmp 4]⟩

/-- hurdle/hurdleref15.without -/
def c_hurdleref15_without : SFn := ⟨52,
  .seq (.region 2 [⟨(some 2), .box 0 (.t 0), none⟩, ⟨(some 4), .alloc 1 ([.vs [] .full, .vs [] .full]), none⟩]) (.seq (.region 1 [⟨(some 5), .alloc 0 ([.vs [] .full,
   .vs [] .full]), none⟩]) (.seq (.seq (.region 0 [⟨(some 6), .mv (.c (.int .i64 0)), none⟩]) (.seq (.give 5 (some 0)) (.block 0 (.loop [1, 2, 4, 5, 6] (.seq (.seq
    (.region 0 [⟨(some 8), .mv (.t 6), none⟩, ⟨(some 9), .faddr 0 (.t 2), none⟩, ⟨(some 10), .load 1 false false (.t 9), none⟩, ⟨(some 11), .len false (.t 10), none⟩,
   ⟨(some 12), .bin .lss (.t 8) (.t 11), none⟩]) (.seq (.keep [1, 2, 4, 5, 6, 12]) (.cond (.t 12) (.skip) (.exit 0)))) (.seq (.keep [1, 2, 4, 5, 6]) (.seq (.block 1 (.seq
    (.region 0 [⟨(some 15), .mv (.t 6), none⟩, ⟨(some 16), .mv (.t 1), none⟩, ⟨(some 17), .bin .neq (.t 15) (.t 16), none⟩]) (.cond (.t 17) (.region 1 [⟨(some 18),
   .faddr 0 (.t 5), none⟩, ⟨(some 19), .load 1 false true (.t 18), none⟩, ⟨(some 20), .faddr 0 (.t 2), none⟩, ⟨(some 21), .load 1 false true (.t 20), none⟩, ⟨(some 22),
   .mv (.t 6), none⟩, ⟨(some 23), .iaddr 1 (.t 21) (.t 22), none⟩, ⟨(some 24), .load 1 false true (.t 23), none⟩, ⟨(some 25), .bslice 1 ([.int .i64 0]) [(0, .t 24)],
   none⟩, ⟨(some 26), .app 0 1 8 (.t 19) (.t 25), none⟩, ⟨(some 27), .faddr 0 (.t 5), none⟩, ⟨none, .store 1 (.t 27) (.t 26), none⟩]) (.skip)))) (.seq (.keep [1, 2, 4, 5,
   6]) (.region 0 [⟨(some 13), .mv (.t 6), none⟩, ⟨(some 14), .bin .add (.t 13) (.c (.int .i64 1)), none⟩, ⟨(some 6), .mv (.t 14), none⟩]))))))))) (.seq (.keep [1, 2, 4,
   5]) (.seq (.seq (.region 0 [⟨(some 7), .mv (.c (.int .i64 0)), none⟩]) (.seq (.give 5 (some 1)) (.block 2 (.loop [1, 2, 4, 5, 7] (.seq (.seq (.region 0 [⟨(some 28), .mv
    (.t 7), none⟩, ⟨(some 29), .faddr 1 (.t 2), none⟩, ⟨(some 30), .load 1 false false (.t 29), none⟩, ⟨(some 31), .len false (.t 30), none⟩, ⟨(some 32), .bin .lss
    (.t 28) (.t 31), none⟩]) (.seq (.keep [1, 2, 4, 5, 7, 32]) (.cond (.t 32) (.skip) (.exit 2)))) (.seq (.keep [1, 2, 4, 5, 7]) (.seq (.block 3 (.seq
    (.region 0 [⟨(some 35), .mv (.t 7), none⟩, ⟨(some 36), .mv (.t 1), none⟩, ⟨(some 37), .pcall 113 [.t 36], none⟩, ⟨(some 38), .bin .quo (.t 35) (.t 37), none⟩,
   ⟨(some 39), .bin .rem (.t 38) (.c (.int .i64 2)), none⟩, ⟨(some 40), .bin .eql (.t 39) (.c (.int .i64 0)), none⟩]) (.seq (.keep [1, 2, 4, 5, 7, 40]) (.cond (.t 40)
    (.region 1 [⟨(some 41), .faddr 1 (.t 5), none⟩, ⟨(some 42), .load 1 false true (.t 41), none⟩, ⟨(some 43), .faddr 1 (.t 2), none⟩, ⟨(some 44), .load 1 false true
    (.t 43), none⟩, ⟨(some 45), .mv (.t 7), none⟩, ⟨(some 46), .iaddr 1 (.t 44) (.t 45), none⟩, ⟨(some 47), .load 1 false true (.t 46), none⟩, ⟨(some 48), .bslice 1
    ([.int .u32 0]) [(0, .t 47)], none⟩, ⟨(some 49), .app 0 1 4 (.t 42) (.t 48), none⟩, ⟨(some 50), .faddr 1 (.t 5), none⟩, ⟨none, .store 1 (.t 50) (.t 49), none⟩])
    (.skip))))) (.seq (.keep [1, 2, 4, 5, 7]) (.region 0 [⟨(some 33), .mv (.t 7), none⟩, ⟨(some 34), .bin .add (.t 33) (.c (.int .i64 1)), none⟩, ⟨(some 7), .mv (.t 34),
   none⟩]))))))))) (.seq (.keep [4, 5]) (.seq (.region 0 [⟨(some 51), .load 2 true false (.t 5), none⟩, ⟨none, .store 2 (.t 4) (.t 51), none⟩]) (.ret))))))),
  [.cell 4 2 true]⟩

/-- hurdle/hurdleref15.Do -/
def c_hurdleref15_Do : SFn := ⟨110,
  .seq (.region 3 [⟨(some 4), .box 0 (.t 1), none⟩, ⟨(some 5), .box 1 (.t 2), none⟩, ⟨(some 6), .alloc 2 ([.vs [] .full, .vs [] .full]), none⟩, ⟨(some 7), .mv (.c
    (.bool false)), none⟩]) (.seq (.seq (.region 0 [⟨(some 17), .mv (.t 0), none⟩, ⟨(some 18), .bin .neq (.t 17) (.c (.int .i64 68)), none⟩, ⟨(some 19), .mv (.t 18),
   none⟩, ⟨(some 20), .mv (.t 0), (some (19, true))⟩, ⟨(some 21), .bin .neq (.t 20) (.c (.int .i64 84)), (some (19, true))⟩, ⟨(some 22), .pick (.t 19) (.t 21) (.c
    (.bool false)), none⟩, ⟨(some 23), .mv (.t 22), none⟩, ⟨(some 24), .mv (.t 0), (some (23, true))⟩, ⟨(some 25), .bin .neq (.t 24) (.c (.int .i64 164)), (some (23,
   true))⟩, ⟨(some 26), .pick (.t 23) (.t 25) (.c (.bool false)), none⟩, ⟨(some 27), .mv (.t 26), none⟩, ⟨(some 28), .load 2 true false (.t 4), (some (27, false))⟩,
   ⟨(some 29), .pcall 115 [.t 28], (some (27, false))⟩, ⟨(some 30), .un .not (.t 29), (some (27, false))⟩, ⟨(some 31), .pick (.t 27) (.c (.bool true)) (.t 30), none⟩,
   ⟨(some 32), .mv (.t 31), none⟩, ⟨(some 33), .load 2 true false (.t 5), (some (32, false))⟩, ⟨(some 34), .pcall 115 [.t 33], (some (32, false))⟩, ⟨(some 35), .un .not
    (.t 34), (some (32, false))⟩, ⟨(some 36), .pick (.t 32) (.c (.bool true)) (.t 35), none⟩]) (.seq (.keep [0, 4, 5, 6, 36]) (.cond (.t 36) (.seq (.region 0 [⟨(some 37),
   .build ([.vs [] .full, .vs [] .full]) [], none⟩, ⟨none, .store 2 (.t 6) (.t 37), none⟩, ⟨(some 7), .mv (.c (.bool false)), none⟩]) (.ret)) (.skip)))) (.seq (.keep [0,
   4, 5, 6]) (.seq (.region 0 [⟨(some 38), .load 2 true false (.t 4), none⟩, ⟨(some 39), .load 2 true false (.t 5), none⟩, ⟨(some 40), .pcall 116 [.t 38, .t 39], none⟩,
   ⟨(some 8), .mv (.t 40), none⟩]) (.seq (.keep [0, 4, 5, 6, 8]) (.seq (.seq (.region 0 [⟨(some 41), .mv (.t 8), none⟩, ⟨(some 42), .len false (.t 41), none⟩, ⟨(some 43),
   .bin .gtr (.t 42) (.c (.int .i64 4)), none⟩]) (.cond (.t 43) (.seq (.region 0 [⟨(some 44), .build ([.vs [] .full, .vs [] .full]) [], none⟩, ⟨none, .store 2 (.t 6)
    (.t 44), none⟩, ⟨(some 7), .mv (.c (.bool false)), none⟩]) (.ret)) (.skip))) (.seq (.keep [0, 4, 5, 6, 8]) (.seq (.region 1 [⟨(some 45), .mv (.t 8), none⟩, ⟨(some 46),
   .build ([.vs [] .full, .vs [] .full]) [(0, 1, .t 45)], none⟩, ⟨(some 9), .alloc 0 ([.vs [] .full, .vs [] .full]), none⟩, ⟨none, .store 2 (.t 9) (.t 46), none⟩]) (.seq
    (.seq (.region 0 [⟨(some 10), .mv (.c (.int .i64 0)), none⟩]) (.seq (.give 9 (some 1)) (.block 0 (.loop [0, 4, 5, 6, 8, 9, 10] (.seq (.seq (.region 0 [⟨(some 47), .mv
    (.t 10), none⟩, ⟨(some 48), .mv (.t 8), none⟩, ⟨(some 49), .len false (.t 48), none⟩, ⟨(some 50), .pcall 113 [.t 49], none⟩, ⟨(some 51), .bin .lss (.t 47) (.t 50),
   none⟩]) (.seq (.keep [0, 4, 5, 6, 8, 9, 10, 51]) (.cond (.t 51) (.skip) (.exit 0)))) (.seq (.keep [0, 4, 5, 6, 8, 9, 10]) (.seq (.block 1 (.seq (.region 0 [⟨(some 54),
   .mv (.t 8), none⟩, ⟨(some 55), .mv (.t 10), none⟩, ⟨(some 56), .pcall 117 [.t 54, .t 55], none⟩, ⟨(some 11), .mv (.t 56), none⟩]) (.seq (.keep [0, 4, 5, 6, 8, 9, 10,
   11]) (.seq (.region 0 [⟨(some 58), .mv (.t 0), none⟩, ⟨(some 59), .load 2 true true (.t 4), none⟩, ⟨(some 60), .mv (.t 11), none⟩, ⟨(some 61), .pcall 119 [.t 59,
   .t 60], none⟩, ⟨(some 62), .load 2 true true (.t 5), none⟩, ⟨(some 63), .mv (.t 11), none⟩, ⟨(some 64), .pcall 119 [.t 62, .t 63], none⟩, ⟨(some 65), .pcall 122 [.t 58,
   .t 61, .t 64], none⟩, ⟨(some 57), .mv (.t 65), none⟩, ⟨(some 66), .ext 0 (.t 57), none⟩, ⟨(some 67), .ext 1 (.t 57), none⟩, ⟨(some 12), .mv (.t 66), none⟩, ⟨(some 13),
   .mv (.t 67), none⟩]) (.seq (.keep [0, 4, 5, 6, 8, 9, 10, 12]) (.region 1 [⟨(some 68), .faddr 1 (.t 9), none⟩, ⟨(some 69), .load 1 false false (.t 68), none⟩,
   ⟨(some 70), .mv (.t 12), none⟩, ⟨(some 71), .bslice 1 ([.int .u32 0]) [(0, .t 70)], none⟩, ⟨(some 72), .app 0 1 4 (.t 69) (.t 71), none⟩, ⟨(some 73), .faddr 1 (.t 9),
   none⟩, ⟨none, .store 1 (.t 73) (.t 72), none⟩])))))) (.seq (.keep [0, 4, 5, 6, 8, 9, 10]) (.region 0 [⟨(some 52), .mv (.t 10), none⟩, ⟨(some 53), .bin .add (.t 52) (.c
    (.int .i64 1)), none⟩, ⟨(some 10), .mv (.t 53), none⟩]))))))))) (.seq (.keep [6, 8, 9]) (.seq (.seq (.region 0 [⟨(some 74), .mv (.t 8), none⟩, ⟨(some 75), .len false
    (.t 74), none⟩, ⟨(some 76), .bin .sub (.t 75) (.c (.int .i64 1)), none⟩, ⟨(some 14), .mv (.t 76), none⟩]) (.seq (.keep [6, 9, 14]) (.block 2 (.loop [6, 9, 14] (.seq
    (.seq (.region 0 [⟨(some 77), .mv (.t 14), none⟩, ⟨(some 78), .bin .geq (.t 77) (.c (.int .i64 0)), none⟩]) (.cond (.t 78) (.skip) (.exit 2))) (.seq (.block 3 (.seq
    (.region 0 [⟨(some 15), .mv (.c (.bool false)), none⟩]) (.seq (.seq (.region 0 [⟨(some 16), .mv (.c (.int .i64 0)), none⟩]) (.block 4 (.loop [6, 9, 14, 15, 16] (.seq
    (.seq (.region 0 [⟨(some 81), .mv (.t 16), none⟩, ⟨(some 82), .faddr 1 (.t 9), none⟩, ⟨(some 83), .load 1 false false (.t 82), none⟩, ⟨(some 84), .len false (.t 83),
   none⟩, ⟨(some 85), .bin .lss (.t 81) (.t 84), none⟩]) (.seq (.keep [6, 9, 14, 15, 16, 85]) (.cond (.t 85) (.skip) (.exit 4)))) (.seq (.keep [6, 9, 14, 15, 16]) (.seq
    (.block 5 (.region 0 [⟨(some 88), .mv (.t 15), none⟩, ⟨(some 89), .mv (.t 88), none⟩, ⟨(some 90), .faddr 1 (.t 9), (some (89, false))⟩, ⟨(some 91), .load 1 false true
    (.t 90), (some (89, false))⟩, ⟨(some 92), .mv (.t 16), (some (89, false))⟩, ⟨(some 93), .iaddr 1 (.t 91) (.t 92), (some (89, false))⟩, ⟨(some 94), .load 1 false true
    (.t 93), (some (89, false))⟩, ⟨(some 95), .faddr 1 (.t 9), (some (89, false))⟩, ⟨(some 96), .load 1 false true (.t 95), (some (89, false))⟩, ⟨(some 97), .mv (.t 16),
   (some (89, false))⟩, ⟨(some 98), .mv (.t 14), (some (89, false))⟩, ⟨(some 99), .pcall 114 [.t 97, .t 98], (some (89, false))⟩, ⟨(some 100), .iaddr 1 (.t 96) (.t 99),
   (some (89, false))⟩, ⟨(some 101), .load 1 false true (.t 100), (some (89, false))⟩, ⟨(some 102), .bin .neq (.t 94) (.t 101), (some (89, false))⟩, ⟨(some 103), .pick
    (.t 89) (.c (.bool true)) (.t 102), none⟩, ⟨(some 15), .mv (.t 103), none⟩])) (.seq (.keep [6, 9, 14, 15, 16]) (.region 0 [⟨(some 86), .mv (.t 16), none⟩, ⟨(some 87),
   .bin .add (.t 86) (.c (.int .i64 1)), none⟩, ⟨(some 16), .mv (.t 87), none⟩])))))))) (.seq (.keep [6, 9, 14, 15]) (.seq (.region 0 [⟨(some 104), .mv (.t 15), none⟩,
   ⟨(some 105), .un .not (.t 104), none⟩]) (.cond (.t 105) (.region 0 [⟨(some 106), .load 2 true false (.t 9), none⟩, ⟨(some 107), .mv (.t 14), none⟩, ⟨(some 108),
   .pcall 120 [.t 106, .t 107], none⟩, ⟨none, .store 2 (.t 9) (.t 108), none⟩]) (.skip))))))) (.seq (.keep [6, 9, 14]) (.region 0 [⟨(some 79), .mv (.t 14), none⟩,
   ⟨(some 80), .bin .sub (.t 79) (.c (.int .i64 1)), none⟩, ⟨(some 14), .mv (.t 80), none⟩])))))))) (.seq (.keep [6, 9]) (.seq (.region 0 [⟨(some 109), .load 2 true false
    (.t 9), none⟩, ⟨none, .store 2 (.t 6) (.t 109), none⟩, ⟨(some 7), .mv (.c (.bool true)), none⟩]) (.ret))))))))))))),
  [.cell 6 2 true, .tmp 7]⟩

/-- hurdle/hurdleref15.Same -/
def c_hurdleref15_Same : SFn := ⟨59,
  .seq (.region 2 [⟨(some 2), .box 0 (.t 0), none⟩, ⟨(some 3), .box 1 (.t 1), none⟩, ⟨(some 4), .mv (.c (.bool false)), none⟩]) (.seq (.seq (.region 0 [⟨(some 7), .faddr 0
    (.t 2), none⟩, ⟨(some 8), .load 1 false false (.t 7), none⟩, ⟨(some 9), .len false (.t 8), none⟩, ⟨(some 10), .faddr 0 (.t 3), none⟩, ⟨(some 11), .load 1 false false
    (.t 10), none⟩, ⟨(some 12), .len false (.t 11), none⟩, ⟨(some 13), .bin .neq (.t 9) (.t 12), none⟩, ⟨(some 14), .mv (.t 13), none⟩, ⟨(some 15), .faddr 1 (.t 2), (some
    (14, false))⟩, ⟨(some 16), .load 1 false false (.t 15), (some (14, false))⟩, ⟨(some 17), .len false (.t 16), (some (14, false))⟩, ⟨(some 18), .faddr 1 (.t 3), (some
    (14, false))⟩, ⟨(some 19), .load 1 false false (.t 18), (some (14, false))⟩, ⟨(some 20), .len false (.t 19), (some (14, false))⟩, ⟨(some 21), .bin .neq (.t 17)
    (.t 20), (some (14, false))⟩, ⟨(some 22), .pick (.t 14) (.c (.bool true)) (.t 21), none⟩]) (.seq (.keep [2, 3, 22]) (.cond (.t 22) (.seq (.region 0 [⟨(some 4), .mv
    (.c (.bool false)), none⟩]) (.ret)) (.skip)))) (.seq (.keep [2, 3]) (.seq (.seq (.region 0 [⟨(some 5), .mv (.c (.int .i64 0)), none⟩]) (.block 0 (.loop [2, 3, 5]
    (.seq (.seq (.region 0 [⟨(some 23), .mv (.t 5), none⟩, ⟨(some 24), .faddr 0 (.t 2), none⟩, ⟨(some 25), .load 1 false false (.t 24), none⟩, ⟨(some 26), .len false
    (.t 25), none⟩, ⟨(some 27), .bin .lss (.t 23) (.t 26), none⟩]) (.seq (.keep [2, 3, 5, 27]) (.cond (.t 27) (.skip) (.exit 0)))) (.seq (.keep [2, 3, 5]) (.seq (.block 1
    (.seq (.region 0 [⟨(some 30), .faddr 0 (.t 2), none⟩, ⟨(some 31), .load 1 false true (.t 30), none⟩, ⟨(some 32), .mv (.t 5), none⟩, ⟨(some 33), .iaddr 1 (.t 31)
    (.t 32), none⟩, ⟨(some 34), .load 1 false true (.t 33), none⟩, ⟨(some 35), .faddr 0 (.t 3), none⟩, ⟨(some 36), .load 1 false true (.t 35), none⟩, ⟨(some 37), .mv
    (.t 5), none⟩, ⟨(some 38), .iaddr 1 (.t 36) (.t 37), none⟩, ⟨(some 39), .load 1 false true (.t 38), none⟩, ⟨(some 40), .bin .neq (.t 34) (.t 39), none⟩]) (.seq
    (.keep [2, 3, 5, 40]) (.cond (.t 40) (.seq (.region 0 [⟨(some 4), .mv (.c (.bool false)), none⟩]) (.ret)) (.skip))))) (.seq (.keep [2, 3, 5]) (.region 0 [⟨(some 28),
   .mv (.t 5), none⟩, ⟨(some 29), .bin .add (.t 28) (.c (.int .i64 1)), none⟩, ⟨(some 5), .mv (.t 29), none⟩])))))))) (.seq (.keep [2, 3]) (.seq (.seq
    (.region 0 [⟨(some 6), .mv (.c (.int .i64 0)), none⟩]) (.block 2 (.loop [2, 3, 6] (.seq (.seq (.region 0 [⟨(some 41), .mv (.t 6), none⟩, ⟨(some 42), .faddr 1 (.t 2),
   none⟩, ⟨(some 43), .load 1 false false (.t 42), none⟩, ⟨(some 44), .len false (.t 43), none⟩, ⟨(some 45), .bin .lss (.t 41) (.t 44), none⟩]) (.seq (.keep [2, 3, 6, 45])
    (.cond (.t 45) (.skip) (.exit 2)))) (.seq (.keep [2, 3, 6]) (.seq (.block 3 (.seq (.region 0 [⟨(some 48), .faddr 1 (.t 2), none⟩, ⟨(some 49), .load 1 false true
    (.t 48), none⟩, ⟨(some 50), .mv (.t 6), none⟩, ⟨(some 51), .iaddr 1 (.t 49) (.t 50), none⟩, ⟨(some 52), .load 1 false true (.t 51), none⟩, ⟨(some 53), .faddr 1
    (.t 3), none⟩, ⟨(some 54), .load 1 false true (.t 53), none⟩, ⟨(some 55), .mv (.t 6), none⟩, ⟨(some 56), .iaddr 1 (.t 54) (.t 55), none⟩, ⟨(some 57),
   .load 1 false true (.t 56), none⟩, ⟨(some 58), .bin .neq (.t 52) (.t 57), none⟩]) (.seq (.keep [2, 3, 6, 58]) (.cond (.t 58) (.seq (.region 0 [⟨(some 4), .mv (.c
    (.bool false)), none⟩]) (.ret)) (.skip))))) (.seq (.keep [2, 3, 6]) (.region 0 [⟨(some 46), .mv (.t 6), none⟩, ⟨(some 47), .bin .add (.t 46) (.c (.int .i64 1)), none⟩,
   ⟨(some 6), .mv (.t 47), none⟩])))))))) (.seq (.keep []) (.seq (.region 0 [⟨(some 4), .mv (.c (.bool true)), none⟩]) (.ret)))))))),
  [.tmp 4]⟩

/-- hurdle/hurdleref15.Apart -/
def c_hurdleref15_Apart : SFn := ⟨43,
  .seq (.region 2 [⟨(some 2), .box 0 (.t 0), none⟩, ⟨(some 3), .box 1 (.t 1), none⟩, ⟨(some 4), .mv (.c (.vs [] .full)), none⟩, ⟨(some 5), .mv (.c (.bool false)), none⟩])
    (.seq (.seq (.region 0 [⟨(some 9), .load 2 true false (.t 2), none⟩, ⟨(some 10), .pcall 115 [.t 9], none⟩, ⟨(some 11), .mv (.t 10), none⟩, ⟨(some 12),
   .load 2 true false (.t 3), (some (11, true))⟩, ⟨(some 13), .pcall 115 [.t 12], (some (11, true))⟩, ⟨(some 14), .pick (.t 11) (.t 13) (.c (.bool false)), none⟩,
   ⟨(some 15), .mv (.t 14), none⟩, ⟨(some 16), .load 2 true false (.t 2), (some (15, true))⟩, ⟨(some 17), .load 2 true false (.t 3), (some (15, true))⟩, ⟨(some 18),
   .pcall 123 [.t 16, .t 17], (some (15, true))⟩, ⟨(some 19), .un .not (.t 18), (some (15, true))⟩, ⟨(some 20), .pick (.t 15) (.t 19) (.c (.bool false)), none⟩]) (.seq
    (.keep [2, 3, 20]) (.cond (.t 20) (.seq (.region 0 [⟨(some 21), .load 2 true false (.t 2), none⟩, ⟨(some 22), .load 2 true false (.t 3), none⟩, ⟨(some 23),
   .pcall 116 [.t 21, .t 22], none⟩, ⟨(some 6), .mv (.t 23), none⟩]) (.seq (.keep [2, 3, 6]) (.seq (.region 0 [⟨(some 7), .mv (.c (.int .i64 0)), none⟩]) (.block 0
    (.loop [2, 3, 6, 7] (.seq (.seq (.region 0 [⟨(some 24), .mv (.t 7), none⟩, ⟨(some 25), .mv (.t 6), none⟩, ⟨(some 26), .len false (.t 25), none⟩, ⟨(some 27),
   .pcall 113 [.t 26], none⟩, ⟨(some 28), .bin .lss (.t 24) (.t 27), none⟩]) (.seq (.keep [2, 3, 6, 7, 28]) (.cond (.t 28) (.skip) (.exit 0)))) (.seq (.keep [2, 3, 6, 7])
    (.seq (.block 1 (.seq (.region 0 [⟨(some 31), .mv (.t 6), none⟩, ⟨(some 32), .mv (.t 7), none⟩, ⟨(some 33), .pcall 117 [.t 31, .t 32], none⟩, ⟨(some 8), .mv (.t 33),
   none⟩]) (.seq (.keep [2, 3, 6, 7, 8]) (.seq (.region 0 [⟨(some 34), .load 2 true true (.t 2), none⟩, ⟨(some 35), .mv (.t 8), none⟩, ⟨(some 36), .pcall 119 [.t 34,
   .t 35], none⟩, ⟨(some 37), .load 2 true true (.t 3), none⟩, ⟨(some 38), .mv (.t 8), none⟩, ⟨(some 39), .pcall 119 [.t 37, .t 38], none⟩, ⟨(some 40), .bin .neq (.t 36)
    (.t 39), none⟩]) (.seq (.keep [2, 3, 6, 7, 8, 40]) (.cond (.t 40) (.seq (.region 0 [⟨(some 41), .mv (.t 8), none⟩, ⟨(some 4), .mv (.t 41), none⟩, ⟨(some 5), .mv (.c
    (.bool true)), none⟩]) (.ret)) (.skip))))))) (.seq (.keep [2, 3, 6, 7]) (.region 0 [⟨(some 29), .mv (.t 7), none⟩, ⟨(some 30), .bin .add (.t 29) (.c (.int .i64 1)),
   none⟩, ⟨(some 7), .mv (.t 30), none⟩])))))))))) (.skip)))) (.seq (.keep []) (.seq (.region 1 [⟨(some 42), .mksl 0 4 ([.int .u32 0]) (.c (.int .i64 34)), none⟩,
   ⟨(some 4), .mv (.t 42), none⟩, ⟨(some 5), .mv (.c (.bool false)), none⟩]) (.ret)))),
  [.tmp 4, .tmp 5]⟩

/-- A table that holds these. -/
class HasRef15 (G : Tbl) : Prop extends HasR1 G where
  h_hurdleref15_size : G 113 = some c_hurdleref15_size
  h_hurdleref15_turned : G 114 = some c_hurdleref15_turned
  h_hurdleref15_Right : G 115 = some c_hurdleref15_Right
  h_hurdleref15_Both : G 116 = some c_hurdleref15_Both
  h_hurdleref15_Assign : G 117 = some c_hurdleref15_Assign
  h_hurdleref15_bit : G 118 = some c_hurdleref15_bit
  h_hurdleref15_Eval : G 119 = some c_hurdleref15_Eval
  h_hurdleref15_without : G 120 = some c_hurdleref15_without
  h_hurdleref15_Do : G 121 = some c_hurdleref15_Do
  h_hurdleref15_Same : G 123 = some c_hurdleref15_Same
  h_hurdleref15_Apart : G 124 = some c_hurdleref15_Apart

end Go.Ev
