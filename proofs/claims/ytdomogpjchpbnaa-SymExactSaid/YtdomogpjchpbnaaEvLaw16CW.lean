/- Simplified code of Go functions, by scode.py. -/
import Derived.Test.YtdomogpjchpbnaaEvBitsCW
namespace Go.Ev
/-- hurdle/hurdleref16.there -/
def c_hurdleref16_there : SFn := ⟨21,
  .seq (.region 0 [⟨(some 4), .mv (.c (.bool false)), none⟩]) (.seq (.region 0 [⟨(some 5), .mv (.t 1), none⟩, ⟨(some 6), .bin .geq (.t 5) (.c (.int .i64 0)), none⟩,
   ⟨(some 7), .mv (.t 6), none⟩, ⟨(some 8), .mv (.t 1), (some (7, true))⟩, ⟨(some 9), .mv (.t 0), (some (7, true))⟩, ⟨(some 10), .len false (.t 9), (some (7, true))⟩,
   ⟨(some 11), .bin .lss (.t 8) (.t 10), (some (7, true))⟩, ⟨(some 12), .pick (.t 7) (.t 11) (.c (.bool false)), none⟩, ⟨(some 13), .mv (.t 12), none⟩, ⟨(some 14), .mv
    (.t 0), (some (13, true))⟩, ⟨(some 15), .mv (.t 1), (some (13, true))⟩, ⟨(some 16), .iaddr 6 (.t 14) (.t 15), (some (13, true))⟩, ⟨(some 17), .faddr 0 (.t 16), (some
    (13, true))⟩, ⟨(some 18), .load 1 false false (.t 17), (some (13, true))⟩, ⟨(some 19), .bin .neq (.t 18) (.c (.int .i64 4)), (some (13, true))⟩, ⟨(some 20), .pick
    (.t 13) (.t 19) (.c (.bool false)), none⟩, ⟨(some 4), .mv (.t 20), none⟩]) (.ret)),
  [.tmp 4]⟩
/-- hurdle/hurdleref16.Next -/
def c_hurdleref16_Next : SFn := ⟨75,
  .seq (.region 2 [⟨(some 3), .box 0 (.t 1), none⟩, ⟨(some 4), .alloc 1 ([.int .i64 0, .int .i64 0, .int .i64 0, .int .i64 0, .int .i64 0, .int .u32 0]), none⟩]) (.seq
    (.region 1 [⟨(some 8), .build ([.int .i64 0, .int .i64 0, .int .i64 0, .int .i64 0, .int .i64 0, .int .u32 0]) [(0, 1, .c (.int .i64 4))], none⟩, ⟨(some 5), .alloc 0
    ([.int .i64 0, .int .i64 0, .int .i64 0, .int .i64 0, .int .i64 0, .int .u32 0]), none⟩, ⟨none, .store 6 (.t 5) (.t 8), none⟩]) (.seq (.seq (.region 0 [⟨(some 9),
   .faddr 0 (.t 3), none⟩, ⟨(some 10), .load 1 false false (.t 9), none⟩, ⟨(some 11), .bin .eql (.t 10) (.c (.int .i64 0)), none⟩]) (.cond (.t 11) (.seq
    (.region 0 [⟨(some 12), .faddr 5 (.t 3), none⟩, ⟨(some 13), .load 1 false false (.t 12), none⟩, ⟨(some 14), .build ([.int .i64 0, .int .i64 0, .int .i64 0,
   .int .i64 0, .int .i64 0, .int .u32 0]) [(5, 1, .t 13)], none⟩, ⟨none, .store 6 (.t 4) (.t 14), none⟩]) (.ret)) (.skip))) (.seq (.keep [0, 3, 4, 5]) (.seq (.seq
    (.region 0 [⟨(some 15), .faddr 0 (.t 3), none⟩, ⟨(some 16), .load 1 false false (.t 15), none⟩, ⟨(some 17), .bin .eql (.t 16) (.c (.int .i64 1)), none⟩, ⟨(some 18),
   .mv (.t 17), none⟩, ⟨(some 19), .faddr 1 (.t 3), (some (18, true))⟩, ⟨(some 20), .load 1 false false (.t 19), (some (18, true))⟩, ⟨(some 21), .bin .geq (.t 20) (.c
    (.int .i64 0)), (some (18, true))⟩, ⟨(some 22), .pick (.t 18) (.t 21) (.c (.bool false)), none⟩, ⟨(some 23), .mv (.t 22), none⟩, ⟨(some 24), .faddr 1 (.t 3), (some
    (23, true))⟩, ⟨(some 25), .load 1 false false (.t 24), (some (23, true))⟩, ⟨(some 26), .bin .lss (.t 25) (.c (.int .i64 34)), (some (23, true))⟩, ⟨(some 27), .pick
    (.t 23) (.t 26) (.c (.bool false)), none⟩]) (.seq (.keep [0, 3, 4, 5, 27]) (.cond (.t 27) (.seq (.region 0 [⟨(some 28), .faddr 1 (.t 3), none⟩, ⟨(some 29),
   .load 1 false false (.t 28), none⟩, ⟨(some 30), .build ([.int .i64 0, .int .i64 0, .int .i64 0, .int .i64 0, .int .i64 0, .int .u32 0]) [(0, 1, .c (.int .i64 1)), (1,
   1, .t 29)], none⟩, ⟨none, .store 6 (.t 4) (.t 30), none⟩]) (.ret)) (.skip)))) (.seq (.keep [0, 3, 4, 5]) (.seq (.region 0 [⟨(some 32), .faddr 2 (.t 3), none⟩,
   ⟨(some 33), .load 1 false false (.t 32), none⟩, ⟨(some 34), .pcall 122 [.t 33, .c (.int .u32 0), .c (.int .u32 1)], none⟩, ⟨(some 31), .mv (.t 34), none⟩, ⟨(some 35),
   .ext 0 (.t 31), none⟩, ⟨(some 36), .ext 1 (.t 31), none⟩, ⟨(some 6), .mv (.t 35), none⟩, ⟨(some 7), .mv (.t 36), none⟩]) (.seq (.keep [0, 3, 4, 5, 7]) (.seq (.seq
    (.region 0 [⟨(some 37), .faddr 0 (.t 3), none⟩, ⟨(some 38), .load 1 false false (.t 37), none⟩, ⟨(some 39), .bin .eql (.t 38) (.c (.int .i64 2)), none⟩, ⟨(some 40),
   .mv (.t 39), none⟩, ⟨(some 41), .mv (.t 7), (some (40, true))⟩, ⟨(some 42), .pick (.t 40) (.t 41) (.c (.bool false)), none⟩, ⟨(some 43), .mv (.t 42), none⟩, ⟨(some 44),
   .mv (.t 0), (some (43, true))⟩, ⟨(some 45), .faddr 3 (.t 3), (some (43, true))⟩, ⟨(some 46), .load 1 false false (.t 45), (some (43, true))⟩, ⟨(some 47),
   .pcall 278 [.t 44, .t 46], (some (43, true))⟩, ⟨(some 48), .pick (.t 43) (.t 47) (.c (.bool false)), none⟩, ⟨(some 49), .mv (.t 48), none⟩, ⟨(some 50), .mv (.t 0),
   (some (49, true))⟩, ⟨(some 51), .faddr 4 (.t 3), (some (49, true))⟩, ⟨(some 52), .load 1 false false (.t 51), (some (49, true))⟩, ⟨(some 53), .pcall 278 [.t 50, .t 52],
   (some (49, true))⟩, ⟨(some 54), .pick (.t 49) (.t 53) (.c (.bool false)), none⟩]) (.seq (.keep [0, 3, 4, 5, 54]) (.cond (.t 54) (.seq (.region 0 [⟨(some 55), .faddr 2
    (.t 3), none⟩, ⟨(some 56), .load 1 false false (.t 55), none⟩, ⟨(some 57), .faddr 3 (.t 3), none⟩, ⟨(some 58), .load 1 false false (.t 57), none⟩, ⟨(some 59), .faddr 4
    (.t 3), none⟩, ⟨(some 60), .load 1 false false (.t 59), none⟩, ⟨(some 61), .build ([.int .i64 0, .int .i64 0, .int .i64 0, .int .i64 0, .int .i64 0, .int .u32 0]) [(0,
   1, .c (.int .i64 2)), (2, 1, .t 56), (3, 1, .t 58), (4, 1, .t 60)], none⟩, ⟨none, .store 6 (.t 4) (.t 61), none⟩]) (.ret)) (.skip)))) (.seq (.keep [0, 3, 4, 5]) (.seq
    (.seq (.region 0 [⟨(some 62), .faddr 0 (.t 3), none⟩, ⟨(some 63), .load 1 false false (.t 62), none⟩, ⟨(some 64), .bin .eql (.t 63) (.c (.int .i64 3)), none⟩,
   ⟨(some 65), .mv (.t 64), none⟩, ⟨(some 66), .mv (.t 0), (some (65, true))⟩, ⟨(some 67), .faddr 3 (.t 3), (some (65, true))⟩, ⟨(some 68), .load 1 false false (.t 67),
   (some (65, true))⟩, ⟨(some 69), .pcall 278 [.t 66, .t 68], (some (65, true))⟩, ⟨(some 70), .pick (.t 65) (.t 69) (.c (.bool false)), none⟩]) (.seq (.keep [3, 4, 5, 70])
    (.cond (.t 70) (.seq (.region 0 [⟨(some 71), .faddr 3 (.t 3), none⟩, ⟨(some 72), .load 1 false false (.t 71), none⟩, ⟨(some 73), .build ([.int .i64 0, .int .i64 0,
   .int .i64 0, .int .i64 0, .int .i64 0, .int .u32 0]) [(0, 1, .c (.int .i64 3)), (3, 1, .t 72)], none⟩, ⟨none, .store 6 (.t 4) (.t 73), none⟩]) (.ret)) (.skip)))) (.seq
    (.keep [4, 5]) (.seq (.region 0 [⟨(some 74), .load 6 true false (.t 5), none⟩, ⟨none, .store 6 (.t 4) (.t 74), none⟩]) (.ret))))))))))))),
  [.cell 4 6 true]⟩
/-- hurdle/hurdleref16.Eval -/
def c_hurdleref16_Eval : SFn := ⟨96,
  .seq (.region 0 [⟨(some 4), .mv (.c (.vs [] .full)), none⟩, ⟨(some 5), .mv (.c (.vs [] .full)), none⟩]) (.seq (.region 0 [⟨(some 6), .mv (.c (.vs [] .full)), none⟩])
    (.seq (.region 0 [⟨(some 7), .mv (.c (.vs [] .full)), none⟩]) (.seq (.seq (.region 0 [⟨(some 8), .mv (.c (.int .i64 0)), none⟩]) (.seq (.give 6 none) (.seq
    (.give 7 none) (.block 0 (.loop [0, 1, 6, 7, 8] (.seq (.seq (.region 0 [⟨(some 14), .mv (.t 8), none⟩, ⟨(some 15), .mv (.t 0), none⟩, ⟨(some 16), .len false (.t 15),
   none⟩, ⟨(some 17), .bin .lss (.t 14) (.t 16), none⟩]) (.seq (.keep [0, 1, 6, 7, 8, 17]) (.cond (.t 17) (.skip) (.exit 0)))) (.seq (.keep [0, 1, 6, 7, 8]) (.seq
    (.block 1 (.seq (.region 1 [⟨(some 20), .mv (.t 0), none⟩, ⟨(some 21), .mv (.t 8), none⟩, ⟨(some 22), .iaddr 6 (.t 20) (.t 21), none⟩, ⟨(some 23), .load 6 true false
    (.t 22), none⟩, ⟨(some 9), .alloc 0 ([.int .i64 0, .int .i64 0, .int .i64 0, .int .i64 0, .int .i64 0, .int .u32 0]), none⟩, ⟨none, .store 6 (.t 9) (.t 23), none⟩])
    (.seq (.keep [0, 1, 6, 7, 8, 9]) (.seq (.region 0 [⟨(some 10), .mv (.c (.int .u32 0)), none⟩, ⟨(some 11), .mv (.c (.bool true)), none⟩]) (.seq (.seq
    (.region 0 [⟨(some 24), .faddr 0 (.t 9), none⟩, ⟨(some 25), .load 1 false false (.t 24), none⟩]) (.block 2 (.seq (.region 0 [⟨(some 27), .bin .eql (.t 25) (.c
    (.int .i64 0)), none⟩, ⟨(some 26), .mv (.t 27), none⟩]) (.cond (.t 26) (.region 0 [⟨(some 28), .faddr 5 (.t 9), none⟩, ⟨(some 29), .load 1 false false (.t 28), none⟩,
   ⟨(some 10), .mv (.t 29), none⟩]) (.seq (.region 0 [⟨(some 31), .bin .eql (.t 25) (.c (.int .i64 1)), none⟩, ⟨(some 30), .mv (.t 31), none⟩]) (.cond (.t 30)
    (.region 0 [⟨(some 32), .mv (.t 1), none⟩, ⟨(some 33), .faddr 1 (.t 9), none⟩, ⟨(some 34), .load 1 false false (.t 33), none⟩, ⟨(some 35), .iaddr 1 (.t 32) (.t 34),
   none⟩, ⟨(some 36), .load 1 false false (.t 35), none⟩, ⟨(some 10), .mv (.t 36), none⟩]) (.seq (.region 0 [⟨(some 38), .bin .eql (.t 25) (.c (.int .i64 2)), none⟩,
   ⟨(some 37), .mv (.t 38), none⟩]) (.cond (.t 37) (.seq (.region 0 [⟨(some 40), .faddr 2 (.t 9), none⟩, ⟨(some 41), .load 1 false true (.t 40), none⟩, ⟨(some 42), .mv
    (.t 6), none⟩, ⟨(some 43), .faddr 3 (.t 9), none⟩, ⟨(some 44), .load 1 false true (.t 43), none⟩, ⟨(some 45), .iaddr 1 (.t 42) (.t 44), none⟩, ⟨(some 46),
   .load 1 false true (.t 45), none⟩, ⟨(some 47), .mv (.t 6), none⟩, ⟨(some 48), .faddr 4 (.t 9), none⟩, ⟨(some 49), .load 1 false true (.t 48), none⟩, ⟨(some 50),
   .iaddr 1 (.t 47) (.t 49), none⟩, ⟨(some 51), .load 1 false true (.t 50), none⟩, ⟨(some 52), .pcall 122 [.t 41, .t 46, .t 51], none⟩, ⟨(some 39), .mv (.t 52), none⟩,
   ⟨(some 53), .ext 0 (.t 39), none⟩, ⟨(some 54), .ext 1 (.t 39), none⟩, ⟨(some 12), .mv (.t 53), none⟩, ⟨(some 13), .mv (.t 54), none⟩]) (.seq (.keep [0, 1, 6, 7, 8, 9,
   12, 13]) (.seq (.region 0 [⟨(some 55), .mv (.t 13), none⟩, ⟨(some 56), .mv (.t 55), none⟩, ⟨(some 57), .mv (.t 7), (some (56, true))⟩, ⟨(some 58), .faddr 3 (.t 9),
   (some (56, true))⟩, ⟨(some 59), .load 1 false false (.t 58), (some (56, true))⟩, ⟨(some 60), .iaddr 1 (.t 57) (.t 59), (some (56, true))⟩, ⟨(some 61),
   .load 1 false false (.t 60), (some (56, true))⟩, ⟨(some 62), .pick (.t 56) (.t 61) (.c (.bool false)), none⟩, ⟨(some 63), .mv (.t 62), none⟩, ⟨(some 64), .mv (.t 7),
   (some (63, true))⟩, ⟨(some 65), .faddr 4 (.t 9), (some (63, true))⟩, ⟨(some 66), .load 1 false false (.t 65), (some (63, true))⟩, ⟨(some 67), .iaddr 1 (.t 64) (.t 66),
   (some (63, true))⟩, ⟨(some 68), .load 1 false false (.t 67), (some (63, true))⟩, ⟨(some 69), .pick (.t 63) (.t 68) (.c (.bool false)), none⟩, ⟨(some 11), .mv (.t 69),
   none⟩]) (.seq (.keep [0, 1, 6, 7, 8, 11, 12]) (.region 0 [⟨(some 70), .mv (.t 12), none⟩, ⟨(some 10), .mv (.t 70), none⟩]))))) (.seq (.region 0 [⟨(some 72), .bin .eql
    (.t 25) (.c (.int .i64 3)), none⟩, ⟨(some 71), .mv (.t 72), none⟩]) (.cond (.t 71) (.seq (.region 0 [⟨(some 73), .mv (.t 7), none⟩, ⟨(some 74), .faddr 3 (.t 9), none⟩,
   ⟨(some 75), .load 1 false false (.t 74), none⟩, ⟨(some 76), .iaddr 1 (.t 73) (.t 75), none⟩, ⟨(some 77), .load 1 false false (.t 76), none⟩, ⟨(some 11), .mv (.t 77),
   none⟩]) (.seq (.keep [0, 1, 6, 7, 8, 9, 11]) (.region 0 [⟨(some 78), .mv (.t 6), none⟩, ⟨(some 79), .faddr 3 (.t 9), none⟩, ⟨(some 80), .load 1 false false (.t 79),
   none⟩, ⟨(some 81), .iaddr 1 (.t 78) (.t 80), none⟩, ⟨(some 82), .load 1 false false (.t 81), none⟩, ⟨(some 83), .pcall 173 [.t 82], none⟩, ⟨(some 10), .mv (.t 83),
   none⟩]))) (.region 0 [⟨(some 11), .mv (.c (.bool false)), none⟩]))))))))))) (.seq (.keep [0, 1, 6, 7, 8, 10, 11]) (.seq (.seq (.region 0 [⟨(some 84), .mv (.t 11),
   none⟩, ⟨(some 85), .un .not (.t 84), none⟩]) (.cond (.t 85) (.region 0 [⟨(some 10), .mv (.c (.int .u32 0)), none⟩]) (.skip))) (.seq (.region 1 [⟨(some 86), .mv (.t 6),
   none⟩, ⟨(some 87), .mv (.t 10), none⟩, ⟨(some 88), .bslice 1 ([.int .u32 0]) [(0, .t 87)], none⟩, ⟨(some 89), .app 0 1 4 (.t 86) (.t 88), none⟩, ⟨(some 6), .mv
    (.t 89), none⟩]) (.seq (.keep [0, 1, 6, 7, 8, 11]) (.region 1 [⟨(some 90), .mv (.t 7), none⟩, ⟨(some 91), .mv (.t 11), none⟩, ⟨(some 92), .bslice 1
    ([.bool false]) [(0, .t 91)], none⟩, ⟨(some 93), .app 0 1 1 (.t 90) (.t 92), none⟩, ⟨(some 7), .mv (.t 93), none⟩])))))))))) (.seq (.keep [0, 1, 6, 7, 8])
    (.region 0 [⟨(some 18), .mv (.t 8), none⟩, ⟨(some 19), .bin .add (.t 18) (.c (.int .i64 1)), none⟩, ⟨(some 8), .mv (.t 19), none⟩])))))))))) (.seq (.keep [6, 7])
    (.seq (.region 0 [⟨(some 94), .mv (.t 6), none⟩, ⟨(some 95), .mv (.t 7), none⟩, ⟨(some 4), .mv (.t 94), none⟩, ⟨(some 5), .mv (.t 95), none⟩]) (.ret)))))),
  [.tmp 4, .tmp 5]⟩
/-- hurdle/hurdleref16.Sums -/
def c_hurdleref16_Sums : SFn := ⟨90,
  .seq (.region 0 [⟨(some 2), .mv (.c (.vs [] .full)), none⟩]) (.seq (.region 0 [⟨(some 3), .mv (.c (.vs [] .full)), none⟩]) (.seq (.seq (.region 0 [⟨(some 4), .mv (.c
    (.int .i64 0)), none⟩]) (.seq (.give 3 none) (.block 0 (.loop [0, 3, 4] (.seq (.seq (.region 0 [⟨(some 7), .mv (.t 4), none⟩, ⟨(some 8), .mv (.t 0), none⟩, ⟨(some 9),
   .len false (.t 8), none⟩, ⟨(some 10), .bin .lss (.t 7) (.t 9), none⟩]) (.seq (.keep [0, 3, 4, 10]) (.cond (.t 10) (.skip) (.exit 0)))) (.seq (.keep [0, 3, 4]) (.seq
    (.block 1 (.seq (.region 1 [⟨(some 13), .mv (.t 0), none⟩, ⟨(some 14), .mv (.t 4), none⟩, ⟨(some 15), .iaddr 6 (.t 13) (.t 14), none⟩, ⟨(some 16), .load 6 true false
    (.t 15), none⟩, ⟨(some 5), .alloc 0 ([.int .i64 0, .int .i64 0, .int .i64 0, .int .i64 0, .int .i64 0, .int .u32 0]), none⟩, ⟨none, .store 6 (.t 5) (.t 16), none⟩])
    (.seq (.keep [0, 3, 4, 5]) (.seq (.region 0 [⟨(some 17), .faddr 0 (.t 5), none⟩, ⟨(some 18), .load 1 false false (.t 17), none⟩, ⟨(some 19), .bin .eql (.t 18) (.c
    (.int .i64 0)), none⟩, ⟨(some 20), .mv (.t 19), none⟩, ⟨(some 21), .faddr 0 (.t 5), (some (20, false))⟩, ⟨(some 22), .load 1 false false (.t 21), (some (20, false))⟩,
   ⟨(some 23), .bin .eql (.t 22) (.c (.int .i64 1)), (some (20, false))⟩, ⟨(some 24), .pick (.t 20) (.c (.bool true)) (.t 23), none⟩, ⟨(some 6), .mv (.t 24), none⟩])
    (.seq (.keep [0, 3, 4, 5, 6]) (.seq (.seq (.region 0 [⟨(some 25), .faddr 0 (.t 5), none⟩, ⟨(some 26), .load 1 false false (.t 25), none⟩, ⟨(some 27), .bin .eql
    (.t 26) (.c (.int .i64 2)), none⟩, ⟨(some 28), .mv (.t 27), none⟩, ⟨(some 29), .faddr 2 (.t 5), (some (28, true))⟩, ⟨(some 30), .load 1 false false (.t 29), (some
    (28, true))⟩, ⟨(some 31), .bin .eql (.t 30) (.c (.int .i64 4)), (some (28, true))⟩, ⟨(some 32), .mv (.t 31), (some (28, true))⟩, ⟨(some 33), .faddr 2 (.t 5), (some
    (32, false))⟩, ⟨(some 34), .load 1 false false (.t 33), (some (32, false))⟩, ⟨(some 35), .bin .eql (.t 34) (.c (.int .i64 20)), (some (32, false))⟩, ⟨(some 36), .pick
    (.t 32) (.c (.bool true)) (.t 35), (some (28, true))⟩, ⟨(some 37), .pick (.t 28) (.t 36) (.c (.bool false)), none⟩]) (.seq (.keep [0, 3, 4, 5, 6, 37]) (.cond (.t 37)
    (.region 0 [⟨(some 38), .mv (.t 3), none⟩, ⟨(some 39), .faddr 3 (.t 5), none⟩, ⟨(some 40), .load 1 false false (.t 39), none⟩, ⟨(some 41), .iaddr 1 (.t 38) (.t 40),
   none⟩, ⟨(some 42), .load 1 false false (.t 41), none⟩, ⟨(some 43), .mv (.t 42), none⟩, ⟨(some 44), .mv (.t 3), (some (43, true))⟩, ⟨(some 45), .faddr 4 (.t 5), (some
    (43, true))⟩, ⟨(some 46), .load 1 false false (.t 45), (some (43, true))⟩, ⟨(some 47), .iaddr 1 (.t 44) (.t 46), (some (43, true))⟩, ⟨(some 48), .load 1 false false
    (.t 47), (some (43, true))⟩, ⟨(some 49), .pick (.t 43) (.t 48) (.c (.bool false)), none⟩, ⟨(some 6), .mv (.t 49), none⟩]) (.skip)))) (.seq (.keep [0, 3, 4, 5, 6])
    (.seq (.seq (.region 0 [⟨(some 50), .faddr 0 (.t 5), none⟩, ⟨(some 51), .load 1 false false (.t 50), none⟩, ⟨(some 52), .bin .eql (.t 51) (.c (.int .i64 2)), none⟩,
   ⟨(some 53), .mv (.t 52), none⟩, ⟨(some 54), .faddr 2 (.t 5), (some (53, true))⟩, ⟨(some 55), .load 1 false false (.t 54), (some (53, true))⟩, ⟨(some 56), .bin .eql
    (.t 55) (.c (.int .i64 36)), (some (53, true))⟩, ⟨(some 57), .mv (.t 56), (some (53, true))⟩, ⟨(some 58), .faddr 2 (.t 5), (some (57, false))⟩, ⟨(some 59),
   .load 1 false false (.t 58), (some (57, false))⟩, ⟨(some 60), .bin .eql (.t 59) (.c (.int .i64 100)), (some (57, false))⟩, ⟨(some 61), .pick (.t 57) (.c (.bool true))
    (.t 60), (some (53, true))⟩, ⟨(some 62), .pick (.t 53) (.t 61) (.c (.bool false)), none⟩]) (.seq (.keep [0, 3, 4, 5, 6, 62]) (.cond (.t 62) (.region 0 [⟨(some 63), .mv
    (.t 3), none⟩, ⟨(some 64), .faddr 3 (.t 5), none⟩, ⟨(some 65), .load 1 false false (.t 64), none⟩, ⟨(some 66), .iaddr 1 (.t 63) (.t 65), none⟩, ⟨(some 67),
   .load 1 false false (.t 66), none⟩, ⟨(some 68), .mv (.t 67), none⟩, ⟨(some 69), .mv (.t 0), (some (68, true))⟩, ⟨(some 70), .faddr 4 (.t 5), (some (68, true))⟩,
   ⟨(some 71), .load 1 false false (.t 70), (some (68, true))⟩, ⟨(some 72), .iaddr 6 (.t 69) (.t 71), (some (68, true))⟩, ⟨(some 73), .faddr 0 (.t 72), (some (68, true))⟩,
   ⟨(some 74), .load 1 false false (.t 73), (some (68, true))⟩, ⟨(some 75), .bin .eql (.t 74) (.c (.int .i64 0)), (some (68, true))⟩, ⟨(some 76), .pick (.t 68) (.t 75)
    (.c (.bool false)), none⟩, ⟨(some 6), .mv (.t 76), none⟩]) (.skip)))) (.seq (.keep [0, 3, 4, 5, 6]) (.seq (.seq (.region 0 [⟨(some 77), .faddr 0 (.t 5), none⟩,
   ⟨(some 78), .load 1 false false (.t 77), none⟩, ⟨(some 79), .bin .eql (.t 78) (.c (.int .i64 3)), none⟩]) (.cond (.t 79) (.region 0 [⟨(some 80), .mv (.t 3), none⟩,
   ⟨(some 81), .faddr 3 (.t 5), none⟩, ⟨(some 82), .load 1 false false (.t 81), none⟩, ⟨(some 83), .iaddr 1 (.t 80) (.t 82), none⟩, ⟨(some 84), .load 1 false false
    (.t 83), none⟩, ⟨(some 6), .mv (.t 84), none⟩]) (.skip))) (.seq (.keep [0, 3, 4, 6]) (.region 1 [⟨(some 85), .mv (.t 3), none⟩, ⟨(some 86), .mv (.t 6), none⟩,
   ⟨(some 87), .bslice 1 ([.bool false]) [(0, .t 86)], none⟩, ⟨(some 88), .app 0 1 1 (.t 85) (.t 87), none⟩, ⟨(some 3), .mv (.t 88), none⟩])))))))))))) (.seq (.keep [0, 3,
   4]) (.region 0 [⟨(some 11), .mv (.t 4), none⟩, ⟨(some 12), .bin .add (.t 11) (.c (.int .i64 1)), none⟩, ⟨(some 4), .mv (.t 12), none⟩]))))))))) (.seq (.keep [3]) (.seq
    (.region 0 [⟨(some 89), .mv (.t 3), none⟩, ⟨(some 2), .mv (.t 89), none⟩]) (.ret))))),
  [.tmp 2]⟩
/-- hurdle/hurdleref16.Vars -/
def c_hurdleref16_Vars : SFn := ⟨75,
  .seq (.region 0 [⟨(some 2), .mv (.c (.vs [] .full)), none⟩]) (.seq (.region 0 [⟨(some 3), .mv (.c (.vs [] .full)), none⟩]) (.seq (.seq (.region 0 [⟨(some 4), .mv (.c
    (.int .i64 0)), none⟩]) (.seq (.give 3 none) (.block 0 (.loop [0, 3, 4] (.seq (.seq (.region 0 [⟨(some 8), .mv (.t 4), none⟩, ⟨(some 9), .mv (.t 0), none⟩, ⟨(some 10),
   .len false (.t 9), none⟩, ⟨(some 11), .bin .lss (.t 8) (.t 10), none⟩]) (.seq (.keep [0, 3, 4, 11]) (.cond (.t 11) (.skip) (.exit 0)))) (.seq (.keep [0, 3, 4]) (.seq
    (.block 1 (.seq (.region 1 [⟨(some 14), .mv (.t 0), none⟩, ⟨(some 15), .mv (.t 4), none⟩, ⟨(some 16), .iaddr 6 (.t 14) (.t 15), none⟩, ⟨(some 17), .load 6 true false
    (.t 16), none⟩, ⟨(some 5), .alloc 0 ([.int .i64 0, .int .i64 0, .int .i64 0, .int .i64 0, .int .i64 0, .int .u32 0]), none⟩, ⟨none, .store 6 (.t 5) (.t 17), none⟩])
    (.seq (.keep [0, 3, 4, 5]) (.seq (.region 1 [⟨(some 18), .mksl 0 1 ([.bool false]) (.c (.int .i64 34)), none⟩, ⟨(some 6), .mv (.t 18), none⟩]) (.seq (.seq
    (.region 0 [⟨(some 7), .mv (.c (.int .i64 0)), none⟩]) (.block 2 (.loop [0, 3, 4, 5, 6, 7] (.seq (.seq (.region 0 [⟨(some 19), .mv (.t 7), none⟩, ⟨(some 20), .bin .lss
    (.t 19) (.c (.int .i64 34)), none⟩]) (.cond (.t 20) (.skip) (.exit 2))) (.seq (.block 3 (.region 0 [⟨(some 23), .mv (.t 6), none⟩, ⟨(some 24), .mv (.t 7), none⟩,
   ⟨(some 25), .faddr 0 (.t 5), none⟩, ⟨(some 26), .load 1 false false (.t 25), none⟩, ⟨(some 27), .bin .eql (.t 26) (.c (.int .i64 1)), none⟩, ⟨(some 28), .mv (.t 27),
   none⟩, ⟨(some 29), .faddr 1 (.t 5), (some (28, true))⟩, ⟨(some 30), .load 1 false false (.t 29), (some (28, true))⟩, ⟨(some 31), .mv (.t 7), (some (28, true))⟩,
   ⟨(some 32), .bin .eql (.t 30) (.t 31), (some (28, true))⟩, ⟨(some 33), .pick (.t 28) (.t 32) (.c (.bool false)), none⟩, ⟨(some 34), .mv (.t 33), none⟩, ⟨(some 35),
   .faddr 0 (.t 5), (some (34, false))⟩, ⟨(some 36), .load 1 false false (.t 35), (some (34, false))⟩, ⟨(some 37), .bin .eql (.t 36) (.c (.int .i64 2)), (some (34,
   false))⟩, ⟨(some 38), .mv (.t 37), (some (34, false))⟩, ⟨(some 39), .faddr 0 (.t 5), (some (38, false))⟩, ⟨(some 40), .load 1 false false (.t 39), (some (38, false))⟩,
   ⟨(some 41), .bin .eql (.t 40) (.c (.int .i64 3)), (some (38, false))⟩, ⟨(some 42), .pick (.t 38) (.c (.bool true)) (.t 41), (some (34, false))⟩, ⟨(some 43), .mv
    (.t 42), (some (34, false))⟩, ⟨(some 44), .mv (.t 3), (some (43, true))⟩, ⟨(some 45), .faddr 3 (.t 5), (some (43, true))⟩, ⟨(some 46), .load 1 false false (.t 45),
   (some (43, true))⟩, ⟨(some 47), .iaddr 1 (.t 44) (.t 46), (some (43, true))⟩, ⟨(some 48), .load 1 false false (.t 47), (some (43, true))⟩, ⟨(some 49), .mv (.t 7), (some
    (43, true))⟩, ⟨(some 50), .iaddr 1 (.t 48) (.t 49), (some (43, true))⟩, ⟨(some 51), .load 1 false false (.t 50), (some (43, true))⟩, ⟨(some 52), .pick (.t 43) (.t 51)
    (.c (.bool false)), (some (34, false))⟩, ⟨(some 53), .pick (.t 34) (.c (.bool true)) (.t 52), none⟩, ⟨(some 54), .mv (.t 53), none⟩, ⟨(some 55), .faddr 0 (.t 5), (some
    (54, false))⟩, ⟨(some 56), .load 1 false false (.t 55), (some (54, false))⟩, ⟨(some 57), .bin .eql (.t 56) (.c (.int .i64 2)), (some (54, false))⟩, ⟨(some 58), .mv
    (.t 57), (some (54, false))⟩, ⟨(some 59), .mv (.t 3), (some (58, true))⟩, ⟨(some 60), .faddr 4 (.t 5), (some (58, true))⟩, ⟨(some 61), .load 1 false false (.t 60),
   (some (58, true))⟩, ⟨(some 62), .iaddr 1 (.t 59) (.t 61), (some (58, true))⟩, ⟨(some 63), .load 1 false false (.t 62), (some (58, true))⟩, ⟨(some 64), .mv (.t 7), (some
    (58, true))⟩, ⟨(some 65), .iaddr 1 (.t 63) (.t 64), (some (58, true))⟩, ⟨(some 66), .load 1 false false (.t 65), (some (58, true))⟩, ⟨(some 67), .pick (.t 58) (.t 66)
    (.c (.bool false)), (some (54, false))⟩, ⟨(some 68), .pick (.t 54) (.c (.bool true)) (.t 67), none⟩, ⟨(some 69), .iaddr 1 (.t 23) (.t 24), none⟩, ⟨none, .store 1
    (.t 69) (.t 68), none⟩])) (.seq (.keep [0, 3, 4, 5, 6, 7]) (.region 0 [⟨(some 21), .mv (.t 7), none⟩, ⟨(some 22), .bin .add (.t 21) (.c (.int .i64 1)), none⟩,
   ⟨(some 7), .mv (.t 22), none⟩]))))))) (.seq (.keep [0, 3, 4, 6]) (.seq (.freeze 6) (.region 1 [⟨(some 70), .mv (.t 3), none⟩, ⟨(some 71), .mv (.t 6), none⟩, ⟨(some 72),
   .bslice 1 ([.vs [] .full]) [(0, .t 71)], none⟩, ⟨(some 73), .app 0 1 24 (.t 70) (.t 72), none⟩, ⟨(some 3), .mv (.t 73), none⟩])))))))) (.seq (.keep [0, 3, 4])
    (.region 0 [⟨(some 12), .mv (.t 4), none⟩, ⟨(some 13), .bin .add (.t 12) (.c (.int .i64 1)), none⟩, ⟨(some 4), .mv (.t 13), none⟩]))))))))) (.seq (.keep [3]) (.seq
    (.region 0 [⟨(some 74), .mv (.t 3), none⟩, ⟨(some 2), .mv (.t 74), none⟩]) (.ret))))),
  [.tmp 2]⟩
/-- hurdle/hurdleref16.Bits -/
def c_hurdleref16_Bits : SFn := ⟨82,
  .seq (.region 0 [⟨(some 2), .mv (.c (.vs [] .full)), none⟩]) (.seq (.region 0 [⟨(some 10), .mv (.t 0), none⟩, ⟨(some 11), .pcall 282 [.t 10], none⟩, ⟨(some 3), .mv
    (.t 11), none⟩]) (.seq (.region 0 [⟨(some 4), .mv (.c (.vs [] .full)), none⟩]) (.seq (.seq (.region 0 [⟨(some 5), .mv (.c (.int .i64 0)), none⟩]) (.seq (.give 4 none)
    (.block 0 (.loop [0, 3, 4, 5] (.seq (.seq (.region 0 [⟨(some 12), .mv (.t 5), none⟩, ⟨(some 13), .mv (.t 0), none⟩, ⟨(some 14), .len false (.t 13), none⟩, ⟨(some 15),
   .bin .lss (.t 12) (.t 14), none⟩]) (.seq (.keep [0, 3, 4, 5, 15]) (.cond (.t 15) (.skip) (.exit 0)))) (.seq (.keep [0, 3, 4, 5]) (.seq (.block 1 (.seq
    (.region 1 [⟨(some 18), .mv (.t 0), none⟩, ⟨(some 19), .mv (.t 5), none⟩, ⟨(some 20), .iaddr 6 (.t 18) (.t 19), none⟩, ⟨(some 21), .load 6 true false (.t 20), none⟩,
   ⟨(some 6), .alloc 0 ([.int .i64 0, .int .i64 0, .int .i64 0, .int .i64 0, .int .i64 0, .int .u32 0]), none⟩, ⟨none, .store 6 (.t 6) (.t 21), none⟩]) (.seq (.keep [0, 3,
   4, 5, 6]) (.seq (.region 0 [⟨(some 7), .mv (.c (.int .i64 0)), none⟩]) (.seq (.seq (.region 0 [⟨(some 8), .mv (.c (.int .i64 0)), none⟩]) (.block 2 (.loop [0, 3, 4, 5,
   6, 7, 8] (.seq (.seq (.region 0 [⟨(some 22), .mv (.t 8), none⟩, ⟨(some 23), .bin .lss (.t 22) (.c (.int .i64 34)), none⟩]) (.cond (.t 23) (.skip) (.exit 2))) (.seq
    (.block 3 (.seq (.region 0 [⟨(some 26), .mv (.t 3), none⟩, ⟨(some 27), .mv (.t 5), none⟩, ⟨(some 28), .iaddr 1 (.t 26) (.t 27), none⟩, ⟨(some 29), .load 1 false false
    (.t 28), none⟩, ⟨(some 30), .mv (.t 8), none⟩, ⟨(some 31), .iaddr 1 (.t 29) (.t 30), none⟩, ⟨(some 32), .load 1 false false (.t 31), none⟩]) (.seq (.keep [0, 3, 4, 5,
   6, 7, 8, 32]) (.cond (.t 32) (.region 0 [⟨(some 33), .mv (.t 7), none⟩, ⟨(some 34), .bin .add (.t 33) (.c (.int .i64 1)), none⟩, ⟨(some 7), .mv (.t 34), none⟩])
    (.skip))))) (.seq (.keep [0, 3, 4, 5, 6, 7, 8]) (.region 0 [⟨(some 24), .mv (.t 8), none⟩, ⟨(some 25), .bin .add (.t 24) (.c (.int .i64 1)), none⟩, ⟨(some 8), .mv
    (.t 25), none⟩]))))))) (.seq (.keep [0, 3, 4, 5, 6, 7]) (.seq (.region 0 [⟨(some 35), .faddr 0 (.t 6), none⟩, ⟨(some 36), .load 1 false false (.t 35), none⟩,
   ⟨(some 37), .bin .eql (.t 36) (.c (.int .i64 0)), none⟩, ⟨(some 38), .mv (.t 37), none⟩, ⟨(some 39), .faddr 0 (.t 6), (some (38, false))⟩, ⟨(some 40),
   .load 1 false false (.t 39), (some (38, false))⟩, ⟨(some 41), .bin .eql (.t 40) (.c (.int .i64 1)), (some (38, false))⟩, ⟨(some 42), .pick (.t 38) (.c (.bool true))
    (.t 41), none⟩, ⟨(some 9), .mv (.t 42), none⟩]) (.seq (.keep [0, 3, 4, 5, 6, 7, 9]) (.seq (.seq (.region 0 [⟨(some 43), .faddr 0 (.t 6), none⟩, ⟨(some 44),
   .load 1 false false (.t 43), none⟩, ⟨(some 45), .bin .eql (.t 44) (.c (.int .i64 2)), none⟩, ⟨(some 46), .mv (.t 45), none⟩, ⟨(some 47), .faddr 2 (.t 6), (some (46,
   true))⟩, ⟨(some 48), .load 1 false false (.t 47), (some (46, true))⟩, ⟨(some 49), .bin .eql (.t 48) (.c (.int .i64 68)), (some (46, true))⟩, ⟨(some 50), .mv (.t 49),
   (some (46, true))⟩, ⟨(some 51), .faddr 2 (.t 6), (some (50, false))⟩, ⟨(some 52), .load 1 false false (.t 51), (some (50, false))⟩, ⟨(some 53), .bin .eql (.t 52) (.c
    (.int .i64 84)), (some (50, false))⟩, ⟨(some 54), .pick (.t 50) (.c (.bool true)) (.t 53), (some (46, true))⟩, ⟨(some 55), .mv (.t 54), (some (46, true))⟩, ⟨(some 56),
   .faddr 2 (.t 6), (some (55, false))⟩, ⟨(some 57), .load 1 false false (.t 56), (some (55, false))⟩, ⟨(some 58), .bin .eql (.t 57) (.c (.int .i64 164)), (some (55,
   false))⟩, ⟨(some 59), .pick (.t 55) (.c (.bool true)) (.t 58), (some (46, true))⟩, ⟨(some 60), .pick (.t 46) (.t 59) (.c (.bool false)), none⟩]) (.seq (.keep [0, 3, 4,
   5, 6, 7, 9, 60]) (.cond (.t 60) (.region 0 [⟨(some 61), .mv (.t 7), none⟩, ⟨(some 62), .bin .leq (.t 61) (.c (.int .i64 4)), none⟩, ⟨(some 63), .mv (.t 62), none⟩,
   ⟨(some 64), .mv (.t 4), (some (63, true))⟩, ⟨(some 65), .faddr 3 (.t 6), (some (63, true))⟩, ⟨(some 66), .load 1 false false (.t 65), (some (63, true))⟩, ⟨(some 67),
   .iaddr 1 (.t 64) (.t 66), (some (63, true))⟩, ⟨(some 68), .load 1 false false (.t 67), (some (63, true))⟩, ⟨(some 69), .pick (.t 63) (.t 68) (.c (.bool false)), none⟩,
   ⟨(some 70), .mv (.t 69), none⟩, ⟨(some 71), .mv (.t 4), (some (70, true))⟩, ⟨(some 72), .faddr 4 (.t 6), (some (70, true))⟩, ⟨(some 73), .load 1 false false (.t 72),
   (some (70, true))⟩, ⟨(some 74), .iaddr 1 (.t 71) (.t 73), (some (70, true))⟩, ⟨(some 75), .load 1 false false (.t 74), (some (70, true))⟩, ⟨(some 76), .pick (.t 70)
    (.t 75) (.c (.bool false)), none⟩, ⟨(some 9), .mv (.t 76), none⟩]) (.skip)))) (.seq (.keep [0, 3, 4, 5, 9]) (.region 1 [⟨(some 77), .mv (.t 4), none⟩, ⟨(some 78), .mv
    (.t 9), none⟩, ⟨(some 79), .bslice 1 ([.bool false]) [(0, .t 78)], none⟩, ⟨(some 80), .app 0 1 1 (.t 77) (.t 79), none⟩, ⟨(some 4), .mv (.t 80), none⟩])))))))))))
    (.seq (.keep [0, 3, 4, 5]) (.region 0 [⟨(some 16), .mv (.t 5), none⟩, ⟨(some 17), .bin .add (.t 16) (.c (.int .i64 1)), none⟩, ⟨(some 5), .mv (.t 17), none⟩])))))))))
    (.seq (.keep [4]) (.seq (.region 0 [⟨(some 81), .mv (.t 4), none⟩, ⟨(some 2), .mv (.t 81), none⟩]) (.ret)))))),
  [.tmp 2]⟩
/-- hurdle/hurdlelaw16.knows -/
def c_hurdlelaw16_knows : SFn := ⟨81,
  .seq (.region 0 [⟨(some 0), .mv (.c (.bool false)), none⟩]) (.seq (.region 0 [⟨(some 10), .kcall false 256 [], none⟩, ⟨(some 1), .mv (.t 10), none⟩]) (.seq (.give 10
    (some 0)) (.seq (.region 0 [⟨(some 11), .mv (.t 1), none⟩, ⟨(some 12), .scall 263 [.t 11, .c (.int .i64 0)], none⟩, ⟨(some 13), .mv (.t 1), none⟩, ⟨(some 14),
   .scall 263 [.t 13, .c (.int .i64 1)], none⟩, ⟨(some 2), .mv (.t 12), none⟩, ⟨(some 3), .mv (.t 14), none⟩]) (.seq (.keep [1, 2, 3]) (.seq (.region 0 [⟨(some 15), .mv
    (.t 1), none⟩, ⟨(some 16), .mv (.t 1), none⟩, ⟨(some 17), .mv (.t 2), none⟩, ⟨(some 18), .mv (.t 3), none⟩, ⟨(some 19), .scall 274 [.t 16, .c (.int .i64 4), .t 17,
   .t 18], none⟩, ⟨(some 20), .mv (.t 2), none⟩, ⟨(some 21), .scall 274 [.t 15, .c (.int .i64 20), .t 19, .t 20], none⟩, ⟨(some 4), .mv (.t 21), none⟩]) (.seq (.keep [1,
   2, 3, 4]) (.seq (.region 0 [⟨(some 22), .mv (.t 1), none⟩, ⟨(some 23), .mv (.t 1), none⟩, ⟨(some 24), .mv (.t 2), none⟩, ⟨(some 25), .mv (.t 1), none⟩, ⟨(some 26),
   .scall 262 [.t 25, .c (.int .u32 255)], none⟩, ⟨(some 27), .scall 274 [.t 23, .c (.int .i64 84), .t 24, .t 26], none⟩, ⟨(some 28), .mv (.t 1), none⟩, ⟨(some 29), .mv
    (.t 2), none⟩, ⟨(some 30), .mv (.t 1), none⟩, ⟨(some 31), .scall 262 [.t 30, .c (.int .u32 4294967040)], none⟩, ⟨(some 32), .scall 274 [.t 28, .c (.int .i64 84),
   .t 29, .t 31], none⟩, ⟨(some 33), .scall 274 [.t 22, .c (.int .i64 68), .t 27, .t 32], none⟩, ⟨(some 5), .mv (.t 33), none⟩]) (.seq (.keep [1, 2, 3, 4, 5]) (.seq
    (.region 0 [⟨(some 34), .mv (.t 1), none⟩, ⟨(some 35), .mv (.t 2), none⟩, ⟨(some 36), .mv (.t 1), none⟩, ⟨(some 37), .scall 262 [.t 36, .c (.int .u32 4294967295)],
   none⟩, ⟨(some 38), .scall 274 [.t 34, .c (.int .i64 164), .t 35, .t 37], none⟩, ⟨(some 6), .mv (.t 38), none⟩]) (.seq (.keep [1, 2, 3, 4, 5, 6]) (.seq
    (.region 0 [⟨(some 39), .mv (.t 1), none⟩, ⟨(some 40), .mv (.t 1), none⟩, ⟨(some 41), .scall 262 [.t 40, .c (.int .u32 4294967295)], none⟩, ⟨(some 42), .mv (.t 2),
   none⟩, ⟨(some 43), .scall 274 [.t 39, .c (.int .i64 20), .t 41, .t 42], none⟩, ⟨(some 7), .mv (.t 43), none⟩]) (.seq (.keep [1, 2, 3, 4, 5, 6, 7]) (.seq
    (.region 0 [⟨(some 45), .mv (.t 1), none⟩, ⟨(some 46), .mv (.t 1), none⟩, ⟨(some 47), .scall 262 [.t 46, .c (.int .u32 7)], none⟩, ⟨(some 48), .scall 266 [.t 45,
   .t 47], none⟩, ⟨(some 44), .mv (.t 48), none⟩, ⟨(some 49), .ext 0 (.t 44), none⟩, ⟨(some 50), .ext 1 (.t 44), none⟩, ⟨(some 8), .mv (.t 49), none⟩, ⟨(some 9), .mv
    (.t 50), none⟩]) (.seq (.keep [1, 2, 3, 4, 5, 6, 7, 8, 9]) (.seq (.region 0 [⟨(some 51), .mv (.t 4), none⟩, ⟨(some 52), .mv (.t 3), none⟩, ⟨(some 53), .bin .eql
    (.t 51) (.t 52), none⟩, ⟨(some 54), .mv (.t 53), none⟩, ⟨(some 55), .mv (.t 5), (some (54, true))⟩, ⟨(some 56), .mv (.t 2), (some (54, true))⟩, ⟨(some 57), .bin .eql
    (.t 55) (.t 56), (some (54, true))⟩, ⟨(some 58), .pick (.t 54) (.t 57) (.c (.bool false)), none⟩, ⟨(some 59), .mv (.t 58), none⟩, ⟨(some 60), .mv (.t 6), (some (59,
   true))⟩, ⟨(some 61), .mv (.t 7), (some (59, true))⟩, ⟨(some 62), .bin .eql (.t 60) (.t 61), (some (59, true))⟩, ⟨(some 63), .pick (.t 59) (.t 62) (.c (.bool false)),
   none⟩, ⟨(some 64), .mv (.t 63), none⟩, ⟨(some 65), .mv (.t 2), (some (64, true))⟩, ⟨(some 66), .mv (.t 3), (some (64, true))⟩, ⟨(some 67), .bin .neq (.t 65) (.t 66),
   (some (64, true))⟩, ⟨(some 68), .pick (.t 64) (.t 67) (.c (.bool false)), none⟩, ⟨(some 69), .mv (.t 68), none⟩, ⟨(some 70), .mv (.t 8), (some (69, true))⟩, ⟨(some 71),
   .bin .eql (.t 70) (.c (.int .u32 7)), (some (69, true))⟩, ⟨(some 72), .pick (.t 69) (.t 71) (.c (.bool false)), none⟩, ⟨(some 73), .mv (.t 72), none⟩, ⟨(some 74), .mv
    (.t 9), (some (73, true))⟩, ⟨(some 75), .pick (.t 73) (.t 74) (.c (.bool false)), none⟩, ⟨(some 76), .mv (.t 75), none⟩, ⟨(some 77), .mv (.t 1), (some (76, true))⟩,
   ⟨(some 78), .scall 257 [.t 77], (some (76, true))⟩, ⟨(some 79), .bin .gtr (.t 78) (.c (.int .i64 3)), (some (76, true))⟩, ⟨(some 80), .pick (.t 76) (.t 79) (.c
    (.bool false)), none⟩, ⟨(some 0), .mv (.t 80), none⟩]) (.ret)))))))))))))))),
  [.tmp 0]⟩
/-- hurdle/hurdlelaw16.at -/
def c_hurdlelaw16_at : SFn := ⟨17,
  .seq (.region 0 [⟨(some 4), .mv (.c (.int .i64 0)), none⟩]) (.seq (.seq (.region 0 [⟨(some 5), .mv (.t 1), none⟩, ⟨(some 6), .bin .lss (.t 5) (.c (.int .i64 0)), none⟩,
   ⟨(some 7), .mv (.t 6), none⟩, ⟨(some 8), .mv (.t 1), (some (7, false))⟩, ⟨(some 9), .mv (.t 0), (some (7, false))⟩, ⟨(some 10), .len false (.t 9), (some (7, false))⟩,
   ⟨(some 11), .bin .geq (.t 8) (.t 10), (some (7, false))⟩, ⟨(some 12), .pick (.t 7) (.c (.bool true)) (.t 11), none⟩]) (.seq (.keep [0, 1, 12]) (.cond (.t 12) (.seq
    (.region 0 [⟨(some 4), .mv (.c (.int .i64 (-1))), none⟩]) (.ret)) (.skip)))) (.seq (.keep [0, 1]) (.seq (.region 0 [⟨(some 13), .mv (.t 0), none⟩, ⟨(some 14), .mv
    (.t 1), none⟩, ⟨(some 15), .iaddr 1 (.t 13) (.t 14), none⟩, ⟨(some 16), .load 1 false false (.t 15), none⟩, ⟨(some 4), .mv (.t 16), none⟩]) (.ret)))),
  [.tmp 4]⟩
/-- hurdle/hurdlelaw16.Make -/
def c_hurdlelaw16_Make : SFn := ⟨85,
  .seq (.region 0 [⟨(some 4), .mv (.c (.vs [] .full)), none⟩, ⟨(some 5), .mv (.c (.vs [] .full)), none⟩]) (.seq (.region 0 [⟨(some 6), .mv (.c (.vs [] .full)), none⟩])
    (.seq (.region 0 [⟨(some 7), .mv (.c (.vs [] .full)), none⟩]) (.seq (.seq (.region 0 [⟨(some 8), .mv (.c (.int .i64 0)), none⟩]) (.seq (.give 7 none) (.seq
    (.give 6 none) (.block 0 (.loop [0, 1, 6, 7, 8] (.seq (.seq (.region 0 [⟨(some 11), .mv (.t 8), none⟩, ⟨(some 12), .mv (.t 1), none⟩, ⟨(some 13), .len false (.t 12),
   none⟩, ⟨(some 14), .bin .lss (.t 11) (.t 13), none⟩, ⟨(some 15), .mv (.t 14), none⟩, ⟨(some 16), .mv (.t 8), (some (15, true))⟩, ⟨(some 17), .bin .lss (.t 16) (.c
    (.int .i64 24)), (some (15, true))⟩, ⟨(some 18), .pick (.t 15) (.t 17) (.c (.bool false)), none⟩]) (.seq (.keep [0, 1, 6, 7, 8, 18]) (.cond (.t 18) (.skip)
    (.exit 0)))) (.seq (.keep [0, 1, 6, 7, 8]) (.seq (.block 1 (.seq (.region 1 [⟨(some 21), .mv (.t 1), none⟩, ⟨(some 22), .mv (.t 8), none⟩, ⟨(some 23), .iaddr 6
    (.t 21) (.t 22), none⟩, ⟨(some 24), .load 6 true false (.t 23), none⟩, ⟨(some 9), .alloc 0 ([.int .i64 0, .int .i64 0, .int .i64 0, .int .i64 0, .int .i64 0,
   .int .u32 0]), none⟩, ⟨none, .store 6 (.t 9) (.t 24), none⟩]) (.seq (.keep [0, 1, 6, 7, 8, 9]) (.seq (.region 0 [⟨(some 10), .mv (.c (.int .i64 (-1))), none⟩]) (.seq
    (.seq (.region 0 [⟨(some 25), .faddr 0 (.t 9), none⟩, ⟨(some 26), .load 1 false false (.t 25), none⟩]) (.block 2 (.seq (.region 0 [⟨(some 28), .bin .eql (.t 26) (.c
    (.int .i64 0)), none⟩, ⟨(some 27), .mv (.t 28), none⟩]) (.cond (.t 27) (.region 0 [⟨(some 29), .mv (.t 0), none⟩, ⟨(some 30), .faddr 5 (.t 9), none⟩, ⟨(some 31),
   .load 1 false false (.t 30), none⟩, ⟨(some 32), .scall 262 [.t 29, .t 31], none⟩, ⟨(some 10), .mv (.t 32), none⟩]) (.seq (.region 0 [⟨(some 34), .bin .eql (.t 26) (.c
    (.int .i64 1)), none⟩, ⟨(some 33), .mv (.t 34), none⟩]) (.cond (.t 33) (.region 0 [⟨(some 35), .mv (.t 0), none⟩, ⟨(some 36), .faddr 1 (.t 9), none⟩, ⟨(some 37),
   .load 1 false false (.t 36), none⟩, ⟨(some 38), .scall 263 [.t 35, .t 37], none⟩, ⟨(some 10), .mv (.t 38), none⟩]) (.seq (.region 0 [⟨(some 40), .bin .eql (.t 26) (.c
    (.int .i64 2)), none⟩, ⟨(some 39), .mv (.t 40), none⟩]) (.cond (.t 39) (.region 0 [⟨(some 41), .mv (.t 0), none⟩, ⟨(some 42), .faddr 2 (.t 9), none⟩, ⟨(some 43),
   .load 1 false true (.t 42), none⟩, ⟨(some 44), .mv (.t 6), none⟩, ⟨(some 45), .faddr 3 (.t 9), none⟩, ⟨(some 46), .load 1 false true (.t 45), none⟩, ⟨(some 47),
   .pcall 285 [.t 44, .t 46], none⟩, ⟨(some 48), .mv (.t 6), none⟩, ⟨(some 49), .faddr 4 (.t 9), none⟩, ⟨(some 50), .load 1 false true (.t 49), none⟩, ⟨(some 51),
   .pcall 285 [.t 48, .t 50], none⟩, ⟨(some 52), .scall 274 [.t 41, .t 43, .t 47, .t 51], none⟩, ⟨(some 10), .mv (.t 52), none⟩]) (.seq (.region 0 [⟨(some 54), .bin .eql
    (.t 26) (.c (.int .i64 3)), none⟩, ⟨(some 53), .mv (.t 54), none⟩]) (.cond (.t 53) (.region 0 [⟨(some 55), .mv (.t 0), none⟩, ⟨(some 56), .mv (.t 6), none⟩,
   ⟨(some 57), .faddr 3 (.t 9), none⟩, ⟨(some 58), .load 1 false false (.t 57), none⟩, ⟨(some 59), .pcall 285 [.t 56, .t 58], none⟩, ⟨(some 60), .scall 275 [.t 55, .t 59],
   none⟩, ⟨(some 10), .mv (.t 60), none⟩]) (.skip))))))))))) (.seq (.keep [0, 1, 6, 7, 8, 9, 10]) (.seq (.region 1 [⟨(some 61), .mv (.t 7), none⟩, ⟨(some 62), .mv (.t 7),
   none⟩, ⟨(some 63), .faddr 0 (.t 9), none⟩, ⟨(some 64), .load 1 false false (.t 63), none⟩, ⟨(some 65), .faddr 1 (.t 9), none⟩, ⟨(some 66), .load 1 false false (.t 65),
   none⟩, ⟨(some 67), .faddr 2 (.t 9), none⟩, ⟨(some 68), .load 1 false false (.t 67), none⟩, ⟨(some 69), .faddr 3 (.t 9), none⟩, ⟨(some 70), .load 1 false false (.t 69),
   none⟩, ⟨(some 71), .faddr 4 (.t 9), none⟩, ⟨(some 72), .load 1 false false (.t 71), none⟩, ⟨(some 73), .faddr 5 (.t 9), none⟩, ⟨(some 74), .load 1 false false (.t 73),
   none⟩, ⟨(some 75), .build ([.int .i64 0, .int .i64 0, .int .i64 0, .int .i64 0, .int .i64 0, .int .u32 0]) [(0, 1, .t 64), (1, 1, .t 66), (2, 1, .t 68), (3, 1, .t 70),
   (4, 1, .t 72), (5, 1, .t 74)], none⟩, ⟨(some 76), .pcall 279 [.t 62, .t 75], none⟩, ⟨(some 77), .bslice 1 ([.int .i64 0, .int .i64 0, .int .i64 0, .int .i64 0,
   .int .i64 0, .int .u32 0]) [(0, .t 76)], none⟩, ⟨(some 78), .app 0 6 48 (.t 61) (.t 77), none⟩, ⟨(some 7), .mv (.t 78), none⟩]) (.seq (.keep [0, 1, 6, 7, 8, 10])
    (.region 1 [⟨(some 79), .mv (.t 6), none⟩, ⟨(some 80), .mv (.t 10), none⟩, ⟨(some 81), .bslice 1 ([.int .i64 0]) [(0, .t 80)], none⟩, ⟨(some 82), .app 0 1 8 (.t 79)
    (.t 81), none⟩, ⟨(some 6), .mv (.t 82), none⟩]))))))))) (.seq (.keep [0, 1, 6, 7, 8]) (.region 0 [⟨(some 19), .mv (.t 8), none⟩, ⟨(some 20), .bin .add (.t 19) (.c
    (.int .i64 1)), none⟩, ⟨(some 8), .mv (.t 20), none⟩])))))))))) (.seq (.keep [6, 7]) (.seq (.region 0 [⟨(some 83), .mv (.t 6), none⟩, ⟨(some 84), .mv (.t 7), none⟩,
   ⟨(some 4), .mv (.t 83), none⟩, ⟨(some 5), .mv (.t 84), none⟩]) (.ret)))))),
  [.tmp 4, .tmp 5]⟩
/-- hurdle/hurdlelaw16.row -/
def c_hurdlelaw16_row : SFn := ⟨16,
  .seq (.region 1 [⟨(some 1), .box 0 (.t 0), none⟩, ⟨(some 2), .mv (.c (.vs [] .full)), none⟩]) (.seq (.region 0 [⟨(some 3), .mv (.c (.vs [] .full)), none⟩]) (.seq (.seq
    (.region 0 [⟨(some 4), .mv (.c (.int .i64 0)), none⟩]) (.seq (.give 3 none) (.block 0 (.loop [1, 3, 4] (.seq (.seq (.region 0 [⟨(some 5), .mv (.t 4), none⟩, ⟨(some 6),
   .bin .lss (.t 5) (.c (.int .i64 34)), none⟩]) (.cond (.t 6) (.skip) (.exit 0))) (.seq (.block 1 (.region 1 [⟨(some 9), .mv (.t 3), none⟩, ⟨(some 10), .mv (.t 4), none⟩,
   ⟨(some 11), .iaddrA 34 1 (.t 1) (.t 10), none⟩, ⟨(some 12), .load 1 false false (.t 11), none⟩, ⟨(some 13), .bslice 1 ([.int .u32 0]) [(0, .t 12)], none⟩, ⟨(some 14),
   .app 0 1 4 (.t 9) (.t 13), none⟩, ⟨(some 3), .mv (.t 14), none⟩])) (.seq (.keep [1, 3, 4]) (.region 0 [⟨(some 7), .mv (.t 4), none⟩, ⟨(some 8), .bin .add (.t 7) (.c
    (.int .i64 1)), none⟩, ⟨(some 4), .mv (.t 8), none⟩])))))))) (.seq (.keep [3]) (.seq (.region 0 [⟨(some 15), .mv (.t 3), none⟩, ⟨(some 2), .mv (.t 15), none⟩])
    (.ret))))),
  [.tmp 2]⟩
/-- hurdle/hurdlelaw16.SymEvals -/
def c_hurdlelaw16_SymEvals : SFn := ⟨81,
  .seq (.region 1 [⟨(some 3), .box 0 (.t 1), none⟩, ⟨(some 4), .mv (.c (.bool false)), none⟩]) (.seq (.region 0 [⟨(some 13), .kcall false 256 [], none⟩, ⟨(some 5), .mv
    (.t 13), none⟩]) (.seq (.give 13 (some 0)) (.seq (.region 0 [⟨(some 15), .mv (.t 5), none⟩, ⟨(some 16), .mv (.t 0), none⟩, ⟨(some 17), .scall 286 [.t 15, .t 16],
   none⟩, ⟨(some 14), .mv (.t 17), none⟩, ⟨(some 18), .ext 0 (.t 14), none⟩, ⟨(some 19), .ext 1 (.t 14), none⟩, ⟨(some 6), .mv (.t 18), none⟩, ⟨(some 7), .mv (.t 19),
   none⟩]) (.seq (.keep [3, 5, 6, 7]) (.seq (.region 0 [⟨(some 21), .mv (.t 7), none⟩, ⟨(some 22), .load 34 true false (.t 3), none⟩, ⟨(some 23), .pcall 287 [.t 22],
   none⟩, ⟨(some 24), .pcall 280 [.t 21, .t 23], none⟩, ⟨(some 20), .mv (.t 24), none⟩, ⟨(some 25), .ext 0 (.t 20), none⟩, ⟨(some 26), .ext 1 (.t 20), none⟩, ⟨(some 8),
   .mv (.t 25), none⟩, ⟨(some 9), .mv (.t 26), none⟩]) (.seq (.keep [3, 5, 6, 7, 8, 9]) (.seq (.seq (.region 0 [⟨(some 10), .mv (.c (.int .i64 0)), none⟩]) (.block 0
    (.loop [3, 5, 6, 7, 8, 9, 10] (.seq (.seq (.region 0 [⟨(some 27), .mv (.t 10), none⟩, ⟨(some 28), .mv (.t 6), none⟩, ⟨(some 29), .len false (.t 28), none⟩, ⟨(some 30),
   .bin .lss (.t 27) (.t 29), none⟩]) (.seq (.keep [3, 5, 6, 7, 8, 9, 10, 30]) (.cond (.t 30) (.skip) (.exit 0)))) (.seq (.keep [3, 5, 6, 7, 8, 9, 10]) (.seq (.block 1
    (.seq (.region 0 [⟨(some 34), .mv (.t 5), none⟩, ⟨(some 35), .mv (.t 6), none⟩, ⟨(some 36), .mv (.t 10), none⟩, ⟨(some 37), .iaddr 1 (.t 35) (.t 36), none⟩,
   ⟨(some 38), .loadC 1 false (.t 37), none⟩, ⟨(some 39), .load 34 true true (.t 3), none⟩, ⟨(some 40), .scall 276 [.t 34, .t 38, .t 39], none⟩, ⟨(some 33), .mv (.t 40),
   none⟩, ⟨(some 41), .ext 0 (.t 33), none⟩, ⟨(some 42), .ext 1 (.t 33), none⟩, ⟨(some 11), .mv (.t 41), none⟩, ⟨(some 12), .mv (.t 42), none⟩]) (.seq (.keep [3, 5, 6, 7,
   8, 9, 10, 11, 12]) (.seq (.region 0 [⟨(some 43), .mv (.t 11), none⟩, ⟨(some 44), .mv (.t 8), none⟩, ⟨(some 45), .mv (.t 10), none⟩, ⟨(some 46), .iaddr 1 (.t 44)
    (.t 45), none⟩, ⟨(some 47), .loadC 1 false (.t 46), none⟩, ⟨(some 48), .bin .neq (.t 43) (.t 47), none⟩, ⟨(some 49), .mv (.t 48), none⟩, ⟨(some 50), .mv (.t 12), (some
    (49, false))⟩, ⟨(some 51), .mv (.t 9), (some (49, false))⟩, ⟨(some 52), .mv (.t 10), (some (49, false))⟩, ⟨(some 53), .iaddr 1 (.t 51) (.t 52), (some (49, false))⟩,
   ⟨(some 54), .loadC 1 false (.t 53), (some (49, false))⟩, ⟨(some 55), .beq true (.t 50) (.t 54), (some (49, false))⟩, ⟨(some 56), .pick (.t 49) (.c (.bool true))
    (.t 55), none⟩, ⟨(some 57), .mv (.t 56), none⟩, ⟨(some 58), .mv (.t 6), (some (57, false))⟩, ⟨(some 59), .mv (.t 10), (some (57, false))⟩, ⟨(some 60), .iaddr 1
    (.t 58) (.t 59), (some (57, false))⟩, ⟨(some 61), .loadC 1 false (.t 60), (some (57, false))⟩, ⟨(some 62), .bin .lss (.t 61) (.c (.int .i64 0)), (some (57, false))⟩,
   ⟨(some 63), .mv (.t 7), (some (57, false))⟩, ⟨(some 64), .mv (.t 10), (some (57, false))⟩, ⟨(some 65), .iaddr 6 (.t 63) (.t 64), (some (57, false))⟩, ⟨(some 66),
   .faddr 0 (.t 65), (some (57, false))⟩, ⟨(some 67), .loadC 1 false (.t 66), (some (57, false))⟩, ⟨(some 68), .bin .eql (.t 67) (.c (.int .i64 4)), (some (57, false))⟩,
   ⟨(some 69), .beq true (.t 62) (.t 68), (some (57, false))⟩, ⟨(some 70), .pick (.t 57) (.c (.bool true)) (.t 69), none⟩, ⟨(some 71), .mv (.t 70), none⟩, ⟨(some 72), .mv
    (.t 6), (some (71, false))⟩, ⟨(some 73), .mv (.t 10), (some (71, false))⟩, ⟨(some 74), .iaddr 1 (.t 72) (.t 73), (some (71, false))⟩, ⟨(some 75), .loadC 1 false
    (.t 74), (some (71, false))⟩, ⟨(some 76), .mv (.t 5), (some (71, false))⟩, ⟨(some 77), .scall 257 [.t 76], (some (71, false))⟩, ⟨(some 78), .bin .geq (.t 75) (.t 77),
   (some (71, false))⟩, ⟨(some 79), .pick (.t 71) (.c (.bool true)) (.t 78), none⟩]) (.seq (.keep [3, 5, 6, 7, 8, 9, 10, 79]) (.cond (.t 79) (.seq (.region 0 [⟨(some 4),
   .mv (.c (.bool false)), none⟩]) (.ret)) (.skip))))))) (.seq (.keep [3, 5, 6, 7, 8, 9, 10]) (.region 0 [⟨(some 31), .mv (.t 10), none⟩, ⟨(some 32), .bin .add (.t 31)
    (.c (.int .i64 1)), none⟩, ⟨(some 10), .mv (.t 32), none⟩])))))))) (.seq (.keep []) (.seq (.region 0 [⟨(some 80), .pcall 284 [], none⟩, ⟨(some 4), .mv (.t 80), none⟩])
    (.ret)))))))))),
  [.tmp 4]⟩
/-- hurdle/hurdlelaw16.SymSound -/
def c_hurdlelaw16_SymSound : SFn := ⟨69,
  .seq (.region 1 [⟨(some 3), .box 0 (.t 1), none⟩, ⟨(some 4), .mv (.c (.bool false)), none⟩]) (.seq (.region 0 [⟨(some 12), .kcall false 256 [], none⟩, ⟨(some 5), .mv
    (.t 12), none⟩]) (.seq (.give 12 (some 0)) (.seq (.region 0 [⟨(some 14), .mv (.t 5), none⟩, ⟨(some 15), .mv (.t 0), none⟩, ⟨(some 16), .scall 286 [.t 14, .t 15],
   none⟩, ⟨(some 13), .mv (.t 16), none⟩, ⟨(some 17), .ext 0 (.t 13), none⟩, ⟨(some 18), .ext 1 (.t 13), none⟩, ⟨(some 6), .mv (.t 17), none⟩, ⟨(some 7), .mv (.t 18),
   none⟩]) (.seq (.keep [3, 6, 7]) (.seq (.region 0 [⟨(some 20), .mv (.t 7), none⟩, ⟨(some 21), .load 34 true false (.t 3), none⟩, ⟨(some 22), .pcall 287 [.t 21], none⟩,
   ⟨(some 23), .pcall 280 [.t 20, .t 22], none⟩, ⟨(some 19), .mv (.t 23), none⟩, ⟨(some 24), .ext 0 (.t 19), none⟩, ⟨(some 25), .ext 1 (.t 19), none⟩, ⟨(some 8), .mv
    (.t 24), none⟩, ⟨(some 9), .mv (.t 25), none⟩]) (.seq (.keep [6, 8, 9]) (.seq (.seq (.region 0 [⟨(some 10), .mv (.c (.int .i64 0)), none⟩]) (.block 0 (.loop [6, 8, 9,
   10] (.seq (.seq (.region 0 [⟨(some 26), .mv (.t 10), none⟩, ⟨(some 27), .mv (.t 6), none⟩, ⟨(some 28), .len false (.t 27), none⟩, ⟨(some 29), .bin .lss (.t 26)
    (.t 28), none⟩]) (.seq (.keep [6, 8, 9, 10, 29]) (.cond (.t 29) (.skip) (.exit 0)))) (.seq (.keep [6, 8, 9, 10]) (.seq (.block 1 (.seq (.region 0 [⟨(some 11), .mv (.c
    (.int .i64 0)), none⟩]) (.block 2 (.loop [6, 8, 9, 10, 11] (.seq (.seq (.region 0 [⟨(some 32), .mv (.t 11), none⟩, ⟨(some 33), .mv (.t 10), none⟩, ⟨(some 34),
   .bin .lss (.t 32) (.t 33), none⟩]) (.cond (.t 34) (.skip) (.exit 2))) (.seq (.keep [6, 8, 9, 10, 11]) (.seq (.block 3 (.seq (.region 0 [⟨(some 37), .mv (.t 6), none⟩,
   ⟨(some 38), .mv (.t 10), none⟩, ⟨(some 39), .iaddr 1 (.t 37) (.t 38), none⟩, ⟨(some 40), .load 1 false true (.t 39), none⟩, ⟨(some 41), .mv (.t 6), none⟩, ⟨(some 42),
   .mv (.t 11), none⟩, ⟨(some 43), .iaddr 1 (.t 41) (.t 42), none⟩, ⟨(some 44), .load 1 false true (.t 43), none⟩, ⟨(some 45), .bin .eql (.t 40) (.t 44), none⟩,
   ⟨(some 46), .mv (.t 45), none⟩, ⟨(some 47), .mv (.t 8), (some (46, true))⟩, ⟨(some 48), .mv (.t 10), (some (46, true))⟩, ⟨(some 49), .iaddr 1 (.t 47) (.t 48), (some
    (46, true))⟩, ⟨(some 50), .load 1 false true (.t 49), (some (46, true))⟩, ⟨(some 51), .mv (.t 8), (some (46, true))⟩, ⟨(some 52), .mv (.t 11), (some (46, true))⟩,
   ⟨(some 53), .iaddr 1 (.t 51) (.t 52), (some (46, true))⟩, ⟨(some 54), .load 1 false true (.t 53), (some (46, true))⟩, ⟨(some 55), .bin .neq (.t 50) (.t 54), (some (46,
   true))⟩, ⟨(some 56), .mv (.t 55), (some (46, true))⟩, ⟨(some 57), .mv (.t 9), (some (56, false))⟩, ⟨(some 58), .mv (.t 10), (some (56, false))⟩, ⟨(some 59), .iaddr 1
    (.t 57) (.t 58), (some (56, false))⟩, ⟨(some 60), .load 1 false true (.t 59), (some (56, false))⟩, ⟨(some 61), .mv (.t 9), (some (56, false))⟩, ⟨(some 62), .mv
    (.t 11), (some (56, false))⟩, ⟨(some 63), .iaddr 1 (.t 61) (.t 62), (some (56, false))⟩, ⟨(some 64), .load 1 false true (.t 63), (some (56, false))⟩, ⟨(some 65),
   .beq true (.t 60) (.t 64), (some (56, false))⟩, ⟨(some 66), .pick (.t 56) (.c (.bool true)) (.t 65), (some (46, true))⟩, ⟨(some 67), .pick (.t 46) (.t 66) (.c
    (.bool false)), none⟩]) (.seq (.keep [6, 8, 9, 10, 11, 67]) (.cond (.t 67) (.seq (.region 0 [⟨(some 4), .mv (.c (.bool false)), none⟩]) (.ret)) (.skip))))) (.seq
    (.keep [6, 8, 9, 10, 11]) (.region 0 [⟨(some 35), .mv (.t 11), none⟩, ⟨(some 36), .bin .add (.t 35) (.c (.int .i64 1)), none⟩, ⟨(some 11), .mv (.t 36), none⟩])))))))))
    (.seq (.keep [6, 8, 9, 10]) (.region 0 [⟨(some 30), .mv (.t 10), none⟩, ⟨(some 31), .bin .add (.t 30) (.c (.int .i64 1)), none⟩, ⟨(some 10), .mv (.t 31),
   none⟩])))))))) (.seq (.keep []) (.seq (.region 0 [⟨(some 68), .pcall 284 [], none⟩, ⟨(some 4), .mv (.t 68), none⟩]) (.ret)))))))))),
  [.tmp 4]⟩
/-- hurdle/hurdlelaw16.SymNil -/
def c_hurdlelaw16_SymNil : SFn := ⟨86,
  .seq (.region 1 [⟨(some 5), .box 0 (.t 2), none⟩, ⟨(some 6), .mv (.c (.bool false)), none⟩]) (.seq (.region 0 [⟨(some 7), .mv (.c (.nilp)), none⟩]) (.seq
    (.region 0 [⟨(some 15), .mv (.t 7), none⟩, ⟨(some 16), .mv (.t 0), none⟩, ⟨(some 17), .load 34 true false (.t 5), none⟩, ⟨(some 18), .scall 276 [.t 15, .t 16, .t 17],
   none⟩, ⟨(some 14), .mv (.t 18), none⟩, ⟨(some 19), .ext 0 (.t 14), none⟩, ⟨(some 20), .ext 1 (.t 14), none⟩, ⟨(some 8), .mv (.t 19), none⟩, ⟨(some 9), .mv (.t 20),
   none⟩]) (.seq (.keep [0, 1, 7, 8, 9]) (.seq (.region 0 [⟨(some 22), .mv (.t 7), none⟩, ⟨(some 23), .mv (.t 0), none⟩, ⟨(some 24), .scall 266 [.t 22, .t 23], none⟩,
   ⟨(some 21), .mv (.t 24), none⟩, ⟨(some 25), .ext 0 (.t 21), none⟩, ⟨(some 26), .ext 1 (.t 21), none⟩, ⟨(some 10), .mv (.t 25), none⟩, ⟨(some 11), .mv (.t 26), none⟩])
    (.seq (.keep [0, 1, 7, 8, 9, 10, 11]) (.seq (.region 1 [⟨(some 28), .mv (.t 7), none⟩, ⟨(some 29), .mv (.t 0), none⟩, ⟨(some 30), .mv (.t 0), none⟩, ⟨(some 31),
   .bin .add (.t 30) (.c (.int .i64 1)), none⟩, ⟨(some 32), .scall 277 [.t 28, .t 29, .t 31], none⟩, ⟨(some 27), .mv (.t 32), none⟩, ⟨(some 33), .ext 0 (.t 27), none⟩,
   ⟨(some 34), .ext 1 (.t 27), none⟩, ⟨(some 12), .alloc 0 (rep 34 (.int .u32 0)), none⟩, ⟨none, .store 34 (.t 12) (.t 33), none⟩, ⟨(some 13), .mv (.t 34), none⟩]) (.seq
    (.keep [0, 1, 7, 8, 9, 10, 11, 13]) (.seq (.region 0 [⟨(some 35), .mv (.t 7), none⟩, ⟨(some 36), .mv (.t 1), none⟩, ⟨(some 37), .scall 262 [.t 35, .t 36], none⟩,
   ⟨(some 38), .bin .eql (.t 37) (.c (.int .i64 (-1))), none⟩, ⟨(some 39), .mv (.t 38), none⟩, ⟨(some 40), .mv (.t 7), (some (39, true))⟩, ⟨(some 41), .mv (.t 0), (some
    (39, true))⟩, ⟨(some 42), .scall 263 [.t 40, .t 41], (some (39, true))⟩, ⟨(some 43), .bin .eql (.t 42) (.c (.int .i64 (-1))), (some (39, true))⟩, ⟨(some 44), .pick
    (.t 39) (.t 43) (.c (.bool false)), none⟩, ⟨(some 45), .mv (.t 44), none⟩, ⟨(some 46), .mv (.t 7), (some (45, true))⟩, ⟨(some 47), .mv (.t 0), (some (45, true))⟩,
   ⟨(some 48), .mv (.t 0), (some (45, true))⟩, ⟨(some 49), .scall 274 [.t 46, .c (.int .i64 4), .t 47, .t 48], (some (45, true))⟩, ⟨(some 50), .bin .eql (.t 49) (.c
    (.int .i64 (-1))), (some (45, true))⟩, ⟨(some 51), .pick (.t 45) (.t 50) (.c (.bool false)), none⟩, ⟨(some 52), .mv (.t 51), none⟩, ⟨(some 53), .mv (.t 7), (some (52,
   true))⟩, ⟨(some 54), .mv (.t 0), (some (52, true))⟩, ⟨(some 55), .scall 275 [.t 53, .t 54], (some (52, true))⟩, ⟨(some 56), .bin .eql (.t 55) (.c (.int .i64 (-1))),
   (some (52, true))⟩, ⟨(some 57), .pick (.t 52) (.t 56) (.c (.bool false)), none⟩, ⟨(some 58), .mv (.t 57), none⟩, ⟨(some 59), .mv (.t 8), (some (58, true))⟩, ⟨(some 60),
   .bin .eql (.t 59) (.c (.int .u32 0)), (some (58, true))⟩, ⟨(some 61), .pick (.t 58) (.t 60) (.c (.bool false)), none⟩, ⟨(some 62), .mv (.t 61), none⟩, ⟨(some 63), .mv
    (.t 9), (some (62, true))⟩, ⟨(some 64), .un .not (.t 63), (some (62, true))⟩, ⟨(some 65), .pick (.t 62) (.t 64) (.c (.bool false)), none⟩, ⟨(some 66), .mv (.t 65),
   none⟩, ⟨(some 67), .mv (.t 10), (some (66, true))⟩, ⟨(some 68), .bin .eql (.t 67) (.c (.int .u32 0)), (some (66, true))⟩, ⟨(some 69), .pick (.t 66) (.t 68) (.c
    (.bool false)), none⟩, ⟨(some 70), .mv (.t 69), none⟩, ⟨(some 71), .mv (.t 11), (some (70, true))⟩, ⟨(some 72), .un .not (.t 71), (some (70, true))⟩, ⟨(some 73), .pick
    (.t 70) (.t 72) (.c (.bool false)), none⟩, ⟨(some 74), .mv (.t 73), none⟩, ⟨(some 75), .mv (.t 13), (some (74, true))⟩, ⟨(some 76), .un .not (.t 75), (some (74,
   true))⟩, ⟨(some 77), .pick (.t 74) (.t 76) (.c (.bool false)), none⟩, ⟨(some 78), .mv (.t 77), none⟩, ⟨(some 79), .mv (.t 7), (some (78, true))⟩, ⟨(some 80),
   .scall 257 [.t 79], (some (78, true))⟩, ⟨(some 81), .bin .eql (.t 80) (.c (.int .i64 0)), (some (78, true))⟩, ⟨(some 82), .pick (.t 78) (.t 81) (.c (.bool false)),
   none⟩, ⟨(some 83), .mv (.t 82), none⟩, ⟨(some 84), .pcall 284 [], (some (83, true))⟩, ⟨(some 85), .pick (.t 83) (.t 84) (.c (.bool false)), none⟩, ⟨(some 6), .mv
    (.t 85), none⟩]) (.ret))))))))),
  [.tmp 6]⟩
/-- A table that holds these. -/
class HasR16 (G : Tbl) : Prop where
  h_hurdleref16_there : G 278 = some c_hurdleref16_there
  h_hurdleref16_Next : G 279 = some c_hurdleref16_Next
  h_hurdleref16_Eval : G 280 = some c_hurdleref16_Eval
  h_hurdleref16_Sums : G 281 = some c_hurdleref16_Sums
  h_hurdleref16_Vars : G 282 = some c_hurdleref16_Vars
  h_hurdleref16_Bits : G 283 = some c_hurdleref16_Bits
/-- A table that holds these. -/
class HasL16 (G : Tbl) : Prop where
  h_hurdlelaw16_knows : G 284 = some c_hurdlelaw16_knows
  h_hurdlelaw16_at : G 285 = some c_hurdlelaw16_at
  h_hurdlelaw16_Make : G 286 = some c_hurdlelaw16_Make
  h_hurdlelaw16_row : G 287 = some c_hurdlelaw16_row
  h_hurdlelaw16_SymEvals : G 288 = some c_hurdlelaw16_SymEvals
  h_hurdlelaw16_SymSound : G 289 = some c_hurdlelaw16_SymSound
  h_hurdlelaw16_SymNil : G 291 = some c_hurdlelaw16_SymNil
end Go.Ev
/- Simplified code of Go functions, by scode.py. -/
namespace Go.Ev
/-- hurdle/hurdlelaw16.SymExact -/
def c_hurdlelaw16_SymExact : SFn := ⟨131,
  .seq (.region 0 [⟨(some 2), .mv (.c (.bool false)), none⟩]) (.seq (.region 0 [⟨(some 15), .kcall false 256 [], none⟩, ⟨(some 3), .mv (.t 15), none⟩]) (.seq (.give 15
    (some 0)) (.seq (.region 0 [⟨(some 17), .mv (.t 3), none⟩, ⟨(some 18), .mv (.t 0), none⟩, ⟨(some 19), .scall 286 [.t 17, .t 18], none⟩, ⟨(some 16), .mv (.t 19), none⟩,
   ⟨(some 20), .ext 0 (.t 16), none⟩, ⟨(some 21), .ext 1 (.t 16), none⟩, ⟨(some 4), .mv (.t 20), none⟩, ⟨(some 5), .mv (.t 21), none⟩]) (.seq (.keep [3, 4, 5]) (.seq
    (.region 0 [⟨(some 22), .mv (.t 5), none⟩, ⟨(some 23), .pcall 281 [.t 22], none⟩, ⟨(some 24), .mv (.t 5), none⟩, ⟨(some 25), .pcall 283 [.t 24], none⟩, ⟨(some 6), .mv
    (.t 23), none⟩, ⟨(some 7), .mv (.t 25), none⟩]) (.seq (.keep [3, 4, 5, 6, 7]) (.seq (.seq (.region 0 [⟨(some 8), .mv (.c (.int .i64 0)), none⟩]) (.block 0 (.loop [3,
   4, 5, 6, 7, 8] (.seq (.seq (.region 0 [⟨(some 26), .mv (.t 8), none⟩, ⟨(some 27), .mv (.t 4), none⟩, ⟨(some 28), .len false (.t 27), none⟩, ⟨(some 29), .bin .lss
    (.t 26) (.t 28), none⟩]) (.seq (.keep [3, 4, 5, 6, 7, 8, 29]) (.cond (.t 29) (.skip) (.exit 0)))) (.seq (.keep [3, 4, 5, 6, 7, 8]) (.seq (.block 1 (.seq
    (.region 0 [⟨(some 9), .mv (.c (.int .i64 0)), none⟩]) (.block 2 (.loop [3, 4, 5, 6, 7, 8, 9] (.seq (.seq (.region 0 [⟨(some 32), .mv (.t 9), none⟩, ⟨(some 33), .mv
    (.t 8), none⟩, ⟨(some 34), .bin .lss (.t 32) (.t 33), none⟩]) (.cond (.t 34) (.skip) (.exit 2))) (.seq (.keep [3, 4, 5, 6, 7, 8, 9]) (.seq (.block 3 (.seq (.seq
    (.region 0 [⟨(some 37), .mv (.t 5), none⟩, ⟨(some 38), .mv (.t 8), none⟩, ⟨(some 39), .iaddr 6 (.t 37) (.t 38), none⟩, ⟨(some 40), .faddr 0 (.t 39), none⟩, ⟨(some 41),
   .load 1 false false (.t 40), none⟩, ⟨(some 42), .bin .eql (.t 41) (.c (.int .i64 4)), none⟩, ⟨(some 43), .mv (.t 42), none⟩, ⟨(some 44), .mv (.t 5), (some (43,
   false))⟩, ⟨(some 45), .mv (.t 9), (some (43, false))⟩, ⟨(some 46), .iaddr 6 (.t 44) (.t 45), (some (43, false))⟩, ⟨(some 47), .faddr 0 (.t 46), (some (43, false))⟩,
   ⟨(some 48), .load 1 false false (.t 47), (some (43, false))⟩, ⟨(some 49), .bin .eql (.t 48) (.c (.int .i64 4)), (some (43, false))⟩, ⟨(some 50), .pick (.t 43) (.c
    (.bool true)) (.t 49), none⟩]) (.seq (.keep [3, 4, 5, 6, 7, 8, 9, 50]) (.cond (.t 50) (.exit 3) (.skip)))) (.seq (.keep [3, 4, 5, 6, 7, 8, 9]) (.seq
    (.region 1 [⟨(some 52), .mv (.t 3), none⟩, ⟨(some 53), .mv (.t 4), none⟩, ⟨(some 54), .mv (.t 8), none⟩, ⟨(some 55), .iaddr 1 (.t 53) (.t 54), none⟩, ⟨(some 56),
   .loadC 1 false (.t 55), none⟩, ⟨(some 57), .mv (.t 4), none⟩, ⟨(some 58), .mv (.t 9), none⟩, ⟨(some 59), .iaddr 1 (.t 57) (.t 58), none⟩, ⟨(some 60), .loadC 1 false
    (.t 59), none⟩, ⟨(some 61), .scallE 277 [.t 52, .t 56, .t 60], none⟩, ⟨(some 51), .mv (.t 61), none⟩, ⟨(some 62), .ext 0 (.t 51), none⟩, ⟨(some 63), .ext 1 (.t 51),
   none⟩, ⟨(some 10), .alloc 0 (rep 34 (.int .u32 0)), none⟩, ⟨none, .store 34 (.t 10) (.t 62), none⟩, ⟨(some 11), .mv (.t 63), none⟩]) (.seq (.keep [3, 4, 5, 6, 7, 8, 9,
   10, 11]) (.seq (.region 0 [⟨(some 65), .mv (.t 5), none⟩, ⟨(some 66), .load 34 true false (.t 10), none⟩, ⟨(some 67), .pcall 287 [.t 66], none⟩, ⟨(some 68),
   .pcall 280 [.t 65, .t 67], none⟩, ⟨(some 64), .mv (.t 68), none⟩, ⟨(some 69), .ext 0 (.t 64), none⟩, ⟨(some 70), .ext 1 (.t 64), none⟩, ⟨(some 12), .mv (.t 69), none⟩,
   ⟨(some 13), .mv (.t 70), none⟩]) (.seq (.keep [3, 4, 5, 6, 7, 8, 9, 11, 12, 13]) (.seq (.seq (.region 0 [⟨(some 71), .mv (.t 11), none⟩, ⟨(some 72), .mv (.t 71), none⟩,
   ⟨(some 73), .mv (.t 12), (some (72, true))⟩, ⟨(some 74), .mv (.t 8), (some (72, true))⟩, ⟨(some 75), .iaddr 1 (.t 73) (.t 74), (some (72, true))⟩, ⟨(some 76),
   .loadC 1 false (.t 75), (some (72, true))⟩, ⟨(some 77), .mv (.t 12), (some (72, true))⟩, ⟨(some 78), .mv (.t 9), (some (72, true))⟩, ⟨(some 79), .iaddr 1 (.t 77)
    (.t 78), (some (72, true))⟩, ⟨(some 80), .loadC 1 false (.t 79), (some (72, true))⟩, ⟨(some 81), .bin .eql (.t 76) (.t 80), (some (72, true))⟩, ⟨(some 82), .pick
    (.t 72) (.t 81) (.c (.bool false)), none⟩, ⟨(some 83), .mv (.t 82), none⟩, ⟨(some 84), .mv (.t 13), (some (83, true))⟩, ⟨(some 85), .mv (.t 8), (some (83, true))⟩,
   ⟨(some 86), .iaddr 1 (.t 84) (.t 85), (some (83, true))⟩, ⟨(some 87), .loadC 1 false (.t 86), (some (83, true))⟩, ⟨(some 88), .mv (.t 13), (some (83, true))⟩,
   ⟨(some 89), .mv (.t 9), (some (83, true))⟩, ⟨(some 90), .iaddr 1 (.t 88) (.t 89), (some (83, true))⟩, ⟨(some 91), .loadC 1 false (.t 90), (some (83, true))⟩,
   ⟨(some 92), .beq false (.t 87) (.t 91), (some (83, true))⟩, ⟨(some 93), .pick (.t 83) (.t 92) (.c (.bool false)), none⟩]) (.seq (.keep [3, 4, 5, 6, 7, 8, 9, 11, 93])
    (.cond (.t 93) (.seq (.region 0 [⟨(some 2), .mv (.c (.bool false)), none⟩]) (.ret)) (.skip)))) (.seq (.keep [3, 4, 5, 6, 7, 8, 9, 11]) (.seq (.region 0 [⟨(some 94),
   .mv (.t 6), none⟩, ⟨(some 95), .mv (.t 8), none⟩, ⟨(some 96), .iaddr 1 (.t 94) (.t 95), none⟩, ⟨(some 97), .load 1 false false (.t 96), none⟩, ⟨(some 98), .mv (.t 97),
   none⟩, ⟨(some 99), .mv (.t 6), (some (98, true))⟩, ⟨(some 100), .mv (.t 9), (some (98, true))⟩, ⟨(some 101), .iaddr 1 (.t 99) (.t 100), (some (98, true))⟩, ⟨(some 102),
   .load 1 false false (.t 101), (some (98, true))⟩, ⟨(some 103), .pick (.t 98) (.t 102) (.c (.bool false)), none⟩, ⟨(some 104), .mv (.t 103), none⟩, ⟨(some 105), .mv
    (.t 7), (some (104, false))⟩, ⟨(some 106), .mv (.t 8), (some (104, false))⟩, ⟨(some 107), .iaddr 1 (.t 105) (.t 106), (some (104, false))⟩, ⟨(some 108),
   .load 1 false false (.t 107), (some (104, false))⟩, ⟨(some 109), .mv (.t 108), (some (104, false))⟩, ⟨(some 110), .mv (.t 7), (some (109, true))⟩, ⟨(some 111), .mv
    (.t 9), (some (109, true))⟩, ⟨(some 112), .iaddr 1 (.t 110) (.t 111), (some (109, true))⟩, ⟨(some 113), .load 1 false false (.t 112), (some (109, true))⟩, ⟨(some 114),
   .pick (.t 109) (.t 113) (.c (.bool false)), (some (104, false))⟩, ⟨(some 115), .pick (.t 104) (.c (.bool true)) (.t 114), none⟩, ⟨(some 14), .mv (.t 115), none⟩])
    (.seq (.keep [3, 4, 5, 6, 7, 8, 9, 11, 14]) (.seq (.region 0 [⟨(some 116), .mv (.t 14), none⟩, ⟨(some 117), .mv (.t 116), none⟩, ⟨(some 118), .mv (.t 11), (some (117,
   true))⟩, ⟨(some 119), .mv (.t 4), (some (117, true))⟩, ⟨(some 120), .mv (.t 8), (some (117, true))⟩, ⟨(some 121), .iaddr 1 (.t 119) (.t 120), (some (117, true))⟩,
   ⟨(some 122), .loadC 1 false (.t 121), (some (117, true))⟩, ⟨(some 123), .mv (.t 4), (some (117, true))⟩, ⟨(some 124), .mv (.t 9), (some (117, true))⟩, ⟨(some 125),
   .iaddr 1 (.t 123) (.t 124), (some (117, true))⟩, ⟨(some 126), .loadC 1 false (.t 125), (some (117, true))⟩, ⟨(some 127), .bin .neq (.t 122) (.t 126), (some (117,
   true))⟩, ⟨(some 128), .beq true (.t 118) (.t 127), (some (117, true))⟩, ⟨(some 129), .pick (.t 117) (.t 128) (.c (.bool false)), none⟩]) (.seq (.keep [3, 4, 5, 6, 7, 8,
   9, 129]) (.cond (.t 129) (.seq (.region 0 [⟨(some 2), .mv (.c (.bool false)), none⟩]) (.ret)) (.skip))))))))))))))) (.seq (.keep [3, 4, 5, 6, 7, 8, 9])
    (.region 0 [⟨(some 35), .mv (.t 9), none⟩, ⟨(some 36), .bin .add (.t 35) (.c (.int .i64 1)), none⟩, ⟨(some 9), .mv (.t 36), none⟩]))))))))) (.seq (.keep [3, 4, 5, 6,
   7, 8]) (.region 0 [⟨(some 30), .mv (.t 8), none⟩, ⟨(some 31), .bin .add (.t 30) (.c (.int .i64 1)), none⟩, ⟨(some 8), .mv (.t 31), none⟩])))))))) (.seq (.keep [])
    (.seq (.region 0 [⟨(some 130), .pcall 284 [], none⟩, ⟨(some 2), .mv (.t 130), none⟩]) (.ret)))))))))),
  [.tmp 2]⟩
/-- A table that holds these. -/
class HasL16x (G : Tbl) : Prop where
  h_hurdlelaw16_SymExact : G 290 = some c_hurdlelaw16_SymExact
end Go.Ev
