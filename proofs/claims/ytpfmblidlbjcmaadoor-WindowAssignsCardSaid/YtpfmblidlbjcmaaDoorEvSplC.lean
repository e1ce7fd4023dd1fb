/- Simplified code of Go functions, by scode.py. -/
import Derived.Test.YtpfmblidlbjcmaaDoorEvInsC
namespace Go.Ev

/-- hurdle/window.Right -/
def c_window_Right : SFn := ⟨33,
  .seq (.region 0 [⟨(some 2), .mv (.c (.bool false)), none⟩]) (.seq (.seq (.region 0 [⟨(some 5), .mv (.t 0), none⟩, ⟨(some 6), .len false (.t 5), none⟩, ⟨(some 7), .bin .gtr
    (.t 6) (.c (.int .i64 32)), none⟩]) (.cond (.t 7) (.seq (.region 0 [⟨(some 2), .mv (.c (.bool false)), none⟩]) (.ret)) (.skip))) (.seq (.keep [0]) (.seq (.seq
    (.region 0 [⟨(some 8), .mv (.t 0), none⟩, ⟨(some 9), .len false (.t 8), none⟩, ⟨(some 10), .mv (.c (.int .i64 0)), none⟩]) (.block 0 (.loop [0, 8, 9, 10] (.seq
    (.region 0 [⟨(some 11), .bin .lss (.t 10) (.t 9), none⟩]) (.seq (.cond (.t 11) (.skip) (.exit 0)) (.seq (.block 1 (.seq (.region 1 [⟨(some 12), .iaddr 4 (.t 8)
    (.t 10), none⟩, ⟨(some 13), .load 4 true false (.t 12), none⟩, ⟨(some 4), .alloc 0 ([.int .i64 0, .int .i64 0, .int .i64 0, .int .u32 0]), none⟩, ⟨none, .store 4
    (.t 4) (.t 13), none⟩]) (.seq (.region 0 [⟨(some 14), .faddr 0 (.t 4), none⟩, ⟨(some 15), .load 1 false false (.t 14), none⟩, ⟨(some 16), .bin .eql (.t 15) (.c
    (.int .i64 5)), none⟩, ⟨(some 17), .mv (.t 16), none⟩, ⟨(some 18), .load 4 true false (.t 4), (some (17, false))⟩, ⟨(some 19), .pcall 142 [.t 18], (some (17, false))⟩,
   ⟨(some 20), .pick (.t 17) (.c (.bool true)) (.t 19), none⟩, ⟨(some 21), .mv (.t 20), none⟩, ⟨(some 22), .load 4 true false (.t 4), (some (21, false))⟩, ⟨(some 23),
   .pcall 143 [.t 22], (some (21, false))⟩, ⟨(some 24), .pick (.t 21) (.c (.bool true)) (.t 23), none⟩]) (.seq (.keep [0, 8, 9, 10, 24]) (.cond (.t 24) (.seq
    (.region 0 [⟨(some 2), .mv (.c (.bool false)), none⟩]) (.ret)) (.skip)))))) (.seq (.keep [0, 8, 9, 10]) (.region 0 [⟨(some 25), .bin .add (.t 10) (.c (.int .i64 1)),
   none⟩, ⟨(some 10), .mv (.t 25), none⟩])))))))) (.seq (.keep [0]) (.seq (.region 2 [⟨(some 26), .bslice 0 ([.int .i64 0, .int .i64 0, .int .i64 0, .int .u32 0]) [],
   none⟩, ⟨(some 27), .mv (.t 0), none⟩, ⟨(some 28), .app 0 4 32 (.t 26) (.t 27), none⟩, ⟨(some 29), .build ([.int .i64 0, .int .i64 0, .int .i64 0, .int .u32 0]) [(0, 1,
   .c (.int .i64 22))], none⟩, ⟨(some 30), .bslice 1 ([.int .i64 0, .int .i64 0, .int .i64 0, .int .u32 0]) [(0, .t 29)], none⟩, ⟨(some 31), .app 1 4 32 (.t 28) (.t 30),
   none⟩, ⟨(some 32), .pcall 157 [.t 31], none⟩, ⟨(some 2), .mv (.t 32), none⟩]) (.ret)))))),
  [.tmp 2]⟩

/-- hurdle/hurdleref17.Right -/
def c_hurdleref17_Right : SFn := ⟨41,
  .seq (.region 0 [⟨(some 2), .mv (.c (.bool false)), none⟩]) (.seq (.seq (.region 0 [⟨(some 3), .mv (.c (.int .i64 0)), none⟩]) (.block 0 (.loop [0, 3] (.seq (.seq
    (.region 0 [⟨(some 4), .mv (.t 3), none⟩, ⟨(some 5), .mv (.t 0), none⟩, ⟨(some 6), .len false (.t 5), none⟩, ⟨(some 7), .bin .lss (.t 4) (.t 6), none⟩]) (.seq
    (.keep [0, 3, 7]) (.cond (.t 7) (.skip) (.exit 0)))) (.seq (.keep [0, 3]) (.seq (.block 1 (.seq (.region 0 [⟨(some 10), .mv (.t 0), none⟩, ⟨(some 11), .mv (.t 3),
   none⟩, ⟨(some 12), .iaddr 4 (.t 10) (.t 11), none⟩, ⟨(some 13), .faddr 0 (.t 12), none⟩, ⟨(some 14), .load 1 false false (.t 13), none⟩, ⟨(some 15), .bin .eql (.t 14)
    (.c (.int .i64 5)), none⟩, ⟨(some 16), .mv (.t 15), none⟩, ⟨(some 17), .mv (.t 0), (some (16, false))⟩, ⟨(some 18), .mv (.t 3), (some (16, false))⟩, ⟨(some 19),
   .iaddr 4 (.t 17) (.t 18), (some (16, false))⟩, ⟨(some 20), .load 4 true false (.t 19), (some (16, false))⟩, ⟨(some 21), .pcall 180 [.t 20], (some (16, false))⟩,
   ⟨(some 22), .pick (.t 16) (.c (.bool true)) (.t 21), none⟩, ⟨(some 23), .mv (.t 22), none⟩, ⟨(some 24), .mv (.t 0), (some (23, false))⟩, ⟨(some 25), .mv (.t 3), (some
    (23, false))⟩, ⟨(some 26), .iaddr 4 (.t 24) (.t 25), (some (23, false))⟩, ⟨(some 27), .load 4 true false (.t 26), (some (23, false))⟩, ⟨(some 28), .pcall 181 [.t 27],
   (some (23, false))⟩, ⟨(some 29), .pick (.t 23) (.c (.bool true)) (.t 28), none⟩, ⟨(some 30), .mv (.t 29), none⟩, ⟨(some 31), .mv (.t 0), (some (30, false))⟩,
   ⟨(some 32), .mv (.t 3), (some (30, false))⟩, ⟨(some 33), .iaddr 4 (.t 31) (.t 32), (some (30, false))⟩, ⟨(some 34), .load 4 true false (.t 33), (some (30, false))⟩,
   ⟨(some 35), .pcall 186 [.t 34, .c (.int .i64 0), .c (.int .i64 2)], (some (30, false))⟩, ⟨(some 36), .bin .neq (.t 35) (.c (.int .i64 0)), (some (30, false))⟩,
   ⟨(some 37), .pick (.t 30) (.c (.bool true)) (.t 36), none⟩]) (.seq (.keep [0, 3, 37]) (.cond (.t 37) (.seq (.region 0 [⟨(some 2), .mv (.c (.bool false)), none⟩])
    (.ret)) (.skip))))) (.seq (.keep [0, 3]) (.region 0 [⟨(some 8), .mv (.t 3), none⟩, ⟨(some 9), .bin .add (.t 8) (.c (.int .i64 1)), none⟩, ⟨(some 3), .mv (.t 9),
   none⟩])))))))) (.seq (.keep [0]) (.seq (.region 0 [⟨(some 38), .mv (.t 0), none⟩, ⟨(some 39), .len false (.t 38), none⟩, ⟨(some 40), .bin .leq (.t 39) (.c
    (.int .i64 32)), none⟩, ⟨(some 2), .mv (.t 40), none⟩]) (.ret)))),
  [.tmp 2]⟩

/-- hurdle/splice.targets -/
def c_splice_targets : SFn := ⟨45,
  .seq (.region 0 [⟨(some 2), .mv (.c (.vs [] .full)), none⟩]) (.seq (.region 1 [⟨(some 6), .mv (.t 0), none⟩, ⟨(some 7), .len false (.t 6), none⟩, ⟨(some 8), .mksl 0 1
    ([.bool false]) (.t 7), none⟩, ⟨(some 3), .mv (.t 8), none⟩]) (.seq (.keep [0, 3]) (.seq (.seq (.region 0 [⟨(some 9), .mv (.t 0), none⟩, ⟨(some 10), .len false
    (.t 9), none⟩, ⟨(some 11), .mv (.c (.int .i64 0)), none⟩]) (.block 0 (.loop [3, 9, 10, 11] (.seq (.region 0 [⟨(some 12), .bin .lss (.t 11) (.t 10), none⟩]) (.seq
    (.cond (.t 12) (.skip) (.exit 0)) (.seq (.block 1 (.seq (.region 1 [⟨(some 13), .mv (.t 11), none⟩, ⟨(some 14), .iaddr 4 (.t 9) (.t 11), none⟩, ⟨(some 15),
   .load 4 true false (.t 14), none⟩, ⟨(some 5), .alloc 0 ([.int .i64 0, .int .i64 0, .int .i64 0, .int .u32 0]), none⟩, ⟨(some 4), .mv (.t 13), none⟩, ⟨none, .store 4
    (.t 5) (.t 15), none⟩]) (.seq (.keep [3, 4, 5, 9, 10, 11]) (.seq (.seq (.region 0 [⟨(some 16), .faddr 0 (.t 5), none⟩, ⟨(some 17), .load 1 false false (.t 16), none⟩,
   ⟨(some 18), .bin .eql (.t 17) (.c (.int .i64 5)), none⟩]) (.cond (.t 18) (.region 0 [⟨(some 19), .mv (.t 3), none⟩, ⟨(some 20), .mv (.t 4), none⟩, ⟨(some 21), .bin .add
    (.t 20) (.c (.int .i64 1)), none⟩, ⟨(some 22), .faddr 3 (.t 5), none⟩, ⟨(some 23), .load 1 false false (.t 22), none⟩, ⟨(some 24), .conv .i64 (.t 23), none⟩,
   ⟨(some 25), .bin .add (.t 21) (.t 24), none⟩, ⟨(some 26), .iaddr 1 (.t 19) (.t 25), none⟩, ⟨none, .store 1 (.t 26) (.c (.bool true)), none⟩]) (.skip))) (.seq
    (.keep [3, 4, 5, 9, 10, 11]) (.seq (.region 0 [⟨(some 27), .load 4 true false (.t 5), none⟩, ⟨(some 28), .pcall 142 [.t 27], none⟩]) (.cond (.t 28)
    (.region 0 [⟨(some 29), .mv (.t 3), none⟩, ⟨(some 30), .mv (.t 4), none⟩, ⟨(some 31), .bin .add (.t 30) (.c (.int .i64 1)), none⟩, ⟨(some 32), .faddr 1 (.t 5), none⟩,
   ⟨(some 33), .loadR 1 false 5 (.t 32), none⟩, ⟨(some 34), .bin .add (.t 31) (.t 33), none⟩, ⟨(some 35), .mv (.t 3), none⟩, ⟨(some 36), .mv (.t 4), none⟩, ⟨(some 37),
   .bin .add (.t 36) (.c (.int .i64 1)), none⟩, ⟨(some 38), .faddr 2 (.t 5), none⟩, ⟨(some 39), .loadR 1 false 5 (.t 38), none⟩, ⟨(some 40), .bin .add (.t 37) (.t 39),
   none⟩, ⟨(some 41), .iaddr 1 (.t 29) (.t 34), none⟩, ⟨none, .storeA 1 [5] (.t 41) (.c (.bool true)), none⟩, ⟨(some 42), .iaddr 1 (.t 35) (.t 40), none⟩, ⟨none,
   .storeA 1 [5] (.t 42) (.c (.bool true)), none⟩]) (.skip)))))))) (.seq (.keep [3, 9, 10, 11]) (.region 0 [⟨(some 43), .bin .add (.t 11) (.c (.int .i64 1)), none⟩,
   ⟨(some 11), .mv (.t 43), none⟩])))))))) (.seq (.keep [3]) (.seq (.region 0 [⟨(some 44), .mv (.t 3), none⟩, ⟨(some 2), .mv (.t 44), none⟩]) (.ret)))))),
  [.tmp 2]⟩

/-- hurdle/splice.free -/
def c_splice_free : SFn := ⟨53,
  .seq (.region 0 [⟨(some 8), .mv (.c (.bool false)), none⟩]) (.seq (.seq (.region 0 [⟨(some 10), .mv (.t 2), none⟩, ⟨(some 11), .bin .lss (.t 10) (.c (.int .i64 0)), none⟩,
   ⟨(some 12), .mv (.t 11), none⟩, ⟨(some 13), .mv (.t 3), (some (12, false))⟩, ⟨(some 14), .bin .lss (.t 13) (.c (.int .i64 1)), (some (12, false))⟩, ⟨(some 15), .pick
    (.t 12) (.c (.bool true)) (.t 14), none⟩, ⟨(some 16), .mv (.t 15), none⟩, ⟨(some 17), .mv (.t 2), (some (16, false))⟩, ⟨(some 18), .mv (.t 0), (some (16, false))⟩,
   ⟨(some 19), .len false (.t 18), (some (16, false))⟩, ⟨(some 20), .bin .geq (.t 17) (.t 19), (some (16, false))⟩, ⟨(some 21), .pick (.t 16) (.c (.bool true)) (.t 20),
   none⟩, ⟨(some 22), .mv (.t 21), none⟩, ⟨(some 23), .mv (.t 3), (some (22, false))⟩, ⟨(some 24), .mv (.t 0), (some (22, false))⟩, ⟨(some 25), .len false (.t 24), (some
    (22, false))⟩, ⟨(some 26), .mv (.t 2), (some (22, false))⟩, ⟨(some 27), .bin .sub (.t 25) (.t 26), (some (22, false))⟩, ⟨(some 28), .bin .gtr (.t 23) (.t 27), (some
    (22, false))⟩, ⟨(some 29), .pick (.t 22) (.c (.bool true)) (.t 28), none⟩, ⟨(some 30), .mv (.t 29), none⟩, ⟨(some 31), .mv (.t 0), (some (30, false))⟩, ⟨(some 32), .mv
    (.t 2), (some (30, false))⟩, ⟨(some 33), .mv (.t 2), (some (30, false))⟩, ⟨(some 34), .mv (.t 3), (some (30, false))⟩, ⟨(some 35), .bin .add (.t 33) (.t 34), (some
    (30, false))⟩, ⟨(some 36), .slc 4 (.t 31) (some (.t 32)) (some (.t 35)) none, (some (30, false))⟩, ⟨(some 37), .pcall 202 [.t 36], (some (30, false))⟩, ⟨(some 38),
   .un .not (.t 37), (some (30, false))⟩, ⟨(some 39), .pick (.t 30) (.c (.bool true)) (.t 38), none⟩]) (.seq (.keep [1, 2, 3, 39]) (.cond (.t 39) (.seq
    (.region 0 [⟨(some 8), .mv (.c (.bool false)), none⟩]) (.ret)) (.skip)))) (.seq (.keep [1, 2, 3]) (.seq (.seq (.region 0 [⟨(some 40), .mv (.t 2), none⟩, ⟨(some 41),
   .bin .add (.t 40) (.c (.int .i64 1)), none⟩, ⟨(some 9), .mv (.t 41), none⟩]) (.block 0 (.loop [1, 2, 3, 9] (.seq (.seq (.region 0 [⟨(some 42), .mv (.t 9), none⟩,
   ⟨(some 43), .mv (.t 2), none⟩, ⟨(some 44), .mv (.t 3), none⟩, ⟨(some 45), .bin .add (.t 43) (.t 44), none⟩, ⟨(some 46), .bin .lss (.t 42) (.t 45), none⟩]) (.seq
    (.keep [1, 2, 3, 9, 46]) (.cond (.t 46) (.skip) (.exit 0)))) (.seq (.keep [1, 2, 3, 9]) (.seq (.block 1 (.seq (.region 0 [⟨(some 49), .mv (.t 1), none⟩, ⟨(some 50),
   .mv (.t 9), none⟩, ⟨(some 51), .iaddr 1 (.t 49) (.t 50), none⟩, ⟨(some 52), .load 1 false false (.t 51), none⟩]) (.seq (.keep [1, 2, 3, 9, 52]) (.cond (.t 52) (.seq
    (.region 0 [⟨(some 8), .mv (.c (.bool false)), none⟩]) (.ret)) (.skip))))) (.seq (.keep [1, 2, 3, 9]) (.region 0 [⟨(some 47), .mv (.t 9), none⟩, ⟨(some 48), .bin .add
    (.t 47) (.c (.int .i64 1)), none⟩, ⟨(some 9), .mv (.t 48), none⟩])))))))) (.seq (.keep []) (.seq (.region 0 [⟨(some 8), .mv (.c (.bool true)), none⟩]) (.ret)))))),
  [.tmp 8]⟩

/-- hurdle/splice.Free -/
def c_splice_Free : SFn := ⟨17,
  .seq (.region 0 [⟨(some 6), .mv (.c (.bool false)), none⟩]) (.seq (.region 0 [⟨(some 7), .mv (.t 0), none⟩, ⟨(some 8), .pcall 157 [.t 7], none⟩, ⟨(some 9), .mv (.t 8),
   none⟩, ⟨(some 10), .mv (.t 0), (some (9, true))⟩, ⟨(some 11), .mv (.t 0), (some (9, true))⟩, ⟨(some 12), .pcall 204 [.t 11], (some (9, true))⟩, ⟨(some 13), .mv (.t 1),
   (some (9, true))⟩, ⟨(some 14), .mv (.t 2), (some (9, true))⟩, ⟨(some 15), .pcall 205 [.t 10, .t 12, .t 13, .t 14], (some (9, true))⟩, ⟨(some 16), .pick (.t 9) (.t 15)
    (.c (.bool false)), none⟩, ⟨(some 6), .mv (.t 16), none⟩]) (.ret)),
  [.tmp 6]⟩

/-- hurdle/splice.Put$1 -/
def c_splice_Put_1 : SFn := ⟨23,
  .seq (.region 0 [⟨(some 7), .mv (.c (.int .i64 0)), none⟩]) (.seq (.seq (.region 0 [⟨(some 8), .mv (.t 0), none⟩, ⟨(some 9), .load 1 false false (.t 2), none⟩, ⟨(some 10),
   .bin .lss (.t 8) (.t 9), none⟩, ⟨(some 11), .mv (.t 10), none⟩, ⟨(some 12), .mv (.t 0), (some (11, true))⟩, ⟨(some 13), .bin .add (.t 12) (.c (.int .i64 1)), (some
    (11, true))⟩, ⟨(some 14), .mv (.t 1), (some (11, true))⟩, ⟨(some 15), .bin .add (.t 13) (.t 14), (some (11, true))⟩, ⟨(some 16), .load 1 false false (.t 3), (some
    (11, true))⟩, ⟨(some 17), .bin .geq (.t 15) (.t 16), (some (11, true))⟩, ⟨(some 18), .pick (.t 11) (.t 17) (.c (.bool false)), none⟩]) (.seq (.keep [1, 4, 18]) (.cond
    (.t 18) (.seq (.region 0 [⟨(some 19), .mv (.t 1), none⟩, ⟨(some 20), .load 1 false false (.t 4), none⟩, ⟨(some 21), .bin .sub (.t 19) (.t 20), none⟩, ⟨(some 7), .mv
    (.t 21), none⟩]) (.ret)) (.skip)))) (.seq (.keep [1]) (.seq (.region 0 [⟨(some 22), .mv (.t 1), none⟩, ⟨(some 7), .mv (.t 22), none⟩]) (.ret)))),
  [.tmp 7]⟩

/-- hurdle/splice.Put -/
def c_splice_Put : SFn := ⟨94,
  .seq (.region 1 [⟨(some 5), .box 0 (.t 1), none⟩, ⟨(some 8), .mv (.c (.vs [] .full)), none⟩, ⟨(some 9), .mv (.c (.int .i64 0)), none⟩]) (.seq (.seq
    (.region 0 [⟨(some 16), .mv (.t 0), none⟩, ⟨(some 17), .load 1 false false (.t 5), none⟩, ⟨(some 18), .mv (.t 2), none⟩, ⟨(some 19), .pcall 206 [.t 16, .t 17, .t 18],
   none⟩, ⟨(some 20), .un .not (.t 19), none⟩, ⟨(some 21), .mv (.t 20), none⟩, ⟨(some 22), .mv (.t 3), (some (21, false))⟩, ⟨(some 23), .pcall 202 [.t 22], (some (21,
   false))⟩, ⟨(some 24), .un .not (.t 23), (some (21, false))⟩, ⟨(some 25), .pick (.t 21) (.c (.bool true)) (.t 24), none⟩, ⟨(some 26), .mv (.t 25), none⟩, ⟨(some 27), .mv
    (.t 3), (some (26, false))⟩, ⟨(some 28), .len false (.t 27), (some (26, false))⟩, ⟨(some 29), .mv (.t 2), (some (26, false))⟩, ⟨(some 30), .bin .gtr (.t 28) (.t 29),
   (some (26, false))⟩, ⟨(some 31), .pick (.t 26) (.c (.bool true)) (.t 30), none⟩]) (.seq (.keep [0, 2, 3, 5, 31]) (.cond (.t 31) (.seq (.region 0 [⟨(some 8), .mv (.c
    (.vs [] .full)), none⟩, ⟨(some 9), .mv (.c (.int .i64 1)), none⟩]) (.ret)) (.skip)))) (.seq (.keep [0, 2, 3, 5]) (.seq (.region 1 [⟨(some 32), .load 1 false false
    (.t 5), none⟩, ⟨(some 33), .mv (.t 2), none⟩, ⟨(some 34), .bin .add (.t 32) (.t 33), none⟩, ⟨(some 10), .alloc 0 ([.int .i64 0]), none⟩, ⟨none, .store 1 (.t 10)
    (.t 34), none⟩]) (.seq (.keep [0, 2, 3, 5, 10]) (.seq (.region 1 [⟨(some 35), .mv (.t 2), none⟩, ⟨(some 36), .mv (.t 3), none⟩, ⟨(some 37), .len false (.t 36), none⟩,
   ⟨(some 38), .bin .sub (.t 35) (.t 37), none⟩, ⟨(some 11), .alloc 0 ([.int .i64 0]), none⟩, ⟨none, .store 1 (.t 11) (.t 38), none⟩]) (.seq (.keep [0, 3, 5, 10, 11])
    (.seq (.region 0 [⟨(some 39), .mkfn 207 [.t 5, .t 10, .t 11], none⟩, ⟨(some 12), .mv (.t 39), none⟩]) (.seq (.region 0 [⟨(some 13), .mv (.c (.vs [] .full)), none⟩])
    (.seq (.seq (.region 0 [⟨(some 40), .mv (.t 0), none⟩, ⟨(some 41), .len false (.t 40), none⟩, ⟨(some 42), .mv (.c (.int .i64 0)), none⟩]) (.seq (.give 13 none)
    (.block 0 (.loop [3, 5, 10, 12, 13, 40, 41, 42] (.seq (.region 0 [⟨(some 43), .bin .lss (.t 42) (.t 41), none⟩]) (.seq (.cond (.t 43) (.skip) (.exit 0)) (.seq
    (.block 1 (.seq (.region 1 [⟨(some 44), .mv (.t 42), none⟩, ⟨(some 45), .iaddr 4 (.t 40) (.t 42), none⟩, ⟨(some 46), .load 4 true false (.t 45), none⟩, ⟨(some 15),
   .alloc 0 ([.int .i64 0, .int .i64 0, .int .i64 0, .int .u32 0]), none⟩, ⟨(some 14), .mv (.t 44), none⟩, ⟨none, .store 4 (.t 15) (.t 46), none⟩]) (.seq (.keep [3, 5, 10,
   12, 13, 14, 15, 40, 41, 42]) (.seq (.seq (.region 0 [⟨(some 47), .mv (.t 14), none⟩, ⟨(some 48), .load 1 false false (.t 5), none⟩, ⟨(some 49), .bin .eql (.t 47)
    (.t 48), none⟩]) (.cond (.t 49) (.region 1 [⟨(some 50), .mv (.t 13), none⟩, ⟨(some 51), .mv (.t 3), none⟩, ⟨(some 52), .app 0 4 32 (.t 50) (.t 51), none⟩, ⟨(some 13),
   .mv (.t 52), none⟩]) (.skip))) (.seq (.keep [3, 5, 10, 12, 13, 14, 15, 40, 41, 42]) (.seq (.seq (.region 0 [⟨(some 53), .mv (.t 14), none⟩, ⟨(some 54),
   .load 1 false false (.t 5), none⟩, ⟨(some 55), .bin .geq (.t 53) (.t 54), none⟩, ⟨(some 56), .mv (.t 55), none⟩, ⟨(some 57), .mv (.t 14), (some (56, true))⟩,
   ⟨(some 58), .load 1 false false (.t 10), (some (56, true))⟩, ⟨(some 59), .bin .lss (.t 57) (.t 58), (some (56, true))⟩, ⟨(some 60), .pick (.t 56) (.t 59) (.c
    (.bool false)), none⟩]) (.seq (.keep [3, 5, 10, 12, 13, 14, 15, 40, 41, 42, 60]) (.cond (.t 60) (.exit 1) (.skip)))) (.seq (.keep [3, 5, 10, 12, 13, 14, 15, 40, 41,
   42]) (.seq (.block 2 (.seq (.region 0 [⟨(some 62), .faddr 0 (.t 15), none⟩, ⟨(some 63), .load 1 false false (.t 62), none⟩, ⟨(some 64), .bin .eql (.t 63) (.c
    (.int .i64 5)), none⟩, ⟨(some 61), .mv (.t 64), none⟩]) (.seq (.keep [3, 5, 10, 12, 13, 14, 15, 40, 41, 42, 61]) (.cond (.t 61) (.region 0 [⟨(some 65), .mv (.t 12),
   none⟩, ⟨(some 66), .mv (.t 14), none⟩, ⟨(some 67), .faddr 3 (.t 15), none⟩, ⟨(some 68), .load 1 false false (.t 67), none⟩, ⟨(some 69), .conv .i64 (.t 68), none⟩,
   ⟨(some 70), .vcall false (.t 65) [.t 66, .t 69], none⟩, ⟨(some 71), .conv .u32 (.t 70), none⟩, ⟨(some 72), .faddr 3 (.t 15), none⟩, ⟨none, .store 1 (.t 72) (.t 71),
   none⟩]) (.seq (.region 0 [⟨(some 74), .load 4 true false (.t 15), none⟩, ⟨(some 75), .pcall 142 [.t 74], none⟩, ⟨(some 73), .mv (.t 75), none⟩]) (.cond (.t 73)
    (.region 0 [⟨(some 76), .mv (.t 12), none⟩, ⟨(some 77), .mv (.t 14), none⟩, ⟨(some 78), .faddr 1 (.t 15), none⟩, ⟨(some 79), .load 1 false true (.t 78), none⟩,
   ⟨(some 80), .vcall true (.t 76) [.t 77, .t 79], none⟩, ⟨(some 81), .mv (.t 12), none⟩, ⟨(some 82), .mv (.t 14), none⟩, ⟨(some 83), .faddr 2 (.t 15), none⟩, ⟨(some 84),
   .load 1 false true (.t 83), none⟩, ⟨(some 85), .vcall true (.t 81) [.t 82, .t 84], none⟩, ⟨(some 86), .faddr 1 (.t 15), none⟩, ⟨none, .store 1 (.t 86) (.t 80), none⟩,
   ⟨(some 87), .faddr 2 (.t 15), none⟩, ⟨none, .store 1 (.t 87) (.t 85), none⟩]) (.skip))))))) (.seq (.keep [3, 5, 10, 12, 13, 15, 40, 41, 42]) (.region 1 [⟨(some 88), .mv
    (.t 13), none⟩, ⟨(some 89), .load 4 true false (.t 15), none⟩, ⟨(some 90), .bslice 1 ([.int .i64 0, .int .i64 0, .int .i64 0, .int .u32 0]) [(0, .t 89)], none⟩,
   ⟨(some 91), .app 0 4 32 (.t 88) (.t 90), none⟩, ⟨(some 13), .mv (.t 91), none⟩])))))))))) (.seq (.keep [3, 5, 10, 12, 13, 40, 41, 42]) (.region 0 [⟨(some 92), .bin .add
    (.t 42) (.c (.int .i64 1)), none⟩, ⟨(some 42), .mv (.t 92), none⟩]))))))))) (.seq (.keep [13]) (.seq (.region 0 [⟨(some 93), .mv (.t 13), none⟩, ⟨(some 8), .mv
    (.t 93), none⟩, ⟨(some 9), .mv (.c (.int .i64 0)), none⟩]) (.ret)))))))))))),
  [.tmp 8, .tmp 9]⟩

/-- hurdle/splice.Pieces -/
def c_splice_Pieces : SFn := ⟨42,
  .seq (.region 0 [⟨(some 4), .mv (.c (.vs [] .full)), none⟩]) (.seq (.seq (.region 0 [⟨(some 9), .mv (.t 0), none⟩, ⟨(some 10), .pcall 157 [.t 9], none⟩, ⟨(some 11),
   .un .not (.t 10), none⟩]) (.cond (.t 11) (.seq (.region 0 [⟨(some 4), .mv (.c (.vs [] .full)), none⟩]) (.ret)) (.skip))) (.seq (.keep [0, 1]) (.seq
    (.region 0 [⟨(some 12), .mv (.t 0), none⟩, ⟨(some 13), .pcall 204 [.t 12], none⟩, ⟨(some 5), .mv (.t 13), none⟩]) (.seq (.region 0 [⟨(some 6), .mv (.c
    (.vs [] .full)), none⟩]) (.seq (.seq (.region 0 [⟨(some 14), .mv (.t 0), none⟩, ⟨(some 15), .len false (.t 14), none⟩, ⟨(some 16), .mv (.c (.int .i64 0)), none⟩])
    (.seq (.give 6 none) (.block 0 (.loop [0, 1, 5, 6, 15, 16] (.seq (.region 0 [⟨(some 17), .bin .lss (.t 16) (.t 15), none⟩]) (.seq (.cond (.t 17) (.skip) (.exit 0))
    (.seq (.block 1 (.seq (.region 0 [⟨(some 18), .mv (.t 16), none⟩, ⟨(some 7), .mv (.t 18), none⟩]) (.seq (.region 0 [⟨(some 19), .mv (.t 1), none⟩, ⟨(some 20), .mv
    (.t 0), none⟩, ⟨(some 21), .len false (.t 20), none⟩, ⟨(some 22), .mv (.t 7), none⟩, ⟨(some 23), .bin .sub (.t 21) (.t 22), none⟩, ⟨(some 24), .mm false [.t 19, .t 23,
   .c (.int .i64 32)], none⟩, ⟨(some 8), .mv (.t 24), none⟩]) (.seq (.keep [0, 1, 5, 6, 7, 8, 15, 16]) (.seq (.give 6 none) (.block 2 (.loop [0, 1, 5, 6, 7, 8, 15, 16]
    (.seq (.seq (.region 0 [⟨(some 25), .mv (.t 8), none⟩, ⟨(some 26), .bin .geq (.t 25) (.c (.int .i64 2)), none⟩]) (.cond (.t 26) (.skip) (.exit 2))) (.seq (.block 3
    (.seq (.region 0 [⟨(some 29), .mv (.t 0), none⟩, ⟨(some 30), .mv (.t 5), none⟩, ⟨(some 31), .mv (.t 7), none⟩, ⟨(some 32), .mv (.t 8), none⟩, ⟨(some 33),
   .pcall 205 [.t 29, .t 30, .t 31, .t 32], none⟩]) (.seq (.keep [0, 1, 5, 6, 7, 8, 15, 16, 33]) (.cond (.t 33) (.region 1 [⟨(some 34), .mv (.t 6), none⟩, ⟨(some 35), .mv
    (.t 7), none⟩, ⟨(some 36), .mv (.t 8), none⟩, ⟨(some 37), .build ([.int .i64 0, .int .i64 0]) [(0, 1, .t 35), (1, 1, .t 36)], none⟩, ⟨(some 38), .bslice 1
    ([.int .i64 0, .int .i64 0]) [(0, .t 37)], none⟩, ⟨(some 39), .app 0 2 16 (.t 34) (.t 38), none⟩, ⟨(some 6), .mv (.t 39), none⟩]) (.skip))))) (.seq (.keep [0, 1, 5, 6,
   7, 8, 15, 16]) (.region 0 [⟨(some 27), .mv (.t 8), none⟩, ⟨(some 28), .bin .sub (.t 27) (.c (.int .i64 1)), none⟩, ⟨(some 8), .mv (.t 28), none⟩]))))))))))) (.seq
    (.keep [0, 1, 5, 6, 15, 16]) (.region 0 [⟨(some 40), .bin .add (.t 16) (.c (.int .i64 1)), none⟩, ⟨(some 16), .mv (.t 40), none⟩]))))))))) (.seq (.keep [6]) (.seq
    (.region 0 [⟨(some 41), .mv (.t 6), none⟩, ⟨(some 4), .mv (.t 41), none⟩]) (.ret)))))))),
  [.tmp 4]⟩

/-- hurdle/hurdleref22.jumps -/
def c_hurdleref22_jumps : SFn := ⟨45,
  .seq (.region 0 [⟨(some 6), .mv (.c (.bool false)), none⟩]) (.seq (.region 1 [⟨(some 8), .mv (.t 0), none⟩, ⟨(some 9), .mv (.t 1), none⟩, ⟨(some 10), .iaddr 4 (.t 8)
    (.t 9), none⟩, ⟨(some 11), .load 4 true false (.t 10), none⟩, ⟨(some 7), .alloc 0 ([.int .i64 0, .int .i64 0, .int .i64 0, .int .u32 0]), none⟩, ⟨none, .store 4
    (.t 7) (.t 11), none⟩]) (.seq (.keep [1, 2, 7]) (.seq (.seq (.region 0 [⟨(some 12), .faddr 0 (.t 7), none⟩, ⟨(some 13), .load 1 false false (.t 12), none⟩, ⟨(some 14),
   .bin .eql (.t 13) (.c (.int .i64 5)), none⟩]) (.cond (.t 14) (.seq (.region 0 [⟨(some 15), .mv (.t 1), none⟩, ⟨(some 16), .conv .u64 (.t 15), none⟩, ⟨(some 17),
   .bin .add (.t 16) (.c (.int .u64 1)), none⟩, ⟨(some 18), .faddr 3 (.t 7), none⟩, ⟨(some 19), .load 1 false false (.t 18), none⟩, ⟨(some 20), .conv .u64 (.t 19), none⟩,
   ⟨(some 21), .bin .add (.t 17) (.t 20), none⟩, ⟨(some 22), .mv (.t 2), none⟩, ⟨(some 23), .conv .u64 (.t 22), none⟩, ⟨(some 24), .bin .eql (.t 21) (.t 23), none⟩,
   ⟨(some 6), .mv (.t 24), none⟩]) (.ret)) (.skip))) (.seq (.keep [1, 2, 7]) (.seq (.region 0 [⟨(some 25), .load 4 true false (.t 7), none⟩, ⟨(some 26),
   .pcall 180 [.t 25], none⟩, ⟨(some 27), .mv (.t 26), none⟩, ⟨(some 28), .mv (.t 1), (some (27, true))⟩, ⟨(some 29), .bin .add (.t 28) (.c (.int .i64 1)), (some (27,
   true))⟩, ⟨(some 30), .faddr 1 (.t 7), (some (27, true))⟩, ⟨(some 31), .load 1 false false (.t 30), (some (27, true))⟩, ⟨(some 32), .bin .add (.t 29) (.t 31), (some
    (27, true))⟩, ⟨(some 33), .mv (.t 2), (some (27, true))⟩, ⟨(some 34), .bin .eql (.t 32) (.t 33), (some (27, true))⟩, ⟨(some 35), .mv (.t 34), (some (27, true))⟩,
   ⟨(some 36), .mv (.t 1), (some (35, false))⟩, ⟨(some 37), .bin .add (.t 36) (.c (.int .i64 1)), (some (35, false))⟩, ⟨(some 38), .faddr 2 (.t 7), (some (35, false))⟩,
   ⟨(some 39), .load 1 false false (.t 38), (some (35, false))⟩, ⟨(some 40), .bin .add (.t 37) (.t 39), (some (35, false))⟩, ⟨(some 41), .mv (.t 2), (some (35, false))⟩,
   ⟨(some 42), .bin .eql (.t 40) (.t 41), (some (35, false))⟩, ⟨(some 43), .pick (.t 35) (.c (.bool true)) (.t 42), (some (27, true))⟩, ⟨(some 44), .pick (.t 27) (.t 43)
    (.c (.bool false)), none⟩, ⟨(some 6), .mv (.t 44), none⟩]) (.ret)))))),
  [.tmp 6]⟩

/-- hurdle/hurdleref22.Free -/
def c_hurdleref22_Free : SFn := ⟨63,
  .seq (.region 0 [⟨(some 6), .mv (.c (.bool false)), none⟩]) (.seq (.seq (.region 0 [⟨(some 9), .mv (.t 0), none⟩, ⟨(some 10), .pcall 188 [.t 9], none⟩, ⟨(some 11),
   .un .not (.t 10), none⟩, ⟨(some 12), .mv (.t 11), none⟩, ⟨(some 13), .mv (.t 1), (some (12, false))⟩, ⟨(some 14), .bin .lss (.t 13) (.c (.int .i64 0)), (some (12,
   false))⟩, ⟨(some 15), .pick (.t 12) (.c (.bool true)) (.t 14), none⟩, ⟨(some 16), .mv (.t 15), none⟩, ⟨(some 17), .mv (.t 2), (some (16, false))⟩, ⟨(some 18), .bin .lss
    (.t 17) (.c (.int .i64 1)), (some (16, false))⟩, ⟨(some 19), .pick (.t 16) (.c (.bool true)) (.t 18), none⟩, ⟨(some 20), .mv (.t 19), none⟩, ⟨(some 21), .mv (.t 1),
   (some (20, false))⟩, ⟨(some 22), .mv (.t 0), (some (20, false))⟩, ⟨(some 23), .len false (.t 22), (some (20, false))⟩, ⟨(some 24), .bin .geq (.t 21) (.t 23), (some
    (20, false))⟩, ⟨(some 25), .pick (.t 20) (.c (.bool true)) (.t 24), none⟩, ⟨(some 26), .mv (.t 25), none⟩, ⟨(some 27), .mv (.t 2), (some (26, false))⟩, ⟨(some 28), .mv
    (.t 0), (some (26, false))⟩, ⟨(some 29), .len false (.t 28), (some (26, false))⟩, ⟨(some 30), .mv (.t 1), (some (26, false))⟩, ⟨(some 31), .bin .sub (.t 29) (.t 30),
   (some (26, false))⟩, ⟨(some 32), .bin .gtr (.t 27) (.t 31), (some (26, false))⟩, ⟨(some 33), .pick (.t 26) (.c (.bool true)) (.t 32), none⟩, ⟨(some 34), .mv (.t 33),
   none⟩, ⟨(some 35), .mv (.t 0), (some (34, false))⟩, ⟨(some 36), .mv (.t 1), (some (34, false))⟩, ⟨(some 37), .mv (.t 1), (some (34, false))⟩, ⟨(some 38), .mv (.t 2),
   (some (34, false))⟩, ⟨(some 39), .bin .add (.t 37) (.t 38), (some (34, false))⟩, ⟨(some 40), .slc 4 (.t 35) (some (.t 36)) (some (.t 39)) none, (some (34, false))⟩,
   ⟨(some 41), .pcall 203 [.t 40], (some (34, false))⟩, ⟨(some 42), .un .not (.t 41), (some (34, false))⟩, ⟨(some 43), .pick (.t 34) (.c (.bool true)) (.t 42), none⟩])
    (.seq (.keep [0, 1, 2, 43]) (.cond (.t 43) (.seq (.region 0 [⟨(some 6), .mv (.c (.bool false)), none⟩]) (.ret)) (.skip)))) (.seq (.keep [0, 1, 2]) (.seq (.seq
    (.region 0 [⟨(some 44), .mv (.t 1), none⟩, ⟨(some 45), .bin .add (.t 44) (.c (.int .i64 1)), none⟩, ⟨(some 7), .mv (.t 45), none⟩]) (.block 0 (.loop [0, 1, 2, 7]
    (.seq (.seq (.region 0 [⟨(some 46), .mv (.t 7), none⟩, ⟨(some 47), .mv (.t 1), none⟩, ⟨(some 48), .mv (.t 2), none⟩, ⟨(some 49), .bin .add (.t 47) (.t 48), none⟩,
   ⟨(some 50), .bin .lss (.t 46) (.t 49), none⟩]) (.seq (.keep [0, 1, 2, 7, 50]) (.cond (.t 50) (.skip) (.exit 0)))) (.seq (.keep [0, 1, 2, 7]) (.seq (.block 1 (.seq
    (.region 0 [⟨(some 8), .mv (.c (.int .i64 0)), none⟩]) (.block 2 (.loop [0, 1, 2, 7, 8] (.seq (.seq (.region 0 [⟨(some 53), .mv (.t 8), none⟩, ⟨(some 54), .mv (.t 0),
   none⟩, ⟨(some 55), .len false (.t 54), none⟩, ⟨(some 56), .bin .lss (.t 53) (.t 55), none⟩]) (.seq (.keep [0, 1, 2, 7, 8, 56]) (.cond (.t 56) (.skip) (.exit 2))))
    (.seq (.keep [0, 1, 2, 7, 8]) (.seq (.block 3 (.seq (.region 0 [⟨(some 59), .mv (.t 0), none⟩, ⟨(some 60), .mv (.t 8), none⟩, ⟨(some 61), .mv (.t 7), none⟩,
   ⟨(some 62), .pcall 210 [.t 59, .t 60, .t 61], none⟩]) (.seq (.keep [0, 1, 2, 7, 8, 62]) (.cond (.t 62) (.seq (.region 0 [⟨(some 6), .mv (.c (.bool false)), none⟩])
    (.ret)) (.skip))))) (.seq (.keep [0, 1, 2, 7, 8]) (.region 0 [⟨(some 57), .mv (.t 8), none⟩, ⟨(some 58), .bin .add (.t 57) (.c (.int .i64 1)), none⟩, ⟨(some 8), .mv
    (.t 58), none⟩]))))))))) (.seq (.keep [0, 1, 2, 7]) (.region 0 [⟨(some 51), .mv (.t 7), none⟩, ⟨(some 52), .bin .add (.t 51) (.c (.int .i64 1)), none⟩, ⟨(some 7), .mv
    (.t 52), none⟩])))))))) (.seq (.keep []) (.seq (.region 0 [⟨(some 6), .mv (.c (.bool true)), none⟩]) (.ret)))))),
  [.tmp 6]⟩

/-- hurdle/hurdleref22.place -/
def c_hurdleref22_place : SFn := ⟨18,
  .seq (.region 0 [⟨(some 8), .mv (.c (.int .i64 0)), none⟩]) (.seq (.seq (.region 0 [⟨(some 9), .mv (.t 0), none⟩, ⟨(some 10), .mv (.t 1), none⟩, ⟨(some 11), .bin .leq
    (.t 9) (.t 10), none⟩]) (.cond (.t 11) (.seq (.region 0 [⟨(some 12), .mv (.t 0), none⟩, ⟨(some 8), .mv (.t 12), none⟩]) (.ret)) (.skip))) (.seq (.keep [0, 2, 3])
    (.seq (.region 0 [⟨(some 13), .mv (.t 0), none⟩, ⟨(some 14), .mv (.t 2), none⟩, ⟨(some 15), .bin .sub (.t 13) (.t 14), none⟩, ⟨(some 16), .mv (.t 3), none⟩,
   ⟨(some 17), .bin .add (.t 15) (.t 16), none⟩, ⟨(some 8), .mv (.t 17), none⟩]) (.ret)))),
  [.tmp 8]⟩

/-- hurdle/hurdleref22.Put -/
def c_hurdleref22_Put : SFn := ⟨132,
  .seq (.region 0 [⟨(some 8), .mv (.c (.vs [] .full)), none⟩, ⟨(some 9), .mv (.c (.int .i64 0)), none⟩]) (.seq (.seq (.region 0 [⟨(some 14), .mv (.t 0), none⟩, ⟨(some 15),
   .mv (.t 1), none⟩, ⟨(some 16), .mv (.t 2), none⟩, ⟨(some 17), .pcall 211 [.t 14, .t 15, .t 16], none⟩, ⟨(some 18), .un .not (.t 17), none⟩, ⟨(some 19), .mv (.t 18),
   none⟩, ⟨(some 20), .mv (.t 3), (some (19, false))⟩, ⟨(some 21), .pcall 203 [.t 20], (some (19, false))⟩, ⟨(some 22), .un .not (.t 21), (some (19, false))⟩, ⟨(some 23),
   .pick (.t 19) (.c (.bool true)) (.t 22), none⟩, ⟨(some 24), .mv (.t 23), none⟩, ⟨(some 25), .mv (.t 3), (some (24, false))⟩, ⟨(some 26), .len false (.t 25), (some (24,
   false))⟩, ⟨(some 27), .mv (.t 2), (some (24, false))⟩, ⟨(some 28), .bin .gtr (.t 26) (.t 27), (some (24, false))⟩, ⟨(some 29), .pick (.t 24) (.c (.bool true)) (.t 28),
   none⟩]) (.seq (.keep [0, 1, 2, 3, 29]) (.cond (.t 29) (.seq (.region 0 [⟨(some 8), .mv (.c (.vs [] .full)), none⟩, ⟨(some 9), .mv (.c (.int .i64 1)), none⟩]) (.ret))
    (.skip)))) (.seq (.keep [0, 1, 2, 3]) (.seq (.region 3 [⟨(some 30), .bslice 0 ([.int .i64 0, .int .i64 0, .int .i64 0, .int .u32 0]) [], none⟩, ⟨(some 31), .mv
    (.t 0), none⟩, ⟨(some 32), .mv (.t 1), none⟩, ⟨(some 33), .slc 4 (.t 31) none (some (.t 32)) none, none⟩, ⟨(some 34), .app 0 4 32 (.t 30) (.t 33), none⟩, ⟨(some 35),
   .mv (.t 3), none⟩, ⟨(some 36), .app 1 4 32 (.t 34) (.t 35), none⟩, ⟨(some 37), .mv (.t 0), none⟩, ⟨(some 38), .mv (.t 1), none⟩, ⟨(some 39), .mv (.t 2), none⟩,
   ⟨(some 40), .bin .add (.t 38) (.t 39), none⟩, ⟨(some 41), .slc 4 (.t 37) (some (.t 40)) none none, none⟩, ⟨(some 42), .app 2 4 32 (.t 36) (.t 41), none⟩, ⟨(some 10),
   .mv (.t 42), none⟩]) (.seq (.keep [0, 1, 2, 3, 10]) (.seq (.seq (.region 0 [⟨(some 11), .mv (.c (.int .i64 0)), none⟩]) (.block 0 (.loop [0, 1, 2, 3, 10, 11] (.seq
    (.seq (.region 0 [⟨(some 43), .mv (.t 11), none⟩, ⟨(some 44), .mv (.t 0), none⟩, ⟨(some 45), .len false (.t 44), none⟩, ⟨(some 46), .bin .lss (.t 43) (.t 45), none⟩])
    (.seq (.keep [0, 1, 2, 3, 10, 11, 46]) (.cond (.t 46) (.skip) (.exit 0)))) (.seq (.keep [0, 1, 2, 3, 10, 11]) (.seq (.block 1 (.seq (.seq (.region 0 [⟨(some 49), .mv
    (.t 11), none⟩, ⟨(some 50), .mv (.t 1), none⟩, ⟨(some 51), .bin .geq (.t 49) (.t 50), none⟩, ⟨(some 52), .mv (.t 51), none⟩, ⟨(some 53), .mv (.t 11), (some (52,
   true))⟩, ⟨(some 54), .mv (.t 1), (some (52, true))⟩, ⟨(some 55), .mv (.t 2), (some (52, true))⟩, ⟨(some 56), .bin .add (.t 54) (.t 55), (some (52, true))⟩, ⟨(some 57),
   .bin .lss (.t 53) (.t 56), (some (52, true))⟩, ⟨(some 58), .pick (.t 52) (.t 57) (.c (.bool false)), none⟩]) (.seq (.keep [0, 1, 2, 3, 10, 11, 58]) (.cond (.t 58)
    (.exit 1) (.skip)))) (.seq (.keep [0, 1, 2, 3, 10, 11]) (.seq (.region 0 [⟨(some 59), .mv (.t 11), none⟩, ⟨(some 12), .mv (.t 59), none⟩]) (.seq (.seq
    (.region 0 [⟨(some 60), .mv (.t 11), none⟩, ⟨(some 61), .mv (.t 1), none⟩, ⟨(some 62), .bin .gtr (.t 60) (.t 61), none⟩]) (.cond (.t 62) (.region 0 [⟨(some 63), .mv
    (.t 11), none⟩, ⟨(some 64), .mv (.t 2), none⟩, ⟨(some 65), .bin .sub (.t 63) (.t 64), none⟩, ⟨(some 66), .mv (.t 3), none⟩, ⟨(some 67), .len false (.t 66), none⟩,
   ⟨(some 68), .bin .add (.t 65) (.t 67), none⟩, ⟨(some 12), .mv (.t 68), none⟩]) (.skip))) (.seq (.keep [0, 1, 2, 3, 10, 11, 12]) (.seq (.region 1 [⟨(some 69), .mv
    (.t 0), none⟩, ⟨(some 70), .mv (.t 11), none⟩, ⟨(some 71), .iaddr 4 (.t 69) (.t 70), none⟩, ⟨(some 72), .load 4 true false (.t 71), none⟩, ⟨(some 13), .alloc 0
    ([.int .i64 0, .int .i64 0, .int .i64 0, .int .u32 0]), none⟩, ⟨none, .store 4 (.t 13) (.t 72), none⟩]) (.seq (.keep [0, 1, 2, 3, 10, 11, 12, 13]) (.seq (.seq
    (.region 0 [⟨(some 73), .faddr 0 (.t 13), none⟩, ⟨(some 74), .load 1 false false (.t 73), none⟩, ⟨(some 75), .bin .eql (.t 74) (.c (.int .i64 5)), none⟩]) (.cond
    (.t 75) (.region 0 [⟨(some 76), .mv (.t 10), none⟩, ⟨(some 77), .mv (.t 12), none⟩, ⟨(some 78), .mv (.t 11), none⟩, ⟨(some 79), .bin .add (.t 78) (.c (.int .i64 1)),
   none⟩, ⟨(some 80), .faddr 3 (.t 13), none⟩, ⟨(some 81), .load 1 false false (.t 80), none⟩, ⟨(some 82), .conv .i64 (.t 81), none⟩, ⟨(some 83), .bin .add (.t 79)
    (.t 82), none⟩, ⟨(some 84), .mv (.t 1), none⟩, ⟨(some 85), .mv (.t 2), none⟩, ⟨(some 86), .mv (.t 3), none⟩, ⟨(some 87), .len false (.t 86), none⟩, ⟨(some 88),
   .pcall 212 [.t 83, .t 84, .t 85, .t 87], none⟩, ⟨(some 89), .mv (.t 12), none⟩, ⟨(some 90), .bin .sub (.t 88) (.t 89), none⟩, ⟨(some 91), .bin .sub (.t 90) (.c
    (.int .i64 1)), none⟩, ⟨(some 92), .conv .u32 (.t 91), none⟩, ⟨(some 93), .iaddr 4 (.t 76) (.t 77), none⟩, ⟨(some 94), .faddr 3 (.t 93), none⟩, ⟨none, .store 1
    (.t 94) (.t 92), none⟩]) (.skip))) (.seq (.keep [0, 1, 2, 3, 10, 11, 12, 13]) (.seq (.region 0 [⟨(some 95), .load 4 true false (.t 13), none⟩, ⟨(some 96),
   .pcall 180 [.t 95], none⟩]) (.cond (.t 96) (.seq (.region 0 [⟨(some 97), .mv (.t 10), none⟩, ⟨(some 98), .mv (.t 12), none⟩, ⟨(some 99), .mv (.t 11), none⟩,
   ⟨(some 100), .bin .add (.t 99) (.c (.int .i64 1)), none⟩, ⟨(some 101), .faddr 1 (.t 13), none⟩, ⟨(some 102), .load 1 false false (.t 101), none⟩, ⟨(some 103), .bin .add
    (.t 100) (.t 102), none⟩, ⟨(some 104), .mv (.t 1), none⟩, ⟨(some 105), .mv (.t 2), none⟩, ⟨(some 106), .mv (.t 3), none⟩, ⟨(some 107), .len false (.t 106), none⟩,
   ⟨(some 108), .pcall 212 [.t 103, .t 104, .t 105, .t 107], none⟩, ⟨(some 109), .mv (.t 12), none⟩, ⟨(some 110), .bin .sub (.t 108) (.t 109), none⟩, ⟨(some 111),
   .bin .sub (.t 110) (.c (.int .i64 1)), none⟩, ⟨(some 112), .iaddr 4 (.t 97) (.t 98), none⟩, ⟨(some 113), .faddr 1 (.t 112), none⟩, ⟨none, .store 1 (.t 113) (.t 111),
   none⟩]) (.seq (.keep [0, 1, 2, 3, 10, 11, 12, 13]) (.region 0 [⟨(some 114), .mv (.t 10), none⟩, ⟨(some 115), .mv (.t 12), none⟩, ⟨(some 116), .mv (.t 11), none⟩,
   ⟨(some 117), .bin .add (.t 116) (.c (.int .i64 1)), none⟩, ⟨(some 118), .faddr 2 (.t 13), none⟩, ⟨(some 119), .load 1 false false (.t 118), none⟩, ⟨(some 120),
   .bin .add (.t 117) (.t 119), none⟩, ⟨(some 121), .mv (.t 1), none⟩, ⟨(some 122), .mv (.t 2), none⟩, ⟨(some 123), .mv (.t 3), none⟩, ⟨(some 124), .len false (.t 123),
   none⟩, ⟨(some 125), .pcall 212 [.t 120, .t 121, .t 122, .t 124], none⟩, ⟨(some 126), .mv (.t 12), none⟩, ⟨(some 127), .bin .sub (.t 125) (.t 126), none⟩, ⟨(some 128),
   .bin .sub (.t 127) (.c (.int .i64 1)), none⟩, ⟨(some 129), .iaddr 4 (.t 114) (.t 115), none⟩, ⟨(some 130), .faddr 2 (.t 129), none⟩, ⟨none, .store 1 (.t 130) (.t 128),
   none⟩]))) (.skip))))))))))))) (.seq (.keep [0, 1, 2, 3, 10, 11]) (.region 0 [⟨(some 47), .mv (.t 11), none⟩, ⟨(some 48), .bin .add (.t 47) (.c (.int .i64 1)), none⟩,
   ⟨(some 11), .mv (.t 48), none⟩])))))))) (.seq (.keep [10]) (.seq (.region 0 [⟨(some 131), .mv (.t 10), none⟩, ⟨(some 8), .mv (.t 131), none⟩, ⟨(some 9), .mv (.c
    (.int .i64 0)), none⟩]) (.ret)))))))),
  [.tmp 8, .tmp 9]⟩

/-- hurdle/hurdleref22.Pieces -/
def c_hurdleref22_Pieces : SFn := ⟨42,
  .seq (.region 0 [⟨(some 4), .mv (.c (.vs [] .full)), none⟩]) (.seq (.region 0 [⟨(some 5), .mv (.c (.vs [] .full)), none⟩]) (.seq (.seq (.region 0 [⟨(some 6), .mv (.c
    (.int .i64 0)), none⟩]) (.seq (.give 5 none) (.block 0 (.loop [0, 1, 5, 6] (.seq (.seq (.region 0 [⟨(some 8), .mv (.t 6), none⟩, ⟨(some 9), .mv (.t 0), none⟩,
   ⟨(some 10), .len false (.t 9), none⟩, ⟨(some 11), .bin .lss (.t 8) (.t 10), none⟩]) (.seq (.keep [0, 1, 5, 6, 11]) (.cond (.t 11) (.skip) (.exit 0)))) (.seq (.keep [0,
   1, 5, 6]) (.seq (.block 1 (.seq (.region 0 [⟨(some 7), .mv (.c (.int .i64 32)), none⟩]) (.seq (.give 5 none) (.block 2 (.loop [0, 1, 5, 6, 7] (.seq (.seq
    (.region 0 [⟨(some 14), .mv (.t 7), none⟩, ⟨(some 15), .bin .geq (.t 14) (.c (.int .i64 2)), none⟩]) (.cond (.t 15) (.skip) (.exit 2))) (.seq (.block 3 (.seq
    (.region 0 [⟨(some 18), .mv (.t 7), none⟩, ⟨(some 19), .mv (.t 1), none⟩, ⟨(some 20), .bin .leq (.t 18) (.t 19), none⟩, ⟨(some 21), .mv (.t 20), none⟩, ⟨(some 22), .mv
    (.t 7), (some (21, true))⟩, ⟨(some 23), .mv (.t 0), (some (21, true))⟩, ⟨(some 24), .len false (.t 23), (some (21, true))⟩, ⟨(some 25), .mv (.t 6), (some (21, true))⟩,
   ⟨(some 26), .bin .sub (.t 24) (.t 25), (some (21, true))⟩, ⟨(some 27), .bin .leq (.t 22) (.t 26), (some (21, true))⟩, ⟨(some 28), .pick (.t 21) (.t 27) (.c
    (.bool false)), none⟩, ⟨(some 29), .mv (.t 28), none⟩, ⟨(some 30), .mv (.t 0), (some (29, true))⟩, ⟨(some 31), .mv (.t 6), (some (29, true))⟩, ⟨(some 32), .mv (.t 7),
   (some (29, true))⟩, ⟨(some 33), .pcall 211 [.t 30, .t 31, .t 32], (some (29, true))⟩, ⟨(some 34), .pick (.t 29) (.t 33) (.c (.bool false)), none⟩]) (.seq (.keep [0, 1,
   5, 6, 7, 34]) (.cond (.t 34) (.region 1 [⟨(some 35), .mv (.t 5), none⟩, ⟨(some 36), .mv (.t 6), none⟩, ⟨(some 37), .mv (.t 7), none⟩, ⟨(some 38), .bslice 2
    ([.int .i64 0]) [(0, .t 36), (1, .t 37)], none⟩, ⟨(some 39), .bslice 1 ([.vs [] .full]) [(0, .t 38)], none⟩, ⟨(some 40), .app 0 1 24 (.t 35) (.t 39), none⟩, ⟨(some 5),
   .mv (.t 40), none⟩]) (.skip))))) (.seq (.keep [0, 1, 5, 6, 7]) (.region 0 [⟨(some 16), .mv (.t 7), none⟩, ⟨(some 17), .bin .sub (.t 16) (.c (.int .i64 1)), none⟩,
   ⟨(some 7), .mv (.t 17), none⟩]))))))))) (.seq (.keep [0, 1, 5, 6]) (.region 0 [⟨(some 12), .mv (.t 6), none⟩, ⟨(some 13), .bin .add (.t 12) (.c (.int .i64 1)), none⟩,
   ⟨(some 6), .mv (.t 13), none⟩]))))))))) (.seq (.keep [5]) (.seq (.region 0 [⟨(some 41), .mv (.t 5), none⟩, ⟨(some 4), .mv (.t 41), none⟩]) (.ret))))),
  [.tmp 4]⟩

/-- A table that holds these. -/
class HasWRight (G : Tbl) : Prop where
  h_window_Right : G 202 = some c_window_Right
/-- A table that holds these. -/
class HasR17 (G : Tbl) : Prop where
  h_hurdleref17_Right : G 203 = some c_hurdleref17_Right
/-- A table that holds these. -/
class HasSpl (G : Tbl) : Prop where
  h_splice_targets : G 204 = some c_splice_targets
  h_splice_free : G 205 = some c_splice_free
  h_splice_Free : G 206 = some c_splice_Free
  h_splice_Put_1 : G 207 = some c_splice_Put_1
  h_splice_Put : G 208 = some c_splice_Put
  h_splice_Pieces : G 209 = some c_splice_Pieces
/-- A table that holds these. -/
class HasR22 (G : Tbl) : Prop where
  h_hurdleref22_jumps : G 210 = some c_hurdleref22_jumps
  h_hurdleref22_Free : G 211 = some c_hurdleref22_Free
  h_hurdleref22_place : G 212 = some c_hurdleref22_place
  h_hurdleref22_Put : G 213 = some c_hurdleref22_Put
  h_hurdleref22_Pieces : G 214 = some c_hurdleref22_Pieces

end Go.Ev
