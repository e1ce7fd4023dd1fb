/- Simplified code of Go functions, by scode.py. -/
import Derived.Test.YtdomogpjchpbnaaEvWordC
namespace Go.Ev

/-- hurdle/hurdleref01.Neg -/
def c_hurdleref01_Neg : SFn := ⟨8,
  .seq (.region 0 [⟨(some 2), .mv (.c (.int .u32 0)), none⟩]) (.seq (.region 0 [⟨(some 3), .mv (.t 0), none⟩, ⟨(some 4), .conv .u64 (.t 3), none⟩, ⟨(some 5), .bin .sub (.c
    (.int .u64 4294967296)) (.t 4), none⟩, ⟨(some 6), .bin .rem (.t 5) (.c (.int .u64 4294967296)), none⟩, ⟨(some 7), .conv .u32 (.t 6), none⟩, ⟨(some 2), .mv (.t 7),
   none⟩]) (.ret)),
  [.tmp 2]⟩

/-- hurdle/hurdleref02.branch -/
def c_hurdleref02_branch : SFn := ⟨5,
  .seq (.region 0 [⟨(some 2), .mv (.c (.bool false)), none⟩]) (.seq (.region 0 [⟨(some 3), .mv (.t 0), none⟩, ⟨(some 4), .bin .geq (.t 3) (.c (.int .i64 31)), none⟩,
   ⟨(some 2), .mv (.t 4), none⟩]) (.ret)),
  [.tmp 2]⟩

/-- hurdle/hurdleref02.plain -/
def c_hurdleref02_plain : SFn := ⟨17,
  .seq (.region 0 [⟨(some 2), .mv (.c (.bool false)), none⟩]) (.seq (.region 0 [⟨(some 3), .mv (.t 0), none⟩, ⟨(some 4), .bin .geq (.t 3) (.c (.int .i64 13)), none⟩,
   ⟨(some 5), .mv (.t 4), none⟩, ⟨(some 6), .mv (.t 0), (some (5, true))⟩, ⟨(some 7), .bin .leq (.t 6) (.c (.int .i64 24)), (some (5, true))⟩, ⟨(some 8), .pick (.t 5)
    (.t 7) (.c (.bool false)), none⟩, ⟨(some 9), .mv (.t 8), none⟩, ⟨(some 10), .mv (.t 0), (some (9, false))⟩, ⟨(some 11), .bin .eql (.t 10) (.c (.int .i64 30)), (some
    (9, false))⟩, ⟨(some 12), .pick (.t 9) (.c (.bool true)) (.t 11), none⟩, ⟨(some 13), .mv (.t 12), none⟩, ⟨(some 14), .mv (.t 0), (some (13, false))⟩, ⟨(some 15),
   .bin .geq (.t 14) (.c (.int .i64 35)), (some (13, false))⟩, ⟨(some 16), .pick (.t 13) (.c (.bool true)) (.t 15), none⟩, ⟨(some 2), .mv (.t 16), none⟩]) (.ret)),
  [.tmp 2]⟩

/-- hurdle/hurdleref02.place -/
def c_hurdleref02_place : SFn := ⟨19,
  .seq (.region 0 [⟨(some 2), .mv (.c (.int .i64 0)), none⟩]) (.seq (.region 0 [⟨(some 5), .pcall 177 [], none⟩, ⟨(some 3), .mv (.t 5), none⟩]) (.seq (.seq
    (.region 0 [⟨(some 4), .mv (.c (.int .i64 0)), none⟩]) (.block 0 (.loop [0, 3, 4] (.seq (.seq (.region 0 [⟨(some 6), .mv (.t 4), none⟩, ⟨(some 7), .mv (.t 3), none⟩,
   ⟨(some 8), .len false (.t 7), none⟩, ⟨(some 9), .bin .lss (.t 6) (.t 8), none⟩]) (.seq (.keep [0, 3, 4, 9]) (.cond (.t 9) (.skip) (.exit 0)))) (.seq (.keep [0, 3, 4])
    (.seq (.block 1 (.seq (.region 0 [⟨(some 12), .mv (.t 3), none⟩, ⟨(some 13), .mv (.t 4), none⟩, ⟨(some 14), .iaddr 1 (.t 12) (.t 13), none⟩, ⟨(some 15),
   .load 1 false false (.t 14), none⟩, ⟨(some 16), .mv (.t 0), none⟩, ⟨(some 17), .bin .eql (.t 15) (.t 16), none⟩]) (.seq (.keep [0, 3, 4, 17]) (.cond (.t 17) (.seq
    (.region 0 [⟨(some 18), .mv (.t 4), none⟩, ⟨(some 2), .mv (.t 18), none⟩]) (.ret)) (.skip))))) (.seq (.keep [0, 3, 4]) (.region 0 [⟨(some 10), .mv (.t 4), none⟩,
   ⟨(some 11), .bin .add (.t 10) (.c (.int .i64 1)), none⟩, ⟨(some 4), .mv (.t 11), none⟩])))))))) (.seq (.keep []) (.seq (.region 0 [⟨(some 2), .mv (.c (.int .i64
    (-1))), none⟩]) (.ret))))),
  [.tmp 2]⟩

/-- hurdle/hurdleref02.Ops -/
def c_hurdleref02_Ops : SFn := ⟨2,
  .seq (.region 0 [⟨(some 0), .mv (.c (.vs [] .full)), none⟩]) (.seq (.region 0 [⟨(some 1), .bslice 39 ([.int .i64 0]) [(0, .c (.int .i64 0)), (1, .c (.int .i64 1)), (2, .c
    (.int .i64 2)), (3, .c (.int .i64 3)), (4, .c (.int .i64 4)), (5, .c (.int .i64 20)), (6, .c (.int .i64 36)), (7, .c (.int .i64 52)), (8, .c (.int .i64 68)), (9, .c
    (.int .i64 84)), (10, .c (.int .i64 100)), (11, .c (.int .i64 116)), (12, .c (.int .i64 164)), (13, .c (.int .i64 12)), (14, .c (.int .i64 28)), (15, .c
    (.int .i64 44)), (16, .c (.int .i64 60)), (17, .c (.int .i64 76)), (18, .c (.int .i64 92)), (19, .c (.int .i64 108)), (20, .c (.int .i64 124)), (21, .c
    (.int .i64 172)), (22, .c (.int .i64 132)), (23, .c (.int .i64 7)), (24, .c (.int .i64 135)), (25, .c (.int .i64 32)), (26, .c (.int .i64 96)), (27, .c
    (.int .i64 97)), (28, .c (.int .i64 5)), (29, .c (.int .i64 6)), (30, .c (.int .i64 22)), (31, .c (.int .i64 21)), (32, .c (.int .i64 37)), (33, .c (.int .i64 53)),
   (34, .c (.int .i64 69)), (35, .c (.int .i64 29)), (36, .c (.int .i64 45)), (37, .c (.int .i64 61)), (38, .c (.int .i64 77))], none⟩, ⟨(some 0), .mv (.t 1), none⟩])
    (.ret)),
  [.tmp 0]⟩

/-- hurdle/hurdleref02.Right -/
def c_hurdleref02_Right : SFn := ⟨46,
  .seq (.region 1 [⟨(some 1), .box 0 (.t 0), none⟩, ⟨(some 2), .mv (.c (.bool false)), none⟩]) (.seq (.region 0 [⟨(some 4), .faddr 0 (.t 1), none⟩, ⟨(some 5),
   .load 1 false false (.t 4), none⟩, ⟨(some 6), .pcall 176 [.t 5], none⟩, ⟨(some 3), .mv (.t 6), none⟩]) (.seq (.keep [1, 3]) (.seq (.seq (.region 0 [⟨(some 7), .mv
    (.t 3), none⟩, ⟨(some 8), .bin .lss (.t 7) (.c (.int .i64 0)), none⟩, ⟨(some 9), .mv (.t 8), none⟩, ⟨(some 10), .mv (.t 3), (some (9, false))⟩, ⟨(some 11),
   .pcall 175 [.t 10], (some (9, false))⟩, ⟨(some 12), .mv (.t 11), (some (9, false))⟩, ⟨(some 13), .faddr 3 (.t 1), (some (12, true))⟩, ⟨(some 14), .load 1 false false
    (.t 13), (some (12, true))⟩, ⟨(some 15), .bin .neq (.t 14) (.c (.int .u32 0)), (some (12, true))⟩, ⟨(some 16), .pick (.t 12) (.t 15) (.c (.bool false)), (some (9,
   false))⟩, ⟨(some 17), .pick (.t 9) (.c (.bool true)) (.t 16), none⟩]) (.seq (.keep [1, 3, 17]) (.cond (.t 17) (.seq (.region 0 [⟨(some 2), .mv (.c (.bool false)),
   none⟩]) (.ret)) (.skip)))) (.seq (.keep [1, 3]) (.seq (.seq (.region 0 [⟨(some 18), .mv (.t 3), none⟩, ⟨(some 19), .pcall 174 [.t 18], none⟩]) (.cond (.t 19) (.seq
    (.region 0 [⟨(some 20), .faddr 1 (.t 1), none⟩, ⟨(some 21), .load 1 false false (.t 20), none⟩, ⟨(some 22), .bin .geq (.t 21) (.c (.int .i64 0)), none⟩, ⟨(some 23),
   .mv (.t 22), none⟩, ⟨(some 24), .faddr 1 (.t 1), (some (23, true))⟩, ⟨(some 25), .load 1 false false (.t 24), (some (23, true))⟩, ⟨(some 26), .bin .lss (.t 25) (.c
    (.int .i64 256)), (some (23, true))⟩, ⟨(some 27), .pick (.t 23) (.t 26) (.c (.bool false)), none⟩, ⟨(some 28), .mv (.t 27), none⟩, ⟨(some 29), .faddr 2 (.t 1), (some
    (28, true))⟩, ⟨(some 30), .load 1 false false (.t 29), (some (28, true))⟩, ⟨(some 31), .bin .geq (.t 30) (.c (.int .i64 0)), (some (28, true))⟩, ⟨(some 32), .pick
    (.t 28) (.t 31) (.c (.bool false)), none⟩, ⟨(some 33), .mv (.t 32), none⟩, ⟨(some 34), .faddr 2 (.t 1), (some (33, true))⟩, ⟨(some 35), .load 1 false false (.t 34),
   (some (33, true))⟩, ⟨(some 36), .bin .lss (.t 35) (.c (.int .i64 256)), (some (33, true))⟩, ⟨(some 37), .pick (.t 33) (.t 36) (.c (.bool false)), none⟩, ⟨(some 2), .mv
    (.t 37), none⟩]) (.ret)) (.skip))) (.seq (.keep [1]) (.seq (.region 0 [⟨(some 38), .faddr 1 (.t 1), none⟩, ⟨(some 39), .load 1 false false (.t 38), none⟩, ⟨(some 40),
   .bin .eql (.t 39) (.c (.int .i64 0)), none⟩, ⟨(some 41), .mv (.t 40), none⟩, ⟨(some 42), .faddr 2 (.t 1), (some (41, true))⟩, ⟨(some 43), .load 1 false false (.t 42),
   (some (41, true))⟩, ⟨(some 44), .bin .eql (.t 43) (.c (.int .i64 0)), (some (41, true))⟩, ⟨(some 45), .pick (.t 41) (.t 44) (.c (.bool false)), none⟩, ⟨(some 2), .mv
    (.t 45), none⟩]) (.ret)))))))),
  [.tmp 2]⟩

/-- hurdle/hurdleref02.Alu -/
def c_hurdleref02_Alu : SFn := ⟨26,
  .seq (.region 1 [⟨(some 1), .box 0 (.t 0), none⟩, ⟨(some 2), .mv (.c (.int .i64 0)), none⟩, ⟨(some 3), .mv (.c (.bool false)), none⟩, ⟨(some 4), .mv (.c (.bool false)),
   none⟩]) (.seq (.keep [1]) (.seq (.region 0 [⟨(some 6), .faddr 0 (.t 1), none⟩, ⟨(some 7), .load 1 false false (.t 6), none⟩, ⟨(some 8), .pcall 176 [.t 7], none⟩,
   ⟨(some 5), .mv (.t 8), none⟩]) (.seq (.keep [1, 5]) (.seq (.seq (.region 0 [⟨(some 9), .mv (.t 5), none⟩, ⟨(some 10), .bin .geq (.t 9) (.c (.int .i64 4)), none⟩,
   ⟨(some 11), .mv (.t 10), none⟩, ⟨(some 12), .mv (.t 5), (some (11, true))⟩, ⟨(some 13), .bin .leq (.t 12) (.c (.int .i64 12)), (some (11, true))⟩, ⟨(some 14), .pick
    (.t 11) (.t 13) (.c (.bool false)), none⟩]) (.seq (.keep [1, 5, 14]) (.cond (.t 14) (.seq (.region 0 [⟨(some 15), .faddr 0 (.t 1), none⟩, ⟨(some 16),
   .load 1 false false (.t 15), none⟩, ⟨(some 2), .mv (.t 16), none⟩, ⟨(some 3), .mv (.c (.bool false)), none⟩, ⟨(some 4), .mv (.c (.bool true)), none⟩]) (.ret))
    (.skip)))) (.seq (.keep [1, 5]) (.seq (.seq (.region 0 [⟨(some 17), .mv (.t 5), none⟩, ⟨(some 18), .bin .geq (.t 17) (.c (.int .i64 13)), none⟩, ⟨(some 19), .mv
    (.t 18), none⟩, ⟨(some 20), .mv (.t 5), (some (19, true))⟩, ⟨(some 21), .bin .leq (.t 20) (.c (.int .i64 21)), (some (19, true))⟩, ⟨(some 22), .pick (.t 19) (.t 21)
    (.c (.bool false)), none⟩]) (.seq (.keep [1, 22]) (.cond (.t 22) (.seq (.region 0 [⟨(some 23), .faddr 0 (.t 1), none⟩, ⟨(some 24), .load 1 false false (.t 23), none⟩,
   ⟨(some 25), .bin .sub (.t 24) (.c (.int .i64 8)), none⟩, ⟨(some 2), .mv (.t 25), none⟩, ⟨(some 3), .mv (.c (.bool true)), none⟩, ⟨(some 4), .mv (.c (.bool true)),
   none⟩]) (.ret)) (.skip)))) (.seq (.keep []) (.seq (.region 0 [⟨(some 2), .mv (.c (.int .i64 0)), none⟩, ⟨(some 3), .mv (.c (.bool false)), none⟩, ⟨(some 4), .mv (.c
    (.bool false)), none⟩]) (.ret))))))))),
  [.tmp 2, .tmp 3, .tmp 4]⟩

/-- hurdle/hurdleref02.Branch -/
def c_hurdleref02_Branch : SFn := ⟨7,
  .seq (.region 1 [⟨(some 1), .box 0 (.t 0), none⟩, ⟨(some 2), .mv (.c (.bool false)), none⟩]) (.seq (.region 0 [⟨(some 3), .faddr 0 (.t 1), none⟩, ⟨(some 4),
   .load 1 false false (.t 3), none⟩, ⟨(some 5), .pcall 176 [.t 4], none⟩, ⟨(some 6), .pcall 174 [.t 5], none⟩, ⟨(some 2), .mv (.t 6), none⟩]) (.ret)),
  [.tmp 2]⟩

/-- hurdle/hurdleref02.Ends -/
def c_hurdleref02_Ends : SFn := ⟨11,
  .seq (.region 1 [⟨(some 1), .box 0 (.t 0), none⟩, ⟨(some 2), .mv (.c (.bool false)), none⟩]) (.seq (.region 0 [⟨(some 3), .faddr 0 (.t 1), none⟩, ⟨(some 4),
   .load 1 false false (.t 3), none⟩, ⟨(some 5), .bin .eql (.t 4) (.c (.int .i64 6)), none⟩, ⟨(some 6), .mv (.t 5), none⟩, ⟨(some 7), .faddr 0 (.t 1), (some (6, false))⟩,
   ⟨(some 8), .load 1 false false (.t 7), (some (6, false))⟩, ⟨(some 9), .bin .eql (.t 8) (.c (.int .i64 22)), (some (6, false))⟩, ⟨(some 10), .pick (.t 6) (.c
    (.bool true)) (.t 9), none⟩, ⟨(some 2), .mv (.t 10), none⟩]) (.ret)),
  [.tmp 2]⟩

/-- hurdle/hurdleref04.low -/
def c_hurdleref04_low : SFn := ⟨21,
  .seq (.region 0 [⟨(some 4), .mv (.c (.vs [] .full)), none⟩]) (.seq (.region 0 [⟨(some 5), .mv (.c (.vs [] .full)), none⟩]) (.seq (.seq (.region 0 [⟨(some 6), .mv (.c
    (.int .i64 0)), none⟩]) (.seq (.give 5 none) (.block 0 (.loop [0, 1, 5, 6] (.seq (.seq (.region 0 [⟨(some 7), .mv (.t 6), none⟩, ⟨(some 8), .mv (.t 1), none⟩,
   ⟨(some 9), .bin .lss (.t 7) (.t 8), none⟩]) (.cond (.t 9) (.skip) (.exit 0))) (.seq (.keep [0, 1, 5, 6]) (.seq (.block 1 (.seq (.region 1 [⟨(some 12), .mv (.t 5),
   none⟩, ⟨(some 13), .mv (.t 0), none⟩, ⟨(some 14), .bin .rem (.t 13) (.c (.int .u64 256)), none⟩, ⟨(some 15), .conv .u8 (.t 14), none⟩, ⟨(some 16), .bslice 1
    ([.int .u8 0]) [(0, .t 15)], none⟩, ⟨(some 17), .app 0 1 1 (.t 12) (.t 16), none⟩, ⟨(some 5), .mv (.t 17), none⟩]) (.seq (.keep [0, 1, 5, 6]) (.region 0 [⟨(some 18),
   .mv (.t 0), none⟩, ⟨(some 19), .bin .quo (.t 18) (.c (.int .u64 256)), none⟩, ⟨(some 0), .mv (.t 19), none⟩])))) (.seq (.keep [0, 1, 5, 6]) (.region 0 [⟨(some 10), .mv
    (.t 6), none⟩, ⟨(some 11), .bin .add (.t 10) (.c (.int .i64 1)), none⟩, ⟨(some 6), .mv (.t 11), none⟩]))))))))) (.seq (.keep [5]) (.seq (.region 0 [⟨(some 20), .mv
    (.t 5), none⟩, ⟨(some 4), .mv (.t 20), none⟩]) (.ret))))),
  [.tmp 4]⟩

/-- hurdle/hurdleref04.number -/
def c_hurdleref04_number : SFn := ⟨21,
  .seq (.region 0 [⟨(some 2), .mv (.c (.int .u64 0)), none⟩]) (.seq (.region 0 [⟨(some 3), .mv (.c (.int .u64 0)), none⟩]) (.seq (.seq (.region 0 [⟨(some 5), .mv (.t 0),
   none⟩, ⟨(some 6), .len false (.t 5), none⟩, ⟨(some 7), .bin .sub (.t 6) (.c (.int .i64 1)), none⟩, ⟨(some 4), .mv (.t 7), none⟩]) (.seq (.keep [0, 3, 4]) (.block 0
    (.loop [0, 3, 4] (.seq (.seq (.region 0 [⟨(some 8), .mv (.t 4), none⟩, ⟨(some 9), .bin .geq (.t 8) (.c (.int .i64 0)), none⟩]) (.cond (.t 9) (.skip) (.exit 0))) (.seq
    (.block 1 (.region 0 [⟨(some 12), .mv (.t 3), none⟩, ⟨(some 13), .bin .mul (.t 12) (.c (.int .u64 256)), none⟩, ⟨(some 14), .mv (.t 0), none⟩, ⟨(some 15), .mv (.t 4),
   none⟩, ⟨(some 16), .iaddr 1 (.t 14) (.t 15), none⟩, ⟨(some 17), .load 1 false false (.t 16), none⟩, ⟨(some 18), .conv .u64 (.t 17), none⟩, ⟨(some 19), .bin .add
    (.t 13) (.t 18), none⟩, ⟨(some 3), .mv (.t 19), none⟩])) (.seq (.keep [0, 3, 4]) (.region 0 [⟨(some 10), .mv (.t 4), none⟩, ⟨(some 11), .bin .sub (.t 10) (.c
    (.int .i64 1)), none⟩, ⟨(some 4), .mv (.t 11), none⟩])))))))) (.seq (.keep [3]) (.seq (.region 0 [⟨(some 20), .mv (.t 3), none⟩, ⟨(some 2), .mv (.t 20), none⟩])
    (.ret))))),
  [.tmp 2]⟩

/-- hurdle/hurdleref04.Bytes -/
def c_hurdleref04_Bytes : SFn := ⟨31,
  .seq (.region 1 [⟨(some 1), .box 0 (.t 0), none⟩, ⟨(some 2), .mv (.c (.vs [] .full)), none⟩]) (.seq (.region 1 [⟨(some 5), .faddr 0 (.t 1), none⟩, ⟨(some 6),
   .load 1 false true (.t 5), none⟩, ⟨(some 7), .conv .u64 (.t 6), none⟩, ⟨(some 8), .kcall true 182 [.t 7, .c (.int .i64 4)], none⟩, ⟨(some 9), .faddr 1 (.t 1), none⟩,
   ⟨(some 10), .load 1 false true (.t 9), none⟩, ⟨(some 11), .conv .u64 (.t 10), none⟩, ⟨(some 12), .pcall 182 [.t 11, .c (.int .i64 4)], none⟩, ⟨(some 13), .app 0 1 1
    (.t 8) (.t 12), none⟩, ⟨(some 3), .mv (.t 13), none⟩]) (.seq (.keep [1, 3]) (.seq (.region 1 [⟨(some 14), .mv (.t 3), none⟩, ⟨(some 15), .faddr 2 (.t 1), none⟩,
   ⟨(some 16), .load 1 false false (.t 15), none⟩, ⟨(some 17), .pcall 182 [.t 16, .c (.int .i64 8)], none⟩, ⟨(some 18), .app 0 1 1 (.t 14) (.t 17), none⟩, ⟨(some 3), .mv
    (.t 18), none⟩]) (.seq (.keep [1, 3]) (.seq (.seq (.region 0 [⟨(some 4), .mv (.c (.int .i64 0)), none⟩]) (.seq (.give 3 none) (.block 0 (.loop [1, 3, 4] (.seq (.seq
    (.region 0 [⟨(some 19), .mv (.t 4), none⟩, ⟨(some 20), .bin .lss (.t 19) (.c (.int .i64 6)), none⟩]) (.cond (.t 20) (.skip) (.exit 0))) (.seq (.block 1
    (.region 1 [⟨(some 23), .mv (.t 3), none⟩, ⟨(some 24), .mv (.t 4), none⟩, ⟨(some 25), .faddr 3 (.t 1), none⟩, ⟨(some 26), .iaddrA 6 1 (.t 25) (.t 24), none⟩,
   ⟨(some 27), .load 1 false false (.t 26), none⟩, ⟨(some 28), .pcall 182 [.t 27, .c (.int .i64 8)], none⟩, ⟨(some 29), .app 0 1 1 (.t 23) (.t 28), none⟩, ⟨(some 3), .mv
    (.t 29), none⟩])) (.seq (.keep [1, 3, 4]) (.region 0 [⟨(some 21), .mv (.t 4), none⟩, ⟨(some 22), .bin .add (.t 21) (.c (.int .i64 1)), none⟩, ⟨(some 4), .mv (.t 22),
   none⟩])))))))) (.seq (.keep [3]) (.seq (.region 0 [⟨(some 30), .mv (.t 3), none⟩, ⟨(some 2), .mv (.t 30), none⟩]) (.ret)))))))),
  [.tmp 2]⟩

/-- hurdle/hurdleref04.Word -/
def c_hurdleref04_Word : SFn := ⟨24,
  .seq (.region 1 [⟨(some 2), .box 0 (.t 0), none⟩, ⟨(some 4), .mv (.c (.int .u32 0)), none⟩, ⟨(some 5), .mv (.c (.bool false)), none⟩]) (.seq (.seq (.region 0 [⟨(some 7),
   .mv (.t 1), none⟩, ⟨(some 8), .bin .rem (.t 7) (.c (.int .u32 4)), none⟩, ⟨(some 9), .bin .neq (.t 8) (.c (.int .u32 0)), none⟩, ⟨(some 10), .mv (.t 9), none⟩,
   ⟨(some 11), .mv (.t 1), (some (10, false))⟩, ⟨(some 12), .bin .geq (.t 11) (.c (.int .u32 64)), (some (10, false))⟩, ⟨(some 13), .pick (.t 10) (.c (.bool true))
    (.t 12), none⟩]) (.seq (.keep [1, 2, 13]) (.cond (.t 13) (.seq (.region 0 [⟨(some 4), .mv (.c (.int .u32 0)), none⟩, ⟨(some 5), .mv (.c (.bool false)), none⟩])
    (.ret)) (.skip)))) (.seq (.keep [1, 2]) (.seq (.region 0 [⟨(some 14), .mv (.t 1), none⟩, ⟨(some 15), .conv .i64 (.t 14), none⟩, ⟨(some 6), .mv (.t 15), none⟩]) (.seq
    (.region 0 [⟨(some 16), .load 9 true false (.t 2), none⟩, ⟨(some 17), .pcall 184 [.t 16], none⟩, ⟨(some 18), .mv (.t 6), none⟩, ⟨(some 19), .mv (.t 6), none⟩,
   ⟨(some 20), .bin .add (.t 19) (.c (.int .i64 4)), none⟩, ⟨(some 21), .slc 1 (.t 17) (some (.t 18)) (some (.t 20)) none, none⟩, ⟨(some 22), .pcall 183 [.t 21], none⟩,
   ⟨(some 23), .conv .u32 (.t 22), none⟩, ⟨(some 4), .mv (.t 23), none⟩, ⟨(some 5), .mv (.c (.bool true)), none⟩]) (.ret))))),
  [.tmp 4, .tmp 5]⟩

/-- hurdle/hurdleref05.One -/
def c_hurdleref05_One : SFn := ⟨98,
  .seq (.region 1 [⟨(some 3), .box 0 (.t 0), none⟩, ⟨(some 6), .mv (.c (.int .i64 0)), none⟩]) (.seq (.seq (.region 0 [⟨(some 8), .load 4 true false (.t 3), none⟩,
   ⟨(some 9), .pcall 178 [.t 8], none⟩, ⟨(some 10), .un .not (.t 9), none⟩]) (.cond (.t 10) (.seq (.region 0 [⟨(some 6), .mv (.c (.int .i64 1)), none⟩]) (.ret)) (.skip)))
    (.seq (.keep [1, 2, 3]) (.seq (.seq (.region 0 [⟨(some 11), .faddr 0 (.t 3), none⟩, ⟨(some 12), .load 1 false false (.t 11), none⟩, ⟨(some 13), .bin .eql (.t 12) (.c
    (.int .i64 32)), none⟩, ⟨(some 14), .mv (.t 13), none⟩, ⟨(some 15), .faddr 3 (.t 3), (some (14, true))⟩, ⟨(some 16), .load 1 false false (.t 15), (some (14, true))⟩,
   ⟨(some 17), .bin .rem (.t 16) (.c (.int .u32 4)), (some (14, true))⟩, ⟨(some 18), .bin .neq (.t 17) (.c (.int .u32 0)), (some (14, true))⟩, ⟨(some 19), .mv (.t 18),
   (some (14, true))⟩, ⟨(some 20), .faddr 3 (.t 3), (some (19, false))⟩, ⟨(some 21), .load 1 false false (.t 20), (some (19, false))⟩, ⟨(some 22), .bin .gtr (.t 21) (.c
    (.int .u32 60)), (some (19, false))⟩, ⟨(some 23), .pick (.t 19) (.c (.bool true)) (.t 22), (some (14, true))⟩, ⟨(some 24), .pick (.t 14) (.t 23) (.c (.bool false)),
   none⟩]) (.seq (.keep [1, 2, 3, 24]) (.cond (.t 24) (.seq (.region 0 [⟨(some 6), .mv (.c (.int .i64 6)), none⟩]) (.ret)) (.skip)))) (.seq (.keep [1, 2, 3]) (.seq (.seq
    (.region 0 [⟨(some 25), .faddr 0 (.t 3), none⟩, ⟨(some 26), .load 1 false false (.t 25), none⟩, ⟨(some 27), .bin .eql (.t 26) (.c (.int .i64 2)), none⟩, ⟨(some 28),
   .mv (.t 27), none⟩, ⟨(some 29), .faddr 0 (.t 3), (some (28, false))⟩, ⟨(some 30), .load 1 false false (.t 29), (some (28, false))⟩, ⟨(some 31), .bin .eql (.t 30) (.c
    (.int .i64 3)), (some (28, false))⟩, ⟨(some 32), .pick (.t 28) (.c (.bool true)) (.t 31), none⟩, ⟨(some 33), .mv (.t 32), none⟩, ⟨(some 34), .faddr 0 (.t 3), (some
    (33, false))⟩, ⟨(some 35), .load 1 false false (.t 34), (some (33, false))⟩, ⟨(some 36), .bin .eql (.t 35) (.c (.int .i64 96)), (some (33, false))⟩, ⟨(some 37), .pick
    (.t 33) (.c (.bool true)) (.t 36), none⟩, ⟨(some 38), .mv (.t 37), none⟩, ⟨(some 39), .faddr 0 (.t 3), (some (38, false))⟩, ⟨(some 40), .load 1 false false (.t 39),
   (some (38, false))⟩, ⟨(some 41), .bin .eql (.t 40) (.c (.int .i64 97)), (some (38, false))⟩, ⟨(some 42), .pick (.t 38) (.c (.bool true)) (.t 41), none⟩, ⟨(some 43), .mv
    (.t 42), none⟩, ⟨(some 44), .faddr 3 (.t 3), (some (43, true))⟩, ⟨(some 45), .load 1 false false (.t 44), (some (43, true))⟩, ⟨(some 46), .bin .gtr (.t 45) (.c
    (.int .u32 15)), (some (43, true))⟩, ⟨(some 47), .pick (.t 43) (.t 46) (.c (.bool false)), none⟩]) (.seq (.keep [1, 2, 3, 47]) (.cond (.t 47) (.seq
    (.region 0 [⟨(some 6), .mv (.c (.int .i64 7)), none⟩]) (.ret)) (.skip)))) (.seq (.keep [1, 2, 3]) (.seq (.seq (.region 0 [⟨(some 48), .faddr 0 (.t 3), none⟩,
   ⟨(some 49), .load 1 false false (.t 48), none⟩, ⟨(some 50), .bin .eql (.t 49) (.c (.int .i64 52)), none⟩, ⟨(some 51), .mv (.t 50), none⟩, ⟨(some 52), .faddr 3 (.t 3),
   (some (51, true))⟩, ⟨(some 53), .load 1 false false (.t 52), (some (51, true))⟩, ⟨(some 54), .bin .eql (.t 53) (.c (.int .u32 0)), (some (51, true))⟩, ⟨(some 55), .pick
    (.t 51) (.t 54) (.c (.bool false)), none⟩]) (.seq (.keep [1, 2, 3, 55]) (.cond (.t 55) (.seq (.region 0 [⟨(some 6), .mv (.c (.int .i64 8)), none⟩]) (.ret)) (.skip))))
    (.seq (.keep [1, 2, 3]) (.seq (.seq (.region 0 [⟨(some 56), .faddr 0 (.t 3), none⟩, ⟨(some 57), .load 1 false false (.t 56), none⟩, ⟨(some 58), .bin .eql (.t 57) (.c
    (.int .i64 100)), none⟩, ⟨(some 59), .mv (.t 58), none⟩, ⟨(some 60), .faddr 0 (.t 3), (some (59, false))⟩, ⟨(some 61), .load 1 false false (.t 60), (some (59,
   false))⟩, ⟨(some 62), .bin .eql (.t 61) (.c (.int .i64 116)), (some (59, false))⟩, ⟨(some 63), .pick (.t 59) (.c (.bool true)) (.t 62), none⟩, ⟨(some 64), .mv (.t 63),
   none⟩, ⟨(some 65), .faddr 3 (.t 3), (some (64, true))⟩, ⟨(some 66), .load 1 false false (.t 65), (some (64, true))⟩, ⟨(some 67), .bin .gtr (.t 66) (.c (.int .u32 31)),
   (some (64, true))⟩, ⟨(some 68), .pick (.t 64) (.t 67) (.c (.bool false)), none⟩]) (.seq (.keep [1, 2, 3, 68]) (.cond (.t 68) (.seq (.region 0 [⟨(some 6), .mv (.c
    (.int .i64 1)), none⟩]) (.ret)) (.skip)))) (.seq (.keep [1, 2, 3]) (.seq (.region 0 [⟨(some 69), .mv (.t 2), none⟩, ⟨(some 70), .bin .sub (.t 69) (.c (.int .i64 1)),
   none⟩, ⟨(some 71), .mv (.t 1), none⟩, ⟨(some 72), .bin .sub (.t 70) (.t 71), none⟩, ⟨(some 7), .mv (.t 72), none⟩]) (.seq (.keep [3, 7]) (.seq (.seq
    (.region 0 [⟨(some 73), .faddr 0 (.t 3), none⟩, ⟨(some 74), .load 1 false false (.t 73), none⟩, ⟨(some 75), .bin .eql (.t 74) (.c (.int .i64 5)), none⟩, ⟨(some 76),
   .mv (.t 75), none⟩, ⟨(some 77), .faddr 3 (.t 3), (some (76, true))⟩, ⟨(some 78), .load 1 false false (.t 77), (some (76, true))⟩, ⟨(some 79), .conv .u64 (.t 78), (some
    (76, true))⟩, ⟨(some 80), .mv (.t 7), (some (76, true))⟩, ⟨(some 81), .conv .u64 (.t 80), (some (76, true))⟩, ⟨(some 82), .bin .geq (.t 79) (.t 81), (some (76,
   true))⟩, ⟨(some 83), .pick (.t 76) (.t 82) (.c (.bool false)), none⟩]) (.seq (.keep [3, 7, 83]) (.cond (.t 83) (.seq (.region 0 [⟨(some 6), .mv (.c (.int .i64 4)),
   none⟩]) (.ret)) (.skip)))) (.seq (.keep [3, 7]) (.seq (.seq (.region 0 [⟨(some 84), .load 4 true false (.t 3), none⟩, ⟨(some 85), .pcall 180 [.t 84], none⟩, ⟨(some 86),
   .mv (.t 85), none⟩, ⟨(some 87), .faddr 1 (.t 3), (some (86, true))⟩, ⟨(some 88), .load 1 false false (.t 87), (some (86, true))⟩, ⟨(some 89), .mv (.t 7), (some (86,
   true))⟩, ⟨(some 90), .bin .geq (.t 88) (.t 89), (some (86, true))⟩, ⟨(some 91), .mv (.t 90), (some (86, true))⟩, ⟨(some 92), .faddr 2 (.t 3), (some (91, false))⟩,
   ⟨(some 93), .load 1 false false (.t 92), (some (91, false))⟩, ⟨(some 94), .mv (.t 7), (some (91, false))⟩, ⟨(some 95), .bin .geq (.t 93) (.t 94), (some (91, false))⟩,
   ⟨(some 96), .pick (.t 91) (.c (.bool true)) (.t 95), (some (86, true))⟩, ⟨(some 97), .pick (.t 86) (.t 96) (.c (.bool false)), none⟩]) (.seq (.keep [97]) (.cond
    (.t 97) (.seq (.region 0 [⟨(some 6), .mv (.c (.int .i64 4)), none⟩]) (.ret)) (.skip)))) (.seq (.keep []) (.seq (.region 0 [⟨(some 6), .mv (.c (.int .i64 0)), none⟩])
    (.ret)))))))))))))))))),
  [.tmp 6]⟩

/-- hurdle/hurdleref05.Check -/
def c_hurdleref05_Check : SFn := ⟨41,
  .seq (.region 0 [⟨(some 2), .mv (.c (.int .i64 0)), none⟩, ⟨(some 3), .mv (.c (.int .i64 0)), none⟩]) (.seq (.seq (.region 0 [⟨(some 6), .mv (.t 0), none⟩, ⟨(some 7),
   .len false (.t 6), none⟩, ⟨(some 8), .bin .eql (.t 7) (.c (.int .i64 0)), none⟩]) (.cond (.t 8) (.seq (.region 0 [⟨(some 2), .mv (.c (.int .i64 0)), none⟩, ⟨(some 3),
   .mv (.c (.int .i64 5)), none⟩]) (.ret)) (.skip))) (.seq (.keep [0]) (.seq (.seq (.region 0 [⟨(some 9), .mv (.t 0), none⟩, ⟨(some 10), .len false (.t 9), none⟩,
   ⟨(some 11), .bin .gtr (.t 10) (.c (.int .i64 4096)), none⟩]) (.cond (.t 11) (.seq (.region 0 [⟨(some 2), .mv (.c (.int .i64 0)), none⟩, ⟨(some 3), .mv (.c
    (.int .i64 3)), none⟩]) (.ret)) (.skip))) (.seq (.keep [0]) (.seq (.seq (.region 0 [⟨(some 4), .mv (.c (.int .i64 0)), none⟩]) (.block 0 (.loop [0, 4] (.seq (.seq
    (.region 0 [⟨(some 12), .mv (.t 4), none⟩, ⟨(some 13), .mv (.t 0), none⟩, ⟨(some 14), .len false (.t 13), none⟩, ⟨(some 15), .bin .lss (.t 12) (.t 14), none⟩]) (.seq
    (.keep [0, 4, 15]) (.cond (.t 15) (.skip) (.exit 0)))) (.seq (.keep [0, 4]) (.seq (.block 1 (.seq (.region 0 [⟨(some 18), .mv (.t 0), none⟩, ⟨(some 19), .mv (.t 4),
   none⟩, ⟨(some 20), .iaddr 4 (.t 18) (.t 19), none⟩, ⟨(some 21), .load 4 true false (.t 20), none⟩, ⟨(some 22), .mv (.t 4), none⟩, ⟨(some 23), .mv (.t 0), none⟩,
   ⟨(some 24), .len false (.t 23), none⟩, ⟨(some 25), .pcall 186 [.t 21, .t 22, .t 24], none⟩, ⟨(some 5), .mv (.t 25), none⟩]) (.seq (.keep [0, 4, 5]) (.seq
    (.region 0 [⟨(some 26), .mv (.t 5), none⟩, ⟨(some 27), .bin .neq (.t 26) (.c (.int .i64 0)), none⟩]) (.cond (.t 27) (.seq (.region 0 [⟨(some 28), .mv (.t 4), none⟩,
   ⟨(some 29), .mv (.t 5), none⟩, ⟨(some 2), .mv (.t 28), none⟩, ⟨(some 3), .mv (.t 29), none⟩]) (.ret)) (.skip)))))) (.seq (.keep [0, 4]) (.region 0 [⟨(some 16), .mv
    (.t 4), none⟩, ⟨(some 17), .bin .add (.t 16) (.c (.int .i64 1)), none⟩, ⟨(some 4), .mv (.t 17), none⟩])))))))) (.seq (.keep [0]) (.seq (.seq (.region 0 [⟨(some 30),
   .mv (.t 0), none⟩, ⟨(some 31), .mv (.t 0), none⟩, ⟨(some 32), .len false (.t 31), none⟩, ⟨(some 33), .bin .sub (.t 32) (.c (.int .i64 1)), none⟩, ⟨(some 34), .iaddr 4
    (.t 30) (.t 33), none⟩, ⟨(some 35), .load 4 true false (.t 34), none⟩, ⟨(some 36), .pcall 181 [.t 35], none⟩, ⟨(some 37), .un .not (.t 36), none⟩]) (.seq (.keep [0,
   37]) (.cond (.t 37) (.seq (.region 0 [⟨(some 38), .mv (.t 0), none⟩, ⟨(some 39), .len false (.t 38), none⟩, ⟨(some 40), .bin .sub (.t 39) (.c (.int .i64 1)), none⟩,
   ⟨(some 2), .mv (.t 40), none⟩, ⟨(some 3), .mv (.c (.int .i64 5)), none⟩]) (.ret)) (.skip)))) (.seq (.keep []) (.seq (.region 0 [⟨(some 2), .mv (.c (.int .i64 0)),
   none⟩, ⟨(some 3), .mv (.c (.int .i64 0)), none⟩]) (.ret)))))))))),
  [.tmp 2, .tmp 3]⟩

/-- hurdle/hurdleref05.Sound -/
def c_hurdleref05_Sound : SFn := ⟨12,
  .seq (.region 0 [⟨(some 2), .mv (.c (.bool false)), none⟩]) (.seq (.region 0 [⟨(some 6), .mv (.t 0), none⟩, ⟨(some 7), .pcall 187 [.t 6], none⟩, ⟨(some 5), .mv (.t 7),
   none⟩, ⟨(some 8), .ext 0 (.t 5), none⟩, ⟨(some 9), .ext 1 (.t 5), none⟩, ⟨(some 3), .mv (.t 8), none⟩, ⟨(some 4), .mv (.t 9), none⟩]) (.seq (.keep [4]) (.seq
    (.region 0 [⟨(some 10), .mv (.t 4), none⟩, ⟨(some 11), .bin .eql (.t 10) (.c (.int .i64 0)), none⟩, ⟨(some 2), .mv (.t 11), none⟩]) (.ret)))),
  [.tmp 2]⟩

/-- hurdle/hurdleref05.Next -/
def c_hurdleref05_Next : SFn := ⟨60,
  .seq (.region 0 [⟨(some 4), .mv (.c (.vs [] .full)), none⟩]) (.seq (.region 1 [⟨(some 10), .mv (.t 0), none⟩, ⟨(some 11), .mv (.t 1), none⟩, ⟨(some 12), .iaddr 4 (.t 10)
    (.t 11), none⟩, ⟨(some 13), .load 4 true false (.t 12), none⟩, ⟨(some 5), .alloc 0 ([.int .i64 0, .int .i64 0, .int .i64 0, .int .u32 0]), none⟩, ⟨none, .store 4
    (.t 5) (.t 13), none⟩]) (.seq (.keep [0, 1, 5]) (.seq (.region 0 [⟨(some 6), .mv (.c (.vs [] .full)), none⟩]) (.seq (.seq (.region 0 [⟨(some 14), .mv (.t 1), none⟩,
   ⟨(some 15), .bin .add (.t 14) (.c (.int .i64 1)), none⟩, ⟨(some 7), .mv (.t 15), none⟩]) (.seq (.give 6 none) (.block 0 (.loop [0, 1, 5, 6, 7] (.seq (.seq
    (.region 0 [⟨(some 16), .mv (.t 7), none⟩, ⟨(some 17), .mv (.t 0), none⟩, ⟨(some 18), .len false (.t 17), none⟩, ⟨(some 19), .bin .lss (.t 16) (.t 18), none⟩]) (.seq
    (.keep [0, 1, 5, 6, 7, 19]) (.cond (.t 19) (.skip) (.exit 0)))) (.seq (.keep [0, 1, 5, 6, 7]) (.seq (.block 1 (.seq (.region 0 [⟨(some 22), .mv (.t 7), none⟩,
   ⟨(some 23), .mv (.t 1), none⟩, ⟨(some 24), .bin .sub (.t 22) (.t 23), none⟩, ⟨(some 25), .bin .sub (.t 24) (.c (.int .i64 1)), none⟩, ⟨(some 8), .mv (.t 25), none⟩])
    (.seq (.keep [0, 1, 5, 6, 7, 8]) (.seq (.region 0 [⟨(some 26), .mv (.t 8), none⟩, ⟨(some 27), .bin .eql (.t 26) (.c (.int .i64 0)), none⟩, ⟨(some 9), .mv (.t 27),
   none⟩]) (.seq (.seq (.region 0 [⟨(some 28), .faddr 0 (.t 5), none⟩, ⟨(some 29), .load 1 false false (.t 28), none⟩, ⟨(some 30), .bin .eql (.t 29) (.c (.int .i64 5)),
   none⟩]) (.cond (.t 30) (.region 0 [⟨(some 31), .mv (.t 8), none⟩, ⟨(some 32), .conv .u64 (.t 31), none⟩, ⟨(some 33), .faddr 3 (.t 5), none⟩, ⟨(some 34),
   .load 1 false false (.t 33), none⟩, ⟨(some 35), .conv .u64 (.t 34), none⟩, ⟨(some 36), .bin .eql (.t 32) (.t 35), none⟩, ⟨(some 9), .mv (.t 36), none⟩]) (.skip)))
    (.seq (.keep [0, 1, 5, 6, 7, 8, 9]) (.seq (.seq (.region 0 [⟨(some 37), .load 4 true false (.t 5), none⟩, ⟨(some 38), .pcall 180 [.t 37], none⟩]) (.cond (.t 38)
    (.region 0 [⟨(some 39), .mv (.t 8), none⟩, ⟨(some 40), .faddr 1 (.t 5), none⟩, ⟨(some 41), .load 1 false false (.t 40), none⟩, ⟨(some 42), .bin .eql (.t 39) (.t 41),
   none⟩, ⟨(some 43), .mv (.t 42), none⟩, ⟨(some 44), .mv (.t 8), (some (43, false))⟩, ⟨(some 45), .faddr 2 (.t 5), (some (43, false))⟩, ⟨(some 46), .load 1 false false
    (.t 45), (some (43, false))⟩, ⟨(some 47), .bin .eql (.t 44) (.t 46), (some (43, false))⟩, ⟨(some 48), .pick (.t 43) (.c (.bool true)) (.t 47), none⟩, ⟨(some 9), .mv
    (.t 48), none⟩]) (.skip))) (.seq (.keep [0, 1, 5, 6, 7, 9]) (.seq (.region 0 [⟨(some 49), .mv (.t 9), none⟩, ⟨(some 50), .mv (.t 49), none⟩, ⟨(some 51),
   .load 4 true false (.t 5), (some (50, true))⟩, ⟨(some 52), .pcall 181 [.t 51], (some (50, true))⟩, ⟨(some 53), .un .not (.t 52), (some (50, true))⟩, ⟨(some 54), .pick
    (.t 50) (.t 53) (.c (.bool false)), none⟩]) (.seq (.keep [0, 1, 5, 6, 7, 54]) (.cond (.t 54) (.region 1 [⟨(some 55), .mv (.t 6), none⟩, ⟨(some 56), .mv (.t 7), none⟩,
   ⟨(some 57), .bslice 1 ([.int .i64 0]) [(0, .t 56)], none⟩, ⟨(some 58), .app 0 1 8 (.t 55) (.t 57), none⟩, ⟨(some 6), .mv (.t 58), none⟩]) (.skip)))))))))))) (.seq
    (.keep [0, 1, 5, 6, 7]) (.region 0 [⟨(some 20), .mv (.t 7), none⟩, ⟨(some 21), .bin .add (.t 20) (.c (.int .i64 1)), none⟩, ⟨(some 7), .mv (.t 21), none⟩])))))))))
    (.seq (.keep [6]) (.seq (.region 0 [⟨(some 59), .mv (.t 6), none⟩, ⟨(some 4), .mv (.t 59), none⟩]) (.ret))))))),
  [.tmp 4]⟩

/-- hurdle/hurdleref06.Step -/
def c_hurdleref06_Step : SFn := ⟨121,
  .seq (.region 4 [⟨(some 3), .box 0 (.t 0), none⟩, ⟨(some 4), .box 1 (.t 1), none⟩, ⟨(some 5), .box 2 (.t 2), none⟩, ⟨(some 6), .alloc 3 (rep 18 (.int .u32 0)), none⟩,
   ⟨(some 7), .mv (.c (.bool false)), none⟩]) (.seq (.region 0 [⟨(some 19), .load 4 true false (.t 4), none⟩, ⟨(some 20), .pcall 179 [.t 19], none⟩, ⟨(some 18), .mv
    (.t 20), none⟩, ⟨(some 21), .ext 0 (.t 18), none⟩, ⟨(some 22), .ext 1 (.t 18), none⟩, ⟨(some 23), .ext 2 (.t 18), none⟩, ⟨(some 8), .mv (.t 21), none⟩, ⟨(some 9), .mv
    (.t 22), none⟩, ⟨(some 10), .mv (.t 23), none⟩]) (.seq (.keep [3, 4, 5, 6, 8, 9, 10]) (.seq (.seq (.region 0 [⟨(some 24), .mv (.t 10), none⟩]) (.cond (.t 24) (.seq
    (.region 0 [⟨(some 25), .faddr 3 (.t 4), none⟩, ⟨(some 26), .load 1 false false (.t 25), none⟩, ⟨(some 11), .mv (.t 26), none⟩]) (.seq (.seq (.region 0 [⟨(some 27),
   .mv (.t 9), none⟩]) (.cond (.t 27) (.region 0 [⟨(some 28), .faddr 1 (.t 3), none⟩, ⟨(some 29), .load 1 false false (.t 28), none⟩, ⟨(some 11), .mv (.t 29), none⟩])
    (.skip))) (.seq (.keep [3, 6, 8, 11]) (.seq (.region 0 [⟨(some 31), .mv (.t 8), none⟩, ⟨(some 32), .faddr 0 (.t 3), none⟩, ⟨(some 33), .load 1 false false (.t 32),
   none⟩, ⟨(some 34), .mv (.t 11), none⟩, ⟨(some 35), .pcall 122 [.t 31, .t 33, .t 34], none⟩, ⟨(some 30), .mv (.t 35), none⟩, ⟨(some 36), .ext 0 (.t 30), none⟩,
   ⟨(some 37), .ext 1 (.t 30), none⟩, ⟨(some 12), .mv (.t 36), none⟩, ⟨(some 13), .mv (.t 37), none⟩]) (.seq (.keep [3, 6, 12, 13]) (.seq (.seq (.region 0 [⟨(some 38), .mv
    (.t 13), none⟩, ⟨(some 39), .un .not (.t 38), none⟩]) (.cond (.t 39) (.seq (.region 0 [⟨(some 40), .load 18 true false (.t 3), none⟩, ⟨none, .store 18 (.t 6) (.t 40),
   none⟩, ⟨(some 7), .mv (.c (.bool false)), none⟩]) (.ret)) (.skip))) (.seq (.keep [3, 6, 12]) (.seq (.region 0 [⟨(some 41), .mv (.t 12), none⟩, ⟨(some 42), .faddr 0
    (.t 3), none⟩, ⟨none, .store 1 (.t 42) (.t 41), none⟩]) (.seq (.region 0 [⟨(some 43), .load 18 true false (.t 3), none⟩, ⟨none, .store 18 (.t 6) (.t 43), none⟩,
   ⟨(some 7), .mv (.c (.bool true)), none⟩]) (.ret)))))))))) (.skip))) (.seq (.keep [3, 4, 5, 6]) (.seq (.region 0 [⟨(some 14), .mv (.c (.int .u32 0)), none⟩]) (.seq
    (.seq (.region 0 [⟨(some 15), .mv (.c (.int .i64 0)), none⟩]) (.block 0 (.loop [3, 4, 5, 6, 14, 15] (.seq (.seq (.region 0 [⟨(some 44), .mv (.t 15), none⟩, ⟨(some 45),
   .bin .lss (.t 44) (.c (.int .i64 16)), none⟩]) (.cond (.t 45) (.skip) (.exit 0))) (.seq (.block 1 (.seq (.region 0 [⟨(some 48), .mv (.t 15), none⟩, ⟨(some 49),
   .conv .u32 (.t 48), none⟩, ⟨(some 50), .faddr 3 (.t 4), none⟩, ⟨(some 51), .load 1 false false (.t 50), none⟩, ⟨(some 52), .bin .eql (.t 49) (.t 51), none⟩]) (.seq
    (.keep [3, 4, 5, 6, 14, 15, 52]) (.cond (.t 52) (.seq (.region 0 [⟨(some 53), .mv (.t 15), none⟩, ⟨(some 54), .faddr 2 (.t 3), none⟩, ⟨(some 55), .iaddrA 16 1 (.t 54)
    (.t 53), none⟩, ⟨(some 56), .load 1 false false (.t 55), none⟩, ⟨(some 14), .mv (.t 56), none⟩]) (.seq (.keep [3, 4, 5, 6, 14, 15]) (.seq (.seq
    (.region 0 [⟨(some 57), .faddr 0 (.t 4), none⟩, ⟨(some 58), .load 1 false false (.t 57), none⟩, ⟨(some 59), .bin .eql (.t 58) (.c (.int .i64 2)), none⟩]) (.cond
    (.t 59) (.region 0 [⟨(some 60), .mv (.t 15), none⟩, ⟨(some 61), .faddr 0 (.t 3), none⟩, ⟨(some 62), .load 1 false false (.t 61), none⟩, ⟨(some 63), .faddr 2 (.t 3),
   none⟩, ⟨(some 64), .iaddrA 16 1 (.t 63) (.t 60), none⟩, ⟨none, .store 1 (.t 64) (.t 62), none⟩]) (.skip))) (.seq (.keep [3, 4, 5, 6, 14, 15]) (.seq
    (.region 0 [⟨(some 65), .faddr 0 (.t 4), none⟩, ⟨(some 66), .load 1 false false (.t 65), none⟩, ⟨(some 67), .bin .eql (.t 66) (.c (.int .i64 3)), none⟩]) (.cond
    (.t 67) (.region 0 [⟨(some 68), .mv (.t 15), none⟩, ⟨(some 69), .faddr 1 (.t 3), none⟩, ⟨(some 70), .load 1 false false (.t 69), none⟩, ⟨(some 71), .faddr 2 (.t 3),
   none⟩, ⟨(some 72), .iaddrA 16 1 (.t 71) (.t 68), none⟩, ⟨none, .store 1 (.t 72) (.t 70), none⟩]) (.skip))))))) (.skip))))) (.seq (.keep [3, 4, 5, 6, 14, 15])
    (.region 0 [⟨(some 46), .mv (.t 15), none⟩, ⟨(some 47), .bin .add (.t 46) (.c (.int .i64 1)), none⟩, ⟨(some 15), .mv (.t 47), none⟩]))))))) (.seq (.keep [3, 4, 5, 6,
   14]) (.seq (.seq (.region 0 [⟨(some 73), .faddr 0 (.t 4), none⟩, ⟨(some 74), .load 1 false false (.t 73), none⟩]) (.block 2 (.seq (.region 0 [⟨(some 76), .bin .eql
    (.t 74) (.c (.int .i64 0)), none⟩, ⟨(some 75), .mv (.t 76), none⟩]) (.cond (.t 75) (.region 0 [⟨(some 77), .faddr 3 (.t 4), none⟩, ⟨(some 78), .load 1 false false
    (.t 77), none⟩, ⟨(some 79), .faddr 0 (.t 3), none⟩, ⟨none, .store 1 (.t 79) (.t 78), none⟩]) (.seq (.region 0 [⟨(some 81), .bin .eql (.t 74) (.c (.int .i64 1)), none⟩,
   ⟨(some 80), .mv (.t 81), none⟩]) (.cond (.t 80) (.region 0 [⟨(some 82), .faddr 3 (.t 4), none⟩, ⟨(some 83), .load 1 false false (.t 82), none⟩, ⟨(some 84), .faddr 1
    (.t 3), none⟩, ⟨none, .store 1 (.t 84) (.t 83), none⟩]) (.seq (.region 0 [⟨(some 86), .bin .eql (.t 74) (.c (.int .i64 32)), none⟩, ⟨(some 85), .mv (.t 86), none⟩])
    (.cond (.t 85) (.seq (.region 0 [⟨(some 88), .load 9 true false (.t 5), none⟩, ⟨(some 89), .faddr 3 (.t 4), none⟩, ⟨(some 90), .load 1 false false (.t 89), none⟩,
   ⟨(some 91), .pcall 185 [.t 88, .t 90], none⟩, ⟨(some 87), .mv (.t 91), none⟩, ⟨(some 92), .ext 0 (.t 87), none⟩, ⟨(some 93), .ext 1 (.t 87), none⟩, ⟨(some 16), .mv
    (.t 92), none⟩, ⟨(some 17), .mv (.t 93), none⟩]) (.seq (.keep [3, 6, 16]) (.region 0 [⟨(some 94), .mv (.t 16), none⟩, ⟨(some 95), .faddr 0 (.t 3), none⟩, ⟨none,
   .store 1 (.t 95) (.t 94), none⟩]))) (.seq (.region 0 [⟨(some 97), .bin .eql (.t 74) (.c (.int .i64 96)), none⟩, ⟨(some 96), .mv (.t 97), none⟩]) (.cond (.t 96)
    (.region 0 [⟨(some 98), .mv (.t 14), none⟩, ⟨(some 99), .faddr 0 (.t 3), none⟩, ⟨none, .store 1 (.t 99) (.t 98), none⟩]) (.seq (.region 0 [⟨(some 101), .bin .eql
    (.t 74) (.c (.int .i64 97)), none⟩, ⟨(some 100), .mv (.t 101), none⟩]) (.cond (.t 100) (.region 0 [⟨(some 102), .mv (.t 14), none⟩, ⟨(some 103), .faddr 1 (.t 3),
   none⟩, ⟨none, .store 1 (.t 103) (.t 102), none⟩]) (.seq (.region 0 [⟨(some 105), .bin .eql (.t 74) (.c (.int .i64 7)), none⟩, ⟨(some 104), .mv (.t 105), none⟩]) (.cond
    (.t 104) (.region 0 [⟨(some 106), .faddr 0 (.t 3), none⟩, ⟨(some 107), .load 1 false false (.t 106), none⟩, ⟨(some 108), .faddr 1 (.t 3), none⟩, ⟨none, .store 1
    (.t 108) (.t 107), none⟩]) (.seq (.region 0 [⟨(some 110), .bin .eql (.t 74) (.c (.int .i64 135)), none⟩, ⟨(some 109), .mv (.t 110), none⟩]) (.cond (.t 109)
    (.region 0 [⟨(some 111), .faddr 1 (.t 3), none⟩, ⟨(some 112), .load 1 false false (.t 111), none⟩, ⟨(some 113), .faddr 0 (.t 3), none⟩, ⟨none, .store 1 (.t 113)
    (.t 112), none⟩]) (.seq (.region 0 [⟨(some 115), .bin .eql (.t 74) (.c (.int .i64 132)), none⟩, ⟨(some 114), .mv (.t 115), none⟩]) (.cond (.t 114)
    (.region 0 [⟨(some 116), .faddr 0 (.t 3), none⟩, ⟨(some 117), .load 1 false false (.t 116), none⟩, ⟨(some 118), .pcall 173 [.t 117], none⟩, ⟨(some 119), .faddr 0
    (.t 3), none⟩, ⟨none, .store 1 (.t 119) (.t 118), none⟩]) (.skip))))))))))))))))))) (.seq (.keep [3, 6]) (.seq (.region 0 [⟨(some 120), .load 18 true false (.t 3),
   none⟩, ⟨none, .store 18 (.t 6) (.t 120), none⟩, ⟨(some 7), .mv (.c (.bool true)), none⟩]) (.ret))))))))))),
  [.cell 6 18 true, .tmp 7]⟩

/-- hurdle/hurdleref06.Takes -/
def c_hurdleref06_Takes : SFn := ⟨50,
  .seq (.region 2 [⟨(some 2), .box 0 (.t 0), none⟩, ⟨(some 3), .box 1 (.t 1), none⟩, ⟨(some 4), .mv (.c (.bool false)), none⟩]) (.seq (.seq (.region 0 [⟨(some 9),
   .load 4 true false (.t 3), none⟩, ⟨(some 10), .pcall 180 [.t 9], none⟩, ⟨(some 11), .un .not (.t 10), none⟩]) (.cond (.t 11) (.seq (.region 0 [⟨(some 4), .mv (.c
    (.bool false)), none⟩]) (.ret)) (.skip))) (.seq (.keep [2, 3]) (.seq (.region 0 [⟨(some 12), .faddr 3 (.t 3), none⟩, ⟨(some 13), .load 1 false false (.t 12), none⟩,
   ⟨(some 5), .mv (.t 13), none⟩]) (.seq (.region 0 [⟨(some 14), .faddr 0 (.t 3), none⟩, ⟨(some 15), .load 1 false false (.t 14), none⟩, ⟨(some 6), .mv (.t 15), none⟩])
    (.seq (.seq (.region 0 [⟨(some 16), .mv (.t 6), none⟩, ⟨(some 17), .bin .rem (.t 16) (.c (.int .i64 16)), none⟩, ⟨(some 18), .bin .eql (.t 17) (.c (.int .i64 13)),
   none⟩]) (.cond (.t 18) (.seq (.region 0 [⟨(some 19), .faddr 1 (.t 2), none⟩, ⟨(some 20), .load 1 false false (.t 19), none⟩, ⟨(some 5), .mv (.t 20), none⟩])
    (.region 0 [⟨(some 21), .mv (.t 6), none⟩, ⟨(some 22), .bin .sub (.t 21) (.c (.int .i64 8)), none⟩, ⟨(some 6), .mv (.t 22), none⟩])) (.skip))) (.seq (.keep [2, 5, 6])
    (.seq (.seq (.region 0 [⟨(some 23), .mv (.t 6), none⟩, ⟨(some 24), .bin .eql (.t 23) (.c (.int .i64 21)), none⟩]) (.cond (.t 24) (.seq (.region 0 [⟨(some 25), .faddr 0
    (.t 2), none⟩, ⟨(some 26), .load 1 false false (.t 25), none⟩, ⟨(some 27), .mv (.t 5), none⟩, ⟨(some 28), .bin .eql (.t 26) (.t 27), none⟩, ⟨(some 4), .mv (.t 28),
   none⟩]) (.ret)) (.skip))) (.seq (.keep [2, 5, 6]) (.seq (.seq (.region 0 [⟨(some 29), .mv (.t 6), none⟩, ⟨(some 30), .bin .eql (.t 29) (.c (.int .i64 37)), none⟩])
    (.cond (.t 30) (.seq (.region 0 [⟨(some 31), .mv (.t 5), none⟩, ⟨(some 32), .faddr 0 (.t 2), none⟩, ⟨(some 33), .load 1 false false (.t 32), none⟩, ⟨(some 34),
   .bin .lss (.t 31) (.t 33), none⟩, ⟨(some 4), .mv (.t 34), none⟩]) (.ret)) (.skip))) (.seq (.keep [2, 5, 6]) (.seq (.seq (.region 0 [⟨(some 35), .mv (.t 6), none⟩,
   ⟨(some 36), .bin .eql (.t 35) (.c (.int .i64 53)), none⟩]) (.cond (.t 36) (.seq (.region 0 [⟨(some 37), .mv (.t 5), none⟩, ⟨(some 38), .faddr 0 (.t 2), none⟩,
   ⟨(some 39), .load 1 false false (.t 38), none⟩, ⟨(some 40), .bin .leq (.t 37) (.t 39), none⟩, ⟨(some 4), .mv (.t 40), none⟩]) (.ret)) (.skip))) (.seq (.keep [2, 5])
    (.seq (.region 0 [⟨(some 42), .faddr 0 (.t 2), none⟩, ⟨(some 43), .load 1 false false (.t 42), none⟩, ⟨(some 44), .mv (.t 5), none⟩, ⟨(some 45), .pcall 122 [.c
    (.int .i64 84), .t 43, .t 44], none⟩, ⟨(some 41), .mv (.t 45), none⟩, ⟨(some 46), .ext 0 (.t 41), none⟩, ⟨(some 47), .ext 1 (.t 41), none⟩, ⟨(some 7), .mv (.t 46),
   none⟩, ⟨(some 8), .mv (.t 47), none⟩]) (.seq (.keep [7]) (.seq (.region 0 [⟨(some 48), .mv (.t 7), none⟩, ⟨(some 49), .bin .gtr (.t 48) (.c (.int .u32 0)), none⟩,
   ⟨(some 4), .mv (.t 49), none⟩]) (.ret)))))))))))))))),
  [.tmp 4]⟩

/-- hurdle/hurdleref06.From -/
def c_hurdleref06_From : SFn := ⟨73,
  .seq (.region 2 [⟨(some 5), .box 0 (.t 1), none⟩, ⟨(some 7), .box 1 (.t 3), none⟩, ⟨(some 8), .mv (.c (.int .u32 0)), none⟩, ⟨(some 9), .mv (.c (.int .i64 0)), none⟩])
    (.seq (.region 1 [⟨(some 16), .mv (.t 0), none⟩, ⟨(some 17), .mv (.t 2), none⟩, ⟨(some 18), .iaddr 4 (.t 16) (.t 17), none⟩, ⟨(some 19), .load 4 true false (.t 18),
   none⟩, ⟨(some 10), .alloc 0 ([.int .i64 0, .int .i64 0, .int .i64 0, .int .u32 0]), none⟩, ⟨none, .store 4 (.t 10) (.t 19), none⟩]) (.seq (.keep [0, 2, 5, 7, 10])
    (.seq (.seq (.region 0 [⟨(some 20), .faddr 0 (.t 10), none⟩, ⟨(some 21), .load 1 false false (.t 20), none⟩, ⟨(some 22), .bin .eql (.t 21) (.c (.int .i64 6)), none⟩])
    (.cond (.t 22) (.seq (.region 0 [⟨(some 23), .faddr 3 (.t 10), none⟩, ⟨(some 24), .load 1 false false (.t 23), none⟩, ⟨(some 8), .mv (.t 24), none⟩, ⟨(some 9), .mv
    (.c (.int .i64 1)), none⟩]) (.ret)) (.skip))) (.seq (.keep [0, 2, 5, 7, 10]) (.seq (.seq (.region 0 [⟨(some 25), .faddr 0 (.t 10), none⟩, ⟨(some 26),
   .load 1 false false (.t 25), none⟩, ⟨(some 27), .bin .eql (.t 26) (.c (.int .i64 22)), none⟩]) (.cond (.t 27) (.seq (.region 0 [⟨(some 28), .faddr 0 (.t 5), none⟩,
   ⟨(some 29), .load 1 false false (.t 28), none⟩, ⟨(some 8), .mv (.t 29), none⟩, ⟨(some 9), .mv (.c (.int .i64 1)), none⟩]) (.ret)) (.skip))) (.seq (.keep [0, 2, 5, 7,
   10]) (.seq (.region 0 [⟨(some 30), .mv (.t 2), none⟩, ⟨(some 31), .bin .add (.t 30) (.c (.int .i64 1)), none⟩, ⟨(some 11), .mv (.t 31), none⟩]) (.seq (.seq
    (.region 0 [⟨(some 32), .faddr 0 (.t 10), none⟩, ⟨(some 33), .load 1 false false (.t 32), none⟩, ⟨(some 34), .bin .eql (.t 33) (.c (.int .i64 5)), none⟩]) (.cond
    (.t 34) (.region 0 [⟨(some 35), .mv (.t 11), none⟩, ⟨(some 36), .faddr 3 (.t 10), none⟩, ⟨(some 37), .load 1 false false (.t 36), none⟩, ⟨(some 38), .conv .i64
    (.t 37), none⟩, ⟨(some 39), .bin .add (.t 35) (.t 38), none⟩, ⟨(some 11), .mv (.t 39), none⟩]) (.skip))) (.seq (.keep [0, 5, 7, 10, 11]) (.seq (.seq
    (.region 0 [⟨(some 40), .load 4 true false (.t 10), none⟩, ⟨(some 41), .pcall 180 [.t 40], none⟩]) (.cond (.t 41) (.seq (.region 0 [⟨(some 42), .load 18 true false
    (.t 5), none⟩, ⟨(some 43), .load 4 true false (.t 10), none⟩, ⟨(some 44), .pcall 191 [.t 42, .t 43], none⟩]) (.cond (.t 44) (.region 0 [⟨(some 45), .mv (.t 11), none⟩,
   ⟨(some 46), .faddr 1 (.t 10), none⟩, ⟨(some 47), .load 1 false false (.t 46), none⟩, ⟨(some 48), .bin .add (.t 45) (.t 47), none⟩, ⟨(some 11), .mv (.t 48), none⟩])
    (.region 0 [⟨(some 49), .mv (.t 11), none⟩, ⟨(some 50), .faddr 2 (.t 10), none⟩, ⟨(some 51), .load 1 false false (.t 50), none⟩, ⟨(some 52), .bin .add (.t 49)
    (.t 51), none⟩, ⟨(some 11), .mv (.t 52), none⟩]))) (.skip))) (.seq (.keep [0, 5, 7, 10, 11]) (.seq (.region 1 [⟨(some 54), .load 18 true false (.t 5), none⟩,
   ⟨(some 55), .load 4 true false (.t 10), none⟩, ⟨(some 56), .load 9 true false (.t 7), none⟩, ⟨(some 57), .pcall 190 [.t 54, .t 55, .t 56], none⟩, ⟨(some 53), .mv
    (.t 57), none⟩, ⟨(some 58), .ext 0 (.t 53), none⟩, ⟨(some 59), .ext 1 (.t 53), none⟩, ⟨(some 12), .alloc 0 (rep 18 (.int .u32 0)), none⟩, ⟨none, .store 18 (.t 12)
    (.t 58), none⟩, ⟨(some 13), .mv (.t 59), none⟩]) (.seq (.keep [0, 7, 11, 12, 13]) (.seq (.seq (.region 0 [⟨(some 60), .mv (.t 13), none⟩, ⟨(some 61), .un .not
    (.t 60), none⟩]) (.cond (.t 61) (.seq (.region 0 [⟨(some 8), .mv (.c (.int .u32 0)), none⟩, ⟨(some 9), .mv (.c (.int .i64 1)), none⟩]) (.ret)) (.skip))) (.seq
    (.keep [0, 7, 11, 12]) (.seq (.region 0 [⟨(some 63), .mv (.t 0), none⟩, ⟨(some 64), .load 18 true false (.t 12), none⟩, ⟨(some 65), .mv (.t 11), none⟩, ⟨(some 66),
   .load 9 true false (.t 7), none⟩, ⟨(some 67), .pcall 192 [.t 63, .t 64, .t 65, .t 66], none⟩, ⟨(some 62), .mv (.t 67), none⟩, ⟨(some 68), .ext 0 (.t 62), none⟩,
   ⟨(some 69), .ext 1 (.t 62), none⟩, ⟨(some 14), .mv (.t 68), none⟩, ⟨(some 15), .mv (.t 69), none⟩]) (.seq (.keep [14, 15]) (.seq (.region 0 [⟨(some 70), .mv (.t 14),
   none⟩, ⟨(some 71), .mv (.t 15), none⟩, ⟨(some 72), .bin .add (.t 71) (.c (.int .i64 1)), none⟩, ⟨(some 8), .mv (.t 70), none⟩, ⟨(some 9), .mv (.t 72), none⟩])
    (.ret))))))))))))))))))),
  [.tmp 8, .tmp 9]⟩

/-- hurdle/hurdleref07.in -/
def c_hurdleref07_in : SFn := ⟨18,
  .seq (.region 0 [⟨(some 4), .mv (.c (.bool false)), none⟩]) (.seq (.seq (.region 0 [⟨(some 5), .mv (.c (.int .i64 0)), none⟩]) (.block 0 (.loop [0, 1, 5] (.seq (.seq
    (.region 0 [⟨(some 6), .mv (.t 5), none⟩, ⟨(some 7), .mv (.t 1), none⟩, ⟨(some 8), .len false (.t 7), none⟩, ⟨(some 9), .bin .lss (.t 6) (.t 8), none⟩]) (.seq
    (.keep [0, 1, 5, 9]) (.cond (.t 9) (.skip) (.exit 0)))) (.seq (.keep [0, 1, 5]) (.seq (.block 1 (.seq (.region 0 [⟨(some 12), .mv (.t 1), none⟩, ⟨(some 13), .mv
    (.t 5), none⟩, ⟨(some 14), .iaddr 1 (.t 12) (.t 13), none⟩, ⟨(some 15), .load 1 false false (.t 14), none⟩, ⟨(some 16), .mv (.t 0), none⟩, ⟨(some 17), .bin .eql
    (.t 15) (.t 16), none⟩]) (.seq (.keep [0, 1, 5, 17]) (.cond (.t 17) (.seq (.region 0 [⟨(some 4), .mv (.c (.bool true)), none⟩]) (.ret)) (.skip))))) (.seq (.keep [0, 1,
   5]) (.region 0 [⟨(some 10), .mv (.t 5), none⟩, ⟨(some 11), .bin .add (.t 10) (.c (.int .i64 1)), none⟩, ⟨(some 5), .mv (.t 11), none⟩])))))))) (.seq (.keep []) (.seq
    (.region 0 [⟨(some 4), .mv (.c (.bool false)), none⟩]) (.ret)))),
  [.tmp 4]⟩

/-- hurdle/hurdleref07.Uses -/
def c_hurdleref07_Uses : SFn := ⟨69,
  .seq (.region 1 [⟨(some 2), .box 0 (.t 0), none⟩, ⟨(some 4), .mv (.c (.bool false)), none⟩]) (.seq (.region 0 [⟨(some 11), .load 4 true false (.t 2), none⟩, ⟨(some 12),
   .pcall 179 [.t 11], none⟩, ⟨(some 10), .mv (.t 12), none⟩, ⟨(some 13), .ext 0 (.t 10), none⟩, ⟨(some 14), .ext 1 (.t 10), none⟩, ⟨(some 15), .ext 2 (.t 10), none⟩,
   ⟨(some 5), .mv (.t 13), none⟩, ⟨(some 6), .mv (.t 14), none⟩, ⟨(some 7), .mv (.t 15), none⟩]) (.seq (.keep [1, 2, 6, 7]) (.seq (.region 0 [⟨(some 16),
   .load 4 true false (.t 2), none⟩, ⟨(some 17), .pcall 180 [.t 16], none⟩, ⟨(some 8), .mv (.t 17), none⟩]) (.seq (.region 0 [⟨(some 18), .mv (.t 8), none⟩, ⟨(some 19),
   .mv (.t 18), none⟩, ⟨(some 20), .faddr 0 (.t 2), (some (19, true))⟩, ⟨(some 21), .load 1 false false (.t 20), (some (19, true))⟩, ⟨(some 22), .bin .rem (.t 21) (.c
    (.int .i64 16)), (some (19, true))⟩, ⟨(some 23), .bin .eql (.t 22) (.c (.int .i64 13)), (some (19, true))⟩, ⟨(some 24), .pick (.t 19) (.t 23) (.c (.bool false)),
   none⟩, ⟨(some 9), .mv (.t 24), none⟩]) (.seq (.keep [1, 2, 6, 7, 8, 9]) (.seq (.seq (.region 0 [⟨(some 25), .mv (.t 1), none⟩, ⟨(some 26), .bin .eql (.t 25) (.c
    (.int .i64 0)), none⟩]) (.cond (.t 26) (.seq (.region 0 [⟨(some 27), .mv (.t 7), none⟩, ⟨(some 28), .mv (.t 27), none⟩, ⟨(some 29), .mv (.t 8), (some (28, false))⟩,
   ⟨(some 30), .pick (.t 28) (.c (.bool true)) (.t 29), none⟩, ⟨(some 31), .mv (.t 30), none⟩, ⟨(some 32), .faddr 0 (.t 2), (some (31, false))⟩, ⟨(some 33),
   .load 1 false false (.t 32), (some (31, false))⟩, ⟨(some 34), .bslice 4 ([.int .i64 0]) [(0, .c (.int .i64 2)), (1, .c (.int .i64 7)), (2, .c (.int .i64 132)), (3, .c
    (.int .i64 22))], (some (31, false))⟩, ⟨(some 35), .pcall 193 [.t 33, .t 34], (some (31, false))⟩, ⟨(some 36), .pick (.t 31) (.c (.bool true)) (.t 35), none⟩,
   ⟨(some 4), .mv (.t 36), none⟩]) (.ret)) (.skip))) (.seq (.keep [1, 2, 6, 7, 9]) (.seq (.seq (.region 0 [⟨(some 37), .mv (.t 1), none⟩, ⟨(some 38), .bin .eql (.t 37)
    (.c (.int .i64 1)), none⟩]) (.cond (.t 38) (.seq (.region 0 [⟨(some 39), .mv (.t 7), none⟩, ⟨(some 40), .mv (.t 39), none⟩, ⟨(some 41), .mv (.t 6), (some (40, true))⟩,
   ⟨(some 42), .pick (.t 40) (.t 41) (.c (.bool false)), none⟩, ⟨(some 43), .mv (.t 42), none⟩, ⟨(some 44), .mv (.t 9), (some (43, false))⟩, ⟨(some 45), .pick (.t 43) (.c
    (.bool true)) (.t 44), none⟩, ⟨(some 46), .mv (.t 45), none⟩, ⟨(some 47), .faddr 0 (.t 2), (some (46, false))⟩, ⟨(some 48), .load 1 false false (.t 47), (some (46,
   false))⟩, ⟨(some 49), .bslice 2 ([.int .i64 0]) [(0, .c (.int .i64 3)), (1, .c (.int .i64 135))], (some (46, false))⟩, ⟨(some 50), .pcall 193 [.t 48, .t 49], (some
    (46, false))⟩, ⟨(some 51), .pick (.t 46) (.c (.bool true)) (.t 50), none⟩, ⟨(some 4), .mv (.t 51), none⟩]) (.ret)) (.skip))) (.seq (.keep [1, 2]) (.seq
    (.region 0 [⟨(some 52), .faddr 0 (.t 2), none⟩, ⟨(some 53), .load 1 false false (.t 52), none⟩, ⟨(some 54), .bin .eql (.t 53) (.c (.int .i64 96)), none⟩, ⟨(some 55),
   .mv (.t 54), none⟩, ⟨(some 56), .faddr 0 (.t 2), (some (55, false))⟩, ⟨(some 57), .load 1 false false (.t 56), (some (55, false))⟩, ⟨(some 58), .bin .eql (.t 57) (.c
    (.int .i64 97)), (some (55, false))⟩, ⟨(some 59), .pick (.t 55) (.c (.bool true)) (.t 58), none⟩, ⟨(some 60), .mv (.t 59), none⟩, ⟨(some 61), .faddr 3 (.t 2), (some
    (60, true))⟩, ⟨(some 62), .load 1 false false (.t 61), (some (60, true))⟩, ⟨(some 63), .conv .u64 (.t 62), (some (60, true))⟩, ⟨(some 64), .bin .add (.t 63) (.c
    (.int .u64 2)), (some (60, true))⟩, ⟨(some 65), .mv (.t 1), (some (60, true))⟩, ⟨(some 66), .conv .u64 (.t 65), (some (60, true))⟩, ⟨(some 67), .bin .eql (.t 64)
    (.t 66), (some (60, true))⟩, ⟨(some 68), .pick (.t 60) (.t 67) (.c (.bool false)), none⟩, ⟨(some 4), .mv (.t 68), none⟩]) (.ret))))))))))),
  [.tmp 4]⟩

/-- hurdle/hurdleref07.Sets -/
def c_hurdleref07_Sets : SFn := ⟨46,
  .seq (.region 1 [⟨(some 2), .box 0 (.t 0), none⟩, ⟨(some 4), .mv (.c (.bool false)), none⟩]) (.seq (.region 0 [⟨(some 9), .load 4 true false (.t 2), none⟩, ⟨(some 10),
   .pcall 179 [.t 9], none⟩, ⟨(some 8), .mv (.t 10), none⟩, ⟨(some 11), .ext 0 (.t 8), none⟩, ⟨(some 12), .ext 1 (.t 8), none⟩, ⟨(some 13), .ext 2 (.t 8), none⟩,
   ⟨(some 5), .mv (.t 11), none⟩, ⟨(some 6), .mv (.t 12), none⟩, ⟨(some 7), .mv (.t 13), none⟩]) (.seq (.keep [1, 2, 7]) (.seq (.seq (.region 0 [⟨(some 14), .mv (.t 1),
   none⟩, ⟨(some 15), .bin .eql (.t 14) (.c (.int .i64 0)), none⟩]) (.cond (.t 15) (.seq (.region 0 [⟨(some 16), .mv (.t 7), none⟩, ⟨(some 17), .mv (.t 16), none⟩,
   ⟨(some 18), .faddr 0 (.t 2), (some (17, false))⟩, ⟨(some 19), .load 1 false false (.t 18), (some (17, false))⟩, ⟨(some 20), .bslice 5 ([.int .i64 0]) [(0, .c
    (.int .i64 0)), (1, .c (.int .i64 32)), (2, .c (.int .i64 96)), (3, .c (.int .i64 135)), (4, .c (.int .i64 132))], (some (17, false))⟩, ⟨(some 21), .pcall 193 [.t 19,
   .t 20], (some (17, false))⟩, ⟨(some 22), .pick (.t 17) (.c (.bool true)) (.t 21), none⟩, ⟨(some 4), .mv (.t 22), none⟩]) (.ret)) (.skip))) (.seq (.keep [1, 2]) (.seq
    (.seq (.region 0 [⟨(some 23), .mv (.t 1), none⟩, ⟨(some 24), .bin .eql (.t 23) (.c (.int .i64 1)), none⟩]) (.cond (.t 24) (.seq (.region 0 [⟨(some 25), .faddr 0
    (.t 2), none⟩, ⟨(some 26), .load 1 false false (.t 25), none⟩, ⟨(some 27), .bslice 3 ([.int .i64 0]) [(0, .c (.int .i64 1)), (1, .c (.int .i64 97)), (2, .c
    (.int .i64 7))], none⟩, ⟨(some 28), .pcall 193 [.t 26, .t 27], none⟩, ⟨(some 4), .mv (.t 28), none⟩]) (.ret)) (.skip))) (.seq (.keep [1, 2]) (.seq
    (.region 0 [⟨(some 29), .faddr 0 (.t 2), none⟩, ⟨(some 30), .load 1 false false (.t 29), none⟩, ⟨(some 31), .bin .eql (.t 30) (.c (.int .i64 2)), none⟩, ⟨(some 32),
   .mv (.t 31), none⟩, ⟨(some 33), .faddr 0 (.t 2), (some (32, false))⟩, ⟨(some 34), .load 1 false false (.t 33), (some (32, false))⟩, ⟨(some 35), .bin .eql (.t 34) (.c
    (.int .i64 3)), (some (32, false))⟩, ⟨(some 36), .pick (.t 32) (.c (.bool true)) (.t 35), none⟩, ⟨(some 37), .mv (.t 36), none⟩, ⟨(some 38), .faddr 3 (.t 2), (some
    (37, true))⟩, ⟨(some 39), .load 1 false false (.t 38), (some (37, true))⟩, ⟨(some 40), .conv .u64 (.t 39), (some (37, true))⟩, ⟨(some 41), .bin .add (.t 40) (.c
    (.int .u64 2)), (some (37, true))⟩, ⟨(some 42), .mv (.t 1), (some (37, true))⟩, ⟨(some 43), .conv .u64 (.t 42), (some (37, true))⟩, ⟨(some 44), .bin .eql (.t 41)
    (.t 43), (some (37, true))⟩, ⟨(some 45), .pick (.t 37) (.t 44) (.c (.bool false)), none⟩, ⟨(some 4), .mv (.t 45), none⟩]) (.ret)))))))),
  [.tmp 4]⟩

/-- hurdle/hurdleref07.Mask -/
def c_hurdleref07_Mask : SFn := ⟨20,
  .seq (.region 0 [⟨(some 2), .mv (.c (.int .u32 0)), none⟩]) (.seq (.region 0 [⟨(some 3), .mv (.c (.int .u32 0)), none⟩]) (.seq (.region 0 [⟨(some 4), .mv (.c
    (.int .u32 1)), none⟩]) (.seq (.seq (.region 0 [⟨(some 5), .mv (.c (.int .i64 0)), none⟩]) (.block 0 (.loop [0, 3, 4, 5] (.seq (.seq (.region 0 [⟨(some 6), .mv
    (.t 5), none⟩, ⟨(some 7), .bin .lss (.t 6) (.c (.int .i64 18)), none⟩]) (.cond (.t 7) (.skip) (.exit 0))) (.seq (.block 1 (.seq (.seq (.region 0 [⟨(some 10), .mv
    (.t 0), none⟩, ⟨(some 11), .mv (.t 5), none⟩, ⟨(some 12), .iaddr 1 (.t 10) (.t 11), none⟩, ⟨(some 13), .load 1 false false (.t 12), none⟩]) (.seq (.keep [0, 3, 4, 5,
   13]) (.cond (.t 13) (.region 0 [⟨(some 14), .mv (.t 3), none⟩, ⟨(some 15), .mv (.t 4), none⟩, ⟨(some 16), .bin .add (.t 14) (.t 15), none⟩, ⟨(some 3), .mv (.t 16),
   none⟩]) (.skip)))) (.seq (.keep [0, 3, 4, 5]) (.region 0 [⟨(some 17), .mv (.t 4), none⟩, ⟨(some 18), .bin .mul (.t 17) (.c (.int .u32 2)), none⟩, ⟨(some 4), .mv
    (.t 18), none⟩])))) (.seq (.keep [0, 3, 4, 5]) (.region 0 [⟨(some 8), .mv (.t 5), none⟩, ⟨(some 9), .bin .add (.t 8) (.c (.int .i64 1)), none⟩, ⟨(some 5), .mv (.t 9),
   none⟩]))))))) (.seq (.keep [3]) (.seq (.region 0 [⟨(some 19), .mv (.t 3), none⟩, ⟨(some 2), .mv (.t 19), none⟩]) (.ret)))))),
  [.tmp 2]⟩

/-- hurdle/hurdleref07.Needed -/
def c_hurdleref07_Needed : SFn := ⟨63,
  .seq (.region 0 [⟨(some 6), .mv (.c (.bool false)), none⟩]) (.seq (.region 1 [⟨(some 11), .mv (.t 0), none⟩, ⟨(some 12), .len false (.t 11), none⟩, ⟨(some 13), .mksl 0 1
    ([.bool false]) (.t 12), none⟩, ⟨(some 7), .mv (.t 13), none⟩]) (.seq (.keep [0, 1, 2, 7]) (.seq (.seq (.region 0 [⟨(some 14), .mv (.t 0), none⟩, ⟨(some 15),
   .len false (.t 14), none⟩, ⟨(some 16), .bin .sub (.t 15) (.c (.int .i64 1)), none⟩, ⟨(some 8), .mv (.t 16), none⟩]) (.seq (.keep [0, 1, 2, 7, 8]) (.block 0 (.loop [0,
   1, 2, 7, 8] (.seq (.seq (.region 0 [⟨(some 17), .mv (.t 8), none⟩, ⟨(some 18), .mv (.t 1), none⟩, ⟨(some 19), .bin .geq (.t 17) (.t 18), none⟩]) (.cond (.t 19) (.skip)
    (.exit 0))) (.seq (.keep [0, 1, 2, 7, 8]) (.seq (.block 1 (.seq (.region 0 [⟨(some 22), .mv (.t 7), none⟩, ⟨(some 23), .mv (.t 8), none⟩, ⟨(some 24), .mv (.t 0),
   none⟩, ⟨(some 25), .mv (.t 8), none⟩, ⟨(some 26), .iaddr 4 (.t 24) (.t 25), none⟩, ⟨(some 27), .load 4 true false (.t 26), none⟩, ⟨(some 28), .mv (.t 2), none⟩,
   ⟨(some 29), .pcall 194 [.t 27, .t 28], none⟩, ⟨(some 30), .iaddr 1 (.t 22) (.t 23), none⟩, ⟨none, .store 1 (.t 30) (.t 29), none⟩]) (.seq (.keep [0, 1, 2, 7, 8]) (.seq
    (.region 0 [⟨(some 31), .mv (.t 0), none⟩, ⟨(some 32), .mv (.t 8), none⟩, ⟨(some 33), .pcall 189 [.t 31, .t 32], none⟩, ⟨(some 9), .mv (.t 33), none⟩]) (.seq
    (.keep [0, 1, 2, 7, 8, 9]) (.seq (.region 0 [⟨(some 10), .mv (.c (.int .i64 0)), none⟩]) (.block 2 (.loop [0, 1, 2, 7, 8, 9, 10] (.seq (.seq (.region 0 [⟨(some 34),
   .mv (.t 10), none⟩, ⟨(some 35), .mv (.t 9), none⟩, ⟨(some 36), .len false (.t 35), none⟩, ⟨(some 37), .bin .lss (.t 34) (.t 36), none⟩]) (.seq (.keep [0, 1, 2, 7, 8, 9,
   10, 37]) (.cond (.t 37) (.skip) (.exit 2)))) (.seq (.keep [0, 1, 2, 7, 8, 9, 10]) (.seq (.block 3 (.seq (.region 0 [⟨(some 40), .mv (.t 7), none⟩, ⟨(some 41), .mv
    (.t 9), none⟩, ⟨(some 42), .mv (.t 10), none⟩, ⟨(some 43), .iaddr 1 (.t 41) (.t 42), none⟩, ⟨(some 44), .load 1 false false (.t 43), none⟩, ⟨(some 45), .iaddr 1
    (.t 40) (.t 44), none⟩, ⟨(some 46), .load 1 false false (.t 45), none⟩, ⟨(some 47), .mv (.t 46), none⟩, ⟨(some 48), .mv (.t 0), (some (47, true))⟩, ⟨(some 49), .mv
    (.t 8), (some (47, true))⟩, ⟨(some 50), .iaddr 4 (.t 48) (.t 49), (some (47, true))⟩, ⟨(some 51), .load 4 true false (.t 50), (some (47, true))⟩, ⟨(some 52), .mv
    (.t 2), (some (47, true))⟩, ⟨(some 53), .pcall 195 [.t 51, .t 52], (some (47, true))⟩, ⟨(some 54), .un .not (.t 53), (some (47, true))⟩, ⟨(some 55), .pick (.t 47)
    (.t 54) (.c (.bool false)), none⟩]) (.seq (.keep [0, 1, 2, 7, 8, 9, 10, 55]) (.cond (.t 55) (.region 0 [⟨(some 56), .mv (.t 7), none⟩, ⟨(some 57), .mv (.t 8), none⟩,
   ⟨(some 58), .iaddr 1 (.t 56) (.t 57), none⟩, ⟨none, .store 1 (.t 58) (.c (.bool true)), none⟩]) (.skip))))) (.seq (.keep [0, 1, 2, 7, 8, 9, 10])
    (.region 0 [⟨(some 38), .mv (.t 10), none⟩, ⟨(some 39), .bin .add (.t 38) (.c (.int .i64 1)), none⟩, ⟨(some 10), .mv (.t 39), none⟩]))))))))))))) (.seq (.keep [0, 1,
   2, 7, 8]) (.region 0 [⟨(some 20), .mv (.t 8), none⟩, ⟨(some 21), .bin .sub (.t 20) (.c (.int .i64 1)), none⟩, ⟨(some 8), .mv (.t 21), none⟩]))))))))) (.seq (.keep [1,
   7]) (.seq (.region 0 [⟨(some 59), .mv (.t 7), none⟩, ⟨(some 60), .mv (.t 1), none⟩, ⟨(some 61), .iaddr 1 (.t 59) (.t 60), none⟩, ⟨(some 62), .load 1 false false
    (.t 61), none⟩, ⟨(some 6), .mv (.t 62), none⟩]) (.ret)))))),
  [.tmp 6]⟩

/-- hurdle/hurdleref07.At -/
def c_hurdleref07_At : SFn := ⟨20,
  .seq (.region 0 [⟨(some 4), .mv (.c (.int .u32 0)), none⟩]) (.seq (.region 0 [⟨(some 5), .mv (.c (.vs [] .full)), none⟩]) (.seq (.seq (.region 0 [⟨(some 6), .mv (.c
    (.int .i64 0)), none⟩]) (.seq (.give 5 none) (.block 0 (.loop [0, 1, 5, 6] (.seq (.seq (.region 0 [⟨(some 7), .mv (.t 6), none⟩, ⟨(some 8), .bin .lss (.t 7) (.c
    (.int .i64 18)), none⟩]) (.cond (.t 8) (.skip) (.exit 0))) (.seq (.block 1 (.region 1 [⟨(some 11), .mv (.t 5), none⟩, ⟨(some 12), .mv (.t 0), none⟩, ⟨(some 13), .mv
    (.t 1), none⟩, ⟨(some 14), .mv (.t 6), none⟩, ⟨(some 15), .pcall 197 [.t 12, .t 13, .t 14], none⟩, ⟨(some 16), .bslice 1 ([.bool false]) [(0, .t 15)], none⟩,
   ⟨(some 17), .app 0 1 1 (.t 11) (.t 16), none⟩, ⟨(some 5), .mv (.t 17), none⟩])) (.seq (.keep [0, 1, 5, 6]) (.region 0 [⟨(some 9), .mv (.t 6), none⟩, ⟨(some 10),
   .bin .add (.t 9) (.c (.int .i64 1)), none⟩, ⟨(some 6), .mv (.t 10), none⟩])))))))) (.seq (.keep [5]) (.seq (.region 0 [⟨(some 18), .mv (.t 5), none⟩, ⟨(some 19),
   .pcall 196 [.t 18], none⟩, ⟨(some 4), .mv (.t 19), none⟩]) (.ret))))),
  [.tmp 4]⟩

/-- hurdle/hurdleref07.Behind -/
def c_hurdleref07_Behind : SFn := ⟨39,
  .seq (.region 0 [⟨(some 4), .mv (.c (.int .u32 0)), none⟩]) (.seq (.region 0 [⟨(some 10), .mv (.t 0), none⟩, ⟨(some 11), .mv (.t 1), none⟩, ⟨(some 12), .pcall 189 [.t 10,
   .t 11], none⟩, ⟨(some 5), .mv (.t 12), none⟩]) (.seq (.keep [0, 5]) (.seq (.region 0 [⟨(some 6), .mv (.c (.vs [] .full)), none⟩]) (.seq (.seq (.region 0 [⟨(some 7), .mv
    (.c (.int .i64 0)), none⟩]) (.seq (.give 6 none) (.block 0 (.loop [0, 5, 6, 7] (.seq (.seq (.region 0 [⟨(some 13), .mv (.t 7), none⟩, ⟨(some 14), .bin .lss (.t 13)
    (.c (.int .i64 18)), none⟩]) (.cond (.t 14) (.skip) (.exit 0))) (.seq (.block 1 (.seq (.region 0 [⟨(some 8), .mv (.c (.bool false)), none⟩]) (.seq (.seq
    (.region 0 [⟨(some 9), .mv (.c (.int .i64 0)), none⟩]) (.block 2 (.loop [0, 5, 6, 7, 8, 9] (.seq (.seq (.region 0 [⟨(some 17), .mv (.t 9), none⟩, ⟨(some 18), .mv
    (.t 5), none⟩, ⟨(some 19), .len false (.t 18), none⟩, ⟨(some 20), .bin .lss (.t 17) (.t 19), none⟩]) (.seq (.keep [0, 5, 6, 7, 8, 9, 20]) (.cond (.t 20) (.skip)
    (.exit 2)))) (.seq (.keep [0, 5, 6, 7, 8, 9]) (.seq (.block 3 (.region 0 [⟨(some 23), .mv (.t 8), none⟩, ⟨(some 24), .mv (.t 23), none⟩, ⟨(some 25), .mv (.t 0), (some
    (24, false))⟩, ⟨(some 26), .mv (.t 5), (some (24, false))⟩, ⟨(some 27), .mv (.t 9), (some (24, false))⟩, ⟨(some 28), .iaddr 1 (.t 26) (.t 27), (some (24, false))⟩,
   ⟨(some 29), .load 1 false false (.t 28), (some (24, false))⟩, ⟨(some 30), .mv (.t 7), (some (24, false))⟩, ⟨(some 31), .pcall 197 [.t 25, .t 29, .t 30], (some (24,
   false))⟩, ⟨(some 32), .pick (.t 24) (.c (.bool true)) (.t 31), none⟩, ⟨(some 8), .mv (.t 32), none⟩])) (.seq (.keep [0, 5, 6, 7, 8, 9]) (.region 0 [⟨(some 21), .mv
    (.t 9), none⟩, ⟨(some 22), .bin .add (.t 21) (.c (.int .i64 1)), none⟩, ⟨(some 9), .mv (.t 22), none⟩])))))))) (.seq (.keep [0, 5, 6, 7, 8]) (.region 1 [⟨(some 33),
   .mv (.t 6), none⟩, ⟨(some 34), .mv (.t 8), none⟩, ⟨(some 35), .bslice 1 ([.bool false]) [(0, .t 34)], none⟩, ⟨(some 36), .app 0 1 1 (.t 33) (.t 35), none⟩, ⟨(some 6),
   .mv (.t 36), none⟩]))))) (.seq (.keep [0, 5, 6, 7]) (.region 0 [⟨(some 15), .mv (.t 7), none⟩, ⟨(some 16), .bin .add (.t 15) (.c (.int .i64 1)), none⟩, ⟨(some 7), .mv
    (.t 16), none⟩])))))))) (.seq (.keep [6]) (.seq (.region 0 [⟨(some 37), .mv (.t 6), none⟩, ⟨(some 38), .pcall 196 [.t 37], none⟩, ⟨(some 4), .mv (.t 38), none⟩])
    (.ret))))))),
  [.tmp 4]⟩

/-- hurdle/hurdleref07.Mix -/
def c_hurdleref07_Mix : SFn := ⟨40,
  .seq (.region 3 [⟨(some 4), .box 0 (.t 1), none⟩, ⟨(some 5), .box 1 (.t 2), none⟩, ⟨(some 6), .alloc 2 (rep 18 (.int .u32 0)), none⟩]) (.seq (.seq (.region 0 [⟨(some 8),
   .mv (.t 0), none⟩, ⟨(some 9), .bin .rem (.t 8) (.c (.int .u32 2)), none⟩, ⟨(some 10), .bin .eql (.t 9) (.c (.int .u32 1)), none⟩]) (.cond (.t 10)
    (.region 0 [⟨(some 11), .faddr 0 (.t 4), none⟩, ⟨(some 12), .load 1 false false (.t 11), none⟩, ⟨(some 13), .faddr 0 (.t 5), none⟩, ⟨none, .store 1 (.t 13) (.t 12),
   none⟩]) (.skip))) (.seq (.keep [0, 4, 5, 6]) (.seq (.seq (.region 0 [⟨(some 14), .mv (.t 0), none⟩, ⟨(some 15), .bin .quo (.t 14) (.c (.int .u32 2)), none⟩, ⟨(some 16),
   .bin .rem (.t 15) (.c (.int .u32 2)), none⟩, ⟨(some 17), .bin .eql (.t 16) (.c (.int .u32 1)), none⟩]) (.seq (.keep [0, 4, 5, 6, 17]) (.cond (.t 17)
    (.region 0 [⟨(some 18), .faddr 1 (.t 4), none⟩, ⟨(some 19), .load 1 false false (.t 18), none⟩, ⟨(some 20), .faddr 1 (.t 5), none⟩, ⟨none, .store 1 (.t 20) (.t 19),
   none⟩]) (.skip)))) (.seq (.keep [0, 4, 5, 6]) (.seq (.region 0 [⟨(some 21), .mv (.t 0), none⟩, ⟨(some 22), .bin .quo (.t 21) (.c (.int .u32 4)), none⟩, ⟨(some 0), .mv
    (.t 22), none⟩]) (.seq (.seq (.region 0 [⟨(some 7), .mv (.c (.int .i64 0)), none⟩]) (.block 0 (.loop [0, 4, 5, 6, 7] (.seq (.seq (.region 0 [⟨(some 23), .mv (.t 7),
   none⟩, ⟨(some 24), .bin .lss (.t 23) (.c (.int .i64 16)), none⟩]) (.cond (.t 24) (.skip) (.exit 0))) (.seq (.block 1 (.seq (.seq (.region 0 [⟨(some 27), .mv (.t 0),
   none⟩, ⟨(some 28), .bin .rem (.t 27) (.c (.int .u32 2)), none⟩, ⟨(some 29), .bin .eql (.t 28) (.c (.int .u32 1)), none⟩]) (.cond (.t 29) (.region 0 [⟨(some 30), .mv
    (.t 7), none⟩, ⟨(some 31), .mv (.t 7), none⟩, ⟨(some 32), .faddr 2 (.t 4), none⟩, ⟨(some 33), .iaddrA 16 1 (.t 32) (.t 31), none⟩, ⟨(some 34), .load 1 false false
    (.t 33), none⟩, ⟨(some 35), .faddr 2 (.t 5), none⟩, ⟨(some 36), .iaddrA 16 1 (.t 35) (.t 30), none⟩, ⟨none, .store 1 (.t 36) (.t 34), none⟩]) (.skip))) (.seq
    (.keep [0, 4, 5, 6, 7]) (.region 0 [⟨(some 37), .mv (.t 0), none⟩, ⟨(some 38), .bin .quo (.t 37) (.c (.int .u32 2)), none⟩, ⟨(some 0), .mv (.t 38), none⟩])))) (.seq
    (.keep [0, 4, 5, 6, 7]) (.region 0 [⟨(some 25), .mv (.t 7), none⟩, ⟨(some 26), .bin .add (.t 25) (.c (.int .i64 1)), none⟩, ⟨(some 7), .mv (.t 26), none⟩])))))))
    (.seq (.keep [5, 6]) (.seq (.region 0 [⟨(some 39), .load 18 true false (.t 5), none⟩, ⟨none, .store 18 (.t 6) (.t 39), none⟩]) (.ret))))))))),
  [.cell 6 18 true]⟩

/-- hurdle/hurdleref03.Same -/
def c_hurdleref03_Same : SFn := ⟨26,
  .seq (.region 0 [⟨(some 4), .mv (.c (.bool false)), none⟩]) (.seq (.seq (.region 0 [⟨(some 6), .mv (.t 0), none⟩, ⟨(some 7), .len false (.t 6), none⟩, ⟨(some 8), .mv
    (.t 1), none⟩, ⟨(some 9), .len false (.t 8), none⟩, ⟨(some 10), .bin .neq (.t 7) (.t 9), none⟩]) (.seq (.keep [0, 1, 10]) (.cond (.t 10) (.seq (.region 0 [⟨(some 4),
   .mv (.c (.bool false)), none⟩]) (.ret)) (.skip)))) (.seq (.keep [0, 1]) (.seq (.seq (.region 0 [⟨(some 5), .mv (.c (.int .i64 0)), none⟩]) (.block 0 (.loop [0, 1, 5]
    (.seq (.seq (.region 0 [⟨(some 11), .mv (.t 5), none⟩, ⟨(some 12), .mv (.t 0), none⟩, ⟨(some 13), .len false (.t 12), none⟩, ⟨(some 14), .bin .lss (.t 11) (.t 13),
   none⟩]) (.seq (.keep [0, 1, 5, 14]) (.cond (.t 14) (.skip) (.exit 0)))) (.seq (.keep [0, 1, 5]) (.seq (.block 1 (.seq (.region 0 [⟨(some 17), .mv (.t 0), none⟩,
   ⟨(some 18), .mv (.t 5), none⟩, ⟨(some 19), .iaddr 4 (.t 17) (.t 18), none⟩, ⟨(some 20), .load 4 true true (.t 19), none⟩, ⟨(some 21), .mv (.t 1), none⟩, ⟨(some 22), .mv
    (.t 5), none⟩, ⟨(some 23), .iaddr 4 (.t 21) (.t 22), none⟩, ⟨(some 24), .load 4 true true (.t 23), none⟩, ⟨(some 25), .aeq ([.int, .int, .int, .int]) true (.t 20)
    (.t 24), none⟩]) (.seq (.keep [0, 1, 5, 25]) (.cond (.t 25) (.seq (.region 0 [⟨(some 4), .mv (.c (.bool false)), none⟩]) (.ret)) (.skip))))) (.seq (.keep [0, 1, 5])
    (.region 0 [⟨(some 15), .mv (.t 5), none⟩, ⟨(some 16), .bin .add (.t 15) (.c (.int .i64 1)), none⟩, ⟨(some 5), .mv (.t 16), none⟩])))))))) (.seq (.keep []) (.seq
    (.region 0 [⟨(some 4), .mv (.c (.bool true)), none⟩]) (.ret)))))),
  [.tmp 4]⟩

/-- A table that holds these. -/
class HasR1n (G : Tbl) : Prop where
  h_hurdleref01_Neg : G 173 = some c_hurdleref01_Neg
/-- A table that holds these. -/
class HasR2 (G : Tbl) : Prop where
  h_hurdleref02_branch : G 174 = some c_hurdleref02_branch
  h_hurdleref02_plain : G 175 = some c_hurdleref02_plain
  h_hurdleref02_place : G 176 = some c_hurdleref02_place
  h_hurdleref02_Ops : G 177 = some c_hurdleref02_Ops
  h_hurdleref02_Right : G 178 = some c_hurdleref02_Right
  h_hurdleref02_Alu : G 179 = some c_hurdleref02_Alu
  h_hurdleref02_Branch : G 180 = some c_hurdleref02_Branch
  h_hurdleref02_Ends : G 181 = some c_hurdleref02_Ends
/-- A table that holds these. -/
class HasR4 (G : Tbl) : Prop where
  h_hurdleref04_low : G 182 = some c_hurdleref04_low
  h_hurdleref04_number : G 183 = some c_hurdleref04_number
  h_hurdleref04_Bytes : G 184 = some c_hurdleref04_Bytes
  h_hurdleref04_Word : G 185 = some c_hurdleref04_Word
/-- A table that holds these. -/
class HasR5o (G : Tbl) : Prop where
  h_hurdleref05_One : G 186 = some c_hurdleref05_One
/-- A table that holds these. -/
class HasR5 (G : Tbl) : Prop extends HasR5o G where
  h_hurdleref05_Check : G 187 = some c_hurdleref05_Check
  h_hurdleref05_Sound : G 188 = some c_hurdleref05_Sound
/-- A table that holds these. -/
class HasR5n (G : Tbl) : Prop where
  h_hurdleref05_Next : G 189 = some c_hurdleref05_Next
/-- A table that holds these. -/
class HasR6s (G : Tbl) : Prop where
  h_hurdleref06_Step : G 190 = some c_hurdleref06_Step
/-- A table that holds these. -/
class HasR6 (G : Tbl) : Prop where
  h_hurdleref06_Takes : G 191 = some c_hurdleref06_Takes
  h_hurdleref06_From : G 192 = some c_hurdleref06_From
/-- A table that holds these. -/
class HasR7 (G : Tbl) : Prop where
  h_hurdleref07_in : G 193 = some c_hurdleref07_in
  h_hurdleref07_Uses : G 194 = some c_hurdleref07_Uses
  h_hurdleref07_Sets : G 195 = some c_hurdleref07_Sets
  h_hurdleref07_Mask : G 196 = some c_hurdleref07_Mask
/-- A table that holds these. -/
class HasR7n (G : Tbl) : Prop where
  h_hurdleref07_Needed : G 197 = some c_hurdleref07_Needed
  h_hurdleref07_At : G 198 = some c_hurdleref07_At
  h_hurdleref07_Behind : G 199 = some c_hurdleref07_Behind
/-- A table that holds these. -/
class HasR7m (G : Tbl) : Prop where
  h_hurdleref07_Mix : G 200 = some c_hurdleref07_Mix
/-- A table that holds these. -/
class HasR3 (G : Tbl) : Prop where
  h_hurdleref03_Same : G 201 = some c_hurdleref03_Same

end Go.Ev
