/- Simplified code of Go functions, by scode.py. -/
import Derived.Test.YtnlhnffijidioaaDoorEvInsC
namespace Go.Ev

/-- hurdle/hurdlelaw22.great -/
def c_hurdlelaw22_great : SFn := ⟨13,
  .seq (.region 0 [⟨(some 4), .mv (.c (.bool false)), none⟩]) (.seq (.region 0 [⟨(some 5), .mv (.t 0), none⟩, ⟨(some 6), .len false (.t 5), none⟩, ⟨(some 7), .bin .gtr
    (.t 6) (.c (.int .i64 100)), none⟩, ⟨(some 8), .mv (.t 7), none⟩, ⟨(some 9), .mv (.t 1), (some (8, false))⟩, ⟨(some 10), .len false (.t 9), (some (8, false))⟩,
   ⟨(some 11), .bin .gtr (.t 10) (.c (.int .i64 100)), (some (8, false))⟩, ⟨(some 12), .pick (.t 8) (.c (.bool true)) (.t 11), none⟩, ⟨(some 4), .mv (.t 12), none⟩])
    (.ret)),
  [.tmp 4]⟩

/-- hurdle/hurdlelaw22.knows -/
def c_hurdlelaw22_knows : SFn := ⟨58,
  .seq (.region 0 [⟨(some 0), .mv (.c (.bool false)), none⟩]) (.seq (.region 0 [⟨(some 8), .pcall 148 [.c (.str [110, 101, 103, 10, 110, 101, 103, 10, 114, 101, 116, 97,
   10])], none⟩, ⟨(some 7), .mv (.t 8), none⟩, ⟨(some 9), .ext 0 (.t 7), none⟩, ⟨(some 10), .ext 1 (.t 7), none⟩, ⟨(some 11), .ext 2 (.t 7), none⟩, ⟨(some 1), .mv (.t 9),
   none⟩, ⟨(some 2), .mv (.t 10), none⟩, ⟨(some 3), .mv (.t 11), none⟩]) (.seq (.keep [1, 3]) (.seq (.region 0 [⟨(some 13), .mv (.t 1), none⟩, ⟨(some 14),
   .pcall 208 [.t 13, .c (.int .i64 0), .c (.int .i64 2), .c (.vs [] .full)], none⟩, ⟨(some 12), .mv (.t 14), none⟩, ⟨(some 15), .ext 0 (.t 12), none⟩, ⟨(some 16), .ext 1
    (.t 12), none⟩, ⟨(some 4), .mv (.t 15), none⟩, ⟨(some 5), .mv (.t 16), none⟩]) (.seq (.keep [1, 3, 4, 5]) (.seq (.region 0 [⟨(some 17), .mv (.t 1), none⟩, ⟨(some 18),
   .pcall 209 [.t 17, .c (.int .i64 4)], none⟩, ⟨(some 6), .mv (.t 18), none⟩]) (.seq (.region 0 [⟨(some 19), .mv (.t 3), none⟩, ⟨(some 20), .bin .eql (.t 19) (.c
    (.int .i64 0)), none⟩, ⟨(some 21), .mv (.t 20), none⟩, ⟨(some 22), .mv (.t 4), (some (21, true))⟩, ⟨(some 23), .len false (.t 22), (some (21, true))⟩, ⟨(some 24),
   .bin .eql (.t 23) (.c (.int .i64 1)), (some (21, true))⟩, ⟨(some 25), .pick (.t 21) (.t 24) (.c (.bool false)), none⟩, ⟨(some 26), .mv (.t 25), none⟩, ⟨(some 27), .mv
    (.t 4), (some (26, true))⟩, ⟨(some 28), .iaddr 4 (.t 27) (.c (.int .i64 0)), (some (26, true))⟩, ⟨(some 29), .load 4 true false (.t 28), (some (26, true))⟩,
   ⟨(some 30), .build ([.int .i64 0, .int .i64 0, .int .i64 0, .int .u32 0]) [(0, 1, .c (.int .i64 22))], (some (26, true))⟩, ⟨(some 31), .aeq ([.int, .int, .int,
   .int]) false (.t 29) (.t 30), (some (26, true))⟩, ⟨(some 32), .pick (.t 26) (.t 31) (.c (.bool false)), none⟩, ⟨(some 33), .mv (.t 32), none⟩, ⟨(some 34), .mv (.t 5),
   (some (33, true))⟩, ⟨(some 35), .bin .eql (.t 34) (.c (.int .i64 0)), (some (33, true))⟩, ⟨(some 36), .pick (.t 33) (.t 35) (.c (.bool false)), none⟩, ⟨(some 37), .mv
    (.t 36), none⟩, ⟨(some 38), .mv (.t 6), (some (37, true))⟩, ⟨(some 39), .len false (.t 38), (some (37, true))⟩, ⟨(some 40), .bin .eql (.t 39) (.c (.int .i64 1)), (some
    (37, true))⟩, ⟨(some 41), .pick (.t 37) (.t 40) (.c (.bool false)), none⟩, ⟨(some 42), .mv (.t 41), none⟩, ⟨(some 43), .mv (.t 6), (some (42, true))⟩, ⟨(some 44),
   .iaddr 2 (.t 43) (.c (.int .i64 0)), (some (42, true))⟩, ⟨(some 45), .load 2 true false (.t 44), (some (42, true))⟩, ⟨(some 46), .build ([.int .i64 0,
   .int .i64 0]) [(0, 1, .c (.int .i64 0)), (1, 1, .c (.int .i64 2))], (some (42, true))⟩, ⟨(some 47), .aeq ([.int, .int]) false (.t 45) (.t 46), (some (42, true))⟩,
   ⟨(some 48), .pick (.t 42) (.t 47) (.c (.bool false)), none⟩, ⟨(some 49), .mv (.t 48), none⟩, ⟨(some 50), .mv (.t 1), (some (49, true))⟩, ⟨(some 51), .pcall 206 [.t 50,
   .c (.int .i64 0), .c (.int .i64 2)], (some (49, true))⟩, ⟨(some 52), .pick (.t 49) (.t 51) (.c (.bool false)), none⟩, ⟨(some 53), .mv (.t 52), none⟩, ⟨(some 54), .mv
    (.t 1), (some (53, true))⟩, ⟨(some 55), .pcall 206 [.t 54, .c (.int .i64 0), .c (.int .i64 3)], (some (53, true))⟩, ⟨(some 56), .un .not (.t 55), (some (53, true))⟩,
   ⟨(some 57), .pick (.t 53) (.t 56) (.c (.bool false)), none⟩, ⟨(some 0), .mv (.t 57), none⟩]) (.ret))))))),
  [.tmp 0]⟩

/-- hurdle/hurdlelaw22.SplicePuts -/
def c_hurdlelaw22_SplicePuts : SFn := ⟨55,
  .seq (.region 0 [⟨(some 8), .mv (.c (.bool false)), none⟩]) (.seq (.seq (.region 0 [⟨(some 13), .mv (.t 0), none⟩, ⟨(some 14), .mv (.t 3), none⟩, ⟨(some 15),
   .pcall 223 [.t 13, .t 14], none⟩]) (.cond (.t 15) (.seq (.region 0 [⟨(some 16), .pcall 224 [], none⟩, ⟨(some 8), .mv (.t 16), none⟩]) (.ret)) (.skip))) (.seq
    (.keep [0, 1, 2, 3]) (.seq (.region 0 [⟨(some 18), .mv (.t 0), none⟩, ⟨(some 19), .mv (.t 1), none⟩, ⟨(some 20), .mv (.t 2), none⟩, ⟨(some 21), .mv (.t 3), none⟩,
   ⟨(some 22), .pcall 208 [.t 18, .t 19, .t 20, .t 21], none⟩, ⟨(some 17), .mv (.t 22), none⟩, ⟨(some 23), .ext 0 (.t 17), none⟩, ⟨(some 24), .ext 1 (.t 17), none⟩,
   ⟨(some 9), .mv (.t 23), none⟩, ⟨(some 10), .mv (.t 24), none⟩]) (.seq (.keep [0, 1, 2, 3, 9, 10]) (.seq (.region 0 [⟨(some 26), .mv (.t 0), none⟩, ⟨(some 27), .mv
    (.t 1), none⟩, ⟨(some 28), .mv (.t 2), none⟩, ⟨(some 29), .mv (.t 3), none⟩, ⟨(some 30), .pcall 213 [.t 26, .t 27, .t 28, .t 29], none⟩, ⟨(some 25), .mv (.t 30),
   none⟩, ⟨(some 31), .ext 0 (.t 25), none⟩, ⟨(some 32), .ext 1 (.t 25), none⟩, ⟨(some 11), .mv (.t 31), none⟩, ⟨(some 12), .mv (.t 32), none⟩]) (.seq (.keep [0, 1, 2, 9,
   10, 11, 12]) (.seq (.region 0 [⟨(some 33), .mv (.t 0), none⟩, ⟨(some 34), .mv (.t 1), none⟩, ⟨(some 35), .mv (.t 2), none⟩, ⟨(some 36), .pcall 206 [.t 33, .t 34,
   .t 35], none⟩, ⟨(some 37), .mv (.t 0), none⟩, ⟨(some 38), .mv (.t 1), none⟩, ⟨(some 39), .mv (.t 2), none⟩, ⟨(some 40), .pcall 211 [.t 37, .t 38, .t 39], none⟩,
   ⟨(some 41), .beq false (.t 36) (.t 40), none⟩, ⟨(some 42), .mv (.t 41), none⟩, ⟨(some 43), .mv (.t 9), (some (42, true))⟩, ⟨(some 44), .mv (.t 11), (some (42, true))⟩,
   ⟨(some 45), .pcall 201 [.t 43, .t 44], (some (42, true))⟩, ⟨(some 46), .pick (.t 42) (.t 45) (.c (.bool false)), none⟩, ⟨(some 47), .mv (.t 46), none⟩, ⟨(some 48), .mv
    (.t 10), (some (47, true))⟩, ⟨(some 49), .mv (.t 12), (some (47, true))⟩, ⟨(some 50), .bin .eql (.t 48) (.t 49), (some (47, true))⟩, ⟨(some 51), .pick (.t 47) (.t 50)
    (.c (.bool false)), none⟩, ⟨(some 52), .mv (.t 51), none⟩, ⟨(some 53), .pcall 224 [], (some (52, true))⟩, ⟨(some 54), .pick (.t 52) (.t 53) (.c (.bool false)), none⟩,
   ⟨(some 8), .mv (.t 54), none⟩]) (.ret)))))))),
  [.tmp 8]⟩

/-- hurdle/hurdlelaw22.SplicePieces -/
def c_hurdlelaw22_SplicePieces : SFn := ⟨56,
  .seq (.region 0 [⟨(some 4), .mv (.c (.bool false)), none⟩]) (.seq (.seq (.region 0 [⟨(some 8), .mv (.t 0), none⟩, ⟨(some 9), .len false (.t 8), none⟩, ⟨(some 10),
   .bin .gtr (.t 9) (.c (.int .i64 60)), none⟩]) (.cond (.t 10) (.seq (.region 0 [⟨(some 11), .pcall 224 [], none⟩, ⟨(some 4), .mv (.t 11), none⟩]) (.ret)) (.skip)))
    (.seq (.keep [0, 1]) (.seq (.region 0 [⟨(some 12), .mv (.t 0), none⟩, ⟨(some 13), .mv (.t 1), none⟩, ⟨(some 14), .pcall 209 [.t 12, .t 13], none⟩, ⟨(some 15), .mv
    (.t 0), none⟩, ⟨(some 16), .mv (.t 1), none⟩, ⟨(some 17), .pcall 214 [.t 15, .t 16], none⟩, ⟨(some 5), .mv (.t 14), none⟩, ⟨(some 6), .mv (.t 17), none⟩]) (.seq
    (.keep [5, 6]) (.seq (.seq (.region 0 [⟨(some 18), .mv (.t 5), none⟩, ⟨(some 19), .len false (.t 18), none⟩, ⟨(some 20), .mv (.t 6), none⟩, ⟨(some 21), .len false
    (.t 20), none⟩, ⟨(some 22), .bin .neq (.t 19) (.t 21), none⟩]) (.seq (.keep [5, 6, 22]) (.cond (.t 22) (.seq (.region 0 [⟨(some 4), .mv (.c (.bool false)), none⟩])
    (.ret)) (.skip)))) (.seq (.keep [5, 6]) (.seq (.seq (.region 0 [⟨(some 7), .mv (.c (.int .i64 0)), none⟩]) (.block 0 (.loop [5, 6, 7] (.seq (.seq
    (.region 0 [⟨(some 23), .mv (.t 7), none⟩, ⟨(some 24), .mv (.t 5), none⟩, ⟨(some 25), .len false (.t 24), none⟩, ⟨(some 26), .bin .lss (.t 23) (.t 25), none⟩]) (.seq
    (.keep [5, 6, 7, 26]) (.cond (.t 26) (.skip) (.exit 0)))) (.seq (.keep [5, 6, 7]) (.seq (.block 1 (.seq (.region 0 [⟨(some 29), .mv (.t 5), none⟩, ⟨(some 30), .mv
    (.t 7), none⟩, ⟨(some 31), .iaddr 2 (.t 29) (.t 30), none⟩, ⟨(some 32), .iaddrA 2 1 (.t 31) (.c (.int .i64 0)), none⟩, ⟨(some 33), .load 1 false true (.t 32), none⟩,
   ⟨(some 34), .mv (.t 6), none⟩, ⟨(some 35), .mv (.t 7), none⟩, ⟨(some 36), .iaddr 1 (.t 34) (.t 35), none⟩, ⟨(some 37), .load 1 false true (.t 36), none⟩, ⟨(some 38),
   .iaddr 1 (.t 37) (.c (.int .i64 0)), none⟩, ⟨(some 39), .load 1 false true (.t 38), none⟩, ⟨(some 40), .bin .neq (.t 33) (.t 39), none⟩, ⟨(some 41), .mv (.t 40), none⟩,
   ⟨(some 42), .mv (.t 5), (some (41, false))⟩, ⟨(some 43), .mv (.t 7), (some (41, false))⟩, ⟨(some 44), .iaddr 2 (.t 42) (.t 43), (some (41, false))⟩, ⟨(some 45),
   .iaddrA 2 1 (.t 44) (.c (.int .i64 1)), (some (41, false))⟩, ⟨(some 46), .load 1 false true (.t 45), (some (41, false))⟩, ⟨(some 47), .mv (.t 6), (some (41, false))⟩,
   ⟨(some 48), .mv (.t 7), (some (41, false))⟩, ⟨(some 49), .iaddr 1 (.t 47) (.t 48), (some (41, false))⟩, ⟨(some 50), .load 1 false true (.t 49), (some (41, false))⟩,
   ⟨(some 51), .iaddr 1 (.t 50) (.c (.int .i64 1)), (some (41, false))⟩, ⟨(some 52), .load 1 false true (.t 51), (some (41, false))⟩, ⟨(some 53), .bin .neq (.t 46)
    (.t 52), (some (41, false))⟩, ⟨(some 54), .pick (.t 41) (.c (.bool true)) (.t 53), none⟩]) (.seq (.keep [5, 6, 7, 54]) (.cond (.t 54) (.seq (.region 0 [⟨(some 4), .mv
    (.c (.bool false)), none⟩]) (.ret)) (.skip))))) (.seq (.keep [5, 6, 7]) (.region 0 [⟨(some 27), .mv (.t 7), none⟩, ⟨(some 28), .bin .add (.t 27) (.c (.int .i64 1)),
   none⟩, ⟨(some 7), .mv (.t 28), none⟩])))))))) (.seq (.keep []) (.seq (.region 0 [⟨(some 55), .pcall 224 [], none⟩, ⟨(some 4), .mv (.t 55), none⟩]) (.ret)))))))))),
  [.tmp 4]⟩

/-- hurdle/hurdlelaw22.SpliceSound -/
def c_hurdlelaw22_SpliceSound : SFn := ⟨52,
  .seq (.region 0 [⟨(some 8), .mv (.c (.bool false)), none⟩]) (.seq (.seq (.region 0 [⟨(some 11), .mv (.t 0), none⟩, ⟨(some 12), .mv (.t 3), none⟩, ⟨(some 13),
   .pcall 223 [.t 11, .t 12], none⟩]) (.cond (.t 13) (.seq (.region 0 [⟨(some 14), .pcall 224 [], none⟩, ⟨(some 8), .mv (.t 14), none⟩]) (.ret)) (.skip))) (.seq
    (.keep [0, 1, 2, 3]) (.seq (.region 0 [⟨(some 16), .mv (.t 0), none⟩, ⟨(some 17), .mv (.t 1), none⟩, ⟨(some 18), .mv (.t 2), none⟩, ⟨(some 19), .mv (.t 3), none⟩,
   ⟨(some 20), .pcall 208 [.t 16, .t 17, .t 18, .t 19], none⟩, ⟨(some 15), .mv (.t 20), none⟩, ⟨(some 21), .ext 0 (.t 15), none⟩, ⟨(some 22), .ext 1 (.t 15), none⟩,
   ⟨(some 9), .mv (.t 21), none⟩, ⟨(some 10), .mv (.t 22), none⟩]) (.seq (.keep [0, 2, 3, 9, 10]) (.seq (.seq (.region 0 [⟨(some 23), .mv (.t 10), none⟩, ⟨(some 24),
   .bin .neq (.t 23) (.c (.int .i64 0)), none⟩]) (.cond (.t 24) (.seq (.region 0 [⟨(some 25), .mv (.t 9), none⟩, ⟨(some 26), .len false (.t 25), none⟩, ⟨(some 27),
   .bin .eql (.t 26) (.c (.int .i64 0)), none⟩, ⟨(some 28), .mv (.t 27), none⟩, ⟨(some 29), .mv (.t 10), (some (28, true))⟩, ⟨(some 30), .bin .eql (.t 29) (.c
    (.int .i64 1)), (some (28, true))⟩, ⟨(some 31), .pick (.t 28) (.t 30) (.c (.bool false)), none⟩, ⟨(some 32), .mv (.t 31), none⟩, ⟨(some 33), .pcall 224 [], (some (32,
   true))⟩, ⟨(some 34), .pick (.t 32) (.t 33) (.c (.bool false)), none⟩, ⟨(some 8), .mv (.t 34), none⟩]) (.ret)) (.skip))) (.seq (.keep [0, 2, 3, 9]) (.seq
    (.region 0 [⟨(some 35), .mv (.t 9), none⟩, ⟨(some 36), .pcall 157 [.t 35], none⟩, ⟨(some 37), .mv (.t 36), none⟩, ⟨(some 38), .mv (.t 9), (some (37, true))⟩,
   ⟨(some 39), .len false (.t 38), (some (37, true))⟩, ⟨(some 40), .mv (.t 0), (some (37, true))⟩, ⟨(some 41), .len false (.t 40), (some (37, true))⟩, ⟨(some 42), .mv
    (.t 2), (some (37, true))⟩, ⟨(some 43), .bin .sub (.t 41) (.t 42), (some (37, true))⟩, ⟨(some 44), .mv (.t 3), (some (37, true))⟩, ⟨(some 45), .len false (.t 44),
   (some (37, true))⟩, ⟨(some 46), .bin .add (.t 43) (.t 45), (some (37, true))⟩, ⟨(some 47), .bin .eql (.t 39) (.t 46), (some (37, true))⟩, ⟨(some 48), .pick (.t 37)
    (.t 47) (.c (.bool false)), none⟩, ⟨(some 49), .mv (.t 48), none⟩, ⟨(some 50), .pcall 224 [], (some (49, true))⟩, ⟨(some 51), .pick (.t 49) (.t 50) (.c
    (.bool false)), none⟩, ⟨(some 8), .mv (.t 51), none⟩]) (.ret)))))))),
  [.tmp 8]⟩

/-- hurdle/hurdlelaw22.SpliceSelf -/
def c_hurdlelaw22_SpliceSelf : SFn := ⟨83,
  .seq (.region 0 [⟨(some 8), .mv (.c (.bool false)), none⟩]) (.seq (.seq (.region 0 [⟨(some 12), .mv (.t 0), none⟩, ⟨(some 13), .len false (.t 12), none⟩, ⟨(some 14),
   .bin .gtr (.t 13) (.c (.int .i64 100)), none⟩, ⟨(some 15), .mv (.t 14), none⟩, ⟨(some 16), .mv (.t 0), (some (15, false))⟩, ⟨(some 17), .mv (.t 1), (some (15, false))⟩,
   ⟨(some 18), .mv (.t 2), (some (15, false))⟩, ⟨(some 19), .pcall 211 [.t 16, .t 17, .t 18], (some (15, false))⟩, ⟨(some 20), .un .not (.t 19), (some (15, false))⟩,
   ⟨(some 21), .pick (.t 15) (.c (.bool true)) (.t 20), none⟩]) (.seq (.keep [0, 1, 2, 3, 21]) (.cond (.t 21) (.seq (.region 0 [⟨(some 22), .mv (.t 0), none⟩, ⟨(some 23),
   .len false (.t 22), none⟩, ⟨(some 24), .bin .gtr (.t 23) (.c (.int .i64 100)), none⟩, ⟨(some 25), .mv (.t 24), none⟩, ⟨(some 26), .pcall 224 [], (some (25, true))⟩,
   ⟨(some 27), .pick (.t 25) (.t 26) (.c (.bool false)), none⟩, ⟨(some 28), .mv (.t 27), none⟩, ⟨(some 29), .mv (.t 0), (some (28, false))⟩, ⟨(some 30), .mv (.t 1), (some
    (28, false))⟩, ⟨(some 31), .mv (.t 2), (some (28, false))⟩, ⟨(some 32), .pcall 206 [.t 29, .t 30, .t 31], (some (28, false))⟩, ⟨(some 33), .un .not (.t 32), (some
    (28, false))⟩, ⟨(some 34), .mv (.t 33), (some (28, false))⟩, ⟨(some 35), .pcall 224 [], (some (34, true))⟩, ⟨(some 36), .pick (.t 34) (.t 35) (.c (.bool false)), (some
    (28, false))⟩, ⟨(some 37), .pick (.t 28) (.c (.bool true)) (.t 36), none⟩, ⟨(some 8), .mv (.t 37), none⟩]) (.ret)) (.skip)))) (.seq (.keep [0, 1, 2, 3]) (.seq
    (.region 0 [⟨(some 39), .mv (.t 0), none⟩, ⟨(some 40), .mv (.t 1), none⟩, ⟨(some 41), .mv (.t 2), none⟩, ⟨(some 42), .mv (.t 0), none⟩, ⟨(some 43), .mv (.t 1), none⟩,
   ⟨(some 44), .mv (.t 1), none⟩, ⟨(some 45), .mv (.t 2), none⟩, ⟨(some 46), .bin .add (.t 44) (.t 45), none⟩, ⟨(some 47), .slc 4 (.t 42) (some (.t 43)) (some
    (.t 46)) none, none⟩, ⟨(some 48), .pcall 208 [.t 39, .t 40, .t 41, .t 47], none⟩, ⟨(some 38), .mv (.t 48), none⟩, ⟨(some 49), .ext 0 (.t 38), none⟩, ⟨(some 50), .ext 1
    (.t 38), none⟩, ⟨(some 9), .mv (.t 49), none⟩, ⟨(some 10), .mv (.t 50), none⟩]) (.seq (.keep [0, 1, 2, 3, 9, 10]) (.seq (.region 0 [⟨(some 51), .mv (.t 3), none⟩,
   ⟨(some 52), .conv .i64 (.t 51), none⟩, ⟨(some 53), .mv (.t 2), none⟩, ⟨(some 54), .bin .rem (.t 52) (.t 53), none⟩, ⟨(some 11), .mv (.t 54), none⟩]) (.seq (.keep [0, 1,
   2, 9, 10, 11]) (.seq (.region 0 [⟨(some 55), .mv (.t 9), none⟩, ⟨(some 56), .mv (.t 0), none⟩, ⟨(some 57), .pcall 201 [.t 55, .t 56], none⟩, ⟨(some 58), .mv (.t 57),
   none⟩, ⟨(some 59), .mv (.t 10), (some (58, true))⟩, ⟨(some 60), .bin .eql (.t 59) (.c (.int .i64 0)), (some (58, true))⟩, ⟨(some 61), .pick (.t 58) (.t 60) (.c
    (.bool false)), none⟩, ⟨(some 62), .mv (.t 61), none⟩, ⟨(some 63), .mv (.t 0), (some (62, true))⟩, ⟨(some 64), .mv (.t 1), (some (62, true))⟩, ⟨(some 65), .mv (.t 2),
   (some (62, true))⟩, ⟨(some 66), .mv (.t 11), (some (62, true))⟩, ⟨(some 67), .bin .sub (.t 65) (.t 66), (some (62, true))⟩, ⟨(some 68), .pcall 206 [.t 63, .t 64,
   .t 67], (some (62, true))⟩, ⟨(some 69), .pick (.t 62) (.t 68) (.c (.bool false)), none⟩, ⟨(some 70), .mv (.t 69), none⟩, ⟨(some 71), .mv (.t 0), (some (70, true))⟩,
   ⟨(some 72), .mv (.t 1), (some (70, true))⟩, ⟨(some 73), .mv (.t 11), (some (70, true))⟩, ⟨(some 74), .bin .add (.t 72) (.t 73), (some (70, true))⟩, ⟨(some 75), .mv
    (.t 2), (some (70, true))⟩, ⟨(some 76), .mv (.t 11), (some (70, true))⟩, ⟨(some 77), .bin .sub (.t 75) (.t 76), (some (70, true))⟩, ⟨(some 78), .pcall 206 [.t 71,
   .t 74, .t 77], (some (70, true))⟩, ⟨(some 79), .pick (.t 70) (.t 78) (.c (.bool false)), none⟩, ⟨(some 80), .mv (.t 79), none⟩, ⟨(some 81), .pcall 224 [], (some (80,
   true))⟩, ⟨(some 82), .pick (.t 80) (.t 81) (.c (.bool false)), none⟩, ⟨(some 8), .mv (.t 82), none⟩]) (.ret)))))))),
  [.tmp 8]⟩

/-- hurdle/hurdlelaw22.SpliceRows -/
def c_hurdlelaw22_SpliceRows : SFn := ⟨83,
  .seq (.region 0 [⟨(some 4), .mv (.c (.bool false)), none⟩]) (.seq (.seq (.region 0 [⟨(some 9), .mv (.t 0), none⟩, ⟨(some 10), .len false (.t 9), none⟩, ⟨(some 11),
   .bin .gtr (.t 10) (.c (.int .i64 100)), none⟩]) (.cond (.t 11) (.seq (.region 0 [⟨(some 12), .pcall 224 [], none⟩, ⟨(some 4), .mv (.t 12), none⟩]) (.ret)) (.skip)))
    (.seq (.keep [0, 1]) (.seq (.region 0 [⟨(some 13), .mv (.t 0), none⟩, ⟨(some 14), .mv (.t 1), none⟩, ⟨(some 15), .pcall 209 [.t 13, .t 14], none⟩, ⟨(some 5), .mv
    (.t 15), none⟩]) (.seq (.keep [0, 1, 5]) (.seq (.seq (.region 0 [⟨(some 6), .mv (.c (.int .i64 0)), none⟩]) (.block 0 (.loop [0, 1, 5, 6] (.seq (.seq
    (.region 0 [⟨(some 16), .mv (.t 6), none⟩, ⟨(some 17), .mv (.t 5), none⟩, ⟨(some 18), .len false (.t 17), none⟩, ⟨(some 19), .bin .lss (.t 16) (.t 18), none⟩]) (.seq
    (.keep [0, 1, 5, 6, 19]) (.cond (.t 19) (.skip) (.exit 0)))) (.seq (.keep [0, 1, 5, 6]) (.seq (.block 1 (.seq (.region 0 [⟨(some 22), .mv (.t 5), none⟩, ⟨(some 23),
   .mv (.t 6), none⟩, ⟨(some 24), .iaddr 2 (.t 22) (.t 23), none⟩, ⟨(some 25), .iaddrA 2 1 (.t 24) (.c (.int .i64 0)), none⟩, ⟨(some 26), .load 1 false true (.t 25),
   none⟩, ⟨(some 27), .mv (.t 5), none⟩, ⟨(some 28), .mv (.t 6), none⟩, ⟨(some 29), .iaddr 2 (.t 27) (.t 28), none⟩, ⟨(some 30), .iaddrA 2 1 (.t 29) (.c (.int .i64 1)),
   none⟩, ⟨(some 31), .load 1 false true (.t 30), none⟩, ⟨(some 7), .mv (.t 26), none⟩, ⟨(some 8), .mv (.t 31), none⟩]) (.seq (.keep [0, 1, 5, 6, 7, 8]) (.seq (.seq
    (.region 0 [⟨(some 32), .mv (.t 8), none⟩, ⟨(some 33), .bin .lss (.t 32) (.c (.int .i64 2)), none⟩, ⟨(some 34), .mv (.t 33), none⟩, ⟨(some 35), .mv (.t 8), (some (34,
   false))⟩, ⟨(some 36), .mv (.t 1), (some (34, false))⟩, ⟨(some 37), .bin .gtr (.t 35) (.t 36), (some (34, false))⟩, ⟨(some 38), .pick (.t 34) (.c (.bool true)) (.t 37),
   none⟩, ⟨(some 39), .mv (.t 38), none⟩, ⟨(some 40), .mv (.t 8), (some (39, false))⟩, ⟨(some 41), .bin .gtr (.t 40) (.c (.int .i64 32)), (some (39, false))⟩, ⟨(some 42),
   .pick (.t 39) (.c (.bool true)) (.t 41), none⟩, ⟨(some 43), .mv (.t 42), none⟩, ⟨(some 44), .mv (.t 0), (some (43, false))⟩, ⟨(some 45), .mv (.t 7), (some (43,
   false))⟩, ⟨(some 46), .mv (.t 8), (some (43, false))⟩, ⟨(some 47), .pcall 211 [.t 44, .t 45, .t 46], (some (43, false))⟩, ⟨(some 48), .un .not (.t 47), (some (43,
   false))⟩, ⟨(some 49), .pick (.t 43) (.c (.bool true)) (.t 48), none⟩]) (.seq (.keep [0, 1, 5, 6, 7, 8, 49]) (.cond (.t 49) (.seq (.region 0 [⟨(some 4), .mv (.c
    (.bool false)), none⟩]) (.ret)) (.skip)))) (.seq (.keep [0, 1, 5, 6, 7, 8]) (.seq (.region 0 [⟨(some 50), .mv (.t 6), none⟩, ⟨(some 51), .bin .gtr (.t 50) (.c
    (.int .i64 0)), none⟩, ⟨(some 52), .mv (.t 51), none⟩, ⟨(some 53), .mv (.t 5), (some (52, true))⟩, ⟨(some 54), .mv (.t 6), (some (52, true))⟩, ⟨(some 55), .bin .sub
    (.t 54) (.c (.int .i64 1)), (some (52, true))⟩, ⟨(some 56), .iaddr 2 (.t 53) (.t 55), (some (52, true))⟩, ⟨(some 57), .iaddrA 2 1 (.t 56) (.c (.int .i64 0)), (some
    (52, true))⟩, ⟨(some 58), .load 1 false false (.t 57), (some (52, true))⟩, ⟨(some 59), .mv (.t 7), (some (52, true))⟩, ⟨(some 60), .bin .gtr (.t 58) (.t 59), (some
    (52, true))⟩, ⟨(some 61), .mv (.t 60), (some (52, true))⟩, ⟨(some 62), .mv (.t 5), (some (61, false))⟩, ⟨(some 63), .mv (.t 6), (some (61, false))⟩, ⟨(some 64),
   .bin .sub (.t 63) (.c (.int .i64 1)), (some (61, false))⟩, ⟨(some 65), .iaddr 2 (.t 62) (.t 64), (some (61, false))⟩, ⟨(some 66), .iaddrA 2 1 (.t 65) (.c
    (.int .i64 0)), (some (61, false))⟩, ⟨(some 67), .load 1 false false (.t 66), (some (61, false))⟩, ⟨(some 68), .mv (.t 7), (some (61, false))⟩, ⟨(some 69), .bin .eql
    (.t 67) (.t 68), (some (61, false))⟩, ⟨(some 70), .mv (.t 69), (some (61, false))⟩, ⟨(some 71), .mv (.t 5), (some (70, true))⟩, ⟨(some 72), .mv (.t 6), (some (70,
   true))⟩, ⟨(some 73), .bin .sub (.t 72) (.c (.int .i64 1)), (some (70, true))⟩, ⟨(some 74), .iaddr 2 (.t 71) (.t 73), (some (70, true))⟩, ⟨(some 75), .iaddrA 2 1
    (.t 74) (.c (.int .i64 1)), (some (70, true))⟩, ⟨(some 76), .load 1 false false (.t 75), (some (70, true))⟩, ⟨(some 77), .mv (.t 8), (some (70, true))⟩, ⟨(some 78),
   .bin .leq (.t 76) (.t 77), (some (70, true))⟩, ⟨(some 79), .pick (.t 70) (.t 78) (.c (.bool false)), (some (61, false))⟩, ⟨(some 80), .pick (.t 61) (.c (.bool true))
    (.t 79), (some (52, true))⟩, ⟨(some 81), .pick (.t 52) (.t 80) (.c (.bool false)), none⟩]) (.seq (.keep [0, 1, 5, 6, 81]) (.cond (.t 81) (.seq (.region 0 [⟨(some 4),
   .mv (.c (.bool false)), none⟩]) (.ret)) (.skip))))))))) (.seq (.keep [0, 1, 5, 6]) (.region 0 [⟨(some 20), .mv (.t 6), none⟩, ⟨(some 21), .bin .add (.t 20) (.c
    (.int .i64 1)), none⟩, ⟨(some 6), .mv (.t 21), none⟩])))))))) (.seq (.keep []) (.seq (.region 0 [⟨(some 82), .pcall 224 [], none⟩, ⟨(some 4), .mv (.t 82), none⟩])
    (.ret)))))))),
  [.tmp 4]⟩

/-- A table that holds these. -/
class HasL22 (G : Tbl) : Prop where
  h_hurdlelaw22_great : G 223 = some c_hurdlelaw22_great
  h_hurdlelaw22_knows : G 224 = some c_hurdlelaw22_knows
  h_hurdlelaw22_SplicePuts : G 225 = some c_hurdlelaw22_SplicePuts
  h_hurdlelaw22_SplicePieces : G 226 = some c_hurdlelaw22_SplicePieces
  h_hurdlelaw22_SpliceSound : G 227 = some c_hurdlelaw22_SpliceSound
  h_hurdlelaw22_SpliceSelf : G 228 = some c_hurdlelaw22_SpliceSelf
  h_hurdlelaw22_SpliceRows : G 229 = some c_hurdlelaw22_SpliceRows

end Go.Ev
