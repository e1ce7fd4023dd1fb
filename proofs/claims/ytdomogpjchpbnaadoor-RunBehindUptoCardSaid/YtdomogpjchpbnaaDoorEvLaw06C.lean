/- Simplified code of Go functions, by scode.py. -/
import Derived.Test.YtdomogpjchpbnaaDoorEvInsC
namespace Go.Ev

/-- hurdle/hurdlelaw06.knows -/
def c_hurdlelaw06_knows : SFn := ⟨73,
  .seq (.region 0 [⟨(some 0), .mv (.c (.bool false)), none⟩]) (.seq (.region 0 [⟨(some 13), .pcall 148 [.c (.str [97, 98, 115, 32, 48, 120, 48, 10, 106, 101, 113, 32, 48,
   120, 53, 32, 48, 120, 49, 32, 48, 120, 48, 10, 114, 101, 116, 32, 48, 120, 48, 10, 114, 101, 116, 32, 48, 120, 55, 102, 102, 102, 48, 48, 48, 48, 10])], none⟩,
   ⟨(some 12), .mv (.t 13), none⟩, ⟨(some 14), .ext 0 (.t 12), none⟩, ⟨(some 15), .ext 1 (.t 12), none⟩, ⟨(some 16), .ext 2 (.t 12), none⟩, ⟨(some 1), .mv (.t 14), none⟩,
   ⟨(some 2), .mv (.t 15), none⟩, ⟨(some 3), .mv (.t 16), none⟩]) (.seq (.keep [1, 3]) (.seq (.region 0 [⟨(some 18), .mv (.t 1), none⟩, ⟨(some 19), .build ([.int .u32 0,
   .int .u32 0, .int .u64 0, .int .u64 0, .int .u64 0, .int .u64 0, .int .u64 0, .int .u64 0, .int .u64 0]) [(0, 1, .c (.int .u32 5))], none⟩, ⟨(some 20),
   .pcall 230 [.t 18, .t 19], none⟩, ⟨(some 17), .mv (.t 20), none⟩, ⟨(some 21), .ext 0 (.t 17), none⟩, ⟨(some 22), .ext 1 (.t 17), none⟩, ⟨(some 23), .ext 2 (.t 17),
   none⟩, ⟨(some 4), .mv (.t 21), none⟩, ⟨(some 5), .mv (.t 22), none⟩, ⟨(some 6), .mv (.t 23), none⟩]) (.seq (.keep [1, 3, 4, 5, 6]) (.seq (.region 0 [⟨(some 25), .mv
    (.t 1), none⟩, ⟨(some 26), .build ([.int .u32 0, .int .u32 0, .int .u64 0, .int .u64 0, .int .u64 0, .int .u64 0, .int .u64 0, .int .u64 0, .int .u64 0]) [(0, 1, .c
    (.int .u32 6))], none⟩, ⟨(some 27), .pcall 230 [.t 25, .t 26], none⟩, ⟨(some 24), .mv (.t 27), none⟩, ⟨(some 28), .ext 0 (.t 24), none⟩, ⟨(some 29), .ext 1 (.t 24),
   none⟩, ⟨(some 30), .ext 2 (.t 24), none⟩, ⟨(some 7), .mv (.t 28), none⟩, ⟨(some 8), .mv (.t 29), none⟩, ⟨(some 9), .mv (.t 30), none⟩]) (.seq (.keep [3, 4, 5, 6, 7, 9])
    (.seq (.region 1 [⟨(some 32), .build (rep 18 (.int .u32 0)) [(0, 1, .c (.int .u32 3))], none⟩, ⟨(some 33), .build ([.int .i64 0, .int .i64 0, .int .i64 0,
   .int .u32 0]) [(0, 1, .c (.int .i64 7))], none⟩, ⟨(some 34), .build ([.int .u32 0, .int .u32 0, .int .u64 0, .int .u64 0, .int .u64 0, .int .u64 0, .int .u64 0,
   .int .u64 0, .int .u64 0]) [], none⟩, ⟨(some 35), .pcall 164 [.t 32, .t 33, .t 34], none⟩, ⟨(some 31), .mv (.t 35), none⟩, ⟨(some 36), .ext 0 (.t 31), none⟩,
   ⟨(some 37), .ext 1 (.t 31), none⟩, ⟨(some 10), .alloc 0 (rep 18 (.int .u32 0)), none⟩, ⟨none, .store 18 (.t 10) (.t 36), none⟩, ⟨(some 11), .mv (.t 37), none⟩]) (.seq
    (.keep [3, 4, 5, 6, 7, 9, 10, 11]) (.seq (.region 0 [⟨(some 38), .mv (.t 3), none⟩, ⟨(some 39), .bin .eql (.t 38) (.c (.int .i64 0)), none⟩, ⟨(some 40), .mv (.t 39),
   none⟩, ⟨(some 41), .mv (.t 4), (some (40, true))⟩, ⟨(some 42), .bin .eql (.t 41) (.c (.int .u32 2147418112)), (some (40, true))⟩, ⟨(some 43), .pick (.t 40) (.t 42) (.c
    (.bool false)), none⟩, ⟨(some 44), .mv (.t 43), none⟩, ⟨(some 45), .mv (.t 5), (some (44, true))⟩, ⟨(some 46), .bin .eql (.t 45) (.c (.int .i64 3)), (some (44,
   true))⟩, ⟨(some 47), .pick (.t 44) (.t 46) (.c (.bool false)), none⟩, ⟨(some 48), .mv (.t 47), none⟩, ⟨(some 49), .mv (.t 6), (some (48, true))⟩, ⟨(some 50), .bin .eql
    (.t 49) (.c (.int .i64 0)), (some (48, true))⟩, ⟨(some 51), .pick (.t 48) (.t 50) (.c (.bool false)), none⟩, ⟨(some 52), .mv (.t 51), none⟩, ⟨(some 53), .mv (.t 7),
   (some (52, true))⟩, ⟨(some 54), .bin .eql (.t 53) (.c (.int .u32 0)), (some (52, true))⟩, ⟨(some 55), .pick (.t 52) (.t 54) (.c (.bool false)), none⟩, ⟨(some 56), .mv
    (.t 55), none⟩, ⟨(some 57), .mv (.t 9), (some (56, true))⟩, ⟨(some 58), .bin .eql (.t 57) (.c (.int .i64 0)), (some (56, true))⟩, ⟨(some 59), .pick (.t 56) (.t 58)
    (.c (.bool false)), none⟩, ⟨(some 60), .mv (.t 59), none⟩, ⟨(some 61), .faddr 1 (.t 10), (some (60, true))⟩, ⟨(some 62), .load 1 false false (.t 61), (some (60,
   true))⟩, ⟨(some 63), .bin .eql (.t 62) (.c (.int .u32 3)), (some (60, true))⟩, ⟨(some 64), .pick (.t 60) (.t 63) (.c (.bool false)), none⟩, ⟨(some 65), .mv (.t 64),
   none⟩, ⟨(some 66), .mv (.t 11), (some (65, true))⟩, ⟨(some 67), .pick (.t 65) (.t 66) (.c (.bool false)), none⟩, ⟨(some 68), .mv (.t 67), none⟩, ⟨(some 69), .build
    (rep 18 (.int .u32 0)) [(0, 1, .c (.int .u32 5))], (some (68, true))⟩, ⟨(some 70), .build ([.int .i64 0, .int .i64 0, .int .i64 0, .int .u32 0]) [(0, 1, .c
    (.int .i64 37)), (3, 1, .c (.int .u32 4))], (some (68, true))⟩, ⟨(some 71), .pcall 165 [.t 69, .t 70], (some (68, true))⟩, ⟨(some 72), .pick (.t 68) (.t 71) (.c
    (.bool false)), none⟩, ⟨(some 0), .mv (.t 72), none⟩]) (.ret)))))))))),
  [.tmp 0]⟩

/-- hurdle/hurdlelaw06.RunSteps -/
def c_hurdlelaw06_RunSteps : SFn := ⟨45,
  .seq (.region 3 [⟨(some 3), .box 0 (.t 0), none⟩, ⟨(some 4), .box 1 (.t 1), none⟩, ⟨(some 5), .box 2 (.t 2), none⟩, ⟨(some 6), .mv (.c (.bool false)), none⟩]) (.seq
    (.region 1 [⟨(some 12), .load 18 true false (.t 3), none⟩, ⟨(some 13), .load 4 true false (.t 4), none⟩, ⟨(some 14), .load 9 true false (.t 5), none⟩, ⟨(some 15),
   .pcall 164 [.t 12, .t 13, .t 14], none⟩, ⟨(some 11), .mv (.t 15), none⟩, ⟨(some 16), .ext 0 (.t 11), none⟩, ⟨(some 17), .ext 1 (.t 11), none⟩, ⟨(some 7), .alloc 0
    (rep 18 (.int .u32 0)), none⟩, ⟨none, .store 18 (.t 7) (.t 16), none⟩, ⟨(some 8), .mv (.t 17), none⟩]) (.seq (.keep [3, 4, 5, 7, 8]) (.seq (.region 1 [⟨(some 19),
   .load 18 true false (.t 3), none⟩, ⟨(some 20), .load 4 true false (.t 4), none⟩, ⟨(some 21), .load 9 true false (.t 5), none⟩, ⟨(some 22), .pcall 190 [.t 19, .t 20,
   .t 21], none⟩, ⟨(some 18), .mv (.t 22), none⟩, ⟨(some 23), .ext 0 (.t 18), none⟩, ⟨(some 24), .ext 1 (.t 18), none⟩, ⟨(some 9), .alloc 0 (rep 18 (.int .u32 0)), none⟩,
   ⟨none, .store 18 (.t 9) (.t 23), none⟩, ⟨(some 10), .mv (.t 24), none⟩]) (.seq (.keep [3, 4, 7, 8, 9, 10]) (.seq (.region 0 [⟨(some 25), .load 18 true true (.t 7),
   none⟩, ⟨(some 26), .load 18 true true (.t 9), none⟩, ⟨(some 27), .aeq (List.replicate 18 .int) false (.t 25) (.t 26), none⟩, ⟨(some 28), .mv (.t 27), none⟩, ⟨(some 29),
   .mv (.t 8), (some (28, true))⟩, ⟨(some 30), .mv (.t 10), (some (28, true))⟩, ⟨(some 31), .beq false (.t 29) (.t 30), (some (28, true))⟩, ⟨(some 32), .pick (.t 28)
    (.t 31) (.c (.bool false)), none⟩, ⟨(some 33), .mv (.t 32), none⟩, ⟨(some 34), .load 18 true true (.t 3), (some (33, true))⟩, ⟨(some 35), .load 4 true true (.t 4),
   (some (33, true))⟩, ⟨(some 36), .pcall 165 [.t 34, .t 35], (some (33, true))⟩, ⟨(some 37), .load 18 true true (.t 3), (some (33, true))⟩, ⟨(some 38), .load 4 true true
    (.t 4), (some (33, true))⟩, ⟨(some 39), .pcall 191 [.t 37, .t 38], (some (33, true))⟩, ⟨(some 40), .beq false (.t 36) (.t 39), (some (33, true))⟩, ⟨(some 41), .pick
    (.t 33) (.t 40) (.c (.bool false)), none⟩, ⟨(some 42), .mv (.t 41), none⟩, ⟨(some 43), .pcall 235 [], (some (42, true))⟩, ⟨(some 44), .pick (.t 42) (.t 43) (.c
    (.bool false)), none⟩, ⟨(some 6), .mv (.t 44), none⟩]) (.ret)))))),
  [.tmp 6]⟩

/-- hurdle/hurdlelaw06.RunRuns -/
def c_hurdlelaw06_RunRuns : SFn := ⟨58,
  .seq (.region 1 [⟨(some 3), .box 0 (.t 1), none⟩, ⟨(some 4), .mv (.c (.bool false)), none⟩]) (.seq (.seq (.region 0 [⟨(some 10), .mv (.t 0), none⟩, ⟨(some 11), .len false
    (.t 10), none⟩, ⟨(some 12), .bin .gtr (.t 11) (.c (.int .i64 300)), none⟩]) (.cond (.t 12) (.seq (.region 0 [⟨(some 13), .pcall 235 [], none⟩, ⟨(some 4), .mv (.t 13),
   none⟩]) (.ret)) (.skip))) (.seq (.keep [0, 3]) (.seq (.region 0 [⟨(some 15), .mv (.t 0), none⟩, ⟨(some 16), .load 9 true false (.t 3), none⟩, ⟨(some 17),
   .pcall 230 [.t 15, .t 16], none⟩, ⟨(some 14), .mv (.t 17), none⟩, ⟨(some 18), .ext 0 (.t 14), none⟩, ⟨(some 19), .ext 1 (.t 14), none⟩, ⟨(some 20), .ext 2 (.t 14),
   none⟩, ⟨(some 5), .mv (.t 18), none⟩, ⟨(some 6), .mv (.t 19), none⟩, ⟨(some 7), .mv (.t 20), none⟩]) (.seq (.keep [0, 3, 5, 6, 7]) (.seq (.seq (.region 0 [⟨(some 21),
   .mv (.t 0), none⟩, ⟨(some 22), .pcall 188 [.t 21], none⟩, ⟨(some 23), .un .not (.t 22), none⟩]) (.cond (.t 23) (.seq (.region 0 [⟨(some 24), .mv (.t 5), none⟩,
   ⟨(some 25), .bin .eql (.t 24) (.c (.int .u32 0)), none⟩, ⟨(some 26), .mv (.t 25), none⟩, ⟨(some 27), .mv (.t 6), (some (26, true))⟩, ⟨(some 28), .bin .eql (.t 27) (.c
    (.int .i64 0)), (some (26, true))⟩, ⟨(some 29), .pick (.t 26) (.t 28) (.c (.bool false)), none⟩, ⟨(some 30), .mv (.t 29), none⟩, ⟨(some 31), .mv (.t 7), (some (30,
   true))⟩, ⟨(some 32), .bin .eql (.t 31) (.c (.int .i64 1)), (some (30, true))⟩, ⟨(some 33), .pick (.t 30) (.t 32) (.c (.bool false)), none⟩, ⟨(some 34), .mv (.t 33),
   none⟩, ⟨(some 35), .pcall 235 [], (some (34, true))⟩, ⟨(some 36), .pick (.t 34) (.t 35) (.c (.bool false)), none⟩, ⟨(some 4), .mv (.t 36), none⟩]) (.ret)) (.skip)))
    (.seq (.keep [0, 3, 5, 6, 7]) (.seq (.region 0 [⟨(some 38), .mv (.t 0), none⟩, ⟨(some 39), .load 9 true false (.t 3), none⟩, ⟨(some 40), .pcall 234 [.t 38, .t 39],
   none⟩, ⟨(some 37), .mv (.t 40), none⟩, ⟨(some 41), .ext 0 (.t 37), none⟩, ⟨(some 42), .ext 1 (.t 37), none⟩, ⟨(some 8), .mv (.t 41), none⟩, ⟨(some 9), .mv (.t 42),
   none⟩]) (.seq (.keep [5, 6, 7, 8, 9]) (.seq (.region 0 [⟨(some 43), .mv (.t 5), none⟩, ⟨(some 44), .mv (.t 8), none⟩, ⟨(some 45), .bin .eql (.t 43) (.t 44), none⟩,
   ⟨(some 46), .mv (.t 45), none⟩, ⟨(some 47), .mv (.t 6), (some (46, true))⟩, ⟨(some 48), .mv (.t 9), (some (46, true))⟩, ⟨(some 49), .bin .eql (.t 47) (.t 48), (some
    (46, true))⟩, ⟨(some 50), .pick (.t 46) (.t 49) (.c (.bool false)), none⟩, ⟨(some 51), .mv (.t 50), none⟩, ⟨(some 52), .mv (.t 7), (some (51, true))⟩, ⟨(some 53),
   .bin .eql (.t 52) (.c (.int .i64 0)), (some (51, true))⟩, ⟨(some 54), .pick (.t 51) (.t 53) (.c (.bool false)), none⟩, ⟨(some 55), .mv (.t 54), none⟩, ⟨(some 56),
   .pcall 235 [], (some (55, true))⟩, ⟨(some 57), .pick (.t 55) (.t 56) (.c (.bool false)), none⟩, ⟨(some 4), .mv (.t 57), none⟩]) (.ret)))))))))),
  [.tmp 4]⟩

/-- hurdle/hurdlelaw06.RunEnds -/
def c_hurdlelaw06_RunEnds : SFn := ⟨39,
  .seq (.region 1 [⟨(some 3), .box 0 (.t 1), none⟩, ⟨(some 4), .mv (.c (.bool false)), none⟩]) (.seq (.seq (.region 0 [⟨(some 8), .mv (.t 0), none⟩, ⟨(some 9), .len false
    (.t 8), none⟩, ⟨(some 10), .bin .gtr (.t 9) (.c (.int .i64 300)), none⟩, ⟨(some 11), .mv (.t 10), none⟩, ⟨(some 12), .mv (.t 0), (some (11, false))⟩, ⟨(some 13),
   .pcall 188 [.t 12], (some (11, false))⟩, ⟨(some 14), .un .not (.t 13), (some (11, false))⟩, ⟨(some 15), .pick (.t 11) (.c (.bool true)) (.t 14), none⟩]) (.seq
    (.keep [0, 3, 15]) (.cond (.t 15) (.seq (.region 0 [⟨(some 16), .pcall 235 [], none⟩, ⟨(some 4), .mv (.t 16), none⟩]) (.ret)) (.skip)))) (.seq (.keep [0, 3]) (.seq
    (.region 0 [⟨(some 18), .mv (.t 0), none⟩, ⟨(some 19), .load 9 true false (.t 3), none⟩, ⟨(some 20), .pcall 230 [.t 18, .t 19], none⟩, ⟨(some 17), .mv (.t 20), none⟩,
   ⟨(some 21), .ext 0 (.t 17), none⟩, ⟨(some 22), .ext 1 (.t 17), none⟩, ⟨(some 23), .ext 2 (.t 17), none⟩, ⟨(some 5), .mv (.t 21), none⟩, ⟨(some 6), .mv (.t 22), none⟩,
   ⟨(some 7), .mv (.t 23), none⟩]) (.seq (.keep [0, 6, 7]) (.seq (.region 0 [⟨(some 24), .mv (.t 7), none⟩, ⟨(some 25), .bin .eql (.t 24) (.c (.int .i64 0)), none⟩,
   ⟨(some 26), .mv (.t 25), none⟩, ⟨(some 27), .mv (.t 6), (some (26, true))⟩, ⟨(some 28), .bin .geq (.t 27) (.c (.int .i64 1)), (some (26, true))⟩, ⟨(some 29), .pick
    (.t 26) (.t 28) (.c (.bool false)), none⟩, ⟨(some 30), .mv (.t 29), none⟩, ⟨(some 31), .mv (.t 6), (some (30, true))⟩, ⟨(some 32), .mv (.t 0), (some (30, true))⟩,
   ⟨(some 33), .len false (.t 32), (some (30, true))⟩, ⟨(some 34), .bin .leq (.t 31) (.t 33), (some (30, true))⟩, ⟨(some 35), .pick (.t 30) (.t 34) (.c (.bool false)),
   none⟩, ⟨(some 36), .mv (.t 35), none⟩, ⟨(some 37), .pcall 235 [], (some (36, true))⟩, ⟨(some 38), .pick (.t 36) (.t 37) (.c (.bool false)), none⟩, ⟨(some 4), .mv
    (.t 38), none⟩]) (.ret)))))),
  [.tmp 4]⟩

/-- hurdle/hurdlelaw06.RunLoads -/
def c_hurdlelaw06_RunLoads : SFn := ⟨83,
  .seq (.region 1 [⟨(some 5), .box 0 (.t 1), none⟩, ⟨(some 8), .mv (.c (.bool false)), none⟩]) (.seq (.seq (.region 0 [⟨(some 16), .mv (.t 0), none⟩, ⟨(some 17), .len false
    (.t 16), none⟩, ⟨(some 18), .bin .gtr (.t 17) (.c (.int .i64 300)), none⟩, ⟨(some 19), .mv (.t 18), none⟩, ⟨(some 20), .mv (.t 0), (some (19, false))⟩, ⟨(some 21),
   .pcall 188 [.t 20], (some (19, false))⟩, ⟨(some 22), .un .not (.t 21), (some (19, false))⟩, ⟨(some 23), .pick (.t 19) (.c (.bool true)) (.t 22), none⟩]) (.seq
    (.keep [0, 2, 3, 5, 23]) (.cond (.t 23) (.seq (.region 0 [⟨(some 24), .pcall 235 [], none⟩, ⟨(some 8), .mv (.t 24), none⟩]) (.ret)) (.skip)))) (.seq (.keep [0, 2, 3,
   5]) (.seq (.seq (.region 0 [⟨(some 9), .mv (.c (.int .i64 0)), none⟩]) (.block 0 (.loop [0, 2, 3, 5, 9] (.seq (.seq (.region 0 [⟨(some 25), .mv (.t 9), none⟩,
   ⟨(some 26), .mv (.t 0), none⟩, ⟨(some 27), .len false (.t 26), none⟩, ⟨(some 28), .bin .lss (.t 25) (.t 27), none⟩]) (.seq (.keep [0, 2, 3, 5, 9, 28]) (.cond (.t 28)
    (.skip) (.exit 0)))) (.seq (.keep [0, 2, 3, 5, 9]) (.seq (.block 1 (.seq (.region 0 [⟨(some 31), .mv (.t 0), none⟩, ⟨(some 32), .mv (.t 9), none⟩, ⟨(some 33), .iaddr 4
    (.t 31) (.t 32), none⟩, ⟨(some 34), .faddr 0 (.t 33), none⟩, ⟨(some 35), .load 1 false false (.t 34), none⟩, ⟨(some 36), .bin .eql (.t 35) (.c (.int .i64 32)), none⟩,
   ⟨(some 37), .mv (.t 36), none⟩, ⟨(some 38), .mv (.t 0), (some (37, true))⟩, ⟨(some 39), .mv (.t 9), (some (37, true))⟩, ⟨(some 40), .iaddr 4 (.t 38) (.t 39), (some
    (37, true))⟩, ⟨(some 41), .faddr 3 (.t 40), (some (37, true))⟩, ⟨(some 42), .load 1 false false (.t 41), (some (37, true))⟩, ⟨(some 43), .mv (.t 2), (some (37,
   true))⟩, ⟨(some 44), .bin .eql (.t 42) (.t 43), (some (37, true))⟩, ⟨(some 45), .pick (.t 37) (.t 44) (.c (.bool false)), none⟩]) (.seq (.keep [0, 2, 3, 5, 9, 45])
    (.cond (.t 45) (.seq (.region 0 [⟨(some 46), .pcall 235 [], none⟩, ⟨(some 8), .mv (.t 46), none⟩]) (.ret)) (.skip))))) (.seq (.keep [0, 2, 3, 5, 9])
    (.region 0 [⟨(some 29), .mv (.t 9), none⟩, ⟨(some 30), .bin .add (.t 29) (.c (.int .i64 1)), none⟩, ⟨(some 9), .mv (.t 30), none⟩])))))))) (.seq (.keep [0, 2, 3, 5])
    (.seq (.region 0 [⟨(some 48), .mv (.t 0), none⟩, ⟨(some 49), .load 9 true false (.t 5), none⟩, ⟨(some 50), .pcall 230 [.t 48, .t 49], none⟩, ⟨(some 47), .mv (.t 50),
   none⟩, ⟨(some 51), .ext 0 (.t 47), none⟩, ⟨(some 52), .ext 1 (.t 47), none⟩, ⟨(some 53), .ext 2 (.t 47), none⟩, ⟨(some 10), .mv (.t 51), none⟩, ⟨(some 11), .mv
    (.t 52), none⟩, ⟨(some 12), .mv (.t 53), none⟩]) (.seq (.keep [0, 2, 3, 5, 10, 11, 12]) (.seq (.region 0 [⟨(some 55), .mv (.t 0), none⟩, ⟨(some 56), .load 9 true false
    (.t 5), none⟩, ⟨(some 57), .mv (.t 2), none⟩, ⟨(some 58), .mv (.t 3), none⟩, ⟨(some 59), .pcall 233 [.t 56, .t 57, .t 58], none⟩, ⟨(some 60), .pcall 230 [.t 55,
   .t 59], none⟩, ⟨(some 54), .mv (.t 60), none⟩, ⟨(some 61), .ext 0 (.t 54), none⟩, ⟨(some 62), .ext 1 (.t 54), none⟩, ⟨(some 63), .ext 2 (.t 54), none⟩, ⟨(some 13), .mv
    (.t 61), none⟩, ⟨(some 14), .mv (.t 62), none⟩, ⟨(some 15), .mv (.t 63), none⟩]) (.seq (.keep [10, 11, 12, 13, 14, 15]) (.seq (.region 0 [⟨(some 64), .mv (.t 10),
   none⟩, ⟨(some 65), .mv (.t 13), none⟩, ⟨(some 66), .bin .eql (.t 64) (.t 65), none⟩, ⟨(some 67), .mv (.t 66), none⟩, ⟨(some 68), .mv (.t 11), (some (67, true))⟩,
   ⟨(some 69), .mv (.t 14), (some (67, true))⟩, ⟨(some 70), .bin .eql (.t 68) (.t 69), (some (67, true))⟩, ⟨(some 71), .pick (.t 67) (.t 70) (.c (.bool false)), none⟩,
   ⟨(some 72), .mv (.t 71), none⟩, ⟨(some 73), .mv (.t 12), (some (72, true))⟩, ⟨(some 74), .bin .eql (.t 73) (.c (.int .i64 0)), (some (72, true))⟩, ⟨(some 75), .pick
    (.t 72) (.t 74) (.c (.bool false)), none⟩, ⟨(some 76), .mv (.t 75), none⟩, ⟨(some 77), .mv (.t 15), (some (76, true))⟩, ⟨(some 78), .bin .eql (.t 77) (.c
    (.int .i64 0)), (some (76, true))⟩, ⟨(some 79), .pick (.t 76) (.t 78) (.c (.bool false)), none⟩, ⟨(some 80), .mv (.t 79), none⟩, ⟨(some 81), .pcall 235 [], (some (80,
   true))⟩, ⟨(some 82), .pick (.t 80) (.t 81) (.c (.bool false)), none⟩, ⟨(some 8), .mv (.t 82), none⟩]) (.ret)))))))))),
  [.tmp 8]⟩

/-- hurdle/hurdlelaw06.RunBehind -/
def c_hurdlelaw06_RunBehind : SFn := ⟨66,
  .seq (.region 1 [⟨(some 5), .box 0 (.t 2), none⟩, ⟨(some 6), .mv (.c (.bool false)), none⟩]) (.seq (.region 2 [⟨(some 14), .bslice 0 ([.int .i64 0, .int .i64 0,
   .int .i64 0, .int .u32 0]) [], none⟩, ⟨(some 15), .mv (.t 0), none⟩, ⟨(some 16), .app 0 4 32 (.t 14) (.t 15), none⟩, ⟨(some 17), .mv (.t 1), none⟩, ⟨(some 18),
   .app 1 4 32 (.t 16) (.t 17), none⟩, ⟨(some 7), .mv (.t 18), none⟩]) (.seq (.keep [0, 5, 7]) (.seq (.seq (.region 0 [⟨(some 19), .mv (.t 7), none⟩, ⟨(some 20),
   .len false (.t 19), none⟩, ⟨(some 21), .bin .gtr (.t 20) (.c (.int .i64 300)), none⟩, ⟨(some 22), .mv (.t 21), none⟩, ⟨(some 23), .mv (.t 0), (some (22, false))⟩,
   ⟨(some 24), .pcall 188 [.t 23], (some (22, false))⟩, ⟨(some 25), .un .not (.t 24), (some (22, false))⟩, ⟨(some 26), .pick (.t 22) (.c (.bool true)) (.t 25), none⟩,
   ⟨(some 27), .mv (.t 26), none⟩, ⟨(some 28), .mv (.t 7), (some (27, false))⟩, ⟨(some 29), .pcall 188 [.t 28], (some (27, false))⟩, ⟨(some 30), .un .not (.t 29), (some
    (27, false))⟩, ⟨(some 31), .pick (.t 27) (.c (.bool true)) (.t 30), none⟩]) (.seq (.keep [0, 5, 7, 31]) (.cond (.t 31) (.seq (.region 0 [⟨(some 32), .pcall 235 [],
   none⟩, ⟨(some 6), .mv (.t 32), none⟩]) (.ret)) (.skip)))) (.seq (.keep [0, 5, 7]) (.seq (.region 0 [⟨(some 34), .mv (.t 0), none⟩, ⟨(some 35), .load 9 true false
    (.t 5), none⟩, ⟨(some 36), .pcall 230 [.t 34, .t 35], none⟩, ⟨(some 33), .mv (.t 36), none⟩, ⟨(some 37), .ext 0 (.t 33), none⟩, ⟨(some 38), .ext 1 (.t 33), none⟩,
   ⟨(some 39), .ext 2 (.t 33), none⟩, ⟨(some 8), .mv (.t 37), none⟩, ⟨(some 9), .mv (.t 38), none⟩, ⟨(some 10), .mv (.t 39), none⟩]) (.seq (.keep [5, 7, 8, 9, 10]) (.seq
    (.region 0 [⟨(some 41), .mv (.t 7), none⟩, ⟨(some 42), .load 9 true false (.t 5), none⟩, ⟨(some 43), .pcall 230 [.t 41, .t 42], none⟩, ⟨(some 40), .mv (.t 43), none⟩,
   ⟨(some 44), .ext 0 (.t 40), none⟩, ⟨(some 45), .ext 1 (.t 40), none⟩, ⟨(some 46), .ext 2 (.t 40), none⟩, ⟨(some 11), .mv (.t 44), none⟩, ⟨(some 12), .mv (.t 45), none⟩,
   ⟨(some 13), .mv (.t 46), none⟩]) (.seq (.keep [8, 9, 10, 11, 12, 13]) (.seq (.region 0 [⟨(some 47), .mv (.t 8), none⟩, ⟨(some 48), .mv (.t 11), none⟩, ⟨(some 49),
   .bin .eql (.t 47) (.t 48), none⟩, ⟨(some 50), .mv (.t 49), none⟩, ⟨(some 51), .mv (.t 9), (some (50, true))⟩, ⟨(some 52), .mv (.t 12), (some (50, true))⟩, ⟨(some 53),
   .bin .eql (.t 51) (.t 52), (some (50, true))⟩, ⟨(some 54), .pick (.t 50) (.t 53) (.c (.bool false)), none⟩, ⟨(some 55), .mv (.t 54), none⟩, ⟨(some 56), .mv (.t 10),
   (some (55, true))⟩, ⟨(some 57), .bin .eql (.t 56) (.c (.int .i64 0)), (some (55, true))⟩, ⟨(some 58), .pick (.t 55) (.t 57) (.c (.bool false)), none⟩, ⟨(some 59), .mv
    (.t 58), none⟩, ⟨(some 60), .mv (.t 13), (some (59, true))⟩, ⟨(some 61), .bin .eql (.t 60) (.c (.int .i64 0)), (some (59, true))⟩, ⟨(some 62), .pick (.t 59) (.t 61)
    (.c (.bool false)), none⟩, ⟨(some 63), .mv (.t 62), none⟩, ⟨(some 64), .pcall 235 [], (some (63, true))⟩, ⟨(some 65), .pick (.t 63) (.t 64) (.c (.bool false)), none⟩,
   ⟨(some 6), .mv (.t 65), none⟩]) (.ret)))))))))),
  [.tmp 6]⟩

/-- hurdle/hurdlelaw06.RunJumps -/
def c_hurdlelaw06_RunJumps : SFn := ⟨75,
  .seq (.region 1 [⟨(some 5), .box 0 (.t 2), none⟩, ⟨(some 6), .mv (.c (.bool false)), none⟩]) (.seq (.seq (.region 0 [⟨(some 14), .mv (.t 0), none⟩, ⟨(some 15), .len false
    (.t 14), none⟩, ⟨(some 16), .bin .gtr (.t 15) (.c (.int .i64 300)), none⟩, ⟨(some 17), .mv (.t 16), none⟩, ⟨(some 18), .mv (.t 1), (some (17, false))⟩, ⟨(some 19),
   .len false (.t 18), (some (17, false))⟩, ⟨(some 20), .bin .gtr (.t 19) (.c (.int .i64 20)), (some (17, false))⟩, ⟨(some 21), .pick (.t 17) (.c (.bool true)) (.t 20),
   none⟩, ⟨(some 22), .mv (.t 21), none⟩, ⟨(some 23), .mv (.t 0), (some (22, false))⟩, ⟨(some 24), .pcall 188 [.t 23], (some (22, false))⟩, ⟨(some 25), .un .not (.t 24),
   (some (22, false))⟩, ⟨(some 26), .pick (.t 22) (.c (.bool true)) (.t 25), none⟩]) (.seq (.keep [0, 1, 5, 26]) (.cond (.t 26) (.seq (.region 0 [⟨(some 27),
   .pcall 235 [], none⟩, ⟨(some 6), .mv (.t 27), none⟩]) (.ret)) (.skip)))) (.seq (.keep [0, 1, 5]) (.seq (.region 2 [⟨(some 28), .mv (.t 1), none⟩, ⟨(some 29), .len false
    (.t 28), none⟩, ⟨(some 30), .conv .u32 (.t 29), none⟩, ⟨(some 31), .build ([.int .i64 0, .int .i64 0, .int .i64 0, .int .u32 0]) [(0, 1, .c (.int .i64 5)), (3, 1,
   .t 30)], none⟩, ⟨(some 32), .bslice 1 ([.int .i64 0, .int .i64 0, .int .i64 0, .int .u32 0]) [(0, .t 31)], none⟩, ⟨(some 33), .mv (.t 1), none⟩, ⟨(some 34), .app 0 4 32
    (.t 32) (.t 33), none⟩, ⟨(some 35), .mv (.t 0), none⟩, ⟨(some 36), .app 1 4 32 (.t 34) (.t 35), none⟩, ⟨(some 7), .mv (.t 36), none⟩]) (.seq (.keep [0, 5, 7]) (.seq
    (.seq (.region 0 [⟨(some 37), .mv (.t 7), none⟩, ⟨(some 38), .pcall 188 [.t 37], none⟩, ⟨(some 39), .un .not (.t 38), none⟩]) (.cond (.t 39) (.seq
    (.region 0 [⟨(some 40), .pcall 235 [], none⟩, ⟨(some 6), .mv (.t 40), none⟩]) (.ret)) (.skip))) (.seq (.keep [0, 5, 7]) (.seq (.region 0 [⟨(some 42), .mv (.t 0),
   none⟩, ⟨(some 43), .load 9 true false (.t 5), none⟩, ⟨(some 44), .pcall 230 [.t 42, .t 43], none⟩, ⟨(some 41), .mv (.t 44), none⟩, ⟨(some 45), .ext 0 (.t 41), none⟩,
   ⟨(some 46), .ext 1 (.t 41), none⟩, ⟨(some 47), .ext 2 (.t 41), none⟩, ⟨(some 8), .mv (.t 45), none⟩, ⟨(some 9), .mv (.t 46), none⟩, ⟨(some 10), .mv (.t 47), none⟩])
    (.seq (.keep [5, 7, 8, 9, 10]) (.seq (.region 0 [⟨(some 49), .mv (.t 7), none⟩, ⟨(some 50), .load 9 true false (.t 5), none⟩, ⟨(some 51), .pcall 230 [.t 49, .t 50],
   none⟩, ⟨(some 48), .mv (.t 51), none⟩, ⟨(some 52), .ext 0 (.t 48), none⟩, ⟨(some 53), .ext 1 (.t 48), none⟩, ⟨(some 54), .ext 2 (.t 48), none⟩, ⟨(some 11), .mv
    (.t 52), none⟩, ⟨(some 12), .mv (.t 53), none⟩, ⟨(some 13), .mv (.t 54), none⟩]) (.seq (.keep [8, 9, 10, 11, 12, 13]) (.seq (.region 0 [⟨(some 55), .mv (.t 8), none⟩,
   ⟨(some 56), .mv (.t 11), none⟩, ⟨(some 57), .bin .eql (.t 55) (.t 56), none⟩, ⟨(some 58), .mv (.t 57), none⟩, ⟨(some 59), .mv (.t 12), (some (58, true))⟩, ⟨(some 60),
   .mv (.t 9), (some (58, true))⟩, ⟨(some 61), .bin .add (.t 60) (.c (.int .i64 1)), (some (58, true))⟩, ⟨(some 62), .bin .eql (.t 59) (.t 61), (some (58, true))⟩,
   ⟨(some 63), .pick (.t 58) (.t 62) (.c (.bool false)), none⟩, ⟨(some 64), .mv (.t 63), none⟩, ⟨(some 65), .mv (.t 10), (some (64, true))⟩, ⟨(some 66), .bin .eql (.t 65)
    (.c (.int .i64 0)), (some (64, true))⟩, ⟨(some 67), .pick (.t 64) (.t 66) (.c (.bool false)), none⟩, ⟨(some 68), .mv (.t 67), none⟩, ⟨(some 69), .mv (.t 13), (some
    (68, true))⟩, ⟨(some 70), .bin .eql (.t 69) (.c (.int .i64 0)), (some (68, true))⟩, ⟨(some 71), .pick (.t 68) (.t 70) (.c (.bool false)), none⟩, ⟨(some 72), .mv
    (.t 71), none⟩, ⟨(some 73), .pcall 235 [], (some (72, true))⟩, ⟨(some 74), .pick (.t 72) (.t 73) (.c (.bool false)), none⟩, ⟨(some 6), .mv (.t 74), none⟩])
    (.ret)))))))))))),
  [.tmp 6]⟩

/-- hurdle/hurdlelaw06.RunFlips -/
def c_hurdlelaw06_RunFlips : SFn := ⟨76,
  .seq (.region 1 [⟨(some 2), .box 0 (.t 0), none⟩, ⟨(some 4), .mv (.c (.bool false)), none⟩]) (.seq (.region 0 [⟨(some 10), .load 18 true false (.t 2), none⟩, ⟨(some 11),
   .mv (.t 1), none⟩, ⟨(some 12), .build ([.int .i64 0, .int .i64 0, .int .i64 0, .int .u32 0]) [(0, 1, .c (.int .i64 21)), (3, 1, .t 11)], none⟩, ⟨(some 13),
   .pcall 165 [.t 10, .t 12], none⟩, ⟨(some 5), .mv (.t 13), none⟩]) (.seq (.keep [1, 2, 5]) (.seq (.region 0 [⟨(some 14), .load 18 true false (.t 2), none⟩, ⟨(some 15),
   .mv (.t 1), none⟩, ⟨(some 16), .build ([.int .i64 0, .int .i64 0, .int .i64 0, .int .u32 0]) [(0, 1, .c (.int .i64 37)), (3, 1, .t 15)], none⟩, ⟨(some 17),
   .pcall 165 [.t 14, .t 16], none⟩, ⟨(some 6), .mv (.t 17), none⟩]) (.seq (.keep [1, 2, 5, 6]) (.seq (.region 0 [⟨(some 18), .load 18 true false (.t 2), none⟩,
   ⟨(some 19), .mv (.t 1), none⟩, ⟨(some 20), .build ([.int .i64 0, .int .i64 0, .int .i64 0, .int .u32 0]) [(0, 1, .c (.int .i64 53)), (3, 1, .t 19)], none⟩, ⟨(some 21),
   .pcall 165 [.t 18, .t 20], none⟩, ⟨(some 7), .mv (.t 21), none⟩]) (.seq (.keep [1, 2, 5, 6, 7]) (.seq (.region 0 [⟨(some 22), .mv (.t 1), none⟩, ⟨(some 23), .faddr 1
    (.t 2), none⟩, ⟨none, .store 1 (.t 23) (.t 22), none⟩]) (.seq (.region 0 [⟨(some 25), .faddr 0 (.t 2), none⟩, ⟨(some 26), .load 1 false false (.t 25), none⟩,
   ⟨(some 27), .mv (.t 1), none⟩, ⟨(some 28), .pcall 122 [.c (.int .i64 84), .t 26, .t 27], none⟩, ⟨(some 24), .mv (.t 28), none⟩, ⟨(some 29), .ext 0 (.t 24), none⟩,
   ⟨(some 30), .ext 1 (.t 24), none⟩, ⟨(some 8), .mv (.t 29), none⟩, ⟨(some 9), .mv (.t 30), none⟩]) (.seq (.keep [2, 5, 6, 7, 8]) (.seq (.region 0 [⟨(some 31), .mv
    (.t 7), none⟩, ⟨(some 32), .mv (.t 6), none⟩, ⟨(some 33), .mv (.t 32), none⟩, ⟨(some 34), .mv (.t 5), (some (33, false))⟩, ⟨(some 35), .pick (.t 33) (.c (.bool true))
    (.t 34), none⟩, ⟨(some 36), .beq false (.t 31) (.t 35), none⟩, ⟨(some 37), .mv (.t 36), none⟩, ⟨(some 38), .mv (.t 6), (some (37, true))⟩, ⟨(some 39), .mv (.t 38),
   (some (37, true))⟩, ⟨(some 40), .mv (.t 5), (some (39, true))⟩, ⟨(some 41), .pick (.t 39) (.t 40) (.c (.bool false)), (some (37, true))⟩, ⟨(some 42), .un .not (.t 41),
   (some (37, true))⟩, ⟨(some 43), .pick (.t 37) (.t 42) (.c (.bool false)), none⟩, ⟨(some 44), .mv (.t 43), none⟩, ⟨(some 45), .load 18 true false (.t 2), (some (44,
   true))⟩, ⟨(some 46), .build ([.int .i64 0, .int .i64 0, .int .i64 0, .int .u32 0]) [(0, 1, .c (.int .i64 29))], (some (44, true))⟩, ⟨(some 47), .pcall 165 [.t 45,
   .t 46], (some (44, true))⟩, ⟨(some 48), .mv (.t 5), (some (44, true))⟩, ⟨(some 49), .beq false (.t 47) (.t 48), (some (44, true))⟩, ⟨(some 50), .pick (.t 44) (.t 49)
    (.c (.bool false)), none⟩, ⟨(some 51), .mv (.t 50), none⟩, ⟨(some 52), .load 18 true false (.t 2), (some (51, true))⟩, ⟨(some 53), .build ([.int .i64 0, .int .i64 0,
   .int .i64 0, .int .u32 0]) [(0, 1, .c (.int .i64 45))], (some (51, true))⟩, ⟨(some 54), .pcall 165 [.t 52, .t 53], (some (51, true))⟩, ⟨(some 55), .mv (.t 6), (some
    (51, true))⟩, ⟨(some 56), .beq false (.t 54) (.t 55), (some (51, true))⟩, ⟨(some 57), .pick (.t 51) (.t 56) (.c (.bool false)), none⟩, ⟨(some 58), .mv (.t 57), none⟩,
   ⟨(some 59), .load 18 true false (.t 2), (some (58, true))⟩, ⟨(some 60), .build ([.int .i64 0, .int .i64 0, .int .i64 0, .int .u32 0]) [(0, 1, .c (.int .i64 61))], (some
    (58, true))⟩, ⟨(some 61), .pcall 165 [.t 59, .t 60], (some (58, true))⟩, ⟨(some 62), .mv (.t 7), (some (58, true))⟩, ⟨(some 63), .beq false (.t 61) (.t 62), (some
    (58, true))⟩, ⟨(some 64), .pick (.t 58) (.t 63) (.c (.bool false)), none⟩, ⟨(some 65), .mv (.t 64), none⟩, ⟨(some 66), .load 18 true false (.t 2), (some (65, true))⟩,
   ⟨(some 67), .build ([.int .i64 0, .int .i64 0, .int .i64 0, .int .u32 0]) [(0, 1, .c (.int .i64 77))], (some (65, true))⟩, ⟨(some 68), .pcall 165 [.t 66, .t 67], (some
    (65, true))⟩, ⟨(some 69), .mv (.t 8), (some (65, true))⟩, ⟨(some 70), .bin .neq (.t 69) (.c (.int .u32 0)), (some (65, true))⟩, ⟨(some 71), .beq false (.t 68)
    (.t 70), (some (65, true))⟩, ⟨(some 72), .pick (.t 65) (.t 71) (.c (.bool false)), none⟩, ⟨(some 73), .mv (.t 72), none⟩, ⟨(some 74), .pcall 235 [], (some (73,
   true))⟩, ⟨(some 75), .pick (.t 73) (.t 74) (.c (.bool false)), none⟩, ⟨(some 4), .mv (.t 75), none⟩]) (.ret))))))))))),
  [.tmp 4]⟩

/-- A table that holds these. -/
class HasL6 (G : Tbl) : Prop where
  h_hurdlelaw06_knows : G 235 = some c_hurdlelaw06_knows
  h_hurdlelaw06_RunSteps : G 236 = some c_hurdlelaw06_RunSteps
  h_hurdlelaw06_RunRuns : G 237 = some c_hurdlelaw06_RunRuns
  h_hurdlelaw06_RunEnds : G 238 = some c_hurdlelaw06_RunEnds
  h_hurdlelaw06_RunLoads : G 239 = some c_hurdlelaw06_RunLoads
  h_hurdlelaw06_RunBehind : G 240 = some c_hurdlelaw06_RunBehind
  h_hurdlelaw06_RunJumps : G 241 = some c_hurdlelaw06_RunJumps
  h_hurdlelaw06_RunFlips : G 242 = some c_hurdlelaw06_RunFlips

end Go.Ev
