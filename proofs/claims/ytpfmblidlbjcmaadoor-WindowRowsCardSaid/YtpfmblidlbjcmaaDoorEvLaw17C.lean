/- Simplified code of Go functions, by scode.py. -/
import Derived.Test.YtpfmblidlbjcmaaDoorEvWinC
namespace Go.Ev

/-- hurdle/hurdlelaw17.knows -/
def c_hurdlelaw17_knows : SFn := ⟨77,
  .seq (.region 0 [⟨(some 0), .mv (.c (.bool false)), none⟩]) (.seq (.region 0 [⟨(some 10), .pcall 148 [.c (.str [116, 97, 120, 10, 108, 100, 32, 48, 120, 53, 10, 97, 100,
   100, 120, 10])], none⟩, ⟨(some 9), .mv (.t 10), none⟩, ⟨(some 11), .ext 0 (.t 9), none⟩, ⟨(some 12), .ext 1 (.t 9), none⟩, ⟨(some 13), .ext 2 (.t 9), none⟩, ⟨(some 1),
   .mv (.t 11), none⟩, ⟨(some 2), .mv (.t 12), none⟩, ⟨(some 3), .mv (.t 13), none⟩]) (.seq (.keep [1, 3]) (.seq (.region 0 [⟨(some 14), .kcall false 256 [], none⟩,
   ⟨(some 4), .mv (.t 14), none⟩]) (.seq (.give 14 (some 0)) (.seq (.region 1 [⟨(some 16), .mv (.t 4), none⟩, ⟨(some 17), .mv (.t 1), none⟩, ⟨(some 18), .scall 296 [.t 16,
   .t 17], none⟩, ⟨(some 15), .mv (.t 18), none⟩, ⟨(some 19), .ext 0 (.t 15), none⟩, ⟨(some 20), .ext 1 (.t 15), none⟩, ⟨(some 5), .alloc 0 ([.int .i64 0, .int .i64 0,
   .int .i64 0, .int .i64 0, .int .i64 0, .int .i64 0, .int .i64 0, .int .i64 0, .int .i64 0, .int .i64 0, .int .i64 0, .int .i64 0, .int .i64 0, .int .i64 0, .int .i64 0,
   .int .i64 0, .int .i64 0, .int .i64 0, .vs [] .full]), none⟩, ⟨none, .store 19 (.t 5) (.t 19), none⟩, ⟨(some 6), .mv (.t 20), none⟩]) (.seq (.keep [1, 3, 4, 5, 6])
    (.seq (.region 1 [⟨(some 22), .mv (.t 1), none⟩, ⟨(some 23), .build (rep 18 (.int .u32 0)) [(0, 1, .c (.int .u32 4))], none⟩, ⟨(some 24), .build ([.int .u32 0,
   .int .u32 0, .int .u64 0, .int .u64 0, .int .u64 0, .int .u64 0, .int .u64 0, .int .u64 0, .int .u64 0]) [], none⟩, ⟨(some 25), .pcall 292 [.t 22, .t 23, .t 24], none⟩,
   ⟨(some 21), .mv (.t 25), none⟩, ⟨(some 26), .ext 0 (.t 21), none⟩, ⟨(some 27), .ext 1 (.t 21), none⟩, ⟨(some 7), .alloc 0 (rep 18 (.int .u32 0)), none⟩, ⟨none,
   .store 18 (.t 7) (.t 26), none⟩, ⟨(some 8), .mv (.t 27), none⟩]) (.seq (.keep [1, 3, 4, 5, 6, 7, 8]) (.seq (.region 0 [⟨(some 28), .mv (.t 3), none⟩, ⟨(some 29),
   .bin .eql (.t 28) (.c (.int .i64 0)), none⟩, ⟨(some 30), .mv (.t 29), none⟩, ⟨(some 31), .mv (.t 6), (some (30, true))⟩, ⟨(some 32), .pick (.t 30) (.t 31) (.c
    (.bool false)), none⟩, ⟨(some 33), .mv (.t 32), none⟩, ⟨(some 34), .faddr 0 (.t 5), (some (33, true))⟩, ⟨(some 35), .iaddrA 18 1 (.t 34) (.c (.int .i64 1)), (some
    (33, true))⟩, ⟨(some 36), .loadR 1 false 5 (.t 35), (some (33, true))⟩, ⟨(some 37), .mv (.t 4), (some (33, true))⟩, ⟨(some 38), .scallA [5, 7] 263 [.t 37, .c
    (.int .i64 0)], (some (33, true))⟩, ⟨(some 39), .bin .eql (.t 36) (.t 38), (some (33, true))⟩, ⟨(some 40), .pick (.t 33) (.t 39) (.c (.bool false)), none⟩, ⟨(some 41),
   .mv (.t 40), none⟩, ⟨(some 42), .faddr 0 (.t 5), (some (41, true))⟩, ⟨(some 43), .iaddrA 18 1 (.t 42) (.c (.int .i64 0)), (some (41, true))⟩, ⟨(some 44),
   .loadR 1 false 5 (.t 43), (some (41, true))⟩, ⟨(some 45), .mv (.t 4), (some (41, true))⟩, ⟨(some 46), .mv (.t 4), (some (41, true))⟩, ⟨(some 47), .scallA [5,
   7] 263 [.t 46, .c (.int .i64 0)], (some (41, true))⟩, ⟨(some 48), .mv (.t 4), (some (41, true))⟩, ⟨(some 49), .scallA [5, 7] 262 [.t 48, .c (.int .u32 5)], (some (41,
   true))⟩, ⟨(some 50), .scallA [5, 7] 274 [.t 45, .c (.int .i64 4), .t 47, .t 49], (some (41, true))⟩, ⟨(some 51), .bin .eql (.t 44) (.t 50), (some (41, true))⟩,
   ⟨(some 52), .pick (.t 41) (.t 51) (.c (.bool false)), none⟩, ⟨(some 53), .mv (.t 52), none⟩, ⟨(some 54), .faddr 18 (.t 5), (some (53, true))⟩, ⟨(some 55),
   .loadR 1 false 5 (.t 54), (some (53, true))⟩, ⟨(some 56), .len false (.t 55), (some (53, true))⟩, ⟨(some 57), .bin .eql (.t 56) (.c (.int .i64 0)), (some (53, true))⟩,
   ⟨(some 58), .pick (.t 53) (.t 57) (.c (.bool false)), none⟩, ⟨(some 59), .mv (.t 58), none⟩, ⟨(some 60), .faddr 0 (.t 7), (some (59, true))⟩, ⟨(some 61),
   .loadR 1 false 7 (.t 60), (some (59, true))⟩, ⟨(some 62), .bin .eql (.t 61) (.c (.int .u32 9)), (some (59, true))⟩, ⟨(some 63), .pick (.t 59) (.t 62) (.c
    (.bool false)), none⟩, ⟨(some 64), .mv (.t 63), none⟩, ⟨(some 65), .faddr 1 (.t 7), (some (64, true))⟩, ⟨(some 66), .loadR 1 false 7 (.t 65), (some (64, true))⟩,
   ⟨(some 67), .bin .eql (.t 66) (.c (.int .u32 4)), (some (64, true))⟩, ⟨(some 68), .pick (.t 64) (.t 67) (.c (.bool false)), none⟩, ⟨(some 69), .mv (.t 68), none⟩,
   ⟨(some 70), .mv (.t 8), (some (69, true))⟩, ⟨(some 71), .bin .eql (.t 70) (.c (.int .i64 3)), (some (69, true))⟩, ⟨(some 72), .pick (.t 69) (.t 71) (.c (.bool false)),
   none⟩, ⟨(some 73), .mv (.t 72), none⟩, ⟨(some 74), .mv (.t 1), (some (73, true))⟩, ⟨(some 75), .pcall 202 [.t 74], (some (73, true))⟩, ⟨(some 76), .pick (.t 73)
    (.t 75) (.c (.bool false)), none⟩, ⟨(some 0), .mv (.t 76), none⟩]) (.ret)))))))))),
  [.tmp 0]⟩

/-- hurdle/hurdlelaw17.great -/
def c_hurdlelaw17_great : SFn := ⟨6,
  .seq (.region 0 [⟨(some 2), .mv (.c (.bool false)), none⟩]) (.seq (.region 0 [⟨(some 3), .mv (.t 0), none⟩, ⟨(some 4), .len false (.t 3), none⟩, ⟨(some 5), .bin .gtr
    (.t 4) (.c (.int .i64 100)), none⟩, ⟨(some 2), .mv (.t 5), none⟩]) (.ret)),
  [.tmp 2]⟩

/-- hurdle/hurdlelaw17.WindowRuns -/
def c_hurdlelaw17_WindowRuns : SFn := ⟨57,
  .seq (.region 2 [⟨(some 4), .box 0 (.t 1), none⟩, ⟨(some 5), .box 1 (.t 2), none⟩, ⟨(some 6), .mv (.c (.bool false)), none⟩]) (.seq (.seq (.region 0 [⟨(some 11), .mv
    (.t 0), none⟩, ⟨(some 12), .pcall 300 [.t 11], none⟩]) (.cond (.t 12) (.seq (.region 0 [⟨(some 13), .pcall 299 [], none⟩, ⟨(some 6), .mv (.t 13), none⟩]) (.ret))
    (.skip))) (.seq (.keep [0, 4, 5]) (.seq (.region 1 [⟨(some 15), .mv (.t 0), none⟩, ⟨(some 16), .load 18 true false (.t 4), none⟩, ⟨(some 17), .load 9 true false
    (.t 5), none⟩, ⟨(some 18), .pcall 292 [.t 15, .t 16, .t 17], none⟩, ⟨(some 14), .mv (.t 18), none⟩, ⟨(some 19), .ext 0 (.t 14), none⟩, ⟨(some 20), .ext 1 (.t 14),
   none⟩, ⟨(some 7), .alloc 0 (rep 18 (.int .u32 0)), none⟩, ⟨none, .store 18 (.t 7) (.t 19), none⟩, ⟨(some 8), .mv (.t 20), none⟩]) (.seq (.keep [0, 4, 5, 7, 8]) (.seq
    (.seq (.region 0 [⟨(some 21), .mv (.t 0), none⟩, ⟨(some 22), .pcall 202 [.t 21], none⟩, ⟨(some 23), .mv (.t 0), none⟩, ⟨(some 24), .pcall 203 [.t 23], none⟩,
   ⟨(some 25), .beq true (.t 22) (.t 24), none⟩]) (.seq (.keep [0, 4, 5, 7, 8, 25]) (.cond (.t 25) (.seq (.region 0 [⟨(some 6), .mv (.c (.bool false)), none⟩]) (.ret))
    (.skip)))) (.seq (.keep [0, 4, 5, 7, 8]) (.seq (.seq (.region 0 [⟨(some 26), .mv (.t 0), none⟩, ⟨(some 27), .pcall 203 [.t 26], none⟩, ⟨(some 28), .un .not (.t 27),
   none⟩]) (.cond (.t 28) (.seq (.region 0 [⟨(some 29), .load 18 true false (.t 7), none⟩, ⟨(some 30), .load 18 true false (.t 4), none⟩, ⟨(some 31), .aeq
    (List.replicate 18 .int) false (.t 29) (.t 30), none⟩, ⟨(some 32), .mv (.t 31), none⟩, ⟨(some 33), .mv (.t 8), (some (32, true))⟩, ⟨(some 34), .bin .eql (.t 33) (.c
    (.int .i64 0)), (some (32, true))⟩, ⟨(some 35), .pick (.t 32) (.t 34) (.c (.bool false)), none⟩, ⟨(some 36), .mv (.t 35), none⟩, ⟨(some 37), .pcall 299 [], (some (36,
   true))⟩, ⟨(some 38), .pick (.t 36) (.t 37) (.c (.bool false)), none⟩, ⟨(some 6), .mv (.t 38), none⟩]) (.ret)) (.skip))) (.seq (.keep [0, 4, 5, 7, 8]) (.seq
    (.region 1 [⟨(some 40), .mv (.t 0), none⟩, ⟨(some 41), .load 18 true false (.t 4), none⟩, ⟨(some 42), .load 9 true false (.t 5), none⟩, ⟨(some 43), .pcall 297 [.t 40,
   .t 41, .t 42], none⟩, ⟨(some 39), .mv (.t 43), none⟩, ⟨(some 44), .ext 0 (.t 39), none⟩, ⟨(some 45), .ext 1 (.t 39), none⟩, ⟨(some 9), .alloc 0 (rep 18 (.int .u32 0)),
   none⟩, ⟨none, .store 18 (.t 9) (.t 44), none⟩, ⟨(some 10), .mv (.t 45), none⟩]) (.seq (.keep [7, 8, 9, 10]) (.seq (.region 0 [⟨(some 46), .load 18 true false (.t 7),
   none⟩, ⟨(some 47), .load 18 true false (.t 9), none⟩, ⟨(some 48), .aeq (List.replicate 18 .int) false (.t 46) (.t 47), none⟩, ⟨(some 49), .mv (.t 48), none⟩,
   ⟨(some 50), .mv (.t 8), (some (49, true))⟩, ⟨(some 51), .mv (.t 10), (some (49, true))⟩, ⟨(some 52), .bin .eql (.t 50) (.t 51), (some (49, true))⟩, ⟨(some 53), .pick
    (.t 49) (.t 52) (.c (.bool false)), none⟩, ⟨(some 54), .mv (.t 53), none⟩, ⟨(some 55), .pcall 299 [], (some (54, true))⟩, ⟨(some 56), .pick (.t 54) (.t 55) (.c
    (.bool false)), none⟩, ⟨(some 6), .mv (.t 56), none⟩]) (.ret)))))))))))),
  [.tmp 6]⟩

/-- hurdle/hurdlelaw17.WindowAssigns -/
def c_hurdlelaw17_WindowAssigns : SFn := ⟨60,
  .seq (.region 3 [⟨(some 3), .box 0 (.t 0), none⟩, ⟨(some 4), .box 1 (.t 1), none⟩, ⟨(some 5), .box 2 (.t 2), none⟩, ⟨(some 6), .mv (.c (.bool false)), none⟩]) (.seq
    (.region 1 [⟨(some 14), .load 18 true false (.t 3), none⟩, ⟨(some 15), .load 9 true false (.t 4), none⟩, ⟨(some 16), .pcall 293 [.t 14, .t 15], none⟩, ⟨(some 7),
   .alloc 0 (rep 34 (.int .u32 0)), none⟩, ⟨none, .store 34 (.t 7) (.t 16), none⟩]) (.seq (.keep [3, 4, 5, 7]) (.seq (.region 0 [⟨(some 17), .load 18 true false (.t 3),
   none⟩, ⟨(some 18), .load 9 true false (.t 4), none⟩, ⟨(some 19), .pcall 298 [.t 17, .t 18], none⟩, ⟨(some 8), .mv (.t 19), none⟩]) (.seq (.keep [3, 4, 5, 7, 8]) (.seq
    (.seq (.region 0 [⟨(some 9), .mv (.c (.int .i64 0)), none⟩]) (.block 0 (.loop [3, 4, 5, 7, 8, 9] (.seq (.seq (.region 0 [⟨(some 20), .mv (.t 9), none⟩, ⟨(some 21),
   .bin .lss (.t 20) (.c (.int .i64 34)), none⟩]) (.cond (.t 21) (.skip) (.exit 0))) (.seq (.block 1 (.seq (.region 0 [⟨(some 24), .mv (.t 9), none⟩, ⟨(some 25),
   .iaddrA 34 1 (.t 7) (.t 24), none⟩, ⟨(some 26), .load 1 false true (.t 25), none⟩, ⟨(some 27), .mv (.t 8), none⟩, ⟨(some 28), .mv (.t 9), none⟩, ⟨(some 29), .iaddr 1
    (.t 27) (.t 28), none⟩, ⟨(some 30), .load 1 false true (.t 29), none⟩, ⟨(some 31), .bin .neq (.t 26) (.t 30), none⟩]) (.seq (.keep [3, 4, 5, 7, 8, 9, 31]) (.cond
    (.t 31) (.seq (.region 0 [⟨(some 6), .mv (.c (.bool false)), none⟩]) (.ret)) (.skip))))) (.seq (.keep [3, 4, 5, 7, 8, 9]) (.region 0 [⟨(some 22), .mv (.t 9), none⟩,
   ⟨(some 23), .bin .add (.t 22) (.c (.int .i64 1)), none⟩, ⟨(some 9), .mv (.t 23), none⟩]))))))) (.seq (.keep [3, 4, 5, 7]) (.seq (.region 2 [⟨(some 33),
   .load 34 true false (.t 7), none⟩, ⟨(some 34), .pcall 294 [.t 33], none⟩, ⟨(some 32), .mv (.t 34), none⟩, ⟨(some 35), .ext 0 (.t 32), none⟩, ⟨(some 36), .ext 1
    (.t 32), none⟩, ⟨(some 10), .alloc 0 (rep 18 (.int .u32 0)), none⟩, ⟨(some 11), .alloc 1 ([.int .u32 0, .int .u32 0, .int .u64 0, .int .u64 0, .int .u64 0,
   .int .u64 0, .int .u64 0, .int .u64 0, .int .u64 0]), none⟩, ⟨none, .store 18 (.t 10) (.t 35), none⟩, ⟨none, .store 9 (.t 11) (.t 36), none⟩]) (.seq (.keep [3, 4, 5,
   10, 11]) (.seq (.region 2 [⟨(some 38), .load 34 true false (.t 5), none⟩, ⟨(some 39), .pcall 294 [.t 38], none⟩, ⟨(some 37), .mv (.t 39), none⟩, ⟨(some 40), .ext 0
    (.t 37), none⟩, ⟨(some 41), .ext 1 (.t 37), none⟩, ⟨(some 12), .alloc 0 (rep 18 (.int .u32 0)), none⟩, ⟨(some 13), .alloc 1 ([.int .u32 0, .int .u32 0, .int .u64 0,
   .int .u64 0, .int .u64 0, .int .u64 0, .int .u64 0, .int .u64 0, .int .u64 0]), none⟩, ⟨none, .store 18 (.t 12) (.t 40), none⟩, ⟨none, .store 9 (.t 13) (.t 41), none⟩])
    (.seq (.keep [3, 4, 5, 10, 11, 12, 13]) (.seq (.region 0 [⟨(some 42), .load 18 true true (.t 10), none⟩, ⟨(some 43), .load 18 true true (.t 3), none⟩, ⟨(some 44), .aeq
    (List.replicate 18 .int) false (.t 42) (.t 43), none⟩, ⟨(some 45), .mv (.t 44), none⟩, ⟨(some 46), .load 9 true true (.t 11), (some (45, true))⟩, ⟨(some 47),
   .load 9 true true (.t 4), (some (45, true))⟩, ⟨(some 48), .aeq (List.replicate 9 .int) false (.t 46) (.t 47), (some (45, true))⟩, ⟨(some 49), .pick (.t 45) (.t 48) (.c
    (.bool false)), none⟩, ⟨(some 50), .mv (.t 49), none⟩, ⟨(some 51), .load 18 true true (.t 12), (some (50, true))⟩, ⟨(some 52), .load 9 true true (.t 13), (some (50,
   true))⟩, ⟨(some 53), .pcall 293 [.t 51, .t 52], (some (50, true))⟩, ⟨(some 54), .load 34 true true (.t 5), (some (50, true))⟩, ⟨(some 55), .aeq
    (List.replicate 34 .int) false (.t 53) (.t 54), (some (50, true))⟩, ⟨(some 56), .pick (.t 50) (.t 55) (.c (.bool false)), none⟩, ⟨(some 57), .mv (.t 56), none⟩,
   ⟨(some 58), .pcall 299 [], (some (57, true))⟩, ⟨(some 59), .pick (.t 57) (.t 58) (.c (.bool false)), none⟩, ⟨(some 6), .mv (.t 59), none⟩]) (.ret)))))))))))),
  [.tmp 6]⟩

/-- hurdle/hurdlelaw17.WindowRows -/
def c_hurdlelaw17_WindowRows : SFn := ⟨94,
  .seq (.region 2 [⟨(some 6), .box 0 (.t 2), none⟩, ⟨(some 7), .box 1 (.t 3), none⟩, ⟨(some 8), .mv (.c (.bool false)), none⟩]) (.seq (.seq (.region 0 [⟨(some 16), .mv
    (.t 0), none⟩, ⟨(some 17), .pcall 300 [.t 16], none⟩, ⟨(some 18), .mv (.t 17), none⟩, ⟨(some 19), .mv (.t 1), (some (18, false))⟩, ⟨(some 20), .pcall 300 [.t 19],
   (some (18, false))⟩, ⟨(some 21), .pick (.t 18) (.c (.bool true)) (.t 20), none⟩]) (.seq (.keep [0, 1, 6, 7, 21]) (.cond (.t 21) (.seq (.region 0 [⟨(some 22),
   .pcall 299 [], none⟩, ⟨(some 8), .mv (.t 22), none⟩]) (.ret)) (.skip)))) (.seq (.keep [0, 1, 6, 7]) (.seq (.region 2 [⟨(some 23), .bslice 0 ([.int .i64 0, .int .i64 0,
   .int .i64 0, .int .u32 0]) [], none⟩, ⟨(some 24), .mv (.t 0), none⟩, ⟨(some 25), .app 0 4 32 (.t 23) (.t 24), none⟩, ⟨(some 26), .mv (.t 1), none⟩, ⟨(some 27),
   .app 1 4 32 (.t 25) (.t 26), none⟩, ⟨(some 9), .mv (.t 27), none⟩]) (.seq (.keep [0, 1, 6, 7, 9]) (.seq (.seq (.region 0 [⟨(some 28), .mv (.t 9), none⟩, ⟨(some 29),
   .pcall 202 [.t 28], none⟩, ⟨(some 30), .un .not (.t 29), none⟩]) (.cond (.t 30) (.seq (.region 0 [⟨(some 31), .mv (.t 9), none⟩, ⟨(some 32), .pcall 203 [.t 31], none⟩,
   ⟨(some 33), .un .not (.t 32), none⟩, ⟨(some 34), .mv (.t 33), none⟩, ⟨(some 35), .pcall 299 [], (some (34, true))⟩, ⟨(some 36), .pick (.t 34) (.t 35) (.c
    (.bool false)), none⟩, ⟨(some 8), .mv (.t 36), none⟩]) (.ret)) (.skip))) (.seq (.keep [0, 1, 6, 7, 9]) (.seq (.region 1 [⟨(some 38), .mv (.t 0), none⟩, ⟨(some 39),
   .load 18 true false (.t 6), none⟩, ⟨(some 40), .load 9 true false (.t 7), none⟩, ⟨(some 41), .pcall 292 [.t 38, .t 39, .t 40], none⟩, ⟨(some 37), .mv (.t 41), none⟩,
   ⟨(some 42), .ext 0 (.t 37), none⟩, ⟨(some 43), .ext 1 (.t 37), none⟩, ⟨(some 10), .alloc 0 (rep 18 (.int .u32 0)), none⟩, ⟨none, .store 18 (.t 10) (.t 42), none⟩,
   ⟨(some 11), .mv (.t 43), none⟩]) (.seq (.keep [0, 1, 6, 7, 9, 10, 11]) (.seq (.region 1 [⟨(some 45), .mv (.t 1), none⟩, ⟨(some 46), .load 18 true false (.t 10), none⟩,
   ⟨(some 47), .load 9 true false (.t 7), none⟩, ⟨(some 48), .pcall 292 [.t 45, .t 46, .t 47], none⟩, ⟨(some 44), .mv (.t 48), none⟩, ⟨(some 49), .ext 0 (.t 44), none⟩,
   ⟨(some 50), .ext 1 (.t 44), none⟩, ⟨(some 12), .alloc 0 (rep 18 (.int .u32 0)), none⟩, ⟨none, .store 18 (.t 12) (.t 49), none⟩, ⟨(some 13), .mv (.t 50), none⟩]) (.seq
    (.keep [0, 1, 6, 7, 9, 10, 11, 12, 13]) (.seq (.region 1 [⟨(some 52), .mv (.t 9), none⟩, ⟨(some 53), .load 18 true false (.t 6), none⟩, ⟨(some 54), .load 9 true false
    (.t 7), none⟩, ⟨(some 55), .pcall 292 [.t 52, .t 53, .t 54], none⟩, ⟨(some 51), .mv (.t 55), none⟩, ⟨(some 56), .ext 0 (.t 51), none⟩, ⟨(some 57), .ext 1 (.t 51),
   none⟩, ⟨(some 14), .alloc 0 (rep 18 (.int .u32 0)), none⟩, ⟨none, .store 18 (.t 14) (.t 56), none⟩, ⟨(some 15), .mv (.t 57), none⟩]) (.seq (.keep [0, 1, 10, 11, 12, 13,
   14, 15]) (.seq (.seq (.region 0 [⟨(some 58), .mv (.t 0), none⟩, ⟨(some 59), .pcall 202 [.t 58], none⟩, ⟨(some 60), .un .not (.t 59), none⟩, ⟨(some 61), .mv (.t 60),
   none⟩, ⟨(some 62), .mv (.t 1), (some (61, false))⟩, ⟨(some 63), .pcall 202 [.t 62], (some (61, false))⟩, ⟨(some 64), .un .not (.t 63), (some (61, false))⟩, ⟨(some 65),
   .pick (.t 61) (.c (.bool true)) (.t 64), none⟩]) (.seq (.keep [0, 10, 11, 12, 13, 14, 15, 65]) (.cond (.t 65) (.seq (.region 0 [⟨(some 8), .mv (.c (.bool false)),
   none⟩]) (.ret)) (.skip)))) (.seq (.keep [0, 10, 11, 12, 13, 14, 15]) (.seq (.seq (.region 0 [⟨(some 66), .mv (.t 11), none⟩, ⟨(some 67), .mv (.t 0), none⟩, ⟨(some 68),
   .len false (.t 67), none⟩, ⟨(some 69), .bin .lss (.t 66) (.t 68), none⟩]) (.seq (.keep [10, 11, 12, 13, 14, 15, 69]) (.cond (.t 69) (.seq (.region 0 [⟨(some 70),
   .load 18 true false (.t 14), none⟩, ⟨(some 71), .load 18 true false (.t 10), none⟩, ⟨(some 72), .aeq (List.replicate 18 .int) false (.t 70) (.t 71), none⟩, ⟨(some 73),
   .mv (.t 72), none⟩, ⟨(some 74), .mv (.t 15), (some (73, true))⟩, ⟨(some 75), .mv (.t 11), (some (73, true))⟩, ⟨(some 76), .bin .eql (.t 74) (.t 75), (some (73, true))⟩,
   ⟨(some 77), .pick (.t 73) (.t 76) (.c (.bool false)), none⟩, ⟨(some 78), .mv (.t 77), none⟩, ⟨(some 79), .pcall 299 [], (some (78, true))⟩, ⟨(some 80), .pick (.t 78)
    (.t 79) (.c (.bool false)), none⟩, ⟨(some 8), .mv (.t 80), none⟩]) (.ret)) (.skip)))) (.seq (.keep [11, 12, 13, 14, 15]) (.seq (.region 0 [⟨(some 81),
   .load 18 true false (.t 14), none⟩, ⟨(some 82), .load 18 true false (.t 12), none⟩, ⟨(some 83), .aeq (List.replicate 18 .int) false (.t 81) (.t 82), none⟩, ⟨(some 84),
   .mv (.t 83), none⟩, ⟨(some 85), .mv (.t 15), (some (84, true))⟩, ⟨(some 86), .mv (.t 11), (some (84, true))⟩, ⟨(some 87), .mv (.t 13), (some (84, true))⟩, ⟨(some 88),
   .bin .add (.t 86) (.t 87), (some (84, true))⟩, ⟨(some 89), .bin .eql (.t 85) (.t 88), (some (84, true))⟩, ⟨(some 90), .pick (.t 84) (.t 89) (.c (.bool false)), none⟩,
   ⟨(some 91), .mv (.t 90), none⟩, ⟨(some 92), .pcall 299 [], (some (91, true))⟩, ⟨(some 93), .pick (.t 91) (.t 92) (.c (.bool false)), none⟩, ⟨(some 8), .mv (.t 93),
   none⟩]) (.ret)))))))))))))))))),
  [.tmp 8]⟩

/-- hurdle/hurdlelaw17.WindowNone -/
def c_hurdlelaw17_WindowNone : SFn := ⟨54,
  .seq (.region 2 [⟨(some 4), .box 0 (.t 1), none⟩, ⟨(some 5), .box 1 (.t 2), none⟩, ⟨(some 6), .mv (.c (.bool false)), none⟩]) (.seq (.seq (.region 0 [⟨(some 11), .mv
    (.t 0), none⟩, ⟨(some 12), .pcall 300 [.t 11], none⟩]) (.cond (.t 12) (.seq (.region 0 [⟨(some 13), .pcall 299 [], none⟩, ⟨(some 6), .mv (.t 13), none⟩]) (.ret))
    (.skip))) (.seq (.keep [0, 4, 5]) (.seq (.region 1 [⟨(some 15), .load 18 true false (.t 4), none⟩, ⟨(some 16), .load 9 true false (.t 5), none⟩, ⟨(some 17),
   .pcall 292 [.c (.vs [] .full), .t 15, .t 16], none⟩, ⟨(some 14), .mv (.t 17), none⟩, ⟨(some 18), .ext 0 (.t 14), none⟩, ⟨(some 19), .ext 1 (.t 14), none⟩, ⟨(some 7),
   .alloc 0 (rep 18 (.int .u32 0)), none⟩, ⟨none, .store 18 (.t 7) (.t 18), none⟩, ⟨(some 8), .mv (.t 19), none⟩]) (.seq (.keep [0, 4, 7, 8]) (.seq
    (.region 1 [⟨(some 21), .mv (.t 0), none⟩, ⟨(some 22), .scall 296 [.c (.nilp), .t 21], none⟩, ⟨(some 20), .mv (.t 22), none⟩, ⟨(some 23), .ext 0 (.t 20), none⟩,
   ⟨(some 24), .ext 1 (.t 20), none⟩, ⟨(some 9), .alloc 0 ([.int .i64 0, .int .i64 0, .int .i64 0, .int .i64 0, .int .i64 0, .int .i64 0, .int .i64 0, .int .i64 0,
   .int .i64 0, .int .i64 0, .int .i64 0, .int .i64 0, .int .i64 0, .int .i64 0, .int .i64 0, .int .i64 0, .int .i64 0, .int .i64 0, .vs [] .full]), none⟩, ⟨none,
   .store 19 (.t 9) (.t 23), none⟩, ⟨(some 10), .mv (.t 24), none⟩]) (.seq (.keep [4, 7, 8, 9, 10]) (.seq (.region 0 [⟨(some 25), .pcall 202 [.c (.vs [] .full)], none⟩,
   ⟨(some 26), .mv (.t 25), none⟩, ⟨(some 27), .load 18 true false (.t 7), (some (26, true))⟩, ⟨(some 28), .load 18 true false (.t 4), (some (26, true))⟩, ⟨(some 29), .aeq
    (List.replicate 18 .int) false (.t 27) (.t 28), (some (26, true))⟩, ⟨(some 30), .pick (.t 26) (.t 29) (.c (.bool false)), none⟩, ⟨(some 31), .mv (.t 30), none⟩,
   ⟨(some 32), .mv (.t 8), (some (31, true))⟩, ⟨(some 33), .bin .eql (.t 32) (.c (.int .i64 0)), (some (31, true))⟩, ⟨(some 34), .pick (.t 31) (.t 33) (.c (.bool false)),
   none⟩, ⟨(some 35), .mv (.t 34), none⟩, ⟨(some 36), .mv (.t 10), (some (35, true))⟩, ⟨(some 37), .un .not (.t 36), (some (35, true))⟩, ⟨(some 38), .pick (.t 35) (.t 37)
    (.c (.bool false)), none⟩, ⟨(some 39), .mv (.t 38), none⟩, ⟨(some 40), .faddr 18 (.t 9), (some (39, true))⟩, ⟨(some 41), .load 1 false false (.t 40), (some (39,
   true))⟩, ⟨(some 42), .len false (.t 41), (some (39, true))⟩, ⟨(some 43), .bin .eql (.t 42) (.c (.int .i64 0)), (some (39, true))⟩, ⟨(some 44), .pick (.t 39) (.t 43)
    (.c (.bool false)), none⟩, ⟨(some 45), .mv (.t 44), none⟩, ⟨(some 46), .faddr 0 (.t 9), (some (45, true))⟩, ⟨(some 47), .iaddrA 18 1 (.t 46) (.c (.int .i64 0)), (some
    (45, true))⟩, ⟨(some 48), .load 1 false false (.t 47), (some (45, true))⟩, ⟨(some 49), .bin .eql (.t 48) (.c (.int .i64 0)), (some (45, true))⟩, ⟨(some 50), .pick
    (.t 45) (.t 49) (.c (.bool false)), none⟩, ⟨(some 51), .mv (.t 50), none⟩, ⟨(some 52), .pcall 299 [], (some (51, true))⟩, ⟨(some 53), .pick (.t 51) (.t 52) (.c
    (.bool false)), none⟩, ⟨(some 6), .mv (.t 53), none⟩]) (.ret)))))))),
  [.tmp 6]⟩

/-- A table that holds these. -/
class HasL17 (G : Tbl) : Prop where
  h_hurdlelaw17_knows : G 299 = some c_hurdlelaw17_knows
  h_hurdlelaw17_great : G 300 = some c_hurdlelaw17_great
  h_hurdlelaw17_WindowRuns : G 301 = some c_hurdlelaw17_WindowRuns
  h_hurdlelaw17_WindowAssigns : G 302 = some c_hurdlelaw17_WindowAssigns
  h_hurdlelaw17_WindowRows : G 303 = some c_hurdlelaw17_WindowRows
  h_hurdlelaw17_WindowNone : G 304 = some c_hurdlelaw17_WindowNone

end Go.Ev
