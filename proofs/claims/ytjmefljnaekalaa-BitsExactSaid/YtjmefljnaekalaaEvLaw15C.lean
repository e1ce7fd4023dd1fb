/- Simplified code of Go functions, by scode.py. -/
import Derived.Test.YtjmefljnaekalaaEvW
namespace Go.Ev

/-- hurdle/hurdlelaw15.great -/
def c_hurdlelaw15_great : SFn := ⟨13,
  .seq (.region 1 [⟨(some 1), .box 0 (.t 0), none⟩, ⟨(some 2), .mv (.c (.bool false)), none⟩]) (.seq (.region 0 [⟨(some 3), .faddr 0 (.t 1), none⟩, ⟨(some 4),
   .load 1 false false (.t 3), none⟩, ⟨(some 5), .len false (.t 4), none⟩, ⟨(some 6), .bin .gtr (.t 5) (.c (.int .i64 50)), none⟩, ⟨(some 7), .mv (.t 6), none⟩, ⟨(some 8),
   .faddr 1 (.t 1), (some (7, false))⟩, ⟨(some 9), .load 1 false false (.t 8), (some (7, false))⟩, ⟨(some 10), .len false (.t 9), (some (7, false))⟩, ⟨(some 11), .bin .gtr
    (.t 10) (.c (.int .i64 100)), (some (7, false))⟩, ⟨(some 12), .pick (.t 7) (.c (.bool true)) (.t 11), none⟩, ⟨(some 2), .mv (.t 12), none⟩]) (.ret)),
  [.tmp 2]⟩

/-- hurdle/hurdlelaw15.As -/
def c_hurdlelaw15_As : SFn := ⟨8,
  .seq (.region 2 [⟨(some 1), .box 0 (.t 0), none⟩, ⟨(some 2), .alloc 1 ([.vs [] .full, .vs [] .full]), none⟩]) (.seq (.region 0 [⟨(some 3), .faddr 0 (.t 1), none⟩,
   ⟨(some 4), .load 1 false false (.t 3), none⟩, ⟨(some 5), .faddr 1 (.t 1), none⟩, ⟨(some 6), .load 1 false false (.t 5), none⟩, ⟨(some 7), .build ([.vs [] .full,
   .vs [] .full]) [(0, 1, .t 4), (1, 1, .t 6)], none⟩, ⟨none, .store 2 (.t 2) (.t 7), none⟩]) (.ret)),
  [.cell 2 2 true]⟩

/-- hurdle/hurdlelaw15.row -/
def c_hurdlelaw15_row : SFn := ⟨16,
  .seq (.region 1 [⟨(some 1), .box 0 (.t 0), none⟩, ⟨(some 2), .mv (.c (.vs [] .full)), none⟩]) (.seq (.region 0 [⟨(some 3), .mv (.c (.vs [] .full)), none⟩]) (.seq (.seq
    (.region 0 [⟨(some 4), .mv (.c (.int .i64 0)), none⟩]) (.seq (.give 3 none) (.block 0 (.loop [1, 3, 4] (.seq (.seq (.region 0 [⟨(some 5), .mv (.t 4), none⟩, ⟨(some 6),
   .bin .lss (.t 5) (.c (.int .i64 34)), none⟩]) (.cond (.t 6) (.skip) (.exit 0))) (.seq (.block 1 (.region 1 [⟨(some 9), .mv (.t 3), none⟩, ⟨(some 10), .mv (.t 4), none⟩,
   ⟨(some 11), .iaddrA 34 1 (.t 1) (.t 10), none⟩, ⟨(some 12), .load 1 false false (.t 11), none⟩, ⟨(some 13), .bslice 1 ([.int .u32 0]) [(0, .t 12)], none⟩, ⟨(some 14),
   .app 0 1 4 (.t 9) (.t 13), none⟩, ⟨(some 3), .mv (.t 14), none⟩])) (.seq (.keep [1, 3, 4]) (.region 0 [⟨(some 7), .mv (.t 4), none⟩, ⟨(some 8), .bin .add (.t 7) (.c
    (.int .i64 1)), none⟩, ⟨(some 4), .mv (.t 8), none⟩])))))))) (.seq (.keep [3]) (.seq (.region 0 [⟨(some 15), .mv (.t 3), none⟩, ⟨(some 2), .mv (.t 15), none⟩])
    (.ret))))),
  [.tmp 2]⟩

/-- hurdle/hurdlelaw15.knows -/
def c_hurdlelaw15_knows : SFn := ⟨63,
  .seq (.region 0 [⟨(some 0), .mv (.c (.bool false)), none⟩]) (.seq (.region 1 [⟨(some 12), .pcall 103 [.c (.int .i64 0)], none⟩, ⟨(some 11), .mv (.t 12), none⟩, ⟨(some 13),
   .ext 0 (.t 11), none⟩, ⟨(some 14), .ext 1 (.t 11), none⟩, ⟨(some 1), .alloc 0 ([.vs [] .full, .vs [] .full]), none⟩, ⟨none, .store 2 (.t 1) (.t 13), none⟩, ⟨(some 2),
   .mv (.t 14), none⟩]) (.seq (.keep [1, 2]) (.seq (.region 1 [⟨(some 16), .pcall 103 [.c (.int .i64 1)], none⟩, ⟨(some 15), .mv (.t 16), none⟩, ⟨(some 17), .ext 0
    (.t 15), none⟩, ⟨(some 18), .ext 1 (.t 15), none⟩, ⟨(some 3), .alloc 0 ([.vs [] .full, .vs [] .full]), none⟩, ⟨none, .store 2 (.t 3) (.t 17), none⟩, ⟨(some 4), .mv
    (.t 18), none⟩]) (.seq (.keep [1, 2, 3, 4]) (.seq (.region 1 [⟨(some 20), .load 2 true true (.t 1), none⟩, ⟨(some 21), .pcall 102 [.c (.int .u32 255)], none⟩,
   ⟨(some 22), .pcall 109 [.c (.int .i64 84), .t 20, .t 21], none⟩, ⟨(some 19), .mv (.t 22), none⟩, ⟨(some 23), .ext 0 (.t 19), none⟩, ⟨(some 24), .ext 1 (.t 19), none⟩,
   ⟨(some 5), .alloc 0 ([.vs [] .full, .vs [] .full]), none⟩, ⟨none, .store 2 (.t 5) (.t 23), none⟩, ⟨(some 6), .mv (.t 24), none⟩]) (.seq (.keep [2, 3, 4, 5, 6]) (.seq
    (.region 1 [⟨(some 26), .load 2 true true (.t 3), none⟩, ⟨(some 27), .pcall 102 [.c (.int .u32 65280)], none⟩, ⟨(some 28), .pcall 109 [.c (.int .i64 84), .t 26,
   .t 27], none⟩, ⟨(some 25), .mv (.t 28), none⟩, ⟨(some 29), .ext 0 (.t 25), none⟩, ⟨(some 30), .ext 1 (.t 25), none⟩, ⟨(some 7), .alloc 0 ([.vs [] .full, .vs [] .full]),
   none⟩, ⟨none, .store 2 (.t 7) (.t 29), none⟩, ⟨(some 8), .mv (.t 30), none⟩]) (.seq (.keep [2, 4, 5, 6, 7, 8]) (.seq (.region 1 [⟨(some 32), .load 2 true false (.t 5),
   none⟩, ⟨(some 33), .load 2 true false (.t 7), none⟩, ⟨(some 34), .pcall 109 [.c (.int .i64 68), .t 32, .t 33], none⟩, ⟨(some 31), .mv (.t 34), none⟩, ⟨(some 35), .ext 0
    (.t 31), none⟩, ⟨(some 36), .ext 1 (.t 31), none⟩, ⟨(some 9), .alloc 0 ([.vs [] .full, .vs [] .full]), none⟩, ⟨none, .store 2 (.t 9) (.t 35), none⟩, ⟨(some 10), .mv
    (.t 36), none⟩]) (.seq (.keep [2, 4, 6, 8, 9, 10]) (.seq (.region 0 [⟨(some 37), .mv (.t 2), none⟩, ⟨(some 38), .bin .eql (.t 37) (.c (.int .i64 0)), none⟩,
   ⟨(some 39), .mv (.t 38), none⟩, ⟨(some 40), .mv (.t 4), (some (39, true))⟩, ⟨(some 41), .bin .eql (.t 40) (.c (.int .i64 0)), (some (39, true))⟩, ⟨(some 42), .pick
    (.t 39) (.t 41) (.c (.bool false)), none⟩, ⟨(some 43), .mv (.t 42), none⟩, ⟨(some 44), .mv (.t 6), (some (43, true))⟩, ⟨(some 45), .pick (.t 43) (.t 44) (.c
    (.bool false)), none⟩, ⟨(some 46), .mv (.t 45), none⟩, ⟨(some 47), .mv (.t 8), (some (46, true))⟩, ⟨(some 48), .pick (.t 46) (.t 47) (.c (.bool false)), none⟩,
   ⟨(some 49), .mv (.t 48), none⟩, ⟨(some 50), .mv (.t 10), (some (49, true))⟩, ⟨(some 51), .pick (.t 49) (.t 50) (.c (.bool false)), none⟩, ⟨(some 52), .mv (.t 51),
   none⟩, ⟨(some 53), .load 2 true false (.t 9), (some (52, true))⟩, ⟨(some 54), .bslice 2 ([.int .i64 0]) [(0, .c (.int .i64 0)), (1, .c (.int .i64 1))], (some (52,
   true))⟩, ⟨(some 55), .bslice 4 ([.int .u32 0]) [(0, .c (.int .u32 0)), (1, .c (.int .u32 255)), (2, .c (.int .u32 65280)), (3, .c (.int .u32 65535))], (some (52,
   true))⟩, ⟨(some 56), .build ([.vs [] .full, .vs [] .full]) [(0, 1, .t 54), (1, 1, .t 55)], (some (52, true))⟩, ⟨(some 57), .pcall 111 [.t 53, .t 56], (some (52,
   true))⟩, ⟨(some 58), .pick (.t 52) (.t 57) (.c (.bool false)), none⟩, ⟨(some 59), .mv (.t 58), none⟩, ⟨(some 60), .load 2 true false (.t 9), (some (59, true))⟩,
   ⟨(some 61), .pcall 101 [.t 60], (some (59, true))⟩, ⟨(some 62), .pick (.t 59) (.t 61) (.c (.bool false)), none⟩, ⟨(some 0), .mv (.t 62), none⟩]) (.ret)))))))))))),
  [.tmp 0]⟩

/-- hurdle/hurdlelaw15.BitsDoes -/
def c_hurdlelaw15_BitsDoes : SFn := ⟨46,
  .seq (.region 2 [⟨(some 4), .box 0 (.t 1), none⟩, ⟨(some 5), .box 1 (.t 2), none⟩, ⟨(some 6), .mv (.c (.bool false)), none⟩]) (.seq (.seq (.region 0 [⟨(some 11),
   .load 2 true false (.t 4), none⟩, ⟨(some 12), .pcall 128 [.t 11], none⟩, ⟨(some 13), .mv (.t 12), none⟩, ⟨(some 14), .load 2 true false (.t 5), (some (13, false))⟩,
   ⟨(some 15), .pcall 128 [.t 14], (some (13, false))⟩, ⟨(some 16), .pick (.t 13) (.c (.bool true)) (.t 15), none⟩]) (.seq (.keep [0, 4, 5, 16]) (.cond (.t 16) (.seq
    (.region 0 [⟨(some 17), .pcall 131 [], none⟩, ⟨(some 6), .mv (.t 17), none⟩]) (.ret)) (.skip)))) (.seq (.keep [0, 4, 5]) (.seq (.region 1 [⟨(some 19), .mv (.t 0),
   none⟩, ⟨(some 20), .load 2 true false (.t 4), none⟩, ⟨(some 21), .load 2 true false (.t 5), none⟩, ⟨(some 22), .pcall 109 [.t 19, .t 20, .t 21], none⟩, ⟨(some 18), .mv
    (.t 22), none⟩, ⟨(some 23), .ext 0 (.t 18), none⟩, ⟨(some 24), .ext 1 (.t 18), none⟩, ⟨(some 7), .alloc 0 ([.vs [] .full, .vs [] .full]), none⟩, ⟨none, .store 2
    (.t 7) (.t 23), none⟩, ⟨(some 8), .mv (.t 24), none⟩]) (.seq (.keep [0, 4, 5, 7, 8]) (.seq (.region 1 [⟨(some 26), .mv (.t 0), none⟩, ⟨(some 27), .load 2 true true
    (.t 4), none⟩, ⟨(some 28), .pcall 129 [.t 27], none⟩, ⟨(some 29), .load 2 true true (.t 5), none⟩, ⟨(some 30), .pcall 129 [.t 29], none⟩, ⟨(some 31),
   .pcall 121 [.t 26, .t 28, .t 30], none⟩, ⟨(some 25), .mv (.t 31), none⟩, ⟨(some 32), .ext 0 (.t 25), none⟩, ⟨(some 33), .ext 1 (.t 25), none⟩, ⟨(some 9), .alloc 0
    ([.vs [] .full, .vs [] .full]), none⟩, ⟨none, .store 2 (.t 9) (.t 32), none⟩, ⟨(some 10), .mv (.t 33), none⟩]) (.seq (.keep [7, 8, 9, 10]) (.seq
    (.region 0 [⟨(some 34), .load 2 true true (.t 7), none⟩, ⟨(some 35), .pcall 129 [.t 34], none⟩, ⟨(some 36), .load 2 true true (.t 9), none⟩, ⟨(some 37),
   .pcall 123 [.t 35, .t 36], none⟩, ⟨(some 38), .mv (.t 37), none⟩, ⟨(some 39), .mv (.t 8), (some (38, true))⟩, ⟨(some 40), .mv (.t 10), (some (38, true))⟩, ⟨(some 41),
   .beq false (.t 39) (.t 40), (some (38, true))⟩, ⟨(some 42), .pick (.t 38) (.t 41) (.c (.bool false)), none⟩, ⟨(some 43), .mv (.t 42), none⟩, ⟨(some 44), .pcall 131 [],
   (some (43, true))⟩, ⟨(some 45), .pick (.t 43) (.t 44) (.c (.bool false)), none⟩, ⟨(some 6), .mv (.t 45), none⟩]) (.ret)))))))),
  [.tmp 6]⟩

/-- hurdle/hurdlelaw15.BitsSelf -/
def c_hurdlelaw15_BitsSelf : SFn := ⟨86,
  .seq (.region 2 [⟨(some 4), .box 0 (.t 1), none⟩, ⟨(some 5), .box 1 (.t 2), none⟩, ⟨(some 6), .mv (.c (.bool false)), none⟩]) (.seq (.seq (.region 0 [⟨(some 17),
   .load 2 true false (.t 4), none⟩, ⟨(some 18), .pcall 128 [.t 17], none⟩, ⟨(some 19), .mv (.t 18), none⟩, ⟨(some 20), .load 2 true false (.t 5), (some (19, false))⟩,
   ⟨(some 21), .pcall 128 [.t 20], (some (19, false))⟩, ⟨(some 22), .pick (.t 19) (.c (.bool true)) (.t 21), none⟩]) (.seq (.keep [0, 4, 5, 22]) (.cond (.t 22) (.seq
    (.region 0 [⟨(some 23), .pcall 131 [], none⟩, ⟨(some 6), .mv (.t 23), none⟩]) (.ret)) (.skip)))) (.seq (.keep [0, 4, 5]) (.seq (.region 1 [⟨(some 25), .mv (.t 0),
   none⟩, ⟨(some 26), .load 2 true false (.t 4), none⟩, ⟨(some 27), .load 2 true false (.t 5), none⟩, ⟨(some 28), .pcall 109 [.t 25, .t 26, .t 27], none⟩, ⟨(some 24), .mv
    (.t 28), none⟩, ⟨(some 29), .ext 0 (.t 24), none⟩, ⟨(some 30), .ext 1 (.t 24), none⟩, ⟨(some 7), .alloc 0 ([.vs [] .full, .vs [] .full]), none⟩, ⟨none, .store 2
    (.t 7) (.t 29), none⟩, ⟨(some 8), .mv (.t 30), none⟩]) (.seq (.keep [0, 4, 5, 7, 8]) (.seq (.region 1 [⟨(some 32), .mv (.t 0), none⟩, ⟨(some 33), .load 2 true false
    (.t 5), none⟩, ⟨(some 34), .load 2 true false (.t 4), none⟩, ⟨(some 35), .pcall 109 [.t 32, .t 33, .t 34], none⟩, ⟨(some 31), .mv (.t 35), none⟩, ⟨(some 36), .ext 0
    (.t 31), none⟩, ⟨(some 37), .ext 1 (.t 31), none⟩, ⟨(some 9), .alloc 0 ([.vs [] .full, .vs [] .full]), none⟩, ⟨none, .store 2 (.t 9) (.t 36), none⟩, ⟨(some 10), .mv
    (.t 37), none⟩]) (.seq (.keep [4, 7, 8, 9, 10]) (.seq (.seq (.region 0 [⟨(some 38), .mv (.t 8), none⟩, ⟨(some 39), .mv (.t 10), none⟩, ⟨(some 40), .beq true (.t 38)
    (.t 39), none⟩, ⟨(some 41), .mv (.t 40), none⟩, ⟨(some 42), .load 2 true false (.t 7), (some (41, false))⟩, ⟨(some 43), .load 2 true false (.t 9), (some (41, false))⟩,
   ⟨(some 44), .pcall 111 [.t 42, .t 43], (some (41, false))⟩, ⟨(some 45), .un .not (.t 44), (some (41, false))⟩, ⟨(some 46), .pick (.t 41) (.c (.bool true)) (.t 45),
   none⟩]) (.seq (.keep [4, 46]) (.cond (.t 46) (.seq (.region 0 [⟨(some 6), .mv (.c (.bool false)), none⟩]) (.ret)) (.skip)))) (.seq (.keep [4]) (.seq (.seq
    (.region 0 [⟨(some 47), .load 2 true false (.t 4), none⟩, ⟨(some 48), .pcall 129 [.t 47], none⟩, ⟨(some 49), .pcall 115 [.t 48], none⟩, ⟨(some 50), .un .not (.t 49),
   none⟩]) (.seq (.keep [4, 50]) (.cond (.t 50) (.seq (.region 0 [⟨(some 51), .pcall 131 [], none⟩, ⟨(some 6), .mv (.t 51), none⟩]) (.ret)) (.skip)))) (.seq (.keep [4])
    (.seq (.region 1 [⟨(some 53), .load 2 true false (.t 4), none⟩, ⟨(some 54), .load 2 true false (.t 4), none⟩, ⟨(some 55), .pcall 109 [.c (.int .i64 68), .t 53, .t 54],
   none⟩, ⟨(some 52), .mv (.t 55), none⟩, ⟨(some 56), .ext 0 (.t 52), none⟩, ⟨(some 57), .ext 1 (.t 52), none⟩, ⟨(some 11), .alloc 0 ([.vs [] .full, .vs [] .full]), none⟩,
   ⟨none, .store 2 (.t 11) (.t 56), none⟩, ⟨(some 12), .mv (.t 57), none⟩]) (.seq (.keep [4, 11]) (.seq (.region 1 [⟨(some 59), .load 2 true false (.t 4), none⟩,
   ⟨(some 60), .load 2 true false (.t 4), none⟩, ⟨(some 61), .pcall 109 [.c (.int .i64 84), .t 59, .t 60], none⟩, ⟨(some 58), .mv (.t 61), none⟩, ⟨(some 62), .ext 0
    (.t 58), none⟩, ⟨(some 63), .ext 1 (.t 58), none⟩, ⟨(some 13), .alloc 0 ([.vs [] .full, .vs [] .full]), none⟩, ⟨none, .store 2 (.t 13) (.t 62), none⟩, ⟨(some 14), .mv
    (.t 63), none⟩]) (.seq (.keep [4, 11, 13]) (.seq (.region 1 [⟨(some 65), .load 2 true false (.t 4), none⟩, ⟨(some 66), .load 2 true false (.t 4), none⟩, ⟨(some 67),
   .pcall 109 [.c (.int .i64 164), .t 65, .t 66], none⟩, ⟨(some 64), .mv (.t 67), none⟩, ⟨(some 68), .ext 0 (.t 64), none⟩, ⟨(some 69), .ext 1 (.t 64), none⟩, ⟨(some 15),
   .alloc 0 ([.vs [] .full, .vs [] .full]), none⟩, ⟨none, .store 2 (.t 15) (.t 68), none⟩, ⟨(some 16), .mv (.t 69), none⟩]) (.seq (.keep [4, 11, 13, 15]) (.seq
    (.region 0 [⟨(some 70), .load 2 true true (.t 11), none⟩, ⟨(some 71), .load 2 true true (.t 4), none⟩, ⟨(some 72), .pcall 111 [.t 70, .t 71], none⟩, ⟨(some 73), .mv
    (.t 72), none⟩, ⟨(some 74), .load 2 true true (.t 13), (some (73, true))⟩, ⟨(some 75), .load 2 true true (.t 4), (some (73, true))⟩, ⟨(some 76), .pcall 111 [.t 74,
   .t 75], (some (73, true))⟩, ⟨(some 77), .pick (.t 73) (.t 76) (.c (.bool false)), none⟩, ⟨(some 78), .mv (.t 77), none⟩, ⟨(some 79), .load 2 true true (.t 15), (some
    (78, true))⟩, ⟨(some 80), .pcall 102 [.c (.int .u32 0)], (some (78, true))⟩, ⟨(some 81), .pcall 111 [.t 79, .t 80], (some (78, true))⟩, ⟨(some 82), .pick (.t 78)
    (.t 81) (.c (.bool false)), none⟩, ⟨(some 83), .mv (.t 82), none⟩, ⟨(some 84), .pcall 131 [], (some (83, true))⟩, ⟨(some 85), .pick (.t 83) (.t 84) (.c
    (.bool false)), none⟩, ⟨(some 6), .mv (.t 85), none⟩]) (.ret)))))))))))))))))),
  [.tmp 6]⟩

/-- hurdle/hurdlelaw15.BitsForms -/
def c_hurdlelaw15_BitsForms : SFn := ⟨130,
  .seq (.region 3 [⟨(some 5), .box 0 (.t 0), none⟩, ⟨(some 6), .box 1 (.t 1), none⟩, ⟨(some 7), .box 2 (.t 2), none⟩, ⟨(some 10), .mv (.c (.bool false)), none⟩]) (.seq
    (.seq (.region 0 [⟨(some 16), .load 2 true false (.t 5), none⟩, ⟨(some 17), .pcall 128 [.t 16], none⟩, ⟨(some 18), .mv (.t 17), none⟩, ⟨(some 19), .load 2 true false
    (.t 6), (some (18, false))⟩, ⟨(some 20), .pcall 128 [.t 19], (some (18, false))⟩, ⟨(some 21), .pick (.t 18) (.c (.bool true)) (.t 20), none⟩]) (.seq (.keep [3, 4, 5,
   6, 7, 21]) (.cond (.t 21) (.seq (.region 0 [⟨(some 22), .pcall 131 [], none⟩, ⟨(some 10), .mv (.t 22), none⟩]) (.ret)) (.skip)))) (.seq (.keep [3, 4, 5, 6, 7]) (.seq
    (.region 1 [⟨(some 24), .mv (.t 4), none⟩, ⟨(some 25), .pcall 103 [.t 24], none⟩, ⟨(some 23), .mv (.t 25), none⟩, ⟨(some 26), .ext 0 (.t 23), none⟩, ⟨(some 27), .ext 1
    (.t 23), none⟩, ⟨(some 11), .alloc 0 ([.vs [] .full, .vs [] .full]), none⟩, ⟨none, .store 2 (.t 11) (.t 26), none⟩, ⟨(some 12), .mv (.t 27), none⟩]) (.seq (.keep [3,
   4, 5, 6, 7, 11, 12]) (.seq (.region 1 [⟨(some 28), .mv (.t 3), none⟩, ⟨(some 29), .pcall 102 [.t 28], none⟩, ⟨(some 13), .alloc 0 ([.vs [] .full, .vs [] .full]), none⟩,
   ⟨none, .store 2 (.t 13) (.t 29), none⟩]) (.seq (.region 0 [⟨(some 31), .load 2 true false (.t 5), none⟩, ⟨(some 32), .load 34 true false (.t 7), none⟩, ⟨(some 33),
   .pcall 110 [.t 31, .t 32], none⟩, ⟨(some 30), .mv (.t 33), none⟩, ⟨(some 34), .ext 0 (.t 30), none⟩, ⟨(some 35), .ext 1 (.t 30), none⟩, ⟨(some 14), .mv (.t 34), none⟩,
   ⟨(some 15), .mv (.t 35), none⟩]) (.seq (.keep [3, 4, 5, 6, 7, 11, 12, 13, 14, 15]) (.seq (.seq (.region 0 [⟨(some 36), .load 2 true true (.t 5), none⟩, ⟨(some 37),
   .pcall 101 [.t 36], none⟩, ⟨(some 38), .load 2 true true (.t 5), none⟩, ⟨(some 39), .pcall 129 [.t 38], none⟩, ⟨(some 40), .pcall 115 [.t 39], none⟩, ⟨(some 41),
   .beq true (.t 37) (.t 40), none⟩, ⟨(some 42), .mv (.t 41), none⟩, ⟨(some 43), .load 2 true true (.t 5), (some (42, false))⟩, ⟨(some 44), .load 2 true true (.t 6), (some
    (42, false))⟩, ⟨(some 45), .pcall 111 [.t 43, .t 44], (some (42, false))⟩, ⟨(some 46), .load 2 true true (.t 5), (some (42, false))⟩, ⟨(some 47), .pcall 129 [.t 46],
   (some (42, false))⟩, ⟨(some 48), .load 2 true true (.t 6), (some (42, false))⟩, ⟨(some 49), .pcall 129 [.t 48], (some (42, false))⟩, ⟨(some 50), .pcall 123 [.t 47,
   .t 49], (some (42, false))⟩, ⟨(some 51), .beq true (.t 45) (.t 50), (some (42, false))⟩, ⟨(some 52), .pick (.t 42) (.c (.bool true)) (.t 51), none⟩, ⟨(some 53), .mv
    (.t 52), none⟩, ⟨(some 54), .faddr 0 (.t 13), (some (53, false))⟩, ⟨(some 55), .load 1 false true (.t 54), (some (53, false))⟩, ⟨(some 56), .len false (.t 55), (some
    (53, false))⟩, ⟨(some 57), .bin .neq (.t 56) (.c (.int .i64 0)), (some (53, false))⟩, ⟨(some 58), .pick (.t 53) (.c (.bool true)) (.t 57), none⟩, ⟨(some 59), .mv
    (.t 58), none⟩, ⟨(some 60), .faddr 1 (.t 13), (some (59, false))⟩, ⟨(some 61), .load 1 false true (.t 60), (some (59, false))⟩, ⟨(some 62), .len false (.t 61), (some
    (59, false))⟩, ⟨(some 63), .bin .neq (.t 62) (.c (.int .i64 1)), (some (59, false))⟩, ⟨(some 64), .pick (.t 59) (.c (.bool true)) (.t 63), none⟩, ⟨(some 65), .mv
    (.t 64), none⟩, ⟨(some 66), .faddr 1 (.t 13), (some (65, false))⟩, ⟨(some 67), .load 1 false true (.t 66), (some (65, false))⟩, ⟨(some 68), .iaddr 1 (.t 67) (.c
    (.int .i64 0)), (some (65, false))⟩, ⟨(some 69), .load 1 false true (.t 68), (some (65, false))⟩, ⟨(some 70), .mv (.t 3), (some (65, false))⟩, ⟨(some 71), .bin .neq
    (.t 69) (.t 70), (some (65, false))⟩, ⟨(some 72), .pick (.t 65) (.c (.bool true)) (.t 71), none⟩]) (.seq (.keep [4, 5, 7, 11, 12, 14, 15, 72]) (.cond (.t 72) (.seq
    (.region 0 [⟨(some 10), .mv (.c (.bool false)), none⟩]) (.ret)) (.skip)))) (.seq (.keep [4, 5, 7, 11, 12, 14, 15]) (.seq (.seq (.region 0 [⟨(some 73), .mv (.t 12),
   none⟩, ⟨(some 74), .bin .eql (.t 73) (.c (.int .i64 0)), none⟩, ⟨(some 75), .mv (.t 4), none⟩, ⟨(some 76), .bin .geq (.t 75) (.c (.int .i64 0)), none⟩, ⟨(some 77), .mv
    (.t 76), none⟩, ⟨(some 78), .mv (.t 4), (some (77, true))⟩, ⟨(some 79), .bin .lss (.t 78) (.c (.int .i64 34)), (some (77, true))⟩, ⟨(some 80), .pick (.t 77) (.t 79)
    (.c (.bool false)), none⟩, ⟨(some 81), .beq true (.t 74) (.t 80), none⟩, ⟨(some 82), .mv (.t 81), none⟩, ⟨(some 83), .mv (.t 12), (some (82, false))⟩, ⟨(some 84),
   .bin .eql (.t 83) (.c (.int .i64 0)), (some (82, false))⟩, ⟨(some 85), .mv (.t 84), (some (82, false))⟩, ⟨(some 86), .load 2 true false (.t 11), (some (85, true))⟩,
   ⟨(some 87), .pcall 129 [.t 86], (some (85, true))⟩, ⟨(some 88), .mv (.t 4), (some (85, true))⟩, ⟨(some 89), .bslice 1 ([.int .i64 0]) [(0, .t 88)], (some (85, true))⟩,
   ⟨(some 90), .bslice 2 ([.int .u32 0]) [(0, .c (.int .u32 0)), (1, .c (.int .u32 4294967295))], (some (85, true))⟩, ⟨(some 91), .build ([.vs [] .full,
   .vs [] .full]) [(0, 1, .t 89), (1, 1, .t 90)], (some (85, true))⟩, ⟨(some 92), .pcall 123 [.t 87, .t 91], (some (85, true))⟩, ⟨(some 93), .un .not (.t 92), (some (85,
   true))⟩, ⟨(some 94), .pick (.t 85) (.t 93) (.c (.bool false)), (some (82, false))⟩, ⟨(some 95), .pick (.t 82) (.c (.bool true)) (.t 94), none⟩, ⟨(some 96), .mv
    (.t 95), none⟩, ⟨(some 97), .mv (.t 12), (some (96, false))⟩, ⟨(some 98), .bin .neq (.t 97) (.c (.int .i64 0)), (some (96, false))⟩, ⟨(some 99), .mv (.t 98), (some
    (96, false))⟩, ⟨(some 100), .mv (.t 12), (some (99, true))⟩, ⟨(some 101), .bin .neq (.t 100) (.c (.int .i64 1)), (some (99, true))⟩, ⟨(some 102), .pick (.t 99)
    (.t 101) (.c (.bool false)), (some (96, false))⟩, ⟨(some 103), .pick (.t 96) (.c (.bool true)) (.t 102), none⟩]) (.seq (.keep [5, 7, 14, 15, 103]) (.cond (.t 103)
    (.seq (.region 0 [⟨(some 10), .mv (.c (.bool false)), none⟩]) (.ret)) (.skip)))) (.seq (.keep [5, 7, 14, 15]) (.seq (.seq (.region 0 [⟨(some 104), .load 2 true false
    (.t 5), none⟩, ⟨(some 105), .pcall 129 [.t 104], none⟩, ⟨(some 106), .pcall 115 [.t 105], none⟩, ⟨(some 107), .un .not (.t 106), none⟩]) (.seq (.keep [5, 7, 14, 15,
   107]) (.cond (.t 107) (.seq (.region 0 [⟨(some 108), .mv (.t 14), none⟩, ⟨(some 109), .bin .eql (.t 108) (.c (.int .u32 0)), none⟩, ⟨(some 110), .mv (.t 109), none⟩,
   ⟨(some 111), .mv (.t 15), (some (110, true))⟩, ⟨(some 112), .un .not (.t 111), (some (110, true))⟩, ⟨(some 113), .pick (.t 110) (.t 112) (.c (.bool false)), none⟩,
   ⟨(some 114), .mv (.t 113), none⟩, ⟨(some 115), .pcall 131 [], (some (114, true))⟩, ⟨(some 116), .pick (.t 114) (.t 115) (.c (.bool false)), none⟩, ⟨(some 10), .mv
    (.t 116), none⟩]) (.ret)) (.skip)))) (.seq (.keep [5, 7, 14, 15]) (.seq (.region 0 [⟨(some 117), .mv (.t 14), none⟩, ⟨(some 118), .load 2 true true (.t 5), none⟩,
   ⟨(some 119), .pcall 129 [.t 118], none⟩, ⟨(some 120), .load 34 true true (.t 7), none⟩, ⟨(some 121), .pcall 130 [.t 120], none⟩, ⟨(some 122), .pcall 119 [.t 119,
   .t 121], none⟩, ⟨(some 123), .bin .eql (.t 117) (.t 122), none⟩, ⟨(some 124), .mv (.t 123), none⟩, ⟨(some 125), .mv (.t 15), (some (124, true))⟩, ⟨(some 126), .pick
    (.t 124) (.t 125) (.c (.bool false)), none⟩, ⟨(some 127), .mv (.t 126), none⟩, ⟨(some 128), .pcall 131 [], (some (127, true))⟩, ⟨(some 129), .pick (.t 127) (.t 128)
    (.c (.bool false)), none⟩, ⟨(some 10), .mv (.t 129), none⟩]) (.ret))))))))))))))),
  [.tmp 10]⟩

/-- hurdle/hurdlelaw15.BitsValues -/
def c_hurdlelaw15_BitsValues : SFn := ⟨83,
  .seq (.region 3 [⟨(some 5), .box 0 (.t 1), none⟩, ⟨(some 6), .box 1 (.t 2), none⟩, ⟨(some 7), .box 2 (.t 3), none⟩, ⟨(some 8), .mv (.c (.bool false)), none⟩]) (.seq (.seq
    (.region 0 [⟨(some 19), .load 2 true false (.t 5), none⟩, ⟨(some 20), .pcall 128 [.t 19], none⟩, ⟨(some 21), .mv (.t 20), none⟩, ⟨(some 22), .load 2 true false
    (.t 6), (some (21, false))⟩, ⟨(some 23), .pcall 128 [.t 22], (some (21, false))⟩, ⟨(some 24), .pick (.t 21) (.c (.bool true)) (.t 23), none⟩]) (.seq (.keep [0, 5, 6,
   7, 24]) (.cond (.t 24) (.seq (.region 0 [⟨(some 25), .pcall 131 [], none⟩, ⟨(some 8), .mv (.t 25), none⟩]) (.ret)) (.skip)))) (.seq (.keep [0, 5, 6, 7]) (.seq
    (.region 1 [⟨(some 27), .mv (.t 0), none⟩, ⟨(some 28), .load 2 true false (.t 5), none⟩, ⟨(some 29), .load 2 true false (.t 6), none⟩, ⟨(some 30), .pcall 109 [.t 27,
   .t 28, .t 29], none⟩, ⟨(some 26), .mv (.t 30), none⟩, ⟨(some 31), .ext 0 (.t 26), none⟩, ⟨(some 32), .ext 1 (.t 26), none⟩, ⟨(some 9), .alloc 0 ([.vs [] .full,
   .vs [] .full]), none⟩, ⟨none, .store 2 (.t 9) (.t 31), none⟩, ⟨(some 10), .mv (.t 32), none⟩]) (.seq (.keep [0, 5, 6, 7, 9, 10]) (.seq (.seq (.region 0 [⟨(some 33), .mv
    (.t 10), none⟩, ⟨(some 34), .un .not (.t 33), none⟩]) (.cond (.t 34) (.seq (.region 0 [⟨(some 35), .faddr 1 (.t 9), none⟩, ⟨(some 36), .load 1 false false (.t 35),
   none⟩, ⟨(some 37), .len false (.t 36), none⟩, ⟨(some 38), .bin .eql (.t 37) (.c (.int .i64 0)), none⟩, ⟨(some 39), .mv (.t 38), none⟩, ⟨(some 40), .pcall 131 [], (some
    (39, true))⟩, ⟨(some 41), .pick (.t 39) (.t 40) (.c (.bool false)), none⟩, ⟨(some 8), .mv (.t 41), none⟩]) (.ret)) (.skip))) (.seq (.keep [0, 5, 6, 7, 9]) (.seq
    (.region 0 [⟨(some 43), .load 2 true false (.t 5), none⟩, ⟨(some 44), .load 34 true false (.t 7), none⟩, ⟨(some 45), .pcall 110 [.t 43, .t 44], none⟩, ⟨(some 42), .mv
    (.t 45), none⟩, ⟨(some 46), .ext 0 (.t 42), none⟩, ⟨(some 47), .ext 1 (.t 42), none⟩, ⟨(some 11), .mv (.t 46), none⟩, ⟨(some 12), .mv (.t 47), none⟩]) (.seq
    (.keep [0, 6, 7, 9, 11]) (.seq (.region 0 [⟨(some 49), .load 2 true false (.t 6), none⟩, ⟨(some 50), .load 34 true false (.t 7), none⟩, ⟨(some 51), .pcall 110 [.t 49,
   .t 50], none⟩, ⟨(some 48), .mv (.t 51), none⟩, ⟨(some 52), .ext 0 (.t 48), none⟩, ⟨(some 53), .ext 1 (.t 48), none⟩, ⟨(some 13), .mv (.t 52), none⟩, ⟨(some 14), .mv
    (.t 53), none⟩]) (.seq (.keep [0, 7, 9, 11, 13]) (.seq (.region 0 [⟨(some 55), .load 2 true false (.t 9), none⟩, ⟨(some 56), .load 34 true false (.t 7), none⟩,
   ⟨(some 57), .pcall 110 [.t 55, .t 56], none⟩, ⟨(some 54), .mv (.t 57), none⟩, ⟨(some 58), .ext 0 (.t 54), none⟩, ⟨(some 59), .ext 1 (.t 54), none⟩, ⟨(some 15), .mv
    (.t 58), none⟩, ⟨(some 16), .mv (.t 59), none⟩]) (.seq (.keep [0, 9, 11, 13, 15, 16]) (.seq (.region 0 [⟨(some 61), .mv (.t 0), none⟩, ⟨(some 62), .mv (.t 11), none⟩,
   ⟨(some 63), .mv (.t 13), none⟩, ⟨(some 64), .pcall 107 [.t 61, .t 62, .t 63], none⟩, ⟨(some 60), .mv (.t 64), none⟩, ⟨(some 65), .ext 0 (.t 60), none⟩, ⟨(some 66),
   .ext 1 (.t 60), none⟩, ⟨(some 17), .mv (.t 65), none⟩, ⟨(some 18), .mv (.t 66), none⟩]) (.seq (.keep [9, 15, 16, 17, 18]) (.seq (.region 0 [⟨(some 67), .mv (.t 16),
   none⟩, ⟨(some 68), .mv (.t 67), none⟩, ⟨(some 69), .mv (.t 18), (some (68, true))⟩, ⟨(some 70), .pick (.t 68) (.t 69) (.c (.bool false)), none⟩, ⟨(some 71), .mv
    (.t 70), none⟩, ⟨(some 72), .mv (.t 15), (some (71, true))⟩, ⟨(some 73), .mv (.t 17), (some (71, true))⟩, ⟨(some 74), .bin .eql (.t 72) (.t 73), (some (71, true))⟩,
   ⟨(some 75), .pick (.t 71) (.t 74) (.c (.bool false)), none⟩, ⟨(some 76), .mv (.t 75), none⟩, ⟨(some 77), .load 2 true false (.t 9), (some (76, true))⟩, ⟨(some 78),
   .pcall 101 [.t 77], (some (76, true))⟩, ⟨(some 79), .pick (.t 76) (.t 78) (.c (.bool false)), none⟩, ⟨(some 80), .mv (.t 79), none⟩, ⟨(some 81), .pcall 131 [], (some
    (80, true))⟩, ⟨(some 82), .pick (.t 80) (.t 81) (.c (.bool false)), none⟩, ⟨(some 8), .mv (.t 82), none⟩]) (.ret)))))))))))))))),
  [.tmp 8]⟩

/-- hurdle/hurdlelaw15.BitsApart -/
def c_hurdlelaw15_BitsApart : SFn := ⟨49,
  .seq (.region 2 [⟨(some 2), .box 0 (.t 0), none⟩, ⟨(some 3), .box 1 (.t 1), none⟩, ⟨(some 4), .mv (.c (.bool false)), none⟩]) (.seq (.seq (.region 0 [⟨(some 10),
   .load 2 true false (.t 2), none⟩, ⟨(some 11), .pcall 128 [.t 10], none⟩, ⟨(some 12), .mv (.t 11), none⟩, ⟨(some 13), .load 2 true false (.t 3), (some (12, false))⟩,
   ⟨(some 14), .pcall 128 [.t 13], (some (12, false))⟩, ⟨(some 15), .pick (.t 12) (.c (.bool true)) (.t 14), none⟩]) (.seq (.keep [2, 3, 15]) (.cond (.t 15) (.seq
    (.region 0 [⟨(some 16), .pcall 131 [], none⟩, ⟨(some 4), .mv (.t 16), none⟩]) (.ret)) (.skip)))) (.seq (.keep [2, 3]) (.seq (.region 1 [⟨(some 18), .load 2 true false
    (.t 2), none⟩, ⟨(some 19), .load 2 true false (.t 3), none⟩, ⟨(some 20), .pcall 112 [.t 18, .t 19], none⟩, ⟨(some 17), .mv (.t 20), none⟩, ⟨(some 21), .ext 0 (.t 17),
   none⟩, ⟨(some 22), .ext 1 (.t 17), none⟩, ⟨(some 5), .alloc 0 (rep 34 (.int .u32 0)), none⟩, ⟨none, .store 34 (.t 5) (.t 21), none⟩, ⟨(some 6), .mv (.t 22),
   none⟩]) (.seq (.keep [2, 3, 5, 6]) (.seq (.region 0 [⟨(some 24), .load 2 true true (.t 2), none⟩, ⟨(some 25), .pcall 129 [.t 24], none⟩, ⟨(some 26), .load 2 true true
    (.t 3), none⟩, ⟨(some 27), .pcall 129 [.t 26], none⟩, ⟨(some 28), .pcall 124 [.t 25, .t 27], none⟩, ⟨(some 23), .mv (.t 28), none⟩, ⟨(some 29), .ext 0 (.t 23), none⟩,
   ⟨(some 30), .ext 1 (.t 23), none⟩, ⟨(some 7), .mv (.t 29), none⟩, ⟨(some 8), .mv (.t 30), none⟩]) (.seq (.keep [5, 6, 7, 8]) (.seq (.seq (.region 0 [⟨(some 9), .mv (.c
    (.int .i64 0)), none⟩]) (.block 0 (.loop [5, 6, 7, 8, 9] (.seq (.seq (.region 0 [⟨(some 31), .mv (.t 9), none⟩, ⟨(some 32), .bin .lss (.t 31) (.c (.int .i64 34)),
   none⟩]) (.cond (.t 32) (.skip) (.exit 0))) (.seq (.block 1 (.seq (.region 0 [⟨(some 35), .mv (.t 9), none⟩, ⟨(some 36), .iaddrA 34 1 (.t 5) (.t 35), none⟩, ⟨(some 37),
   .load 1 false true (.t 36), none⟩, ⟨(some 38), .mv (.t 7), none⟩, ⟨(some 39), .mv (.t 9), none⟩, ⟨(some 40), .iaddr 1 (.t 38) (.t 39), none⟩, ⟨(some 41),
   .load 1 false true (.t 40), none⟩, ⟨(some 42), .bin .neq (.t 37) (.t 41), none⟩]) (.seq (.keep [5, 6, 7, 8, 9, 42]) (.cond (.t 42) (.seq (.region 0 [⟨(some 4), .mv (.c
    (.bool false)), none⟩]) (.ret)) (.skip))))) (.seq (.keep [5, 6, 7, 8, 9]) (.region 0 [⟨(some 33), .mv (.t 9), none⟩, ⟨(some 34), .bin .add (.t 33) (.c (.int .i64 1)),
   none⟩, ⟨(some 9), .mv (.t 34), none⟩]))))))) (.seq (.keep [6, 8]) (.seq (.region 0 [⟨(some 43), .mv (.t 6), none⟩, ⟨(some 44), .mv (.t 8), none⟩, ⟨(some 45), .beq false
    (.t 43) (.t 44), none⟩, ⟨(some 46), .mv (.t 45), none⟩, ⟨(some 47), .pcall 131 [], (some (46, true))⟩, ⟨(some 48), .pick (.t 46) (.t 47) (.c (.bool false)), none⟩,
   ⟨(some 4), .mv (.t 48), none⟩]) (.ret)))))))))),
  [.tmp 4]⟩

/-- hurdle/hurdlelaw15.BitsExact -/
def c_hurdlelaw15_BitsExact : SFn := ⟨84,
  .seq (.region 3 [⟨(some 3), .box 0 (.t 0), none⟩, ⟨(some 4), .box 1 (.t 1), none⟩, ⟨(some 5), .box 2 (.t 2), none⟩, ⟨(some 6), .mv (.c (.bool false)), none⟩]) (.seq (.seq
    (.region 0 [⟨(some 17), .load 2 true false (.t 3), none⟩, ⟨(some 18), .pcall 128 [.t 17], none⟩, ⟨(some 19), .mv (.t 18), none⟩, ⟨(some 20), .load 2 true false
    (.t 4), (some (19, false))⟩, ⟨(some 21), .pcall 128 [.t 20], (some (19, false))⟩, ⟨(some 22), .pick (.t 19) (.c (.bool true)) (.t 21), none⟩, ⟨(some 23), .mv (.t 22),
   none⟩, ⟨(some 24), .load 2 true false (.t 3), (some (23, false))⟩, ⟨(some 25), .pcall 129 [.t 24], (some (23, false))⟩, ⟨(some 26), .pcall 115 [.t 25], (some (23,
   false))⟩, ⟨(some 27), .un .not (.t 26), (some (23, false))⟩, ⟨(some 28), .pick (.t 23) (.c (.bool true)) (.t 27), none⟩, ⟨(some 29), .mv (.t 28), none⟩, ⟨(some 30),
   .load 2 true false (.t 4), (some (29, false))⟩, ⟨(some 31), .pcall 129 [.t 30], (some (29, false))⟩, ⟨(some 32), .pcall 115 [.t 31], (some (29, false))⟩, ⟨(some 33),
   .un .not (.t 32), (some (29, false))⟩, ⟨(some 34), .pick (.t 29) (.c (.bool true)) (.t 33), none⟩]) (.seq (.keep [3, 4, 5, 34]) (.cond (.t 34) (.seq
    (.region 0 [⟨(some 35), .pcall 131 [], none⟩, ⟨(some 6), .mv (.t 35), none⟩]) (.ret)) (.skip)))) (.seq (.keep [3, 4, 5]) (.seq (.region 1 [⟨(some 37),
   .load 2 true false (.t 3), none⟩, ⟨(some 38), .load 2 true false (.t 4), none⟩, ⟨(some 39), .pcall 112 [.t 37, .t 38], none⟩, ⟨(some 36), .mv (.t 39), none⟩,
   ⟨(some 40), .ext 0 (.t 36), none⟩, ⟨(some 41), .ext 1 (.t 36), none⟩, ⟨(some 7), .alloc 0 (rep 34 (.int .u32 0)), none⟩, ⟨none, .store 34 (.t 7) (.t 40),
   none⟩, ⟨(some 8), .mv (.t 41), none⟩]) (.seq (.keep [3, 4, 5, 7, 8]) (.seq (.seq (.region 0 [⟨(some 42), .mv (.t 8), none⟩, ⟨(some 43), .load 2 true false (.t 3),
   none⟩, ⟨(some 44), .load 2 true false (.t 4), none⟩, ⟨(some 45), .pcall 111 [.t 43, .t 44], none⟩, ⟨(some 46), .beq false (.t 42) (.t 45), none⟩]) (.seq (.keep [3, 4,
   5, 7, 8, 46]) (.cond (.t 46) (.seq (.region 0 [⟨(some 6), .mv (.c (.bool false)), none⟩]) (.ret)) (.skip)))) (.seq (.keep [3, 4, 5, 7, 8]) (.seq (.seq
    (.region 0 [⟨(some 47), .mv (.t 8), none⟩]) (.cond (.t 47) (.seq (.region 0 [⟨(some 49), .load 2 true false (.t 3), none⟩, ⟨(some 50), .load 34 true false (.t 7),
   none⟩, ⟨(some 51), .pcall 110 [.t 49, .t 50], none⟩, ⟨(some 48), .mv (.t 51), none⟩, ⟨(some 52), .ext 0 (.t 48), none⟩, ⟨(some 53), .ext 1 (.t 48), none⟩, ⟨(some 9),
   .mv (.t 52), none⟩, ⟨(some 10), .mv (.t 53), none⟩]) (.seq (.keep [4, 7, 9]) (.seq (.region 0 [⟨(some 55), .load 2 true false (.t 4), none⟩, ⟨(some 56),
   .load 34 true false (.t 7), none⟩, ⟨(some 57), .pcall 110 [.t 55, .t 56], none⟩, ⟨(some 54), .mv (.t 57), none⟩, ⟨(some 58), .ext 0 (.t 54), none⟩, ⟨(some 59), .ext 1
    (.t 54), none⟩, ⟨(some 11), .mv (.t 58), none⟩, ⟨(some 12), .mv (.t 59), none⟩]) (.seq (.keep [9, 11]) (.seq (.region 0 [⟨(some 60), .mv (.t 9), none⟩, ⟨(some 61), .mv
    (.t 11), none⟩, ⟨(some 62), .bin .neq (.t 60) (.t 61), none⟩, ⟨(some 63), .mv (.t 62), none⟩, ⟨(some 64), .pcall 131 [], (some (63, true))⟩, ⟨(some 65), .pick (.t 63)
    (.t 64) (.c (.bool false)), none⟩, ⟨(some 6), .mv (.t 65), none⟩]) (.ret)))))) (.skip))) (.seq (.keep [3, 4, 5]) (.seq (.region 0 [⟨(some 67), .load 2 true false
    (.t 3), none⟩, ⟨(some 68), .load 34 true false (.t 5), none⟩, ⟨(some 69), .pcall 110 [.t 67, .t 68], none⟩, ⟨(some 66), .mv (.t 69), none⟩, ⟨(some 70), .ext 0
    (.t 66), none⟩, ⟨(some 71), .ext 1 (.t 66), none⟩, ⟨(some 13), .mv (.t 70), none⟩, ⟨(some 14), .mv (.t 71), none⟩]) (.seq (.keep [4, 5, 13]) (.seq
    (.region 0 [⟨(some 73), .load 2 true false (.t 4), none⟩, ⟨(some 74), .load 34 true false (.t 5), none⟩, ⟨(some 75), .pcall 110 [.t 73, .t 74], none⟩, ⟨(some 72), .mv
    (.t 75), none⟩, ⟨(some 76), .ext 0 (.t 72), none⟩, ⟨(some 77), .ext 1 (.t 72), none⟩, ⟨(some 15), .mv (.t 76), none⟩, ⟨(some 16), .mv (.t 77), none⟩]) (.seq
    (.keep [13, 15]) (.seq (.region 0 [⟨(some 78), .mv (.t 13), none⟩, ⟨(some 79), .mv (.t 15), none⟩, ⟨(some 80), .bin .eql (.t 78) (.t 79), none⟩, ⟨(some 81), .mv
    (.t 80), none⟩, ⟨(some 82), .pcall 131 [], (some (81, true))⟩, ⟨(some 83), .pick (.t 81) (.t 82) (.c (.bool false)), none⟩, ⟨(some 6), .mv (.t 83), none⟩])
    (.ret)))))))))))))),
  [.tmp 6]⟩

/-- A table that holds these. -/
structure HasLaw15 (G : Tbl) : Prop where
  h_hurdlelaw15_great : G 128 = some c_hurdlelaw15_great
  h_hurdlelaw15_As : G 129 = some c_hurdlelaw15_As
  h_hurdlelaw15_row : G 130 = some c_hurdlelaw15_row
  h_hurdlelaw15_knows : G 131 = some c_hurdlelaw15_knows
  h_hurdlelaw15_BitsDoes : G 132 = some c_hurdlelaw15_BitsDoes
  h_hurdlelaw15_BitsSelf : G 133 = some c_hurdlelaw15_BitsSelf
  h_hurdlelaw15_BitsForms : G 134 = some c_hurdlelaw15_BitsForms
  h_hurdlelaw15_BitsValues : G 135 = some c_hurdlelaw15_BitsValues
  h_hurdlelaw15_BitsApart : G 136 = some c_hurdlelaw15_BitsApart
  h_hurdlelaw15_BitsExact : G 137 = some c_hurdlelaw15_BitsExact

end Go.Ev
