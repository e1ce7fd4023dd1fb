/- Simplified code of Go functions, by scode.py. -/
import Derived.Test.YtpfmblidlbjcmaaDoorEvSymC
namespace Go.Ev

/-- hurdle/window.Run -/
def c_window_Run : SFn := ⟨39,
  .seq (.region 3 [⟨(some 4), .box 0 (.t 1), none⟩, ⟨(some 5), .box 1 (.t 2), none⟩, ⟨(some 6), .alloc 2 (rep 18 (.int .u32 0)), none⟩, ⟨(some 7), .mv (.c (.int .i64 0)),
   none⟩]) (.seq (.seq (.region 0 [⟨(some 12), .mv (.t 0), none⟩, ⟨(some 13), .pcall 202 [.t 12], none⟩, ⟨(some 14), .un .not (.t 13), none⟩]) (.cond (.t 14) (.seq
    (.region 0 [⟨(some 15), .load 18 true false (.t 4), none⟩, ⟨none, .store 18 (.t 6) (.t 15), none⟩, ⟨(some 7), .mv (.c (.int .i64 0)), none⟩]) (.ret)) (.skip))) (.seq
    (.keep [0, 4, 5, 6]) (.seq (.seq (.region 0 [⟨(some 16), .mv (.t 0), none⟩, ⟨(some 17), .len false (.t 16), none⟩, ⟨(some 18), .mv (.c (.int .i64 0)), none⟩])
    (.block 0 (.loop [0, 4, 5, 6, 16, 17, 18] (.seq (.region 0 [⟨(some 19), .bin .lss (.t 18) (.t 17), none⟩]) (.seq (.cond (.t 19) (.skip) (.exit 0)) (.seq (.block 1
    (.seq (.region 1 [⟨(some 20), .mv (.t 18), none⟩, ⟨(some 21), .iaddr 4 (.t 16) (.t 18), none⟩, ⟨(some 22), .load 4 true false (.t 21), none⟩, ⟨(some 9), .alloc 0
    ([.int .i64 0, .int .i64 0, .int .i64 0, .int .u32 0]), none⟩, ⟨(some 8), .mv (.t 20), none⟩, ⟨none, .store 4 (.t 9) (.t 22), none⟩]) (.seq (.keep [0, 4, 5, 6, 8, 9,
   16, 17, 18]) (.seq (.region 1 [⟨(some 24), .load 18 true false (.t 4), none⟩, ⟨(some 25), .load 4 true false (.t 9), none⟩, ⟨(some 26), .load 9 true false (.t 5),
   none⟩, ⟨(some 27), .pcall 164 [.t 24, .t 25, .t 26], none⟩, ⟨(some 23), .mv (.t 27), none⟩, ⟨(some 28), .ext 0 (.t 23), none⟩, ⟨(some 29), .ext 1 (.t 23), none⟩,
   ⟨(some 10), .alloc 0 (rep 18 (.int .u32 0)), none⟩, ⟨none, .store 18 (.t 10) (.t 28), none⟩, ⟨(some 11), .mv (.t 29), none⟩]) (.seq (.keep [0, 4, 5, 6, 8, 10, 11, 16,
   17, 18]) (.seq (.seq (.region 0 [⟨(some 30), .mv (.t 11), none⟩, ⟨(some 31), .un .not (.t 30), none⟩]) (.cond (.t 31) (.seq (.region 0 [⟨(some 32), .load 18 true false
    (.t 4), none⟩, ⟨(some 33), .mv (.t 8), none⟩, ⟨none, .store 18 (.t 6) (.t 32), none⟩, ⟨(some 7), .mv (.t 33), none⟩]) (.ret)) (.skip))) (.seq (.keep [0, 4, 5, 6, 10,
   16, 17, 18]) (.region 0 [⟨(some 34), .load 18 true false (.t 10), none⟩, ⟨none, .store 18 (.t 4) (.t 34), none⟩])))))))) (.seq (.keep [0, 4, 5, 6, 16, 17, 18])
    (.region 0 [⟨(some 35), .bin .add (.t 18) (.c (.int .i64 1)), none⟩, ⟨(some 18), .mv (.t 35), none⟩])))))))) (.seq (.keep [0, 4, 6]) (.seq (.region 0 [⟨(some 36),
   .load 18 true false (.t 4), none⟩, ⟨(some 37), .mv (.t 0), none⟩, ⟨(some 38), .len false (.t 37), none⟩, ⟨none, .store 18 (.t 6) (.t 36), none⟩, ⟨(some 7), .mv
    (.t 38), none⟩]) (.ret)))))),
  [.cell 6 18 true, .tmp 7]⟩

/-- hurdle/window.Assign -/
def c_window_Assign : SFn := ⟨33,
  .seq (.region 3 [⟨(some 2), .box 0 (.t 0), none⟩, ⟨(some 3), .box 1 (.t 1), none⟩, ⟨(some 4), .alloc 2 (rep 34 (.int .u32 0)), none⟩]) (.seq (.region 1 [⟨(some 5),
   .alloc 0 (rep 34 (.int .u32 0)), none⟩]) (.seq (.region 0 [⟨(some 7), .faddr 0 (.t 2), none⟩, ⟨(some 8), .load 1 false false (.t 7), none⟩, ⟨(some 9), .faddr 1 (.t 2),
   none⟩, ⟨(some 10), .load 1 false false (.t 9), none⟩, ⟨(some 11), .iaddrA 34 1 (.t 5) (.c (.int .i64 0)), none⟩, ⟨none, .store 1 (.t 11) (.t 8), none⟩, ⟨(some 12),
   .iaddrA 34 1 (.t 5) (.c (.int .i64 1)), none⟩, ⟨none, .store 1 (.t 12) (.t 10), none⟩]) (.seq (.keep [2, 3, 4, 5]) (.seq (.region 0 [⟨(some 13), .slcA 34 1 (.t 5)
    (some (.c (.int .i64 2))) none, none⟩, ⟨(some 14), .faddr 2 (.t 2), none⟩, ⟨(some 15), .slcA 16 1 (.t 14) none none, none⟩, ⟨(some 16), .cpy 1 (.t 13) (.t 15), none⟩])
    (.seq (.keep [3, 4, 5]) (.seq (.seq (.region 0 [⟨(some 17), .mv (.c (.int .i64 0)), none⟩]) (.block 0 (.loop [3, 4, 5, 17] (.seq (.region 0 [⟨(some 18), .bin .lss
    (.t 17) (.c (.int .i64 16)), none⟩]) (.seq (.cond (.t 18) (.skip) (.exit 0)) (.seq (.block 1 (.seq (.region 0 [⟨(some 19), .mv (.t 17), none⟩, ⟨(some 6), .mv (.t 19),
   none⟩]) (.region 0 [⟨(some 21), .mv (.t 6), none⟩, ⟨(some 22), .bin .add (.c (.int .i64 18)) (.t 21), none⟩, ⟨(some 23), .load 9 true false (.t 3), none⟩, ⟨(some 24),
   .mv (.t 6), none⟩, ⟨(some 25), .bin .mul (.c (.int .i64 4)) (.t 24), none⟩, ⟨(some 26), .conv .u32 (.t 25), none⟩, ⟨(some 27), .pcall 161 [.t 23, .t 26], none⟩,
   ⟨(some 20), .mv (.t 27), none⟩, ⟨(some 28), .ext 0 (.t 20), none⟩, ⟨(some 29), .ext 1 (.t 20), none⟩, ⟨(some 30), .iaddrA 34 1 (.t 5) (.t 22), none⟩, ⟨none, .store 1
    (.t 30) (.t 28), none⟩]))) (.seq (.keep [3, 4, 5, 17]) (.region 0 [⟨(some 31), .bin .add (.t 17) (.c (.int .i64 1)), none⟩, ⟨(some 17), .mv (.t 31), none⟩]))))))))
    (.seq (.keep [4, 5]) (.seq (.region 0 [⟨(some 32), .load 34 true false (.t 5), none⟩, ⟨none, .store 34 (.t 4) (.t 32), none⟩]) (.ret))))))))),
  [.cell 4 34 true]⟩

/-- hurdle/window.State -/
def c_window_State : SFn := ⟨31,
  .seq (.region 3 [⟨(some 1), .box 0 (.t 0), none⟩, ⟨(some 2), .alloc 1 (rep 18 (.int .u32 0)), none⟩, ⟨(some 3), .alloc 2 ([.int .u32 0, .int .u32 0, .int .u64 0,
   .int .u64 0, .int .u64 0, .int .u64 0, .int .u64 0, .int .u64 0, .int .u64 0]), none⟩]) (.seq (.region 1 [⟨(some 7), .iaddrA 34 1 (.t 1) (.c (.int .i64 0)), none⟩,
   ⟨(some 8), .load 1 false false (.t 7), none⟩, ⟨(some 9), .iaddrA 34 1 (.t 1) (.c (.int .i64 1)), none⟩, ⟨(some 10), .load 1 false false (.t 9), none⟩, ⟨(some 11),
   .build (rep 18 (.int .u32 0)) [(0, 1, .t 8), (1, 1, .t 10)], none⟩, ⟨(some 4), .alloc 0 (rep 18 (.int .u32 0)), none⟩, ⟨none, .store 18 (.t 4) (.t 11), none⟩]) (.seq
    (.keep [1, 2, 3, 4]) (.seq (.region 0 [⟨(some 12), .faddr 2 (.t 4), none⟩, ⟨(some 13), .slcA 16 1 (.t 12) none none, none⟩, ⟨(some 14), .slcA 34 1 (.t 1) (some (.c
    (.int .i64 2))) (some (.c (.int .i64 18))), none⟩, ⟨(some 15), .cpy 1 (.t 13) (.t 14), none⟩]) (.seq (.keep [1, 2, 3, 4]) (.seq (.region 1 [⟨(some 5), .alloc 0
    ([.int .u32 0, .int .u32 0, .int .u64 0, .int .u64 0, .int .u64 0, .int .u64 0, .int .u64 0, .int .u64 0, .int .u64 0]), none⟩]) (.seq (.seq (.region 0 [⟨(some 16),
   .mv (.c (.int .i64 0)), none⟩]) (.block 0 (.loop [1, 2, 3, 4, 5, 16] (.seq (.region 0 [⟨(some 17), .bin .lss (.t 16) (.c (.int .i64 16)), none⟩]) (.seq (.cond (.t 17)
    (.skip) (.exit 0)) (.seq (.block 1 (.seq (.region 0 [⟨(some 18), .mv (.t 16), none⟩, ⟨(some 6), .mv (.t 18), none⟩]) (.region 0 [⟨(some 19), .load 9 true true (.t 5),
   none⟩, ⟨(some 20), .mv (.t 6), none⟩, ⟨(some 21), .bin .mul (.c (.int .i64 4)) (.t 20), none⟩, ⟨(some 22), .conv .u32 (.t 21), none⟩, ⟨(some 23), .mv (.t 6), none⟩,
   ⟨(some 24), .bin .add (.c (.int .i64 18)) (.t 23), none⟩, ⟨(some 25), .iaddrA 34 1 (.t 1) (.t 24), none⟩, ⟨(some 26), .load 1 false true (.t 25), none⟩, ⟨(some 27),
   .pcall 233 [.t 19, .t 22, .t 26], none⟩, ⟨none, .store 9 (.t 5) (.t 27), none⟩]))) (.seq (.keep [1, 2, 3, 4, 5, 16]) (.region 0 [⟨(some 28), .bin .add (.t 16) (.c
    (.int .i64 1)), none⟩, ⟨(some 16), .mv (.t 28), none⟩])))))))) (.seq (.keep [2, 3, 4, 5]) (.seq (.region 0 [⟨(some 29), .loadR 18 true 4 (.t 4), none⟩, ⟨(some 30),
   .loadR 9 true 5 (.t 5), none⟩, ⟨none, .storeA 18 [4, 5] (.t 2) (.t 29), none⟩, ⟨none, .storeA 9 [4, 5] (.t 3) (.t 30), none⟩]) (.ret))))))))),
  [.cell 2 18 true, .cell 3 9 true]⟩

/-- hurdle/window.step -/
def c_window_step : SFn := ⟨158,
  .seq (.region 3 [⟨(some 4), .box 0 (.t 1), none⟩, ⟨(some 5), .box 1 (.t 2), none⟩, ⟨(some 6), .alloc 2 ([.int .i64 0, .int .i64 0, .int .i64 0, .int .i64 0, .int .i64 0,
   .int .i64 0, .int .i64 0, .int .i64 0, .int .i64 0, .int .i64 0, .int .i64 0, .int .i64 0, .int .i64 0, .int .i64 0, .int .i64 0, .int .i64 0, .int .i64 0, .int .i64 0,
   .vs [] .full]), none⟩]) (.seq (.region 0 [⟨(some 13), .faddr 0 (.t 4), none⟩, ⟨(some 7), .mv (.t 13), none⟩]) (.seq (.seq (.region 0 [⟨(some 15), .load 4 true false
    (.t 5), none⟩, ⟨(some 16), .pcall 141 [.t 15], none⟩, ⟨(some 14), .mv (.t 16), none⟩, ⟨(some 17), .ext 0 (.t 14), none⟩, ⟨(some 18), .ext 1 (.t 14), none⟩, ⟨(some 19),
   .ext 2 (.t 14), none⟩, ⟨(some 8), .mv (.t 17), none⟩, ⟨(some 9), .mv (.t 18), none⟩, ⟨(some 10), .mv (.t 19), none⟩]) (.seq (.keep [0, 4, 5, 6, 7, 8, 9, 10]) (.seq
    (.region 0 [⟨(some 20), .mv (.t 10), none⟩]) (.cond (.t 20) (.seq (.region 0 [⟨(some 21), .mv (.t 7), none⟩, ⟨(some 22), .nilck (.t 21), none⟩, ⟨(some 23),
   .iaddrA 18 1 (.t 22) (.c (.int .i64 1)), none⟩, ⟨(some 24), .load 1 false false (.t 23), none⟩, ⟨(some 11), .mv (.t 24), none⟩]) (.seq (.keep [0, 4, 5, 6, 7, 8, 9, 11])
    (.seq (.seq (.region 0 [⟨(some 25), .mv (.t 9), none⟩, ⟨(some 26), .un .not (.t 25), none⟩]) (.cond (.t 26) (.region 0 [⟨(some 27), .mv (.t 0), none⟩, ⟨(some 28),
   .faddr 3 (.t 5), none⟩, ⟨(some 29), .load 1 false false (.t 28), none⟩, ⟨(some 30), .scall 262 [.t 27, .t 29], none⟩, ⟨(some 11), .mv (.t 30), none⟩]) (.seq
    (.region 0 [⟨(some 31), .mv (.t 8), none⟩, ⟨(some 32), .bin .eql (.t 31) (.c (.int .i64 52)), none⟩]) (.cond (.t 32) (.region 1 [⟨(some 33), .faddr 18 (.t 4), none⟩,
   ⟨(some 34), .load 1 false false (.t 33), none⟩, ⟨(some 35), .mv (.t 11), none⟩, ⟨(some 36), .bslice 1 ([.int .i64 0]) [(0, .t 35)], none⟩, ⟨(some 37), .app 0 1 8
    (.t 34) (.t 36), none⟩, ⟨(some 38), .faddr 18 (.t 4), none⟩, ⟨none, .store 1 (.t 38) (.t 37), none⟩]) (.skip))))) (.seq (.keep [0, 4, 6, 7, 8, 11]) (.seq
    (.region 0 [⟨(some 39), .mv (.t 7), none⟩, ⟨(some 40), .mv (.t 0), none⟩, ⟨(some 41), .mv (.t 8), none⟩, ⟨(some 42), .mv (.t 7), none⟩, ⟨(some 43), .nilck (.t 42),
   none⟩, ⟨(some 44), .iaddrA 18 1 (.t 43) (.c (.int .i64 0)), none⟩, ⟨(some 45), .load 1 false true (.t 44), none⟩, ⟨(some 46), .mv (.t 11), none⟩, ⟨(some 47),
   .scall 274 [.t 40, .t 41, .t 45, .t 46], none⟩, ⟨(some 48), .nilck (.t 39), none⟩, ⟨(some 49), .iaddrA 18 1 (.t 48) (.c (.int .i64 0)), none⟩, ⟨none, .store 1 (.t 49)
    (.t 47), none⟩]) (.seq (.keep [4, 6]) (.seq (.region 0 [⟨(some 50), .load 19 true false (.t 4), none⟩, ⟨none, .store 19 (.t 6) (.t 50), none⟩]) (.ret))))))))
    (.skip))))) (.seq (.keep [0, 4, 5, 6, 7]) (.seq (.region 0 [⟨(some 51), .faddr 3 (.t 5), none⟩, ⟨(some 52), .load 1 false false (.t 51), none⟩, ⟨(some 53), .conv .i64
    (.t 52), none⟩, ⟨(some 12), .mv (.t 53), none⟩]) (.seq (.keep [0, 4, 5, 6, 7, 12]) (.seq (.seq (.region 0 [⟨(some 54), .faddr 0 (.t 5), none⟩, ⟨(some 55),
   .load 1 false false (.t 54), none⟩]) (.block 0 (.seq (.block 10 (.seq (.block 9 (.seq (.block 8 (.seq (.block 7 (.seq (.block 6 (.seq (.block 5 (.seq (.block 4 (.seq
    (.block 3 (.seq (.block 2 (.seq (.block 1 (.seq (.seq (.seq (.region 0 [⟨(some 57), .bin .eql (.t 55) (.c (.int .i64 0)), none⟩, ⟨(some 56), .mv (.t 57), none⟩])
    (.cond (.t 56) (.exit 1) (.skip))) (.seq (.seq (.region 0 [⟨(some 59), .bin .eql (.t 55) (.c (.int .i64 1)), none⟩, ⟨(some 58), .mv (.t 59), none⟩]) (.cond (.t 58)
    (.exit 2) (.skip))) (.seq (.seq (.region 0 [⟨(some 61), .bin .eql (.t 55) (.c (.int .i64 32)), none⟩, ⟨(some 60), .mv (.t 61), none⟩]) (.cond (.t 60) (.exit 3)
    (.skip))) (.seq (.seq (.region 0 [⟨(some 63), .bin .eql (.t 55) (.c (.int .i64 96)), none⟩, ⟨(some 62), .mv (.t 63), none⟩]) (.cond (.t 62) (.exit 4) (.skip))) (.seq
    (.seq (.region 0 [⟨(some 65), .bin .eql (.t 55) (.c (.int .i64 97)), none⟩, ⟨(some 64), .mv (.t 65), none⟩]) (.cond (.t 64) (.exit 5) (.skip))) (.seq (.seq
    (.region 0 [⟨(some 67), .bin .eql (.t 55) (.c (.int .i64 2)), none⟩, ⟨(some 66), .mv (.t 67), none⟩]) (.cond (.t 66) (.exit 6) (.skip))) (.seq (.seq
    (.region 0 [⟨(some 69), .bin .eql (.t 55) (.c (.int .i64 3)), none⟩, ⟨(some 68), .mv (.t 69), none⟩]) (.cond (.t 68) (.exit 7) (.skip))) (.seq (.seq
    (.region 0 [⟨(some 71), .bin .eql (.t 55) (.c (.int .i64 132)), none⟩, ⟨(some 70), .mv (.t 71), none⟩]) (.cond (.t 70) (.exit 8) (.skip))) (.seq (.seq
    (.region 0 [⟨(some 73), .bin .eql (.t 55) (.c (.int .i64 7)), none⟩, ⟨(some 72), .mv (.t 73), none⟩]) (.cond (.t 72) (.exit 9) (.skip))) (.seq (.region 0 [⟨(some 75),
   .bin .eql (.t 55) (.c (.int .i64 135)), none⟩, ⟨(some 74), .mv (.t 75), none⟩]) (.cond (.t 74) (.exit 10) (.skip)))))))))))) (.seq (.keep [4, 6]) (.exit 0)))) (.seq
    (.keep [0, 4, 5, 6, 7]) (.seq (.region 0 [⟨(some 76), .mv (.t 7), none⟩, ⟨(some 77), .mv (.t 0), none⟩, ⟨(some 78), .faddr 3 (.t 5), none⟩, ⟨(some 79),
   .load 1 false true (.t 78), none⟩, ⟨(some 80), .scall 262 [.t 77, .t 79], none⟩, ⟨(some 81), .nilck (.t 76), none⟩, ⟨(some 82), .iaddrA 18 1 (.t 81) (.c
    (.int .i64 0)), none⟩, ⟨none, .store 1 (.t 82) (.t 80), none⟩]) (.seq (.keep [4, 6]) (.exit 0)))))) (.seq (.keep [0, 4, 5, 6, 7]) (.seq (.region 0 [⟨(some 83), .mv
    (.t 7), none⟩, ⟨(some 84), .mv (.t 0), none⟩, ⟨(some 85), .faddr 3 (.t 5), none⟩, ⟨(some 86), .load 1 false true (.t 85), none⟩, ⟨(some 87), .scall 262 [.t 84, .t 86],
   none⟩, ⟨(some 88), .nilck (.t 83), none⟩, ⟨(some 89), .iaddrA 18 1 (.t 88) (.c (.int .i64 1)), none⟩, ⟨none, .store 1 (.t 89) (.t 87), none⟩]) (.seq (.keep [4, 6])
    (.exit 0)))))) (.seq (.keep [0, 4, 6, 7, 12]) (.seq (.region 0 [⟨(some 90), .mv (.t 7), none⟩, ⟨(some 91), .mv (.t 0), none⟩, ⟨(some 92), .mv (.t 12), none⟩,
   ⟨(some 93), .bin .quo (.t 92) (.c (.int .i64 4)), none⟩, ⟨(some 94), .bin .add (.c (.int .i64 18)) (.t 93), none⟩, ⟨(some 95), .scall 263 [.t 91, .t 94], none⟩,
   ⟨(some 96), .nilck (.t 90), none⟩, ⟨(some 97), .iaddrA 18 1 (.t 96) (.c (.int .i64 0)), none⟩, ⟨none, .store 1 (.t 97) (.t 95), none⟩]) (.seq (.keep [4, 6])
    (.exit 0)))))) (.seq (.keep [4, 6, 7, 12]) (.seq (.region 0 [⟨(some 98), .mv (.t 7), none⟩, ⟨(some 99), .mv (.t 7), none⟩, ⟨(some 100), .mv (.t 12), none⟩,
   ⟨(some 101), .bin .add (.c (.int .i64 2)) (.t 100), none⟩, ⟨(some 102), .nilck (.t 99), none⟩, ⟨(some 103), .iaddrA 18 1 (.t 102) (.t 101), none⟩, ⟨(some 104),
   .load 1 false true (.t 103), none⟩, ⟨(some 105), .nilck (.t 98), none⟩, ⟨(some 106), .iaddrA 18 1 (.t 105) (.c (.int .i64 0)), none⟩, ⟨none, .store 1 (.t 106)
    (.t 104), none⟩]) (.seq (.keep [4, 6]) (.exit 0)))))) (.seq (.keep [4, 6, 7, 12]) (.seq (.region 0 [⟨(some 107), .mv (.t 7), none⟩, ⟨(some 108), .mv (.t 7), none⟩,
   ⟨(some 109), .mv (.t 12), none⟩, ⟨(some 110), .bin .add (.c (.int .i64 2)) (.t 109), none⟩, ⟨(some 111), .nilck (.t 108), none⟩, ⟨(some 112), .iaddrA 18 1 (.t 111)
    (.t 110), none⟩, ⟨(some 113), .load 1 false true (.t 112), none⟩, ⟨(some 114), .nilck (.t 107), none⟩, ⟨(some 115), .iaddrA 18 1 (.t 114) (.c (.int .i64 1)), none⟩,
   ⟨none, .store 1 (.t 115) (.t 113), none⟩]) (.seq (.keep [4, 6]) (.exit 0)))))) (.seq (.keep [4, 6, 7, 12]) (.seq (.region 0 [⟨(some 116), .mv (.t 7), none⟩,
   ⟨(some 117), .mv (.t 12), none⟩, ⟨(some 118), .bin .add (.c (.int .i64 2)) (.t 117), none⟩, ⟨(some 119), .mv (.t 7), none⟩, ⟨(some 120), .nilck (.t 119), none⟩,
   ⟨(some 121), .iaddrA 18 1 (.t 120) (.c (.int .i64 0)), none⟩, ⟨(some 122), .load 1 false true (.t 121), none⟩, ⟨(some 123), .nilck (.t 116), none⟩, ⟨(some 124),
   .iaddrA 18 1 (.t 123) (.t 118), none⟩, ⟨none, .store 1 (.t 124) (.t 122), none⟩]) (.seq (.keep [4, 6]) (.exit 0)))))) (.seq (.keep [4, 6, 7, 12]) (.seq
    (.region 0 [⟨(some 125), .mv (.t 7), none⟩, ⟨(some 126), .mv (.t 12), none⟩, ⟨(some 127), .bin .add (.c (.int .i64 2)) (.t 126), none⟩, ⟨(some 128), .mv (.t 7), none⟩,
   ⟨(some 129), .nilck (.t 128), none⟩, ⟨(some 130), .iaddrA 18 1 (.t 129) (.c (.int .i64 1)), none⟩, ⟨(some 131), .load 1 false true (.t 130), none⟩, ⟨(some 132), .nilck
    (.t 125), none⟩, ⟨(some 133), .iaddrA 18 1 (.t 132) (.t 127), none⟩, ⟨none, .store 1 (.t 133) (.t 131), none⟩]) (.seq (.keep [4, 6]) (.exit 0)))))) (.seq (.keep [0, 4,
   6, 7]) (.seq (.region 0 [⟨(some 134), .mv (.t 7), none⟩, ⟨(some 135), .mv (.t 0), none⟩, ⟨(some 136), .mv (.t 7), none⟩, ⟨(some 137), .nilck (.t 136), none⟩,
   ⟨(some 138), .iaddrA 18 1 (.t 137) (.c (.int .i64 0)), none⟩, ⟨(some 139), .load 1 false true (.t 138), none⟩, ⟨(some 140), .scall 275 [.t 135, .t 139], none⟩,
   ⟨(some 141), .nilck (.t 134), none⟩, ⟨(some 142), .iaddrA 18 1 (.t 141) (.c (.int .i64 0)), none⟩, ⟨none, .store 1 (.t 142) (.t 140), none⟩]) (.seq (.keep [4, 6])
    (.exit 0)))))) (.seq (.keep [4, 6, 7]) (.region 0 [⟨(some 143), .mv (.t 7), none⟩, ⟨(some 144), .mv (.t 7), none⟩, ⟨(some 145), .nilck (.t 144), none⟩, ⟨(some 146),
   .iaddrA 18 1 (.t 145) (.c (.int .i64 0)), none⟩, ⟨(some 147), .load 1 false true (.t 146), none⟩, ⟨(some 148), .nilck (.t 143), none⟩, ⟨(some 149), .iaddrA 18 1
    (.t 148) (.c (.int .i64 1)), none⟩, ⟨none, .store 1 (.t 149) (.t 147), none⟩])))) (.seq (.keep [4, 6, 7]) (.seq (.region 0 [⟨(some 150), .mv (.t 7), none⟩,
   ⟨(some 151), .mv (.t 7), none⟩, ⟨(some 152), .nilck (.t 151), none⟩, ⟨(some 153), .iaddrA 18 1 (.t 152) (.c (.int .i64 1)), none⟩, ⟨(some 154), .load 1 false true
    (.t 153), none⟩, ⟨(some 155), .nilck (.t 150), none⟩, ⟨(some 156), .iaddrA 18 1 (.t 155) (.c (.int .i64 0)), none⟩, ⟨none, .store 1 (.t 156) (.t 154), none⟩]) (.seq
    (.keep [4, 6]) (.exit 0))))))) (.seq (.keep [4, 6]) (.seq (.region 0 [⟨(some 157), .load 19 true false (.t 4), none⟩, ⟨none, .store 19 (.t 6) (.t 157), none⟩])
    (.ret))))))))),
  [.cell 6 19 true]⟩

/-- hurdle/window.Of -/
def c_window_Of : SFn := ⟨40,
  .seq (.region 1 [⟨(some 4), .alloc 0 ([.int .i64 0, .int .i64 0, .int .i64 0, .int .i64 0, .int .i64 0, .int .i64 0, .int .i64 0, .int .i64 0, .int .i64 0, .int .i64 0,
   .int .i64 0, .int .i64 0, .int .i64 0, .int .i64 0, .int .i64 0, .int .i64 0, .int .i64 0, .int .i64 0, .vs [] .full]), none⟩, ⟨(some 5), .mv (.c (.bool false)),
   none⟩]) (.seq (.seq (.region 0 [⟨(some 10), .mv (.t 0), none⟩, ⟨(some 11), .nileq 1 false (.t 10), none⟩, ⟨(some 12), .mv (.t 11), none⟩, ⟨(some 13), .mv (.t 1), (some
    (12, false))⟩, ⟨(some 14), .pcall 202 [.t 13], (some (12, false))⟩, ⟨(some 15), .un .not (.t 14), (some (12, false))⟩, ⟨(some 16), .pick (.t 12) (.c (.bool true))
    (.t 15), none⟩]) (.seq (.keep [0, 1, 4, 16]) (.cond (.t 16) (.seq (.region 0 [⟨(some 17), .build ([.int .i64 0, .int .i64 0, .int .i64 0, .int .i64 0, .int .i64 0,
   .int .i64 0, .int .i64 0, .int .i64 0, .int .i64 0, .int .i64 0, .int .i64 0, .int .i64 0, .int .i64 0, .int .i64 0, .int .i64 0, .int .i64 0, .int .i64 0, .int .i64 0,
   .vs [] .full]) [], none⟩, ⟨none, .store 19 (.t 4) (.t 17), none⟩, ⟨(some 5), .mv (.c (.bool false)), none⟩]) (.ret)) (.skip)))) (.seq (.keep [0, 1, 4]) (.seq
    (.region 1 [⟨(some 6), .alloc 0 ([.int .i64 0, .int .i64 0, .int .i64 0, .int .i64 0, .int .i64 0, .int .i64 0, .int .i64 0, .int .i64 0, .int .i64 0, .int .i64 0,
   .int .i64 0, .int .i64 0, .int .i64 0, .int .i64 0, .int .i64 0, .int .i64 0, .int .i64 0, .int .i64 0, .vs [] .full]), none⟩]) (.seq (.seq (.region 0 [⟨(some 18), .mv
    (.c (.int .i64 0)), none⟩]) (.block 0 (.loop [0, 1, 4, 6, 18] (.seq (.region 0 [⟨(some 19), .bin .lss (.t 18) (.c (.int .i64 18)), none⟩]) (.seq (.cond (.t 19)
    (.skip) (.exit 0)) (.seq (.block 1 (.seq (.region 0 [⟨(some 20), .mv (.t 18), none⟩, ⟨(some 7), .mv (.t 20), none⟩]) (.region 0 [⟨(some 21), .mv (.t 7), none⟩,
   ⟨(some 22), .mv (.t 0), none⟩, ⟨(some 23), .mv (.t 7), none⟩, ⟨(some 24), .scall 263 [.t 22, .t 23], none⟩, ⟨(some 25), .faddr 0 (.t 6), none⟩, ⟨(some 26), .iaddrA 18 1
    (.t 25) (.t 21), none⟩, ⟨none, .store 1 (.t 26) (.t 24), none⟩]))) (.seq (.keep [0, 1, 4, 6, 18]) (.region 0 [⟨(some 27), .bin .add (.t 18) (.c (.int .i64 1)), none⟩,
   ⟨(some 18), .mv (.t 27), none⟩])))))))) (.seq (.keep [0, 1, 4, 6]) (.seq (.seq (.region 0 [⟨(some 28), .mv (.t 1), none⟩, ⟨(some 29), .len false (.t 28), none⟩,
   ⟨(some 30), .mv (.c (.int .i64 0)), none⟩]) (.block 2 (.loop [0, 4, 6, 28, 29, 30] (.seq (.region 0 [⟨(some 31), .bin .lss (.t 30) (.t 29), none⟩]) (.seq (.cond
    (.t 31) (.skip) (.exit 2)) (.seq (.block 3 (.seq (.region 1 [⟨(some 32), .iaddr 4 (.t 28) (.t 30), none⟩, ⟨(some 33), .load 4 true false (.t 32), none⟩, ⟨(some 9),
   .alloc 0 ([.int .i64 0, .int .i64 0, .int .i64 0, .int .u32 0]), none⟩, ⟨none, .store 4 (.t 9) (.t 33), none⟩]) (.region 0 [⟨(some 34), .mv (.t 0), none⟩, ⟨(some 35),
   .load 19 true false (.t 6), none⟩, ⟨(some 36), .load 4 true false (.t 9), none⟩, ⟨(some 37), .scall 295 [.t 34, .t 35, .t 36], none⟩, ⟨none, .store 19 (.t 6) (.t 37),
   none⟩]))) (.seq (.keep [0, 4, 6, 28, 29, 30]) (.region 0 [⟨(some 38), .bin .add (.t 30) (.c (.int .i64 1)), none⟩, ⟨(some 30), .mv (.t 38), none⟩])))))))) (.seq
    (.keep [4, 6]) (.seq (.region 0 [⟨(some 39), .load 19 true false (.t 6), none⟩, ⟨none, .store 19 (.t 4) (.t 39), none⟩, ⟨(some 5), .mv (.c (.bool true)), none⟩])
    (.ret))))))))),
  [.cell 4 19 true, .tmp 5]⟩

/-- hurdle/hurdleref17.Run -/
def c_hurdleref17_Run : SFn := ⟨37,
  .seq (.region 3 [⟨(some 4), .box 0 (.t 1), none⟩, ⟨(some 5), .box 1 (.t 2), none⟩, ⟨(some 6), .alloc 2 (rep 18 (.int .u32 0)), none⟩, ⟨(some 7), .mv (.c (.int .i64 0)),
   none⟩]) (.seq (.region 0 [⟨(some 8), .mv (.c (.int .i64 0)), none⟩]) (.seq (.seq (.region 0 [⟨(some 9), .mv (.c (.int .i64 0)), none⟩]) (.block 0 (.loop [0, 4, 5, 6, 8,
   9] (.seq (.seq (.region 0 [⟨(some 12), .mv (.t 9), none⟩, ⟨(some 13), .mv (.t 0), none⟩, ⟨(some 14), .len false (.t 13), none⟩, ⟨(some 15), .bin .lss (.t 12) (.t 14),
   none⟩]) (.seq (.keep [0, 4, 5, 6, 8, 9, 15]) (.cond (.t 15) (.skip) (.exit 0)))) (.seq (.keep [0, 4, 5, 6, 8, 9]) (.seq (.block 1 (.seq (.region 1 [⟨(some 19),
   .load 18 true true (.t 4), none⟩, ⟨(some 20), .mv (.t 0), none⟩, ⟨(some 21), .mv (.t 9), none⟩, ⟨(some 22), .iaddr 4 (.t 20) (.t 21), none⟩, ⟨(some 23),
   .load 4 true true (.t 22), none⟩, ⟨(some 24), .load 9 true true (.t 5), none⟩, ⟨(some 25), .pcall 190 [.t 19, .t 23, .t 24], none⟩, ⟨(some 18), .mv (.t 25), none⟩,
   ⟨(some 26), .ext 0 (.t 18), none⟩, ⟨(some 27), .ext 1 (.t 18), none⟩, ⟨(some 10), .alloc 0 (rep 18 (.int .u32 0)), none⟩, ⟨none, .store 18 (.t 10) (.t 26), none⟩,
   ⟨(some 11), .mv (.t 27), none⟩]) (.seq (.keep [0, 4, 5, 6, 8, 9, 10, 11]) (.seq (.seq (.region 0 [⟨(some 28), .mv (.t 11), none⟩, ⟨(some 29), .un .not (.t 28), none⟩])
    (.cond (.t 29) (.seq (.region 0 [⟨(some 30), .load 18 true false (.t 4), none⟩, ⟨(some 31), .mv (.t 8), none⟩, ⟨none, .store 18 (.t 6) (.t 30), none⟩, ⟨(some 7), .mv
    (.t 31), none⟩]) (.ret)) (.skip))) (.seq (.keep [0, 4, 5, 6, 8, 9, 10]) (.seq (.region 0 [⟨(some 32), .load 18 true false (.t 10), none⟩, ⟨none, .store 18 (.t 4)
    (.t 32), none⟩]) (.region 0 [⟨(some 33), .mv (.t 8), none⟩, ⟨(some 34), .bin .add (.t 33) (.c (.int .i64 1)), none⟩, ⟨(some 8), .mv (.t 34), none⟩]))))))) (.seq
    (.keep [0, 4, 5, 6, 8, 9]) (.region 0 [⟨(some 16), .mv (.t 9), none⟩, ⟨(some 17), .bin .add (.t 16) (.c (.int .i64 1)), none⟩, ⟨(some 9), .mv (.t 17), none⟩]))))))))
    (.seq (.keep [4, 6, 8]) (.seq (.region 0 [⟨(some 35), .load 18 true false (.t 4), none⟩, ⟨(some 36), .mv (.t 8), none⟩, ⟨none, .store 18 (.t 6) (.t 35), none⟩,
   ⟨(some 7), .mv (.t 36), none⟩]) (.ret))))),
  [.cell 6 18 true, .tmp 7]⟩

/-- hurdle/hurdleref17.Assign -/
def c_hurdleref17_Assign : SFn := ⟨41,
  .seq (.region 2 [⟨(some 2), .box 0 (.t 0), none⟩, ⟨(some 3), .box 1 (.t 1), none⟩, ⟨(some 4), .mv (.c (.vs [] .full)), none⟩]) (.seq (.region 0 [⟨(some 10), .faddr 0
    (.t 2), none⟩, ⟨(some 11), .load 1 false false (.t 10), none⟩, ⟨(some 12), .faddr 1 (.t 2), none⟩, ⟨(some 13), .load 1 false false (.t 12), none⟩, ⟨(some 14),
   .bslice 2 ([.int .u32 0]) [(0, .t 11), (1, .t 13)], none⟩, ⟨(some 5), .mv (.t 14), none⟩]) (.seq (.keep [2, 3, 5]) (.seq (.seq (.region 0 [⟨(some 6), .mv (.c
    (.int .i64 0)), none⟩]) (.seq (.give 5 none) (.block 0 (.loop [2, 3, 5, 6] (.seq (.seq (.region 0 [⟨(some 15), .mv (.t 6), none⟩, ⟨(some 16), .bin .lss (.t 15) (.c
    (.int .i64 16)), none⟩]) (.cond (.t 16) (.skip) (.exit 0))) (.seq (.block 1 (.region 1 [⟨(some 19), .mv (.t 5), none⟩, ⟨(some 20), .mv (.t 6), none⟩, ⟨(some 21),
   .faddr 2 (.t 2), none⟩, ⟨(some 22), .iaddrA 16 1 (.t 21) (.t 20), none⟩, ⟨(some 23), .load 1 false false (.t 22), none⟩, ⟨(some 24), .bslice 1 ([.int .u32 0]) [(0,
   .t 23)], none⟩, ⟨(some 25), .app 0 1 4 (.t 19) (.t 24), none⟩, ⟨(some 5), .mv (.t 25), none⟩])) (.seq (.keep [2, 3, 5, 6]) (.region 0 [⟨(some 17), .mv (.t 6), none⟩,
   ⟨(some 18), .bin .add (.t 17) (.c (.int .i64 1)), none⟩, ⟨(some 6), .mv (.t 18), none⟩])))))))) (.seq (.keep [3, 5]) (.seq (.seq (.region 0 [⟨(some 7), .mv (.c
    (.int .u32 0)), none⟩]) (.seq (.give 5 none) (.block 2 (.loop [3, 5, 7] (.seq (.seq (.region 0 [⟨(some 26), .mv (.t 7), none⟩, ⟨(some 27), .bin .lss (.t 26) (.c
    (.int .u32 64)), none⟩]) (.cond (.t 27) (.skip) (.exit 2))) (.seq (.block 3 (.seq (.region 0 [⟨(some 31), .load 9 true false (.t 3), none⟩, ⟨(some 32), .mv (.t 7),
   none⟩, ⟨(some 33), .pcall 185 [.t 31, .t 32], none⟩, ⟨(some 30), .mv (.t 33), none⟩, ⟨(some 34), .ext 0 (.t 30), none⟩, ⟨(some 35), .ext 1 (.t 30), none⟩, ⟨(some 8),
   .mv (.t 34), none⟩, ⟨(some 9), .mv (.t 35), none⟩]) (.seq (.keep [3, 5, 7, 8]) (.region 1 [⟨(some 36), .mv (.t 5), none⟩, ⟨(some 37), .mv (.t 8), none⟩, ⟨(some 38),
   .bslice 1 ([.int .u32 0]) [(0, .t 37)], none⟩, ⟨(some 39), .app 0 1 4 (.t 36) (.t 38), none⟩, ⟨(some 5), .mv (.t 39), none⟩])))) (.seq (.keep [3, 5, 7])
    (.region 0 [⟨(some 28), .mv (.t 7), none⟩, ⟨(some 29), .bin .add (.t 28) (.c (.int .u32 4)), none⟩, ⟨(some 7), .mv (.t 29), none⟩])))))))) (.seq (.keep [5]) (.seq
    (.region 0 [⟨(some 40), .mv (.t 5), none⟩, ⟨(some 4), .mv (.t 40), none⟩]) (.ret)))))))),
  [.tmp 4]⟩

/-- A table that holds these. -/
class HasWinRun (G : Tbl) : Prop where
  h_window_Run : G 292 = some c_window_Run
/-- A table that holds these. -/
class HasWinAsg (G : Tbl) : Prop where
  h_window_Assign : G 293 = some c_window_Assign
/-- A table that holds these. -/
class HasWinState (G : Tbl) : Prop where
  h_window_State : G 294 = some c_window_State
/-- A table that holds these. -/
class HasWinOf (G : Tbl) : Prop where
  h_window_step : G 295 = some c_window_step
  h_window_Of : G 296 = some c_window_Of
/-- A table that holds these. -/
class HasR17r (G : Tbl) : Prop where
  h_hurdleref17_Run : G 297 = some c_hurdleref17_Run
/-- A table that holds these. -/
class HasR17a (G : Tbl) : Prop where
  h_hurdleref17_Assign : G 298 = some c_hurdleref17_Assign

end Go.Ev
