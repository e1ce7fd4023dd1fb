/- Simplified code of Go functions, by scode.py. -/
import Derived.Test.YtdomogpjchpbnaaEvW
namespace Go.Ev

/-- hurdle/word.Do -/
def c_word_Do : SFn := ⟨58,
  .seq (.region 0 [⟨(some 6), .mv (.c (.int .u32 0)), none⟩, ⟨(some 7), .mv (.c (.bool false)), none⟩]) (.seq (.seq (.region 0 [⟨(some 8), .mv (.t 0), none⟩]) (.block 0
    (.seq (.region 0 [⟨(some 10), .bin .eql (.t 8) (.c (.int .i64 4)), none⟩, ⟨(some 9), .mv (.t 10), none⟩]) (.cond (.t 9) (.seq (.region 0 [⟨(some 11), .mv (.t 1),
   none⟩, ⟨(some 12), .mv (.t 2), none⟩, ⟨(some 13), .bin .add (.t 11) (.t 12), none⟩, ⟨(some 6), .mv (.t 13), none⟩, ⟨(some 7), .mv (.c (.bool true)), none⟩]) (.ret))
    (.seq (.region 0 [⟨(some 15), .bin .eql (.t 8) (.c (.int .i64 20)), none⟩, ⟨(some 14), .mv (.t 15), none⟩]) (.cond (.t 14) (.seq (.region 0 [⟨(some 16), .mv (.t 1),
   none⟩, ⟨(some 17), .mv (.t 2), none⟩, ⟨(some 18), .bin .sub (.t 16) (.t 17), none⟩, ⟨(some 6), .mv (.t 18), none⟩, ⟨(some 7), .mv (.c (.bool true)), none⟩]) (.ret))
    (.seq (.region 0 [⟨(some 20), .bin .eql (.t 8) (.c (.int .i64 36)), none⟩, ⟨(some 19), .mv (.t 20), none⟩]) (.cond (.t 19) (.seq (.region 0 [⟨(some 21), .mv (.t 1),
   none⟩, ⟨(some 22), .mv (.t 2), none⟩, ⟨(some 23), .bin .mul (.t 21) (.t 22), none⟩, ⟨(some 6), .mv (.t 23), none⟩, ⟨(some 7), .mv (.c (.bool true)), none⟩]) (.ret))
    (.seq (.region 0 [⟨(some 25), .bin .eql (.t 8) (.c (.int .i64 52)), none⟩, ⟨(some 24), .mv (.t 25), none⟩]) (.cond (.t 24) (.seq (.seq (.region 0 [⟨(some 26), .mv
    (.t 2), none⟩, ⟨(some 27), .bin .eql (.t 26) (.c (.int .u32 0)), none⟩]) (.cond (.t 27) (.seq (.region 0 [⟨(some 6), .mv (.c (.int .u32 0)), none⟩, ⟨(some 7), .mv (.c
    (.bool false)), none⟩]) (.ret)) (.skip))) (.seq (.keep [1, 2]) (.seq (.region 0 [⟨(some 28), .mv (.t 1), none⟩, ⟨(some 29), .mv (.t 2), none⟩, ⟨(some 30), .bin .quo
    (.t 28) (.t 29), none⟩, ⟨(some 6), .mv (.t 30), none⟩, ⟨(some 7), .mv (.c (.bool true)), none⟩]) (.ret)))) (.seq (.region 0 [⟨(some 32), .bin .eql (.t 8) (.c
    (.int .i64 68)), none⟩, ⟨(some 31), .mv (.t 32), none⟩]) (.cond (.t 31) (.seq (.region 0 [⟨(some 33), .mv (.t 1), none⟩, ⟨(some 34), .mv (.t 2), none⟩, ⟨(some 35),
   .bin .or (.t 33) (.t 34), none⟩, ⟨(some 6), .mv (.t 35), none⟩, ⟨(some 7), .mv (.c (.bool true)), none⟩]) (.ret)) (.seq (.region 0 [⟨(some 37), .bin .eql (.t 8) (.c
    (.int .i64 84)), none⟩, ⟨(some 36), .mv (.t 37), none⟩]) (.cond (.t 36) (.seq (.region 0 [⟨(some 38), .mv (.t 1), none⟩, ⟨(some 39), .mv (.t 2), none⟩, ⟨(some 40),
   .bin .and (.t 38) (.t 39), none⟩, ⟨(some 6), .mv (.t 40), none⟩, ⟨(some 7), .mv (.c (.bool true)), none⟩]) (.ret)) (.seq (.region 0 [⟨(some 42), .bin .eql (.t 8) (.c
    (.int .i64 100)), none⟩, ⟨(some 41), .mv (.t 42), none⟩]) (.cond (.t 41) (.seq (.region 0 [⟨(some 43), .mv (.t 1), none⟩, ⟨(some 44), .mv (.t 2), none⟩, ⟨(some 45),
   .bin .and (.t 44) (.c (.int .u32 31)), none⟩, ⟨(some 46), .bin .shl (.t 43) (.t 45), none⟩, ⟨(some 6), .mv (.t 46), none⟩, ⟨(some 7), .mv (.c (.bool true)), none⟩])
    (.ret)) (.seq (.region 0 [⟨(some 48), .bin .eql (.t 8) (.c (.int .i64 116)), none⟩, ⟨(some 47), .mv (.t 48), none⟩]) (.cond (.t 47) (.seq (.region 0 [⟨(some 49), .mv
    (.t 1), none⟩, ⟨(some 50), .mv (.t 2), none⟩, ⟨(some 51), .bin .and (.t 50) (.c (.int .u32 31)), none⟩, ⟨(some 52), .bin .shr (.t 49) (.t 51), none⟩, ⟨(some 6), .mv
    (.t 52), none⟩, ⟨(some 7), .mv (.c (.bool true)), none⟩]) (.ret)) (.seq (.region 0 [⟨(some 54), .bin .eql (.t 8) (.c (.int .i64 164)), none⟩, ⟨(some 53), .mv (.t 54),
   none⟩]) (.cond (.t 53) (.seq (.region 0 [⟨(some 55), .mv (.t 1), none⟩, ⟨(some 56), .mv (.t 2), none⟩, ⟨(some 57), .bin .xor (.t 55) (.t 56), none⟩, ⟨(some 6), .mv
    (.t 57), none⟩, ⟨(some 7), .mv (.c (.bool true)), none⟩]) (.ret)) (.skip))))))))))))))))))))) (.seq (.keep []) (.seq (.region 0 [⟨(some 6), .mv (.c (.int .u32 0)),
   none⟩, ⟨(some 7), .mv (.c (.bool false)), none⟩]) (.ret)))),
  [.tmp 6, .tmp 7]⟩

/-- hurdle/hurdleref01.power -/
def c_hurdleref01_power : SFn := ⟨14,
  .seq (.region 0 [⟨(some 2), .mv (.c (.int .u64 0)), none⟩]) (.seq (.region 0 [⟨(some 3), .mv (.c (.int .u64 1)), none⟩]) (.seq (.seq (.region 0 [⟨(some 4), .mv (.c
    (.int .u32 0)), none⟩]) (.block 0 (.loop [0, 3, 4] (.seq (.seq (.region 0 [⟨(some 5), .mv (.t 4), none⟩, ⟨(some 6), .mv (.t 0), none⟩, ⟨(some 7), .bin .rem (.t 6) (.c
    (.int .u32 32)), none⟩, ⟨(some 8), .bin .lss (.t 5) (.t 7), none⟩]) (.seq (.keep [0, 3, 4, 8]) (.cond (.t 8) (.skip) (.exit 0)))) (.seq (.keep [0, 3, 4]) (.seq
    (.block 1 (.region 0 [⟨(some 11), .mv (.t 3), none⟩, ⟨(some 12), .bin .mul (.t 11) (.c (.int .u64 2)), none⟩, ⟨(some 3), .mv (.t 12), none⟩])) (.region 0 [⟨(some 9),
   .mv (.t 4), none⟩, ⟨(some 10), .bin .add (.t 9) (.c (.int .u32 1)), none⟩, ⟨(some 4), .mv (.t 10), none⟩]))))))) (.seq (.keep [3]) (.seq (.region 0 [⟨(some 13), .mv
    (.t 3), none⟩, ⟨(some 2), .mv (.t 13), none⟩]) (.ret))))),
  [.tmp 2]⟩

/-- hurdle/hurdleref01.bit -/
def c_hurdleref01_bit : SFn := ⟨12,
  .seq (.region 0 [⟨(some 4), .mv (.c (.int .u32 0)), none⟩]) (.seq (.region 0 [⟨(some 5), .mv (.t 0), none⟩, ⟨(some 6), .conv .u64 (.t 5), none⟩, ⟨(some 7), .mv (.t 1),
   none⟩, ⟨(some 8), .pcall 125 [.t 7], none⟩, ⟨(some 9), .bin .quo (.t 6) (.t 8), none⟩, ⟨(some 10), .bin .rem (.t 9) (.c (.int .u64 2)), none⟩, ⟨(some 11), .conv .u32
    (.t 10), none⟩, ⟨(some 4), .mv (.t 11), none⟩]) (.ret)),
  [.tmp 4]⟩

/-- hurdle/hurdleref01.bits -/
def c_hurdleref01_bits : SFn := ⟨32,
  .seq (.region 0 [⟨(some 6), .mv (.c (.int .u32 0)), none⟩]) (.seq (.region 0 [⟨(some 7), .mv (.c (.int .u32 0)), none⟩]) (.seq (.seq (.region 0 [⟨(some 8), .mv (.c
    (.int .u32 0)), none⟩]) (.block 0 (.loop [0, 1, 2, 7, 8] (.seq (.seq (.region 0 [⟨(some 9), .mv (.t 8), none⟩, ⟨(some 10), .bin .lss (.t 9) (.c (.int .u32 32)),
   none⟩]) (.cond (.t 10) (.skip) (.exit 0))) (.seq (.block 1 (.region 0 [⟨(some 13), .mv (.t 7), none⟩, ⟨(some 14), .mv (.t 2), none⟩, ⟨(some 15), .mv (.t 0), none⟩,
   ⟨(some 16), .mv (.t 8), none⟩, ⟨(some 17), .pcall 126 [.t 15, .t 16], none⟩, ⟨(some 18), .bin .mul (.c (.int .u32 2)) (.t 17), none⟩, ⟨(some 19), .mv (.t 1), none⟩,
   ⟨(some 20), .mv (.t 8), none⟩, ⟨(some 21), .pcall 126 [.t 19, .t 20], none⟩, ⟨(some 22), .bin .add (.t 18) (.t 21), none⟩, ⟨(some 23), .conv .i64 (.t 22), none⟩,
   ⟨(some 24), .iaddr 1 (.t 14) (.t 23), none⟩, ⟨(some 25), .load 1 false true (.t 24), none⟩, ⟨(some 26), .mv (.t 8), none⟩, ⟨(some 27), .pcall 125 [.t 26], none⟩,
   ⟨(some 28), .conv .u32 (.t 27), none⟩, ⟨(some 29), .bin .mul (.t 25) (.t 28), none⟩, ⟨(some 30), .bin .add (.t 13) (.t 29), none⟩, ⟨(some 7), .mv (.t 30), none⟩]))
    (.seq (.keep [0, 1, 2, 7, 8]) (.region 0 [⟨(some 11), .mv (.t 8), none⟩, ⟨(some 12), .bin .add (.t 11) (.c (.int .u32 1)), none⟩, ⟨(some 8), .mv (.t 12), none⟩])))))))
    (.seq (.keep [7]) (.seq (.region 0 [⟨(some 31), .mv (.t 7), none⟩, ⟨(some 6), .mv (.t 31), none⟩]) (.ret))))),
  [.tmp 6]⟩

/-- hurdle/hurdleref01.Do -/
def c_hurdleref01_Do : SFn := ⟨78,
  .seq (.region 0 [⟨(some 6), .mv (.c (.int .u32 0)), none⟩, ⟨(some 7), .mv (.c (.bool false)), none⟩]) (.seq (.region 0 [⟨(some 10), .mv (.t 1), none⟩, ⟨(some 11),
   .conv .u64 (.t 10), none⟩, ⟨(some 12), .mv (.t 2), none⟩, ⟨(some 13), .conv .u64 (.t 12), none⟩, ⟨(some 8), .mv (.t 11), none⟩, ⟨(some 9), .mv (.t 13), none⟩]) (.seq
    (.keep [0, 1, 2, 8, 9]) (.seq (.seq (.region 0 [⟨(some 14), .mv (.t 0), none⟩]) (.block 0 (.seq (.region 0 [⟨(some 16), .bin .eql (.t 14) (.c (.int .i64 4)), none⟩,
   ⟨(some 15), .mv (.t 16), none⟩]) (.cond (.t 15) (.seq (.region 0 [⟨(some 17), .mv (.t 8), none⟩, ⟨(some 18), .mv (.t 9), none⟩, ⟨(some 19), .bin .add (.t 17) (.t 18),
   none⟩, ⟨(some 20), .bin .rem (.t 19) (.c (.int .u64 4294967296)), none⟩, ⟨(some 21), .conv .u32 (.t 20), none⟩, ⟨(some 6), .mv (.t 21), none⟩, ⟨(some 7), .mv (.c
    (.bool true)), none⟩]) (.ret)) (.seq (.region 0 [⟨(some 23), .bin .eql (.t 14) (.c (.int .i64 20)), none⟩, ⟨(some 22), .mv (.t 23), none⟩]) (.cond (.t 22) (.seq
    (.region 0 [⟨(some 24), .mv (.t 8), none⟩, ⟨(some 25), .bin .add (.t 24) (.c (.int .u64 4294967296)), none⟩, ⟨(some 26), .mv (.t 9), none⟩, ⟨(some 27), .bin .sub
    (.t 25) (.t 26), none⟩, ⟨(some 28), .bin .rem (.t 27) (.c (.int .u64 4294967296)), none⟩, ⟨(some 29), .conv .u32 (.t 28), none⟩, ⟨(some 6), .mv (.t 29), none⟩,
   ⟨(some 7), .mv (.c (.bool true)), none⟩]) (.ret)) (.seq (.region 0 [⟨(some 31), .bin .eql (.t 14) (.c (.int .i64 36)), none⟩, ⟨(some 30), .mv (.t 31), none⟩]) (.cond
    (.t 30) (.seq (.region 0 [⟨(some 32), .mv (.t 8), none⟩, ⟨(some 33), .mv (.t 9), none⟩, ⟨(some 34), .bin .mul (.t 32) (.t 33), none⟩, ⟨(some 35), .bin .rem (.t 34)
    (.c (.int .u64 4294967296)), none⟩, ⟨(some 36), .conv .u32 (.t 35), none⟩, ⟨(some 6), .mv (.t 36), none⟩, ⟨(some 7), .mv (.c (.bool true)), none⟩]) (.ret)) (.seq
    (.region 0 [⟨(some 38), .bin .eql (.t 14) (.c (.int .i64 52)), none⟩, ⟨(some 37), .mv (.t 38), none⟩]) (.cond (.t 37) (.seq (.seq (.region 0 [⟨(some 39), .mv (.t 2),
   none⟩, ⟨(some 40), .bin .eql (.t 39) (.c (.int .u32 0)), none⟩]) (.cond (.t 40) (.seq (.region 0 [⟨(some 6), .mv (.c (.int .u32 0)), none⟩, ⟨(some 7), .mv (.c
    (.bool false)), none⟩]) (.ret)) (.skip))) (.seq (.keep [8, 9]) (.seq (.region 0 [⟨(some 41), .mv (.t 8), none⟩, ⟨(some 42), .mv (.t 9), none⟩, ⟨(some 43), .bin .quo
    (.t 41) (.t 42), none⟩, ⟨(some 44), .conv .u32 (.t 43), none⟩, ⟨(some 6), .mv (.t 44), none⟩, ⟨(some 7), .mv (.c (.bool true)), none⟩]) (.ret)))) (.seq
    (.region 0 [⟨(some 46), .bin .eql (.t 14) (.c (.int .i64 68)), none⟩, ⟨(some 45), .mv (.t 46), none⟩]) (.cond (.t 45) (.seq (.region 0 [⟨(some 47), .mv (.t 1), none⟩,
   ⟨(some 48), .mv (.t 2), none⟩, ⟨(some 49), .bslice 4 ([.int .u32 0]) [(0, .c (.int .u32 0)), (1, .c (.int .u32 1)), (2, .c (.int .u32 1)), (3, .c (.int .u32 1))],
   none⟩, ⟨(some 50), .pcall 127 [.t 47, .t 48, .t 49], none⟩, ⟨(some 6), .mv (.t 50), none⟩, ⟨(some 7), .mv (.c (.bool true)), none⟩]) (.ret)) (.seq
    (.region 0 [⟨(some 52), .bin .eql (.t 14) (.c (.int .i64 84)), none⟩, ⟨(some 51), .mv (.t 52), none⟩]) (.cond (.t 51) (.seq (.region 0 [⟨(some 53), .mv (.t 1), none⟩,
   ⟨(some 54), .mv (.t 2), none⟩, ⟨(some 55), .bslice 4 ([.int .u32 0]) [(0, .c (.int .u32 0)), (1, .c (.int .u32 0)), (2, .c (.int .u32 0)), (3, .c (.int .u32 1))],
   none⟩, ⟨(some 56), .pcall 127 [.t 53, .t 54, .t 55], none⟩, ⟨(some 6), .mv (.t 56), none⟩, ⟨(some 7), .mv (.c (.bool true)), none⟩]) (.ret)) (.seq
    (.region 0 [⟨(some 58), .bin .eql (.t 14) (.c (.int .i64 100)), none⟩, ⟨(some 57), .mv (.t 58), none⟩]) (.cond (.t 57) (.seq (.region 0 [⟨(some 59), .mv (.t 8), none⟩,
   ⟨(some 60), .mv (.t 2), none⟩, ⟨(some 61), .pcall 125 [.t 60], none⟩, ⟨(some 62), .bin .mul (.t 59) (.t 61), none⟩, ⟨(some 63), .bin .rem (.t 62) (.c
    (.int .u64 4294967296)), none⟩, ⟨(some 64), .conv .u32 (.t 63), none⟩, ⟨(some 6), .mv (.t 64), none⟩, ⟨(some 7), .mv (.c (.bool true)), none⟩]) (.ret)) (.seq
    (.region 0 [⟨(some 66), .bin .eql (.t 14) (.c (.int .i64 116)), none⟩, ⟨(some 65), .mv (.t 66), none⟩]) (.cond (.t 65) (.seq (.region 0 [⟨(some 67), .mv (.t 8), none⟩,
   ⟨(some 68), .mv (.t 2), none⟩, ⟨(some 69), .pcall 125 [.t 68], none⟩, ⟨(some 70), .bin .quo (.t 67) (.t 69), none⟩, ⟨(some 71), .conv .u32 (.t 70), none⟩, ⟨(some 6),
   .mv (.t 71), none⟩, ⟨(some 7), .mv (.c (.bool true)), none⟩]) (.ret)) (.seq (.region 0 [⟨(some 73), .bin .eql (.t 14) (.c (.int .i64 164)), none⟩, ⟨(some 72), .mv
    (.t 73), none⟩]) (.cond (.t 72) (.seq (.region 0 [⟨(some 74), .mv (.t 1), none⟩, ⟨(some 75), .mv (.t 2), none⟩, ⟨(some 76), .bslice 4 ([.int .u32 0]) [(0, .c
    (.int .u32 0)), (1, .c (.int .u32 1)), (2, .c (.int .u32 1)), (3, .c (.int .u32 0))], none⟩, ⟨(some 77), .pcall 127 [.t 74, .t 75, .t 76], none⟩, ⟨(some 6), .mv
    (.t 77), none⟩, ⟨(some 7), .mv (.c (.bool true)), none⟩]) (.ret)) (.skip))))))))))))))))))))) (.seq (.keep []) (.seq (.region 0 [⟨(some 6), .mv (.c (.int .u32 0)),
   none⟩, ⟨(some 7), .mv (.c (.bool false)), none⟩]) (.ret)))))),
  [.tmp 6, .tmp 7]⟩

/-- hurdle/hurdleref01.Neg -/
def c_hurdleref01_Neg : SFn := ⟨8,
  .seq (.region 0 [⟨(some 2), .mv (.c (.int .u32 0)), none⟩]) (.seq (.region 0 [⟨(some 3), .mv (.t 0), none⟩, ⟨(some 4), .conv .u64 (.t 3), none⟩, ⟨(some 5), .bin .sub (.c
    (.int .u64 4294967296)) (.t 4), none⟩, ⟨(some 6), .bin .rem (.t 5) (.c (.int .u64 4294967296)), none⟩, ⟨(some 7), .conv .u32 (.t 6), none⟩, ⟨(some 2), .mv (.t 7),
   none⟩]) (.ret)),
  [.tmp 2]⟩

/-- A table that holds these. -/
class HasWd (G : Tbl) : Prop where
  h_word_Do : G 107 = some c_word_Do
class HasR1 (G : Tbl) : Prop where
  h_hurdleref01_power : G 125 = some c_hurdleref01_power
  h_hurdleref01_bit : G 126 = some c_hurdleref01_bit
  h_hurdleref01_bits : G 127 = some c_hurdleref01_bits
  h_hurdleref01_Do : G 122 = some c_hurdleref01_Do
/-- A table that holds these. -/
class HasR1n (G : Tbl) : Prop where
  h_hurdleref01_Neg : G 173 = some c_hurdleref01_Neg

end Go.Ev
