/- Simplified code of Go functions, by scode.py. -/
import Derived.Test.YtpfmblidlbjcmaaDoorEvInsC
namespace Go.Ev

/-- hurdle/run.Run -/
def c_run_Run : SFn := ⟨72,
  .seq (.region 1 [⟨(some 3), .box 0 (.t 1), none⟩, ⟨(some 4), .mv (.c (.int .u32 0)), none⟩, ⟨(some 5), .mv (.c (.int .i64 0)), none⟩, ⟨(some 6), .mv (.c (.int .i64 0)),
   none⟩]) (.seq (.keep [0, 3]) (.seq (.seq (.region 0 [⟨(some 14), .mv (.t 0), none⟩, ⟨(some 15), .pcall 157 [.t 14], none⟩, ⟨(some 16), .un .not (.t 15), none⟩]) (.cond
    (.t 16) (.seq (.region 0 [⟨(some 4), .mv (.c (.int .u32 0)), none⟩, ⟨(some 5), .mv (.c (.int .i64 0)), none⟩, ⟨(some 6), .mv (.c (.int .i64 1)), none⟩]) (.ret))
    (.skip))) (.seq (.keep [0, 3]) (.seq (.region 1 [⟨(some 7), .alloc 0 (rep 18 (.int .u32 0)), none⟩]) (.seq (.region 0 [⟨(some 8), .mv (.c (.int .u32 0)), none⟩])
    (.seq (.region 0 [⟨(some 9), .mv (.c (.int .i64 0)), none⟩, ⟨(some 10), .mv (.c (.int .i64 0)), none⟩]) (.seq (.skip) (.seq (.block 0 (.loop [0, 3, 7, 8, 9, 10]
    (.block 1 (.seq (.region 1 [⟨(some 17), .mv (.t 0), none⟩, ⟨(some 18), .mv (.t 9), none⟩, ⟨(some 19), .iaddr 4 (.t 17) (.t 18), none⟩, ⟨(some 20), .load 4 true false
    (.t 19), none⟩, ⟨(some 11), .alloc 0 ([.int .i64 0, .int .i64 0, .int .i64 0, .int .u32 0]), none⟩, ⟨none, .store 4 (.t 11) (.t 20), none⟩]) (.seq (.keep [0, 3, 7, 8,
   9, 10, 11]) (.seq (.region 0 [⟨(some 21), .mv (.t 9), none⟩, ⟨(some 22), .bin .add (.t 21) (.c (.int .i64 1)), none⟩, ⟨(some 9), .mv (.t 22), none⟩]) (.seq
    (.region 0 [⟨(some 23), .mv (.t 10), none⟩, ⟨(some 24), .bin .add (.t 23) (.c (.int .i64 1)), none⟩, ⟨(some 10), .mv (.t 24), none⟩]) (.block 2 (.seq
    (.region 0 [⟨(some 36), .faddr 0 (.t 11), none⟩, ⟨(some 37), .load 1 false false (.t 36), none⟩, ⟨(some 38), .bin .eql (.t 37) (.c (.int .i64 6)), none⟩, ⟨(some 35),
   .mv (.t 38), none⟩]) (.seq (.keep [0, 3, 7, 8, 9, 10, 11, 35]) (.cond (.t 35) (.seq (.region 0 [⟨(some 39), .faddr 3 (.t 11), none⟩, ⟨(some 40), .load 1 false false
    (.t 39), none⟩, ⟨(some 8), .mv (.t 40), none⟩]) (.exit 0)) (.seq (.region 0 [⟨(some 42), .faddr 0 (.t 11), none⟩, ⟨(some 43), .load 1 false false (.t 42), none⟩,
   ⟨(some 44), .bin .eql (.t 43) (.c (.int .i64 22)), none⟩, ⟨(some 41), .mv (.t 44), none⟩]) (.seq (.keep [0, 3, 7, 8, 9, 10, 11, 41]) (.cond (.t 41) (.seq
    (.region 0 [⟨(some 45), .faddr 0 (.t 7), none⟩, ⟨(some 46), .load 1 false false (.t 45), none⟩, ⟨(some 8), .mv (.t 46), none⟩]) (.exit 0)) (.seq
    (.region 0 [⟨(some 48), .faddr 0 (.t 11), none⟩, ⟨(some 49), .load 1 false false (.t 48), none⟩, ⟨(some 50), .bin .eql (.t 49) (.c (.int .i64 5)), none⟩, ⟨(some 47),
   .mv (.t 50), none⟩]) (.seq (.keep [0, 3, 7, 8, 9, 10, 11, 47]) (.cond (.t 47) (.region 0 [⟨(some 51), .mv (.t 9), none⟩, ⟨(some 52), .faddr 3 (.t 11), none⟩,
   ⟨(some 53), .load 1 false false (.t 52), none⟩, ⟨(some 54), .conv .i64 (.t 53), none⟩, ⟨(some 55), .bin .add (.t 51) (.t 54), none⟩, ⟨(some 9), .mv (.t 55), none⟩])
    (.seq (.region 0 [⟨(some 57), .load 4 true false (.t 11), none⟩, ⟨(some 58), .pcall 142 [.t 57], none⟩, ⟨(some 56), .mv (.t 58), none⟩]) (.cond (.t 56) (.seq
    (.region 0 [⟨(some 59), .load 18 true false (.t 7), none⟩, ⟨(some 60), .load 4 true false (.t 11), none⟩, ⟨(some 61), .pcall 165 [.t 59, .t 60], none⟩]) (.cond
    (.t 61) (.region 0 [⟨(some 62), .mv (.t 9), none⟩, ⟨(some 63), .faddr 1 (.t 11), none⟩, ⟨(some 64), .load 1 false false (.t 63), none⟩, ⟨(some 65), .bin .add (.t 62)
    (.t 64), none⟩, ⟨(some 9), .mv (.t 65), none⟩]) (.region 0 [⟨(some 66), .mv (.t 9), none⟩, ⟨(some 67), .faddr 2 (.t 11), none⟩, ⟨(some 68), .load 1 false false
    (.t 67), none⟩, ⟨(some 69), .bin .add (.t 66) (.t 68), none⟩, ⟨(some 9), .mv (.t 69), none⟩]))) (.seq (.region 1 [⟨(some 26), .load 18 true false (.t 7), none⟩,
   ⟨(some 27), .load 4 true false (.t 11), none⟩, ⟨(some 28), .load 9 true false (.t 3), none⟩, ⟨(some 29), .pcall 164 [.t 26, .t 27, .t 28], none⟩, ⟨(some 25), .mv
    (.t 29), none⟩, ⟨(some 30), .ext 0 (.t 25), none⟩, ⟨(some 31), .ext 1 (.t 25), none⟩, ⟨(some 12), .alloc 0 (rep 18 (.int .u32 0)), none⟩, ⟨none, .store 18 (.t 12)
    (.t 30), none⟩, ⟨(some 13), .mv (.t 31), none⟩]) (.seq (.keep [0, 3, 7, 8, 9, 10, 12, 13]) (.seq (.seq (.region 0 [⟨(some 32), .mv (.t 13), none⟩, ⟨(some 33), .un .not
    (.t 32), none⟩]) (.cond (.t 33) (.exit 0) (.skip))) (.region 0 [⟨(some 34), .load 18 true false (.t 12), none⟩, ⟨none, .store 18 (.t 7) (.t 34),
   none⟩]))))))))))))))))))))))) (.seq (.keep [8, 10]) (.seq (.region 0 [⟨(some 70), .mv (.t 8), none⟩, ⟨(some 71), .mv (.t 10), none⟩, ⟨(some 4), .mv (.t 70), none⟩,
   ⟨(some 5), .mv (.t 71), none⟩, ⟨(some 6), .mv (.c (.int .i64 0)), none⟩]) (.ret))))))))))),
  [.tmp 4, .tmp 5, .tmp 6]⟩

/-- hurdle/data.of$1 -/
def c_data_of_1 : SFn := ⟨18,
  .seq (.region 0 [⟨(some 2), .mv (.c (.int .u64 0)), none⟩]) (.seq (.region 0 [⟨(some 4), .load 1 false true (.t 1), none⟩, ⟨(some 5), .iaddrA 16 1 (.t 0) (.t 4), none⟩,
   ⟨(some 6), .load 1 false true (.t 5), none⟩, ⟨(some 7), .conv .u64 (.t 6), none⟩, ⟨(some 8), .load 1 false true (.t 1), none⟩, ⟨(some 9), .bin .add (.t 8) (.c
    (.int .i64 1)), none⟩, ⟨(some 10), .iaddrA 16 1 (.t 0) (.t 9), none⟩, ⟨(some 11), .load 1 false true (.t 10), none⟩, ⟨(some 12), .conv .u64 (.t 11), none⟩, ⟨(some 13),
   .bin .shl (.t 12) (.c (.int .u64 32)), none⟩, ⟨(some 14), .bin .or (.t 7) (.t 13), none⟩, ⟨(some 3), .mv (.t 14), none⟩]) (.seq (.keep [1, 3]) (.seq
    (.region 0 [⟨(some 15), .load 1 false false (.t 1), none⟩, ⟨(some 16), .bin .add (.t 15) (.c (.int .i64 2)), none⟩, ⟨none, .store 1 (.t 1) (.t 16), none⟩]) (.seq
    (.region 0 [⟨(some 17), .mv (.t 3), none⟩, ⟨(some 2), .mv (.t 17), none⟩]) (.ret))))),
  [.tmp 2]⟩

/-- hurdle/data.of -/
def c_data_of : SFn := ⟨31,
  .seq (.region 2 [⟨(some 1), .box 0 (.t 0), none⟩, ⟨(some 2), .alloc 1 ([.int .u32 0, .int .u32 0, .int .u64 0, .int .u64 0, .int .u64 0, .int .u64 0, .int .u64 0,
   .int .u64 0, .int .u64 0]), none⟩]) (.seq (.region 1 [⟨(some 3), .alloc 0 ([.int .i64 0]), none⟩, ⟨none, .store 1 (.t 3) (.c (.int .i64 4)), none⟩]) (.seq
    (.region 0 [⟨(some 7), .mkfn 231 [.t 1, .t 3], none⟩, ⟨(some 4), .mv (.t 7), none⟩]) (.seq (.region 1 [⟨(some 8), .iaddrA 16 1 (.t 1) (.c (.int .i64 0)), none⟩,
   ⟨(some 9), .load 1 false false (.t 8), none⟩, ⟨(some 10), .iaddrA 16 1 (.t 1) (.c (.int .i64 1)), none⟩, ⟨(some 11), .load 1 false false (.t 10), none⟩, ⟨(some 12),
   .iaddrA 16 1 (.t 1) (.c (.int .i64 2)), none⟩, ⟨(some 13), .load 1 false false (.t 12), none⟩, ⟨(some 14), .conv .u64 (.t 13), none⟩, ⟨(some 15), .iaddrA 16 1 (.t 1)
    (.c (.int .i64 3)), none⟩, ⟨(some 16), .load 1 false false (.t 15), none⟩, ⟨(some 17), .conv .u64 (.t 16), none⟩, ⟨(some 18), .bin .shl (.t 17) (.c (.int .u64 32)),
   none⟩, ⟨(some 19), .bin .or (.t 14) (.t 18), none⟩, ⟨(some 20), .build ([.int .u32 0, .int .u32 0, .int .u64 0, .int .u64 0, .int .u64 0, .int .u64 0, .int .u64 0,
   .int .u64 0, .int .u64 0]) [(0, 1, .t 9), (1, 1, .t 11), (2, 1, .t 19)], none⟩, ⟨(some 5), .alloc 0 ([.int .u32 0, .int .u32 0, .int .u64 0, .int .u64 0, .int .u64 0,
   .int .u64 0, .int .u64 0, .int .u64 0, .int .u64 0]), none⟩, ⟨none, .store 9 (.t 5) (.t 20), none⟩]) (.seq (.keep [2, 4, 5]) (.seq (.seq (.region 0 [⟨(some 21), .mv
    (.c (.int .i64 0)), none⟩]) (.block 0 (.loop [2, 4, 5, 21] (.seq (.region 0 [⟨(some 22), .bin .lss (.t 21) (.c (.int .i64 6)), none⟩]) (.seq (.cond (.t 22) (.skip)
    (.exit 0)) (.seq (.block 1 (.seq (.region 0 [⟨(some 23), .mv (.t 21), none⟩, ⟨(some 6), .mv (.t 23), none⟩]) (.region 0 [⟨(some 24), .mv (.t 6), none⟩, ⟨(some 25), .mv
    (.t 4), none⟩, ⟨(some 26), .vcall false (.t 25) [], none⟩, ⟨(some 27), .faddr 3 (.t 5), none⟩, ⟨(some 28), .iaddrA 6 1 (.t 27) (.t 24), none⟩, ⟨none, .store 1 (.t 28)
    (.t 26), none⟩]))) (.seq (.keep [2, 4, 5, 21]) (.region 0 [⟨(some 29), .bin .add (.t 21) (.c (.int .i64 1)), none⟩, ⟨(some 21), .mv (.t 29), none⟩])))))))) (.seq
    (.keep [2, 5]) (.seq (.region 0 [⟨(some 30), .load 9 true false (.t 5), none⟩, ⟨none, .store 9 (.t 2) (.t 30), none⟩]) (.ret)))))))),
  [.cell 2 9 true]⟩

/-- hurdle/data.With -/
def c_data_With : SFn := ⟨20,
  .seq (.region 2 [⟨(some 3), .box 0 (.t 0), none⟩, ⟨(some 6), .alloc 1 ([.int .u32 0, .int .u32 0, .int .u64 0, .int .u64 0, .int .u64 0, .int .u64 0, .int .u64 0,
   .int .u64 0, .int .u64 0]), none⟩]) (.seq (.seq (.region 0 [⟨(some 8), .mv (.t 1), none⟩, ⟨(some 9), .pcall 158 [.t 8], none⟩, ⟨(some 10), .un .not (.t 9), none⟩])
    (.cond (.t 10) (.seq (.region 0 [⟨(some 11), .load 9 true false (.t 3), none⟩, ⟨none, .store 9 (.t 6) (.t 11), none⟩]) (.ret)) (.skip))) (.seq (.keep [1, 2, 3, 6])
    (.seq (.region 1 [⟨(some 12), .load 9 true false (.t 3), none⟩, ⟨(some 13), .pcall 160 [.t 12], none⟩, ⟨(some 7), .alloc 0 (rep 16 (.int .u32 0)), none⟩, ⟨none,
   .store 16 (.t 7) (.t 13), none⟩]) (.seq (.region 0 [⟨(some 14), .mv (.t 1), none⟩, ⟨(some 15), .bin .quo (.t 14) (.c (.int .u32 4)), none⟩, ⟨(some 16), .mv (.t 2),
   none⟩, ⟨(some 17), .iaddrA 16 1 (.t 7) (.t 15), none⟩, ⟨none, .store 1 (.t 17) (.t 16), none⟩]) (.seq (.keep [6, 7]) (.seq (.region 0 [⟨(some 18), .load 16 true false
    (.t 7), none⟩, ⟨(some 19), .pcall 232 [.t 18], none⟩, ⟨none, .store 9 (.t 6) (.t 19), none⟩]) (.ret))))))),
  [.cell 6 9 true]⟩

/-- hurdle/hurdleref06.Run -/
def c_hurdleref06_Run : SFn := ⟨12,
  .seq (.region 1 [⟨(some 3), .box 0 (.t 1), none⟩, ⟨(some 4), .mv (.c (.int .u32 0)), none⟩, ⟨(some 5), .mv (.c (.int .i64 0)), none⟩]) (.seq (.region 0 [⟨(some 6), .mv
    (.t 0), none⟩, ⟨(some 7), .build (rep 18 (.int .u32 0)) [], none⟩, ⟨(some 8), .load 9 true false (.t 3), none⟩, ⟨(some 9), .pcall 192 [.t 6, .t 7, .c (.int .i64 0),
   .t 8], none⟩, ⟨(some 10), .ext 0 (.t 9), none⟩, ⟨(some 11), .ext 1 (.t 9), none⟩, ⟨(some 4), .mv (.t 10), none⟩, ⟨(some 5), .mv (.t 11), none⟩]) (.ret)),
  [.tmp 4, .tmp 5]⟩

/-- A table that holds these. -/
class HasRun (G : Tbl) : Prop where
  h_run_Run : G 230 = some c_run_Run
/-- A table that holds these. -/
class HasWith (G : Tbl) : Prop where
  h_data_of_1 : G 231 = some c_data_of_1
  h_data_of : G 232 = some c_data_of
  h_data_With : G 233 = some c_data_With
/-- A table that holds these. -/
class HasR6r (G : Tbl) : Prop where
  h_hurdleref06_Run : G 234 = some c_hurdleref06_Run

end Go.Ev
