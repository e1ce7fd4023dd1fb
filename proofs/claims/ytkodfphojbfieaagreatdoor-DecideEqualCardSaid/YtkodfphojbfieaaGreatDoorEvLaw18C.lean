/- Simplified code of Go functions, by scode.py. -/
import Derived.Test.YtkodfphojbfieaaGreatDoorEvRunCW
set_option linter.unusedVariables false
set_option linter.unusedSimpArgs false
namespace Go.Ev
/-- hurdle/hurdlelaw18.DecideEqual -/
def c_hurdlelaw18_DecideEqual : SFn := ⟨55,
  .seq (.region 2 [⟨(some 8), .box 0 (.t 3), none⟩, ⟨(some 9), .box 1 (.t 4), none⟩, ⟨(some 10), .mv (.c (.bool false)), none⟩]) (.seq (.seq (.region 0 [⟨(some 13), .mv
    (.t 0), none⟩, ⟨(some 14), .mv (.t 1), none⟩, ⟨(some 15), .pcall 317 [.t 13, .t 14], none⟩]) (.cond (.t 15) (.seq (.region 0 [⟨(some 16), .pcall 319 [], none⟩,
   ⟨(some 10), .mv (.t 16), none⟩]) (.ret)) (.skip))) (.seq (.keep [0, 1, 2, 8, 9]) (.seq (.region 1 [⟨(some 18), .mv (.t 0), none⟩, ⟨(some 19), .mv (.t 1), none⟩,
   ⟨(some 20), .mv (.t 2), none⟩, ⟨(some 21), .pcall 312 [.t 18, .t 19, .t 20], none⟩, ⟨(some 17), .mv (.t 21), none⟩, ⟨(some 22), .ext 0 (.t 17), none⟩, ⟨(some 23),
   .ext 1 (.t 17), none⟩, ⟨(some 11), .alloc 0 ([.int .i64 0] ++ rep 20 (.int .u32 0) ++ rep 7 (.int .u64 0)), none⟩, ⟨none, .store 28 (.t 11) (.t 22), none⟩, ⟨(some 12),
   .mv (.t 23), none⟩]) (.seq (.keep [0, 1, 2, 8, 9, 11, 12]) (.seq (.seq (.region 0 [⟨(some 24), .mv (.t 0), none⟩, ⟨(some 25), .mv (.t 1), none⟩, ⟨(some 26),
   .pcall 318 [.t 24, .t 25], none⟩, ⟨(some 27), .un .not (.t 26), none⟩]) (.seq (.keep [0, 1, 2, 8, 9, 11, 12, 27]) (.cond (.t 27) (.seq (.region 0 [⟨(some 28),
   .load 28 true false (.t 11), none⟩, ⟨(some 29), .build ([.int .i64 0] ++ rep 20 (.int .u32 0) ++ rep 7 (.int .u64 0)) [], none⟩, ⟨(some 30), .aeq
    (List.replicate 28 .int) false (.t 28) (.t 29), none⟩, ⟨(some 31), .mv (.t 30), none⟩, ⟨(some 32), .mv (.t 12), (some (31, true))⟩, ⟨(some 33), .bin .eql (.t 32) (.c
    (.int .i64 1)), (some (31, true))⟩, ⟨(some 34), .pick (.t 31) (.t 33) (.c (.bool false)), none⟩, ⟨(some 35), .mv (.t 34), none⟩, ⟨(some 36), .pcall 319 [], (some (35,
   true))⟩, ⟨(some 37), .pick (.t 35) (.t 36) (.c (.bool false)), none⟩, ⟨(some 10), .mv (.t 37), none⟩]) (.ret)) (.skip)))) (.seq (.keep [0, 1, 2, 8, 9, 11, 12]) (.seq
    (.seq (.region 0 [⟨(some 38), .mv (.t 12), none⟩, ⟨(some 39), .bin .neq (.t 38) (.c (.int .i64 0)), none⟩]) (.cond (.t 39) (.seq (.region 0 [⟨(some 10), .mv (.c
    (.bool false)), none⟩]) (.ret)) (.skip))) (.seq (.keep [0, 1, 2, 8, 9, 11]) (.seq (.region 0 [⟨(some 40), .faddr 0 (.t 11), none⟩, ⟨(some 41), .load 1 false false
    (.t 40), none⟩, ⟨(some 42), .bin .neq (.t 41) (.c (.int .i64 0)), none⟩, ⟨(some 43), .mv (.t 42), none⟩, ⟨(some 44), .mv (.t 0), (some (43, false))⟩, ⟨(some 45), .mv
    (.t 1), (some (43, false))⟩, ⟨(some 46), .mv (.t 2), (some (43, false))⟩, ⟨(some 47), .load 18 true false (.t 8), (some (43, false))⟩, ⟨(some 48), .load 9 true false
    (.t 9), (some (43, false))⟩, ⟨(some 49), .pcall 313 [.t 44, .t 45, .t 46, .t 47, .t 48], (some (43, false))⟩, ⟨(some 50), .un .not (.t 49), (some (43, false))⟩,
   ⟨(some 51), .pick (.t 43) (.c (.bool true)) (.t 50), none⟩, ⟨(some 52), .mv (.t 51), none⟩, ⟨(some 53), .pcall 319 [], (some (52, true))⟩, ⟨(some 54), .pick (.t 52)
    (.t 53) (.c (.bool false)), none⟩, ⟨(some 10), .mv (.t 54), none⟩]) (.ret)))))))))),
  [.tmp 10]⟩
/-- hurdle/hurdlelaw18.DecideDiffer -/
def c_hurdlelaw18_DecideDiffer : SFn := ⟨60,
  .seq (.region 0 [⟨(some 6), .mv (.c (.bool false)), none⟩]) (.seq (.seq (.region 0 [⟨(some 9), .mv (.t 0), none⟩, ⟨(some 10), .mv (.t 1), none⟩, ⟨(some 11),
   .pcall 317 [.t 9, .t 10], none⟩, ⟨(some 12), .mv (.t 11), none⟩, ⟨(some 13), .mv (.t 0), (some (12, false))⟩, ⟨(some 14), .mv (.t 1), (some (12, false))⟩, ⟨(some 15),
   .pcall 318 [.t 13, .t 14], (some (12, false))⟩, ⟨(some 16), .un .not (.t 15), (some (12, false))⟩, ⟨(some 17), .pick (.t 12) (.c (.bool true)) (.t 16), none⟩]) (.seq
    (.keep [0, 1, 2, 17]) (.cond (.t 17) (.seq (.region 0 [⟨(some 18), .pcall 319 [], none⟩, ⟨(some 6), .mv (.t 18), none⟩]) (.ret)) (.skip)))) (.seq (.keep [0, 1, 2])
    (.seq (.region 1 [⟨(some 20), .mv (.t 0), none⟩, ⟨(some 21), .mv (.t 1), none⟩, ⟨(some 22), .mv (.t 2), none⟩, ⟨(some 23), .pcall 312 [.t 20, .t 21, .t 22], none⟩,
   ⟨(some 19), .mv (.t 23), none⟩, ⟨(some 24), .ext 0 (.t 19), none⟩, ⟨(some 25), .ext 1 (.t 19), none⟩, ⟨(some 7), .alloc 0 ([.int .i64 0] ++ rep 20
    (.int .u32 0) ++ rep 7 (.int .u64 0)), none⟩, ⟨none, .store 28 (.t 7) (.t 24), none⟩, ⟨(some 8), .mv (.t 25), none⟩]) (.seq (.keep [0, 1, 2, 7, 8]) (.seq (.seq
    (.region 0 [⟨(some 26), .mv (.t 8), none⟩, ⟨(some 27), .bin .neq (.t 26) (.c (.int .i64 0)), none⟩, ⟨(some 28), .mv (.t 27), none⟩, ⟨(some 29), .faddr 0 (.t 7), (some
    (28, false))⟩, ⟨(some 30), .load 1 false false (.t 29), (some (28, false))⟩, ⟨(some 31), .bin .lss (.t 30) (.c (.int .i64 0)), (some (28, false))⟩, ⟨(some 32), .pick
    (.t 28) (.c (.bool true)) (.t 31), none⟩, ⟨(some 33), .mv (.t 32), none⟩, ⟨(some 34), .faddr 0 (.t 7), (some (33, false))⟩, ⟨(some 35), .load 1 false false (.t 34),
   (some (33, false))⟩, ⟨(some 36), .bin .gtr (.t 35) (.c (.int .i64 2)), (some (33, false))⟩, ⟨(some 37), .pick (.t 33) (.c (.bool true)) (.t 36), none⟩]) (.seq
    (.keep [0, 1, 2, 7, 37]) (.cond (.t 37) (.seq (.region 0 [⟨(some 6), .mv (.c (.bool false)), none⟩]) (.ret)) (.skip)))) (.seq (.keep [0, 1, 2, 7]) (.seq (.seq
    (.region 0 [⟨(some 38), .faddr 0 (.t 7), none⟩, ⟨(some 39), .load 1 false false (.t 38), none⟩, ⟨(some 40), .bin .eql (.t 39) (.c (.int .i64 1)), none⟩]) (.cond
    (.t 40) (.seq (.region 0 [⟨(some 41), .mv (.t 0), none⟩, ⟨(some 42), .mv (.t 1), none⟩, ⟨(some 43), .mv (.t 2), none⟩, ⟨(some 44), .faddr 1 (.t 7), none⟩, ⟨(some 45),
   .load 18 true false (.t 44), none⟩, ⟨(some 46), .faddr 19 (.t 7), none⟩, ⟨(some 47), .load 9 true false (.t 46), none⟩, ⟨(some 48), .pcall 313 [.t 41, .t 42, .t 43,
   .t 45, .t 47], none⟩, ⟨(some 49), .mv (.t 48), none⟩, ⟨(some 50), .pcall 319 [], (some (49, true))⟩, ⟨(some 51), .pick (.t 49) (.t 50) (.c (.bool false)), none⟩,
   ⟨(some 6), .mv (.t 51), none⟩]) (.ret)) (.skip))) (.seq (.keep [7]) (.seq (.region 0 [⟨(some 52), .load 28 true false (.t 7), none⟩, ⟨(some 53), .faddr 0 (.t 7), none⟩,
   ⟨(some 54), .load 1 false false (.t 53), none⟩, ⟨(some 55), .build ([.int .i64 0] ++ rep 20 (.int .u32 0) ++ rep 7 (.int .u64 0)) [(0, 1, .t 54)], none⟩, ⟨(some 56),
   .aeq (List.replicate 28 .int) false (.t 52) (.t 55), none⟩, ⟨(some 57), .mv (.t 56), none⟩, ⟨(some 58), .pcall 319 [], (some (57, true))⟩, ⟨(some 59), .pick (.t 57)
    (.t 58) (.c (.bool false)), none⟩, ⟨(some 6), .mv (.t 59), none⟩]) (.ret)))))))))),
  [.tmp 6]⟩
/-- A table that holds these. -/
class HasL18z (G : Tbl) : Prop where
  h_hurdlelaw18_DecideEqual : G 321 = some c_hurdlelaw18_DecideEqual
  h_hurdlelaw18_DecideDiffer : G 322 = some c_hurdlelaw18_DecideDiffer
end Go.Ev
