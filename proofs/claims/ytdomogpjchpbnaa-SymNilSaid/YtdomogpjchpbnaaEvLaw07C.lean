/- Simplified code of Go functions, by scode.py. -/
import Derived.Test.YtdomogpjchpbnaaEvInsC
namespace Go.Ev

/-- hurdle/hurdlelaw07.uses -/
def c_hurdlelaw07_uses : SFn := ⟨27,
  .seq (.region 1 [⟨(some 1), .box 0 (.t 0), none⟩, ⟨(some 2), .mv (.c (.int .u32 0)), none⟩, ⟨(some 3), .mv (.c (.int .u32 0)), none⟩]) (.seq (.region 0 [⟨(some 4), .mv
    (.c (.vs [] .full)), none⟩, ⟨(some 5), .mv (.c (.vs [] .full)), none⟩]) (.seq (.seq (.region 0 [⟨(some 6), .mv (.c (.int .i64 0)), none⟩]) (.seq (.give 4 none) (.seq
    (.give 5 none) (.block 0 (.loop [1, 4, 5, 6] (.seq (.seq (.region 0 [⟨(some 7), .mv (.t 6), none⟩, ⟨(some 8), .bin .lss (.t 7) (.c (.int .i64 18)), none⟩]) (.cond
    (.t 8) (.skip) (.exit 0))) (.seq (.block 1 (.seq (.region 1 [⟨(some 11), .mv (.t 4), none⟩, ⟨(some 12), .load 4 true false (.t 1), none⟩, ⟨(some 13), .mv (.t 6),
   none⟩, ⟨(some 14), .pcall 194 [.t 12, .t 13], none⟩, ⟨(some 15), .bslice 1 ([.bool false]) [(0, .t 14)], none⟩, ⟨(some 16), .app 0 1 1 (.t 11) (.t 15), none⟩,
   ⟨(some 4), .mv (.t 16), none⟩]) (.seq (.keep [1, 4, 5, 6]) (.region 1 [⟨(some 17), .mv (.t 5), none⟩, ⟨(some 18), .load 4 true false (.t 1), none⟩, ⟨(some 19), .mv
    (.t 6), none⟩, ⟨(some 20), .pcall 195 [.t 18, .t 19], none⟩, ⟨(some 21), .bslice 1 ([.bool false]) [(0, .t 20)], none⟩, ⟨(some 22), .app 0 1 1 (.t 17) (.t 21), none⟩,
   ⟨(some 5), .mv (.t 22), none⟩])))) (.seq (.keep [1, 4, 5, 6]) (.region 0 [⟨(some 9), .mv (.t 6), none⟩, ⟨(some 10), .bin .add (.t 9) (.c (.int .i64 1)), none⟩,
   ⟨(some 6), .mv (.t 10), none⟩]))))))))) (.seq (.keep [4, 5]) (.seq (.region 0 [⟨(some 23), .mv (.t 4), none⟩, ⟨(some 24), .pcall 196 [.t 23], none⟩, ⟨(some 25), .mv
    (.t 5), none⟩, ⟨(some 26), .pcall 196 [.t 25], none⟩, ⟨(some 2), .mv (.t 24), none⟩, ⟨(some 3), .mv (.t 26), none⟩]) (.ret))))),
  [.tmp 2, .tmp 3]⟩

/-- hurdle/hurdlelaw07.knows -/
def c_hurdlelaw07_knows : SFn := ⟨71,
  .seq (.region 0 [⟨(some 0), .mv (.c (.bool false)), none⟩]) (.seq (.region 0 [⟨(some 9), .pcall 148 [.c (.str [116, 97, 120, 10, 108, 100, 32, 48, 120, 53, 10, 97, 100,
   100, 120, 10, 114, 101, 116, 97, 10])], none⟩, ⟨(some 8), .mv (.t 9), none⟩, ⟨(some 10), .ext 0 (.t 8), none⟩, ⟨(some 11), .ext 1 (.t 8), none⟩, ⟨(some 12), .ext 2
    (.t 8), none⟩, ⟨(some 1), .mv (.t 10), none⟩, ⟨(some 2), .mv (.t 11), none⟩, ⟨(some 3), .mv (.t 12), none⟩]) (.seq (.keep [1, 3]) (.seq (.region 0 [⟨(some 14), .mv
    (.t 1), none⟩, ⟨(some 15), .pcall 171 [.t 14], none⟩, ⟨(some 13), .mv (.t 15), none⟩, ⟨(some 16), .ext 0 (.t 13), none⟩, ⟨(some 17), .ext 1 (.t 13), none⟩, ⟨(some 4),
   .mv (.t 16), none⟩, ⟨(some 5), .mv (.t 17), none⟩]) (.seq (.keep [1, 3, 4, 5]) (.seq (.region 0 [⟨(some 19), .mv (.t 1), none⟩, ⟨(some 20), .pcall 172 [.t 19, .c
    (.int .i64 0)], none⟩, ⟨(some 18), .mv (.t 20), none⟩, ⟨(some 21), .ext 0 (.t 18), none⟩, ⟨(some 22), .ext 1 (.t 18), none⟩, ⟨(some 6), .mv (.t 21), none⟩, ⟨(some 7),
   .mv (.t 22), none⟩]) (.seq (.keep [3, 4, 5, 6, 7]) (.seq (.region 0 [⟨(some 23), .mv (.t 3), none⟩, ⟨(some 24), .bin .eql (.t 23) (.c (.int .i64 0)), none⟩, ⟨(some 25),
   .mv (.t 24), none⟩, ⟨(some 26), .mv (.t 5), (some (25, true))⟩, ⟨(some 27), .bin .eql (.t 26) (.c (.int .i64 0)), (some (25, true))⟩, ⟨(some 28), .pick (.t 25) (.t 27)
    (.c (.bool false)), none⟩, ⟨(some 29), .mv (.t 28), none⟩, ⟨(some 30), .mv (.t 4), (some (29, true))⟩, ⟨(some 31), .len false (.t 30), (some (29, true))⟩, ⟨(some 32),
   .bin .eql (.t 31) (.c (.int .i64 4)), (some (29, true))⟩, ⟨(some 33), .pick (.t 29) (.t 32) (.c (.bool false)), none⟩, ⟨(some 34), .mv (.t 33), none⟩, ⟨(some 35), .mv
    (.t 4), (some (34, true))⟩, ⟨(some 36), .iaddr 1 (.t 35) (.c (.int .i64 0)), (some (34, true))⟩, ⟨(some 37), .load 1 false false (.t 36), (some (34, true))⟩,
   ⟨(some 38), .bin .eql (.t 37) (.c (.int .u32 1)), (some (34, true))⟩, ⟨(some 39), .pick (.t 34) (.t 38) (.c (.bool false)), none⟩, ⟨(some 40), .mv (.t 39), none⟩,
   ⟨(some 41), .mv (.t 4), (some (40, true))⟩, ⟨(some 42), .iaddr 1 (.t 41) (.c (.int .i64 1)), (some (40, true))⟩, ⟨(some 43), .load 1 false false (.t 42), (some (40,
   true))⟩, ⟨(some 44), .bin .eql (.t 43) (.c (.int .u32 2)), (some (40, true))⟩, ⟨(some 45), .pick (.t 40) (.t 44) (.c (.bool false)), none⟩, ⟨(some 46), .mv (.t 45),
   none⟩, ⟨(some 47), .mv (.t 4), (some (46, true))⟩, ⟨(some 48), .iaddr 1 (.t 47) (.c (.int .i64 2)), (some (46, true))⟩, ⟨(some 49), .load 1 false false (.t 48), (some
    (46, true))⟩, ⟨(some 50), .bin .eql (.t 49) (.c (.int .u32 3)), (some (46, true))⟩, ⟨(some 51), .pick (.t 46) (.t 50) (.c (.bool false)), none⟩, ⟨(some 52), .mv
    (.t 51), none⟩, ⟨(some 53), .mv (.t 4), (some (52, true))⟩, ⟨(some 54), .iaddr 1 (.t 53) (.c (.int .i64 3)), (some (52, true))⟩, ⟨(some 55), .load 1 false false
    (.t 54), (some (52, true))⟩, ⟨(some 56), .bin .eql (.t 55) (.c (.int .u32 1)), (some (52, true))⟩, ⟨(some 57), .pick (.t 52) (.t 56) (.c (.bool false)), none⟩,
   ⟨(some 58), .mv (.t 57), none⟩, ⟨(some 59), .mv (.t 6), (some (58, true))⟩, ⟨(some 60), .bin .eql (.t 59) (.c (.int .u32 2)), (some (58, true))⟩, ⟨(some 61), .pick
    (.t 58) (.t 60) (.c (.bool false)), none⟩, ⟨(some 62), .mv (.t 61), none⟩, ⟨(some 63), .mv (.t 7), (some (62, true))⟩, ⟨(some 64), .bin .eql (.t 63) (.c
    (.int .i64 0)), (some (62, true))⟩, ⟨(some 65), .pick (.t 62) (.t 64) (.c (.bool false)), none⟩, ⟨(some 66), .mv (.t 65), none⟩, ⟨(some 67), .build ([.int .i64 0,
   .int .i64 0, .int .i64 0, .int .u32 0]) [(0, 1, .c (.int .i64 2)), (3, 1, .c (.int .u32 3))], (some (66, true))⟩, ⟨(some 68), .pcall 169 [.t 67], (some (66, true))⟩,
   ⟨(some 69), .bin .eql (.t 68) (.c (.int .u32 32)), (some (66, true))⟩, ⟨(some 70), .pick (.t 66) (.t 69) (.c (.bool false)), none⟩, ⟨(some 0), .mv (.t 70), none⟩])
    (.ret)))))))),
  [.tmp 0]⟩

/-- hurdle/hurdlelaw07.LiveTells -/
def c_hurdlelaw07_LiveTells : SFn := ⟨23,
  .seq (.region 1 [⟨(some 1), .box 0 (.t 0), none⟩, ⟨(some 2), .mv (.c (.bool false)), none⟩]) (.seq (.region 0 [⟨(some 6), .load 4 true false (.t 1), none⟩, ⟨(some 7),
   .pcall 215 [.t 6], none⟩, ⟨(some 5), .mv (.t 7), none⟩, ⟨(some 8), .ext 0 (.t 5), none⟩, ⟨(some 9), .ext 1 (.t 5), none⟩, ⟨(some 3), .mv (.t 8), none⟩, ⟨(some 4), .mv
    (.t 9), none⟩]) (.seq (.keep [1, 3, 4]) (.seq (.region 0 [⟨(some 10), .load 4 true false (.t 1), none⟩, ⟨(some 11), .pcall 168 [.t 10], none⟩, ⟨(some 12), .mv (.t 3),
   none⟩, ⟨(some 13), .bin .eql (.t 11) (.t 12), none⟩, ⟨(some 14), .mv (.t 13), none⟩, ⟨(some 15), .load 4 true false (.t 1), (some (14, true))⟩, ⟨(some 16),
   .pcall 169 [.t 15], (some (14, true))⟩, ⟨(some 17), .mv (.t 4), (some (14, true))⟩, ⟨(some 18), .bin .eql (.t 16) (.t 17), (some (14, true))⟩, ⟨(some 19), .pick
    (.t 14) (.t 18) (.c (.bool false)), none⟩, ⟨(some 20), .mv (.t 19), none⟩, ⟨(some 21), .pcall 216 [], (some (20, true))⟩, ⟨(some 22), .pick (.t 20) (.t 21) (.c
    (.bool false)), none⟩, ⟨(some 2), .mv (.t 22), none⟩]) (.ret)))),
  [.tmp 2]⟩

/-- hurdle/hurdlelaw07.LivePlaces -/
def c_hurdlelaw07_LivePlaces : SFn := ⟨98,
  .seq (.region 0 [⟨(some 4), .mv (.c (.bool false)), none⟩]) (.seq (.seq (.region 0 [⟨(some 10), .mv (.t 0), none⟩, ⟨(some 11), .len false (.t 10), none⟩, ⟨(some 12),
   .bin .gtr (.t 11) (.c (.int .i64 60)), none⟩]) (.cond (.t 12) (.seq (.region 0 [⟨(some 13), .pcall 216 [], none⟩, ⟨(some 4), .mv (.t 13), none⟩]) (.ret)) (.skip)))
    (.seq (.keep [0, 1]) (.seq (.region 0 [⟨(some 15), .mv (.t 0), none⟩, ⟨(some 16), .pcall 171 [.t 15], none⟩, ⟨(some 14), .mv (.t 16), none⟩, ⟨(some 17), .ext 0
    (.t 14), none⟩, ⟨(some 18), .ext 1 (.t 14), none⟩, ⟨(some 5), .mv (.t 17), none⟩, ⟨(some 6), .mv (.t 18), none⟩]) (.seq (.keep [0, 1, 5, 6]) (.seq
    (.region 0 [⟨(some 20), .mv (.t 0), none⟩, ⟨(some 21), .mv (.t 1), none⟩, ⟨(some 22), .pcall 172 [.t 20, .t 21], none⟩, ⟨(some 19), .mv (.t 22), none⟩, ⟨(some 23),
   .ext 0 (.t 19), none⟩, ⟨(some 24), .ext 1 (.t 19), none⟩, ⟨(some 7), .mv (.t 23), none⟩, ⟨(some 8), .mv (.t 24), none⟩]) (.seq (.keep [0, 1, 5, 6, 7, 8]) (.seq (.seq
    (.region 0 [⟨(some 25), .mv (.t 0), none⟩, ⟨(some 26), .pcall 188 [.t 25], none⟩, ⟨(some 27), .un .not (.t 26), none⟩]) (.cond (.t 27) (.seq (.region 0 [⟨(some 28),
   .mv (.t 5), none⟩, ⟨(some 29), .len false (.t 28), none⟩, ⟨(some 30), .bin .eql (.t 29) (.c (.int .i64 0)), none⟩, ⟨(some 31), .mv (.t 30), none⟩, ⟨(some 32), .mv
    (.t 6), (some (31, true))⟩, ⟨(some 33), .bin .eql (.t 32) (.c (.int .i64 1)), (some (31, true))⟩, ⟨(some 34), .pick (.t 31) (.t 33) (.c (.bool false)), none⟩,
   ⟨(some 35), .mv (.t 34), none⟩, ⟨(some 36), .mv (.t 7), (some (35, true))⟩, ⟨(some 37), .bin .eql (.t 36) (.c (.int .u32 0)), (some (35, true))⟩, ⟨(some 38), .pick
    (.t 35) (.t 37) (.c (.bool false)), none⟩, ⟨(some 39), .mv (.t 38), none⟩, ⟨(some 40), .mv (.t 8), (some (39, true))⟩, ⟨(some 41), .bin .eql (.t 40) (.c
    (.int .i64 1)), (some (39, true))⟩, ⟨(some 42), .pick (.t 39) (.t 41) (.c (.bool false)), none⟩, ⟨(some 43), .mv (.t 42), none⟩, ⟨(some 44), .pcall 216 [], (some (43,
   true))⟩, ⟨(some 45), .pick (.t 43) (.t 44) (.c (.bool false)), none⟩, ⟨(some 4), .mv (.t 45), none⟩]) (.ret)) (.skip))) (.seq (.keep [0, 1, 5, 6, 7, 8]) (.seq (.seq
    (.region 0 [⟨(some 46), .mv (.t 5), none⟩, ⟨(some 47), .len false (.t 46), none⟩, ⟨(some 48), .mv (.t 0), none⟩, ⟨(some 49), .len false (.t 48), none⟩, ⟨(some 50),
   .bin .neq (.t 47) (.t 49), none⟩, ⟨(some 51), .mv (.t 50), none⟩, ⟨(some 52), .mv (.t 6), (some (51, false))⟩, ⟨(some 53), .bin .neq (.t 52) (.c (.int .i64 0)), (some
    (51, false))⟩, ⟨(some 54), .pick (.t 51) (.c (.bool true)) (.t 53), none⟩]) (.seq (.keep [0, 1, 5, 7, 8, 54]) (.cond (.t 54) (.seq (.region 0 [⟨(some 4), .mv (.c
    (.bool false)), none⟩]) (.ret)) (.skip)))) (.seq (.keep [0, 1, 5, 7, 8]) (.seq (.seq (.region 0 [⟨(some 9), .mv (.c (.int .i64 0)), none⟩]) (.block 0 (.loop [0, 1, 5,
   7, 8, 9] (.seq (.seq (.region 0 [⟨(some 55), .mv (.t 9), none⟩, ⟨(some 56), .mv (.t 0), none⟩, ⟨(some 57), .len false (.t 56), none⟩, ⟨(some 58), .bin .lss (.t 55)
    (.t 57), none⟩]) (.seq (.keep [0, 1, 5, 7, 8, 9, 58]) (.cond (.t 58) (.skip) (.exit 0)))) (.seq (.keep [0, 1, 5, 7, 8, 9]) (.seq (.block 1 (.seq
    (.region 0 [⟨(some 61), .mv (.t 5), none⟩, ⟨(some 62), .mv (.t 9), none⟩, ⟨(some 63), .iaddr 1 (.t 61) (.t 62), none⟩, ⟨(some 64), .load 1 false true (.t 63), none⟩,
   ⟨(some 65), .mv (.t 0), none⟩, ⟨(some 66), .mv (.t 9), none⟩, ⟨(some 67), .pcall 198 [.t 65, .t 66], none⟩, ⟨(some 68), .bin .neq (.t 64) (.t 67), none⟩]) (.seq
    (.keep [0, 1, 5, 7, 8, 9, 68]) (.cond (.t 68) (.seq (.region 0 [⟨(some 4), .mv (.c (.bool false)), none⟩]) (.ret)) (.skip))))) (.seq (.keep [0, 1, 5, 7, 8, 9])
    (.region 0 [⟨(some 59), .mv (.t 9), none⟩, ⟨(some 60), .bin .add (.t 59) (.c (.int .i64 1)), none⟩, ⟨(some 9), .mv (.t 60), none⟩])))))))) (.seq (.keep [0, 1, 7, 8])
    (.seq (.seq (.region 0 [⟨(some 69), .mv (.t 1), none⟩, ⟨(some 70), .bin .lss (.t 69) (.c (.int .i64 0)), none⟩, ⟨(some 71), .mv (.t 70), none⟩, ⟨(some 72), .mv
    (.t 1), (some (71, false))⟩, ⟨(some 73), .mv (.t 0), (some (71, false))⟩, ⟨(some 74), .len false (.t 73), (some (71, false))⟩, ⟨(some 75), .bin .geq (.t 72) (.t 74),
   (some (71, false))⟩, ⟨(some 76), .pick (.t 71) (.c (.bool true)) (.t 75), none⟩]) (.seq (.keep [0, 1, 7, 8, 76]) (.cond (.t 76) (.seq (.region 0 [⟨(some 77), .mv
    (.t 7), none⟩, ⟨(some 78), .bin .eql (.t 77) (.c (.int .u32 0)), none⟩, ⟨(some 79), .mv (.t 78), none⟩, ⟨(some 80), .mv (.t 8), (some (79, true))⟩, ⟨(some 81),
   .bin .eql (.t 80) (.c (.int .i64 1)), (some (79, true))⟩, ⟨(some 82), .pick (.t 79) (.t 81) (.c (.bool false)), none⟩, ⟨(some 83), .mv (.t 82), none⟩, ⟨(some 84),
   .pcall 216 [], (some (83, true))⟩, ⟨(some 85), .pick (.t 83) (.t 84) (.c (.bool false)), none⟩, ⟨(some 4), .mv (.t 85), none⟩]) (.ret)) (.skip)))) (.seq (.keep [0, 1,
   7, 8]) (.seq (.region 0 [⟨(some 86), .mv (.t 7), none⟩, ⟨(some 87), .mv (.t 0), none⟩, ⟨(some 88), .mv (.t 1), none⟩, ⟨(some 89), .pcall 199 [.t 87, .t 88], none⟩,
   ⟨(some 90), .bin .eql (.t 86) (.t 89), none⟩, ⟨(some 91), .mv (.t 90), none⟩, ⟨(some 92), .mv (.t 8), (some (91, true))⟩, ⟨(some 93), .bin .eql (.t 92) (.c
    (.int .i64 0)), (some (91, true))⟩, ⟨(some 94), .pick (.t 91) (.t 93) (.c (.bool false)), none⟩, ⟨(some 95), .mv (.t 94), none⟩, ⟨(some 96), .pcall 216 [], (some (95,
   true))⟩, ⟨(some 97), .pick (.t 95) (.t 96) (.c (.bool false)), none⟩, ⟨(some 4), .mv (.t 97), none⟩]) (.ret)))))))))))))))),
  [.tmp 4]⟩

/-- hurdle/hurdlelaw07.LiveRuns -/
def c_hurdlelaw07_LiveRuns : SFn := ⟨82,
  .seq (.region 3 [⟨(some 7), .box 0 (.t 2), none⟩, ⟨(some 8), .box 1 (.t 3), none⟩, ⟨(some 9), .box 2 (.t 4), none⟩, ⟨(some 10), .mv (.c (.bool false)), none⟩]) (.seq
    (.seq (.region 0 [⟨(some 17), .mv (.t 0), none⟩, ⟨(some 18), .len false (.t 17), none⟩, ⟨(some 19), .bin .gtr (.t 18) (.c (.int .i64 300)), none⟩, ⟨(some 20), .mv
    (.t 19), none⟩, ⟨(some 21), .mv (.t 1), (some (20, false))⟩, ⟨(some 22), .bin .lss (.t 21) (.c (.int .i64 0)), (some (20, false))⟩, ⟨(some 23), .pick (.t 20) (.c
    (.bool true)) (.t 22), none⟩, ⟨(some 24), .mv (.t 23), none⟩, ⟨(some 25), .mv (.t 1), (some (24, false))⟩, ⟨(some 26), .mv (.t 0), (some (24, false))⟩, ⟨(some 27),
   .len false (.t 26), (some (24, false))⟩, ⟨(some 28), .bin .geq (.t 25) (.t 27), (some (24, false))⟩, ⟨(some 29), .pick (.t 24) (.c (.bool true)) (.t 28), none⟩,
   ⟨(some 30), .mv (.t 29), none⟩, ⟨(some 31), .mv (.t 0), (some (30, false))⟩, ⟨(some 32), .pcall 188 [.t 31], (some (30, false))⟩, ⟨(some 33), .un .not (.t 32), (some
    (30, false))⟩, ⟨(some 34), .pick (.t 30) (.c (.bool true)) (.t 33), none⟩]) (.seq (.keep [0, 1, 7, 8, 9, 34]) (.cond (.t 34) (.seq (.region 0 [⟨(some 35),
   .pcall 216 [], none⟩, ⟨(some 10), .mv (.t 35), none⟩]) (.ret)) (.skip)))) (.seq (.keep [0, 1, 7, 8, 9]) (.seq (.region 0 [⟨(some 37), .mv (.t 0), none⟩, ⟨(some 38),
   .pcall 171 [.t 37], none⟩, ⟨(some 36), .mv (.t 38), none⟩, ⟨(some 39), .ext 0 (.t 36), none⟩, ⟨(some 40), .ext 1 (.t 36), none⟩, ⟨(some 11), .mv (.t 39), none⟩,
   ⟨(some 12), .mv (.t 40), none⟩]) (.seq (.keep [0, 1, 7, 8, 9, 11, 12]) (.seq (.seq (.region 0 [⟨(some 41), .mv (.t 12), none⟩, ⟨(some 42), .bin .neq (.t 41) (.c
    (.int .i64 0)), none⟩, ⟨(some 43), .mv (.t 42), none⟩, ⟨(some 44), .mv (.t 1), (some (43, false))⟩, ⟨(some 45), .mv (.t 11), (some (43, false))⟩, ⟨(some 46),
   .len false (.t 45), (some (43, false))⟩, ⟨(some 47), .bin .geq (.t 44) (.t 46), (some (43, false))⟩, ⟨(some 48), .pick (.t 43) (.c (.bool true)) (.t 47), none⟩]) (.seq
    (.keep [0, 1, 7, 8, 9, 11, 48]) (.cond (.t 48) (.seq (.region 0 [⟨(some 10), .mv (.c (.bool false)), none⟩]) (.ret)) (.skip)))) (.seq (.keep [0, 1, 7, 8, 9, 11])
    (.seq (.region 0 [⟨(some 50), .mv (.t 0), none⟩, ⟨(some 51), .load 18 true false (.t 7), none⟩, ⟨(some 52), .mv (.t 1), none⟩, ⟨(some 53), .load 9 true false (.t 9),
   none⟩, ⟨(some 54), .pcall 192 [.t 50, .t 51, .t 52, .t 53], none⟩, ⟨(some 49), .mv (.t 54), none⟩, ⟨(some 55), .ext 0 (.t 49), none⟩, ⟨(some 56), .ext 1 (.t 49), none⟩,
   ⟨(some 13), .mv (.t 55), none⟩, ⟨(some 14), .mv (.t 56), none⟩]) (.seq (.keep [0, 1, 7, 8, 9, 11, 13, 14]) (.seq (.region 0 [⟨(some 58), .mv (.t 0), none⟩, ⟨(some 59),
   .mv (.t 11), none⟩, ⟨(some 60), .mv (.t 1), none⟩, ⟨(some 61), .iaddr 1 (.t 59) (.t 60), none⟩, ⟨(some 62), .load 1 false true (.t 61), none⟩, ⟨(some 63),
   .load 18 true true (.t 7), none⟩, ⟨(some 64), .load 18 true true (.t 8), none⟩, ⟨(some 65), .pcall 200 [.t 62, .t 63, .t 64], none⟩, ⟨(some 66), .mv (.t 1), none⟩,
   ⟨(some 67), .load 9 true true (.t 9), none⟩, ⟨(some 68), .pcall 192 [.t 58, .t 65, .t 66, .t 67], none⟩, ⟨(some 57), .mv (.t 68), none⟩, ⟨(some 69), .ext 0 (.t 57),
   none⟩, ⟨(some 70), .ext 1 (.t 57), none⟩, ⟨(some 15), .mv (.t 69), none⟩, ⟨(some 16), .mv (.t 70), none⟩]) (.seq (.keep [13, 14, 15, 16]) (.seq (.region 0 [⟨(some 71),
   .mv (.t 13), none⟩, ⟨(some 72), .mv (.t 15), none⟩, ⟨(some 73), .bin .eql (.t 71) (.t 72), none⟩, ⟨(some 74), .mv (.t 73), none⟩, ⟨(some 75), .mv (.t 14), (some (74,
   true))⟩, ⟨(some 76), .mv (.t 16), (some (74, true))⟩, ⟨(some 77), .bin .eql (.t 75) (.t 76), (some (74, true))⟩, ⟨(some 78), .pick (.t 74) (.t 77) (.c (.bool false)),
   none⟩, ⟨(some 79), .mv (.t 78), none⟩, ⟨(some 80), .pcall 216 [], (some (79, true))⟩, ⟨(some 81), .pick (.t 79) (.t 80) (.c (.bool false)), none⟩, ⟨(some 10), .mv
    (.t 81), none⟩]) (.ret)))))))))))),
  [.tmp 10]⟩

/-- hurdle/hurdlelaw07.LiveLast -/
def c_hurdlelaw07_LiveLast : SFn := ⟨61,
  .seq (.region 0 [⟨(some 2), .mv (.c (.bool false)), none⟩]) (.seq (.seq (.region 0 [⟨(some 6), .mv (.t 0), none⟩, ⟨(some 7), .len false (.t 6), none⟩, ⟨(some 8), .bin .gtr
    (.t 7) (.c (.int .i64 300)), none⟩, ⟨(some 9), .mv (.t 8), none⟩, ⟨(some 10), .mv (.t 0), (some (9, false))⟩, ⟨(some 11), .pcall 188 [.t 10], (some (9, false))⟩,
   ⟨(some 12), .un .not (.t 11), (some (9, false))⟩, ⟨(some 13), .pick (.t 9) (.c (.bool true)) (.t 12), none⟩]) (.seq (.keep [0, 13]) (.cond (.t 13) (.seq
    (.region 0 [⟨(some 14), .pcall 216 [], none⟩, ⟨(some 2), .mv (.t 14), none⟩]) (.ret)) (.skip)))) (.seq (.keep [0]) (.seq (.region 0 [⟨(some 16), .mv (.t 0), none⟩,
   ⟨(some 17), .pcall 171 [.t 16], none⟩, ⟨(some 15), .mv (.t 17), none⟩, ⟨(some 18), .ext 0 (.t 15), none⟩, ⟨(some 19), .ext 1 (.t 15), none⟩, ⟨(some 3), .mv (.t 18),
   none⟩, ⟨(some 4), .mv (.t 19), none⟩]) (.seq (.keep [0, 3, 4]) (.seq (.seq (.region 0 [⟨(some 20), .mv (.t 4), none⟩, ⟨(some 21), .bin .neq (.t 20) (.c (.int .i64 0)),
   none⟩, ⟨(some 22), .mv (.t 21), none⟩, ⟨(some 23), .mv (.t 3), (some (22, false))⟩, ⟨(some 24), .len false (.t 23), (some (22, false))⟩, ⟨(some 25), .mv (.t 0), (some
    (22, false))⟩, ⟨(some 26), .len false (.t 25), (some (22, false))⟩, ⟨(some 27), .bin .neq (.t 24) (.t 26), (some (22, false))⟩, ⟨(some 28), .pick (.t 22) (.c
    (.bool true)) (.t 27), none⟩, ⟨(some 29), .mv (.t 28), none⟩, ⟨(some 30), .mv (.t 3), (some (29, false))⟩, ⟨(some 31), .mv (.t 0), (some (29, false))⟩, ⟨(some 32),
   .len false (.t 31), (some (29, false))⟩, ⟨(some 33), .bin .sub (.t 32) (.c (.int .i64 1)), (some (29, false))⟩, ⟨(some 34), .iaddr 1 (.t 30) (.t 33), (some (29,
   false))⟩, ⟨(some 35), .load 1 false false (.t 34), (some (29, false))⟩, ⟨(some 36), .bin .gtr (.t 35) (.c (.int .u32 1)), (some (29, false))⟩, ⟨(some 37), .pick
    (.t 29) (.c (.bool true)) (.t 36), none⟩]) (.seq (.keep [0, 3, 37]) (.cond (.t 37) (.seq (.region 0 [⟨(some 2), .mv (.c (.bool false)), none⟩]) (.ret)) (.skip))))
    (.seq (.keep [0, 3]) (.seq (.seq (.region 0 [⟨(some 5), .mv (.c (.int .i64 0)), none⟩]) (.block 0 (.loop [0, 3, 5] (.seq (.seq (.region 0 [⟨(some 38), .mv (.t 5),
   none⟩, ⟨(some 39), .mv (.t 0), none⟩, ⟨(some 40), .len false (.t 39), none⟩, ⟨(some 41), .bin .lss (.t 38) (.t 40), none⟩]) (.seq (.keep [0, 3, 5, 41]) (.cond (.t 41)
    (.skip) (.exit 0)))) (.seq (.keep [0, 3, 5]) (.seq (.block 1 (.seq (.region 0 [⟨(some 44), .mv (.t 3), none⟩, ⟨(some 45), .mv (.t 5), none⟩, ⟨(some 46), .iaddr 1
    (.t 44) (.t 45), none⟩, ⟨(some 47), .load 1 false true (.t 46), none⟩, ⟨(some 48), .mv (.t 0), none⟩, ⟨(some 49), .mv (.t 5), none⟩, ⟨(some 50), .iaddr 4 (.t 48)
    (.t 49), none⟩, ⟨(some 51), .load 4 true true (.t 50), none⟩, ⟨(some 52), .pcall 168 [.t 51], none⟩, ⟨(some 53), .bin .and (.t 47) (.t 52), none⟩, ⟨(some 54), .mv
    (.t 0), none⟩, ⟨(some 55), .mv (.t 5), none⟩, ⟨(some 56), .iaddr 4 (.t 54) (.t 55), none⟩, ⟨(some 57), .load 4 true true (.t 56), none⟩, ⟨(some 58),
   .pcall 168 [.t 57], none⟩, ⟨(some 59), .bin .neq (.t 53) (.t 58), none⟩]) (.seq (.keep [0, 3, 5, 59]) (.cond (.t 59) (.seq (.region 0 [⟨(some 2), .mv (.c
    (.bool false)), none⟩]) (.ret)) (.skip))))) (.seq (.keep [0, 3, 5]) (.region 0 [⟨(some 42), .mv (.t 5), none⟩, ⟨(some 43), .bin .add (.t 42) (.c (.int .i64 1)), none⟩,
   ⟨(some 5), .mv (.t 43), none⟩])))))))) (.seq (.keep []) (.seq (.region 0 [⟨(some 60), .pcall 216 [], none⟩, ⟨(some 2), .mv (.t 60), none⟩]) (.ret)))))))))),
  [.tmp 2]⟩

/-- hurdle/hurdlelaw07.LiveBranches -/
def c_hurdlelaw07_LiveBranches : SFn := ⟨33,
  .seq (.region 3 [⟨(some 3), .box 0 (.t 0), none⟩, ⟨(some 4), .box 1 (.t 1), none⟩, ⟨(some 5), .box 2 (.t 2), none⟩, ⟨(some 6), .mv (.c (.bool false)), none⟩]) (.seq
    (.region 0 [⟨(some 7), .load 18 true true (.t 4), none⟩, ⟨(some 8), .load 4 true true (.t 3), none⟩, ⟨(some 9), .pcall 165 [.t 7, .t 8], none⟩, ⟨(some 10),
   .load 4 true true (.t 3), none⟩, ⟨(some 11), .pcall 168 [.t 10], none⟩, ⟨(some 12), .load 18 true true (.t 4), none⟩, ⟨(some 13), .load 18 true true (.t 5), none⟩,
   ⟨(some 14), .pcall 200 [.t 11, .t 12, .t 13], none⟩, ⟨(some 15), .load 4 true true (.t 3), none⟩, ⟨(some 16), .pcall 165 [.t 14, .t 15], none⟩, ⟨(some 17), .beq false
    (.t 9) (.t 16), none⟩, ⟨(some 18), .mv (.t 17), none⟩, ⟨(some 19), .load 4 true true (.t 3), (some (18, true))⟩, ⟨(some 20), .pcall 168 [.t 19], (some (18, true))⟩,
   ⟨(some 21), .bin .andNot (.t 20) (.c (.int .u32 262143)), (some (18, true))⟩, ⟨(some 22), .bin .eql (.t 21) (.c (.int .u32 0)), (some (18, true))⟩, ⟨(some 23), .pick
    (.t 18) (.t 22) (.c (.bool false)), none⟩, ⟨(some 24), .mv (.t 23), none⟩, ⟨(some 25), .load 4 true true (.t 3), (some (24, true))⟩, ⟨(some 26), .pcall 169 [.t 25],
   (some (24, true))⟩, ⟨(some 27), .bin .andNot (.t 26) (.c (.int .u32 262143)), (some (24, true))⟩, ⟨(some 28), .bin .eql (.t 27) (.c (.int .u32 0)), (some (24, true))⟩,
   ⟨(some 29), .pick (.t 24) (.t 28) (.c (.bool false)), none⟩, ⟨(some 30), .mv (.t 29), none⟩, ⟨(some 31), .pcall 216 [], (some (30, true))⟩, ⟨(some 32), .pick (.t 30)
    (.t 31) (.c (.bool false)), none⟩, ⟨(some 6), .mv (.t 32), none⟩]) (.ret)),
  [.tmp 6]⟩

/-- hurdle/hurdlelaw07.LiveSteps -/
def c_hurdlelaw07_LiveSteps : SFn := ⟨61,
  .seq (.region 4 [⟨(some 4), .box 0 (.t 0), none⟩, ⟨(some 5), .box 1 (.t 1), none⟩, ⟨(some 6), .box 2 (.t 2), none⟩, ⟨(some 7), .box 3 (.t 3), none⟩, ⟨(some 8), .mv (.c
    (.bool false)), none⟩]) (.seq (.region 1 [⟨(some 14), .load 18 true false (.t 5), none⟩, ⟨(some 15), .load 4 true false (.t 4), none⟩, ⟨(some 16), .load 9 true false
    (.t 7), none⟩, ⟨(some 17), .pcall 164 [.t 14, .t 15, .t 16], none⟩, ⟨(some 13), .mv (.t 17), none⟩, ⟨(some 18), .ext 0 (.t 13), none⟩, ⟨(some 19), .ext 1 (.t 13),
   none⟩, ⟨(some 9), .alloc 0 (rep 18 (.int .u32 0)), none⟩, ⟨none, .store 18 (.t 9) (.t 18), none⟩, ⟨(some 10), .mv (.t 19), none⟩]) (.seq (.keep [4, 5, 6, 7, 9, 10])
    (.seq (.region 1 [⟨(some 21), .load 4 true true (.t 4), none⟩, ⟨(some 22), .pcall 168 [.t 21], none⟩, ⟨(some 23), .load 18 true true (.t 5), none⟩, ⟨(some 24),
   .load 18 true true (.t 6), none⟩, ⟨(some 25), .pcall 200 [.t 22, .t 23, .t 24], none⟩, ⟨(some 26), .load 4 true true (.t 4), none⟩, ⟨(some 27), .load 9 true true
    (.t 7), none⟩, ⟨(some 28), .pcall 164 [.t 25, .t 26, .t 27], none⟩, ⟨(some 20), .mv (.t 28), none⟩, ⟨(some 29), .ext 0 (.t 20), none⟩, ⟨(some 30), .ext 1 (.t 20),
   none⟩, ⟨(some 11), .alloc 0 (rep 18 (.int .u32 0)), none⟩, ⟨none, .store 18 (.t 11) (.t 29), none⟩, ⟨(some 12), .mv (.t 30), none⟩]) (.seq (.keep [4, 5, 9, 10, 11, 12])
    (.seq (.seq (.region 0 [⟨(some 31), .load 4 true true (.t 4), none⟩, ⟨(some 32), .pcall 169 [.t 31], none⟩, ⟨(some 33), .load 18 true true (.t 9), none⟩, ⟨(some 34),
   .load 18 true true (.t 5), none⟩, ⟨(some 35), .pcall 200 [.t 32, .t 33, .t 34], none⟩, ⟨(some 36), .load 18 true true (.t 9), none⟩, ⟨(some 37), .aeq
    (List.replicate 18 .int) true (.t 35) (.t 36), none⟩, ⟨(some 38), .mv (.t 37), none⟩, ⟨(some 39), .mv (.t 10), (some (38, false))⟩, ⟨(some 40), .mv (.t 12), (some
    (38, false))⟩, ⟨(some 41), .beq true (.t 39) (.t 40), (some (38, false))⟩, ⟨(some 42), .pick (.t 38) (.c (.bool true)) (.t 41), none⟩]) (.seq (.keep [4, 5, 9, 10, 11,
   42]) (.cond (.t 42) (.seq (.region 0 [⟨(some 8), .mv (.c (.bool false)), none⟩]) (.ret)) (.skip)))) (.seq (.keep [4, 5, 9, 10, 11]) (.seq (.seq (.region 0 [⟨(some 43),
   .mv (.t 10), none⟩, ⟨(some 44), .un .not (.t 43), none⟩]) (.cond (.t 44) (.seq (.region 0 [⟨(some 45), .load 18 true false (.t 9), none⟩, ⟨(some 46),
   .load 18 true false (.t 5), none⟩, ⟨(some 47), .aeq (List.replicate 18 .int) false (.t 45) (.t 46), none⟩, ⟨(some 48), .mv (.t 47), none⟩, ⟨(some 49), .pcall 216 [],
   (some (48, true))⟩, ⟨(some 50), .pick (.t 48) (.t 49) (.c (.bool false)), none⟩, ⟨(some 8), .mv (.t 50), none⟩]) (.ret)) (.skip))) (.seq (.keep [4, 9, 11]) (.seq
    (.region 0 [⟨(some 51), .load 4 true true (.t 4), none⟩, ⟨(some 52), .pcall 169 [.t 51], none⟩, ⟨(some 53), .load 18 true true (.t 11), none⟩, ⟨(some 54),
   .load 18 true true (.t 9), none⟩, ⟨(some 55), .pcall 200 [.t 52, .t 53, .t 54], none⟩, ⟨(some 56), .load 18 true true (.t 9), none⟩, ⟨(some 57), .aeq
    (List.replicate 18 .int) false (.t 55) (.t 56), none⟩, ⟨(some 58), .mv (.t 57), none⟩, ⟨(some 59), .pcall 216 [], (some (58, true))⟩, ⟨(some 60), .pick (.t 58)
    (.t 59) (.c (.bool false)), none⟩, ⟨(some 8), .mv (.t 60), none⟩]) (.ret)))))))))),
  [.tmp 8]⟩

/-- A table that holds these. -/
class HasL7 (G : Tbl) : Prop where
  h_hurdlelaw07_uses : G 215 = some c_hurdlelaw07_uses
  h_hurdlelaw07_knows : G 216 = some c_hurdlelaw07_knows
  h_hurdlelaw07_LiveTells : G 217 = some c_hurdlelaw07_LiveTells
  h_hurdlelaw07_LivePlaces : G 218 = some c_hurdlelaw07_LivePlaces
  h_hurdlelaw07_LiveRuns : G 219 = some c_hurdlelaw07_LiveRuns
  h_hurdlelaw07_LiveLast : G 220 = some c_hurdlelaw07_LiveLast
  h_hurdlelaw07_LiveBranches : G 221 = some c_hurdlelaw07_LiveBranches
  h_hurdlelaw07_LiveSteps : G 222 = some c_hurdlelaw07_LiveSteps

end Go.Ev
