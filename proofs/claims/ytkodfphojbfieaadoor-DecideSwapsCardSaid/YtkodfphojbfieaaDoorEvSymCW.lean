/- Simplified code of Go functions, by scode.py. -/
import Derived.Test.YtkodfphojbfieaaDoorEvBitsCW
set_option linter.unusedVariables false
set_option linter.unusedSimpArgs false
namespace Go.Ev
/-- hurdle/affine.Const -/
def c_affine_Const : SFn := ⟨5,
  .seq (.region 1 [⟨(some 2), .alloc 0 (rep 35 (.int .u32 0)), none⟩]) (.seq (.region 0 [⟨(some 3), .mv (.t 0), none⟩, ⟨(some 4), .build (rep 35 (.int .u32 0)) [(0, 1,
   .t 3)], none⟩, ⟨none, .store 35 (.t 2) (.t 4), none⟩]) (.ret)),
  [.cell 2 35 true]⟩
/-- hurdle/affine.Var -/
def c_affine_Var : SFn := ⟨16,
  .seq (.region 1 [⟨(some 2), .alloc 0 (rep 35 (.int .u32 0)), none⟩, ⟨(some 3), .mv (.c (.int .i64 0)), none⟩]) (.seq (.seq (.region 0 [⟨(some 5), .mv (.t 0), none⟩,
   ⟨(some 6), .bin .lss (.t 5) (.c (.int .i64 0)), none⟩, ⟨(some 7), .mv (.t 6), none⟩, ⟨(some 8), .mv (.t 0), (some (7, false))⟩, ⟨(some 9), .bin .geq (.t 8) (.c
    (.int .i64 34)), (some (7, false))⟩, ⟨(some 10), .pick (.t 7) (.c (.bool true)) (.t 9), none⟩]) (.seq (.keep [0, 2, 10]) (.cond (.t 10) (.seq (.region 0 [⟨(some 11),
   .build (rep 35 (.int .u32 0)) [], none⟩, ⟨none, .store 35 (.t 2) (.t 11), none⟩, ⟨(some 3), .mv (.c (.int .i64 1)), none⟩]) (.ret)) (.skip)))) (.seq (.keep [0, 2])
    (.seq (.region 1 [⟨(some 4), .alloc 0 (rep 35 (.int .u32 0)), none⟩]) (.seq (.region 0 [⟨(some 12), .mv (.t 0), none⟩, ⟨(some 13), .faddr 1 (.t 4), none⟩, ⟨(some 14),
   .iaddrA 34 1 (.t 13) (.t 12), none⟩, ⟨none, .store 1 (.t 14) (.c (.int .u32 1)), none⟩]) (.seq (.keep [2, 4]) (.seq (.region 0 [⟨(some 15), .load 35 true false (.t 4),
   none⟩, ⟨none, .store 35 (.t 2) (.t 15), none⟩, ⟨(some 3), .mv (.c (.int .i64 0)), none⟩]) (.ret))))))),
  [.cell 2 35 true, .tmp 3]⟩
/-- hurdle/affine.both -/
def c_affine_both : SFn := ⟨33,
  .seq (.region 3 [⟨(some 3), .box 0 (.t 0), none⟩, ⟨(some 4), .box 1 (.t 1), none⟩, ⟨(some 6), .alloc 2 (rep 35 (.int .u32 0)), none⟩]) (.seq (.region 0 [⟨(some 8), .mv
    (.t 2), none⟩, ⟨(some 9), .faddr 0 (.t 3), none⟩, ⟨(some 10), .load 1 false false (.t 9), none⟩, ⟨(some 11), .faddr 0 (.t 4), none⟩, ⟨(some 12), .load 1 false false
    (.t 11), none⟩, ⟨(some 13), .vcall false (.t 8) [.t 10, .t 12], none⟩, ⟨(some 14), .faddr 0 (.t 3), none⟩, ⟨none, .store 1 (.t 14) (.t 13), none⟩]) (.seq (.keep [2, 3,
   4, 6]) (.seq (.seq (.region 0 [⟨(some 15), .mv (.c (.int .i64 0)), none⟩]) (.block 0 (.loop [2, 3, 4, 6, 15] (.seq (.region 0 [⟨(some 16), .bin .lss (.t 15) (.c
    (.int .i64 34)), none⟩]) (.seq (.cond (.t 16) (.skip) (.exit 0)) (.seq (.block 1 (.seq (.region 0 [⟨(some 17), .mv (.t 15), none⟩, ⟨(some 7), .mv (.t 17), none⟩])
    (.region 0 [⟨(some 18), .mv (.t 7), none⟩, ⟨(some 19), .mv (.t 2), none⟩, ⟨(some 20), .mv (.t 7), none⟩, ⟨(some 21), .faddr 1 (.t 3), none⟩, ⟨(some 22), .iaddrA 34 1
    (.t 21) (.t 20), none⟩, ⟨(some 23), .load 1 false true (.t 22), none⟩, ⟨(some 24), .mv (.t 7), none⟩, ⟨(some 25), .faddr 1 (.t 4), none⟩, ⟨(some 26), .iaddrA 34 1
    (.t 25) (.t 24), none⟩, ⟨(some 27), .load 1 false true (.t 26), none⟩, ⟨(some 28), .vcall true (.t 19) [.t 23, .t 27], none⟩, ⟨(some 29), .faddr 1 (.t 3), none⟩,
   ⟨(some 30), .iaddrA 34 1 (.t 29) (.t 18), none⟩, ⟨none, .store 1 (.t 30) (.t 28), none⟩]))) (.seq (.keep [2, 3, 4, 6, 15]) (.region 0 [⟨(some 31), .bin .add (.t 15)
    (.c (.int .i64 1)), none⟩, ⟨(some 15), .mv (.t 31), none⟩])))))))) (.seq (.keep [3, 6]) (.seq (.region 0 [⟨(some 32), .load 35 true false (.t 3), none⟩, ⟨none,
   .store 35 (.t 6) (.t 32), none⟩]) (.ret)))))),
  [.cell 6 35 true]⟩
/-- hurdle/affine.Add$1 -/
def c_affine_Add_1 : SFn := ⟨8,
  .seq (.region 0 [⟨(some 4), .mv (.c (.int .u32 0)), none⟩]) (.seq (.region 0 [⟨(some 5), .mv (.t 0), none⟩, ⟨(some 6), .mv (.t 1), none⟩, ⟨(some 7), .bin .add (.t 5)
    (.t 6), none⟩, ⟨(some 4), .mv (.t 7), none⟩]) (.ret)),
  [.tmp 4]⟩
/-- hurdle/affine.Add -/
def c_affine_Add : SFn := ⟨8,
  .seq (.region 3 [⟨(some 2), .box 0 (.t 0), none⟩, ⟨(some 3), .box 1 (.t 1), none⟩, ⟨(some 4), .alloc 2 (rep 35 (.int .u32 0)), none⟩]) (.seq (.region 0 [⟨(some 5),
   .load 35 true false (.t 2), none⟩, ⟨(some 6), .load 35 true false (.t 3), none⟩, ⟨(some 7), .scall 245 [.t 5, .t 6, .c (.fn 246 [])], none⟩, ⟨none, .store 35 (.t 4)
    (.t 7), none⟩]) (.ret)),
  [.cell 4 35 true]⟩
/-- hurdle/affine.Sub$1 -/
def c_affine_Sub_1 : SFn := ⟨8,
  .seq (.region 0 [⟨(some 4), .mv (.c (.int .u32 0)), none⟩]) (.seq (.region 0 [⟨(some 5), .mv (.t 0), none⟩, ⟨(some 6), .mv (.t 1), none⟩, ⟨(some 7), .bin .sub (.t 5)
    (.t 6), none⟩, ⟨(some 4), .mv (.t 7), none⟩]) (.ret)),
  [.tmp 4]⟩
/-- hurdle/affine.Sub -/
def c_affine_Sub : SFn := ⟨8,
  .seq (.region 3 [⟨(some 2), .box 0 (.t 0), none⟩, ⟨(some 3), .box 1 (.t 1), none⟩, ⟨(some 4), .alloc 2 (rep 35 (.int .u32 0)), none⟩]) (.seq (.region 0 [⟨(some 5),
   .load 35 true false (.t 2), none⟩, ⟨(some 6), .load 35 true false (.t 3), none⟩, ⟨(some 7), .scall 245 [.t 5, .t 6, .c (.fn 248 [])], none⟩, ⟨none, .store 35 (.t 4)
    (.t 7), none⟩]) (.ret)),
  [.cell 4 35 true]⟩
/-- hurdle/affine.Mul$1 -/
def c_affine_Mul_1 : SFn := ⟨9,
  .seq (.region 0 [⟨(some 5), .mv (.c (.int .u32 0)), none⟩]) (.seq (.region 0 [⟨(some 6), .mv (.t 0), none⟩, ⟨(some 7), .load 1 false false (.t 2), none⟩, ⟨(some 8),
   .bin .mul (.t 6) (.t 7), none⟩, ⟨(some 5), .mv (.t 8), none⟩]) (.ret)),
  [.tmp 5]⟩
/-- hurdle/affine.Mul -/
def c_affine_Mul : SFn := ⟨9,
  .seq (.region 3 [⟨(some 2), .box 0 (.t 0), none⟩, ⟨(some 3), .box 1 (.t 1), none⟩, ⟨(some 4), .alloc 2 (rep 35 (.int .u32 0)), none⟩]) (.seq (.region 0 [⟨(some 5),
   .load 35 true false (.t 2), none⟩, ⟨(some 6), .load 35 true false (.t 2), none⟩, ⟨(some 7), .mkfn 250 [.t 3], none⟩, ⟨(some 8), .scall 245 [.t 5, .t 6, .t 7], none⟩,
   ⟨none, .store 35 (.t 4) (.t 8), none⟩]) (.ret)),
  [.cell 4 35 true]⟩
/-- hurdle/affine.Constant -/
def c_affine_Constant : SFn := ⟨10,
  .seq (.region 1 [⟨(some 1), .box 0 (.t 0), none⟩, ⟨(some 2), .mv (.c (.int .u32 0)), none⟩, ⟨(some 3), .mv (.c (.bool false)), none⟩]) (.seq (.seq (.region 0 [⟨(some 4),
   .faddr 1 (.t 1), none⟩, ⟨(some 5), .load 34 true false (.t 4), none⟩, ⟨(some 6), .build (rep 34 (.int .u32 0)) [], none⟩, ⟨(some 7), .aeq (List.replicate 34 .int) true
    (.t 5) (.t 6), none⟩]) (.seq (.keep [1, 7]) (.cond (.t 7) (.seq (.region 0 [⟨(some 2), .mv (.c (.int .u32 0)), none⟩, ⟨(some 3), .mv (.c (.bool false)), none⟩])
    (.ret)) (.skip)))) (.seq (.keep [1]) (.seq (.region 0 [⟨(some 8), .faddr 0 (.t 1), none⟩, ⟨(some 9), .load 1 false false (.t 8), none⟩, ⟨(some 2), .mv (.t 9), none⟩,
   ⟨(some 3), .mv (.c (.bool true)), none⟩]) (.ret)))),
  [.tmp 2, .tmp 3]⟩
/-- hurdle/affine.Single -/
def c_affine_Single : SFn := ⟨28,
  .seq (.region 1 [⟨(some 1), .box 0 (.t 0), none⟩, ⟨(some 2), .mv (.c (.int .i64 0)), none⟩, ⟨(some 3), .mv (.c (.bool false)), none⟩]) (.seq (.seq (.region 0 [⟨(some 8),
   .faddr 1 (.t 1), none⟩, ⟨(some 9), .load 34 true false (.t 8), none⟩, ⟨(some 10), .mv (.c (.int .i64 0)), none⟩]) (.block 0 (.loop [1, 9, 10] (.seq
    (.region 0 [⟨(some 11), .bin .lss (.t 10) (.c (.int .i64 34)), none⟩]) (.seq (.cond (.t 11) (.skip) (.exit 0)) (.seq (.block 1 (.seq (.region 0 [⟨(some 12), .mv
    (.t 10), none⟩, ⟨(some 13), .idx 34 1 false (.t 9) (.t 10), none⟩, ⟨(some 4), .mv (.t 12), none⟩, ⟨(some 5), .mv (.t 13), none⟩]) (.seq (.region 1 [⟨(some 15), .mv
    (.t 4), none⟩, ⟨(some 16), .pcall 244 [.t 15], none⟩, ⟨(some 14), .mv (.t 16), none⟩, ⟨(some 17), .ext 0 (.t 14), none⟩, ⟨(some 18), .ext 1 (.t 14), none⟩, ⟨(some 6),
   .alloc 0 (rep 35 (.int .u32 0)), none⟩, ⟨none, .store 35 (.t 6) (.t 17), none⟩, ⟨(some 7), .mv (.t 18), none⟩]) (.seq (.keep [1, 4, 5, 6, 9, 10]) (.seq
    (.region 0 [⟨(some 19), .mv (.t 5), none⟩, ⟨(some 20), .bin .eql (.t 19) (.c (.int .u32 1)), none⟩, ⟨(some 21), .mv (.t 20), none⟩, ⟨(some 22), .load 35 true false
    (.t 6), (some (21, true))⟩, ⟨(some 23), .load 35 true false (.t 1), (some (21, true))⟩, ⟨(some 24), .aeq (List.replicate 35 .int) false (.t 22) (.t 23), (some (21,
   true))⟩, ⟨(some 25), .pick (.t 21) (.t 24) (.c (.bool false)), none⟩]) (.seq (.keep [1, 4, 9, 10, 25]) (.cond (.t 25) (.seq (.region 0 [⟨(some 26), .mv (.t 4), none⟩,
   ⟨(some 2), .mv (.t 26), none⟩, ⟨(some 3), .mv (.c (.bool true)), none⟩]) (.ret)) (.skip)))))))) (.seq (.keep [1, 9, 10]) (.region 0 [⟨(some 27), .bin .add (.t 10) (.c
    (.int .i64 1)), none⟩, ⟨(some 10), .mv (.t 27), none⟩])))))))) (.seq (.keep []) (.seq (.region 0 [⟨(some 2), .mv (.c (.int .i64 0)), none⟩, ⟨(some 3), .mv (.c
    (.bool false)), none⟩]) (.ret)))),
  [.tmp 2, .tmp 3]⟩
/-- hurdle/affine.Apart -/
def c_affine_Apart : SFn := ⟨32,
  .seq (.region 3 [⟨(some 2), .box 0 (.t 0), none⟩, ⟨(some 3), .box 1 (.t 1), none⟩, ⟨(some 4), .alloc 2 (rep 34 (.int .u32 0)), none⟩, ⟨(some 5), .mv (.c (.bool false)),
   none⟩]) (.seq (.region 1 [⟨(some 6), .alloc 0 (rep 34 (.int .u32 0)), none⟩]) (.seq (.seq (.region 0 [⟨(some 9), .faddr 0 (.t 2), none⟩, ⟨(some 10), .load 1 false false
    (.t 9), none⟩, ⟨(some 11), .faddr 0 (.t 3), none⟩, ⟨(some 12), .load 1 false false (.t 11), none⟩, ⟨(some 13), .bin .neq (.t 10) (.t 12), none⟩]) (.seq (.keep [2, 3,
   4, 6, 13]) (.cond (.t 13) (.seq (.region 0 [⟨(some 14), .load 34 true false (.t 6), none⟩, ⟨none, .store 34 (.t 4) (.t 14), none⟩, ⟨(some 5), .mv (.c (.bool true)),
   none⟩]) (.ret)) (.skip)))) (.seq (.keep [2, 3, 4, 6]) (.seq (.seq (.region 0 [⟨(some 15), .faddr 1 (.t 2), none⟩, ⟨(some 16), .load 34 true false (.t 15), none⟩,
   ⟨(some 17), .mv (.c (.int .i64 0)), none⟩]) (.block 0 (.loop [3, 4, 6, 16, 17] (.seq (.region 0 [⟨(some 18), .bin .lss (.t 17) (.c (.int .i64 34)), none⟩]) (.seq
    (.cond (.t 18) (.skip) (.exit 0)) (.seq (.block 1 (.seq (.region 0 [⟨(some 19), .mv (.t 17), none⟩, ⟨(some 20), .idx 34 1 false (.t 16) (.t 17), none⟩, ⟨(some 7), .mv
    (.t 19), none⟩, ⟨(some 8), .mv (.t 20), none⟩]) (.seq (.region 0 [⟨(some 21), .mv (.t 8), none⟩, ⟨(some 22), .mv (.t 7), none⟩, ⟨(some 23), .faddr 1 (.t 3), none⟩,
   ⟨(some 24), .iaddrA 34 1 (.t 23) (.t 22), none⟩, ⟨(some 25), .load 1 false false (.t 24), none⟩, ⟨(some 26), .bin .neq (.t 21) (.t 25), none⟩]) (.seq (.keep [3, 4, 6,
   7, 16, 17, 26]) (.cond (.t 26) (.seq (.region 0 [⟨(some 27), .mv (.t 7), none⟩, ⟨(some 28), .iaddrA 34 1 (.t 6) (.t 27), none⟩, ⟨none, .store 1 (.t 28) (.c
    (.int .u32 1)), none⟩]) (.seq (.region 0 [⟨(some 29), .load 34 true false (.t 6), none⟩, ⟨none, .store 34 (.t 4) (.t 29), none⟩, ⟨(some 5), .mv (.c (.bool true)),
   none⟩]) (.ret))) (.skip)))))) (.seq (.keep [3, 4, 6, 16, 17]) (.region 0 [⟨(some 30), .bin .add (.t 17) (.c (.int .i64 1)), none⟩, ⟨(some 17), .mv (.t 30),
   none⟩])))))))) (.seq (.keep [4, 6]) (.seq (.region 0 [⟨(some 31), .load 34 true false (.t 6), none⟩, ⟨none, .store 34 (.t 4) (.t 31), none⟩, ⟨(some 5), .mv (.c
    (.bool false)), none⟩]) (.ret))))))),
  [.cell 4 34 true, .tmp 5]⟩
/-- hurdle/sym.New -/
def c_sym_New : SFn := ⟨4,
  .seq (.region 0 [⟨(some 0), .mv (.c (.nilp)), none⟩]) (.seq (.region 2 [⟨(some 1), .mkmap 0, none⟩, ⟨(some 2), .build ([.vs [] .full, .nilm]) [(1, 1, .t 1)], none⟩,
   ⟨(some 3), .box 1 (.t 2), none⟩, ⟨(some 0), .mv (.t 3), none⟩]) (.ret)),
  [.tmp 0]⟩
/-- (*hurdle/sym.Book).Len -/
def c_sym_Book_Len : SFn := ⟨10,
  .seq (.region 0 [⟨(some 2), .mv (.c (.int .i64 0)), none⟩]) (.seq (.seq (.region 0 [⟨(some 3), .mv (.t 0), none⟩, ⟨(some 4), .nileq 1 false (.t 3), none⟩]) (.cond (.t 4)
    (.seq (.region 0 [⟨(some 2), .mv (.c (.int .i64 0)), none⟩]) (.ret)) (.skip))) (.seq (.keep [0]) (.seq (.region 0 [⟨(some 5), .mv (.t 0), none⟩, ⟨(some 6), .nilck
    (.t 5), none⟩, ⟨(some 7), .faddr 0 (.t 6), none⟩, ⟨(some 8), .load 1 false false (.t 7), none⟩, ⟨(some 9), .len false (.t 8), none⟩, ⟨(some 2), .mv (.t 9), none⟩])
    (.ret)))),
  [.tmp 2]⟩
/-- (*hurdle/sym.Book).has -/
def c_sym_Book_has : SFn := ⟨13,
  .seq (.region 0 [⟨(some 4), .mv (.c (.bool false)), none⟩]) (.seq (.region 0 [⟨(some 5), .mv (.t 1), none⟩, ⟨(some 6), .bin .geq (.t 5) (.c (.int .i64 0)), none⟩,
   ⟨(some 7), .mv (.t 6), none⟩, ⟨(some 8), .mv (.t 1), (some (7, true))⟩, ⟨(some 9), .mv (.t 0), (some (7, true))⟩, ⟨(some 10), .scall 257 [.t 9], (some (7, true))⟩,
   ⟨(some 11), .bin .lss (.t 8) (.t 10), (some (7, true))⟩, ⟨(some 12), .pick (.t 7) (.t 11) (.c (.bool false)), none⟩, ⟨(some 4), .mv (.t 12), none⟩]) (.ret)),
  [.tmp 4]⟩
/-- (*hurdle/sym.Book).id -/
def c_sym_Book_id : SFn := ⟨42,
  .seq (.region 1 [⟨(some 3), .box 0 (.t 1), none⟩, ⟨(some 4), .mv (.c (.int .i64 0)), none⟩]) (.seq (.seq (.region 0 [⟨(some 7), .mv (.t 0), none⟩, ⟨(some 8),
   .nileq 1 false (.t 7), none⟩]) (.cond (.t 8) (.seq (.region 0 [⟨(some 4), .mv (.c (.int .i64 (-1))), none⟩]) (.ret)) (.skip))) (.seq (.keep [0, 3]) (.seq
    (.region 0 [⟨(some 10), .mv (.t 0), none⟩, ⟨(some 11), .nilck (.t 10), none⟩, ⟨(some 12), .faddr 1 (.t 11), none⟩, ⟨(some 13), .load 1 false true (.t 12), none⟩,
   ⟨(some 14), .load 60 true true (.t 3), none⟩, ⟨(some 15), .mget (.row (List.replicate 60 .int)) true (.int .i64 0) (.t 13) (.t 14), none⟩, ⟨(some 9), .mv (.t 15),
   none⟩, ⟨(some 16), .ext 0 (.t 9), none⟩, ⟨(some 17), .ext 1 (.t 9), none⟩, ⟨(some 5), .mv (.t 16), none⟩, ⟨(some 6), .mv (.t 17), none⟩]) (.seq (.keep [0, 3, 5, 6])
    (.seq (.seq (.region 0 [⟨(some 18), .mv (.t 6), none⟩, ⟨(some 19), .un .not (.t 18), none⟩]) (.cond (.t 19) (.seq (.region 0 [⟨(some 20), .mv (.t 0), none⟩,
   ⟨(some 21), .nilck (.t 20), none⟩, ⟨(some 22), .faddr 0 (.t 21), none⟩, ⟨(some 23), .load 1 false false (.t 22), none⟩, ⟨(some 24), .len false (.t 23), none⟩,
   ⟨(some 5), .mv (.t 24), none⟩]) (.seq (.keep [0, 3, 5]) (.seq (.region 0 [⟨(some 25), .mv (.t 0), none⟩, ⟨(some 26), .nilck (.t 25), none⟩, ⟨(some 27), .faddr 1
    (.t 26), none⟩, ⟨(some 28), .load 1 false true (.t 27), none⟩, ⟨(some 29), .load 60 true true (.t 3), none⟩, ⟨(some 30), .mv (.t 5), none⟩, ⟨none, .mput (.row
    (List.replicate 60 .int)) (.t 28) (.t 29) (.t 30), none⟩]) (.seq (.keep [0, 3, 5]) (.region 1 [⟨(some 31), .mv (.t 0), none⟩, ⟨(some 32), .mv (.t 0), none⟩,
   ⟨(some 33), .nilck (.t 32), none⟩, ⟨(some 34), .faddr 0 (.t 33), none⟩, ⟨(some 35), .load 1 false true (.t 34), none⟩, ⟨(some 36), .load 60 true true (.t 3), none⟩,
   ⟨(some 37), .bslice 1 ([.int .i64 0] ++ rep 35 (.int .u32 0) ++ [.int .i64 0, .int .i64 0, .int .i64 0, .int .i64 0, .int .i64 0] ++ rep 16
    (.int .u32 0) ++ [.int .i64 0, .int .i64 0, .int .i64 0]) [(0, .t 36)], none⟩, ⟨(some 38), .app 0 60 280 (.t 35) (.t 37), none⟩, ⟨(some 39), .nilck (.t 31), none⟩,
   ⟨(some 40), .faddr 0 (.t 39), none⟩, ⟨none, .store 1 (.t 40) (.t 38), none⟩]))))) (.skip))) (.seq (.keep [5]) (.seq (.region 0 [⟨(some 41), .mv (.t 5), none⟩,
   ⟨(some 4), .mv (.t 41), none⟩]) (.ret)))))))),
  [.tmp 4]⟩
/-- (*hurdle/sym.Book).sum -/
def c_sym_Book_sum : SFn := ⟨9,
  .seq (.region 1 [⟨(some 3), .box 0 (.t 1), none⟩, ⟨(some 4), .mv (.c (.int .i64 0)), none⟩]) (.seq (.region 0 [⟨(some 5), .mv (.t 0), none⟩, ⟨(some 6), .load 35 true false
    (.t 3), none⟩, ⟨(some 7), .build ([.int .i64 0] ++ rep 35 (.int .u32 0) ++ [.int .i64 0, .int .i64 0, .int .i64 0, .int .i64 0, .int .i64 0] ++ rep 16
    (.int .u32 0) ++ [.int .i64 0, .int .i64 0, .int .i64 0]) [(0, 1, .c (.int .i64 0)), (1, 35, .t 6)], none⟩, ⟨(some 8), .scall 259 [.t 5, .t 7], none⟩, ⟨(some 4), .mv
    (.t 8), none⟩]) (.ret)),
  [.tmp 4]⟩
/-- (*hurdle/sym.Book).bits -/
def c_sym_Book_bits : SFn := ⟨81,
  .seq (.region 1 [⟨(some 3), .box 0 (.t 1), none⟩, ⟨(some 4), .mv (.c (.int .i64 0)), none⟩]) (.seq (.seq (.region 0 [⟨(some 8), .faddr 0 (.t 3), none⟩, ⟨(some 9),
   .load 1 false false (.t 8), none⟩, ⟨(some 10), .len false (.t 9), none⟩, ⟨(some 11), .bin .eql (.t 10) (.c (.int .i64 0)), none⟩]) (.seq (.keep [0, 3, 11]) (.cond
    (.t 11) (.seq (.region 0 [⟨(some 12), .mv (.t 0), none⟩, ⟨(some 13), .faddr 1 (.t 3), none⟩, ⟨(some 14), .load 1 false false (.t 13), none⟩, ⟨(some 15), .iaddr 1
    (.t 14) (.c (.int .i64 0)), none⟩, ⟨(some 16), .load 1 false false (.t 15), none⟩, ⟨(some 17), .scall 262 [.t 12, .t 16], none⟩, ⟨(some 4), .mv (.t 17), none⟩])
    (.ret)) (.skip)))) (.seq (.keep [0, 3]) (.seq (.seq (.region 1 [⟨(some 19), .faddr 0 (.t 3), none⟩, ⟨(some 20), .load 1 false false (.t 19), none⟩, ⟨(some 21),
   .iaddr 1 (.t 20) (.c (.int .i64 0)), none⟩, ⟨(some 22), .load 1 false false (.t 21), none⟩, ⟨(some 23), .pcall 244 [.t 22], none⟩, ⟨(some 18), .mv (.t 23), none⟩,
   ⟨(some 24), .ext 0 (.t 18), none⟩, ⟨(some 25), .ext 1 (.t 18), none⟩, ⟨(some 5), .alloc 0 (rep 35 (.int .u32 0)), none⟩, ⟨none, .store 35 (.t 5) (.t 24), none⟩,
   ⟨(some 6), .mv (.t 25), none⟩]) (.seq (.keep [0, 3, 5]) (.seq (.region 0 [⟨(some 26), .faddr 0 (.t 3), none⟩, ⟨(some 27), .load 1 false false (.t 26), none⟩,
   ⟨(some 28), .len false (.t 27), none⟩, ⟨(some 29), .bin .eql (.t 28) (.c (.int .i64 1)), none⟩]) (.seq (.keep [0, 3, 5, 29]) (.cond (.t 29) (.block 0 (.seq
    (.region 0 [⟨(some 31), .faddr 1 (.t 3), none⟩, ⟨(some 32), .load 1 false false (.t 31), none⟩, ⟨(some 33), .iaddr 1 (.t 32) (.c (.int .i64 0)), none⟩, ⟨(some 34),
   .load 1 false false (.t 33), none⟩, ⟨(some 35), .bin .eql (.t 34) (.c (.int .u32 0)), none⟩, ⟨(some 36), .mv (.t 35), none⟩, ⟨(some 37), .faddr 1 (.t 3), (some (36,
   true))⟩, ⟨(some 38), .load 1 false false (.t 37), (some (36, true))⟩, ⟨(some 39), .iaddr 1 (.t 38) (.c (.int .i64 1)), (some (36, true))⟩, ⟨(some 40),
   .load 1 false false (.t 39), (some (36, true))⟩, ⟨(some 41), .bin .eql (.t 40) (.c (.int .u32 4294967295)), (some (36, true))⟩, ⟨(some 42), .pick (.t 36) (.t 41) (.c
    (.bool false)), none⟩, ⟨(some 30), .mv (.t 42), none⟩]) (.seq (.keep [0, 3, 5, 30]) (.cond (.t 30) (.seq (.region 0 [⟨(some 43), .mv (.t 0), none⟩, ⟨(some 44),
   .load 35 true false (.t 5), none⟩, ⟨(some 45), .scall 260 [.t 43, .t 44], none⟩, ⟨(some 4), .mv (.t 45), none⟩]) (.ret)) (.seq (.region 0 [⟨(some 47), .faddr 1 (.t 3),
   none⟩, ⟨(some 48), .load 1 false false (.t 47), none⟩, ⟨(some 49), .iaddr 1 (.t 48) (.c (.int .i64 0)), none⟩, ⟨(some 50), .load 1 false false (.t 49), none⟩,
   ⟨(some 51), .bin .eql (.t 50) (.c (.int .u32 4294967295)), none⟩, ⟨(some 52), .mv (.t 51), none⟩, ⟨(some 53), .faddr 1 (.t 3), (some (52, true))⟩, ⟨(some 54),
   .load 1 false false (.t 53), (some (52, true))⟩, ⟨(some 55), .iaddr 1 (.t 54) (.c (.int .i64 1)), (some (52, true))⟩, ⟨(some 56), .load 1 false false (.t 55), (some
    (52, true))⟩, ⟨(some 57), .bin .eql (.t 56) (.c (.int .u32 0)), (some (52, true))⟩, ⟨(some 58), .pick (.t 52) (.t 57) (.c (.bool false)), none⟩, ⟨(some 46), .mv
    (.t 58), none⟩]) (.seq (.keep [0, 3, 5, 46]) (.cond (.t 46) (.seq (.region 0 [⟨(some 59), .mv (.t 0), none⟩, ⟨(some 60), .pcall 243 [.c (.int .u32 4294967295)], none⟩,
   ⟨(some 61), .load 35 true true (.t 5), none⟩, ⟨(some 62), .pcall 249 [.t 60, .t 61], none⟩, ⟨(some 63), .scall 260 [.t 59, .t 62], none⟩, ⟨(some 4), .mv (.t 63),
   none⟩]) (.ret)) (.skip)))))))) (.skip)))))) (.seq (.keep [0, 3]) (.seq (.region 1 [⟨(some 64), .faddr 0 (.t 3), none⟩, ⟨(some 65), .load 1 false false (.t 64), none⟩,
   ⟨(some 66), .len false (.t 65), none⟩, ⟨(some 67), .build ([.int .i64 0] ++ rep 35 (.int .u32 0) ++ [.int .i64 0, .int .i64 0, .int .i64 0, .int .i64 0,
   .int .i64 0] ++ rep 16 (.int .u32 0) ++ [.int .i64 0, .int .i64 0, .int .i64 0]) [(0, 1, .c (.int .i64 1)), (36, 1, .t 66)], none⟩, ⟨(some 7), .alloc 0
    ([.int .i64 0] ++ rep 35 (.int .u32 0) ++ [.int .i64 0, .int .i64 0, .int .i64 0, .int .i64 0, .int .i64 0] ++ rep 16 (.int .u32 0) ++ [.int .i64 0, .int .i64 0,
   .int .i64 0]), none⟩, ⟨none, .store 60 (.t 7) (.t 67), none⟩]) (.seq (.keep [0, 3, 7]) (.seq (.region 0 [⟨(some 68), .faddr 37 (.t 7), none⟩, ⟨(some 69), .slcA 4 1
    (.t 68) none none, none⟩, ⟨(some 70), .faddr 0 (.t 3), none⟩, ⟨(some 71), .load 1 false true (.t 70), none⟩, ⟨(some 72), .cpy 1 (.t 69) (.t 71), none⟩]) (.seq
    (.keep [0, 3, 7]) (.seq (.region 0 [⟨(some 73), .faddr 41 (.t 7), none⟩, ⟨(some 74), .slcA 16 1 (.t 73) none none, none⟩, ⟨(some 75), .faddr 1 (.t 3), none⟩,
   ⟨(some 76), .load 1 false true (.t 75), none⟩, ⟨(some 77), .cpy 1 (.t 74) (.t 76), none⟩]) (.seq (.keep [0, 7]) (.seq (.region 0 [⟨(some 78), .mv (.t 0), none⟩,
   ⟨(some 79), .load 60 true false (.t 7), none⟩, ⟨(some 80), .scall 259 [.t 78, .t 79], none⟩, ⟨(some 4), .mv (.t 80), none⟩]) (.ret)))))))))))),
  [.tmp 4]⟩
/-- (*hurdle/sym.Book).Const -/
def c_sym_Book_Const : SFn := ⟨9,
  .seq (.region 0 [⟨(some 4), .mv (.c (.int .i64 0)), none⟩]) (.seq (.region 0 [⟨(some 5), .mv (.t 0), none⟩, ⟨(some 6), .mv (.t 1), none⟩, ⟨(some 7), .pcall 243 [.t 6],
   none⟩, ⟨(some 8), .scall 260 [.t 5, .t 7], none⟩, ⟨(some 4), .mv (.t 8), none⟩]) (.ret)),
  [.tmp 4]⟩
/-- (*hurdle/sym.Book).Var -/
def c_sym_Book_Var : SFn := ⟨17,
  .seq (.region 0 [⟨(some 4), .mv (.c (.int .i64 0)), none⟩]) (.seq (.region 1 [⟨(some 8), .mv (.t 1), none⟩, ⟨(some 9), .pcall 244 [.t 8], none⟩, ⟨(some 7), .mv (.t 9),
   none⟩, ⟨(some 10), .ext 0 (.t 7), none⟩, ⟨(some 11), .ext 1 (.t 7), none⟩, ⟨(some 5), .alloc 0 (rep 35 (.int .u32 0)), none⟩, ⟨none, .store 35 (.t 5) (.t 10), none⟩,
   ⟨(some 6), .mv (.t 11), none⟩]) (.seq (.keep [0, 5, 6]) (.seq (.seq (.region 0 [⟨(some 12), .mv (.t 6), none⟩, ⟨(some 13), .bin .neq (.t 12) (.c (.int .i64 0)), none⟩])
    (.cond (.t 13) (.seq (.region 0 [⟨(some 4), .mv (.c (.int .i64 (-1))), none⟩]) (.ret)) (.skip))) (.seq (.keep [0, 5]) (.seq (.region 0 [⟨(some 14), .mv (.t 0), none⟩,
   ⟨(some 15), .load 35 true false (.t 5), none⟩, ⟨(some 16), .scall 260 [.t 14, .t 15], none⟩, ⟨(some 4), .mv (.t 16), none⟩]) (.ret)))))),
  [.tmp 4]⟩
/-- (*hurdle/sym.Book).asSum -/
def c_sym_Book_asSum : SFn := ⟨23,
  .seq (.region 1 [⟨(some 4), .alloc 0 (rep 35 (.int .u32 0)), none⟩, ⟨(some 5), .mv (.c (.bool false)), none⟩]) (.seq (.region 0 [⟨(some 6), .mv (.t 0), none⟩, ⟨(some 7),
   .nilck (.t 6), none⟩, ⟨(some 8), .faddr 0 (.t 7), none⟩, ⟨(some 9), .loadR 1 false 0 (.t 8), none⟩, ⟨(some 10), .mv (.t 1), none⟩, ⟨(some 11), .iaddr 60 (.t 9)
    (.t 10), none⟩, ⟨(some 12), .faddr 1 (.t 11), none⟩, ⟨(some 13), .loadC 35 true (.t 12), none⟩, ⟨(some 14), .mv (.t 0), none⟩, ⟨(some 15), .nilck (.t 14), none⟩,
   ⟨(some 16), .faddr 0 (.t 15), none⟩, ⟨(some 17), .loadR 1 false 0 (.t 16), none⟩, ⟨(some 18), .mv (.t 1), none⟩, ⟨(some 19), .iaddr 60 (.t 17) (.t 18), none⟩,
   ⟨(some 20), .faddr 0 (.t 19), none⟩, ⟨(some 21), .loadC 1 false (.t 20), none⟩, ⟨(some 22), .bin .eql (.t 21) (.c (.int .i64 0)), none⟩, ⟨none, .storeA 35 [0] (.t 4)
    (.t 13), none⟩, ⟨(some 5), .mv (.t 22), none⟩]) (.ret)),
  [.cell 4 35 true, .tmp 5]⟩
/-- (*hurdle/sym.Book).asBits -/
def c_sym_Book_asBits : SFn := ⟨87,
  .seq (.region 1 [⟨(some 4), .alloc 0 ([.vs [] .full, .vs [] .full]), none⟩, ⟨(some 5), .mv (.c (.bool false)), none⟩]) (.seq (.region 1 [⟨(some 16), .mv (.t 0), none⟩,
   ⟨(some 17), .nilck (.t 16), none⟩, ⟨(some 18), .faddr 0 (.t 17), none⟩, ⟨(some 19), .load 1 false false (.t 18), none⟩, ⟨(some 20), .mv (.t 1), none⟩, ⟨(some 21),
   .iaddr 60 (.t 19) (.t 20), none⟩, ⟨(some 22), .load 60 true false (.t 21), none⟩, ⟨(some 6), .alloc 0 ([.int .i64 0] ++ rep 35 (.int .u32 0) ++ [.int .i64 0,
   .int .i64 0, .int .i64 0, .int .i64 0, .int .i64 0] ++ rep 16 (.int .u32 0) ++ [.int .i64 0, .int .i64 0, .int .i64 0]), none⟩, ⟨none, .store 60 (.t 6) (.t 22), none⟩])
    (.seq (.keep [4, 6]) (.seq (.seq (.region 0 [⟨(some 23), .faddr 0 (.t 6), none⟩, ⟨(some 24), .load 1 false false (.t 23), none⟩, ⟨(some 25), .bin .eql (.t 24) (.c
    (.int .i64 1)), none⟩]) (.cond (.t 25) (.seq (.region 0 [⟨(some 26), .faddr 37 (.t 6), none⟩, ⟨(some 27), .faddr 36 (.t 6), none⟩, ⟨(some 28), .load 1 false true
    (.t 27), none⟩, ⟨(some 29), .slcA 4 1 (.t 26) none (some (.t 28)), none⟩, ⟨(some 30), .faddr 41 (.t 6), none⟩, ⟨(some 31), .faddr 36 (.t 6), none⟩, ⟨(some 32),
   .load 1 false true (.t 31), none⟩, ⟨(some 33), .bin .shl (.c (.int .i64 1)) (.t 32), none⟩, ⟨(some 34), .slcA 16 1 (.t 30) none (some (.t 33)), none⟩, ⟨(some 35),
   .build ([.vs [] .full, .vs [] .full]) [(0, 1, .t 29), (1, 1, .t 34)], none⟩, ⟨none, .store 2 (.t 4) (.t 35), none⟩, ⟨(some 5), .mv (.c (.bool true)), none⟩]) (.seq
    (.freeze 4) (.ret))) (.skip))) (.seq (.keep [4, 6]) (.seq (.seq (.region 0 [⟨(some 36), .faddr 0 (.t 6), none⟩, ⟨(some 37), .load 1 false false (.t 36), none⟩,
   ⟨(some 38), .bin .neq (.t 37) (.c (.int .i64 0)), none⟩]) (.cond (.t 38) (.seq (.region 0 [⟨(some 39), .build ([.vs [] .full, .vs [] .full]) [], none⟩, ⟨none, .store 2
    (.t 4) (.t 39), none⟩, ⟨(some 5), .mv (.c (.bool false)), none⟩]) (.seq (.freeze 4) (.ret))) (.skip))) (.seq (.keep [4, 6]) (.seq (.seq (.region 0 [⟨(some 41),
   .faddr 1 (.t 6), none⟩, ⟨(some 42), .load 35 true false (.t 41), none⟩, ⟨(some 43), .pcall 253 [.t 42], none⟩, ⟨(some 40), .mv (.t 43), none⟩, ⟨(some 44), .ext 0
    (.t 40), none⟩, ⟨(some 45), .ext 1 (.t 40), none⟩, ⟨(some 7), .mv (.t 44), none⟩, ⟨(some 8), .mv (.t 45), none⟩]) (.seq (.keep [4, 6, 7, 8]) (.seq
    (.region 0 [⟨(some 46), .mv (.t 8), none⟩]) (.cond (.t 46) (.seq (.region 0 [⟨(some 47), .mv (.t 7), none⟩, ⟨(some 48), .pcall 102 [.t 47], none⟩, ⟨none, .store 2
    (.t 4) (.t 48), none⟩, ⟨(some 5), .mv (.c (.bool true)), none⟩]) (.seq (.freeze 4) (.ret))) (.skip))))) (.seq (.keep [4, 6]) (.seq (.region 1 [⟨(some 49),
   .pcall 243 [.c (.int .u32 4294967295)], none⟩, ⟨(some 50), .faddr 1 (.t 6), none⟩, ⟨(some 51), .load 35 true true (.t 50), none⟩, ⟨(some 52), .pcall 249 [.t 49, .t 51],
   none⟩, ⟨(some 9), .alloc 0 (rep 35 (.int .u32 0)), none⟩, ⟨none, .store 35 (.t 9) (.t 52), none⟩]) (.seq (.keep [4, 6, 9]) (.seq (.seq (.region 0 [⟨(some 53), .faddr 1
    (.t 6), none⟩, ⟨(some 54), .load 35 true false (.t 53), none⟩, ⟨(some 55), .load 35 true false (.t 9), none⟩, ⟨(some 56), .bslice 2 (rep 35 (.int .u32 0)) [(0, .t 54),
   (1, .t 55)], none⟩, ⟨(some 57), .len false (.t 56), none⟩, ⟨(some 58), .mv (.c (.int .i64 0)), none⟩]) (.seq (.keep [4, 6, 56, 57, 58]) (.block 0 (.loop [4, 6, 56, 57,
   58] (.seq (.region 0 [⟨(some 59), .bin .lss (.t 58) (.t 57), none⟩]) (.seq (.cond (.t 59) (.skip) (.exit 0)) (.seq (.block 1 (.seq (.region 1 [⟨(some 60), .iaddr 35
    (.t 56) (.t 58), none⟩, ⟨(some 61), .load 35 true false (.t 60), none⟩, ⟨(some 11), .alloc 0 (rep 35 (.int .u32 0)), none⟩, ⟨none, .store 35 (.t 11) (.t 61), none⟩])
    (.seq (.region 0 [⟨(some 63), .load 35 true false (.t 11), none⟩, ⟨(some 64), .pcall 254 [.t 63], none⟩, ⟨(some 62), .mv (.t 64), none⟩, ⟨(some 65), .ext 0 (.t 62),
   none⟩, ⟨(some 66), .ext 1 (.t 62), none⟩, ⟨(some 12), .mv (.t 65), none⟩, ⟨(some 13), .mv (.t 66), none⟩]) (.seq (.keep [4, 6, 11, 12, 13, 56, 57, 58]) (.seq (.seq
    (.region 0 [⟨(some 67), .mv (.t 13), none⟩, ⟨(some 68), .un .not (.t 67), none⟩]) (.cond (.t 68) (.exit 1) (.skip))) (.seq (.region 1 [⟨(some 70), .mv (.t 12), none⟩,
   ⟨(some 71), .pcall 103 [.t 70], none⟩, ⟨(some 69), .mv (.t 71), none⟩, ⟨(some 72), .ext 0 (.t 69), none⟩, ⟨(some 73), .ext 1 (.t 69), none⟩, ⟨(some 14), .alloc 0
    ([.vs [] .full, .vs [] .full]), none⟩, ⟨none, .store 2 (.t 14) (.t 72), none⟩, ⟨(some 15), .mv (.t 73), none⟩]) (.seq (.keep [4, 6, 11, 14]) (.seq (.seq
    (.region 0 [⟨(some 74), .load 35 true false (.t 11), none⟩, ⟨(some 75), .faddr 1 (.t 6), none⟩, ⟨(some 76), .load 35 true false (.t 75), none⟩, ⟨(some 77), .aeq
    (List.replicate 35 .int) true (.t 74) (.t 76), none⟩]) (.seq (.keep [4, 14, 77]) (.cond (.t 77) (.region 0 [⟨(some 79), .load 2 true true (.t 14), none⟩, ⟨(some 80),
   .pcall 102 [.c (.int .u32 4294967295)], none⟩, ⟨(some 81), .pcall 109 [.c (.int .i64 164), .t 79, .t 80], none⟩, ⟨(some 78), .mv (.t 81), none⟩, ⟨(some 82), .ext 0
    (.t 78), none⟩, ⟨(some 83), .ext 1 (.t 78), none⟩, ⟨none, .store 2 (.t 14) (.t 82), none⟩]) (.skip)))) (.seq (.keep [4, 14]) (.seq (.region 0 [⟨(some 84),
   .load 2 true false (.t 14), none⟩, ⟨none, .store 2 (.t 4) (.t 84), none⟩, ⟨(some 5), .mv (.c (.bool true)), none⟩]) (.seq (.freeze 4) (.ret)))))))))))) (.seq
    (.keep [4, 6, 56, 57, 58]) (.region 0 [⟨(some 85), .bin .add (.t 58) (.c (.int .i64 1)), none⟩, ⟨(some 58), .mv (.t 85), none⟩]))))))))) (.seq (.keep [4]) (.seq
    (.region 0 [⟨(some 86), .build ([.vs [] .full, .vs [] .full]) [], none⟩, ⟨none, .store 2 (.t 4) (.t 86), none⟩, ⟨(some 5), .mv (.c (.bool false)), none⟩]) (.seq
    (.freeze 4) (.ret))))))))))))))),
  [.cell 4 2 true, .tmp 5]⟩
/-- (*hurdle/sym.Book).Constant -/
def c_sym_Book_Constant : SFn := ⟨24,
  .seq (.region 0 [⟨(some 4), .mv (.c (.int .u32 0)), none⟩, ⟨(some 5), .mv (.c (.bool false)), none⟩]) (.seq (.seq (.region 0 [⟨(some 8), .mv (.t 0), none⟩, ⟨(some 9), .mv
    (.t 1), none⟩, ⟨(some 10), .scall 258 [.t 8, .t 9], none⟩, ⟨(some 11), .un .not (.t 10), none⟩]) (.seq (.keep [0, 1, 11]) (.cond (.t 11) (.seq (.region 0 [⟨(some 4),
   .mv (.c (.int .u32 0)), none⟩, ⟨(some 5), .mv (.c (.bool false)), none⟩]) (.ret)) (.skip)))) (.seq (.keep [0, 1]) (.seq (.region 1 [⟨(some 13), .mv (.t 0), none⟩,
   ⟨(some 14), .mv (.t 1), none⟩, ⟨(some 15), .scall 264 [.t 13, .t 14], none⟩, ⟨(some 12), .mv (.t 15), none⟩, ⟨(some 16), .ext 0 (.t 12), none⟩, ⟨(some 17), .ext 1
    (.t 12), none⟩, ⟨(some 6), .alloc 0 (rep 35 (.int .u32 0)), none⟩, ⟨none, .store 35 (.t 6) (.t 16), none⟩, ⟨(some 7), .mv (.t 17), none⟩]) (.seq (.keep [6, 7]) (.seq
    (.seq (.region 0 [⟨(some 18), .mv (.t 7), none⟩, ⟨(some 19), .un .not (.t 18), none⟩]) (.cond (.t 19) (.seq (.region 0 [⟨(some 4), .mv (.c (.int .u32 0)), none⟩,
   ⟨(some 5), .mv (.c (.bool false)), none⟩]) (.ret)) (.skip))) (.seq (.keep [6]) (.seq (.region 0 [⟨(some 20), .load 35 true false (.t 6), none⟩, ⟨(some 21),
   .pcall 253 [.t 20], none⟩, ⟨(some 22), .ext 0 (.t 21), none⟩, ⟨(some 23), .ext 1 (.t 21), none⟩, ⟨(some 4), .mv (.t 22), none⟩, ⟨(some 5), .mv (.t 23), none⟩])
    (.ret)))))))),
  [.tmp 4, .tmp 5]⟩
/-- (*hurdle/sym.Book).sums -/
def c_sym_Book_sums : SFn := ⟨120,
  .seq (.region 0 [⟨(some 8), .mv (.c (.int .i64 0)), none⟩, ⟨(some 9), .mv (.c (.bool false)), none⟩]) (.seq (.region 1 [⟨(some 23), .mv (.t 0), none⟩, ⟨(some 24), .mv
    (.t 2), none⟩, ⟨(some 25), .scall 264 [.t 23, .t 24], none⟩, ⟨(some 22), .mv (.t 25), none⟩, ⟨(some 26), .ext 0 (.t 22), none⟩, ⟨(some 27), .ext 1 (.t 22), none⟩,
   ⟨(some 10), .alloc 0 (rep 35 (.int .u32 0)), none⟩, ⟨none, .store 35 (.t 10) (.t 26), none⟩, ⟨(some 11), .mv (.t 27), none⟩]) (.seq (.keep [0, 1, 3, 10, 11]) (.seq
    (.region 1 [⟨(some 29), .mv (.t 0), none⟩, ⟨(some 30), .mv (.t 3), none⟩, ⟨(some 31), .scall 264 [.t 29, .t 30], none⟩, ⟨(some 28), .mv (.t 31), none⟩, ⟨(some 32),
   .ext 0 (.t 28), none⟩, ⟨(some 33), .ext 1 (.t 28), none⟩, ⟨(some 12), .alloc 0 (rep 35 (.int .u32 0)), none⟩, ⟨none, .store 35 (.t 12) (.t 32), none⟩, ⟨(some 13), .mv
    (.t 33), none⟩]) (.seq (.keep [0, 1, 10, 11, 12, 13]) (.seq (.seq (.region 0 [⟨(some 34), .mv (.t 11), none⟩, ⟨(some 35), .un .not (.t 34), none⟩, ⟨(some 36), .mv
    (.t 35), none⟩, ⟨(some 37), .mv (.t 13), (some (36, false))⟩, ⟨(some 38), .un .not (.t 37), (some (36, false))⟩, ⟨(some 39), .pick (.t 36) (.c (.bool true)) (.t 38),
   none⟩]) (.seq (.keep [0, 1, 10, 12, 39]) (.cond (.t 39) (.seq (.region 0 [⟨(some 8), .mv (.c (.int .i64 0)), none⟩, ⟨(some 9), .mv (.c (.bool false)), none⟩]) (.ret))
    (.skip)))) (.seq (.keep [0, 1, 10, 12]) (.seq (.region 0 [⟨(some 41), .load 35 true false (.t 10), none⟩, ⟨(some 42), .pcall 253 [.t 41], none⟩, ⟨(some 40), .mv
    (.t 42), none⟩, ⟨(some 43), .ext 0 (.t 40), none⟩, ⟨(some 44), .ext 1 (.t 40), none⟩, ⟨(some 14), .mv (.t 43), none⟩, ⟨(some 15), .mv (.t 44), none⟩]) (.seq
    (.keep [0, 1, 10, 12, 14, 15]) (.seq (.region 0 [⟨(some 46), .load 35 true false (.t 12), none⟩, ⟨(some 47), .pcall 253 [.t 46], none⟩, ⟨(some 45), .mv (.t 47), none⟩,
   ⟨(some 48), .ext 0 (.t 45), none⟩, ⟨(some 49), .ext 1 (.t 45), none⟩, ⟨(some 16), .mv (.t 48), none⟩, ⟨(some 17), .mv (.t 49), none⟩]) (.seq (.keep [0, 1, 10, 12, 14,
   15, 16, 17]) (.seq (.block 0 (.seq (.region 0 [⟨(some 51), .mv (.t 1), none⟩, ⟨(some 52), .bin .eql (.t 51) (.c (.int .i64 4)), none⟩, ⟨(some 50), .mv (.t 52), none⟩])
    (.cond (.t 50) (.seq (.region 0 [⟨(some 53), .mv (.t 0), none⟩, ⟨(some 54), .load 35 true false (.t 10), none⟩, ⟨(some 55), .load 35 true false (.t 12), none⟩,
   ⟨(some 56), .pcall 247 [.t 54, .t 55], none⟩, ⟨(some 57), .scall 260 [.t 53, .t 56], none⟩, ⟨(some 8), .mv (.t 57), none⟩, ⟨(some 9), .mv (.c (.bool true)), none⟩])
    (.ret)) (.seq (.region 0 [⟨(some 59), .mv (.t 1), none⟩, ⟨(some 60), .bin .eql (.t 59) (.c (.int .i64 20)), none⟩, ⟨(some 58), .mv (.t 60), none⟩]) (.cond (.t 58)
    (.seq (.region 0 [⟨(some 61), .mv (.t 0), none⟩, ⟨(some 62), .load 35 true false (.t 10), none⟩, ⟨(some 63), .load 35 true false (.t 12), none⟩, ⟨(some 64),
   .pcall 249 [.t 62, .t 63], none⟩, ⟨(some 65), .scall 260 [.t 61, .t 64], none⟩, ⟨(some 8), .mv (.t 65), none⟩, ⟨(some 9), .mv (.c (.bool true)), none⟩]) (.ret)) (.seq
    (.region 0 [⟨(some 67), .mv (.t 1), none⟩, ⟨(some 68), .bin .eql (.t 67) (.c (.int .i64 36)), none⟩, ⟨(some 69), .mv (.t 68), none⟩, ⟨(some 70), .mv (.t 17), (some
    (69, true))⟩, ⟨(some 71), .pick (.t 69) (.t 70) (.c (.bool false)), none⟩, ⟨(some 66), .mv (.t 71), none⟩]) (.seq (.keep [0, 1, 10, 12, 14, 15, 16, 17, 66]) (.cond
    (.t 66) (.seq (.region 0 [⟨(some 72), .mv (.t 0), none⟩, ⟨(some 73), .load 35 true false (.t 10), none⟩, ⟨(some 74), .mv (.t 16), none⟩, ⟨(some 75), .pcall 251 [.t 73,
   .t 74], none⟩, ⟨(some 76), .scall 260 [.t 72, .t 75], none⟩, ⟨(some 8), .mv (.t 76), none⟩, ⟨(some 9), .mv (.c (.bool true)), none⟩]) (.ret)) (.seq
    (.region 0 [⟨(some 78), .mv (.t 1), none⟩, ⟨(some 79), .bin .eql (.t 78) (.c (.int .i64 36)), none⟩, ⟨(some 80), .mv (.t 79), none⟩, ⟨(some 81), .mv (.t 15), (some
    (80, true))⟩, ⟨(some 82), .pick (.t 80) (.t 81) (.c (.bool false)), none⟩, ⟨(some 77), .mv (.t 82), none⟩]) (.seq (.keep [0, 1, 10, 12, 14, 15, 16, 17, 77]) (.cond
    (.t 77) (.seq (.region 0 [⟨(some 83), .mv (.t 0), none⟩, ⟨(some 84), .load 35 true false (.t 12), none⟩, ⟨(some 85), .mv (.t 14), none⟩, ⟨(some 86), .pcall 251 [.t 84,
   .t 85], none⟩, ⟨(some 87), .scall 260 [.t 83, .t 86], none⟩, ⟨(some 8), .mv (.t 87), none⟩, ⟨(some 9), .mv (.c (.bool true)), none⟩]) (.ret)) (.seq
    (.region 0 [⟨(some 89), .mv (.t 1), none⟩, ⟨(some 90), .bin .eql (.t 89) (.c (.int .i64 100)), none⟩, ⟨(some 91), .mv (.t 90), none⟩, ⟨(some 92), .mv (.t 17), (some
    (91, true))⟩, ⟨(some 93), .pick (.t 91) (.t 92) (.c (.bool false)), none⟩, ⟨(some 88), .mv (.t 93), none⟩]) (.seq (.keep [0, 1, 10, 14, 15, 16, 17, 88]) (.cond
    (.t 88) (.seq (.region 0 [⟨(some 95), .mv (.t 16), none⟩, ⟨(some 96), .pcall 107 [.c (.int .i64 100), .c (.int .u32 1), .t 95], none⟩, ⟨(some 94), .mv (.t 96), none⟩,
   ⟨(some 97), .ext 0 (.t 94), none⟩, ⟨(some 98), .ext 1 (.t 94), none⟩, ⟨(some 18), .mv (.t 97), none⟩, ⟨(some 19), .mv (.t 98), none⟩]) (.seq (.keep [0, 10, 18]) (.seq
    (.region 0 [⟨(some 99), .mv (.t 0), none⟩, ⟨(some 100), .load 35 true false (.t 10), none⟩, ⟨(some 101), .mv (.t 18), none⟩, ⟨(some 102), .pcall 251 [.t 100, .t 101],
   none⟩, ⟨(some 103), .scall 260 [.t 99, .t 102], none⟩, ⟨(some 8), .mv (.t 103), none⟩, ⟨(some 9), .mv (.c (.bool true)), none⟩]) (.ret)))) (.seq
    (.region 0 [⟨(some 105), .mv (.t 15), none⟩, ⟨(some 106), .mv (.t 105), none⟩, ⟨(some 107), .mv (.t 17), (some (106, true))⟩, ⟨(some 108), .pick (.t 106) (.t 107) (.c
    (.bool false)), none⟩, ⟨(some 104), .mv (.t 108), none⟩]) (.seq (.keep [0, 1, 14, 16, 104]) (.cond (.t 104) (.seq (.region 0 [⟨(some 110), .mv (.t 1), none⟩,
   ⟨(some 111), .mv (.t 14), none⟩, ⟨(some 112), .mv (.t 16), none⟩, ⟨(some 113), .pcall 107 [.t 110, .t 111, .t 112], none⟩, ⟨(some 109), .mv (.t 113), none⟩,
   ⟨(some 114), .ext 0 (.t 109), none⟩, ⟨(some 115), .ext 1 (.t 109), none⟩, ⟨(some 20), .mv (.t 114), none⟩, ⟨(some 21), .mv (.t 115), none⟩]) (.seq (.keep [0, 20, 21])
    (.seq (.region 0 [⟨(some 116), .mv (.t 0), none⟩, ⟨(some 117), .mv (.t 20), none⟩, ⟨(some 118), .scall 262 [.t 116, .t 117], none⟩, ⟨(some 119), .mv (.t 21), none⟩,
   ⟨(some 8), .mv (.t 118), none⟩, ⟨(some 9), .mv (.t 119), none⟩]) (.ret)))) (.skip)))))))))))))))))) (.seq (.keep []) (.seq (.region 0 [⟨(some 8), .mv (.c
    (.int .i64 0)), none⟩, ⟨(some 9), .mv (.c (.bool false)), none⟩]) (.ret)))))))))))))),
  [.tmp 8, .tmp 9]⟩
/-- (*hurdle/sym.Book).both -/
def c_sym_Book_both : SFn := ⟨46,
  .seq (.region 0 [⟨(some 8), .mv (.c (.int .i64 0)), none⟩, ⟨(some 9), .mv (.c (.bool false)), none⟩]) (.seq (.region 1 [⟨(some 17), .mv (.t 0), none⟩, ⟨(some 18), .mv
    (.t 2), none⟩, ⟨(some 19), .scall 265 [.t 17, .t 18], none⟩, ⟨(some 16), .mv (.t 19), none⟩, ⟨(some 20), .ext 0 (.t 16), none⟩, ⟨(some 21), .ext 1 (.t 16), none⟩,
   ⟨(some 10), .alloc 0 ([.vs [] .full, .vs [] .full]), none⟩, ⟨none, .store 2 (.t 10) (.t 20), none⟩, ⟨(some 11), .mv (.t 21), none⟩]) (.seq (.keep [0, 1, 3, 10, 11])
    (.seq (.region 1 [⟨(some 23), .mv (.t 0), none⟩, ⟨(some 24), .mv (.t 3), none⟩, ⟨(some 25), .scall 265 [.t 23, .t 24], none⟩, ⟨(some 22), .mv (.t 25), none⟩,
   ⟨(some 26), .ext 0 (.t 22), none⟩, ⟨(some 27), .ext 1 (.t 22), none⟩, ⟨(some 12), .alloc 0 ([.vs [] .full, .vs [] .full]), none⟩, ⟨none, .store 2 (.t 12) (.t 26),
   none⟩, ⟨(some 13), .mv (.t 27), none⟩]) (.seq (.keep [0, 1, 10, 11, 12, 13]) (.seq (.seq (.region 0 [⟨(some 28), .mv (.t 11), none⟩, ⟨(some 29), .un .not (.t 28),
   none⟩, ⟨(some 30), .mv (.t 29), none⟩, ⟨(some 31), .mv (.t 13), (some (30, false))⟩, ⟨(some 32), .un .not (.t 31), (some (30, false))⟩, ⟨(some 33), .pick (.t 30) (.c
    (.bool true)) (.t 32), none⟩]) (.seq (.keep [0, 1, 10, 12, 33]) (.cond (.t 33) (.seq (.region 0 [⟨(some 8), .mv (.c (.int .i64 0)), none⟩, ⟨(some 9), .mv (.c
    (.bool false)), none⟩]) (.ret)) (.skip)))) (.seq (.keep [0, 1, 10, 12]) (.seq (.region 1 [⟨(some 35), .mv (.t 1), none⟩, ⟨(some 36), .load 2 true false (.t 10), none⟩,
   ⟨(some 37), .load 2 true false (.t 12), none⟩, ⟨(some 38), .pcall 109 [.t 35, .t 36, .t 37], none⟩, ⟨(some 34), .mv (.t 38), none⟩, ⟨(some 39), .ext 0 (.t 34), none⟩,
   ⟨(some 40), .ext 1 (.t 34), none⟩, ⟨(some 14), .alloc 0 ([.vs [] .full, .vs [] .full]), none⟩, ⟨none, .store 2 (.t 14) (.t 39), none⟩, ⟨(some 15), .mv (.t 40), none⟩])
    (.seq (.keep [0, 14, 15]) (.seq (.seq (.region 0 [⟨(some 41), .mv (.t 15), none⟩, ⟨(some 42), .un .not (.t 41), none⟩]) (.cond (.t 42) (.seq (.region 0 [⟨(some 8), .mv
    (.c (.int .i64 0)), none⟩, ⟨(some 9), .mv (.c (.bool false)), none⟩]) (.ret)) (.skip))) (.seq (.keep [0, 14]) (.seq (.region 0 [⟨(some 43), .mv (.t 0), none⟩,
   ⟨(some 44), .load 2 true false (.t 14), none⟩, ⟨(some 45), .scall 261 [.t 43, .t 44], none⟩, ⟨(some 8), .mv (.t 45), none⟩, ⟨(some 9), .mv (.c (.bool true)), none⟩])
    (.ret)))))))))))),
  [.tmp 8, .tmp 9]⟩
/-- (*hurdle/sym.Book).plain -/
def c_sym_Book_plain : SFn := ⟨60,
  .seq (.region 0 [⟨(some 8), .mv (.c (.int .i64 0)), none⟩, ⟨(some 9), .mv (.c (.bool false)), none⟩]) (.seq (.region 0 [⟨(some 15), .mv (.t 0), none⟩, ⟨(some 16), .mv
    (.t 3), none⟩, ⟨(some 17), .scall 266 [.t 15, .t 16], none⟩, ⟨(some 14), .mv (.t 17), none⟩, ⟨(some 18), .ext 0 (.t 14), none⟩, ⟨(some 19), .ext 1 (.t 14), none⟩,
   ⟨(some 10), .mv (.t 18), none⟩, ⟨(some 11), .mv (.t 19), none⟩]) (.seq (.keep [1, 2, 3, 10, 11]) (.seq (.region 0 [⟨(some 20), .mv (.t 11), none⟩, ⟨(some 21), .mv
    (.t 20), none⟩, ⟨(some 22), .mv (.t 10), (some (21, true))⟩, ⟨(some 23), .bin .eql (.t 22) (.c (.int .u32 0)), (some (21, true))⟩, ⟨(some 24), .pick (.t 21) (.t 23)
    (.c (.bool false)), none⟩, ⟨(some 12), .mv (.t 24), none⟩]) (.seq (.keep [1, 2, 3, 10, 11, 12]) (.seq (.region 0 [⟨(some 25), .mv (.t 11), none⟩, ⟨(some 26), .mv
    (.t 25), none⟩, ⟨(some 27), .mv (.t 10), (some (26, true))⟩, ⟨(some 28), .bin .eql (.t 27) (.c (.int .u32 4294967295)), (some (26, true))⟩, ⟨(some 29), .pick (.t 26)
    (.t 28) (.c (.bool false)), none⟩, ⟨(some 13), .mv (.t 29), none⟩]) (.seq (.keep [1, 2, 3, 12, 13]) (.seq (.seq (.region 0 [⟨(some 30), .mv (.t 1), none⟩]) (.block 0
    (.seq (.seq (.region 0 [⟨(some 32), .bin .eql (.t 30) (.c (.int .i64 4)), none⟩, ⟨(some 31), .mv (.t 32), none⟩]) (.cond (.t 31) (.skip) (.seq (.region 0 [⟨(some 33),
   .bin .eql (.t 30) (.c (.int .i64 20)), none⟩, ⟨(some 31), .mv (.t 33), none⟩]) (.cond (.t 31) (.skip) (.seq (.region 0 [⟨(some 34), .bin .eql (.t 30) (.c
    (.int .i64 100)), none⟩, ⟨(some 31), .mv (.t 34), none⟩]) (.cond (.t 31) (.skip) (.region 0 [⟨(some 35), .bin .eql (.t 30) (.c (.int .i64 116)), none⟩, ⟨(some 31), .mv
    (.t 35), none⟩]))))))) (.seq (.keep [2, 3, 12, 13, 30, 31]) (.cond (.t 31) (.seq (.region 0 [⟨(some 36), .mv (.t 2), none⟩, ⟨(some 37), .mv (.t 12), none⟩, ⟨(some 8),
   .mv (.t 36), none⟩, ⟨(some 9), .mv (.t 37), none⟩]) (.ret)) (.seq (.region 0 [⟨(some 39), .bin .eql (.t 30) (.c (.int .i64 68)), none⟩, ⟨(some 38), .mv (.t 39), none⟩])
    (.cond (.t 38) (.seq (.region 0 [⟨(some 40), .mv (.t 2), none⟩, ⟨(some 41), .mv (.t 12), none⟩, ⟨(some 42), .mv (.t 41), none⟩, ⟨(some 43), .mv (.t 2), (some (42,
   false))⟩, ⟨(some 44), .mv (.t 3), (some (42, false))⟩, ⟨(some 45), .bin .eql (.t 43) (.t 44), (some (42, false))⟩, ⟨(some 46), .pick (.t 42) (.c (.bool true)) (.t 45),
   none⟩, ⟨(some 8), .mv (.t 40), none⟩, ⟨(some 9), .mv (.t 46), none⟩]) (.ret)) (.seq (.region 0 [⟨(some 48), .bin .eql (.t 30) (.c (.int .i64 164)), none⟩, ⟨(some 47),
   .mv (.t 48), none⟩]) (.cond (.t 47) (.seq (.region 0 [⟨(some 49), .mv (.t 2), none⟩, ⟨(some 50), .mv (.t 12), none⟩, ⟨(some 8), .mv (.t 49), none⟩, ⟨(some 9), .mv
    (.t 50), none⟩]) (.ret)) (.seq (.region 0 [⟨(some 52), .bin .eql (.t 30) (.c (.int .i64 84)), none⟩, ⟨(some 51), .mv (.t 52), none⟩]) (.cond (.t 51) (.seq
    (.region 0 [⟨(some 53), .mv (.t 2), none⟩, ⟨(some 54), .mv (.t 13), none⟩, ⟨(some 55), .mv (.t 54), none⟩, ⟨(some 56), .mv (.t 2), (some (55, false))⟩, ⟨(some 57), .mv
    (.t 3), (some (55, false))⟩, ⟨(some 58), .bin .eql (.t 56) (.t 57), (some (55, false))⟩, ⟨(some 59), .pick (.t 55) (.c (.bool true)) (.t 58), none⟩, ⟨(some 8), .mv
    (.t 53), none⟩, ⟨(some 9), .mv (.t 59), none⟩]) (.ret)) (.skip)))))))))))) (.seq (.keep []) (.seq (.region 0 [⟨(some 8), .mv (.c (.int .i64 0)), none⟩, ⟨(some 9), .mv
    (.c (.bool false)), none⟩]) (.ret)))))))))),
  [.tmp 8, .tmp 9]⟩
/-- (*hurdle/sym.Book).Alu$1 -/
def c_sym_Book_Alu_1 : SFn := ⟨13,
  .seq (.region 0 [⟨(some 4), .mv (.c (.int .i64 0)), none⟩, ⟨(some 5), .mv (.c (.bool false)), none⟩]) (.seq (.region 0 [⟨(some 6), .load 1 false false (.t 0), none⟩,
   ⟨(some 7), .load 1 false false (.t 1), none⟩, ⟨(some 8), .load 1 false false (.t 2), none⟩, ⟨(some 9), .load 1 false false (.t 3), none⟩, ⟨(some 10), .scall 267 [.t 6,
   .t 7, .t 8, .t 9], none⟩, ⟨(some 11), .ext 0 (.t 10), none⟩, ⟨(some 12), .ext 1 (.t 10), none⟩, ⟨(some 4), .mv (.t 11), none⟩, ⟨(some 5), .mv (.t 12), none⟩]) (.ret)),
  [.tmp 4, .tmp 5]⟩
/-- (*hurdle/sym.Book).Alu$2 -/
def c_sym_Book_Alu_2 : SFn := ⟨13,
  .seq (.region 0 [⟨(some 4), .mv (.c (.int .i64 0)), none⟩, ⟨(some 5), .mv (.c (.bool false)), none⟩]) (.seq (.region 0 [⟨(some 6), .load 1 false false (.t 0), none⟩,
   ⟨(some 7), .load 1 false false (.t 1), none⟩, ⟨(some 8), .load 1 false false (.t 2), none⟩, ⟨(some 9), .load 1 false false (.t 3), none⟩, ⟨(some 10), .scall 268 [.t 6,
   .t 7, .t 8, .t 9], none⟩, ⟨(some 11), .ext 0 (.t 10), none⟩, ⟨(some 12), .ext 1 (.t 10), none⟩, ⟨(some 4), .mv (.t 11), none⟩, ⟨(some 5), .mv (.t 12), none⟩]) (.ret)),
  [.tmp 4, .tmp 5]⟩
/-- (*hurdle/sym.Book).Alu$3 -/
def c_sym_Book_Alu_3 : SFn := ⟨13,
  .seq (.region 0 [⟨(some 4), .mv (.c (.int .i64 0)), none⟩, ⟨(some 5), .mv (.c (.bool false)), none⟩]) (.seq (.region 0 [⟨(some 6), .load 1 false false (.t 0), none⟩,
   ⟨(some 7), .load 1 false false (.t 1), none⟩, ⟨(some 8), .load 1 false false (.t 2), none⟩, ⟨(some 9), .load 1 false false (.t 3), none⟩, ⟨(some 10), .scall 269 [.t 6,
   .t 7, .t 8, .t 9], none⟩, ⟨(some 11), .ext 0 (.t 10), none⟩, ⟨(some 12), .ext 1 (.t 10), none⟩, ⟨(some 4), .mv (.t 11), none⟩, ⟨(some 5), .mv (.t 12), none⟩]) (.ret)),
  [.tmp 4, .tmp 5]⟩
/-- (*hurdle/sym.Book).Alu$4 -/
def c_sym_Book_Alu_4 : SFn := ⟨16,
  .seq (.region 0 [⟨(some 5), .mv (.c (.int .i64 0)), none⟩, ⟨(some 6), .mv (.c (.bool false)), none⟩]) (.seq (.seq (.region 0 [⟨(some 7), .load 1 false false (.t 0), none⟩,
   ⟨(some 8), .un .not (.t 7), none⟩]) (.cond (.t 8) (.seq (.region 0 [⟨(some 5), .mv (.c (.int .i64 0)), none⟩, ⟨(some 6), .mv (.c (.bool false)), none⟩]) (.ret))
    (.skip))) (.seq (.keep [1, 2, 3, 4]) (.seq (.region 0 [⟨(some 9), .load 1 false false (.t 1), none⟩, ⟨(some 10), .load 1 false false (.t 2), none⟩, ⟨(some 11),
   .load 1 false false (.t 3), none⟩, ⟨(some 12), .load 1 false false (.t 4), none⟩, ⟨(some 13), .scall 269 [.t 9, .t 10, .t 11, .t 12], none⟩, ⟨(some 14), .ext 0
    (.t 13), none⟩, ⟨(some 15), .ext 1 (.t 13), none⟩, ⟨(some 5), .mv (.t 14), none⟩, ⟨(some 6), .mv (.t 15), none⟩]) (.ret)))),
  [.tmp 5, .tmp 6]⟩
/-- (*hurdle/sym.Book).Alu -/
def c_sym_Book_Alu : SFn := ⟨83,
  .seq (.region 4 [⟨(some 4), .box 0 (.t 0), none⟩, ⟨(some 5), .box 1 (.t 1), none⟩, ⟨(some 6), .box 2 (.t 2), none⟩, ⟨(some 7), .box 3 (.t 3), none⟩, ⟨(some 8), .mv (.c
    (.int .i64 0)), none⟩]) (.seq (.seq (.region 0 [⟨(some 18), .load 1 false false (.t 5), none⟩, ⟨(some 19), .pcall 107 [.t 18, .c (.int .u32 0), .c (.int .u32 1)],
   none⟩, ⟨(some 17), .mv (.t 19), none⟩, ⟨(some 20), .ext 0 (.t 17), none⟩, ⟨(some 21), .ext 1 (.t 17), none⟩, ⟨(some 9), .mv (.t 20), none⟩, ⟨(some 10), .mv (.t 21),
   none⟩]) (.seq (.keep [4, 5, 6, 7, 10]) (.seq (.region 0 [⟨(some 22), .mv (.t 10), none⟩, ⟨(some 23), .un .not (.t 22), none⟩, ⟨(some 24), .mv (.t 23), none⟩,
   ⟨(some 25), .load 1 false false (.t 4), (some (24, false))⟩, ⟨(some 26), .load 1 false false (.t 6), (some (24, false))⟩, ⟨(some 27), .scall 258 [.t 25, .t 26], (some
    (24, false))⟩, ⟨(some 28), .un .not (.t 27), (some (24, false))⟩, ⟨(some 29), .pick (.t 24) (.c (.bool true)) (.t 28), none⟩, ⟨(some 30), .mv (.t 29), none⟩,
   ⟨(some 31), .load 1 false false (.t 4), (some (30, false))⟩, ⟨(some 32), .load 1 false false (.t 7), (some (30, false))⟩, ⟨(some 33), .scall 258 [.t 31, .t 32], (some
    (30, false))⟩, ⟨(some 34), .un .not (.t 33), (some (30, false))⟩, ⟨(some 35), .pick (.t 30) (.c (.bool true)) (.t 34), none⟩]) (.seq (.keep [4, 5, 6, 7, 35]) (.cond
    (.t 35) (.seq (.region 0 [⟨(some 8), .mv (.c (.int .i64 (-1))), none⟩]) (.ret)) (.skip)))))) (.seq (.keep [4, 5, 6, 7]) (.seq (.region 1 [⟨(some 36),
   .load 1 false false (.t 5), none⟩, ⟨(some 37), .bin .neq (.t 36) (.c (.int .i64 20)), none⟩, ⟨(some 38), .mv (.t 37), none⟩, ⟨(some 39), .load 1 false false (.t 5),
   (some (38, true))⟩, ⟨(some 40), .bin .neq (.t 39) (.c (.int .i64 52)), (some (38, true))⟩, ⟨(some 41), .pick (.t 38) (.t 40) (.c (.bool false)), none⟩, ⟨(some 42), .mv
    (.t 41), none⟩, ⟨(some 43), .load 1 false false (.t 5), (some (42, true))⟩, ⟨(some 44), .bin .neq (.t 43) (.c (.int .i64 100)), (some (42, true))⟩, ⟨(some 45), .pick
    (.t 42) (.t 44) (.c (.bool false)), none⟩, ⟨(some 46), .mv (.t 45), none⟩, ⟨(some 47), .load 1 false false (.t 5), (some (46, true))⟩, ⟨(some 48), .bin .neq (.t 47)
    (.c (.int .i64 116)), (some (46, true))⟩, ⟨(some 49), .pick (.t 46) (.t 48) (.c (.bool false)), none⟩, ⟨(some 11), .alloc 0 ([.bool false]), none⟩, ⟨none, .store 1
    (.t 11) (.t 49), none⟩]) (.seq (.keep [4, 5, 6, 7, 11]) (.seq (.region 1 [⟨(some 50), .mkfn 270 [.t 4, .t 5, .t 6, .t 7], none⟩, ⟨(some 51), .mkfn 271 [.t 4, .t 5,
   .t 6, .t 7], none⟩, ⟨(some 52), .mkfn 272 [.t 4, .t 5, .t 6, .t 7], none⟩, ⟨(some 53), .mkfn 273 [.t 11, .t 4, .t 5, .t 7, .t 6], none⟩, ⟨(some 54), .bsliceR 0 4
    ([.nilf]) [(0, .t 50), (1, .t 51), (2, .t 52), (3, .t 53)], none⟩, ⟨(some 12), .mv (.t 54), none⟩]) (.seq (.keep [4, 5, 6, 7, 11, 12]) (.seq (.seq
    (.region 0 [⟨(some 55), .mv (.t 12), none⟩, ⟨(some 56), .len false (.t 55), none⟩, ⟨(some 57), .mv (.c (.int .i64 0)), none⟩]) (.block 0 (.loop [4, 5, 6, 7, 11, 55,
   56, 57] (.seq (.region 0 [⟨(some 58), .bin .lss (.t 57) (.t 56), none⟩]) (.seq (.cond (.t 58) (.skip) (.exit 0)) (.seq (.block 1 (.seq (.region 0 [⟨(some 59), .iaddr 1
    (.t 55) (.t 57), none⟩, ⟨(some 60), .load 1 false false (.t 59), none⟩, ⟨(some 14), .mv (.t 60), none⟩]) (.seq (.region 0 [⟨(some 62), .mv (.t 14), none⟩, ⟨(some 63),
   .vcall false (.t 62) [], none⟩, ⟨(some 61), .mv (.t 63), none⟩, ⟨(some 64), .ext 0 (.t 61), none⟩, ⟨(some 65), .ext 1 (.t 61), none⟩, ⟨(some 15), .mv (.t 64), none⟩,
   ⟨(some 16), .mv (.t 65), none⟩]) (.seq (.keep [4, 5, 6, 7, 11, 15, 16, 55, 56, 57]) (.seq (.region 0 [⟨(some 66), .mv (.t 16), none⟩]) (.cond (.t 66) (.seq
    (.region 0 [⟨(some 67), .mv (.t 15), none⟩, ⟨(some 8), .mv (.t 67), none⟩]) (.ret)) (.skip))))))) (.seq (.keep [4, 5, 6, 7, 11, 55, 56, 57]) (.region 0 [⟨(some 68),
   .bin .add (.t 57) (.c (.int .i64 1)), none⟩, ⟨(some 57), .mv (.t 68), none⟩])))))))) (.seq (.keep [4, 5, 6, 7, 11]) (.seq (.seq (.region 0 [⟨(some 69),
   .load 1 false false (.t 11), none⟩, ⟨(some 70), .mv (.t 69), none⟩, ⟨(some 71), .load 1 false false (.t 6), (some (70, true))⟩, ⟨(some 72), .load 1 false false (.t 7),
   (some (70, true))⟩, ⟨(some 73), .bin .gtr (.t 71) (.t 72), (some (70, true))⟩, ⟨(some 74), .pick (.t 70) (.t 73) (.c (.bool false)), none⟩]) (.seq (.keep [4, 5, 6, 7,
   74]) (.cond (.t 74) (.region 0 [⟨(some 75), .load 1 false false (.t 7), none⟩, ⟨(some 76), .load 1 false false (.t 6), none⟩, ⟨none, .store 1 (.t 6) (.t 75), none⟩,
   ⟨none, .store 1 (.t 7) (.t 76), none⟩]) (.skip)))) (.seq (.keep [4, 5, 6, 7]) (.seq (.region 0 [⟨(some 77), .load 1 false false (.t 4), none⟩, ⟨(some 78),
   .load 1 false false (.t 5), none⟩, ⟨(some 79), .load 1 false false (.t 6), none⟩, ⟨(some 80), .load 1 false false (.t 7), none⟩, ⟨(some 81), .build
    ([.int .i64 0] ++ rep 35 (.int .u32 0) ++ [.int .i64 0, .int .i64 0, .int .i64 0, .int .i64 0, .int .i64 0] ++ rep 16 (.int .u32 0) ++ [.int .i64 0, .int .i64 0,
   .int .i64 0]) [(0, 1, .c (.int .i64 2)), (57, 1, .t 78), (58, 1, .t 79), (59, 1, .t 80)], none⟩, ⟨(some 82), .scall 259 [.t 77, .t 81], none⟩, ⟨(some 8), .mv (.t 82),
   none⟩]) (.ret)))))))))))),
  [.tmp 8]⟩
/-- (*hurdle/sym.Book).Neg -/
def c_sym_Book_Neg : SFn := ⟨14,
  .seq (.region 0 [⟨(some 4), .mv (.c (.int .i64 0)), none⟩]) (.seq (.seq (.region 0 [⟨(some 5), .mv (.t 0), none⟩, ⟨(some 6), .mv (.t 1), none⟩, ⟨(some 7),
   .scall 258 [.t 5, .t 6], none⟩, ⟨(some 8), .un .not (.t 7), none⟩]) (.seq (.keep [0, 1, 8]) (.cond (.t 8) (.seq (.region 0 [⟨(some 4), .mv (.c (.int .i64 (-1))),
   none⟩]) (.ret)) (.skip)))) (.seq (.keep [0, 1]) (.seq (.region 0 [⟨(some 9), .mv (.t 0), none⟩, ⟨(some 10), .mv (.t 0), none⟩, ⟨(some 11), .scall 262 [.t 10, .c
    (.int .u32 0)], none⟩, ⟨(some 12), .mv (.t 1), none⟩, ⟨(some 13), .scall 274 [.t 9, .c (.int .i64 20), .t 11, .t 12], none⟩, ⟨(some 4), .mv (.t 13), none⟩]) (.ret)))),
  [.tmp 4]⟩
/-- (*hurdle/sym.Book).Apart -/
def c_sym_Book_Apart : SFn := ⟨74,
  .seq (.region 1 [⟨(some 6), .alloc 0 (rep 34 (.int .u32 0)), none⟩, ⟨(some 7), .mv (.c (.bool false)), none⟩]) (.seq (.region 1 [⟨(some 8), .alloc 0 (rep 34
    (.int .u32 0)), none⟩]) (.seq (.seq (.region 0 [⟨(some 15), .mv (.t 0), none⟩, ⟨(some 16), .mv (.t 1), none⟩, ⟨(some 17), .scall 258 [.t 15, .t 16], none⟩, ⟨(some 18),
   .un .not (.t 17), none⟩, ⟨(some 19), .mv (.t 18), none⟩, ⟨(some 20), .mv (.t 0), (some (19, false))⟩, ⟨(some 21), .mv (.t 2), (some (19, false))⟩, ⟨(some 22),
   .scall 258 [.t 20, .t 21], (some (19, false))⟩, ⟨(some 23), .un .not (.t 22), (some (19, false))⟩, ⟨(some 24), .pick (.t 19) (.c (.bool true)) (.t 23), none⟩,
   ⟨(some 25), .mv (.t 24), none⟩, ⟨(some 26), .mv (.t 1), (some (25, false))⟩, ⟨(some 27), .mv (.t 2), (some (25, false))⟩, ⟨(some 28), .bin .eql (.t 26) (.t 27), (some
    (25, false))⟩, ⟨(some 29), .pick (.t 25) (.c (.bool true)) (.t 28), none⟩]) (.seq (.keep [0, 1, 2, 6, 8, 29]) (.cond (.t 29) (.seq (.region 0 [⟨(some 30),
   .load 34 true false (.t 8), none⟩, ⟨none, .store 34 (.t 6) (.t 30), none⟩, ⟨(some 7), .mv (.c (.bool false)), none⟩]) (.ret)) (.skip)))) (.seq (.keep [0, 1, 2, 6, 8])
    (.seq (.region 1 [⟨(some 32), .mv (.t 0), none⟩, ⟨(some 33), .mv (.t 1), none⟩, ⟨(some 34), .scall 264 [.t 32, .t 33], none⟩, ⟨(some 31), .mv (.t 34), none⟩,
   ⟨(some 35), .ext 0 (.t 31), none⟩, ⟨(some 36), .ext 1 (.t 31), none⟩, ⟨(some 9), .alloc 0 (rep 35 (.int .u32 0)), none⟩, ⟨none, .store 35 (.t 9) (.t 35), none⟩,
   ⟨(some 10), .mv (.t 36), none⟩]) (.seq (.keep [0, 1, 2, 6, 8, 9, 10]) (.seq (.region 1 [⟨(some 38), .mv (.t 0), none⟩, ⟨(some 39), .mv (.t 2), none⟩, ⟨(some 40),
   .scall 264 [.t 38, .t 39], none⟩, ⟨(some 37), .mv (.t 40), none⟩, ⟨(some 41), .ext 0 (.t 37), none⟩, ⟨(some 42), .ext 1 (.t 37), none⟩, ⟨(some 11), .alloc 0 (rep 35
    (.int .u32 0)), none⟩, ⟨none, .store 35 (.t 11) (.t 41), none⟩, ⟨(some 12), .mv (.t 42), none⟩]) (.seq (.keep [0, 1, 2, 6, 8, 9, 10, 11, 12]) (.seq (.seq
    (.region 0 [⟨(some 43), .mv (.t 10), none⟩, ⟨(some 44), .mv (.t 43), none⟩, ⟨(some 45), .mv (.t 12), (some (44, true))⟩, ⟨(some 46), .pick (.t 44) (.t 45) (.c
    (.bool false)), none⟩]) (.seq (.keep [0, 1, 2, 6, 8, 9, 11, 46]) (.cond (.t 46) (.seq (.region 0 [⟨(some 47), .load 35 true false (.t 9), none⟩, ⟨(some 48),
   .load 35 true false (.t 11), none⟩, ⟨(some 49), .pcall 255 [.t 47, .t 48], none⟩, ⟨(some 50), .ext 0 (.t 49), none⟩, ⟨(some 51), .ext 1 (.t 49), none⟩, ⟨none, .store 34
    (.t 6) (.t 50), none⟩, ⟨(some 7), .mv (.t 51), none⟩]) (.ret)) (.skip)))) (.seq (.keep [0, 1, 2, 6, 8]) (.seq (.region 1 [⟨(some 53), .mv (.t 0), none⟩, ⟨(some 54),
   .mv (.t 1), none⟩, ⟨(some 55), .scall 265 [.t 53, .t 54], none⟩, ⟨(some 52), .mv (.t 55), none⟩, ⟨(some 56), .ext 0 (.t 52), none⟩, ⟨(some 57), .ext 1 (.t 52), none⟩,
   ⟨(some 13), .alloc 0 ([.vs [] .full, .vs [] .full]), none⟩, ⟨none, .store 2 (.t 13) (.t 56), none⟩, ⟨(some 10), .mv (.t 57), none⟩]) (.seq (.keep [0, 2, 6, 8, 10, 13])
    (.seq (.region 1 [⟨(some 59), .mv (.t 0), none⟩, ⟨(some 60), .mv (.t 2), none⟩, ⟨(some 61), .scall 265 [.t 59, .t 60], none⟩, ⟨(some 58), .mv (.t 61), none⟩,
   ⟨(some 62), .ext 0 (.t 58), none⟩, ⟨(some 63), .ext 1 (.t 58), none⟩, ⟨(some 14), .alloc 0 ([.vs [] .full, .vs [] .full]), none⟩, ⟨none, .store 2 (.t 14) (.t 62),
   none⟩, ⟨(some 12), .mv (.t 63), none⟩]) (.seq (.keep [6, 8, 10, 12, 13, 14]) (.seq (.seq (.region 0 [⟨(some 64), .mv (.t 10), none⟩, ⟨(some 65), .mv (.t 64), none⟩,
   ⟨(some 66), .mv (.t 12), (some (65, true))⟩, ⟨(some 67), .pick (.t 65) (.t 66) (.c (.bool false)), none⟩]) (.seq (.keep [6, 8, 13, 14, 67]) (.cond (.t 67) (.seq
    (.region 0 [⟨(some 68), .load 2 true false (.t 13), none⟩, ⟨(some 69), .load 2 true false (.t 14), none⟩, ⟨(some 70), .pcall 112 [.t 68, .t 69], none⟩, ⟨(some 71),
   .ext 0 (.t 70), none⟩, ⟨(some 72), .ext 1 (.t 70), none⟩, ⟨none, .store 34 (.t 6) (.t 71), none⟩, ⟨(some 7), .mv (.t 72), none⟩]) (.ret)) (.skip)))) (.seq (.keep [6,
   8]) (.seq (.region 0 [⟨(some 73), .load 34 true false (.t 8), none⟩, ⟨none, .store 34 (.t 6) (.t 73), none⟩, ⟨(some 7), .mv (.c (.bool false)), none⟩])
    (.ret))))))))))))))))),
  [.cell 6 34 true, .tmp 7]⟩
/-- A table that holds these. -/
class HasAffine (G : Tbl) : Prop where
  h_affine_Const : G 243 = some c_affine_Const
  h_affine_Var : G 244 = some c_affine_Var
  h_affine_both : G 245 = some c_affine_both
  h_affine_Add_1 : G 246 = some c_affine_Add_1
  h_affine_Add : G 247 = some c_affine_Add
  h_affine_Sub_1 : G 248 = some c_affine_Sub_1
  h_affine_Sub : G 249 = some c_affine_Sub
  h_affine_Mul_1 : G 250 = some c_affine_Mul_1
  h_affine_Mul : G 251 = some c_affine_Mul
  h_affine_Constant : G 253 = some c_affine_Constant
  h_affine_Single : G 254 = some c_affine_Single
/-- A table that holds these. -/
class HasSymNew (G : Tbl) : Prop where
  h_sym_New : G 256 = some c_sym_New
/-- A table that holds these. -/
class HasSym (G : Tbl) : Prop where
  h_sym_Book_Len : G 257 = some c_sym_Book_Len
  h_sym_Book_has : G 258 = some c_sym_Book_has
  h_sym_Book_id : G 259 = some c_sym_Book_id
  h_sym_Book_sum : G 260 = some c_sym_Book_sum
  h_sym_Book_bits : G 261 = some c_sym_Book_bits
  h_sym_Book_Const : G 262 = some c_sym_Book_Const
  h_sym_Book_Var : G 263 = some c_sym_Book_Var
  h_sym_Book_asSum : G 264 = some c_sym_Book_asSum
  h_sym_Book_asBits : G 265 = some c_sym_Book_asBits
  h_sym_Book_Constant : G 266 = some c_sym_Book_Constant
  h_sym_Book_sums : G 267 = some c_sym_Book_sums
  h_sym_Book_both : G 268 = some c_sym_Book_both
  h_sym_Book_plain : G 269 = some c_sym_Book_plain
  h_sym_Book_Alu_1 : G 270 = some c_sym_Book_Alu_1
  h_sym_Book_Alu_2 : G 271 = some c_sym_Book_Alu_2
  h_sym_Book_Alu_3 : G 272 = some c_sym_Book_Alu_3
  h_sym_Book_Alu_4 : G 273 = some c_sym_Book_Alu_4
  h_sym_Book_Alu : G 274 = some c_sym_Book_Alu
  h_sym_Book_Neg : G 275 = some c_sym_Book_Neg
/-- A table that holds these. -/
class HasSymApart (G : Tbl) : Prop where
  h_sym_Book_Apart : G 277 = some c_sym_Book_Apart
/-- A table that holds these. -/
class HasAffApart (G : Tbl) : Prop where
  h_affine_Apart : G 255 = some c_affine_Apart
end Go.Ev
/- Simplified code of Go functions, by scode.py. -/
namespace Go.Ev
/-- hurdle/window.Run -/
def c_window_Run : SFn := ⟨39,
  .seq (.region 3 [⟨(some 4), .box 0 (.t 1), none⟩, ⟨(some 5), .box 1 (.t 2), none⟩, ⟨(some 6), .alloc 2 (rep 18 (.int .u32 0)), none⟩, ⟨(some 7), .mv (.c (.int .i64 0)),
   none⟩]) (.seq (.seq (.region 0 [⟨(some 12), .mv (.t 0), none⟩, ⟨(some 13), .pcall 202 [.t 12], none⟩, ⟨(some 14), .un .not (.t 13), none⟩]) (.cond (.t 14) (.seq
    (.region 0 [⟨(some 15), .load 18 true false (.t 4), none⟩, ⟨none, .store 18 (.t 6) (.t 15), none⟩, ⟨(some 7), .mv (.c (.int .i64 0)), none⟩]) (.ret)) (.skip))) (.seq
    (.keep [0, 4, 5, 6]) (.seq (.seq (.region 0 [⟨(some 16), .mv (.t 0), none⟩, ⟨(some 17), .len false (.t 16), none⟩, ⟨(some 18), .mv (.c (.int .i64 0)), none⟩])
    (.block 0 (.loop [0, 4, 5, 6, 16, 17, 18] (.seq (.region 0 [⟨(some 19), .bin .lss (.t 18) (.t 17), none⟩]) (.seq (.cond (.t 19) (.skip) (.exit 0)) (.seq (.block 1
    (.seq (.region 1 [⟨(some 20), .mv (.t 18), none⟩, ⟨(some 21), .iaddr 4 (.t 16) (.t 18), none⟩, ⟨(some 22), .load 4 true false (.t 21), none⟩, ⟨(some 9), .alloc 0
    ([.int .i64 0, .int .i64 0, .int .i64 0, .int .u32 0]), none⟩, ⟨(some 8), .mv (.t 20), none⟩, ⟨none, .store 4 (.t 9) (.t 22), none⟩]) (.seq (.keep [0, 4, 5, 6, 8, 9,
   16, 17, 18]) (.seq (.region 1 [⟨(some 24), .load 18 true false (.t 4), none⟩, ⟨(some 25), .load 4 true false (.t 9), none⟩, ⟨(some 26), .load 9 true false (.t 5),
   none⟩, ⟨(some 27), .pcall 164 [.t 24, .t 25, .t 26], none⟩, ⟨(some 23), .mv (.t 27), none⟩, ⟨(some 28), .ext 0 (.t 23), none⟩, ⟨(some 29), .ext 1 (.t 23), none⟩,
   ⟨(some 10), .alloc 0 (rep 18 (.int .u32 0)), none⟩, ⟨none, .store 18 (.t 10) (.t 28), none⟩, ⟨(some 11), .mv (.t 29), none⟩]) (.seq (.keep [0, 4, 5, 6, 8, 10, 11, 16,
   17, 18]) (.seq (.seq (.region 0 [⟨(some 30), .mv (.t 11), none⟩, ⟨(some 31), .un .not (.t 30), none⟩]) (.cond (.t 31) (.seq (.region 0 [⟨(some 32), .load 18 true false
    (.t 4), none⟩, ⟨(some 33), .mv (.t 8), none⟩, ⟨none, .store 18 (.t 6) (.t 32), none⟩, ⟨(some 7), .mv (.t 33), none⟩]) (.ret)) (.skip))) (.seq (.keep [0, 4, 5, 6, 10,
   16, 17, 18]) (.region 0 [⟨(some 34), .load 18 true false (.t 10), none⟩, ⟨none, .store 18 (.t 4) (.t 34), none⟩])))))))) (.seq (.keep [0, 4, 5, 6, 16, 17, 18])
    (.region 0 [⟨(some 35), .bin .add (.t 18) (.c (.int .i64 1)), none⟩, ⟨(some 18), .mv (.t 35), none⟩])))))))) (.seq (.keep [0, 4, 6]) (.seq (.region 0 [⟨(some 36),
   .load 18 true false (.t 4), none⟩, ⟨(some 37), .mv (.t 0), none⟩, ⟨(some 38), .len false (.t 37), none⟩, ⟨none, .store 18 (.t 6) (.t 36), none⟩, ⟨(some 7), .mv
    (.t 38), none⟩]) (.ret)))))),
  [.cell 6 18 true, .tmp 7]⟩
/-- hurdle/window.Assign -/
def c_window_Assign : SFn := ⟨33,
  .seq (.region 3 [⟨(some 2), .box 0 (.t 0), none⟩, ⟨(some 3), .box 1 (.t 1), none⟩, ⟨(some 4), .alloc 2 (rep 34 (.int .u32 0)), none⟩]) (.seq (.region 1 [⟨(some 5),
   .alloc 0 (rep 34 (.int .u32 0)), none⟩]) (.seq (.region 0 [⟨(some 7), .faddr 0 (.t 2), none⟩, ⟨(some 8), .load 1 false false (.t 7), none⟩, ⟨(some 9), .faddr 1 (.t 2),
   none⟩, ⟨(some 10), .load 1 false false (.t 9), none⟩, ⟨(some 11), .iaddrA 34 1 (.t 5) (.c (.int .i64 0)), none⟩, ⟨none, .store 1 (.t 11) (.t 8), none⟩, ⟨(some 12),
   .iaddrA 34 1 (.t 5) (.c (.int .i64 1)), none⟩, ⟨none, .store 1 (.t 12) (.t 10), none⟩]) (.seq (.keep [2, 3, 4, 5]) (.seq (.region 0 [⟨(some 13), .slcA 34 1 (.t 5)
    (some (.c (.int .i64 2))) none, none⟩, ⟨(some 14), .faddr 2 (.t 2), none⟩, ⟨(some 15), .slcA 16 1 (.t 14) none none, none⟩, ⟨(some 16), .cpy 1 (.t 13) (.t 15), none⟩])
    (.seq (.keep [3, 4, 5]) (.seq (.seq (.region 0 [⟨(some 17), .mv (.c (.int .i64 0)), none⟩]) (.block 0 (.loop [3, 4, 5, 17] (.seq (.region 0 [⟨(some 18), .bin .lss
    (.t 17) (.c (.int .i64 16)), none⟩]) (.seq (.cond (.t 18) (.skip) (.exit 0)) (.seq (.block 1 (.seq (.region 0 [⟨(some 19), .mv (.t 17), none⟩, ⟨(some 6), .mv (.t 19),
   none⟩]) (.region 0 [⟨(some 21), .mv (.t 6), none⟩, ⟨(some 22), .bin .add (.c (.int .i64 18)) (.t 21), none⟩, ⟨(some 23), .load 9 true false (.t 3), none⟩, ⟨(some 24),
   .mv (.t 6), none⟩, ⟨(some 25), .bin .mul (.c (.int .i64 4)) (.t 24), none⟩, ⟨(some 26), .conv .u32 (.t 25), none⟩, ⟨(some 27), .pcall 161 [.t 23, .t 26], none⟩,
   ⟨(some 20), .mv (.t 27), none⟩, ⟨(some 28), .ext 0 (.t 20), none⟩, ⟨(some 29), .ext 1 (.t 20), none⟩, ⟨(some 30), .iaddrA 34 1 (.t 5) (.t 22), none⟩, ⟨none, .store 1
    (.t 30) (.t 28), none⟩]))) (.seq (.keep [3, 4, 5, 17]) (.region 0 [⟨(some 31), .bin .add (.t 17) (.c (.int .i64 1)), none⟩, ⟨(some 17), .mv (.t 31), none⟩]))))))))
    (.seq (.keep [4, 5]) (.seq (.region 0 [⟨(some 32), .load 34 true false (.t 5), none⟩, ⟨none, .store 34 (.t 4) (.t 32), none⟩]) (.ret))))))))),
  [.cell 4 34 true]⟩
/-- hurdle/window.State -/
def c_window_State : SFn := ⟨31,
  .seq (.region 3 [⟨(some 1), .box 0 (.t 0), none⟩, ⟨(some 2), .alloc 1 (rep 18 (.int .u32 0)), none⟩, ⟨(some 3), .alloc 2 ([.int .u32 0, .int .u32 0, .int .u64 0,
   .int .u64 0, .int .u64 0, .int .u64 0, .int .u64 0, .int .u64 0, .int .u64 0]), none⟩]) (.seq (.region 1 [⟨(some 7), .iaddrA 34 1 (.t 1) (.c (.int .i64 0)), none⟩,
   ⟨(some 8), .load 1 false false (.t 7), none⟩, ⟨(some 9), .iaddrA 34 1 (.t 1) (.c (.int .i64 1)), none⟩, ⟨(some 10), .load 1 false false (.t 9), none⟩, ⟨(some 11),
   .build (rep 18 (.int .u32 0)) [(0, 1, .t 8), (1, 1, .t 10)], none⟩, ⟨(some 4), .alloc 0 (rep 18 (.int .u32 0)), none⟩, ⟨none, .store 18 (.t 4) (.t 11), none⟩]) (.seq
    (.keep [1, 2, 3, 4]) (.seq (.region 0 [⟨(some 12), .faddr 2 (.t 4), none⟩, ⟨(some 13), .slcA 16 1 (.t 12) none none, none⟩, ⟨(some 14), .slcA 34 1 (.t 1) (some (.c
    (.int .i64 2))) (some (.c (.int .i64 18))), none⟩, ⟨(some 15), .cpy 1 (.t 13) (.t 14), none⟩]) (.seq (.keep [1, 2, 3, 4]) (.seq (.region 1 [⟨(some 5), .alloc 0
    ([.int .u32 0, .int .u32 0, .int .u64 0, .int .u64 0, .int .u64 0, .int .u64 0, .int .u64 0, .int .u64 0, .int .u64 0]), none⟩]) (.seq (.seq (.region 0 [⟨(some 16),
   .mv (.c (.int .i64 0)), none⟩]) (.block 0 (.loop [1, 2, 3, 4, 5, 16] (.seq (.region 0 [⟨(some 17), .bin .lss (.t 16) (.c (.int .i64 16)), none⟩]) (.seq (.cond (.t 17)
    (.skip) (.exit 0)) (.seq (.block 1 (.seq (.region 0 [⟨(some 18), .mv (.t 16), none⟩, ⟨(some 6), .mv (.t 18), none⟩]) (.region 0 [⟨(some 19), .load 9 true true (.t 5),
   none⟩, ⟨(some 20), .mv (.t 6), none⟩, ⟨(some 21), .bin .mul (.c (.int .i64 4)) (.t 20), none⟩, ⟨(some 22), .conv .u32 (.t 21), none⟩, ⟨(some 23), .mv (.t 6), none⟩,
   ⟨(some 24), .bin .add (.c (.int .i64 18)) (.t 23), none⟩, ⟨(some 25), .iaddrA 34 1 (.t 1) (.t 24), none⟩, ⟨(some 26), .load 1 false true (.t 25), none⟩, ⟨(some 27),
   .pcall 233 [.t 19, .t 22, .t 26], none⟩, ⟨none, .store 9 (.t 5) (.t 27), none⟩]))) (.seq (.keep [1, 2, 3, 4, 5, 16]) (.region 0 [⟨(some 28), .bin .add (.t 16) (.c
    (.int .i64 1)), none⟩, ⟨(some 16), .mv (.t 28), none⟩])))))))) (.seq (.keep [2, 3, 4, 5]) (.seq (.region 0 [⟨(some 29), .loadR 18 true 4 (.t 4), none⟩, ⟨(some 30),
   .loadR 9 true 5 (.t 5), none⟩, ⟨none, .storeA 18 [4, 5] (.t 2) (.t 29), none⟩, ⟨none, .storeA 9 [4, 5] (.t 3) (.t 30), none⟩]) (.ret))))))))),
  [.cell 2 18 true, .cell 3 9 true]⟩
/-- hurdle/window.step -/
def c_window_step : SFn := ⟨158,
  .seq (.region 3 [⟨(some 4), .box 0 (.t 1), none⟩, ⟨(some 5), .box 1 (.t 2), none⟩, ⟨(some 6), .alloc 2 ([.int .i64 0, .int .i64 0, .int .i64 0, .int .i64 0, .int .i64 0,
   .int .i64 0, .int .i64 0, .int .i64 0, .int .i64 0, .int .i64 0, .int .i64 0, .int .i64 0, .int .i64 0, .int .i64 0, .int .i64 0, .int .i64 0, .int .i64 0, .int .i64 0,
   .vs [] .full]), none⟩]) (.seq (.region 0 [⟨(some 13), .faddr 0 (.t 4), none⟩, ⟨(some 7), .mv (.t 13), none⟩]) (.seq (.seq (.region 0 [⟨(some 15), .load 4 true false
    (.t 5), none⟩, ⟨(some 16), .pcall 141 [.t 15], none⟩, ⟨(some 14), .mv (.t 16), none⟩, ⟨(some 17), .ext 0 (.t 14), none⟩, ⟨(some 18), .ext 1 (.t 14), none⟩, ⟨(some 19),
   .ext 2 (.t 14), none⟩, ⟨(some 8), .mv (.t 17), none⟩, ⟨(some 9), .mv (.t 18), none⟩, ⟨(some 10), .mv (.t 19), none⟩]) (.seq (.keep [0, 4, 5, 6, 7, 8, 9, 10]) (.seq
    (.region 0 [⟨(some 20), .mv (.t 10), none⟩]) (.cond (.t 20) (.seq (.region 0 [⟨(some 21), .mv (.t 7), none⟩, ⟨(some 22), .nilck (.t 21), none⟩, ⟨(some 23),
   .iaddrA 18 1 (.t 22) (.c (.int .i64 1)), none⟩, ⟨(some 24), .load 1 false false (.t 23), none⟩, ⟨(some 11), .mv (.t 24), none⟩]) (.seq (.keep [0, 4, 5, 6, 7, 8, 9, 11])
    (.seq (.seq (.region 0 [⟨(some 25), .mv (.t 9), none⟩, ⟨(some 26), .un .not (.t 25), none⟩]) (.cond (.t 26) (.region 0 [⟨(some 27), .mv (.t 0), none⟩, ⟨(some 28),
   .faddr 3 (.t 5), none⟩, ⟨(some 29), .load 1 false false (.t 28), none⟩, ⟨(some 30), .scall 262 [.t 27, .t 29], none⟩, ⟨(some 11), .mv (.t 30), none⟩]) (.seq
    (.region 0 [⟨(some 31), .mv (.t 8), none⟩, ⟨(some 32), .bin .eql (.t 31) (.c (.int .i64 52)), none⟩]) (.cond (.t 32) (.region 1 [⟨(some 33), .faddr 18 (.t 4), none⟩,
   ⟨(some 34), .load 1 false false (.t 33), none⟩, ⟨(some 35), .mv (.t 11), none⟩, ⟨(some 36), .bslice 1 ([.int .i64 0]) [(0, .t 35)], none⟩, ⟨(some 37), .app 0 1 8
    (.t 34) (.t 36), none⟩, ⟨(some 38), .faddr 18 (.t 4), none⟩, ⟨none, .store 1 (.t 38) (.t 37), none⟩]) (.skip))))) (.seq (.keep [0, 4, 6, 7, 8, 11]) (.seq
    (.region 0 [⟨(some 39), .mv (.t 7), none⟩, ⟨(some 40), .mv (.t 0), none⟩, ⟨(some 41), .mv (.t 8), none⟩, ⟨(some 42), .mv (.t 7), none⟩, ⟨(some 43), .nilck (.t 42),
   none⟩, ⟨(some 44), .iaddrA 18 1 (.t 43) (.c (.int .i64 0)), none⟩, ⟨(some 45), .load 1 false true (.t 44), none⟩, ⟨(some 46), .mv (.t 11), none⟩, ⟨(some 47),
   .scall 274 [.t 40, .t 41, .t 45, .t 46], none⟩, ⟨(some 48), .nilck (.t 39), none⟩, ⟨(some 49), .iaddrA 18 1 (.t 48) (.c (.int .i64 0)), none⟩, ⟨none, .store 1 (.t 49)
    (.t 47), none⟩]) (.seq (.keep [4, 6]) (.seq (.region 0 [⟨(some 50), .load 19 true false (.t 4), none⟩, ⟨none, .store 19 (.t 6) (.t 50), none⟩]) (.ret))))))))
    (.skip))))) (.seq (.keep [0, 4, 5, 6, 7]) (.seq (.region 0 [⟨(some 51), .faddr 3 (.t 5), none⟩, ⟨(some 52), .load 1 false false (.t 51), none⟩, ⟨(some 53), .conv .i64
    (.t 52), none⟩, ⟨(some 12), .mv (.t 53), none⟩]) (.seq (.keep [0, 4, 5, 6, 7, 12]) (.seq (.seq (.region 0 [⟨(some 54), .faddr 0 (.t 5), none⟩, ⟨(some 55),
   .load 1 false false (.t 54), none⟩]) (.block 0 (.seq (.block 10 (.seq (.block 9 (.seq (.block 8 (.seq (.block 7 (.seq (.block 6 (.seq (.block 5 (.seq (.block 4 (.seq
    (.block 3 (.seq (.block 2 (.seq (.block 1 (.seq (.seq (.seq (.region 0 [⟨(some 57), .bin .eql (.t 55) (.c (.int .i64 0)), none⟩, ⟨(some 56), .mv (.t 57), none⟩])
    (.cond (.t 56) (.exit 1) (.skip))) (.seq (.seq (.region 0 [⟨(some 59), .bin .eql (.t 55) (.c (.int .i64 1)), none⟩, ⟨(some 58), .mv (.t 59), none⟩]) (.cond (.t 58)
    (.exit 2) (.skip))) (.seq (.seq (.region 0 [⟨(some 61), .bin .eql (.t 55) (.c (.int .i64 32)), none⟩, ⟨(some 60), .mv (.t 61), none⟩]) (.cond (.t 60) (.exit 3)
    (.skip))) (.seq (.seq (.region 0 [⟨(some 63), .bin .eql (.t 55) (.c (.int .i64 96)), none⟩, ⟨(some 62), .mv (.t 63), none⟩]) (.cond (.t 62) (.exit 4) (.skip))) (.seq
    (.seq (.region 0 [⟨(some 65), .bin .eql (.t 55) (.c (.int .i64 97)), none⟩, ⟨(some 64), .mv (.t 65), none⟩]) (.cond (.t 64) (.exit 5) (.skip))) (.seq (.seq
    (.region 0 [⟨(some 67), .bin .eql (.t 55) (.c (.int .i64 2)), none⟩, ⟨(some 66), .mv (.t 67), none⟩]) (.cond (.t 66) (.exit 6) (.skip))) (.seq (.seq
    (.region 0 [⟨(some 69), .bin .eql (.t 55) (.c (.int .i64 3)), none⟩, ⟨(some 68), .mv (.t 69), none⟩]) (.cond (.t 68) (.exit 7) (.skip))) (.seq (.seq
    (.region 0 [⟨(some 71), .bin .eql (.t 55) (.c (.int .i64 132)), none⟩, ⟨(some 70), .mv (.t 71), none⟩]) (.cond (.t 70) (.exit 8) (.skip))) (.seq (.seq
    (.region 0 [⟨(some 73), .bin .eql (.t 55) (.c (.int .i64 7)), none⟩, ⟨(some 72), .mv (.t 73), none⟩]) (.cond (.t 72) (.exit 9) (.skip))) (.seq (.region 0 [⟨(some 75),
   .bin .eql (.t 55) (.c (.int .i64 135)), none⟩, ⟨(some 74), .mv (.t 75), none⟩]) (.cond (.t 74) (.exit 10) (.skip)))))))))))) (.seq (.keep [4, 6]) (.exit 0)))) (.seq
    (.keep [0, 4, 5, 6, 7]) (.seq (.region 0 [⟨(some 76), .mv (.t 7), none⟩, ⟨(some 77), .mv (.t 0), none⟩, ⟨(some 78), .faddr 3 (.t 5), none⟩, ⟨(some 79),
   .load 1 false true (.t 78), none⟩, ⟨(some 80), .scall 262 [.t 77, .t 79], none⟩, ⟨(some 81), .nilck (.t 76), none⟩, ⟨(some 82), .iaddrA 18 1 (.t 81) (.c
    (.int .i64 0)), none⟩, ⟨none, .store 1 (.t 82) (.t 80), none⟩]) (.seq (.keep [4, 6]) (.exit 0)))))) (.seq (.keep [0, 4, 5, 6, 7]) (.seq (.region 0 [⟨(some 83), .mv
    (.t 7), none⟩, ⟨(some 84), .mv (.t 0), none⟩, ⟨(some 85), .faddr 3 (.t 5), none⟩, ⟨(some 86), .load 1 false true (.t 85), none⟩, ⟨(some 87), .scall 262 [.t 84, .t 86],
   none⟩, ⟨(some 88), .nilck (.t 83), none⟩, ⟨(some 89), .iaddrA 18 1 (.t 88) (.c (.int .i64 1)), none⟩, ⟨none, .store 1 (.t 89) (.t 87), none⟩]) (.seq (.keep [4, 6])
    (.exit 0)))))) (.seq (.keep [0, 4, 6, 7, 12]) (.seq (.region 0 [⟨(some 90), .mv (.t 7), none⟩, ⟨(some 91), .mv (.t 0), none⟩, ⟨(some 92), .mv (.t 12), none⟩,
   ⟨(some 93), .bin .quo (.t 92) (.c (.int .i64 4)), none⟩, ⟨(some 94), .bin .add (.c (.int .i64 18)) (.t 93), none⟩, ⟨(some 95), .scall 263 [.t 91, .t 94], none⟩,
   ⟨(some 96), .nilck (.t 90), none⟩, ⟨(some 97), .iaddrA 18 1 (.t 96) (.c (.int .i64 0)), none⟩, ⟨none, .store 1 (.t 97) (.t 95), none⟩]) (.seq (.keep [4, 6])
    (.exit 0)))))) (.seq (.keep [4, 6, 7, 12]) (.seq (.region 0 [⟨(some 98), .mv (.t 7), none⟩, ⟨(some 99), .mv (.t 7), none⟩, ⟨(some 100), .mv (.t 12), none⟩,
   ⟨(some 101), .bin .add (.c (.int .i64 2)) (.t 100), none⟩, ⟨(some 102), .nilck (.t 99), none⟩, ⟨(some 103), .iaddrA 18 1 (.t 102) (.t 101), none⟩, ⟨(some 104),
   .load 1 false true (.t 103), none⟩, ⟨(some 105), .nilck (.t 98), none⟩, ⟨(some 106), .iaddrA 18 1 (.t 105) (.c (.int .i64 0)), none⟩, ⟨none, .store 1 (.t 106)
    (.t 104), none⟩]) (.seq (.keep [4, 6]) (.exit 0)))))) (.seq (.keep [4, 6, 7, 12]) (.seq (.region 0 [⟨(some 107), .mv (.t 7), none⟩, ⟨(some 108), .mv (.t 7), none⟩,
   ⟨(some 109), .mv (.t 12), none⟩, ⟨(some 110), .bin .add (.c (.int .i64 2)) (.t 109), none⟩, ⟨(some 111), .nilck (.t 108), none⟩, ⟨(some 112), .iaddrA 18 1 (.t 111)
    (.t 110), none⟩, ⟨(some 113), .load 1 false true (.t 112), none⟩, ⟨(some 114), .nilck (.t 107), none⟩, ⟨(some 115), .iaddrA 18 1 (.t 114) (.c (.int .i64 1)), none⟩,
   ⟨none, .store 1 (.t 115) (.t 113), none⟩]) (.seq (.keep [4, 6]) (.exit 0)))))) (.seq (.keep [4, 6, 7, 12]) (.seq (.region 0 [⟨(some 116), .mv (.t 7), none⟩,
   ⟨(some 117), .mv (.t 12), none⟩, ⟨(some 118), .bin .add (.c (.int .i64 2)) (.t 117), none⟩, ⟨(some 119), .mv (.t 7), none⟩, ⟨(some 120), .nilck (.t 119), none⟩,
   ⟨(some 121), .iaddrA 18 1 (.t 120) (.c (.int .i64 0)), none⟩, ⟨(some 122), .load 1 false true (.t 121), none⟩, ⟨(some 123), .nilck (.t 116), none⟩, ⟨(some 124),
   .iaddrA 18 1 (.t 123) (.t 118), none⟩, ⟨none, .store 1 (.t 124) (.t 122), none⟩]) (.seq (.keep [4, 6]) (.exit 0)))))) (.seq (.keep [4, 6, 7, 12]) (.seq
    (.region 0 [⟨(some 125), .mv (.t 7), none⟩, ⟨(some 126), .mv (.t 12), none⟩, ⟨(some 127), .bin .add (.c (.int .i64 2)) (.t 126), none⟩, ⟨(some 128), .mv (.t 7), none⟩,
   ⟨(some 129), .nilck (.t 128), none⟩, ⟨(some 130), .iaddrA 18 1 (.t 129) (.c (.int .i64 1)), none⟩, ⟨(some 131), .load 1 false true (.t 130), none⟩, ⟨(some 132), .nilck
    (.t 125), none⟩, ⟨(some 133), .iaddrA 18 1 (.t 132) (.t 127), none⟩, ⟨none, .store 1 (.t 133) (.t 131), none⟩]) (.seq (.keep [4, 6]) (.exit 0)))))) (.seq (.keep [0, 4,
   6, 7]) (.seq (.region 0 [⟨(some 134), .mv (.t 7), none⟩, ⟨(some 135), .mv (.t 0), none⟩, ⟨(some 136), .mv (.t 7), none⟩, ⟨(some 137), .nilck (.t 136), none⟩,
   ⟨(some 138), .iaddrA 18 1 (.t 137) (.c (.int .i64 0)), none⟩, ⟨(some 139), .load 1 false true (.t 138), none⟩, ⟨(some 140), .scall 275 [.t 135, .t 139], none⟩,
   ⟨(some 141), .nilck (.t 134), none⟩, ⟨(some 142), .iaddrA 18 1 (.t 141) (.c (.int .i64 0)), none⟩, ⟨none, .store 1 (.t 142) (.t 140), none⟩]) (.seq (.keep [4, 6])
    (.exit 0)))))) (.seq (.keep [4, 6, 7]) (.region 0 [⟨(some 143), .mv (.t 7), none⟩, ⟨(some 144), .mv (.t 7), none⟩, ⟨(some 145), .nilck (.t 144), none⟩, ⟨(some 146),
   .iaddrA 18 1 (.t 145) (.c (.int .i64 0)), none⟩, ⟨(some 147), .load 1 false true (.t 146), none⟩, ⟨(some 148), .nilck (.t 143), none⟩, ⟨(some 149), .iaddrA 18 1
    (.t 148) (.c (.int .i64 1)), none⟩, ⟨none, .store 1 (.t 149) (.t 147), none⟩])))) (.seq (.keep [4, 6, 7]) (.seq (.region 0 [⟨(some 150), .mv (.t 7), none⟩,
   ⟨(some 151), .mv (.t 7), none⟩, ⟨(some 152), .nilck (.t 151), none⟩, ⟨(some 153), .iaddrA 18 1 (.t 152) (.c (.int .i64 1)), none⟩, ⟨(some 154), .load 1 false true
    (.t 153), none⟩, ⟨(some 155), .nilck (.t 150), none⟩, ⟨(some 156), .iaddrA 18 1 (.t 155) (.c (.int .i64 0)), none⟩, ⟨none, .store 1 (.t 156) (.t 154), none⟩]) (.seq
    (.keep [4, 6]) (.exit 0))))))) (.seq (.keep [4, 6]) (.seq (.region 0 [⟨(some 157), .load 19 true false (.t 4), none⟩, ⟨none, .store 19 (.t 6) (.t 157), none⟩])
    (.ret))))))))),
  [.cell 6 19 true]⟩
/-- hurdle/window.Of -/
def c_window_Of : SFn := ⟨40,
  .seq (.region 1 [⟨(some 4), .alloc 0 ([.int .i64 0, .int .i64 0, .int .i64 0, .int .i64 0, .int .i64 0, .int .i64 0, .int .i64 0, .int .i64 0, .int .i64 0, .int .i64 0,
   .int .i64 0, .int .i64 0, .int .i64 0, .int .i64 0, .int .i64 0, .int .i64 0, .int .i64 0, .int .i64 0, .vs [] .full]), none⟩, ⟨(some 5), .mv (.c (.bool false)),
   none⟩]) (.seq (.seq (.region 0 [⟨(some 10), .mv (.t 0), none⟩, ⟨(some 11), .nileq 1 false (.t 10), none⟩, ⟨(some 12), .mv (.t 11), none⟩, ⟨(some 13), .mv (.t 1), (some
    (12, false))⟩, ⟨(some 14), .pcall 202 [.t 13], (some (12, false))⟩, ⟨(some 15), .un .not (.t 14), (some (12, false))⟩, ⟨(some 16), .pick (.t 12) (.c (.bool true))
    (.t 15), none⟩]) (.seq (.keep [0, 1, 4, 16]) (.cond (.t 16) (.seq (.region 0 [⟨(some 17), .build ([.int .i64 0, .int .i64 0, .int .i64 0, .int .i64 0, .int .i64 0,
   .int .i64 0, .int .i64 0, .int .i64 0, .int .i64 0, .int .i64 0, .int .i64 0, .int .i64 0, .int .i64 0, .int .i64 0, .int .i64 0, .int .i64 0, .int .i64 0, .int .i64 0,
   .vs [] .full]) [], none⟩, ⟨none, .store 19 (.t 4) (.t 17), none⟩, ⟨(some 5), .mv (.c (.bool false)), none⟩]) (.ret)) (.skip)))) (.seq (.keep [0, 1, 4]) (.seq
    (.region 1 [⟨(some 6), .alloc 0 ([.int .i64 0, .int .i64 0, .int .i64 0, .int .i64 0, .int .i64 0, .int .i64 0, .int .i64 0, .int .i64 0, .int .i64 0, .int .i64 0,
   .int .i64 0, .int .i64 0, .int .i64 0, .int .i64 0, .int .i64 0, .int .i64 0, .int .i64 0, .int .i64 0, .vs [] .full]), none⟩]) (.seq (.seq (.region 0 [⟨(some 18), .mv
    (.c (.int .i64 0)), none⟩]) (.seq (.give 6 (some 18)) (.block 0 (.loop [0, 1, 4, 6, 18] (.seq (.region 0 [⟨(some 19), .bin .lss (.t 18) (.c (.int .i64 18)), none⟩])
    (.seq (.cond (.t 19) (.skip) (.exit 0)) (.seq (.block 1 (.seq (.region 0 [⟨(some 20), .mv (.t 18), none⟩, ⟨(some 7), .mv (.t 20), none⟩]) (.region 0 [⟨(some 21), .mv
    (.t 7), none⟩, ⟨(some 22), .mv (.t 0), none⟩, ⟨(some 23), .mv (.t 7), none⟩, ⟨(some 24), .scall 263 [.t 22, .t 23], none⟩, ⟨(some 25), .faddr 0 (.t 6), none⟩,
   ⟨(some 26), .iaddrA 18 1 (.t 25) (.t 21), none⟩, ⟨none, .store 1 (.t 26) (.t 24), none⟩]))) (.seq (.keep [0, 1, 4, 6, 18]) (.region 0 [⟨(some 27), .bin .add (.t 18)
    (.c (.int .i64 1)), none⟩, ⟨(some 18), .mv (.t 27), none⟩]))))))))) (.seq (.keep [0, 1, 4, 6]) (.seq (.seq (.region 0 [⟨(some 28), .mv (.t 1), none⟩, ⟨(some 29),
   .len false (.t 28), none⟩, ⟨(some 30), .mv (.c (.int .i64 0)), none⟩]) (.seq (.give 6 (some 18)) (.block 2 (.loop [0, 4, 6, 28, 29, 30] (.seq (.region 0 [⟨(some 31),
   .bin .lss (.t 30) (.t 29), none⟩]) (.seq (.cond (.t 31) (.skip) (.exit 2)) (.seq (.block 3 (.seq (.region 1 [⟨(some 32), .iaddr 4 (.t 28) (.t 30), none⟩, ⟨(some 33),
   .load 4 true false (.t 32), none⟩, ⟨(some 9), .alloc 0 ([.int .i64 0, .int .i64 0, .int .i64 0, .int .u32 0]), none⟩, ⟨none, .store 4 (.t 9) (.t 33), none⟩])
    (.region 0 [⟨(some 34), .mv (.t 0), none⟩, ⟨(some 35), .load 19 true false (.t 6), none⟩, ⟨(some 36), .load 4 true false (.t 9), none⟩, ⟨(some 37), .scall 295 [.t 34,
   .t 35, .t 36], none⟩, ⟨none, .store 19 (.t 6) (.t 37), none⟩]))) (.seq (.keep [0, 4, 6, 28, 29, 30]) (.region 0 [⟨(some 38), .bin .add (.t 30) (.c (.int .i64 1)),
   none⟩, ⟨(some 30), .mv (.t 38), none⟩]))))))))) (.seq (.keep [4, 6]) (.seq (.region 0 [⟨(some 39), .load 19 true false (.t 6), none⟩, ⟨none, .store 19 (.t 4) (.t 39),
   none⟩, ⟨(some 5), .mv (.c (.bool true)), none⟩]) (.ret))))))))),
  [.cell 4 19 true, .tmp 5]⟩
/-- A table that holds these. -/
class HasWinRun (G : Tbl) : Prop where
  h_window_Run : G 292 = some c_window_Run
/-- A table that holds these. -/
class HasWinAsg (G : Tbl) : Prop where
  h_window_Assign : G 293 = some c_window_Assign
/-- A table that holds these. -/
class HasWinState (G : Tbl) : Prop where
  h_window_State : G 294 = some c_window_State
/-- A table that holds these. -/
class HasWinOf (G : Tbl) : Prop where
  h_window_step : G 295 = some c_window_step
  h_window_Of : G 296 = some c_window_Of
end Go.Ev
/- Simplified code of Go functions, by scode.py. -/
namespace Go.Ev
/-- hurdle/decide.in -/
def c_decide_in : SFn := ⟨10,
  .seq (.region 0 [⟨(some 4), .mv (.c (.bool false)), none⟩]) (.seq (.region 0 [⟨(some 5), .mv (.t 0), none⟩, ⟨(some 6), .mv (.t 1), none⟩, ⟨(some 7), .bin .shr (.t 5)
    (.t 6), none⟩, ⟨(some 8), .bin .and (.t 7) (.c (.int .u32 1)), none⟩, ⟨(some 9), .bin .eql (.t 8) (.c (.int .u32 1)), none⟩, ⟨(some 4), .mv (.t 9), none⟩]) (.ret)),
  [.tmp 4]⟩
/-- hurdle/decide.Differs -/
def c_decide_Differs : SFn := ⟨79,
  .seq (.region 2 [⟨(some 8), .box 0 (.t 3), none⟩, ⟨(some 9), .box 1 (.t 4), none⟩, ⟨(some 10), .mv (.c (.bool false)), none⟩]) (.seq (.seq (.region 0 [⟨(some 20), .mv
    (.t 0), none⟩, ⟨(some 21), .pcall 202 [.t 20], none⟩, ⟨(some 22), .un .not (.t 21), none⟩, ⟨(some 23), .mv (.t 22), none⟩, ⟨(some 24), .mv (.t 1), (some (23, false))⟩,
   ⟨(some 25), .pcall 202 [.t 24], (some (23, false))⟩, ⟨(some 26), .un .not (.t 25), (some (23, false))⟩, ⟨(some 27), .pick (.t 23) (.c (.bool true)) (.t 26), none⟩])
    (.seq (.keep [0, 1, 2, 8, 9, 27]) (.cond (.t 27) (.seq (.region 0 [⟨(some 10), .mv (.c (.bool false)), none⟩]) (.ret)) (.skip)))) (.seq (.keep [0, 1, 2, 8, 9]) (.seq
    (.region 1 [⟨(some 29), .mv (.t 0), none⟩, ⟨(some 30), .load 18 true false (.t 8), none⟩, ⟨(some 31), .load 9 true false (.t 9), none⟩, ⟨(some 32), .pcall 292 [.t 29,
   .t 30, .t 31], none⟩, ⟨(some 28), .mv (.t 32), none⟩, ⟨(some 33), .ext 0 (.t 28), none⟩, ⟨(some 34), .ext 1 (.t 28), none⟩, ⟨(some 11), .alloc 0 (rep 18
    (.int .u32 0)), none⟩, ⟨none, .store 18 (.t 11) (.t 33), none⟩, ⟨(some 12), .mv (.t 34), none⟩]) (.seq (.keep [0, 1, 2, 8, 9, 11, 12]) (.seq (.region 1 [⟨(some 36),
   .mv (.t 1), none⟩, ⟨(some 37), .load 18 true false (.t 8), none⟩, ⟨(some 38), .load 9 true false (.t 9), none⟩, ⟨(some 39), .pcall 292 [.t 36, .t 37, .t 38], none⟩,
   ⟨(some 35), .mv (.t 39), none⟩, ⟨(some 40), .ext 0 (.t 35), none⟩, ⟨(some 41), .ext 1 (.t 35), none⟩, ⟨(some 13), .alloc 0 (rep 18 (.int .u32 0)), none⟩, ⟨none,
   .store 18 (.t 13) (.t 40), none⟩, ⟨(some 14), .mv (.t 41), none⟩]) (.seq (.keep [0, 1, 2, 9, 11, 12, 13, 14]) (.seq (.region 0 [⟨(some 42), .mv (.t 12), none⟩,
   ⟨(some 43), .mv (.t 0), none⟩, ⟨(some 44), .len false (.t 43), none⟩, ⟨(some 45), .bin .lss (.t 42) (.t 44), none⟩, ⟨(some 46), .mv (.t 14), none⟩, ⟨(some 47), .mv
    (.t 1), none⟩, ⟨(some 48), .len false (.t 47), none⟩, ⟨(some 49), .bin .lss (.t 46) (.t 48), none⟩, ⟨(some 15), .mv (.t 45), none⟩, ⟨(some 16), .mv (.t 49), none⟩])
    (.seq (.keep [2, 9, 11, 13, 15, 16]) (.seq (.seq (.region 0 [⟨(some 50), .mv (.t 15), none⟩, ⟨(some 51), .mv (.t 50), none⟩, ⟨(some 52), .mv (.t 16), (some (51,
   false))⟩, ⟨(some 53), .pick (.t 51) (.c (.bool true)) (.t 52), none⟩]) (.seq (.keep [2, 9, 11, 13, 15, 16, 53]) (.cond (.t 53) (.seq (.region 0 [⟨(some 54), .mv
    (.t 15), none⟩, ⟨(some 55), .mv (.t 16), none⟩, ⟨(some 56), .beq true (.t 54) (.t 55), none⟩, ⟨(some 10), .mv (.t 56), none⟩]) (.ret)) (.skip)))) (.seq (.keep [2, 9,
   11, 13]) (.seq (.region 2 [⟨(some 57), .load 18 true true (.t 11), none⟩, ⟨(some 58), .load 9 true true (.t 9), none⟩, ⟨(some 59), .pcall 293 [.t 57, .t 58], none⟩,
   ⟨(some 60), .load 18 true true (.t 13), none⟩, ⟨(some 61), .load 9 true true (.t 9), none⟩, ⟨(some 62), .pcall 293 [.t 60, .t 61], none⟩, ⟨(some 17), .alloc 0 (rep 34
    (.int .u32 0)), none⟩, ⟨(some 18), .alloc 1 (rep 34 (.int .u32 0)), none⟩, ⟨none, .store 34 (.t 17) (.t 59), none⟩, ⟨none, .store 34 (.t 18) (.t 62), none⟩]) (.seq
    (.keep [2, 17, 18]) (.seq (.seq (.region 0 [⟨(some 63), .mv (.c (.int .i64 0)), none⟩]) (.block 0 (.loop [2, 17, 18, 63] (.seq (.region 0 [⟨(some 64), .bin .lss
    (.t 63) (.c (.int .i64 18)), none⟩]) (.seq (.cond (.t 64) (.skip) (.exit 0)) (.seq (.block 1 (.seq (.region 0 [⟨(some 65), .mv (.t 63), none⟩, ⟨(some 19), .mv
    (.t 65), none⟩]) (.seq (.region 0 [⟨(some 66), .mv (.t 2), none⟩, ⟨(some 67), .mv (.t 19), none⟩, ⟨(some 68), .pcall 307 [.t 66, .t 67], none⟩, ⟨(some 69), .mv
    (.t 68), none⟩, ⟨(some 70), .mv (.t 19), (some (69, true))⟩, ⟨(some 71), .iaddrA 34 1 (.t 17) (.t 70), (some (69, true))⟩, ⟨(some 72), .load 1 false true (.t 71),
   (some (69, true))⟩, ⟨(some 73), .mv (.t 19), (some (69, true))⟩, ⟨(some 74), .iaddrA 34 1 (.t 18) (.t 73), (some (69, true))⟩, ⟨(some 75), .load 1 false true (.t 74),
   (some (69, true))⟩, ⟨(some 76), .bin .neq (.t 72) (.t 75), (some (69, true))⟩, ⟨(some 77), .pick (.t 69) (.t 76) (.c (.bool false)), none⟩]) (.seq (.keep [2, 17, 18,
   63, 77]) (.cond (.t 77) (.seq (.region 0 [⟨(some 10), .mv (.c (.bool true)), none⟩]) (.ret)) (.skip)))))) (.seq (.keep [2, 17, 18, 63]) (.region 0 [⟨(some 78),
   .bin .add (.t 63) (.c (.int .i64 1)), none⟩, ⟨(some 63), .mv (.t 78), none⟩])))))))) (.seq (.keep []) (.seq (.region 0 [⟨(some 10), .mv (.c (.bool false)), none⟩])
    (.ret)))))))))))))))),
  [.tmp 10]⟩
/-- hurdle/decide.same -/
def c_decide_same : SFn := ⟨51,
  .seq (.region 2 [⟨(some 3), .box 0 (.t 0), none⟩, ⟨(some 4), .box 1 (.t 1), none⟩, ⟨(some 6), .mv (.c (.bool false)), none⟩]) (.seq (.seq (.region 0 [⟨(some 10), .mv (.c
    (.int .i64 0)), none⟩]) (.block 0 (.loop [2, 3, 4, 10] (.seq (.region 0 [⟨(some 11), .bin .lss (.t 10) (.c (.int .i64 18)), none⟩]) (.seq (.cond (.t 11) (.skip)
    (.exit 0)) (.seq (.block 1 (.seq (.region 0 [⟨(some 12), .mv (.t 10), none⟩, ⟨(some 7), .mv (.t 12), none⟩]) (.seq (.region 0 [⟨(some 13), .mv (.t 2), none⟩,
   ⟨(some 14), .mv (.t 7), none⟩, ⟨(some 15), .pcall 307 [.t 13, .t 14], none⟩, ⟨(some 16), .mv (.t 15), none⟩, ⟨(some 17), .mv (.t 7), (some (16, true))⟩, ⟨(some 18),
   .faddr 0 (.t 3), (some (16, true))⟩, ⟨(some 19), .iaddrA 18 1 (.t 18) (.t 17), (some (16, true))⟩, ⟨(some 20), .load 1 false true (.t 19), (some (16, true))⟩,
   ⟨(some 21), .mv (.t 7), (some (16, true))⟩, ⟨(some 22), .faddr 0 (.t 4), (some (16, true))⟩, ⟨(some 23), .iaddrA 18 1 (.t 22) (.t 21), (some (16, true))⟩, ⟨(some 24),
   .load 1 false true (.t 23), (some (16, true))⟩, ⟨(some 25), .bin .neq (.t 20) (.t 24), (some (16, true))⟩, ⟨(some 26), .pick (.t 16) (.t 25) (.c (.bool false)), none⟩])
    (.seq (.keep [2, 3, 4, 10, 26]) (.cond (.t 26) (.seq (.region 0 [⟨(some 6), .mv (.c (.bool false)), none⟩]) (.ret)) (.skip)))))) (.seq (.keep [2, 3, 4, 10])
    (.region 0 [⟨(some 27), .bin .add (.t 10) (.c (.int .i64 1)), none⟩, ⟨(some 10), .mv (.t 27), none⟩])))))))) (.seq (.keep [3, 4]) (.seq (.seq (.region 0 [⟨(some 28),
   .faddr 18 (.t 3), none⟩, ⟨(some 29), .load 1 false false (.t 28), none⟩, ⟨(some 30), .len false (.t 29), none⟩, ⟨(some 31), .faddr 18 (.t 4), none⟩, ⟨(some 32),
   .load 1 false false (.t 31), none⟩, ⟨(some 33), .len false (.t 32), none⟩, ⟨(some 34), .bin .neq (.t 30) (.t 33), none⟩]) (.seq (.keep [3, 4, 34]) (.cond (.t 34) (.seq
    (.region 0 [⟨(some 6), .mv (.c (.bool false)), none⟩]) (.ret)) (.skip)))) (.seq (.keep [3, 4]) (.seq (.seq (.region 0 [⟨(some 35), .faddr 18 (.t 3), none⟩, ⟨(some 36),
   .load 1 false false (.t 35), none⟩, ⟨(some 37), .len false (.t 36), none⟩, ⟨(some 38), .mv (.c (.int .i64 0)), none⟩]) (.block 2 (.loop [4, 36, 37, 38] (.seq
    (.region 0 [⟨(some 39), .bin .lss (.t 38) (.t 37), none⟩]) (.seq (.cond (.t 39) (.skip) (.exit 2)) (.seq (.block 3 (.seq (.region 0 [⟨(some 40), .mv (.t 38), none⟩,
   ⟨(some 41), .iaddr 1 (.t 36) (.t 38), none⟩, ⟨(some 42), .load 1 false false (.t 41), none⟩, ⟨(some 8), .mv (.t 40), none⟩, ⟨(some 9), .mv (.t 42), none⟩]) (.seq
    (.keep [4, 8, 9, 36, 37, 38]) (.seq (.region 0 [⟨(some 43), .mv (.t 9), none⟩, ⟨(some 44), .faddr 18 (.t 4), none⟩, ⟨(some 45), .load 1 false false (.t 44), none⟩,
   ⟨(some 46), .mv (.t 8), none⟩, ⟨(some 47), .iaddr 1 (.t 45) (.t 46), none⟩, ⟨(some 48), .load 1 false false (.t 47), none⟩, ⟨(some 49), .bin .neq (.t 43) (.t 48),
   none⟩]) (.seq (.keep [4, 36, 37, 38, 49]) (.cond (.t 49) (.seq (.region 0 [⟨(some 6), .mv (.c (.bool false)), none⟩]) (.ret)) (.skip))))))) (.seq (.keep [4, 36, 37,
   38]) (.region 0 [⟨(some 50), .bin .add (.t 38) (.c (.int .i64 1)), none⟩, ⟨(some 38), .mv (.t 50), none⟩])))))))) (.seq (.keep []) (.seq (.region 0 [⟨(some 6), .mv (.c
    (.bool true)), none⟩]) (.ret)))))))),
  [.tmp 6]⟩
/-- hurdle/decide.tries$1 -/
def c_decide_tries_1 : SFn := ⟨74,
  .seq (.seq (.region 0 [⟨(some 12), .mv (.c (.int .i64 0)), none⟩]) (.block 0 (.loop [0, 1, 2, 3, 4, 12] (.seq (.region 0 [⟨(some 13), .bin .lss (.t 12) (.c
    (.int .i64 18)), none⟩]) (.seq (.cond (.t 13) (.skip) (.exit 0)) (.seq (.block 1 (.seq (.region 0 [⟨(some 14), .mv (.t 12), none⟩, ⟨(some 6), .mv (.t 14), none⟩])
    (.seq (.seq (.region 0 [⟨(some 15), .load 1 false false (.t 1), none⟩, ⟨(some 16), .mv (.t 6), none⟩, ⟨(some 17), .pcall 307 [.t 15, .t 16], none⟩, ⟨(some 18),
   .un .not (.t 17), none⟩]) (.seq (.keep [0, 1, 2, 3, 4, 6, 12, 18]) (.cond (.t 18) (.exit 1) (.skip)))) (.seq (.keep [0, 1, 2, 3, 4, 6, 12]) (.seq
    (.region 1 [⟨(some 20), .load 1 false true (.t 2), none⟩, ⟨(some 21), .mv (.t 6), none⟩, ⟨(some 22), .faddr 0 (.t 3), none⟩, ⟨(some 23), .iaddrA 18 1 (.t 22) (.t 21),
   none⟩, ⟨(some 24), .load 1 false true (.t 23), none⟩, ⟨(some 25), .mv (.t 6), none⟩, ⟨(some 26), .faddr 0 (.t 4), none⟩, ⟨(some 27), .iaddrA 18 1 (.t 26) (.t 25),
   none⟩, ⟨(some 28), .load 1 false true (.t 27), none⟩, ⟨(some 29), .scallE 277 [.t 20, .t 24, .t 28], none⟩, ⟨(some 19), .mv (.t 29), none⟩, ⟨(some 30), .ext 0 (.t 19),
   none⟩, ⟨(some 31), .ext 1 (.t 19), none⟩, ⟨(some 7), .alloc 0 (rep 34 (.int .u32 0)), none⟩, ⟨none, .store 34 (.t 7) (.t 30), none⟩, ⟨(some 8), .mv (.t 31), none⟩])
    (.seq (.keep [0, 1, 2, 3, 4, 7, 8, 12]) (.seq (.region 0 [⟨(some 32), .mv (.t 8), none⟩, ⟨(some 33), .mv (.t 32), none⟩, ⟨(some 34), .mv (.t 0), (some (33, true))⟩,
   ⟨(some 35), .load 34 true false (.t 7), (some (33, true))⟩, ⟨(some 36), .vcall false (.t 34) [.t 35], (some (33, true))⟩, ⟨(some 37), .un .not (.t 36), (some (33,
   true))⟩, ⟨(some 38), .pick (.t 33) (.t 37) (.c (.bool false)), none⟩]) (.seq (.keep [0, 1, 2, 3, 4, 12, 38]) (.cond (.t 38) (.ret) (.skip)))))))))) (.seq (.keep [0, 1,
   2, 3, 4, 12]) (.region 0 [⟨(some 39), .bin .add (.t 12) (.c (.int .i64 1)), none⟩, ⟨(some 12), .mv (.t 39), none⟩])))))))) (.seq (.keep [0]) (.seq
    (.region 0 [⟨(some 40), .mv (.c (.int .u32 0)), none⟩]) (.block 2 (.loop [0, 40] (.seq (.region 0 [⟨(some 41), .bin .lss (.t 40) (.c (.int .u32 12)), none⟩]) (.seq
    (.cond (.t 41) (.skip) (.exit 2)) (.seq (.block 3 (.seq (.region 0 [⟨(some 42), .mv (.t 40), none⟩, ⟨(some 9), .mv (.t 42), none⟩]) (.seq (.region 1 [⟨(some 10),
   .alloc 0 (rep 34 (.int .u32 0)), none⟩]) (.seq (.seq (.region 0 [⟨(some 43), .mv (.c (.int .i64 0)), none⟩]) (.block 4 (.loop [0, 9, 10, 40, 43] (.seq
    (.region 0 [⟨(some 44), .bin .lss (.t 43) (.c (.int .i64 34)), none⟩]) (.seq (.cond (.t 44) (.skip) (.exit 4)) (.seq (.block 5 (.seq (.region 0 [⟨(some 45), .mv
    (.t 43), none⟩, ⟨(some 11), .mv (.t 45), none⟩]) (.region 0 [⟨(some 46), .mv (.t 11), none⟩, ⟨(some 47), .mv (.t 11), none⟩, ⟨(some 48), .conv .u32 (.t 47), none⟩,
   ⟨(some 49), .bin .mul (.c (.int .u32 7)) (.t 48), none⟩, ⟨(some 50), .bin .add (.c (.int .u32 3)) (.t 49), none⟩, ⟨(some 51), .mv (.t 11), none⟩, ⟨(some 52), .bin .add
    (.t 51) (.c (.int .i64 1)), none⟩, ⟨(some 53), .conv .u32 (.t 52), none⟩, ⟨(some 54), .bin .mul (.c (.int .u32 16843009)) (.t 53), none⟩, ⟨(some 55), .mv (.t 11),
   none⟩, ⟨(some 56), .bin .rem (.t 55) (.c (.int .i64 3)), none⟩, ⟨(some 57), .bin .shl (.c (.int .u32 2863311530)) (.t 56), none⟩, ⟨(some 58), .mv (.t 11), none⟩,
   ⟨(some 59), .bin .rem (.t 58) (.c (.int .i64 2)), none⟩, ⟨(some 60), .conv .u32 (.t 59), none⟩, ⟨(some 61), .mv (.t 11), none⟩, ⟨(some 62), .conv .u32 (.t 61), none⟩,
   ⟨(some 63), .bin .mul (.t 62) (.c (.int .u32 2654435769)), none⟩, ⟨(some 64), .build (rep 12 (.int .u32 0)) [(0, 1, .c (.int .u32 0)), (1, 1, .c
    (.int .u32 4294967295)), (2, 1, .c (.int .u32 1)), (3, 1, .c (.int .u32 2147483648)), (4, 1, .t 50), (5, 1, .t 54), (6, 1, .c (.int .u32 2)), (7, 1, .c
    (.int .u32 65535)), (8, 1, .c (.int .u32 1431655765)), (9, 1, .t 57), (10, 1, .t 60), (11, 1, .t 63)], none⟩, ⟨(some 65), .mv (.t 9), none⟩, ⟨(some 66),
   .idx 12 1 false (.t 64) (.t 65), none⟩, ⟨(some 67), .iaddrA 34 1 (.t 10) (.t 46), none⟩, ⟨none, .store 1 (.t 67) (.t 66), none⟩]))) (.seq (.keep [0, 9, 10, 40, 43])
    (.region 0 [⟨(some 68), .bin .add (.t 43) (.c (.int .i64 1)), none⟩, ⟨(some 43), .mv (.t 68), none⟩])))))))) (.seq (.keep [0, 10, 40]) (.seq (.region 0 [⟨(some 69),
   .mv (.t 0), none⟩, ⟨(some 70), .load 34 true false (.t 10), none⟩, ⟨(some 71), .vcall false (.t 69) [.t 70], none⟩, ⟨(some 72), .un .not (.t 71), none⟩]) (.seq
    (.keep [0, 40, 72]) (.cond (.t 72) (.ret) (.skip))))))))) (.seq (.keep [0, 40]) (.region 0 [⟨(some 73), .bin .add (.t 40) (.c (.int .u32 1)), none⟩, ⟨(some 40), .mv
    (.t 73), none⟩]))))))))),
  []⟩
/-- hurdle/decide.tries -/
def c_decide_tries : SFn := ⟨10,
  .seq (.region 4 [⟨(some 4), .box 0 (.t 0), none⟩, ⟨(some 5), .box 1 (.t 1), none⟩, ⟨(some 6), .box 2 (.t 2), none⟩, ⟨(some 7), .box 3 (.t 3), none⟩, ⟨(some 8), .mv (.c
    (.nilf)), none⟩]) (.seq (.region 0 [⟨(some 9), .mkfn 310 [.t 7, .t 4, .t 5, .t 6], none⟩, ⟨(some 8), .mv (.t 9), none⟩]) (.ret)),
  [.tmp 8]⟩
/-- hurdle/decide.Decide -/
def c_decide_Decide : SFn := ⟨62,
  .seq (.region 5 [⟨(some 3), .box 0 (.t 0), none⟩, ⟨(some 4), .box 1 (.t 1), none⟩, ⟨(some 5), .box 2 (.t 2), none⟩, ⟨(some 6), .alloc 3 ([.int .i64 0] ++ rep 20
    (.int .u32 0) ++ rep 7 (.int .u64 0)), none⟩, ⟨(some 7), .alloc 4 ([.int .i64 0]), none⟩]) (.seq (.region 0 [⟨(some 16), .kcall false 256 [], none⟩, ⟨(some 8), .mv
    (.t 16), none⟩]) (.seq (.give 16 (some 0)) (.seq (.region 1 [⟨(some 18), .mv (.t 8), none⟩, ⟨(some 19), .load 1 false false (.t 3), none⟩, ⟨(some 20),
   .scall 296 [.t 18, .t 19], none⟩, ⟨(some 17), .mv (.t 20), none⟩, ⟨(some 21), .ext 0 (.t 17), none⟩, ⟨(some 22), .ext 1 (.t 17), none⟩, ⟨(some 9), .alloc 0
    ([.int .i64 0, .int .i64 0, .int .i64 0, .int .i64 0, .int .i64 0, .int .i64 0, .int .i64 0, .int .i64 0, .int .i64 0, .int .i64 0, .int .i64 0, .int .i64 0,
   .int .i64 0, .int .i64 0, .int .i64 0, .int .i64 0, .int .i64 0, .int .i64 0, .vs [] .full]), none⟩, ⟨none, .store 19 (.t 9) (.t 21), none⟩, ⟨(some 10), .mv (.t 22),
   none⟩]) (.seq (.keep [3, 4, 5, 6, 7, 8, 9, 10]) (.seq (.region 1 [⟨(some 24), .mv (.t 8), none⟩, ⟨(some 25), .load 1 false false (.t 4), none⟩, ⟨(some 26),
   .scall 296 [.t 24, .t 25], none⟩, ⟨(some 23), .mv (.t 26), none⟩, ⟨(some 27), .ext 0 (.t 23), none⟩, ⟨(some 28), .ext 1 (.t 23), none⟩, ⟨(some 11), .alloc 0
    ([.int .i64 0, .int .i64 0, .int .i64 0, .int .i64 0, .int .i64 0, .int .i64 0, .int .i64 0, .int .i64 0, .int .i64 0, .int .i64 0, .int .i64 0, .int .i64 0,
   .int .i64 0, .int .i64 0, .int .i64 0, .int .i64 0, .int .i64 0, .int .i64 0, .vs [] .full]), none⟩, ⟨none, .store 19 (.t 11) (.t 27), none⟩, ⟨(some 12), .mv (.t 28),
   none⟩]) (.seq (.keep [3, 4, 5, 6, 7, 8, 9, 10, 11, 12]) (.seq (.seq (.region 0 [⟨(some 29), .mv (.t 10), none⟩, ⟨(some 30), .un .not (.t 29), none⟩, ⟨(some 31), .mv
    (.t 30), none⟩, ⟨(some 32), .mv (.t 12), (some (31, false))⟩, ⟨(some 33), .un .not (.t 32), (some (31, false))⟩, ⟨(some 34), .pick (.t 31) (.c (.bool true)) (.t 33),
   none⟩]) (.seq (.keep [3, 4, 5, 6, 7, 8, 9, 11, 34]) (.cond (.t 34) (.seq (.region 0 [⟨(some 35), .build ([.int .i64 0] ++ rep 20 (.int .u32 0) ++ rep 7
    (.int .u64 0)) [], none⟩, ⟨none, .store 28 (.t 6) (.t 35), none⟩, ⟨none, .store 1 (.t 7) (.c (.int .i64 1)), none⟩]) (.ret)) (.skip)))) (.seq (.keep [3, 4, 5, 6, 7, 8,
   9, 11]) (.seq (.seq (.region 0 [⟨(some 36), .load 19 true false (.t 9), none⟩, ⟨(some 37), .load 19 true false (.t 11), none⟩, ⟨(some 38), .load 1 false false (.t 5),
   none⟩, ⟨(some 39), .pcall 309 [.t 36, .t 37, .t 38], none⟩]) (.seq (.keep [3, 4, 5, 6, 7, 8, 9, 11, 39]) (.cond (.t 39) (.seq (.region 0 [⟨(some 40), .build
    ([.int .i64 0] ++ rep 20 (.int .u32 0) ++ rep 7 (.int .u64 0)) [(0, 1, .c (.int .i64 0))], none⟩, ⟨none, .store 28 (.t 6) (.t 40), none⟩, ⟨none, .store 1 (.t 7) (.c
    (.int .i64 0)), none⟩]) (.ret)) (.skip)))) (.seq (.keep [3, 4, 5, 6, 7, 8, 9, 11]) (.seq (.seq (.region 0 [⟨(some 41), .mv (.t 8), none⟩, ⟨(some 42),
   .load 19 true false (.t 9), none⟩, ⟨(some 43), .load 19 true false (.t 11), none⟩, ⟨(some 44), .load 1 false false (.t 5), none⟩, ⟨(some 45), .kcall false 311 [.t 41,
   .t 42, .t 43, .t 44], none⟩]) (.seq (.keep [3, 4, 5, 6, 7, 45]) (.block 0 (.rangeF (.t 45) [3, 4, 5, 6, 7] [46] (.region 1 [⟨(some 13), .alloc 0 (rep 34
    (.int .u32 0)), none⟩, ⟨none, .store 34 (.t 13) (.t 46), none⟩]) (.block 1 (.seq (.region 2 [⟨(some 48), .load 34 true false (.t 13), none⟩, ⟨(some 49),
   .pcall 294 [.t 48], none⟩, ⟨(some 47), .mv (.t 49), none⟩, ⟨(some 50), .ext 0 (.t 47), none⟩, ⟨(some 51), .ext 1 (.t 47), none⟩, ⟨(some 14), .alloc 0 (rep 18
    (.int .u32 0)), none⟩, ⟨(some 15), .alloc 1 ([.int .u32 0, .int .u32 0, .int .u64 0, .int .u64 0, .int .u64 0, .int .u64 0, .int .u64 0, .int .u64 0, .int .u64 0]),
   none⟩, ⟨none, .store 18 (.t 14) (.t 50), none⟩, ⟨none, .store 9 (.t 15) (.t 51), none⟩]) (.seq (.keep [3, 4, 5, 6, 7, 14, 15]) (.seq (.region 0 [⟨(some 52),
   .load 1 false false (.t 3), none⟩, ⟨(some 53), .load 1 false false (.t 4), none⟩, ⟨(some 54), .load 1 false false (.t 5), none⟩, ⟨(some 55), .load 18 true false
    (.t 14), none⟩, ⟨(some 56), .load 9 true false (.t 15), none⟩, ⟨(some 57), .pcall 308 [.t 52, .t 53, .t 54, .t 55, .t 56], none⟩]) (.seq (.keep [6, 7, 14, 15, 57])
    (.cond (.t 57) (.seq (.region 0 [⟨(some 58), .load 18 true false (.t 14), none⟩, ⟨(some 59), .load 9 true false (.t 15), none⟩, ⟨(some 60), .build
    ([.int .i64 0] ++ rep 20 (.int .u32 0) ++ rep 7 (.int .u64 0)) [(0, 1, .c (.int .i64 1)), (1, 18, .t 58), (19, 9, .t 59)], none⟩, ⟨none, .store 28 (.t 6) (.t 60),
   none⟩, ⟨none, .store 1 (.t 7) (.c (.int .i64 0)), none⟩]) (.ret)) (.skip))))))))))) (.seq (.keep [6, 7]) (.seq (.region 0 [⟨(some 61), .build ([.int .i64 0] ++ rep 20
    (.int .u32 0) ++ rep 7 (.int .u64 0)) [(0, 1, .c (.int .i64 2))], none⟩, ⟨none, .store 28 (.t 6) (.t 61), none⟩, ⟨none, .store 1 (.t 7) (.c (.int .i64 0)), none⟩])
    (.ret)))))))))))))),
  [.cell 6 28 true, .cell 7 1 false]⟩
/-- hurdle/hurdlelaw18.great -/
def c_hurdlelaw18_great : SFn := ⟨13,
  .seq (.region 0 [⟨(some 4), .mv (.c (.bool false)), none⟩]) (.seq (.region 0 [⟨(some 5), .mv (.t 0), none⟩, ⟨(some 6), .len false (.t 5), none⟩, ⟨(some 7), .bin .gtr
    (.t 6) (.c (.int .i64 100)), none⟩, ⟨(some 8), .mv (.t 7), none⟩, ⟨(some 9), .mv (.t 1), (some (8, false))⟩, ⟨(some 10), .len false (.t 9), (some (8, false))⟩,
   ⟨(some 11), .bin .gtr (.t 10) (.c (.int .i64 100)), (some (8, false))⟩, ⟨(some 12), .pick (.t 8) (.c (.bool true)) (.t 11), none⟩, ⟨(some 4), .mv (.t 12), none⟩])
    (.ret)),
  [.tmp 4]⟩
/-- hurdle/hurdlelaw18.fair -/
def c_hurdlelaw18_fair : SFn := ⟨11,
  .seq (.region 0 [⟨(some 4), .mv (.c (.bool false)), none⟩]) (.seq (.region 0 [⟨(some 5), .mv (.t 0), none⟩, ⟨(some 6), .pcall 203 [.t 5], none⟩, ⟨(some 7), .mv (.t 6),
   none⟩, ⟨(some 8), .mv (.t 1), (some (7, true))⟩, ⟨(some 9), .pcall 203 [.t 8], (some (7, true))⟩, ⟨(some 10), .pick (.t 7) (.t 9) (.c (.bool false)), none⟩, ⟨(some 4),
   .mv (.t 10), none⟩]) (.ret)),
  [.tmp 4]⟩
/-- hurdle/hurdlelaw18.knows -/
def c_hurdlelaw18_knows : SFn := ⟨95,
  .seq (.region 0 [⟨(some 0), .mv (.c (.bool false)), none⟩]) (.seq (.region 0 [⟨(some 20), .pcall 148 [.c (.str [97, 100, 100, 32, 48, 120, 49, 10, 97, 100, 100, 32, 48,
   120, 50, 10])], none⟩, ⟨(some 19), .mv (.t 20), none⟩, ⟨(some 21), .ext 0 (.t 19), none⟩, ⟨(some 22), .ext 1 (.t 19), none⟩, ⟨(some 23), .ext 2 (.t 19), none⟩,
   ⟨(some 1), .mv (.t 21), none⟩, ⟨(some 2), .mv (.t 22), none⟩, ⟨(some 3), .mv (.t 23), none⟩]) (.seq (.keep [1]) (.seq (.region 0 [⟨(some 25), .pcall 148 [.c (.str [97,
   100, 100, 32, 48, 120, 51, 10])], none⟩, ⟨(some 24), .mv (.t 25), none⟩, ⟨(some 26), .ext 0 (.t 24), none⟩, ⟨(some 27), .ext 1 (.t 24), none⟩, ⟨(some 28), .ext 2
    (.t 24), none⟩, ⟨(some 4), .mv (.t 26), none⟩, ⟨(some 5), .mv (.t 27), none⟩, ⟨(some 6), .mv (.t 28), none⟩]) (.seq (.keep [1, 4]) (.seq (.region 0 [⟨(some 30),
   .pcall 148 [.c (.str [97, 110, 100, 32, 48, 120, 102, 102, 10])], none⟩, ⟨(some 29), .mv (.t 30), none⟩, ⟨(some 31), .ext 0 (.t 29), none⟩, ⟨(some 32), .ext 1 (.t 29),
   none⟩, ⟨(some 33), .ext 2 (.t 29), none⟩, ⟨(some 7), .mv (.t 31), none⟩, ⟨(some 8), .mv (.t 32), none⟩, ⟨(some 9), .mv (.t 33), none⟩]) (.seq (.keep [1, 4, 7]) (.seq
    (.region 0 [⟨(some 35), .pcall 148 [.c (.str [100, 105, 118, 120, 10])], none⟩, ⟨(some 34), .mv (.t 35), none⟩, ⟨(some 36), .ext 0 (.t 34), none⟩, ⟨(some 37), .ext 1
    (.t 34), none⟩, ⟨(some 38), .ext 2 (.t 34), none⟩, ⟨(some 10), .mv (.t 36), none⟩, ⟨(some 11), .mv (.t 37), none⟩, ⟨(some 12), .mv (.t 38), none⟩]) (.seq (.keep [1, 4,
   7, 10]) (.seq (.region 1 [⟨(some 40), .mv (.t 1), none⟩, ⟨(some 41), .mv (.t 4), none⟩, ⟨(some 42), .pcall 312 [.t 40, .t 41, .c (.int .u32 1)], none⟩, ⟨(some 39), .mv
    (.t 42), none⟩, ⟨(some 43), .ext 0 (.t 39), none⟩, ⟨(some 44), .ext 1 (.t 39), none⟩, ⟨(some 13), .alloc 0 ([.int .i64 0] ++ rep 20 (.int .u32 0) ++ rep 7
    (.int .u64 0)), none⟩, ⟨none, .store 28 (.t 13) (.t 43), none⟩, ⟨(some 14), .mv (.t 44), none⟩]) (.seq (.keep [1, 4, 7, 10, 13, 14]) (.seq (.region 1 [⟨(some 46), .mv
    (.t 7), none⟩, ⟨(some 47), .mv (.t 1), none⟩, ⟨(some 48), .slc 4 (.t 47) none (some (.c (.int .i64 0))) none, none⟩, ⟨(some 49), .pcall 312 [.t 46, .t 48, .c
    (.int .u32 1)], none⟩, ⟨(some 45), .mv (.t 49), none⟩, ⟨(some 50), .ext 0 (.t 45), none⟩, ⟨(some 51), .ext 1 (.t 45), none⟩, ⟨(some 15), .alloc 0
    ([.int .i64 0] ++ rep 20 (.int .u32 0) ++ rep 7 (.int .u64 0)), none⟩, ⟨none, .store 28 (.t 15) (.t 50), none⟩, ⟨(some 16), .mv (.t 51), none⟩]) (.seq (.keep [4, 7,
   10, 13, 14, 15, 16]) (.seq (.region 1 [⟨(some 53), .mv (.t 10), none⟩, ⟨(some 54), .pcall 312 [.t 53, .c (.vs [] .full), .c (.int .u32 0)], none⟩, ⟨(some 52), .mv
    (.t 54), none⟩, ⟨(some 55), .ext 0 (.t 52), none⟩, ⟨(some 56), .ext 1 (.t 52), none⟩, ⟨(some 17), .alloc 0 ([.int .i64 0] ++ rep 20 (.int .u32 0) ++ rep 7
    (.int .u64 0)), none⟩, ⟨none, .store 28 (.t 17) (.t 55), none⟩, ⟨(some 18), .mv (.t 56), none⟩]) (.seq (.keep [4, 7, 13, 14, 15, 16, 17, 18]) (.seq
    (.region 0 [⟨(some 57), .mv (.t 4), none⟩, ⟨(some 58), .len false (.t 57), none⟩, ⟨(some 59), .bin .eql (.t 58) (.c (.int .i64 1)), none⟩, ⟨(some 60), .mv (.t 59),
   none⟩, ⟨(some 61), .faddr 0 (.t 13), (some (60, true))⟩, ⟨(some 62), .load 1 false false (.t 61), (some (60, true))⟩, ⟨(some 63), .bin .eql (.t 62) (.c (.int .i64 0)),
   (some (60, true))⟩, ⟨(some 64), .pick (.t 60) (.t 63) (.c (.bool false)), none⟩, ⟨(some 65), .mv (.t 64), none⟩, ⟨(some 66), .mv (.t 14), (some (65, true))⟩,
   ⟨(some 67), .bin .eql (.t 66) (.c (.int .i64 0)), (some (65, true))⟩, ⟨(some 68), .pick (.t 65) (.t 67) (.c (.bool false)), none⟩, ⟨(some 69), .mv (.t 68), none⟩,
   ⟨(some 70), .faddr 0 (.t 15), (some (69, true))⟩, ⟨(some 71), .load 1 false false (.t 70), (some (69, true))⟩, ⟨(some 72), .bin .eql (.t 71) (.c (.int .i64 1)), (some
    (69, true))⟩, ⟨(some 73), .pick (.t 69) (.t 72) (.c (.bool false)), none⟩, ⟨(some 74), .mv (.t 73), none⟩, ⟨(some 75), .mv (.t 16), (some (74, true))⟩, ⟨(some 76),
   .bin .eql (.t 75) (.c (.int .i64 0)), (some (74, true))⟩, ⟨(some 77), .pick (.t 74) (.t 76) (.c (.bool false)), none⟩, ⟨(some 78), .mv (.t 77), none⟩, ⟨(some 79),
   .faddr 0 (.t 17), (some (78, true))⟩, ⟨(some 80), .load 1 false false (.t 79), (some (78, true))⟩, ⟨(some 81), .bin .eql (.t 80) (.c (.int .i64 1)), (some (78, true))⟩,
   ⟨(some 82), .pick (.t 78) (.t 81) (.c (.bool false)), none⟩, ⟨(some 83), .mv (.t 82), none⟩, ⟨(some 84), .mv (.t 18), (some (83, true))⟩, ⟨(some 85), .bin .eql (.t 84)
    (.c (.int .i64 0)), (some (83, true))⟩, ⟨(some 86), .pick (.t 83) (.t 85) (.c (.bool false)), none⟩, ⟨(some 87), .mv (.t 86), none⟩, ⟨(some 88), .mv (.t 7), (some
    (87, true))⟩, ⟨(some 89), .faddr 1 (.t 15), (some (87, true))⟩, ⟨(some 90), .load 18 true false (.t 89), (some (87, true))⟩, ⟨(some 91), .faddr 19 (.t 15), (some (87,
   true))⟩, ⟨(some 92), .load 9 true false (.t 91), (some (87, true))⟩, ⟨(some 93), .pcall 308 [.t 88, .c (.vs [] .full), .c (.int .u32 1), .t 90, .t 92], (some (87,
   true))⟩, ⟨(some 94), .pick (.t 87) (.t 93) (.c (.bool false)), none⟩, ⟨(some 0), .mv (.t 94), none⟩]) (.ret)))))))))))))))),
  [.tmp 0]⟩
/-- A table that holds these. -/
class HasDecDf (G : Tbl) : Prop where
  h_decide_in : G 307 = some c_decide_in
  h_decide_Differs : G 308 = some c_decide_Differs
/-- A table that holds these. -/
class HasDec (G : Tbl) : Prop where
  h_decide_same : G 309 = some c_decide_same
  h_decide_tries_1 : G 310 = some c_decide_tries_1
  h_decide_tries : G 311 = some c_decide_tries
  h_decide_Decide : G 312 = some c_decide_Decide
/-- A table that holds these. -/
class HasL18 (G : Tbl) : Prop where
  h_hurdlelaw18_great : G 317 = some c_hurdlelaw18_great
  h_hurdlelaw18_fair : G 318 = some c_hurdlelaw18_fair
  h_hurdlelaw18_knows : G 319 = some c_hurdlelaw18_knows
end Go.Ev
/- Simplified code of Go functions, by scode.py. -/
namespace Go.Ev
/-- hurdle/hurdlelaw18.DecideSelf -/
def c_hurdlelaw18_DecideSelf : SFn := ⟨83,
  .seq (.region 0 [⟨(some 8), .mv (.c (.bool false)), none⟩]) (.seq (.seq (.region 0 [⟨(some 15), .mv (.t 0), none⟩, ⟨(some 16), .mv (.t 1), none⟩, ⟨(some 17),
   .pcall 317 [.t 15, .t 16], none⟩, ⟨(some 18), .mv (.t 17), none⟩, ⟨(some 19), .mv (.t 0), (some (18, false))⟩, ⟨(some 20), .mv (.t 1), (some (18, false))⟩, ⟨(some 21),
   .pcall 318 [.t 19, .t 20], (some (18, false))⟩, ⟨(some 22), .un .not (.t 21), (some (18, false))⟩, ⟨(some 23), .pick (.t 18) (.c (.bool true)) (.t 22), none⟩]) (.seq
    (.keep [0, 1, 2, 3, 23]) (.cond (.t 23) (.seq (.region 0 [⟨(some 24), .pcall 319 [], none⟩, ⟨(some 8), .mv (.t 24), none⟩]) (.ret)) (.skip)))) (.seq (.keep [0, 1, 2,
   3]) (.seq (.region 1 [⟨(some 26), .mv (.t 0), none⟩, ⟨(some 27), .mv (.t 0), none⟩, ⟨(some 28), .pcall 312 [.t 26, .t 27, .c (.int .u32 4294967295)], none⟩, ⟨(some 25),
   .mv (.t 28), none⟩, ⟨(some 29), .ext 0 (.t 25), none⟩, ⟨(some 30), .ext 1 (.t 25), none⟩, ⟨(some 9), .alloc 0 ([.int .i64 0] ++ rep 20 (.int .u32 0) ++ rep 7
    (.int .u64 0)), none⟩, ⟨none, .store 28 (.t 9) (.t 29), none⟩, ⟨(some 10), .mv (.t 30), none⟩]) (.seq (.keep [0, 1, 2, 3, 9, 10]) (.seq (.region 1 [⟨(some 32), .mv
    (.t 0), none⟩, ⟨(some 33), .mv (.t 1), none⟩, ⟨(some 34), .mv (.t 2), none⟩, ⟨(some 35), .pcall 312 [.t 32, .t 33, .t 34], none⟩, ⟨(some 31), .mv (.t 35), none⟩,
   ⟨(some 36), .ext 0 (.t 31), none⟩, ⟨(some 37), .ext 1 (.t 31), none⟩, ⟨(some 11), .alloc 0 ([.int .i64 0] ++ rep 20 (.int .u32 0) ++ rep 7 (.int .u64 0)), none⟩, ⟨none,
   .store 28 (.t 11) (.t 36), none⟩, ⟨(some 12), .mv (.t 37), none⟩]) (.seq (.keep [0, 1, 2, 3, 9, 10, 11, 12]) (.seq (.region 1 [⟨(some 39), .mv (.t 0), none⟩,
   ⟨(some 40), .mv (.t 1), none⟩, ⟨(some 41), .mv (.t 2), none⟩, ⟨(some 42), .mv (.t 3), none⟩, ⟨(some 43), .bin .and (.t 41) (.t 42), none⟩, ⟨(some 44),
   .pcall 312 [.t 39, .t 40, .t 43], none⟩, ⟨(some 38), .mv (.t 44), none⟩, ⟨(some 45), .ext 0 (.t 38), none⟩, ⟨(some 46), .ext 1 (.t 38), none⟩, ⟨(some 13), .alloc 0
    ([.int .i64 0] ++ rep 20 (.int .u32 0) ++ rep 7 (.int .u64 0)), none⟩, ⟨none, .store 28 (.t 13) (.t 45), none⟩, ⟨(some 14), .mv (.t 46), none⟩]) (.seq (.keep [9, 10,
   11, 12, 13, 14]) (.seq (.seq (.region 0 [⟨(some 47), .mv (.t 10), none⟩, ⟨(some 48), .bin .neq (.t 47) (.c (.int .i64 0)), none⟩, ⟨(some 49), .mv (.t 48), none⟩,
   ⟨(some 50), .mv (.t 12), (some (49, false))⟩, ⟨(some 51), .bin .neq (.t 50) (.c (.int .i64 0)), (some (49, false))⟩, ⟨(some 52), .pick (.t 49) (.c (.bool true))
    (.t 51), none⟩, ⟨(some 53), .mv (.t 52), none⟩, ⟨(some 54), .mv (.t 14), (some (53, false))⟩, ⟨(some 55), .bin .neq (.t 54) (.c (.int .i64 0)), (some (53, false))⟩,
   ⟨(some 56), .pick (.t 53) (.c (.bool true)) (.t 55), none⟩, ⟨(some 57), .mv (.t 56), none⟩, ⟨(some 58), .faddr 0 (.t 9), (some (57, false))⟩, ⟨(some 59),
   .load 1 false false (.t 58), (some (57, false))⟩, ⟨(some 60), .bin .neq (.t 59) (.c (.int .i64 0)), (some (57, false))⟩, ⟨(some 61), .pick (.t 57) (.c (.bool true))
    (.t 60), none⟩]) (.seq (.keep [11, 13, 61]) (.cond (.t 61) (.seq (.region 0 [⟨(some 8), .mv (.c (.bool false)), none⟩]) (.ret)) (.skip)))) (.seq (.keep [11, 13])
    (.seq (.region 0 [⟨(some 62), .faddr 0 (.t 11), none⟩, ⟨(some 63), .load 1 false false (.t 62), none⟩, ⟨(some 64), .bin .neq (.t 63) (.c (.int .i64 0)), none⟩,
   ⟨(some 65), .mv (.t 64), none⟩, ⟨(some 66), .faddr 0 (.t 13), (some (65, false))⟩, ⟨(some 67), .load 1 false false (.t 66), (some (65, false))⟩, ⟨(some 68), .bin .eql
    (.t 67) (.c (.int .i64 0)), (some (65, false))⟩, ⟨(some 69), .pick (.t 65) (.c (.bool true)) (.t 68), none⟩, ⟨(some 70), .mv (.t 69), none⟩, ⟨(some 71), .faddr 0
    (.t 13), (some (70, true))⟩, ⟨(some 72), .load 1 false false (.t 71), (some (70, true))⟩, ⟨(some 73), .bin .neq (.t 72) (.c (.int .i64 1)), (some (70, true))⟩,
   ⟨(some 74), .mv (.t 73), (some (70, true))⟩, ⟨(some 75), .faddr 0 (.t 11), (some (74, false))⟩, ⟨(some 76), .load 1 false false (.t 75), (some (74, false))⟩,
   ⟨(some 77), .bin .neq (.t 76) (.c (.int .i64 0)), (some (74, false))⟩, ⟨(some 78), .pick (.t 74) (.c (.bool true)) (.t 77), (some (70, true))⟩, ⟨(some 79), .pick
    (.t 70) (.t 78) (.c (.bool false)), none⟩, ⟨(some 80), .mv (.t 79), none⟩, ⟨(some 81), .pcall 319 [], (some (80, true))⟩, ⟨(some 82), .pick (.t 80) (.t 81) (.c
    (.bool false)), none⟩, ⟨(some 8), .mv (.t 82), none⟩]) (.ret)))))))))))),
  [.tmp 8]⟩
/-- hurdle/hurdlelaw18.DecideSwaps -/
def c_hurdlelaw18_DecideSwaps : SFn := ⟨53,
  .seq (.region 0 [⟨(some 6), .mv (.c (.bool false)), none⟩]) (.seq (.seq (.region 0 [⟨(some 11), .mv (.t 0), none⟩, ⟨(some 12), .mv (.t 1), none⟩, ⟨(some 13),
   .pcall 317 [.t 11, .t 12], none⟩, ⟨(some 14), .mv (.t 13), none⟩, ⟨(some 15), .mv (.t 0), (some (14, false))⟩, ⟨(some 16), .mv (.t 1), (some (14, false))⟩, ⟨(some 17),
   .pcall 318 [.t 15, .t 16], (some (14, false))⟩, ⟨(some 18), .un .not (.t 17), (some (14, false))⟩, ⟨(some 19), .pick (.t 14) (.c (.bool true)) (.t 18), none⟩]) (.seq
    (.keep [0, 1, 2, 19]) (.cond (.t 19) (.seq (.region 0 [⟨(some 20), .pcall 319 [], none⟩, ⟨(some 6), .mv (.t 20), none⟩]) (.ret)) (.skip)))) (.seq (.keep [0, 1, 2])
    (.seq (.region 1 [⟨(some 22), .mv (.t 0), none⟩, ⟨(some 23), .mv (.t 1), none⟩, ⟨(some 24), .mv (.t 2), none⟩, ⟨(some 25), .pcall 312 [.t 22, .t 23, .t 24], none⟩,
   ⟨(some 21), .mv (.t 25), none⟩, ⟨(some 26), .ext 0 (.t 21), none⟩, ⟨(some 27), .ext 1 (.t 21), none⟩, ⟨(some 7), .alloc 0 ([.int .i64 0] ++ rep 20
    (.int .u32 0) ++ rep 7 (.int .u64 0)), none⟩, ⟨none, .store 28 (.t 7) (.t 26), none⟩, ⟨(some 8), .mv (.t 27), none⟩]) (.seq (.keep [0, 1, 2, 7, 8]) (.seq
    (.region 1 [⟨(some 29), .mv (.t 1), none⟩, ⟨(some 30), .mv (.t 0), none⟩, ⟨(some 31), .mv (.t 2), none⟩, ⟨(some 32), .pcall 312 [.t 29, .t 30, .t 31], none⟩,
   ⟨(some 28), .mv (.t 32), none⟩, ⟨(some 33), .ext 0 (.t 28), none⟩, ⟨(some 34), .ext 1 (.t 28), none⟩, ⟨(some 9), .alloc 0 ([.int .i64 0] ++ rep 20
    (.int .u32 0) ++ rep 7 (.int .u64 0)), none⟩, ⟨none, .store 28 (.t 9) (.t 33), none⟩, ⟨(some 10), .mv (.t 34), none⟩]) (.seq (.keep [7, 8, 9, 10]) (.seq
    (.region 0 [⟨(some 35), .mv (.t 8), none⟩, ⟨(some 36), .bin .eql (.t 35) (.c (.int .i64 0)), none⟩, ⟨(some 37), .mv (.t 36), none⟩, ⟨(some 38), .mv (.t 10), (some
    (37, true))⟩, ⟨(some 39), .bin .eql (.t 38) (.c (.int .i64 0)), (some (37, true))⟩, ⟨(some 40), .pick (.t 37) (.t 39) (.c (.bool false)), none⟩, ⟨(some 41), .mv
    (.t 40), none⟩, ⟨(some 42), .faddr 0 (.t 7), (some (41, true))⟩, ⟨(some 43), .load 1 false false (.t 42), (some (41, true))⟩, ⟨(some 44), .bin .eql (.t 43) (.c
    (.int .i64 0)), (some (41, true))⟩, ⟨(some 45), .faddr 0 (.t 9), (some (41, true))⟩, ⟨(some 46), .load 1 false false (.t 45), (some (41, true))⟩, ⟨(some 47), .bin .eql
    (.t 46) (.c (.int .i64 0)), (some (41, true))⟩, ⟨(some 48), .beq false (.t 44) (.t 47), (some (41, true))⟩, ⟨(some 49), .pick (.t 41) (.t 48) (.c (.bool false)),
   none⟩, ⟨(some 50), .mv (.t 49), none⟩, ⟨(some 51), .pcall 319 [], (some (50, true))⟩, ⟨(some 52), .pick (.t 50) (.t 51) (.c (.bool false)), none⟩, ⟨(some 6), .mv
    (.t 52), none⟩]) (.ret)))))))),
  [.tmp 6]⟩
/-- A table that holds these. -/
class HasL18d (G : Tbl) : Prop where
  h_hurdlelaw18_DecideSelf : G 324 = some c_hurdlelaw18_DecideSelf
  h_hurdlelaw18_DecideSwaps : G 325 = some c_hurdlelaw18_DecideSwaps
end Go.Ev
