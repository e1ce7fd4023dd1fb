/- The seat's table of simplified functions; each is checked against the loaded program. -/
import Derived.Test.YtdomogpjchpbnaaProg
import Derived.KernelRfl
import Derived.Test.YtdomogpjchpbnaaEvNW
import Derived.Test.YtdomogpjchpbnaaEvBitsCW
import Derived.Test.YtdomogpjchpbnaaEvLaw16CW
namespace Go.Proofs.Ytdomogpjchpbnaa
open Go.Ev

def tbl : Tbl
  | 107 => some c_word_Do
  | 125 => some c_hurdleref01_power
  | 126 => some c_hurdleref01_bit
  | 127 => some c_hurdleref01_bits
  | 122 => some c_hurdleref01_Do
  | 173 => some c_hurdleref01_Neg
  | 100 => some c_bits_counts
  | 101 => some c_bits_Right
  | 102 => some c_bits_Const
  | 103 => some c_bits_Var
  | 104 => some c_bits_union
  | 105 => some c_bits_at
  | 106 => some c_bits_plain
  | 108 => some c_bits_Do_1
  | 109 => some c_bits_Do
  | 110 => some c_bits_Eval
  | 112 => some c_bits_Apart
  | 243 => some c_affine_Const
  | 244 => some c_affine_Var
  | 245 => some c_affine_both
  | 246 => some c_affine_Add_1
  | 247 => some c_affine_Add
  | 248 => some c_affine_Sub_1
  | 249 => some c_affine_Sub
  | 250 => some c_affine_Mul_1
  | 251 => some c_affine_Mul
  | 252 => some c_affine_Eval
  | 253 => some c_affine_Constant
  | 254 => some c_affine_Single
  | 255 => some c_affine_Apart
  | 256 => some c_sym_New
  | 257 => some c_sym_Book_Len
  | 258 => some c_sym_Book_has
  | 259 => some c_sym_Book_id
  | 260 => some c_sym_Book_sum
  | 261 => some c_sym_Book_bits
  | 262 => some c_sym_Book_Const
  | 263 => some c_sym_Book_Var
  | 264 => some c_sym_Book_asSum
  | 265 => some c_sym_Book_asBits
  | 266 => some c_sym_Book_Constant
  | 267 => some c_sym_Book_sums
  | 268 => some c_sym_Book_both
  | 269 => some c_sym_Book_plain
  | 270 => some c_sym_Book_Alu_1
  | 271 => some c_sym_Book_Alu_2
  | 272 => some c_sym_Book_Alu_3
  | 273 => some c_sym_Book_Alu_4
  | 274 => some c_sym_Book_Alu
  | 275 => some c_sym_Book_Neg
  | 276 => some c_sym_Book_Eval
  | 277 => some c_sym_Book_Apart
  | 278 => some c_hurdleref16_there
  | 279 => some c_hurdleref16_Next
  | 280 => some c_hurdleref16_Eval
  | 281 => some c_hurdleref16_Sums
  | 282 => some c_hurdleref16_Vars
  | 283 => some c_hurdleref16_Bits
  | 284 => some c_hurdlelaw16_knows
  | 285 => some c_hurdlelaw16_at
  | 286 => some c_hurdlelaw16_Make
  | 287 => some c_hurdlelaw16_row
  | 288 => some c_hurdlelaw16_SymEvals
  | 289 => some c_hurdlelaw16_SymSound
  | 291 => some c_hurdlelaw16_SymNil
  | 290 => some c_hurdlelaw16_SymExact
  | _ => none
def fmF : Nat → Go.FuncId
  | 107 => 34
  | 125 => 49
  | 126 => 61
  | 127 => 48
  | 122 => 24
  | 173 => 25
  | 100 => 66
  | 101 => 55
  | 102 => 50
  | 103 => 53
  | 104 => 56
  | 105 => 57
  | 106 => 65
  | 108 => 64
  | 109 => 54
  | 110 => 33
  | 112 => 31
  | 243 => 37
  | 244 => 38
  | 245 => 62
  | 246 => 67
  | 247 => 58
  | 248 => 63
  | 249 => 51
  | 250 => 68
  | 251 => 59
  | 252 => 32
  | 253 => 35
  | 254 => 52
  | 255 => 29
  | 256 => 7
  | 257 => 16
  | 258 => 27
  | 259 => 46
  | 260 => 36
  | 261 => 60
  | 262 => 18
  | 263 => 19
  | 264 => 28
  | 265 => 30
  | 266 => 17
  | 267 => 40
  | 268 => 42
  | 269 => 44
  | 270 => 39
  | 271 => 41
  | 272 => 43
  | 273 => 45
  | 274 => 20
  | 275 => 21
  | 276 => 15
  | 277 => 14
  | 278 => 47
  | 279 => 23
  | 280 => 9
  | 281 => 12
  | 282 => 26
  | 283 => 13
  | 284 => 11
  | 285 => 22
  | 286 => 8
  | 287 => 10
  | 288 => 5
  | 289 => 3
  | 291 => 6
  | 290 => 4
  | _ => 0
def fmG : Nat → Option (List V)
  | _ => none
def fm : Fm := ⟨fmF, fmG, fun _ _ _ => True⟩
theorem k_107 : chkFn Try.prog fm 34 c_word_Do = true := by kernel_rfl
theorem k_125 : chkFn Try.prog fm 49 c_hurdleref01_power = true := by kernel_rfl
theorem k_126 : chkFn Try.prog fm 61 c_hurdleref01_bit = true := by kernel_rfl
theorem k_127 : chkFn Try.prog fm 48 c_hurdleref01_bits = true := by kernel_rfl
theorem k_122 : chkFn Try.prog fm 24 c_hurdleref01_Do = true := by kernel_rfl
theorem k_173 : chkFn Try.prog fm 25 c_hurdleref01_Neg = true := by kernel_rfl
theorem k_100 : chkFn Try.prog fm 66 c_bits_counts = true := by kernel_rfl
theorem k_101 : chkFn Try.prog fm 55 c_bits_Right = true := by kernel_rfl
theorem k_102 : chkFn Try.prog fm 50 c_bits_Const = true := by kernel_rfl
theorem k_103 : chkFn Try.prog fm 53 c_bits_Var = true := by kernel_rfl
theorem k_104 : chkFn Try.prog fm 56 c_bits_union = true := by kernel_rfl
theorem k_105 : chkFn Try.prog fm 57 c_bits_at = true := by kernel_rfl
theorem k_106 : chkFn Try.prog fm 65 c_bits_plain = true := by kernel_rfl
theorem k_108 : chkFn Try.prog fm 64 c_bits_Do_1 = true := by kernel_rfl
theorem k_109 : chkFn Try.prog fm 54 c_bits_Do = true := by kernel_rfl
theorem k_110 : chkFn Try.prog fm 33 c_bits_Eval = true := by kernel_rfl
theorem k_112 : chkFn Try.prog fm 31 c_bits_Apart = true := by kernel_rfl
theorem k_243 : chkFn Try.prog fm 37 c_affine_Const = true := by kernel_rfl
theorem k_244 : chkFn Try.prog fm 38 c_affine_Var = true := by kernel_rfl
theorem k_245 : chkFn Try.prog fm 62 c_affine_both = true := by kernel_rfl
theorem k_246 : chkFn Try.prog fm 67 c_affine_Add_1 = true := by kernel_rfl
theorem k_247 : chkFn Try.prog fm 58 c_affine_Add = true := by kernel_rfl
theorem k_248 : chkFn Try.prog fm 63 c_affine_Sub_1 = true := by kernel_rfl
theorem k_249 : chkFn Try.prog fm 51 c_affine_Sub = true := by kernel_rfl
theorem k_250 : chkFn Try.prog fm 68 c_affine_Mul_1 = true := by kernel_rfl
theorem k_251 : chkFn Try.prog fm 59 c_affine_Mul = true := by kernel_rfl
theorem k_252 : chkFn Try.prog fm 32 c_affine_Eval = true := by kernel_rfl
theorem k_253 : chkFn Try.prog fm 35 c_affine_Constant = true := by kernel_rfl
theorem k_254 : chkFn Try.prog fm 52 c_affine_Single = true := by kernel_rfl
theorem k_255 : chkFn Try.prog fm 29 c_affine_Apart = true := by kernel_rfl
theorem k_256 : chkFn Try.prog fm 7 c_sym_New = true := by kernel_rfl
theorem k_257 : chkFn Try.prog fm 16 c_sym_Book_Len = true := by kernel_rfl
theorem k_258 : chkFn Try.prog fm 27 c_sym_Book_has = true := by kernel_rfl
theorem k_259 : chkFn Try.prog fm 46 c_sym_Book_id = true := by kernel_rfl
theorem k_260 : chkFn Try.prog fm 36 c_sym_Book_sum = true := by kernel_rfl
theorem k_261 : chkFn Try.prog fm 60 c_sym_Book_bits = true := by kernel_rfl
theorem k_262 : chkFn Try.prog fm 18 c_sym_Book_Const = true := by kernel_rfl
theorem k_263 : chkFn Try.prog fm 19 c_sym_Book_Var = true := by kernel_rfl
theorem k_264 : chkFn Try.prog fm 28 c_sym_Book_asSum = true := by kernel_rfl
theorem k_265 : chkFn Try.prog fm 30 c_sym_Book_asBits = true := by kernel_rfl
theorem k_266 : chkFn Try.prog fm 17 c_sym_Book_Constant = true := by kernel_rfl
theorem k_267 : chkFn Try.prog fm 40 c_sym_Book_sums = true := by kernel_rfl
theorem k_268 : chkFn Try.prog fm 42 c_sym_Book_both = true := by kernel_rfl
theorem k_269 : chkFn Try.prog fm 44 c_sym_Book_plain = true := by kernel_rfl
theorem k_270 : chkFn Try.prog fm 39 c_sym_Book_Alu_1 = true := by kernel_rfl
theorem k_271 : chkFn Try.prog fm 41 c_sym_Book_Alu_2 = true := by kernel_rfl
theorem k_272 : chkFn Try.prog fm 43 c_sym_Book_Alu_3 = true := by kernel_rfl
theorem k_273 : chkFn Try.prog fm 45 c_sym_Book_Alu_4 = true := by kernel_rfl
theorem k_274 : chkFn Try.prog fm 20 c_sym_Book_Alu = true := by kernel_rfl
theorem k_275 : chkFn Try.prog fm 21 c_sym_Book_Neg = true := by kernel_rfl
theorem k_276 : chkFn Try.prog fm 15 c_sym_Book_Eval = true := by kernel_rfl
theorem k_277 : chkFn Try.prog fm 14 c_sym_Book_Apart = true := by kernel_rfl
theorem k_278 : chkFn Try.prog fm 47 c_hurdleref16_there = true := by kernel_rfl
theorem k_279 : chkFn Try.prog fm 23 c_hurdleref16_Next = true := by kernel_rfl
theorem k_280 : chkFn Try.prog fm 9 c_hurdleref16_Eval = true := by kernel_rfl
theorem k_281 : chkFn Try.prog fm 12 c_hurdleref16_Sums = true := by kernel_rfl
theorem k_282 : chkFn Try.prog fm 26 c_hurdleref16_Vars = true := by kernel_rfl
theorem k_283 : chkFn Try.prog fm 13 c_hurdleref16_Bits = true := by kernel_rfl
theorem k_284 : chkFn Try.prog fm 11 c_hurdlelaw16_knows = true := by kernel_rfl
theorem k_285 : chkFn Try.prog fm 22 c_hurdlelaw16_at = true := by kernel_rfl
theorem k_286 : chkFn Try.prog fm 8 c_hurdlelaw16_Make = true := by kernel_rfl
theorem k_287 : chkFn Try.prog fm 10 c_hurdlelaw16_row = true := by kernel_rfl
theorem k_288 : chkFn Try.prog fm 5 c_hurdlelaw16_SymEvals = true := by kernel_rfl
theorem k_289 : chkFn Try.prog fm 3 c_hurdlelaw16_SymSound = true := by kernel_rfl
theorem k_291 : chkFn Try.prog fm 6 c_hurdlelaw16_SymNil = true := by kernel_rfl
theorem k_290 : chkFn Try.prog fm 4 c_hurdlelaw16_SymExact = true := by kernel_rfl
theorem checked : ∀ f c, tbl f = some c → chkFn Try.prog fm (fm f) c = true := by
  intro f c h
  unfold tbl at h
  split at h
  · cases h; exact k_107
  · cases h; exact k_125
  · cases h; exact k_126
  · cases h; exact k_127
  · cases h; exact k_122
  · cases h; exact k_173
  · cases h; exact k_100
  · cases h; exact k_101
  · cases h; exact k_102
  · cases h; exact k_103
  · cases h; exact k_104
  · cases h; exact k_105
  · cases h; exact k_106
  · cases h; exact k_108
  · cases h; exact k_109
  · cases h; exact k_110
  · cases h; exact k_112
  · cases h; exact k_243
  · cases h; exact k_244
  · cases h; exact k_245
  · cases h; exact k_246
  · cases h; exact k_247
  · cases h; exact k_248
  · cases h; exact k_249
  · cases h; exact k_250
  · cases h; exact k_251
  · cases h; exact k_252
  · cases h; exact k_253
  · cases h; exact k_254
  · cases h; exact k_255
  · cases h; exact k_256
  · cases h; exact k_257
  · cases h; exact k_258
  · cases h; exact k_259
  · cases h; exact k_260
  · cases h; exact k_261
  · cases h; exact k_262
  · cases h; exact k_263
  · cases h; exact k_264
  · cases h; exact k_265
  · cases h; exact k_266
  · cases h; exact k_267
  · cases h; exact k_268
  · cases h; exact k_269
  · cases h; exact k_270
  · cases h; exact k_271
  · cases h; exact k_272
  · cases h; exact k_273
  · cases h; exact k_274
  · cases h; exact k_275
  · cases h; exact k_276
  · cases h; exact k_277
  · cases h; exact k_278
  · cases h; exact k_279
  · cases h; exact k_280
  · cases h; exact k_281
  · cases h; exact k_282
  · cases h; exact k_283
  · cases h; exact k_284
  · cases h; exact k_285
  · cases h; exact k_286
  · cases h; exact k_287
  · cases h; exact k_288
  · cases h; exact k_289
  · cases h; exact k_291
  · cases h; exact k_290
  · cases h
instance hasWd : HasWd tbl := ⟨rfl⟩
instance hasR1 : HasR1 tbl := ⟨rfl, rfl, rfl, rfl⟩
instance hasR1n : HasR1n tbl := ⟨rfl⟩
instance hasBits : HasBits tbl := ⟨rfl, rfl, rfl, rfl, rfl, rfl, rfl, rfl, rfl⟩
instance hasBitsE : HasBitsE tbl := ⟨rfl⟩
instance hasBitsA : HasBitsA tbl := ⟨rfl⟩
instance hasAffine : HasAffine tbl := ⟨rfl, rfl, rfl, rfl, rfl, rfl, rfl, rfl, rfl, rfl, rfl, rfl⟩
instance hasSymNew : HasSymNew tbl := ⟨rfl⟩
instance hasSym : HasSym tbl := ⟨rfl, rfl, rfl, rfl, rfl, rfl, rfl, rfl, rfl, rfl, rfl, rfl, rfl, rfl, rfl, rfl, rfl, rfl, rfl⟩
instance hasSymApart : HasSymApart tbl := ⟨rfl⟩
instance hasAffApart : HasAffApart tbl := ⟨rfl⟩
instance hasR16 : HasR16 tbl := ⟨rfl, rfl, rfl, rfl, rfl, rfl⟩
instance hasL16 : HasL16 tbl := ⟨rfl, rfl, rfl, rfl, rfl, rfl, rfl⟩
instance hasL16x : HasL16x tbl := ⟨rfl⟩

end Go.Proofs.Ytdomogpjchpbnaa
