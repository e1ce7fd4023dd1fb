/- The seat's table of simplified functions; each is checked against the loaded program. -/
import Derived.Test.YtkodfphojbfieaaDoorProg
import Derived.KernelRfl
import Derived.Test.YtkodfphojbfieaaDoorEvNW
import Derived.Test.YtkodfphojbfieaaDoorEvBitsCW
import Derived.Test.YtkodfphojbfieaaDoorEvSymCW
set_option linter.unusedVariables false
set_option linter.unusedSimpArgs false
namespace Go.Proofs.YtkodfphojbfieaaDoor
open Go.Ev

def tbl : Tbl
  | 107 => some c_word_Do
  | 100 => some c_bits_counts
  | 101 => some c_bits_Right
  | 102 => some c_bits_Const
  | 103 => some c_bits_Var
  | 104 => some c_bits_union
  | 105 => some c_bits_at
  | 106 => some c_bits_plain
  | 108 => some c_bits_Do_1
  | 109 => some c_bits_Do
  | 112 => some c_bits_Apart
  | 138 => some c_word_Neg
  | 139 => some c_ins_of
  | 140 => some c_ins_Right
  | 141 => some c_ins_Alu
  | 142 => some c_ins_Branch
  | 143 => some c_ins_Ends
  | 144 => some c_word_Parse
  | 145 => some c_ins_words
  | 146 => some c_ins_Parse_1
  | 147 => some c_ins_Parse
  | 148 => some c_codec_Parse
  | 149 => some c_check_rules_1
  | 150 => some c_check_rules_2
  | 151 => some c_check_rules_3
  | 152 => some c_check_rules_4
  | 153 => some c_check_rules_5
  | 154 => some c_check_rules
  | 155 => some c_check_ways
  | 156 => some c_check_Check
  | 157 => some c_check_Sound
  | 158 => some c_data_there
  | 159 => some c_data_words_1
  | 160 => some c_data_words
  | 161 => some c_data_Word
  | 162 => some c_run_cell
  | 163 => some c_run_store
  | 164 => some c_run_Step
  | 174 => some c_hurdleref02_branch
  | 175 => some c_hurdleref02_plain
  | 176 => some c_hurdleref02_place
  | 177 => some c_hurdleref02_Ops
  | 178 => some c_hurdleref02_Right
  | 180 => some c_hurdleref02_Branch
  | 181 => some c_hurdleref02_Ends
  | 186 => some c_hurdleref05_One
  | 202 => some c_window_Right
  | 203 => some c_hurdleref17_Right
  | 231 => some c_data_of_1
  | 232 => some c_data_of
  | 233 => some c_data_With
  | 243 => some c_affine_Const
  | 244 => some c_affine_Var
  | 245 => some c_affine_both
  | 246 => some c_affine_Add_1
  | 247 => some c_affine_Add
  | 248 => some c_affine_Sub_1
  | 249 => some c_affine_Sub
  | 250 => some c_affine_Mul_1
  | 251 => some c_affine_Mul
  | 253 => some c_affine_Constant
  | 254 => some c_affine_Single
  | 255 => some c_affine_Apart
  | 256 => some c_sym_New
  | 257 => some c_sym_Book_Len
  | 258 => some c_sym_Book_has
  | 259 => some c_sym_Book_id
  | 260 => some c_sym_Book_sum
  | 261 => some c_sym_Book_bits
  | 262 => some c_sym_Book_Const
  | 263 => some c_sym_Book_Var
  | 264 => some c_sym_Book_asSum
  | 265 => some c_sym_Book_asBits
  | 266 => some c_sym_Book_Constant
  | 267 => some c_sym_Book_sums
  | 268 => some c_sym_Book_both
  | 269 => some c_sym_Book_plain
  | 270 => some c_sym_Book_Alu_1
  | 271 => some c_sym_Book_Alu_2
  | 272 => some c_sym_Book_Alu_3
  | 273 => some c_sym_Book_Alu_4
  | 274 => some c_sym_Book_Alu
  | 275 => some c_sym_Book_Neg
  | 277 => some c_sym_Book_Apart
  | 292 => some c_window_Run
  | 293 => some c_window_Assign
  | 294 => some c_window_State
  | 295 => some c_window_step
  | 296 => some c_window_Of
  | 307 => some c_decide_in
  | 308 => some c_decide_Differs
  | 309 => some c_decide_same
  | 310 => some c_decide_tries_1
  | 311 => some c_decide_tries
  | 312 => some c_decide_Decide
  | 317 => some c_hurdlelaw18_great
  | 318 => some c_hurdlelaw18_fair
  | 319 => some c_hurdlelaw18_knows
  | 324 => some c_hurdlelaw18_DecideSelf
  | 325 => some c_hurdlelaw18_DecideSwaps
  | _ => none
def fmF : Nat → Go.FuncId
  | 107 => 59
  | 100 => 95
  | 101 => 79
  | 102 => 74
  | 103 => 77
  | 104 => 80
  | 105 => 81
  | 106 => 94
  | 108 => 93
  | 109 => 78
  | 112 => 51
  | 138 => 62
  | 139 => 57
  | 140 => 85
  | 141 => 43
  | 142 => 36
  | 143 => 37
  | 144 => 35
  | 145 => 33
  | 146 => 34
  | 147 => 20
  | 148 => 10
  | 149 => 96
  | 150 => 97
  | 151 => 98
  | 152 => 99
  | 153 => 100
  | 154 => 84
  | 155 => 86
  | 156 => 58
  | 157 => 38
  | 158 => 52
  | 159 => 82
  | 160 => 53
  | 161 => 40
  | 162 => 60
  | 163 => 61
  | 164 => 39
  | 174 => 30
  | 175 => 56
  | 176 => 31
  | 177 => 55
  | 178 => 32
  | 180 => 17
  | 181 => 18
  | 186 => 19
  | 202 => 21
  | 203 => 9
  | 231 => 83
  | 232 => 54
  | 233 => 29
  | 243 => 64
  | 244 => 41
  | 245 => 91
  | 246 => 101
  | 247 => 87
  | 248 => 92
  | 249 => 75
  | 250 => 102
  | 251 => 88
  | 253 => 73
  | 254 => 76
  | 255 => 49
  | 256 => 12
  | 257 => 72
  | 258 => 47
  | 259 => 63
  | 260 => 42
  | 261 => 89
  | 262 => 44
  | 263 => 25
  | 264 => 48
  | 265 => 50
  | 266 => 90
  | 267 => 66
  | 268 => 68
  | 269 => 70
  | 270 => 65
  | 271 => 67
  | 272 => 69
  | 273 => 71
  | 274 => 45
  | 275 => 46
  | 277 => 28
  | 292 => 22
  | 293 => 23
  | 294 => 16
  | 295 => 26
  | 296 => 13
  | 307 => 24
  | 308 => 11
  | 309 => 14
  | 310 => 27
  | 311 => 15
  | 312 => 8
  | 317 => 5
  | 318 => 6
  | 319 => 7
  | 324 => 3
  | 325 => 4
  | _ => 0
def fmG : Nat → Option (List V)
  | 0 => some g_ins_shapes
  | _ => none
def fm : Fm := ⟨fmF, fmG, fun _ _ _ => True⟩
theorem k_107 : chkFn Tryd.prog fm 59 c_word_Do = true := by kernel_rfl
theorem k_100 : chkFn Tryd.prog fm 95 c_bits_counts = true := by kernel_rfl
theorem k_101 : chkFn Tryd.prog fm 79 c_bits_Right = true := by kernel_rfl
theorem k_102 : chkFn Tryd.prog fm 74 c_bits_Const = true := by kernel_rfl
theorem k_103 : chkFn Tryd.prog fm 77 c_bits_Var = true := by kernel_rfl
theorem k_104 : chkFn Tryd.prog fm 80 c_bits_union = true := by kernel_rfl
theorem k_105 : chkFn Tryd.prog fm 81 c_bits_at = true := by kernel_rfl
theorem k_106 : chkFn Tryd.prog fm 94 c_bits_plain = true := by kernel_rfl
theorem k_108 : chkFn Tryd.prog fm 93 c_bits_Do_1 = true := by kernel_rfl
theorem k_109 : chkFn Tryd.prog fm 78 c_bits_Do = true := by kernel_rfl
theorem k_112 : chkFn Tryd.prog fm 51 c_bits_Apart = true := by kernel_rfl
theorem k_138 : chkFn Tryd.prog fm 62 c_word_Neg = true := by kernel_rfl
theorem k_139 : chkFn Tryd.prog fm 57 c_ins_of = true := by kernel_rfl
theorem k_140 : chkFn Tryd.prog fm 85 c_ins_Right = true := by kernel_rfl
theorem k_141 : chkFn Tryd.prog fm 43 c_ins_Alu = true := by kernel_rfl
theorem k_142 : chkFn Tryd.prog fm 36 c_ins_Branch = true := by kernel_rfl
theorem k_143 : chkFn Tryd.prog fm 37 c_ins_Ends = true := by kernel_rfl
theorem k_144 : chkFn Tryd.prog fm 35 c_word_Parse = true := by kernel_rfl
theorem k_145 : chkFn Tryd.prog fm 33 c_ins_words = true := by kernel_rfl
theorem k_146 : chkFn Tryd.prog fm 34 c_ins_Parse_1 = true := by kernel_rfl
theorem k_147 : chkFn Tryd.prog fm 20 c_ins_Parse = true := by kernel_rfl
theorem k_148 : chkFn Tryd.prog fm 10 c_codec_Parse = true := by kernel_rfl
theorem k_149 : chkFn Tryd.prog fm 96 c_check_rules_1 = true := by kernel_rfl
theorem k_150 : chkFn Tryd.prog fm 97 c_check_rules_2 = true := by kernel_rfl
theorem k_151 : chkFn Tryd.prog fm 98 c_check_rules_3 = true := by kernel_rfl
theorem k_152 : chkFn Tryd.prog fm 99 c_check_rules_4 = true := by kernel_rfl
theorem k_153 : chkFn Tryd.prog fm 100 c_check_rules_5 = true := by kernel_rfl
theorem k_154 : chkFn Tryd.prog fm 84 c_check_rules = true := by kernel_rfl
theorem k_155 : chkFn Tryd.prog fm 86 c_check_ways = true := by kernel_rfl
theorem k_156 : chkFn Tryd.prog fm 58 c_check_Check = true := by kernel_rfl
theorem k_157 : chkFn Tryd.prog fm 38 c_check_Sound = true := by kernel_rfl
theorem k_158 : chkFn Tryd.prog fm 52 c_data_there = true := by kernel_rfl
theorem k_159 : chkFn Tryd.prog fm 82 c_data_words_1 = true := by kernel_rfl
theorem k_160 : chkFn Tryd.prog fm 53 c_data_words = true := by kernel_rfl
theorem k_161 : chkFn Tryd.prog fm 40 c_data_Word = true := by kernel_rfl
theorem k_162 : chkFn Tryd.prog fm 60 c_run_cell = true := by kernel_rfl
theorem k_163 : chkFn Tryd.prog fm 61 c_run_store = true := by kernel_rfl
theorem k_164 : chkFn Tryd.prog fm 39 c_run_Step = true := by kernel_rfl
theorem k_174 : chkFn Tryd.prog fm 30 c_hurdleref02_branch = true := by kernel_rfl
theorem k_175 : chkFn Tryd.prog fm 56 c_hurdleref02_plain = true := by kernel_rfl
theorem k_176 : chkFn Tryd.prog fm 31 c_hurdleref02_place = true := by kernel_rfl
theorem k_177 : chkFn Tryd.prog fm 55 c_hurdleref02_Ops = true := by kernel_rfl
theorem k_178 : chkFn Tryd.prog fm 32 c_hurdleref02_Right = true := by kernel_rfl
theorem k_180 : chkFn Tryd.prog fm 17 c_hurdleref02_Branch = true := by kernel_rfl
theorem k_181 : chkFn Tryd.prog fm 18 c_hurdleref02_Ends = true := by kernel_rfl
theorem k_186 : chkFn Tryd.prog fm 19 c_hurdleref05_One = true := by kernel_rfl
theorem k_202 : chkFn Tryd.prog fm 21 c_window_Right = true := by kernel_rfl
theorem k_203 : chkFn Tryd.prog fm 9 c_hurdleref17_Right = true := by kernel_rfl
theorem k_231 : chkFn Tryd.prog fm 83 c_data_of_1 = true := by kernel_rfl
theorem k_232 : chkFn Tryd.prog fm 54 c_data_of = true := by kernel_rfl
theorem k_233 : chkFn Tryd.prog fm 29 c_data_With = true := by kernel_rfl
theorem k_243 : chkFn Tryd.prog fm 64 c_affine_Const = true := by kernel_rfl
theorem k_244 : chkFn Tryd.prog fm 41 c_affine_Var = true := by kernel_rfl
theorem k_245 : chkFn Tryd.prog fm 91 c_affine_both = true := by kernel_rfl
theorem k_246 : chkFn Tryd.prog fm 101 c_affine_Add_1 = true := by kernel_rfl
theorem k_247 : chkFn Tryd.prog fm 87 c_affine_Add = true := by kernel_rfl
theorem k_248 : chkFn Tryd.prog fm 92 c_affine_Sub_1 = true := by kernel_rfl
theorem k_249 : chkFn Tryd.prog fm 75 c_affine_Sub = true := by kernel_rfl
theorem k_250 : chkFn Tryd.prog fm 102 c_affine_Mul_1 = true := by kernel_rfl
theorem k_251 : chkFn Tryd.prog fm 88 c_affine_Mul = true := by kernel_rfl
theorem k_253 : chkFn Tryd.prog fm 73 c_affine_Constant = true := by kernel_rfl
theorem k_254 : chkFn Tryd.prog fm 76 c_affine_Single = true := by kernel_rfl
theorem k_255 : chkFn Tryd.prog fm 49 c_affine_Apart = true := by kernel_rfl
theorem k_256 : chkFn Tryd.prog fm 12 c_sym_New = true := by kernel_rfl
theorem k_257 : chkFn Tryd.prog fm 72 c_sym_Book_Len = true := by kernel_rfl
theorem k_258 : chkFn Tryd.prog fm 47 c_sym_Book_has = true := by kernel_rfl
theorem k_259 : chkFn Tryd.prog fm 63 c_sym_Book_id = true := by kernel_rfl
theorem k_260 : chkFn Tryd.prog fm 42 c_sym_Book_sum = true := by kernel_rfl
theorem k_261 : chkFn Tryd.prog fm 89 c_sym_Book_bits = true := by kernel_rfl
theorem k_262 : chkFn Tryd.prog fm 44 c_sym_Book_Const = true := by kernel_rfl
theorem k_263 : chkFn Tryd.prog fm 25 c_sym_Book_Var = true := by kernel_rfl
theorem k_264 : chkFn Tryd.prog fm 48 c_sym_Book_asSum = true := by kernel_rfl
theorem k_265 : chkFn Tryd.prog fm 50 c_sym_Book_asBits = true := by kernel_rfl
theorem k_266 : chkFn Tryd.prog fm 90 c_sym_Book_Constant = true := by kernel_rfl
theorem k_267 : chkFn Tryd.prog fm 66 c_sym_Book_sums = true := by kernel_rfl
theorem k_268 : chkFn Tryd.prog fm 68 c_sym_Book_both = true := by kernel_rfl
theorem k_269 : chkFn Tryd.prog fm 70 c_sym_Book_plain = true := by kernel_rfl
theorem k_270 : chkFn Tryd.prog fm 65 c_sym_Book_Alu_1 = true := by kernel_rfl
theorem k_271 : chkFn Tryd.prog fm 67 c_sym_Book_Alu_2 = true := by kernel_rfl
theorem k_272 : chkFn Tryd.prog fm 69 c_sym_Book_Alu_3 = true := by kernel_rfl
theorem k_273 : chkFn Tryd.prog fm 71 c_sym_Book_Alu_4 = true := by kernel_rfl
theorem k_274 : chkFn Tryd.prog fm 45 c_sym_Book_Alu = true := by kernel_rfl
theorem k_275 : chkFn Tryd.prog fm 46 c_sym_Book_Neg = true := by kernel_rfl
theorem k_277 : chkFn Tryd.prog fm 28 c_sym_Book_Apart = true := by kernel_rfl
theorem k_292 : chkFn Tryd.prog fm 22 c_window_Run = true := by kernel_rfl
theorem k_293 : chkFn Tryd.prog fm 23 c_window_Assign = true := by kernel_rfl
theorem k_294 : chkFn Tryd.prog fm 16 c_window_State = true := by kernel_rfl
theorem k_295 : chkFn Tryd.prog fm 26 c_window_step = true := by kernel_rfl
theorem k_296 : chkFn Tryd.prog fm 13 c_window_Of = true := by kernel_rfl
theorem k_307 : chkFn Tryd.prog fm 24 c_decide_in = true := by kernel_rfl
theorem k_308 : chkFn Tryd.prog fm 11 c_decide_Differs = true := by kernel_rfl
theorem k_309 : chkFn Tryd.prog fm 14 c_decide_same = true := by kernel_rfl
theorem k_310 : chkFn Tryd.prog fm 27 c_decide_tries_1 = true := by kernel_rfl
theorem k_311 : chkFn Tryd.prog fm 15 c_decide_tries = true := by kernel_rfl
theorem k_312 : chkFn Tryd.prog fm 8 c_decide_Decide = true := by kernel_rfl
theorem k_317 : chkFn Tryd.prog fm 5 c_hurdlelaw18_great = true := by kernel_rfl
theorem k_318 : chkFn Tryd.prog fm 6 c_hurdlelaw18_fair = true := by kernel_rfl
theorem k_319 : chkFn Tryd.prog fm 7 c_hurdlelaw18_knows = true := by kernel_rfl
theorem k_324 : chkFn Tryd.prog fm 3 c_hurdlelaw18_DecideSelf = true := by kernel_rfl
theorem k_325 : chkFn Tryd.prog fm 4 c_hurdlelaw18_DecideSwaps = true := by kernel_rfl
theorem checked : ∀ f c, tbl f = some c → chkFn Tryd.prog fm (fm f) c = true := by
  intro f c h
  unfold tbl at h
  split at h
  · cases h; exact k_107
  · cases h; exact k_100
  · cases h; exact k_101
  · cases h; exact k_102
  · cases h; exact k_103
  · cases h; exact k_104
  · cases h; exact k_105
  · cases h; exact k_106
  · cases h; exact k_108
  · cases h; exact k_109
  · cases h; exact k_112
  · cases h; exact k_138
  · cases h; exact k_139
  · cases h; exact k_140
  · cases h; exact k_141
  · cases h; exact k_142
  · cases h; exact k_143
  · cases h; exact k_144
  · cases h; exact k_145
  · cases h; exact k_146
  · cases h; exact k_147
  · cases h; exact k_148
  · cases h; exact k_149
  · cases h; exact k_150
  · cases h; exact k_151
  · cases h; exact k_152
  · cases h; exact k_153
  · cases h; exact k_154
  · cases h; exact k_155
  · cases h; exact k_156
  · cases h; exact k_157
  · cases h; exact k_158
  · cases h; exact k_159
  · cases h; exact k_160
  · cases h; exact k_161
  · cases h; exact k_162
  · cases h; exact k_163
  · cases h; exact k_164
  · cases h; exact k_174
  · cases h; exact k_175
  · cases h; exact k_176
  · cases h; exact k_177
  · cases h; exact k_178
  · cases h; exact k_180
  · cases h; exact k_181
  · cases h; exact k_186
  · cases h; exact k_202
  · cases h; exact k_203
  · cases h; exact k_231
  · cases h; exact k_232
  · cases h; exact k_233
  · cases h; exact k_243
  · cases h; exact k_244
  · cases h; exact k_245
  · cases h; exact k_246
  · cases h; exact k_247
  · cases h; exact k_248
  · cases h; exact k_249
  · cases h; exact k_250
  · cases h; exact k_251
  · cases h; exact k_253
  · cases h; exact k_254
  · cases h; exact k_255
  · cases h; exact k_256
  · cases h; exact k_257
  · cases h; exact k_258
  · cases h; exact k_259
  · cases h; exact k_260
  · cases h; exact k_261
  · cases h; exact k_262
  · cases h; exact k_263
  · cases h; exact k_264
  · cases h; exact k_265
  · cases h; exact k_266
  · cases h; exact k_267
  · cases h; exact k_268
  · cases h; exact k_269
  · cases h; exact k_270
  · cases h; exact k_271
  · cases h; exact k_272
  · cases h; exact k_273
  · cases h; exact k_274
  · cases h; exact k_275
  · cases h; exact k_277
  · cases h; exact k_292
  · cases h; exact k_293
  · cases h; exact k_294
  · cases h; exact k_295
  · cases h; exact k_296
  · cases h; exact k_307
  · cases h; exact k_308
  · cases h; exact k_309
  · cases h; exact k_310
  · cases h; exact k_311
  · cases h; exact k_312
  · cases h; exact k_317
  · cases h; exact k_318
  · cases h; exact k_319
  · cases h; exact k_324
  · cases h; exact k_325
  · cases h
instance hasWd : HasWd tbl := ⟨rfl⟩
instance hasBits : HasBits tbl := ⟨rfl, rfl, rfl, rfl, rfl, rfl, rfl, rfl, rfl⟩
instance hasBitsE : HasBitsE tbl := ⟨⟩
instance hasBitsA : HasBitsA tbl := ⟨rfl⟩
instance hasNeg : HasNeg tbl := ⟨rfl⟩
instance hasIns : HasIns tbl := ⟨rfl, rfl, rfl, rfl, rfl⟩
instance hasCheck : HasCheck tbl := ⟨rfl, rfl, rfl, rfl, rfl, rfl, rfl, rfl, rfl⟩
instance hasData : HasData tbl := ⟨rfl, rfl, rfl, rfl⟩
instance hasStep : HasStep tbl := ⟨rfl, rfl, rfl⟩
instance hasR2 : HasR2 tbl := ⟨rfl, rfl, rfl, rfl, rfl, rfl, rfl⟩
instance hasR5o : HasR5o tbl := ⟨rfl⟩
instance hasWRight : HasWRight tbl := ⟨rfl⟩
instance hasR17 : HasR17 tbl := ⟨rfl⟩
instance hasWith : HasWith tbl := ⟨rfl, rfl, rfl⟩
instance hasAffine : HasAffine tbl := ⟨rfl, rfl, rfl, rfl, rfl, rfl, rfl, rfl, rfl, rfl, rfl⟩
instance hasSymNew : HasSymNew tbl := ⟨rfl⟩
instance hasSym : HasSym tbl := ⟨rfl, rfl, rfl, rfl, rfl, rfl, rfl, rfl, rfl, rfl, rfl, rfl, rfl, rfl, rfl, rfl, rfl, rfl, rfl⟩
instance hasSymApart : HasSymApart tbl := ⟨rfl⟩
instance hasAffApart : HasAffApart tbl := ⟨rfl⟩
instance hasWinRun : HasWinRun tbl := ⟨rfl⟩
instance hasWinAsg : HasWinAsg tbl := ⟨rfl⟩
instance hasWinState : HasWinState tbl := ⟨rfl⟩
instance hasWinOf : HasWinOf tbl := ⟨rfl, rfl⟩
instance hasDecDf : HasDecDf tbl := ⟨rfl, rfl⟩
instance hasDec : HasDec tbl := ⟨rfl, rfl, rfl, rfl⟩
instance hasL18 : HasL18 tbl := ⟨rfl, rfl, rfl⟩
instance hasL18d : HasL18d tbl := ⟨rfl, rfl⟩

end Go.Proofs.YtkodfphojbfieaaDoor
