/- The seat's table of simplified functions; each is checked against the loaded program. -/
import Derived.Test.YtpfmblidlbjcmaaDoorProg
import Derived.Test.YtpfmblidlbjcmaaDoorEvWordC
import Derived.Test.YtpfmblidlbjcmaaDoorEvBitsC
import Derived.Test.YtpfmblidlbjcmaaDoorEvInsC
import Derived.Test.YtpfmblidlbjcmaaDoorEvRef15C
import Derived.Test.YtpfmblidlbjcmaaDoorEvRefC
import Derived.Test.YtpfmblidlbjcmaaDoorEvSplC
import Derived.Test.YtpfmblidlbjcmaaDoorEvRunC
import Derived.Test.YtpfmblidlbjcmaaDoorEvSymC
import Derived.Test.YtpfmblidlbjcmaaDoorEvWinC
import Derived.Test.YtpfmblidlbjcmaaDoorEvLaw17C
import Derived.KernelRfl
namespace Go.Proofs.YtpfmblidlbjcmaaDoor
open Go.Ev

def tbl : Tbl
  | 107 => some c_word_Do
  | 125 => some c_hurdleref01_power
  | 126 => some c_hurdleref01_bit
  | 127 => some c_hurdleref01_bits
  | 122 => some c_hurdleref01_Do
  | 100 => some c_bits_counts
  | 101 => some c_bits_Right
  | 102 => some c_bits_Const
  | 103 => some c_bits_Var
  | 104 => some c_bits_union
  | 105 => some c_bits_at
  | 106 => some c_bits_plain
  | 108 => some c_bits_Do_1
  | 109 => some c_bits_Do
  | 138 => some c_word_Neg
  | 139 => some c_ins_of
  | 140 => some c_ins_Right
  | 141 => some c_ins_Alu
  | 142 => some c_ins_Branch
  | 143 => some c_ins_Ends
  | 144 => some c_word_Parse
  | 145 => some c_ins_words
  | 146 => some c_ins_Parse_1
  | 147 => some c_ins_Parse
  | 148 => some c_codec_Parse
  | 149 => some c_check_rules_1
  | 150 => some c_check_rules_2
  | 151 => some c_check_rules_3
  | 152 => some c_check_rules_4
  | 153 => some c_check_rules_5
  | 154 => some c_check_rules
  | 155 => some c_check_ways
  | 156 => some c_check_Check
  | 157 => some c_check_Sound
  | 158 => some c_data_there
  | 159 => some c_data_words_1
  | 160 => some c_data_words
  | 161 => some c_data_Word
  | 162 => some c_run_cell
  | 163 => some c_run_store
  | 164 => some c_run_Step
  | 173 => some c_hurdleref01_Neg
  | 174 => some c_hurdleref02_branch
  | 175 => some c_hurdleref02_plain
  | 176 => some c_hurdleref02_place
  | 177 => some c_hurdleref02_Ops
  | 178 => some c_hurdleref02_Right
  | 179 => some c_hurdleref02_Alu
  | 180 => some c_hurdleref02_Branch
  | 181 => some c_hurdleref02_Ends
  | 182 => some c_hurdleref04_low
  | 183 => some c_hurdleref04_number
  | 184 => some c_hurdleref04_Bytes
  | 185 => some c_hurdleref04_Word
  | 186 => some c_hurdleref05_One
  | 190 => some c_hurdleref06_Step
  | 202 => some c_window_Right
  | 203 => some c_hurdleref17_Right
  | 231 => some c_data_of_1
  | 232 => some c_data_of
  | 233 => some c_data_With
  | 243 => some c_affine_Const
  | 244 => some c_affine_Var
  | 245 => some c_affine_both
  | 246 => some c_affine_Add_1
  | 247 => some c_affine_Add
  | 248 => some c_affine_Sub_1
  | 249 => some c_affine_Sub
  | 250 => some c_affine_Mul_1
  | 251 => some c_affine_Mul
  | 253 => some c_affine_Constant
  | 254 => some c_affine_Single
  | 256 => some c_sym_New
  | 257 => some c_sym_Book_Len
  | 258 => some c_sym_Book_has
  | 259 => some c_sym_Book_id
  | 260 => some c_sym_Book_sum
  | 261 => some c_sym_Book_bits
  | 262 => some c_sym_Book_Const
  | 263 => some c_sym_Book_Var
  | 264 => some c_sym_Book_asSum
  | 265 => some c_sym_Book_asBits
  | 266 => some c_sym_Book_Constant
  | 267 => some c_sym_Book_sums
  | 268 => some c_sym_Book_both
  | 269 => some c_sym_Book_plain
  | 270 => some c_sym_Book_Alu_1
  | 271 => some c_sym_Book_Alu_2
  | 272 => some c_sym_Book_Alu_3
  | 273 => some c_sym_Book_Alu_4
  | 274 => some c_sym_Book_Alu
  | 275 => some c_sym_Book_Neg
  | 292 => some c_window_Run
  | 293 => some c_window_Assign
  | 294 => some c_window_State
  | 295 => some c_window_step
  | 296 => some c_window_Of
  | 297 => some c_hurdleref17_Run
  | 298 => some c_hurdleref17_Assign
  | 299 => some c_hurdlelaw17_knows
  | 300 => some c_hurdlelaw17_great
  | 301 => some c_hurdlelaw17_WindowRuns
  | 302 => some c_hurdlelaw17_WindowAssigns
  | 303 => some c_hurdlelaw17_WindowRows
  | 304 => some c_hurdlelaw17_WindowNone
  | _ => none
def fmF : Nat → Go.FuncId
  | 107 => 37
  | 125 => 85
  | 126 => 106
  | 127 => 84
  | 122 => 58
  | 100 => 107
  | 101 => 96
  | 102 => 93
  | 103 => 95
  | 104 => 97
  | 105 => 99
  | 106 => 100
  | 108 => 98
  | 109 => 76
  | 138 => 51
  | 139 => 52
  | 140 => 80
  | 141 => 48
  | 142 => 23
  | 143 => 24
  | 144 => 68
  | 145 => 66
  | 146 => 67
  | 147 => 34
  | 148 => 17
  | 149 => 101
  | 150 => 102
  | 151 => 103
  | 152 => 104
  | 153 => 105
  | 154 => 79
  | 155 => 81
  | 156 => 53
  | 157 => 25
  | 158 => 61
  | 159 => 86
  | 160 => 62
  | 161 => 31
  | 162 => 49
  | 163 => 50
  | 164 => 22
  | 173 => 59
  | 174 => 54
  | 175 => 83
  | 176 => 55
  | 177 => 82
  | 178 => 56
  | 179 => 57
  | 180 => 26
  | 181 => 27
  | 182 => 87
  | 183 => 63
  | 184 => 64
  | 185 => 32
  | 186 => 28
  | 190 => 29
  | 202 => 10
  | 203 => 11
  | 231 => 88
  | 232 => 65
  | 233 => 33
  | 243 => 47
  | 244 => 35
  | 245 => 89
  | 246 => 90
  | 247 => 72
  | 248 => 91
  | 249 => 73
  | 250 => 92
  | 251 => 74
  | 253 => 71
  | 254 => 94
  | 256 => 18
  | 257 => 69
  | 258 => 38
  | 259 => 46
  | 260 => 36
  | 261 => 77
  | 262 => 21
  | 263 => 19
  | 264 => 70
  | 265 => 75
  | 266 => 78
  | 267 => 40
  | 268 => 42
  | 269 => 44
  | 270 => 39
  | 271 => 41
  | 272 => 43
  | 273 => 45
  | 274 => 20
  | 275 => 60
  | 292 => 9
  | 293 => 14
  | 294 => 16
  | 295 => 30
  | 296 => 13
  | 297 => 12
  | 298 => 15
  | 299 => 8
  | 300 => 7
  | 301 => 3
  | 302 => 6
  | 303 => 4
  | 304 => 5
  | _ => 0
def fmG : Nat → Option (List V)
  | 0 => some g_ins_shapes
  | _ => none
def fm : Fm := ⟨fmF, fmG⟩
theorem k_107 : chkFn Tryd.prog fm 37 c_word_Do = true := by kernel_rfl
theorem k_125 : chkFn Tryd.prog fm 85 c_hurdleref01_power = true := by kernel_rfl
theorem k_126 : chkFn Tryd.prog fm 106 c_hurdleref01_bit = true := by kernel_rfl
theorem k_127 : chkFn Tryd.prog fm 84 c_hurdleref01_bits = true := by kernel_rfl
theorem k_122 : chkFn Tryd.prog fm 58 c_hurdleref01_Do = true := by kernel_rfl
theorem k_100 : chkFn Tryd.prog fm 107 c_bits_counts = true := by kernel_rfl
theorem k_101 : chkFn Tryd.prog fm 96 c_bits_Right = true := by kernel_rfl
theorem k_102 : chkFn Tryd.prog fm 93 c_bits_Const = true := by kernel_rfl
theorem k_103 : chkFn Tryd.prog fm 95 c_bits_Var = true := by kernel_rfl
theorem k_104 : chkFn Tryd.prog fm 97 c_bits_union = true := by kernel_rfl
theorem k_105 : chkFn Tryd.prog fm 99 c_bits_at = true := by kernel_rfl
theorem k_106 : chkFn Tryd.prog fm 100 c_bits_plain = true := by kernel_rfl
theorem k_108 : chkFn Tryd.prog fm 98 c_bits_Do_1 = true := by kernel_rfl
theorem k_109 : chkFn Tryd.prog fm 76 c_bits_Do = true := by kernel_rfl
theorem k_138 : chkFn Tryd.prog fm 51 c_word_Neg = true := by kernel_rfl
theorem k_139 : chkFn Tryd.prog fm 52 c_ins_of = true := by kernel_rfl
theorem k_140 : chkFn Tryd.prog fm 80 c_ins_Right = true := by kernel_rfl
theorem k_141 : chkFn Tryd.prog fm 48 c_ins_Alu = true := by kernel_rfl
theorem k_142 : chkFn Tryd.prog fm 23 c_ins_Branch = true := by kernel_rfl
theorem k_143 : chkFn Tryd.prog fm 24 c_ins_Ends = true := by kernel_rfl
theorem k_144 : chkFn Tryd.prog fm 68 c_word_Parse = true := by kernel_rfl
theorem k_145 : chkFn Tryd.prog fm 66 c_ins_words = true := by kernel_rfl
theorem k_146 : chkFn Tryd.prog fm 67 c_ins_Parse_1 = true := by kernel_rfl
theorem k_147 : chkFn Tryd.prog fm 34 c_ins_Parse = true := by kernel_rfl
theorem k_148 : chkFn Tryd.prog fm 17 c_codec_Parse = true := by kernel_rfl
theorem k_149 : chkFn Tryd.prog fm 101 c_check_rules_1 = true := by kernel_rfl
theorem k_150 : chkFn Tryd.prog fm 102 c_check_rules_2 = true := by kernel_rfl
theorem k_151 : chkFn Tryd.prog fm 103 c_check_rules_3 = true := by kernel_rfl
theorem k_152 : chkFn Tryd.prog fm 104 c_check_rules_4 = true := by kernel_rfl
theorem k_153 : chkFn Tryd.prog fm 105 c_check_rules_5 = true := by kernel_rfl
theorem k_154 : chkFn Tryd.prog fm 79 c_check_rules = true := by kernel_rfl
theorem k_155 : chkFn Tryd.prog fm 81 c_check_ways = true := by kernel_rfl
theorem k_156 : chkFn Tryd.prog fm 53 c_check_Check = true := by kernel_rfl
theorem k_157 : chkFn Tryd.prog fm 25 c_check_Sound = true := by kernel_rfl
theorem k_158 : chkFn Tryd.prog fm 61 c_data_there = true := by kernel_rfl
theorem k_159 : chkFn Tryd.prog fm 86 c_data_words_1 = true := by kernel_rfl
theorem k_160 : chkFn Tryd.prog fm 62 c_data_words = true := by kernel_rfl
theorem k_161 : chkFn Tryd.prog fm 31 c_data_Word = true := by kernel_rfl
theorem k_162 : chkFn Tryd.prog fm 49 c_run_cell = true := by kernel_rfl
theorem k_163 : chkFn Tryd.prog fm 50 c_run_store = true := by kernel_rfl
theorem k_164 : chkFn Tryd.prog fm 22 c_run_Step = true := by kernel_rfl
theorem k_173 : chkFn Tryd.prog fm 59 c_hurdleref01_Neg = true := by kernel_rfl
theorem k_174 : chkFn Tryd.prog fm 54 c_hurdleref02_branch = true := by kernel_rfl
theorem k_175 : chkFn Tryd.prog fm 83 c_hurdleref02_plain = true := by kernel_rfl
theorem k_176 : chkFn Tryd.prog fm 55 c_hurdleref02_place = true := by kernel_rfl
theorem k_177 : chkFn Tryd.prog fm 82 c_hurdleref02_Ops = true := by kernel_rfl
theorem k_178 : chkFn Tryd.prog fm 56 c_hurdleref02_Right = true := by kernel_rfl
theorem k_179 : chkFn Tryd.prog fm 57 c_hurdleref02_Alu = true := by kernel_rfl
theorem k_180 : chkFn Tryd.prog fm 26 c_hurdleref02_Branch = true := by kernel_rfl
theorem k_181 : chkFn Tryd.prog fm 27 c_hurdleref02_Ends = true := by kernel_rfl
theorem k_182 : chkFn Tryd.prog fm 87 c_hurdleref04_low = true := by kernel_rfl
theorem k_183 : chkFn Tryd.prog fm 63 c_hurdleref04_number = true := by kernel_rfl
theorem k_184 : chkFn Tryd.prog fm 64 c_hurdleref04_Bytes = true := by kernel_rfl
theorem k_185 : chkFn Tryd.prog fm 32 c_hurdleref04_Word = true := by kernel_rfl
theorem k_186 : chkFn Tryd.prog fm 28 c_hurdleref05_One = true := by kernel_rfl
theorem k_190 : chkFn Tryd.prog fm 29 c_hurdleref06_Step = true := by kernel_rfl
theorem k_202 : chkFn Tryd.prog fm 10 c_window_Right = true := by kernel_rfl
theorem k_203 : chkFn Tryd.prog fm 11 c_hurdleref17_Right = true := by kernel_rfl
theorem k_231 : chkFn Tryd.prog fm 88 c_data_of_1 = true := by kernel_rfl
theorem k_232 : chkFn Tryd.prog fm 65 c_data_of = true := by kernel_rfl
theorem k_233 : chkFn Tryd.prog fm 33 c_data_With = true := by kernel_rfl
theorem k_243 : chkFn Tryd.prog fm 47 c_affine_Const = true := by kernel_rfl
theorem k_244 : chkFn Tryd.prog fm 35 c_affine_Var = true := by kernel_rfl
theorem k_245 : chkFn Tryd.prog fm 89 c_affine_both = true := by kernel_rfl
theorem k_246 : chkFn Tryd.prog fm 90 c_affine_Add_1 = true := by kernel_rfl
theorem k_247 : chkFn Tryd.prog fm 72 c_affine_Add = true := by kernel_rfl
theorem k_248 : chkFn Tryd.prog fm 91 c_affine_Sub_1 = true := by kernel_rfl
theorem k_249 : chkFn Tryd.prog fm 73 c_affine_Sub = true := by kernel_rfl
theorem k_250 : chkFn Tryd.prog fm 92 c_affine_Mul_1 = true := by kernel_rfl
theorem k_251 : chkFn Tryd.prog fm 74 c_affine_Mul = true := by kernel_rfl
theorem k_253 : chkFn Tryd.prog fm 71 c_affine_Constant = true := by kernel_rfl
theorem k_254 : chkFn Tryd.prog fm 94 c_affine_Single = true := by kernel_rfl
theorem k_256 : chkFn Tryd.prog fm 18 c_sym_New = true := by kernel_rfl
theorem k_257 : chkFn Tryd.prog fm 69 c_sym_Book_Len = true := by kernel_rfl
theorem k_258 : chkFn Tryd.prog fm 38 c_sym_Book_has = true := by kernel_rfl
theorem k_259 : chkFn Tryd.prog fm 46 c_sym_Book_id = true := by kernel_rfl
theorem k_260 : chkFn Tryd.prog fm 36 c_sym_Book_sum = true := by kernel_rfl
theorem k_261 : chkFn Tryd.prog fm 77 c_sym_Book_bits = true := by kernel_rfl
theorem k_262 : chkFn Tryd.prog fm 21 c_sym_Book_Const = true := by kernel_rfl
theorem k_263 : chkFn Tryd.prog fm 19 c_sym_Book_Var = true := by kernel_rfl
theorem k_264 : chkFn Tryd.prog fm 70 c_sym_Book_asSum = true := by kernel_rfl
theorem k_265 : chkFn Tryd.prog fm 75 c_sym_Book_asBits = true := by kernel_rfl
theorem k_266 : chkFn Tryd.prog fm 78 c_sym_Book_Constant = true := by kernel_rfl
theorem k_267 : chkFn Tryd.prog fm 40 c_sym_Book_sums = true := by kernel_rfl
theorem k_268 : chkFn Tryd.prog fm 42 c_sym_Book_both = true := by kernel_rfl
theorem k_269 : chkFn Tryd.prog fm 44 c_sym_Book_plain = true := by kernel_rfl
theorem k_270 : chkFn Tryd.prog fm 39 c_sym_Book_Alu_1 = true := by kernel_rfl
theorem k_271 : chkFn Tryd.prog fm 41 c_sym_Book_Alu_2 = true := by kernel_rfl
theorem k_272 : chkFn Tryd.prog fm 43 c_sym_Book_Alu_3 = true := by kernel_rfl
theorem k_273 : chkFn Tryd.prog fm 45 c_sym_Book_Alu_4 = true := by kernel_rfl
theorem k_274 : chkFn Tryd.prog fm 20 c_sym_Book_Alu = true := by kernel_rfl
theorem k_275 : chkFn Tryd.prog fm 60 c_sym_Book_Neg = true := by kernel_rfl
theorem k_292 : chkFn Tryd.prog fm 9 c_window_Run = true := by kernel_rfl
theorem k_293 : chkFn Tryd.prog fm 14 c_window_Assign = true := by kernel_rfl
theorem k_294 : chkFn Tryd.prog fm 16 c_window_State = true := by kernel_rfl
theorem k_295 : chkFn Tryd.prog fm 30 c_window_step = true := by kernel_rfl
theorem k_296 : chkFn Tryd.prog fm 13 c_window_Of = true := by kernel_rfl
theorem k_297 : chkFn Tryd.prog fm 12 c_hurdleref17_Run = true := by kernel_rfl
theorem k_298 : chkFn Tryd.prog fm 15 c_hurdleref17_Assign = true := by kernel_rfl
theorem k_299 : chkFn Tryd.prog fm 8 c_hurdlelaw17_knows = true := by kernel_rfl
theorem k_300 : chkFn Tryd.prog fm 7 c_hurdlelaw17_great = true := by kernel_rfl
theorem k_301 : chkFn Tryd.prog fm 3 c_hurdlelaw17_WindowRuns = true := by kernel_rfl
theorem k_302 : chkFn Tryd.prog fm 6 c_hurdlelaw17_WindowAssigns = true := by kernel_rfl
theorem k_303 : chkFn Tryd.prog fm 4 c_hurdlelaw17_WindowRows = true := by kernel_rfl
theorem k_304 : chkFn Tryd.prog fm 5 c_hurdlelaw17_WindowNone = true := by kernel_rfl
theorem checked : ∀ f c, tbl f = some c → chkFn Tryd.prog fm (fm f) c = true := by
  intro f c h
  unfold tbl at h
  split at h
  · cases h; exact k_107
  · cases h; exact k_125
  · cases h; exact k_126
  · cases h; exact k_127
  · cases h; exact k_122
  · cases h; exact k_100
  · cases h; exact k_101
  · cases h; exact k_102
  · cases h; exact k_103
  · cases h; exact k_104
  · cases h; exact k_105
  · cases h; exact k_106
  · cases h; exact k_108
  · cases h; exact k_109
  · cases h; exact k_138
  · cases h; exact k_139
  · cases h; exact k_140
  · cases h; exact k_141
  · cases h; exact k_142
  · cases h; exact k_143
  · cases h; exact k_144
  · cases h; exact k_145
  · cases h; exact k_146
  · cases h; exact k_147
  · cases h; exact k_148
  · cases h; exact k_149
  · cases h; exact k_150
  · cases h; exact k_151
  · cases h; exact k_152
  · cases h; exact k_153
  · cases h; exact k_154
  · cases h; exact k_155
  · cases h; exact k_156
  · cases h; exact k_157
  · cases h; exact k_158
  · cases h; exact k_159
  · cases h; exact k_160
  · cases h; exact k_161
  · cases h; exact k_162
  · cases h; exact k_163
  · cases h; exact k_164
  · cases h; exact k_173
  · cases h; exact k_174
  · cases h; exact k_175
  · cases h; exact k_176
  · cases h; exact k_177
  · cases h; exact k_178
  · cases h; exact k_179
  · cases h; exact k_180
  · cases h; exact k_181
  · cases h; exact k_182
  · cases h; exact k_183
  · cases h; exact k_184
  · cases h; exact k_185
  · cases h; exact k_186
  · cases h; exact k_190
  · cases h; exact k_202
  · cases h; exact k_203
  · cases h; exact k_231
  · cases h; exact k_232
  · cases h; exact k_233
  · cases h; exact k_243
  · cases h; exact k_244
  · cases h; exact k_245
  · cases h; exact k_246
  · cases h; exact k_247
  · cases h; exact k_248
  · cases h; exact k_249
  · cases h; exact k_250
  · cases h; exact k_251
  · cases h; exact k_253
  · cases h; exact k_254
  · cases h; exact k_256
  · cases h; exact k_257
  · cases h; exact k_258
  · cases h; exact k_259
  · cases h; exact k_260
  · cases h; exact k_261
  · cases h; exact k_262
  · cases h; exact k_263
  · cases h; exact k_264
  · cases h; exact k_265
  · cases h; exact k_266
  · cases h; exact k_267
  · cases h; exact k_268
  · cases h; exact k_269
  · cases h; exact k_270
  · cases h; exact k_271
  · cases h; exact k_272
  · cases h; exact k_273
  · cases h; exact k_274
  · cases h; exact k_275
  · cases h; exact k_292
  · cases h; exact k_293
  · cases h; exact k_294
  · cases h; exact k_295
  · cases h; exact k_296
  · cases h; exact k_297
  · cases h; exact k_298
  · cases h; exact k_299
  · cases h; exact k_300
  · cases h; exact k_301
  · cases h; exact k_302
  · cases h; exact k_303
  · cases h; exact k_304
  · cases h
instance hasWd : HasWd tbl := ⟨rfl⟩
instance hasR1 : HasR1 tbl := ⟨rfl, rfl, rfl, rfl⟩
-- not whole: HasBits: hurdle/bits.Eval hurdle/bits.Same hurdle/bits.Apart
instance hasNeg : HasNeg tbl := ⟨rfl⟩
instance hasIns : HasIns tbl := ⟨rfl, rfl, rfl, rfl, rfl⟩
instance hasParse : HasParse tbl := ⟨rfl, rfl, rfl, rfl, rfl⟩
instance hasCheck : HasCheck tbl := ⟨rfl, rfl, rfl, rfl, rfl, rfl, rfl, rfl, rfl⟩
instance hasData : HasData tbl := ⟨rfl, rfl, rfl, rfl⟩
instance hasStep : HasStep tbl := ⟨rfl, rfl, rfl⟩
-- not whole: HasTakes: hurdle/run.Takes
-- not whole: HasTells: hurdle/live.cell hurdle/live.byX hurdle/live.Uses hurdle/live.Sets
-- not whole: HasLive: hurdle/live.nexts hurdle/live.At hurdle/live.Behind
-- not whole: HasRef15: hurdle/hurdleref15.size hurdle/hurdleref15.turned hurdle/hurdleref15.Right hurdle/hurdleref15.Both hurdle/hurdleref15.Assign hurdle/hurdleref15.bit hurdle/hurdleref15.Eval hurdle/hurdleref15.without hurdle/hurdleref15.Do hurdle/hurdleref15.Same hurdle/hurdleref15.Apart
instance hasR1n : HasR1n tbl := ⟨rfl⟩
instance hasR2 : HasR2 tbl := ⟨rfl, rfl, rfl, rfl, rfl, rfl, rfl, rfl⟩
instance hasR4 : HasR4 tbl := ⟨rfl, rfl, rfl, rfl⟩
instance hasR5o : HasR5o tbl := ⟨rfl⟩
-- not whole: HasR5: hurdle/hurdleref05.Check hurdle/hurdleref05.Sound
-- not whole: HasR5n: hurdle/hurdleref05.Next
instance hasR6s : HasR6s tbl := ⟨rfl⟩
-- not whole: HasR6: hurdle/hurdleref06.Takes hurdle/hurdleref06.From
-- not whole: HasR7: hurdle/hurdleref07.in hurdle/hurdleref07.Uses hurdle/hurdleref07.Sets hurdle/hurdleref07.Mask
-- not whole: HasR7n: hurdle/hurdleref07.Needed hurdle/hurdleref07.At hurdle/hurdleref07.Behind
-- not whole: HasR7m: hurdle/hurdleref07.Mix
-- not whole: HasR3: hurdle/hurdleref03.Same
instance hasWRight : HasWRight tbl := ⟨rfl⟩
instance hasR17 : HasR17 tbl := ⟨rfl⟩
-- not whole: HasSpl: hurdle/splice.targets hurdle/splice.free hurdle/splice.Free hurdle/splice.Put$1 hurdle/splice.Put hurdle/splice.Pieces
-- not whole: HasR22: hurdle/hurdleref22.jumps hurdle/hurdleref22.Free hurdle/hurdleref22.place hurdle/hurdleref22.Put hurdle/hurdleref22.Pieces
-- not whole: HasRun: hurdle/run.Run
instance hasWith : HasWith tbl := ⟨rfl, rfl, rfl⟩
-- not whole: HasR6r: hurdle/hurdleref06.Run
-- not whole: HasAffine: hurdle/affine.Eval hurdle/affine.Apart
instance hasSymNew : HasSymNew tbl := ⟨rfl⟩
instance hasSym : HasSym tbl := ⟨rfl, rfl, rfl, rfl, rfl, rfl, rfl, rfl, rfl, rfl, rfl, rfl, rfl, rfl, rfl, rfl, rfl, rfl, rfl⟩
-- not whole: HasSymEval: (*hurdle/sym.Book).Eval
-- not whole: HasSymApart: (*hurdle/sym.Book).Apart
instance hasWinRun : HasWinRun tbl := ⟨rfl⟩
instance hasWinAsg : HasWinAsg tbl := ⟨rfl⟩
instance hasWinState : HasWinState tbl := ⟨rfl⟩
instance hasWinOf : HasWinOf tbl := ⟨rfl, rfl⟩
instance hasR17r : HasR17r tbl := ⟨rfl⟩
instance hasR17a : HasR17a tbl := ⟨rfl⟩
instance hasL17 : HasL17 tbl := ⟨rfl, rfl, rfl, rfl, rfl, rfl⟩

end Go.Proofs.YtpfmblidlbjcmaaDoor
