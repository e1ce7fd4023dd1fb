/- The seat's table of simplified functions; each is checked against the loaded program. -/
import Derived.Test.YtpfmblidlbjcmaaGreatDoorProg
import Derived.KernelRfl
import Derived.Test.YtpfmblidlbjcmaaGreatDoorEvNW
import Derived.Test.YtpfmblidlbjcmaaGreatDoorEvInsCW
import Derived.Test.YtpfmblidlbjcmaaGreatDoorEvSymCW
namespace Go.Proofs.YtpfmblidlbjcmaaGreatDoor
open Go.Ev

def tbl : Tbl
  | 107 => some c_word_Do
  | 125 => some c_hurdleref01_power
  | 126 => some c_hurdleref01_bit
  | 127 => some c_hurdleref01_bits
  | 122 => some c_hurdleref01_Do
  | 173 => some c_hurdleref01_Neg
  | 100 => some c_bits_counts
  | 101 => some c_bits_Right
  | 102 => some c_bits_Const
  | 103 => some c_bits_Var
  | 104 => some c_bits_union
  | 105 => some c_bits_at
  | 106 => some c_bits_plain
  | 108 => some c_bits_Do_1
  | 109 => some c_bits_Do
  | 110 => some c_bits_Eval
  | 138 => some c_word_Neg
  | 139 => some c_ins_of
  | 140 => some c_ins_Right
  | 141 => some c_ins_Alu
  | 142 => some c_ins_Branch
  | 143 => some c_ins_Ends
  | 144 => some c_word_Parse
  | 145 => some c_ins_words
  | 146 => some c_ins_Parse_1
  | 147 => some c_ins_Parse
  | 148 => some c_codec_Parse
  | 149 => some c_check_rules_1
  | 150 => some c_check_rules_2
  | 151 => some c_check_rules_3
  | 152 => some c_check_rules_4
  | 153 => some c_check_rules_5
  | 154 => some c_check_rules
  | 155 => some c_check_ways
  | 156 => some c_check_Check
  | 157 => some c_check_Sound
  | 158 => some c_data_there
  | 159 => some c_data_words_1
  | 160 => some c_data_words
  | 161 => some c_data_Word
  | 162 => some c_run_cell
  | 163 => some c_run_store
  | 164 => some c_run_Step
  | 174 => some c_hurdleref02_branch
  | 175 => some c_hurdleref02_plain
  | 176 => some c_hurdleref02_place
  | 177 => some c_hurdleref02_Ops
  | 178 => some c_hurdleref02_Right
  | 179 => some c_hurdleref02_Alu
  | 180 => some c_hurdleref02_Branch
  | 181 => some c_hurdleref02_Ends
  | 182 => some c_hurdleref04_low
  | 183 => some c_hurdleref04_number
  | 184 => some c_hurdleref04_Bytes
  | 185 => some c_hurdleref04_Word
  | 186 => some c_hurdleref05_One
  | 190 => some c_hurdleref06_Step
  | 202 => some c_window_Right
  | 203 => some c_hurdleref17_Right
  | 243 => some c_affine_Const
  | 244 => some c_affine_Var
  | 245 => some c_affine_both
  | 246 => some c_affine_Add_1
  | 247 => some c_affine_Add
  | 248 => some c_affine_Sub_1
  | 249 => some c_affine_Sub
  | 250 => some c_affine_Mul_1
  | 251 => some c_affine_Mul
  | 252 => some c_affine_Eval
  | 253 => some c_affine_Constant
  | 254 => some c_affine_Single
  | 256 => some c_sym_New
  | 257 => some c_sym_Book_Len
  | 258 => some c_sym_Book_has
  | 259 => some c_sym_Book_id
  | 260 => some c_sym_Book_sum
  | 261 => some c_sym_Book_bits
  | 262 => some c_sym_Book_Const
  | 263 => some c_sym_Book_Var
  | 264 => some c_sym_Book_asSum
  | 265 => some c_sym_Book_asBits
  | 266 => some c_sym_Book_Constant
  | 267 => some c_sym_Book_sums
  | 268 => some c_sym_Book_both
  | 269 => some c_sym_Book_plain
  | 270 => some c_sym_Book_Alu_1
  | 271 => some c_sym_Book_Alu_2
  | 272 => some c_sym_Book_Alu_3
  | 273 => some c_sym_Book_Alu_4
  | 274 => some c_sym_Book_Alu
  | 275 => some c_sym_Book_Neg
  | 276 => some c_sym_Book_Eval
  | 292 => some c_window_Run
  | 293 => some c_window_Assign
  | 295 => some c_window_step
  | 296 => some c_window_Of
  | 297 => some c_hurdleref17_Run
  | 305 => some c_hurdleref17_Divides
  | 306 => some c_hurdlelaw17_WindowValues
  | 299 => some c_hurdlelaw17_knows
  | 300 => some c_hurdlelaw17_great
  | _ => none
def fmF : Nat → Go.FuncId
  | 107 => 29
  | 125 => 81
  | 126 => 97
  | 127 => 80
  | 122 => 52
  | 173 => 54
  | 100 => 91
  | 101 => 64
  | 102 => 59
  | 103 => 62
  | 104 => 87
  | 105 => 89
  | 106 => 90
  | 108 => 88
  | 109 => 63
  | 110 => 28
  | 138 => 70
  | 139 => 76
  | 140 => 95
  | 141 => 46
  | 142 => 43
  | 143 => 44
  | 144 => 67
  | 145 => 65
  | 146 => 66
  | 147 => 30
  | 148 => 13
  | 149 => 99
  | 150 => 100
  | 151 => 101
  | 152 => 102
  | 153 => 103
  | 154 => 94
  | 155 => 96
  | 156 => 77
  | 157 => 45
  | 158 => 55
  | 159 => 84
  | 160 => 56
  | 161 => 24
  | 162 => 68
  | 163 => 69
  | 164 => 31
  | 174 => 48
  | 175 => 79
  | 176 => 49
  | 177 => 78
  | 178 => 50
  | 179 => 51
  | 180 => 20
  | 181 => 21
  | 182 => 98
  | 183 => 82
  | 184 => 83
  | 185 => 53
  | 186 => 22
  | 190 => 23
  | 202 => 18
  | 203 => 8
  | 243 => 42
  | 244 => 32
  | 245 => 85
  | 246 => 92
  | 247 => 72
  | 248 => 86
  | 249 => 60
  | 250 => 93
  | 251 => 73
  | 252 => 26
  | 253 => 58
  | 254 => 61
  | 256 => 4
  | 257 => 57
  | 258 => 25
  | 259 => 41
  | 260 => 33
  | 261 => 74
  | 262 => 17
  | 263 => 15
  | 264 => 71
  | 265 => 27
  | 266 => 75
  | 267 => 35
  | 268 => 37
  | 269 => 39
  | 270 => 34
  | 271 => 36
  | 272 => 38
  | 273 => 40
  | 274 => 16
  | 275 => 47
  | 276 => 12
  | 292 => 14
  | 293 => 10
  | 295 => 19
  | 296 => 7
  | 297 => 9
  | 305 => 11
  | 306 => 3
  | 299 => 6
  | 300 => 5
  | _ => 0
def fmG : Nat → Option (List V)
  | 0 => some g_ins_shapes
  | _ => none
def fm : Fm := ⟨fmF, fmG⟩
theorem k_107 : chkFn Tryz.prog fm 29 c_word_Do = true := by kernel_rfl
theorem k_125 : chkFn Tryz.prog fm 81 c_hurdleref01_power = true := by kernel_rfl
theorem k_126 : chkFn Tryz.prog fm 97 c_hurdleref01_bit = true := by kernel_rfl
theorem k_127 : chkFn Tryz.prog fm 80 c_hurdleref01_bits = true := by kernel_rfl
theorem k_122 : chkFn Tryz.prog fm 52 c_hurdleref01_Do = true := by kernel_rfl
theorem k_173 : chkFn Tryz.prog fm 54 c_hurdleref01_Neg = true := by kernel_rfl
theorem k_100 : chkFn Tryz.prog fm 91 c_bits_counts = true := by kernel_rfl
theorem k_101 : chkFn Tryz.prog fm 64 c_bits_Right = true := by kernel_rfl
theorem k_102 : chkFn Tryz.prog fm 59 c_bits_Const = true := by kernel_rfl
theorem k_103 : chkFn Tryz.prog fm 62 c_bits_Var = true := by kernel_rfl
theorem k_104 : chkFn Tryz.prog fm 87 c_bits_union = true := by kernel_rfl
theorem k_105 : chkFn Tryz.prog fm 89 c_bits_at = true := by kernel_rfl
theorem k_106 : chkFn Tryz.prog fm 90 c_bits_plain = true := by kernel_rfl
theorem k_108 : chkFn Tryz.prog fm 88 c_bits_Do_1 = true := by kernel_rfl
theorem k_109 : chkFn Tryz.prog fm 63 c_bits_Do = true := by kernel_rfl
theorem k_110 : chkFn Tryz.prog fm 28 c_bits_Eval = true := by kernel_rfl
theorem k_138 : chkFn Tryz.prog fm 70 c_word_Neg = true := by kernel_rfl
theorem k_139 : chkFn Tryz.prog fm 76 c_ins_of = true := by kernel_rfl
theorem k_140 : chkFn Tryz.prog fm 95 c_ins_Right = true := by kernel_rfl
theorem k_141 : chkFn Tryz.prog fm 46 c_ins_Alu = true := by kernel_rfl
theorem k_142 : chkFn Tryz.prog fm 43 c_ins_Branch = true := by kernel_rfl
theorem k_143 : chkFn Tryz.prog fm 44 c_ins_Ends = true := by kernel_rfl
theorem k_144 : chkFn Tryz.prog fm 67 c_word_Parse = true := by kernel_rfl
theorem k_145 : chkFn Tryz.prog fm 65 c_ins_words = true := by kernel_rfl
theorem k_146 : chkFn Tryz.prog fm 66 c_ins_Parse_1 = true := by kernel_rfl
theorem k_147 : chkFn Tryz.prog fm 30 c_ins_Parse = true := by kernel_rfl
theorem k_148 : chkFn Tryz.prog fm 13 c_codec_Parse = true := by kernel_rfl
theorem k_149 : chkFn Tryz.prog fm 99 c_check_rules_1 = true := by kernel_rfl
theorem k_150 : chkFn Tryz.prog fm 100 c_check_rules_2 = true := by kernel_rfl
theorem k_151 : chkFn Tryz.prog fm 101 c_check_rules_3 = true := by kernel_rfl
theorem k_152 : chkFn Tryz.prog fm 102 c_check_rules_4 = true := by kernel_rfl
theorem k_153 : chkFn Tryz.prog fm 103 c_check_rules_5 = true := by kernel_rfl
theorem k_154 : chkFn Tryz.prog fm 94 c_check_rules = true := by kernel_rfl
theorem k_155 : chkFn Tryz.prog fm 96 c_check_ways = true := by kernel_rfl
theorem k_156 : chkFn Tryz.prog fm 77 c_check_Check = true := by kernel_rfl
theorem k_157 : chkFn Tryz.prog fm 45 c_check_Sound = true := by kernel_rfl
theorem k_158 : chkFn Tryz.prog fm 55 c_data_there = true := by kernel_rfl
theorem k_159 : chkFn Tryz.prog fm 84 c_data_words_1 = true := by kernel_rfl
theorem k_160 : chkFn Tryz.prog fm 56 c_data_words = true := by kernel_rfl
theorem k_161 : chkFn Tryz.prog fm 24 c_data_Word = true := by kernel_rfl
theorem k_162 : chkFn Tryz.prog fm 68 c_run_cell = true := by kernel_rfl
theorem k_163 : chkFn Tryz.prog fm 69 c_run_store = true := by kernel_rfl
theorem k_164 : chkFn Tryz.prog fm 31 c_run_Step = true := by kernel_rfl
theorem k_174 : chkFn Tryz.prog fm 48 c_hurdleref02_branch = true := by kernel_rfl
theorem k_175 : chkFn Tryz.prog fm 79 c_hurdleref02_plain = true := by kernel_rfl
theorem k_176 : chkFn Tryz.prog fm 49 c_hurdleref02_place = true := by kernel_rfl
theorem k_177 : chkFn Tryz.prog fm 78 c_hurdleref02_Ops = true := by kernel_rfl
theorem k_178 : chkFn Tryz.prog fm 50 c_hurdleref02_Right = true := by kernel_rfl
theorem k_179 : chkFn Tryz.prog fm 51 c_hurdleref02_Alu = true := by kernel_rfl
theorem k_180 : chkFn Tryz.prog fm 20 c_hurdleref02_Branch = true := by kernel_rfl
theorem k_181 : chkFn Tryz.prog fm 21 c_hurdleref02_Ends = true := by kernel_rfl
theorem k_182 : chkFn Tryz.prog fm 98 c_hurdleref04_low = true := by kernel_rfl
theorem k_183 : chkFn Tryz.prog fm 82 c_hurdleref04_number = true := by kernel_rfl
theorem k_184 : chkFn Tryz.prog fm 83 c_hurdleref04_Bytes = true := by kernel_rfl
theorem k_185 : chkFn Tryz.prog fm 53 c_hurdleref04_Word = true := by kernel_rfl
theorem k_186 : chkFn Tryz.prog fm 22 c_hurdleref05_One = true := by kernel_rfl
theorem k_190 : chkFn Tryz.prog fm 23 c_hurdleref06_Step = true := by kernel_rfl
theorem k_202 : chkFn Tryz.prog fm 18 c_window_Right = true := by kernel_rfl
theorem k_203 : chkFn Tryz.prog fm 8 c_hurdleref17_Right = true := by kernel_rfl
theorem k_243 : chkFn Tryz.prog fm 42 c_affine_Const = true := by kernel_rfl
theorem k_244 : chkFn Tryz.prog fm 32 c_affine_Var = true := by kernel_rfl
theorem k_245 : chkFn Tryz.prog fm 85 c_affine_both = true := by kernel_rfl
theorem k_246 : chkFn Tryz.prog fm 92 c_affine_Add_1 = true := by kernel_rfl
theorem k_247 : chkFn Tryz.prog fm 72 c_affine_Add = true := by kernel_rfl
theorem k_248 : chkFn Tryz.prog fm 86 c_affine_Sub_1 = true := by kernel_rfl
theorem k_249 : chkFn Tryz.prog fm 60 c_affine_Sub = true := by kernel_rfl
theorem k_250 : chkFn Tryz.prog fm 93 c_affine_Mul_1 = true := by kernel_rfl
theorem k_251 : chkFn Tryz.prog fm 73 c_affine_Mul = true := by kernel_rfl
theorem k_252 : chkFn Tryz.prog fm 26 c_affine_Eval = true := by kernel_rfl
theorem k_253 : chkFn Tryz.prog fm 58 c_affine_Constant = true := by kernel_rfl
theorem k_254 : chkFn Tryz.prog fm 61 c_affine_Single = true := by kernel_rfl
theorem k_256 : chkFn Tryz.prog fm 4 c_sym_New = true := by kernel_rfl
theorem k_257 : chkFn Tryz.prog fm 57 c_sym_Book_Len = true := by kernel_rfl
theorem k_258 : chkFn Tryz.prog fm 25 c_sym_Book_has = true := by kernel_rfl
theorem k_259 : chkFn Tryz.prog fm 41 c_sym_Book_id = true := by kernel_rfl
theorem k_260 : chkFn Tryz.prog fm 33 c_sym_Book_sum = true := by kernel_rfl
theorem k_261 : chkFn Tryz.prog fm 74 c_sym_Book_bits = true := by kernel_rfl
theorem k_262 : chkFn Tryz.prog fm 17 c_sym_Book_Const = true := by kernel_rfl
theorem k_263 : chkFn Tryz.prog fm 15 c_sym_Book_Var = true := by kernel_rfl
theorem k_264 : chkFn Tryz.prog fm 71 c_sym_Book_asSum = true := by kernel_rfl
theorem k_265 : chkFn Tryz.prog fm 27 c_sym_Book_asBits = true := by kernel_rfl
theorem k_266 : chkFn Tryz.prog fm 75 c_sym_Book_Constant = true := by kernel_rfl
theorem k_267 : chkFn Tryz.prog fm 35 c_sym_Book_sums = true := by kernel_rfl
theorem k_268 : chkFn Tryz.prog fm 37 c_sym_Book_both = true := by kernel_rfl
theorem k_269 : chkFn Tryz.prog fm 39 c_sym_Book_plain = true := by kernel_rfl
theorem k_270 : chkFn Tryz.prog fm 34 c_sym_Book_Alu_1 = true := by kernel_rfl
theorem k_271 : chkFn Tryz.prog fm 36 c_sym_Book_Alu_2 = true := by kernel_rfl
theorem k_272 : chkFn Tryz.prog fm 38 c_sym_Book_Alu_3 = true := by kernel_rfl
theorem k_273 : chkFn Tryz.prog fm 40 c_sym_Book_Alu_4 = true := by kernel_rfl
theorem k_274 : chkFn Tryz.prog fm 16 c_sym_Book_Alu = true := by kernel_rfl
theorem k_275 : chkFn Tryz.prog fm 47 c_sym_Book_Neg = true := by kernel_rfl
theorem k_276 : chkFn Tryz.prog fm 12 c_sym_Book_Eval = true := by kernel_rfl
theorem k_292 : chkFn Tryz.prog fm 14 c_window_Run = true := by kernel_rfl
theorem k_293 : chkFn Tryz.prog fm 10 c_window_Assign = true := by kernel_rfl
theorem k_295 : chkFn Tryz.prog fm 19 c_window_step = true := by kernel_rfl
theorem k_296 : chkFn Tryz.prog fm 7 c_window_Of = true := by kernel_rfl
theorem k_297 : chkFn Tryz.prog fm 9 c_hurdleref17_Run = true := by kernel_rfl
theorem k_305 : chkFn Tryz.prog fm 11 c_hurdleref17_Divides = true := by kernel_rfl
theorem k_306 : chkFn Tryz.prog fm 3 c_hurdlelaw17_WindowValues = true := by kernel_rfl
theorem k_299 : chkFn Tryz.prog fm 6 c_hurdlelaw17_knows = true := by kernel_rfl
theorem k_300 : chkFn Tryz.prog fm 5 c_hurdlelaw17_great = true := by kernel_rfl
theorem checked : ∀ f c, tbl f = some c → chkFn Tryz.prog fm (fm f) c = true := by
  intro f c h
  unfold tbl at h
  split at h
  · cases h; exact k_107
  · cases h; exact k_125
  · cases h; exact k_126
  · cases h; exact k_127
  · cases h; exact k_122
  · cases h; exact k_173
  · cases h; exact k_100
  · cases h; exact k_101
  · cases h; exact k_102
  · cases h; exact k_103
  · cases h; exact k_104
  · cases h; exact k_105
  · cases h; exact k_106
  · cases h; exact k_108
  · cases h; exact k_109
  · cases h; exact k_110
  · cases h; exact k_138
  · cases h; exact k_139
  · cases h; exact k_140
  · cases h; exact k_141
  · cases h; exact k_142
  · cases h; exact k_143
  · cases h; exact k_144
  · cases h; exact k_145
  · cases h; exact k_146
  · cases h; exact k_147
  · cases h; exact k_148
  · cases h; exact k_149
  · cases h; exact k_150
  · cases h; exact k_151
  · cases h; exact k_152
  · cases h; exact k_153
  · cases h; exact k_154
  · cases h; exact k_155
  · cases h; exact k_156
  · cases h; exact k_157
  · cases h; exact k_158
  · cases h; exact k_159
  · cases h; exact k_160
  · cases h; exact k_161
  · cases h; exact k_162
  · cases h; exact k_163
  · cases h; exact k_164
  · cases h; exact k_174
  · cases h; exact k_175
  · cases h; exact k_176
  · cases h; exact k_177
  · cases h; exact k_178
  · cases h; exact k_179
  · cases h; exact k_180
  · cases h; exact k_181
  · cases h; exact k_182
  · cases h; exact k_183
  · cases h; exact k_184
  · cases h; exact k_185
  · cases h; exact k_186
  · cases h; exact k_190
  · cases h; exact k_202
  · cases h; exact k_203
  · cases h; exact k_243
  · cases h; exact k_244
  · cases h; exact k_245
  · cases h; exact k_246
  · cases h; exact k_247
  · cases h; exact k_248
  · cases h; exact k_249
  · cases h; exact k_250
  · cases h; exact k_251
  · cases h; exact k_252
  · cases h; exact k_253
  · cases h; exact k_254
  · cases h; exact k_256
  · cases h; exact k_257
  · cases h; exact k_258
  · cases h; exact k_259
  · cases h; exact k_260
  · cases h; exact k_261
  · cases h; exact k_262
  · cases h; exact k_263
  · cases h; exact k_264
  · cases h; exact k_265
  · cases h; exact k_266
  · cases h; exact k_267
  · cases h; exact k_268
  · cases h; exact k_269
  · cases h; exact k_270
  · cases h; exact k_271
  · cases h; exact k_272
  · cases h; exact k_273
  · cases h; exact k_274
  · cases h; exact k_275
  · cases h; exact k_276
  · cases h; exact k_292
  · cases h; exact k_293
  · cases h; exact k_295
  · cases h; exact k_296
  · cases h; exact k_297
  · cases h; exact k_305
  · cases h; exact k_306
  · cases h; exact k_299
  · cases h; exact k_300
  · cases h
instance hasWd : HasWd tbl := ⟨rfl⟩
instance hasR1 : HasR1 tbl := ⟨rfl, rfl, rfl, rfl⟩
instance hasR1n : HasR1n tbl := ⟨rfl⟩
instance hasBits : HasBits tbl := ⟨rfl, rfl, rfl, rfl, rfl, rfl, rfl, rfl, rfl⟩
instance hasBitsE : HasBitsE tbl := ⟨rfl⟩
instance hasNeg : HasNeg tbl := ⟨rfl⟩
instance hasIns : HasIns tbl := ⟨rfl, rfl, rfl, rfl, rfl⟩
instance hasCheck : HasCheck tbl := ⟨rfl, rfl, rfl, rfl, rfl, rfl, rfl, rfl, rfl⟩
instance hasData : HasData tbl := ⟨rfl, rfl, rfl, rfl⟩
instance hasStep : HasStep tbl := ⟨rfl, rfl, rfl⟩
instance hasR2 : HasR2 tbl := ⟨rfl, rfl, rfl, rfl, rfl, rfl, rfl, rfl⟩
instance hasR4 : HasR4 tbl := ⟨rfl, rfl, rfl, rfl⟩
instance hasR5o : HasR5o tbl := ⟨rfl⟩
instance hasR6s : HasR6s tbl := ⟨rfl⟩
instance hasWRight : HasWRight tbl := ⟨rfl⟩
instance hasR17 : HasR17 tbl := ⟨rfl⟩
instance hasAffine : HasAffine tbl := ⟨rfl, rfl, rfl, rfl, rfl, rfl, rfl, rfl, rfl, rfl, rfl, rfl⟩
instance hasSymNew : HasSymNew tbl := ⟨rfl⟩
instance hasSym : HasSym tbl := ⟨rfl, rfl, rfl, rfl, rfl, rfl, rfl, rfl, rfl, rfl, rfl, rfl, rfl, rfl, rfl, rfl, rfl, rfl, rfl⟩
instance hasSymEval : HasSymEval tbl := ⟨rfl⟩
instance hasWinRun : HasWinRun tbl := ⟨rfl⟩
instance hasWinAsg : HasWinAsg tbl := ⟨rfl⟩
instance hasWinOf : HasWinOf tbl := ⟨rfl, rfl⟩
instance hasR17r : HasR17r tbl := ⟨rfl⟩
instance hasR17d : HasR17d tbl := ⟨rfl⟩
instance hasL17v : HasL17v tbl := ⟨rfl⟩
instance hasL17g : HasL17g tbl := ⟨rfl⟩

end Go.Proofs.YtpfmblidlbjcmaaGreatDoor
