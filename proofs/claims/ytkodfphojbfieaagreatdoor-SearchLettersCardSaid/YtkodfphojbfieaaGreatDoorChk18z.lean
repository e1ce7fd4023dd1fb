/- The seat's table of simplified functions; each is checked against the loaded program. -/
import Derived.Test.YtkodfphojbfieaaGreatDoorProg
import Derived.KernelRfl
import Derived.Test.YtkodfphojbfieaaGreatDoorEvMW
import Derived.Test.YtkodfphojbfieaaGreatDoorEvBitsCW
import Derived.Test.YtkodfphojbfieaaGreatDoorEvWinCW
import Derived.Test.YtkodfphojbfieaaGreatDoorRunAW
set_option linter.unusedVariables false
set_option linter.unusedSimpArgs false
namespace Go.Proofs.YtkodfphojbfieaaGreatDoor
open Go.Ev

def tbl : Tbl
  | 107 => some c_word_Do
  | 125 => some c_hurdleref01_power
  | 126 => some c_hurdleref01_bit
  | 127 => some c_hurdleref01_bits
  | 122 => some c_hurdleref01_Do
  | 173 => some c_hurdleref01_Neg
  | 100 => some c_bits_counts
  | 101 => some c_bits_Right
  | 102 => some c_bits_Const
  | 103 => some c_bits_Var
  | 104 => some c_bits_union
  | 105 => some c_bits_at
  | 106 => some c_bits_plain
  | 108 => some c_bits_Do_1
  | 109 => some c_bits_Do
  | 110 => some c_bits_Eval
  | 112 => some c_bits_Apart
  | 138 => some c_word_Neg
  | 139 => some c_ins_of
  | 140 => some c_ins_Right
  | 141 => some c_ins_Alu
  | 142 => some c_ins_Branch
  | 143 => some c_ins_Ends
  | 144 => some c_word_Parse
  | 145 => some c_ins_words
  | 146 => some c_ins_Parse_1
  | 147 => some c_ins_Parse
  | 148 => some c_codec_Parse
  | 149 => some c_check_rules_1
  | 150 => some c_check_rules_2
  | 151 => some c_check_rules_3
  | 152 => some c_check_rules_4
  | 153 => some c_check_rules_5
  | 154 => some c_check_rules
  | 155 => some c_check_ways
  | 156 => some c_check_Check
  | 157 => some c_check_Sound
  | 158 => some c_data_there
  | 159 => some c_data_words_1
  | 160 => some c_data_words
  | 161 => some c_data_Word
  | 162 => some c_run_cell
  | 163 => some c_run_store
  | 164 => some c_run_Step
  | 174 => some c_hurdleref02_branch
  | 175 => some c_hurdleref02_plain
  | 176 => some c_hurdleref02_place
  | 177 => some c_hurdleref02_Ops
  | 178 => some c_hurdleref02_Right
  | 179 => some c_hurdleref02_Alu
  | 180 => some c_hurdleref02_Branch
  | 181 => some c_hurdleref02_Ends
  | 182 => some c_hurdleref04_low
  | 183 => some c_hurdleref04_number
  | 184 => some c_hurdleref04_Bytes
  | 185 => some c_hurdleref04_Word
  | 186 => some c_hurdleref05_One
  | 190 => some c_hurdleref06_Step
  | 201 => some c_hurdleref03_Same
  | 202 => some c_window_Right
  | 203 => some c_hurdleref17_Right
  | 231 => some c_data_of_1
  | 232 => some c_data_of
  | 233 => some c_data_With
  | 243 => some c_affine_Const
  | 244 => some c_affine_Var
  | 245 => some c_affine_both
  | 246 => some c_affine_Add_1
  | 247 => some c_affine_Add
  | 248 => some c_affine_Sub_1
  | 249 => some c_affine_Sub
  | 250 => some c_affine_Mul_1
  | 251 => some c_affine_Mul
  | 252 => some c_affine_Eval
  | 253 => some c_affine_Constant
  | 254 => some c_affine_Single
  | 255 => some c_affine_Apart
  | 256 => some c_sym_New
  | 257 => some c_sym_Book_Len
  | 258 => some c_sym_Book_has
  | 259 => some c_sym_Book_id
  | 260 => some c_sym_Book_sum
  | 261 => some c_sym_Book_bits
  | 262 => some c_sym_Book_Const
  | 263 => some c_sym_Book_Var
  | 264 => some c_sym_Book_asSum
  | 265 => some c_sym_Book_asBits
  | 266 => some c_sym_Book_Constant
  | 267 => some c_sym_Book_sums
  | 268 => some c_sym_Book_both
  | 269 => some c_sym_Book_plain
  | 270 => some c_sym_Book_Alu_1
  | 271 => some c_sym_Book_Alu_2
  | 272 => some c_sym_Book_Alu_3
  | 273 => some c_sym_Book_Alu_4
  | 274 => some c_sym_Book_Alu
  | 275 => some c_sym_Book_Neg
  | 276 => some c_sym_Book_Eval
  | 277 => some c_sym_Book_Apart
  | 292 => some c_window_Run
  | 293 => some c_window_Assign
  | 294 => some c_window_State
  | 295 => some c_window_step
  | 296 => some c_window_Of
  | 297 => some c_hurdleref17_Run
  | 307 => some c_decide_in
  | 308 => some c_decide_Differs
  | 309 => some c_decide_same
  | 310 => some c_decide_tries_1
  | 311 => some c_decide_tries
  | 312 => some c_decide_Decide
  | 326 => some c_search_numbers
  | 327 => some c_search_Letters_1
  | 330 => some c_search_Letters
  | 328 => some c_search_candidates_1
  | 329 => some c_search_candidates
  | 338 => some c_search_Candidate
  | 333 => some c_search_Find
  | 332 => some c_hurdleref19_own
  | 331 => some c_hurdleref19_with
  | 337 => some c_hurdleref19_Letters
  | 339 => some c_hurdleref19_Ends
  | 335 => some c_hurdleref19_Candidate
  | 336 => some c_hurdlelaw19_told
  | 334 => some c_hurdlelaw19_knows
  | 340 => some c_hurdlelaw19_SearchNumbers
  | 344 => some c_hurdlelaw19_SearchLetters
  | _ => none
def fmF : Nat → Go.FuncId
  | 107 => 95
  | 125 => 140
  | 126 => 163
  | 127 => 139
  | 122 => 111
  | 173 => 112
  | 100 => 157
  | 101 => 132
  | 102 => 126
  | 103 => 130
  | 104 => 150
  | 105 => 151
  | 106 => 156
  | 108 => 155
  | 109 => 131
  | 110 => 94
  | 112 => 121
  | 138 => 108
  | 139 => 100
  | 140 => 136
  | 141 => 86
  | 142 => 68
  | 143 => 72
  | 144 => 104
  | 145 => 102
  | 146 => 103
  | 147 => 71
  | 148 => 39
  | 149 => 158
  | 150 => 159
  | 151 => 160
  | 152 => 161
  | 153 => 162
  | 154 => 135
  | 155 => 137
  | 156 => 105
  | 157 => 73
  | 158 => 109
  | 159 => 138
  | 160 => 110
  | 161 => 75
  | 162 => 106
  | 163 => 107
  | 164 => 74
  | 174 => 83
  | 175 => 124
  | 176 => 84
  | 177 => 123
  | 178 => 85
  | 179 => 88
  | 180 => 52
  | 181 => 53
  | 182 => 141
  | 183 => 113
  | 184 => 114
  | 185 => 77
  | 186 => 54
  | 190 => 76
  | 201 => 27
  | 202 => 40
  | 203 => 21
  | 231 => 152
  | 232 => 122
  | 233 => 82
  | 243 => 128
  | 244 => 115
  | 245 => 153
  | 246 => 167
  | 247 => 164
  | 248 => 154
  | 249 => 127
  | 250 => 168
  | 251 => 165
  | 252 => 92
  | 253 => 91
  | 254 => 129
  | 255 => 120
  | 256 => 46
  | 257 => 125
  | 258 => 89
  | 259 => 142
  | 260 => 116
  | 261 => 166
  | 262 => 117
  | 263 => 78
  | 264 => 90
  | 265 => 93
  | 266 => 60
  | 267 => 144
  | 268 => 146
  | 269 => 148
  | 270 => 143
  | 271 => 145
  | 272 => 147
  | 273 => 149
  | 274 => 118
  | 275 => 119
  | 276 => 61
  | 277 => 81
  | 292 => 41
  | 293 => 42
  | 294 => 50
  | 295 => 79
  | 296 => 47
  | 297 => 44
  | 307 => 43
  | 308 => 15
  | 309 => 48
  | 310 => 80
  | 311 => 49
  | 312 => 18
  | 326 => 56
  | 327 => 55
  | 330 => 23
  | 328 => 87
  | 329 => 57
  | 338 => 28
  | 333 => 25
  | 332 => 59
  | 331 => 58
  | 337 => 29
  | 339 => 24
  | 335 => 26
  | 336 => 30
  | 334 => 22
  | 340 => 7
  | 344 => 11
  | _ => 0
def fmG : Nat → Option (List V)
  | 0 => some g_ins_shapes
  | _ => none
def fm : Fm := ⟨fmF, fmG, fun _ _ _ => True⟩
theorem k_107 : chkFn Tryz.prog fm 95 c_word_Do = true := by kernel_rfl
theorem k_125 : chkFn Tryz.prog fm 140 c_hurdleref01_power = true := by kernel_rfl
theorem k_126 : chkFn Tryz.prog fm 163 c_hurdleref01_bit = true := by kernel_rfl
theorem k_127 : chkFn Tryz.prog fm 139 c_hurdleref01_bits = true := by kernel_rfl
theorem k_122 : chkFn Tryz.prog fm 111 c_hurdleref01_Do = true := by kernel_rfl
theorem k_173 : chkFn Tryz.prog fm 112 c_hurdleref01_Neg = true := by kernel_rfl
theorem k_100 : chkFn Tryz.prog fm 157 c_bits_counts = true := by kernel_rfl
theorem k_101 : chkFn Tryz.prog fm 132 c_bits_Right = true := by kernel_rfl
theorem k_102 : chkFn Tryz.prog fm 126 c_bits_Const = true := by kernel_rfl
theorem k_103 : chkFn Tryz.prog fm 130 c_bits_Var = true := by kernel_rfl
theorem k_104 : chkFn Tryz.prog fm 150 c_bits_union = true := by kernel_rfl
theorem k_105 : chkFn Tryz.prog fm 151 c_bits_at = true := by kernel_rfl
theorem k_106 : chkFn Tryz.prog fm 156 c_bits_plain = true := by kernel_rfl
theorem k_108 : chkFn Tryz.prog fm 155 c_bits_Do_1 = true := by kernel_rfl
theorem k_109 : chkFn Tryz.prog fm 131 c_bits_Do = true := by kernel_rfl
theorem k_110 : chkFn Tryz.prog fm 94 c_bits_Eval = true := by kernel_rfl
theorem k_112 : chkFn Tryz.prog fm 121 c_bits_Apart = true := by kernel_rfl
theorem k_138 : chkFn Tryz.prog fm 108 c_word_Neg = true := by kernel_rfl
theorem k_139 : chkFn Tryz.prog fm 100 c_ins_of = true := by kernel_rfl
theorem k_140 : chkFn Tryz.prog fm 136 c_ins_Right = true := by kernel_rfl
theorem k_141 : chkFn Tryz.prog fm 86 c_ins_Alu = true := by kernel_rfl
theorem k_142 : chkFn Tryz.prog fm 68 c_ins_Branch = true := by kernel_rfl
theorem k_143 : chkFn Tryz.prog fm 72 c_ins_Ends = true := by kernel_rfl
theorem k_144 : chkFn Tryz.prog fm 104 c_word_Parse = true := by kernel_rfl
theorem k_145 : chkFn Tryz.prog fm 102 c_ins_words = true := by kernel_rfl
theorem k_146 : chkFn Tryz.prog fm 103 c_ins_Parse_1 = true := by kernel_rfl
theorem k_147 : chkFn Tryz.prog fm 71 c_ins_Parse = true := by kernel_rfl
theorem k_148 : chkFn Tryz.prog fm 39 c_codec_Parse = true := by kernel_rfl
theorem k_149 : chkFn Tryz.prog fm 158 c_check_rules_1 = true := by kernel_rfl
theorem k_150 : chkFn Tryz.prog fm 159 c_check_rules_2 = true := by kernel_rfl
theorem k_151 : chkFn Tryz.prog fm 160 c_check_rules_3 = true := by kernel_rfl
theorem k_152 : chkFn Tryz.prog fm 161 c_check_rules_4 = true := by kernel_rfl
theorem k_153 : chkFn Tryz.prog fm 162 c_check_rules_5 = true := by kernel_rfl
theorem k_154 : chkFn Tryz.prog fm 135 c_check_rules = true := by kernel_rfl
theorem k_155 : chkFn Tryz.prog fm 137 c_check_ways = true := by kernel_rfl
theorem k_156 : chkFn Tryz.prog fm 105 c_check_Check = true := by kernel_rfl
theorem k_157 : chkFn Tryz.prog fm 73 c_check_Sound = true := by kernel_rfl
theorem k_158 : chkFn Tryz.prog fm 109 c_data_there = true := by kernel_rfl
theorem k_159 : chkFn Tryz.prog fm 138 c_data_words_1 = true := by kernel_rfl
theorem k_160 : chkFn Tryz.prog fm 110 c_data_words = true := by kernel_rfl
theorem k_161 : chkFn Tryz.prog fm 75 c_data_Word = true := by kernel_rfl
theorem k_162 : chkFn Tryz.prog fm 106 c_run_cell = true := by kernel_rfl
theorem k_163 : chkFn Tryz.prog fm 107 c_run_store = true := by kernel_rfl
theorem k_164 : chkFn Tryz.prog fm 74 c_run_Step = true := by kernel_rfl
theorem k_174 : chkFn Tryz.prog fm 83 c_hurdleref02_branch = true := by kernel_rfl
theorem k_175 : chkFn Tryz.prog fm 124 c_hurdleref02_plain = true := by kernel_rfl
theorem k_176 : chkFn Tryz.prog fm 84 c_hurdleref02_place = true := by kernel_rfl
theorem k_177 : chkFn Tryz.prog fm 123 c_hurdleref02_Ops = true := by kernel_rfl
theorem k_178 : chkFn Tryz.prog fm 85 c_hurdleref02_Right = true := by kernel_rfl
theorem k_179 : chkFn Tryz.prog fm 88 c_hurdleref02_Alu = true := by kernel_rfl
theorem k_180 : chkFn Tryz.prog fm 52 c_hurdleref02_Branch = true := by kernel_rfl
theorem k_181 : chkFn Tryz.prog fm 53 c_hurdleref02_Ends = true := by kernel_rfl
theorem k_182 : chkFn Tryz.prog fm 141 c_hurdleref04_low = true := by kernel_rfl
theorem k_183 : chkFn Tryz.prog fm 113 c_hurdleref04_number = true := by kernel_rfl
theorem k_184 : chkFn Tryz.prog fm 114 c_hurdleref04_Bytes = true := by kernel_rfl
theorem k_185 : chkFn Tryz.prog fm 77 c_hurdleref04_Word = true := by kernel_rfl
theorem k_186 : chkFn Tryz.prog fm 54 c_hurdleref05_One = true := by kernel_rfl
theorem k_190 : chkFn Tryz.prog fm 76 c_hurdleref06_Step = true := by kernel_rfl
theorem k_201 : chkFn Tryz.prog fm 27 c_hurdleref03_Same = true := by kernel_rfl
theorem k_202 : chkFn Tryz.prog fm 40 c_window_Right = true := by kernel_rfl
theorem k_203 : chkFn Tryz.prog fm 21 c_hurdleref17_Right = true := by kernel_rfl
theorem k_231 : chkFn Tryz.prog fm 152 c_data_of_1 = true := by kernel_rfl
theorem k_232 : chkFn Tryz.prog fm 122 c_data_of = true := by kernel_rfl
theorem k_233 : chkFn Tryz.prog fm 82 c_data_With = true := by kernel_rfl
theorem k_243 : chkFn Tryz.prog fm 128 c_affine_Const = true := by kernel_rfl
theorem k_244 : chkFn Tryz.prog fm 115 c_affine_Var = true := by kernel_rfl
theorem k_245 : chkFn Tryz.prog fm 153 c_affine_both = true := by kernel_rfl
theorem k_246 : chkFn Tryz.prog fm 167 c_affine_Add_1 = true := by kernel_rfl
theorem k_247 : chkFn Tryz.prog fm 164 c_affine_Add = true := by kernel_rfl
theorem k_248 : chkFn Tryz.prog fm 154 c_affine_Sub_1 = true := by kernel_rfl
theorem k_249 : chkFn Tryz.prog fm 127 c_affine_Sub = true := by kernel_rfl
theorem k_250 : chkFn Tryz.prog fm 168 c_affine_Mul_1 = true := by kernel_rfl
theorem k_251 : chkFn Tryz.prog fm 165 c_affine_Mul = true := by kernel_rfl
theorem k_252 : chkFn Tryz.prog fm 92 c_affine_Eval = true := by kernel_rfl
theorem k_253 : chkFn Tryz.prog fm 91 c_affine_Constant = true := by kernel_rfl
theorem k_254 : chkFn Tryz.prog fm 129 c_affine_Single = true := by kernel_rfl
theorem k_255 : chkFn Tryz.prog fm 120 c_affine_Apart = true := by kernel_rfl
theorem k_256 : chkFn Tryz.prog fm 46 c_sym_New = true := by kernel_rfl
theorem k_257 : chkFn Tryz.prog fm 125 c_sym_Book_Len = true := by kernel_rfl
theorem k_258 : chkFn Tryz.prog fm 89 c_sym_Book_has = true := by kernel_rfl
theorem k_259 : chkFn Tryz.prog fm 142 c_sym_Book_id = true := by kernel_rfl
theorem k_260 : chkFn Tryz.prog fm 116 c_sym_Book_sum = true := by kernel_rfl
theorem k_261 : chkFn Tryz.prog fm 166 c_sym_Book_bits = true := by kernel_rfl
theorem k_262 : chkFn Tryz.prog fm 117 c_sym_Book_Const = true := by kernel_rfl
theorem k_263 : chkFn Tryz.prog fm 78 c_sym_Book_Var = true := by kernel_rfl
theorem k_264 : chkFn Tryz.prog fm 90 c_sym_Book_asSum = true := by kernel_rfl
theorem k_265 : chkFn Tryz.prog fm 93 c_sym_Book_asBits = true := by kernel_rfl
theorem k_266 : chkFn Tryz.prog fm 60 c_sym_Book_Constant = true := by kernel_rfl
theorem k_267 : chkFn Tryz.prog fm 144 c_sym_Book_sums = true := by kernel_rfl
theorem k_268 : chkFn Tryz.prog fm 146 c_sym_Book_both = true := by kernel_rfl
theorem k_269 : chkFn Tryz.prog fm 148 c_sym_Book_plain = true := by kernel_rfl
theorem k_270 : chkFn Tryz.prog fm 143 c_sym_Book_Alu_1 = true := by kernel_rfl
theorem k_271 : chkFn Tryz.prog fm 145 c_sym_Book_Alu_2 = true := by kernel_rfl
theorem k_272 : chkFn Tryz.prog fm 147 c_sym_Book_Alu_3 = true := by kernel_rfl
theorem k_273 : chkFn Tryz.prog fm 149 c_sym_Book_Alu_4 = true := by kernel_rfl
theorem k_274 : chkFn Tryz.prog fm 118 c_sym_Book_Alu = true := by kernel_rfl
theorem k_275 : chkFn Tryz.prog fm 119 c_sym_Book_Neg = true := by kernel_rfl
theorem k_276 : chkFn Tryz.prog fm 61 c_sym_Book_Eval = true := by kernel_rfl
theorem k_277 : chkFn Tryz.prog fm 81 c_sym_Book_Apart = true := by kernel_rfl
theorem k_292 : chkFn Tryz.prog fm 41 c_window_Run = true := by kernel_rfl
theorem k_293 : chkFn Tryz.prog fm 42 c_window_Assign = true := by kernel_rfl
theorem k_294 : chkFn Tryz.prog fm 50 c_window_State = true := by kernel_rfl
theorem k_295 : chkFn Tryz.prog fm 79 c_window_step = true := by kernel_rfl
theorem k_296 : chkFn Tryz.prog fm 47 c_window_Of = true := by kernel_rfl
theorem k_297 : chkFn Tryz.prog fm 44 c_hurdleref17_Run = true := by kernel_rfl
theorem k_307 : chkFn Tryz.prog fm 43 c_decide_in = true := by kernel_rfl
theorem k_308 : chkFn Tryz.prog fm 15 c_decide_Differs = true := by kernel_rfl
theorem k_309 : chkFn Tryz.prog fm 48 c_decide_same = true := by kernel_rfl
theorem k_310 : chkFn Tryz.prog fm 80 c_decide_tries_1 = true := by kernel_rfl
theorem k_311 : chkFn Tryz.prog fm 49 c_decide_tries = true := by kernel_rfl
theorem k_312 : chkFn Tryz.prog fm 18 c_decide_Decide = true := by kernel_rfl
theorem k_326 : chkFn Tryz.prog fm 56 c_search_numbers = true := by kernel_rfl
theorem k_327 : chkFn Tryz.prog fm 55 c_search_Letters_1 = true := by kernel_rfl
theorem k_330 : chkFn Tryz.prog fm 23 c_search_Letters = true := by kernel_rfl
theorem k_328 : chkFn Tryz.prog fm 87 c_search_candidates_1 = true := by kernel_rfl
theorem k_329 : chkFn Tryz.prog fm 57 c_search_candidates = true := by kernel_rfl
theorem k_338 : chkFn Tryz.prog fm 28 c_search_Candidate = true := by kernel_rfl
theorem k_333 : chkFn Tryz.prog fm 25 c_search_Find = true := by kernel_rfl
theorem k_332 : chkFn Tryz.prog fm 59 c_hurdleref19_own = true := by kernel_rfl
theorem k_331 : chkFn Tryz.prog fm 58 c_hurdleref19_with = true := by kernel_rfl
theorem k_337 : chkFn Tryz.prog fm 29 c_hurdleref19_Letters = true := by kernel_rfl
theorem k_339 : chkFn Tryz.prog fm 24 c_hurdleref19_Ends = true := by kernel_rfl
theorem k_335 : chkFn Tryz.prog fm 26 c_hurdleref19_Candidate = true := by kernel_rfl
theorem k_336 : chkFn Tryz.prog fm 30 c_hurdlelaw19_told = true := by kernel_rfl
theorem k_334 : chkFn Tryz.prog fm 22 c_hurdlelaw19_knows = true := by kernel_rfl
theorem k_340 : chkFn Tryz.prog fm 7 c_hurdlelaw19_SearchNumbers = true := by kernel_rfl
theorem k_344 : chkFn Tryz.prog fm 11 c_hurdlelaw19_SearchLetters = true := by kernel_rfl
theorem checked : ∀ f c, tbl f = some c → chkFn Tryz.prog fm (fm f) c = true := by
  intro f c h
  unfold tbl at h
  split at h
  · cases h; exact k_107
  · cases h; exact k_125
  · cases h; exact k_126
  · cases h; exact k_127
  · cases h; exact k_122
  · cases h; exact k_173
  · cases h; exact k_100
  · cases h; exact k_101
  · cases h; exact k_102
  · cases h; exact k_103
  · cases h; exact k_104
  · cases h; exact k_105
  · cases h; exact k_106
  · cases h; exact k_108
  · cases h; exact k_109
  · cases h; exact k_110
  · cases h; exact k_112
  · cases h; exact k_138
  · cases h; exact k_139
  · cases h; exact k_140
  · cases h; exact k_141
  · cases h; exact k_142
  · cases h; exact k_143
  · cases h; exact k_144
  · cases h; exact k_145
  · cases h; exact k_146
  · cases h; exact k_147
  · cases h; exact k_148
  · cases h; exact k_149
  · cases h; exact k_150
  · cases h; exact k_151
  · cases h; exact k_152
  · cases h; exact k_153
  · cases h; exact k_154
  · cases h; exact k_155
  · cases h; exact k_156
  · cases h; exact k_157
  · cases h; exact k_158
  · cases h; exact k_159
  · cases h; exact k_160
  · cases h; exact k_161
  · cases h; exact k_162
  · cases h; exact k_163
  · cases h; exact k_164
  · cases h; exact k_174
  · cases h; exact k_175
  · cases h; exact k_176
  · cases h; exact k_177
  · cases h; exact k_178
  · cases h; exact k_179
  · cases h; exact k_180
  · cases h; exact k_181
  · cases h; exact k_182
  · cases h; exact k_183
  · cases h; exact k_184
  · cases h; exact k_185
  · cases h; exact k_186
  · cases h; exact k_190
  · cases h; exact k_201
  · cases h; exact k_202
  · cases h; exact k_203
  · cases h; exact k_231
  · cases h; exact k_232
  · cases h; exact k_233
  · cases h; exact k_243
  · cases h; exact k_244
  · cases h; exact k_245
  · cases h; exact k_246
  · cases h; exact k_247
  · cases h; exact k_248
  · cases h; exact k_249
  · cases h; exact k_250
  · cases h; exact k_251
  · cases h; exact k_252
  · cases h; exact k_253
  · cases h; exact k_254
  · cases h; exact k_255
  · cases h; exact k_256
  · cases h; exact k_257
  · cases h; exact k_258
  · cases h; exact k_259
  · cases h; exact k_260
  · cases h; exact k_261
  · cases h; exact k_262
  · cases h; exact k_263
  · cases h; exact k_264
  · cases h; exact k_265
  · cases h; exact k_266
  · cases h; exact k_267
  · cases h; exact k_268
  · cases h; exact k_269
  · cases h; exact k_270
  · cases h; exact k_271
  · cases h; exact k_272
  · cases h; exact k_273
  · cases h; exact k_274
  · cases h; exact k_275
  · cases h; exact k_276
  · cases h; exact k_277
  · cases h; exact k_292
  · cases h; exact k_293
  · cases h; exact k_294
  · cases h; exact k_295
  · cases h; exact k_296
  · cases h; exact k_297
  · cases h; exact k_307
  · cases h; exact k_308
  · cases h; exact k_309
  · cases h; exact k_310
  · cases h; exact k_311
  · cases h; exact k_312
  · cases h; exact k_326
  · cases h; exact k_327
  · cases h; exact k_330
  · cases h; exact k_328
  · cases h; exact k_329
  · cases h; exact k_338
  · cases h; exact k_333
  · cases h; exact k_332
  · cases h; exact k_331
  · cases h; exact k_337
  · cases h; exact k_339
  · cases h; exact k_335
  · cases h; exact k_336
  · cases h; exact k_334
  · cases h; exact k_340
  · cases h; exact k_344
  · cases h
instance hasWd : HasWd tbl := ⟨rfl⟩
instance hasR1 : HasR1 tbl := ⟨rfl, rfl, rfl, rfl⟩
instance hasR1n : HasR1n tbl := ⟨rfl⟩
instance hasBits : HasBits tbl := ⟨rfl, rfl, rfl, rfl, rfl, rfl, rfl, rfl, rfl⟩
instance hasBitsE : HasBitsE tbl := ⟨rfl⟩
instance hasBitsA : HasBitsA tbl := ⟨rfl⟩
instance hasNeg : HasNeg tbl := ⟨rfl⟩
instance hasIns : HasIns tbl := ⟨rfl, rfl, rfl, rfl, rfl⟩
instance hasCheck : HasCheck tbl := ⟨rfl, rfl, rfl, rfl, rfl, rfl, rfl, rfl, rfl⟩
instance hasData : HasData tbl := ⟨rfl, rfl, rfl, rfl⟩
instance hasStep : HasStep tbl := ⟨rfl, rfl, rfl⟩
instance hasR2 : HasR2 tbl := ⟨rfl, rfl, rfl, rfl, rfl, rfl, rfl, rfl⟩
instance hasR4 : HasR4 tbl := ⟨rfl, rfl, rfl, rfl⟩
instance hasR5o : HasR5o tbl := ⟨rfl⟩
instance hasR6s : HasR6s tbl := ⟨rfl⟩
instance hasR3 : HasR3 tbl := ⟨rfl⟩
instance hasWRight : HasWRight tbl := ⟨rfl⟩
instance hasR17 : HasR17 tbl := ⟨rfl⟩
instance hasWith : HasWith tbl := ⟨rfl, rfl, rfl⟩
instance hasAffine : HasAffine tbl := ⟨rfl, rfl, rfl, rfl, rfl, rfl, rfl, rfl, rfl, rfl, rfl, rfl⟩
instance hasSymNew : HasSymNew tbl := ⟨rfl⟩
instance hasSym : HasSym tbl := ⟨rfl, rfl, rfl, rfl, rfl, rfl, rfl, rfl, rfl, rfl, rfl, rfl, rfl, rfl, rfl, rfl, rfl, rfl, rfl⟩
instance hasSymEval : HasSymEval tbl := ⟨rfl⟩
instance hasSymApart : HasSymApart tbl := ⟨rfl⟩
instance hasAffApart : HasAffApart tbl := ⟨rfl⟩
instance hasWinRun : HasWinRun tbl := ⟨rfl⟩
instance hasWinAsg : HasWinAsg tbl := ⟨rfl⟩
instance hasWinState : HasWinState tbl := ⟨rfl⟩
instance hasWinOf : HasWinOf tbl := ⟨rfl, rfl⟩
instance hasR17r : HasR17r tbl := ⟨rfl⟩
instance hasDecDf : HasDecDf tbl := ⟨rfl, rfl⟩
instance hasDec : HasDec tbl := ⟨rfl, rfl, rfl, rfl⟩
instance hasSrcN : HasSrcN tbl := ⟨rfl⟩
instance hasSrcL : HasSrcL tbl := ⟨rfl, rfl⟩
instance hasSrcC : HasSrcC tbl := ⟨rfl, rfl⟩
instance hasSrcA : HasSrcA tbl := ⟨rfl⟩
instance hasSrcF : HasSrcF tbl := ⟨rfl⟩
instance hasR19 : HasR19 tbl := ⟨rfl, rfl, rfl⟩
instance hasR19e : HasR19e tbl := ⟨rfl⟩
instance hasR19c : HasR19c tbl := ⟨rfl⟩
instance hasL19t : HasL19t tbl := ⟨rfl⟩
instance hasL19k : HasL19k tbl := ⟨rfl⟩
instance hasL19 : HasL19 tbl := ⟨rfl, rfl⟩

end Go.Proofs.YtkodfphojbfieaaGreatDoor
