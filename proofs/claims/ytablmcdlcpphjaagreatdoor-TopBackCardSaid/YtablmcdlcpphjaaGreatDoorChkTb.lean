/- The seat's table of simplified functions; each is checked against the loaded program. -/
import Derived.Test.YtablmcdlcpphjaaGreatDoorProg
import Derived.KernelRfl
import Derived.Test.YtablmcdlcpphjaaGreatDoorEvNW
import Derived.Test.YtablmcdlcpphjaaGreatDoorEvInsCW
import Derived.Test.YtablmcdlcpphjaaGreatDoorEvSrcCW
import Derived.Test.YtablmcdlcpphjaaGreatDoorEvTW
set_option linter.unusedVariables false
set_option linter.unusedSimpArgs false
namespace Go.Proofs.YtablmcdlcpphjaaGreatDoor
open Go.Ev

def tbl0 : Tbl
  | 107 => some c_word_Do
  | 138 => some c_word_Neg
  | 139 => some c_ins_of
  | 140 => some c_ins_Right
  | 141 => some c_ins_Alu
  | 142 => some c_ins_Branch
  | 143 => some c_ins_Ends
  | 144 => some c_word_Parse
  | 145 => some c_ins_words
  | 146 => some c_ins_Parse_1
  | 147 => some c_ins_Parse
  | 148 => some c_codec_Parse
  | 149 => some c_check_rules_1
  | 150 => some c_check_rules_2
  | 151 => some c_check_rules_3
  | 152 => some c_check_rules_4
  | 153 => some c_check_rules_5
  | 154 => some c_check_rules
  | 155 => some c_check_ways
  | 156 => some c_check_Check
  | 157 => some c_check_Sound
  | 158 => some c_data_there
  | 159 => some c_data_words_1
  | 160 => some c_data_words
  | 161 => some c_data_Word
  | 162 => some c_run_cell
  | 163 => some c_run_store
  | 164 => some c_run_Step
  | 165 => some c_run_Takes
  | 166 => some c_live_cell
  | 167 => some c_live_byX
  | 168 => some c_live_Uses
  | 169 => some c_live_Sets
  | 170 => some c_live_nexts
  | 171 => some c_live_At
  | 172 => some c_live_Behind
  | 174 => some c_hurdleref02_branch
  | 175 => some c_hurdleref02_plain
  | 176 => some c_hurdleref02_place
  | 177 => some c_hurdleref02_Ops
  | 178 => some c_hurdleref02_Right
  | 180 => some c_hurdleref02_Branch
  | 181 => some c_hurdleref02_Ends
  | 186 => some c_hurdleref05_One
  | 187 => some c_hurdleref05_Check
  | 188 => some c_hurdleref05_Sound
  | 201 => some c_hurdleref03_Same
  | 202 => some c_window_Right
  | 204 => some c_splice_targets
  | 205 => some c_splice_free
  | 206 => some c_splice_Free
  | 207 => some c_splice_Put_1
  | 208 => some c_splice_Put
  | 209 => some c_splice_Pieces
  | 100 => some c_bits_counts
  | 101 => some c_bits_Right
  | 102 => some c_bits_Const
  | 103 => some c_bits_Var
  | 104 => some c_bits_union
  | 105 => some c_bits_at
  | 106 => some c_bits_plain
  | 108 => some c_bits_Do_1
  | 109 => some c_bits_Do
  | 110 => some c_bits_Eval
  | 112 => some c_bits_Apart
  | 243 => some c_affine_Const
  | 244 => some c_affine_Var
  | 245 => some c_affine_both
  | 246 => some c_affine_Add_1
  | 247 => some c_affine_Add
  | 248 => some c_affine_Sub_1
  | 249 => some c_affine_Sub
  | 250 => some c_affine_Mul_1
  | 251 => some c_affine_Mul
  | 252 => some c_affine_Eval
  | 253 => some c_affine_Constant
  | 254 => some c_affine_Single
  | 255 => some c_affine_Apart
  | 256 => some c_sym_New
  | 257 => some c_sym_Book_Len
  | _ => none
def tbl1 : Tbl
  | 258 => some c_sym_Book_has
  | 259 => some c_sym_Book_id
  | 260 => some c_sym_Book_sum
  | 261 => some c_sym_Book_bits
  | 262 => some c_sym_Book_Const
  | 263 => some c_sym_Book_Var
  | 264 => some c_sym_Book_asSum
  | 265 => some c_sym_Book_asBits
  | 266 => some c_sym_Book_Constant
  | 267 => some c_sym_Book_sums
  | 268 => some c_sym_Book_both
  | 269 => some c_sym_Book_plain
  | 270 => some c_sym_Book_Alu_1
  | 271 => some c_sym_Book_Alu_2
  | 272 => some c_sym_Book_Alu_3
  | 273 => some c_sym_Book_Alu_4
  | 274 => some c_sym_Book_Alu
  | 275 => some c_sym_Book_Neg
  | 276 => some c_sym_Book_Eval
  | 277 => some c_sym_Book_Apart
  | 230 => some c_run_Run
  | 231 => some c_data_of_1
  | 232 => some c_data_of
  | 233 => some c_data_With
  | 292 => some c_window_Run
  | 293 => some c_window_Assign
  | 294 => some c_window_State
  | 295 => some c_window_step
  | 296 => some c_window_Of
  | 307 => some c_decide_in
  | 308 => some c_decide_Differs
  | 309 => some c_decide_same
  | 310 => some c_decide_tries_1
  | 311 => some c_decide_tries
  | 312 => some c_decide_Decide
  | 326 => some c_search_numbers
  | 327 => some c_search_Letters_1
  | 330 => some c_search_Letters
  | 328 => some c_search_candidates_1
  | 329 => some c_search_candidates
  | 333 => some c_search_Find
  | 346 => some c_prune_Met_1
  | 347 => some c_prune_Met
  | 348 => some c_prune_Prune_1
  | 349 => some c_prune_Prune
  | 350 => some c_codec_check
  | 351 => some c_codec_Encode
  | 352 => some c_table_Rule_right
  | 353 => some c_table_Rule_bytes
  | 354 => some c_table_Right
  | 355 => some c_table_place
  | 356 => some c_table_own
  | 357 => some c_table_Learn
  | 358 => some c_table_same
  | 359 => some c_table_Find
  | 360 => some c_opt_clip_int
  | 361 => some c_opt_fair
  | 362 => some c_opt_good
  | 363 => some c_opt_shorter
  | 364 => some c_opt_round
  | 365 => some c_opt_Optimize
  | 392 => some c_word_Text
  | 393 => some c_names_name
  | 394 => some c_names_actions
  | 395 => some c_names_Action
  | 396 => some c_cond_Right
  | 397 => some c_cond_kinds_1
  | 398 => some c_cond_kinds_2
  | 399 => some c_cond_kinds_3
  | 400 => some c_cond_kinds_4
  | 401 => some c_cond_kinds_5
  | 402 => some c_cond_kinds_6
  | 403 => some c_cond_kinds
  | 404 => some c_cond_Not
  | 405 => some c_policy_may
  | 406 => some c_policy_Right
  | 407 => some c_code_ahead
  | 408 => some c_code_label
  | 409 => some c_code_Add
  | 410 => some c_code_Jump
  | _ => none
def tbl2 : Tbl
  | 411 => some c_code_closer
  | 412 => some c_code_Branch
  | 413 => some c_data_Low
  | 414 => some c_data_High
  | 415 => some c_lower_maker_took
  | 416 => some c_lower_maker_add
  | 417 => some c_lower_maker_branch
  | 418 => some c_lower_maker_part
  | 419 => some c_lower_maker_test_1
  | 420 => some c_lower_maker_test_2
  | 421 => some c_lower_maker_test
  | 423 => some c_lower_sorted_uint32
  | 424 => some c_lower_Lower_1_1
  | 425 => some c_lower_Lower_1
  | 428 => some c_lower_Lower
  | 427 => some c_lower_maker_rules
  | 426 => some c_lower_maker_tree
  | 429 => some c_codec_Decode
  | 430 => some c_hurdleref01_digits
  | 431 => some c_hurdleref01_Text
  | 432 => some c_hurdleref09_Action
  | 433 => some c_hurdleref08_Right
  | 436 => some c_hurdleref10_Right
  | 449 => some c_names_machines
  | 450 => some c_names_calls
  | 451 => some c_names_text
  | 452 => some c_names_read
  | 453 => some c_names_Machine
  | 454 => some c_names_ReadMachine
  | 455 => some c_names_Call
  | 456 => some c_names_ReadCall
  | 457 => some c_names_ReadAction
  | 458 => some c_cond_Print
  | 459 => some c_cond_cut
  | 460 => some c_cond_Parse
  | 461 => some c_policy_rule
  | 462 => some c_policy_Print
  | 463 => some c_policy_reader_word
  | 464 => some c_policy_reader_must
  | 465 => some c_policy_reader_condition
  | 466 => some c_policy_reader_rest
  | 467 => some c_policy_Parse
  | 468 => some c_ins_Print
  | 469 => some c_codec_Print
  | 470 => some c_hurdleref10_SameRule
  | 471 => some c_hurdleref10_Same
  | 472 => some c_crc_Sum
  | 473 => some c_crc_Open
  | 474 => some c_crc_Seal
  | 475 => some c_table_rule
  | 476 => some c_table_Decode
  | 477 => some c_table_Encode
  | 478 => some c_compile_Compile_1
  | 479 => some c_compile_Compile_2
  | 480 => some c_compile_Compile_3
  | 481 => some c_compile_Compile_4
  | 482 => some c_compile_Compile_5
  | 483 => some c_compile_Compile
  | 484 => some c_hurdletop_works
  | 485 => some c_hurdletop_TopBack
  | _ => none
def tblu1 : Tbl := fun f => match tbl0 f with
  | some c => some c
  | none => tbl1 f
def tbl : Tbl := fun f => match tblu1 f with
  | some c => some c
  | none => tbl2 f
def fmF : Nat → Go.FuncId
  | 107 => 80
  | 138 => 84
  | 139 => 63
  | 140 => 30
  | 141 => 79
  | 142 => 42
  | 143 => 111
  | 144 => 60
  | 145 => 64
  | 146 => 65
  | 147 => 32
  | 148 => 13
  | 149 => 146
  | 150 => 147
  | 151 => 148
  | 152 => 149
  | 153 => 150
  | 154 => 109
  | 155 => 110
  | 156 => 78
  | 157 => 41
  | 158 => 112
  | 159 => 151
  | 160 => 113
  | 161 => 81
  | 162 => 82
  | 163 => 83
  | 164 => 44
  | 165 => 43
  | 166 => 165
  | 167 => 166
  | 168 => 152
  | 169 => 153
  | 170 => 118
  | 171 => 117
  | 172 => 89
  | 174 => 136
  | 175 => 135
  | 176 => 134
  | 177 => 163
  | 178 => 101
  | 180 => 102
  | 181 => 62
  | 186 => 61
  | 187 => 28
  | 188 => 9
  | 201 => 14
  | 202 => 123
  | 204 => 115
  | 205 => 116
  | 206 => 122
  | 207 => 124
  | 208 => 91
  | 209 => 88
  | 100 => 220
  | 101 => 207
  | 102 => 202
  | 103 => 205
  | 104 => 208
  | 105 => 209
  | 106 => 219
  | 108 => 218
  | 109 => 206
  | 110 => 212
  | 112 => 187
  | 243 => 192
  | 244 => 178
  | 245 => 216
  | 246 => 221
  | 247 => 213
  | 248 => 217
  | 249 => 203
  | 250 => 222
  | 251 => 214
  | 252 => 211
  | 253 => 201
  | 254 => 204
  | 255 => 185
  | 256 => 155
  | 257 => 200
  | 258 => 183
  | 259 => 191
  | 260 => 179
  | 261 => 215
  | 262 => 180
  | 263 => 167
  | 264 => 184
  | 265 => 186
  | 266 => 189
  | 267 => 194
  | 268 => 196
  | 269 => 198
  | 270 => 193
  | 271 => 195
  | 272 => 197
  | 273 => 199
  | 274 => 181
  | 275 => 182
  | 276 => 190
  | 277 => 171
  | 230 => 16
  | 231 => 210
  | 232 => 188
  | 233 => 172
  | 292 => 173
  | 293 => 174
  | 294 => 159
  | 295 => 168
  | 296 => 156
  | 307 => 169
  | 308 => 160
  | 309 => 157
  | 310 => 170
  | 311 => 158
  | 312 => 120
  | 326 => 176
  | 327 => 175
  | 330 => 161
  | 328 => 177
  | 329 => 162
  | 333 => 121
  | 346 => 114
  | 347 => 85
  | 348 => 86
  | 349 => 45
  | 350 => 29
  | 351 => 10
  | 352 => 103
  | 353 => 76
  | 354 => 68
  | 355 => 125
  | 356 => 126
  | 357 => 92
  | 358 => 154
  | 359 => 119
  | 360 => 87
  | 361 => 46
  | 362 => 47
  | 363 => 90
  | 364 => 48
  | 365 => 17
  | 392 => 56
  | 393 => 54
  | 394 => 55
  | 395 => 22
  | 396 => 94
  | 397 => 127
  | 398 => 128
  | 399 => 129
  | 400 => 130
  | 401 => 131
  | 402 => 132
  | 403 => 98
  | 404 => 138
  | 405 => 50
  | 406 => 20
  | 407 => 137
  | 408 => 144
  | 409 => 105
  | 410 => 164
  | 411 => 145
  | 412 => 107
  | 413 => 140
  | 414 => 142
  | 415 => 104
  | 416 => 69
  | 417 => 75
  | 418 => 139
  | 419 => 141
  | 420 => 143
  | 421 => 106
  | 423 => 71
  | 424 => 72
  | 425 => 70
  | 428 => 36
  | 427 => 73
  | 426 => 74
  | 429 => 11
  | 430 => 93
  | 431 => 49
  | 432 => 18
  | 433 => 19
  | 436 => 5
  | 449 => 96
  | 450 => 97
  | 451 => 95
  | 452 => 99
  | 453 => 51
  | 454 => 57
  | 455 => 52
  | 456 => 58
  | 457 => 25
  | 458 => 53
  | 459 => 133
  | 460 => 100
  | 461 => 21
  | 462 => 6
  | 463 => 23
  | 464 => 26
  | 465 => 59
  | 466 => 24
  | 467 => 7
  | 468 => 31
  | 469 => 12
  | 470 => 27
  | 471 => 8
  | 472 => 108
  | 473 => 66
  | 474 => 77
  | 475 => 67
  | 476 => 33
  | 477 => 40
  | 478 => 34
  | 479 => 35
  | 480 => 37
  | 481 => 38
  | 482 => 39
  | 483 => 15
  | 484 => 4
  | 485 => 3
  | _ => 0
def fmG : Nat → Option (List V)
  | 0 => some g_ins_shapes
  | _ => none
def fm : Fm := ⟨fmF, fmG, fun _ _ _ => True⟩
theorem k_107 : chkFn Tryz.prog fm 80 c_word_Do = true := by kernel_rfl
theorem k_138 : chkFn Tryz.prog fm 84 c_word_Neg = true := by kernel_rfl
theorem k_139 : chkFn Tryz.prog fm 63 c_ins_of = true := by kernel_rfl
theorem k_140 : chkFn Tryz.prog fm 30 c_ins_Right = true := by kernel_rfl
theorem k_141 : chkFn Tryz.prog fm 79 c_ins_Alu = true := by kernel_rfl
theorem k_142 : chkFn Tryz.prog fm 42 c_ins_Branch = true := by kernel_rfl
theorem k_143 : chkFn Tryz.prog fm 111 c_ins_Ends = true := by kernel_rfl
theorem k_144 : chkFn Tryz.prog fm 60 c_word_Parse = true := by kernel_rfl
theorem k_145 : chkFn Tryz.prog fm 64 c_ins_words = true := by kernel_rfl
theorem k_146 : chkFn Tryz.prog fm 65 c_ins_Parse_1 = true := by kernel_rfl
theorem k_147 : chkFn Tryz.prog fm 32 c_ins_Parse = true := by kernel_rfl
theorem k_148 : chkFn Tryz.prog fm 13 c_codec_Parse = true := by kernel_rfl
theorem k_149 : chkFn Tryz.prog fm 146 c_check_rules_1 = true := by kernel_rfl
theorem k_150 : chkFn Tryz.prog fm 147 c_check_rules_2 = true := by kernel_rfl
theorem k_151 : chkFn Tryz.prog fm 148 c_check_rules_3 = true := by kernel_rfl
theorem k_152 : chkFn Tryz.prog fm 149 c_check_rules_4 = true := by kernel_rfl
theorem k_153 : chkFn Tryz.prog fm 150 c_check_rules_5 = true := by kernel_rfl
theorem k_154 : chkFn Tryz.prog fm 109 c_check_rules = true := by kernel_rfl
theorem k_155 : chkFn Tryz.prog fm 110 c_check_ways = true := by kernel_rfl
theorem k_156 : chkFn Tryz.prog fm 78 c_check_Check = true := by kernel_rfl
theorem k_157 : chkFn Tryz.prog fm 41 c_check_Sound = true := by kernel_rfl
theorem k_158 : chkFn Tryz.prog fm 112 c_data_there = true := by kernel_rfl
theorem k_159 : chkFn Tryz.prog fm 151 c_data_words_1 = true := by kernel_rfl
theorem k_160 : chkFn Tryz.prog fm 113 c_data_words = true := by kernel_rfl
theorem k_161 : chkFn Tryz.prog fm 81 c_data_Word = true := by kernel_rfl
theorem k_162 : chkFn Tryz.prog fm 82 c_run_cell = true := by kernel_rfl
theorem k_163 : chkFn Tryz.prog fm 83 c_run_store = true := by kernel_rfl
theorem k_164 : chkFn Tryz.prog fm 44 c_run_Step = true := by kernel_rfl
theorem k_165 : chkFn Tryz.prog fm 43 c_run_Takes = true := by kernel_rfl
theorem k_166 : chkFn Tryz.prog fm 165 c_live_cell = true := by kernel_rfl
theorem k_167 : chkFn Tryz.prog fm 166 c_live_byX = true := by kernel_rfl
theorem k_168 : chkFn Tryz.prog fm 152 c_live_Uses = true := by kernel_rfl
theorem k_169 : chkFn Tryz.prog fm 153 c_live_Sets = true := by kernel_rfl
theorem k_170 : chkFn Tryz.prog fm 118 c_live_nexts = true := by kernel_rfl
theorem k_171 : chkFn Tryz.prog fm 117 c_live_At = true := by kernel_rfl
theorem k_172 : chkFn Tryz.prog fm 89 c_live_Behind = true := by kernel_rfl
theorem k_174 : chkFn Tryz.prog fm 136 c_hurdleref02_branch = true := by kernel_rfl
theorem k_175 : chkFn Tryz.prog fm 135 c_hurdleref02_plain = true := by kernel_rfl
theorem k_176 : chkFn Tryz.prog fm 134 c_hurdleref02_place = true := by kernel_rfl
theorem k_177 : chkFn Tryz.prog fm 163 c_hurdleref02_Ops = true := by kernel_rfl
theorem k_178 : chkFn Tryz.prog fm 101 c_hurdleref02_Right = true := by kernel_rfl
theorem k_180 : chkFn Tryz.prog fm 102 c_hurdleref02_Branch = true := by kernel_rfl
theorem k_181 : chkFn Tryz.prog fm 62 c_hurdleref02_Ends = true := by kernel_rfl
theorem k_186 : chkFn Tryz.prog fm 61 c_hurdleref05_One = true := by kernel_rfl
theorem k_187 : chkFn Tryz.prog fm 28 c_hurdleref05_Check = true := by kernel_rfl
theorem k_188 : chkFn Tryz.prog fm 9 c_hurdleref05_Sound = true := by kernel_rfl
theorem k_201 : chkFn Tryz.prog fm 14 c_hurdleref03_Same = true := by kernel_rfl
theorem k_202 : chkFn Tryz.prog fm 123 c_window_Right = true := by kernel_rfl
theorem k_204 : chkFn Tryz.prog fm 115 c_splice_targets = true := by kernel_rfl
theorem k_205 : chkFn Tryz.prog fm 116 c_splice_free = true := by kernel_rfl
theorem k_206 : chkFn Tryz.prog fm 122 c_splice_Free = true := by kernel_rfl
theorem k_207 : chkFn Tryz.prog fm 124 c_splice_Put_1 = true := by kernel_rfl
theorem k_208 : chkFn Tryz.prog fm 91 c_splice_Put = true := by kernel_rfl
theorem k_209 : chkFn Tryz.prog fm 88 c_splice_Pieces = true := by kernel_rfl
theorem k_100 : chkFn Tryz.prog fm 220 c_bits_counts = true := by kernel_rfl
theorem k_101 : chkFn Tryz.prog fm 207 c_bits_Right = true := by kernel_rfl
theorem k_102 : chkFn Tryz.prog fm 202 c_bits_Const = true := by kernel_rfl
theorem k_103 : chkFn Tryz.prog fm 205 c_bits_Var = true := by kernel_rfl
theorem k_104 : chkFn Tryz.prog fm 208 c_bits_union = true := by kernel_rfl
theorem k_105 : chkFn Tryz.prog fm 209 c_bits_at = true := by kernel_rfl
theorem k_106 : chkFn Tryz.prog fm 219 c_bits_plain = true := by kernel_rfl
theorem k_108 : chkFn Tryz.prog fm 218 c_bits_Do_1 = true := by kernel_rfl
theorem k_109 : chkFn Tryz.prog fm 206 c_bits_Do = true := by kernel_rfl
theorem k_110 : chkFn Tryz.prog fm 212 c_bits_Eval = true := by kernel_rfl
theorem k_112 : chkFn Tryz.prog fm 187 c_bits_Apart = true := by kernel_rfl
theorem k_243 : chkFn Tryz.prog fm 192 c_affine_Const = true := by kernel_rfl
theorem k_244 : chkFn Tryz.prog fm 178 c_affine_Var = true := by kernel_rfl
theorem k_245 : chkFn Tryz.prog fm 216 c_affine_both = true := by kernel_rfl
theorem k_246 : chkFn Tryz.prog fm 221 c_affine_Add_1 = true := by kernel_rfl
theorem k_247 : chkFn Tryz.prog fm 213 c_affine_Add = true := by kernel_rfl
theorem k_248 : chkFn Tryz.prog fm 217 c_affine_Sub_1 = true := by kernel_rfl
theorem k_249 : chkFn Tryz.prog fm 203 c_affine_Sub = true := by kernel_rfl
theorem k_250 : chkFn Tryz.prog fm 222 c_affine_Mul_1 = true := by kernel_rfl
theorem k_251 : chkFn Tryz.prog fm 214 c_affine_Mul = true := by kernel_rfl
theorem k_252 : chkFn Tryz.prog fm 211 c_affine_Eval = true := by kernel_rfl
theorem k_253 : chkFn Tryz.prog fm 201 c_affine_Constant = true := by kernel_rfl
theorem k_254 : chkFn Tryz.prog fm 204 c_affine_Single = true := by kernel_rfl
theorem k_255 : chkFn Tryz.prog fm 185 c_affine_Apart = true := by kernel_rfl
theorem k_256 : chkFn Tryz.prog fm 155 c_sym_New = true := by kernel_rfl
theorem k_257 : chkFn Tryz.prog fm 200 c_sym_Book_Len = true := by kernel_rfl
theorem k_258 : chkFn Tryz.prog fm 183 c_sym_Book_has = true := by kernel_rfl
theorem k_259 : chkFn Tryz.prog fm 191 c_sym_Book_id = true := by kernel_rfl
theorem k_260 : chkFn Tryz.prog fm 179 c_sym_Book_sum = true := by kernel_rfl
theorem k_261 : chkFn Tryz.prog fm 215 c_sym_Book_bits = true := by kernel_rfl
theorem k_262 : chkFn Tryz.prog fm 180 c_sym_Book_Const = true := by kernel_rfl
theorem k_263 : chkFn Tryz.prog fm 167 c_sym_Book_Var = true := by kernel_rfl
theorem k_264 : chkFn Tryz.prog fm 184 c_sym_Book_asSum = true := by kernel_rfl
theorem k_265 : chkFn Tryz.prog fm 186 c_sym_Book_asBits = true := by kernel_rfl
theorem k_266 : chkFn Tryz.prog fm 189 c_sym_Book_Constant = true := by kernel_rfl
theorem k_267 : chkFn Tryz.prog fm 194 c_sym_Book_sums = true := by kernel_rfl
theorem k_268 : chkFn Tryz.prog fm 196 c_sym_Book_both = true := by kernel_rfl
theorem k_269 : chkFn Tryz.prog fm 198 c_sym_Book_plain = true := by kernel_rfl
theorem k_270 : chkFn Tryz.prog fm 193 c_sym_Book_Alu_1 = true := by kernel_rfl
theorem k_271 : chkFn Tryz.prog fm 195 c_sym_Book_Alu_2 = true := by kernel_rfl
theorem k_272 : chkFn Tryz.prog fm 197 c_sym_Book_Alu_3 = true := by kernel_rfl
theorem k_273 : chkFn Tryz.prog fm 199 c_sym_Book_Alu_4 = true := by kernel_rfl
theorem k_274 : chkFn Tryz.prog fm 181 c_sym_Book_Alu = true := by kernel_rfl
theorem k_275 : chkFn Tryz.prog fm 182 c_sym_Book_Neg = true := by kernel_rfl
theorem k_276 : chkFn Tryz.prog fm 190 c_sym_Book_Eval = true := by kernel_rfl
theorem k_277 : chkFn Tryz.prog fm 171 c_sym_Book_Apart = true := by kernel_rfl
theorem k_230 : chkFn Tryz.prog fm 16 c_run_Run = true := by kernel_rfl
theorem k_231 : chkFn Tryz.prog fm 210 c_data_of_1 = true := by kernel_rfl
theorem k_232 : chkFn Tryz.prog fm 188 c_data_of = true := by kernel_rfl
theorem k_233 : chkFn Tryz.prog fm 172 c_data_With = true := by kernel_rfl
theorem k_292 : chkFn Tryz.prog fm 173 c_window_Run = true := by kernel_rfl
theorem k_293 : chkFn Tryz.prog fm 174 c_window_Assign = true := by kernel_rfl
theorem k_294 : chkFn Tryz.prog fm 159 c_window_State = true := by kernel_rfl
theorem k_295 : chkFn Tryz.prog fm 168 c_window_step = true := by kernel_rfl
theorem k_296 : chkFn Tryz.prog fm 156 c_window_Of = true := by kernel_rfl
theorem k_307 : chkFn Tryz.prog fm 169 c_decide_in = true := by kernel_rfl
theorem k_308 : chkFn Tryz.prog fm 160 c_decide_Differs = true := by kernel_rfl
theorem k_309 : chkFn Tryz.prog fm 157 c_decide_same = true := by kernel_rfl
theorem k_310 : chkFn Tryz.prog fm 170 c_decide_tries_1 = true := by kernel_rfl
theorem k_311 : chkFn Tryz.prog fm 158 c_decide_tries = true := by kernel_rfl
theorem k_312 : chkFn Tryz.prog fm 120 c_decide_Decide = true := by kernel_rfl
theorem k_326 : chkFn Tryz.prog fm 176 c_search_numbers = true := by kernel_rfl
theorem k_327 : chkFn Tryz.prog fm 175 c_search_Letters_1 = true := by kernel_rfl
theorem k_330 : chkFn Tryz.prog fm 161 c_search_Letters = true := by kernel_rfl
theorem k_328 : chkFn Tryz.prog fm 177 c_search_candidates_1 = true := by kernel_rfl
theorem k_329 : chkFn Tryz.prog fm 162 c_search_candidates = true := by kernel_rfl
theorem k_333 : chkFn Tryz.prog fm 121 c_search_Find = true := by kernel_rfl
theorem k_346 : chkFn Tryz.prog fm 114 c_prune_Met_1 = true := by kernel_rfl
theorem k_347 : chkFn Tryz.prog fm 85 c_prune_Met = true := by kernel_rfl
theorem k_348 : chkFn Tryz.prog fm 86 c_prune_Prune_1 = true := by kernel_rfl
theorem k_349 : chkFn Tryz.prog fm 45 c_prune_Prune = true := by kernel_rfl
theorem k_350 : chkFn Tryz.prog fm 29 c_codec_check = true := by kernel_rfl
theorem k_351 : chkFn Tryz.prog fm 10 c_codec_Encode = true := by kernel_rfl
theorem k_352 : chkFn Tryz.prog fm 103 c_table_Rule_right = true := by kernel_rfl
theorem k_353 : chkFn Tryz.prog fm 76 c_table_Rule_bytes = true := by kernel_rfl
theorem k_354 : chkFn Tryz.prog fm 68 c_table_Right = true := by kernel_rfl
theorem k_355 : chkFn Tryz.prog fm 125 c_table_place = true := by kernel_rfl
theorem k_356 : chkFn Tryz.prog fm 126 c_table_own = true := by kernel_rfl
theorem k_357 : chkFn Tryz.prog fm 92 c_table_Learn = true := by kernel_rfl
theorem k_358 : chkFn Tryz.prog fm 154 c_table_same = true := by kernel_rfl
theorem k_359 : chkFn Tryz.prog fm 119 c_table_Find = true := by kernel_rfl
theorem k_360 : chkFn Tryz.prog fm 87 c_opt_clip_int = true := by kernel_rfl
theorem k_361 : chkFn Tryz.prog fm 46 c_opt_fair = true := by kernel_rfl
theorem k_362 : chkFn Tryz.prog fm 47 c_opt_good = true := by kernel_rfl
theorem k_363 : chkFn Tryz.prog fm 90 c_opt_shorter = true := by kernel_rfl
theorem k_364 : chkFn Tryz.prog fm 48 c_opt_round = true := by kernel_rfl
theorem k_365 : chkFn Tryz.prog fm 17 c_opt_Optimize = true := by kernel_rfl
theorem k_392 : chkFn Tryz.prog fm 56 c_word_Text = true := by kernel_rfl
theorem k_394 : chkFn Tryz.prog fm 55 c_names_actions = true := by kernel_rfl
theorem k_395 : chkFn Tryz.prog fm 22 c_names_Action = true := by kernel_rfl
theorem k_396 : chkFn Tryz.prog fm 94 c_cond_Right = true := by kernel_rfl
theorem k_397 : chkFn Tryz.prog fm 127 c_cond_kinds_1 = true := by kernel_rfl
theorem k_398 : chkFn Tryz.prog fm 128 c_cond_kinds_2 = true := by kernel_rfl
theorem k_399 : chkFn Tryz.prog fm 129 c_cond_kinds_3 = true := by kernel_rfl
theorem k_400 : chkFn Tryz.prog fm 130 c_cond_kinds_4 = true := by kernel_rfl
theorem k_401 : chkFn Tryz.prog fm 131 c_cond_kinds_5 = true := by kernel_rfl
theorem k_402 : chkFn Tryz.prog fm 132 c_cond_kinds_6 = true := by kernel_rfl
theorem k_403 : chkFn Tryz.prog fm 98 c_cond_kinds = true := by kernel_rfl
theorem k_404 : chkFn Tryz.prog fm 138 c_cond_Not = true := by kernel_rfl
theorem k_405 : chkFn Tryz.prog fm 50 c_policy_may = true := by kernel_rfl
theorem k_406 : chkFn Tryz.prog fm 20 c_policy_Right = true := by kernel_rfl
theorem k_407 : chkFn Tryz.prog fm 137 c_code_ahead = true := by kernel_rfl
theorem k_408 : chkFn Tryz.prog fm 144 c_code_label = true := by kernel_rfl
theorem k_409 : chkFn Tryz.prog fm 105 c_code_Add = true := by kernel_rfl
theorem k_410 : chkFn Tryz.prog fm 164 c_code_Jump = true := by kernel_rfl
theorem k_411 : chkFn Tryz.prog fm 145 c_code_closer = true := by kernel_rfl
theorem k_412 : chkFn Tryz.prog fm 107 c_code_Branch = true := by kernel_rfl
theorem k_413 : chkFn Tryz.prog fm 140 c_data_Low = true := by kernel_rfl
theorem k_414 : chkFn Tryz.prog fm 142 c_data_High = true := by kernel_rfl
theorem k_415 : chkFn Tryz.prog fm 104 c_lower_maker_took = true := by kernel_rfl
theorem k_416 : chkFn Tryz.prog fm 69 c_lower_maker_add = true := by kernel_rfl
theorem k_417 : chkFn Tryz.prog fm 75 c_lower_maker_branch = true := by kernel_rfl
theorem k_418 : chkFn Tryz.prog fm 139 c_lower_maker_part = true := by kernel_rfl
theorem k_419 : chkFn Tryz.prog fm 141 c_lower_maker_test_1 = true := by kernel_rfl
theorem k_420 : chkFn Tryz.prog fm 143 c_lower_maker_test_2 = true := by kernel_rfl
theorem k_421 : chkFn Tryz.prog fm 106 c_lower_maker_test = true := by kernel_rfl
theorem k_423 : chkFn Tryz.prog fm 71 c_lower_sorted_uint32 = true := by kernel_rfl
theorem k_424 : chkFn Tryz.prog fm 72 c_lower_Lower_1_1 = true := by kernel_rfl
theorem k_425 : chkFn Tryz.prog fm 70 c_lower_Lower_1 = true := by kernel_rfl
theorem k_428 : chkFn Tryz.prog fm 36 c_lower_Lower = true := by kernel_rfl
theorem k_427 : chkFn Tryz.prog fm 73 c_lower_maker_rules = true := by kernel_rfl
theorem k_426 : chkFn Tryz.prog fm 74 c_lower_maker_tree = true := by kernel_rfl
theorem k_429 : chkFn Tryz.prog fm 11 c_codec_Decode = true := by kernel_rfl
theorem k_430 : chkFn Tryz.prog fm 93 c_hurdleref01_digits = true := by kernel_rfl
theorem k_431 : chkFn Tryz.prog fm 49 c_hurdleref01_Text = true := by kernel_rfl
theorem k_432 : chkFn Tryz.prog fm 18 c_hurdleref09_Action = true := by kernel_rfl
theorem k_433 : chkFn Tryz.prog fm 19 c_hurdleref08_Right = true := by kernel_rfl
theorem k_436 : chkFn Tryz.prog fm 5 c_hurdleref10_Right = true := by kernel_rfl
theorem k_449 : chkFn Tryz.prog fm 96 c_names_machines = true := by kernel_rfl
theorem k_450 : chkFn Tryz.prog fm 97 c_names_calls = true := by kernel_rfl
theorem k_451 : chkFn Tryz.prog fm 95 c_names_text = true := by kernel_rfl
theorem k_452 : chkFn Tryz.prog fm 99 c_names_read = true := by kernel_rfl
theorem k_453 : chkFn Tryz.prog fm 51 c_names_Machine = true := by kernel_rfl
theorem k_454 : chkFn Tryz.prog fm 57 c_names_ReadMachine = true := by kernel_rfl
theorem k_455 : chkFn Tryz.prog fm 52 c_names_Call = true := by kernel_rfl
theorem k_456 : chkFn Tryz.prog fm 58 c_names_ReadCall = true := by kernel_rfl
theorem k_457 : chkFn Tryz.prog fm 25 c_names_ReadAction = true := by kernel_rfl
theorem k_458 : chkFn Tryz.prog fm 53 c_cond_Print = true := by kernel_rfl
theorem k_459 : chkFn Tryz.prog fm 133 c_cond_cut = true := by kernel_rfl
theorem k_460 : chkFn Tryz.prog fm 100 c_cond_Parse = true := by kernel_rfl
theorem k_461 : chkFn Tryz.prog fm 21 c_policy_rule = true := by kernel_rfl
theorem k_462 : chkFn Tryz.prog fm 6 c_policy_Print = true := by kernel_rfl
theorem k_463 : chkFn Tryz.prog fm 23 c_policy_reader_word = true := by kernel_rfl
theorem k_464 : chkFn Tryz.prog fm 26 c_policy_reader_must = true := by kernel_rfl
theorem k_465 : chkFn Tryz.prog fm 59 c_policy_reader_condition = true := by kernel_rfl
theorem k_466 : chkFn Tryz.prog fm 24 c_policy_reader_rest = true := by kernel_rfl
theorem k_467 : chkFn Tryz.prog fm 7 c_policy_Parse = true := by kernel_rfl
theorem k_468 : chkFn Tryz.prog fm 31 c_ins_Print = true := by kernel_rfl
theorem k_469 : chkFn Tryz.prog fm 12 c_codec_Print = true := by kernel_rfl
theorem k_470 : chkFn Tryz.prog fm 27 c_hurdleref10_SameRule = true := by kernel_rfl
theorem k_471 : chkFn Tryz.prog fm 8 c_hurdleref10_Same = true := by kernel_rfl
theorem k_472 : chkFn Tryz.prog fm 108 c_crc_Sum = true := by kernel_rfl
theorem k_473 : chkFn Tryz.prog fm 66 c_crc_Open = true := by kernel_rfl
theorem k_474 : chkFn Tryz.prog fm 77 c_crc_Seal = true := by kernel_rfl
theorem k_475 : chkFn Tryz.prog fm 67 c_table_rule = true := by kernel_rfl
theorem k_476 : chkFn Tryz.prog fm 33 c_table_Decode = true := by kernel_rfl
theorem k_477 : chkFn Tryz.prog fm 40 c_table_Encode = true := by kernel_rfl
theorem k_478 : chkFn Tryz.prog fm 34 c_compile_Compile_1 = true := by kernel_rfl
theorem k_479 : chkFn Tryz.prog fm 35 c_compile_Compile_2 = true := by kernel_rfl
theorem k_480 : chkFn Tryz.prog fm 37 c_compile_Compile_3 = true := by kernel_rfl
theorem k_481 : chkFn Tryz.prog fm 38 c_compile_Compile_4 = true := by kernel_rfl
theorem k_482 : chkFn Tryz.prog fm 39 c_compile_Compile_5 = true := by kernel_rfl
theorem k_483 : chkFn Tryz.prog fm 15 c_compile_Compile = true := by kernel_rfl
theorem k_484 : chkFn Tryz.prog fm 4 c_hurdletop_works = true := by kernel_rfl
theorem k_485 : chkFn Tryz.prog fm 3 c_hurdletop_TopBack = true := by kernel_rfl
set_option maxRecDepth 100000 in
set_option maxHeartbeats 8000000 in
theorem checkedN0 (h393 : NatOk Tryz.prog fm 393 0) : ∀ f c, tbl0 f = some c → FnOk Tryz.prog fm f c := by
  intro f c h
  unfold tbl0 at h
  split at h
  · cases h; exact .inl k_107
  · cases h; exact .inl k_138
  · cases h; exact .inl k_139
  · cases h; exact .inl k_140
  · cases h; exact .inl k_141
  · cases h; exact .inl k_142
  · cases h; exact .inl k_143
  · cases h; exact .inl k_144
  · cases h; exact .inl k_145
  · cases h; exact .inl k_146
  · cases h; exact .inl k_147
  · cases h; exact .inl k_148
  · cases h; exact .inl k_149
  · cases h; exact .inl k_150
  · cases h; exact .inl k_151
  · cases h; exact .inl k_152
  · cases h; exact .inl k_153
  · cases h; exact .inl k_154
  · cases h; exact .inl k_155
  · cases h; exact .inl k_156
  · cases h; exact .inl k_157
  · cases h; exact .inl k_158
  · cases h; exact .inl k_159
  · cases h; exact .inl k_160
  · cases h; exact .inl k_161
  · cases h; exact .inl k_162
  · cases h; exact .inl k_163
  · cases h; exact .inl k_164
  · cases h; exact .inl k_165
  · cases h; exact .inl k_166
  · cases h; exact .inl k_167
  · cases h; exact .inl k_168
  · cases h; exact .inl k_169
  · cases h; exact .inl k_170
  · cases h; exact .inl k_171
  · cases h; exact .inl k_172
  · cases h; exact .inl k_174
  · cases h; exact .inl k_175
  · cases h; exact .inl k_176
  · cases h; exact .inl k_177
  · cases h; exact .inl k_178
  · cases h; exact .inl k_180
  · cases h; exact .inl k_181
  · cases h; exact .inl k_186
  · cases h; exact .inl k_187
  · cases h; exact .inl k_188
  · cases h; exact .inl k_201
  · cases h; exact .inl k_202
  · cases h; exact .inl k_204
  · cases h; exact .inl k_205
  · cases h; exact .inl k_206
  · cases h; exact .inl k_207
  · cases h; exact .inl k_208
  · cases h; exact .inl k_209
  · cases h; exact .inl k_100
  · cases h; exact .inl k_101
  · cases h; exact .inl k_102
  · cases h; exact .inl k_103
  · cases h; exact .inl k_104
  · cases h; exact .inl k_105
  · cases h; exact .inl k_106
  · cases h; exact .inl k_108
  · cases h; exact .inl k_109
  · cases h; exact .inl k_110
  · cases h; exact .inl k_112
  · cases h; exact .inl k_243
  · cases h; exact .inl k_244
  · cases h; exact .inl k_245
  · cases h; exact .inl k_246
  · cases h; exact .inl k_247
  · cases h; exact .inl k_248
  · cases h; exact .inl k_249
  · cases h; exact .inl k_250
  · cases h; exact .inl k_251
  · cases h; exact .inl k_252
  · cases h; exact .inl k_253
  · cases h; exact .inl k_254
  · cases h; exact .inl k_255
  · cases h; exact .inl k_256
  · cases h; exact .inl k_257
  · cases h
set_option maxRecDepth 100000 in
set_option maxHeartbeats 8000000 in
theorem checkedN1 (h393 : NatOk Tryz.prog fm 393 0) : ∀ f c, tbl1 f = some c → FnOk Tryz.prog fm f c := by
  intro f c h
  unfold tbl1 at h
  split at h
  · cases h; exact .inl k_258
  · cases h; exact .inl k_259
  · cases h; exact .inl k_260
  · cases h; exact .inl k_261
  · cases h; exact .inl k_262
  · cases h; exact .inl k_263
  · cases h; exact .inl k_264
  · cases h; exact .inl k_265
  · cases h; exact .inl k_266
  · cases h; exact .inl k_267
  · cases h; exact .inl k_268
  · cases h; exact .inl k_269
  · cases h; exact .inl k_270
  · cases h; exact .inl k_271
  · cases h; exact .inl k_272
  · cases h; exact .inl k_273
  · cases h; exact .inl k_274
  · cases h; exact .inl k_275
  · cases h; exact .inl k_276
  · cases h; exact .inl k_277
  · cases h; exact .inl k_230
  · cases h; exact .inl k_231
  · cases h; exact .inl k_232
  · cases h; exact .inl k_233
  · cases h; exact .inl k_292
  · cases h; exact .inl k_293
  · cases h; exact .inl k_294
  · cases h; exact .inl k_295
  · cases h; exact .inl k_296
  · cases h; exact .inl k_307
  · cases h; exact .inl k_308
  · cases h; exact .inl k_309
  · cases h; exact .inl k_310
  · cases h; exact .inl k_311
  · cases h; exact .inl k_312
  · cases h; exact .inl k_326
  · cases h; exact .inl k_327
  · cases h; exact .inl k_330
  · cases h; exact .inl k_328
  · cases h; exact .inl k_329
  · cases h; exact .inl k_333
  · cases h; exact .inl k_346
  · cases h; exact .inl k_347
  · cases h; exact .inl k_348
  · cases h; exact .inl k_349
  · cases h; exact .inl k_350
  · cases h; exact .inl k_351
  · cases h; exact .inl k_352
  · cases h; exact .inl k_353
  · cases h; exact .inl k_354
  · cases h; exact .inl k_355
  · cases h; exact .inl k_356
  · cases h; exact .inl k_357
  · cases h; exact .inl k_358
  · cases h; exact .inl k_359
  · cases h; exact .inl k_360
  · cases h; exact .inl k_361
  · cases h; exact .inl k_362
  · cases h; exact .inl k_363
  · cases h; exact .inl k_364
  · cases h; exact .inl k_365
  · cases h; exact .inl k_392
  · cases h; exact .inr ⟨0, rfl, h393⟩
  · cases h; exact .inl k_394
  · cases h; exact .inl k_395
  · cases h; exact .inl k_396
  · cases h; exact .inl k_397
  · cases h; exact .inl k_398
  · cases h; exact .inl k_399
  · cases h; exact .inl k_400
  · cases h; exact .inl k_401
  · cases h; exact .inl k_402
  · cases h; exact .inl k_403
  · cases h; exact .inl k_404
  · cases h; exact .inl k_405
  · cases h; exact .inl k_406
  · cases h; exact .inl k_407
  · cases h; exact .inl k_408
  · cases h; exact .inl k_409
  · cases h; exact .inl k_410
  · cases h
set_option maxRecDepth 100000 in
set_option maxHeartbeats 8000000 in
theorem checkedN2 (h393 : NatOk Tryz.prog fm 393 0) : ∀ f c, tbl2 f = some c → FnOk Tryz.prog fm f c := by
  intro f c h
  unfold tbl2 at h
  split at h
  · cases h; exact .inl k_411
  · cases h; exact .inl k_412
  · cases h; exact .inl k_413
  · cases h; exact .inl k_414
  · cases h; exact .inl k_415
  · cases h; exact .inl k_416
  · cases h; exact .inl k_417
  · cases h; exact .inl k_418
  · cases h; exact .inl k_419
  · cases h; exact .inl k_420
  · cases h; exact .inl k_421
  · cases h; exact .inl k_423
  · cases h; exact .inl k_424
  · cases h; exact .inl k_425
  · cases h; exact .inl k_428
  · cases h; exact .inl k_427
  · cases h; exact .inl k_426
  · cases h; exact .inl k_429
  · cases h; exact .inl k_430
  · cases h; exact .inl k_431
  · cases h; exact .inl k_432
  · cases h; exact .inl k_433
  · cases h; exact .inl k_436
  · cases h; exact .inl k_449
  · cases h; exact .inl k_450
  · cases h; exact .inl k_451
  · cases h; exact .inl k_452
  · cases h; exact .inl k_453
  · cases h; exact .inl k_454
  · cases h; exact .inl k_455
  · cases h; exact .inl k_456
  · cases h; exact .inl k_457
  · cases h; exact .inl k_458
  · cases h; exact .inl k_459
  · cases h; exact .inl k_460
  · cases h; exact .inl k_461
  · cases h; exact .inl k_462
  · cases h; exact .inl k_463
  · cases h; exact .inl k_464
  · cases h; exact .inl k_465
  · cases h; exact .inl k_466
  · cases h; exact .inl k_467
  · cases h; exact .inl k_468
  · cases h; exact .inl k_469
  · cases h; exact .inl k_470
  · cases h; exact .inl k_471
  · cases h; exact .inl k_472
  · cases h; exact .inl k_473
  · cases h; exact .inl k_474
  · cases h; exact .inl k_475
  · cases h; exact .inl k_476
  · cases h; exact .inl k_477
  · cases h; exact .inl k_478
  · cases h; exact .inl k_479
  · cases h; exact .inl k_480
  · cases h; exact .inl k_481
  · cases h; exact .inl k_482
  · cases h; exact .inl k_483
  · cases h; exact .inl k_484
  · cases h; exact .inl k_485
  · cases h
theorem checkedNu1 (h393 : NatOk Tryz.prog fm 393 0) : ∀ f c, tblu1 f = some c → FnOk Tryz.prog fm f c := by
  intro f c h
  unfold tblu1 at h
  split at h
  · rename_i hc; cases h; exact checkedN0 h393 f _ hc
  · exact checkedN1 h393 f c h
theorem checkedN (h393 : NatOk Tryz.prog fm 393 0) : ∀ f c, tbl f = some c → FnOk Tryz.prog fm f c := by
  intro f c h
  unfold tbl at h
  split at h
  · rename_i hc; cases h; exact checkedNu1 h393 f _ hc
  · exact checkedN2 h393 f c h
instance hasIns : HasIns tbl := ⟨rfl, rfl, rfl, rfl, rfl⟩
instance hasParse : HasParse tbl := ⟨rfl, rfl, rfl, rfl, rfl⟩
instance hasCheck : HasCheck tbl := ⟨rfl⟩
instance hasR2 : HasR2 tbl := ⟨rfl, rfl, rfl, rfl, rfl, rfl, rfl⟩
instance hasR5o : HasR5o tbl := ⟨rfl⟩
instance hasR5 : HasR5 tbl := ⟨rfl, rfl⟩
instance hasR3 : HasR3 tbl := ⟨rfl⟩
instance hasAffine : HasAffine tbl := ⟨rfl⟩
instance hasEnc : HasEnc tbl := ⟨rfl, rfl⟩
instance hasWText : HasWText tbl := ⟨rfl⟩
instance hasName : HasName tbl := ⟨rfl, rfl, rfl⟩
instance hasCondR : HasCondR tbl := ⟨rfl⟩
instance hasCondN : HasCondN tbl := ⟨rfl⟩
instance hasPol : HasPol tbl := ⟨rfl, rfl⟩
instance hasDcd : HasDcd tbl := ⟨rfl⟩
instance hasR1t : HasR1t tbl := ⟨rfl, rfl⟩
instance hasR9a : HasR9a tbl := ⟨rfl⟩
instance hasR8 : HasR8 tbl := ⟨rfl⟩
instance hasR10 : HasR10 tbl := ⟨rfl⟩
instance hasTopN : HasTopN tbl := ⟨rfl, rfl, rfl, rfl, rfl, rfl, rfl, rfl, rfl⟩
instance hasTopC : HasTopC tbl := ⟨rfl, rfl, rfl⟩
instance hasTopP : HasTopP tbl := ⟨rfl, rfl⟩
instance hasTopR : HasTopR tbl := ⟨rfl, rfl, rfl, rfl, rfl⟩
instance hasTopI : HasTopI tbl := ⟨rfl, rfl⟩
instance hasTopS : HasTopS tbl := ⟨rfl, rfl⟩
instance hasTopB : HasTopB tbl := ⟨rfl⟩

end Go.Proofs.YtablmcdlcpphjaaGreatDoor
