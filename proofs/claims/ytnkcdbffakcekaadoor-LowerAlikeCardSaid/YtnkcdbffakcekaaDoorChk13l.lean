/- The seat's table of simplified functions; each is checked against the loaded program. -/
import Derived.Test.YtnkcdbffakcekaaDoorProg
import Derived.KernelRfl
import Derived.Test.YtnkcdbffakcekaaDoorEvNW
import Derived.Test.YtnkcdbffakcekaaDoorEvLowCW
set_option linter.unusedVariables false
set_option linter.unusedSimpArgs false
namespace Go.Proofs.YtnkcdbffakcekaaDoor
open Go.Ev

def tbl : Tbl
  | 107 => some c_word_Do
  | 138 => some c_word_Neg
  | 139 => some c_ins_of
  | 140 => some c_ins_Right
  | 141 => some c_ins_Alu
  | 142 => some c_ins_Branch
  | 143 => some c_ins_Ends
  | 149 => some c_check_rules_1
  | 150 => some c_check_rules_2
  | 151 => some c_check_rules_3
  | 152 => some c_check_rules_4
  | 153 => some c_check_rules_5
  | 154 => some c_check_rules
  | 155 => some c_check_ways
  | 156 => some c_check_Check
  | 157 => some c_check_Sound
  | 158 => some c_data_there
  | 159 => some c_data_words_1
  | 160 => some c_data_words
  | 161 => some c_data_Word
  | 162 => some c_run_cell
  | 163 => some c_run_store
  | 164 => some c_run_Step
  | 165 => some c_run_Takes
  | 201 => some c_hurdleref03_Same
  | 230 => some c_run_Run
  | 392 => some c_word_Text
  | 393 => some c_names_name
  | 394 => some c_names_actions
  | 395 => some c_names_Action
  | 396 => some c_cond_Right
  | 397 => some c_cond_kinds_1
  | 398 => some c_cond_kinds_2
  | 399 => some c_cond_kinds_3
  | 400 => some c_cond_kinds_4
  | 401 => some c_cond_kinds_5
  | 402 => some c_cond_kinds_6
  | 403 => some c_cond_kinds
  | 404 => some c_cond_Not
  | 405 => some c_policy_may
  | 406 => some c_policy_Right
  | 407 => some c_code_ahead
  | 408 => some c_code_label
  | 409 => some c_code_Add
  | 410 => some c_code_Jump
  | 411 => some c_code_closer
  | 412 => some c_code_Branch
  | 413 => some c_data_Low
  | 414 => some c_data_High
  | 415 => some c_lower_maker_took
  | 416 => some c_lower_maker_add
  | 417 => some c_lower_maker_branch
  | 418 => some c_lower_maker_part
  | 419 => some c_lower_maker_test_1
  | 420 => some c_lower_maker_test_2
  | 421 => some c_lower_maker_test
  | 423 => some c_lower_sorted_uint32
  | 424 => some c_lower_Lower_1_1
  | 425 => some c_lower_Lower_1
  | 428 => some c_lower_Lower
  | 427 => some c_lower_maker_rules
  | 426 => some c_lower_maker_tree
  | 442 => some c_hurdlelaw10_Great
  | 443 => some c_hurdlelaw13_knows
  | 446 => some c_hurdlelaw13_LowerAlike
  | _ => none
def fmF : Nat → Go.FuncId
  | 107 => 57
  | 138 => 61
  | 139 => 55
  | 140 => 47
  | 141 => 56
  | 142 => 35
  | 143 => 79
  | 149 => 96
  | 150 => 97
  | 151 => 98
  | 152 => 99
  | 153 => 100
  | 154 => 77
  | 155 => 78
  | 156 => 48
  | 157 => 24
  | 158 => 87
  | 159 => 102
  | 160 => 88
  | 161 => 58
  | 162 => 59
  | 163 => 60
  | 164 => 37
  | 165 => 36
  | 201 => 17
  | 230 => 12
  | 392 => 82
  | 393 => 80
  | 394 => 81
  | 395 => 50
  | 396 => 40
  | 397 => 104
  | 398 => 105
  | 399 => 106
  | 400 => 107
  | 401 => 108
  | 402 => 109
  | 403 => 90
  | 404 => 65
  | 405 => 49
  | 406 => 26
  | 407 => 83
  | 408 => 84
  | 409 => 52
  | 410 => 101
  | 411 => 85
  | 412 => 53
  | 413 => 67
  | 414 => 69
  | 415 => 51
  | 416 => 27
  | 417 => 33
  | 418 => 66
  | 419 => 68
  | 420 => 70
  | 421 => 41
  | 423 => 29
  | 424 => 30
  | 425 => 28
  | 428 => 10
  | 427 => 31
  | 426 => 32
  | 442 => 8
  | 443 => 9
  | 446 => 5
  | _ => 0
def fmG : Nat → Option (List V)
  | 0 => some g_ins_shapes
  | _ => none
def fm : Fm := ⟨fmF, fmG, fun _ _ _ => True⟩
theorem k_107 : chkFn Tryd.prog fm 57 c_word_Do = true := by kernel_rfl
theorem k_138 : chkFn Tryd.prog fm 61 c_word_Neg = true := by kernel_rfl
theorem k_139 : chkFn Tryd.prog fm 55 c_ins_of = true := by kernel_rfl
theorem k_140 : chkFn Tryd.prog fm 47 c_ins_Right = true := by kernel_rfl
theorem k_141 : chkFn Tryd.prog fm 56 c_ins_Alu = true := by kernel_rfl
theorem k_142 : chkFn Tryd.prog fm 35 c_ins_Branch = true := by kernel_rfl
theorem k_143 : chkFn Tryd.prog fm 79 c_ins_Ends = true := by kernel_rfl
theorem k_149 : chkFn Tryd.prog fm 96 c_check_rules_1 = true := by kernel_rfl
theorem k_150 : chkFn Tryd.prog fm 97 c_check_rules_2 = true := by kernel_rfl
theorem k_151 : chkFn Tryd.prog fm 98 c_check_rules_3 = true := by kernel_rfl
theorem k_152 : chkFn Tryd.prog fm 99 c_check_rules_4 = true := by kernel_rfl
theorem k_153 : chkFn Tryd.prog fm 100 c_check_rules_5 = true := by kernel_rfl
theorem k_154 : chkFn Tryd.prog fm 77 c_check_rules = true := by kernel_rfl
theorem k_155 : chkFn Tryd.prog fm 78 c_check_ways = true := by kernel_rfl
theorem k_156 : chkFn Tryd.prog fm 48 c_check_Check = true := by kernel_rfl
theorem k_157 : chkFn Tryd.prog fm 24 c_check_Sound = true := by kernel_rfl
theorem k_158 : chkFn Tryd.prog fm 87 c_data_there = true := by kernel_rfl
theorem k_159 : chkFn Tryd.prog fm 102 c_data_words_1 = true := by kernel_rfl
theorem k_160 : chkFn Tryd.prog fm 88 c_data_words = true := by kernel_rfl
theorem k_161 : chkFn Tryd.prog fm 58 c_data_Word = true := by kernel_rfl
theorem k_162 : chkFn Tryd.prog fm 59 c_run_cell = true := by kernel_rfl
theorem k_163 : chkFn Tryd.prog fm 60 c_run_store = true := by kernel_rfl
theorem k_164 : chkFn Tryd.prog fm 37 c_run_Step = true := by kernel_rfl
theorem k_165 : chkFn Tryd.prog fm 36 c_run_Takes = true := by kernel_rfl
theorem k_201 : chkFn Tryd.prog fm 17 c_hurdleref03_Same = true := by kernel_rfl
theorem k_230 : chkFn Tryd.prog fm 12 c_run_Run = true := by kernel_rfl
theorem k_392 : chkFn Tryd.prog fm 82 c_word_Text = true := by kernel_rfl
theorem k_394 : chkFn Tryd.prog fm 81 c_names_actions = true := by kernel_rfl
theorem k_395 : chkFn Tryd.prog fm 50 c_names_Action = true := by kernel_rfl
theorem k_396 : chkFn Tryd.prog fm 40 c_cond_Right = true := by kernel_rfl
theorem k_397 : chkFn Tryd.prog fm 104 c_cond_kinds_1 = true := by kernel_rfl
theorem k_398 : chkFn Tryd.prog fm 105 c_cond_kinds_2 = true := by kernel_rfl
theorem k_399 : chkFn Tryd.prog fm 106 c_cond_kinds_3 = true := by kernel_rfl
theorem k_400 : chkFn Tryd.prog fm 107 c_cond_kinds_4 = true := by kernel_rfl
theorem k_401 : chkFn Tryd.prog fm 108 c_cond_kinds_5 = true := by kernel_rfl
theorem k_402 : chkFn Tryd.prog fm 109 c_cond_kinds_6 = true := by kernel_rfl
theorem k_403 : chkFn Tryd.prog fm 90 c_cond_kinds = true := by kernel_rfl
theorem k_404 : chkFn Tryd.prog fm 65 c_cond_Not = true := by kernel_rfl
theorem k_405 : chkFn Tryd.prog fm 49 c_policy_may = true := by kernel_rfl
theorem k_406 : chkFn Tryd.prog fm 26 c_policy_Right = true := by kernel_rfl
theorem k_407 : chkFn Tryd.prog fm 83 c_code_ahead = true := by kernel_rfl
theorem k_408 : chkFn Tryd.prog fm 84 c_code_label = true := by kernel_rfl
theorem k_409 : chkFn Tryd.prog fm 52 c_code_Add = true := by kernel_rfl
theorem k_410 : chkFn Tryd.prog fm 101 c_code_Jump = true := by kernel_rfl
theorem k_411 : chkFn Tryd.prog fm 85 c_code_closer = true := by kernel_rfl
theorem k_412 : chkFn Tryd.prog fm 53 c_code_Branch = true := by kernel_rfl
theorem k_413 : chkFn Tryd.prog fm 67 c_data_Low = true := by kernel_rfl
theorem k_414 : chkFn Tryd.prog fm 69 c_data_High = true := by kernel_rfl
theorem k_415 : chkFn Tryd.prog fm 51 c_lower_maker_took = true := by kernel_rfl
theorem k_416 : chkFn Tryd.prog fm 27 c_lower_maker_add = true := by kernel_rfl
theorem k_417 : chkFn Tryd.prog fm 33 c_lower_maker_branch = true := by kernel_rfl
theorem k_418 : chkFn Tryd.prog fm 66 c_lower_maker_part = true := by kernel_rfl
theorem k_419 : chkFn Tryd.prog fm 68 c_lower_maker_test_1 = true := by kernel_rfl
theorem k_420 : chkFn Tryd.prog fm 70 c_lower_maker_test_2 = true := by kernel_rfl
theorem k_421 : chkFn Tryd.prog fm 41 c_lower_maker_test = true := by kernel_rfl
theorem k_423 : chkFn Tryd.prog fm 29 c_lower_sorted_uint32 = true := by kernel_rfl
theorem k_424 : chkFn Tryd.prog fm 30 c_lower_Lower_1_1 = true := by kernel_rfl
theorem k_425 : chkFn Tryd.prog fm 28 c_lower_Lower_1 = true := by kernel_rfl
theorem k_428 : chkFn Tryd.prog fm 10 c_lower_Lower = true := by kernel_rfl
theorem k_427 : chkFn Tryd.prog fm 31 c_lower_maker_rules = true := by kernel_rfl
theorem k_426 : chkFn Tryd.prog fm 32 c_lower_maker_tree = true := by kernel_rfl
theorem k_442 : chkFn Tryd.prog fm 8 c_hurdlelaw10_Great = true := by kernel_rfl
theorem k_443 : chkFn Tryd.prog fm 9 c_hurdlelaw13_knows = true := by kernel_rfl
theorem k_446 : chkFn Tryd.prog fm 5 c_hurdlelaw13_LowerAlike = true := by kernel_rfl
set_option maxRecDepth 100000 in
theorem checkedN (h393 : NatOk Tryd.prog fm 393 0) : ∀ f c, tbl f = some c → FnOk Tryd.prog fm f c := by
  intro f c h
  unfold tbl at h
  split at h
  · cases h; exact .inl k_107
  · cases h; exact .inl k_138
  · cases h; exact .inl k_139
  · cases h; exact .inl k_140
  · cases h; exact .inl k_141
  · cases h; exact .inl k_142
  · cases h; exact .inl k_143
  · cases h; exact .inl k_149
  · cases h; exact .inl k_150
  · cases h; exact .inl k_151
  · cases h; exact .inl k_152
  · cases h; exact .inl k_153
  · cases h; exact .inl k_154
  · cases h; exact .inl k_155
  · cases h; exact .inl k_156
  · cases h; exact .inl k_157
  · cases h; exact .inl k_158
  · cases h; exact .inl k_159
  · cases h; exact .inl k_160
  · cases h; exact .inl k_161
  · cases h; exact .inl k_162
  · cases h; exact .inl k_163
  · cases h; exact .inl k_164
  · cases h; exact .inl k_165
  · cases h; exact .inl k_201
  · cases h; exact .inl k_230
  · cases h; exact .inl k_392
  · cases h; exact .inr ⟨0, rfl, h393⟩
  · cases h; exact .inl k_394
  · cases h; exact .inl k_395
  · cases h; exact .inl k_396
  · cases h; exact .inl k_397
  · cases h; exact .inl k_398
  · cases h; exact .inl k_399
  · cases h; exact .inl k_400
  · cases h; exact .inl k_401
  · cases h; exact .inl k_402
  · cases h; exact .inl k_403
  · cases h; exact .inl k_404
  · cases h; exact .inl k_405
  · cases h; exact .inl k_406
  · cases h; exact .inl k_407
  · cases h; exact .inl k_408
  · cases h; exact .inl k_409
  · cases h; exact .inl k_410
  · cases h; exact .inl k_411
  · cases h; exact .inl k_412
  · cases h; exact .inl k_413
  · cases h; exact .inl k_414
  · cases h; exact .inl k_415
  · cases h; exact .inl k_416
  · cases h; exact .inl k_417
  · cases h; exact .inl k_418
  · cases h; exact .inl k_419
  · cases h; exact .inl k_420
  · cases h; exact .inl k_421
  · cases h; exact .inl k_423
  · cases h; exact .inl k_424
  · cases h; exact .inl k_425
  · cases h; exact .inl k_428
  · cases h; exact .inl k_427
  · cases h; exact .inl k_426
  · cases h; exact .inl k_442
  · cases h; exact .inl k_443
  · cases h; exact .inl k_446
  · cases h
instance hasIns : HasIns tbl := ⟨rfl, rfl, rfl, rfl⟩
instance hasCheck : HasCheck tbl := ⟨rfl⟩
instance hasR3 : HasR3 tbl := ⟨rfl⟩
instance hasWText : HasWText tbl := ⟨rfl⟩
instance hasName : HasName tbl := ⟨rfl, rfl, rfl⟩
instance hasCondR : HasCondR tbl := ⟨rfl⟩
instance hasCondN : HasCondN tbl := ⟨rfl, rfl⟩
instance hasPol : HasPol tbl := ⟨rfl, rfl⟩
instance hasCode : HasCode tbl := ⟨rfl, rfl, rfl, rfl, rfl, rfl⟩
instance hasDataL : HasDataL tbl := ⟨rfl, rfl⟩
instance hasMk : HasMk tbl := ⟨rfl, rfl, rfl, rfl, rfl, rfl, rfl⟩
instance hasLow : HasLow tbl := ⟨rfl, rfl, rfl, rfl, rfl, rfl⟩
instance hasL10g : HasL10g tbl := ⟨rfl⟩
instance hasL13 : HasL13 tbl := ⟨rfl⟩

end Go.Proofs.YtnkcdbffakcekaaDoor
