/- The seat's table of simplified functions; each is checked against the loaded program. -/
import Derived.Test.YtcjnmejhdoeafaaDoorProg
import Derived.KernelRfl
import Derived.Test.YtcjnmejhdoeafaaDoorEvInsCW
set_option linter.unusedVariables false
set_option linter.unusedSimpArgs false
namespace Go.Proofs.YtcjnmejhdoeafaaDoor
open Go.Ev

def tbl : Tbl
  | 139 => some c_ins_of
  | 140 => some c_ins_Right
  | 142 => some c_ins_Branch
  | 143 => some c_ins_Ends
  | 144 => some c_word_Parse
  | 145 => some c_ins_words
  | 146 => some c_ins_Parse_1
  | 147 => some c_ins_Parse
  | 148 => some c_codec_Parse
  | 149 => some c_check_rules_1
  | 150 => some c_check_rules_2
  | 151 => some c_check_rules_3
  | 152 => some c_check_rules_4
  | 153 => some c_check_rules_5
  | 154 => some c_check_rules
  | 155 => some c_check_ways
  | 156 => some c_check_Check
  | 157 => some c_check_Sound
  | 174 => some c_hurdleref02_branch
  | 175 => some c_hurdleref02_plain
  | 176 => some c_hurdleref02_place
  | 177 => some c_hurdleref02_Ops
  | 178 => some c_hurdleref02_Right
  | 180 => some c_hurdleref02_Branch
  | 181 => some c_hurdleref02_Ends
  | 186 => some c_hurdleref05_One
  | 187 => some c_hurdleref05_Check
  | 188 => some c_hurdleref05_Sound
  | 201 => some c_hurdleref03_Same
  | 202 => some c_window_Right
  | 203 => some c_hurdleref17_Right
  | 204 => some c_splice_targets
  | 205 => some c_splice_free
  | 206 => some c_splice_Free
  | 207 => some c_splice_Put_1
  | 208 => some c_splice_Put
  | 209 => some c_splice_Pieces
  | 210 => some c_hurdleref22_jumps
  | 211 => some c_hurdleref22_Free
  | 212 => some c_hurdleref22_place
  | 213 => some c_hurdleref22_Put
  | 223 => some c_hurdlelaw22_great
  | 224 => some c_hurdlelaw22_knows
  | 225 => some c_hurdlelaw22_SplicePuts
  | _ => none
def fmF : Nat → Go.FuncId
  | 139 => 26
  | 140 => 39
  | 142 => 15
  | 143 => 25
  | 144 => 35
  | 145 => 33
  | 146 => 34
  | 147 => 24
  | 148 => 11
  | 149 => 42
  | 150 => 43
  | 151 => 44
  | 152 => 45
  | 153 => 46
  | 154 => 38
  | 155 => 40
  | 156 => 31
  | 157 => 19
  | 174 => 29
  | 175 => 41
  | 176 => 30
  | 177 => 37
  | 178 => 36
  | 180 => 18
  | 181 => 27
  | 186 => 28
  | 187 => 32
  | 188 => 22
  | 201 => 10
  | 202 => 13
  | 203 => 16
  | 204 => 21
  | 205 => 20
  | 206 => 8
  | 207 => 14
  | 208 => 6
  | 209 => 12
  | 210 => 23
  | 211 => 9
  | 212 => 17
  | 213 => 7
  | 223 => 4
  | 224 => 5
  | 225 => 3
  | _ => 0
def fmG : Nat → Option (List V)
  | 0 => some g_ins_shapes
  | _ => none
def fm : Fm := ⟨fmF, fmG, fun _ _ _ => True⟩
theorem k_139 : chkFn Tryd.prog fm 26 c_ins_of = true := by kernel_rfl
theorem k_140 : chkFn Tryd.prog fm 39 c_ins_Right = true := by kernel_rfl
theorem k_142 : chkFn Tryd.prog fm 15 c_ins_Branch = true := by kernel_rfl
theorem k_143 : chkFn Tryd.prog fm 25 c_ins_Ends = true := by kernel_rfl
theorem k_144 : chkFn Tryd.prog fm 35 c_word_Parse = true := by kernel_rfl
theorem k_145 : chkFn Tryd.prog fm 33 c_ins_words = true := by kernel_rfl
theorem k_146 : chkFn Tryd.prog fm 34 c_ins_Parse_1 = true := by kernel_rfl
theorem k_147 : chkFn Tryd.prog fm 24 c_ins_Parse = true := by kernel_rfl
theorem k_148 : chkFn Tryd.prog fm 11 c_codec_Parse = true := by kernel_rfl
theorem k_149 : chkFn Tryd.prog fm 42 c_check_rules_1 = true := by kernel_rfl
theorem k_150 : chkFn Tryd.prog fm 43 c_check_rules_2 = true := by kernel_rfl
theorem k_151 : chkFn Tryd.prog fm 44 c_check_rules_3 = true := by kernel_rfl
theorem k_152 : chkFn Tryd.prog fm 45 c_check_rules_4 = true := by kernel_rfl
theorem k_153 : chkFn Tryd.prog fm 46 c_check_rules_5 = true := by kernel_rfl
theorem k_154 : chkFn Tryd.prog fm 38 c_check_rules = true := by kernel_rfl
theorem k_155 : chkFn Tryd.prog fm 40 c_check_ways = true := by kernel_rfl
theorem k_156 : chkFn Tryd.prog fm 31 c_check_Check = true := by kernel_rfl
theorem k_157 : chkFn Tryd.prog fm 19 c_check_Sound = true := by kernel_rfl
theorem k_174 : chkFn Tryd.prog fm 29 c_hurdleref02_branch = true := by kernel_rfl
theorem k_175 : chkFn Tryd.prog fm 41 c_hurdleref02_plain = true := by kernel_rfl
theorem k_176 : chkFn Tryd.prog fm 30 c_hurdleref02_place = true := by kernel_rfl
theorem k_177 : chkFn Tryd.prog fm 37 c_hurdleref02_Ops = true := by kernel_rfl
theorem k_178 : chkFn Tryd.prog fm 36 c_hurdleref02_Right = true := by kernel_rfl
theorem k_180 : chkFn Tryd.prog fm 18 c_hurdleref02_Branch = true := by kernel_rfl
theorem k_181 : chkFn Tryd.prog fm 27 c_hurdleref02_Ends = true := by kernel_rfl
theorem k_186 : chkFn Tryd.prog fm 28 c_hurdleref05_One = true := by kernel_rfl
theorem k_187 : chkFn Tryd.prog fm 32 c_hurdleref05_Check = true := by kernel_rfl
theorem k_188 : chkFn Tryd.prog fm 22 c_hurdleref05_Sound = true := by kernel_rfl
theorem k_201 : chkFn Tryd.prog fm 10 c_hurdleref03_Same = true := by kernel_rfl
theorem k_202 : chkFn Tryd.prog fm 13 c_window_Right = true := by kernel_rfl
theorem k_203 : chkFn Tryd.prog fm 16 c_hurdleref17_Right = true := by kernel_rfl
theorem k_204 : chkFn Tryd.prog fm 21 c_splice_targets = true := by kernel_rfl
theorem k_205 : chkFn Tryd.prog fm 20 c_splice_free = true := by kernel_rfl
theorem k_206 : chkFn Tryd.prog fm 8 c_splice_Free = true := by kernel_rfl
theorem k_207 : chkFn Tryd.prog fm 14 c_splice_Put_1 = true := by kernel_rfl
theorem k_208 : chkFn Tryd.prog fm 6 c_splice_Put = true := by kernel_rfl
theorem k_209 : chkFn Tryd.prog fm 12 c_splice_Pieces = true := by kernel_rfl
theorem k_210 : chkFn Tryd.prog fm 23 c_hurdleref22_jumps = true := by kernel_rfl
theorem k_211 : chkFn Tryd.prog fm 9 c_hurdleref22_Free = true := by kernel_rfl
theorem k_212 : chkFn Tryd.prog fm 17 c_hurdleref22_place = true := by kernel_rfl
theorem k_213 : chkFn Tryd.prog fm 7 c_hurdleref22_Put = true := by kernel_rfl
theorem k_223 : chkFn Tryd.prog fm 4 c_hurdlelaw22_great = true := by kernel_rfl
theorem k_224 : chkFn Tryd.prog fm 5 c_hurdlelaw22_knows = true := by kernel_rfl
theorem k_225 : chkFn Tryd.prog fm 3 c_hurdlelaw22_SplicePuts = true := by kernel_rfl
set_option maxRecDepth 100000 in
theorem checked : ∀ f c, tbl f = some c → chkFn Tryd.prog fm (fm f) c = true := by
  intro f c h
  unfold tbl at h
  split at h
  · cases h; exact k_139
  · cases h; exact k_140
  · cases h; exact k_142
  · cases h; exact k_143
  · cases h; exact k_144
  · cases h; exact k_145
  · cases h; exact k_146
  · cases h; exact k_147
  · cases h; exact k_148
  · cases h; exact k_149
  · cases h; exact k_150
  · cases h; exact k_151
  · cases h; exact k_152
  · cases h; exact k_153
  · cases h; exact k_154
  · cases h; exact k_155
  · cases h; exact k_156
  · cases h; exact k_157
  · cases h; exact k_174
  · cases h; exact k_175
  · cases h; exact k_176
  · cases h; exact k_177
  · cases h; exact k_178
  · cases h; exact k_180
  · cases h; exact k_181
  · cases h; exact k_186
  · cases h; exact k_187
  · cases h; exact k_188
  · cases h; exact k_201
  · cases h; exact k_202
  · cases h; exact k_203
  · cases h; exact k_204
  · cases h; exact k_205
  · cases h; exact k_206
  · cases h; exact k_207
  · cases h; exact k_208
  · cases h; exact k_209
  · cases h; exact k_210
  · cases h; exact k_211
  · cases h; exact k_212
  · cases h; exact k_213
  · cases h; exact k_223
  · cases h; exact k_224
  · cases h; exact k_225
  · cases h
instance hasIns : HasIns tbl := ⟨rfl, rfl, rfl, rfl⟩
instance hasCheck : HasCheck tbl := ⟨rfl, rfl, rfl, rfl, rfl, rfl, rfl, rfl, rfl⟩
instance hasR2 : HasR2 tbl := ⟨rfl, rfl, rfl, rfl, rfl, rfl, rfl⟩
instance hasR5o : HasR5o tbl := ⟨rfl⟩
instance hasR5 : HasR5 tbl := ⟨rfl, rfl⟩
instance hasR3 : HasR3 tbl := ⟨rfl⟩
instance hasWRight : HasWRight tbl := ⟨rfl⟩
instance hasR17 : HasR17 tbl := ⟨rfl⟩
instance hasSpl : HasSpl tbl := ⟨rfl, rfl, rfl, rfl, rfl⟩
instance hasR22 : HasR22 tbl := ⟨rfl, rfl, rfl, rfl⟩
instance hasL22 : HasL22 tbl := ⟨rfl, rfl⟩

end Go.Proofs.YtcjnmejhdoeafaaDoor
