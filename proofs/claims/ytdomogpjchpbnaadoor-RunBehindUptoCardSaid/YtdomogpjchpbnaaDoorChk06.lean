/- The seat's table of simplified functions; each is checked against the loaded program. -/
import Derived.Test.YtdomogpjchpbnaaDoorProg
import Derived.Test.YtdomogpjchpbnaaDoorEvWordC
import Derived.Test.YtdomogpjchpbnaaDoorEvInsC
import Derived.Test.YtdomogpjchpbnaaDoorEvRef15C
import Derived.Test.YtdomogpjchpbnaaDoorEvRefC
import Derived.Test.YtdomogpjchpbnaaDoorEvRunC
import Derived.Test.YtdomogpjchpbnaaDoorEvLaw06C
import Derived.KernelRfl
namespace Go.Proofs.YtdomogpjchpbnaaDoor
open Go.Ev

def tbl : Tbl
  | 107 => some c_word_Do
  | 125 => some c_hurdleref01_power
  | 126 => some c_hurdleref01_bit
  | 127 => some c_hurdleref01_bits
  | 122 => some c_hurdleref01_Do
  | 138 => some c_word_Neg
  | 139 => some c_ins_of
  | 140 => some c_ins_Right
  | 141 => some c_ins_Alu
  | 142 => some c_ins_Branch
  | 143 => some c_ins_Ends
  | 144 => some c_word_Parse
  | 145 => some c_ins_words
  | 146 => some c_ins_Parse_1
  | 147 => some c_ins_Parse
  | 148 => some c_codec_Parse
  | 149 => some c_check_rules_1
  | 150 => some c_check_rules_2
  | 151 => some c_check_rules_3
  | 152 => some c_check_rules_4
  | 153 => some c_check_rules_5
  | 154 => some c_check_rules
  | 155 => some c_check_ways
  | 156 => some c_check_Check
  | 157 => some c_check_Sound
  | 158 => some c_data_there
  | 159 => some c_data_words_1
  | 160 => some c_data_words
  | 161 => some c_data_Word
  | 162 => some c_run_cell
  | 163 => some c_run_store
  | 164 => some c_run_Step
  | 165 => some c_run_Takes
  | 173 => some c_hurdleref01_Neg
  | 174 => some c_hurdleref02_branch
  | 175 => some c_hurdleref02_plain
  | 176 => some c_hurdleref02_place
  | 177 => some c_hurdleref02_Ops
  | 178 => some c_hurdleref02_Right
  | 179 => some c_hurdleref02_Alu
  | 180 => some c_hurdleref02_Branch
  | 181 => some c_hurdleref02_Ends
  | 182 => some c_hurdleref04_low
  | 183 => some c_hurdleref04_number
  | 184 => some c_hurdleref04_Bytes
  | 185 => some c_hurdleref04_Word
  | 186 => some c_hurdleref05_One
  | 187 => some c_hurdleref05_Check
  | 188 => some c_hurdleref05_Sound
  | 190 => some c_hurdleref06_Step
  | 191 => some c_hurdleref06_Takes
  | 192 => some c_hurdleref06_From
  | 230 => some c_run_Run
  | 231 => some c_data_of_1
  | 232 => some c_data_of
  | 233 => some c_data_With
  | 234 => some c_hurdleref06_Run
  | 235 => some c_hurdlelaw06_knows
  | 236 => some c_hurdlelaw06_RunSteps
  | 237 => some c_hurdlelaw06_RunRuns
  | 238 => some c_hurdlelaw06_RunEnds
  | 239 => some c_hurdlelaw06_RunLoads
  | 240 => some c_hurdlelaw06_RunBehind
  | 241 => some c_hurdlelaw06_RunJumps
  | 242 => some c_hurdlelaw06_RunFlips
  | _ => none
def fmF : Nat → Go.FuncId
  | 107 => 21
  | 125 => 36
  | 126 => 49
  | 127 => 35
  | 122 => 18
  | 138 => 25
  | 139 => 40
  | 140 => 58
  | 141 => 20
  | 142 => 32
  | 143 => 60
  | 144 => 56
  | 145 => 54
  | 146 => 55
  | 147 => 45
  | 148 => 30
  | 149 => 62
  | 150 => 63
  | 151 => 64
  | 152 => 65
  | 153 => 66
  | 154 => 57
  | 155 => 59
  | 156 => 46
  | 157 => 31
  | 158 => 37
  | 159 => 50
  | 160 => 38
  | 161 => 22
  | 162 => 23
  | 163 => 24
  | 164 => 10
  | 165 => 12
  | 173 => 28
  | 174 => 44
  | 175 => 67
  | 176 => 41
  | 177 => 52
  | 178 => 61
  | 179 => 26
  | 180 => 29
  | 181 => 48
  | 182 => 53
  | 183 => 42
  | 184 => 43
  | 185 => 27
  | 186 => 47
  | 187 => 33
  | 188 => 16
  | 190 => 11
  | 191 => 13
  | 192 => 34
  | 230 => 15
  | 231 => 51
  | 232 => 39
  | 233 => 19
  | 234 => 17
  | 235 => 14
  | 236 => 3
  | 237 => 4
  | 238 => 5
  | 239 => 9
  | 240 => 6
  | 241 => 7
  | 242 => 8
  | _ => 0
def fmG : Nat → Option (List V)
  | 0 => some g_ins_shapes
  | _ => none
def fm : Fm := ⟨fmF, fmG⟩
theorem k_107 : chkFn Tryd.prog fm 21 c_word_Do = true := by kernel_rfl
theorem k_125 : chkFn Tryd.prog fm 36 c_hurdleref01_power = true := by kernel_rfl
theorem k_126 : chkFn Tryd.prog fm 49 c_hurdleref01_bit = true := by kernel_rfl
theorem k_127 : chkFn Tryd.prog fm 35 c_hurdleref01_bits = true := by kernel_rfl
theorem k_122 : chkFn Tryd.prog fm 18 c_hurdleref01_Do = true := by kernel_rfl
theorem k_138 : chkFn Tryd.prog fm 25 c_word_Neg = true := by kernel_rfl
theorem k_139 : chkFn Tryd.prog fm 40 c_ins_of = true := by kernel_rfl
theorem k_140 : chkFn Tryd.prog fm 58 c_ins_Right = true := by kernel_rfl
theorem k_141 : chkFn Tryd.prog fm 20 c_ins_Alu = true := by kernel_rfl
theorem k_142 : chkFn Tryd.prog fm 32 c_ins_Branch = true := by kernel_rfl
theorem k_143 : chkFn Tryd.prog fm 60 c_ins_Ends = true := by kernel_rfl
theorem k_144 : chkFn Tryd.prog fm 56 c_word_Parse = true := by kernel_rfl
theorem k_145 : chkFn Tryd.prog fm 54 c_ins_words = true := by kernel_rfl
theorem k_146 : chkFn Tryd.prog fm 55 c_ins_Parse_1 = true := by kernel_rfl
theorem k_147 : chkFn Tryd.prog fm 45 c_ins_Parse = true := by kernel_rfl
theorem k_148 : chkFn Tryd.prog fm 30 c_codec_Parse = true := by kernel_rfl
theorem k_149 : chkFn Tryd.prog fm 62 c_check_rules_1 = true := by kernel_rfl
theorem k_150 : chkFn Tryd.prog fm 63 c_check_rules_2 = true := by kernel_rfl
theorem k_151 : chkFn Tryd.prog fm 64 c_check_rules_3 = true := by kernel_rfl
theorem k_152 : chkFn Tryd.prog fm 65 c_check_rules_4 = true := by kernel_rfl
theorem k_153 : chkFn Tryd.prog fm 66 c_check_rules_5 = true := by kernel_rfl
theorem k_154 : chkFn Tryd.prog fm 57 c_check_rules = true := by kernel_rfl
theorem k_155 : chkFn Tryd.prog fm 59 c_check_ways = true := by kernel_rfl
theorem k_156 : chkFn Tryd.prog fm 46 c_check_Check = true := by kernel_rfl
theorem k_157 : chkFn Tryd.prog fm 31 c_check_Sound = true := by kernel_rfl
theorem k_158 : chkFn Tryd.prog fm 37 c_data_there = true := by kernel_rfl
theorem k_159 : chkFn Tryd.prog fm 50 c_data_words_1 = true := by kernel_rfl
theorem k_160 : chkFn Tryd.prog fm 38 c_data_words = true := by kernel_rfl
theorem k_161 : chkFn Tryd.prog fm 22 c_data_Word = true := by kernel_rfl
theorem k_162 : chkFn Tryd.prog fm 23 c_run_cell = true := by kernel_rfl
theorem k_163 : chkFn Tryd.prog fm 24 c_run_store = true := by kernel_rfl
theorem k_164 : chkFn Tryd.prog fm 10 c_run_Step = true := by kernel_rfl
theorem k_165 : chkFn Tryd.prog fm 12 c_run_Takes = true := by kernel_rfl
theorem k_173 : chkFn Tryd.prog fm 28 c_hurdleref01_Neg = true := by kernel_rfl
theorem k_174 : chkFn Tryd.prog fm 44 c_hurdleref02_branch = true := by kernel_rfl
theorem k_175 : chkFn Tryd.prog fm 67 c_hurdleref02_plain = true := by kernel_rfl
theorem k_176 : chkFn Tryd.prog fm 41 c_hurdleref02_place = true := by kernel_rfl
theorem k_177 : chkFn Tryd.prog fm 52 c_hurdleref02_Ops = true := by kernel_rfl
theorem k_178 : chkFn Tryd.prog fm 61 c_hurdleref02_Right = true := by kernel_rfl
theorem k_179 : chkFn Tryd.prog fm 26 c_hurdleref02_Alu = true := by kernel_rfl
theorem k_180 : chkFn Tryd.prog fm 29 c_hurdleref02_Branch = true := by kernel_rfl
theorem k_181 : chkFn Tryd.prog fm 48 c_hurdleref02_Ends = true := by kernel_rfl
theorem k_182 : chkFn Tryd.prog fm 53 c_hurdleref04_low = true := by kernel_rfl
theorem k_183 : chkFn Tryd.prog fm 42 c_hurdleref04_number = true := by kernel_rfl
theorem k_184 : chkFn Tryd.prog fm 43 c_hurdleref04_Bytes = true := by kernel_rfl
theorem k_185 : chkFn Tryd.prog fm 27 c_hurdleref04_Word = true := by kernel_rfl
theorem k_186 : chkFn Tryd.prog fm 47 c_hurdleref05_One = true := by kernel_rfl
theorem k_187 : chkFn Tryd.prog fm 33 c_hurdleref05_Check = true := by kernel_rfl
theorem k_188 : chkFn Tryd.prog fm 16 c_hurdleref05_Sound = true := by kernel_rfl
theorem k_190 : chkFn Tryd.prog fm 11 c_hurdleref06_Step = true := by kernel_rfl
theorem k_191 : chkFn Tryd.prog fm 13 c_hurdleref06_Takes = true := by kernel_rfl
theorem k_192 : chkFn Tryd.prog fm 34 c_hurdleref06_From = true := by kernel_rfl
theorem k_230 : chkFn Tryd.prog fm 15 c_run_Run = true := by kernel_rfl
theorem k_231 : chkFn Tryd.prog fm 51 c_data_of_1 = true := by kernel_rfl
theorem k_232 : chkFn Tryd.prog fm 39 c_data_of = true := by kernel_rfl
theorem k_233 : chkFn Tryd.prog fm 19 c_data_With = true := by kernel_rfl
theorem k_234 : chkFn Tryd.prog fm 17 c_hurdleref06_Run = true := by kernel_rfl
theorem k_235 : chkFn Tryd.prog fm 14 c_hurdlelaw06_knows = true := by kernel_rfl
theorem k_236 : chkFn Tryd.prog fm 3 c_hurdlelaw06_RunSteps = true := by kernel_rfl
theorem k_237 : chkFn Tryd.prog fm 4 c_hurdlelaw06_RunRuns = true := by kernel_rfl
theorem k_238 : chkFn Tryd.prog fm 5 c_hurdlelaw06_RunEnds = true := by kernel_rfl
theorem k_239 : chkFn Tryd.prog fm 9 c_hurdlelaw06_RunLoads = true := by kernel_rfl
theorem k_240 : chkFn Tryd.prog fm 6 c_hurdlelaw06_RunBehind = true := by kernel_rfl
theorem k_241 : chkFn Tryd.prog fm 7 c_hurdlelaw06_RunJumps = true := by kernel_rfl
theorem k_242 : chkFn Tryd.prog fm 8 c_hurdlelaw06_RunFlips = true := by kernel_rfl
theorem checked : ∀ f c, tbl f = some c → chkFn Tryd.prog fm (fm f) c = true := by
  intro f c h
  unfold tbl at h
  split at h
  · cases h; exact k_107
  · cases h; exact k_125
  · cases h; exact k_126
  · cases h; exact k_127
  · cases h; exact k_122
  · cases h; exact k_138
  · cases h; exact k_139
  · cases h; exact k_140
  · cases h; exact k_141
  · cases h; exact k_142
  · cases h; exact k_143
  · cases h; exact k_144
  · cases h; exact k_145
  · cases h; exact k_146
  · cases h; exact k_147
  · cases h; exact k_148
  · cases h; exact k_149
  · cases h; exact k_150
  · cases h; exact k_151
  · cases h; exact k_152
  · cases h; exact k_153
  · cases h; exact k_154
  · cases h; exact k_155
  · cases h; exact k_156
  · cases h; exact k_157
  · cases h; exact k_158
  · cases h; exact k_159
  · cases h; exact k_160
  · cases h; exact k_161
  · cases h; exact k_162
  · cases h; exact k_163
  · cases h; exact k_164
  · cases h; exact k_165
  · cases h; exact k_173
  · cases h; exact k_174
  · cases h; exact k_175
  · cases h; exact k_176
  · cases h; exact k_177
  · cases h; exact k_178
  · cases h; exact k_179
  · cases h; exact k_180
  · cases h; exact k_181
  · cases h; exact k_182
  · cases h; exact k_183
  · cases h; exact k_184
  · cases h; exact k_185
  · cases h; exact k_186
  · cases h; exact k_187
  · cases h; exact k_188
  · cases h; exact k_190
  · cases h; exact k_191
  · cases h; exact k_192
  · cases h; exact k_230
  · cases h; exact k_231
  · cases h; exact k_232
  · cases h; exact k_233
  · cases h; exact k_234
  · cases h; exact k_235
  · cases h; exact k_236
  · cases h; exact k_237
  · cases h; exact k_238
  · cases h; exact k_239
  · cases h; exact k_240
  · cases h; exact k_241
  · cases h; exact k_242
  · cases h
instance hasWd : HasWd tbl := ⟨rfl⟩
instance hasR1 : HasR1 tbl := ⟨rfl, rfl, rfl, rfl⟩
instance hasNeg : HasNeg tbl := ⟨rfl⟩
instance hasIns : HasIns tbl := ⟨rfl, rfl, rfl, rfl, rfl⟩
instance hasParse : HasParse tbl := ⟨rfl, rfl, rfl, rfl, rfl⟩
instance hasCheck : HasCheck tbl := ⟨rfl, rfl, rfl, rfl, rfl, rfl, rfl, rfl, rfl⟩
instance hasData : HasData tbl := ⟨rfl, rfl, rfl, rfl⟩
instance hasStep : HasStep tbl := ⟨rfl, rfl, rfl⟩
instance hasTakes : HasTakes tbl := ⟨rfl⟩
-- not whole: HasTells: hurdle/live.cell hurdle/live.byX hurdle/live.Uses hurdle/live.Sets
-- not whole: HasLive: hurdle/live.nexts hurdle/live.At hurdle/live.Behind
-- not whole: HasRef15: hurdle/hurdleref15.size hurdle/hurdleref15.turned hurdle/hurdleref15.Right hurdle/hurdleref15.Both hurdle/hurdleref15.Assign hurdle/hurdleref15.bit hurdle/hurdleref15.Eval hurdle/hurdleref15.without hurdle/hurdleref15.Do hurdle/hurdleref15.Same hurdle/hurdleref15.Apart
instance hasR1n : HasR1n tbl := ⟨rfl⟩
instance hasR2 : HasR2 tbl := ⟨rfl, rfl, rfl, rfl, rfl, rfl, rfl, rfl⟩
instance hasR4 : HasR4 tbl := ⟨rfl, rfl, rfl, rfl⟩
instance hasR5 : HasR5 tbl := ⟨rfl, rfl, rfl⟩
-- not whole: HasR5n: hurdle/hurdleref05.Next
instance hasR6s : HasR6s tbl := ⟨rfl⟩
instance hasR6 : HasR6 tbl := ⟨rfl, rfl⟩
-- not whole: HasR7: hurdle/hurdleref07.in hurdle/hurdleref07.Uses hurdle/hurdleref07.Sets hurdle/hurdleref07.Mask
-- not whole: HasR7n: hurdle/hurdleref07.Needed hurdle/hurdleref07.At hurdle/hurdleref07.Behind
-- not whole: HasR7m: hurdle/hurdleref07.Mix
-- not whole: HasR3: hurdle/hurdleref03.Same
instance hasRun : HasRun tbl := ⟨rfl⟩
instance hasWith : HasWith tbl := ⟨rfl, rfl, rfl⟩
instance hasR6r : HasR6r tbl := ⟨rfl⟩
instance hasL6 : HasL6 tbl := ⟨rfl, rfl, rfl, rfl, rfl, rfl, rfl, rfl⟩

end Go.Proofs.YtdomogpjchpbnaaDoor
