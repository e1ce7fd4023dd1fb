/- The seat's table of simplified functions; each is checked against the loaded program. -/
import Derived.Test.YtnlhnffijidioaaDoorProg
import Derived.Test.YtnlhnffijidioaaDoorEvWordC
import Derived.Test.YtnlhnffijidioaaDoorEvInsC
import Derived.Test.YtnlhnffijidioaaDoorEvRefC
import Derived.Test.YtnlhnffijidioaaDoorEvSplC
import Derived.Test.YtnlhnffijidioaaDoorEvLaw07C
import Derived.Test.YtnlhnffijidioaaDoorEvLaw22C
import Derived.KernelRfl
namespace Go.Proofs.YtnlhnffijidioaaDoor
open Go.Ev

def tbl : Tbl
  | 107 => some c_word_Do
  | 125 => some c_hurdleref01_power
  | 126 => some c_hurdleref01_bit
  | 127 => some c_hurdleref01_bits
  | 122 => some c_hurdleref01_Do
  | 138 => some c_word_Neg
  | 139 => some c_ins_of
  | 140 => some c_ins_Right
  | 141 => some c_ins_Alu
  | 142 => some c_ins_Branch
  | 143 => some c_ins_Ends
  | 144 => some c_word_Parse
  | 145 => some c_ins_words
  | 146 => some c_ins_Parse_1
  | 147 => some c_ins_Parse
  | 148 => some c_codec_Parse
  | 149 => some c_check_rules_1
  | 150 => some c_check_rules_2
  | 151 => some c_check_rules_3
  | 152 => some c_check_rules_4
  | 153 => some c_check_rules_5
  | 154 => some c_check_rules
  | 155 => some c_check_ways
  | 156 => some c_check_Check
  | 157 => some c_check_Sound
  | 158 => some c_data_there
  | 159 => some c_data_words_1
  | 160 => some c_data_words
  | 161 => some c_data_Word
  | 162 => some c_run_cell
  | 163 => some c_run_store
  | 164 => some c_run_Step
  | 165 => some c_run_Takes
  | 166 => some c_live_cell
  | 167 => some c_live_byX
  | 168 => some c_live_Uses
  | 169 => some c_live_Sets
  | 170 => some c_live_nexts
  | 171 => some c_live_At
  | 172 => some c_live_Behind
  | 173 => some c_hurdleref01_Neg
  | 174 => some c_hurdleref02_branch
  | 175 => some c_hurdleref02_plain
  | 176 => some c_hurdleref02_place
  | 177 => some c_hurdleref02_Ops
  | 178 => some c_hurdleref02_Right
  | 179 => some c_hurdleref02_Alu
  | 180 => some c_hurdleref02_Branch
  | 181 => some c_hurdleref02_Ends
  | 182 => some c_hurdleref04_low
  | 183 => some c_hurdleref04_number
  | 184 => some c_hurdleref04_Bytes
  | 185 => some c_hurdleref04_Word
  | 186 => some c_hurdleref05_One
  | 187 => some c_hurdleref05_Check
  | 188 => some c_hurdleref05_Sound
  | 189 => some c_hurdleref05_Next
  | 190 => some c_hurdleref06_Step
  | 191 => some c_hurdleref06_Takes
  | 192 => some c_hurdleref06_From
  | 193 => some c_hurdleref07_in
  | 194 => some c_hurdleref07_Uses
  | 195 => some c_hurdleref07_Sets
  | 196 => some c_hurdleref07_Mask
  | 197 => some c_hurdleref07_Needed
  | 198 => some c_hurdleref07_At
  | 199 => some c_hurdleref07_Behind
  | 200 => some c_hurdleref07_Mix
  | 201 => some c_hurdleref03_Same
  | 202 => some c_window_Right
  | 203 => some c_hurdleref17_Right
  | 204 => some c_splice_targets
  | 205 => some c_splice_free
  | 206 => some c_splice_Free
  | 207 => some c_splice_Put_1
  | 208 => some c_splice_Put
  | 209 => some c_splice_Pieces
  | 210 => some c_hurdleref22_jumps
  | 211 => some c_hurdleref22_Free
  | 212 => some c_hurdleref22_place
  | 213 => some c_hurdleref22_Put
  | 214 => some c_hurdleref22_Pieces
  | 215 => some c_hurdlelaw07_uses
  | 216 => some c_hurdlelaw07_knows
  | 217 => some c_hurdlelaw07_LiveTells
  | 218 => some c_hurdlelaw07_LivePlaces
  | 219 => some c_hurdlelaw07_LiveRuns
  | 220 => some c_hurdlelaw07_LiveLast
  | 221 => some c_hurdlelaw07_LiveBranches
  | 222 => some c_hurdlelaw07_LiveSteps
  | 223 => some c_hurdlelaw22_great
  | 224 => some c_hurdlelaw22_knows
  | 225 => some c_hurdlelaw22_SplicePuts
  | 226 => some c_hurdlelaw22_SplicePieces
  | 227 => some c_hurdlelaw22_SpliceSound
  | 228 => some c_hurdlelaw22_SpliceSelf
  | 229 => some c_hurdlelaw22_SpliceRows
  | _ => none
def fmF : Nat → Go.FuncId
  | 107 => 60
  | 125 => 93
  | 126 => 98
  | 127 => 92
  | 122 => 77
  | 138 => 64
  | 139 => 67
  | 140 => 73
  | 141 => 51
  | 142 => 40
  | 143 => 66
  | 144 => 84
  | 145 => 82
  | 146 => 83
  | 147 => 65
  | 148 => 37
  | 149 => 87
  | 150 => 88
  | 151 => 89
  | 152 => 90
  | 153 => 91
  | 154 => 72
  | 155 => 74
  | 156 => 47
  | 157 => 23
  | 158 => 80
  | 159 => 96
  | 160 => 81
  | 161 => 61
  | 162 => 62
  | 163 => 63
  | 164 => 36
  | 165 => 35
  | 166 => 52
  | 167 => 53
  | 168 => 25
  | 169 => 26
  | 170 => 54
  | 171 => 28
  | 172 => 29
  | 173 => 79
  | 174 => 70
  | 175 => 97
  | 176 => 71
  | 177 => 86
  | 178 => 85
  | 179 => 75
  | 180 => 43
  | 181 => 68
  | 182 => 99
  | 183 => 94
  | 184 => 95
  | 185 => 78
  | 186 => 69
  | 187 => 55
  | 188 => 30
  | 189 => 57
  | 190 => 59
  | 191 => 58
  | 192 => 33
  | 193 => 76
  | 194 => 48
  | 195 => 49
  | 196 => 50
  | 197 => 56
  | 198 => 31
  | 199 => 32
  | 200 => 34
  | 201 => 20
  | 202 => 38
  | 203 => 41
  | 204 => 45
  | 205 => 44
  | 206 => 18
  | 207 => 39
  | 208 => 16
  | 209 => 21
  | 210 => 46
  | 211 => 19
  | 212 => 42
  | 213 => 17
  | 214 => 22
  | 215 => 24
  | 216 => 27
  | 217 => 8
  | 218 => 9
  | 219 => 10
  | 220 => 11
  | 221 => 12
  | 222 => 13
  | 223 => 14
  | 224 => 15
  | 225 => 3
  | 226 => 4
  | 227 => 5
  | 228 => 6
  | 229 => 7
  | _ => 0
def fmG : Nat → Option (List V)
  | 0 => some g_ins_shapes
  | _ => none
def fm : Fm := ⟨fmF, fmG⟩
theorem k_107 : chkFn Tryd.prog fm 60 c_word_Do = true := by kernel_rfl
theorem k_125 : chkFn Tryd.prog fm 93 c_hurdleref01_power = true := by kernel_rfl
theorem k_126 : chkFn Tryd.prog fm 98 c_hurdleref01_bit = true := by kernel_rfl
theorem k_127 : chkFn Tryd.prog fm 92 c_hurdleref01_bits = true := by kernel_rfl
theorem k_122 : chkFn Tryd.prog fm 77 c_hurdleref01_Do = true := by kernel_rfl
theorem k_138 : chkFn Tryd.prog fm 64 c_word_Neg = true := by kernel_rfl
theorem k_139 : chkFn Tryd.prog fm 67 c_ins_of = true := by kernel_rfl
theorem k_140 : chkFn Tryd.prog fm 73 c_ins_Right = true := by kernel_rfl
theorem k_141 : chkFn Tryd.prog fm 51 c_ins_Alu = true := by kernel_rfl
theorem k_142 : chkFn Tryd.prog fm 40 c_ins_Branch = true := by kernel_rfl
theorem k_143 : chkFn Tryd.prog fm 66 c_ins_Ends = true := by kernel_rfl
theorem k_144 : chkFn Tryd.prog fm 84 c_word_Parse = true := by kernel_rfl
theorem k_145 : chkFn Tryd.prog fm 82 c_ins_words = true := by kernel_rfl
theorem k_146 : chkFn Tryd.prog fm 83 c_ins_Parse_1 = true := by kernel_rfl
theorem k_147 : chkFn Tryd.prog fm 65 c_ins_Parse = true := by kernel_rfl
theorem k_148 : chkFn Tryd.prog fm 37 c_codec_Parse = true := by kernel_rfl
theorem k_149 : chkFn Tryd.prog fm 87 c_check_rules_1 = true := by kernel_rfl
theorem k_150 : chkFn Tryd.prog fm 88 c_check_rules_2 = true := by kernel_rfl
theorem k_151 : chkFn Tryd.prog fm 89 c_check_rules_3 = true := by kernel_rfl
theorem k_152 : chkFn Tryd.prog fm 90 c_check_rules_4 = true := by kernel_rfl
theorem k_153 : chkFn Tryd.prog fm 91 c_check_rules_5 = true := by kernel_rfl
theorem k_154 : chkFn Tryd.prog fm 72 c_check_rules = true := by kernel_rfl
theorem k_155 : chkFn Tryd.prog fm 74 c_check_ways = true := by kernel_rfl
theorem k_156 : chkFn Tryd.prog fm 47 c_check_Check = true := by kernel_rfl
theorem k_157 : chkFn Tryd.prog fm 23 c_check_Sound = true := by kernel_rfl
theorem k_158 : chkFn Tryd.prog fm 80 c_data_there = true := by kernel_rfl
theorem k_159 : chkFn Tryd.prog fm 96 c_data_words_1 = true := by kernel_rfl
theorem k_160 : chkFn Tryd.prog fm 81 c_data_words = true := by kernel_rfl
theorem k_161 : chkFn Tryd.prog fm 61 c_data_Word = true := by kernel_rfl
theorem k_162 : chkFn Tryd.prog fm 62 c_run_cell = true := by kernel_rfl
theorem k_163 : chkFn Tryd.prog fm 63 c_run_store = true := by kernel_rfl
theorem k_164 : chkFn Tryd.prog fm 36 c_run_Step = true := by kernel_rfl
theorem k_165 : chkFn Tryd.prog fm 35 c_run_Takes = true := by kernel_rfl
theorem k_166 : chkFn Tryd.prog fm 52 c_live_cell = true := by kernel_rfl
theorem k_167 : chkFn Tryd.prog fm 53 c_live_byX = true := by kernel_rfl
theorem k_168 : chkFn Tryd.prog fm 25 c_live_Uses = true := by kernel_rfl
theorem k_169 : chkFn Tryd.prog fm 26 c_live_Sets = true := by kernel_rfl
theorem k_170 : chkFn Tryd.prog fm 54 c_live_nexts = true := by kernel_rfl
theorem k_171 : chkFn Tryd.prog fm 28 c_live_At = true := by kernel_rfl
theorem k_172 : chkFn Tryd.prog fm 29 c_live_Behind = true := by kernel_rfl
theorem k_173 : chkFn Tryd.prog fm 79 c_hurdleref01_Neg = true := by kernel_rfl
theorem k_174 : chkFn Tryd.prog fm 70 c_hurdleref02_branch = true := by kernel_rfl
theorem k_175 : chkFn Tryd.prog fm 97 c_hurdleref02_plain = true := by kernel_rfl
theorem k_176 : chkFn Tryd.prog fm 71 c_hurdleref02_place = true := by kernel_rfl
theorem k_177 : chkFn Tryd.prog fm 86 c_hurdleref02_Ops = true := by kernel_rfl
theorem k_178 : chkFn Tryd.prog fm 85 c_hurdleref02_Right = true := by kernel_rfl
theorem k_179 : chkFn Tryd.prog fm 75 c_hurdleref02_Alu = true := by kernel_rfl
theorem k_180 : chkFn Tryd.prog fm 43 c_hurdleref02_Branch = true := by kernel_rfl
theorem k_181 : chkFn Tryd.prog fm 68 c_hurdleref02_Ends = true := by kernel_rfl
theorem k_182 : chkFn Tryd.prog fm 99 c_hurdleref04_low = true := by kernel_rfl
theorem k_183 : chkFn Tryd.prog fm 94 c_hurdleref04_number = true := by kernel_rfl
theorem k_184 : chkFn Tryd.prog fm 95 c_hurdleref04_Bytes = true := by kernel_rfl
theorem k_185 : chkFn Tryd.prog fm 78 c_hurdleref04_Word = true := by kernel_rfl
theorem k_186 : chkFn Tryd.prog fm 69 c_hurdleref05_One = true := by kernel_rfl
theorem k_187 : chkFn Tryd.prog fm 55 c_hurdleref05_Check = true := by kernel_rfl
theorem k_188 : chkFn Tryd.prog fm 30 c_hurdleref05_Sound = true := by kernel_rfl
theorem k_189 : chkFn Tryd.prog fm 57 c_hurdleref05_Next = true := by kernel_rfl
theorem k_190 : chkFn Tryd.prog fm 59 c_hurdleref06_Step = true := by kernel_rfl
theorem k_191 : chkFn Tryd.prog fm 58 c_hurdleref06_Takes = true := by kernel_rfl
theorem k_192 : chkFn Tryd.prog fm 33 c_hurdleref06_From = true := by kernel_rfl
theorem k_193 : chkFn Tryd.prog fm 76 c_hurdleref07_in = true := by kernel_rfl
theorem k_194 : chkFn Tryd.prog fm 48 c_hurdleref07_Uses = true := by kernel_rfl
theorem k_195 : chkFn Tryd.prog fm 49 c_hurdleref07_Sets = true := by kernel_rfl
theorem k_196 : chkFn Tryd.prog fm 50 c_hurdleref07_Mask = true := by kernel_rfl
theorem k_197 : chkFn Tryd.prog fm 56 c_hurdleref07_Needed = true := by kernel_rfl
theorem k_198 : chkFn Tryd.prog fm 31 c_hurdleref07_At = true := by kernel_rfl
theorem k_199 : chkFn Tryd.prog fm 32 c_hurdleref07_Behind = true := by kernel_rfl
theorem k_200 : chkFn Tryd.prog fm 34 c_hurdleref07_Mix = true := by kernel_rfl
theorem k_201 : chkFn Tryd.prog fm 20 c_hurdleref03_Same = true := by kernel_rfl
theorem k_202 : chkFn Tryd.prog fm 38 c_window_Right = true := by kernel_rfl
theorem k_203 : chkFn Tryd.prog fm 41 c_hurdleref17_Right = true := by kernel_rfl
theorem k_204 : chkFn Tryd.prog fm 45 c_splice_targets = true := by kernel_rfl
theorem k_205 : chkFn Tryd.prog fm 44 c_splice_free = true := by kernel_rfl
theorem k_206 : chkFn Tryd.prog fm 18 c_splice_Free = true := by kernel_rfl
theorem k_207 : chkFn Tryd.prog fm 39 c_splice_Put_1 = true := by kernel_rfl
theorem k_208 : chkFn Tryd.prog fm 16 c_splice_Put = true := by kernel_rfl
theorem k_209 : chkFn Tryd.prog fm 21 c_splice_Pieces = true := by kernel_rfl
theorem k_210 : chkFn Tryd.prog fm 46 c_hurdleref22_jumps = true := by kernel_rfl
theorem k_211 : chkFn Tryd.prog fm 19 c_hurdleref22_Free = true := by kernel_rfl
theorem k_212 : chkFn Tryd.prog fm 42 c_hurdleref22_place = true := by kernel_rfl
theorem k_213 : chkFn Tryd.prog fm 17 c_hurdleref22_Put = true := by kernel_rfl
theorem k_214 : chkFn Tryd.prog fm 22 c_hurdleref22_Pieces = true := by kernel_rfl
theorem k_215 : chkFn Tryd.prog fm 24 c_hurdlelaw07_uses = true := by kernel_rfl
theorem k_216 : chkFn Tryd.prog fm 27 c_hurdlelaw07_knows = true := by kernel_rfl
theorem k_217 : chkFn Tryd.prog fm 8 c_hurdlelaw07_LiveTells = true := by kernel_rfl
theorem k_218 : chkFn Tryd.prog fm 9 c_hurdlelaw07_LivePlaces = true := by kernel_rfl
theorem k_219 : chkFn Tryd.prog fm 10 c_hurdlelaw07_LiveRuns = true := by kernel_rfl
theorem k_220 : chkFn Tryd.prog fm 11 c_hurdlelaw07_LiveLast = true := by kernel_rfl
theorem k_221 : chkFn Tryd.prog fm 12 c_hurdlelaw07_LiveBranches = true := by kernel_rfl
theorem k_222 : chkFn Tryd.prog fm 13 c_hurdlelaw07_LiveSteps = true := by kernel_rfl
theorem k_223 : chkFn Tryd.prog fm 14 c_hurdlelaw22_great = true := by kernel_rfl
theorem k_224 : chkFn Tryd.prog fm 15 c_hurdlelaw22_knows = true := by kernel_rfl
theorem k_225 : chkFn Tryd.prog fm 3 c_hurdlelaw22_SplicePuts = true := by kernel_rfl
theorem k_226 : chkFn Tryd.prog fm 4 c_hurdlelaw22_SplicePieces = true := by kernel_rfl
theorem k_227 : chkFn Tryd.prog fm 5 c_hurdlelaw22_SpliceSound = true := by kernel_rfl
theorem k_228 : chkFn Tryd.prog fm 6 c_hurdlelaw22_SpliceSelf = true := by kernel_rfl
theorem k_229 : chkFn Tryd.prog fm 7 c_hurdlelaw22_SpliceRows = true := by kernel_rfl
theorem checked : ∀ f c, tbl f = some c → chkFn Tryd.prog fm (fm f) c = true := by
  intro f c h
  unfold tbl at h
  split at h
  · cases h; exact k_107
  · cases h; exact k_125
  · cases h; exact k_126
  · cases h; exact k_127
  · cases h; exact k_122
  · cases h; exact k_138
  · cases h; exact k_139
  · cases h; exact k_140
  · cases h; exact k_141
  · cases h; exact k_142
  · cases h; exact k_143
  · cases h; exact k_144
  · cases h; exact k_145
  · cases h; exact k_146
  · cases h; exact k_147
  · cases h; exact k_148
  · cases h; exact k_149
  · cases h; exact k_150
  · cases h; exact k_151
  · cases h; exact k_152
  · cases h; exact k_153
  · cases h; exact k_154
  · cases h; exact k_155
  · cases h; exact k_156
  · cases h; exact k_157
  · cases h; exact k_158
  · cases h; exact k_159
  · cases h; exact k_160
  · cases h; exact k_161
  · cases h; exact k_162
  · cases h; exact k_163
  · cases h; exact k_164
  · cases h; exact k_165
  · cases h; exact k_166
  · cases h; exact k_167
  · cases h; exact k_168
  · cases h; exact k_169
  · cases h; exact k_170
  · cases h; exact k_171
  · cases h; exact k_172
  · cases h; exact k_173
  · cases h; exact k_174
  · cases h; exact k_175
  · cases h; exact k_176
  · cases h; exact k_177
  · cases h; exact k_178
  · cases h; exact k_179
  · cases h; exact k_180
  · cases h; exact k_181
  · cases h; exact k_182
  · cases h; exact k_183
  · cases h; exact k_184
  · cases h; exact k_185
  · cases h; exact k_186
  · cases h; exact k_187
  · cases h; exact k_188
  · cases h; exact k_189
  · cases h; exact k_190
  · cases h; exact k_191
  · cases h; exact k_192
  · cases h; exact k_193
  · cases h; exact k_194
  · cases h; exact k_195
  · cases h; exact k_196
  · cases h; exact k_197
  · cases h; exact k_198
  · cases h; exact k_199
  · cases h; exact k_200
  · cases h; exact k_201
  · cases h; exact k_202
  · cases h; exact k_203
  · cases h; exact k_204
  · cases h; exact k_205
  · cases h; exact k_206
  · cases h; exact k_207
  · cases h; exact k_208
  · cases h; exact k_209
  · cases h; exact k_210
  · cases h; exact k_211
  · cases h; exact k_212
  · cases h; exact k_213
  · cases h; exact k_214
  · cases h; exact k_215
  · cases h; exact k_216
  · cases h; exact k_217
  · cases h; exact k_218
  · cases h; exact k_219
  · cases h; exact k_220
  · cases h; exact k_221
  · cases h; exact k_222
  · cases h; exact k_223
  · cases h; exact k_224
  · cases h; exact k_225
  · cases h; exact k_226
  · cases h; exact k_227
  · cases h; exact k_228
  · cases h; exact k_229
  · cases h
instance hasWd : HasWd tbl := ⟨rfl⟩
instance hasR1 : HasR1 tbl := ⟨rfl, rfl, rfl, rfl⟩
instance hasNeg : HasNeg tbl := ⟨rfl⟩
instance hasIns : HasIns tbl := ⟨rfl, rfl, rfl, rfl, rfl⟩
instance hasParse : HasParse tbl := ⟨rfl, rfl, rfl, rfl, rfl⟩
instance hasCheck : HasCheck tbl := ⟨rfl, rfl, rfl, rfl, rfl, rfl, rfl, rfl, rfl⟩
instance hasData : HasData tbl := ⟨rfl, rfl, rfl, rfl⟩
instance hasStep : HasStep tbl := ⟨rfl, rfl, rfl⟩
instance hasTakes : HasTakes tbl := ⟨rfl⟩
instance hasTells : HasTells tbl := ⟨rfl, rfl, rfl, rfl⟩
instance hasLive : HasLive tbl := ⟨rfl, rfl, rfl⟩
instance hasR1n : HasR1n tbl := ⟨rfl⟩
instance hasR2 : HasR2 tbl := ⟨rfl, rfl, rfl, rfl, rfl, rfl, rfl, rfl⟩
instance hasR4 : HasR4 tbl := ⟨rfl, rfl, rfl, rfl⟩
instance hasR5 : HasR5 tbl := ⟨rfl, rfl, rfl, rfl⟩
instance hasR6s : HasR6s tbl := ⟨rfl⟩
instance hasR6 : HasR6 tbl := ⟨rfl, rfl⟩
instance hasR7 : HasR7 tbl := ⟨rfl, rfl, rfl, rfl⟩
instance hasR7n : HasR7n tbl := ⟨rfl, rfl, rfl⟩
instance hasR7m : HasR7m tbl := ⟨rfl⟩
instance hasR3 : HasR3 tbl := ⟨rfl⟩
instance hasWRight : HasWRight tbl := ⟨rfl⟩
instance hasR17 : HasR17 tbl := ⟨rfl⟩
instance hasSpl : HasSpl tbl := ⟨rfl, rfl, rfl, rfl, rfl, rfl⟩
instance hasR22 : HasR22 tbl := ⟨rfl, rfl, rfl, rfl, rfl⟩
instance hasL7 : HasL7 tbl := ⟨rfl, rfl, rfl, rfl, rfl, rfl, rfl, rfl⟩
instance hasL22 : HasL22 tbl := ⟨rfl, rfl, rfl, rfl, rfl, rfl, rfl⟩

end Go.Proofs.YtnlhnffijidioaaDoor
