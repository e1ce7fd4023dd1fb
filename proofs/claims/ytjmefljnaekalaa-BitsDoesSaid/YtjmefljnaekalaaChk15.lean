/- The seat's table of simplified functions; each is checked against the loaded program. -/
import Derived.Test.YtjmefljnaekalaaProg
import Derived.Test.YtjmefljnaekalaaEvBitsC
import Derived.Test.YtjmefljnaekalaaEvRef15C
import Derived.Test.YtjmefljnaekalaaEvLaw15C
import Derived.KernelRfl
namespace Go.Proofs.Ytjmefljnaekalaa
open Go.Ev

def tbl : Tbl
  | 100 => some c_bits_counts
  | 101 => some c_bits_Right
  | 102 => some c_bits_Const
  | 103 => some c_bits_Var
  | 104 => some c_bits_union
  | 105 => some c_bits_at
  | 106 => some c_bits_plain
  | 107 => some c_word_Do
  | 108 => some c_bits_Do_1
  | 109 => some c_bits_Do
  | 110 => some c_bits_Eval
  | 111 => some c_bits_Same
  | 112 => some c_bits_Apart
  | 113 => some c_hurdleref15_size
  | 114 => some c_hurdleref15_turned
  | 115 => some c_hurdleref15_Right
  | 116 => some c_hurdleref15_Both
  | 117 => some c_hurdleref15_Assign
  | 118 => some c_hurdleref15_bit
  | 119 => some c_hurdleref15_Eval
  | 120 => some c_hurdleref15_without
  | 121 => some c_hurdleref15_Do
  | 123 => some c_hurdleref15_Same
  | 124 => some c_hurdleref15_Apart
  | 125 => some c_hurdleref01_power
  | 126 => some c_hurdleref01_bit
  | 127 => some c_hurdleref01_bits
  | 122 => some c_hurdleref01_Do
  | 128 => some c_hurdlelaw15_great
  | 129 => some c_hurdlelaw15_As
  | 130 => some c_hurdlelaw15_row
  | 131 => some c_hurdlelaw15_knows
  | 132 => some c_hurdlelaw15_BitsDoes
  | 133 => some c_hurdlelaw15_BitsSelf
  | 134 => some c_hurdlelaw15_BitsForms
  | 135 => some c_hurdlelaw15_BitsValues
  | 136 => some c_hurdlelaw15_BitsApart
  | 137 => some c_hurdlelaw15_BitsExact
  | _ => none
def fm : Nat → Go.FuncId
  | 100 => 36
  | 101 => 20
  | 102 => 17
  | 103 => 18
  | 104 => 26
  | 105 => 28
  | 106 => 29
  | 107 => 23
  | 108 => 27
  | 109 => 11
  | 110 => 19
  | 111 => 15
  | 112 => 24
  | 113 => 31
  | 114 => 34
  | 115 => 16
  | 116 => 30
  | 117 => 32
  | 118 => 37
  | 119 => 21
  | 120 => 35
  | 121 => 12
  | 123 => 14
  | 124 => 25
  | 125 => 39
  | 126 => 40
  | 127 => 38
  | 122 => 33
  | 128 => 9
  | 129 => 13
  | 130 => 22
  | 131 => 10
  | 132 => 3
  | 133 => 4
  | 134 => 5
  | 135 => 6
  | 136 => 7
  | 137 => 8
  | _ => 0
theorem k_100 : chkFn Try.prog fm 36 c_bits_counts = true := by kernel_rfl
theorem k_101 : chkFn Try.prog fm 20 c_bits_Right = true := by kernel_rfl
theorem k_102 : chkFn Try.prog fm 17 c_bits_Const = true := by kernel_rfl
theorem k_103 : chkFn Try.prog fm 18 c_bits_Var = true := by kernel_rfl
theorem k_104 : chkFn Try.prog fm 26 c_bits_union = true := by kernel_rfl
theorem k_105 : chkFn Try.prog fm 28 c_bits_at = true := by kernel_rfl
theorem k_106 : chkFn Try.prog fm 29 c_bits_plain = true := by kernel_rfl
theorem k_107 : chkFn Try.prog fm 23 c_word_Do = true := by kernel_rfl
theorem k_108 : chkFn Try.prog fm 27 c_bits_Do_1 = true := by kernel_rfl
theorem k_109 : chkFn Try.prog fm 11 c_bits_Do = true := by kernel_rfl
theorem k_110 : chkFn Try.prog fm 19 c_bits_Eval = true := by kernel_rfl
theorem k_111 : chkFn Try.prog fm 15 c_bits_Same = true := by kernel_rfl
theorem k_112 : chkFn Try.prog fm 24 c_bits_Apart = true := by kernel_rfl
theorem k_113 : chkFn Try.prog fm 31 c_hurdleref15_size = true := by kernel_rfl
theorem k_114 : chkFn Try.prog fm 34 c_hurdleref15_turned = true := by kernel_rfl
theorem k_115 : chkFn Try.prog fm 16 c_hurdleref15_Right = true := by kernel_rfl
theorem k_116 : chkFn Try.prog fm 30 c_hurdleref15_Both = true := by kernel_rfl
theorem k_117 : chkFn Try.prog fm 32 c_hurdleref15_Assign = true := by kernel_rfl
theorem k_118 : chkFn Try.prog fm 37 c_hurdleref15_bit = true := by kernel_rfl
theorem k_119 : chkFn Try.prog fm 21 c_hurdleref15_Eval = true := by kernel_rfl
theorem k_120 : chkFn Try.prog fm 35 c_hurdleref15_without = true := by kernel_rfl
theorem k_121 : chkFn Try.prog fm 12 c_hurdleref15_Do = true := by kernel_rfl
theorem k_123 : chkFn Try.prog fm 14 c_hurdleref15_Same = true := by kernel_rfl
theorem k_124 : chkFn Try.prog fm 25 c_hurdleref15_Apart = true := by kernel_rfl
theorem k_125 : chkFn Try.prog fm 39 c_hurdleref01_power = true := by kernel_rfl
theorem k_126 : chkFn Try.prog fm 40 c_hurdleref01_bit = true := by kernel_rfl
theorem k_127 : chkFn Try.prog fm 38 c_hurdleref01_bits = true := by kernel_rfl
theorem k_122 : chkFn Try.prog fm 33 c_hurdleref01_Do = true := by kernel_rfl
theorem k_128 : chkFn Try.prog fm 9 c_hurdlelaw15_great = true := by kernel_rfl
theorem k_129 : chkFn Try.prog fm 13 c_hurdlelaw15_As = true := by kernel_rfl
theorem k_130 : chkFn Try.prog fm 22 c_hurdlelaw15_row = true := by kernel_rfl
theorem k_131 : chkFn Try.prog fm 10 c_hurdlelaw15_knows = true := by kernel_rfl
theorem k_132 : chkFn Try.prog fm 3 c_hurdlelaw15_BitsDoes = true := by kernel_rfl
theorem k_133 : chkFn Try.prog fm 4 c_hurdlelaw15_BitsSelf = true := by kernel_rfl
theorem k_134 : chkFn Try.prog fm 5 c_hurdlelaw15_BitsForms = true := by kernel_rfl
theorem k_135 : chkFn Try.prog fm 6 c_hurdlelaw15_BitsValues = true := by kernel_rfl
theorem k_136 : chkFn Try.prog fm 7 c_hurdlelaw15_BitsApart = true := by kernel_rfl
theorem k_137 : chkFn Try.prog fm 8 c_hurdlelaw15_BitsExact = true := by kernel_rfl
theorem checked : ∀ f c, tbl f = some c → chkFn Try.prog fm (fm f) c = true := by
  intro f c h
  unfold tbl at h
  split at h
  · cases h; exact k_100
  · cases h; exact k_101
  · cases h; exact k_102
  · cases h; exact k_103
  · cases h; exact k_104
  · cases h; exact k_105
  · cases h; exact k_106
  · cases h; exact k_107
  · cases h; exact k_108
  · cases h; exact k_109
  · cases h; exact k_110
  · cases h; exact k_111
  · cases h; exact k_112
  · cases h; exact k_113
  · cases h; exact k_114
  · cases h; exact k_115
  · cases h; exact k_116
  · cases h; exact k_117
  · cases h; exact k_118
  · cases h; exact k_119
  · cases h; exact k_120
  · cases h; exact k_121
  · cases h; exact k_123
  · cases h; exact k_124
  · cases h; exact k_125
  · cases h; exact k_126
  · cases h; exact k_127
  · cases h; exact k_122
  · cases h; exact k_128
  · cases h; exact k_129
  · cases h; exact k_130
  · cases h; exact k_131
  · cases h; exact k_132
  · cases h; exact k_133
  · cases h; exact k_134
  · cases h; exact k_135
  · cases h; exact k_136
  · cases h; exact k_137
  · cases h
theorem hasBits : HasBits tbl := ⟨rfl, rfl, rfl, rfl, rfl, rfl, rfl, rfl, rfl, rfl, rfl, rfl, rfl⟩
theorem hasRef15 : HasRef15 tbl := ⟨rfl, rfl, rfl, rfl, rfl, rfl, rfl, rfl, rfl, rfl, rfl, rfl, rfl, rfl, rfl⟩
theorem hasLaw15 : HasLaw15 tbl := ⟨rfl, rfl, rfl, rfl, rfl, rfl, rfl, rfl, rfl, rfl⟩

end Go.Proofs.Ytjmefljnaekalaa
