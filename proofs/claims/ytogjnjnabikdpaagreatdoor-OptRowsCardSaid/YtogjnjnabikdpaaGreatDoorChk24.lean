/- The seat's table of simplified functions;each is checked against the loaded program. -/
import Derived.Test.YtogjnjnabikdpaaGreatDoorProg
import Derived.KernelRfl
import Derived.Test.YtogjnjnabikdpaaGreatDoorEvNW
import Derived.Test.YtogjnjnabikdpaaGreatDoorEvInsCW
import Derived.Test.YtogjnjnabikdpaaGreatDoorEvSrcCW
import Derived.Test.YtogjnjnabikdpaaGreatDoorArgIW
set_option linter.unusedSimpArgs false
set_option linter.unusedVariables false
namespace Go.Proofs.YtogjnjnabikdpaaGreatDoor
open Go.Ev
def tbl:Tbl
 |107=>some zjV
 |100=>some zgA
 |101=>some zhp
 |102=>some zhq
 |103=>some zi4
 |104=>some zhr
 |105=>some zjW
 |106=>some zhs
 |108=>some zie
 |109=>some zjX
 |110=>some zif
 |112=>some zht
 |138=>some ziX
 |139=>some zlm
 |140=>some zh0
 |141=>some zjK
 |142=>some zhc
 |143=>some ziY
 |144=>some zjL
 |145=>some zk3
 |146=>some zjp
 |147=>some zk4
 |148=>some zjq
 |149=>some ze6
 |150=>some ze7
 |151=>some ze8
 |152=>some ze9
 |153=>some zfa
 |154=>some zgp
 |155=>some zhd
 |156=>some zgq
 |157=>some zgr
 |158=>some zhe
 |159=>some zfB
 |160=>some zhf
 |161=>some zh1
 |162=>some ziZ
 |163=>some zh2
 |164=>some zi0
 |166=>some zh3
 |167=>some zi1
 |168=>some zh4
 |169=>some zh5
 |170=>some zhg
 |171=>some zjM
 |172=>some zgs
 |174=>some zcU
 |175=>some zdc
 |176=>some zdd
 |177=>some zd7
 |178=>some zde
 |180=>some zcV
 |181=>some zdC
 |186=>some zd8
 |187=>some zdf
 |188=>some zdg
 |189=>some zdD
 |201=>some zdE
 |202=>some zfC
 |203=>some zdh
 |204=>some zen
 |205=>some zgt
 |206=>some zgu
 |207=>some zfD
 |208=>some zhh
 |209=>some zfb
 |210=>some zdi
 |211=>some zdF
 |212=>some zdj
 |213=>some zd9
 |214=>some zcW
 |231=>some zh6
 |232=>some zjN
 |233=>some zh7
 |243=>some zfE
 |244=>some zhi
 |245=>some zgv
 |246=>some zfF
 |247=>some zhj
 |248=>some zfG
 |249=>some zhk
 |250=>some zfH
 |251=>some zhl
 |252=>some zgw
 |253=>some zea
 |254=>some zfc
 |255=>some zfI
 |256=>some zjO
 |257=>some zfJ
 |258=>some zfK
 |259=>some zgx
 |260=>some zfL
 |261=>some zfd
 |262=>some zeo
 |263=>some zfM
 |264=>some zep
 |265=>some zeb
 |266=>some zdk
 |267=>some zfe
 |268=>some zff
 |269=>some zeq
 |270=>some zer
 |271=>some zes
 |272=>some zet
 |273=>some zeu
 |274=>some zfN
 |275=>some zfO
 |276=>some zfg
 |277=>some zev
 |292=>some zhm
 |293=>some zfh
 |294=>some zfP
 |295=>some zgy
 |296=>some zh8
 |307=>some zh9
 |308=>some zew
 |309=>some zgz
 |310=>some zex
 |311=>some zfQ
 |312=>some zfi
 |326=>some zey
 |327=>some zdI
 |330=>some zez
 |328=>some zcN
 |329=>some zdl
 |333=>some zgB
 |346=>some zgC
 |347=>some zig
 |348=>some zfl
 |349=>some zgD
 |350=>some zgE
 |351=>some zf1
 |352=>some zdJ
 |353=>some zdK
 |354=>some zgF
 |355=>some zgG
 |356=>some zih
 |357=>some zgH
 |358=>some zhu
 |359=>some zhv
 |360=>some zf2
 |361=>some zi7
 |362=>some zi8
 |363=>some zgI
 |364=>some zii
 |365=>some zf3
 |366=>some zec
 |367=>some zcZ
 |368=>some zed
 |369=>some zdm
 |370=>some zdL
 |371=>some zdn
 |372=>some zdM
 |373=>some zeA
 |374=>some zeB
 |375=>some zdo
 |376=>some zdN
 |378=>some zdp
 |379=>some zdq
 |380=>some zdO
 |389=>some zd6
 |388=>some zcK
 |387=>some zdb
 |384=>some zdw
 |385=>some zdx
 |391=>some zcL
 |_=>none
def fmF:Nat→Go.FuncId
 |107=>147
 |100=>186
 |101=>162
 |102=>157
 |103=>160
 |104=>163
 |105=>164
 |106=>185
 |108=>184
 |109=>161
 |110=>176
 |112=>126
 |138=>169
 |139=>97
 |140=>133
 |141=>118
 |142=>58
 |143=>96
 |144=>94
 |145=>92
 |146=>93
 |147=>55
 |148=>27
 |149=>170
 |150=>171
 |151=>172
 |152=>173
 |153=>174
 |154=>132
 |155=>134
 |156=>91
 |157=>54
 |158=>127
 |159=>165
 |160=>128
 |161=>131
 |162=>167
 |163=>168
 |164=>130
 |166=>137
 |167=>138
 |168=>106
 |169=>107
 |170=>73
 |171=>72
 |172=>38
 |174=>66
 |175=>135
 |176=>67
 |177=>103
 |178=>102
 |180=>35
 |181=>64
 |186=>63
 |187=>32
 |188=>11
 |189=>65
 |201=>19
 |202=>81
 |203=>77
 |204=>98
 |205=>99
 |206=>100
 |207=>101
 |208=>62
 |209=>60
 |210=>105
 |211=>71
 |212=>78
 |213=>41
 |214=>37
 |231=>166
 |232=>129
 |233=>88
 |243=>146
 |244=>116
 |245=>182
 |246=>187
 |247=>179
 |248=>183
 |249=>158
 |250=>188
 |251=>180
 |252=>175
 |253=>156
 |254=>159
 |255=>124
 |256=>48
 |257=>155
 |258=>122
 |259=>145
 |260=>117
 |261=>181
 |262=>119
 |263=>83
 |264=>123
 |265=>125
 |266=>139
 |267=>149
 |268=>151
 |269=>153
 |270=>148
 |271=>150
 |272=>152
 |273=>154
 |274=>120
 |275=>121
 |276=>140
 |277=>87
 |292=>89
 |293=>90
 |294=>52
 |295=>84
 |296=>49
 |307=>85
 |308=>53
 |309=>50
 |310=>86
 |311=>51
 |312=>24
 |326=>109
 |327=>108
 |330=>75
 |328=>110
 |329=>76
 |333=>40
 |346=>95
 |347=>56
 |348=>57
 |349=>28
 |350=>115
 |351=>82
 |352=>44
 |353=>45
 |354=>22
 |355=>46
 |356=>47
 |357=>23
 |358=>74
 |359=>39
 |360=>59
 |361=>29
 |362=>30
 |363=>61
 |364=>31
 |365=>10
 |366=>136
 |367=>104
 |368=>68
 |369=>70
 |370=>69
 |371=>36
 |372=>20
 |373=>43
 |374=>21
 |375=>26
 |376=>18
 |378=>8
 |379=>9
 |380=>14
 |389=>33
 |388=>34
 |387=>13
 |384=>12
 |385=>15
 |391=>3
 |_=>0
def fmG:Nat→Option (List V)
 |0=>some zaS
 |_=>none
def fm:Fm:=⟨fmF,fmG,fun _ _ _=>True⟩
set_option maxRecDepth 100000 in
theorem checked:∀ f c,tbl f=some c→zaf Tryz.prog fm (fm f) c=true:=by
  intro f c h
  unfold tbl at h
  split at h
  ·cases h;kernel_rfl
  ·cases h;kernel_rfl
  ·cases h;kernel_rfl
  ·cases h;kernel_rfl
  ·cases h;kernel_rfl
  ·cases h;kernel_rfl
  ·cases h;kernel_rfl
  ·cases h;kernel_rfl
  ·cases h;kernel_rfl
  ·cases h;kernel_rfl
  ·cases h;kernel_rfl
  ·cases h;kernel_rfl
  ·cases h;kernel_rfl
  ·cases h;kernel_rfl
  ·cases h;kernel_rfl
  ·cases h;kernel_rfl
  ·cases h;kernel_rfl
  ·cases h;kernel_rfl
  ·cases h;kernel_rfl
  ·cases h;kernel_rfl
  ·cases h;kernel_rfl
  ·cases h;kernel_rfl
  ·cases h;kernel_rfl
  ·cases h;kernel_rfl
  ·cases h;kernel_rfl
  ·cases h;kernel_rfl
  ·cases h;kernel_rfl
  ·cases h;kernel_rfl
  ·cases h;kernel_rfl
  ·cases h;kernel_rfl
  ·cases h;kernel_rfl
  ·cases h;kernel_rfl
  ·cases h;kernel_rfl
  ·cases h;kernel_rfl
  ·cases h;kernel_rfl
  ·cases h;kernel_rfl
  ·cases h;kernel_rfl
  ·cases h;kernel_rfl
  ·cases h;kernel_rfl
  ·cases h;kernel_rfl
  ·cases h;kernel_rfl
  ·cases h;kernel_rfl
  ·cases h;kernel_rfl
  ·cases h;kernel_rfl
  ·cases h;kernel_rfl
  ·cases h;kernel_rfl
  ·cases h;kernel_rfl
  ·cases h;kernel_rfl
  ·cases h;kernel_rfl
  ·cases h;kernel_rfl
  ·cases h;kernel_rfl
  ·cases h;kernel_rfl
  ·cases h;kernel_rfl
  ·cases h;kernel_rfl
  ·cases h;kernel_rfl
  ·cases h;kernel_rfl
  ·cases h;kernel_rfl
  ·cases h;kernel_rfl
  ·cases h;kernel_rfl
  ·cases h;kernel_rfl
  ·cases h;kernel_rfl
  ·cases h;kernel_rfl
  ·cases h;kernel_rfl
  ·cases h;kernel_rfl
  ·cases h;kernel_rfl
  ·cases h;kernel_rfl
  ·cases h;kernel_rfl
  ·cases h;kernel_rfl
  ·cases h;kernel_rfl
  ·cases h;kernel_rfl
  ·cases h;kernel_rfl
  ·cases h;kernel_rfl
  ·cases h;kernel_rfl
  ·cases h;kernel_rfl
  ·cases h;kernel_rfl
  ·cases h;kernel_rfl
  ·cases h;kernel_rfl
  ·cases h;kernel_rfl
  ·cases h;kernel_rfl
  ·cases h;kernel_rfl
  ·cases h;kernel_rfl
  ·cases h;kernel_rfl
  ·cases h;kernel_rfl
  ·cases h;kernel_rfl
  ·cases h;kernel_rfl
  ·cases h;kernel_rfl
  ·cases h;kernel_rfl
  ·cases h;kernel_rfl
  ·cases h;kernel_rfl
  ·cases h;kernel_rfl
  ·cases h;kernel_rfl
  ·cases h;kernel_rfl
  ·cases h;kernel_rfl
  ·cases h;kernel_rfl
  ·cases h;kernel_rfl
  ·cases h;kernel_rfl
  ·cases h;kernel_rfl
  ·cases h;kernel_rfl
  ·cases h;kernel_rfl
  ·cases h;kernel_rfl
  ·cases h;kernel_rfl
  ·cases h;kernel_rfl
  ·cases h;kernel_rfl
  ·cases h;kernel_rfl
  ·cases h;kernel_rfl
  ·cases h;kernel_rfl
  ·cases h;kernel_rfl
  ·cases h;kernel_rfl
  ·cases h;kernel_rfl
  ·cases h;kernel_rfl
  ·cases h;kernel_rfl
  ·cases h;kernel_rfl
  ·cases h;kernel_rfl
  ·cases h;kernel_rfl
  ·cases h;kernel_rfl
  ·cases h;kernel_rfl
  ·cases h;kernel_rfl
  ·cases h;kernel_rfl
  ·cases h;kernel_rfl
  ·cases h;kernel_rfl
  ·cases h;kernel_rfl
  ·cases h;kernel_rfl
  ·cases h;kernel_rfl
  ·cases h;kernel_rfl
  ·cases h;kernel_rfl
  ·cases h;kernel_rfl
  ·cases h;kernel_rfl
  ·cases h;kernel_rfl
  ·cases h;kernel_rfl
  ·cases h;kernel_rfl
  ·cases h;kernel_rfl
  ·cases h;kernel_rfl
  ·cases h;kernel_rfl
  ·cases h;kernel_rfl
  ·cases h;kernel_rfl
  ·cases h;kernel_rfl
  ·cases h;kernel_rfl
  ·cases h;kernel_rfl
  ·cases h;kernel_rfl
  ·cases h;kernel_rfl
  ·cases h;kernel_rfl
  ·cases h;kernel_rfl
  ·cases h;kernel_rfl
  ·cases h;kernel_rfl
  ·cases h;kernel_rfl
  ·cases h;kernel_rfl
  ·cases h;kernel_rfl
  ·cases h;kernel_rfl
  ·cases h;kernel_rfl
  ·cases h;kernel_rfl
  ·cases h;kernel_rfl
  ·cases h;kernel_rfl
  ·cases h;kernel_rfl
  ·cases h;kernel_rfl
  ·cases h;kernel_rfl
  ·cases h;kernel_rfl
  ·cases h;kernel_rfl
  ·cases h;kernel_rfl
  ·cases h;kernel_rfl
  ·cases h;kernel_rfl
  ·cases h;kernel_rfl
  ·cases h;kernel_rfl
  ·cases h;kernel_rfl
  ·cases h;kernel_rfl
  ·cases h;kernel_rfl
  ·cases h;kernel_rfl
  ·cases h
instance hasWd:HasWd tbl:=⟨rfl⟩
instance hasBits:HasBits tbl:=⟨rfl,rfl,rfl,rfl,rfl,rfl,rfl,rfl,rfl⟩
instance hasBitsE:HasBitsE tbl:=⟨rfl⟩
instance hasBitsA:HasBitsA tbl:=⟨rfl⟩
instance hasNeg:HasNeg tbl:=⟨rfl⟩
instance hasIns:HasIns tbl:=⟨rfl,rfl,rfl,rfl,rfl⟩
instance hasCheck:HasCheck tbl:=⟨rfl,rfl,rfl,rfl,rfl,rfl,rfl,rfl,rfl⟩
instance hasData:HasData tbl:=⟨rfl,rfl,rfl,rfl⟩
instance hasStep:HasStep tbl:=⟨rfl,rfl,rfl⟩
instance hasTells:HasTells tbl:=⟨rfl,rfl,rfl,rfl⟩
instance hasLive:HasLive tbl:=⟨rfl,rfl,rfl⟩
instance hasR2:HasR2 tbl:=⟨rfl,rfl,rfl,rfl,rfl,rfl,rfl⟩
instance hasR5o:HasR5o tbl:=⟨rfl⟩
instance hasR5:HasR5 tbl:=⟨rfl,rfl⟩
instance hasR5n:HasR5n tbl:=⟨rfl⟩
instance hasR3:HasR3 tbl:=⟨rfl⟩
instance hasWRight:HasWRight tbl:=⟨rfl⟩
instance hasR17:HasR17 tbl:=⟨rfl⟩
instance hasSpl:HasSpl tbl:=⟨rfl,rfl,rfl,rfl,rfl,rfl⟩
instance hasR22:HasR22 tbl:=⟨rfl,rfl,rfl,rfl,rfl⟩
instance hasWith:HasWith tbl:=⟨rfl,rfl,rfl⟩
instance hasAffine:HasAffine tbl:=⟨rfl,rfl,rfl,rfl,rfl,rfl,rfl,rfl,rfl,rfl,rfl,rfl⟩
instance hasSymNew:HasSymNew tbl:=⟨rfl⟩
instance hasSym:HasSym tbl:=⟨rfl,rfl,rfl,rfl,rfl,rfl,rfl,rfl,rfl,rfl,rfl,rfl,rfl,rfl,rfl,rfl,rfl,rfl,rfl⟩
instance hasSymEval:HasSymEval tbl:=⟨rfl⟩
instance hasSymApart:HasSymApart tbl:=⟨rfl⟩
instance hasAffApart:HasAffApart tbl:=⟨rfl⟩
instance hasWinRun:HasWinRun tbl:=⟨rfl⟩
instance hasWinAsg:HasWinAsg tbl:=⟨rfl⟩
instance hasWinState:HasWinState tbl:=⟨rfl⟩
instance hasWinOf:HasWinOf tbl:=⟨rfl,rfl⟩
instance hasDecDf:HasDecDf tbl:=⟨rfl,rfl⟩
instance hasDec:HasDec tbl:=⟨rfl,rfl,rfl,rfl⟩
instance hasSrcN:HasSrcN tbl:=⟨rfl⟩
instance hasSrcL:HasSrcL tbl:=⟨rfl,rfl⟩
instance hasSrcC:HasSrcC tbl:=⟨rfl,rfl⟩
instance hasSrcF:HasSrcF tbl:=⟨rfl⟩
instance hasPru:HasPru tbl:=⟨rfl,rfl,rfl,rfl⟩
instance hasEnc:HasEnc tbl:=⟨rfl,rfl⟩
instance hasTbl:HasTbl tbl:=⟨rfl,rfl,rfl,rfl,rfl,rfl,rfl,rfl⟩
instance hasOpt:HasOpt tbl:=⟨rfl,rfl,rfl,rfl,rfl,rfl⟩
instance hasR3e:HasR3e tbl:=⟨rfl,rfl⟩
instance hasR21:HasR21 tbl:=⟨rfl,rfl,rfl,rfl⟩
instance hasR21s:HasR21s tbl:=⟨rfl⟩
instance hasL21:HasL21 tbl:=⟨rfl,rfl,rfl⟩
instance hasR24c:HasR24c tbl:=⟨rfl⟩
instance hasL24k:HasL24k tbl:=⟨rfl,rfl⟩
instance hasL24g:HasL24g tbl:=⟨rfl⟩
instance hasR23:HasR23 tbl:=⟨rfl,rfl,rfl⟩
instance hasL24s:HasL24s tbl:=⟨rfl,rfl⟩
instance hasL24r:HasL24r tbl:=⟨rfl⟩
end Go.Proofs.YtogjnjnabikdpaaGreatDoor
