/- The seat's table of simplified functions;each is checked against the loaded program. -/
import Derived.Test.YtogjnjnabikdpaaGreatDoorProg
import Derived.KernelRfl
import Derived.Test.YtogjnjnabikdpaaGreatDoorEvNW
import Derived.Test.YtogjnjnabikdpaaGreatDoorEvInsCW
import Derived.Test.YtogjnjnabikdpaaGreatDoorEvWinCW
set_option linter.unusedSimpArgs false
set_option linter.unusedVariables false
namespace Go.Proofs.YtogjnjnabikdpaaGreatDoor
open Go.Ev
def tbl:Tbl
 |107=>some zju
 |100=>some zgf
 |101=>some zg1
 |102=>some zg2
 |103=>some ziA
 |104=>some zg3
 |105=>some zjv
 |106=>some zg4
 |108=>some zhP
 |109=>some zjw
 |110=>some zhQ
 |112=>some zg5
 |138=>some zit
 |139=>some zk9
 |140=>some zhE
 |141=>some zjm
 |142=>some zgP
 |143=>some ziu
 |144=>some zjn
 |145=>some zkK
 |146=>some zi0
 |147=>some zkL
 |148=>some zi1
 |149=>some zeM
 |150=>some zeN
 |151=>some zeO
 |152=>some zeP
 |153=>some zeQ
 |154=>some zf6
 |155=>some zgQ
 |156=>some zf7
 |157=>some zf8
 |158=>some zgR
 |159=>some zfl
 |160=>some zgS
 |161=>some zhF
 |162=>some ziv
 |163=>some zhG
 |164=>some ziw
 |166=>some zhH
 |167=>some zix
 |168=>some zhI
 |169=>some zhJ
 |170=>some zgT
 |171=>some zjo
 |172=>some zf9
 |174=>some zcR
 |175=>some zc4
 |176=>some zc5
 |177=>some zdL
 |178=>some zc6
 |180=>some zcS
 |181=>some zdp
 |186=>some zdM
 |187=>some zc7
 |188=>some zc8
 |201=>some zdq
 |202=>some zfm
 |203=>some zc9
 |204=>some zd2
 |205=>some zga
 |206=>some zgb
 |207=>some zfn
 |208=>some zgU
 |209=>some zeR
 |231=>some zhK
 |232=>some zjp
 |233=>some zhL
 |243=>some zfo
 |244=>some zgV
 |245=>some zgc
 |246=>some zfp
 |247=>some zgW
 |248=>some zfq
 |249=>some zgX
 |250=>some zfr
 |251=>some zgY
 |252=>some zgd
 |253=>some zdN
 |254=>some zeS
 |255=>some zfs
 |256=>some zjq
 |257=>some zft
 |258=>some zfu
 |259=>some zge
 |260=>some zfv
 |261=>some zeT
 |262=>some zd3
 |263=>some zfw
 |264=>some zd4
 |265=>some zdO
 |266=>some zda
 |267=>some zeU
 |268=>some zeV
 |269=>some zd5
 |270=>some zd6
 |271=>some zd7
 |272=>some zd8
 |273=>some zd9
 |274=>some zfx
 |275=>some zfy
 |276=>some zeW
 |277=>some zea
 |292=>some zg6
 |293=>some zeZ
 |294=>some zfC
 |295=>some zgg
 |296=>some zhR
 |307=>some zhS
 |308=>some zeb
 |309=>some zgh
 |310=>some zec
 |311=>some zfD
 |312=>some ze0
 |326=>some zed
 |327=>some zdr
 |330=>some zee
 |328=>some zcK
 |329=>some zdb
 |333=>some zgi
 |346=>some zgj
 |347=>some zhT
 |348=>some ze1
 |349=>some zgk
 |350=>some zgl
 |351=>some zfE
 |352=>some zds
 |353=>some zdt
 |354=>some zgm
 |355=>some zgn
 |356=>some zhU
 |357=>some zgo
 |358=>some zg7
 |359=>some zg8
 |360=>some zfF
 |361=>some ziD
 |362=>some ziE
 |363=>some zgp
 |364=>some zhV
 |365=>some zfG
 |366=>some zdP
 |367=>some zcU
 |368=>some zdQ
 |369=>some zdc
 |370=>some zdu
 |371=>some zdd
 |372=>some zdv
 |373=>some zef
 |374=>some zeg
 |375=>some zde
 |376=>some zdw
 |378=>some zdf
 |379=>some zdg
 |380=>some zdx
 |382=>some zcB
 |383=>some zck
 |_=>none
def fmF:Nat→Go.FuncId
 |107=>147
 |100=>186
 |101=>162
 |102=>157
 |103=>160
 |104=>163
 |105=>164
 |106=>185
 |108=>184
 |109=>161
 |110=>176
 |112=>126
 |138=>169
 |139=>97
 |140=>133
 |141=>118
 |142=>58
 |143=>96
 |144=>94
 |145=>92
 |146=>93
 |147=>55
 |148=>27
 |149=>170
 |150=>171
 |151=>172
 |152=>173
 |153=>174
 |154=>132
 |155=>134
 |156=>91
 |157=>54
 |158=>127
 |159=>165
 |160=>128
 |161=>131
 |162=>167
 |163=>168
 |164=>130
 |166=>137
 |167=>138
 |168=>106
 |169=>107
 |170=>73
 |171=>72
 |172=>38
 |174=>66
 |175=>135
 |176=>67
 |177=>103
 |178=>102
 |180=>35
 |181=>64
 |186=>63
 |187=>32
 |188=>11
 |201=>19
 |202=>81
 |203=>77
 |204=>98
 |205=>99
 |206=>100
 |207=>101
 |208=>62
 |209=>60
 |231=>166
 |232=>129
 |233=>88
 |243=>146
 |244=>116
 |245=>182
 |246=>187
 |247=>179
 |248=>183
 |249=>158
 |250=>188
 |251=>180
 |252=>175
 |253=>156
 |254=>159
 |255=>124
 |256=>48
 |257=>155
 |258=>122
 |259=>145
 |260=>117
 |261=>181
 |262=>119
 |263=>83
 |264=>123
 |265=>125
 |266=>139
 |267=>149
 |268=>151
 |269=>153
 |270=>148
 |271=>150
 |272=>152
 |273=>154
 |274=>120
 |275=>121
 |276=>140
 |277=>87
 |292=>89
 |293=>90
 |294=>52
 |295=>84
 |296=>49
 |307=>85
 |308=>53
 |309=>50
 |310=>86
 |311=>51
 |312=>24
 |326=>109
 |327=>108
 |330=>75
 |328=>110
 |329=>76
 |333=>40
 |346=>95
 |347=>56
 |348=>57
 |349=>28
 |350=>115
 |351=>82
 |352=>44
 |353=>45
 |354=>22
 |355=>46
 |356=>47
 |357=>23
 |358=>74
 |359=>39
 |360=>59
 |361=>29
 |362=>30
 |363=>61
 |364=>31
 |365=>10
 |366=>136
 |367=>104
 |368=>68
 |369=>70
 |370=>69
 |371=>36
 |372=>20
 |373=>43
 |374=>21
 |375=>26
 |376=>18
 |378=>8
 |379=>9
 |380=>14
 |382=>5
 |383=>6
 |_=>0
def fmG:Nat→Option (List V)
 |0=>some zaO
 |_=>none
def fm:Fm:=⟨fmF,fmG,fun _ _ _=>True⟩
set_option maxRecDepth 100000 in
theorem checked:∀ f c,tbl f=some c→zaf Tryz.prog fm (fm f) c=true:=by
  intro f c h
  unfold tbl at h
  split at h
  ·cases h;kernel_rfl
  ·cases h;kernel_rfl
  ·cases h;kernel_rfl
  ·cases h;kernel_rfl
  ·cases h;kernel_rfl
  ·cases h;kernel_rfl
  ·cases h;kernel_rfl
  ·cases h;kernel_rfl
  ·cases h;kernel_rfl
  ·cases h;kernel_rfl
  ·cases h;kernel_rfl
  ·cases h;kernel_rfl
  ·cases h;kernel_rfl
  ·cases h;kernel_rfl
  ·cases h;kernel_rfl
  ·cases h;kernel_rfl
  ·cases h;kernel_rfl
  ·cases h;kernel_rfl
  ·cases h;kernel_rfl
  ·cases h;kernel_rfl
  ·cases h;kernel_rfl
  ·cases h;kernel_rfl
  ·cases h;kernel_rfl
  ·cases h;kernel_rfl
  ·cases h;kernel_rfl
  ·cases h;kernel_rfl
  ·cases h;kernel_rfl
  ·cases h;kernel_rfl
  ·cases h;kernel_rfl
  ·cases h;kernel_rfl
  ·cases h;kernel_rfl
  ·cases h;kernel_rfl
  ·cases h;kernel_rfl
  ·cases h;kernel_rfl
  ·cases h;kernel_rfl
  ·cases h;kernel_rfl
  ·cases h;kernel_rfl
  ·cases h;kernel_rfl
  ·cases h;kernel_rfl
  ·cases h;kernel_rfl
  ·cases h;kernel_rfl
  ·cases h;kernel_rfl
  ·cases h;kernel_rfl
  ·cases h;kernel_rfl
  ·cases h;kernel_rfl
  ·cases h;kernel_rfl
  ·cases h;kernel_rfl
  ·cases h;kernel_rfl
  ·cases h;kernel_rfl
  ·cases h;kernel_rfl
  ·cases h;kernel_rfl
  ·cases h;kernel_rfl
  ·cases h;kernel_rfl
  ·cases h;kernel_rfl
  ·cases h;kernel_rfl
  ·cases h;kernel_rfl
  ·cases h;kernel_rfl
  ·cases h;kernel_rfl
  ·cases h;kernel_rfl
  ·cases h;kernel_rfl
  ·cases h;kernel_rfl
  ·cases h;kernel_rfl
  ·cases h;kernel_rfl
  ·cases h;kernel_rfl
  ·cases h;kernel_rfl
  ·cases h;kernel_rfl
  ·cases h;kernel_rfl
  ·cases h;kernel_rfl
  ·cases h;kernel_rfl
  ·cases h;kernel_rfl
  ·cases h;kernel_rfl
  ·cases h;kernel_rfl
  ·cases h;kernel_rfl
  ·cases h;kernel_rfl
  ·cases h;kernel_rfl
  ·cases h;kernel_rfl
  ·cases h;kernel_rfl
  ·cases h;kernel_rfl
  ·cases h;kernel_rfl
  ·cases h;kernel_rfl
  ·cases h;kernel_rfl
  ·cases h;kernel_rfl
  ·cases h;kernel_rfl
  ·cases h;kernel_rfl
  ·cases h;kernel_rfl
  ·cases h;kernel_rfl
  ·cases h;kernel_rfl
  ·cases h;kernel_rfl
  ·cases h;kernel_rfl
  ·cases h;kernel_rfl
  ·cases h;kernel_rfl
  ·cases h;kernel_rfl
  ·cases h;kernel_rfl
  ·cases h;kernel_rfl
  ·cases h;kernel_rfl
  ·cases h;kernel_rfl
  ·cases h;kernel_rfl
  ·cases h;kernel_rfl
  ·cases h;kernel_rfl
  ·cases h;kernel_rfl
  ·cases h;kernel_rfl
  ·cases h;kernel_rfl
  ·cases h;kernel_rfl
  ·cases h;kernel_rfl
  ·cases h;kernel_rfl
  ·cases h;kernel_rfl
  ·cases h;kernel_rfl
  ·cases h;kernel_rfl
  ·cases h;kernel_rfl
  ·cases h;kernel_rfl
  ·cases h;kernel_rfl
  ·cases h;kernel_rfl
  ·cases h;kernel_rfl
  ·cases h;kernel_rfl
  ·cases h;kernel_rfl
  ·cases h;kernel_rfl
  ·cases h;kernel_rfl
  ·cases h;kernel_rfl
  ·cases h;kernel_rfl
  ·cases h;kernel_rfl
  ·cases h;kernel_rfl
  ·cases h;kernel_rfl
  ·cases h;kernel_rfl
  ·cases h;kernel_rfl
  ·cases h;kernel_rfl
  ·cases h;kernel_rfl
  ·cases h;kernel_rfl
  ·cases h;kernel_rfl
  ·cases h;kernel_rfl
  ·cases h;kernel_rfl
  ·cases h;kernel_rfl
  ·cases h;kernel_rfl
  ·cases h;kernel_rfl
  ·cases h;kernel_rfl
  ·cases h;kernel_rfl
  ·cases h;kernel_rfl
  ·cases h;kernel_rfl
  ·cases h;kernel_rfl
  ·cases h;kernel_rfl
  ·cases h;kernel_rfl
  ·cases h;kernel_rfl
  ·cases h;kernel_rfl
  ·cases h;kernel_rfl
  ·cases h;kernel_rfl
  ·cases h;kernel_rfl
  ·cases h;kernel_rfl
  ·cases h;kernel_rfl
  ·cases h;kernel_rfl
  ·cases h;kernel_rfl
  ·cases h;kernel_rfl
  ·cases h;kernel_rfl
  ·cases h;kernel_rfl
  ·cases h;kernel_rfl
  ·cases h;kernel_rfl
  ·cases h;kernel_rfl
  ·cases h;kernel_rfl
  ·cases h
instance hasWd:HasWd tbl:=⟨rfl⟩
instance hasBits:HasBits tbl:=⟨rfl,rfl,rfl,rfl,rfl,rfl,rfl,rfl,rfl⟩
instance hasBitsE:HasBitsE tbl:=⟨rfl⟩
instance hasBitsA:HasBitsA tbl:=⟨rfl⟩
instance hasNeg:HasNeg tbl:=⟨rfl⟩
instance hasIns:HasIns tbl:=⟨rfl,rfl,rfl,rfl,rfl⟩
instance hasCheck:HasCheck tbl:=⟨rfl,rfl,rfl,rfl,rfl,rfl,rfl,rfl,rfl⟩
instance hasData:HasData tbl:=⟨rfl,rfl,rfl,rfl⟩
instance hasStep:HasStep tbl:=⟨rfl,rfl,rfl⟩
instance hasTells:HasTells tbl:=⟨rfl,rfl,rfl,rfl⟩
instance hasLive:HasLive tbl:=⟨rfl,rfl,rfl⟩
instance hasR2:HasR2 tbl:=⟨rfl,rfl,rfl,rfl,rfl,rfl,rfl⟩
instance hasR5o:HasR5o tbl:=⟨rfl⟩
instance hasR5:HasR5 tbl:=⟨rfl,rfl⟩
instance hasR3:HasR3 tbl:=⟨rfl⟩
instance hasWRight:HasWRight tbl:=⟨rfl⟩
instance hasR17:HasR17 tbl:=⟨rfl⟩
instance hasSpl:HasSpl tbl:=⟨rfl,rfl,rfl,rfl,rfl,rfl⟩
instance hasWith:HasWith tbl:=⟨rfl,rfl,rfl⟩
instance hasAffine:HasAffine tbl:=⟨rfl,rfl,rfl,rfl,rfl,rfl,rfl,rfl,rfl,rfl,rfl,rfl⟩
instance hasSymNew:HasSymNew tbl:=⟨rfl⟩
instance hasSym:HasSym tbl:=⟨rfl,rfl,rfl,rfl,rfl,rfl,rfl,rfl,rfl,rfl,rfl,rfl,rfl,rfl,rfl,rfl,rfl,rfl,rfl⟩
instance hasSymEval:HasSymEval tbl:=⟨rfl⟩
instance hasSymApart:HasSymApart tbl:=⟨rfl⟩
instance hasAffApart:HasAffApart tbl:=⟨rfl⟩
instance hasWinRun:HasWinRun tbl:=⟨rfl⟩
instance hasWinAsg:HasWinAsg tbl:=⟨rfl⟩
instance hasWinState:HasWinState tbl:=⟨rfl⟩
instance hasWinOf:HasWinOf tbl:=⟨rfl,rfl⟩
instance hasDecDf:HasDecDf tbl:=⟨rfl,rfl⟩
instance hasDec:HasDec tbl:=⟨rfl,rfl,rfl,rfl⟩
instance hasSrcN:HasSrcN tbl:=⟨rfl⟩
instance hasSrcL:HasSrcL tbl:=⟨rfl,rfl⟩
instance hasSrcC:HasSrcC tbl:=⟨rfl,rfl⟩
instance hasSrcF:HasSrcF tbl:=⟨rfl⟩
instance hasPru:HasPru tbl:=⟨rfl,rfl,rfl,rfl⟩
instance hasEnc:HasEnc tbl:=⟨rfl,rfl⟩
instance hasTbl:HasTbl tbl:=⟨rfl,rfl,rfl,rfl,rfl,rfl,rfl,rfl⟩
instance hasOpt:HasOpt tbl:=⟨rfl,rfl,rfl,rfl,rfl,rfl⟩
instance hasR3e:HasR3e tbl:=⟨rfl,rfl⟩
instance hasR21:HasR21 tbl:=⟨rfl,rfl,rfl,rfl⟩
instance hasR21s:HasR21s tbl:=⟨rfl⟩
instance hasL21:HasL21 tbl:=⟨rfl,rfl,rfl⟩
instance hasR24c:HasR24c tbl:=⟨rfl⟩
instance hasL24k:HasL24k tbl:=⟨rfl,rfl⟩
instance hasL24g:HasL24g tbl:=⟨rfl⟩
instance hasL24:HasL24 tbl:=⟨rfl,rfl⟩
end Go.Proofs.YtogjnjnabikdpaaGreatDoor
