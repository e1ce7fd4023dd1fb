/- The seat's table of simplified functions;each is checked against the loaded program. -/
import Derived.Test.YtogjnjnabikdpaaGreatDoorProg
import Derived.KernelRfl
import Derived.Test.YtogjnjnabikdpaaGreatDoorEvNW
import Derived.Test.YtogjnjnabikdpaaGreatDoorEvInsCW
import Derived.Test.YtogjnjnabikdpaaGreatDoorEvSymCW
set_option linter.unusedSimpArgs false
set_option linter.unusedVariables false
namespace Go.Proofs.YtogjnjnabikdpaaGreatDoor
open Go.Ev
def tbl:Tbl
 |107=>some zjx
 |125=>some zdc
 |126=>some zdX
 |127=>some zdw
 |122=>some zea
 |173=>some zdY
 |100=>some zgh
 |101=>some zg5
 |102=>some zg6
 |103=>some ziH
 |104=>some zg7
 |105=>some zjy
 |106=>some zg8
 |108=>some zhZ
 |109=>some zjz
 |110=>some zh0
 |112=>some zg9
 |138=>some ziA
 |139=>some zk2
 |140=>some zhO
 |141=>some zjq
 |142=>some zgX
 |143=>some ziB
 |144=>some zjr
 |145=>some zkG
 |146=>some zi8
 |147=>some zkH
 |148=>some zi9
 |149=>some zeN
 |150=>some zeO
 |151=>some zeP
 |152=>some zeQ
 |153=>some zeR
 |154=>some zgb
 |155=>some zgY
 |156=>some zgc
 |157=>some zgd
 |158=>some zgZ
 |159=>some zfo
 |160=>some zg0
 |161=>some zhP
 |162=>some ziC
 |163=>some zhQ
 |164=>some ziD
 |166=>some zhR
 |167=>some ziE
 |168=>some zhS
 |169=>some zhT
 |170=>some zg1
 |171=>some zjs
 |172=>some zge
 |174=>some zcT
 |175=>some zc5
 |176=>some zc6
 |177=>some zdS
 |178=>some zc7
 |179=>some zdT
 |180=>some zcU
 |181=>some zds
 |182=>some zdU
 |183=>some zcV
 |184=>some zc8
 |185=>some zdt
 |186=>some zdV
 |187=>some zc9
 |188=>some zda
 |190=>some zdu
 |191=>some zdb
 |192=>some zdv
 |202=>some zfp
 |204=>some zd9
 |205=>some zgf
 |206=>some zgg
 |207=>some zfq
 |208=>some zg2
 |209=>some zeS
 |231=>some zhU
 |232=>some zjt
 |233=>some zhV
 |234=>some zdW
 |243=>some zfu
 |244=>some zha
 |245=>some zgi
 |246=>some zfv
 |247=>some zhb
 |248=>some zfw
 |249=>some zhc
 |250=>some zfx
 |251=>some zhd
 |252=>some zgj
 |253=>some zdZ
 |254=>some zeW
 |255=>some zfy
 |256=>some zjE
 |257=>some zfz
 |258=>some zfA
 |259=>some zgk
 |260=>some zfB
 |261=>some zeX
 |262=>some zeb
 |263=>some zfC
 |264=>some zec
 |265=>some zd0
 |266=>some zdd
 |267=>some zeY
 |268=>some zeZ
 |269=>some zed
 |270=>some zee
 |271=>some zef
 |272=>some zeg
 |273=>some zeh
 |274=>some zfD
 |275=>some zfE
 |276=>some ze0
 |277=>some zei
 |292=>some zhe
 |293=>some ze1
 |294=>some zfF
 |295=>some zgl
 |296=>some zh1
 |307=>some zh2
 |308=>some zej
 |309=>some zgm
 |310=>some zek
 |311=>some zfG
 |312=>some ze2
 |326=>some zel
 |327=>some zdx
 |330=>some zem
 |328=>some zcK
 |329=>some zde
 |333=>some zgn
 |346=>some zgo
 |347=>some zh3
 |348=>some ze3
 |349=>some zgp
 |350=>some zgq
 |351=>some zfH
 |352=>some zdy
 |353=>some zdz
 |354=>some zgr
 |355=>some zgs
 |356=>some zh4
 |357=>some zgt
 |358=>some zhf
 |359=>some zhg
 |360=>some zfI
 |361=>some ziK
 |362=>some ziL
 |363=>some zgu
 |364=>some zh5
 |365=>some zfJ
 |375=>some zdf
 |377=>some zcL
 |378=>some zdg
 |379=>some zdh
 |381=>some zcB
 |_=>none
def fmF:Nat→Go.FuncId
 |107=>147
 |125=>142
 |126=>177
 |127=>141
 |122=>111
 |173=>114
 |100=>186
 |101=>162
 |102=>157
 |103=>160
 |104=>163
 |105=>164
 |106=>185
 |108=>184
 |109=>161
 |110=>176
 |112=>126
 |138=>169
 |139=>97
 |140=>133
 |141=>118
 |142=>58
 |143=>96
 |144=>94
 |145=>92
 |146=>93
 |147=>55
 |148=>27
 |149=>170
 |150=>171
 |151=>172
 |152=>173
 |153=>174
 |154=>132
 |155=>134
 |156=>91
 |157=>54
 |158=>127
 |159=>165
 |160=>128
 |161=>131
 |162=>167
 |163=>168
 |164=>130
 |166=>137
 |167=>138
 |168=>106
 |169=>107
 |170=>73
 |171=>72
 |172=>38
 |174=>66
 |175=>135
 |176=>67
 |177=>103
 |178=>102
 |179=>112
 |180=>35
 |181=>64
 |182=>178
 |183=>143
 |184=>144
 |185=>113
 |186=>63
 |187=>32
 |188=>11
 |190=>80
 |191=>79
 |192=>42
 |202=>81
 |204=>98
 |205=>99
 |206=>100
 |207=>101
 |208=>62
 |209=>60
 |231=>166
 |232=>129
 |233=>88
 |234=>16
 |243=>146
 |244=>116
 |245=>182
 |246=>187
 |247=>179
 |248=>183
 |249=>158
 |250=>188
 |251=>180
 |252=>175
 |253=>156
 |254=>159
 |255=>124
 |256=>48
 |257=>155
 |258=>122
 |259=>145
 |260=>117
 |261=>181
 |262=>119
 |263=>83
 |264=>123
 |265=>125
 |266=>139
 |267=>149
 |268=>151
 |269=>153
 |270=>148
 |271=>150
 |272=>152
 |273=>154
 |274=>120
 |275=>121
 |276=>140
 |277=>87
 |292=>89
 |293=>90
 |294=>52
 |295=>84
 |296=>49
 |307=>85
 |308=>53
 |309=>50
 |310=>86
 |311=>51
 |312=>24
 |326=>109
 |327=>108
 |330=>75
 |328=>110
 |329=>76
 |333=>40
 |346=>95
 |347=>56
 |348=>57
 |349=>28
 |350=>115
 |351=>82
 |352=>44
 |353=>45
 |354=>22
 |355=>46
 |356=>47
 |357=>23
 |358=>74
 |359=>39
 |360=>59
 |361=>29
 |362=>30
 |363=>61
 |364=>31
 |365=>10
 |375=>26
 |377=>17
 |378=>8
 |379=>9
 |381=>4
 |_=>0
def fmG:Nat→Option (List V)
 |0=>some zaS
 |_=>none
def fm:Fm:=⟨fmF,fmG,fun _ _ _=>True⟩
set_option maxRecDepth 100000 in
theorem checked:∀ f c,tbl f=some c→zaf Tryz.prog fm (fm f) c=true:=by
  intro f c h
  unfold tbl at h
  split at h
  ·cases h;kernel_rfl
  ·cases h;kernel_rfl
  ·cases h;kernel_rfl
  ·cases h;kernel_rfl
  ·cases h;kernel_rfl
  ·cases h;kernel_rfl
  ·cases h;kernel_rfl
  ·cases h;kernel_rfl
  ·cases h;kernel_rfl
  ·cases h;kernel_rfl
  ·cases h;kernel_rfl
  ·cases h;kernel_rfl
  ·cases h;kernel_rfl
  ·cases h;kernel_rfl
  ·cases h;kernel_rfl
  ·cases h;kernel_rfl
  ·cases h;kernel_rfl
  ·cases h;kernel_rfl
  ·cases h;kernel_rfl
  ·cases h;kernel_rfl
  ·cases h;kernel_rfl
  ·cases h;kernel_rfl
  ·cases h;kernel_rfl
  ·cases h;kernel_rfl
  ·cases h;kernel_rfl
  ·cases h;kernel_rfl
  ·cases h;kernel_rfl
  ·cases h;kernel_rfl
  ·cases h;kernel_rfl
  ·cases h;kernel_rfl
  ·cases h;kernel_rfl
  ·cases h;kernel_rfl
  ·cases h;kernel_rfl
  ·cases h;kernel_rfl
  ·cases h;kernel_rfl
  ·cases h;kernel_rfl
  ·cases h;kernel_rfl
  ·cases h;kernel_rfl
  ·cases h;kernel_rfl
  ·cases h;kernel_rfl
  ·cases h;kernel_rfl
  ·cases h;kernel_rfl
  ·cases h;kernel_rfl
  ·cases h;kernel_rfl
  ·cases h;kernel_rfl
  ·cases h;kernel_rfl
  ·cases h;kernel_rfl
  ·cases h;kernel_rfl
  ·cases h;kernel_rfl
  ·cases h;kernel_rfl
  ·cases h;kernel_rfl
  ·cases h;kernel_rfl
  ·cases h;kernel_rfl
  ·cases h;kernel_rfl
  ·cases h;kernel_rfl
  ·cases h;kernel_rfl
  ·cases h;kernel_rfl
  ·cases h;kernel_rfl
  ·cases h;kernel_rfl
  ·cases h;kernel_rfl
  ·cases h;kernel_rfl
  ·cases h;kernel_rfl
  ·cases h;kernel_rfl
  ·cases h;kernel_rfl
  ·cases h;kernel_rfl
  ·cases h;kernel_rfl
  ·cases h;kernel_rfl
  ·cases h;kernel_rfl
  ·cases h;kernel_rfl
  ·cases h;kernel_rfl
  ·cases h;kernel_rfl
  ·cases h;kernel_rfl
  ·cases h;kernel_rfl
  ·cases h;kernel_rfl
  ·cases h;kernel_rfl
  ·cases h;kernel_rfl
  ·cases h;kernel_rfl
  ·cases h;kernel_rfl
  ·cases h;kernel_rfl
  ·cases h;kernel_rfl
  ·cases h;kernel_rfl
  ·cases h;kernel_rfl
  ·cases h;kernel_rfl
  ·cases h;kernel_rfl
  ·cases h;kernel_rfl
  ·cases h;kernel_rfl
  ·cases h;kernel_rfl
  ·cases h;kernel_rfl
  ·cases h;kernel_rfl
  ·cases h;kernel_rfl
  ·cases h;kernel_rfl
  ·cases h;kernel_rfl
  ·cases h;kernel_rfl
  ·cases h;kernel_rfl
  ·cases h;kernel_rfl
  ·cases h;kernel_rfl
  ·cases h;kernel_rfl
  ·cases h;kernel_rfl
  ·cases h;kernel_rfl
  ·cases h;kernel_rfl
  ·cases h;kernel_rfl
  ·cases h;kernel_rfl
  ·cases h;kernel_rfl
  ·cases h;kernel_rfl
  ·cases h;kernel_rfl
  ·cases h;kernel_rfl
  ·cases h;kernel_rfl
  ·cases h;kernel_rfl
  ·cases h;kernel_rfl
  ·cases h;kernel_rfl
  ·cases h;kernel_rfl
  ·cases h;kernel_rfl
  ·cases h;kernel_rfl
  ·cases h;kernel_rfl
  ·cases h;kernel_rfl
  ·cases h;kernel_rfl
  ·cases h;kernel_rfl
  ·cases h;kernel_rfl
  ·cases h;kernel_rfl
  ·cases h;kernel_rfl
  ·cases h;kernel_rfl
  ·cases h;kernel_rfl
  ·cases h;kernel_rfl
  ·cases h;kernel_rfl
  ·cases h;kernel_rfl
  ·cases h;kernel_rfl
  ·cases h;kernel_rfl
  ·cases h;kernel_rfl
  ·cases h;kernel_rfl
  ·cases h;kernel_rfl
  ·cases h;kernel_rfl
  ·cases h;kernel_rfl
  ·cases h;kernel_rfl
  ·cases h;kernel_rfl
  ·cases h;kernel_rfl
  ·cases h;kernel_rfl
  ·cases h;kernel_rfl
  ·cases h;kernel_rfl
  ·cases h;kernel_rfl
  ·cases h;kernel_rfl
  ·cases h;kernel_rfl
  ·cases h;kernel_rfl
  ·cases h;kernel_rfl
  ·cases h;kernel_rfl
  ·cases h;kernel_rfl
  ·cases h;kernel_rfl
  ·cases h;kernel_rfl
  ·cases h;kernel_rfl
  ·cases h;kernel_rfl
  ·cases h;kernel_rfl
  ·cases h;kernel_rfl
  ·cases h;kernel_rfl
  ·cases h;kernel_rfl
  ·cases h;kernel_rfl
  ·cases h;kernel_rfl
  ·cases h;kernel_rfl
  ·cases h;kernel_rfl
  ·cases h
instance hasWd:HasWd tbl:=⟨rfl⟩
instance hasR1:HasR1 tbl:=⟨rfl,rfl,rfl,rfl⟩
instance hasR1n:HasR1n tbl:=⟨rfl⟩
instance hasBits:HasBits tbl:=⟨rfl,rfl,rfl,rfl,rfl,rfl,rfl,rfl,rfl⟩
instance hasBitsE:HasBitsE tbl:=⟨rfl⟩
instance hasBitsA:HasBitsA tbl:=⟨rfl⟩
instance hasNeg:HasNeg tbl:=⟨rfl⟩
instance hasIns:HasIns tbl:=⟨rfl,rfl,rfl,rfl,rfl⟩
instance hasCheck:HasCheck tbl:=⟨rfl,rfl,rfl,rfl,rfl,rfl,rfl,rfl,rfl⟩
instance hasData:HasData tbl:=⟨rfl,rfl,rfl,rfl⟩
instance hasStep:HasStep tbl:=⟨rfl,rfl,rfl⟩
instance hasTells:HasTells tbl:=⟨rfl,rfl,rfl,rfl⟩
instance hasLive:HasLive tbl:=⟨rfl,rfl,rfl⟩
instance hasR2:HasR2 tbl:=⟨rfl,rfl,rfl,rfl,rfl,rfl,rfl,rfl⟩
instance hasR4:HasR4 tbl:=⟨rfl,rfl,rfl,rfl⟩
instance hasR5o:HasR5o tbl:=⟨rfl⟩
instance hasR5:HasR5 tbl:=⟨rfl,rfl⟩
instance hasR6s:HasR6s tbl:=⟨rfl⟩
instance hasR6:HasR6 tbl:=⟨rfl,rfl⟩
instance hasWRight:HasWRight tbl:=⟨rfl⟩
instance hasSpl:HasSpl tbl:=⟨rfl,rfl,rfl,rfl,rfl,rfl⟩
instance hasWith:HasWith tbl:=⟨rfl,rfl,rfl⟩
instance hasR6r:HasR6r tbl:=⟨rfl⟩
instance hasAffine:HasAffine tbl:=⟨rfl,rfl,rfl,rfl,rfl,rfl,rfl,rfl,rfl,rfl,rfl,rfl⟩
instance hasSymNew:HasSymNew tbl:=⟨rfl⟩
instance hasSym:HasSym tbl:=⟨rfl,rfl,rfl,rfl,rfl,rfl,rfl,rfl,rfl,rfl,rfl,rfl,rfl,rfl,rfl,rfl,rfl,rfl,rfl⟩
instance hasSymEval:HasSymEval tbl:=⟨rfl⟩
instance hasSymApart:HasSymApart tbl:=⟨rfl⟩
instance hasAffApart:HasAffApart tbl:=⟨rfl⟩
instance hasWinRun:HasWinRun tbl:=⟨rfl⟩
instance hasWinAsg:HasWinAsg tbl:=⟨rfl⟩
instance hasWinState:HasWinState tbl:=⟨rfl⟩
instance hasWinOf:HasWinOf tbl:=⟨rfl,rfl⟩
instance hasDecDf:HasDecDf tbl:=⟨rfl,rfl⟩
instance hasDec:HasDec tbl:=⟨rfl,rfl,rfl,rfl⟩
instance hasSrcN:HasSrcN tbl:=⟨rfl⟩
instance hasSrcL:HasSrcL tbl:=⟨rfl,rfl⟩
instance hasSrcC:HasSrcC tbl:=⟨rfl,rfl⟩
instance hasSrcF:HasSrcF tbl:=⟨rfl⟩
instance hasPru:HasPru tbl:=⟨rfl,rfl,rfl,rfl⟩
instance hasEnc:HasEnc tbl:=⟨rfl,rfl⟩
instance hasTbl:HasTbl tbl:=⟨rfl,rfl,rfl,rfl,rfl,rfl,rfl,rfl⟩
instance hasOpt:HasOpt tbl:=⟨rfl,rfl,rfl,rfl,rfl,rfl⟩
instance hasL21:HasL21 tbl:=⟨rfl⟩
instance hasR24d:HasR24d tbl:=⟨rfl⟩
instance hasL24k:HasL24k tbl:=⟨rfl,rfl⟩
instance hasL24:HasL24 tbl:=⟨rfl⟩
end Go.Proofs.YtogjnjnabikdpaaGreatDoor
