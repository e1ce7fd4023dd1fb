/- The seat's table of simplified functions;each is checked against the loaded program. -/
import Derived.Test.YtogjnjnabikdpaaGreatDoorProg
import Derived.KernelRfl
import Derived.Test.YtogjnjnabikdpaaGreatDoorEvNW
import Derived.Test.YtogjnjnabikdpaaGreatDoorEvInsCW
import Derived.Test.YtogjnjnabikdpaaGreatDoorEvSrcCW
import Derived.Test.YtogjnjnabikdpaaGreatDoorArgIW
set_option linter.unusedSimpArgs false
set_option linter.unusedVariables false
namespace Go.Proofs.YtogjnjnabikdpaaGreatDoor
open Go.Ev
def tbl:Tbl
 |107=>some zjL
 |100=>some zgo
 |101=>some zhg
 |102=>some zhh
 |103=>some ziV
 |104=>some zhi
 |105=>some zjM
 |106=>some zhj
 |108=>some zh6
 |109=>some zjN
 |110=>some zh7
 |112=>some zhk
 |138=>some ziO
 |139=>some zla
 |140=>some zhS
 |141=>some zjA
 |142=>some zg3
 |143=>some ziP
 |144=>some zjB
 |145=>some zkS
 |146=>some zjg
 |147=>some zkT
 |148=>some zjh
 |149=>some zeV
 |150=>some zeW
 |151=>some zeX
 |152=>some zeY
 |153=>some zeZ
 |154=>some zgd
 |155=>some zg4
 |156=>some zge
 |157=>some zgf
 |158=>some zg5
 |159=>some zfo
 |160=>some zg6
 |161=>some zhT
 |162=>some ziQ
 |163=>some zhU
 |164=>some ziR
 |166=>some zhV
 |167=>some ziS
 |168=>some zhW
 |169=>some zhX
 |170=>some zg7
 |171=>some zjC
 |172=>some zgg
 |174=>some zcQ
 |175=>some zc4
 |176=>some zc5
 |177=>some zd0
 |178=>some zc6
 |180=>some zcR
 |181=>some zdv
 |186=>some zd1
 |187=>some zc7
 |188=>some zc8
 |201=>some zdw
 |202=>some zfp
 |203=>some zc9
 |204=>some zeh
 |205=>some zgh
 |206=>some zgi
 |207=>some zfq
 |208=>some zg8
 |209=>some ze0
 |210=>some zda
 |211=>some zdx
 |212=>some zdb
 |213=>some zd2
 |214=>some zcS
 |231=>some zhY
 |232=>some zjD
 |233=>some zhZ
 |243=>some zfr
 |244=>some zg9
 |245=>some zgj
 |246=>some zfs
 |247=>some zha
 |248=>some zft
 |249=>some zhb
 |250=>some zfu
 |251=>some zhc
 |252=>some zgk
 |253=>some zd3
 |254=>some ze1
 |255=>some zfv
 |256=>some zjE
 |257=>some zfw
 |258=>some zfx
 |259=>some zgl
 |260=>some zfy
 |261=>some ze2
 |262=>some zei
 |263=>some zfz
 |264=>some zej
 |265=>some zd4
 |266=>some zdc
 |267=>some ze3
 |268=>some ze4
 |269=>some zek
 |270=>some zel
 |271=>some zem
 |272=>some zen
 |273=>some zeo
 |274=>some zfA
 |275=>some zfB
 |276=>some ze5
 |277=>some zep
 |292=>some zhd
 |293=>some ze6
 |294=>some zfC
 |295=>some zgm
 |296=>some zh0
 |307=>some zh1
 |308=>some zeq
 |309=>some zgn
 |310=>some zer
 |311=>some zfD
 |312=>some ze7
 |326=>some zes
 |327=>some zdA
 |330=>some zet
 |328=>some zcJ
 |329=>some zdd
 |333=>some zgp
 |346=>some zgq
 |347=>some zh8
 |348=>some zfa
 |349=>some zgr
 |350=>some zgs
 |351=>some zfN
 |352=>some zdB
 |353=>some zdC
 |354=>some zgt
 |355=>some zgu
 |356=>some zh9
 |357=>some zgv
 |358=>some zhl
 |359=>some zhm
 |360=>some zfO
 |361=>some ziY
 |362=>some ziZ
 |363=>some zgw
 |364=>some zia
 |365=>some zfP
 |366=>some zd5
 |367=>some zcV
 |368=>some zd6
 |369=>some zde
 |370=>some zdD
 |371=>some zdf
 |372=>some zdE
 |373=>some zeu
 |374=>some zev
 |375=>some zdg
 |376=>some zdF
 |378=>some zdh
 |379=>some zdi
 |380=>some zdG
 |386=>some zhO
 |384=>some zdo
 |385=>some zdp
 |390=>some zcm
 |_=>none
def fmF:Nat→Go.FuncId
 |107=>147
 |100=>186
 |101=>162
 |102=>157
 |103=>160
 |104=>163
 |105=>164
 |106=>185
 |108=>184
 |109=>161
 |110=>176
 |112=>126
 |138=>169
 |139=>97
 |140=>133
 |141=>118
 |142=>58
 |143=>96
 |144=>94
 |145=>92
 |146=>93
 |147=>55
 |148=>27
 |149=>170
 |150=>171
 |151=>172
 |152=>173
 |153=>174
 |154=>132
 |155=>134
 |156=>91
 |157=>54
 |158=>127
 |159=>165
 |160=>128
 |161=>131
 |162=>167
 |163=>168
 |164=>130
 |166=>137
 |167=>138
 |168=>106
 |169=>107
 |170=>73
 |171=>72
 |172=>38
 |174=>66
 |175=>135
 |176=>67
 |177=>103
 |178=>102
 |180=>35
 |181=>64
 |186=>63
 |187=>32
 |188=>11
 |201=>19
 |202=>81
 |203=>77
 |204=>98
 |205=>99
 |206=>100
 |207=>101
 |208=>62
 |209=>60
 |210=>105
 |211=>71
 |212=>78
 |213=>41
 |214=>37
 |231=>166
 |232=>129
 |233=>88
 |243=>146
 |244=>116
 |245=>182
 |246=>187
 |247=>179
 |248=>183
 |249=>158
 |250=>188
 |251=>180
 |252=>175
 |253=>156
 |254=>159
 |255=>124
 |256=>48
 |257=>155
 |258=>122
 |259=>145
 |260=>117
 |261=>181
 |262=>119
 |263=>83
 |264=>123
 |265=>125
 |266=>139
 |267=>149
 |268=>151
 |269=>153
 |270=>148
 |271=>150
 |272=>152
 |273=>154
 |274=>120
 |275=>121
 |276=>140
 |277=>87
 |292=>89
 |293=>90
 |294=>52
 |295=>84
 |296=>49
 |307=>85
 |308=>53
 |309=>50
 |310=>86
 |311=>51
 |312=>24
 |326=>109
 |327=>108
 |330=>75
 |328=>110
 |329=>76
 |333=>40
 |346=>95
 |347=>56
 |348=>57
 |349=>28
 |350=>115
 |351=>82
 |352=>44
 |353=>45
 |354=>22
 |355=>46
 |356=>47
 |357=>23
 |358=>74
 |359=>39
 |360=>59
 |361=>29
 |362=>30
 |363=>61
 |364=>31
 |365=>10
 |366=>136
 |367=>104
 |368=>68
 |369=>70
 |370=>69
 |371=>36
 |372=>20
 |373=>43
 |374=>21
 |375=>26
 |376=>18
 |378=>8
 |379=>9
 |380=>14
 |386=>25
 |384=>12
 |385=>15
 |390=>7
 |_=>0
def fmG:Nat→Option (List V)
 |0=>some zaR
 |_=>none
def fm:Fm:=⟨fmF,fmG,fun _ _ _=>True⟩
set_option maxRecDepth 100000 in
theorem checked:∀ f c,tbl f=some c→zaf Tryz.prog fm (fm f) c=true:=by
  intro f c h
  unfold tbl at h
  split at h
  ·cases h;kernel_rfl
  ·cases h;kernel_rfl
  ·cases h;kernel_rfl
  ·cases h;kernel_rfl
  ·cases h;kernel_rfl
  ·cases h;kernel_rfl
  ·cases h;kernel_rfl
  ·cases h;kernel_rfl
  ·cases h;kernel_rfl
  ·cases h;kernel_rfl
  ·cases h;kernel_rfl
  ·cases h;kernel_rfl
  ·cases h;kernel_rfl
  ·cases h;kernel_rfl
  ·cases h;kernel_rfl
  ·cases h;kernel_rfl
  ·cases h;kernel_rfl
  ·cases h;kernel_rfl
  ·cases h;kernel_rfl
  ·cases h;kernel_rfl
  ·cases h;kernel_rfl
  ·cases h;kernel_rfl
  ·cases h;kernel_rfl
  ·cases h;kernel_rfl
  ·cases h;kernel_rfl
  ·cases h;kernel_rfl
  ·cases h;kernel_rfl
  ·cases h;kernel_rfl
  ·cases h;kernel_rfl
  ·cases h;kernel_rfl
  ·cases h;kernel_rfl
  ·cases h;kernel_rfl
  ·cases h;kernel_rfl
  ·cases h;kernel_rfl
  ·cases h;kernel_rfl
  ·cases h;kernel_rfl
  ·cases h;kernel_rfl
  ·cases h;kernel_rfl
  ·cases h;kernel_rfl
  ·cases h;kernel_rfl
  ·cases h;kernel_rfl
  ·cases h;kernel_rfl
  ·cases h;kernel_rfl
  ·cases h;kernel_rfl
  ·cases h;kernel_rfl
  ·cases h;kernel_rfl
  ·cases h;kernel_rfl
  ·cases h;kernel_rfl
  ·cases h;kernel_rfl
  ·cases h;kernel_rfl
  ·cases h;kernel_rfl
  ·cases h;kernel_rfl
  ·cases h;kernel_rfl
  ·cases h;kernel_rfl
  ·cases h;kernel_rfl
  ·cases h;kernel_rfl
  ·cases h;kernel_rfl
  ·cases h;kernel_rfl
  ·cases h;kernel_rfl
  ·cases h;kernel_rfl
  ·cases h;kernel_rfl
  ·cases h;kernel_rfl
  ·cases h;kernel_rfl
  ·cases h;kernel_rfl
  ·cases h;kernel_rfl
  ·cases h;kernel_rfl
  ·cases h;kernel_rfl
  ·cases h;kernel_rfl
  ·cases h;kernel_rfl
  ·cases h;kernel_rfl
  ·cases h;kernel_rfl
  ·cases h;kernel_rfl
  ·cases h;kernel_rfl
  ·cases h;kernel_rfl
  ·cases h;kernel_rfl
  ·cases h;kernel_rfl
  ·cases h;kernel_rfl
  ·cases h;kernel_rfl
  ·cases h;kernel_rfl
  ·cases h;kernel_rfl
  ·cases h;kernel_rfl
  ·cases h;kernel_rfl
  ·cases h;kernel_rfl
  ·cases h;kernel_rfl
  ·cases h;kernel_rfl
  ·cases h;kernel_rfl
  ·cases h;kernel_rfl
  ·cases h;kernel_rfl
  ·cases h;kernel_rfl
  ·cases h;kernel_rfl
  ·cases h;kernel_rfl
  ·cases h;kernel_rfl
  ·cases h;kernel_rfl
  ·cases h;kernel_rfl
  ·cases h;kernel_rfl
  ·cases h;kernel_rfl
  ·cases h;kernel_rfl
  ·cases h;kernel_rfl
  ·cases h;kernel_rfl
  ·cases h;kernel_rfl
  ·cases h;kernel_rfl
  ·cases h;kernel_rfl
  ·cases h;kernel_rfl
  ·cases h;kernel_rfl
  ·cases h;kernel_rfl
  ·cases h;kernel_rfl
  ·cases h;kernel_rfl
  ·cases h;kernel_rfl
  ·cases h;kernel_rfl
  ·cases h;kernel_rfl
  ·cases h;kernel_rfl
  ·cases h;kernel_rfl
  ·cases h;kernel_rfl
  ·cases h;kernel_rfl
  ·cases h;kernel_rfl
  ·cases h;kernel_rfl
  ·cases h;kernel_rfl
  ·cases h;kernel_rfl
  ·cases h;kernel_rfl
  ·cases h;kernel_rfl
  ·cases h;kernel_rfl
  ·cases h;kernel_rfl
  ·cases h;kernel_rfl
  ·cases h;kernel_rfl
  ·cases h;kernel_rfl
  ·cases h;kernel_rfl
  ·cases h;kernel_rfl
  ·cases h;kernel_rfl
  ·cases h;kernel_rfl
  ·cases h;kernel_rfl
  ·cases h;kernel_rfl
  ·cases h;kernel_rfl
  ·cases h;kernel_rfl
  ·cases h;kernel_rfl
  ·cases h;kernel_rfl
  ·cases h;kernel_rfl
  ·cases h;kernel_rfl
  ·cases h;kernel_rfl
  ·cases h;kernel_rfl
  ·cases h;kernel_rfl
  ·cases h;kernel_rfl
  ·cases h;kernel_rfl
  ·cases h;kernel_rfl
  ·cases h;kernel_rfl
  ·cases h;kernel_rfl
  ·cases h;kernel_rfl
  ·cases h;kernel_rfl
  ·cases h;kernel_rfl
  ·cases h;kernel_rfl
  ·cases h;kernel_rfl
  ·cases h;kernel_rfl
  ·cases h;kernel_rfl
  ·cases h;kernel_rfl
  ·cases h;kernel_rfl
  ·cases h;kernel_rfl
  ·cases h;kernel_rfl
  ·cases h;kernel_rfl
  ·cases h;kernel_rfl
  ·cases h;kernel_rfl
  ·cases h;kernel_rfl
  ·cases h;kernel_rfl
  ·cases h;kernel_rfl
  ·cases h;kernel_rfl
  ·cases h
instance hasWd:HasWd tbl:=⟨rfl⟩
instance hasBits:HasBits tbl:=⟨rfl,rfl,rfl,rfl,rfl,rfl,rfl,rfl,rfl⟩
instance hasBitsE:HasBitsE tbl:=⟨rfl⟩
instance hasBitsA:HasBitsA tbl:=⟨rfl⟩
instance hasNeg:HasNeg tbl:=⟨rfl⟩
instance hasIns:HasIns tbl:=⟨rfl,rfl,rfl,rfl,rfl⟩
instance hasCheck:HasCheck tbl:=⟨rfl,rfl,rfl,rfl,rfl,rfl,rfl,rfl,rfl⟩
instance hasData:HasData tbl:=⟨rfl,rfl,rfl,rfl⟩
instance hasStep:HasStep tbl:=⟨rfl,rfl,rfl⟩
instance hasTells:HasTells tbl:=⟨rfl,rfl,rfl,rfl⟩
instance hasLive:HasLive tbl:=⟨rfl,rfl,rfl⟩
instance hasR2:HasR2 tbl:=⟨rfl,rfl,rfl,rfl,rfl,rfl,rfl⟩
instance hasR5o:HasR5o tbl:=⟨rfl⟩
instance hasR5:HasR5 tbl:=⟨rfl,rfl⟩
instance hasR3:HasR3 tbl:=⟨rfl⟩
instance hasWRight:HasWRight tbl:=⟨rfl⟩
instance hasR17:HasR17 tbl:=⟨rfl⟩
instance hasSpl:HasSpl tbl:=⟨rfl,rfl,rfl,rfl,rfl,rfl⟩
instance hasR22:HasR22 tbl:=⟨rfl,rfl,rfl,rfl,rfl⟩
instance hasWith:HasWith tbl:=⟨rfl,rfl,rfl⟩
instance hasAffine:HasAffine tbl:=⟨rfl,rfl,rfl,rfl,rfl,rfl,rfl,rfl,rfl,rfl,rfl,rfl⟩
instance hasSymNew:HasSymNew tbl:=⟨rfl⟩
instance hasSym:HasSym tbl:=⟨rfl,rfl,rfl,rfl,rfl,rfl,rfl,rfl,rfl,rfl,rfl,rfl,rfl,rfl,rfl,rfl,rfl,rfl,rfl⟩
instance hasSymEval:HasSymEval tbl:=⟨rfl⟩
instance hasSymApart:HasSymApart tbl:=⟨rfl⟩
instance hasAffApart:HasAffApart tbl:=⟨rfl⟩
instance hasWinRun:HasWinRun tbl:=⟨rfl⟩
instance hasWinAsg:HasWinAsg tbl:=⟨rfl⟩
instance hasWinState:HasWinState tbl:=⟨rfl⟩
instance hasWinOf:HasWinOf tbl:=⟨rfl,rfl⟩
instance hasDecDf:HasDecDf tbl:=⟨rfl,rfl⟩
instance hasDec:HasDec tbl:=⟨rfl,rfl,rfl,rfl⟩
instance hasSrcN:HasSrcN tbl:=⟨rfl⟩
instance hasSrcL:HasSrcL tbl:=⟨rfl,rfl⟩
instance hasSrcC:HasSrcC tbl:=⟨rfl,rfl⟩
instance hasSrcF:HasSrcF tbl:=⟨rfl⟩
instance hasPru:HasPru tbl:=⟨rfl,rfl,rfl,rfl⟩
instance hasEnc:HasEnc tbl:=⟨rfl,rfl⟩
instance hasTbl:HasTbl tbl:=⟨rfl,rfl,rfl,rfl,rfl,rfl,rfl,rfl⟩
instance hasOpt:HasOpt tbl:=⟨rfl,rfl,rfl,rfl,rfl,rfl⟩
instance hasR3e:HasR3e tbl:=⟨rfl,rfl⟩
instance hasR21:HasR21 tbl:=⟨rfl,rfl,rfl,rfl⟩
instance hasR21s:HasR21s tbl:=⟨rfl⟩
instance hasL21:HasL21 tbl:=⟨rfl,rfl,rfl⟩
instance hasR24c:HasR24c tbl:=⟨rfl⟩
instance hasL24k:HasL24k tbl:=⟨rfl,rfl⟩
instance hasL24g:HasL24g tbl:=⟨rfl⟩
instance hasRound:HasRound tbl:=⟨rfl⟩
instance hasL24s:HasL24s tbl:=⟨rfl,rfl⟩
instance hasL24r:HasL24r tbl:=⟨rfl⟩
end Go.Proofs.YtogjnjnabikdpaaGreatDoor
