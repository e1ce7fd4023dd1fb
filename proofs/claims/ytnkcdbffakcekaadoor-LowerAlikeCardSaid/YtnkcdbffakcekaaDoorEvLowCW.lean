/- Simplified code of Go functions, by scode.py. -/
import Derived.Test.YtnkcdbffakcekaaDoorEvNW
import Derived.OpenShut
import Derived.ChangeShapes
import Derived.WideShapes
import Derived.Carry
set_option linter.unusedVariables false
set_option linter.unusedSimpArgs false
namespace Go.Ev
/-- hurdle/word.Text -/
def c_word_Text : SFn := ⟨34,rS [mC 2 (.c (.str []))] (rM 1 [oS 7 (.bsliceG 0 2 ([.int .u8 0]) [(0,.c (.int .u8 48)),(1,.c (.int .u8 120))]),oS 8 (.mark (.t 7)),mM 3 8] (rS [mC 4 kF] (.seq (rS [mC 5 (kI 60)] (.seq (.give 3 none) (.block 0 (.loop [0,3,4,5] (.seq (rS [mM 9 5,bX 10 .geq 9 (kI 0)] (cX 10 0)) (.seq (.block 1 (rS [mM 13 0,mM 14 5,bT 15 .shr 13 14,oS 16 (.bin .and (.t 15) (.c (.int .u64 15))),mM 6 16] (kS [0,3,4,5,6] (rS [mM 17 4,mM 18 17,oF 19 18 (.mv (.t 6)),oF 20 18 (.bin .gtr (.t 19) (.c (.int .u64 0))),pK 21 18 kT (.t 20),mM 22 21,oF 23 22 (.mv (.t 5)),oF 24 22 (.bin .eql (.t 23) (kI 0)),pK 25 22 kT (.t 24),mM 4 25] (kS [0,3,4,5,6] (rS [mM 26 4] (cD 26 (.region 1 [mM 27 3,mM 28 6,oS 29 (.sidx (.c (.str [48,49,50,51,52,53,54,55,56,57,97,98,99,100,101,102])) (.t 28)),oS 30 (.bslice 1 ([.int .u8 0]) [(0,.t 29)]),oS 31 (.app 0 1 1 (.t 27) (.t 30)),mM 3 31]) .skip))))))) (kS [0,3,4,5] (rZ [mM 11 5,bX 12 .sub 11 (kI 4),mM 5 12])))))))) (kS [3] (rS [mM 32 3,oS 33 (.b2s (.t 32)),mM 2 33] .ret))))),[.tmp 2]⟩
/-- hurdle/names.name -/
def c_names_name : SFn := ⟨0,.nat 0,[]⟩
/-- hurdle/names.actions -/
def c_names_actions : SFn := ⟨3,rS [mC 0 (.c (.nilm))] (rM 1 [oS 1 (.mkmap 0),oN (.mput (.sc .str) (.t 1) (.c (.str [107,105,108,108])) (.c (.int .u32 0))),oN (.mput (.sc .str) (.t 1) (.c (.str [116,114,97,112])) (.c (.int .u32 196608))),oN (.mput (.sc .str) (.t 1) (.c (.str [108,111,103])) (.c (.int .u32 2147221504))),oN (.mput (.sc .str) (.t 1) (.c (.str [97,108,108,111,119])) (.c (.int .u32 2147418112))),mM 2 1,mM 0 2] .ret),[.tmp 0]⟩
/-- hurdle/names.Action -/
def c_names_Action : SFn := ⟨20,rS [mC 2 (.c (.str [])),mC 3 (kI 0)] (.seq (rS [oS 6 (.kcall false 394 []),mM 7 0,sC 8 393 [.t 6,.t 7],mM 4 8] (kS [0,4] (rS [mM 9 4,oS 10 (.bin .neq (.t 9) (.c (.str [])))] (cD 10 (rS [mM 11 4,mM 2 11,mC 3 (kI 0)] .ret) .skip)))) (kS [0] (.seq (rS [mM 12 0,oS 13 (.bin .sub (.t 12) (.c (.int .u32 327680))),mM 5 13] (rS [mM 14 5,oS 15 (.bin .leq (.t 14) (.c (.int .u32 4095)))] (cD 15 (rS [mM 16 5,oS 17 (.conv .u64 (.t 16)),pC 18 392 [.t 17],oS 19 (.bin .add (.c (.str [101,114,114,111,114,58])) (.t 18)),mM 2 19,mC 3 (kI 0)] .ret) .skip))) (kS [] (rS [mC 2 (.c (.str [])),mC 3 (kI 1)] .ret))))),[.tmp 2,.tmp 3]⟩
/-- hurdle/cond.Right -/
def c_cond_Right : SFn := ⟨21,rM 1 [oS 1 (.box 0 (.t 0)),mC 2 kF] (rS [fA 3 0 1,lD 4 3,bX 5 .geq 4 (kI 0),mM 6 5,oT 7 6 (.faddr 0 (.t 1)),oT 8 6 (.load 1 false false (.t 7)),oT 9 6 (.bin .lss (.t 8) (kI 6)),pK 10 6 (.t 9) kF,mM 11 10,oT 12 11 (.faddr 1 (.t 1)),oT 13 11 (.load 1 false false (.t 12)),oT 14 11 (.bin .geq (.t 13) (kI 0)),pK 15 11 (.t 14) kF,mM 16 15,oT 17 16 (.faddr 1 (.t 1)),oT 18 16 (.load 1 false false (.t 17)),oT 19 16 (.bin .leq (.t 18) (kI 5)),pK 20 16 (.t 19) kF,mM 2 20] .ret),[.tmp 2]⟩
/-- hurdle/cond.kinds$1 -/
def c_cond_kinds_1 : SFn := ⟨8,rS [mC 4 kF] (rS [mM 5 0,mM 6 1,bT 7 .eql 5 6,mM 4 7] .ret),[.tmp 4]⟩
/-- hurdle/cond.kinds$2 -/
def c_cond_kinds_2 : SFn := ⟨8,rS [mC 4 kF] (rS [mM 5 0,mM 6 1,bT 7 .neq 5 6,mM 4 7] .ret),[.tmp 4]⟩
/-- hurdle/cond.kinds$3 -/
def c_cond_kinds_3 : SFn := ⟨8,rS [mC 4 kF] (rS [mM 5 0,mM 6 1,bT 7 .lss 5 6,mM 4 7] .ret),[.tmp 4]⟩
/-- hurdle/cond.kinds$4 -/
def c_cond_kinds_4 : SFn := ⟨8,rS [mC 4 kF] (rS [mM 5 0,mM 6 1,bT 7 .leq 5 6,mM 4 7] .ret),[.tmp 4]⟩
/-- hurdle/cond.kinds$5 -/
def c_cond_kinds_5 : SFn := ⟨8,rS [mC 4 kF] (rS [mM 5 0,mM 6 1,bT 7 .gtr 5 6,mM 4 7] .ret),[.tmp 4]⟩
/-- hurdle/cond.kinds$6 -/
def c_cond_kinds_6 : SFn := ⟨8,rS [mC 4 kF] (rS [mM 5 0,mM 6 1,bT 7 .geq 5 6,mM 4 7] .ret),[.tmp 4]⟩
/-- hurdle/cond.kinds -/
def c_cond_kinds : SFn := ⟨8,rM 1 [oS 0 (.alloc 0 ([.str [],.nilf,.int .i64 0,.str [],.nilf,.int .i64 0,.str [],.nilf,.int .i64 0,.str [],.nilf,.int .i64 0,.str [],.nilf,.int .i64 0,.str [],.nilf,.int .i64 0]))] (rS [oS 1 (.build ([.str [],.nilf,.int .i64 0]) [(0,1,.c (.str [101,113])),(1,1,.c (.fn 397 [])),(2,1,.c (.int .i64 1))]),oS 2 (.build ([.str [],.nilf,.int .i64 0]) [(0,1,.c (.str [110,101])),(1,1,.c (.fn 398 [])),(2,1,.c (.int .i64 0))]),oS 3 (.build ([.str [],.nilf,.int .i64 0]) [(0,1,.c (.str [108,116])),(1,1,.c (.fn 399 [])),(2,1,.c (.int .i64 5))]),oS 4 (.build ([.str [],.nilf,.int .i64 0]) [(0,1,.c (.str [108,101])),(1,1,.c (.fn 400 [])),(2,1,.c (.int .i64 4))]),oS 5 (.build ([.str [],.nilf,.int .i64 0]) [(0,1,.c (.str [103,116])),(1,1,.c (.fn 401 [])),(2,1,.c (.int .i64 3))]),oS 6 (.build ([.str [],.nilf,.int .i64 0]) [(0,1,.c (.str [103,101])),(1,1,.c (.fn 402 [])),(2,1,.c (.int .i64 2))]),oS 7 (.build ([.str [],.nilf,.int .i64 0,.str [],.nilf,.int .i64 0,.str [],.nilf,.int .i64 0,.str [],.nilf,.int .i64 0,.str [],.nilf,.int .i64 0,.str [],.nilf,.int .i64 0]) [(0,3,.t 1),(3,3,.t 2),(6,3,.t 3),(9,3,.t 4),(12,3,.t 5),(15,3,.t 6)]),sT 18 0 7] .ret),[.cell 0 18 true]⟩
/-- hurdle/cond.Not -/
def c_cond_Not : SFn := ⟨12,rM 2 [oS 1 (.box 0 (.t 0)),oS 2 (.alloc 1 ([.int .i64 0,.int .i64 0,.int .u64 0,.int .u64 0]))] (.seq (rS [oS 3 (.load 4 true false (.t 1)),pC 4 396 [.t 3]] (cD 4 (rZ [pC 5 403 [],fA 6 1 1,lE 7 6,oS 8 (.idx 6 3 true (.t 5) (.t 7)),oS 9 (.fld 2 1 false (.t 8)),fA 10 1 1,sT 1 10 9]) .skip)) (kS [1,2] (rS [oS 11 (.load 4 true false (.t 1)),sT 4 2 11] .ret))),[.cell 2 4 true]⟩
/-- hurdle/policy.may -/
def c_policy_may : SFn := ⟨32,rM 1 [oS 1 (.box 0 (.t 0)),mC 2 kF] (.seq (rS [fA 7 2 1,lD 8 7,lN 9 8,mC 10 (kI 0)] (.block 0 (.loop [1,8,9,10] (rS [bT 11 .lss 10 9] (.seq (cX 11 0) (.seq (.block 1 (rM 1 [iA 12 4 8 10,oS 13 (.load 4 true false (.t 12)),oS 4 (.alloc 0 ([.int .i64 0,.int .i64 0,.int .u64 0,.int .u64 0])),sT 4 4 13] (rS [oS 14 (.load 4 true false (.t 4)),pC 15 396 [.t 14],nT 16 15] (cD 16 (rS [mC 2 kF] .ret) .skip)))) (kS [1,8,9,10] (rZ [bX 17 .add 10 (kI 1),mM 10 17])))))))) (kS [1] (rS [fA 19 3 1,lD 20 19,pC 21 395 [.t 20],mM 18 21,eX 22 0 18,eX 23 1 18,mM 5 22,mM 6 23] (kS [1,6] (rS [mM 24 6,bX 25 .eql 24 (kI 0),mM 26 25,oT 27 26 (.faddr 2 (.t 1)),oT 28 26 (.load 1 false false (.t 27)),oT 29 26 (.len false (.t 28)),oT 30 26 (.bin .leq (.t 29) (kI 4)),pK 31 26 (.t 30) kF,mM 2 31] .ret))))),[.tmp 2]⟩
/-- hurdle/policy.Right -/
def c_policy_Right : SFn := ⟨32,rM 1 [oS 1 (.box 0 (.t 0)),mC 2 kF] (.seq (rS [fA 7 0 1,lD 8 7,lN 9 8,mC 10 (kI 0)] (.block 0 (.loop [1,8,9,10] (rS [bT 11 .lss 10 9] (.seq (cX 11 0) (.seq (.block 1 (rM 1 [iA 12 4 8 10,oS 13 (.load 4 true false (.t 12)),oS 4 (.alloc 0 ([.int .u32 0,.int .u32 0,.vs [] .full,.int .u32 0])),sT 4 4 13] (rS [oS 14 (.load 4 true false (.t 4)),pC 15 405 [.t 14],nT 16 15] (cD 16 (rS [mC 2 kF] .ret) .skip)))) (kS [1,8,9,10] (rZ [bX 17 .add 10 (kI 1),mM 10 17])))))))) (kS [1] (rS [fA 19 1 1,lD 20 19,pC 21 395 [.t 20],mM 18 21,eX 22 0 18,eX 23 1 18,mM 5 22,mM 6 23] (kS [1,6] (rS [mM 24 6,bX 25 .eql 24 (kI 0),mM 26 25,oT 27 26 (.faddr 0 (.t 1)),oT 28 26 (.load 1 false false (.t 27)),oT 29 26 (.len false (.t 28)),oT 30 26 (.bin .leq (.t 29) (kI 64)),pK 31 26 (.t 30) kF,mM 2 31] .ret))))),[.tmp 2]⟩
/-- hurdle/code.ahead -/
def c_code_ahead : SFn := ⟨23,rS [mC 4 (.c (.vs [] .full)),mC 5 (kI 0),mC 6 (kI 0)] (kS [0,1] (.seq (rS [mM 8 0,lN 9 8,mM 10 1,lN 11 10,bT 12 .add 9 11,bX 13 .gtr 12 (kI 4096)] (kS [0,1,13] (cD 13 (rS [mM 14 0,mM 4 14,mC 5 (kI 0),mC 6 (kI 3)] .ret) .skip))) (kS [0,1] (rM 2 [oS 15 (.bslice 0 zI []),mM 16 1,oS 17 (.app 0 4 32 (.t 15) (.t 16)),mM 18 0,oS 19 (.app 1 4 32 (.t 17) (.t 18)),mM 7 19] (kS [7] (rS [mM 20 7,mM 21 7,lN 22 21,mM 4 20,mM 5 22,mC 6 (kI 0)] .ret)))))),[.tmp 4,.tmp 5,.tmp 6]⟩
/-- hurdle/code.label -/
def c_code_label : SFn := ⟨13,rS [mC 4 kF] (rS [mM 5 1,bX 6 .geq 5 (kI 1),mM 7 6,oT 8 7 (.mv (.t 1)),oT 9 7 (.mv (.t 0)),oT 10 7 (.len false (.t 9)),oT 11 7 (.bin .leq (.t 8) (.t 10)),pK 12 7 (.t 11) kF,mM 4 12] .ret),[.tmp 4]⟩
/-- hurdle/code.Add -/
def c_code_Add : SFn := ⟨27,rM 1 [oS 3 (.box 0 (.t 1)),mC 4 (.c (.vs [] .full)),mC 5 (kI 0),mC 6 (kI 0)] (kS [0,3] (.seq (rS [oS 7 (.load 4 true false (.t 3)),pC 8 140 [.t 7],nT 9 8,mM 10 9,oF 11 10 (.faddr 0 (.t 3)),oF 12 10 (.load 1 false false (.t 11)),oF 13 10 (.bin .eql (.t 12) (kI 5)),pK 14 10 kT (.t 13),mM 15 14,oF 16 15 (.load 4 true false (.t 3)),oF 17 15 (.pcall 142 [.t 16]),pK 18 15 kT (.t 17)] (kS [0,3,18] (cD 18 (rS [mM 19 0,mM 4 19,mC 5 (kI 0),mC 6 (kI 1)] .ret) .skip))) (kS [0,3] (rS [mM 20 0,oS 21 (.load 4 true false (.t 3)),oS 22 (.bslice 1 zI [(0,.t 21)]),pC 23 407 [.t 20,.t 22],eX 24 0 23,eX 25 1 23,eX 26 2 23,mM 4 24,mM 5 25,mM 6 26] .ret)))),[.tmp 4,.tmp 5,.tmp 6]⟩
/-- hurdle/code.Jump -/
def c_code_Jump : SFn := ⟨32,rS [mC 4 (.c (.vs [] .full)),mC 5 (kI 0),mC 6 (kI 0)] (kS [0,1] (.seq (.block 0 (rS [mM 8 0,mM 9 1,pC 10 408 [.t 8,.t 9],nT 11 10,mM 7 11] (kS [0,1,7] (cD 7 (rS [mM 12 0,mM 4 12,mC 5 (kI 0),mC 6 (kI 4)] .ret) (rS [mM 14 1,mM 15 0,lN 16 15,bT 17 .eql 14 16,mM 13 17] (kS [0,1,13] (cD 13 (rS [mM 18 0,mM 19 1,mM 4 18,mM 5 19,mC 6 (kI 0)] .ret) .skip))))))) (kS [0,1] (rS [mM 20 0,mM 21 0,lN 22 21,mM 23 1,bT 24 .sub 22 23,oS 25 (.conv .u32 (.t 24)),oS 26 (.build zI [(0,1,.c (.int .i64 5)),(3,1,.t 25)]),oS 27 (.bslice 1 zI [(0,.t 26)]),pC 28 407 [.t 20,.t 27],eX 29 0 28,eX 30 1 28,eX 31 2 28,mM 4 29,mM 5 30,mM 6 31] .ret)))),[.tmp 4,.tmp 5,.tmp 6]⟩
/-- hurdle/code.closer -/
def c_code_closer : SFn := ⟨20,rS [mC 4 (.c (.vs [] .full)),mC 5 (kI 0),mC 6 (kI 0)] (kS [0,1] (.seq (rS [mM 7 0,lN 8 7,mM 9 1,bT 10 .sub 8 9,bX 11 .leq 10 (kI 254)] (kS [0,1,11] (cD 11 (rS [mM 12 0,mM 13 1,mM 4 12,mM 5 13,mC 6 (kI 0)] .ret) .skip))) (kS [0,1] (rS [mM 14 0,mM 15 1,pC 16 410 [.t 14,.t 15],eX 17 0 16,eX 18 1 16,eX 19 2 16,mM 4 17,mM 5 18,mM 6 19] .ret)))),[.tmp 4,.tmp 5,.tmp 6]⟩
/-- hurdle/code.Branch -/
def c_code_Branch : SFn := ⟨88,rS [mC 10 (.c (.vs [] .full)),mC 11 (kI 0),mC 12 (kI 0)] (kS [0,1,2,3,4] (rM 1 [mM 17 1,mM 18 2,oS 19 (.build zI [(0,1,.t 17),(3,1,.t 18)]),oS 13 (.alloc 0 zI),sT 4 13 19] (kS [0,3,4,13] (.seq (.block 0 (rS [oS 21 (.load 4 true false (.t 13)),pC 22 142 [.t 21],nT 23 22,mM 24 23,oF 25 24 (.load 4 true false (.t 13)),oF 26 24 (.pcall 140 [.t 25]),oF 27 24 (.un .not (.t 26)),pK 28 24 kT (.t 27),mM 20 28] (kS [0,3,4,13,20] (cD 20 (rS [mM 29 0,mM 10 29,mC 11 (kI 0),mC 12 (kI 1)] .ret) (rS [mM 31 0,mM 32 3,pC 33 408 [.t 31,.t 32],nT 34 33,mM 35 34,oF 36 35 (.mv (.t 0)),oF 37 35 (.mv (.t 4)),oF 38 35 (.pcall 408 [.t 36,.t 37]),oF 39 35 (.un .not (.t 38)),pK 40 35 kT (.t 39),mM 30 40] (kS [0,3,4,13,30] (cD 30 (rS [mM 41 0,mM 10 41,mC 11 (kI 0),mC 12 (kI 4)] .ret) .skip))))))) (kS [0,3,4,13] (rS [mM 43 0,mM 44 3,pC 45 411 [.t 43,.t 44],mM 42 45,eX 46 0 42,eX 47 1 42,eX 48 2 42,mM 14 46,mM 3 47,mM 15 48] (kS [0,3,4,13,14,15] (.seq (rS [mM 49 15,bX 50 .neq 49 (kI 0)] (cD 50 (rS [mM 51 0,mM 52 15,mM 10 51,mC 11 (kI 0),mM 12 52] .ret) .skip)) (kS [0,3,4,13,14] (rS [mM 54 14,mM 55 4,pC 56 411 [.t 54,.t 55],mM 53 56,eX 57 0 53,eX 58 1 53,eX 59 2 53,mM 14 57,mM 4 58,mM 15 59] (kS [0,3,4,13,14,15] (.seq (rS [mM 60 15,bX 61 .neq 60 (kI 0)] (cD 61 (rS [mM 62 0,mM 63 15,mM 10 62,mC 11 (kI 0),mM 12 63] .ret) .skip)) (kS [0,3,4,13,14] (rS [mM 64 14,lN 65 64,mM 66 3,bT 67 .sub 65 66,mM 68 14,lN 69 68,mM 70 4,bT 71 .sub 69 70,fA 72 1 13,sT 1 72 67,fA 73 2 13,sT 1 73 71] (kS [0,13,14]
  (rS [mM 75 14,oS 76 (.load 4 true false (.t 13)),oS 77 (.bslice 1 zI [(0,.t 76)]),pC 78 407 [.t 75,.t 77],mM 74 78,eX 79 0 74,eX 80 1 74,eX 81 2 74,mM 14 79,mM 16 80,mM 15 81] (kS [0,14,15,16] (.seq (rS [mM 82 15,bX 83 .neq 82 (kI 0)] (cD 83 (rS [mM 84 0,mM 85 15,mM 10 84,mC 11 (kI 0),mM 12 85] .ret) .skip)) (kS [14,16] (rS [mM 86 14,mM 87 16,mM 10 86,mM 11 87,mC 12 (kI 0)] .ret)))))))))))))))))))),[.tmp 10,.tmp 11,.tmp 12]⟩
/-- hurdle/data.Low -/
def c_data_Low : SFn := ⟨13,rS [mC 2 (.c (.int .u32 0))] (.seq (rS [mM 3 0,bX 4 .lss 3 (kI 0),mM 5 4,oF 6 5 (.mv (.t 0)),oF 7 5 (.bin .geq (.t 6) (kI 6)),pK 8 5 kT (.t 7)] (kS [0,8] (cD 8 (rS [mC 2 (.c (.int .u32 64))] .ret) .skip))) (kS [0] (rS [mM 9 0,oS 10 (.bin .mul (kI 8) (.t 9)),oS 11 (.bin .add (kI 16) (.t 10)),oS 12 (.conv .u32 (.t 11)),mM 2 12] .ret))),[.tmp 2]⟩
/-- hurdle/data.High -/
def c_data_High : SFn := ⟨12,rS [mC 2 (.c (.int .u32 0))] (.seq (rS [mM 3 0,bX 4 .lss 3 (kI 0),mM 5 4,oF 6 5 (.mv (.t 0)),oF 7 5 (.bin .geq (.t 6) (kI 6)),pK 8 5 kT (.t 7)] (kS [0,8] (cD 8 (rS [mC 2 (.c (.int .u32 64))] .ret) .skip))) (kS [0] (rS [mM 9 0,pC 10 413 [.t 9],oS 11 (.bin .add (.t 10) (.c (.int .u32 4))),mM 2 11] .ret))),[.tmp 2]⟩
/-- (*hurdle/lower.maker).took -/
def c_lower_maker_took : SFn := ⟨23,rS [mC 8 (kI 0)] (.seq (rS [mM 9 0,oS 10 (.nilck (.t 9)),fA 11 1 10,lD 12 11,bX 13 .neq 12 (kI 0)] (kS [0,1,2,3,13] (cD 13 (rS [mC 8 (kI 0)] .ret) .skip))) (kS [0,1,2,3] (rS [mM 14 0,mM 15 0,mM 16 1,mM 17 3,oS 18 (.nilck (.t 14)),fA 19 0 18,sT 1 19 16,oS 20 (.nilck (.t 15)),fA 21 1 20,sT 1 21 17] (kS [2] (rS [mM 22 2,mM 8 22] .ret))))),[.tmp 8]⟩
/-- (*hurdle/lower.maker).add -/
def c_lower_maker_add : SFn := ⟨20,rS [mC 6 (kI 0)] (rS [mM 7 0,mM 8 0,oS 9 (.nilck (.t 8)),fA 10 0 9,lD 11 10,mM 12 1,mM 13 2,oS 14 (.build zI [(0,1,.t 12),(3,1,.t 13)]),pC 15 409 [.t 11,.t 14],eX 16 0 15,eX 17 1 15,eX 18 2 15,sC 19 415 [.t 7,.t 16,.t 17,.t 18],mM 6 19] .ret),[.tmp 6]⟩
/-- (*hurdle/lower.maker).branch -/
def c_lower_maker_branch : SFn := ⟨25,rS [mC 10 (kI 0)] (rS [mM 11 0,mM 12 0,oS 13 (.nilck (.t 12)),fA 14 0 13,lD 15 14,mM 16 1,mM 17 2,mM 18 3,mM 19 4,pC 20 412 [.t 15,.t 16,.t 17,.t 18,.t 19],eX 21 0 20,eX 22 1 20,eX 23 2 20,sC 24 415 [.t 11,.t 21,.t 22,.t 23],mM 10 24] .ret),[.tmp 10]⟩
/-- (*hurdle/lower.maker).part -/
def c_lower_maker_part : SFn := ⟨16,rS [mM 8 3,oS 9 (.vcall false (.t 8) [])] (rS [mM 10 0,mM 11 2,sC 12 416 [.t 10,.c (.int .i64 84),.t 11]] (kS [0,1] (rZ [mM 13 0,mM 14 1,sC 15 416 [.t 13,.c (.int .i64 32),.t 14]]))),[]⟩
/-- (*hurdle/lower.maker).test$1 -/
def c_lower_maker_test_1 : SFn := ⟨12,rS [mC 5 (kI 0)] (rS [lD 6 0,lD 7 1,lD 8 2,lD 9 3,lD 10 4,sC 11 417 [.t 6,.t 7,.t 8,.t 9,.t 10],mM 5 11] .ret),[.tmp 5]⟩
/-- (*hurdle/lower.maker).test$2 -/
def c_lower_maker_test_2 : SFn := ⟨19,rS [mC 6 (kI 0)] (.seq (rS [lD 7 0,bX 8 .neq 7 (kI 21)] (cD 8 (rZ [lD 9 1,lD 10 2,lD 11 3,lD 12 4,sC 13 417 [.t 9,.c (.int .i64 37),.t 10,.t 11,.t 12],sT 1 4 13]) .skip)) (kS [1,2,4,5] (rS [lD 14 1,lD 15 2,lD 16 5,lD 17 4,sC 18 417 [.t 14,.c (.int .i64 21),.t 15,.t 16,.t 17],mM 6 18] .ret))),[.tmp 6]⟩
/-- (*hurdle/lower.maker).test -/
def c_lower_maker_test : SFn := ⟨65,rM 4 [oS 4 (.box 0 (.t 0)),oS 5 (.box 1 (.t 1)),oS 6 (.box 2 (.t 2)),oS 7 (.box 3 (.t 3)),mC 8 (kI 0)] (.seq (rS [fA 13 1 5,lD 14 13] (.block 0 (.seq (rS [bX 16 .eql 14 (kI 1),mM 15 16] (cD 15 .skip (rS [bX 17 .eql 14 (kI 2),mM 15 17] (cD 15 .skip (rZ [bX 18 .eql 14 (kI 3),mM 15 18]))))) (kS [4,5,6,7,15] (cD 15 (rZ [oS 19 (.loadR 4 true 5 (.t 5)),pC 20 404 [.t 19],oS 21 (.loadR 1 false 7 (.t 7)),oS 22 (.loadR 1 false 6 (.t 6)),oN (.storeA 4 [6,7] (.t 5) (.t 20)),oN (.storeA 1 [5,7] (.t 6) (.t 21)),oN (.storeA 1 [5,6] (.t 7) (.t 22))]) .skip))))) (kS [4,5,6,7] (rM 2 [fA 23 3 5,lE 24 23,oS 25 (.conv .u32 (.t 24)),fA 26 3 5,lE 27 26,oS 28 (.bin .shr (.t 27) (.c (.int .u64 32))),oS 29 (.conv .u32 (.t 28)),oS 9 (.alloc 0 ([.int .u32 0])),oS 10 (.alloc 1 ([.int .u32 0])),oN (.storeN 0 1 (.t 9) (.t 25)),oN (.storeN 1 1 (.t 10) (.t 29))] (kS [4,5,6,7,9,10] (rM 1 [oS 11 (.alloc 0 ([.int .i64 0])),oN (.store 1 (.t 11) (kI 21))] (.seq (rS [fA 30 1 5,lD 31 30] (.block 1 (rS [bX 33 .eql 31 (kI 4),mM 32 33] (cD 32 (rZ [oN (.store 1 (.t 11) (kI 37))]) (rS [bX 35 .eql 31 (kI 5),mM 34 35] (cD 34 (rZ [oN (.store 1 (.t 11) (kI 53))]) .skip)))))) (kS [4,5,6,7,9,10,11] (rS [lE 36 4,fA 37 0 5,lE 38 37,pC 39 413 [.t 38],fA 40 2 5,lE 41 40,oS 42 (.conv .u32 (.t 41)),oS 43 (.mkfn 419 [.t 4,.t 11,.t 9,.t 6,.t 7]),sC 44 418 [.t 36,.t 39,.t 42,.t 43]] (kS [4,5,6,7,10,11] (rM 1 [lD 45 4,oS 46 (.nilck (.t 45)),fA 47 0 46,lD 48 47,lN 49 48,oS 12 (.alloc 0 ([.int .i64 0])),sT 1 12 49]
  (kS [4,5,6,7,10,11,12] (rS [lE 50 4,fA 51 0 5,lE 52 51,pC 53 414 [.t 52],fA 54 2 5,lE 55 54,oS 56 (.bin .shr (.t 55) (.c (.int .u64 32))),oS 57 (.conv .u32 (.t 56)),oS 58 (.mkfn 420 [.t 11,.t 4,.t 10,.t 6,.t 7,.t 12]),sC 59 418 [.t 50,.t 53,.t 57,.t 58]] (kS [4] (rS [lD 60 4,oS 61 (.nilck (.t 60)),fA 62 0 61,lD 63 62,lN 64 63,mM 8 64] .ret)))))))))))))),[.tmp 8]⟩
/-- hurdle/lower.sorted[uint32] -/
def c_lower_sorted_uint32 : SFn := ⟨46,rS [mC 4 (.c (.vs [] .full))] (rS [mC 5 (.c (.vs [] .full))] (.seq (rS [mM 9 0,lN 10 9,mC 11 (kI 0)] (.block 0 (.loop [1,5,9,10,11] (rS [bT 12 .lss 11 10] (.seq (cX 12 0) (.seq (.block 1 (rS [iA 13 1 9 11,lD 14 13,mM 7 14] (rS [mC 8 (kI 0)] (.seq (.block 2 (.loop [1,5,7,8,9,10,11] (.seq (rS [mM 15 8,mM 16 5,lN 17 16,bT 18 .lss 15 17,mM 19 18,oT 20 19 (.mv (.t 1)),oT 21 19 (.mv (.t 5)),oT 22 19 (.mv (.t 8)),oT 23 19 (.iaddr 1 (.t 21) (.t 22)),oT 24 19 (.load 1 false false (.t 23)),oT 25 19 (.vcall false (.t 20) [.t 24]),oT 26 19 (.mv (.t 1)),oT 27 19 (.mv (.t 7)),oT 28 19 (.vcall false (.t 26) [.t 27]),oT 29 19 (.bin .leq (.t 25) (.t 28)),pK 30 19 (.t 29) kF] (kS [1,5,7,8,9,10,11,30] (cX 30 2))) (kS [1,5,7,8,9,10,11] (.block 3 (rZ [mM 31 8,bX 32 .add 31 (kI 1),mM 8 32])))))) (kS [1,5,7,8,9,10,11] (.region 2 [mM 33 5,mM 34 8,mM 35 8,oS 36 (.slc 1 (.t 33) none (some (.t 34)) (some (.t 35))),mM 37 7,oS 38 (.bslice 1 ([.int .u32 0]) [(0,.t 37)]),mM 39 5,mM 40 8,oS 41 (.slc 1 (.t 39) (some (.t 40)) none none),oS 42 (.app 0 1 4 (.t 38) (.t 41)),oS 43 (.app 1 1 4 (.t 36) (.t 42)),mM 5 43])))))) (kS [1,5,9,10,11] (rZ [bX 44 .add 11 (kI 1),mM 11 44])))))))) (kS [5] (rS [mM 45 5,mM 4 45] .ret)))),[.tmp 4]⟩
/-- hurdle/lower.Lower$1$1 -/
def c_lower_Lower_1_1 : SFn := ⟨4,rS [mC 2 (.c (.int .u32 0))] (rS [mM 3 0,mM 2 3] .ret),[.tmp 2]⟩
/-- hurdle/lower.Lower$1 -/
def c_lower_Lower_1 : SFn := ⟨39,rS [mC 6 (kI 0)] (rS [mC 7 (.c (.vs [] .full))] (.seq (rS [lD 10 1,mM 11 0,oS 12 (.mget (.sc .int) false (.vs [] .full) (.t 10) (.t 11)),oS 13 (.scall 423 [.t 12,.c (.fn 424 [])]),lN 14 13,mC 15 (kI 0)] (kS [0,2,3,4,7,13,14,15] (.seq (.give 7 none) (.block 0 (.loop [0,2,3,4,7,13,14,15] (rS [bT 16 .lss 15 14] (.seq (cX 16 0) (.seq (.block 1 (rS [iA 17 1 13 15,lD 18 17,mM 9 18] (.region 1 [mM 19 7,mM 20 9,lE 21 2,lE 22 3,mM 23 0,mM 24 9,oS 25 (.build ([.int .u32 0,.int .u32 0]) [(0,1,.t 23),(1,1,.t 24)]),oS 26 (.mget (.row ([.int,.int])) false (.vs [] .full) (.t 22) (.t 25)),lE 27 4,sC 28 427 [.t 21,.t 26,.t 27],oS 29 (.build ([.int .u32 0,.int .i64 0]) [(0,1,.t 20),(1,1,.t 28)]),oS 30 (.bslice 1 ([.int .u32 0,.int .i64 0]) [(0,.t 29)]),oS 31 (.app 0 2 16 (.t 19) (.t 30)),mM 7 31]))) (kS [0,2,3,4,7,13,14,15] (rZ [bX 32 .add 15 (kI 1),mM 15 32])))))))))) (kS [2,4,7] (rS [lD 33 2,mM 34 7,lD 35 4,sC 36 426 [.t 33,.t 34,.t 35]] (kS [2] (rS [lD 37 2,sC 38 416 [.t 37,.c (.int .i64 32),.c (.int .u32 0)],mM 6 38] .ret)))))),[.tmp 6]⟩
/-- hurdle/lower.Lower -/
def c_lower_Lower : SFn := ⟨127,rM 1 [oS 1 (.box 0 (.t 0)),mC 2 (.c (.vs [] .full)),mC 3 (kI 0)] (.seq (rS [oS 19 (.load 2 true false (.t 1)),pC 20 406 [.t 19],nT 21 20] (cD 21 (rS [mC 2 (.c (.vs [] .full)),mC 3 (kI 1)] .ret) .skip)) (kS [1] (rM 2 [oS 22 (.build ([.vs [] .full,.int .i64 0]) []),oS 23 (.box 0 (.t 22)),oS 4 (.alloc 1 ([.nilp])),sT 1 4 23] (rM 1 [lD 24 4,fA 25 1 1,lD 26 25,sC 27 416 [.t 24,.c (.int .i64 6),.t 26],oS 5 (.alloc 0 ([.int .i64 0])),sT 1 5 27] (kS [1,4,5] (rM 2 [oS 28 (.mkmap 0),oS 6 (.alloc 1 ([.nilm])),sT 1 6 28] (rM 2 [oS 29 (.mkmap 0),oS 7 (.alloc 1 ([.nilm])),sT 1 7 29] (rS [mC 8 (.c (.vs [] .full))] (.seq (rS [fA 30 0 1,lD 31 30,lN 32 31,mC 33 (kI 0)] (.seq (.give 8 none) (.block 0 (.loop [4,5,6,7,8,31,32,33] (rS [bT 34 .lss 33 32] (.seq (cX 34 0) (.seq (.block 1 (rM 1 [iA 35 4 31 33,oS 36 (.load 4 true false (.t 35)),oS 10 (.alloc 0 ([.int .u32 0,.int .u32 0,.vs [] .full,.int .u32 0])),sT 4 10 36] (rM 1 [fA 37 0 10,lD 38 37,fA 39 1 10,lD 40 39,oS 41 (.build ([.int .u32 0,.int .u32 0]) [(0,1,.t 38),(1,1,.t 40)]),oS 11 (.alloc 0 ([.int .u32 0,.int .u32 0])),sT 2 11 41] (kS [4,5,6,7,8,10,11,31,32,33] (.seq (rS [lD 42 6,oS 43 (.load 2 true false (.t 11)),oS 44 (.mget (.row ([.int,.int])) false (.vs [] .full) (.t 42) (.t 43)),lN 45 44,bX 46 .eql 45 (kI 0)] (kS [4,5,6,7,8,10,11,31,32,33,46] (cD 46 (.seq (rS [lD 47 7,fA 48 0 10,lD 49 48,oS 50 (.mget (.sc .int) false (.vs [] .full) (.t 47) (.t 49)),lN 51 50,bX 52 .eql 51 (kI 0)]
  (kS [4,5,6,7,8,10,11,31,32,33,52] (cD 52 (.region 1 [mM 53 8,fA 54 0 10,lD 55 54,oS 56 (.bslice 1 ([.int .u32 0]) [(0,.t 55)]),oS 57 (.app 0 1 4 (.t 53) (.t 56)),mM 8 57]) .skip))) (kS [4,5,6,7,8,10,11,31,32,33] (.region 1 [lE 58 7,fA 59 0 10,lE 60 59,lE 61 7,fA 62 0 10,lE 63 62,oS 64 (.mget (.sc .int) false (.vs [] .full) (.t 61) (.t 63)),fA 65 1 10,lE 66 65,oS 67 (.bslice 1 ([.int .u32 0]) [(0,.t 66)]),oS 68 (.app 0 1 4 (.t 64) (.t 67)),oN (.mput (.sc .int) (.t 58) (.t 60) (.t 68))]))) .skip))) (kS [4,5,6,7,8,10,11,31,32,33] (.region 1 [lD 69 6,oS 70 (.load 2 true false (.t 11)),oS 72 (.load 4 true false (.t 10)),oS 73 (.bslice 1 ([.int .u32 0,.int .u32 0,.vs [] .full,.int .u32 0]) [(0,.t 72)]),oS 74 (.ment (.row ([.int,.int])) (.vs [] .full) (.t 69) (.t 70)),eX 71 0 74,oS 75 (.app 0 4 40 (.t 71) (.t 73)),eX 76 1 74,oN (.mst (.t 69) (.t 76) (.t 75))]))))))) (kS [4,5,6,7,8,31,32,33] (rZ [bX 77 .add 33 (kI 1),mM 33 77]))))))))) (kS [4,5,6,7,8] (rS [oS 78 (.mkfn 425 [.t 7,.t 4,.t 6,.t 5]),mM 12 78] (rS [mC 13 (.c (.vs [] .full))] (.seq (rS [mM 79 8,lN 80 79,mC 81 (kI 0)] (.seq (.give 13 none) (.block 2 (.loop [4,5,12,13,79,80,81] (rS [bT 82 .lss 81 80] (.seq (cX 82 2) (.seq (.block 3 (rS [iA 83 1 79 81,lD 84 83,mM 15 84] (.region 1 [mM 85 13,mM 86 15,mM 87 12,mM 88 15,oS 89 (.vcall false (.t 87) [.t 88]),oS 90 (.build ([.int .u32 0,.int .i64 0]) [(0,1,.t 86),(1,1,.t 89)]),oS 91 (.bslice 1 ([.int .u32 0,.int .i64 0]) [(0,.t 90)]),oS 92 (.app 0 2 16 (.t 85) (.t 91)),
 mM 13 92]))) (kS [4,5,12,13,79,80,81] (rZ [bX 93 .add 81 (kI 1),mM 81 93]))))))))) (kS [4,5,13] (rS [lD 94 5,mM 16 94] (.seq (rS [mM 95 13,lN 96 95,mC 97 (kI 0)] (.block 4 (.loop [4,13,16,95,96,97] (rS [bT 98 .lss 97 96] (.seq (cX 98 4) (.seq (.block 5 (rM 1 [iA 99 2 95 97,oS 100 (.load 2 true false (.t 99)),oS 18 (.alloc 0 ([.int .u32 0,.int .i64 0])),sT 2 18 100] (rZ [lD 101 4,fA 102 0 18,lD 103 102,fA 104 1 18,lD 105 104,mM 106 16,sC 107 417 [.t 101,.c (.int .i64 21),.t 103,.t 105,.t 106],mM 16 107]))) (kS [4,13,16,95,96,97] (rZ [bX 108 .add 97 (kI 1),mM 97 108])))))))) (kS [4,13] (.seq (rS [mM 109 13,lN 110 109,bX 111 .gtr 110 (kI 0)] (cD 111 (rZ [lD 112 4,sC 113 416 [.t 112,.c (.int .i64 32),.c (.int .u32 4)]]) .skip)) (kS [4] (.seq (rS [lD 114 4,oS 115 (.nilck (.t 114)),fA 116 1 115,lD 117 116,bX 118 .neq 117 (kI 0)] (kS [4,118] (cD 118 (rS [lE 119 4,oS 120 (.nilck (.t 119)),fA 121 1 120,lE 122 121,mC 2 (.c (.vs [] .full)),mM 3 122] .ret) .skip))) (kS [4] (rS [lD 123 4,oS 124 (.nilck (.t 123)),fA 125 0 124,lD 126 125,mM 2 126,mC 3 (kI 0)] .ret)))))))))))))))))))))),[.tmp 2,.tmp 3]⟩
/-- (*hurdle/lower.maker).rules -/
def c_lower_maker_rules : SFn := ⟨49,rS [mC 6 (kI 0)] (.seq (rS [mM 10 1,lN 11 10,bX 12 .sub 11 (kI 1),mM 7 12] (kS [0,1,2,7] (.block 0 (.loop [0,1,2,7] (.seq (rS [mM 13 7,bX 14 .geq 13 (kI 0)] (cX 14 0)) (.seq (.block 1 (rS [mM 17 0,mM 18 1,mM 19 7,iA 20 4 18 19,fA 21 3 20,lD 22 21,sC 23 416 [.t 17,.c (.int .i64 6),.t 22],mM 8 23] (kS [0,1,2,7,8] (.seq (rS [mM 24 1,mM 25 7,iA 26 4 24 25,fA 27 2 26,lD 28 27,lN 29 28,bX 30 .sub 29 (kI 1),mM 9 30] (kS [0,1,2,7,8,9] (.block 2 (.loop [0,1,2,7,8,9] (.seq (rS [mM 31 9,bX 32 .geq 31 (kI 0)] (cX 32 2)) (.seq (.block 3 (rZ [mM 35 0,mM 36 1,mM 37 7,iA 38 4 36 37,fA 39 2 38,lD 40 39,mM 41 9,iA 42 4 40 41,oS 43 (.load 4 true false (.t 42)),mM 44 8,mM 45 2,sC 46 421 [.t 35,.t 43,.t 44,.t 45],mM 8 46])) (kS [0,1,2,7,8,9] (rZ [mM 33 9,bX 34 .sub 33 (kI 1),mM 9 34])))))))) (kS [0,1,7,8] (rZ [mM 47 8,mM 2 47])))))) (kS [0,1,2,7] (rZ [mM 15 7,bX 16 .sub 15 (kI 1),mM 7 16])))))))) (kS [2] (rS [mM 48 2,mM 6 48] .ret))),[.tmp 6]⟩
/-- (*hurdle/lower.maker).tree -/
def c_lower_maker_tree : SFn := ⟨48,rS [mC 6 (kI 0)] (.seq (rS [mM 10 1,lN 11 10,bX 12 .eql 11 (kI 1)] (cD 12 (rS [mM 13 0,mM 14 1,oS 15 (.iaddr 2 (.t 14) (kI 0)),fA 16 0 15,lE 17 16,mM 18 1,oS 19 (.iaddr 2 (.t 18) (kI 0)),fA 20 1 19,lE 21 20,mM 22 2,sC 23 417 [.t 13,.c (.int .i64 21),.t 17,.t 21,.t 22],mM 6 23] .ret) .skip)) (kS [0,1,2] (rS [mM 24 1,lN 25 24,bX 26 .quo 25 (kI 2),mM 7 26] (kS [0,1,2,7] (rS [mM 27 0,mM 28 1,mM 29 7,oS 30 (.slc 2 (.t 28) none (some (.t 29)) none),mM 31 2,sC 32 426 [.t 27,.t 30,.t 31],mM 8 32] (kS [0,1,2,7,8] (rS [mM 33 0,mM 34 1,mM 35 7,oS 36 (.slc 2 (.t 34) (some (.t 35)) none none),mM 37 2,sC 38 426 [.t 33,.t 36,.t 37],mM 9 38] (kS [0,1,7,8,9] (rS [mM 39 0,mM 40 1,mM 41 7,iA 42 2 40 41,fA 43 0 42,lD 44 43,mM 45 9,mM 46 8,sC 47 417 [.t 39,.c (.int .i64 53),.t 44,.t 45,.t 46],mM 6 47] .ret))))))))),[.tmp 6]⟩
/-- A table that holds these. -/
class HasWText (G : Tbl) : Prop where
  h_word_Text : G 392 = some c_word_Text
/-- A table that holds these. -/
class HasName (G : Tbl) : Prop where
  h_names_name : G 393 = some c_names_name
  h_names_actions : G 394 = some c_names_actions
  h_names_Action : G 395 = some c_names_Action
/-- A table that holds these. -/
class HasCondR (G : Tbl) : Prop where
  h_cond_Right : G 396 = some c_cond_Right
/-- A table that holds these. -/
class HasCondN (G : Tbl) : Prop where
  h_cond_kinds : G 403 = some c_cond_kinds
  h_cond_Not : G 404 = some c_cond_Not
/-- A table that holds these. -/
class HasPol (G : Tbl) : Prop where
  h_policy_may : G 405 = some c_policy_may
  h_policy_Right : G 406 = some c_policy_Right
/-- A table that holds these. -/
class HasCode (G : Tbl) : Prop where
  h_code_ahead : G 407 = some c_code_ahead
  h_code_label : G 408 = some c_code_label
  h_code_Add : G 409 = some c_code_Add
  h_code_Jump : G 410 = some c_code_Jump
  h_code_closer : G 411 = some c_code_closer
  h_code_Branch : G 412 = some c_code_Branch
/-- A table that holds these. -/
class HasDataL (G : Tbl) : Prop where
  h_data_Low : G 413 = some c_data_Low
  h_data_High : G 414 = some c_data_High
/-- A table that holds these. -/
class HasMk (G : Tbl) : Prop where
  h_lower_maker_took : G 415 = some c_lower_maker_took
  h_lower_maker_add : G 416 = some c_lower_maker_add
  h_lower_maker_branch : G 417 = some c_lower_maker_branch
  h_lower_maker_part : G 418 = some c_lower_maker_part
  h_lower_maker_test_1 : G 419 = some c_lower_maker_test_1
  h_lower_maker_test_2 : G 420 = some c_lower_maker_test_2
  h_lower_maker_test : G 421 = some c_lower_maker_test
/-- A table that holds these. -/
class HasLow (G : Tbl) : Prop where
  h_lower_sorted_uint32 : G 423 = some c_lower_sorted_uint32
  h_lower_Lower_1_1 : G 424 = some c_lower_Lower_1_1
  h_lower_Lower_1 : G 425 = some c_lower_Lower_1
  h_lower_Lower : G 428 = some c_lower_Lower
  h_lower_maker_rules : G 427 = some c_lower_maker_rules
  h_lower_maker_tree : G 426 = some c_lower_maker_tree
end Go.Ev
/- Simplified code of Go functions, by scode.py. -/
namespace Go.Ev
/-- hurdle/hurdlelaw10.Great -/
def c_hurdlelaw10_Great : SFn := ⟨23,rM 1 [oS 1 (.box 0 (.t 0)),mC 2 kF] (.seq (rS [mC 3 (kI 0)] (.block 0 (.loop [1,3] (.seq (rS [mM 4 3,fA 5 0 1,lD 6 5,lN 7 6,bT 8 .lss 4 7] (kS [1,3,8] (cX 8 0))) (kS [1,3] (.seq (.block 1 (rS [fA 11 0 1,lD 12 11,mM 13 3,iA 14 4 12 13,fA 15 2 14,lD 16 15,lN 17 16,bX 18 .gtr 17 (kI 20)] (kS [1,3,18] (cD 18 (rS [mC 2 kT] .ret) .skip)))) (kS [1,3] (rZ [mM 9 3,bX 10 .add 9 (kI 1),mM 3 10])))))))) (kS [1] (rS [fA 19 0 1,lD 20 19,lN 21 20,bX 22 .gtr 21 (kI 100),mM 2 22] .ret))),[.tmp 2]⟩
/-- hurdle/hurdlelaw13.knows -/
def c_hurdlelaw13_knows : SFn := ⟨71,rS [mC 0 kF] (rS [oS 12 (.build ([.vs [] .full,.int .u32 0]) []),pC 13 428 [.t 12],mM 11 13,eX 14 0 11,eX 15 1 11,mM 1 14,mM 2 15] (kS [1,2] (rS [oS 17 (.build ([.int .u32 0,.int .u32 0,.vs [] .full,.int .u32 0]) [(0,1,.c (.int .u32 7)),(1,1,.c (.int .u32 3)),(3,1,.c (.int .u32 2147418112))]),oS 18 (.bslice 1 ([.int .u32 0,.int .u32 0,.vs [] .full,.int .u32 0]) [(0,.t 17)]),oS 19 (.build ([.vs [] .full,.int .u32 0]) [(0,1,.t 18)]),pC 20 428 [.t 19],mM 16 20,eX 21 0 16,eX 22 1 16,mM 3 21,mM 4 22] (kS [1,2,3,4] (rS [mM 24 3,oS 25 (.build ([.int .u32 0,.int .u32 0,.int .u64 0,.int .u64 0,.int .u64 0,.int .u64 0,.int .u64 0,.int .u64 0,.int .u64 0]) [(1,1,.c (.int .u32 7)),(0,1,.c (.int .u32 3))]),pC 26 230 [.t 24,.t 25],mM 23 26,eX 27 0 23,eX 28 1 23,eX 29 2 23,mM 5 27,mM 6 28,mM 7 29] (kS [1,2,3,4,5,7] (rS [mM 31 3,oS 32 (.build ([.int .u32 0,.int .u32 0,.int .u64 0,.int .u64 0,.int .u64 0,.int .u64 0,.int .u64 0,.int .u64 0,.int .u64 0]) [(1,1,.c (.int .u32 7)),(0,1,.c (.int .u32 4))]),pC 33 230 [.t 31,.t 32],mM 30 33,eX 34 0 30,eX 35 1 30,eX 36 2 30,mM 8 34,mM 9 35,mM 10 36] (kS [1,2,4,5,7,8,10] (rS [mM 37 1,lN 38 37,bX 39 .eql 38 (kI 1),mM 40 39,oT 41 40 (.mv (.t 1)),oT 42 40 (.iaddr 4 (.t 41) (kI 0)),oT 43 40 (.load 4 true false (.t 42)),oT 44 40 (.build zI [(0,1,.c (.int .i64 6))]),oT 45 40 (.aeq ([.int,.int,.int,.int]) false (.t 43) (.t 44)),pK 46 40 (.t 45) kF,mM 47 46,oT 48 47 (.mv (.t 2)),oT 49 47 (.bin .eql (.t 48) (kI 0)),pK 50 47 (.t 49) kF,mM 51 50,
 oT 52 51 (.mv (.t 4)),oT 53 51 (.bin .eql (.t 52) (kI 0)),pK 54 51 (.t 53) kF,mM 55 54,oT 56 55 (.mv (.t 5)),oT 57 55 (.bin .eql (.t 56) (.c (.int .u32 2147418112))),pK 58 55 (.t 57) kF,mM 59 58,oT 60 59 (.mv (.t 7)),oT 61 59 (.bin .eql (.t 60) (kI 0)),pK 62 59 (.t 61) kF,mM 63 62,oT 64 63 (.mv (.t 8)),oT 65 63 (.bin .eql (.t 64) (.c (.int .u32 0))),pK 66 63 (.t 65) kF,mM 67 66,oT 68 67 (.mv (.t 10)),oT 69 67 (.bin .eql (.t 68) (kI 0)),pK 70 67 (.t 69) kF,mM 0 70] .ret))))))))),[.tmp 0]⟩
/-- hurdle/hurdlelaw13.LowerAlike -/
def c_hurdlelaw13_LowerAlike : SFn := ⟨60,rM 1 [oS 1 (.box 0 (.t 0)),mC 2 kF] (.seq (rS [oS 10 (.load 2 true false (.t 1)),pC 11 442 [.t 10]] (cD 11 (rS [pC 12 443 [],mM 2 12] .ret) .skip)) (kS [1] (rM 1 [fA 13 1 1,lD 14 13,oS 15 (.build ([.vs [] .full,.int .u32 0]) [(1,1,.t 14)]),oS 3 (.alloc 0 ([.vs [] .full,.int .u32 0])),sT 2 3 15] (kS [1,3] (.seq (rS [mC 4 (kI 0)] (.seq (.give 3 (some 0)) (.block 0 (.loop [1,3,4] (.seq (rS [mM 16 4,fA 17 0 1,lD 18 17,lN 19 18,bT 20 .lss 16 19] (kS [1,3,4,20] (cX 20 0))) (kS [1,3,4] (.seq (.block 1 (rM 1 [fA 23 0 1,lD 24 23,mM 25 4,iA 26 4 24 25,oS 27 (.load 4 true false (.t 26)),oS 5 (.alloc 0 ([.int .u32 0,.int .u32 0,.vs [] .full,.int .u32 0])),sT 4 5 27] (kS [1,3,4,5] (rM 1 [oS 28 (.bslice 0 ([.int .i64 0,.int .i64 0,.int .u64 0,.int .u64 0]) []),fA 29 2 5,lD 30 29,oS 31 (.app 0 4 32 (.t 28) (.t 30)),fA 32 2 5,sT 1 32 31] (kS [1,3,4,5] (.region 1 [fA 33 0 3,lD 34 33,oS 35 (.loadN 4 (.t 5)),oS 36 (.bslice 1 ([.int .u32 0,.int .u32 0,.vs [] .full,.int .u32 0]) [(0,.t 35)]),oS 37 (.app 0 4 40 (.t 34) (.t 36)),fA 38 0 3,sT 1 38 37])))))) (kS [1,3,4] (rZ [mM 21 4,bX 22 .add 21 (kI 1),mM 4 22]))))))))) (kS [1,3] (rS [oS 40 (.load 2 true false (.t 1)),pC 41 428 [.t 40],mM 39 41,eX 42 0 39,eX 43 1 39,mM 6 42,mM 7 43] (kS [3,6,7] (rS [oS 45 (.load 2 true false (.t 3)),pC 46 428 [.t 45],mM 44 46,eX 47 0 44,eX 48 1 44,mM 8 47,mM 9 48] (kS [6,7,8,9] (rS [mM 49 7,mM 50 9,bT 51 .eql 49 50,mM 52 51,oT 53 52 (.mv (.t 6)),oT 54 52 (.mv (.t 8)),oT 55 52 (.pcall 201 [.t 53,.t 54]),
 pK 56 52 (.t 55) kF,mM 57 56,oT 58 57 (.pcall 443 []),pK 59 57 (.t 58) kF,mM 2 59] .ret))))))))))),[.tmp 2]⟩
/-- A table that holds these. -/
class HasL10g (G : Tbl) : Prop where
  h_hurdlelaw10_Great : G 442 = some c_hurdlelaw10_Great
/-- A table that holds these. -/
class HasL13 (G : Tbl) : Prop where
  h_hurdlelaw13_LowerAlike : G 446 = some c_hurdlelaw13_LowerAlike
end Go.Ev
/- Words for plain data, and what simp needs of them. -/
namespace Go.Ev
open Go Go.RowKit
set_option linter.unusedSimpArgs false
set_option linter.unusedVariables false
def lenV (st : Bool) (v : V) (H : Heap) : Option (V × Heap) := match st, v with
  | false, .vs es _ => some (.int .i64 es.length, H)
  | false, .rs _ _ n _ => some (.int .i64 n, H)
  | true, .str s => some (.int .i64 s.length, H)
  | _, _ => none
theorem ev1_lenV (base : Nat) (e : Env) (H : Heap) (st : Bool) (x : X) : ev1 base e H (.len st x) = lenV st (x.ev e) H := rfl
def nileqV (k : Nat) (neg : Bool) (v : V) (H : Heap) : Option (V × Heap) := match k, v with
  | 0, .fn _ _ => some (.bool neg, H)
  | 0, .nilf => some (.bool !neg, H)
  | 1, .ptr _ _ => some (.bool neg, H)
  | 1, .cptr _ => some (.bool neg, H)
  | 1, .nilp => some (.bool !neg, H)
  | 2, .mp _ => some (.bool neg, H)
  | 2, .nilm => some (.bool !neg, H)
  | _, _ => none
theorem ev1_nileqV (base : Nat) (e : Env) (H : Heap) (k : Nat) (neg : Bool) (x : X) : ev1 base e H (.nileq k neg x) = nileqV k neg (x.ev e) H := rfl
theorem vs_pure_no (es : List (List V)) : (V.vs es .no).pure = true := rfl
theorem vs_pure_full (es : List (List V)) : (V.vs es .full).pure = true := rfl
attribute [simp] List.getElem?_cons_zero List.getElem?_cons_succ
attribute [simp] X.ev Ws ev1.eq_1 ev1.eq_2 ev1.eq_3 ev1.eq_4 ev1.eq_5 ev1.eq_6 ev1.eq_7 ev1.eq_8 ev1.eq_9 ev1.eq_10 ev1.eq_11 ev1.eq_12 ev1.eq_13 ev1.eq_14 ev1.eq_15 ev1.eq_16 ev1.eq_17 ev1.eq_18 ev1.eq_19 ev1_lenV lenV ev1.eq_24 ev1.eq_25 ev1.eq_26 ev1.eq_27 ev1.eq_28 ev1_nileqV nileqV ev1.eq_37 ev1.eq_39 ev1.eq_40 ev1.eq_41 ev1.eq_42 ev1.eq_43 ev1.eq_44 ev1.eq_45 ev1.eq_46 ev1.eq_47 ev1.eq_48 ev1.eq_49 ev1.eq_50 ev1.eq_51 ev1.eq_52 ev1.eq_53 ev1.eq_54 ev1.eq_55 ev1.eq_56 ev1.eq_57 ev1.eq_58 ev1.eq_59 ev1.eq_60 ev1.eq_61 loadAt V.ptrId? storeAt V.elems? eqks eqk keyEq mfind mmGo mmI bytesOf rowOf frzIt frzL V.cells? isFree mk evBin evUn giveIt evRes evRess resOf frz frz1 V.cl clL Tk.cl.eq_1 Tk.cl.eq_2 Tk.cl.eq_3 Blk.cl intOf? bounds fillC fillE V.pure.eq_1 V.pure.eq_2 V.pure.eq_3 V.pure.eq_4 V.pure.eq_5 V.pure.eq_6 V.pure.eq_7 V.pure.eq_8 vs_pure_no vs_pure_full V.pure.eq_10 V.nf1 V.nf2 V.nf V.out outL
def ints (k : IntKind) (l : List Int) : List (List V) := l.map fun x => [.int k x]
@[simp] theorem ints_length (k : IntKind) (l : List Int) : (ints k l).length = l.length := by simp [ints]
@[simp] theorem ints_get (k : IntKind) (l : List Int) (i : Nat) : (ints k l)[i]? = (l[i]?).map fun x => [.int k x] := by simp [ints]
@[simp] theorem ints_nil (k : IntKind) : ints k [] = [] := rfl
@[simp] theorem ints_snoc (k : IntKind) (l : List Int) (x : Int) : ints k l ++ [[.int k x]] = ints k (l ++ [x]) := by simp [ints]
@[simp] theorem ints_sz (k : IntKind) (l : List Int) : (∀ f ∈ ints k l, f.length = 1) = True := by
 simp only [eq_iff_iff, iff_true]
 intro f hf
 simp only [ints, List.mem_map] at hf
 obtain ⟨x, _, rfl⟩ := hf
 rfl
def cints (k : IntKind) (l : List Int) : List V := l.map fun x => .int k x
@[simp] theorem cints_length (k : IntKind) (l : List Int) : (cints k l).length = l.length := by simp [cints]
@[simp] theorem cints_cl (n : Nat) (k : IntKind) (l : List Int) : clL n (cints k l) = cints k l := by
 rw [clL_eq_map]; simp [cints, Function.comp_def]
@[simp] theorem cints_pure (k : IntKind) (l : List Int) : (cints k l).all V.pure = true := by simp [cints]
@[simp] theorem trunc_nil (n : Nat) : trunc n [] = [] := by simp [trunc]
def nats (k : IntKind) (l : List Nat) : List (List V) := l.map fun (x : Nat) => [V.int k (x : Int)]
theorem nats_ints (k : IntKind) (l : List Nat) : nats k l = ints k (l.map Int.ofNat) := by simp [nats, ints, Function.comp_def]
@[simp] theorem nats_length (k : IntKind) (l : List Nat) : (nats k l).length = l.length := by simp [nats]
@[simp] theorem nats_get (k : IntKind) (l : List Nat) (i : Nat) : (nats k l)[i]? = (l[i]?).map fun (x : Nat) => [V.int k (x : Int)] := by simp [nats]
@[simp] theorem nats_getElem (k : IntKind) (l : List Nat) (i : Nat) (h : i < (nats k l).length) : (nats k l)[i] = [V.int k ((l[i]'(by simpa using h) : Nat) : Int)] := by simp [nats]
@[simp] theorem ints_getElem (k : IntKind) (l : List Int) (i : Nat) (h : i < (ints k l).length) : (ints k l)[i] = [V.int k (l[i]'(by simpa using h))] := by simp [ints]
@[simp] theorem nats_nil (k : IntKind) : nats k [] = [] := rfl
@[simp] theorem nats_snoc (k : IntKind) (l : List Nat) (x : Nat) : nats k l ++ [[.int k (x : Int)]] = nats k (l ++ [x]) := by simp [nats]
theorem nats_append (k : IntKind) (l m : List Nat) : nats k l ++ nats k m = nats k (l ++ m) := by simp [nats]
theorem nats_drop (k : IntKind) (l : List Nat) (n : Nat) : (nats k l).drop n = nats k (l.drop n) := by simp [nats]
theorem nats_take (k : IntKind) (l : List Nat) (n : Nat) : (nats k l).take n = nats k (l.take n) := by simp [nats]
@[simp] theorem nats_sz (k : IntKind) (l : List Nat) : (∀ f ∈ nats k l, f.length = 1) = True := by rw [nats_ints]; exact ints_sz k _
def cnats (k : IntKind) (l : List Nat) : List V := l.map fun (x : Nat) => .int k x
@[simp] theorem cnats_length (k : IntKind) (l : List Nat) : (cnats k l).length = l.length := by simp [cnats]
@[simp] theorem cnats_cl (n : Nat) (k : IntKind) (l : List Nat) : clL n (cnats k l) = cnats k l := by
 rw [clL_eq_map]; simp [cnats, Function.comp_def]
@[simp] theorem cnats_pure (k : IntKind) (l : List Nat) : (cnats k l).all V.pure = true := by simp [cnats]
@[simp] theorem cnats_nf1 (k : IntKind) (l : List Nat) : (cnats k l).map V.nf1 = cnats k l := by simp [cnats, Function.comp_def]
def zeros (n : Nat) : List Nat := List.replicate n 0
@[simp] theorem zeros_length (n : Nat) : (zeros n).length = n := by simp [zeros]
@[simp] theorem rep_zero (k : IntKind) (n : Nat) : rep n (V.int k 0) = cnats k (zeros n) := by simp [rep, cnats, zeros]
@[simp high] theorem ev1_mksl0 (base : Nat) (e : Env) (H : Heap) (s bytes : Nat) (k : IntKind) (n : X) : ev1 base e H (.mksl s bytes [.int k 0] n) = (match n.ev e with
  | .int _ m => if isFree H (base + s) = true ∧ 0 ≤ m ∧ m.toNat * bytes ≤ 140737488355328 then some (.rs (base + s) 0 m.toNat 1, H.set (base + s) (some (.cells (cnats k (zeros m.toNat))))) else none
  | _ => none) := by
 have h : ∀ m : Nat, (List.replicate m [V.int k 0]).flatten = cnats k (zeros m) := fun m => by
  induction m with
  | zero => rfl
  | succ m ih => rw [List.replicate_succ, List.flatten_cons, ih]; simp [cnats, zeros, List.replicate_succ]
 rw [ev1.eq_27]
 cases n.ev e <;> simp only [h, List.length_singleton]
theorem take_full {k : IntKind} {l : List Nat} {n : Nat} (h : l.length = n) : (cnats k l).take n = cnats k l := by rw [List.take_of_length_le]; simp [h]
@[simp] theorem take_zeros (k : IntKind) (n : Nat) : (cnats k (zeros n)).take n = cnats k (zeros n) := take_full (zeros_length n)
theorem drop_full {k : IntKind} {l : List Nat} {n : Nat} (h : l.length = n) : (cnats k l).drop n = [] := by rw [List.drop_eq_nil_of_le]; simp [h]
@[simp] theorem drop_zeros (k : IntKind) (n : Nat) : (cnats k (zeros n)).drop n = [] := drop_full (zeros_length n)
theorem addI64 {a b : Int} (h0 : -9223372036854775808 ≤ a + b) (h1 : a + b ≤ 9223372036854775807) : addI .i64 a b = a + b := IntWalk.i64_in _ ⟨h0, h1⟩
theorem subI64 {a b : Int} (h0 : -9223372036854775808 ≤ a - b) (h1 : a - b ≤ 9223372036854775807) : subI .i64 a b = a - b := IntWalk.i64_in _ ⟨h0, h1⟩
end Go.Ev
/- Counting loops, and small words. -/
namespace Go.Ev
open Go Go.RowKit
set_option linter.unusedVariables false
set_option linter.unusedSimpArgs false
variable {G : Tbl} {K : List Kt} {e : Env} {H : Heap} {Q : Ex → Env → Heap → Prop}
def QU (G : Tbl) (K : List Kt) (Q : Ex → Env → Heap → Prop) (l : List Nat) (k N : Nat) (E : Nat → List (Nat × V)) (B : Nat → Heap) (P : Nat → Prop) (n : Nat) (x : Ex) (e1 : Env) (H1 : Heap) : Prop :=
 match x with
 | .nx => n < N ∧ P (n + 1) ∧ (keepE l e1).cl k = mkE (E (n + 1)) ∧ trunc k H1 = B (n + 1)
 | x => Wr G x K e1 H1 Q
section
variable {l : List Nat} {k N : Nat} {E : Nat → List (Nat × V)} {B : Nat → Heap} {P : Nat → Prop} {n : Nat}
@[simp] theorem QU_nx : QU G K Q l k N E B P n .nx e H = (n < N ∧ P (n + 1) ∧ (keepE l e).cl k = mkE (E (n + 1)) ∧ trunc k H = B (n + 1)) := rfl
@[simp] theorem QU_exit (i : Nat) : QU G K Q l k N E B P n (.exit i) e H = Wr G (.exit i) K e H Q := rfl
@[simp] theorem QU_ret : QU G K Q l k N E B P n .ret e H = Wr G .ret K e H Q := rfl
end
theorem W_up {l : List Nat} {c : SCode} (N : Nat) (E : Nat → List (Nat × V)) (B : Nat → Heap) (P : Nat → Prop)
  (h0 : P 0 ∧ (keepE l e).cl H.length = mkE (E 0) ∧ trunc H.length H = B 0)
  (hr : ∀ n, n ≤ N → P n → W G c [] (mkE (E n)) (B n) (QU G K Q l H.length N E B P n)) : W G (.loop l c) K e H Q := by
 refine W_loop (fun k e H => ∃ n, n ≤ N ∧ k = N - n ∧ P n ∧ e = mkE (E n) ∧ H = B n) N ⟨0, by omega, by omega, h0.1, h0.2.1, h0.2.2⟩ ?_
 rintro k e' H' ⟨n, hn, rfl, hp, rfl, rfl⟩
 obtain ⟨x, e1, H1, hb, hq⟩ := hr n hn hp
 refine ⟨x, e1, H1, hb, ?_⟩
 cases x with
 | nx => obtain ⟨h1, h2, h3, h4⟩ := hq; exact ⟨N - (n + 1), by omega, n + 1, h1, rfl, h2, h3, h4⟩
 | exit id => exact hq
 | ret => exact hq
def Nx {S : Type} (m : S → Nat) (E : S → List (Nat × V)) (B : S → Heap) (P : S → Prop) (l : List Nat) (k : Nat) (s : S) (e1 : Env) (H1 : Heap) : Prop :=
 ∃ s', m s' < m s ∧ P s' ∧ (keepE l e1).cl k = mkE (E s') ∧ trunc k H1 = B s'
def QS {S : Type} (G : Tbl) (K : List Kt) (Q : Ex → Env → Heap → Prop) (l : List Nat) (k : Nat) (m : S → Nat) (E : S → List (Nat × V)) (B : S → Heap) (P : S → Prop) (s : S) (x : Ex) (e1 : Env) (H1 : Heap) : Prop :=
 match x with
 | .nx => Nx m E B P l k s e1 H1
 | x => Wr G x K e1 H1 Q
section
variable {l : List Nat} {k : Nat} {S : Type} {m : S → Nat} {E : S → List (Nat × V)} {B : S → Heap} {P : S → Prop} {s : S}
@[simp] theorem QS_nx : QS G K Q l k m E B P s .nx e H = Nx m E B P l k s e H := rfl
@[simp] theorem QS_exit (i : Nat) : QS G K Q l k m E B P s (.exit i) e H = Wr G (.exit i) K e H Q := rfl
@[simp] theorem QS_ret : QS G K Q l k m E B P s .ret e H = Wr G .ret K e H Q := rfl
end
theorem addN {a b : Nat} (h : a + b ≤ 9223372036854775807) : addI .i64 (a : Int) (b : Int) = ((a + b : Nat) : Int) := by rw [addI64 (by omega) (by omega)]; omega
/-! Comparisons that omega decides: for simp with (disch := omega). -/
theorem ltT {a b : Int} (h : a < b) : (a < b) = True := eq_true h
theorem ltF {a b : Int} (h : ¬ a < b) : (a < b) = False := eq_false h
theorem eqT {a b : Int} (h : a = b) : (a = b) = True := eq_true h
theorem eqF {a b : Int} (h : ¬ a = b) : (a = b) = False := eq_false h
theorem add1' {a : Nat} (h : a + 1 ≤ 9223372036854775807) : addI .i64 (a : Int) 1 = ((a + 1 : Nat) : Int) := by rw [addI64] <;> omega
@[simp] theorem natInj {a b : Nat} : ((a : Int) = (b : Int)) = (a = b) := propext Int.ofNat_inj
@[simp] theorem ints_take_len (k : IntKind) (l : List Int) : (ints k l).take l.length = ints k l := by rw [List.take_of_length_le]; simp
@[simp] theorem nats_take_len (k : IntKind) (l : List Nat) : (nats k l).take l.length = nats k l := by rw [List.take_of_length_le]; simp
theorem ltTn {a b : Nat} (h : a < b) : (a < b) = True := eq_true h
theorem bneT {a b : Int} (h : ¬ a = b) : (a != b) = true := by simp [h]
theorem beqF {a b : Int} (h : ¬ a = b) : (a == b) = false := by simp [h]
theorem leTn {a b : Nat} (h : a ≤ b) : (a ≤ b) = True := eq_true h
theorem get_in {α : Type} {l : List α} {i : Nat} (h : i < l.length) : l[i]? = some l[i] := List.getElem?_eq_getElem h
end Go.Ev
/- A law's row: arguments that read as data are canonical, and read behind the call as they read before. -/
namespace Go.Ev
open Go Go.RowKit Go.ChangeShapes Go.WideShapes
variable {P : Program} {fm : Fm} {w : World} {Hh : Type} {enc : TypeId × Value → Hh}
def ArgIs : Ty → V → Prop
 | .agg fs, v => ∃ cs, v = .agg cs ∧ HasTy (.agg fs) cs
 | .arr n e, v => ∃ cs, v = .agg cs ∧ HasTy (.arr n e) cs
 | t, v => HasTy t [v]
def ArgsAre : List Ty → List V → Prop
 | [], vs => vs = []
 | t :: ts, vs => ∃ v r, vs = v :: r ∧ ArgIs t v ∧ ArgsAre ts r
theorem one_cell {v : Value} {c : V} (h : EncL (M0 fm) w [c] v.cells.toList) (hv : ∀ cs, v ≠ .agg cs) (ht : ∀ cs, v ≠ .tuple cs) : Enc (M0 fm) w c v := by
 simp only [EncL] at h
 obtain ⟨x, xs', hx, h1, h2⟩ := h
 subst h2
 have : v.cells = #[v] := by cases v <;> first | rfl | (exact absurd rfl (hv _)) | (exact absurd rfl (ht _))
 rw [this] at hx
 simp at hx
 subst hx
 exact h1
theorem open_arg {b0 : Nat} {ty : Ty} {t : TypeId} {v : Value} {d : DataW Hh} {ps : List MemPlace} (ht : tyIs P t ty = true) (hv : Value.okWide P w .any b0 t v) (hd : DataW.Trod enc P w 0 (fun _ => true) true t v d ps) :
  ∃ c, ArgIs ty c ∧ Enc (M0 fm) w c v := by
 obtain ⟨fuel, hd⟩ := hd
 obtain ⟨cs, hc, he⟩ := open_ty (fm := fm) ht hd
 cases ty with
 | int k =>
  obtain ⟨n, rfl⟩ := okWide_int (isInt_spec (by simpa only [tyIs] using ht)) hv
  simp only [HasTy] at hc
  obtain ⟨m, rfl, hw⟩ := hc
  exact ⟨_, ⟨m, rfl, hw⟩, one_cell he (by simp) (by simp)⟩
 | bool =>
  obtain ⟨n, rfl⟩ := okWide_bool (isBool_spec (by simpa only [tyIs] using ht)) hv
  simp only [HasTy] at hc
  obtain ⟨m, rfl⟩ := hc
  exact ⟨_, ⟨m, rfl⟩, one_cell he (by simp) (by simp)⟩
 | str =>
  obtain ⟨n, rfl⟩ := okWide_string (isStr_spec (by simpa only [tyIs] using ht)) hv
  simp only [HasTy] at hc
  obtain ⟨m, rfl, hw⟩ := hc
  exact ⟨_, ⟨m, rfl, hw⟩, one_cell he (by simp) (by simp)⟩
 | sl e =>
  simp only [tyIs] at ht
  split at ht
  case h_2 => cases ht
  rename_i el hu
  obtain ⟨a, len, cap, rfl⟩ := okWide_slice hu hv
  simp only [HasTy] at hc
  obtain ⟨es, rfl, h1, h2⟩ := hc
  exact ⟨_, ⟨es, rfl, h1, h2⟩, one_cell he (by simp) (by simp)⟩
 | agg fs =>
  have hp : ∀ c ∈ cs, c.scal = true := fun c hx => V.scal_of_pure (HasTy.pure hc c hx)
  simp only [tyIs] at ht
  split at ht
  case h_2 => cases ht
  rename_i gs hu
  unfold Value.okWide at hv
  rw [hu] at hv
  obtain ⟨xs, rfl, _, _⟩ := hv
  refine ⟨.agg cs, ⟨cs, rfl, hc⟩, ?_⟩
  simp only [Enc]
  exact ⟨hp, xs.toList, by simp, he⟩
 | arr n e =>
  have hp : ∀ c ∈ cs, c.scal = true := fun c hx => V.scal_of_pure (HasTy.pure hc c hx)
  simp only [tyIs] at ht
  split at ht
  case h_2 => cases ht
  rename_i m el hu
  unfold Value.okWide at hv
  rw [hu] at hv
  obtain ⟨xs, rfl, _, _⟩ := hv
  refine ⟨.agg cs, ⟨cs, rfl, hc⟩, ?_⟩
  simp only [Enc]
  exact ⟨hp, xs.toList, by simp, he⟩
theorem open_args {b0 : Nat} : ∀ {tys : List Ty} {ts : List TypeId} {vs : List Value} {ds : List (DataW Hh)} {ps : List MemPlace}, (∀ (i : Nat) (ty : Ty) (t : TypeId), tys[i]? = some ty → ts[i]? = some t → tyIs P t ty = true) → tys.length = ts.length →
  (∀ (j : Nat) t v, ts[j]? = some t → vs[j]? = some v → Value.okWide P w .any b0 t v) → DataW.TrodAll enc P w 0 (fun _ => true) true ts vs ds ps →
  ∃ cs, ArgsAre tys cs ∧ EncL (M0 fm) w cs vs
 | [], [], vs, ds, ps, _, _, _, h => by
  obtain ⟨rfl, rfl, rfl⟩ := trodAll_nil h
  exact ⟨[], by simp only [ArgsAre], by simp only [EncL]⟩
 | ty :: tys, t :: ts, vs, ds, ps, ht, hl, hv, h => by
  obtain ⟨v, vs', d, ds', p, q, rfl, rfl, rfl, h1, h2⟩ := trodAll_cons h
  obtain ⟨c, hc, he⟩ := open_arg (fm := fm) (ht 0 ty t rfl rfl) (hv 0 t v rfl rfl) h1
  obtain ⟨cs, hcs, hes⟩ := open_args (tys := tys) (fun i a b h3 h4 => ht (i + 1) a b (by simpa using h3) (by simpa using h4)) (by simpa using hl) (fun j a b h3 h4 => hv (j + 1) a b (by simpa using h3) (by simpa using h4)) h2
  refine ⟨c :: cs, ?_, ?_⟩
  ·simp only [ArgsAre]; exact ⟨c, cs, rfl, hc, hcs⟩
  ·simp only [EncL]; exact ⟨v, vs', rfl, he, hes⟩
 | [], _ :: _, _, _, _, _, hl, _, _ => by simp at hl
 | _ :: _, [], _, _, _, _, hl, _, _ => by simp at hl
theorem shut_args (hl : laidOutB P = true) : ∀ {ts : List TypeId} {vs : List Value} {ds : List (DataW Hh)} {ps : List MemPlace} {W' : World}, (ts.all fun t => P.readableRec t && decide (t < P.types.size)) = true → Below w.heap.size w W' →
  DataW.TrodAll enc P w 0 (fun _ => true) true ts vs ds ps → ∃ ps', DataW.TrodAll enc P W' 0 (fun b => decide (b < w.heap.size)) true ts vs ds ps'
 | [], vs, ds, ps, W', _, _, h => by
  obtain ⟨rfl, rfl, rfl⟩ := trodAll_nil h
  exact ⟨[], trodAll_mk0⟩
 | t :: ts, vs, ds, ps, W', hr, hb, h => by
  obtain ⟨v, vs', d, ds', p, q, rfl, rfl, rfl, h1, h2⟩ := trodAll_cons h
  simp only [List.all_cons, Bool.and_eq_true, decide_eq_true_eq] at hr
  obtain ⟨q', h3⟩ := shut_args hl hr.2 hb h2
  have lt : ∀ x ∈ p, x.block < w.heap.size := by obtain ⟨m, hm⟩ := h1; exact DataW.trod_lt m _ _ _ hm
  exact ⟨_, trodAll_cons_mk (Below.trod hl hr.1.1 hr.1.2 h1 hb lt) h3⟩
theorem out_bool {v : V} {b : Bool} (h : v.out = .bool b) : v = .bool b := by
 unfold V.out at h
 cases v <;> simp only [V.cl] at h
 case bool => exact h
 case ptr id off => rw [if_neg (by omega)] at h; cases h
 case rs id off n sz => rw [if_neg (by omega)] at h; cases h
 all_goals cases h
theorem out_true {H' : Heap} {r : V} (h : (frz H' r).out = .bool true) : r = .bool true := by
 have h := out_bool h
 cases r <;> simp only [frz, frz1] at h <;> first | exact h | (cases h; done) | skip
 split at h
 ·split at h <;> cases h
 ·cases h
/-! What rounds are checked by is nothing that the checker looks at. -/
section
variable (c : Nat → SCode → Code → Prop)
theorem chkX_chk : chkX { fm with chk := c } = chkX fm := rfl
theorem chkXs_chk : chkXs { fm with chk := c } = chkXs fm := by
 funext o
 induction o with
 | nil => funext x; cases x <;> simp only [chkXs]
 | cons a o ih => funext x; cases x <;> simp only [chkXs, chkX_chk, ih]
theorem chkXo_chk : chkXo { fm with chk := c } = chkXo fm := by
 funext o x
 cases o <;> cases x <;> simp only [chkXo, chkX_chk]
theorem chkParts_chk : chkParts { fm with chk := c } = chkParts fm := by
 funext pl o
 induction o with
 | nil => funext x; cases x <;> simp only [chkParts]
 | cons a o ih => funext x; cases x <;> simp only [chkParts, chkX_chk, ih]
theorem chk1_chk : chk1 P { fm with chk := c } = chk1 P fm := by
 funext o s
 unfold chk1
 simp only [chkX_chk, chkXs_chk, chkXo_chk, chkParts_chk]
theorem chkCall_chk : chkCall { fm with chk := c } = chkCall fm := by
 funext o s
 unfold chkCall
 simp only [chkX_chk, chkXs_chk]
theorem chkOper_chk : chkOper P { fm with chk := c } = chkOper P fm := by
 funext n ops o s
 unfold chkOper
 simp only [chk1_chk, chkCall_chk]
theorem chkOpers_chk : chkOpers P { fm with chk := c } = chkOpers P fm := by
 funext n ops os
 induction os with
 | nil => funext x; cases x <;> simp only [chkOpers]
 | cons a o ih => funext x; cases x <;> simp only [chkOpers, chkOper_chk, ih]
theorem chkC_chk (rd : Bool) (n : Nat) (s : SCode) (k : Code) : chkC P { fm with chk := c } rd n s k = chkC P fm rd n s k := by
 fun_induction chkC P fm rd n s k <;> simp_all [chkC, chkX_chk, chkOpers_chk]
theorem chkFn_chk (fid : FuncId) (fn : SFn) : chkFn P { fm with chk := c } fid fn = chkFn P fm fid fn := by
 unfold chkFn
 simp only [chkC_chk]
end
def NatOk (P : Program) (fm : Fm) (f k : Nat) : Prop := ∀ c args H r H', natR k args H r H' → FOK P { fm with chk := c } f args H r H'
def FnOk (P : Program) (fm : Fm) (f : Nat) (fn : SFn) : Prop := chkFn P fm (fm f) fn = true ∨ ∃ k, fn.body = .nat k ∧ NatOk P fm f k
theorem law_callsN (g : GOk (M0 fm) w) {G : Tbl} (hG : ∀ f fn, G f = some fn → FnOk P fm f fn) {f : Nat} {args : List V} (h : FP G f args (.bool true)) {vargs : List Value} (he : EncL (M0 fm) w args vargs) :
  Calls P (fm f) vargs.toArray w fun e w' => e = .returned (.bool true) ∧ Below w.heap.size w w' := by
 obtain ⟨r', H', hb, hr⟩ := h
 have hr := out_true hr
 subst hr
 obtain ⟨fm2, hfm2⟩ : ∃ fm2 : Fm, fm2 = { fm with chk := fun n s c => chkC P fm true n s c = true } := ⟨_, rfl⟩
 have hck : fm2.chk = fun n s c => chkC P fm2 true n s c = true := by
  subst hfm2
  funext n s c
  rw [chkC_chk]
 have hG2 : ∀ f fn, G f = some fn → chkFn P fm2 (fm2 f) fn = true ∨ ∃ k, fn.body = .nat k ∧ ∀ args H r H', natR k args H r H' → FOK P fm2 f args H r H' := by
  subst hfm2
  intro f fn h
  rcases hG f fn h with h | ⟨k, hk, h⟩
  ·exact .inl ((chkFn_chk _ _ _).trans h)
  ·exact .inr ⟨k, hk, h _⟩
 have hfn : ∀ f, fm2 f = fm f := by subst hfm2; exact fun f => rfl
 have g2 : GOk (M0 fm2) w := by subst hfm2; exact fun g' cs h => Enc.free (M1 := M0 fm) (M2 := M0 { fm with chk := fun n s c => chkC P fm true n s c = true }) (fun _ => rfl) (fun _ _ rd => rd) (fun _ => rfl) (g g' cs h)
 have he2 : EncL (M0 fm2) w args vargs := EncL.free (M1 := M0 fm) (M2 := M0 fm2) (fun _ => rfl) (fun _ _ rd => rd) hfn he
 have := (sound hck hG2 hb).2 (M0 fm2) w vargs rfl (hrel0 fm2 w g2) he2
 rw [hfn] at this
 refine this.2.mono ?_
 rintro e w' ⟨rv, M', rfl, hrv, hs, _, _⟩
 simp only [Enc] at hrv
 subst hrv
 refine ⟨rfl, hs.os, hs.tape, hs.output, hs.size, fun k hk => hs.same k hk ?_⟩
 rintro ⟨id, hid⟩
 simp [blOf] at hid
end Go.Ev
