/- Answers of calls of one closed run, computed one by one (1). -/
import Derived.Test.YtablmcdlcpphjaaGreatDoorKnTb0
set_option linter.unusedVariables false
set_option linter.unusedSimpArgs false
namespace Go.Proofs.YtablmcdlcpphjaaGreatDoor
open Go.Ev
set_option maxRecDepth 100000
def ka28 : List V := [.agg [.int .u32 0, .int .u32 0, .int .u32 0, .int .u32 0, .int .u32 0, .int .u32 0, .int .u32 0, .int .u32 0, .int .u32 0, .int .u32 0, .int .u32 0, .int .u32 0, .int .u32 0, .int .u32 0, .int .u32 0, .int .u32 0, .int .u32 0, .int .u32 0, .int .u32 0, .int .u32 0, .int .u32 0, .int .u32 0, .int .u32 0, .int .u32 0, .int .u32 1, .int .u32 0, .int .u32 0, .int .u32 0, .int .u32 0, .int .u32 0, .int .u32 0, .int .u32 0, .int .u32 0, .int .u32 0, .int .u32 0]]
def kr28 : V := .tup [.int .i64 23, .bool true]
theorem kw28 : FP tbl 254 ka28 kr28 := FP_runO (l := []) (k := 3000) (by kernel_rfl)
def kn28 : Kn tbl := ⟨254, ka28, kr28, kw28⟩
def ka29 : List V := [.int .i64 84, .agg [.vs [[.int .i64 23]] .no, .vs [[.int .u32 0], [.int .u32 4294967295]] .no], .agg [.vs [] .no, .vs [[.int .u32 0]] .no]]
def kr29 : V := .tup [.agg [.vs [] .no, .vs [[.int .u32 0]] .no], .bool true]
theorem kw29 : FP tbl 109 ka29 kr29 := FP_runO (l := []) (k := 3000) (by kernel_rfl)
def kn29 : Kn tbl := ⟨109, ka29, kr29, kw29⟩
def ka30 : List V := [.vs [[.int .i64 32, .int .i64 0, .int .i64 0, .int .u32 20], [.int .i64 84, .int .i64 0, .int .i64 0, .int .u32 0]] .no]
def kr30 : V := .vs [[.int .u32 0], [.int .u32 0], [.int .u32 0], [.int .u32 0]] .no
theorem kw30 : FP tbl 326 ka30 kr30 := FP_runO (l := [kn9, kn27, kn28, kn29]) (k := 3000) (by kernel_rfl)
def kn30 : Kn tbl := ⟨326, ka30, kr30, kw30⟩
def ka31 : List V := [.vs [[.int .i64 0, .int .i64 0, .int .i64 0, .int .u32 0], [.int .i64 22, .int .i64 0, .int .i64 0, .int .u32 0]] .no]
def kr31 : V := .bool true
theorem kw31 : FP tbl 157 ka31 kr31 := FP_runO (l := []) (k := 3000) (by kernel_rfl)
def kn31 : Kn tbl := ⟨157, ka31, kr31, kw31⟩
def ka32 : List V := [.vs [[.int .i64 0, .int .i64 0, .int .i64 0, .int .u32 0]] .no]
def kr32 : V := .bool true
theorem kw32 : FP tbl 202 ka32 kr32 := FP_runO (l := [kn31]) (k := 3000) (by kernel_rfl)
def kn32 : Kn tbl := ⟨202, ka32, kr32, kw32⟩
def ka33 : List V := [.vs [[.int .i64 1, .int .i64 0, .int .i64 0, .int .u32 0], [.int .i64 22, .int .i64 0, .int .i64 0, .int .u32 0]] .no]
def kr33 : V := .bool true
theorem kw33 : FP tbl 157 ka33 kr33 := FP_runO (l := []) (k := 3000) (by kernel_rfl)
def kn33 : Kn tbl := ⟨157, ka33, kr33, kw33⟩
def ka34 : List V := [.vs [[.int .i64 1, .int .i64 0, .int .i64 0, .int .u32 0]] .no]
def kr34 : V := .bool true
theorem kw34 : FP tbl 202 ka34 kr34 := FP_runO (l := [kn33]) (k := 3000) (by kernel_rfl)
def kn34 : Kn tbl := ⟨202, ka34, kr34, kw34⟩
def ka35 : List V := [.vs [[.int .i64 4, .int .i64 0, .int .i64 0, .int .u32 0], [.int .i64 22, .int .i64 0, .int .i64 0, .int .u32 0]] .no]
def kr35 : V := .bool true
theorem kw35 : FP tbl 157 ka35 kr35 := FP_runO (l := []) (k := 3000) (by kernel_rfl)
def kn35 : Kn tbl := ⟨157, ka35, kr35, kw35⟩
def ka36 : List V := [.vs [[.int .i64 4, .int .i64 0, .int .i64 0, .int .u32 0]] .no]
def kr36 : V := .bool true
theorem kw36 : FP tbl 202 ka36 kr36 := FP_runO (l := [kn35]) (k := 3000) (by kernel_rfl)
def kn36 : Kn tbl := ⟨202, ka36, kr36, kw36⟩
def ka37 : List V := [.vs [[.int .i64 68, .int .i64 0, .int .i64 0, .int .u32 0], [.int .i64 22, .int .i64 0, .int .i64 0, .int .u32 0]] .no]
def kr37 : V := .bool true
theorem kw37 : FP tbl 157 ka37 kr37 := FP_runO (l := []) (k := 3000) (by kernel_rfl)
def kn37 : Kn tbl := ⟨157, ka37, kr37, kw37⟩
def ka38 : List V := [.vs [[.int .i64 68, .int .i64 0, .int .i64 0, .int .u32 0]] .no]
def kr38 : V := .bool true
theorem kw38 : FP tbl 202 ka38 kr38 := FP_runO (l := [kn37]) (k := 3000) (by kernel_rfl)
def kn38 : Kn tbl := ⟨202, ka38, kr38, kw38⟩
def ka39 : List V := [.vs [[.int .i64 164, .int .i64 0, .int .i64 0, .int .u32 0], [.int .i64 22, .int .i64 0, .int .i64 0, .int .u32 0]] .no]
def kr39 : V := .bool true
theorem kw39 : FP tbl 157 ka39 kr39 := FP_runO (l := []) (k := 3000) (by kernel_rfl)
def kn39 : Kn tbl := ⟨157, ka39, kr39, kw39⟩
def ka40 : List V := [.vs [[.int .i64 164, .int .i64 0, .int .i64 0, .int .u32 0]] .no]
def kr40 : V := .bool true
theorem kw40 : FP tbl 202 ka40 kr40 := FP_runO (l := [kn39]) (k := 3000) (by kernel_rfl)
def kn40 : Kn tbl := ⟨202, ka40, kr40, kw40⟩
def ka41 : List V := [.vs [[.int .i64 32, .int .i64 0, .int .i64 0, .int .u32 20], [.int .i64 84, .int .i64 0, .int .i64 0, .int .u32 0]] .no]
def kr41 : V := .tup [.vs [[.int .i64 32, .int .i64 0, .int .i64 0, .int .u32 20], [.int .i64 84, .int .i64 0, .int .i64 0, .int .u32 0], [.int .i64 7, .int .i64 0, .int .i64 0, .int .u32 0], [.int .i64 135, .int .i64 0, .int .i64 0, .int .u32 0], [.int .i64 0, .int .i64 0, .int .i64 0, .int .u32 0], [.int .i64 1, .int .i64 0, .int .i64 0, .int .u32 0], [.int .i64 4, .int .i64 0, .int .i64 0, .int .u32 0], [.int .i64 68, .int .i64 0, .int .i64 0, .int .u32 0], [.int .i64 164, .int .i64 0, .int .i64 0, .int .u32 0]] .no, .int .i64 0]
theorem kw41 : FP tbl 330 ka41 kr41 := FP_runO (l := [kn9, kn20, kn22, kn24, kn26, kn30, kn32, kn34, kn36, kn38, kn40]) (k := 3000) (by kernel_rfl)
def kn41 : Kn tbl := ⟨330, ka41, kr41, kw41⟩
def ka42 : List V := [.vs [[.int .i64 22, .int .i64 0, .int .i64 0, .int .u32 0]] .no]
def kr42 : V := .bool true
theorem kw42 : FP tbl 157 ka42 kr42 := FP_runO (l := []) (k := 3000) (by kernel_rfl)
def kn42 : Kn tbl := ⟨157, ka42, kr42, kw42⟩
def ka43 : List V := [.vs [] .no]
def kr43 : V := .bool true
theorem kw43 : FP tbl 202 ka43 kr43 := FP_runO (l := [kn42]) (k := 3000) (by kernel_rfl)
def kn43 : Kn tbl := ⟨202, ka43, kr43, kw43⟩
def ka44 : List V := [.agg [.int .u32 0, .int .u32 0, .int .u64 0, .int .u64 0, .int .u64 0, .int .u64 0, .int .u64 0, .int .u64 0, .int .u64 0]]
def kr44 : V := .agg [.int .u32 0, .int .u32 0, .int .u32 0, .int .u32 0, .int .u32 0, .int .u32 0, .int .u32 0, .int .u32 0, .int .u32 0, .int .u32 0, .int .u32 0, .int .u32 0, .int .u32 0, .int .u32 0, .int .u32 0, .int .u32 0]
theorem kw44 : FP tbl 160 ka44 kr44 := FP_runO (l := []) (k := 3000) (by kernel_rfl)
def kn44 : Kn tbl := ⟨160, ka44, kr44, kw44⟩
def ka45 : List V := [.agg [.int .u32 0, .int .u32 0, .int .u32 0, .int .u32 0, .int .u32 0, .int .u32 0, .int .u32 0, .int .u32 0, .int .u32 0, .int .u32 0, .int .u32 0, .int .u32 0, .int .u32 0, .int .u32 0, .int .u32 0, .int .u32 0]]
def kr45 : V := .agg [.int .u32 0, .int .u32 0, .int .u64 0, .int .u64 0, .int .u64 0, .int .u64 0, .int .u64 0, .int .u64 0, .int .u64 0]
theorem kw45 : FP tbl 232 ka45 kr45 := FP_runO (l := []) (k := 3000) (by kernel_rfl)
def kn45 : Kn tbl := ⟨232, ka45, kr45, kw45⟩
def ka46 : List V := [.agg [.int .u32 1, .int .u32 0, .int .u32 0, .int .u32 0, .int .u32 0, .int .u32 0, .int .u32 0, .int .u32 0, .int .u32 0, .int .u32 0, .int .u32 0, .int .u32 0, .int .u32 0, .int .u32 0, .int .u32 0, .int .u32 0, .int .u32 0, .int .u32 0, .int .u32 0, .int .u32 0, .int .u32 0, .int .u32 0, .int .u32 0, .int .u32 0, .int .u32 0, .int .u32 0, .int .u32 0, .int .u32 0, .int .u32 0, .int .u32 0, .int .u32 0, .int .u32 0, .int .u32 0, .int .u32 0]]
def kr46 : V := .tup [.agg [.int .u32 1, .int .u32 0, .int .u32 0, .int .u32 0, .int .u32 0, .int .u32 0, .int .u32 0, .int .u32 0, .int .u32 0, .int .u32 0, .int .u32 0, .int .u32 0, .int .u32 0, .int .u32 0, .int .u32 0, .int .u32 0, .int .u32 0, .int .u32 0], .agg [.int .u32 0, .int .u32 0, .int .u64 0, .int .u64 0, .int .u64 0, .int .u64 0, .int .u64 0, .int .u64 0, .int .u64 0]]
theorem kw46 : FP tbl 294 ka46 kr46 := FP_runO (l := [kn44, kn45]) (k := 3000) (by kernel_rfl)
def kn46 : Kn tbl := ⟨294, ka46, kr46, kw46⟩
def ka47 : List V := [.vs [[.int .i64 32, .int .i64 0, .int .i64 0, .int .u32 20], [.int .i64 84, .int .i64 0, .int .i64 0, .int .u32 0]] .no, .agg [.int .u32 1, .int .u32 0, .int .u32 0, .int .u32 0, .int .u32 0, .int .u32 0, .int .u32 0, .int .u32 0, .int .u32 0, .int .u32 0, .int .u32 0, .int .u32 0, .int .u32 0, .int .u32 0, .int .u32 0, .int .u32 0, .int .u32 0, .int .u32 0], .agg [.int .u32 0, .int .u32 0, .int .u64 0, .int .u64 0, .int .u64 0, .int .u64 0, .int .u64 0, .int .u64 0, .int .u64 0]]
def kr47 : V := .tup [.agg [.int .u32 0, .int .u32 0, .int .u32 0, .int .u32 0, .int .u32 0, .int .u32 0, .int .u32 0, .int .u32 0, .int .u32 0, .int .u32 0, .int .u32 0, .int .u32 0, .int .u32 0, .int .u32 0, .int .u32 0, .int .u32 0, .int .u32 0, .int .u32 0], .int .i64 2]
theorem kw47 : FP tbl 292 ka47 kr47 := FP_runO (l := [kn9, kn44]) (k := 3000) (by kernel_rfl)
def kn47 : Kn tbl := ⟨292, ka47, kr47, kw47⟩
def ka48 : List V := [.vs [] .no, .agg [.int .u32 1, .int .u32 0, .int .u32 0, .int .u32 0, .int .u32 0, .int .u32 0, .int .u32 0, .int .u32 0, .int .u32 0, .int .u32 0, .int .u32 0, .int .u32 0, .int .u32 0, .int .u32 0, .int .u32 0, .int .u32 0, .int .u32 0, .int .u32 0], .agg [.int .u32 0, .int .u32 0, .int .u64 0, .int .u64 0, .int .u64 0, .int .u64 0, .int .u64 0, .int .u64 0, .int .u64 0]]
def kr48 : V := .tup [.agg [.int .u32 1, .int .u32 0, .int .u32 0, .int .u32 0, .int .u32 0, .int .u32 0, .int .u32 0, .int .u32 0, .int .u32 0, .int .u32 0, .int .u32 0, .int .u32 0, .int .u32 0, .int .u32 0, .int .u32 0, .int .u32 0, .int .u32 0, .int .u32 0], .int .i64 0]
theorem kw48 : FP tbl 292 ka48 kr48 := FP_runO (l := [kn43]) (k := 3000) (by kernel_rfl)
def kn48 : Kn tbl := ⟨292, ka48, kr48, kw48⟩
def ka49 : List V := [.agg [.int .u32 0, .int .u32 0, .int .u32 0, .int .u32 0, .int .u32 0, .int .u32 0, .int .u32 0, .int .u32 0, .int .u32 0, .int .u32 0, .int .u32 0, .int .u32 0, .int .u32 0, .int .u32 0, .int .u32 0, .int .u32 0, .int .u32 0, .int .u32 0], .agg [.int .u32 0, .int .u32 0, .int .u64 0, .int .u64 0, .int .u64 0, .int .u64 0, .int .u64 0, .int .u64 0, .int .u64 0]]
def kr49 : V := .agg [.int .u32 0, .int .u32 0, .int .u32 0, .int .u32 0, .int .u32 0, .int .u32 0, .int .u32 0, .int .u32 0, .int .u32 0, .int .u32 0, .int .u32 0, .int .u32 0, .int .u32 0, .int .u32 0, .int .u32 0, .int .u32 0, .int .u32 0, .int .u32 0, .int .u32 0, .int .u32 0, .int .u32 0, .int .u32 0, .int .u32 0, .int .u32 0, .int .u32 0, .int .u32 0, .int .u32 0, .int .u32 0, .int .u32 0, .int .u32 0, .int .u32 0, .int .u32 0, .int .u32 0, .int .u32 0]
theorem kw49 : FP tbl 293 ka49 kr49 := FP_runO (l := [kn44]) (k := 3000) (by kernel_rfl)
def kn49 : Kn tbl := ⟨293, ka49, kr49, kw49⟩
def ka50 : List V := [.agg [.int .u32 1, .int .u32 0, .int .u32 0, .int .u32 0, .int .u32 0, .int .u32 0, .int .u32 0, .int .u32 0, .int .u32 0, .int .u32 0, .int .u32 0, .int .u32 0, .int .u32 0, .int .u32 0, .int .u32 0, .int .u32 0, .int .u32 0, .int .u32 0], .agg [.int .u32 0, .int .u32 0, .int .u64 0, .int .u64 0, .int .u64 0, .int .u64 0, .int .u64 0, .int .u64 0, .int .u64 0]]
def kr50 : V := .agg [.int .u32 1, .int .u32 0, .int .u32 0, .int .u32 0, .int .u32 0, .int .u32 0, .int .u32 0, .int .u32 0, .int .u32 0, .int .u32 0, .int .u32 0, .int .u32 0, .int .u32 0, .int .u32 0, .int .u32 0, .int .u32 0, .int .u32 0, .int .u32 0, .int .u32 0, .int .u32 0, .int .u32 0, .int .u32 0, .int .u32 0, .int .u32 0, .int .u32 0, .int .u32 0, .int .u32 0, .int .u32 0, .int .u32 0, .int .u32 0, .int .u32 0, .int .u32 0, .int .u32 0, .int .u32 0]
theorem kw50 : FP tbl 293 ka50 kr50 := FP_runO (l := [kn44]) (k := 3000) (by kernel_rfl)
def kn50 : Kn tbl := ⟨293, ka50, kr50, kw50⟩
def ka51 : List V := [.vs [[.int .i64 32, .int .i64 0, .int .i64 0, .int .u32 20], [.int .i64 84, .int .i64 0, .int .i64 0, .int .u32 0]] .no, .vs [] .no, .int .u32 1, .agg [.int .u32 1, .int .u32 0, .int .u32 0, .int .u32 0, .int .u32 0, .int .u32 0, .int .u32 0, .int .u32 0, .int .u32 0, .int .u32 0, .int .u32 0, .int .u32 0, .int .u32 0, .int .u32 0, .int .u32 0, .int .u32 0, .int .u32 0, .int .u32 0], .agg [.int .u32 0, .int .u32 0, .int .u64 0, .int .u64 0, .int .u64 0, .int .u64 0, .int .u64 0, .int .u64 0, .int .u64 0]]
def kr51 : V := .bool true
theorem kw51 : FP tbl 308 ka51 kr51 := FP_runO (l := [kn9, kn43, kn47, kn48, kn49, kn50]) (k := 3000) (by kernel_rfl)
def kn51 : Kn tbl := ⟨308, ka51, kr51, kw51⟩
end Go.Proofs.YtablmcdlcpphjaaGreatDoor
