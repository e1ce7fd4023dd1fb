/- Answers of calls of one closed run, computed one by one (0). -/
import Derived.KernelRfl
import Derived.Test.YtablmcdlcpphjaaGreatDoorChkTb
import Derived.Test.YtablmcdlcpphjaaGreatDoorEvXW
set_option linter.unusedVariables false
set_option linter.unusedSimpArgs false
namespace Go.Proofs.YtablmcdlcpphjaaGreatDoor
open Go.Ev
set_option maxRecDepth 100000
def ka0 : List V := [.str [111, 110, 32, 120, 54, 52, 32, 114, 101, 97, 100, 32, 97, 108, 108, 111, 119, 32, 105, 102, 32, 97, 48, 32, 48, 120, 102, 102, 102, 102, 102, 102, 102, 102, 32, 101, 113, 32, 48, 120, 49, 10, 100, 101, 102, 97, 117, 108, 116, 32, 107, 105, 108, 108, 10]]
def kr0 : V := .tup [.agg [.vs [[.int .u32 3221225534, .int .u32 0, .vs [[.int .i64 0, .int .i64 0, .int .u64 4294967295, .int .u64 1]] .no, .int .u32 2147418112]] .no, .int .u32 0], .int .i64 0, .int .i64 0]
theorem kw0 : FP tbl 467 ka0 kr0 := FP_runO (l := []) (k := 3000) (by kernel_rfl)
def kn0 : Kn tbl := ⟨467, ka0, kr0, kw0⟩
def ka1 : List V := [.agg [.vs [[.int .u32 3221225534, .int .u32 0, .vs [[.int .i64 0, .int .i64 0, .int .u64 4294967295, .int .u64 1]] .no, .int .u32 2147418112]] .no, .int .u32 0]]
def kr1 : V := .tup [.vs [[.int .i64 32, .int .i64 0, .int .i64 0, .int .u32 4], [.int .i64 21, .int .i64 0, .int .i64 9, .int .u32 3221225534], [.int .i64 32, .int .i64 0, .int .i64 0, .int .u32 0], [.int .i64 21, .int .i64 0, .int .i64 7, .int .u32 0], [.int .i64 32, .int .i64 0, .int .i64 0, .int .u32 20], [.int .i64 84, .int .i64 0, .int .i64 0, .int .u32 0], [.int .i64 21, .int .i64 0, .int .i64 4, .int .u32 0], [.int .i64 32, .int .i64 0, .int .i64 0, .int .u32 16], [.int .i64 84, .int .i64 0, .int .i64 0, .int .u32 4294967295], [.int .i64 21, .int .i64 0, .int .i64 1, .int .u32 1], [.int .i64 6, .int .i64 0, .int .i64 0, .int .u32 2147418112], [.int .i64 6, .int .i64 0, .int .i64 0, .int .u32 0]] .no, .int .i64 0]
theorem kw1 : FP tbl 428 ka1 kr1 := FP_runO (l := []) (k := 3000) (by kernel_rfl)
def kn1 : Kn tbl := ⟨428, ka1, kr1, kw1⟩
def ka2 : List V := [.vs [[.int .i64 32, .int .i64 0, .int .i64 0, .int .u32 4], [.int .i64 21, .int .i64 0, .int .i64 9, .int .u32 3221225534], [.int .i64 32, .int .i64 0, .int .i64 0, .int .u32 0], [.int .i64 21, .int .i64 0, .int .i64 7, .int .u32 0], [.int .i64 32, .int .i64 0, .int .i64 0, .int .u32 20], [.int .i64 84, .int .i64 0, .int .i64 0, .int .u32 0], [.int .i64 21, .int .i64 0, .int .i64 4, .int .u32 0], [.int .i64 32, .int .i64 0, .int .i64 0, .int .u32 16], [.int .i64 84, .int .i64 0, .int .i64 0, .int .u32 4294967295], [.int .i64 21, .int .i64 0, .int .i64 1, .int .u32 1], [.int .i64 6, .int .i64 0, .int .i64 0, .int .u32 2147418112], [.int .i64 6, .int .i64 0, .int .i64 0, .int .u32 0]] .no]
def kr2 : V := .bool true
theorem kw2 : FP tbl 157 ka2 kr2 := FP_runO (l := []) (k := 3000) (by kernel_rfl)
def kn2 : Kn tbl := ⟨157, ka2, kr2, kw2⟩
def ka3 : List V := [.vs [[.int .i64 32, .int .i64 0, .int .i64 0, .int .u32 4], [.int .i64 21, .int .i64 0, .int .i64 9, .int .u32 3221225534], [.int .i64 32, .int .i64 0, .int .i64 0, .int .u32 0], [.int .i64 21, .int .i64 0, .int .i64 7, .int .u32 0], [.int .i64 32, .int .i64 0, .int .i64 0, .int .u32 20], [.int .i64 84, .int .i64 0, .int .i64 0, .int .u32 0], [.int .i64 21, .int .i64 0, .int .i64 4, .int .u32 0], [.int .i64 32, .int .i64 0, .int .i64 0, .int .u32 16], [.int .i64 84, .int .i64 0, .int .i64 0, .int .u32 4294967295], [.int .i64 21, .int .i64 0, .int .i64 1, .int .u32 1], [.int .i64 6, .int .i64 0, .int .i64 0, .int .u32 2147418112], [.int .i64 6, .int .i64 0, .int .i64 0, .int .u32 0]] .no]
def kr3 : V := .tup [.vs [[.int .i64 32, .int .i64 0, .int .i64 0, .int .u32 4], [.int .i64 21, .int .i64 0, .int .i64 9, .int .u32 3221225534], [.int .i64 32, .int .i64 0, .int .i64 0, .int .u32 0], [.int .i64 21, .int .i64 0, .int .i64 7, .int .u32 0], [.int .i64 32, .int .i64 0, .int .i64 0, .int .u32 20], [.int .i64 84, .int .i64 0, .int .i64 0, .int .u32 0], [.int .i64 21, .int .i64 0, .int .i64 4, .int .u32 0], [.int .i64 32, .int .i64 0, .int .i64 0, .int .u32 16], [.int .i64 84, .int .i64 0, .int .i64 0, .int .u32 4294967295], [.int .i64 21, .int .i64 0, .int .i64 1, .int .u32 1], [.int .i64 6, .int .i64 0, .int .i64 0, .int .u32 2147418112], [.int .i64 6, .int .i64 0, .int .i64 0, .int .u32 0]] .no, .int .i64 0]
theorem kw3 : FP tbl 349 ka3 kr3 := FP_runO (l := [kn2]) (k := 3000) (by kernel_rfl)
def kn3 : Kn tbl := ⟨349, ka3, kr3, kw3⟩
def ka4 : List V := [.vs [[.int .i64 32, .int .i64 0, .int .i64 0, .int .u32 4], [.int .i64 21, .int .i64 0, .int .i64 9, .int .u32 3221225534]] .no]
def kr4 : V := .bool false
theorem kw4 : FP tbl 202 ka4 kr4 := FP_runO (l := []) (k := 3000) (by kernel_rfl)
def kn4 : Kn tbl := ⟨202, ka4, kr4, kw4⟩
def ka5 : List V := [.vs [[.int .i64 21, .int .i64 0, .int .i64 9, .int .u32 3221225534], [.int .i64 32, .int .i64 0, .int .i64 0, .int .u32 0]] .no]
def kr5 : V := .bool false
theorem kw5 : FP tbl 202 ka5 kr5 := FP_runO (l := []) (k := 3000) (by kernel_rfl)
def kn5 : Kn tbl := ⟨202, ka5, kr5, kw5⟩
def ka6 : List V := [.vs [[.int .i64 32, .int .i64 0, .int .i64 0, .int .u32 0], [.int .i64 21, .int .i64 0, .int .i64 7, .int .u32 0]] .no]
def kr6 : V := .bool false
theorem kw6 : FP tbl 202 ka6 kr6 := FP_runO (l := []) (k := 3000) (by kernel_rfl)
def kn6 : Kn tbl := ⟨202, ka6, kr6, kw6⟩
def ka7 : List V := [.vs [[.int .i64 21, .int .i64 0, .int .i64 7, .int .u32 0], [.int .i64 32, .int .i64 0, .int .i64 0, .int .u32 20]] .no]
def kr7 : V := .bool false
theorem kw7 : FP tbl 202 ka7 kr7 := FP_runO (l := []) (k := 3000) (by kernel_rfl)
def kn7 : Kn tbl := ⟨202, ka7, kr7, kw7⟩
def ka8 : List V := [.vs [[.int .i64 32, .int .i64 0, .int .i64 0, .int .u32 20], [.int .i64 84, .int .i64 0, .int .i64 0, .int .u32 0], [.int .i64 22, .int .i64 0, .int .i64 0, .int .u32 0]] .no]
def kr8 : V := .bool true
theorem kw8 : FP tbl 157 ka8 kr8 := FP_runO (l := []) (k := 3000) (by kernel_rfl)
def kn8 : Kn tbl := ⟨157, ka8, kr8, kw8⟩
def ka9 : List V := [.vs [[.int .i64 32, .int .i64 0, .int .i64 0, .int .u32 20], [.int .i64 84, .int .i64 0, .int .i64 0, .int .u32 0]] .no]
def kr9 : V := .bool true
theorem kw9 : FP tbl 202 ka9 kr9 := FP_runO (l := [kn8]) (k := 3000) (by kernel_rfl)
def kn9 : Kn tbl := ⟨202, ka9, kr9, kw9⟩
def ka10 : List V := [.vs [[.int .i64 84, .int .i64 0, .int .i64 0, .int .u32 0], [.int .i64 21, .int .i64 0, .int .i64 4, .int .u32 0]] .no]
def kr10 : V := .bool false
theorem kw10 : FP tbl 202 ka10 kr10 := FP_runO (l := []) (k := 3000) (by kernel_rfl)
def kn10 : Kn tbl := ⟨202, ka10, kr10, kw10⟩
def ka11 : List V := [.vs [[.int .i64 21, .int .i64 0, .int .i64 4, .int .u32 0], [.int .i64 32, .int .i64 0, .int .i64 0, .int .u32 16]] .no]
def kr11 : V := .bool false
theorem kw11 : FP tbl 202 ka11 kr11 := FP_runO (l := []) (k := 3000) (by kernel_rfl)
def kn11 : Kn tbl := ⟨202, ka11, kr11, kw11⟩
def ka12 : List V := [.vs [[.int .i64 32, .int .i64 0, .int .i64 0, .int .u32 16], [.int .i64 84, .int .i64 0, .int .i64 0, .int .u32 4294967295], [.int .i64 22, .int .i64 0, .int .i64 0, .int .u32 0]] .no]
def kr12 : V := .bool true
theorem kw12 : FP tbl 157 ka12 kr12 := FP_runO (l := []) (k := 3000) (by kernel_rfl)
def kn12 : Kn tbl := ⟨157, ka12, kr12, kw12⟩
def ka13 : List V := [.vs [[.int .i64 32, .int .i64 0, .int .i64 0, .int .u32 16], [.int .i64 84, .int .i64 0, .int .i64 0, .int .u32 4294967295]] .no]
def kr13 : V := .bool true
theorem kw13 : FP tbl 202 ka13 kr13 := FP_runO (l := [kn12]) (k := 3000) (by kernel_rfl)
def kn13 : Kn tbl := ⟨202, ka13, kr13, kw13⟩
def ka14 : List V := [.vs [[.int .i64 84, .int .i64 0, .int .i64 0, .int .u32 4294967295], [.int .i64 21, .int .i64 0, .int .i64 1, .int .u32 1]] .no]
def kr14 : V := .bool false
theorem kw14 : FP tbl 202 ka14 kr14 := FP_runO (l := []) (k := 3000) (by kernel_rfl)
def kn14 : Kn tbl := ⟨202, ka14, kr14, kw14⟩
def ka15 : List V := [.vs [[.int .i64 21, .int .i64 0, .int .i64 1, .int .u32 1], [.int .i64 6, .int .i64 0, .int .i64 0, .int .u32 2147418112]] .no]
def kr15 : V := .bool false
theorem kw15 : FP tbl 202 ka15 kr15 := FP_runO (l := []) (k := 3000) (by kernel_rfl)
def kn15 : Kn tbl := ⟨202, ka15, kr15, kw15⟩
def ka16 : List V := [.vs [[.int .i64 6, .int .i64 0, .int .i64 0, .int .u32 2147418112], [.int .i64 6, .int .i64 0, .int .i64 0, .int .u32 0]] .no]
def kr16 : V := .bool false
theorem kw16 : FP tbl 202 ka16 kr16 := FP_runO (l := []) (k := 3000) (by kernel_rfl)
def kn16 : Kn tbl := ⟨202, ka16, kr16, kw16⟩
def ka17 : List V := [.vs [[.int .i64 32, .int .i64 0, .int .i64 0, .int .u32 4], [.int .i64 21, .int .i64 0, .int .i64 9, .int .u32 3221225534], [.int .i64 32, .int .i64 0, .int .i64 0, .int .u32 0], [.int .i64 21, .int .i64 0, .int .i64 7, .int .u32 0], [.int .i64 32, .int .i64 0, .int .i64 0, .int .u32 20], [.int .i64 84, .int .i64 0, .int .i64 0, .int .u32 0], [.int .i64 21, .int .i64 0, .int .i64 4, .int .u32 0], [.int .i64 32, .int .i64 0, .int .i64 0, .int .u32 16], [.int .i64 84, .int .i64 0, .int .i64 0, .int .u32 4294967295], [.int .i64 21, .int .i64 0, .int .i64 1, .int .u32 1], [.int .i64 6, .int .i64 0, .int .i64 0, .int .u32 2147418112], [.int .i64 6, .int .i64 0, .int .i64 0, .int .u32 0]] .no, .int .i64 2]
def kr17 : V := .vs [[.int .i64 4, .int .i64 2], [.int .i64 7, .int .i64 2]] .no
theorem kw17 : FP tbl 209 ka17 kr17 := FP_runO (l := [kn2, kn4, kn5, kn6, kn7, kn9, kn10, kn11, kn13, kn14, kn15, kn16]) (k := 3000) (by kernel_rfl)
def kn17 : Kn tbl := ⟨209, ka17, kr17, kw17⟩
def ka18 : List V := [.vs [[.int .i64 32, .int .i64 0, .int .i64 0, .int .u32 4], [.int .i64 21, .int .i64 0, .int .i64 9, .int .u32 3221225534], [.int .i64 32, .int .i64 0, .int .i64 0, .int .u32 0], [.int .i64 21, .int .i64 0, .int .i64 7, .int .u32 0], [.int .i64 32, .int .i64 0, .int .i64 0, .int .u32 20], [.int .i64 84, .int .i64 0, .int .i64 0, .int .u32 0], [.int .i64 21, .int .i64 0, .int .i64 4, .int .u32 0], [.int .i64 32, .int .i64 0, .int .i64 0, .int .u32 16], [.int .i64 84, .int .i64 0, .int .i64 0, .int .u32 4294967295], [.int .i64 21, .int .i64 0, .int .i64 1, .int .u32 1], [.int .i64 6, .int .i64 0, .int .i64 0, .int .u32 2147418112], [.int .i64 6, .int .i64 0, .int .i64 0, .int .u32 0]] .no, .int .i64 5]
def kr18 : V := .tup [.int .u32 1, .int .i64 0]
theorem kw18 : FP tbl 172 ka18 kr18 := FP_runO (l := [kn2]) (k := 3000) (by kernel_rfl)
def kn18 : Kn tbl := ⟨172, ka18, kr18, kw18⟩
def ka19 : List V := [.vs [[.int .i64 32, .int .i64 0, .int .i64 0, .int .u32 20], [.int .i64 22, .int .i64 0, .int .i64 0, .int .u32 0]] .no]
def kr19 : V := .bool true
theorem kw19 : FP tbl 157 ka19 kr19 := FP_runO (l := []) (k := 3000) (by kernel_rfl)
def kn19 : Kn tbl := ⟨157, ka19, kr19, kw19⟩
def ka20 : List V := [.vs [[.int .i64 32, .int .i64 0, .int .i64 0, .int .u32 20]] .no]
def kr20 : V := .bool true
theorem kw20 : FP tbl 202 ka20 kr20 := FP_runO (l := [kn19]) (k := 3000) (by kernel_rfl)
def kn20 : Kn tbl := ⟨202, ka20, kr20, kw20⟩
def ka21 : List V := [.vs [[.int .i64 84, .int .i64 0, .int .i64 0, .int .u32 0], [.int .i64 22, .int .i64 0, .int .i64 0, .int .u32 0]] .no]
def kr21 : V := .bool true
theorem kw21 : FP tbl 157 ka21 kr21 := FP_runO (l := []) (k := 3000) (by kernel_rfl)
def kn21 : Kn tbl := ⟨157, ka21, kr21, kw21⟩
def ka22 : List V := [.vs [[.int .i64 84, .int .i64 0, .int .i64 0, .int .u32 0]] .no]
def kr22 : V := .bool true
theorem kw22 : FP tbl 202 ka22 kr22 := FP_runO (l := [kn21]) (k := 3000) (by kernel_rfl)
def kn22 : Kn tbl := ⟨202, ka22, kr22, kw22⟩
def ka23 : List V := [.vs [[.int .i64 7, .int .i64 0, .int .i64 0, .int .u32 0], [.int .i64 22, .int .i64 0, .int .i64 0, .int .u32 0]] .no]
def kr23 : V := .bool true
theorem kw23 : FP tbl 157 ka23 kr23 := FP_runO (l := []) (k := 3000) (by kernel_rfl)
def kn23 : Kn tbl := ⟨157, ka23, kr23, kw23⟩
def ka24 : List V := [.vs [[.int .i64 7, .int .i64 0, .int .i64 0, .int .u32 0]] .no]
def kr24 : V := .bool true
theorem kw24 : FP tbl 202 ka24 kr24 := FP_runO (l := [kn23]) (k := 3000) (by kernel_rfl)
def kn24 : Kn tbl := ⟨202, ka24, kr24, kw24⟩
def ka25 : List V := [.vs [[.int .i64 135, .int .i64 0, .int .i64 0, .int .u32 0], [.int .i64 22, .int .i64 0, .int .i64 0, .int .u32 0]] .no]
def kr25 : V := .bool true
theorem kw25 : FP tbl 157 ka25 kr25 := FP_runO (l := []) (k := 3000) (by kernel_rfl)
def kn25 : Kn tbl := ⟨157, ka25, kr25, kw25⟩
def ka26 : List V := [.vs [[.int .i64 135, .int .i64 0, .int .i64 0, .int .u32 0]] .no]
def kr26 : V := .bool true
theorem kw26 : FP tbl 202 ka26 kr26 := FP_runO (l := [kn25]) (k := 3000) (by kernel_rfl)
def kn26 : Kn tbl := ⟨202, ka26, kr26, kw26⟩
def ka27 : List V := [.agg [.int .u32 4294967295, .int .u32 0, .int .u32 0, .int .u32 0, .int .u32 0, .int .u32 0, .int .u32 0, .int .u32 0, .int .u32 0, .int .u32 0, .int .u32 0, .int .u32 0, .int .u32 0, .int .u32 0, .int .u32 0, .int .u32 0, .int .u32 0, .int .u32 0, .int .u32 0, .int .u32 0, .int .u32 0, .int .u32 0, .int .u32 0, .int .u32 0, .int .u32 0, .int .u32 0, .int .u32 0, .int .u32 0, .int .u32 0, .int .u32 0, .int .u32 0, .int .u32 0, .int .u32 0, .int .u32 0, .int .u32 0], .agg [.int .u32 0, .int .u32 0, .int .u32 0, .int .u32 0, .int .u32 0, .int .u32 0, .int .u32 0, .int .u32 0, .int .u32 0, .int .u32 0, .int .u32 0, .int .u32 0, .int .u32 0, .int .u32 0, .int .u32 0, .int .u32 0, .int .u32 0, .int .u32 0, .int .u32 0, .int .u32 0, .int .u32 0, .int .u32 0, .int .u32 0, .int .u32 0, .int .u32 1, .int .u32 0, .int .u32 0, .int .u32 0, .int .u32 0, .int .u32 0, .int .u32 0, .int .u32 0, .int .u32 0, .int .u32 0, .int .u32 0]]
def kr27 : V := .agg [.int .u32 4294967295, .int .u32 0, .int .u32 0, .int .u32 0, .int .u32 0, .int .u32 0, .int .u32 0, .int .u32 0, .int .u32 0, .int .u32 0, .int .u32 0, .int .u32 0, .int .u32 0, .int .u32 0, .int .u32 0, .int .u32 0, .int .u32 0, .int .u32 0, .int .u32 0, .int .u32 0, .int .u32 0, .int .u32 0, .int .u32 0, .int .u32 0, .int .u32 4294967295, .int .u32 0, .int .u32 0, .int .u32 0, .int .u32 0, .int .u32 0, .int .u32 0, .int .u32 0, .int .u32 0, .int .u32 0, .int .u32 0]
theorem kw27 : FP tbl 249 ka27 kr27 := FP_runO (l := []) (k := 3000) (by kernel_rfl)
def kn27 : Kn tbl := ⟨249, ka27, kr27, kw27⟩
end Go.Proofs.YtablmcdlcpphjaaGreatDoor
