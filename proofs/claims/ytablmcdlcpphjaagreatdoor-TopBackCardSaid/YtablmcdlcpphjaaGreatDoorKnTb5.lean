/- Answers of calls of one closed run, computed one by one (5). -/
import Derived.Test.YtablmcdlcpphjaaGreatDoorKnTb4
set_option linter.unusedVariables false
set_option linter.unusedSimpArgs false
namespace Go.Proofs.YtablmcdlcpphjaaGreatDoor
open Go.Ev
set_option maxRecDepth 100000
def ka109 : List V := [.vs [[.int .i64 132, .int .i64 0, .int .i64 0, .int .u32 0], [.int .i64 132, .int .i64 0, .int .i64 0, .int .u32 0]] .no, .vs [] .no, .int .u32 1]
def kr109 : V := .tup [.agg [.int .i64 0, .int .u32 0, .int .u32 0, .int .u32 0, .int .u32 0, .int .u32 0, .int .u32 0, .int .u32 0, .int .u32 0, .int .u32 0, .int .u32 0, .int .u32 0, .int .u32 0, .int .u32 0, .int .u32 0, .int .u32 0, .int .u32 0, .int .u32 0, .int .u32 0, .int .u32 0, .int .u32 0, .int .u64 0, .int .u64 0, .int .u64 0, .int .u64 0, .int .u64 0, .int .u64 0, .int .u64 0], .int .i64 0]
theorem kw109 : FP tbl 312 ka109 kr109 := FP_runO (l := [kn87, kn93, kn94, kn43]) (k := 3000) (by kernel_rfl)
def kn109 : Kn tbl := ⟨312, ka109, kr109, kw109⟩
def ka110 : List V := [.vs [[.int .i64 132, .int .i64 0, .int .i64 0, .int .u32 0], [.int .i64 132, .int .i64 0, .int .i64 0, .int .u32 0]] .no, .int .u32 1, .int .i64 9]
def kr110 : V := .tup [.vs [] .no, .bool true, .int .i64 0]
theorem kw110 : FP tbl 333 ka110 kr110 := FP_runO (l := [kn108, kn109]) (k := 3000) (by kernel_rfl)
def kn110 : Kn tbl := ⟨333, ka110, kr110, kw110⟩
def ka111 : List V := [.vs [[.int .i64 132, .int .i64 0, .int .i64 0, .int .u32 0], [.int .i64 132, .int .i64 0, .int .i64 0, .int .u32 0]] .no, .vs [] .no, .int .u32 1, .int .i64 9]
def kr111 : V := .tup [.vs [] .no, .bool true]
theorem kw111 : FP tbl 363 ka111 kr111 := FP_runO (l := [kn110]) (k := 3000) (by kernel_rfl)
def kn111 : Kn tbl := ⟨363, ka111, kr111, kw111⟩
def ka112 : List V := [.vs [[.int .i64 132, .int .i64 0, .int .i64 0, .int .u32 0], [.int .i64 132, .int .i64 0, .int .i64 0, .int .u32 0], [.int .i64 22, .int .i64 0, .int .i64 0, .int .u32 0]] .no, .int .i64 0, .int .i64 2]
def kr112 : V := .bool true
theorem kw112 : FP tbl 206 ka112 kr112 := FP_runO (l := [kn84, kn87]) (k := 3000) (by kernel_rfl)
def kn112 : Kn tbl := ⟨206, ka112, kr112, kw112⟩
def ka113 : List V := [.vs [[.int .i64 132, .int .i64 0, .int .i64 0, .int .u32 0], [.int .i64 132, .int .i64 0, .int .i64 0, .int .u32 0], [.int .i64 22, .int .i64 0, .int .i64 0, .int .u32 0]] .no, .int .i64 0, .int .i64 2, .vs [] .no]
def kr113 : V := .tup [.vs [[.int .i64 22, .int .i64 0, .int .i64 0, .int .u32 0]] .no, .int .i64 0]
theorem kw113 : FP tbl 208 ka113 kr113 := FP_runO (l := [kn112, kn43]) (k := 3000) (by kernel_rfl)
def kn113 : Kn tbl := ⟨208, ka113, kr113, kw113⟩
def ka114 : List V := [.vs [] .no, .agg [.vs [[.int .i64 132, .int .i64 0, .int .i64 0, .int .u32 0], [.int .i64 132, .int .i64 0, .int .i64 0, .int .u32 0]] .no, .vs [] .no, .int .u32 1]]
def kr114 : V := .tup [.vs [[.vs [[.int .i64 132, .int .i64 0, .int .i64 0, .int .u32 0], [.int .i64 132, .int .i64 0, .int .i64 0, .int .u32 0]] .no, .vs [] .no, .int .u32 1]] .no, .int .i64 0]
theorem kw114 : FP tbl 357 ka114 kr114 := FP_runO (l := [kn87, kn43]) (k := 3000) (by kernel_rfl)
def kn114 : Kn tbl := ⟨357, ka114, kr114, kw114⟩
def ka115 : List V := [.vs [[.int .i64 132, .int .i64 0, .int .i64 0, .int .u32 0], [.int .i64 132, .int .i64 0, .int .i64 0, .int .u32 0], [.int .i64 22, .int .i64 0, .int .i64 0, .int .u32 0]] .no, .vs [] .no, .agg [.int .i64 9, .int .i64 9, .int .i64 4]]
def kr115 : V := .tup [.agg [.vs [[.int .i64 22, .int .i64 0, .int .i64 0, .int .u32 0]] .no, .vs [[.vs [[.int .i64 132, .int .i64 0, .int .i64 0, .int .u32 0], [.int .i64 132, .int .i64 0, .int .i64 0, .int .u32 0]] .no, .vs [] .no, .int .u32 1]] .no, .int .i64 1, .bool false], .bool true]
theorem kw115 : FP tbl 364 ka115 kr115 := FP_runO (l := [kn89, kn90, kn111, kn113, kn114]) (k := 3000) (by kernel_rfl)
def kn115 : Kn tbl := ⟨364, ka115, kr115, kw115⟩
def ka116 : List V := [.vs [[.int .i64 22, .int .i64 0, .int .i64 0, .int .u32 0]] .no, .int .i64 4]
def kr116 : V := .vs [] .no
theorem kw116 : FP tbl 209 ka116 kr116 := FP_runO (l := [kn42]) (k := 3000) (by kernel_rfl)
def kn116 : Kn tbl := ⟨209, ka116, kr116, kw116⟩
def ka117 : List V := [.vs [[.int .i64 22, .int .i64 0, .int .i64 0, .int .u32 0]] .no, .vs [[.vs [[.int .i64 132, .int .i64 0, .int .i64 0, .int .u32 0], [.int .i64 132, .int .i64 0, .int .i64 0, .int .u32 0]] .no, .vs [] .no, .int .u32 1]] .no, .agg [.int .i64 9, .int .i64 9, .int .i64 4]]
def kr117 : V := .tup [.agg [.vs [[.int .i64 22, .int .i64 0, .int .i64 0, .int .u32 0]] .no, .vs [[.vs [[.int .i64 132, .int .i64 0, .int .i64 0, .int .u32 0], [.int .i64 132, .int .i64 0, .int .i64 0, .int .u32 0]] .no, .vs [] .no, .int .u32 1]] .no, .int .i64 0, .bool true], .bool false]
theorem kw117 : FP tbl 364 ka117 kr117 := FP_runO (l := [kn116]) (k := 3000) (by kernel_rfl)
def kn117 : Kn tbl := ⟨364, ka117, kr117, kw117⟩
def ka118 : List V := [.vs [[.int .i64 132, .int .i64 0, .int .i64 0, .int .u32 0], [.int .i64 132, .int .i64 0, .int .i64 0, .int .u32 0], [.int .i64 22, .int .i64 0, .int .i64 0, .int .u32 0]] .no, .vs [] .no, .agg [.int .i64 9, .int .i64 9, .int .i64 4]]
def kr118 : V := .tup [.agg [.vs [[.int .i64 22, .int .i64 0, .int .i64 0, .int .u32 0]] .no, .vs [[.vs [[.int .i64 132, .int .i64 0, .int .i64 0, .int .u32 0], [.int .i64 132, .int .i64 0, .int .i64 0, .int .u32 0]] .no, .vs [] .no, .int .u32 1]] .no, .int .i64 1, .bool true], .int .i64 0]
theorem kw118 : FP tbl 365 ka118 kr118 := FP_runO (l := [kn85, kn115, kn117]) (k := 3000) (by kernel_rfl)
def kn118 : Kn tbl := ⟨365, ka118, kr118, kw118⟩
theorem kworks : FP tbl 484 [] (.bool true) := FP_runO (l := [kn77, kn80, kn82, kn83, kn118]) (k := 3000) (by kernel_rfl)
end Go.Proofs.YtablmcdlcpphjaaGreatDoor
