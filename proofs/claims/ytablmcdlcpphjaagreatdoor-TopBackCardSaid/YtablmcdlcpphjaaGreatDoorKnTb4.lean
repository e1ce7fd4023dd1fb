/- Answers of calls of one closed run, computed one by one (4). -/
import Derived.Test.YtablmcdlcpphjaaGreatDoorKnTb3
set_option linter.unusedVariables false
set_option linter.unusedSimpArgs false
namespace Go.Proofs.YtablmcdlcpphjaaGreatDoor
open Go.Ev
set_option maxRecDepth 100000
def ka82 : List V := [.vs [[.int .i64 32, .int .i64 0, .int .i64 0, .int .u32 4], [.int .i64 21, .int .i64 0, .int .i64 8, .int .u32 3221225534], [.int .i64 32, .int .i64 0, .int .i64 0, .int .u32 0], [.int .i64 21, .int .i64 0, .int .i64 6, .int .u32 0], [.int .i64 84, .int .i64 0, .int .i64 0, .int .u32 0], [.int .i64 21, .int .i64 0, .int .i64 4, .int .u32 0], [.int .i64 32, .int .i64 0, .int .i64 0, .int .u32 16], [.int .i64 84, .int .i64 0, .int .i64 0, .int .u32 4294967295], [.int .i64 21, .int .i64 0, .int .i64 1, .int .u32 1], [.int .i64 6, .int .i64 0, .int .i64 0, .int .u32 2147418112], [.int .i64 6, .int .i64 0, .int .i64 0, .int .u32 0]] .no, .agg [.int .u32 0, .int .u32 3221225534, .int .u64 0, .int .u64 2, .int .u64 0, .int .u64 0, .int .u64 0, .int .u64 0, .int .u64 0]]
def kr82 : V := .tup [.int .u32 0, .int .i64 10, .int .i64 0]
theorem kw82 : FP tbl 230 ka82 kr82 := FP_runO (l := [kn78, kn81]) (k := 3000) (by kernel_rfl)
def kn82 : Kn tbl := ⟨230, ka82, kr82, kw82⟩
def ka83 : List V := [.str [110, 101, 103, 10, 110, 101, 103, 10, 114, 101, 116, 97, 10]]
def kr83 : V := .tup [.vs [[.int .i64 132, .int .i64 0, .int .i64 0, .int .u32 0], [.int .i64 132, .int .i64 0, .int .i64 0, .int .u32 0], [.int .i64 22, .int .i64 0, .int .i64 0, .int .u32 0]] .no, .int .i64 0, .int .i64 0]
theorem kw83 : FP tbl 148 ka83 kr83 := FP_runO (l := []) (k := 3000) (by kernel_rfl)
def kn83 : Kn tbl := ⟨148, ka83, kr83, kw83⟩
def ka84 : List V := [.vs [[.int .i64 132, .int .i64 0, .int .i64 0, .int .u32 0], [.int .i64 132, .int .i64 0, .int .i64 0, .int .u32 0], [.int .i64 22, .int .i64 0, .int .i64 0, .int .u32 0]] .no]
def kr84 : V := .bool true
theorem kw84 : FP tbl 157 ka84 kr84 := FP_runO (l := []) (k := 3000) (by kernel_rfl)
def kn84 : Kn tbl := ⟨157, ka84, kr84, kw84⟩
def ka85 : List V := [.vs [[.int .i64 132, .int .i64 0, .int .i64 0, .int .u32 0], [.int .i64 132, .int .i64 0, .int .i64 0, .int .u32 0], [.int .i64 22, .int .i64 0, .int .i64 0, .int .u32 0]] .no]
def kr85 : V := .tup [.vs [[.int .i64 132, .int .i64 0, .int .i64 0, .int .u32 0], [.int .i64 132, .int .i64 0, .int .i64 0, .int .u32 0], [.int .i64 22, .int .i64 0, .int .i64 0, .int .u32 0]] .no, .int .i64 0]
theorem kw85 : FP tbl 349 ka85 kr85 := FP_runO (l := [kn84]) (k := 3000) (by kernel_rfl)
def kn85 : Kn tbl := ⟨349, ka85, kr85, kw85⟩
def ka86 : List V := [.vs [[.int .i64 132, .int .i64 0, .int .i64 0, .int .u32 0], [.int .i64 132, .int .i64 0, .int .i64 0, .int .u32 0], [.int .i64 22, .int .i64 0, .int .i64 0, .int .u32 0]] .no]
def kr86 : V := .bool false
theorem kw86 : FP tbl 202 ka86 kr86 := FP_runO (l := []) (k := 3000) (by kernel_rfl)
def kn86 : Kn tbl := ⟨202, ka86, kr86, kw86⟩
def ka87 : List V := [.vs [[.int .i64 132, .int .i64 0, .int .i64 0, .int .u32 0], [.int .i64 132, .int .i64 0, .int .i64 0, .int .u32 0]] .no]
def kr87 : V := .bool true
theorem kw87 : FP tbl 202 ka87 kr87 := FP_runO (l := [kn84]) (k := 3000) (by kernel_rfl)
def kn87 : Kn tbl := ⟨202, ka87, kr87, kw87⟩
def ka88 : List V := [.vs [[.int .i64 132, .int .i64 0, .int .i64 0, .int .u32 0], [.int .i64 22, .int .i64 0, .int .i64 0, .int .u32 0]] .no]
def kr88 : V := .bool false
theorem kw88 : FP tbl 202 ka88 kr88 := FP_runO (l := []) (k := 3000) (by kernel_rfl)
def kn88 : Kn tbl := ⟨202, ka88, kr88, kw88⟩
def ka89 : List V := [.vs [[.int .i64 132, .int .i64 0, .int .i64 0, .int .u32 0], [.int .i64 132, .int .i64 0, .int .i64 0, .int .u32 0], [.int .i64 22, .int .i64 0, .int .i64 0, .int .u32 0]] .no, .int .i64 4]
def kr89 : V := .vs [[.int .i64 0, .int .i64 2]] .no
theorem kw89 : FP tbl 209 ka89 kr89 := FP_runO (l := [kn84, kn86, kn87, kn88]) (k := 3000) (by kernel_rfl)
def kn89 : Kn tbl := ⟨209, ka89, kr89, kw89⟩
def ka90 : List V := [.vs [[.int .i64 132, .int .i64 0, .int .i64 0, .int .u32 0], [.int .i64 132, .int .i64 0, .int .i64 0, .int .u32 0], [.int .i64 22, .int .i64 0, .int .i64 0, .int .u32 0]] .no, .int .i64 1]
def kr90 : V := .tup [.int .u32 1, .int .i64 0]
theorem kw90 : FP tbl 172 ka90 kr90 := FP_runO (l := [kn84]) (k := 3000) (by kernel_rfl)
def kn90 : Kn tbl := ⟨172, ka90, kr90, kw90⟩
def ka91 : List V := [.vs [[.int .i64 132, .int .i64 0, .int .i64 0, .int .u32 0], [.int .i64 22, .int .i64 0, .int .i64 0, .int .u32 0]] .no]
def kr91 : V := .bool true
theorem kw91 : FP tbl 157 ka91 kr91 := FP_runO (l := []) (k := 3000) (by kernel_rfl)
def kn91 : Kn tbl := ⟨157, ka91, kr91, kw91⟩
def ka92 : List V := [.vs [[.int .i64 132, .int .i64 0, .int .i64 0, .int .u32 0]] .no]
def kr92 : V := .bool true
theorem kw92 : FP tbl 202 ka92 kr92 := FP_runO (l := [kn91]) (k := 3000) (by kernel_rfl)
def kn92 : Kn tbl := ⟨202, ka92, kr92, kw92⟩
def ka93 : List V := [.agg [.int .u32 0, .int .u32 0, .int .u32 0, .int .u32 0, .int .u32 0, .int .u32 0, .int .u32 0, .int .u32 0, .int .u32 0, .int .u32 0, .int .u32 0, .int .u32 0, .int .u32 0, .int .u32 0, .int .u32 0, .int .u32 0, .int .u32 0, .int .u32 0, .int .u32 0, .int .u32 0, .int .u32 0, .int .u32 0, .int .u32 0, .int .u32 0, .int .u32 0, .int .u32 0, .int .u32 0, .int .u32 0, .int .u32 0, .int .u32 0, .int .u32 0, .int .u32 0, .int .u32 0, .int .u32 0, .int .u32 0], .agg [.int .u32 0, .int .u32 1, .int .u32 0, .int .u32 0, .int .u32 0, .int .u32 0, .int .u32 0, .int .u32 0, .int .u32 0, .int .u32 0, .int .u32 0, .int .u32 0, .int .u32 0, .int .u32 0, .int .u32 0, .int .u32 0, .int .u32 0, .int .u32 0, .int .u32 0, .int .u32 0, .int .u32 0, .int .u32 0, .int .u32 0, .int .u32 0, .int .u32 0, .int .u32 0, .int .u32 0, .int .u32 0, .int .u32 0, .int .u32 0, .int .u32 0, .int .u32 0, .int .u32 0, .int .u32 0, .int .u32 0]]
def kr93 : V := .agg [.int .u32 0, .int .u32 4294967295, .int .u32 0, .int .u32 0, .int .u32 0, .int .u32 0, .int .u32 0, .int .u32 0, .int .u32 0, .int .u32 0, .int .u32 0, .int .u32 0, .int .u32 0, .int .u32 0, .int .u32 0, .int .u32 0, .int .u32 0, .int .u32 0, .int .u32 0, .int .u32 0, .int .u32 0, .int .u32 0, .int .u32 0, .int .u32 0, .int .u32 0, .int .u32 0, .int .u32 0, .int .u32 0, .int .u32 0, .int .u32 0, .int .u32 0, .int .u32 0, .int .u32 0, .int .u32 0, .int .u32 0]
theorem kw93 : FP tbl 249 ka93 kr93 := FP_runO (l := []) (k := 3000) (by kernel_rfl)
def kn93 : Kn tbl := ⟨249, ka93, kr93, kw93⟩
def ka94 : List V := [.agg [.int .u32 0, .int .u32 0, .int .u32 0, .int .u32 0, .int .u32 0, .int .u32 0, .int .u32 0, .int .u32 0, .int .u32 0, .int .u32 0, .int .u32 0, .int .u32 0, .int .u32 0, .int .u32 0, .int .u32 0, .int .u32 0, .int .u32 0, .int .u32 0, .int .u32 0, .int .u32 0, .int .u32 0, .int .u32 0, .int .u32 0, .int .u32 0, .int .u32 0, .int .u32 0, .int .u32 0, .int .u32 0, .int .u32 0, .int .u32 0, .int .u32 0, .int .u32 0, .int .u32 0, .int .u32 0, .int .u32 0], .agg [.int .u32 0, .int .u32 4294967295, .int .u32 0, .int .u32 0, .int .u32 0, .int .u32 0, .int .u32 0, .int .u32 0, .int .u32 0, .int .u32 0, .int .u32 0, .int .u32 0, .int .u32 0, .int .u32 0, .int .u32 0, .int .u32 0, .int .u32 0, .int .u32 0, .int .u32 0, .int .u32 0, .int .u32 0, .int .u32 0, .int .u32 0, .int .u32 0, .int .u32 0, .int .u32 0, .int .u32 0, .int .u32 0, .int .u32 0, .int .u32 0, .int .u32 0, .int .u32 0, .int .u32 0, .int .u32 0, .int .u32 0]]
def kr94 : V := .agg [.int .u32 0, .int .u32 1, .int .u32 0, .int .u32 0, .int .u32 0, .int .u32 0, .int .u32 0, .int .u32 0, .int .u32 0, .int .u32 0, .int .u32 0, .int .u32 0, .int .u32 0, .int .u32 0, .int .u32 0, .int .u32 0, .int .u32 0, .int .u32 0, .int .u32 0, .int .u32 0, .int .u32 0, .int .u32 0, .int .u32 0, .int .u32 0, .int .u32 0, .int .u32 0, .int .u32 0, .int .u32 0, .int .u32 0, .int .u32 0, .int .u32 0, .int .u32 0, .int .u32 0, .int .u32 0, .int .u32 0]
theorem kw94 : FP tbl 249 ka94 kr94 := FP_runO (l := []) (k := 3000) (by kernel_rfl)
def kn94 : Kn tbl := ⟨249, ka94, kr94, kw94⟩
def ka95 : List V := [.vs [[.int .i64 132, .int .i64 0, .int .i64 0, .int .u32 0], [.int .i64 132, .int .i64 0, .int .i64 0, .int .u32 0]] .no]
def kr95 : V := .vs [[.int .u32 0], [.int .u32 4294967295]] .no
theorem kw95 : FP tbl 326 ka95 kr95 := FP_runO (l := [kn87, kn93, kn94]) (k := 3000) (by kernel_rfl)
def kn95 : Kn tbl := ⟨326, ka95, kr95, kw95⟩
def ka96 : List V := [.vs [[.int .i64 0, .int .i64 0, .int .i64 0, .int .u32 4294967295], [.int .i64 22, .int .i64 0, .int .i64 0, .int .u32 0]] .no]
def kr96 : V := .bool true
theorem kw96 : FP tbl 157 ka96 kr96 := FP_runO (l := []) (k := 3000) (by kernel_rfl)
def kn96 : Kn tbl := ⟨157, ka96, kr96, kw96⟩
def ka97 : List V := [.vs [[.int .i64 0, .int .i64 0, .int .i64 0, .int .u32 4294967295]] .no]
def kr97 : V := .bool true
theorem kw97 : FP tbl 202 ka97 kr97 := FP_runO (l := [kn96]) (k := 3000) (by kernel_rfl)
def kn97 : Kn tbl := ⟨202, ka97, kr97, kw97⟩
def ka98 : List V := [.vs [[.int .i64 1, .int .i64 0, .int .i64 0, .int .u32 4294967295], [.int .i64 22, .int .i64 0, .int .i64 0, .int .u32 0]] .no]
def kr98 : V := .bool true
theorem kw98 : FP tbl 157 ka98 kr98 := FP_runO (l := []) (k := 3000) (by kernel_rfl)
def kn98 : Kn tbl := ⟨157, ka98, kr98, kw98⟩
def ka99 : List V := [.vs [[.int .i64 1, .int .i64 0, .int .i64 0, .int .u32 4294967295]] .no]
def kr99 : V := .bool true
theorem kw99 : FP tbl 202 ka99 kr99 := FP_runO (l := [kn98]) (k := 3000) (by kernel_rfl)
def kn99 : Kn tbl := ⟨202, ka99, kr99, kw99⟩
def ka100 : List V := [.vs [[.int .i64 4, .int .i64 0, .int .i64 0, .int .u32 4294967295], [.int .i64 22, .int .i64 0, .int .i64 0, .int .u32 0]] .no]
def kr100 : V := .bool true
theorem kw100 : FP tbl 157 ka100 kr100 := FP_runO (l := []) (k := 3000) (by kernel_rfl)
def kn100 : Kn tbl := ⟨157, ka100, kr100, kw100⟩
def ka101 : List V := [.vs [[.int .i64 4, .int .i64 0, .int .i64 0, .int .u32 4294967295]] .no]
def kr101 : V := .bool true
theorem kw101 : FP tbl 202 ka101 kr101 := FP_runO (l := [kn100]) (k := 3000) (by kernel_rfl)
def kn101 : Kn tbl := ⟨202, ka101, kr101, kw101⟩
def ka102 : List V := [.vs [[.int .i64 84, .int .i64 0, .int .i64 0, .int .u32 4294967295], [.int .i64 22, .int .i64 0, .int .i64 0, .int .u32 0]] .no]
def kr102 : V := .bool true
theorem kw102 : FP tbl 157 ka102 kr102 := FP_runO (l := []) (k := 3000) (by kernel_rfl)
def kn102 : Kn tbl := ⟨157, ka102, kr102, kw102⟩
def ka103 : List V := [.vs [[.int .i64 84, .int .i64 0, .int .i64 0, .int .u32 4294967295]] .no]
def kr103 : V := .bool true
theorem kw103 : FP tbl 202 ka103 kr103 := FP_runO (l := [kn102]) (k := 3000) (by kernel_rfl)
def kn103 : Kn tbl := ⟨202, ka103, kr103, kw103⟩
def ka104 : List V := [.vs [[.int .i64 68, .int .i64 0, .int .i64 0, .int .u32 4294967295], [.int .i64 22, .int .i64 0, .int .i64 0, .int .u32 0]] .no]
def kr104 : V := .bool true
theorem kw104 : FP tbl 157 ka104 kr104 := FP_runO (l := []) (k := 3000) (by kernel_rfl)
def kn104 : Kn tbl := ⟨157, ka104, kr104, kw104⟩
def ka105 : List V := [.vs [[.int .i64 68, .int .i64 0, .int .i64 0, .int .u32 4294967295]] .no]
def kr105 : V := .bool true
theorem kw105 : FP tbl 202 ka105 kr105 := FP_runO (l := [kn104]) (k := 3000) (by kernel_rfl)
def kn105 : Kn tbl := ⟨202, ka105, kr105, kw105⟩
def ka106 : List V := [.vs [[.int .i64 164, .int .i64 0, .int .i64 0, .int .u32 4294967295], [.int .i64 22, .int .i64 0, .int .i64 0, .int .u32 0]] .no]
def kr106 : V := .bool true
theorem kw106 : FP tbl 157 ka106 kr106 := FP_runO (l := []) (k := 3000) (by kernel_rfl)
def kn106 : Kn tbl := ⟨157, ka106, kr106, kw106⟩
def ka107 : List V := [.vs [[.int .i64 164, .int .i64 0, .int .i64 0, .int .u32 4294967295]] .no]
def kr107 : V := .bool true
theorem kw107 : FP tbl 202 ka107 kr107 := FP_runO (l := [kn106]) (k := 3000) (by kernel_rfl)
def kn107 : Kn tbl := ⟨202, ka107, kr107, kw107⟩
def ka108 : List V := [.vs [[.int .i64 132, .int .i64 0, .int .i64 0, .int .u32 0], [.int .i64 132, .int .i64 0, .int .i64 0, .int .u32 0]] .no]
def kr108 : V := .tup [.vs [[.int .i64 132, .int .i64 0, .int .i64 0, .int .u32 0], [.int .i64 7, .int .i64 0, .int .i64 0, .int .u32 0], [.int .i64 135, .int .i64 0, .int .i64 0, .int .u32 0], [.int .i64 0, .int .i64 0, .int .i64 0, .int .u32 0], [.int .i64 1, .int .i64 0, .int .i64 0, .int .u32 0], [.int .i64 4, .int .i64 0, .int .i64 0, .int .u32 0], [.int .i64 84, .int .i64 0, .int .i64 0, .int .u32 0], [.int .i64 68, .int .i64 0, .int .i64 0, .int .u32 0], [.int .i64 164, .int .i64 0, .int .i64 0, .int .u32 0], [.int .i64 0, .int .i64 0, .int .i64 0, .int .u32 4294967295], [.int .i64 1, .int .i64 0, .int .i64 0, .int .u32 4294967295], [.int .i64 4, .int .i64 0, .int .i64 0, .int .u32 4294967295], [.int .i64 84, .int .i64 0, .int .i64 0, .int .u32 4294967295], [.int .i64 68, .int .i64 0, .int .i64 0, .int .u32 4294967295], [.int .i64 164, .int .i64 0, .int .i64 0, .int .u32 4294967295]] .no, .int .i64 0]
theorem kw108 : FP tbl 330 ka108 kr108 := FP_runO (l := [kn87, kn92, kn24, kn26, kn95, kn32, kn34, kn36, kn22, kn38, kn40, kn97, kn99, kn101, kn103, kn105, kn107]) (k := 3000) (by kernel_rfl)
def kn108 : Kn tbl := ⟨330, ka108, kr108, kw108⟩
end Go.Proofs.YtablmcdlcpphjaaGreatDoor
