/- Answers of calls of one closed run, computed one by one (2). -/
import Derived.Test.YtablmcdlcpphjaaGreatDoorKnTb1
set_option linter.unusedVariables false
set_option linter.unusedSimpArgs false
namespace Go.Proofs.YtablmcdlcpphjaaGreatDoor
open Go.Ev
set_option maxRecDepth 100000
def ka52 : List V := [.vs [[.int .i64 32, .int .i64 0, .int .i64 0, .int .u32 20], [.int .i64 84, .int .i64 0, .int .i64 0, .int .u32 0]] .no, .vs [] .no, .int .u32 1]
def kr52 : V := .tup [.agg [.int .i64 1, .int .u32 1, .int .u32 0, .int .u32 0, .int .u32 0, .int .u32 0, .int .u32 0, .int .u32 0, .int .u32 0, .int .u32 0, .int .u32 0, .int .u32 0, .int .u32 0, .int .u32 0, .int .u32 0, .int .u32 0, .int .u32 0, .int .u32 0, .int .u32 0, .int .u32 0, .int .u32 0, .int .u64 0, .int .u64 0, .int .u64 0, .int .u64 0, .int .u64 0, .int .u64 0, .int .u64 0], .int .i64 0]
theorem kw52 : FP tbl 312 ka52 kr52 := FP_runO (l := [kn9, kn27, kn28, kn29, kn43, kn46, kn51]) (k := 3000) (by kernel_rfl)
def kn52 : Kn tbl := ⟨312, ka52, kr52, kw52⟩
def ka53 : List V := [.agg [.int .u32 0, .int .u32 0, .int .u32 0, .int .u32 0, .int .u32 0, .int .u32 1, .int .u32 0, .int .u32 0, .int .u32 0, .int .u32 0, .int .u32 0, .int .u32 0, .int .u32 0, .int .u32 0, .int .u32 0, .int .u32 0]]
def kr53 : V := .agg [.int .u32 0, .int .u32 0, .int .u64 0, .int .u64 4294967296, .int .u64 0, .int .u64 0, .int .u64 0, .int .u64 0, .int .u64 0]
theorem kw53 : FP tbl 232 ka53 kr53 := FP_runO (l := []) (k := 3000) (by kernel_rfl)
def kn53 : Kn tbl := ⟨232, ka53, kr53, kw53⟩
def ka54 : List V := [.agg [.int .u32 0, .int .u32 0, .int .u64 0, .int .u64 4294967296, .int .u64 0, .int .u64 0, .int .u64 0, .int .u64 0, .int .u64 0]]
def kr54 : V := .agg [.int .u32 0, .int .u32 0, .int .u32 0, .int .u32 0, .int .u32 0, .int .u32 1, .int .u32 0, .int .u32 0, .int .u32 0, .int .u32 0, .int .u32 0, .int .u32 0, .int .u32 0, .int .u32 0, .int .u32 0, .int .u32 0]
theorem kw54 : FP tbl 160 ka54 kr54 := FP_runO (l := []) (k := 3000) (by kernel_rfl)
def kn54 : Kn tbl := ⟨160, ka54, kr54, kw54⟩
def ka55 : List V := [.agg [.int .u32 0, .int .u32 0, .int .u32 0, .int .u32 0, .int .u32 0, .int .u32 0, .int .u32 0, .int .u32 0, .int .u32 0, .int .u32 0, .int .u32 0, .int .u32 0, .int .u32 0, .int .u32 0, .int .u32 0, .int .u32 0, .int .u32 0, .int .u32 0, .int .u32 0, .int .u32 0, .int .u32 0, .int .u32 0, .int .u32 0, .int .u32 1, .int .u32 0, .int .u32 0, .int .u32 0, .int .u32 0, .int .u32 0, .int .u32 0, .int .u32 0, .int .u32 0, .int .u32 0, .int .u32 0]]
def kr55 : V := .tup [.agg [.int .u32 0, .int .u32 0, .int .u32 0, .int .u32 0, .int .u32 0, .int .u32 0, .int .u32 0, .int .u32 0, .int .u32 0, .int .u32 0, .int .u32 0, .int .u32 0, .int .u32 0, .int .u32 0, .int .u32 0, .int .u32 0, .int .u32 0, .int .u32 0], .agg [.int .u32 0, .int .u32 0, .int .u64 0, .int .u64 4294967296, .int .u64 0, .int .u64 0, .int .u64 0, .int .u64 0, .int .u64 0]]
theorem kw55 : FP tbl 294 ka55 kr55 := FP_runO (l := [kn44, kn45, kn53, kn54]) (k := 3000) (by kernel_rfl)
def kn55 : Kn tbl := ⟨294, ka55, kr55, kw55⟩
def ka56 : List V := [.vs [[.int .i64 32, .int .i64 0, .int .i64 0, .int .u32 20], [.int .i64 84, .int .i64 0, .int .i64 0, .int .u32 0]] .no, .agg [.int .u32 0, .int .u32 0, .int .u32 0, .int .u32 0, .int .u32 0, .int .u32 0, .int .u32 0, .int .u32 0, .int .u32 0, .int .u32 0, .int .u32 0, .int .u32 0, .int .u32 0, .int .u32 0, .int .u32 0, .int .u32 0, .int .u32 0, .int .u32 0], .agg [.int .u32 0, .int .u32 0, .int .u64 0, .int .u64 4294967296, .int .u64 0, .int .u64 0, .int .u64 0, .int .u64 0, .int .u64 0]]
def kr56 : V := .tup [.agg [.int .u32 0, .int .u32 0, .int .u32 0, .int .u32 0, .int .u32 0, .int .u32 0, .int .u32 0, .int .u32 0, .int .u32 0, .int .u32 0, .int .u32 0, .int .u32 0, .int .u32 0, .int .u32 0, .int .u32 0, .int .u32 0, .int .u32 0, .int .u32 0], .int .i64 2]
theorem kw56 : FP tbl 292 ka56 kr56 := FP_runO (l := [kn9, kn54]) (k := 3000) (by kernel_rfl)
def kn56 : Kn tbl := ⟨292, ka56, kr56, kw56⟩
def ka57 : List V := [.vs [[.int .i64 32, .int .i64 0, .int .i64 0, .int .u32 20]] .no, .agg [.int .u32 0, .int .u32 0, .int .u32 0, .int .u32 0, .int .u32 0, .int .u32 0, .int .u32 0, .int .u32 0, .int .u32 0, .int .u32 0, .int .u32 0, .int .u32 0, .int .u32 0, .int .u32 0, .int .u32 0, .int .u32 0, .int .u32 0, .int .u32 0], .agg [.int .u32 0, .int .u32 0, .int .u64 0, .int .u64 4294967296, .int .u64 0, .int .u64 0, .int .u64 0, .int .u64 0, .int .u64 0]]
def kr57 : V := .tup [.agg [.int .u32 1, .int .u32 0, .int .u32 0, .int .u32 0, .int .u32 0, .int .u32 0, .int .u32 0, .int .u32 0, .int .u32 0, .int .u32 0, .int .u32 0, .int .u32 0, .int .u32 0, .int .u32 0, .int .u32 0, .int .u32 0, .int .u32 0, .int .u32 0], .int .i64 1]
theorem kw57 : FP tbl 292 ka57 kr57 := FP_runO (l := [kn20, kn54]) (k := 3000) (by kernel_rfl)
def kn57 : Kn tbl := ⟨292, ka57, kr57, kw57⟩
def ka58 : List V := [.agg [.int .u32 0, .int .u32 0, .int .u32 0, .int .u32 0, .int .u32 0, .int .u32 0, .int .u32 0, .int .u32 0, .int .u32 0, .int .u32 0, .int .u32 0, .int .u32 0, .int .u32 0, .int .u32 0, .int .u32 0, .int .u32 0, .int .u32 0, .int .u32 0], .agg [.int .u32 0, .int .u32 0, .int .u64 0, .int .u64 4294967296, .int .u64 0, .int .u64 0, .int .u64 0, .int .u64 0, .int .u64 0]]
def kr58 : V := .agg [.int .u32 0, .int .u32 0, .int .u32 0, .int .u32 0, .int .u32 0, .int .u32 0, .int .u32 0, .int .u32 0, .int .u32 0, .int .u32 0, .int .u32 0, .int .u32 0, .int .u32 0, .int .u32 0, .int .u32 0, .int .u32 0, .int .u32 0, .int .u32 0, .int .u32 0, .int .u32 0, .int .u32 0, .int .u32 0, .int .u32 0, .int .u32 1, .int .u32 0, .int .u32 0, .int .u32 0, .int .u32 0, .int .u32 0, .int .u32 0, .int .u32 0, .int .u32 0, .int .u32 0, .int .u32 0]
theorem kw58 : FP tbl 293 ka58 kr58 := FP_runO (l := [kn54]) (k := 3000) (by kernel_rfl)
def kn58 : Kn tbl := ⟨293, ka58, kr58, kw58⟩
def ka59 : List V := [.agg [.int .u32 1, .int .u32 0, .int .u32 0, .int .u32 0, .int .u32 0, .int .u32 0, .int .u32 0, .int .u32 0, .int .u32 0, .int .u32 0, .int .u32 0, .int .u32 0, .int .u32 0, .int .u32 0, .int .u32 0, .int .u32 0, .int .u32 0, .int .u32 0], .agg [.int .u32 0, .int .u32 0, .int .u64 0, .int .u64 4294967296, .int .u64 0, .int .u64 0, .int .u64 0, .int .u64 0, .int .u64 0]]
def kr59 : V := .agg [.int .u32 1, .int .u32 0, .int .u32 0, .int .u32 0, .int .u32 0, .int .u32 0, .int .u32 0, .int .u32 0, .int .u32 0, .int .u32 0, .int .u32 0, .int .u32 0, .int .u32 0, .int .u32 0, .int .u32 0, .int .u32 0, .int .u32 0, .int .u32 0, .int .u32 0, .int .u32 0, .int .u32 0, .int .u32 0, .int .u32 0, .int .u32 1, .int .u32 0, .int .u32 0, .int .u32 0, .int .u32 0, .int .u32 0, .int .u32 0, .int .u32 0, .int .u32 0, .int .u32 0, .int .u32 0]
theorem kw59 : FP tbl 293 ka59 kr59 := FP_runO (l := [kn54]) (k := 3000) (by kernel_rfl)
def kn59 : Kn tbl := ⟨293, ka59, kr59, kw59⟩
def ka60 : List V := [.vs [[.int .i64 32, .int .i64 0, .int .i64 0, .int .u32 20], [.int .i64 84, .int .i64 0, .int .i64 0, .int .u32 0]] .no, .vs [[.int .i64 32, .int .i64 0, .int .i64 0, .int .u32 20]] .no, .int .u32 1, .agg [.int .u32 0, .int .u32 0, .int .u32 0, .int .u32 0, .int .u32 0, .int .u32 0, .int .u32 0, .int .u32 0, .int .u32 0, .int .u32 0, .int .u32 0, .int .u32 0, .int .u32 0, .int .u32 0, .int .u32 0, .int .u32 0, .int .u32 0, .int .u32 0], .agg [.int .u32 0, .int .u32 0, .int .u64 0, .int .u64 4294967296, .int .u64 0, .int .u64 0, .int .u64 0, .int .u64 0, .int .u64 0]]
def kr60 : V := .bool true
theorem kw60 : FP tbl 308 ka60 kr60 := FP_runO (l := [kn9, kn20, kn56, kn57, kn58, kn59]) (k := 3000) (by kernel_rfl)
def kn60 : Kn tbl := ⟨308, ka60, kr60, kw60⟩
def ka61 : List V := [.vs [[.int .i64 32, .int .i64 0, .int .i64 0, .int .u32 20], [.int .i64 84, .int .i64 0, .int .i64 0, .int .u32 0]] .no, .vs [[.int .i64 32, .int .i64 0, .int .i64 0, .int .u32 20]] .no, .int .u32 1]
def kr61 : V := .tup [.agg [.int .i64 1, .int .u32 0, .int .u32 0, .int .u32 0, .int .u32 0, .int .u32 0, .int .u32 0, .int .u32 0, .int .u32 0, .int .u32 0, .int .u32 0, .int .u32 0, .int .u32 0, .int .u32 0, .int .u32 0, .int .u32 0, .int .u32 0, .int .u32 0, .int .u32 0, .int .u32 0, .int .u32 0, .int .u64 0, .int .u64 4294967296, .int .u64 0, .int .u64 0, .int .u64 0, .int .u64 0, .int .u64 0], .int .i64 0]
theorem kw61 : FP tbl 312 ka61 kr61 := FP_runO (l := [kn9, kn27, kn28, kn29, kn20, kn55, kn60]) (k := 3000) (by kernel_rfl)
def kn61 : Kn tbl := ⟨312, ka61, kr61, kw61⟩
def ka62 : List V := [.agg [.int .u32 4294967295, .int .u32 0, .int .u32 0, .int .u32 0, .int .u32 0, .int .u32 0, .int .u32 0, .int .u32 0, .int .u32 0, .int .u32 0, .int .u32 0, .int .u32 0, .int .u32 0, .int .u32 0, .int .u32 0, .int .u32 0, .int .u32 0, .int .u32 0, .int .u32 0, .int .u32 0, .int .u32 0, .int .u32 0, .int .u32 0, .int .u32 0, .int .u32 0, .int .u32 0, .int .u32 0, .int .u32 0, .int .u32 0, .int .u32 0, .int .u32 0, .int .u32 0, .int .u32 0, .int .u32 0, .int .u32 0], .agg [.int .u32 0, .int .u32 1, .int .u32 0, .int .u32 0, .int .u32 0, .int .u32 0, .int .u32 0, .int .u32 0, .int .u32 0, .int .u32 0, .int .u32 0, .int .u32 0, .int .u32 0, .int .u32 0, .int .u32 0, .int .u32 0, .int .u32 0, .int .u32 0, .int .u32 0, .int .u32 0, .int .u32 0, .int .u32 0, .int .u32 0, .int .u32 0, .int .u32 0, .int .u32 0, .int .u32 0, .int .u32 0, .int .u32 0, .int .u32 0, .int .u32 0, .int .u32 0, .int .u32 0, .int .u32 0, .int .u32 0]]
def kr62 : V := .agg [.int .u32 4294967295, .int .u32 4294967295, .int .u32 0, .int .u32 0, .int .u32 0, .int .u32 0, .int .u32 0, .int .u32 0, .int .u32 0, .int .u32 0, .int .u32 0, .int .u32 0, .int .u32 0, .int .u32 0, .int .u32 0, .int .u32 0, .int .u32 0, .int .u32 0, .int .u32 0, .int .u32 0, .int .u32 0, .int .u32 0, .int .u32 0, .int .u32 0, .int .u32 0, .int .u32 0, .int .u32 0, .int .u32 0, .int .u32 0, .int .u32 0, .int .u32 0, .int .u32 0, .int .u32 0, .int .u32 0, .int .u32 0]
theorem kw62 : FP tbl 249 ka62 kr62 := FP_runO (l := []) (k := 3000) (by kernel_rfl)
def kn62 : Kn tbl := ⟨249, ka62, kr62, kw62⟩
def ka63 : List V := [.agg [.int .u32 0, .int .u32 1, .int .u32 0, .int .u32 0, .int .u32 0, .int .u32 0, .int .u32 0, .int .u32 0, .int .u32 0, .int .u32 0, .int .u32 0, .int .u32 0, .int .u32 0, .int .u32 0, .int .u32 0, .int .u32 0, .int .u32 0, .int .u32 0, .int .u32 0, .int .u32 0, .int .u32 0, .int .u32 0, .int .u32 0, .int .u32 0, .int .u32 0, .int .u32 0, .int .u32 0, .int .u32 0, .int .u32 0, .int .u32 0, .int .u32 0, .int .u32 0, .int .u32 0, .int .u32 0, .int .u32 0]]
def kr63 : V := .tup [.int .i64 0, .bool true]
theorem kw63 : FP tbl 254 ka63 kr63 := FP_runO (l := []) (k := 3000) (by kernel_rfl)
def kn63 : Kn tbl := ⟨254, ka63, kr63, kw63⟩
def ka64 : List V := [.int .i64 84, .agg [.vs [[.int .i64 0]] .no, .vs [[.int .u32 0], [.int .u32 4294967295]] .no], .agg [.vs [] .no, .vs [[.int .u32 0]] .no]]
def kr64 : V := .tup [.agg [.vs [] .no, .vs [[.int .u32 0]] .no], .bool true]
theorem kw64 : FP tbl 109 ka64 kr64 := FP_runO (l := []) (k := 3000) (by kernel_rfl)
def kn64 : Kn tbl := ⟨109, ka64, kr64, kw64⟩
end Go.Proofs.YtablmcdlcpphjaaGreatDoor
