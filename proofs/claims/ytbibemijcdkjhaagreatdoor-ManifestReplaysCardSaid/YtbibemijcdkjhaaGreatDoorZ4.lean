/- MADE BY A PROGRAM (mkfacts -/
import Derived.Test.YtbibemijcdkjhaaGreatDoorZ2
import Derived.Test.YtbibemijcdkjhaaGreatDoorRows
import Derived.KernelRfl
set_option linter.unusedSimpArgs false
set_option linter.unusedVariables false
namespace Go.Proofs.YtbibemijcdkjhaaGreatDoor
open Go.Am
@[simp] theorem k_ok3 : okT Tryz.prog 3 = true:=by kernel_rfl
@[simp] theorem k_agg3 : aggB Tryz.prog 3 = false:=by kernel_rfl
@[simp] theorem k_cells3 : Tryz.prog.cellsOf 3 = 1:=by kernel_rfl
@[simp] theorem k_bytes3 : Tryz.prog.bytesOf 3 = 8:=by kernel_rfl
@[simp] theorem k_zero3 : zeroAV Tryz.prog 3 = some (AV.v (Value.int IntKind.i64 0)):=by kernel_rfl
@[simp] theorem k_ok5 : okT Tryz.prog 5 = true:=by kernel_rfl
@[simp] theorem k_agg5 : aggB Tryz.prog 5 = false:=by kernel_rfl
@[simp] theorem k_cells5 : Tryz.prog.cellsOf 5 = 1:=by kernel_rfl
@[simp] theorem k_bytes5 : Tryz.prog.bytesOf 5 = 1:=by kernel_rfl
@[simp] theorem k_zero5 : zeroAV Tryz.prog 5 = some (AV.v (Value.int IntKind.u8 0)):=by kernel_rfl
@[simp] theorem k_ok9 : okT Tryz.prog 9 = true:=by kernel_rfl
@[simp] theorem k_agg9 : aggB Tryz.prog 9 = false:=by kernel_rfl
@[simp] theorem k_cells9 : Tryz.prog.cellsOf 9 = 1:=by kernel_rfl
@[simp] theorem k_bytes9 : Tryz.prog.bytesOf 9 = 16:=by kernel_rfl
@[simp] theorem k_zero9 : zeroAV Tryz.prog 9 = some (AV.v (Value.string { data:={ toList:=[] } })):=by kernel_rfl
@[simp] theorem k_agg22 : aggB Tryz.prog 22 = false:=by kernel_rfl
@[simp] theorem k_ok24 : okT Tryz.prog 24 = true:=by kernel_rfl
@[simp] theorem k_agg24 : aggB Tryz.prog 24 = false:=by kernel_rfl
@[simp] theorem k_cells24 : Tryz.prog.cellsOf 24 = 1:=by kernel_rfl
@[simp] theorem k_ok26 : okT Tryz.prog 26 = true:=by kernel_rfl
@[simp] theorem k_agg26 : aggB Tryz.prog 26 = true:=by kernel_rfl
@[simp] theorem k_cells26 : Tryz.prog.cellsOf 26 = 3:=by kernel_rfl
@[simp] theorem k_zero26 : zeroAV Tryz.prog 26 = some (AV.st [AV.v (Value.int IntKind.i64 0),AV.v (Value.int IntKind.i64 0),AV.v (Value.slice none 0 0)]):=by kernel_rfl
@[simp] theorem k_ok31 : okT Tryz.prog 31 = true:=by kernel_rfl
@[simp] theorem k_agg31 : aggB Tryz.prog 31 = false:=by kernel_rfl
@[simp] theorem k_cells31 : Tryz.prog.cellsOf 31 = 1:=by kernel_rfl
@[simp] theorem k_ok34 : okT Tryz.prog 34 = true:=by kernel_rfl
@[simp] theorem k_agg34 : aggB Tryz.prog 34 = false:=by kernel_rfl
@[simp] theorem k_cells34 : Tryz.prog.cellsOf 34 = 1:=by kernel_rfl
@[simp] theorem k_bytes34 : Tryz.prog.bytesOf 34 = 24:=by kernel_rfl
@[simp] theorem k_zero34 : zeroAV Tryz.prog 34 = some (AV.v (Value.slice none 0 0)):=by kernel_rfl
@[simp] theorem k_ok36 : okT Tryz.prog 36 = true:=by kernel_rfl
@[simp] theorem k_agg36 : aggB Tryz.prog 36 = true:=by kernel_rfl
@[simp] theorem k_cells36 : Tryz.prog.cellsOf 36 = 5:=by kernel_rfl
@[simp] theorem k_bytes36 : Tryz.prog.bytesOf 36 = 72:=by kernel_rfl
@[simp] theorem k_zero36 : zeroAV Tryz.prog 36 = some (AV.st [AV.v (Value.int IntKind.i64 0),AV.v (Value.int IntKind.i64 0),AV.v (Value.int IntKind.i64 0),AV.v (Value.slice none 0 0),AV.v (Value.slice none 0 0)]):=by kernel_rfl
@[simp] theorem k_ok39 : okT Tryz.prog 39 = true:=by kernel_rfl
@[simp] theorem k_agg39 : aggB Tryz.prog 39 = false:=by kernel_rfl
@[simp] theorem k_cells39 : Tryz.prog.cellsOf 39 = 1:=by kernel_rfl
@[simp] theorem k_ok44 : okT Tryz.prog 44 = true:=by kernel_rfl
@[simp] theorem k_agg44 : aggB Tryz.prog 44 = false:=by kernel_rfl
@[simp] theorem k_cells44 : Tryz.prog.cellsOf 44 = 1:=by kernel_rfl
@[simp] theorem k_ok45 : okT Tryz.prog 45 = true:=by kernel_rfl
@[simp] theorem k_agg45 : aggB Tryz.prog 45 = true:=by kernel_rfl
@[simp] theorem k_cells45 : Tryz.prog.cellsOf 45 = 6:=by kernel_rfl
@[simp] theorem k_ok47 : okT Tryz.prog 47 = true:=by kernel_rfl
@[simp] theorem k_agg47 : aggB Tryz.prog 47 = true:=by kernel_rfl
@[simp] theorem k_cells47 : Tryz.prog.cellsOf 47 = 10:=by kernel_rfl
@[simp] theorem k_ok51 : okT Tryz.prog 51 = true:=by kernel_rfl
@[simp] theorem k_agg51 : aggB Tryz.prog 51 = false:=by kernel_rfl
@[simp] theorem k_cells51 : Tryz.prog.cellsOf 51 = 1:=by kernel_rfl
@[simp] theorem k_zero51 : zeroAV Tryz.prog 51 = some (AV.v Value.nilFunc):=by kernel_rfl
@[simp] theorem k_ok68 : okT Tryz.prog 68 = true:=by kernel_rfl
@[simp] theorem k_agg68 : aggB Tryz.prog 68 = true:=by kernel_rfl
@[simp] theorem k_cells68 : Tryz.prog.cellsOf 68 = 6:=by kernel_rfl
@[simp] theorem k_zero68 : zeroAV Tryz.prog 68 = some (AV.st [AV.v (Value.int IntKind.i64 0),AV.v (Value.int IntKind.i64 0),AV.v (Value.int IntKind.i64 0),AV.v (Value.int IntKind.i64 0),AV.v (Value.int IntKind.i64 0),AV.v (Value.int IntKind.i64 0)]):=by kernel_rfl
@[simp] theorem k_ok70 : okT Tryz.prog 70 = true:=by kernel_rfl
@[simp] theorem k_agg70 : aggB Tryz.prog 70 = true:=by kernel_rfl
@[simp] theorem k_cells70 : Tryz.prog.cellsOf 70 = 9:=by kernel_rfl
@[simp] theorem k_bytes70 : Tryz.prog.bytesOf 70 = 72:=by kernel_rfl
@[simp] theorem k_eq70 : eqKinds Tryz.prog 70 = some [SK.i,SK.i,SK.i,SK.i,SK.i,SK.i,SK.i,SK.i,SK.i]:=by kernel_rfl
@[simp] theorem k_guard70 : Tryz.prog.eqGuardType Tryz.prog.depth 70 = false:=by kernel_rfl
@[simp] theorem k_zero70 : zeroAV Tryz.prog 70 = some (AV.st [AV.v (Value.int IntKind.i64 0),AV.v (Value.int IntKind.i64 0),AV.v (Value.int IntKind.i64 0),AV.v (Value.int IntKind.i64 0),AV.v (Value.int IntKind.i64 0),AV.v (Value.int IntKind.i64 0),AV.v (Value.int IntKind.i64 0),AV.v (Value.int IntKind.i64 0),AV.v (Value.int IntKind.i64 0)]):=by kernel_rfl
@[simp] theorem k_ok72 : okT Tryz.prog 72 = true:=by kernel_rfl
@[simp] theorem k_zero72 : zeroAV Tryz.prog 72 = some (AV.st [AV.v (Value.int IntKind.i64 0),AV.v (Value.slice none 0 0),AV.v (Value.int IntKind.i64 0)]):=by kernel_rfl
@[simp] theorem k_ok84 : okT Tryz.prog 84 = true:=by kernel_rfl
@[simp] theorem k_agg84 : aggB Tryz.prog 84 = false:=by kernel_rfl
@[simp] theorem k_cells84 : Tryz.prog.cellsOf 84 = 1:=by kernel_rfl
@[simp] theorem k_zero86 : zeroAV Tryz.prog 86 = some (AV.st [AV.v (Value.pointer none),AV.v (Value.slice none 0 0)]):=by kernel_rfl
@[simp] theorem k_ok110 : okT Tryz.prog 110 = true:=by kernel_rfl
@[simp] theorem k_ok139 : okT Tryz.prog 139 = true:=by kernel_rfl
@[simp] theorem k_ok150 : okT Tryz.prog 150 = true:=by kernel_rfl
@[simp] theorem k_zero150 : zeroAV Tryz.prog 150 = some (AV.st [AV.v (Value.int IntKind.i64 0),AV.v (Value.int IntKind.i64 0),AV.v (Value.int IntKind.i64 0),AV.v (Value.int IntKind.i64 0),AV.v (Value.int IntKind.i64 0),AV.v (Value.int IntKind.i64 0)]):=by kernel_rfl
attribute [simp] Tryz.underlying0 Tryz.underlying1 Tryz.underlying2 Tryz.underlying3 Tryz.underlying4 Tryz.underlying5 Tryz.underlying9
attribute [simp] Tryz.underlying22 Tryz.underlying23 Tryz.underlying24 Tryz.underlying25 Tryz.underlying26 Tryz.underlying27 Tryz.underlying28
attribute [simp] Tryz.underlying31 Tryz.underlying34 Tryz.underlying35 Tryz.underlying36 Tryz.underlying39
attribute [simp] Tryz.underlying44 Tryz.underlying45 Tryz.underlying46 Tryz.underlying47
attribute [simp] Tryz.underlying50 Tryz.underlying51 Tryz.underlying52 Tryz.underlying53 Tryz.underlying56
attribute [simp] Tryz.underlying63 Tryz.underlying67 Tryz.underlying68 Tryz.underlying69
attribute [simp] Tryz.underlying70 Tryz.underlying71 Tryz.underlying72
attribute [simp] Tryz.underlying81 Tryz.underlying83 Tryz.underlying84 Tryz.underlying85 Tryz.underlying86 Tryz.underlying89
attribute [simp] Tryz.underlying90 Tryz.underlying97
attribute [simp] Tryz.underlying104
attribute [simp] Tryz.underlying110 Tryz.underlying116 Tryz.underlying119
attribute [simp] Tryz.underlying122 Tryz.underlying123 Tryz.underlying124 Tryz.underlying126 Tryz.underlying129
attribute [simp] Tryz.underlying130 Tryz.underlying137 Tryz.underlying139
attribute [simp] Tryz.underlying141 Tryz.underlying147 Tryz.underlying148
attribute [simp] Tryz.underlying150 Tryz.underlying151 Tryz.underlying155
attribute [simp] Tryz.underlying164 Tryz.underlying166
attribute [simp] Tryz.underlying173 Tryz.underlying174
attribute [simp] Tryz.underlying187
theorem mixed : Tryz.prog.follows .mixedOrders = true:=by kernel_rfl
end Go.Proofs.YtbibemijcdkjhaaGreatDoor
