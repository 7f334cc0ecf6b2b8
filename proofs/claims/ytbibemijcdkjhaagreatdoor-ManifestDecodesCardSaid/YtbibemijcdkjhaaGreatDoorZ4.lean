/- MADE BY A PROGRAM (mkfacts.py): the facts of this seat's types that the abstract machine asks for. -/
import Derived.Test.YtbibemijcdkjhaaGreatDoorZ2
import Derived.Test.YtbibemijcdkjhaaGreatDoorRows
import Derived.KernelRfl
set_option linter.unusedSimpArgs false
set_option linter.unusedVariables false
namespace Go.Proofs.YtbibemijcdkjhaaGreatDoor
open Go.Am
@[simp] theorem k_ok0 : okT Tryz.prog 0 = true := by kernel_rfl
@[simp] theorem k_agg0 : aggB Tryz.prog 0 = false := by kernel_rfl
@[simp] theorem k_cells0 : Tryz.prog.cellsOf 0 = 1 := by kernel_rfl
@[simp] theorem k_bytes0 : Tryz.prog.bytesOf 0 = 0 := by kernel_rfl
@[simp] theorem k_eq0 : eqKinds Tryz.prog 0 = none := by kernel_rfl
@[simp] theorem k_guard0 : Tryz.prog.eqGuardType Tryz.prog.depth 0 = false := by kernel_rfl
@[simp] theorem k_zero0 : zeroAV Tryz.prog 0 = some (AV.tup []) := by kernel_rfl
@[simp] theorem k_ok1 : okT Tryz.prog 1 = true := by kernel_rfl
@[simp] theorem k_agg1 : aggB Tryz.prog 1 = false := by kernel_rfl
@[simp] theorem k_cells1 : Tryz.prog.cellsOf 1 = 1 := by kernel_rfl
@[simp] theorem k_bytes1 : Tryz.prog.bytesOf 1 = 8 := by kernel_rfl
@[simp] theorem k_eq1 : eqKinds Tryz.prog 1 = none := by kernel_rfl
@[simp] theorem k_guard1 : Tryz.prog.eqGuardType Tryz.prog.depth 1 = false := by kernel_rfl
@[simp] theorem k_zero1 : zeroAV Tryz.prog 1 = some (AV.v Value.nilFunc) := by kernel_rfl
@[simp] theorem k_ok2 : okT Tryz.prog 2 = true := by kernel_rfl
@[simp] theorem k_agg2 : aggB Tryz.prog 2 = false := by kernel_rfl
@[simp] theorem k_cells2 : Tryz.prog.cellsOf 2 = 1 := by kernel_rfl
@[simp] theorem k_bytes2 : Tryz.prog.bytesOf 2 = 8 := by kernel_rfl
@[simp] theorem k_eq2 : eqKinds Tryz.prog 2 = some [SK.i] := by kernel_rfl
@[simp] theorem k_guard2 : Tryz.prog.eqGuardType Tryz.prog.depth 2 = false := by kernel_rfl
@[simp] theorem k_zero2 : zeroAV Tryz.prog 2 = some (AV.v (Value.int IntKind.i64 0)) := by kernel_rfl
@[simp] theorem k_ok3 : okT Tryz.prog 3 = true := by kernel_rfl
@[simp] theorem k_agg3 : aggB Tryz.prog 3 = false := by kernel_rfl
@[simp] theorem k_cells3 : Tryz.prog.cellsOf 3 = 1 := by kernel_rfl
@[simp] theorem k_bytes3 : Tryz.prog.bytesOf 3 = 8 := by kernel_rfl
@[simp] theorem k_eq3 : eqKinds Tryz.prog 3 = some [SK.i] := by kernel_rfl
@[simp] theorem k_guard3 : Tryz.prog.eqGuardType Tryz.prog.depth 3 = false := by kernel_rfl
@[simp] theorem k_zero3 : zeroAV Tryz.prog 3 = some (AV.v (Value.int IntKind.i64 0)) := by kernel_rfl
@[simp] theorem k_ok4 : okT Tryz.prog 4 = true := by kernel_rfl
@[simp] theorem k_agg4 : aggB Tryz.prog 4 = false := by kernel_rfl
@[simp] theorem k_cells4 : Tryz.prog.cellsOf 4 = 1 := by kernel_rfl
@[simp] theorem k_bytes4 : Tryz.prog.bytesOf 4 = 1 := by kernel_rfl
@[simp] theorem k_eq4 : eqKinds Tryz.prog 4 = some [SK.b] := by kernel_rfl
@[simp] theorem k_guard4 : Tryz.prog.eqGuardType Tryz.prog.depth 4 = false := by kernel_rfl
@[simp] theorem k_zero4 : zeroAV Tryz.prog 4 = some (AV.v (Value.bool false)) := by kernel_rfl
@[simp] theorem k_ok5 : okT Tryz.prog 5 = true := by kernel_rfl
@[simp] theorem k_agg5 : aggB Tryz.prog 5 = false := by kernel_rfl
@[simp] theorem k_cells5 : Tryz.prog.cellsOf 5 = 1 := by kernel_rfl
@[simp] theorem k_bytes5 : Tryz.prog.bytesOf 5 = 1 := by kernel_rfl
@[simp] theorem k_eq5 : eqKinds Tryz.prog 5 = some [SK.i] := by kernel_rfl
@[simp] theorem k_guard5 : Tryz.prog.eqGuardType Tryz.prog.depth 5 = false := by kernel_rfl
@[simp] theorem k_zero5 : zeroAV Tryz.prog 5 = some (AV.v (Value.int IntKind.u8 0)) := by kernel_rfl
@[simp] theorem k_ok9 : okT Tryz.prog 9 = true := by kernel_rfl
@[simp] theorem k_agg9 : aggB Tryz.prog 9 = false := by kernel_rfl
@[simp] theorem k_cells9 : Tryz.prog.cellsOf 9 = 1 := by kernel_rfl
@[simp] theorem k_bytes9 : Tryz.prog.bytesOf 9 = 16 := by kernel_rfl
@[simp] theorem k_eq9 : eqKinds Tryz.prog 9 = some [SK.s] := by kernel_rfl
@[simp] theorem k_guard9 : Tryz.prog.eqGuardType Tryz.prog.depth 9 = false := by kernel_rfl
@[simp] theorem k_zero9 : zeroAV Tryz.prog 9 = some (AV.v (Value.string { data := { toList := [] } })) := by kernel_rfl
@[simp] theorem k_ok22 : okT Tryz.prog 22 = true := by kernel_rfl
@[simp] theorem k_agg22 : aggB Tryz.prog 22 = false := by kernel_rfl
@[simp] theorem k_cells22 : Tryz.prog.cellsOf 22 = 1 := by kernel_rfl
@[simp] theorem k_bytes22 : Tryz.prog.bytesOf 22 = 24 := by kernel_rfl
@[simp] theorem k_eq22 : eqKinds Tryz.prog 22 = none := by kernel_rfl
@[simp] theorem k_guard22 : Tryz.prog.eqGuardType Tryz.prog.depth 22 = false := by kernel_rfl
@[simp] theorem k_zero22 : zeroAV Tryz.prog 22 = some (AV.v (Value.slice none 0 0)) := by kernel_rfl
@[simp] theorem k_ok23 : okT Tryz.prog 23 = true := by kernel_rfl
@[simp] theorem k_agg23 : aggB Tryz.prog 23 = false := by kernel_rfl
@[simp] theorem k_cells23 : Tryz.prog.cellsOf 23 = 1 := by kernel_rfl
@[simp] theorem k_bytes23 : Tryz.prog.bytesOf 23 = 8 := by kernel_rfl
@[simp] theorem k_eq23 : eqKinds Tryz.prog 23 = none := by kernel_rfl
@[simp] theorem k_guard23 : Tryz.prog.eqGuardType Tryz.prog.depth 23 = false := by kernel_rfl
@[simp] theorem k_zero23 : zeroAV Tryz.prog 23 = some (AV.v (Value.pointer none)) := by kernel_rfl
@[simp] theorem k_ok24 : okT Tryz.prog 24 = true := by kernel_rfl
@[simp] theorem k_agg24 : aggB Tryz.prog 24 = false := by kernel_rfl
@[simp] theorem k_cells24 : Tryz.prog.cellsOf 24 = 1 := by kernel_rfl
@[simp] theorem k_bytes24 : Tryz.prog.bytesOf 24 = 24 := by kernel_rfl
@[simp] theorem k_eq24 : eqKinds Tryz.prog 24 = none := by kernel_rfl
@[simp] theorem k_guard24 : Tryz.prog.eqGuardType Tryz.prog.depth 24 = false := by kernel_rfl
@[simp] theorem k_zero24 : zeroAV Tryz.prog 24 = some (AV.v (Value.slice none 0 0)) := by kernel_rfl
@[simp] theorem k_ok25 : okT Tryz.prog 25 = true := by kernel_rfl
@[simp] theorem k_agg25 : aggB Tryz.prog 25 = true := by kernel_rfl
@[simp] theorem k_cells25 : Tryz.prog.cellsOf 25 = 3 := by kernel_rfl
@[simp] theorem k_bytes25 : Tryz.prog.bytesOf 25 = 40 := by kernel_rfl
@[simp] theorem k_eq25 : eqKinds Tryz.prog 25 = none := by kernel_rfl
@[simp] theorem k_guard25 : Tryz.prog.eqGuardType Tryz.prog.depth 25 = false := by kernel_rfl
@[simp] theorem k_zero25 : zeroAV Tryz.prog 25 = some (AV.st [AV.v (Value.int IntKind.i64 0), AV.v (Value.int IntKind.i64 0), AV.v (Value.slice none 0 0)]) := by kernel_rfl
@[simp] theorem k_ok26 : okT Tryz.prog 26 = true := by kernel_rfl
@[simp] theorem k_agg26 : aggB Tryz.prog 26 = true := by kernel_rfl
@[simp] theorem k_cells26 : Tryz.prog.cellsOf 26 = 3 := by kernel_rfl
@[simp] theorem k_bytes26 : Tryz.prog.bytesOf 26 = 40 := by kernel_rfl
@[simp] theorem k_eq26 : eqKinds Tryz.prog 26 = none := by kernel_rfl
@[simp] theorem k_guard26 : Tryz.prog.eqGuardType Tryz.prog.depth 26 = false := by kernel_rfl
@[simp] theorem k_zero26 : zeroAV Tryz.prog 26 = some (AV.st [AV.v (Value.int IntKind.i64 0), AV.v (Value.int IntKind.i64 0), AV.v (Value.slice none 0 0)]) := by kernel_rfl
@[simp] theorem k_ok27 : okT Tryz.prog 27 = true := by kernel_rfl
@[simp] theorem k_agg27 : aggB Tryz.prog 27 = false := by kernel_rfl
@[simp] theorem k_cells27 : Tryz.prog.cellsOf 27 = 1 := by kernel_rfl
@[simp] theorem k_bytes27 : Tryz.prog.bytesOf 27 = 24 := by kernel_rfl
@[simp] theorem k_eq27 : eqKinds Tryz.prog 27 = none := by kernel_rfl
@[simp] theorem k_guard27 : Tryz.prog.eqGuardType Tryz.prog.depth 27 = false := by kernel_rfl
@[simp] theorem k_zero27 : zeroAV Tryz.prog 27 = some (AV.v (Value.slice none 0 0)) := by kernel_rfl
@[simp] theorem k_ok28 : okT Tryz.prog 28 = true := by kernel_rfl
@[simp] theorem k_agg28 : aggB Tryz.prog 28 = false := by kernel_rfl
@[simp] theorem k_cells28 : Tryz.prog.cellsOf 28 = 1 := by kernel_rfl
@[simp] theorem k_bytes28 : Tryz.prog.bytesOf 28 = 0 := by kernel_rfl
@[simp] theorem k_eq28 : eqKinds Tryz.prog 28 = none := by kernel_rfl
@[simp] theorem k_guard28 : Tryz.prog.eqGuardType Tryz.prog.depth 28 = false := by kernel_rfl
@[simp] theorem k_zero28 : zeroAV Tryz.prog 28 = some AV.u := by kernel_rfl
@[simp] theorem k_ok31 : okT Tryz.prog 31 = true := by kernel_rfl
@[simp] theorem k_agg31 : aggB Tryz.prog 31 = false := by kernel_rfl
@[simp] theorem k_cells31 : Tryz.prog.cellsOf 31 = 1 := by kernel_rfl
@[simp] theorem k_bytes31 : Tryz.prog.bytesOf 31 = 24 := by kernel_rfl
@[simp] theorem k_eq31 : eqKinds Tryz.prog 31 = none := by kernel_rfl
@[simp] theorem k_guard31 : Tryz.prog.eqGuardType Tryz.prog.depth 31 = false := by kernel_rfl
@[simp] theorem k_zero31 : zeroAV Tryz.prog 31 = some (AV.v (Value.slice none 0 0)) := by kernel_rfl
@[simp] theorem k_ok34 : okT Tryz.prog 34 = true := by kernel_rfl
@[simp] theorem k_agg34 : aggB Tryz.prog 34 = false := by kernel_rfl
@[simp] theorem k_cells34 : Tryz.prog.cellsOf 34 = 1 := by kernel_rfl
@[simp] theorem k_bytes34 : Tryz.prog.bytesOf 34 = 24 := by kernel_rfl
@[simp] theorem k_eq34 : eqKinds Tryz.prog 34 = none := by kernel_rfl
@[simp] theorem k_guard34 : Tryz.prog.eqGuardType Tryz.prog.depth 34 = false := by kernel_rfl
@[simp] theorem k_zero34 : zeroAV Tryz.prog 34 = some (AV.v (Value.slice none 0 0)) := by kernel_rfl
@[simp] theorem k_ok35 : okT Tryz.prog 35 = true := by kernel_rfl
@[simp] theorem k_agg35 : aggB Tryz.prog 35 = true := by kernel_rfl
@[simp] theorem k_cells35 : Tryz.prog.cellsOf 35 = 5 := by kernel_rfl
@[simp] theorem k_bytes35 : Tryz.prog.bytesOf 35 = 72 := by kernel_rfl
@[simp] theorem k_eq35 : eqKinds Tryz.prog 35 = none := by kernel_rfl
@[simp] theorem k_guard35 : Tryz.prog.eqGuardType Tryz.prog.depth 35 = false := by kernel_rfl
@[simp] theorem k_zero35 : zeroAV Tryz.prog 35 = some (AV.st [AV.v (Value.int IntKind.i64 0), AV.v (Value.int IntKind.i64 0), AV.v (Value.int IntKind.i64 0), AV.v (Value.slice none 0 0), AV.v (Value.slice none 0 0)]) := by kernel_rfl
@[simp] theorem k_ok36 : okT Tryz.prog 36 = true := by kernel_rfl
@[simp] theorem k_agg36 : aggB Tryz.prog 36 = true := by kernel_rfl
@[simp] theorem k_cells36 : Tryz.prog.cellsOf 36 = 5 := by kernel_rfl
@[simp] theorem k_bytes36 : Tryz.prog.bytesOf 36 = 72 := by kernel_rfl
@[simp] theorem k_eq36 : eqKinds Tryz.prog 36 = none := by kernel_rfl
@[simp] theorem k_guard36 : Tryz.prog.eqGuardType Tryz.prog.depth 36 = false := by kernel_rfl
@[simp] theorem k_zero36 : zeroAV Tryz.prog 36 = some (AV.st [AV.v (Value.int IntKind.i64 0), AV.v (Value.int IntKind.i64 0), AV.v (Value.int IntKind.i64 0), AV.v (Value.slice none 0 0), AV.v (Value.slice none 0 0)]) := by kernel_rfl
@[simp] theorem k_ok39 : okT Tryz.prog 39 = true := by kernel_rfl
@[simp] theorem k_agg39 : aggB Tryz.prog 39 = false := by kernel_rfl
@[simp] theorem k_cells39 : Tryz.prog.cellsOf 39 = 1 := by kernel_rfl
@[simp] theorem k_bytes39 : Tryz.prog.bytesOf 39 = 8 := by kernel_rfl
@[simp] theorem k_eq39 : eqKinds Tryz.prog 39 = some [SK.i] := by kernel_rfl
@[simp] theorem k_guard39 : Tryz.prog.eqGuardType Tryz.prog.depth 39 = false := by kernel_rfl
@[simp] theorem k_zero39 : zeroAV Tryz.prog 39 = some (AV.v (Value.int IntKind.i64 0)) := by kernel_rfl
@[simp] theorem k_ok44 : okT Tryz.prog 44 = true := by kernel_rfl
@[simp] theorem k_agg44 : aggB Tryz.prog 44 = false := by kernel_rfl
@[simp] theorem k_cells44 : Tryz.prog.cellsOf 44 = 1 := by kernel_rfl
@[simp] theorem k_bytes44 : Tryz.prog.bytesOf 44 = 1 := by kernel_rfl
@[simp] theorem k_eq44 : eqKinds Tryz.prog 44 = some [SK.i] := by kernel_rfl
@[simp] theorem k_guard44 : Tryz.prog.eqGuardType Tryz.prog.depth 44 = false := by kernel_rfl
@[simp] theorem k_zero44 : zeroAV Tryz.prog 44 = some (AV.v (Value.int IntKind.i8 0)) := by kernel_rfl
@[simp] theorem k_ok45 : okT Tryz.prog 45 = true := by kernel_rfl
@[simp] theorem k_agg45 : aggB Tryz.prog 45 = true := by kernel_rfl
@[simp] theorem k_cells45 : Tryz.prog.cellsOf 45 = 6 := by kernel_rfl
@[simp] theorem k_bytes45 : Tryz.prog.bytesOf 45 = 6 := by kernel_rfl
@[simp] theorem k_eq45 : eqKinds Tryz.prog 45 = none := by kernel_rfl
@[simp] theorem k_guard45 : Tryz.prog.eqGuardType Tryz.prog.depth 45 = false := by kernel_rfl
@[simp] theorem k_zero45 : zeroAV Tryz.prog 45 = some (AV.st [AV.v (Value.int IntKind.i8 0), AV.v (Value.int IntKind.i8 0), AV.v (Value.int IntKind.i8 0), AV.v (Value.int IntKind.i8 0), AV.v (Value.int IntKind.i8 0), AV.v (Value.int IntKind.i8 0)]) := by kernel_rfl
@[simp] theorem k_ok46 : okT Tryz.prog 46 = true := by kernel_rfl
@[simp] theorem k_agg46 : aggB Tryz.prog 46 = true := by kernel_rfl
@[simp] theorem k_cells46 : Tryz.prog.cellsOf 46 = 10 := by kernel_rfl
@[simp] theorem k_bytes46 : Tryz.prog.bytesOf 46 = 10 := by kernel_rfl
@[simp] theorem k_eq46 : eqKinds Tryz.prog 46 = none := by kernel_rfl
@[simp] theorem k_guard46 : Tryz.prog.eqGuardType Tryz.prog.depth 46 = false := by kernel_rfl
@[simp] theorem k_zero46 : zeroAV Tryz.prog 46 = some (AV.st [AV.v (Value.int IntKind.u8 0), AV.v (Value.int IntKind.u8 0), AV.v (Value.int IntKind.u8 0), AV.v (Value.int IntKind.u8 0), AV.v (Value.int IntKind.i8 0), AV.v (Value.int IntKind.i8 0), AV.v (Value.int IntKind.i8 0), AV.v (Value.int IntKind.i8 0), AV.v (Value.int IntKind.i8 0), AV.v (Value.int IntKind.i8 0)]) := by kernel_rfl
@[simp] theorem k_ok47 : okT Tryz.prog 47 = true := by kernel_rfl
@[simp] theorem k_agg47 : aggB Tryz.prog 47 = true := by kernel_rfl
@[simp] theorem k_cells47 : Tryz.prog.cellsOf 47 = 10 := by kernel_rfl
@[simp] theorem k_bytes47 : Tryz.prog.bytesOf 47 = 10 := by kernel_rfl
@[simp] theorem k_eq47 : eqKinds Tryz.prog 47 = none := by kernel_rfl
@[simp] theorem k_guard47 : Tryz.prog.eqGuardType Tryz.prog.depth 47 = false := by kernel_rfl
@[simp] theorem k_zero47 : zeroAV Tryz.prog 47 = some (AV.st [AV.v (Value.int IntKind.u8 0), AV.v (Value.int IntKind.u8 0), AV.v (Value.int IntKind.u8 0), AV.v (Value.int IntKind.u8 0), AV.v (Value.int IntKind.i8 0), AV.v (Value.int IntKind.i8 0), AV.v (Value.int IntKind.i8 0), AV.v (Value.int IntKind.i8 0), AV.v (Value.int IntKind.i8 0), AV.v (Value.int IntKind.i8 0)]) := by kernel_rfl
@[simp] theorem k_ok50 : okT Tryz.prog 50 = true := by kernel_rfl
@[simp] theorem k_agg50 : aggB Tryz.prog 50 = false := by kernel_rfl
@[simp] theorem k_cells50 : Tryz.prog.cellsOf 50 = 1 := by kernel_rfl
@[simp] theorem k_bytes50 : Tryz.prog.bytesOf 50 = 8 := by kernel_rfl
@[simp] theorem k_eq50 : eqKinds Tryz.prog 50 = none := by kernel_rfl
@[simp] theorem k_guard50 : Tryz.prog.eqGuardType Tryz.prog.depth 50 = false := by kernel_rfl
@[simp] theorem k_zero50 : zeroAV Tryz.prog 50 = some (AV.v Value.nilFunc) := by kernel_rfl
@[simp] theorem k_ok51 : okT Tryz.prog 51 = true := by kernel_rfl
@[simp] theorem k_agg51 : aggB Tryz.prog 51 = false := by kernel_rfl
@[simp] theorem k_cells51 : Tryz.prog.cellsOf 51 = 1 := by kernel_rfl
@[simp] theorem k_bytes51 : Tryz.prog.bytesOf 51 = 8 := by kernel_rfl
@[simp] theorem k_eq51 : eqKinds Tryz.prog 51 = none := by kernel_rfl
@[simp] theorem k_guard51 : Tryz.prog.eqGuardType Tryz.prog.depth 51 = false := by kernel_rfl
@[simp] theorem k_zero51 : zeroAV Tryz.prog 51 = some (AV.v Value.nilFunc) := by kernel_rfl
@[simp] theorem k_ok52 : okT Tryz.prog 52 = true := by kernel_rfl
@[simp] theorem k_agg52 : aggB Tryz.prog 52 = false := by kernel_rfl
@[simp] theorem k_cells52 : Tryz.prog.cellsOf 52 = 1 := by kernel_rfl
@[simp] theorem k_bytes52 : Tryz.prog.bytesOf 52 = 0 := by kernel_rfl
@[simp] theorem k_eq52 : eqKinds Tryz.prog 52 = none := by kernel_rfl
@[simp] theorem k_guard52 : Tryz.prog.eqGuardType Tryz.prog.depth 52 = false := by kernel_rfl
@[simp] theorem k_zero52 : zeroAV Tryz.prog 52 = some AV.u := by kernel_rfl
@[simp] theorem k_ok53 : okT Tryz.prog 53 = true := by kernel_rfl
@[simp] theorem k_agg53 : aggB Tryz.prog 53 = false := by kernel_rfl
@[simp] theorem k_cells53 : Tryz.prog.cellsOf 53 = 1 := by kernel_rfl
@[simp] theorem k_bytes53 : Tryz.prog.bytesOf 53 = 8 := by kernel_rfl
@[simp] theorem k_eq53 : eqKinds Tryz.prog 53 = none := by kernel_rfl
@[simp] theorem k_guard53 : Tryz.prog.eqGuardType Tryz.prog.depth 53 = false := by kernel_rfl
@[simp] theorem k_zero53 : zeroAV Tryz.prog 53 = some (AV.v Value.nilFunc) := by kernel_rfl
@[simp] theorem k_ok56 : okT Tryz.prog 56 = true := by kernel_rfl
@[simp] theorem k_agg56 : aggB Tryz.prog 56 = false := by kernel_rfl
@[simp] theorem k_cells56 : Tryz.prog.cellsOf 56 = 1 := by kernel_rfl
@[simp] theorem k_bytes56 : Tryz.prog.bytesOf 56 = 8 := by kernel_rfl
@[simp] theorem k_eq56 : eqKinds Tryz.prog 56 = none := by kernel_rfl
@[simp] theorem k_guard56 : Tryz.prog.eqGuardType Tryz.prog.depth 56 = false := by kernel_rfl
@[simp] theorem k_zero56 : zeroAV Tryz.prog 56 = some (AV.v Value.nilFunc) := by kernel_rfl
@[simp] theorem k_ok63 : okT Tryz.prog 63 = true := by kernel_rfl
@[simp] theorem k_agg63 : aggB Tryz.prog 63 = false := by kernel_rfl
@[simp] theorem k_cells63 : Tryz.prog.cellsOf 63 = 1 := by kernel_rfl
@[simp] theorem k_bytes63 : Tryz.prog.bytesOf 63 = 8 := by kernel_rfl
@[simp] theorem k_eq63 : eqKinds Tryz.prog 63 = none := by kernel_rfl
@[simp] theorem k_guard63 : Tryz.prog.eqGuardType Tryz.prog.depth 63 = false := by kernel_rfl
@[simp] theorem k_zero63 : zeroAV Tryz.prog 63 = some (AV.v Value.nilFunc) := by kernel_rfl
@[simp] theorem k_ok67 : okT Tryz.prog 67 = true := by kernel_rfl
@[simp] theorem k_agg67 : aggB Tryz.prog 67 = true := by kernel_rfl
@[simp] theorem k_cells67 : Tryz.prog.cellsOf 67 = 6 := by kernel_rfl
@[simp] theorem k_bytes67 : Tryz.prog.bytesOf 67 = 48 := by kernel_rfl
@[simp] theorem k_eq67 : eqKinds Tryz.prog 67 = some [SK.i, SK.i, SK.i, SK.i, SK.i, SK.i] := by kernel_rfl
@[simp] theorem k_guard67 : Tryz.prog.eqGuardType Tryz.prog.depth 67 = false := by kernel_rfl
@[simp] theorem k_zero67 : zeroAV Tryz.prog 67 = some (AV.st [AV.v (Value.int IntKind.i64 0), AV.v (Value.int IntKind.i64 0), AV.v (Value.int IntKind.i64 0), AV.v (Value.int IntKind.i64 0), AV.v (Value.int IntKind.i64 0), AV.v (Value.int IntKind.i64 0)]) := by kernel_rfl
@[simp] theorem k_ok68 : okT Tryz.prog 68 = true := by kernel_rfl
@[simp] theorem k_agg68 : aggB Tryz.prog 68 = true := by kernel_rfl
@[simp] theorem k_cells68 : Tryz.prog.cellsOf 68 = 6 := by kernel_rfl
@[simp] theorem k_bytes68 : Tryz.prog.bytesOf 68 = 48 := by kernel_rfl
@[simp] theorem k_eq68 : eqKinds Tryz.prog 68 = some [SK.i, SK.i, SK.i, SK.i, SK.i, SK.i] := by kernel_rfl
@[simp] theorem k_guard68 : Tryz.prog.eqGuardType Tryz.prog.depth 68 = false := by kernel_rfl
@[simp] theorem k_zero68 : zeroAV Tryz.prog 68 = some (AV.st [AV.v (Value.int IntKind.i64 0), AV.v (Value.int IntKind.i64 0), AV.v (Value.int IntKind.i64 0), AV.v (Value.int IntKind.i64 0), AV.v (Value.int IntKind.i64 0), AV.v (Value.int IntKind.i64 0)]) := by kernel_rfl
@[simp] theorem k_ok69 : okT Tryz.prog 69 = true := by kernel_rfl
@[simp] theorem k_agg69 : aggB Tryz.prog 69 = true := by kernel_rfl
@[simp] theorem k_cells69 : Tryz.prog.cellsOf 69 = 9 := by kernel_rfl
@[simp] theorem k_bytes69 : Tryz.prog.bytesOf 69 = 72 := by kernel_rfl
@[simp] theorem k_eq69 : eqKinds Tryz.prog 69 = some [SK.i, SK.i, SK.i, SK.i, SK.i, SK.i, SK.i, SK.i, SK.i] := by kernel_rfl
@[simp] theorem k_guard69 : Tryz.prog.eqGuardType Tryz.prog.depth 69 = false := by kernel_rfl
@[simp] theorem k_zero69 : zeroAV Tryz.prog 69 = some (AV.st [AV.v (Value.int IntKind.i64 0), AV.v (Value.int IntKind.i64 0), AV.v (Value.int IntKind.i64 0), AV.v (Value.int IntKind.i64 0), AV.v (Value.int IntKind.i64 0), AV.v (Value.int IntKind.i64 0), AV.v (Value.int IntKind.i64 0), AV.v (Value.int IntKind.i64 0), AV.v (Value.int IntKind.i64 0)]) := by kernel_rfl
@[simp] theorem k_ok70 : okT Tryz.prog 70 = true := by kernel_rfl
@[simp] theorem k_agg70 : aggB Tryz.prog 70 = true := by kernel_rfl
@[simp] theorem k_cells70 : Tryz.prog.cellsOf 70 = 9 := by kernel_rfl
@[simp] theorem k_bytes70 : Tryz.prog.bytesOf 70 = 72 := by kernel_rfl
@[simp] theorem k_eq70 : eqKinds Tryz.prog 70 = some [SK.i, SK.i, SK.i, SK.i, SK.i, SK.i, SK.i, SK.i, SK.i] := by kernel_rfl
@[simp] theorem k_guard70 : Tryz.prog.eqGuardType Tryz.prog.depth 70 = false := by kernel_rfl
@[simp] theorem k_zero70 : zeroAV Tryz.prog 70 = some (AV.st [AV.v (Value.int IntKind.i64 0), AV.v (Value.int IntKind.i64 0), AV.v (Value.int IntKind.i64 0), AV.v (Value.int IntKind.i64 0), AV.v (Value.int IntKind.i64 0), AV.v (Value.int IntKind.i64 0), AV.v (Value.int IntKind.i64 0), AV.v (Value.int IntKind.i64 0), AV.v (Value.int IntKind.i64 0)]) := by kernel_rfl
@[simp] theorem k_ok71 : okT Tryz.prog 71 = true := by kernel_rfl
@[simp] theorem k_agg71 : aggB Tryz.prog 71 = true := by kernel_rfl
@[simp] theorem k_cells71 : Tryz.prog.cellsOf 71 = 3 := by kernel_rfl
@[simp] theorem k_bytes71 : Tryz.prog.bytesOf 71 = 40 := by kernel_rfl
@[simp] theorem k_eq71 : eqKinds Tryz.prog 71 = none := by kernel_rfl
@[simp] theorem k_guard71 : Tryz.prog.eqGuardType Tryz.prog.depth 71 = false := by kernel_rfl
@[simp] theorem k_zero71 : zeroAV Tryz.prog 71 = some (AV.st [AV.v (Value.int IntKind.i64 0), AV.v (Value.slice none 0 0), AV.v (Value.int IntKind.i64 0)]) := by kernel_rfl
@[simp] theorem k_ok72 : okT Tryz.prog 72 = true := by kernel_rfl
@[simp] theorem k_agg72 : aggB Tryz.prog 72 = true := by kernel_rfl
@[simp] theorem k_cells72 : Tryz.prog.cellsOf 72 = 3 := by kernel_rfl
@[simp] theorem k_bytes72 : Tryz.prog.bytesOf 72 = 40 := by kernel_rfl
@[simp] theorem k_eq72 : eqKinds Tryz.prog 72 = none := by kernel_rfl
@[simp] theorem k_guard72 : Tryz.prog.eqGuardType Tryz.prog.depth 72 = false := by kernel_rfl
@[simp] theorem k_zero72 : zeroAV Tryz.prog 72 = some (AV.st [AV.v (Value.int IntKind.i64 0), AV.v (Value.slice none 0 0), AV.v (Value.int IntKind.i64 0)]) := by kernel_rfl
@[simp] theorem k_ok81 : okT Tryz.prog 81 = true := by kernel_rfl
@[simp] theorem k_agg81 : aggB Tryz.prog 81 = false := by kernel_rfl
@[simp] theorem k_cells81 : Tryz.prog.cellsOf 81 = 1 := by kernel_rfl
@[simp] theorem k_bytes81 : Tryz.prog.bytesOf 81 = 0 := by kernel_rfl
@[simp] theorem k_eq81 : eqKinds Tryz.prog 81 = none := by kernel_rfl
@[simp] theorem k_guard81 : Tryz.prog.eqGuardType Tryz.prog.depth 81 = false := by kernel_rfl
@[simp] theorem k_zero81 : zeroAV Tryz.prog 81 = some AV.u := by kernel_rfl
@[simp] theorem k_ok83 : okT Tryz.prog 83 = true := by kernel_rfl
@[simp] theorem k_agg83 : aggB Tryz.prog 83 = false := by kernel_rfl
@[simp] theorem k_cells83 : Tryz.prog.cellsOf 83 = 1 := by kernel_rfl
@[simp] theorem k_bytes83 : Tryz.prog.bytesOf 83 = 8 := by kernel_rfl
@[simp] theorem k_eq83 : eqKinds Tryz.prog 83 = none := by kernel_rfl
@[simp] theorem k_guard83 : Tryz.prog.eqGuardType Tryz.prog.depth 83 = false := by kernel_rfl
@[simp] theorem k_zero83 : zeroAV Tryz.prog 83 = some (AV.v (Value.pointer none)) := by kernel_rfl
@[simp] theorem k_ok84 : okT Tryz.prog 84 = true := by kernel_rfl
@[simp] theorem k_agg84 : aggB Tryz.prog 84 = false := by kernel_rfl
@[simp] theorem k_cells84 : Tryz.prog.cellsOf 84 = 1 := by kernel_rfl
@[simp] theorem k_bytes84 : Tryz.prog.bytesOf 84 = 24 := by kernel_rfl
@[simp] theorem k_eq84 : eqKinds Tryz.prog 84 = none := by kernel_rfl
@[simp] theorem k_guard84 : Tryz.prog.eqGuardType Tryz.prog.depth 84 = false := by kernel_rfl
@[simp] theorem k_zero84 : zeroAV Tryz.prog 84 = some (AV.v (Value.slice none 0 0)) := by kernel_rfl
@[simp] theorem k_ok85 : okT Tryz.prog 85 = true := by kernel_rfl
@[simp] theorem k_agg85 : aggB Tryz.prog 85 = true := by kernel_rfl
@[simp] theorem k_cells85 : Tryz.prog.cellsOf 85 = 2 := by kernel_rfl
@[simp] theorem k_bytes85 : Tryz.prog.bytesOf 85 = 32 := by kernel_rfl
@[simp] theorem k_eq85 : eqKinds Tryz.prog 85 = none := by kernel_rfl
@[simp] theorem k_guard85 : Tryz.prog.eqGuardType Tryz.prog.depth 85 = false := by kernel_rfl
@[simp] theorem k_zero85 : zeroAV Tryz.prog 85 = some (AV.st [AV.v (Value.pointer none), AV.v (Value.slice none 0 0)]) := by kernel_rfl
@[simp] theorem k_ok86 : okT Tryz.prog 86 = true := by kernel_rfl
@[simp] theorem k_agg86 : aggB Tryz.prog 86 = true := by kernel_rfl
@[simp] theorem k_cells86 : Tryz.prog.cellsOf 86 = 2 := by kernel_rfl
@[simp] theorem k_bytes86 : Tryz.prog.bytesOf 86 = 32 := by kernel_rfl
@[simp] theorem k_eq86 : eqKinds Tryz.prog 86 = none := by kernel_rfl
@[simp] theorem k_guard86 : Tryz.prog.eqGuardType Tryz.prog.depth 86 = false := by kernel_rfl
@[simp] theorem k_zero86 : zeroAV Tryz.prog 86 = some (AV.st [AV.v (Value.pointer none), AV.v (Value.slice none 0 0)]) := by kernel_rfl
@[simp] theorem k_ok89 : okT Tryz.prog 89 = true := by kernel_rfl
@[simp] theorem k_agg89 : aggB Tryz.prog 89 = false := by kernel_rfl
@[simp] theorem k_cells89 : Tryz.prog.cellsOf 89 = 1 := by kernel_rfl
@[simp] theorem k_bytes89 : Tryz.prog.bytesOf 89 = 16 := by kernel_rfl
@[simp] theorem k_eq89 : eqKinds Tryz.prog 89 = none := by kernel_rfl
@[simp] theorem k_guard89 : Tryz.prog.eqGuardType Tryz.prog.depth 89 = true := by kernel_rfl
@[simp] theorem k_zero89 : zeroAV Tryz.prog 89 = some (AV.v Value.nilIface) := by kernel_rfl
@[simp] theorem k_ok90 : okT Tryz.prog 90 = true := by kernel_rfl
@[simp] theorem k_agg90 : aggB Tryz.prog 90 = false := by kernel_rfl
@[simp] theorem k_cells90 : Tryz.prog.cellsOf 90 = 1 := by kernel_rfl
@[simp] theorem k_bytes90 : Tryz.prog.bytesOf 90 = 0 := by kernel_rfl
@[simp] theorem k_eq90 : eqKinds Tryz.prog 90 = none := by kernel_rfl
@[simp] theorem k_guard90 : Tryz.prog.eqGuardType Tryz.prog.depth 90 = false := by kernel_rfl
@[simp] theorem k_zero90 : zeroAV Tryz.prog 90 = some AV.u := by kernel_rfl
@[simp] theorem k_ok97 : okT Tryz.prog 97 = true := by kernel_rfl
@[simp] theorem k_agg97 : aggB Tryz.prog 97 = false := by kernel_rfl
@[simp] theorem k_cells97 : Tryz.prog.cellsOf 97 = 1 := by kernel_rfl
@[simp] theorem k_bytes97 : Tryz.prog.bytesOf 97 = 0 := by kernel_rfl
@[simp] theorem k_eq97 : eqKinds Tryz.prog 97 = none := by kernel_rfl
@[simp] theorem k_guard97 : Tryz.prog.eqGuardType Tryz.prog.depth 97 = false := by kernel_rfl
@[simp] theorem k_zero97 : zeroAV Tryz.prog 97 = some AV.u := by kernel_rfl
@[simp] theorem k_ok104 : okT Tryz.prog 104 = true := by kernel_rfl
@[simp] theorem k_agg104 : aggB Tryz.prog 104 = false := by kernel_rfl
@[simp] theorem k_cells104 : Tryz.prog.cellsOf 104 = 1 := by kernel_rfl
@[simp] theorem k_bytes104 : Tryz.prog.bytesOf 104 = 24 := by kernel_rfl
@[simp] theorem k_eq104 : eqKinds Tryz.prog 104 = none := by kernel_rfl
@[simp] theorem k_guard104 : Tryz.prog.eqGuardType Tryz.prog.depth 104 = false := by kernel_rfl
@[simp] theorem k_zero104 : zeroAV Tryz.prog 104 = some (AV.v (Value.slice none 0 0)) := by kernel_rfl
@[simp] theorem k_ok110 : okT Tryz.prog 110 = true := by kernel_rfl
@[simp] theorem k_agg110 : aggB Tryz.prog 110 = false := by kernel_rfl
@[simp] theorem k_cells110 : Tryz.prog.cellsOf 110 = 1 := by kernel_rfl
@[simp] theorem k_bytes110 : Tryz.prog.bytesOf 110 = 8 := by kernel_rfl
@[simp] theorem k_eq110 : eqKinds Tryz.prog 110 = some [SK.i] := by kernel_rfl
@[simp] theorem k_guard110 : Tryz.prog.eqGuardType Tryz.prog.depth 110 = false := by kernel_rfl
@[simp] theorem k_zero110 : zeroAV Tryz.prog 110 = some (AV.v (Value.int IntKind.u64 0)) := by kernel_rfl
@[simp] theorem k_ok116 : okT Tryz.prog 116 = true := by kernel_rfl
@[simp] theorem k_agg116 : aggB Tryz.prog 116 = false := by kernel_rfl
@[simp] theorem k_cells116 : Tryz.prog.cellsOf 116 = 1 := by kernel_rfl
@[simp] theorem k_bytes116 : Tryz.prog.bytesOf 116 = 8 := by kernel_rfl
@[simp] theorem k_eq116 : eqKinds Tryz.prog 116 = none := by kernel_rfl
@[simp] theorem k_guard116 : Tryz.prog.eqGuardType Tryz.prog.depth 116 = false := by kernel_rfl
@[simp] theorem k_zero116 : zeroAV Tryz.prog 116 = some (AV.v (Value.pointer none)) := by kernel_rfl
@[simp] theorem k_ok119 : okT Tryz.prog 119 = true := by kernel_rfl
@[simp] theorem k_agg119 : aggB Tryz.prog 119 = false := by kernel_rfl
@[simp] theorem k_cells119 : Tryz.prog.cellsOf 119 = 1 := by kernel_rfl
@[simp] theorem k_bytes119 : Tryz.prog.bytesOf 119 = 8 := by kernel_rfl
@[simp] theorem k_eq119 : eqKinds Tryz.prog 119 = none := by kernel_rfl
@[simp] theorem k_guard119 : Tryz.prog.eqGuardType Tryz.prog.depth 119 = false := by kernel_rfl
@[simp] theorem k_zero119 : zeroAV Tryz.prog 119 = some (AV.v Value.nilFunc) := by kernel_rfl
@[simp] theorem k_ok122 : okT Tryz.prog 122 = true := by kernel_rfl
@[simp] theorem k_agg122 : aggB Tryz.prog 122 = false := by kernel_rfl
@[simp] theorem k_cells122 : Tryz.prog.cellsOf 122 = 1 := by kernel_rfl
@[simp] theorem k_bytes122 : Tryz.prog.bytesOf 122 = 8 := by kernel_rfl
@[simp] theorem k_eq122 : eqKinds Tryz.prog 122 = none := by kernel_rfl
@[simp] theorem k_guard122 : Tryz.prog.eqGuardType Tryz.prog.depth 122 = false := by kernel_rfl
@[simp] theorem k_zero122 : zeroAV Tryz.prog 122 = some (AV.v Value.nilFunc) := by kernel_rfl
@[simp] theorem k_ok123 : okT Tryz.prog 123 = true := by kernel_rfl
@[simp] theorem k_agg123 : aggB Tryz.prog 123 = false := by kernel_rfl
@[simp] theorem k_cells123 : Tryz.prog.cellsOf 123 = 1 := by kernel_rfl
@[simp] theorem k_bytes123 : Tryz.prog.bytesOf 123 = 8 := by kernel_rfl
@[simp] theorem k_eq123 : eqKinds Tryz.prog 123 = none := by kernel_rfl
@[simp] theorem k_guard123 : Tryz.prog.eqGuardType Tryz.prog.depth 123 = false := by kernel_rfl
@[simp] theorem k_zero123 : zeroAV Tryz.prog 123 = some (AV.v Value.nilFunc) := by kernel_rfl
@[simp] theorem k_ok124 : okT Tryz.prog 124 = true := by kernel_rfl
@[simp] theorem k_agg124 : aggB Tryz.prog 124 = false := by kernel_rfl
@[simp] theorem k_cells124 : Tryz.prog.cellsOf 124 = 1 := by kernel_rfl
@[simp] theorem k_bytes124 : Tryz.prog.bytesOf 124 = 8 := by kernel_rfl
@[simp] theorem k_eq124 : eqKinds Tryz.prog 124 = none := by kernel_rfl
@[simp] theorem k_guard124 : Tryz.prog.eqGuardType Tryz.prog.depth 124 = false := by kernel_rfl
@[simp] theorem k_zero124 : zeroAV Tryz.prog 124 = some (AV.v Value.nilFunc) := by kernel_rfl
@[simp] theorem k_ok126 : okT Tryz.prog 126 = true := by kernel_rfl
@[simp] theorem k_agg126 : aggB Tryz.prog 126 = false := by kernel_rfl
@[simp] theorem k_cells126 : Tryz.prog.cellsOf 126 = 1 := by kernel_rfl
@[simp] theorem k_bytes126 : Tryz.prog.bytesOf 126 = 8 := by kernel_rfl
@[simp] theorem k_eq126 : eqKinds Tryz.prog 126 = none := by kernel_rfl
@[simp] theorem k_guard126 : Tryz.prog.eqGuardType Tryz.prog.depth 126 = false := by kernel_rfl
@[simp] theorem k_zero126 : zeroAV Tryz.prog 126 = some (AV.v Value.nilFunc) := by kernel_rfl
@[simp] theorem k_ok129 : okT Tryz.prog 129 = true := by kernel_rfl
@[simp] theorem k_agg129 : aggB Tryz.prog 129 = false := by kernel_rfl
@[simp] theorem k_cells129 : Tryz.prog.cellsOf 129 = 1 := by kernel_rfl
@[simp] theorem k_bytes129 : Tryz.prog.bytesOf 129 = 8 := by kernel_rfl
@[simp] theorem k_eq129 : eqKinds Tryz.prog 129 = some [SK.i] := by kernel_rfl
@[simp] theorem k_guard129 : Tryz.prog.eqGuardType Tryz.prog.depth 129 = false := by kernel_rfl
@[simp] theorem k_zero129 : zeroAV Tryz.prog 129 = some (AV.v (Value.int IntKind.i64 0)) := by kernel_rfl
@[simp] theorem k_ok130 : okT Tryz.prog 130 = true := by kernel_rfl
@[simp] theorem k_agg130 : aggB Tryz.prog 130 = false := by kernel_rfl
@[simp] theorem k_cells130 : Tryz.prog.cellsOf 130 = 1 := by kernel_rfl
@[simp] theorem k_bytes130 : Tryz.prog.bytesOf 130 = 0 := by kernel_rfl
@[simp] theorem k_eq130 : eqKinds Tryz.prog 130 = none := by kernel_rfl
@[simp] theorem k_guard130 : Tryz.prog.eqGuardType Tryz.prog.depth 130 = false := by kernel_rfl
@[simp] theorem k_zero130 : zeroAV Tryz.prog 130 = some AV.u := by kernel_rfl
@[simp] theorem k_ok137 : okT Tryz.prog 137 = true := by kernel_rfl
@[simp] theorem k_agg137 : aggB Tryz.prog 137 = false := by kernel_rfl
@[simp] theorem k_cells137 : Tryz.prog.cellsOf 137 = 1 := by kernel_rfl
@[simp] theorem k_bytes137 : Tryz.prog.bytesOf 137 = 4 := by kernel_rfl
@[simp] theorem k_eq137 : eqKinds Tryz.prog 137 = some [SK.i] := by kernel_rfl
@[simp] theorem k_guard137 : Tryz.prog.eqGuardType Tryz.prog.depth 137 = false := by kernel_rfl
@[simp] theorem k_zero137 : zeroAV Tryz.prog 137 = some (AV.v (Value.int IntKind.u32 0)) := by kernel_rfl
@[simp] theorem k_ok139 : okT Tryz.prog 139 = true := by kernel_rfl
@[simp] theorem k_agg139 : aggB Tryz.prog 139 = false := by kernel_rfl
@[simp] theorem k_cells139 : Tryz.prog.cellsOf 139 = 1 := by kernel_rfl
@[simp] theorem k_bytes139 : Tryz.prog.bytesOf 139 = 8 := by kernel_rfl
@[simp] theorem k_eq139 : eqKinds Tryz.prog 139 = some [SK.i] := by kernel_rfl
@[simp] theorem k_guard139 : Tryz.prog.eqGuardType Tryz.prog.depth 139 = false := by kernel_rfl
@[simp] theorem k_zero139 : zeroAV Tryz.prog 139 = some (AV.v (Value.int IntKind.u64 0)) := by kernel_rfl
@[simp] theorem k_ok141 : okT Tryz.prog 141 = true := by kernel_rfl
@[simp] theorem k_agg141 : aggB Tryz.prog 141 = false := by kernel_rfl
@[simp] theorem k_cells141 : Tryz.prog.cellsOf 141 = 1 := by kernel_rfl
@[simp] theorem k_bytes141 : Tryz.prog.bytesOf 141 = 8 := by kernel_rfl
@[simp] theorem k_eq141 : eqKinds Tryz.prog 141 = none := by kernel_rfl
@[simp] theorem k_guard141 : Tryz.prog.eqGuardType Tryz.prog.depth 141 = false := by kernel_rfl
@[simp] theorem k_zero141 : zeroAV Tryz.prog 141 = some (AV.v (Value.pointer none)) := by kernel_rfl
@[simp] theorem k_ok147 : okT Tryz.prog 147 = true := by kernel_rfl
@[simp] theorem k_agg147 : aggB Tryz.prog 147 = false := by kernel_rfl
@[simp] theorem k_cells147 : Tryz.prog.cellsOf 147 = 1 := by kernel_rfl
@[simp] theorem k_bytes147 : Tryz.prog.bytesOf 147 = 8 := by kernel_rfl
@[simp] theorem k_eq147 : eqKinds Tryz.prog 147 = none := by kernel_rfl
@[simp] theorem k_guard147 : Tryz.prog.eqGuardType Tryz.prog.depth 147 = false := by kernel_rfl
@[simp] theorem k_zero147 : zeroAV Tryz.prog 147 = some (AV.v Value.nilFunc) := by kernel_rfl
@[simp] theorem k_ok148 : okT Tryz.prog 148 = true := by kernel_rfl
@[simp] theorem k_agg148 : aggB Tryz.prog 148 = false := by kernel_rfl
@[simp] theorem k_cells148 : Tryz.prog.cellsOf 148 = 1 := by kernel_rfl
@[simp] theorem k_bytes148 : Tryz.prog.bytesOf 148 = 8 := by kernel_rfl
@[simp] theorem k_eq148 : eqKinds Tryz.prog 148 = none := by kernel_rfl
@[simp] theorem k_guard148 : Tryz.prog.eqGuardType Tryz.prog.depth 148 = false := by kernel_rfl
@[simp] theorem k_zero148 : zeroAV Tryz.prog 148 = some (AV.v Value.nilFunc) := by kernel_rfl
@[simp] theorem k_ok150 : okT Tryz.prog 150 = true := by kernel_rfl
@[simp] theorem k_agg150 : aggB Tryz.prog 150 = true := by kernel_rfl
@[simp] theorem k_cells150 : Tryz.prog.cellsOf 150 = 6 := by kernel_rfl
@[simp] theorem k_bytes150 : Tryz.prog.bytesOf 150 = 48 := by kernel_rfl
@[simp] theorem k_eq150 : eqKinds Tryz.prog 150 = none := by kernel_rfl
@[simp] theorem k_guard150 : Tryz.prog.eqGuardType Tryz.prog.depth 150 = false := by kernel_rfl
@[simp] theorem k_zero150 : zeroAV Tryz.prog 150 = some (AV.st [AV.v (Value.int IntKind.i64 0), AV.v (Value.int IntKind.i64 0), AV.v (Value.int IntKind.i64 0), AV.v (Value.int IntKind.i64 0), AV.v (Value.int IntKind.i64 0), AV.v (Value.int IntKind.i64 0)]) := by kernel_rfl
@[simp] theorem k_ok151 : okT Tryz.prog 151 = true := by kernel_rfl
@[simp] theorem k_agg151 : aggB Tryz.prog 151 = false := by kernel_rfl
@[simp] theorem k_cells151 : Tryz.prog.cellsOf 151 = 1 := by kernel_rfl
@[simp] theorem k_bytes151 : Tryz.prog.bytesOf 151 = 8 := by kernel_rfl
@[simp] theorem k_eq151 : eqKinds Tryz.prog 151 = some [SK.i] := by kernel_rfl
@[simp] theorem k_guard151 : Tryz.prog.eqGuardType Tryz.prog.depth 151 = false := by kernel_rfl
@[simp] theorem k_zero151 : zeroAV Tryz.prog 151 = some (AV.v (Value.int IntKind.u64 0)) := by kernel_rfl
@[simp] theorem k_ok155 : okT Tryz.prog 155 = true := by kernel_rfl
@[simp] theorem k_agg155 : aggB Tryz.prog 155 = false := by kernel_rfl
@[simp] theorem k_cells155 : Tryz.prog.cellsOf 155 = 1 := by kernel_rfl
@[simp] theorem k_bytes155 : Tryz.prog.bytesOf 155 = 8 := by kernel_rfl
@[simp] theorem k_eq155 : eqKinds Tryz.prog 155 = none := by kernel_rfl
@[simp] theorem k_guard155 : Tryz.prog.eqGuardType Tryz.prog.depth 155 = false := by kernel_rfl
@[simp] theorem k_zero155 : zeroAV Tryz.prog 155 = some (AV.v (Value.pointer none)) := by kernel_rfl
@[simp] theorem k_ok164 : okT Tryz.prog 164 = true := by kernel_rfl
@[simp] theorem k_agg164 : aggB Tryz.prog 164 = true := by kernel_rfl
@[simp] theorem k_cells164 : Tryz.prog.cellsOf 164 = 24 := by kernel_rfl
@[simp] theorem k_bytes164 : Tryz.prog.bytesOf 164 = 24 := by kernel_rfl
@[simp] theorem k_eq164 : eqKinds Tryz.prog 164 = none := by kernel_rfl
@[simp] theorem k_guard164 : Tryz.prog.eqGuardType Tryz.prog.depth 164 = false := by kernel_rfl
@[simp] theorem k_zero164 : zeroAV Tryz.prog 164 = some (AV.st [AV.v (Value.int IntKind.u8 0), AV.v (Value.int IntKind.u8 0), AV.v (Value.int IntKind.u8 0), AV.v (Value.int IntKind.u8 0), AV.v (Value.int IntKind.u8 0), AV.v (Value.int IntKind.u8 0), AV.v (Value.int IntKind.u8 0), AV.v (Value.int IntKind.u8 0), AV.v (Value.int IntKind.u8 0), AV.v (Value.int IntKind.u8 0), AV.v (Value.int IntKind.u8 0), AV.v (Value.int IntKind.u8 0), AV.v (Value.int IntKind.u8 0), AV.v (Value.int IntKind.u8 0), AV.v (Value.int IntKind.u8 0), AV.v (Value.int IntKind.u8 0), AV.v (Value.int IntKind.u8 0), AV.v (Value.int IntKind.u8 0), AV.v (Value.int IntKind.u8 0), AV.v (Value.int IntKind.u8 0), AV.v (Value.int IntKind.u8 0), AV.v (Value.int IntKind.u8 0), AV.v (Value.int IntKind.u8 0), AV.v (Value.int IntKind.u8 0)]) := by kernel_rfl
@[simp] theorem k_ok166 : okT Tryz.prog 166 = true := by kernel_rfl
@[simp] theorem k_agg166 : aggB Tryz.prog 166 = false := by kernel_rfl
@[simp] theorem k_cells166 : Tryz.prog.cellsOf 166 = 1 := by kernel_rfl
@[simp] theorem k_bytes166 : Tryz.prog.bytesOf 166 = 0 := by kernel_rfl
@[simp] theorem k_eq166 : eqKinds Tryz.prog 166 = none := by kernel_rfl
@[simp] theorem k_guard166 : Tryz.prog.eqGuardType Tryz.prog.depth 166 = false := by kernel_rfl
@[simp] theorem k_zero166 : zeroAV Tryz.prog 166 = some AV.u := by kernel_rfl
@[simp] theorem k_ok173 : okT Tryz.prog 173 = true := by kernel_rfl
@[simp] theorem k_agg173 : aggB Tryz.prog 173 = false := by kernel_rfl
@[simp] theorem k_cells173 : Tryz.prog.cellsOf 173 = 1 := by kernel_rfl
@[simp] theorem k_bytes173 : Tryz.prog.bytesOf 173 = 8 := by kernel_rfl
@[simp] theorem k_eq173 : eqKinds Tryz.prog 173 = none := by kernel_rfl
@[simp] theorem k_guard173 : Tryz.prog.eqGuardType Tryz.prog.depth 173 = false := by kernel_rfl
@[simp] theorem k_zero173 : zeroAV Tryz.prog 173 = some (AV.v (Value.pointer none)) := by kernel_rfl
@[simp] theorem k_ok174 : okT Tryz.prog 174 = true := by kernel_rfl
@[simp] theorem k_agg174 : aggB Tryz.prog 174 = false := by kernel_rfl
@[simp] theorem k_cells174 : Tryz.prog.cellsOf 174 = 1 := by kernel_rfl
@[simp] theorem k_bytes174 : Tryz.prog.bytesOf 174 = 0 := by kernel_rfl
@[simp] theorem k_eq174 : eqKinds Tryz.prog 174 = none := by kernel_rfl
@[simp] theorem k_guard174 : Tryz.prog.eqGuardType Tryz.prog.depth 174 = false := by kernel_rfl
@[simp] theorem k_zero174 : zeroAV Tryz.prog 174 = some AV.u := by kernel_rfl
@[simp] theorem k_ok187 : okT Tryz.prog 187 = true := by kernel_rfl
@[simp] theorem k_agg187 : aggB Tryz.prog 187 = false := by kernel_rfl
@[simp] theorem k_cells187 : Tryz.prog.cellsOf 187 = 1 := by kernel_rfl
@[simp] theorem k_bytes187 : Tryz.prog.bytesOf 187 = 8 := by kernel_rfl
@[simp] theorem k_eq187 : eqKinds Tryz.prog 187 = none := by kernel_rfl
@[simp] theorem k_guard187 : Tryz.prog.eqGuardType Tryz.prog.depth 187 = false := by kernel_rfl
@[simp] theorem k_zero187 : zeroAV Tryz.prog 187 = some (AV.v Value.nilFunc) := by kernel_rfl
attribute [simp] Tryz.underlying0 Tryz.underlying1 Tryz.underlying2 Tryz.underlying3 Tryz.underlying4 Tryz.underlying5 Tryz.underlying9
attribute [simp] Tryz.underlying22 Tryz.underlying23 Tryz.underlying24 Tryz.underlying25 Tryz.underlying26 Tryz.underlying27 Tryz.underlying28
attribute [simp] Tryz.underlying31 Tryz.underlying34 Tryz.underlying35 Tryz.underlying36 Tryz.underlying39
attribute [simp] Tryz.underlying44 Tryz.underlying45 Tryz.underlying46 Tryz.underlying47
attribute [simp] Tryz.underlying50 Tryz.underlying51 Tryz.underlying52 Tryz.underlying53 Tryz.underlying56
attribute [simp] Tryz.underlying63 Tryz.underlying67 Tryz.underlying68 Tryz.underlying69
attribute [simp] Tryz.underlying70 Tryz.underlying71 Tryz.underlying72
attribute [simp] Tryz.underlying81 Tryz.underlying83 Tryz.underlying84 Tryz.underlying85 Tryz.underlying86 Tryz.underlying89
attribute [simp] Tryz.underlying90 Tryz.underlying97
attribute [simp] Tryz.underlying104
attribute [simp] Tryz.underlying110 Tryz.underlying116 Tryz.underlying119
attribute [simp] Tryz.underlying122 Tryz.underlying123 Tryz.underlying124 Tryz.underlying126 Tryz.underlying129
attribute [simp] Tryz.underlying130 Tryz.underlying137 Tryz.underlying139
attribute [simp] Tryz.underlying141 Tryz.underlying147 Tryz.underlying148
attribute [simp] Tryz.underlying150 Tryz.underlying151 Tryz.underlying155
attribute [simp] Tryz.underlying164 Tryz.underlying166
attribute [simp] Tryz.underlying173 Tryz.underlying174
attribute [simp] Tryz.underlying187
theorem mixed : Tryz.prog.follows .mixedOrders = true := by kernel_rfl
end Go.Proofs.YtbibemijcdkjhaaGreatDoor
