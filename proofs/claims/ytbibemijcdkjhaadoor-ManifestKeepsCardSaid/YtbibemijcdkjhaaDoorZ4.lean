/- MADE BY A PROGRAM (mkfacts.py): the facts of this seat's types that the abstract machine asks for. -/
import Derived.Test.YtbibemijcdkjhaaDoorZ2
import Derived.Test.YtbibemijcdkjhaaDoorRows
import Derived.KernelRfl
set_option linter.unusedSimpArgs false
set_option linter.unusedVariables false
namespace Go.Proofs.YtbibemijcdkjhaaDoor
open Go.Am
@[simp] theorem k_ok0 : okT Tryd.prog 0 = true := by kernel_rfl
@[simp] theorem k_agg0 : aggB Tryd.prog 0 = false := by kernel_rfl
@[simp] theorem k_cells0 : Tryd.prog.cellsOf 0 = 1 := by kernel_rfl
@[simp] theorem k_bytes0 : Tryd.prog.bytesOf 0 = 0 := by kernel_rfl
@[simp] theorem k_eq0 : eqKinds Tryd.prog 0 = none := by kernel_rfl
@[simp] theorem k_guard0 : Tryd.prog.eqGuardType Tryd.prog.depth 0 = false := by kernel_rfl
@[simp] theorem k_zero0 : zeroAV Tryd.prog 0 = some (AV.tup []) := by kernel_rfl
@[simp] theorem k_ok1 : okT Tryd.prog 1 = true := by kernel_rfl
@[simp] theorem k_agg1 : aggB Tryd.prog 1 = false := by kernel_rfl
@[simp] theorem k_cells1 : Tryd.prog.cellsOf 1 = 1 := by kernel_rfl
@[simp] theorem k_bytes1 : Tryd.prog.bytesOf 1 = 8 := by kernel_rfl
@[simp] theorem k_eq1 : eqKinds Tryd.prog 1 = none := by kernel_rfl
@[simp] theorem k_guard1 : Tryd.prog.eqGuardType Tryd.prog.depth 1 = false := by kernel_rfl
@[simp] theorem k_zero1 : zeroAV Tryd.prog 1 = some (AV.v Value.nilFunc) := by kernel_rfl
@[simp] theorem k_ok2 : okT Tryd.prog 2 = true := by kernel_rfl
@[simp] theorem k_agg2 : aggB Tryd.prog 2 = false := by kernel_rfl
@[simp] theorem k_cells2 : Tryd.prog.cellsOf 2 = 1 := by kernel_rfl
@[simp] theorem k_bytes2 : Tryd.prog.bytesOf 2 = 8 := by kernel_rfl
@[simp] theorem k_eq2 : eqKinds Tryd.prog 2 = some [SK.i] := by kernel_rfl
@[simp] theorem k_guard2 : Tryd.prog.eqGuardType Tryd.prog.depth 2 = false := by kernel_rfl
@[simp] theorem k_zero2 : zeroAV Tryd.prog 2 = some (AV.v (Value.int IntKind.i64 0)) := by kernel_rfl
@[simp] theorem k_ok3 : okT Tryd.prog 3 = true := by kernel_rfl
@[simp] theorem k_agg3 : aggB Tryd.prog 3 = false := by kernel_rfl
@[simp] theorem k_cells3 : Tryd.prog.cellsOf 3 = 1 := by kernel_rfl
@[simp] theorem k_bytes3 : Tryd.prog.bytesOf 3 = 8 := by kernel_rfl
@[simp] theorem k_eq3 : eqKinds Tryd.prog 3 = some [SK.i] := by kernel_rfl
@[simp] theorem k_guard3 : Tryd.prog.eqGuardType Tryd.prog.depth 3 = false := by kernel_rfl
@[simp] theorem k_zero3 : zeroAV Tryd.prog 3 = some (AV.v (Value.int IntKind.i64 0)) := by kernel_rfl
@[simp] theorem k_ok4 : okT Tryd.prog 4 = true := by kernel_rfl
@[simp] theorem k_agg4 : aggB Tryd.prog 4 = false := by kernel_rfl
@[simp] theorem k_cells4 : Tryd.prog.cellsOf 4 = 1 := by kernel_rfl
@[simp] theorem k_bytes4 : Tryd.prog.bytesOf 4 = 1 := by kernel_rfl
@[simp] theorem k_eq4 : eqKinds Tryd.prog 4 = some [SK.b] := by kernel_rfl
@[simp] theorem k_guard4 : Tryd.prog.eqGuardType Tryd.prog.depth 4 = false := by kernel_rfl
@[simp] theorem k_zero4 : zeroAV Tryd.prog 4 = some (AV.v (Value.bool false)) := by kernel_rfl
@[simp] theorem k_ok5 : okT Tryd.prog 5 = true := by kernel_rfl
@[simp] theorem k_agg5 : aggB Tryd.prog 5 = false := by kernel_rfl
@[simp] theorem k_cells5 : Tryd.prog.cellsOf 5 = 1 := by kernel_rfl
@[simp] theorem k_bytes5 : Tryd.prog.bytesOf 5 = 1 := by kernel_rfl
@[simp] theorem k_eq5 : eqKinds Tryd.prog 5 = some [SK.i] := by kernel_rfl
@[simp] theorem k_guard5 : Tryd.prog.eqGuardType Tryd.prog.depth 5 = false := by kernel_rfl
@[simp] theorem k_zero5 : zeroAV Tryd.prog 5 = some (AV.v (Value.int IntKind.u8 0)) := by kernel_rfl
@[simp] theorem k_ok9 : okT Tryd.prog 9 = true := by kernel_rfl
@[simp] theorem k_agg9 : aggB Tryd.prog 9 = false := by kernel_rfl
@[simp] theorem k_cells9 : Tryd.prog.cellsOf 9 = 1 := by kernel_rfl
@[simp] theorem k_bytes9 : Tryd.prog.bytesOf 9 = 16 := by kernel_rfl
@[simp] theorem k_eq9 : eqKinds Tryd.prog 9 = some [SK.s] := by kernel_rfl
@[simp] theorem k_guard9 : Tryd.prog.eqGuardType Tryd.prog.depth 9 = false := by kernel_rfl
@[simp] theorem k_zero9 : zeroAV Tryd.prog 9 = some (AV.v (Value.string { data := { toList := [] } })) := by kernel_rfl
@[simp] theorem k_ok22 : okT Tryd.prog 22 = true := by kernel_rfl
@[simp] theorem k_agg22 : aggB Tryd.prog 22 = true := by kernel_rfl
@[simp] theorem k_cells22 : Tryd.prog.cellsOf 22 = 6 := by kernel_rfl
@[simp] theorem k_bytes22 : Tryd.prog.bytesOf 22 = 48 := by kernel_rfl
@[simp] theorem k_eq22 : eqKinds Tryd.prog 22 = some [SK.i, SK.i, SK.i, SK.i, SK.i, SK.i] := by kernel_rfl
@[simp] theorem k_guard22 : Tryd.prog.eqGuardType Tryd.prog.depth 22 = false := by kernel_rfl
@[simp] theorem k_zero22 : zeroAV Tryd.prog 22 = some (AV.st [AV.v (Value.int IntKind.i64 0), AV.v (Value.int IntKind.i64 0), AV.v (Value.int IntKind.i64 0), AV.v (Value.int IntKind.i64 0), AV.v (Value.int IntKind.i64 0), AV.v (Value.int IntKind.i64 0)]) := by kernel_rfl
@[simp] theorem k_ok23 : okT Tryd.prog 23 = true := by kernel_rfl
@[simp] theorem k_agg23 : aggB Tryd.prog 23 = true := by kernel_rfl
@[simp] theorem k_cells23 : Tryd.prog.cellsOf 23 = 6 := by kernel_rfl
@[simp] theorem k_bytes23 : Tryd.prog.bytesOf 23 = 48 := by kernel_rfl
@[simp] theorem k_eq23 : eqKinds Tryd.prog 23 = some [SK.i, SK.i, SK.i, SK.i, SK.i, SK.i] := by kernel_rfl
@[simp] theorem k_guard23 : Tryd.prog.eqGuardType Tryd.prog.depth 23 = false := by kernel_rfl
@[simp] theorem k_zero23 : zeroAV Tryd.prog 23 = some (AV.st [AV.v (Value.int IntKind.i64 0), AV.v (Value.int IntKind.i64 0), AV.v (Value.int IntKind.i64 0), AV.v (Value.int IntKind.i64 0), AV.v (Value.int IntKind.i64 0), AV.v (Value.int IntKind.i64 0)]) := by kernel_rfl
@[simp] theorem k_ok24 : okT Tryd.prog 24 = true := by kernel_rfl
@[simp] theorem k_agg24 : aggB Tryd.prog 24 = true := by kernel_rfl
@[simp] theorem k_cells24 : Tryd.prog.cellsOf 24 = 9 := by kernel_rfl
@[simp] theorem k_bytes24 : Tryd.prog.bytesOf 24 = 72 := by kernel_rfl
@[simp] theorem k_eq24 : eqKinds Tryd.prog 24 = some [SK.i, SK.i, SK.i, SK.i, SK.i, SK.i, SK.i, SK.i, SK.i] := by kernel_rfl
@[simp] theorem k_guard24 : Tryd.prog.eqGuardType Tryd.prog.depth 24 = false := by kernel_rfl
@[simp] theorem k_zero24 : zeroAV Tryd.prog 24 = some (AV.st [AV.v (Value.int IntKind.i64 0), AV.v (Value.int IntKind.i64 0), AV.v (Value.int IntKind.i64 0), AV.v (Value.int IntKind.i64 0), AV.v (Value.int IntKind.i64 0), AV.v (Value.int IntKind.i64 0), AV.v (Value.int IntKind.i64 0), AV.v (Value.int IntKind.i64 0), AV.v (Value.int IntKind.i64 0)]) := by kernel_rfl
@[simp] theorem k_ok25 : okT Tryd.prog 25 = true := by kernel_rfl
@[simp] theorem k_agg25 : aggB Tryd.prog 25 = true := by kernel_rfl
@[simp] theorem k_cells25 : Tryd.prog.cellsOf 25 = 9 := by kernel_rfl
@[simp] theorem k_bytes25 : Tryd.prog.bytesOf 25 = 72 := by kernel_rfl
@[simp] theorem k_eq25 : eqKinds Tryd.prog 25 = some [SK.i, SK.i, SK.i, SK.i, SK.i, SK.i, SK.i, SK.i, SK.i] := by kernel_rfl
@[simp] theorem k_guard25 : Tryd.prog.eqGuardType Tryd.prog.depth 25 = false := by kernel_rfl
@[simp] theorem k_zero25 : zeroAV Tryd.prog 25 = some (AV.st [AV.v (Value.int IntKind.i64 0), AV.v (Value.int IntKind.i64 0), AV.v (Value.int IntKind.i64 0), AV.v (Value.int IntKind.i64 0), AV.v (Value.int IntKind.i64 0), AV.v (Value.int IntKind.i64 0), AV.v (Value.int IntKind.i64 0), AV.v (Value.int IntKind.i64 0), AV.v (Value.int IntKind.i64 0)]) := by kernel_rfl
@[simp] theorem k_ok27 : okT Tryd.prog 27 = true := by kernel_rfl
@[simp] theorem k_agg27 : aggB Tryd.prog 27 = false := by kernel_rfl
@[simp] theorem k_cells27 : Tryd.prog.cellsOf 27 = 1 := by kernel_rfl
@[simp] theorem k_bytes27 : Tryd.prog.bytesOf 27 = 8 := by kernel_rfl
@[simp] theorem k_eq27 : eqKinds Tryd.prog 27 = some [SK.i] := by kernel_rfl
@[simp] theorem k_guard27 : Tryd.prog.eqGuardType Tryd.prog.depth 27 = false := by kernel_rfl
@[simp] theorem k_zero27 : zeroAV Tryd.prog 27 = some (AV.v (Value.int IntKind.i64 0)) := by kernel_rfl
@[simp] theorem k_ok29 : okT Tryd.prog 29 = true := by kernel_rfl
@[simp] theorem k_agg29 : aggB Tryd.prog 29 = false := by kernel_rfl
@[simp] theorem k_cells29 : Tryd.prog.cellsOf 29 = 1 := by kernel_rfl
@[simp] theorem k_bytes29 : Tryd.prog.bytesOf 29 = 8 := by kernel_rfl
@[simp] theorem k_eq29 : eqKinds Tryd.prog 29 = none := by kernel_rfl
@[simp] theorem k_guard29 : Tryd.prog.eqGuardType Tryd.prog.depth 29 = false := by kernel_rfl
@[simp] theorem k_zero29 : zeroAV Tryd.prog 29 = some (AV.v Value.nilFunc) := by kernel_rfl
@[simp] theorem k_ok30 : okT Tryd.prog 30 = true := by kernel_rfl
@[simp] theorem k_agg30 : aggB Tryd.prog 30 = false := by kernel_rfl
@[simp] theorem k_cells30 : Tryd.prog.cellsOf 30 = 1 := by kernel_rfl
@[simp] theorem k_bytes30 : Tryd.prog.bytesOf 30 = 24 := by kernel_rfl
@[simp] theorem k_eq30 : eqKinds Tryd.prog 30 = none := by kernel_rfl
@[simp] theorem k_guard30 : Tryd.prog.eqGuardType Tryd.prog.depth 30 = false := by kernel_rfl
@[simp] theorem k_zero30 : zeroAV Tryd.prog 30 = some (AV.v (Value.slice none 0 0)) := by kernel_rfl
@[simp] theorem k_ok31 : okT Tryd.prog 31 = true := by kernel_rfl
@[simp] theorem k_agg31 : aggB Tryd.prog 31 = false := by kernel_rfl
@[simp] theorem k_cells31 : Tryd.prog.cellsOf 31 = 1 := by kernel_rfl
@[simp] theorem k_bytes31 : Tryd.prog.bytesOf 31 = 24 := by kernel_rfl
@[simp] theorem k_eq31 : eqKinds Tryd.prog 31 = none := by kernel_rfl
@[simp] theorem k_guard31 : Tryd.prog.eqGuardType Tryd.prog.depth 31 = false := by kernel_rfl
@[simp] theorem k_zero31 : zeroAV Tryd.prog 31 = some (AV.v (Value.slice none 0 0)) := by kernel_rfl
@[simp] theorem k_ok32 : okT Tryd.prog 32 = true := by kernel_rfl
@[simp] theorem k_agg32 : aggB Tryd.prog 32 = false := by kernel_rfl
@[simp] theorem k_cells32 : Tryd.prog.cellsOf 32 = 1 := by kernel_rfl
@[simp] theorem k_bytes32 : Tryd.prog.bytesOf 32 = 24 := by kernel_rfl
@[simp] theorem k_eq32 : eqKinds Tryd.prog 32 = none := by kernel_rfl
@[simp] theorem k_guard32 : Tryd.prog.eqGuardType Tryd.prog.depth 32 = false := by kernel_rfl
@[simp] theorem k_zero32 : zeroAV Tryd.prog 32 = some (AV.v (Value.slice none 0 0)) := by kernel_rfl
@[simp] theorem k_ok33 : okT Tryd.prog 33 = true := by kernel_rfl
@[simp] theorem k_agg33 : aggB Tryd.prog 33 = true := by kernel_rfl
@[simp] theorem k_cells33 : Tryd.prog.cellsOf 33 = 5 := by kernel_rfl
@[simp] theorem k_bytes33 : Tryd.prog.bytesOf 33 = 72 := by kernel_rfl
@[simp] theorem k_eq33 : eqKinds Tryd.prog 33 = none := by kernel_rfl
@[simp] theorem k_guard33 : Tryd.prog.eqGuardType Tryd.prog.depth 33 = false := by kernel_rfl
@[simp] theorem k_zero33 : zeroAV Tryd.prog 33 = some (AV.st [AV.v (Value.int IntKind.i64 0), AV.v (Value.int IntKind.i64 0), AV.v (Value.int IntKind.i64 0), AV.v (Value.slice none 0 0), AV.v (Value.slice none 0 0)]) := by kernel_rfl
@[simp] theorem k_ok34 : okT Tryd.prog 34 = true := by kernel_rfl
@[simp] theorem k_agg34 : aggB Tryd.prog 34 = true := by kernel_rfl
@[simp] theorem k_cells34 : Tryd.prog.cellsOf 34 = 5 := by kernel_rfl
@[simp] theorem k_bytes34 : Tryd.prog.bytesOf 34 = 72 := by kernel_rfl
@[simp] theorem k_eq34 : eqKinds Tryd.prog 34 = none := by kernel_rfl
@[simp] theorem k_guard34 : Tryd.prog.eqGuardType Tryd.prog.depth 34 = false := by kernel_rfl
@[simp] theorem k_zero34 : zeroAV Tryd.prog 34 = some (AV.st [AV.v (Value.int IntKind.i64 0), AV.v (Value.int IntKind.i64 0), AV.v (Value.int IntKind.i64 0), AV.v (Value.slice none 0 0), AV.v (Value.slice none 0 0)]) := by kernel_rfl
@[simp] theorem k_ok36 : okT Tryd.prog 36 = true := by kernel_rfl
@[simp] theorem k_agg36 : aggB Tryd.prog 36 = false := by kernel_rfl
@[simp] theorem k_cells36 : Tryd.prog.cellsOf 36 = 1 := by kernel_rfl
@[simp] theorem k_bytes36 : Tryd.prog.bytesOf 36 = 8 := by kernel_rfl
@[simp] theorem k_eq36 : eqKinds Tryd.prog 36 = none := by kernel_rfl
@[simp] theorem k_guard36 : Tryd.prog.eqGuardType Tryd.prog.depth 36 = false := by kernel_rfl
@[simp] theorem k_zero36 : zeroAV Tryd.prog 36 = some (AV.v (Value.pointer none)) := by kernel_rfl
@[simp] theorem k_ok37 : okT Tryd.prog 37 = true := by kernel_rfl
@[simp] theorem k_agg37 : aggB Tryd.prog 37 = false := by kernel_rfl
@[simp] theorem k_cells37 : Tryd.prog.cellsOf 37 = 1 := by kernel_rfl
@[simp] theorem k_bytes37 : Tryd.prog.bytesOf 37 = 24 := by kernel_rfl
@[simp] theorem k_eq37 : eqKinds Tryd.prog 37 = none := by kernel_rfl
@[simp] theorem k_guard37 : Tryd.prog.eqGuardType Tryd.prog.depth 37 = false := by kernel_rfl
@[simp] theorem k_zero37 : zeroAV Tryd.prog 37 = some (AV.v (Value.slice none 0 0)) := by kernel_rfl
@[simp] theorem k_ok38 : okT Tryd.prog 38 = true := by kernel_rfl
@[simp] theorem k_agg38 : aggB Tryd.prog 38 = true := by kernel_rfl
@[simp] theorem k_cells38 : Tryd.prog.cellsOf 38 = 3 := by kernel_rfl
@[simp] theorem k_bytes38 : Tryd.prog.bytesOf 38 = 40 := by kernel_rfl
@[simp] theorem k_eq38 : eqKinds Tryd.prog 38 = none := by kernel_rfl
@[simp] theorem k_guard38 : Tryd.prog.eqGuardType Tryd.prog.depth 38 = false := by kernel_rfl
@[simp] theorem k_zero38 : zeroAV Tryd.prog 38 = some (AV.st [AV.v (Value.int IntKind.i64 0), AV.v (Value.int IntKind.i64 0), AV.v (Value.slice none 0 0)]) := by kernel_rfl
@[simp] theorem k_ok39 : okT Tryd.prog 39 = true := by kernel_rfl
@[simp] theorem k_agg39 : aggB Tryd.prog 39 = true := by kernel_rfl
@[simp] theorem k_cells39 : Tryd.prog.cellsOf 39 = 3 := by kernel_rfl
@[simp] theorem k_bytes39 : Tryd.prog.bytesOf 39 = 40 := by kernel_rfl
@[simp] theorem k_eq39 : eqKinds Tryd.prog 39 = none := by kernel_rfl
@[simp] theorem k_guard39 : Tryd.prog.eqGuardType Tryd.prog.depth 39 = false := by kernel_rfl
@[simp] theorem k_zero39 : zeroAV Tryd.prog 39 = some (AV.st [AV.v (Value.int IntKind.i64 0), AV.v (Value.int IntKind.i64 0), AV.v (Value.slice none 0 0)]) := by kernel_rfl
@[simp] theorem k_ok40 : okT Tryd.prog 40 = true := by kernel_rfl
@[simp] theorem k_agg40 : aggB Tryd.prog 40 = false := by kernel_rfl
@[simp] theorem k_cells40 : Tryd.prog.cellsOf 40 = 1 := by kernel_rfl
@[simp] theorem k_bytes40 : Tryd.prog.bytesOf 40 = 24 := by kernel_rfl
@[simp] theorem k_eq40 : eqKinds Tryd.prog 40 = none := by kernel_rfl
@[simp] theorem k_guard40 : Tryd.prog.eqGuardType Tryd.prog.depth 40 = false := by kernel_rfl
@[simp] theorem k_zero40 : zeroAV Tryd.prog 40 = some (AV.v (Value.slice none 0 0)) := by kernel_rfl
@[simp] theorem k_ok41 : okT Tryd.prog 41 = true := by kernel_rfl
@[simp] theorem k_agg41 : aggB Tryd.prog 41 = false := by kernel_rfl
@[simp] theorem k_cells41 : Tryd.prog.cellsOf 41 = 1 := by kernel_rfl
@[simp] theorem k_bytes41 : Tryd.prog.bytesOf 41 = 0 := by kernel_rfl
@[simp] theorem k_eq41 : eqKinds Tryd.prog 41 = none := by kernel_rfl
@[simp] theorem k_guard41 : Tryd.prog.eqGuardType Tryd.prog.depth 41 = false := by kernel_rfl
@[simp] theorem k_zero41 : zeroAV Tryd.prog 41 = some AV.u := by kernel_rfl
@[simp] theorem k_ok43 : okT Tryd.prog 43 = true := by kernel_rfl
@[simp] theorem k_agg43 : aggB Tryd.prog 43 = false := by kernel_rfl
@[simp] theorem k_cells43 : Tryd.prog.cellsOf 43 = 1 := by kernel_rfl
@[simp] theorem k_bytes43 : Tryd.prog.bytesOf 43 = 8 := by kernel_rfl
@[simp] theorem k_eq43 : eqKinds Tryd.prog 43 = none := by kernel_rfl
@[simp] theorem k_guard43 : Tryd.prog.eqGuardType Tryd.prog.depth 43 = false := by kernel_rfl
@[simp] theorem k_zero43 : zeroAV Tryd.prog 43 = some (AV.v Value.nilFunc) := by kernel_rfl
@[simp] theorem k_ok48 : okT Tryd.prog 48 = true := by kernel_rfl
@[simp] theorem k_agg48 : aggB Tryd.prog 48 = false := by kernel_rfl
@[simp] theorem k_cells48 : Tryd.prog.cellsOf 48 = 1 := by kernel_rfl
@[simp] theorem k_bytes48 : Tryd.prog.bytesOf 48 = 8 := by kernel_rfl
@[simp] theorem k_eq48 : eqKinds Tryd.prog 48 = none := by kernel_rfl
@[simp] theorem k_guard48 : Tryd.prog.eqGuardType Tryd.prog.depth 48 = false := by kernel_rfl
@[simp] theorem k_zero48 : zeroAV Tryd.prog 48 = some (AV.v Value.nilFunc) := by kernel_rfl
@[simp] theorem k_ok49 : okT Tryd.prog 49 = true := by kernel_rfl
@[simp] theorem k_agg49 : aggB Tryd.prog 49 = false := by kernel_rfl
@[simp] theorem k_cells49 : Tryd.prog.cellsOf 49 = 1 := by kernel_rfl
@[simp] theorem k_bytes49 : Tryd.prog.bytesOf 49 = 8 := by kernel_rfl
@[simp] theorem k_eq49 : eqKinds Tryd.prog 49 = none := by kernel_rfl
@[simp] theorem k_guard49 : Tryd.prog.eqGuardType Tryd.prog.depth 49 = false := by kernel_rfl
@[simp] theorem k_zero49 : zeroAV Tryd.prog 49 = some (AV.v Value.nilFunc) := by kernel_rfl
@[simp] theorem k_ok50 : okT Tryd.prog 50 = true := by kernel_rfl
@[simp] theorem k_agg50 : aggB Tryd.prog 50 = false := by kernel_rfl
@[simp] theorem k_cells50 : Tryd.prog.cellsOf 50 = 1 := by kernel_rfl
@[simp] theorem k_bytes50 : Tryd.prog.bytesOf 50 = 1 := by kernel_rfl
@[simp] theorem k_eq50 : eqKinds Tryd.prog 50 = some [SK.i] := by kernel_rfl
@[simp] theorem k_guard50 : Tryd.prog.eqGuardType Tryd.prog.depth 50 = false := by kernel_rfl
@[simp] theorem k_zero50 : zeroAV Tryd.prog 50 = some (AV.v (Value.int IntKind.i8 0)) := by kernel_rfl
@[simp] theorem k_ok51 : okT Tryd.prog 51 = true := by kernel_rfl
@[simp] theorem k_agg51 : aggB Tryd.prog 51 = true := by kernel_rfl
@[simp] theorem k_cells51 : Tryd.prog.cellsOf 51 = 6 := by kernel_rfl
@[simp] theorem k_bytes51 : Tryd.prog.bytesOf 51 = 6 := by kernel_rfl
@[simp] theorem k_eq51 : eqKinds Tryd.prog 51 = none := by kernel_rfl
@[simp] theorem k_guard51 : Tryd.prog.eqGuardType Tryd.prog.depth 51 = false := by kernel_rfl
@[simp] theorem k_zero51 : zeroAV Tryd.prog 51 = some (AV.st [AV.v (Value.int IntKind.i8 0), AV.v (Value.int IntKind.i8 0), AV.v (Value.int IntKind.i8 0), AV.v (Value.int IntKind.i8 0), AV.v (Value.int IntKind.i8 0), AV.v (Value.int IntKind.i8 0)]) := by kernel_rfl
@[simp] theorem k_ok52 : okT Tryd.prog 52 = true := by kernel_rfl
@[simp] theorem k_agg52 : aggB Tryd.prog 52 = true := by kernel_rfl
@[simp] theorem k_cells52 : Tryd.prog.cellsOf 52 = 10 := by kernel_rfl
@[simp] theorem k_bytes52 : Tryd.prog.bytesOf 52 = 10 := by kernel_rfl
@[simp] theorem k_eq52 : eqKinds Tryd.prog 52 = none := by kernel_rfl
@[simp] theorem k_guard52 : Tryd.prog.eqGuardType Tryd.prog.depth 52 = false := by kernel_rfl
@[simp] theorem k_zero52 : zeroAV Tryd.prog 52 = some (AV.st [AV.v (Value.int IntKind.u8 0), AV.v (Value.int IntKind.u8 0), AV.v (Value.int IntKind.u8 0), AV.v (Value.int IntKind.u8 0), AV.v (Value.int IntKind.i8 0), AV.v (Value.int IntKind.i8 0), AV.v (Value.int IntKind.i8 0), AV.v (Value.int IntKind.i8 0), AV.v (Value.int IntKind.i8 0), AV.v (Value.int IntKind.i8 0)]) := by kernel_rfl
@[simp] theorem k_ok53 : okT Tryd.prog 53 = true := by kernel_rfl
@[simp] theorem k_agg53 : aggB Tryd.prog 53 = true := by kernel_rfl
@[simp] theorem k_cells53 : Tryd.prog.cellsOf 53 = 10 := by kernel_rfl
@[simp] theorem k_bytes53 : Tryd.prog.bytesOf 53 = 10 := by kernel_rfl
@[simp] theorem k_eq53 : eqKinds Tryd.prog 53 = none := by kernel_rfl
@[simp] theorem k_guard53 : Tryd.prog.eqGuardType Tryd.prog.depth 53 = false := by kernel_rfl
@[simp] theorem k_zero53 : zeroAV Tryd.prog 53 = some (AV.st [AV.v (Value.int IntKind.u8 0), AV.v (Value.int IntKind.u8 0), AV.v (Value.int IntKind.u8 0), AV.v (Value.int IntKind.u8 0), AV.v (Value.int IntKind.i8 0), AV.v (Value.int IntKind.i8 0), AV.v (Value.int IntKind.i8 0), AV.v (Value.int IntKind.i8 0), AV.v (Value.int IntKind.i8 0), AV.v (Value.int IntKind.i8 0)]) := by kernel_rfl
@[simp] theorem k_ok54 : okT Tryd.prog 54 = true := by kernel_rfl
@[simp] theorem k_agg54 : aggB Tryd.prog 54 = false := by kernel_rfl
@[simp] theorem k_cells54 : Tryd.prog.cellsOf 54 = 1 := by kernel_rfl
@[simp] theorem k_bytes54 : Tryd.prog.bytesOf 54 = 8 := by kernel_rfl
@[simp] theorem k_eq54 : eqKinds Tryd.prog 54 = none := by kernel_rfl
@[simp] theorem k_guard54 : Tryd.prog.eqGuardType Tryd.prog.depth 54 = false := by kernel_rfl
@[simp] theorem k_zero54 : zeroAV Tryd.prog 54 = some (AV.v Value.nilFunc) := by kernel_rfl
@[simp] theorem k_ok55 : okT Tryd.prog 55 = true := by kernel_rfl
@[simp] theorem k_agg55 : aggB Tryd.prog 55 = false := by kernel_rfl
@[simp] theorem k_cells55 : Tryd.prog.cellsOf 55 = 1 := by kernel_rfl
@[simp] theorem k_bytes55 : Tryd.prog.bytesOf 55 = 8 := by kernel_rfl
@[simp] theorem k_eq55 : eqKinds Tryd.prog 55 = none := by kernel_rfl
@[simp] theorem k_guard55 : Tryd.prog.eqGuardType Tryd.prog.depth 55 = false := by kernel_rfl
@[simp] theorem k_zero55 : zeroAV Tryd.prog 55 = some (AV.v Value.nilFunc) := by kernel_rfl
@[simp] theorem k_ok56 : okT Tryd.prog 56 = true := by kernel_rfl
@[simp] theorem k_agg56 : aggB Tryd.prog 56 = false := by kernel_rfl
@[simp] theorem k_cells56 : Tryd.prog.cellsOf 56 = 1 := by kernel_rfl
@[simp] theorem k_bytes56 : Tryd.prog.bytesOf 56 = 0 := by kernel_rfl
@[simp] theorem k_eq56 : eqKinds Tryd.prog 56 = none := by kernel_rfl
@[simp] theorem k_guard56 : Tryd.prog.eqGuardType Tryd.prog.depth 56 = false := by kernel_rfl
@[simp] theorem k_zero56 : zeroAV Tryd.prog 56 = some AV.u := by kernel_rfl
@[simp] theorem k_ok57 : okT Tryd.prog 57 = true := by kernel_rfl
@[simp] theorem k_agg57 : aggB Tryd.prog 57 = false := by kernel_rfl
@[simp] theorem k_cells57 : Tryd.prog.cellsOf 57 = 1 := by kernel_rfl
@[simp] theorem k_bytes57 : Tryd.prog.bytesOf 57 = 8 := by kernel_rfl
@[simp] theorem k_eq57 : eqKinds Tryd.prog 57 = none := by kernel_rfl
@[simp] theorem k_guard57 : Tryd.prog.eqGuardType Tryd.prog.depth 57 = false := by kernel_rfl
@[simp] theorem k_zero57 : zeroAV Tryd.prog 57 = some (AV.v Value.nilFunc) := by kernel_rfl
@[simp] theorem k_ok64 : okT Tryd.prog 64 = true := by kernel_rfl
@[simp] theorem k_agg64 : aggB Tryd.prog 64 = true := by kernel_rfl
@[simp] theorem k_cells64 : Tryd.prog.cellsOf 64 = 6 := by kernel_rfl
@[simp] theorem k_bytes64 : Tryd.prog.bytesOf 64 = 48 := by kernel_rfl
@[simp] theorem k_eq64 : eqKinds Tryd.prog 64 = none := by kernel_rfl
@[simp] theorem k_guard64 : Tryd.prog.eqGuardType Tryd.prog.depth 64 = false := by kernel_rfl
@[simp] theorem k_zero64 : zeroAV Tryd.prog 64 = some (AV.st [AV.v (Value.int IntKind.i64 0), AV.v (Value.int IntKind.i64 0), AV.v (Value.int IntKind.i64 0), AV.v (Value.int IntKind.i64 0), AV.v (Value.int IntKind.i64 0), AV.v (Value.int IntKind.i64 0)]) := by kernel_rfl
@[simp] theorem k_ok65 : okT Tryd.prog 65 = true := by kernel_rfl
@[simp] theorem k_agg65 : aggB Tryd.prog 65 = false := by kernel_rfl
@[simp] theorem k_cells65 : Tryd.prog.cellsOf 65 = 1 := by kernel_rfl
@[simp] theorem k_bytes65 : Tryd.prog.bytesOf 65 = 0 := by kernel_rfl
@[simp] theorem k_eq65 : eqKinds Tryd.prog 65 = none := by kernel_rfl
@[simp] theorem k_guard65 : Tryd.prog.eqGuardType Tryd.prog.depth 65 = false := by kernel_rfl
@[simp] theorem k_zero65 : zeroAV Tryd.prog 65 = some AV.u := by kernel_rfl
@[simp] theorem k_ok69 : okT Tryd.prog 69 = true := by kernel_rfl
@[simp] theorem k_agg69 : aggB Tryd.prog 69 = false := by kernel_rfl
@[simp] theorem k_cells69 : Tryd.prog.cellsOf 69 = 1 := by kernel_rfl
@[simp] theorem k_bytes69 : Tryd.prog.bytesOf 69 = 24 := by kernel_rfl
@[simp] theorem k_eq69 : eqKinds Tryd.prog 69 = none := by kernel_rfl
@[simp] theorem k_guard69 : Tryd.prog.eqGuardType Tryd.prog.depth 69 = false := by kernel_rfl
@[simp] theorem k_zero69 : zeroAV Tryd.prog 69 = some (AV.v (Value.slice none 0 0)) := by kernel_rfl
@[simp] theorem k_ok70 : okT Tryd.prog 70 = true := by kernel_rfl
@[simp] theorem k_agg70 : aggB Tryd.prog 70 = true := by kernel_rfl
@[simp] theorem k_cells70 : Tryd.prog.cellsOf 70 = 3 := by kernel_rfl
@[simp] theorem k_bytes70 : Tryd.prog.bytesOf 70 = 40 := by kernel_rfl
@[simp] theorem k_eq70 : eqKinds Tryd.prog 70 = none := by kernel_rfl
@[simp] theorem k_guard70 : Tryd.prog.eqGuardType Tryd.prog.depth 70 = false := by kernel_rfl
@[simp] theorem k_zero70 : zeroAV Tryd.prog 70 = some (AV.st [AV.v (Value.int IntKind.i64 0), AV.v (Value.slice none 0 0), AV.v (Value.int IntKind.i64 0)]) := by kernel_rfl
@[simp] theorem k_ok71 : okT Tryd.prog 71 = true := by kernel_rfl
@[simp] theorem k_agg71 : aggB Tryd.prog 71 = true := by kernel_rfl
@[simp] theorem k_cells71 : Tryd.prog.cellsOf 71 = 3 := by kernel_rfl
@[simp] theorem k_bytes71 : Tryd.prog.bytesOf 71 = 40 := by kernel_rfl
@[simp] theorem k_eq71 : eqKinds Tryd.prog 71 = none := by kernel_rfl
@[simp] theorem k_guard71 : Tryd.prog.eqGuardType Tryd.prog.depth 71 = false := by kernel_rfl
@[simp] theorem k_zero71 : zeroAV Tryd.prog 71 = some (AV.st [AV.v (Value.int IntKind.i64 0), AV.v (Value.slice none 0 0), AV.v (Value.int IntKind.i64 0)]) := by kernel_rfl
@[simp] theorem k_ok77 : okT Tryd.prog 77 = true := by kernel_rfl
@[simp] theorem k_agg77 : aggB Tryd.prog 77 = false := by kernel_rfl
@[simp] theorem k_cells77 : Tryd.prog.cellsOf 77 = 1 := by kernel_rfl
@[simp] theorem k_bytes77 : Tryd.prog.bytesOf 77 = 8 := by kernel_rfl
@[simp] theorem k_eq77 : eqKinds Tryd.prog 77 = none := by kernel_rfl
@[simp] theorem k_guard77 : Tryd.prog.eqGuardType Tryd.prog.depth 77 = false := by kernel_rfl
@[simp] theorem k_zero77 : zeroAV Tryd.prog 77 = some (AV.v (Value.pointer none)) := by kernel_rfl
@[simp] theorem k_ok78 : okT Tryd.prog 78 = true := by kernel_rfl
@[simp] theorem k_agg78 : aggB Tryd.prog 78 = false := by kernel_rfl
@[simp] theorem k_cells78 : Tryd.prog.cellsOf 78 = 1 := by kernel_rfl
@[simp] theorem k_bytes78 : Tryd.prog.bytesOf 78 = 24 := by kernel_rfl
@[simp] theorem k_eq78 : eqKinds Tryd.prog 78 = none := by kernel_rfl
@[simp] theorem k_guard78 : Tryd.prog.eqGuardType Tryd.prog.depth 78 = false := by kernel_rfl
@[simp] theorem k_zero78 : zeroAV Tryd.prog 78 = some (AV.v (Value.slice none 0 0)) := by kernel_rfl
@[simp] theorem k_ok79 : okT Tryd.prog 79 = true := by kernel_rfl
@[simp] theorem k_agg79 : aggB Tryd.prog 79 = true := by kernel_rfl
@[simp] theorem k_cells79 : Tryd.prog.cellsOf 79 = 2 := by kernel_rfl
@[simp] theorem k_bytes79 : Tryd.prog.bytesOf 79 = 32 := by kernel_rfl
@[simp] theorem k_eq79 : eqKinds Tryd.prog 79 = none := by kernel_rfl
@[simp] theorem k_guard79 : Tryd.prog.eqGuardType Tryd.prog.depth 79 = false := by kernel_rfl
@[simp] theorem k_zero79 : zeroAV Tryd.prog 79 = some (AV.st [AV.v (Value.pointer none), AV.v (Value.slice none 0 0)]) := by kernel_rfl
@[simp] theorem k_ok80 : okT Tryd.prog 80 = true := by kernel_rfl
@[simp] theorem k_agg80 : aggB Tryd.prog 80 = true := by kernel_rfl
@[simp] theorem k_cells80 : Tryd.prog.cellsOf 80 = 2 := by kernel_rfl
@[simp] theorem k_bytes80 : Tryd.prog.bytesOf 80 = 32 := by kernel_rfl
@[simp] theorem k_eq80 : eqKinds Tryd.prog 80 = none := by kernel_rfl
@[simp] theorem k_guard80 : Tryd.prog.eqGuardType Tryd.prog.depth 80 = false := by kernel_rfl
@[simp] theorem k_zero80 : zeroAV Tryd.prog 80 = some (AV.st [AV.v (Value.pointer none), AV.v (Value.slice none 0 0)]) := by kernel_rfl
@[simp] theorem k_ok83 : okT Tryd.prog 83 = true := by kernel_rfl
@[simp] theorem k_agg83 : aggB Tryd.prog 83 = false := by kernel_rfl
@[simp] theorem k_cells83 : Tryd.prog.cellsOf 83 = 1 := by kernel_rfl
@[simp] theorem k_bytes83 : Tryd.prog.bytesOf 83 = 16 := by kernel_rfl
@[simp] theorem k_eq83 : eqKinds Tryd.prog 83 = none := by kernel_rfl
@[simp] theorem k_guard83 : Tryd.prog.eqGuardType Tryd.prog.depth 83 = true := by kernel_rfl
@[simp] theorem k_zero83 : zeroAV Tryd.prog 83 = some (AV.v Value.nilIface) := by kernel_rfl
@[simp] theorem k_ok84 : okT Tryd.prog 84 = true := by kernel_rfl
@[simp] theorem k_agg84 : aggB Tryd.prog 84 = false := by kernel_rfl
@[simp] theorem k_cells84 : Tryd.prog.cellsOf 84 = 1 := by kernel_rfl
@[simp] theorem k_bytes84 : Tryd.prog.bytesOf 84 = 0 := by kernel_rfl
@[simp] theorem k_eq84 : eqKinds Tryd.prog 84 = none := by kernel_rfl
@[simp] theorem k_guard84 : Tryd.prog.eqGuardType Tryd.prog.depth 84 = false := by kernel_rfl
@[simp] theorem k_zero84 : zeroAV Tryd.prog 84 = some AV.u := by kernel_rfl
@[simp] theorem k_ok90 : okT Tryd.prog 90 = true := by kernel_rfl
@[simp] theorem k_agg90 : aggB Tryd.prog 90 = false := by kernel_rfl
@[simp] theorem k_cells90 : Tryd.prog.cellsOf 90 = 1 := by kernel_rfl
@[simp] theorem k_bytes90 : Tryd.prog.bytesOf 90 = 8 := by kernel_rfl
@[simp] theorem k_eq90 : eqKinds Tryd.prog 90 = none := by kernel_rfl
@[simp] theorem k_guard90 : Tryd.prog.eqGuardType Tryd.prog.depth 90 = false := by kernel_rfl
@[simp] theorem k_zero90 : zeroAV Tryd.prog 90 = some (AV.v Value.nilFunc) := by kernel_rfl
@[simp] theorem k_ok95 : okT Tryd.prog 95 = true := by kernel_rfl
@[simp] theorem k_agg95 : aggB Tryd.prog 95 = false := by kernel_rfl
@[simp] theorem k_cells95 : Tryd.prog.cellsOf 95 = 1 := by kernel_rfl
@[simp] theorem k_bytes95 : Tryd.prog.bytesOf 95 = 8 := by kernel_rfl
@[simp] theorem k_eq95 : eqKinds Tryd.prog 95 = none := by kernel_rfl
@[simp] theorem k_guard95 : Tryd.prog.eqGuardType Tryd.prog.depth 95 = false := by kernel_rfl
@[simp] theorem k_zero95 : zeroAV Tryd.prog 95 = some (AV.v Value.nilFunc) := by kernel_rfl
@[simp] theorem k_ok96 : okT Tryd.prog 96 = true := by kernel_rfl
@[simp] theorem k_agg96 : aggB Tryd.prog 96 = false := by kernel_rfl
@[simp] theorem k_cells96 : Tryd.prog.cellsOf 96 = 1 := by kernel_rfl
@[simp] theorem k_bytes96 : Tryd.prog.bytesOf 96 = 8 := by kernel_rfl
@[simp] theorem k_eq96 : eqKinds Tryd.prog 96 = none := by kernel_rfl
@[simp] theorem k_guard96 : Tryd.prog.eqGuardType Tryd.prog.depth 96 = false := by kernel_rfl
@[simp] theorem k_zero96 : zeroAV Tryd.prog 96 = some (AV.v Value.nilFunc) := by kernel_rfl
@[simp] theorem k_ok97 : okT Tryd.prog 97 = true := by kernel_rfl
@[simp] theorem k_agg97 : aggB Tryd.prog 97 = false := by kernel_rfl
@[simp] theorem k_cells97 : Tryd.prog.cellsOf 97 = 1 := by kernel_rfl
@[simp] theorem k_bytes97 : Tryd.prog.bytesOf 97 = 8 := by kernel_rfl
@[simp] theorem k_eq97 : eqKinds Tryd.prog 97 = none := by kernel_rfl
@[simp] theorem k_guard97 : Tryd.prog.eqGuardType Tryd.prog.depth 97 = false := by kernel_rfl
@[simp] theorem k_zero97 : zeroAV Tryd.prog 97 = some (AV.v Value.nilFunc) := by kernel_rfl
@[simp] theorem k_ok98 : okT Tryd.prog 98 = true := by kernel_rfl
@[simp] theorem k_agg98 : aggB Tryd.prog 98 = false := by kernel_rfl
@[simp] theorem k_cells98 : Tryd.prog.cellsOf 98 = 1 := by kernel_rfl
@[simp] theorem k_bytes98 : Tryd.prog.bytesOf 98 = 8 := by kernel_rfl
@[simp] theorem k_eq98 : eqKinds Tryd.prog 98 = none := by kernel_rfl
@[simp] theorem k_guard98 : Tryd.prog.eqGuardType Tryd.prog.depth 98 = false := by kernel_rfl
@[simp] theorem k_zero98 : zeroAV Tryd.prog 98 = some (AV.v (Value.pointer none)) := by kernel_rfl
@[simp] theorem k_ok99 : okT Tryd.prog 99 = true := by kernel_rfl
@[simp] theorem k_agg99 : aggB Tryd.prog 99 = false := by kernel_rfl
@[simp] theorem k_cells99 : Tryd.prog.cellsOf 99 = 1 := by kernel_rfl
@[simp] theorem k_bytes99 : Tryd.prog.bytesOf 99 = 0 := by kernel_rfl
@[simp] theorem k_eq99 : eqKinds Tryd.prog 99 = none := by kernel_rfl
@[simp] theorem k_guard99 : Tryd.prog.eqGuardType Tryd.prog.depth 99 = false := by kernel_rfl
@[simp] theorem k_zero99 : zeroAV Tryd.prog 99 = some AV.u := by kernel_rfl
@[simp] theorem k_ok100 : okT Tryd.prog 100 = true := by kernel_rfl
@[simp] theorem k_agg100 : aggB Tryd.prog 100 = false := by kernel_rfl
@[simp] theorem k_cells100 : Tryd.prog.cellsOf 100 = 1 := by kernel_rfl
@[simp] theorem k_bytes100 : Tryd.prog.bytesOf 100 = 8 := by kernel_rfl
@[simp] theorem k_eq100 : eqKinds Tryd.prog 100 = none := by kernel_rfl
@[simp] theorem k_guard100 : Tryd.prog.eqGuardType Tryd.prog.depth 100 = false := by kernel_rfl
@[simp] theorem k_zero100 : zeroAV Tryd.prog 100 = some (AV.v Value.nilFunc) := by kernel_rfl
@[simp] theorem k_ok101 : okT Tryd.prog 101 = true := by kernel_rfl
@[simp] theorem k_agg101 : aggB Tryd.prog 101 = false := by kernel_rfl
@[simp] theorem k_cells101 : Tryd.prog.cellsOf 101 = 1 := by kernel_rfl
@[simp] theorem k_bytes101 : Tryd.prog.bytesOf 101 = 8 := by kernel_rfl
@[simp] theorem k_eq101 : eqKinds Tryd.prog 101 = none := by kernel_rfl
@[simp] theorem k_guard101 : Tryd.prog.eqGuardType Tryd.prog.depth 101 = false := by kernel_rfl
@[simp] theorem k_zero101 : zeroAV Tryd.prog 101 = some (AV.v Value.nilFunc) := by kernel_rfl
@[simp] theorem k_ok107 : okT Tryd.prog 107 = true := by kernel_rfl
@[simp] theorem k_agg107 : aggB Tryd.prog 107 = false := by kernel_rfl
@[simp] theorem k_cells107 : Tryd.prog.cellsOf 107 = 1 := by kernel_rfl
@[simp] theorem k_bytes107 : Tryd.prog.bytesOf 107 = 8 := by kernel_rfl
@[simp] theorem k_eq107 : eqKinds Tryd.prog 107 = some [SK.i] := by kernel_rfl
@[simp] theorem k_guard107 : Tryd.prog.eqGuardType Tryd.prog.depth 107 = false := by kernel_rfl
@[simp] theorem k_zero107 : zeroAV Tryd.prog 107 = some (AV.v (Value.int IntKind.u64 0)) := by kernel_rfl
@[simp] theorem k_ok109 : okT Tryd.prog 109 = true := by kernel_rfl
@[simp] theorem k_agg109 : aggB Tryd.prog 109 = false := by kernel_rfl
@[simp] theorem k_cells109 : Tryd.prog.cellsOf 109 = 1 := by kernel_rfl
@[simp] theorem k_bytes109 : Tryd.prog.bytesOf 109 = 8 := by kernel_rfl
@[simp] theorem k_eq109 : eqKinds Tryd.prog 109 = none := by kernel_rfl
@[simp] theorem k_guard109 : Tryd.prog.eqGuardType Tryd.prog.depth 109 = false := by kernel_rfl
@[simp] theorem k_zero109 : zeroAV Tryd.prog 109 = some (AV.v (Value.pointer none)) := by kernel_rfl
@[simp] theorem k_ok113 : okT Tryd.prog 113 = true := by kernel_rfl
@[simp] theorem k_agg113 : aggB Tryd.prog 113 = false := by kernel_rfl
@[simp] theorem k_cells113 : Tryd.prog.cellsOf 113 = 1 := by kernel_rfl
@[simp] theorem k_bytes113 : Tryd.prog.bytesOf 113 = 8 := by kernel_rfl
@[simp] theorem k_eq113 : eqKinds Tryd.prog 113 = some [SK.i] := by kernel_rfl
@[simp] theorem k_guard113 : Tryd.prog.eqGuardType Tryd.prog.depth 113 = false := by kernel_rfl
@[simp] theorem k_zero113 : zeroAV Tryd.prog 113 = some (AV.v (Value.int IntKind.i64 0)) := by kernel_rfl
@[simp] theorem k_ok114 : okT Tryd.prog 114 = true := by kernel_rfl
@[simp] theorem k_agg114 : aggB Tryd.prog 114 = false := by kernel_rfl
@[simp] theorem k_cells114 : Tryd.prog.cellsOf 114 = 1 := by kernel_rfl
@[simp] theorem k_bytes114 : Tryd.prog.bytesOf 114 = 0 := by kernel_rfl
@[simp] theorem k_eq114 : eqKinds Tryd.prog 114 = none := by kernel_rfl
@[simp] theorem k_guard114 : Tryd.prog.eqGuardType Tryd.prog.depth 114 = false := by kernel_rfl
@[simp] theorem k_zero114 : zeroAV Tryd.prog 114 = some AV.u := by kernel_rfl
@[simp] theorem k_ok120 : okT Tryd.prog 120 = true := by kernel_rfl
@[simp] theorem k_agg120 : aggB Tryd.prog 120 = false := by kernel_rfl
@[simp] theorem k_cells120 : Tryd.prog.cellsOf 120 = 1 := by kernel_rfl
@[simp] theorem k_bytes120 : Tryd.prog.bytesOf 120 = 4 := by kernel_rfl
@[simp] theorem k_eq120 : eqKinds Tryd.prog 120 = some [SK.i] := by kernel_rfl
@[simp] theorem k_guard120 : Tryd.prog.eqGuardType Tryd.prog.depth 120 = false := by kernel_rfl
@[simp] theorem k_zero120 : zeroAV Tryd.prog 120 = some (AV.v (Value.int IntKind.u32 0)) := by kernel_rfl
@[simp] theorem k_ok122 : okT Tryd.prog 122 = true := by kernel_rfl
@[simp] theorem k_agg122 : aggB Tryd.prog 122 = false := by kernel_rfl
@[simp] theorem k_cells122 : Tryd.prog.cellsOf 122 = 1 := by kernel_rfl
@[simp] theorem k_bytes122 : Tryd.prog.bytesOf 122 = 8 := by kernel_rfl
@[simp] theorem k_eq122 : eqKinds Tryd.prog 122 = some [SK.i] := by kernel_rfl
@[simp] theorem k_guard122 : Tryd.prog.eqGuardType Tryd.prog.depth 122 = false := by kernel_rfl
@[simp] theorem k_zero122 : zeroAV Tryd.prog 122 = some (AV.v (Value.int IntKind.u64 0)) := by kernel_rfl
@[simp] theorem k_ok123 : okT Tryd.prog 123 = true := by kernel_rfl
@[simp] theorem k_agg123 : aggB Tryd.prog 123 = true := by kernel_rfl
@[simp] theorem k_cells123 : Tryd.prog.cellsOf 123 = 24 := by kernel_rfl
@[simp] theorem k_bytes123 : Tryd.prog.bytesOf 123 = 24 := by kernel_rfl
@[simp] theorem k_eq123 : eqKinds Tryd.prog 123 = none := by kernel_rfl
@[simp] theorem k_guard123 : Tryd.prog.eqGuardType Tryd.prog.depth 123 = false := by kernel_rfl
@[simp] theorem k_zero123 : zeroAV Tryd.prog 123 = some (AV.st [AV.v (Value.int IntKind.u8 0), AV.v (Value.int IntKind.u8 0), AV.v (Value.int IntKind.u8 0), AV.v (Value.int IntKind.u8 0), AV.v (Value.int IntKind.u8 0), AV.v (Value.int IntKind.u8 0), AV.v (Value.int IntKind.u8 0), AV.v (Value.int IntKind.u8 0), AV.v (Value.int IntKind.u8 0), AV.v (Value.int IntKind.u8 0), AV.v (Value.int IntKind.u8 0), AV.v (Value.int IntKind.u8 0), AV.v (Value.int IntKind.u8 0), AV.v (Value.int IntKind.u8 0), AV.v (Value.int IntKind.u8 0), AV.v (Value.int IntKind.u8 0), AV.v (Value.int IntKind.u8 0), AV.v (Value.int IntKind.u8 0), AV.v (Value.int IntKind.u8 0), AV.v (Value.int IntKind.u8 0), AV.v (Value.int IntKind.u8 0), AV.v (Value.int IntKind.u8 0), AV.v (Value.int IntKind.u8 0), AV.v (Value.int IntKind.u8 0)]) := by kernel_rfl
@[simp] theorem k_ok125 : okT Tryd.prog 125 = true := by kernel_rfl
@[simp] theorem k_agg125 : aggB Tryd.prog 125 = false := by kernel_rfl
@[simp] theorem k_cells125 : Tryd.prog.cellsOf 125 = 1 := by kernel_rfl
@[simp] theorem k_bytes125 : Tryd.prog.bytesOf 125 = 0 := by kernel_rfl
@[simp] theorem k_eq125 : eqKinds Tryd.prog 125 = none := by kernel_rfl
@[simp] theorem k_guard125 : Tryd.prog.eqGuardType Tryd.prog.depth 125 = false := by kernel_rfl
@[simp] theorem k_zero125 : zeroAV Tryd.prog 125 = some AV.u := by kernel_rfl
@[simp] theorem k_ok127 : okT Tryd.prog 127 = true := by kernel_rfl
@[simp] theorem k_agg127 : aggB Tryd.prog 127 = false := by kernel_rfl
@[simp] theorem k_cells127 : Tryd.prog.cellsOf 127 = 1 := by kernel_rfl
@[simp] theorem k_bytes127 : Tryd.prog.bytesOf 127 = 8 := by kernel_rfl
@[simp] theorem k_eq127 : eqKinds Tryd.prog 127 = some [SK.i] := by kernel_rfl
@[simp] theorem k_guard127 : Tryd.prog.eqGuardType Tryd.prog.depth 127 = false := by kernel_rfl
@[simp] theorem k_zero127 : zeroAV Tryd.prog 127 = some (AV.v (Value.int IntKind.u64 0)) := by kernel_rfl
@[simp] theorem k_ok131 : okT Tryd.prog 131 = true := by kernel_rfl
@[simp] theorem k_agg131 : aggB Tryd.prog 131 = false := by kernel_rfl
@[simp] theorem k_cells131 : Tryd.prog.cellsOf 131 = 1 := by kernel_rfl
@[simp] theorem k_bytes131 : Tryd.prog.bytesOf 131 = 8 := by kernel_rfl
@[simp] theorem k_eq131 : eqKinds Tryd.prog 131 = none := by kernel_rfl
@[simp] theorem k_guard131 : Tryd.prog.eqGuardType Tryd.prog.depth 131 = false := by kernel_rfl
@[simp] theorem k_zero131 : zeroAV Tryd.prog 131 = some (AV.v (Value.pointer none)) := by kernel_rfl
@[simp] theorem k_ok132 : okT Tryd.prog 132 = true := by kernel_rfl
@[simp] theorem k_agg132 : aggB Tryd.prog 132 = false := by kernel_rfl
@[simp] theorem k_cells132 : Tryd.prog.cellsOf 132 = 1 := by kernel_rfl
@[simp] theorem k_bytes132 : Tryd.prog.bytesOf 132 = 8 := by kernel_rfl
@[simp] theorem k_eq132 : eqKinds Tryd.prog 132 = none := by kernel_rfl
@[simp] theorem k_guard132 : Tryd.prog.eqGuardType Tryd.prog.depth 132 = false := by kernel_rfl
@[simp] theorem k_zero132 : zeroAV Tryd.prog 132 = some (AV.v Value.nilFunc) := by kernel_rfl
@[simp] theorem k_ok137 : okT Tryd.prog 137 = true := by kernel_rfl
@[simp] theorem k_agg137 : aggB Tryd.prog 137 = false := by kernel_rfl
@[simp] theorem k_cells137 : Tryd.prog.cellsOf 137 = 1 := by kernel_rfl
@[simp] theorem k_bytes137 : Tryd.prog.bytesOf 137 = 8 := by kernel_rfl
@[simp] theorem k_eq137 : eqKinds Tryd.prog 137 = none := by kernel_rfl
@[simp] theorem k_guard137 : Tryd.prog.eqGuardType Tryd.prog.depth 137 = false := by kernel_rfl
@[simp] theorem k_zero137 : zeroAV Tryd.prog 137 = some (AV.v (Value.pointer none)) := by kernel_rfl
@[simp] theorem k_ok138 : okT Tryd.prog 138 = true := by kernel_rfl
@[simp] theorem k_agg138 : aggB Tryd.prog 138 = false := by kernel_rfl
@[simp] theorem k_cells138 : Tryd.prog.cellsOf 138 = 1 := by kernel_rfl
@[simp] theorem k_bytes138 : Tryd.prog.bytesOf 138 = 0 := by kernel_rfl
@[simp] theorem k_eq138 : eqKinds Tryd.prog 138 = none := by kernel_rfl
@[simp] theorem k_guard138 : Tryd.prog.eqGuardType Tryd.prog.depth 138 = false := by kernel_rfl
@[simp] theorem k_zero138 : zeroAV Tryd.prog 138 = some AV.u := by kernel_rfl
attribute [simp] Tryd.underlying0 Tryd.underlying1 Tryd.underlying2 Tryd.underlying3 Tryd.underlying4 Tryd.underlying5 Tryd.underlying9
attribute [simp] Tryd.underlying22 Tryd.underlying23 Tryd.underlying24 Tryd.underlying25 Tryd.underlying27 Tryd.underlying29
attribute [simp] Tryd.underlying30 Tryd.underlying31 Tryd.underlying32 Tryd.underlying33 Tryd.underlying34 Tryd.underlying36 Tryd.underlying37 Tryd.underlying38 Tryd.underlying39
attribute [simp] Tryd.underlying40 Tryd.underlying41 Tryd.underlying43 Tryd.underlying48 Tryd.underlying49
attribute [simp] Tryd.underlying50 Tryd.underlying51 Tryd.underlying52 Tryd.underlying53 Tryd.underlying54 Tryd.underlying55 Tryd.underlying56 Tryd.underlying57
attribute [simp] Tryd.underlying64 Tryd.underlying65 Tryd.underlying69
attribute [simp] Tryd.underlying70 Tryd.underlying71 Tryd.underlying77 Tryd.underlying78 Tryd.underlying79
attribute [simp] Tryd.underlying80 Tryd.underlying83 Tryd.underlying84
attribute [simp] Tryd.underlying90 Tryd.underlying95 Tryd.underlying96 Tryd.underlying97 Tryd.underlying98 Tryd.underlying99
attribute [simp] Tryd.underlying100 Tryd.underlying101 Tryd.underlying107 Tryd.underlying109
attribute [simp] Tryd.underlying113 Tryd.underlying114
attribute [simp] Tryd.underlying120 Tryd.underlying122 Tryd.underlying123 Tryd.underlying125 Tryd.underlying127
attribute [simp] Tryd.underlying131 Tryd.underlying132 Tryd.underlying137 Tryd.underlying138
theorem mixed : Tryd.prog.follows .mixedOrders = true := by kernel_rfl
end Go.Proofs.YtbibemijcdkjhaaDoor
