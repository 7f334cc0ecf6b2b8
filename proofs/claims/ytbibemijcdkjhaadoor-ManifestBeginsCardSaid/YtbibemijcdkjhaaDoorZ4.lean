/- MADE BY A PROGRAM (mkfacts.py): the facts of this seat's types that the abstract machine asks for. -/
import Derived.Test.YtbibemijcdkjhaaDoorZ2
import Derived.Test.YtbibemijcdkjhaaDoorRows
import Derived.KernelRfl
set_option linter.unusedSimpArgs false
set_option linter.unusedVariables false
namespace Go.Proofs.YtbibemijcdkjhaaDoor
open Go.Am
@[simp] theorem k_ok0 : okT Tryd.prog 0 = true := by kernel_rfl
@[simp] theorem k_agg0 : aggB Tryd.prog 0 = false := by kernel_rfl
@[simp] theorem k_cells0 : Tryd.prog.cellsOf 0 = 1 := by kernel_rfl
@[simp] theorem k_bytes0 : Tryd.prog.bytesOf 0 = 0 := by kernel_rfl
@[simp] theorem k_eq0 : eqKinds Tryd.prog 0 = none := by kernel_rfl
@[simp] theorem k_guard0 : Tryd.prog.eqGuardType Tryd.prog.depth 0 = false := by kernel_rfl
@[simp] theorem k_zero0 : zeroAV Tryd.prog 0 = some (AV.tup []) := by kernel_rfl
@[simp] theorem k_ok1 : okT Tryd.prog 1 = true := by kernel_rfl
@[simp] theorem k_agg1 : aggB Tryd.prog 1 = false := by kernel_rfl
@[simp] theorem k_cells1 : Tryd.prog.cellsOf 1 = 1 := by kernel_rfl
@[simp] theorem k_bytes1 : Tryd.prog.bytesOf 1 = 8 := by kernel_rfl
@[simp] theorem k_eq1 : eqKinds Tryd.prog 1 = none := by kernel_rfl
@[simp] theorem k_guard1 : Tryd.prog.eqGuardType Tryd.prog.depth 1 = false := by kernel_rfl
@[simp] theorem k_zero1 : zeroAV Tryd.prog 1 = some (AV.v Value.nilFunc) := by kernel_rfl
@[simp] theorem k_ok2 : okT Tryd.prog 2 = true := by kernel_rfl
@[simp] theorem k_agg2 : aggB Tryd.prog 2 = false := by kernel_rfl
@[simp] theorem k_cells2 : Tryd.prog.cellsOf 2 = 1 := by kernel_rfl
@[simp] theorem k_bytes2 : Tryd.prog.bytesOf 2 = 8 := by kernel_rfl
@[simp] theorem k_eq2 : eqKinds Tryd.prog 2 = some [SK.i] := by kernel_rfl
@[simp] theorem k_guard2 : Tryd.prog.eqGuardType Tryd.prog.depth 2 = false := by kernel_rfl
@[simp] theorem k_zero2 : zeroAV Tryd.prog 2 = some (AV.v (Value.int IntKind.i64 0)) := by kernel_rfl
@[simp] theorem k_ok3 : okT Tryd.prog 3 = true := by kernel_rfl
@[simp] theorem k_agg3 : aggB Tryd.prog 3 = false := by kernel_rfl
@[simp] theorem k_cells3 : Tryd.prog.cellsOf 3 = 1 := by kernel_rfl
@[simp] theorem k_bytes3 : Tryd.prog.bytesOf 3 = 8 := by kernel_rfl
@[simp] theorem k_eq3 : eqKinds Tryd.prog 3 = some [SK.i] := by kernel_rfl
@[simp] theorem k_guard3 : Tryd.prog.eqGuardType Tryd.prog.depth 3 = false := by kernel_rfl
@[simp] theorem k_zero3 : zeroAV Tryd.prog 3 = some (AV.v (Value.int IntKind.i64 0)) := by kernel_rfl
@[simp] theorem k_ok4 : okT Tryd.prog 4 = true := by kernel_rfl
@[simp] theorem k_agg4 : aggB Tryd.prog 4 = false := by kernel_rfl
@[simp] theorem k_cells4 : Tryd.prog.cellsOf 4 = 1 := by kernel_rfl
@[simp] theorem k_bytes4 : Tryd.prog.bytesOf 4 = 1 := by kernel_rfl
@[simp] theorem k_eq4 : eqKinds Tryd.prog 4 = some [SK.b] := by kernel_rfl
@[simp] theorem k_guard4 : Tryd.prog.eqGuardType Tryd.prog.depth 4 = false := by kernel_rfl
@[simp] theorem k_zero4 : zeroAV Tryd.prog 4 = some (AV.v (Value.bool false)) := by kernel_rfl
@[simp] theorem k_ok5 : okT Tryd.prog 5 = true := by kernel_rfl
@[simp] theorem k_agg5 : aggB Tryd.prog 5 = false := by kernel_rfl
@[simp] theorem k_cells5 : Tryd.prog.cellsOf 5 = 1 := by kernel_rfl
@[simp] theorem k_bytes5 : Tryd.prog.bytesOf 5 = 1 := by kernel_rfl
@[simp] theorem k_eq5 : eqKinds Tryd.prog 5 = some [SK.i] := by kernel_rfl
@[simp] theorem k_guard5 : Tryd.prog.eqGuardType Tryd.prog.depth 5 = false := by kernel_rfl
@[simp] theorem k_zero5 : zeroAV Tryd.prog 5 = some (AV.v (Value.int IntKind.u8 0)) := by kernel_rfl
@[simp] theorem k_ok6 : okT Tryd.prog 6 = true := by kernel_rfl
@[simp] theorem k_agg6 : aggB Tryd.prog 6 = false := by kernel_rfl
@[simp] theorem k_cells6 : Tryd.prog.cellsOf 6 = 1 := by kernel_rfl
@[simp] theorem k_bytes6 : Tryd.prog.bytesOf 6 = 1 := by kernel_rfl
@[simp] theorem k_eq6 : eqKinds Tryd.prog 6 = some [SK.i] := by kernel_rfl
@[simp] theorem k_guard6 : Tryd.prog.eqGuardType Tryd.prog.depth 6 = false := by kernel_rfl
@[simp] theorem k_zero6 : zeroAV Tryd.prog 6 = some (AV.v (Value.int IntKind.u8 0)) := by kernel_rfl
@[simp] theorem k_ok7 : okT Tryd.prog 7 = true := by kernel_rfl
@[simp] theorem k_agg7 : aggB Tryd.prog 7 = true := by kernel_rfl
@[simp] theorem k_cells7 : Tryd.prog.cellsOf 7 = 4 := by kernel_rfl
@[simp] theorem k_bytes7 : Tryd.prog.bytesOf 7 = 24 := by kernel_rfl
@[simp] theorem k_eq7 : eqKinds Tryd.prog 7 = some [SK.i, SK.i, SK.b, SK.i] := by kernel_rfl
@[simp] theorem k_guard7 : Tryd.prog.eqGuardType Tryd.prog.depth 7 = false := by kernel_rfl
@[simp] theorem k_zero7 : zeroAV Tryd.prog 7 = some (AV.st [AV.v (Value.int IntKind.i64 0), AV.v (Value.int IntKind.i64 0), AV.v (Value.bool false), AV.v (Value.int IntKind.u8 0)]) := by kernel_rfl
@[simp] theorem k_ok8 : okT Tryd.prog 8 = true := by kernel_rfl
@[simp] theorem k_agg8 : aggB Tryd.prog 8 = true := by kernel_rfl
@[simp] theorem k_cells8 : Tryd.prog.cellsOf 8 = 4 := by kernel_rfl
@[simp] theorem k_bytes8 : Tryd.prog.bytesOf 8 = 24 := by kernel_rfl
@[simp] theorem k_eq8 : eqKinds Tryd.prog 8 = some [SK.i, SK.i, SK.b, SK.i] := by kernel_rfl
@[simp] theorem k_guard8 : Tryd.prog.eqGuardType Tryd.prog.depth 8 = false := by kernel_rfl
@[simp] theorem k_zero8 : zeroAV Tryd.prog 8 = some (AV.st [AV.v (Value.int IntKind.i64 0), AV.v (Value.int IntKind.i64 0), AV.v (Value.bool false), AV.v (Value.int IntKind.u8 0)]) := by kernel_rfl
@[simp] theorem k_ok9 : okT Tryd.prog 9 = true := by kernel_rfl
@[simp] theorem k_agg9 : aggB Tryd.prog 9 = false := by kernel_rfl
@[simp] theorem k_cells9 : Tryd.prog.cellsOf 9 = 1 := by kernel_rfl
@[simp] theorem k_bytes9 : Tryd.prog.bytesOf 9 = 16 := by kernel_rfl
@[simp] theorem k_eq9 : eqKinds Tryd.prog 9 = some [SK.s] := by kernel_rfl
@[simp] theorem k_guard9 : Tryd.prog.eqGuardType Tryd.prog.depth 9 = false := by kernel_rfl
@[simp] theorem k_zero9 : zeroAV Tryd.prog 9 = some (AV.v (Value.string { data := { toList := [] } })) := by kernel_rfl
@[simp] theorem k_ok10 : okT Tryd.prog 10 = true := by kernel_rfl
@[simp] theorem k_agg10 : aggB Tryd.prog 10 = false := by kernel_rfl
@[simp] theorem k_cells10 : Tryd.prog.cellsOf 10 = 1 := by kernel_rfl
@[simp] theorem k_bytes10 : Tryd.prog.bytesOf 10 = 16 := by kernel_rfl
@[simp] theorem k_eq10 : eqKinds Tryd.prog 10 = some [SK.s] := by kernel_rfl
@[simp] theorem k_guard10 : Tryd.prog.eqGuardType Tryd.prog.depth 10 = false := by kernel_rfl
@[simp] theorem k_zero10 : zeroAV Tryd.prog 10 = some (AV.v (Value.string { data := { toList := [] } })) := by kernel_rfl
@[simp] theorem k_ok11 : okT Tryd.prog 11 = true := by kernel_rfl
@[simp] theorem k_agg11 : aggB Tryd.prog 11 = false := by kernel_rfl
@[simp] theorem k_cells11 : Tryd.prog.cellsOf 11 = 1 := by kernel_rfl
@[simp] theorem k_bytes11 : Tryd.prog.bytesOf 11 = 16 := by kernel_rfl
@[simp] theorem k_eq11 : eqKinds Tryd.prog 11 = some [SK.s] := by kernel_rfl
@[simp] theorem k_guard11 : Tryd.prog.eqGuardType Tryd.prog.depth 11 = false := by kernel_rfl
@[simp] theorem k_zero11 : zeroAV Tryd.prog 11 = some (AV.v (Value.string { data := { toList := [] } })) := by kernel_rfl
@[simp] theorem k_ok12 : okT Tryd.prog 12 = true := by kernel_rfl
@[simp] theorem k_agg12 : aggB Tryd.prog 12 = false := by kernel_rfl
@[simp] theorem k_cells12 : Tryd.prog.cellsOf 12 = 1 := by kernel_rfl
@[simp] theorem k_bytes12 : Tryd.prog.bytesOf 12 = 8 := by kernel_rfl
@[simp] theorem k_eq12 : eqKinds Tryd.prog 12 = some [SK.i] := by kernel_rfl
@[simp] theorem k_guard12 : Tryd.prog.eqGuardType Tryd.prog.depth 12 = false := by kernel_rfl
@[simp] theorem k_zero12 : zeroAV Tryd.prog 12 = some (AV.v (Value.int IntKind.u64 0)) := by kernel_rfl
@[simp] theorem k_ok13 : okT Tryd.prog 13 = true := by kernel_rfl
@[simp] theorem k_agg13 : aggB Tryd.prog 13 = true := by kernel_rfl
@[simp] theorem k_cells13 : Tryd.prog.cellsOf 13 = 2 := by kernel_rfl
@[simp] theorem k_bytes13 : Tryd.prog.bytesOf 13 = 24 := by kernel_rfl
@[simp] theorem k_eq13 : eqKinds Tryd.prog 13 = none := by kernel_rfl
@[simp] theorem k_guard13 : Tryd.prog.eqGuardType Tryd.prog.depth 13 = false := by kernel_rfl
@[simp] theorem k_zero13 : zeroAV Tryd.prog 13 = some (AV.st [AV.v (Value.string { data := { toList := [] } }), AV.v (Value.int IntKind.u64 0)]) := by kernel_rfl
@[simp] theorem k_ok14 : okT Tryd.prog 14 = true := by kernel_rfl
@[simp] theorem k_agg14 : aggB Tryd.prog 14 = true := by kernel_rfl
@[simp] theorem k_cells14 : Tryd.prog.cellsOf 14 = 2 := by kernel_rfl
@[simp] theorem k_bytes14 : Tryd.prog.bytesOf 14 = 24 := by kernel_rfl
@[simp] theorem k_eq14 : eqKinds Tryd.prog 14 = none := by kernel_rfl
@[simp] theorem k_guard14 : Tryd.prog.eqGuardType Tryd.prog.depth 14 = false := by kernel_rfl
@[simp] theorem k_zero14 : zeroAV Tryd.prog 14 = some (AV.st [AV.v (Value.string { data := { toList := [] } }), AV.v (Value.int IntKind.u64 0)]) := by kernel_rfl
@[simp] theorem k_ok15 : okT Tryd.prog 15 = true := by kernel_rfl
@[simp] theorem k_agg15 : aggB Tryd.prog 15 = false := by kernel_rfl
@[simp] theorem k_cells15 : Tryd.prog.cellsOf 15 = 1 := by kernel_rfl
@[simp] theorem k_bytes15 : Tryd.prog.bytesOf 15 = 8 := by kernel_rfl
@[simp] theorem k_eq15 : eqKinds Tryd.prog 15 = none := by kernel_rfl
@[simp] theorem k_guard15 : Tryd.prog.eqGuardType Tryd.prog.depth 15 = false := by kernel_rfl
@[simp] theorem k_zero15 : zeroAV Tryd.prog 15 = some (AV.v (Value.pointer none)) := by kernel_rfl
@[simp] theorem k_ok16 : okT Tryd.prog 16 = true := by kernel_rfl
@[simp] theorem k_agg16 : aggB Tryd.prog 16 = false := by kernel_rfl
@[simp] theorem k_cells16 : Tryd.prog.cellsOf 16 = 1 := by kernel_rfl
@[simp] theorem k_bytes16 : Tryd.prog.bytesOf 16 = 8 := by kernel_rfl
@[simp] theorem k_eq16 : eqKinds Tryd.prog 16 = none := by kernel_rfl
@[simp] theorem k_guard16 : Tryd.prog.eqGuardType Tryd.prog.depth 16 = false := by kernel_rfl
@[simp] theorem k_zero16 : zeroAV Tryd.prog 16 = some (AV.v (Value.pointer none)) := by kernel_rfl
@[simp] theorem k_ok17 : okT Tryd.prog 17 = true := by kernel_rfl
@[simp] theorem k_agg17 : aggB Tryd.prog 17 = false := by kernel_rfl
@[simp] theorem k_cells17 : Tryd.prog.cellsOf 17 = 1 := by kernel_rfl
@[simp] theorem k_bytes17 : Tryd.prog.bytesOf 17 = 8 := by kernel_rfl
@[simp] theorem k_eq17 : eqKinds Tryd.prog 17 = none := by kernel_rfl
@[simp] theorem k_guard17 : Tryd.prog.eqGuardType Tryd.prog.depth 17 = false := by kernel_rfl
@[simp] theorem k_zero17 : zeroAV Tryd.prog 17 = some (AV.v (Value.pointer none)) := by kernel_rfl
@[simp] theorem k_ok18 : okT Tryd.prog 18 = true := by kernel_rfl
@[simp] theorem k_agg18 : aggB Tryd.prog 18 = true := by kernel_rfl
@[simp] theorem k_cells18 : Tryd.prog.cellsOf 18 = 1 := by kernel_rfl
@[simp] theorem k_bytes18 : Tryd.prog.bytesOf 18 = 8 := by kernel_rfl
@[simp] theorem k_eq18 : eqKinds Tryd.prog 18 = none := by kernel_rfl
@[simp] theorem k_guard18 : Tryd.prog.eqGuardType Tryd.prog.depth 18 = false := by kernel_rfl
@[simp] theorem k_zero18 : zeroAV Tryd.prog 18 = some (AV.st [AV.v (Value.pointer none)]) := by kernel_rfl
@[simp] theorem k_ok19 : okT Tryd.prog 19 = true := by kernel_rfl
@[simp] theorem k_agg19 : aggB Tryd.prog 19 = true := by kernel_rfl
@[simp] theorem k_cells19 : Tryd.prog.cellsOf 19 = 1 := by kernel_rfl
@[simp] theorem k_bytes19 : Tryd.prog.bytesOf 19 = 8 := by kernel_rfl
@[simp] theorem k_eq19 : eqKinds Tryd.prog 19 = none := by kernel_rfl
@[simp] theorem k_guard19 : Tryd.prog.eqGuardType Tryd.prog.depth 19 = false := by kernel_rfl
@[simp] theorem k_zero19 : zeroAV Tryd.prog 19 = some (AV.st [AV.v (Value.pointer none)]) := by kernel_rfl
@[simp] theorem k_ok20 : okT Tryd.prog 20 = true := by kernel_rfl
@[simp] theorem k_agg20 : aggB Tryd.prog 20 = false := by kernel_rfl
@[simp] theorem k_cells20 : Tryd.prog.cellsOf 20 = 1 := by kernel_rfl
@[simp] theorem k_bytes20 : Tryd.prog.bytesOf 20 = 16 := by kernel_rfl
@[simp] theorem k_eq20 : eqKinds Tryd.prog 20 = none := by kernel_rfl
@[simp] theorem k_guard20 : Tryd.prog.eqGuardType Tryd.prog.depth 20 = false := by kernel_rfl
@[simp] theorem k_zero20 : zeroAV Tryd.prog 20 = some (AV.v Value.nilIface) := by kernel_rfl
@[simp] theorem k_ok21 : okT Tryd.prog 21 = true := by kernel_rfl
@[simp] theorem k_agg21 : aggB Tryd.prog 21 = false := by kernel_rfl
@[simp] theorem k_cells21 : Tryd.prog.cellsOf 21 = 1 := by kernel_rfl
@[simp] theorem k_bytes21 : Tryd.prog.bytesOf 21 = 4 := by kernel_rfl
@[simp] theorem k_eq21 : eqKinds Tryd.prog 21 = some [SK.i] := by kernel_rfl
@[simp] theorem k_guard21 : Tryd.prog.eqGuardType Tryd.prog.depth 21 = false := by kernel_rfl
@[simp] theorem k_zero21 : zeroAV Tryd.prog 21 = some (AV.v (Value.int IntKind.i32 0)) := by kernel_rfl
@[simp] theorem k_ok22 : okT Tryd.prog 22 = true := by kernel_rfl
@[simp] theorem k_agg22 : aggB Tryd.prog 22 = true := by kernel_rfl
@[simp] theorem k_cells22 : Tryd.prog.cellsOf 22 = 6 := by kernel_rfl
@[simp] theorem k_bytes22 : Tryd.prog.bytesOf 22 = 48 := by kernel_rfl
@[simp] theorem k_eq22 : eqKinds Tryd.prog 22 = some [SK.i, SK.i, SK.i, SK.i, SK.i, SK.i] := by kernel_rfl
@[simp] theorem k_guard22 : Tryd.prog.eqGuardType Tryd.prog.depth 22 = false := by kernel_rfl
@[simp] theorem k_zero22 : zeroAV Tryd.prog 22 = some (AV.st [AV.v (Value.int IntKind.i64 0), AV.v (Value.int IntKind.i64 0), AV.v (Value.int IntKind.i64 0), AV.v (Value.int IntKind.i64 0), AV.v (Value.int IntKind.i64 0), AV.v (Value.int IntKind.i64 0)]) := by kernel_rfl
@[simp] theorem k_ok23 : okT Tryd.prog 23 = true := by kernel_rfl
@[simp] theorem k_agg23 : aggB Tryd.prog 23 = true := by kernel_rfl
@[simp] theorem k_cells23 : Tryd.prog.cellsOf 23 = 6 := by kernel_rfl
@[simp] theorem k_bytes23 : Tryd.prog.bytesOf 23 = 48 := by kernel_rfl
@[simp] theorem k_eq23 : eqKinds Tryd.prog 23 = some [SK.i, SK.i, SK.i, SK.i, SK.i, SK.i] := by kernel_rfl
@[simp] theorem k_guard23 : Tryd.prog.eqGuardType Tryd.prog.depth 23 = false := by kernel_rfl
@[simp] theorem k_zero23 : zeroAV Tryd.prog 23 = some (AV.st [AV.v (Value.int IntKind.i64 0), AV.v (Value.int IntKind.i64 0), AV.v (Value.int IntKind.i64 0), AV.v (Value.int IntKind.i64 0), AV.v (Value.int IntKind.i64 0), AV.v (Value.int IntKind.i64 0)]) := by kernel_rfl
@[simp] theorem k_ok24 : okT Tryd.prog 24 = true := by kernel_rfl
@[simp] theorem k_agg24 : aggB Tryd.prog 24 = true := by kernel_rfl
@[simp] theorem k_cells24 : Tryd.prog.cellsOf 24 = 9 := by kernel_rfl
@[simp] theorem k_bytes24 : Tryd.prog.bytesOf 24 = 72 := by kernel_rfl
@[simp] theorem k_eq24 : eqKinds Tryd.prog 24 = some [SK.i, SK.i, SK.i, SK.i, SK.i, SK.i, SK.i, SK.i, SK.i] := by kernel_rfl
@[simp] theorem k_guard24 : Tryd.prog.eqGuardType Tryd.prog.depth 24 = false := by kernel_rfl
@[simp] theorem k_zero24 : zeroAV Tryd.prog 24 = some (AV.st [AV.v (Value.int IntKind.i64 0), AV.v (Value.int IntKind.i64 0), AV.v (Value.int IntKind.i64 0), AV.v (Value.int IntKind.i64 0), AV.v (Value.int IntKind.i64 0), AV.v (Value.int IntKind.i64 0), AV.v (Value.int IntKind.i64 0), AV.v (Value.int IntKind.i64 0), AV.v (Value.int IntKind.i64 0)]) := by kernel_rfl
@[simp] theorem k_ok25 : okT Tryd.prog 25 = true := by kernel_rfl
@[simp] theorem k_agg25 : aggB Tryd.prog 25 = true := by kernel_rfl
@[simp] theorem k_cells25 : Tryd.prog.cellsOf 25 = 9 := by kernel_rfl
@[simp] theorem k_bytes25 : Tryd.prog.bytesOf 25 = 72 := by kernel_rfl
@[simp] theorem k_eq25 : eqKinds Tryd.prog 25 = some [SK.i, SK.i, SK.i, SK.i, SK.i, SK.i, SK.i, SK.i, SK.i] := by kernel_rfl
@[simp] theorem k_guard25 : Tryd.prog.eqGuardType Tryd.prog.depth 25 = false := by kernel_rfl
@[simp] theorem k_zero25 : zeroAV Tryd.prog 25 = some (AV.st [AV.v (Value.int IntKind.i64 0), AV.v (Value.int IntKind.i64 0), AV.v (Value.int IntKind.i64 0), AV.v (Value.int IntKind.i64 0), AV.v (Value.int IntKind.i64 0), AV.v (Value.int IntKind.i64 0), AV.v (Value.int IntKind.i64 0), AV.v (Value.int IntKind.i64 0), AV.v (Value.int IntKind.i64 0)]) := by kernel_rfl
@[simp] theorem k_ok26 : okT Tryd.prog 26 = true := by kernel_rfl
@[simp] theorem k_agg26 : aggB Tryd.prog 26 = false := by kernel_rfl
@[simp] theorem k_cells26 : Tryd.prog.cellsOf 26 = 1 := by kernel_rfl
@[simp] theorem k_bytes26 : Tryd.prog.bytesOf 26 = 8 := by kernel_rfl
@[simp] theorem k_eq26 : eqKinds Tryd.prog 26 = none := by kernel_rfl
@[simp] theorem k_guard26 : Tryd.prog.eqGuardType Tryd.prog.depth 26 = false := by kernel_rfl
@[simp] theorem k_zero26 : zeroAV Tryd.prog 26 = some (AV.v Value.nilFunc) := by kernel_rfl
@[simp] theorem k_ok27 : okT Tryd.prog 27 = true := by kernel_rfl
@[simp] theorem k_agg27 : aggB Tryd.prog 27 = false := by kernel_rfl
@[simp] theorem k_cells27 : Tryd.prog.cellsOf 27 = 1 := by kernel_rfl
@[simp] theorem k_bytes27 : Tryd.prog.bytesOf 27 = 8 := by kernel_rfl
@[simp] theorem k_eq27 : eqKinds Tryd.prog 27 = some [SK.i] := by kernel_rfl
@[simp] theorem k_guard27 : Tryd.prog.eqGuardType Tryd.prog.depth 27 = false := by kernel_rfl
@[simp] theorem k_zero27 : zeroAV Tryd.prog 27 = some (AV.v (Value.int IntKind.i64 0)) := by kernel_rfl
@[simp] theorem k_ok28 : okT Tryd.prog 28 = true := by kernel_rfl
@[simp] theorem k_agg28 : aggB Tryd.prog 28 = false := by kernel_rfl
@[simp] theorem k_cells28 : Tryd.prog.cellsOf 28 = 1 := by kernel_rfl
@[simp] theorem k_bytes28 : Tryd.prog.bytesOf 28 = 8 := by kernel_rfl
@[simp] theorem k_eq28 : eqKinds Tryd.prog 28 = none := by kernel_rfl
@[simp] theorem k_guard28 : Tryd.prog.eqGuardType Tryd.prog.depth 28 = false := by kernel_rfl
@[simp] theorem k_zero28 : zeroAV Tryd.prog 28 = some (AV.v Value.nilFunc) := by kernel_rfl
@[simp] theorem k_ok29 : okT Tryd.prog 29 = true := by kernel_rfl
@[simp] theorem k_agg29 : aggB Tryd.prog 29 = false := by kernel_rfl
@[simp] theorem k_cells29 : Tryd.prog.cellsOf 29 = 1 := by kernel_rfl
@[simp] theorem k_bytes29 : Tryd.prog.bytesOf 29 = 8 := by kernel_rfl
@[simp] theorem k_eq29 : eqKinds Tryd.prog 29 = none := by kernel_rfl
@[simp] theorem k_guard29 : Tryd.prog.eqGuardType Tryd.prog.depth 29 = false := by kernel_rfl
@[simp] theorem k_zero29 : zeroAV Tryd.prog 29 = some (AV.v Value.nilFunc) := by kernel_rfl
@[simp] theorem k_ok30 : okT Tryd.prog 30 = true := by kernel_rfl
@[simp] theorem k_agg30 : aggB Tryd.prog 30 = false := by kernel_rfl
@[simp] theorem k_cells30 : Tryd.prog.cellsOf 30 = 1 := by kernel_rfl
@[simp] theorem k_bytes30 : Tryd.prog.bytesOf 30 = 24 := by kernel_rfl
@[simp] theorem k_eq30 : eqKinds Tryd.prog 30 = none := by kernel_rfl
@[simp] theorem k_guard30 : Tryd.prog.eqGuardType Tryd.prog.depth 30 = false := by kernel_rfl
@[simp] theorem k_zero30 : zeroAV Tryd.prog 30 = some (AV.v (Value.slice none 0 0)) := by kernel_rfl
@[simp] theorem k_ok31 : okT Tryd.prog 31 = true := by kernel_rfl
@[simp] theorem k_agg31 : aggB Tryd.prog 31 = false := by kernel_rfl
@[simp] theorem k_cells31 : Tryd.prog.cellsOf 31 = 1 := by kernel_rfl
@[simp] theorem k_bytes31 : Tryd.prog.bytesOf 31 = 24 := by kernel_rfl
@[simp] theorem k_eq31 : eqKinds Tryd.prog 31 = none := by kernel_rfl
@[simp] theorem k_guard31 : Tryd.prog.eqGuardType Tryd.prog.depth 31 = false := by kernel_rfl
@[simp] theorem k_zero31 : zeroAV Tryd.prog 31 = some (AV.v (Value.slice none 0 0)) := by kernel_rfl
@[simp] theorem k_ok32 : okT Tryd.prog 32 = true := by kernel_rfl
@[simp] theorem k_agg32 : aggB Tryd.prog 32 = false := by kernel_rfl
@[simp] theorem k_cells32 : Tryd.prog.cellsOf 32 = 1 := by kernel_rfl
@[simp] theorem k_bytes32 : Tryd.prog.bytesOf 32 = 24 := by kernel_rfl
@[simp] theorem k_eq32 : eqKinds Tryd.prog 32 = none := by kernel_rfl
@[simp] theorem k_guard32 : Tryd.prog.eqGuardType Tryd.prog.depth 32 = false := by kernel_rfl
@[simp] theorem k_zero32 : zeroAV Tryd.prog 32 = some (AV.v (Value.slice none 0 0)) := by kernel_rfl
@[simp] theorem k_ok33 : okT Tryd.prog 33 = true := by kernel_rfl
@[simp] theorem k_agg33 : aggB Tryd.prog 33 = true := by kernel_rfl
@[simp] theorem k_cells33 : Tryd.prog.cellsOf 33 = 5 := by kernel_rfl
@[simp] theorem k_bytes33 : Tryd.prog.bytesOf 33 = 72 := by kernel_rfl
@[simp] theorem k_eq33 : eqKinds Tryd.prog 33 = none := by kernel_rfl
@[simp] theorem k_guard33 : Tryd.prog.eqGuardType Tryd.prog.depth 33 = false := by kernel_rfl
@[simp] theorem k_zero33 : zeroAV Tryd.prog 33 = some (AV.st [AV.v (Value.int IntKind.i64 0), AV.v (Value.int IntKind.i64 0), AV.v (Value.int IntKind.i64 0), AV.v (Value.slice none 0 0), AV.v (Value.slice none 0 0)]) := by kernel_rfl
@[simp] theorem k_ok34 : okT Tryd.prog 34 = true := by kernel_rfl
@[simp] theorem k_agg34 : aggB Tryd.prog 34 = true := by kernel_rfl
@[simp] theorem k_cells34 : Tryd.prog.cellsOf 34 = 5 := by kernel_rfl
@[simp] theorem k_bytes34 : Tryd.prog.bytesOf 34 = 72 := by kernel_rfl
@[simp] theorem k_eq34 : eqKinds Tryd.prog 34 = none := by kernel_rfl
@[simp] theorem k_guard34 : Tryd.prog.eqGuardType Tryd.prog.depth 34 = false := by kernel_rfl
@[simp] theorem k_zero34 : zeroAV Tryd.prog 34 = some (AV.st [AV.v (Value.int IntKind.i64 0), AV.v (Value.int IntKind.i64 0), AV.v (Value.int IntKind.i64 0), AV.v (Value.slice none 0 0), AV.v (Value.slice none 0 0)]) := by kernel_rfl
@[simp] theorem k_ok35 : okT Tryd.prog 35 = true := by kernel_rfl
@[simp] theorem k_agg35 : aggB Tryd.prog 35 = false := by kernel_rfl
@[simp] theorem k_cells35 : Tryd.prog.cellsOf 35 = 1 := by kernel_rfl
@[simp] theorem k_bytes35 : Tryd.prog.bytesOf 35 = 8 := by kernel_rfl
@[simp] theorem k_eq35 : eqKinds Tryd.prog 35 = none := by kernel_rfl
@[simp] theorem k_guard35 : Tryd.prog.eqGuardType Tryd.prog.depth 35 = false := by kernel_rfl
@[simp] theorem k_zero35 : zeroAV Tryd.prog 35 = some (AV.v Value.nilFunc) := by kernel_rfl
@[simp] theorem k_ok36 : okT Tryd.prog 36 = true := by kernel_rfl
@[simp] theorem k_agg36 : aggB Tryd.prog 36 = false := by kernel_rfl
@[simp] theorem k_cells36 : Tryd.prog.cellsOf 36 = 1 := by kernel_rfl
@[simp] theorem k_bytes36 : Tryd.prog.bytesOf 36 = 8 := by kernel_rfl
@[simp] theorem k_eq36 : eqKinds Tryd.prog 36 = none := by kernel_rfl
@[simp] theorem k_guard36 : Tryd.prog.eqGuardType Tryd.prog.depth 36 = false := by kernel_rfl
@[simp] theorem k_zero36 : zeroAV Tryd.prog 36 = some (AV.v (Value.pointer none)) := by kernel_rfl
@[simp] theorem k_ok37 : okT Tryd.prog 37 = true := by kernel_rfl
@[simp] theorem k_agg37 : aggB Tryd.prog 37 = false := by kernel_rfl
@[simp] theorem k_cells37 : Tryd.prog.cellsOf 37 = 1 := by kernel_rfl
@[simp] theorem k_bytes37 : Tryd.prog.bytesOf 37 = 24 := by kernel_rfl
@[simp] theorem k_eq37 : eqKinds Tryd.prog 37 = none := by kernel_rfl
@[simp] theorem k_guard37 : Tryd.prog.eqGuardType Tryd.prog.depth 37 = false := by kernel_rfl
@[simp] theorem k_zero37 : zeroAV Tryd.prog 37 = some (AV.v (Value.slice none 0 0)) := by kernel_rfl
@[simp] theorem k_ok38 : okT Tryd.prog 38 = true := by kernel_rfl
@[simp] theorem k_agg38 : aggB Tryd.prog 38 = true := by kernel_rfl
@[simp] theorem k_cells38 : Tryd.prog.cellsOf 38 = 3 := by kernel_rfl
@[simp] theorem k_bytes38 : Tryd.prog.bytesOf 38 = 40 := by kernel_rfl
@[simp] theorem k_eq38 : eqKinds Tryd.prog 38 = none := by kernel_rfl
@[simp] theorem k_guard38 : Tryd.prog.eqGuardType Tryd.prog.depth 38 = false := by kernel_rfl
@[simp] theorem k_zero38 : zeroAV Tryd.prog 38 = some (AV.st [AV.v (Value.int IntKind.i64 0), AV.v (Value.int IntKind.i64 0), AV.v (Value.slice none 0 0)]) := by kernel_rfl
@[simp] theorem k_ok39 : okT Tryd.prog 39 = true := by kernel_rfl
@[simp] theorem k_agg39 : aggB Tryd.prog 39 = true := by kernel_rfl
@[simp] theorem k_cells39 : Tryd.prog.cellsOf 39 = 3 := by kernel_rfl
@[simp] theorem k_bytes39 : Tryd.prog.bytesOf 39 = 40 := by kernel_rfl
@[simp] theorem k_eq39 : eqKinds Tryd.prog 39 = none := by kernel_rfl
@[simp] theorem k_guard39 : Tryd.prog.eqGuardType Tryd.prog.depth 39 = false := by kernel_rfl
@[simp] theorem k_zero39 : zeroAV Tryd.prog 39 = some (AV.st [AV.v (Value.int IntKind.i64 0), AV.v (Value.int IntKind.i64 0), AV.v (Value.slice none 0 0)]) := by kernel_rfl
@[simp] theorem k_ok40 : okT Tryd.prog 40 = true := by kernel_rfl
@[simp] theorem k_agg40 : aggB Tryd.prog 40 = false := by kernel_rfl
@[simp] theorem k_cells40 : Tryd.prog.cellsOf 40 = 1 := by kernel_rfl
@[simp] theorem k_bytes40 : Tryd.prog.bytesOf 40 = 24 := by kernel_rfl
@[simp] theorem k_eq40 : eqKinds Tryd.prog 40 = none := by kernel_rfl
@[simp] theorem k_guard40 : Tryd.prog.eqGuardType Tryd.prog.depth 40 = false := by kernel_rfl
@[simp] theorem k_zero40 : zeroAV Tryd.prog 40 = some (AV.v (Value.slice none 0 0)) := by kernel_rfl
@[simp] theorem k_ok41 : okT Tryd.prog 41 = true := by kernel_rfl
@[simp] theorem k_agg41 : aggB Tryd.prog 41 = false := by kernel_rfl
@[simp] theorem k_cells41 : Tryd.prog.cellsOf 41 = 1 := by kernel_rfl
@[simp] theorem k_bytes41 : Tryd.prog.bytesOf 41 = 0 := by kernel_rfl
@[simp] theorem k_eq41 : eqKinds Tryd.prog 41 = none := by kernel_rfl
@[simp] theorem k_guard41 : Tryd.prog.eqGuardType Tryd.prog.depth 41 = false := by kernel_rfl
@[simp] theorem k_zero41 : zeroAV Tryd.prog 41 = some AV.u := by kernel_rfl
@[simp] theorem k_ok42 : okT Tryd.prog 42 = true := by kernel_rfl
@[simp] theorem k_agg42 : aggB Tryd.prog 42 = false := by kernel_rfl
@[simp] theorem k_cells42 : Tryd.prog.cellsOf 42 = 1 := by kernel_rfl
@[simp] theorem k_bytes42 : Tryd.prog.bytesOf 42 = 8 := by kernel_rfl
@[simp] theorem k_eq42 : eqKinds Tryd.prog 42 = none := by kernel_rfl
@[simp] theorem k_guard42 : Tryd.prog.eqGuardType Tryd.prog.depth 42 = false := by kernel_rfl
@[simp] theorem k_zero42 : zeroAV Tryd.prog 42 = some (AV.v Value.nilFunc) := by kernel_rfl
@[simp] theorem k_ok43 : okT Tryd.prog 43 = true := by kernel_rfl
@[simp] theorem k_agg43 : aggB Tryd.prog 43 = false := by kernel_rfl
@[simp] theorem k_cells43 : Tryd.prog.cellsOf 43 = 1 := by kernel_rfl
@[simp] theorem k_bytes43 : Tryd.prog.bytesOf 43 = 8 := by kernel_rfl
@[simp] theorem k_eq43 : eqKinds Tryd.prog 43 = none := by kernel_rfl
@[simp] theorem k_guard43 : Tryd.prog.eqGuardType Tryd.prog.depth 43 = false := by kernel_rfl
@[simp] theorem k_zero43 : zeroAV Tryd.prog 43 = some (AV.v Value.nilFunc) := by kernel_rfl
@[simp] theorem k_ok44 : okT Tryd.prog 44 = true := by kernel_rfl
@[simp] theorem k_agg44 : aggB Tryd.prog 44 = false := by kernel_rfl
@[simp] theorem k_cells44 : Tryd.prog.cellsOf 44 = 1 := by kernel_rfl
@[simp] theorem k_bytes44 : Tryd.prog.bytesOf 44 = 8 := by kernel_rfl
@[simp] theorem k_eq44 : eqKinds Tryd.prog 44 = none := by kernel_rfl
@[simp] theorem k_guard44 : Tryd.prog.eqGuardType Tryd.prog.depth 44 = false := by kernel_rfl
@[simp] theorem k_zero44 : zeroAV Tryd.prog 44 = some (AV.v Value.nilFunc) := by kernel_rfl
@[simp] theorem k_ok45 : okT Tryd.prog 45 = true := by kernel_rfl
@[simp] theorem k_agg45 : aggB Tryd.prog 45 = false := by kernel_rfl
@[simp] theorem k_cells45 : Tryd.prog.cellsOf 45 = 1 := by kernel_rfl
@[simp] theorem k_bytes45 : Tryd.prog.bytesOf 45 = 8 := by kernel_rfl
@[simp] theorem k_eq45 : eqKinds Tryd.prog 45 = none := by kernel_rfl
@[simp] theorem k_guard45 : Tryd.prog.eqGuardType Tryd.prog.depth 45 = false := by kernel_rfl
@[simp] theorem k_zero45 : zeroAV Tryd.prog 45 = some (AV.v Value.nilFunc) := by kernel_rfl
@[simp] theorem k_ok46 : okT Tryd.prog 46 = true := by kernel_rfl
@[simp] theorem k_agg46 : aggB Tryd.prog 46 = false := by kernel_rfl
@[simp] theorem k_cells46 : Tryd.prog.cellsOf 46 = 1 := by kernel_rfl
@[simp] theorem k_bytes46 : Tryd.prog.bytesOf 46 = 8 := by kernel_rfl
@[simp] theorem k_eq46 : eqKinds Tryd.prog 46 = none := by kernel_rfl
@[simp] theorem k_guard46 : Tryd.prog.eqGuardType Tryd.prog.depth 46 = false := by kernel_rfl
@[simp] theorem k_zero46 : zeroAV Tryd.prog 46 = some (AV.v Value.nilFunc) := by kernel_rfl
@[simp] theorem k_ok47 : okT Tryd.prog 47 = true := by kernel_rfl
@[simp] theorem k_agg47 : aggB Tryd.prog 47 = false := by kernel_rfl
@[simp] theorem k_cells47 : Tryd.prog.cellsOf 47 = 1 := by kernel_rfl
@[simp] theorem k_bytes47 : Tryd.prog.bytesOf 47 = 8 := by kernel_rfl
@[simp] theorem k_eq47 : eqKinds Tryd.prog 47 = none := by kernel_rfl
@[simp] theorem k_guard47 : Tryd.prog.eqGuardType Tryd.prog.depth 47 = false := by kernel_rfl
@[simp] theorem k_zero47 : zeroAV Tryd.prog 47 = some (AV.v Value.nilFunc) := by kernel_rfl
@[simp] theorem k_ok48 : okT Tryd.prog 48 = true := by kernel_rfl
@[simp] theorem k_agg48 : aggB Tryd.prog 48 = false := by kernel_rfl
@[simp] theorem k_cells48 : Tryd.prog.cellsOf 48 = 1 := by kernel_rfl
@[simp] theorem k_bytes48 : Tryd.prog.bytesOf 48 = 8 := by kernel_rfl
@[simp] theorem k_eq48 : eqKinds Tryd.prog 48 = none := by kernel_rfl
@[simp] theorem k_guard48 : Tryd.prog.eqGuardType Tryd.prog.depth 48 = false := by kernel_rfl
@[simp] theorem k_zero48 : zeroAV Tryd.prog 48 = some (AV.v Value.nilFunc) := by kernel_rfl
@[simp] theorem k_ok49 : okT Tryd.prog 49 = true := by kernel_rfl
@[simp] theorem k_agg49 : aggB Tryd.prog 49 = false := by kernel_rfl
@[simp] theorem k_cells49 : Tryd.prog.cellsOf 49 = 1 := by kernel_rfl
@[simp] theorem k_bytes49 : Tryd.prog.bytesOf 49 = 8 := by kernel_rfl
@[simp] theorem k_eq49 : eqKinds Tryd.prog 49 = none := by kernel_rfl
@[simp] theorem k_guard49 : Tryd.prog.eqGuardType Tryd.prog.depth 49 = false := by kernel_rfl
@[simp] theorem k_zero49 : zeroAV Tryd.prog 49 = some (AV.v Value.nilFunc) := by kernel_rfl
@[simp] theorem k_ok50 : okT Tryd.prog 50 = true := by kernel_rfl
@[simp] theorem k_agg50 : aggB Tryd.prog 50 = false := by kernel_rfl
@[simp] theorem k_cells50 : Tryd.prog.cellsOf 50 = 1 := by kernel_rfl
@[simp] theorem k_bytes50 : Tryd.prog.bytesOf 50 = 1 := by kernel_rfl
@[simp] theorem k_eq50 : eqKinds Tryd.prog 50 = some [SK.i] := by kernel_rfl
@[simp] theorem k_guard50 : Tryd.prog.eqGuardType Tryd.prog.depth 50 = false := by kernel_rfl
@[simp] theorem k_zero50 : zeroAV Tryd.prog 50 = some (AV.v (Value.int IntKind.i8 0)) := by kernel_rfl
@[simp] theorem k_ok51 : okT Tryd.prog 51 = true := by kernel_rfl
@[simp] theorem k_agg51 : aggB Tryd.prog 51 = true := by kernel_rfl
@[simp] theorem k_cells51 : Tryd.prog.cellsOf 51 = 6 := by kernel_rfl
@[simp] theorem k_bytes51 : Tryd.prog.bytesOf 51 = 6 := by kernel_rfl
@[simp] theorem k_eq51 : eqKinds Tryd.prog 51 = none := by kernel_rfl
@[simp] theorem k_guard51 : Tryd.prog.eqGuardType Tryd.prog.depth 51 = false := by kernel_rfl
@[simp] theorem k_zero51 : zeroAV Tryd.prog 51 = some (AV.st [AV.v (Value.int IntKind.i8 0), AV.v (Value.int IntKind.i8 0), AV.v (Value.int IntKind.i8 0), AV.v (Value.int IntKind.i8 0), AV.v (Value.int IntKind.i8 0), AV.v (Value.int IntKind.i8 0)]) := by kernel_rfl
@[simp] theorem k_ok52 : okT Tryd.prog 52 = true := by kernel_rfl
@[simp] theorem k_agg52 : aggB Tryd.prog 52 = true := by kernel_rfl
@[simp] theorem k_cells52 : Tryd.prog.cellsOf 52 = 10 := by kernel_rfl
@[simp] theorem k_bytes52 : Tryd.prog.bytesOf 52 = 10 := by kernel_rfl
@[simp] theorem k_eq52 : eqKinds Tryd.prog 52 = none := by kernel_rfl
@[simp] theorem k_guard52 : Tryd.prog.eqGuardType Tryd.prog.depth 52 = false := by kernel_rfl
@[simp] theorem k_zero52 : zeroAV Tryd.prog 52 = some (AV.st [AV.v (Value.int IntKind.u8 0), AV.v (Value.int IntKind.u8 0), AV.v (Value.int IntKind.u8 0), AV.v (Value.int IntKind.u8 0), AV.v (Value.int IntKind.i8 0), AV.v (Value.int IntKind.i8 0), AV.v (Value.int IntKind.i8 0), AV.v (Value.int IntKind.i8 0), AV.v (Value.int IntKind.i8 0), AV.v (Value.int IntKind.i8 0)]) := by kernel_rfl
@[simp] theorem k_ok53 : okT Tryd.prog 53 = true := by kernel_rfl
@[simp] theorem k_agg53 : aggB Tryd.prog 53 = true := by kernel_rfl
@[simp] theorem k_cells53 : Tryd.prog.cellsOf 53 = 10 := by kernel_rfl
@[simp] theorem k_bytes53 : Tryd.prog.bytesOf 53 = 10 := by kernel_rfl
@[simp] theorem k_eq53 : eqKinds Tryd.prog 53 = none := by kernel_rfl
@[simp] theorem k_guard53 : Tryd.prog.eqGuardType Tryd.prog.depth 53 = false := by kernel_rfl
@[simp] theorem k_zero53 : zeroAV Tryd.prog 53 = some (AV.st [AV.v (Value.int IntKind.u8 0), AV.v (Value.int IntKind.u8 0), AV.v (Value.int IntKind.u8 0), AV.v (Value.int IntKind.u8 0), AV.v (Value.int IntKind.i8 0), AV.v (Value.int IntKind.i8 0), AV.v (Value.int IntKind.i8 0), AV.v (Value.int IntKind.i8 0), AV.v (Value.int IntKind.i8 0), AV.v (Value.int IntKind.i8 0)]) := by kernel_rfl
@[simp] theorem k_ok54 : okT Tryd.prog 54 = true := by kernel_rfl
@[simp] theorem k_agg54 : aggB Tryd.prog 54 = false := by kernel_rfl
@[simp] theorem k_cells54 : Tryd.prog.cellsOf 54 = 1 := by kernel_rfl
@[simp] theorem k_bytes54 : Tryd.prog.bytesOf 54 = 8 := by kernel_rfl
@[simp] theorem k_eq54 : eqKinds Tryd.prog 54 = none := by kernel_rfl
@[simp] theorem k_guard54 : Tryd.prog.eqGuardType Tryd.prog.depth 54 = false := by kernel_rfl
@[simp] theorem k_zero54 : zeroAV Tryd.prog 54 = some (AV.v Value.nilFunc) := by kernel_rfl
@[simp] theorem k_ok55 : okT Tryd.prog 55 = true := by kernel_rfl
@[simp] theorem k_agg55 : aggB Tryd.prog 55 = false := by kernel_rfl
@[simp] theorem k_cells55 : Tryd.prog.cellsOf 55 = 1 := by kernel_rfl
@[simp] theorem k_bytes55 : Tryd.prog.bytesOf 55 = 8 := by kernel_rfl
@[simp] theorem k_eq55 : eqKinds Tryd.prog 55 = none := by kernel_rfl
@[simp] theorem k_guard55 : Tryd.prog.eqGuardType Tryd.prog.depth 55 = false := by kernel_rfl
@[simp] theorem k_zero55 : zeroAV Tryd.prog 55 = some (AV.v Value.nilFunc) := by kernel_rfl
@[simp] theorem k_ok56 : okT Tryd.prog 56 = true := by kernel_rfl
@[simp] theorem k_agg56 : aggB Tryd.prog 56 = false := by kernel_rfl
@[simp] theorem k_cells56 : Tryd.prog.cellsOf 56 = 1 := by kernel_rfl
@[simp] theorem k_bytes56 : Tryd.prog.bytesOf 56 = 0 := by kernel_rfl
@[simp] theorem k_eq56 : eqKinds Tryd.prog 56 = none := by kernel_rfl
@[simp] theorem k_guard56 : Tryd.prog.eqGuardType Tryd.prog.depth 56 = false := by kernel_rfl
@[simp] theorem k_zero56 : zeroAV Tryd.prog 56 = some AV.u := by kernel_rfl
@[simp] theorem k_ok57 : okT Tryd.prog 57 = true := by kernel_rfl
@[simp] theorem k_agg57 : aggB Tryd.prog 57 = false := by kernel_rfl
@[simp] theorem k_cells57 : Tryd.prog.cellsOf 57 = 1 := by kernel_rfl
@[simp] theorem k_bytes57 : Tryd.prog.bytesOf 57 = 8 := by kernel_rfl
@[simp] theorem k_eq57 : eqKinds Tryd.prog 57 = none := by kernel_rfl
@[simp] theorem k_guard57 : Tryd.prog.eqGuardType Tryd.prog.depth 57 = false := by kernel_rfl
@[simp] theorem k_zero57 : zeroAV Tryd.prog 57 = some (AV.v Value.nilFunc) := by kernel_rfl
@[simp] theorem k_ok58 : okT Tryd.prog 58 = true := by kernel_rfl
@[simp] theorem k_agg58 : aggB Tryd.prog 58 = false := by kernel_rfl
@[simp] theorem k_cells58 : Tryd.prog.cellsOf 58 = 1 := by kernel_rfl
@[simp] theorem k_bytes58 : Tryd.prog.bytesOf 58 = 8 := by kernel_rfl
@[simp] theorem k_eq58 : eqKinds Tryd.prog 58 = none := by kernel_rfl
@[simp] theorem k_guard58 : Tryd.prog.eqGuardType Tryd.prog.depth 58 = false := by kernel_rfl
@[simp] theorem k_zero58 : zeroAV Tryd.prog 58 = some (AV.v Value.nilFunc) := by kernel_rfl
@[simp] theorem k_ok59 : okT Tryd.prog 59 = true := by kernel_rfl
@[simp] theorem k_agg59 : aggB Tryd.prog 59 = false := by kernel_rfl
@[simp] theorem k_cells59 : Tryd.prog.cellsOf 59 = 1 := by kernel_rfl
@[simp] theorem k_bytes59 : Tryd.prog.bytesOf 59 = 8 := by kernel_rfl
@[simp] theorem k_eq59 : eqKinds Tryd.prog 59 = none := by kernel_rfl
@[simp] theorem k_guard59 : Tryd.prog.eqGuardType Tryd.prog.depth 59 = false := by kernel_rfl
@[simp] theorem k_zero59 : zeroAV Tryd.prog 59 = some (AV.v Value.nilFunc) := by kernel_rfl
@[simp] theorem k_ok60 : okT Tryd.prog 60 = true := by kernel_rfl
@[simp] theorem k_agg60 : aggB Tryd.prog 60 = false := by kernel_rfl
@[simp] theorem k_cells60 : Tryd.prog.cellsOf 60 = 1 := by kernel_rfl
@[simp] theorem k_bytes60 : Tryd.prog.bytesOf 60 = 8 := by kernel_rfl
@[simp] theorem k_eq60 : eqKinds Tryd.prog 60 = none := by kernel_rfl
@[simp] theorem k_guard60 : Tryd.prog.eqGuardType Tryd.prog.depth 60 = false := by kernel_rfl
@[simp] theorem k_zero60 : zeroAV Tryd.prog 60 = some (AV.v Value.nilFunc) := by kernel_rfl
@[simp] theorem k_ok61 : okT Tryd.prog 61 = true := by kernel_rfl
@[simp] theorem k_agg61 : aggB Tryd.prog 61 = false := by kernel_rfl
@[simp] theorem k_cells61 : Tryd.prog.cellsOf 61 = 1 := by kernel_rfl
@[simp] theorem k_bytes61 : Tryd.prog.bytesOf 61 = 8 := by kernel_rfl
@[simp] theorem k_eq61 : eqKinds Tryd.prog 61 = none := by kernel_rfl
@[simp] theorem k_guard61 : Tryd.prog.eqGuardType Tryd.prog.depth 61 = false := by kernel_rfl
@[simp] theorem k_zero61 : zeroAV Tryd.prog 61 = some (AV.v Value.nilFunc) := by kernel_rfl
@[simp] theorem k_ok62 : okT Tryd.prog 62 = true := by kernel_rfl
@[simp] theorem k_agg62 : aggB Tryd.prog 62 = false := by kernel_rfl
@[simp] theorem k_cells62 : Tryd.prog.cellsOf 62 = 1 := by kernel_rfl
@[simp] theorem k_bytes62 : Tryd.prog.bytesOf 62 = 8 := by kernel_rfl
@[simp] theorem k_eq62 : eqKinds Tryd.prog 62 = none := by kernel_rfl
@[simp] theorem k_guard62 : Tryd.prog.eqGuardType Tryd.prog.depth 62 = false := by kernel_rfl
@[simp] theorem k_zero62 : zeroAV Tryd.prog 62 = some (AV.v Value.nilFunc) := by kernel_rfl
@[simp] theorem k_ok63 : okT Tryd.prog 63 = true := by kernel_rfl
@[simp] theorem k_agg63 : aggB Tryd.prog 63 = false := by kernel_rfl
@[simp] theorem k_cells63 : Tryd.prog.cellsOf 63 = 1 := by kernel_rfl
@[simp] theorem k_bytes63 : Tryd.prog.bytesOf 63 = 8 := by kernel_rfl
@[simp] theorem k_eq63 : eqKinds Tryd.prog 63 = none := by kernel_rfl
@[simp] theorem k_guard63 : Tryd.prog.eqGuardType Tryd.prog.depth 63 = false := by kernel_rfl
@[simp] theorem k_zero63 : zeroAV Tryd.prog 63 = some (AV.v Value.nilFunc) := by kernel_rfl
@[simp] theorem k_ok64 : okT Tryd.prog 64 = true := by kernel_rfl
@[simp] theorem k_agg64 : aggB Tryd.prog 64 = true := by kernel_rfl
@[simp] theorem k_cells64 : Tryd.prog.cellsOf 64 = 6 := by kernel_rfl
@[simp] theorem k_bytes64 : Tryd.prog.bytesOf 64 = 48 := by kernel_rfl
@[simp] theorem k_eq64 : eqKinds Tryd.prog 64 = none := by kernel_rfl
@[simp] theorem k_guard64 : Tryd.prog.eqGuardType Tryd.prog.depth 64 = false := by kernel_rfl
@[simp] theorem k_zero64 : zeroAV Tryd.prog 64 = some (AV.st [AV.v (Value.int IntKind.i64 0), AV.v (Value.int IntKind.i64 0), AV.v (Value.int IntKind.i64 0), AV.v (Value.int IntKind.i64 0), AV.v (Value.int IntKind.i64 0), AV.v (Value.int IntKind.i64 0)]) := by kernel_rfl
@[simp] theorem k_ok65 : okT Tryd.prog 65 = true := by kernel_rfl
@[simp] theorem k_agg65 : aggB Tryd.prog 65 = false := by kernel_rfl
@[simp] theorem k_cells65 : Tryd.prog.cellsOf 65 = 1 := by kernel_rfl
@[simp] theorem k_bytes65 : Tryd.prog.bytesOf 65 = 0 := by kernel_rfl
@[simp] theorem k_eq65 : eqKinds Tryd.prog 65 = none := by kernel_rfl
@[simp] theorem k_guard65 : Tryd.prog.eqGuardType Tryd.prog.depth 65 = false := by kernel_rfl
@[simp] theorem k_zero65 : zeroAV Tryd.prog 65 = some AV.u := by kernel_rfl
@[simp] theorem k_ok66 : okT Tryd.prog 66 = true := by kernel_rfl
@[simp] theorem k_agg66 : aggB Tryd.prog 66 = false := by kernel_rfl
@[simp] theorem k_cells66 : Tryd.prog.cellsOf 66 = 1 := by kernel_rfl
@[simp] theorem k_bytes66 : Tryd.prog.bytesOf 66 = 8 := by kernel_rfl
@[simp] theorem k_eq66 : eqKinds Tryd.prog 66 = none := by kernel_rfl
@[simp] theorem k_guard66 : Tryd.prog.eqGuardType Tryd.prog.depth 66 = false := by kernel_rfl
@[simp] theorem k_zero66 : zeroAV Tryd.prog 66 = some (AV.v Value.nilFunc) := by kernel_rfl
@[simp] theorem k_ok67 : okT Tryd.prog 67 = true := by kernel_rfl
@[simp] theorem k_agg67 : aggB Tryd.prog 67 = false := by kernel_rfl
@[simp] theorem k_cells67 : Tryd.prog.cellsOf 67 = 1 := by kernel_rfl
@[simp] theorem k_bytes67 : Tryd.prog.bytesOf 67 = 8 := by kernel_rfl
@[simp] theorem k_eq67 : eqKinds Tryd.prog 67 = none := by kernel_rfl
@[simp] theorem k_guard67 : Tryd.prog.eqGuardType Tryd.prog.depth 67 = false := by kernel_rfl
@[simp] theorem k_zero67 : zeroAV Tryd.prog 67 = some (AV.v Value.nilFunc) := by kernel_rfl
@[simp] theorem k_ok68 : okT Tryd.prog 68 = true := by kernel_rfl
@[simp] theorem k_agg68 : aggB Tryd.prog 68 = false := by kernel_rfl
@[simp] theorem k_cells68 : Tryd.prog.cellsOf 68 = 1 := by kernel_rfl
@[simp] theorem k_bytes68 : Tryd.prog.bytesOf 68 = 8 := by kernel_rfl
@[simp] theorem k_eq68 : eqKinds Tryd.prog 68 = none := by kernel_rfl
@[simp] theorem k_guard68 : Tryd.prog.eqGuardType Tryd.prog.depth 68 = false := by kernel_rfl
@[simp] theorem k_zero68 : zeroAV Tryd.prog 68 = some (AV.v Value.nilFunc) := by kernel_rfl
@[simp] theorem k_ok69 : okT Tryd.prog 69 = true := by kernel_rfl
@[simp] theorem k_agg69 : aggB Tryd.prog 69 = false := by kernel_rfl
@[simp] theorem k_cells69 : Tryd.prog.cellsOf 69 = 1 := by kernel_rfl
@[simp] theorem k_bytes69 : Tryd.prog.bytesOf 69 = 24 := by kernel_rfl
@[simp] theorem k_eq69 : eqKinds Tryd.prog 69 = none := by kernel_rfl
@[simp] theorem k_guard69 : Tryd.prog.eqGuardType Tryd.prog.depth 69 = false := by kernel_rfl
@[simp] theorem k_zero69 : zeroAV Tryd.prog 69 = some (AV.v (Value.slice none 0 0)) := by kernel_rfl
@[simp] theorem k_ok70 : okT Tryd.prog 70 = true := by kernel_rfl
@[simp] theorem k_agg70 : aggB Tryd.prog 70 = true := by kernel_rfl
@[simp] theorem k_cells70 : Tryd.prog.cellsOf 70 = 3 := by kernel_rfl
@[simp] theorem k_bytes70 : Tryd.prog.bytesOf 70 = 40 := by kernel_rfl
@[simp] theorem k_eq70 : eqKinds Tryd.prog 70 = none := by kernel_rfl
@[simp] theorem k_guard70 : Tryd.prog.eqGuardType Tryd.prog.depth 70 = false := by kernel_rfl
@[simp] theorem k_zero70 : zeroAV Tryd.prog 70 = some (AV.st [AV.v (Value.int IntKind.i64 0), AV.v (Value.slice none 0 0), AV.v (Value.int IntKind.i64 0)]) := by kernel_rfl
@[simp] theorem k_ok71 : okT Tryd.prog 71 = true := by kernel_rfl
@[simp] theorem k_agg71 : aggB Tryd.prog 71 = true := by kernel_rfl
@[simp] theorem k_cells71 : Tryd.prog.cellsOf 71 = 3 := by kernel_rfl
@[simp] theorem k_bytes71 : Tryd.prog.bytesOf 71 = 40 := by kernel_rfl
@[simp] theorem k_eq71 : eqKinds Tryd.prog 71 = none := by kernel_rfl
@[simp] theorem k_guard71 : Tryd.prog.eqGuardType Tryd.prog.depth 71 = false := by kernel_rfl
@[simp] theorem k_zero71 : zeroAV Tryd.prog 71 = some (AV.st [AV.v (Value.int IntKind.i64 0), AV.v (Value.slice none 0 0), AV.v (Value.int IntKind.i64 0)]) := by kernel_rfl
@[simp] theorem k_ok72 : okT Tryd.prog 72 = true := by kernel_rfl
@[simp] theorem k_agg72 : aggB Tryd.prog 72 = false := by kernel_rfl
@[simp] theorem k_cells72 : Tryd.prog.cellsOf 72 = 1 := by kernel_rfl
@[simp] theorem k_bytes72 : Tryd.prog.bytesOf 72 = 8 := by kernel_rfl
@[simp] theorem k_eq72 : eqKinds Tryd.prog 72 = none := by kernel_rfl
@[simp] theorem k_guard72 : Tryd.prog.eqGuardType Tryd.prog.depth 72 = false := by kernel_rfl
@[simp] theorem k_zero72 : zeroAV Tryd.prog 72 = some (AV.v Value.nilFunc) := by kernel_rfl
@[simp] theorem k_ok73 : okT Tryd.prog 73 = true := by kernel_rfl
@[simp] theorem k_agg73 : aggB Tryd.prog 73 = false := by kernel_rfl
@[simp] theorem k_cells73 : Tryd.prog.cellsOf 73 = 1 := by kernel_rfl
@[simp] theorem k_bytes73 : Tryd.prog.bytesOf 73 = 8 := by kernel_rfl
@[simp] theorem k_eq73 : eqKinds Tryd.prog 73 = none := by kernel_rfl
@[simp] theorem k_guard73 : Tryd.prog.eqGuardType Tryd.prog.depth 73 = false := by kernel_rfl
@[simp] theorem k_zero73 : zeroAV Tryd.prog 73 = some (AV.v Value.nilFunc) := by kernel_rfl
@[simp] theorem k_ok74 : okT Tryd.prog 74 = true := by kernel_rfl
@[simp] theorem k_agg74 : aggB Tryd.prog 74 = false := by kernel_rfl
@[simp] theorem k_cells74 : Tryd.prog.cellsOf 74 = 1 := by kernel_rfl
@[simp] theorem k_bytes74 : Tryd.prog.bytesOf 74 = 8 := by kernel_rfl
@[simp] theorem k_eq74 : eqKinds Tryd.prog 74 = none := by kernel_rfl
@[simp] theorem k_guard74 : Tryd.prog.eqGuardType Tryd.prog.depth 74 = false := by kernel_rfl
@[simp] theorem k_zero74 : zeroAV Tryd.prog 74 = some (AV.v Value.nilFunc) := by kernel_rfl
@[simp] theorem k_ok75 : okT Tryd.prog 75 = true := by kernel_rfl
@[simp] theorem k_agg75 : aggB Tryd.prog 75 = false := by kernel_rfl
@[simp] theorem k_cells75 : Tryd.prog.cellsOf 75 = 1 := by kernel_rfl
@[simp] theorem k_bytes75 : Tryd.prog.bytesOf 75 = 8 := by kernel_rfl
@[simp] theorem k_eq75 : eqKinds Tryd.prog 75 = none := by kernel_rfl
@[simp] theorem k_guard75 : Tryd.prog.eqGuardType Tryd.prog.depth 75 = false := by kernel_rfl
@[simp] theorem k_zero75 : zeroAV Tryd.prog 75 = some (AV.v Value.nilFunc) := by kernel_rfl
@[simp] theorem k_ok76 : okT Tryd.prog 76 = true := by kernel_rfl
@[simp] theorem k_agg76 : aggB Tryd.prog 76 = false := by kernel_rfl
@[simp] theorem k_cells76 : Tryd.prog.cellsOf 76 = 1 := by kernel_rfl
@[simp] theorem k_bytes76 : Tryd.prog.bytesOf 76 = 8 := by kernel_rfl
@[simp] theorem k_eq76 : eqKinds Tryd.prog 76 = none := by kernel_rfl
@[simp] theorem k_guard76 : Tryd.prog.eqGuardType Tryd.prog.depth 76 = false := by kernel_rfl
@[simp] theorem k_zero76 : zeroAV Tryd.prog 76 = some (AV.v Value.nilFunc) := by kernel_rfl
@[simp] theorem k_ok77 : okT Tryd.prog 77 = true := by kernel_rfl
@[simp] theorem k_agg77 : aggB Tryd.prog 77 = false := by kernel_rfl
@[simp] theorem k_cells77 : Tryd.prog.cellsOf 77 = 1 := by kernel_rfl
@[simp] theorem k_bytes77 : Tryd.prog.bytesOf 77 = 8 := by kernel_rfl
@[simp] theorem k_eq77 : eqKinds Tryd.prog 77 = none := by kernel_rfl
@[simp] theorem k_guard77 : Tryd.prog.eqGuardType Tryd.prog.depth 77 = false := by kernel_rfl
@[simp] theorem k_zero77 : zeroAV Tryd.prog 77 = some (AV.v (Value.pointer none)) := by kernel_rfl
@[simp] theorem k_ok78 : okT Tryd.prog 78 = true := by kernel_rfl
@[simp] theorem k_agg78 : aggB Tryd.prog 78 = false := by kernel_rfl
@[simp] theorem k_cells78 : Tryd.prog.cellsOf 78 = 1 := by kernel_rfl
@[simp] theorem k_bytes78 : Tryd.prog.bytesOf 78 = 24 := by kernel_rfl
@[simp] theorem k_eq78 : eqKinds Tryd.prog 78 = none := by kernel_rfl
@[simp] theorem k_guard78 : Tryd.prog.eqGuardType Tryd.prog.depth 78 = false := by kernel_rfl
@[simp] theorem k_zero78 : zeroAV Tryd.prog 78 = some (AV.v (Value.slice none 0 0)) := by kernel_rfl
@[simp] theorem k_ok79 : okT Tryd.prog 79 = true := by kernel_rfl
@[simp] theorem k_agg79 : aggB Tryd.prog 79 = true := by kernel_rfl
@[simp] theorem k_cells79 : Tryd.prog.cellsOf 79 = 2 := by kernel_rfl
@[simp] theorem k_bytes79 : Tryd.prog.bytesOf 79 = 32 := by kernel_rfl
@[simp] theorem k_eq79 : eqKinds Tryd.prog 79 = none := by kernel_rfl
@[simp] theorem k_guard79 : Tryd.prog.eqGuardType Tryd.prog.depth 79 = false := by kernel_rfl
@[simp] theorem k_zero79 : zeroAV Tryd.prog 79 = some (AV.st [AV.v (Value.pointer none), AV.v (Value.slice none 0 0)]) := by kernel_rfl
@[simp] theorem k_ok80 : okT Tryd.prog 80 = true := by kernel_rfl
@[simp] theorem k_agg80 : aggB Tryd.prog 80 = true := by kernel_rfl
@[simp] theorem k_cells80 : Tryd.prog.cellsOf 80 = 2 := by kernel_rfl
@[simp] theorem k_bytes80 : Tryd.prog.bytesOf 80 = 32 := by kernel_rfl
@[simp] theorem k_eq80 : eqKinds Tryd.prog 80 = none := by kernel_rfl
@[simp] theorem k_guard80 : Tryd.prog.eqGuardType Tryd.prog.depth 80 = false := by kernel_rfl
@[simp] theorem k_zero80 : zeroAV Tryd.prog 80 = some (AV.st [AV.v (Value.pointer none), AV.v (Value.slice none 0 0)]) := by kernel_rfl
@[simp] theorem k_ok81 : okT Tryd.prog 81 = true := by kernel_rfl
@[simp] theorem k_agg81 : aggB Tryd.prog 81 = false := by kernel_rfl
@[simp] theorem k_cells81 : Tryd.prog.cellsOf 81 = 1 := by kernel_rfl
@[simp] theorem k_bytes81 : Tryd.prog.bytesOf 81 = 8 := by kernel_rfl
@[simp] theorem k_eq81 : eqKinds Tryd.prog 81 = none := by kernel_rfl
@[simp] theorem k_guard81 : Tryd.prog.eqGuardType Tryd.prog.depth 81 = false := by kernel_rfl
@[simp] theorem k_zero81 : zeroAV Tryd.prog 81 = some (AV.v Value.nilFunc) := by kernel_rfl
@[simp] theorem k_ok82 : okT Tryd.prog 82 = true := by kernel_rfl
@[simp] theorem k_agg82 : aggB Tryd.prog 82 = false := by kernel_rfl
@[simp] theorem k_cells82 : Tryd.prog.cellsOf 82 = 1 := by kernel_rfl
@[simp] theorem k_bytes82 : Tryd.prog.bytesOf 82 = 16 := by kernel_rfl
@[simp] theorem k_eq82 : eqKinds Tryd.prog 82 = none := by kernel_rfl
@[simp] theorem k_guard82 : Tryd.prog.eqGuardType Tryd.prog.depth 82 = true := by kernel_rfl
@[simp] theorem k_zero82 : zeroAV Tryd.prog 82 = some (AV.v Value.nilIface) := by kernel_rfl
@[simp] theorem k_ok83 : okT Tryd.prog 83 = true := by kernel_rfl
@[simp] theorem k_agg83 : aggB Tryd.prog 83 = false := by kernel_rfl
@[simp] theorem k_cells83 : Tryd.prog.cellsOf 83 = 1 := by kernel_rfl
@[simp] theorem k_bytes83 : Tryd.prog.bytesOf 83 = 16 := by kernel_rfl
@[simp] theorem k_eq83 : eqKinds Tryd.prog 83 = none := by kernel_rfl
@[simp] theorem k_guard83 : Tryd.prog.eqGuardType Tryd.prog.depth 83 = true := by kernel_rfl
@[simp] theorem k_zero83 : zeroAV Tryd.prog 83 = some (AV.v Value.nilIface) := by kernel_rfl
@[simp] theorem k_ok84 : okT Tryd.prog 84 = true := by kernel_rfl
@[simp] theorem k_agg84 : aggB Tryd.prog 84 = false := by kernel_rfl
@[simp] theorem k_cells84 : Tryd.prog.cellsOf 84 = 1 := by kernel_rfl
@[simp] theorem k_bytes84 : Tryd.prog.bytesOf 84 = 0 := by kernel_rfl
@[simp] theorem k_eq84 : eqKinds Tryd.prog 84 = none := by kernel_rfl
@[simp] theorem k_guard84 : Tryd.prog.eqGuardType Tryd.prog.depth 84 = false := by kernel_rfl
@[simp] theorem k_zero84 : zeroAV Tryd.prog 84 = some AV.u := by kernel_rfl
@[simp] theorem k_ok85 : okT Tryd.prog 85 = true := by kernel_rfl
@[simp] theorem k_agg85 : aggB Tryd.prog 85 = false := by kernel_rfl
@[simp] theorem k_cells85 : Tryd.prog.cellsOf 85 = 1 := by kernel_rfl
@[simp] theorem k_bytes85 : Tryd.prog.bytesOf 85 = 8 := by kernel_rfl
@[simp] theorem k_eq85 : eqKinds Tryd.prog 85 = none := by kernel_rfl
@[simp] theorem k_guard85 : Tryd.prog.eqGuardType Tryd.prog.depth 85 = false := by kernel_rfl
@[simp] theorem k_zero85 : zeroAV Tryd.prog 85 = some (AV.v Value.nilFunc) := by kernel_rfl
@[simp] theorem k_ok86 : okT Tryd.prog 86 = true := by kernel_rfl
@[simp] theorem k_agg86 : aggB Tryd.prog 86 = false := by kernel_rfl
@[simp] theorem k_cells86 : Tryd.prog.cellsOf 86 = 1 := by kernel_rfl
@[simp] theorem k_bytes86 : Tryd.prog.bytesOf 86 = 8 := by kernel_rfl
@[simp] theorem k_eq86 : eqKinds Tryd.prog 86 = none := by kernel_rfl
@[simp] theorem k_guard86 : Tryd.prog.eqGuardType Tryd.prog.depth 86 = false := by kernel_rfl
@[simp] theorem k_zero86 : zeroAV Tryd.prog 86 = some (AV.v Value.nilFunc) := by kernel_rfl
@[simp] theorem k_ok87 : okT Tryd.prog 87 = true := by kernel_rfl
@[simp] theorem k_agg87 : aggB Tryd.prog 87 = false := by kernel_rfl
@[simp] theorem k_cells87 : Tryd.prog.cellsOf 87 = 1 := by kernel_rfl
@[simp] theorem k_bytes87 : Tryd.prog.bytesOf 87 = 8 := by kernel_rfl
@[simp] theorem k_eq87 : eqKinds Tryd.prog 87 = none := by kernel_rfl
@[simp] theorem k_guard87 : Tryd.prog.eqGuardType Tryd.prog.depth 87 = false := by kernel_rfl
@[simp] theorem k_zero87 : zeroAV Tryd.prog 87 = some (AV.v Value.nilFunc) := by kernel_rfl
@[simp] theorem k_ok88 : okT Tryd.prog 88 = true := by kernel_rfl
@[simp] theorem k_agg88 : aggB Tryd.prog 88 = false := by kernel_rfl
@[simp] theorem k_cells88 : Tryd.prog.cellsOf 88 = 1 := by kernel_rfl
@[simp] theorem k_bytes88 : Tryd.prog.bytesOf 88 = 8 := by kernel_rfl
@[simp] theorem k_eq88 : eqKinds Tryd.prog 88 = none := by kernel_rfl
@[simp] theorem k_guard88 : Tryd.prog.eqGuardType Tryd.prog.depth 88 = false := by kernel_rfl
@[simp] theorem k_zero88 : zeroAV Tryd.prog 88 = some (AV.v Value.nilFunc) := by kernel_rfl
@[simp] theorem k_ok89 : okT Tryd.prog 89 = true := by kernel_rfl
@[simp] theorem k_agg89 : aggB Tryd.prog 89 = false := by kernel_rfl
@[simp] theorem k_cells89 : Tryd.prog.cellsOf 89 = 1 := by kernel_rfl
@[simp] theorem k_bytes89 : Tryd.prog.bytesOf 89 = 8 := by kernel_rfl
@[simp] theorem k_eq89 : eqKinds Tryd.prog 89 = none := by kernel_rfl
@[simp] theorem k_guard89 : Tryd.prog.eqGuardType Tryd.prog.depth 89 = false := by kernel_rfl
@[simp] theorem k_zero89 : zeroAV Tryd.prog 89 = some (AV.v Value.nilFunc) := by kernel_rfl
@[simp] theorem k_ok90 : okT Tryd.prog 90 = true := by kernel_rfl
@[simp] theorem k_agg90 : aggB Tryd.prog 90 = false := by kernel_rfl
@[simp] theorem k_cells90 : Tryd.prog.cellsOf 90 = 1 := by kernel_rfl
@[simp] theorem k_bytes90 : Tryd.prog.bytesOf 90 = 8 := by kernel_rfl
@[simp] theorem k_eq90 : eqKinds Tryd.prog 90 = none := by kernel_rfl
@[simp] theorem k_guard90 : Tryd.prog.eqGuardType Tryd.prog.depth 90 = false := by kernel_rfl
@[simp] theorem k_zero90 : zeroAV Tryd.prog 90 = some (AV.v Value.nilFunc) := by kernel_rfl
@[simp] theorem k_ok91 : okT Tryd.prog 91 = true := by kernel_rfl
@[simp] theorem k_agg91 : aggB Tryd.prog 91 = false := by kernel_rfl
@[simp] theorem k_cells91 : Tryd.prog.cellsOf 91 = 1 := by kernel_rfl
@[simp] theorem k_bytes91 : Tryd.prog.bytesOf 91 = 8 := by kernel_rfl
@[simp] theorem k_eq91 : eqKinds Tryd.prog 91 = none := by kernel_rfl
@[simp] theorem k_guard91 : Tryd.prog.eqGuardType Tryd.prog.depth 91 = false := by kernel_rfl
@[simp] theorem k_zero91 : zeroAV Tryd.prog 91 = some (AV.v Value.nilFunc) := by kernel_rfl
@[simp] theorem k_ok92 : okT Tryd.prog 92 = true := by kernel_rfl
@[simp] theorem k_agg92 : aggB Tryd.prog 92 = false := by kernel_rfl
@[simp] theorem k_cells92 : Tryd.prog.cellsOf 92 = 1 := by kernel_rfl
@[simp] theorem k_bytes92 : Tryd.prog.bytesOf 92 = 8 := by kernel_rfl
@[simp] theorem k_eq92 : eqKinds Tryd.prog 92 = none := by kernel_rfl
@[simp] theorem k_guard92 : Tryd.prog.eqGuardType Tryd.prog.depth 92 = false := by kernel_rfl
@[simp] theorem k_zero92 : zeroAV Tryd.prog 92 = some (AV.v Value.nilFunc) := by kernel_rfl
@[simp] theorem k_ok93 : okT Tryd.prog 93 = true := by kernel_rfl
@[simp] theorem k_agg93 : aggB Tryd.prog 93 = false := by kernel_rfl
@[simp] theorem k_cells93 : Tryd.prog.cellsOf 93 = 1 := by kernel_rfl
@[simp] theorem k_bytes93 : Tryd.prog.bytesOf 93 = 8 := by kernel_rfl
@[simp] theorem k_eq93 : eqKinds Tryd.prog 93 = none := by kernel_rfl
@[simp] theorem k_guard93 : Tryd.prog.eqGuardType Tryd.prog.depth 93 = false := by kernel_rfl
@[simp] theorem k_zero93 : zeroAV Tryd.prog 93 = some (AV.v Value.nilFunc) := by kernel_rfl
@[simp] theorem k_ok94 : okT Tryd.prog 94 = true := by kernel_rfl
@[simp] theorem k_agg94 : aggB Tryd.prog 94 = false := by kernel_rfl
@[simp] theorem k_cells94 : Tryd.prog.cellsOf 94 = 1 := by kernel_rfl
@[simp] theorem k_bytes94 : Tryd.prog.bytesOf 94 = 8 := by kernel_rfl
@[simp] theorem k_eq94 : eqKinds Tryd.prog 94 = none := by kernel_rfl
@[simp] theorem k_guard94 : Tryd.prog.eqGuardType Tryd.prog.depth 94 = false := by kernel_rfl
@[simp] theorem k_zero94 : zeroAV Tryd.prog 94 = some (AV.v Value.nilFunc) := by kernel_rfl
@[simp] theorem k_ok95 : okT Tryd.prog 95 = true := by kernel_rfl
@[simp] theorem k_agg95 : aggB Tryd.prog 95 = false := by kernel_rfl
@[simp] theorem k_cells95 : Tryd.prog.cellsOf 95 = 1 := by kernel_rfl
@[simp] theorem k_bytes95 : Tryd.prog.bytesOf 95 = 8 := by kernel_rfl
@[simp] theorem k_eq95 : eqKinds Tryd.prog 95 = none := by kernel_rfl
@[simp] theorem k_guard95 : Tryd.prog.eqGuardType Tryd.prog.depth 95 = false := by kernel_rfl
@[simp] theorem k_zero95 : zeroAV Tryd.prog 95 = some (AV.v Value.nilFunc) := by kernel_rfl
@[simp] theorem k_ok96 : okT Tryd.prog 96 = true := by kernel_rfl
@[simp] theorem k_agg96 : aggB Tryd.prog 96 = false := by kernel_rfl
@[simp] theorem k_cells96 : Tryd.prog.cellsOf 96 = 1 := by kernel_rfl
@[simp] theorem k_bytes96 : Tryd.prog.bytesOf 96 = 8 := by kernel_rfl
@[simp] theorem k_eq96 : eqKinds Tryd.prog 96 = none := by kernel_rfl
@[simp] theorem k_guard96 : Tryd.prog.eqGuardType Tryd.prog.depth 96 = false := by kernel_rfl
@[simp] theorem k_zero96 : zeroAV Tryd.prog 96 = some (AV.v Value.nilFunc) := by kernel_rfl
@[simp] theorem k_ok97 : okT Tryd.prog 97 = true := by kernel_rfl
@[simp] theorem k_agg97 : aggB Tryd.prog 97 = false := by kernel_rfl
@[simp] theorem k_cells97 : Tryd.prog.cellsOf 97 = 1 := by kernel_rfl
@[simp] theorem k_bytes97 : Tryd.prog.bytesOf 97 = 8 := by kernel_rfl
@[simp] theorem k_eq97 : eqKinds Tryd.prog 97 = none := by kernel_rfl
@[simp] theorem k_guard97 : Tryd.prog.eqGuardType Tryd.prog.depth 97 = false := by kernel_rfl
@[simp] theorem k_zero97 : zeroAV Tryd.prog 97 = some (AV.v Value.nilFunc) := by kernel_rfl
@[simp] theorem k_ok98 : okT Tryd.prog 98 = true := by kernel_rfl
@[simp] theorem k_agg98 : aggB Tryd.prog 98 = false := by kernel_rfl
@[simp] theorem k_cells98 : Tryd.prog.cellsOf 98 = 1 := by kernel_rfl
@[simp] theorem k_bytes98 : Tryd.prog.bytesOf 98 = 8 := by kernel_rfl
@[simp] theorem k_eq98 : eqKinds Tryd.prog 98 = none := by kernel_rfl
@[simp] theorem k_guard98 : Tryd.prog.eqGuardType Tryd.prog.depth 98 = false := by kernel_rfl
@[simp] theorem k_zero98 : zeroAV Tryd.prog 98 = some (AV.v (Value.pointer none)) := by kernel_rfl
@[simp] theorem k_ok99 : okT Tryd.prog 99 = true := by kernel_rfl
@[simp] theorem k_agg99 : aggB Tryd.prog 99 = false := by kernel_rfl
@[simp] theorem k_cells99 : Tryd.prog.cellsOf 99 = 1 := by kernel_rfl
@[simp] theorem k_bytes99 : Tryd.prog.bytesOf 99 = 0 := by kernel_rfl
@[simp] theorem k_eq99 : eqKinds Tryd.prog 99 = none := by kernel_rfl
@[simp] theorem k_guard99 : Tryd.prog.eqGuardType Tryd.prog.depth 99 = false := by kernel_rfl
@[simp] theorem k_zero99 : zeroAV Tryd.prog 99 = some AV.u := by kernel_rfl
@[simp] theorem k_ok100 : okT Tryd.prog 100 = true := by kernel_rfl
@[simp] theorem k_agg100 : aggB Tryd.prog 100 = false := by kernel_rfl
@[simp] theorem k_cells100 : Tryd.prog.cellsOf 100 = 1 := by kernel_rfl
@[simp] theorem k_bytes100 : Tryd.prog.bytesOf 100 = 8 := by kernel_rfl
@[simp] theorem k_eq100 : eqKinds Tryd.prog 100 = none := by kernel_rfl
@[simp] theorem k_guard100 : Tryd.prog.eqGuardType Tryd.prog.depth 100 = false := by kernel_rfl
@[simp] theorem k_zero100 : zeroAV Tryd.prog 100 = some (AV.v Value.nilFunc) := by kernel_rfl
@[simp] theorem k_ok101 : okT Tryd.prog 101 = true := by kernel_rfl
@[simp] theorem k_agg101 : aggB Tryd.prog 101 = false := by kernel_rfl
@[simp] theorem k_cells101 : Tryd.prog.cellsOf 101 = 1 := by kernel_rfl
@[simp] theorem k_bytes101 : Tryd.prog.bytesOf 101 = 8 := by kernel_rfl
@[simp] theorem k_eq101 : eqKinds Tryd.prog 101 = none := by kernel_rfl
@[simp] theorem k_guard101 : Tryd.prog.eqGuardType Tryd.prog.depth 101 = false := by kernel_rfl
@[simp] theorem k_zero101 : zeroAV Tryd.prog 101 = some (AV.v Value.nilFunc) := by kernel_rfl
@[simp] theorem k_ok102 : okT Tryd.prog 102 = true := by kernel_rfl
@[simp] theorem k_agg102 : aggB Tryd.prog 102 = false := by kernel_rfl
@[simp] theorem k_cells102 : Tryd.prog.cellsOf 102 = 1 := by kernel_rfl
@[simp] theorem k_bytes102 : Tryd.prog.bytesOf 102 = 8 := by kernel_rfl
@[simp] theorem k_eq102 : eqKinds Tryd.prog 102 = none := by kernel_rfl
@[simp] theorem k_guard102 : Tryd.prog.eqGuardType Tryd.prog.depth 102 = false := by kernel_rfl
@[simp] theorem k_zero102 : zeroAV Tryd.prog 102 = some (AV.v Value.nilFunc) := by kernel_rfl
@[simp] theorem k_ok103 : okT Tryd.prog 103 = true := by kernel_rfl
@[simp] theorem k_agg103 : aggB Tryd.prog 103 = false := by kernel_rfl
@[simp] theorem k_cells103 : Tryd.prog.cellsOf 103 = 1 := by kernel_rfl
@[simp] theorem k_bytes103 : Tryd.prog.bytesOf 103 = 8 := by kernel_rfl
@[simp] theorem k_eq103 : eqKinds Tryd.prog 103 = none := by kernel_rfl
@[simp] theorem k_guard103 : Tryd.prog.eqGuardType Tryd.prog.depth 103 = false := by kernel_rfl
@[simp] theorem k_zero103 : zeroAV Tryd.prog 103 = some (AV.v Value.nilFunc) := by kernel_rfl
@[simp] theorem k_ok104 : okT Tryd.prog 104 = true := by kernel_rfl
@[simp] theorem k_agg104 : aggB Tryd.prog 104 = false := by kernel_rfl
@[simp] theorem k_cells104 : Tryd.prog.cellsOf 104 = 1 := by kernel_rfl
@[simp] theorem k_bytes104 : Tryd.prog.bytesOf 104 = 8 := by kernel_rfl
@[simp] theorem k_eq104 : eqKinds Tryd.prog 104 = none := by kernel_rfl
@[simp] theorem k_guard104 : Tryd.prog.eqGuardType Tryd.prog.depth 104 = false := by kernel_rfl
@[simp] theorem k_zero104 : zeroAV Tryd.prog 104 = some (AV.v Value.nilFunc) := by kernel_rfl
@[simp] theorem k_ok105 : okT Tryd.prog 105 = true := by kernel_rfl
@[simp] theorem k_agg105 : aggB Tryd.prog 105 = false := by kernel_rfl
@[simp] theorem k_cells105 : Tryd.prog.cellsOf 105 = 1 := by kernel_rfl
@[simp] theorem k_bytes105 : Tryd.prog.bytesOf 105 = 8 := by kernel_rfl
@[simp] theorem k_eq105 : eqKinds Tryd.prog 105 = none := by kernel_rfl
@[simp] theorem k_guard105 : Tryd.prog.eqGuardType Tryd.prog.depth 105 = false := by kernel_rfl
@[simp] theorem k_zero105 : zeroAV Tryd.prog 105 = some (AV.v Value.nilFunc) := by kernel_rfl
@[simp] theorem k_ok106 : okT Tryd.prog 106 = true := by kernel_rfl
@[simp] theorem k_agg106 : aggB Tryd.prog 106 = false := by kernel_rfl
@[simp] theorem k_cells106 : Tryd.prog.cellsOf 106 = 1 := by kernel_rfl
@[simp] theorem k_bytes106 : Tryd.prog.bytesOf 106 = 8 := by kernel_rfl
@[simp] theorem k_eq106 : eqKinds Tryd.prog 106 = none := by kernel_rfl
@[simp] theorem k_guard106 : Tryd.prog.eqGuardType Tryd.prog.depth 106 = false := by kernel_rfl
@[simp] theorem k_zero106 : zeroAV Tryd.prog 106 = some (AV.v Value.nilFunc) := by kernel_rfl
@[simp] theorem k_ok107 : okT Tryd.prog 107 = true := by kernel_rfl
@[simp] theorem k_agg107 : aggB Tryd.prog 107 = false := by kernel_rfl
@[simp] theorem k_cells107 : Tryd.prog.cellsOf 107 = 1 := by kernel_rfl
@[simp] theorem k_bytes107 : Tryd.prog.bytesOf 107 = 8 := by kernel_rfl
@[simp] theorem k_eq107 : eqKinds Tryd.prog 107 = some [SK.i] := by kernel_rfl
@[simp] theorem k_guard107 : Tryd.prog.eqGuardType Tryd.prog.depth 107 = false := by kernel_rfl
@[simp] theorem k_zero107 : zeroAV Tryd.prog 107 = some (AV.v (Value.int IntKind.u64 0)) := by kernel_rfl
@[simp] theorem k_ok108 : okT Tryd.prog 108 = true := by kernel_rfl
@[simp] theorem k_agg108 : aggB Tryd.prog 108 = false := by kernel_rfl
@[simp] theorem k_cells108 : Tryd.prog.cellsOf 108 = 1 := by kernel_rfl
@[simp] theorem k_bytes108 : Tryd.prog.bytesOf 108 = 8 := by kernel_rfl
@[simp] theorem k_eq108 : eqKinds Tryd.prog 108 = none := by kernel_rfl
@[simp] theorem k_guard108 : Tryd.prog.eqGuardType Tryd.prog.depth 108 = false := by kernel_rfl
@[simp] theorem k_zero108 : zeroAV Tryd.prog 108 = some (AV.v Value.nilFunc) := by kernel_rfl
@[simp] theorem k_ok109 : okT Tryd.prog 109 = true := by kernel_rfl
@[simp] theorem k_agg109 : aggB Tryd.prog 109 = false := by kernel_rfl
@[simp] theorem k_cells109 : Tryd.prog.cellsOf 109 = 1 := by kernel_rfl
@[simp] theorem k_bytes109 : Tryd.prog.bytesOf 109 = 8 := by kernel_rfl
@[simp] theorem k_eq109 : eqKinds Tryd.prog 109 = none := by kernel_rfl
@[simp] theorem k_guard109 : Tryd.prog.eqGuardType Tryd.prog.depth 109 = false := by kernel_rfl
@[simp] theorem k_zero109 : zeroAV Tryd.prog 109 = some (AV.v (Value.pointer none)) := by kernel_rfl
@[simp] theorem k_ok110 : okT Tryd.prog 110 = true := by kernel_rfl
@[simp] theorem k_agg110 : aggB Tryd.prog 110 = false := by kernel_rfl
@[simp] theorem k_cells110 : Tryd.prog.cellsOf 110 = 1 := by kernel_rfl
@[simp] theorem k_bytes110 : Tryd.prog.bytesOf 110 = 8 := by kernel_rfl
@[simp] theorem k_eq110 : eqKinds Tryd.prog 110 = none := by kernel_rfl
@[simp] theorem k_guard110 : Tryd.prog.eqGuardType Tryd.prog.depth 110 = false := by kernel_rfl
@[simp] theorem k_zero110 : zeroAV Tryd.prog 110 = some (AV.v Value.nilFunc) := by kernel_rfl
@[simp] theorem k_ok111 : okT Tryd.prog 111 = true := by kernel_rfl
@[simp] theorem k_agg111 : aggB Tryd.prog 111 = false := by kernel_rfl
@[simp] theorem k_cells111 : Tryd.prog.cellsOf 111 = 1 := by kernel_rfl
@[simp] theorem k_bytes111 : Tryd.prog.bytesOf 111 = 8 := by kernel_rfl
@[simp] theorem k_eq111 : eqKinds Tryd.prog 111 = none := by kernel_rfl
@[simp] theorem k_guard111 : Tryd.prog.eqGuardType Tryd.prog.depth 111 = false := by kernel_rfl
@[simp] theorem k_zero111 : zeroAV Tryd.prog 111 = some (AV.v Value.nilFunc) := by kernel_rfl
@[simp] theorem k_ok112 : okT Tryd.prog 112 = true := by kernel_rfl
@[simp] theorem k_agg112 : aggB Tryd.prog 112 = false := by kernel_rfl
@[simp] theorem k_cells112 : Tryd.prog.cellsOf 112 = 1 := by kernel_rfl
@[simp] theorem k_bytes112 : Tryd.prog.bytesOf 112 = 8 := by kernel_rfl
@[simp] theorem k_eq112 : eqKinds Tryd.prog 112 = none := by kernel_rfl
@[simp] theorem k_guard112 : Tryd.prog.eqGuardType Tryd.prog.depth 112 = false := by kernel_rfl
@[simp] theorem k_zero112 : zeroAV Tryd.prog 112 = some (AV.v Value.nilFunc) := by kernel_rfl
@[simp] theorem k_ok113 : okT Tryd.prog 113 = true := by kernel_rfl
@[simp] theorem k_agg113 : aggB Tryd.prog 113 = false := by kernel_rfl
@[simp] theorem k_cells113 : Tryd.prog.cellsOf 113 = 1 := by kernel_rfl
@[simp] theorem k_bytes113 : Tryd.prog.bytesOf 113 = 8 := by kernel_rfl
@[simp] theorem k_eq113 : eqKinds Tryd.prog 113 = some [SK.i] := by kernel_rfl
@[simp] theorem k_guard113 : Tryd.prog.eqGuardType Tryd.prog.depth 113 = false := by kernel_rfl
@[simp] theorem k_zero113 : zeroAV Tryd.prog 113 = some (AV.v (Value.int IntKind.i64 0)) := by kernel_rfl
@[simp] theorem k_ok114 : okT Tryd.prog 114 = true := by kernel_rfl
@[simp] theorem k_agg114 : aggB Tryd.prog 114 = false := by kernel_rfl
@[simp] theorem k_cells114 : Tryd.prog.cellsOf 114 = 1 := by kernel_rfl
@[simp] theorem k_bytes114 : Tryd.prog.bytesOf 114 = 0 := by kernel_rfl
@[simp] theorem k_eq114 : eqKinds Tryd.prog 114 = none := by kernel_rfl
@[simp] theorem k_guard114 : Tryd.prog.eqGuardType Tryd.prog.depth 114 = false := by kernel_rfl
@[simp] theorem k_zero114 : zeroAV Tryd.prog 114 = some AV.u := by kernel_rfl
@[simp] theorem k_ok115 : okT Tryd.prog 115 = true := by kernel_rfl
@[simp] theorem k_agg115 : aggB Tryd.prog 115 = false := by kernel_rfl
@[simp] theorem k_cells115 : Tryd.prog.cellsOf 115 = 1 := by kernel_rfl
@[simp] theorem k_bytes115 : Tryd.prog.bytesOf 115 = 8 := by kernel_rfl
@[simp] theorem k_eq115 : eqKinds Tryd.prog 115 = none := by kernel_rfl
@[simp] theorem k_guard115 : Tryd.prog.eqGuardType Tryd.prog.depth 115 = false := by kernel_rfl
@[simp] theorem k_zero115 : zeroAV Tryd.prog 115 = some (AV.v Value.nilFunc) := by kernel_rfl
@[simp] theorem k_ok116 : okT Tryd.prog 116 = true := by kernel_rfl
@[simp] theorem k_agg116 : aggB Tryd.prog 116 = false := by kernel_rfl
@[simp] theorem k_cells116 : Tryd.prog.cellsOf 116 = 1 := by kernel_rfl
@[simp] theorem k_bytes116 : Tryd.prog.bytesOf 116 = 8 := by kernel_rfl
@[simp] theorem k_eq116 : eqKinds Tryd.prog 116 = none := by kernel_rfl
@[simp] theorem k_guard116 : Tryd.prog.eqGuardType Tryd.prog.depth 116 = false := by kernel_rfl
@[simp] theorem k_zero116 : zeroAV Tryd.prog 116 = some (AV.v Value.nilFunc) := by kernel_rfl
@[simp] theorem k_ok117 : okT Tryd.prog 117 = true := by kernel_rfl
@[simp] theorem k_agg117 : aggB Tryd.prog 117 = false := by kernel_rfl
@[simp] theorem k_cells117 : Tryd.prog.cellsOf 117 = 1 := by kernel_rfl
@[simp] theorem k_bytes117 : Tryd.prog.bytesOf 117 = 8 := by kernel_rfl
@[simp] theorem k_eq117 : eqKinds Tryd.prog 117 = none := by kernel_rfl
@[simp] theorem k_guard117 : Tryd.prog.eqGuardType Tryd.prog.depth 117 = false := by kernel_rfl
@[simp] theorem k_zero117 : zeroAV Tryd.prog 117 = some (AV.v Value.nilFunc) := by kernel_rfl
@[simp] theorem k_ok118 : okT Tryd.prog 118 = true := by kernel_rfl
@[simp] theorem k_agg118 : aggB Tryd.prog 118 = false := by kernel_rfl
@[simp] theorem k_cells118 : Tryd.prog.cellsOf 118 = 1 := by kernel_rfl
@[simp] theorem k_bytes118 : Tryd.prog.bytesOf 118 = 8 := by kernel_rfl
@[simp] theorem k_eq118 : eqKinds Tryd.prog 118 = none := by kernel_rfl
@[simp] theorem k_guard118 : Tryd.prog.eqGuardType Tryd.prog.depth 118 = false := by kernel_rfl
@[simp] theorem k_zero118 : zeroAV Tryd.prog 118 = some (AV.v Value.nilFunc) := by kernel_rfl
@[simp] theorem k_ok119 : okT Tryd.prog 119 = true := by kernel_rfl
@[simp] theorem k_agg119 : aggB Tryd.prog 119 = false := by kernel_rfl
@[simp] theorem k_cells119 : Tryd.prog.cellsOf 119 = 1 := by kernel_rfl
@[simp] theorem k_bytes119 : Tryd.prog.bytesOf 119 = 8 := by kernel_rfl
@[simp] theorem k_eq119 : eqKinds Tryd.prog 119 = none := by kernel_rfl
@[simp] theorem k_guard119 : Tryd.prog.eqGuardType Tryd.prog.depth 119 = false := by kernel_rfl
@[simp] theorem k_zero119 : zeroAV Tryd.prog 119 = some (AV.v Value.nilFunc) := by kernel_rfl
@[simp] theorem k_ok120 : okT Tryd.prog 120 = true := by kernel_rfl
@[simp] theorem k_agg120 : aggB Tryd.prog 120 = false := by kernel_rfl
@[simp] theorem k_cells120 : Tryd.prog.cellsOf 120 = 1 := by kernel_rfl
@[simp] theorem k_bytes120 : Tryd.prog.bytesOf 120 = 4 := by kernel_rfl
@[simp] theorem k_eq120 : eqKinds Tryd.prog 120 = some [SK.i] := by kernel_rfl
@[simp] theorem k_guard120 : Tryd.prog.eqGuardType Tryd.prog.depth 120 = false := by kernel_rfl
@[simp] theorem k_zero120 : zeroAV Tryd.prog 120 = some (AV.v (Value.int IntKind.u32 0)) := by kernel_rfl
@[simp] theorem k_ok121 : okT Tryd.prog 121 = true := by kernel_rfl
@[simp] theorem k_agg121 : aggB Tryd.prog 121 = false := by kernel_rfl
@[simp] theorem k_cells121 : Tryd.prog.cellsOf 121 = 1 := by kernel_rfl
@[simp] theorem k_bytes121 : Tryd.prog.bytesOf 121 = 8 := by kernel_rfl
@[simp] theorem k_eq121 : eqKinds Tryd.prog 121 = none := by kernel_rfl
@[simp] theorem k_guard121 : Tryd.prog.eqGuardType Tryd.prog.depth 121 = false := by kernel_rfl
@[simp] theorem k_zero121 : zeroAV Tryd.prog 121 = some (AV.v Value.nilFunc) := by kernel_rfl
@[simp] theorem k_ok122 : okT Tryd.prog 122 = true := by kernel_rfl
@[simp] theorem k_agg122 : aggB Tryd.prog 122 = false := by kernel_rfl
@[simp] theorem k_cells122 : Tryd.prog.cellsOf 122 = 1 := by kernel_rfl
@[simp] theorem k_bytes122 : Tryd.prog.bytesOf 122 = 8 := by kernel_rfl
@[simp] theorem k_eq122 : eqKinds Tryd.prog 122 = some [SK.i] := by kernel_rfl
@[simp] theorem k_guard122 : Tryd.prog.eqGuardType Tryd.prog.depth 122 = false := by kernel_rfl
@[simp] theorem k_zero122 : zeroAV Tryd.prog 122 = some (AV.v (Value.int IntKind.u64 0)) := by kernel_rfl
@[simp] theorem k_ok123 : okT Tryd.prog 123 = true := by kernel_rfl
@[simp] theorem k_agg123 : aggB Tryd.prog 123 = true := by kernel_rfl
@[simp] theorem k_cells123 : Tryd.prog.cellsOf 123 = 24 := by kernel_rfl
@[simp] theorem k_bytes123 : Tryd.prog.bytesOf 123 = 24 := by kernel_rfl
@[simp] theorem k_eq123 : eqKinds Tryd.prog 123 = none := by kernel_rfl
@[simp] theorem k_guard123 : Tryd.prog.eqGuardType Tryd.prog.depth 123 = false := by kernel_rfl
@[simp] theorem k_zero123 : zeroAV Tryd.prog 123 = some (AV.st [AV.v (Value.int IntKind.u8 0), AV.v (Value.int IntKind.u8 0), AV.v (Value.int IntKind.u8 0), AV.v (Value.int IntKind.u8 0), AV.v (Value.int IntKind.u8 0), AV.v (Value.int IntKind.u8 0), AV.v (Value.int IntKind.u8 0), AV.v (Value.int IntKind.u8 0), AV.v (Value.int IntKind.u8 0), AV.v (Value.int IntKind.u8 0), AV.v (Value.int IntKind.u8 0), AV.v (Value.int IntKind.u8 0), AV.v (Value.int IntKind.u8 0), AV.v (Value.int IntKind.u8 0), AV.v (Value.int IntKind.u8 0), AV.v (Value.int IntKind.u8 0), AV.v (Value.int IntKind.u8 0), AV.v (Value.int IntKind.u8 0), AV.v (Value.int IntKind.u8 0), AV.v (Value.int IntKind.u8 0), AV.v (Value.int IntKind.u8 0), AV.v (Value.int IntKind.u8 0), AV.v (Value.int IntKind.u8 0), AV.v (Value.int IntKind.u8 0)]) := by kernel_rfl
@[simp] theorem k_ok124 : okT Tryd.prog 124 = true := by kernel_rfl
@[simp] theorem k_agg124 : aggB Tryd.prog 124 = false := by kernel_rfl
@[simp] theorem k_cells124 : Tryd.prog.cellsOf 124 = 1 := by kernel_rfl
@[simp] theorem k_bytes124 : Tryd.prog.bytesOf 124 = 8 := by kernel_rfl
@[simp] theorem k_eq124 : eqKinds Tryd.prog 124 = none := by kernel_rfl
@[simp] theorem k_guard124 : Tryd.prog.eqGuardType Tryd.prog.depth 124 = false := by kernel_rfl
@[simp] theorem k_zero124 : zeroAV Tryd.prog 124 = some (AV.v Value.nilFunc) := by kernel_rfl
@[simp] theorem k_ok125 : okT Tryd.prog 125 = true := by kernel_rfl
@[simp] theorem k_agg125 : aggB Tryd.prog 125 = false := by kernel_rfl
@[simp] theorem k_cells125 : Tryd.prog.cellsOf 125 = 1 := by kernel_rfl
@[simp] theorem k_bytes125 : Tryd.prog.bytesOf 125 = 0 := by kernel_rfl
@[simp] theorem k_eq125 : eqKinds Tryd.prog 125 = none := by kernel_rfl
@[simp] theorem k_guard125 : Tryd.prog.eqGuardType Tryd.prog.depth 125 = false := by kernel_rfl
@[simp] theorem k_zero125 : zeroAV Tryd.prog 125 = some AV.u := by kernel_rfl
@[simp] theorem k_ok126 : okT Tryd.prog 126 = true := by kernel_rfl
@[simp] theorem k_agg126 : aggB Tryd.prog 126 = false := by kernel_rfl
@[simp] theorem k_cells126 : Tryd.prog.cellsOf 126 = 1 := by kernel_rfl
@[simp] theorem k_bytes126 : Tryd.prog.bytesOf 126 = 8 := by kernel_rfl
@[simp] theorem k_eq126 : eqKinds Tryd.prog 126 = none := by kernel_rfl
@[simp] theorem k_guard126 : Tryd.prog.eqGuardType Tryd.prog.depth 126 = false := by kernel_rfl
@[simp] theorem k_zero126 : zeroAV Tryd.prog 126 = some (AV.v Value.nilFunc) := by kernel_rfl
@[simp] theorem k_ok127 : okT Tryd.prog 127 = true := by kernel_rfl
@[simp] theorem k_agg127 : aggB Tryd.prog 127 = false := by kernel_rfl
@[simp] theorem k_cells127 : Tryd.prog.cellsOf 127 = 1 := by kernel_rfl
@[simp] theorem k_bytes127 : Tryd.prog.bytesOf 127 = 8 := by kernel_rfl
@[simp] theorem k_eq127 : eqKinds Tryd.prog 127 = some [SK.i] := by kernel_rfl
@[simp] theorem k_guard127 : Tryd.prog.eqGuardType Tryd.prog.depth 127 = false := by kernel_rfl
@[simp] theorem k_zero127 : zeroAV Tryd.prog 127 = some (AV.v (Value.int IntKind.u64 0)) := by kernel_rfl
@[simp] theorem k_ok128 : okT Tryd.prog 128 = true := by kernel_rfl
@[simp] theorem k_agg128 : aggB Tryd.prog 128 = false := by kernel_rfl
@[simp] theorem k_cells128 : Tryd.prog.cellsOf 128 = 1 := by kernel_rfl
@[simp] theorem k_bytes128 : Tryd.prog.bytesOf 128 = 8 := by kernel_rfl
@[simp] theorem k_eq128 : eqKinds Tryd.prog 128 = none := by kernel_rfl
@[simp] theorem k_guard128 : Tryd.prog.eqGuardType Tryd.prog.depth 128 = false := by kernel_rfl
@[simp] theorem k_zero128 : zeroAV Tryd.prog 128 = some (AV.v Value.nilFunc) := by kernel_rfl
@[simp] theorem k_ok129 : okT Tryd.prog 129 = true := by kernel_rfl
@[simp] theorem k_agg129 : aggB Tryd.prog 129 = false := by kernel_rfl
@[simp] theorem k_cells129 : Tryd.prog.cellsOf 129 = 1 := by kernel_rfl
@[simp] theorem k_bytes129 : Tryd.prog.bytesOf 129 = 8 := by kernel_rfl
@[simp] theorem k_eq129 : eqKinds Tryd.prog 129 = none := by kernel_rfl
@[simp] theorem k_guard129 : Tryd.prog.eqGuardType Tryd.prog.depth 129 = false := by kernel_rfl
@[simp] theorem k_zero129 : zeroAV Tryd.prog 129 = some (AV.v Value.nilFunc) := by kernel_rfl
@[simp] theorem k_ok130 : okT Tryd.prog 130 = true := by kernel_rfl
@[simp] theorem k_agg130 : aggB Tryd.prog 130 = false := by kernel_rfl
@[simp] theorem k_cells130 : Tryd.prog.cellsOf 130 = 1 := by kernel_rfl
@[simp] theorem k_bytes130 : Tryd.prog.bytesOf 130 = 8 := by kernel_rfl
@[simp] theorem k_eq130 : eqKinds Tryd.prog 130 = none := by kernel_rfl
@[simp] theorem k_guard130 : Tryd.prog.eqGuardType Tryd.prog.depth 130 = false := by kernel_rfl
@[simp] theorem k_zero130 : zeroAV Tryd.prog 130 = some (AV.v Value.nilFunc) := by kernel_rfl
@[simp] theorem k_ok131 : okT Tryd.prog 131 = true := by kernel_rfl
@[simp] theorem k_agg131 : aggB Tryd.prog 131 = false := by kernel_rfl
@[simp] theorem k_cells131 : Tryd.prog.cellsOf 131 = 1 := by kernel_rfl
@[simp] theorem k_bytes131 : Tryd.prog.bytesOf 131 = 8 := by kernel_rfl
@[simp] theorem k_eq131 : eqKinds Tryd.prog 131 = none := by kernel_rfl
@[simp] theorem k_guard131 : Tryd.prog.eqGuardType Tryd.prog.depth 131 = false := by kernel_rfl
@[simp] theorem k_zero131 : zeroAV Tryd.prog 131 = some (AV.v (Value.pointer none)) := by kernel_rfl
@[simp] theorem k_ok132 : okT Tryd.prog 132 = true := by kernel_rfl
@[simp] theorem k_agg132 : aggB Tryd.prog 132 = false := by kernel_rfl
@[simp] theorem k_cells132 : Tryd.prog.cellsOf 132 = 1 := by kernel_rfl
@[simp] theorem k_bytes132 : Tryd.prog.bytesOf 132 = 8 := by kernel_rfl
@[simp] theorem k_eq132 : eqKinds Tryd.prog 132 = none := by kernel_rfl
@[simp] theorem k_guard132 : Tryd.prog.eqGuardType Tryd.prog.depth 132 = false := by kernel_rfl
@[simp] theorem k_zero132 : zeroAV Tryd.prog 132 = some (AV.v Value.nilFunc) := by kernel_rfl
@[simp] theorem k_ok133 : okT Tryd.prog 133 = true := by kernel_rfl
@[simp] theorem k_agg133 : aggB Tryd.prog 133 = false := by kernel_rfl
@[simp] theorem k_cells133 : Tryd.prog.cellsOf 133 = 1 := by kernel_rfl
@[simp] theorem k_bytes133 : Tryd.prog.bytesOf 133 = 8 := by kernel_rfl
@[simp] theorem k_eq133 : eqKinds Tryd.prog 133 = none := by kernel_rfl
@[simp] theorem k_guard133 : Tryd.prog.eqGuardType Tryd.prog.depth 133 = false := by kernel_rfl
@[simp] theorem k_zero133 : zeroAV Tryd.prog 133 = some (AV.v Value.nilFunc) := by kernel_rfl
@[simp] theorem k_ok134 : okT Tryd.prog 134 = true := by kernel_rfl
@[simp] theorem k_agg134 : aggB Tryd.prog 134 = false := by kernel_rfl
@[simp] theorem k_cells134 : Tryd.prog.cellsOf 134 = 1 := by kernel_rfl
@[simp] theorem k_bytes134 : Tryd.prog.bytesOf 134 = 8 := by kernel_rfl
@[simp] theorem k_eq134 : eqKinds Tryd.prog 134 = none := by kernel_rfl
@[simp] theorem k_guard134 : Tryd.prog.eqGuardType Tryd.prog.depth 134 = false := by kernel_rfl
@[simp] theorem k_zero134 : zeroAV Tryd.prog 134 = some (AV.v Value.nilFunc) := by kernel_rfl
@[simp] theorem k_ok135 : okT Tryd.prog 135 = true := by kernel_rfl
@[simp] theorem k_agg135 : aggB Tryd.prog 135 = true := by kernel_rfl
@[simp] theorem k_cells135 : Tryd.prog.cellsOf 135 = 20 := by kernel_rfl
@[simp] theorem k_bytes135 : Tryd.prog.bytesOf 135 = 160 := by kernel_rfl
@[simp] theorem k_eq135 : eqKinds Tryd.prog 135 = none := by kernel_rfl
@[simp] theorem k_guard135 : Tryd.prog.eqGuardType Tryd.prog.depth 135 = false := by kernel_rfl
@[simp] theorem k_zero135 : zeroAV Tryd.prog 135 = some (AV.st [AV.v (Value.int IntKind.u64 0), AV.v (Value.int IntKind.u64 0), AV.v (Value.int IntKind.u64 0), AV.v (Value.int IntKind.u64 0), AV.v (Value.int IntKind.u64 0), AV.v (Value.int IntKind.u64 0), AV.v (Value.int IntKind.u64 0), AV.v (Value.int IntKind.u64 0), AV.v (Value.int IntKind.u64 0), AV.v (Value.int IntKind.u64 0), AV.v (Value.int IntKind.u64 0), AV.v (Value.int IntKind.u64 0), AV.v (Value.int IntKind.u64 0), AV.v (Value.int IntKind.u64 0), AV.v (Value.int IntKind.u64 0), AV.v (Value.int IntKind.u64 0), AV.v (Value.int IntKind.u64 0), AV.v (Value.int IntKind.u64 0), AV.v (Value.int IntKind.u64 0), AV.v (Value.int IntKind.u64 0)]) := by kernel_rfl
@[simp] theorem k_ok136 : okT Tryd.prog 136 = true := by kernel_rfl
@[simp] theorem k_agg136 : aggB Tryd.prog 136 = true := by kernel_rfl
@[simp] theorem k_cells136 : Tryd.prog.cellsOf 136 = 65 := by kernel_rfl
@[simp] theorem k_bytes136 : Tryd.prog.bytesOf 136 = 65 := by kernel_rfl
@[simp] theorem k_eq136 : eqKinds Tryd.prog 136 = none := by kernel_rfl
@[simp] theorem k_guard136 : Tryd.prog.eqGuardType Tryd.prog.depth 136 = false := by kernel_rfl
@[simp] theorem k_ok137 : okT Tryd.prog 137 = true := by kernel_rfl
@[simp] theorem k_agg137 : aggB Tryd.prog 137 = false := by kernel_rfl
@[simp] theorem k_cells137 : Tryd.prog.cellsOf 137 = 1 := by kernel_rfl
@[simp] theorem k_bytes137 : Tryd.prog.bytesOf 137 = 8 := by kernel_rfl
@[simp] theorem k_eq137 : eqKinds Tryd.prog 137 = none := by kernel_rfl
@[simp] theorem k_guard137 : Tryd.prog.eqGuardType Tryd.prog.depth 137 = false := by kernel_rfl
@[simp] theorem k_zero137 : zeroAV Tryd.prog 137 = some (AV.v (Value.pointer none)) := by kernel_rfl
@[simp] theorem k_ok138 : okT Tryd.prog 138 = true := by kernel_rfl
@[simp] theorem k_agg138 : aggB Tryd.prog 138 = false := by kernel_rfl
@[simp] theorem k_cells138 : Tryd.prog.cellsOf 138 = 1 := by kernel_rfl
@[simp] theorem k_bytes138 : Tryd.prog.bytesOf 138 = 0 := by kernel_rfl
@[simp] theorem k_eq138 : eqKinds Tryd.prog 138 = none := by kernel_rfl
@[simp] theorem k_guard138 : Tryd.prog.eqGuardType Tryd.prog.depth 138 = false := by kernel_rfl
@[simp] theorem k_zero138 : zeroAV Tryd.prog 138 = some AV.u := by kernel_rfl
@[simp] theorem k_ok139 : okT Tryd.prog 139 = true := by kernel_rfl
@[simp] theorem k_agg139 : aggB Tryd.prog 139 = false := by kernel_rfl
@[simp] theorem k_cells139 : Tryd.prog.cellsOf 139 = 1 := by kernel_rfl
@[simp] theorem k_bytes139 : Tryd.prog.bytesOf 139 = 8 := by kernel_rfl
@[simp] theorem k_eq139 : eqKinds Tryd.prog 139 = none := by kernel_rfl
@[simp] theorem k_guard139 : Tryd.prog.eqGuardType Tryd.prog.depth 139 = false := by kernel_rfl
@[simp] theorem k_zero139 : zeroAV Tryd.prog 139 = some (AV.v Value.nilFunc) := by kernel_rfl
@[simp] theorem k_ok140 : okT Tryd.prog 140 = true := by kernel_rfl
@[simp] theorem k_agg140 : aggB Tryd.prog 140 = true := by kernel_rfl
@[simp] theorem k_cells140 : Tryd.prog.cellsOf 140 = 32 := by kernel_rfl
@[simp] theorem k_bytes140 : Tryd.prog.bytesOf 140 = 32 := by kernel_rfl
@[simp] theorem k_eq140 : eqKinds Tryd.prog 140 = none := by kernel_rfl
@[simp] theorem k_guard140 : Tryd.prog.eqGuardType Tryd.prog.depth 140 = false := by kernel_rfl
@[simp] theorem k_zero140 : zeroAV Tryd.prog 140 = some (AV.st [AV.v (Value.int IntKind.u8 0), AV.v (Value.int IntKind.u8 0), AV.v (Value.int IntKind.u8 0), AV.v (Value.int IntKind.u8 0), AV.v (Value.int IntKind.u8 0), AV.v (Value.int IntKind.u8 0), AV.v (Value.int IntKind.u8 0), AV.v (Value.int IntKind.u8 0), AV.v (Value.int IntKind.u8 0), AV.v (Value.int IntKind.u8 0), AV.v (Value.int IntKind.u8 0), AV.v (Value.int IntKind.u8 0), AV.v (Value.int IntKind.u8 0), AV.v (Value.int IntKind.u8 0), AV.v (Value.int IntKind.u8 0), AV.v (Value.int IntKind.u8 0), AV.v (Value.int IntKind.u8 0), AV.v (Value.int IntKind.u8 0), AV.v (Value.int IntKind.u8 0), AV.v (Value.int IntKind.u8 0), AV.v (Value.int IntKind.u8 0), AV.v (Value.int IntKind.u8 0), AV.v (Value.int IntKind.u8 0), AV.v (Value.int IntKind.u8 0), AV.v (Value.int IntKind.u8 0), AV.v (Value.int IntKind.u8 0), AV.v (Value.int IntKind.u8 0), AV.v (Value.int IntKind.u8 0), AV.v (Value.int IntKind.u8 0), AV.v (Value.int IntKind.u8 0), AV.v (Value.int IntKind.u8 0), AV.v (Value.int IntKind.u8 0)]) := by kernel_rfl
@[simp] theorem k_ok141 : okT Tryd.prog 141 = true := by kernel_rfl
@[simp] theorem k_agg141 : aggB Tryd.prog 141 = true := by kernel_rfl
@[simp] theorem k_cells141 : Tryd.prog.cellsOf 141 = 64 := by kernel_rfl
@[simp] theorem k_bytes141 : Tryd.prog.bytesOf 141 = 64 := by kernel_rfl
@[simp] theorem k_eq141 : eqKinds Tryd.prog 141 = none := by kernel_rfl
@[simp] theorem k_guard141 : Tryd.prog.eqGuardType Tryd.prog.depth 141 = false := by kernel_rfl
@[simp] theorem k_ok142 : okT Tryd.prog 142 = true := by kernel_rfl
@[simp] theorem k_agg142 : aggB Tryd.prog 142 = true := by kernel_rfl
@[simp] theorem k_cells142 : Tryd.prog.cellsOf 142 = 4 := by kernel_rfl
@[simp] theorem k_bytes142 : Tryd.prog.bytesOf 142 = 40 := by kernel_rfl
@[simp] theorem k_eq142 : eqKinds Tryd.prog 142 = none := by kernel_rfl
@[simp] theorem k_guard142 : Tryd.prog.eqGuardType Tryd.prog.depth 142 = false := by kernel_rfl
@[simp] theorem k_zero142 : zeroAV Tryd.prog 142 = some (AV.st [AV.v (Value.pointer none), AV.v (Value.pointer none), AV.v (Value.pointer none), AV.v (Value.string { data := { toList := [] } })]) := by kernel_rfl
@[simp] theorem k_ok143 : okT Tryd.prog 143 = true := by kernel_rfl
@[simp] theorem k_agg143 : aggB Tryd.prog 143 = true := by kernel_rfl
@[simp] theorem k_cells143 : Tryd.prog.cellsOf 143 = 4 := by kernel_rfl
@[simp] theorem k_bytes143 : Tryd.prog.bytesOf 143 = 40 := by kernel_rfl
@[simp] theorem k_eq143 : eqKinds Tryd.prog 143 = none := by kernel_rfl
@[simp] theorem k_guard143 : Tryd.prog.eqGuardType Tryd.prog.depth 143 = false := by kernel_rfl
@[simp] theorem k_zero143 : zeroAV Tryd.prog 143 = some (AV.st [AV.v (Value.pointer none), AV.v (Value.pointer none), AV.v (Value.pointer none), AV.v (Value.string { data := { toList := [] } })]) := by kernel_rfl
@[simp] theorem k_ok144 : okT Tryd.prog 144 = true := by kernel_rfl
@[simp] theorem k_agg144 : aggB Tryd.prog 144 = true := by kernel_rfl
@[simp] theorem k_cells144 : Tryd.prog.cellsOf 144 = 0 := by kernel_rfl
@[simp] theorem k_bytes144 : Tryd.prog.bytesOf 144 = 0 := by kernel_rfl
@[simp] theorem k_eq144 : eqKinds Tryd.prog 144 = none := by kernel_rfl
@[simp] theorem k_guard144 : Tryd.prog.eqGuardType Tryd.prog.depth 144 = false := by kernel_rfl
@[simp] theorem k_zero144 : zeroAV Tryd.prog 144 = some (AV.st []) := by kernel_rfl
@[simp] theorem k_ok145 : okT Tryd.prog 145 = true := by kernel_rfl
@[simp] theorem k_agg145 : aggB Tryd.prog 145 = true := by kernel_rfl
@[simp] theorem k_cells145 : Tryd.prog.cellsOf 145 = 0 := by kernel_rfl
@[simp] theorem k_bytes145 : Tryd.prog.bytesOf 145 = 0 := by kernel_rfl
@[simp] theorem k_eq145 : eqKinds Tryd.prog 145 = none := by kernel_rfl
@[simp] theorem k_guard145 : Tryd.prog.eqGuardType Tryd.prog.depth 145 = false := by kernel_rfl
@[simp] theorem k_zero145 : zeroAV Tryd.prog 145 = some (AV.st []) := by kernel_rfl
@[simp] theorem k_ok146 : okT Tryd.prog 146 = true := by kernel_rfl
@[simp] theorem k_agg146 : aggB Tryd.prog 146 = true := by kernel_rfl
@[simp] theorem k_cells146 : Tryd.prog.cellsOf 146 = 0 := by kernel_rfl
@[simp] theorem k_bytes146 : Tryd.prog.bytesOf 146 = 0 := by kernel_rfl
@[simp] theorem k_eq146 : eqKinds Tryd.prog 146 = none := by kernel_rfl
@[simp] theorem k_guard146 : Tryd.prog.eqGuardType Tryd.prog.depth 146 = false := by kernel_rfl
@[simp] theorem k_zero146 : zeroAV Tryd.prog 146 = some (AV.st []) := by kernel_rfl
@[simp] theorem k_ok147 : okT Tryd.prog 147 = true := by kernel_rfl
@[simp] theorem k_agg147 : aggB Tryd.prog 147 = false := by kernel_rfl
@[simp] theorem k_cells147 : Tryd.prog.cellsOf 147 = 1 := by kernel_rfl
@[simp] theorem k_bytes147 : Tryd.prog.bytesOf 147 = 1 := by kernel_rfl
@[simp] theorem k_eq147 : eqKinds Tryd.prog 147 = some [SK.i] := by kernel_rfl
@[simp] theorem k_guard147 : Tryd.prog.eqGuardType Tryd.prog.depth 147 = false := by kernel_rfl
@[simp] theorem k_zero147 : zeroAV Tryd.prog 147 = some (AV.v (Value.int IntKind.u8 0)) := by kernel_rfl
@[simp] theorem k_ok148 : okT Tryd.prog 148 = true := by kernel_rfl
@[simp] theorem k_agg148 : aggB Tryd.prog 148 = false := by kernel_rfl
@[simp] theorem k_cells148 : Tryd.prog.cellsOf 148 = 1 := by kernel_rfl
@[simp] theorem k_bytes148 : Tryd.prog.bytesOf 148 = 1 := by kernel_rfl
@[simp] theorem k_eq148 : eqKinds Tryd.prog 148 = some [SK.i] := by kernel_rfl
@[simp] theorem k_guard148 : Tryd.prog.eqGuardType Tryd.prog.depth 148 = false := by kernel_rfl
@[simp] theorem k_zero148 : zeroAV Tryd.prog 148 = some (AV.v (Value.int IntKind.u8 0)) := by kernel_rfl
@[simp] theorem k_ok149 : okT Tryd.prog 149 = true := by kernel_rfl
@[simp] theorem k_agg149 : aggB Tryd.prog 149 = false := by kernel_rfl
@[simp] theorem k_cells149 : Tryd.prog.cellsOf 149 = 1 := by kernel_rfl
@[simp] theorem k_bytes149 : Tryd.prog.bytesOf 149 = 8 := by kernel_rfl
@[simp] theorem k_eq149 : eqKinds Tryd.prog 149 = none := by kernel_rfl
@[simp] theorem k_guard149 : Tryd.prog.eqGuardType Tryd.prog.depth 149 = false := by kernel_rfl
@[simp] theorem k_zero149 : zeroAV Tryd.prog 149 = some (AV.v Value.nilFunc) := by kernel_rfl
@[simp] theorem k_ok150 : okT Tryd.prog 150 = true := by kernel_rfl
@[simp] theorem k_agg150 : aggB Tryd.prog 150 = false := by kernel_rfl
@[simp] theorem k_cells150 : Tryd.prog.cellsOf 150 = 1 := by kernel_rfl
@[simp] theorem k_bytes150 : Tryd.prog.bytesOf 150 = 4 := by kernel_rfl
@[simp] theorem k_eq150 : eqKinds Tryd.prog 150 = some [SK.i] := by kernel_rfl
@[simp] theorem k_guard150 : Tryd.prog.eqGuardType Tryd.prog.depth 150 = false := by kernel_rfl
@[simp] theorem k_zero150 : zeroAV Tryd.prog 150 = some (AV.v (Value.int IntKind.i32 0)) := by kernel_rfl
@[simp] theorem k_ok151 : okT Tryd.prog 151 = true := by kernel_rfl
@[simp] theorem k_agg151 : aggB Tryd.prog 151 = false := by kernel_rfl
@[simp] theorem k_cells151 : Tryd.prog.cellsOf 151 = 1 := by kernel_rfl
@[simp] theorem k_bytes151 : Tryd.prog.bytesOf 151 = 4 := by kernel_rfl
@[simp] theorem k_eq151 : eqKinds Tryd.prog 151 = some [SK.i] := by kernel_rfl
@[simp] theorem k_guard151 : Tryd.prog.eqGuardType Tryd.prog.depth 151 = false := by kernel_rfl
@[simp] theorem k_zero151 : zeroAV Tryd.prog 151 = some (AV.v (Value.int IntKind.i32 0)) := by kernel_rfl
@[simp] theorem k_ok152 : okT Tryd.prog 152 = true := by kernel_rfl
@[simp] theorem k_agg152 : aggB Tryd.prog 152 = true := by kernel_rfl
@[simp] theorem k_cells152 : Tryd.prog.cellsOf 152 = 11 := by kernel_rfl
@[simp] theorem k_bytes152 : Tryd.prog.bytesOf 152 = 48 := by kernel_rfl
@[simp] theorem k_eq152 : eqKinds Tryd.prog 152 = none := by kernel_rfl
@[simp] theorem k_guard152 : Tryd.prog.eqGuardType Tryd.prog.depth 152 = false := by kernel_rfl
@[simp] theorem k_zero152 : zeroAV Tryd.prog 152 = some (AV.st [AV.v (Value.int IntKind.u64 0), AV.v (Value.int IntKind.u64 0), AV.v (Value.int IntKind.u32 0), AV.v (Value.int IntKind.u8 0), AV.v (Value.int IntKind.u8 0), AV.v (Value.int IntKind.u8 0), AV.v (Value.int IntKind.u8 0), AV.v Value.nilFunc, AV.v (Value.pointer none), AV.v (Value.int IntKind.i32 0), AV.v (Value.int IntKind.i32 0)]) := by kernel_rfl
@[simp] theorem k_ok153 : okT Tryd.prog 153 = true := by kernel_rfl
@[simp] theorem k_agg153 : aggB Tryd.prog 153 = true := by kernel_rfl
@[simp] theorem k_cells153 : Tryd.prog.cellsOf 153 = 11 := by kernel_rfl
@[simp] theorem k_bytes153 : Tryd.prog.bytesOf 153 = 48 := by kernel_rfl
@[simp] theorem k_eq153 : eqKinds Tryd.prog 153 = none := by kernel_rfl
@[simp] theorem k_guard153 : Tryd.prog.eqGuardType Tryd.prog.depth 153 = false := by kernel_rfl
@[simp] theorem k_zero153 : zeroAV Tryd.prog 153 = some (AV.st [AV.v (Value.int IntKind.u64 0), AV.v (Value.int IntKind.u64 0), AV.v (Value.int IntKind.u32 0), AV.v (Value.int IntKind.u8 0), AV.v (Value.int IntKind.u8 0), AV.v (Value.int IntKind.u8 0), AV.v (Value.int IntKind.u8 0), AV.v Value.nilFunc, AV.v (Value.pointer none), AV.v (Value.int IntKind.i32 0), AV.v (Value.int IntKind.i32 0)]) := by kernel_rfl
attribute [simp] Tryd.underlying0 Tryd.underlying1 Tryd.underlying2 Tryd.underlying3 Tryd.underlying4 Tryd.underlying5 Tryd.underlying6 Tryd.underlying7 Tryd.underlying8 Tryd.underlying9
attribute [simp] Tryd.underlying10 Tryd.underlying11 Tryd.underlying12 Tryd.underlying13 Tryd.underlying14 Tryd.underlying15 Tryd.underlying16 Tryd.underlying17 Tryd.underlying18 Tryd.underlying19
attribute [simp] Tryd.underlying20 Tryd.underlying21 Tryd.underlying22 Tryd.underlying23 Tryd.underlying24 Tryd.underlying25 Tryd.underlying26 Tryd.underlying27 Tryd.underlying28 Tryd.underlying29
attribute [simp] Tryd.underlying30 Tryd.underlying31 Tryd.underlying32 Tryd.underlying33 Tryd.underlying34 Tryd.underlying35 Tryd.underlying36 Tryd.underlying37 Tryd.underlying38 Tryd.underlying39
attribute [simp] Tryd.underlying40 Tryd.underlying41 Tryd.underlying42 Tryd.underlying43 Tryd.underlying44 Tryd.underlying45 Tryd.underlying46 Tryd.underlying47 Tryd.underlying48 Tryd.underlying49
attribute [simp] Tryd.underlying50 Tryd.underlying51 Tryd.underlying52 Tryd.underlying53 Tryd.underlying54 Tryd.underlying55 Tryd.underlying56 Tryd.underlying57 Tryd.underlying58 Tryd.underlying59
attribute [simp] Tryd.underlying60 Tryd.underlying61 Tryd.underlying62 Tryd.underlying63 Tryd.underlying64 Tryd.underlying65 Tryd.underlying66 Tryd.underlying67 Tryd.underlying68 Tryd.underlying69
attribute [simp] Tryd.underlying70 Tryd.underlying71 Tryd.underlying72 Tryd.underlying73 Tryd.underlying74 Tryd.underlying75 Tryd.underlying76 Tryd.underlying77 Tryd.underlying78 Tryd.underlying79
attribute [simp] Tryd.underlying80 Tryd.underlying81 Tryd.underlying82 Tryd.underlying83 Tryd.underlying84 Tryd.underlying85 Tryd.underlying86 Tryd.underlying87 Tryd.underlying88 Tryd.underlying89
attribute [simp] Tryd.underlying90 Tryd.underlying91 Tryd.underlying92 Tryd.underlying93 Tryd.underlying94 Tryd.underlying95 Tryd.underlying96 Tryd.underlying97 Tryd.underlying98 Tryd.underlying99
attribute [simp] Tryd.underlying100 Tryd.underlying101 Tryd.underlying102 Tryd.underlying103 Tryd.underlying104 Tryd.underlying105 Tryd.underlying106 Tryd.underlying107 Tryd.underlying108 Tryd.underlying109
attribute [simp] Tryd.underlying110 Tryd.underlying111 Tryd.underlying112 Tryd.underlying113 Tryd.underlying114 Tryd.underlying115 Tryd.underlying116 Tryd.underlying117 Tryd.underlying118 Tryd.underlying119
attribute [simp] Tryd.underlying120 Tryd.underlying121 Tryd.underlying122 Tryd.underlying123 Tryd.underlying124 Tryd.underlying125 Tryd.underlying126 Tryd.underlying127 Tryd.underlying128 Tryd.underlying129
attribute [simp] Tryd.underlying130 Tryd.underlying131 Tryd.underlying132 Tryd.underlying133 Tryd.underlying134 Tryd.underlying135 Tryd.underlying136 Tryd.underlying137 Tryd.underlying138 Tryd.underlying139
attribute [simp] Tryd.underlying140 Tryd.underlying141 Tryd.underlying142 Tryd.underlying143 Tryd.underlying144 Tryd.underlying145 Tryd.underlying146 Tryd.underlying147 Tryd.underlying148 Tryd.underlying149
attribute [simp] Tryd.underlying150 Tryd.underlying151 Tryd.underlying152 Tryd.underlying153
theorem mixed : Tryd.prog.follows .mixedOrders = true := by kernel_rfl
end Go.Proofs.YtbibemijcdkjhaaDoor
