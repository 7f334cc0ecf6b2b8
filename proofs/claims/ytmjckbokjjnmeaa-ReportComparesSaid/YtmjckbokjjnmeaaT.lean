/- MADE BY A PROGRAM (mkfacts.py): the facts of this seat's types that the abstract machine asks for. -/
import Derived.Test.YtmjckbokjjnmeaaAmSimp
import Derived.Test.YtmjckbokjjnmeaaRows
import Derived.KernelRfl
namespace Go.Proofs.Ytmjckbokjjnmeaa
open Go.Am
@[simp] theorem k_ok0 : okT Try.prog 0 = true := by kernel_rfl
@[simp] theorem k_agg0 : aggB Try.prog 0 = false := by kernel_rfl
@[simp] theorem k_cells0 : Try.prog.cellsOf 0 = 1 := by kernel_rfl
@[simp] theorem k_bytes0 : Try.prog.bytesOf 0 = 0 := by kernel_rfl
@[simp] theorem k_eq0 : eqKinds Try.prog 0 = none := by kernel_rfl
@[simp] theorem k_guard0 : Try.prog.eqGuardType Try.prog.depth 0 = false := by kernel_rfl
@[simp] theorem k_zero0 : zeroAV Try.prog 0 = some (AV.tup []) := by kernel_rfl
@[simp] theorem k_ok1 : okT Try.prog 1 = true := by kernel_rfl
@[simp] theorem k_agg1 : aggB Try.prog 1 = false := by kernel_rfl
@[simp] theorem k_cells1 : Try.prog.cellsOf 1 = 1 := by kernel_rfl
@[simp] theorem k_bytes1 : Try.prog.bytesOf 1 = 8 := by kernel_rfl
@[simp] theorem k_eq1 : eqKinds Try.prog 1 = none := by kernel_rfl
@[simp] theorem k_guard1 : Try.prog.eqGuardType Try.prog.depth 1 = false := by kernel_rfl
@[simp] theorem k_zero1 : zeroAV Try.prog 1 = some (AV.v Value.nilFunc) := by kernel_rfl
@[simp] theorem k_ok2 : okT Try.prog 2 = true := by kernel_rfl
@[simp] theorem k_agg2 : aggB Try.prog 2 = false := by kernel_rfl
@[simp] theorem k_cells2 : Try.prog.cellsOf 2 = 1 := by kernel_rfl
@[simp] theorem k_bytes2 : Try.prog.bytesOf 2 = 8 := by kernel_rfl
@[simp] theorem k_eq2 : eqKinds Try.prog 2 = some [SK.i] := by kernel_rfl
@[simp] theorem k_guard2 : Try.prog.eqGuardType Try.prog.depth 2 = false := by kernel_rfl
@[simp] theorem k_zero2 : zeroAV Try.prog 2 = some (AV.v (Value.int IntKind.i64 0)) := by kernel_rfl
@[simp] theorem k_ok3 : okT Try.prog 3 = true := by kernel_rfl
@[simp] theorem k_agg3 : aggB Try.prog 3 = false := by kernel_rfl
@[simp] theorem k_cells3 : Try.prog.cellsOf 3 = 1 := by kernel_rfl
@[simp] theorem k_bytes3 : Try.prog.bytesOf 3 = 8 := by kernel_rfl
@[simp] theorem k_eq3 : eqKinds Try.prog 3 = some [SK.i] := by kernel_rfl
@[simp] theorem k_guard3 : Try.prog.eqGuardType Try.prog.depth 3 = false := by kernel_rfl
@[simp] theorem k_zero3 : zeroAV Try.prog 3 = some (AV.v (Value.int IntKind.i64 0)) := by kernel_rfl
@[simp] theorem k_ok4 : okT Try.prog 4 = true := by kernel_rfl
@[simp] theorem k_agg4 : aggB Try.prog 4 = false := by kernel_rfl
@[simp] theorem k_cells4 : Try.prog.cellsOf 4 = 1 := by kernel_rfl
@[simp] theorem k_bytes4 : Try.prog.bytesOf 4 = 1 := by kernel_rfl
@[simp] theorem k_eq4 : eqKinds Try.prog 4 = some [SK.b] := by kernel_rfl
@[simp] theorem k_guard4 : Try.prog.eqGuardType Try.prog.depth 4 = false := by kernel_rfl
@[simp] theorem k_zero4 : zeroAV Try.prog 4 = some (AV.v (Value.bool false)) := by kernel_rfl
@[simp] theorem k_ok5 : okT Try.prog 5 = true := by kernel_rfl
@[simp] theorem k_agg5 : aggB Try.prog 5 = false := by kernel_rfl
@[simp] theorem k_cells5 : Try.prog.cellsOf 5 = 1 := by kernel_rfl
@[simp] theorem k_bytes5 : Try.prog.bytesOf 5 = 1 := by kernel_rfl
@[simp] theorem k_eq5 : eqKinds Try.prog 5 = some [SK.i] := by kernel_rfl
@[simp] theorem k_guard5 : Try.prog.eqGuardType Try.prog.depth 5 = false := by kernel_rfl
@[simp] theorem k_zero5 : zeroAV Try.prog 5 = some (AV.v (Value.int IntKind.u8 0)) := by kernel_rfl
@[simp] theorem k_ok6 : okT Try.prog 6 = true := by kernel_rfl
@[simp] theorem k_agg6 : aggB Try.prog 6 = false := by kernel_rfl
@[simp] theorem k_cells6 : Try.prog.cellsOf 6 = 1 := by kernel_rfl
@[simp] theorem k_bytes6 : Try.prog.bytesOf 6 = 1 := by kernel_rfl
@[simp] theorem k_eq6 : eqKinds Try.prog 6 = some [SK.i] := by kernel_rfl
@[simp] theorem k_guard6 : Try.prog.eqGuardType Try.prog.depth 6 = false := by kernel_rfl
@[simp] theorem k_zero6 : zeroAV Try.prog 6 = some (AV.v (Value.int IntKind.u8 0)) := by kernel_rfl
@[simp] theorem k_ok7 : okT Try.prog 7 = true := by kernel_rfl
@[simp] theorem k_agg7 : aggB Try.prog 7 = true := by kernel_rfl
@[simp] theorem k_cells7 : Try.prog.cellsOf 7 = 4 := by kernel_rfl
@[simp] theorem k_bytes7 : Try.prog.bytesOf 7 = 24 := by kernel_rfl
@[simp] theorem k_eq7 : eqKinds Try.prog 7 = some [SK.i, SK.i, SK.b, SK.i] := by kernel_rfl
@[simp] theorem k_guard7 : Try.prog.eqGuardType Try.prog.depth 7 = false := by kernel_rfl
@[simp] theorem k_zero7 : zeroAV Try.prog 7 = some (AV.st [AV.v (Value.int IntKind.i64 0), AV.v (Value.int IntKind.i64 0), AV.v (Value.bool false), AV.v (Value.int IntKind.u8 0)]) := by kernel_rfl
@[simp] theorem k_ok8 : okT Try.prog 8 = true := by kernel_rfl
@[simp] theorem k_agg8 : aggB Try.prog 8 = true := by kernel_rfl
@[simp] theorem k_cells8 : Try.prog.cellsOf 8 = 4 := by kernel_rfl
@[simp] theorem k_bytes8 : Try.prog.bytesOf 8 = 24 := by kernel_rfl
@[simp] theorem k_eq8 : eqKinds Try.prog 8 = some [SK.i, SK.i, SK.b, SK.i] := by kernel_rfl
@[simp] theorem k_guard8 : Try.prog.eqGuardType Try.prog.depth 8 = false := by kernel_rfl
@[simp] theorem k_zero8 : zeroAV Try.prog 8 = some (AV.st [AV.v (Value.int IntKind.i64 0), AV.v (Value.int IntKind.i64 0), AV.v (Value.bool false), AV.v (Value.int IntKind.u8 0)]) := by kernel_rfl
@[simp] theorem k_ok9 : okT Try.prog 9 = true := by kernel_rfl
@[simp] theorem k_agg9 : aggB Try.prog 9 = false := by kernel_rfl
@[simp] theorem k_cells9 : Try.prog.cellsOf 9 = 1 := by kernel_rfl
@[simp] theorem k_bytes9 : Try.prog.bytesOf 9 = 16 := by kernel_rfl
@[simp] theorem k_eq9 : eqKinds Try.prog 9 = some [SK.s] := by kernel_rfl
@[simp] theorem k_guard9 : Try.prog.eqGuardType Try.prog.depth 9 = false := by kernel_rfl
@[simp] theorem k_zero9 : zeroAV Try.prog 9 = some (AV.v (Value.string { data := { toList := [] } })) := by kernel_rfl
@[simp] theorem k_ok10 : okT Try.prog 10 = true := by kernel_rfl
@[simp] theorem k_agg10 : aggB Try.prog 10 = false := by kernel_rfl
@[simp] theorem k_cells10 : Try.prog.cellsOf 10 = 1 := by kernel_rfl
@[simp] theorem k_bytes10 : Try.prog.bytesOf 10 = 16 := by kernel_rfl
@[simp] theorem k_eq10 : eqKinds Try.prog 10 = some [SK.s] := by kernel_rfl
@[simp] theorem k_guard10 : Try.prog.eqGuardType Try.prog.depth 10 = false := by kernel_rfl
@[simp] theorem k_zero10 : zeroAV Try.prog 10 = some (AV.v (Value.string { data := { toList := [] } })) := by kernel_rfl
@[simp] theorem k_ok11 : okT Try.prog 11 = true := by kernel_rfl
@[simp] theorem k_agg11 : aggB Try.prog 11 = false := by kernel_rfl
@[simp] theorem k_cells11 : Try.prog.cellsOf 11 = 1 := by kernel_rfl
@[simp] theorem k_bytes11 : Try.prog.bytesOf 11 = 16 := by kernel_rfl
@[simp] theorem k_eq11 : eqKinds Try.prog 11 = some [SK.s] := by kernel_rfl
@[simp] theorem k_guard11 : Try.prog.eqGuardType Try.prog.depth 11 = false := by kernel_rfl
@[simp] theorem k_zero11 : zeroAV Try.prog 11 = some (AV.v (Value.string { data := { toList := [] } })) := by kernel_rfl
@[simp] theorem k_ok12 : okT Try.prog 12 = true := by kernel_rfl
@[simp] theorem k_agg12 : aggB Try.prog 12 = false := by kernel_rfl
@[simp] theorem k_cells12 : Try.prog.cellsOf 12 = 1 := by kernel_rfl
@[simp] theorem k_bytes12 : Try.prog.bytesOf 12 = 8 := by kernel_rfl
@[simp] theorem k_eq12 : eqKinds Try.prog 12 = some [SK.i] := by kernel_rfl
@[simp] theorem k_guard12 : Try.prog.eqGuardType Try.prog.depth 12 = false := by kernel_rfl
@[simp] theorem k_zero12 : zeroAV Try.prog 12 = some (AV.v (Value.int IntKind.u64 0)) := by kernel_rfl
@[simp] theorem k_ok13 : okT Try.prog 13 = true := by kernel_rfl
@[simp] theorem k_agg13 : aggB Try.prog 13 = true := by kernel_rfl
@[simp] theorem k_cells13 : Try.prog.cellsOf 13 = 2 := by kernel_rfl
@[simp] theorem k_bytes13 : Try.prog.bytesOf 13 = 24 := by kernel_rfl
@[simp] theorem k_eq13 : eqKinds Try.prog 13 = none := by kernel_rfl
@[simp] theorem k_guard13 : Try.prog.eqGuardType Try.prog.depth 13 = false := by kernel_rfl
@[simp] theorem k_zero13 : zeroAV Try.prog 13 = some (AV.st [AV.v (Value.string { data := { toList := [] } }), AV.v (Value.int IntKind.u64 0)]) := by kernel_rfl
@[simp] theorem k_ok14 : okT Try.prog 14 = true := by kernel_rfl
@[simp] theorem k_agg14 : aggB Try.prog 14 = true := by kernel_rfl
@[simp] theorem k_cells14 : Try.prog.cellsOf 14 = 2 := by kernel_rfl
@[simp] theorem k_bytes14 : Try.prog.bytesOf 14 = 24 := by kernel_rfl
@[simp] theorem k_eq14 : eqKinds Try.prog 14 = none := by kernel_rfl
@[simp] theorem k_guard14 : Try.prog.eqGuardType Try.prog.depth 14 = false := by kernel_rfl
@[simp] theorem k_zero14 : zeroAV Try.prog 14 = some (AV.st [AV.v (Value.string { data := { toList := [] } }), AV.v (Value.int IntKind.u64 0)]) := by kernel_rfl
@[simp] theorem k_ok15 : okT Try.prog 15 = true := by kernel_rfl
@[simp] theorem k_agg15 : aggB Try.prog 15 = false := by kernel_rfl
@[simp] theorem k_cells15 : Try.prog.cellsOf 15 = 1 := by kernel_rfl
@[simp] theorem k_bytes15 : Try.prog.bytesOf 15 = 8 := by kernel_rfl
@[simp] theorem k_eq15 : eqKinds Try.prog 15 = none := by kernel_rfl
@[simp] theorem k_guard15 : Try.prog.eqGuardType Try.prog.depth 15 = false := by kernel_rfl
@[simp] theorem k_zero15 : zeroAV Try.prog 15 = some (AV.v (Value.pointer none)) := by kernel_rfl
@[simp] theorem k_ok16 : okT Try.prog 16 = true := by kernel_rfl
@[simp] theorem k_agg16 : aggB Try.prog 16 = false := by kernel_rfl
@[simp] theorem k_cells16 : Try.prog.cellsOf 16 = 1 := by kernel_rfl
@[simp] theorem k_bytes16 : Try.prog.bytesOf 16 = 8 := by kernel_rfl
@[simp] theorem k_eq16 : eqKinds Try.prog 16 = none := by kernel_rfl
@[simp] theorem k_guard16 : Try.prog.eqGuardType Try.prog.depth 16 = false := by kernel_rfl
@[simp] theorem k_zero16 : zeroAV Try.prog 16 = some (AV.v (Value.pointer none)) := by kernel_rfl
@[simp] theorem k_ok17 : okT Try.prog 17 = true := by kernel_rfl
@[simp] theorem k_agg17 : aggB Try.prog 17 = false := by kernel_rfl
@[simp] theorem k_cells17 : Try.prog.cellsOf 17 = 1 := by kernel_rfl
@[simp] theorem k_bytes17 : Try.prog.bytesOf 17 = 8 := by kernel_rfl
@[simp] theorem k_eq17 : eqKinds Try.prog 17 = none := by kernel_rfl
@[simp] theorem k_guard17 : Try.prog.eqGuardType Try.prog.depth 17 = false := by kernel_rfl
@[simp] theorem k_zero17 : zeroAV Try.prog 17 = some (AV.v (Value.pointer none)) := by kernel_rfl
@[simp] theorem k_ok18 : okT Try.prog 18 = true := by kernel_rfl
@[simp] theorem k_agg18 : aggB Try.prog 18 = true := by kernel_rfl
@[simp] theorem k_cells18 : Try.prog.cellsOf 18 = 1 := by kernel_rfl
@[simp] theorem k_bytes18 : Try.prog.bytesOf 18 = 8 := by kernel_rfl
@[simp] theorem k_eq18 : eqKinds Try.prog 18 = none := by kernel_rfl
@[simp] theorem k_guard18 : Try.prog.eqGuardType Try.prog.depth 18 = false := by kernel_rfl
@[simp] theorem k_zero18 : zeroAV Try.prog 18 = some (AV.st [AV.v (Value.pointer none)]) := by kernel_rfl
@[simp] theorem k_ok19 : okT Try.prog 19 = true := by kernel_rfl
@[simp] theorem k_agg19 : aggB Try.prog 19 = true := by kernel_rfl
@[simp] theorem k_cells19 : Try.prog.cellsOf 19 = 1 := by kernel_rfl
@[simp] theorem k_bytes19 : Try.prog.bytesOf 19 = 8 := by kernel_rfl
@[simp] theorem k_eq19 : eqKinds Try.prog 19 = none := by kernel_rfl
@[simp] theorem k_guard19 : Try.prog.eqGuardType Try.prog.depth 19 = false := by kernel_rfl
@[simp] theorem k_zero19 : zeroAV Try.prog 19 = some (AV.st [AV.v (Value.pointer none)]) := by kernel_rfl
@[simp] theorem k_ok20 : okT Try.prog 20 = true := by kernel_rfl
@[simp] theorem k_agg20 : aggB Try.prog 20 = false := by kernel_rfl
@[simp] theorem k_cells20 : Try.prog.cellsOf 20 = 1 := by kernel_rfl
@[simp] theorem k_bytes20 : Try.prog.bytesOf 20 = 16 := by kernel_rfl
@[simp] theorem k_eq20 : eqKinds Try.prog 20 = none := by kernel_rfl
@[simp] theorem k_guard20 : Try.prog.eqGuardType Try.prog.depth 20 = false := by kernel_rfl
@[simp] theorem k_zero20 : zeroAV Try.prog 20 = some (AV.v Value.nilIface) := by kernel_rfl
@[simp] theorem k_ok21 : okT Try.prog 21 = true := by kernel_rfl
@[simp] theorem k_agg21 : aggB Try.prog 21 = false := by kernel_rfl
@[simp] theorem k_cells21 : Try.prog.cellsOf 21 = 1 := by kernel_rfl
@[simp] theorem k_bytes21 : Try.prog.bytesOf 21 = 4 := by kernel_rfl
@[simp] theorem k_eq21 : eqKinds Try.prog 21 = some [SK.i] := by kernel_rfl
@[simp] theorem k_guard21 : Try.prog.eqGuardType Try.prog.depth 21 = false := by kernel_rfl
@[simp] theorem k_zero21 : zeroAV Try.prog 21 = some (AV.v (Value.int IntKind.i32 0)) := by kernel_rfl
@[simp] theorem k_ok22 : okT Try.prog 22 = true := by kernel_rfl
@[simp] theorem k_agg22 : aggB Try.prog 22 = true := by kernel_rfl
@[simp] theorem k_cells22 : Try.prog.cellsOf 22 = 8 := by kernel_rfl
@[simp] theorem k_bytes22 : Try.prog.bytesOf 22 = 64 := by kernel_rfl
@[simp] theorem k_eq22 : eqKinds Try.prog 22 = some [SK.i, SK.i, SK.i, SK.i, SK.i, SK.i, SK.i, SK.b] := by kernel_rfl
@[simp] theorem k_guard22 : Try.prog.eqGuardType Try.prog.depth 22 = false := by kernel_rfl
@[simp] theorem k_zero22 : zeroAV Try.prog 22 = some (AV.st [AV.v (Value.int IntKind.i64 0), AV.v (Value.int IntKind.i64 0), AV.v (Value.int IntKind.i64 0), AV.v (Value.int IntKind.i64 0), AV.v (Value.int IntKind.i64 0), AV.v (Value.int IntKind.i64 0), AV.v (Value.int IntKind.i64 0), AV.v (Value.bool false)]) := by kernel_rfl
@[simp] theorem k_ok23 : okT Try.prog 23 = true := by kernel_rfl
@[simp] theorem k_agg23 : aggB Try.prog 23 = true := by kernel_rfl
@[simp] theorem k_cells23 : Try.prog.cellsOf 23 = 8 := by kernel_rfl
@[simp] theorem k_bytes23 : Try.prog.bytesOf 23 = 64 := by kernel_rfl
@[simp] theorem k_eq23 : eqKinds Try.prog 23 = some [SK.i, SK.i, SK.i, SK.i, SK.i, SK.i, SK.i, SK.b] := by kernel_rfl
@[simp] theorem k_guard23 : Try.prog.eqGuardType Try.prog.depth 23 = false := by kernel_rfl
@[simp] theorem k_zero23 : zeroAV Try.prog 23 = some (AV.st [AV.v (Value.int IntKind.i64 0), AV.v (Value.int IntKind.i64 0), AV.v (Value.int IntKind.i64 0), AV.v (Value.int IntKind.i64 0), AV.v (Value.int IntKind.i64 0), AV.v (Value.int IntKind.i64 0), AV.v (Value.int IntKind.i64 0), AV.v (Value.bool false)]) := by kernel_rfl
@[simp] theorem k_ok24 : okT Try.prog 24 = true := by kernel_rfl
@[simp] theorem k_agg24 : aggB Try.prog 24 = false := by kernel_rfl
@[simp] theorem k_cells24 : Try.prog.cellsOf 24 = 1 := by kernel_rfl
@[simp] theorem k_bytes24 : Try.prog.bytesOf 24 = 8 := by kernel_rfl
@[simp] theorem k_eq24 : eqKinds Try.prog 24 = none := by kernel_rfl
@[simp] theorem k_guard24 : Try.prog.eqGuardType Try.prog.depth 24 = false := by kernel_rfl
@[simp] theorem k_zero24 : zeroAV Try.prog 24 = some (AV.v Value.nilFunc) := by kernel_rfl
@[simp] theorem k_ok25 : okT Try.prog 25 = true := by kernel_rfl
@[simp] theorem k_agg25 : aggB Try.prog 25 = false := by kernel_rfl
@[simp] theorem k_cells25 : Try.prog.cellsOf 25 = 1 := by kernel_rfl
@[simp] theorem k_bytes25 : Try.prog.bytesOf 25 = 8 := by kernel_rfl
@[simp] theorem k_eq25 : eqKinds Try.prog 25 = none := by kernel_rfl
@[simp] theorem k_guard25 : Try.prog.eqGuardType Try.prog.depth 25 = false := by kernel_rfl
@[simp] theorem k_zero25 : zeroAV Try.prog 25 = some (AV.v Value.nilFunc) := by kernel_rfl
@[simp] theorem k_ok26 : okT Try.prog 26 = true := by kernel_rfl
@[simp] theorem k_agg26 : aggB Try.prog 26 = false := by kernel_rfl
@[simp] theorem k_cells26 : Try.prog.cellsOf 26 = 1 := by kernel_rfl
@[simp] theorem k_bytes26 : Try.prog.bytesOf 26 = 8 := by kernel_rfl
@[simp] theorem k_eq26 : eqKinds Try.prog 26 = none := by kernel_rfl
@[simp] theorem k_guard26 : Try.prog.eqGuardType Try.prog.depth 26 = false := by kernel_rfl
@[simp] theorem k_zero26 : zeroAV Try.prog 26 = some (AV.v Value.nilFunc) := by kernel_rfl
@[simp] theorem k_ok27 : okT Try.prog 27 = true := by kernel_rfl
@[simp] theorem k_agg27 : aggB Try.prog 27 = false := by kernel_rfl
@[simp] theorem k_cells27 : Try.prog.cellsOf 27 = 1 := by kernel_rfl
@[simp] theorem k_bytes27 : Try.prog.bytesOf 27 = 24 := by kernel_rfl
@[simp] theorem k_eq27 : eqKinds Try.prog 27 = none := by kernel_rfl
@[simp] theorem k_guard27 : Try.prog.eqGuardType Try.prog.depth 27 = false := by kernel_rfl
@[simp] theorem k_zero27 : zeroAV Try.prog 27 = some (AV.v (Value.slice none 0 0)) := by kernel_rfl
@[simp] theorem k_ok28 : okT Try.prog 28 = true := by kernel_rfl
@[simp] theorem k_agg28 : aggB Try.prog 28 = false := by kernel_rfl
@[simp] theorem k_cells28 : Try.prog.cellsOf 28 = 1 := by kernel_rfl
@[simp] theorem k_bytes28 : Try.prog.bytesOf 28 = 8 := by kernel_rfl
@[simp] theorem k_eq28 : eqKinds Try.prog 28 = none := by kernel_rfl
@[simp] theorem k_guard28 : Try.prog.eqGuardType Try.prog.depth 28 = false := by kernel_rfl
@[simp] theorem k_zero28 : zeroAV Try.prog 28 = some (AV.v Value.nilFunc) := by kernel_rfl
@[simp] theorem k_ok29 : okT Try.prog 29 = true := by kernel_rfl
@[simp] theorem k_agg29 : aggB Try.prog 29 = false := by kernel_rfl
@[simp] theorem k_cells29 : Try.prog.cellsOf 29 = 1 := by kernel_rfl
@[simp] theorem k_bytes29 : Try.prog.bytesOf 29 = 8 := by kernel_rfl
@[simp] theorem k_eq29 : eqKinds Try.prog 29 = none := by kernel_rfl
@[simp] theorem k_guard29 : Try.prog.eqGuardType Try.prog.depth 29 = false := by kernel_rfl
@[simp] theorem k_zero29 : zeroAV Try.prog 29 = some (AV.v Value.nilFunc) := by kernel_rfl
@[simp] theorem k_ok30 : okT Try.prog 30 = true := by kernel_rfl
@[simp] theorem k_agg30 : aggB Try.prog 30 = false := by kernel_rfl
@[simp] theorem k_cells30 : Try.prog.cellsOf 30 = 1 := by kernel_rfl
@[simp] theorem k_bytes30 : Try.prog.bytesOf 30 = 8 := by kernel_rfl
@[simp] theorem k_eq30 : eqKinds Try.prog 30 = none := by kernel_rfl
@[simp] theorem k_guard30 : Try.prog.eqGuardType Try.prog.depth 30 = false := by kernel_rfl
@[simp] theorem k_zero30 : zeroAV Try.prog 30 = some (AV.v Value.nilFunc) := by kernel_rfl
@[simp] theorem k_ok31 : okT Try.prog 31 = true := by kernel_rfl
@[simp] theorem k_agg31 : aggB Try.prog 31 = false := by kernel_rfl
@[simp] theorem k_cells31 : Try.prog.cellsOf 31 = 1 := by kernel_rfl
@[simp] theorem k_bytes31 : Try.prog.bytesOf 31 = 8 := by kernel_rfl
@[simp] theorem k_eq31 : eqKinds Try.prog 31 = none := by kernel_rfl
@[simp] theorem k_guard31 : Try.prog.eqGuardType Try.prog.depth 31 = false := by kernel_rfl
@[simp] theorem k_zero31 : zeroAV Try.prog 31 = some (AV.v Value.nilFunc) := by kernel_rfl
@[simp] theorem k_ok32 : okT Try.prog 32 = true := by kernel_rfl
@[simp] theorem k_agg32 : aggB Try.prog 32 = false := by kernel_rfl
@[simp] theorem k_cells32 : Try.prog.cellsOf 32 = 1 := by kernel_rfl
@[simp] theorem k_bytes32 : Try.prog.bytesOf 32 = 8 := by kernel_rfl
@[simp] theorem k_eq32 : eqKinds Try.prog 32 = none := by kernel_rfl
@[simp] theorem k_guard32 : Try.prog.eqGuardType Try.prog.depth 32 = false := by kernel_rfl
@[simp] theorem k_zero32 : zeroAV Try.prog 32 = some (AV.v Value.nilFunc) := by kernel_rfl
@[simp] theorem k_ok33 : okT Try.prog 33 = true := by kernel_rfl
@[simp] theorem k_agg33 : aggB Try.prog 33 = false := by kernel_rfl
@[simp] theorem k_cells33 : Try.prog.cellsOf 33 = 1 := by kernel_rfl
@[simp] theorem k_bytes33 : Try.prog.bytesOf 33 = 24 := by kernel_rfl
@[simp] theorem k_eq33 : eqKinds Try.prog 33 = none := by kernel_rfl
@[simp] theorem k_guard33 : Try.prog.eqGuardType Try.prog.depth 33 = false := by kernel_rfl
@[simp] theorem k_zero33 : zeroAV Try.prog 33 = some (AV.v (Value.slice none 0 0)) := by kernel_rfl
@[simp] theorem k_ok34 : okT Try.prog 34 = true := by kernel_rfl
@[simp] theorem k_agg34 : aggB Try.prog 34 = false := by kernel_rfl
@[simp] theorem k_cells34 : Try.prog.cellsOf 34 = 1 := by kernel_rfl
@[simp] theorem k_bytes34 : Try.prog.bytesOf 34 = 8 := by kernel_rfl
@[simp] theorem k_eq34 : eqKinds Try.prog 34 = none := by kernel_rfl
@[simp] theorem k_guard34 : Try.prog.eqGuardType Try.prog.depth 34 = false := by kernel_rfl
@[simp] theorem k_zero34 : zeroAV Try.prog 34 = some (AV.v Value.nilFunc) := by kernel_rfl
@[simp] theorem k_ok35 : okT Try.prog 35 = true := by kernel_rfl
@[simp] theorem k_agg35 : aggB Try.prog 35 = false := by kernel_rfl
@[simp] theorem k_cells35 : Try.prog.cellsOf 35 = 1 := by kernel_rfl
@[simp] theorem k_bytes35 : Try.prog.bytesOf 35 = 8 := by kernel_rfl
@[simp] theorem k_eq35 : eqKinds Try.prog 35 = none := by kernel_rfl
@[simp] theorem k_guard35 : Try.prog.eqGuardType Try.prog.depth 35 = false := by kernel_rfl
@[simp] theorem k_zero35 : zeroAV Try.prog 35 = some (AV.v Value.nilFunc) := by kernel_rfl
@[simp] theorem k_ok36 : okT Try.prog 36 = true := by kernel_rfl
@[simp] theorem k_agg36 : aggB Try.prog 36 = false := by kernel_rfl
@[simp] theorem k_cells36 : Try.prog.cellsOf 36 = 1 := by kernel_rfl
@[simp] theorem k_bytes36 : Try.prog.bytesOf 36 = 8 := by kernel_rfl
@[simp] theorem k_eq36 : eqKinds Try.prog 36 = none := by kernel_rfl
@[simp] theorem k_guard36 : Try.prog.eqGuardType Try.prog.depth 36 = false := by kernel_rfl
@[simp] theorem k_zero36 : zeroAV Try.prog 36 = some (AV.v Value.nilFunc) := by kernel_rfl
@[simp] theorem k_ok37 : okT Try.prog 37 = true := by kernel_rfl
@[simp] theorem k_agg37 : aggB Try.prog 37 = false := by kernel_rfl
@[simp] theorem k_cells37 : Try.prog.cellsOf 37 = 1 := by kernel_rfl
@[simp] theorem k_bytes37 : Try.prog.bytesOf 37 = 8 := by kernel_rfl
@[simp] theorem k_eq37 : eqKinds Try.prog 37 = none := by kernel_rfl
@[simp] theorem k_guard37 : Try.prog.eqGuardType Try.prog.depth 37 = false := by kernel_rfl
@[simp] theorem k_zero37 : zeroAV Try.prog 37 = some (AV.v Value.nilFunc) := by kernel_rfl
@[simp] theorem k_ok38 : okT Try.prog 38 = true := by kernel_rfl
@[simp] theorem k_agg38 : aggB Try.prog 38 = true := by kernel_rfl
@[simp] theorem k_cells38 : Try.prog.cellsOf 38 = 5 := by kernel_rfl
@[simp] theorem k_bytes38 : Try.prog.bytesOf 38 = 40 := by kernel_rfl
@[simp] theorem k_eq38 : eqKinds Try.prog 38 = some [SK.i, SK.i, SK.i, SK.i, SK.i] := by kernel_rfl
@[simp] theorem k_guard38 : Try.prog.eqGuardType Try.prog.depth 38 = false := by kernel_rfl
@[simp] theorem k_zero38 : zeroAV Try.prog 38 = some (AV.st [AV.v (Value.int IntKind.i64 0), AV.v (Value.int IntKind.i64 0), AV.v (Value.int IntKind.i64 0), AV.v (Value.int IntKind.i64 0), AV.v (Value.int IntKind.i64 0)]) := by kernel_rfl
@[simp] theorem k_ok39 : okT Try.prog 39 = true := by kernel_rfl
@[simp] theorem k_agg39 : aggB Try.prog 39 = true := by kernel_rfl
@[simp] theorem k_cells39 : Try.prog.cellsOf 39 = 5 := by kernel_rfl
@[simp] theorem k_bytes39 : Try.prog.bytesOf 39 = 40 := by kernel_rfl
@[simp] theorem k_eq39 : eqKinds Try.prog 39 = some [SK.i, SK.i, SK.i, SK.i, SK.i] := by kernel_rfl
@[simp] theorem k_guard39 : Try.prog.eqGuardType Try.prog.depth 39 = false := by kernel_rfl
@[simp] theorem k_zero39 : zeroAV Try.prog 39 = some (AV.st [AV.v (Value.int IntKind.i64 0), AV.v (Value.int IntKind.i64 0), AV.v (Value.int IntKind.i64 0), AV.v (Value.int IntKind.i64 0), AV.v (Value.int IntKind.i64 0)]) := by kernel_rfl
@[simp] theorem k_ok40 : okT Try.prog 40 = true := by kernel_rfl
@[simp] theorem k_agg40 : aggB Try.prog 40 = false := by kernel_rfl
@[simp] theorem k_cells40 : Try.prog.cellsOf 40 = 1 := by kernel_rfl
@[simp] theorem k_bytes40 : Try.prog.bytesOf 40 = 8 := by kernel_rfl
@[simp] theorem k_eq40 : eqKinds Try.prog 40 = some [SK.i] := by kernel_rfl
@[simp] theorem k_guard40 : Try.prog.eqGuardType Try.prog.depth 40 = false := by kernel_rfl
@[simp] theorem k_zero40 : zeroAV Try.prog 40 = some (AV.v (Value.int IntKind.i64 0)) := by kernel_rfl
@[simp] theorem k_ok41 : okT Try.prog 41 = true := by kernel_rfl
@[simp] theorem k_agg41 : aggB Try.prog 41 = false := by kernel_rfl
@[simp] theorem k_cells41 : Try.prog.cellsOf 41 = 1 := by kernel_rfl
@[simp] theorem k_bytes41 : Try.prog.bytesOf 41 = 8 := by kernel_rfl
@[simp] theorem k_eq41 : eqKinds Try.prog 41 = none := by kernel_rfl
@[simp] theorem k_guard41 : Try.prog.eqGuardType Try.prog.depth 41 = false := by kernel_rfl
@[simp] theorem k_zero41 : zeroAV Try.prog 41 = some (AV.v Value.nilFunc) := by kernel_rfl
@[simp] theorem k_ok42 : okT Try.prog 42 = true := by kernel_rfl
@[simp] theorem k_agg42 : aggB Try.prog 42 = false := by kernel_rfl
@[simp] theorem k_cells42 : Try.prog.cellsOf 42 = 1 := by kernel_rfl
@[simp] theorem k_bytes42 : Try.prog.bytesOf 42 = 8 := by kernel_rfl
@[simp] theorem k_eq42 : eqKinds Try.prog 42 = none := by kernel_rfl
@[simp] theorem k_guard42 : Try.prog.eqGuardType Try.prog.depth 42 = false := by kernel_rfl
@[simp] theorem k_zero42 : zeroAV Try.prog 42 = some (AV.v Value.nilFunc) := by kernel_rfl
@[simp] theorem k_ok43 : okT Try.prog 43 = true := by kernel_rfl
@[simp] theorem k_agg43 : aggB Try.prog 43 = false := by kernel_rfl
@[simp] theorem k_cells43 : Try.prog.cellsOf 43 = 1 := by kernel_rfl
@[simp] theorem k_bytes43 : Try.prog.bytesOf 43 = 8 := by kernel_rfl
@[simp] theorem k_eq43 : eqKinds Try.prog 43 = none := by kernel_rfl
@[simp] theorem k_guard43 : Try.prog.eqGuardType Try.prog.depth 43 = false := by kernel_rfl
@[simp] theorem k_zero43 : zeroAV Try.prog 43 = some (AV.v Value.nilFunc) := by kernel_rfl
@[simp] theorem k_ok44 : okT Try.prog 44 = true := by kernel_rfl
@[simp] theorem k_agg44 : aggB Try.prog 44 = false := by kernel_rfl
@[simp] theorem k_cells44 : Try.prog.cellsOf 44 = 1 := by kernel_rfl
@[simp] theorem k_bytes44 : Try.prog.bytesOf 44 = 8 := by kernel_rfl
@[simp] theorem k_eq44 : eqKinds Try.prog 44 = none := by kernel_rfl
@[simp] theorem k_guard44 : Try.prog.eqGuardType Try.prog.depth 44 = false := by kernel_rfl
@[simp] theorem k_zero44 : zeroAV Try.prog 44 = some (AV.v Value.nilFunc) := by kernel_rfl
@[simp] theorem k_ok45 : okT Try.prog 45 = true := by kernel_rfl
@[simp] theorem k_agg45 : aggB Try.prog 45 = false := by kernel_rfl
@[simp] theorem k_cells45 : Try.prog.cellsOf 45 = 1 := by kernel_rfl
@[simp] theorem k_bytes45 : Try.prog.bytesOf 45 = 8 := by kernel_rfl
@[simp] theorem k_eq45 : eqKinds Try.prog 45 = none := by kernel_rfl
@[simp] theorem k_guard45 : Try.prog.eqGuardType Try.prog.depth 45 = false := by kernel_rfl
@[simp] theorem k_zero45 : zeroAV Try.prog 45 = some (AV.v Value.nilFunc) := by kernel_rfl
@[simp] theorem k_ok46 : okT Try.prog 46 = true := by kernel_rfl
@[simp] theorem k_agg46 : aggB Try.prog 46 = false := by kernel_rfl
@[simp] theorem k_cells46 : Try.prog.cellsOf 46 = 1 := by kernel_rfl
@[simp] theorem k_bytes46 : Try.prog.bytesOf 46 = 0 := by kernel_rfl
@[simp] theorem k_eq46 : eqKinds Try.prog 46 = none := by kernel_rfl
@[simp] theorem k_guard46 : Try.prog.eqGuardType Try.prog.depth 46 = false := by kernel_rfl
@[simp] theorem k_zero46 : zeroAV Try.prog 46 = some AV.u := by kernel_rfl
@[simp] theorem k_ok47 : okT Try.prog 47 = true := by kernel_rfl
@[simp] theorem k_agg47 : aggB Try.prog 47 = false := by kernel_rfl
@[simp] theorem k_cells47 : Try.prog.cellsOf 47 = 1 := by kernel_rfl
@[simp] theorem k_bytes47 : Try.prog.bytesOf 47 = 8 := by kernel_rfl
@[simp] theorem k_eq47 : eqKinds Try.prog 47 = none := by kernel_rfl
@[simp] theorem k_guard47 : Try.prog.eqGuardType Try.prog.depth 47 = false := by kernel_rfl
@[simp] theorem k_zero47 : zeroAV Try.prog 47 = some (AV.v Value.nilFunc) := by kernel_rfl
@[simp] theorem k_ok48 : okT Try.prog 48 = true := by kernel_rfl
@[simp] theorem k_agg48 : aggB Try.prog 48 = false := by kernel_rfl
@[simp] theorem k_cells48 : Try.prog.cellsOf 48 = 1 := by kernel_rfl
@[simp] theorem k_bytes48 : Try.prog.bytesOf 48 = 8 := by kernel_rfl
@[simp] theorem k_eq48 : eqKinds Try.prog 48 = none := by kernel_rfl
@[simp] theorem k_guard48 : Try.prog.eqGuardType Try.prog.depth 48 = false := by kernel_rfl
@[simp] theorem k_zero48 : zeroAV Try.prog 48 = some (AV.v Value.nilFunc) := by kernel_rfl
@[simp] theorem k_ok49 : okT Try.prog 49 = true := by kernel_rfl
@[simp] theorem k_agg49 : aggB Try.prog 49 = false := by kernel_rfl
@[simp] theorem k_cells49 : Try.prog.cellsOf 49 = 1 := by kernel_rfl
@[simp] theorem k_bytes49 : Try.prog.bytesOf 49 = 8 := by kernel_rfl
@[simp] theorem k_eq49 : eqKinds Try.prog 49 = none := by kernel_rfl
@[simp] theorem k_guard49 : Try.prog.eqGuardType Try.prog.depth 49 = false := by kernel_rfl
@[simp] theorem k_zero49 : zeroAV Try.prog 49 = some (AV.v Value.nilFunc) := by kernel_rfl
@[simp] theorem k_ok50 : okT Try.prog 50 = true := by kernel_rfl
@[simp] theorem k_agg50 : aggB Try.prog 50 = false := by kernel_rfl
@[simp] theorem k_cells50 : Try.prog.cellsOf 50 = 1 := by kernel_rfl
@[simp] theorem k_bytes50 : Try.prog.bytesOf 50 = 8 := by kernel_rfl
@[simp] theorem k_eq50 : eqKinds Try.prog 50 = none := by kernel_rfl
@[simp] theorem k_guard50 : Try.prog.eqGuardType Try.prog.depth 50 = false := by kernel_rfl
@[simp] theorem k_zero50 : zeroAV Try.prog 50 = some (AV.v Value.nilFunc) := by kernel_rfl
@[simp] theorem k_ok51 : okT Try.prog 51 = true := by kernel_rfl
@[simp] theorem k_agg51 : aggB Try.prog 51 = false := by kernel_rfl
@[simp] theorem k_cells51 : Try.prog.cellsOf 51 = 1 := by kernel_rfl
@[simp] theorem k_bytes51 : Try.prog.bytesOf 51 = 8 := by kernel_rfl
@[simp] theorem k_eq51 : eqKinds Try.prog 51 = none := by kernel_rfl
@[simp] theorem k_guard51 : Try.prog.eqGuardType Try.prog.depth 51 = false := by kernel_rfl
@[simp] theorem k_zero51 : zeroAV Try.prog 51 = some (AV.v Value.nilFunc) := by kernel_rfl
@[simp] theorem k_ok52 : okT Try.prog 52 = true := by kernel_rfl
@[simp] theorem k_agg52 : aggB Try.prog 52 = true := by kernel_rfl
@[simp] theorem k_cells52 : Try.prog.cellsOf 52 = 8 := by kernel_rfl
@[simp] theorem k_bytes52 : Try.prog.bytesOf 52 = 64 := by kernel_rfl
@[simp] theorem k_eq52 : eqKinds Try.prog 52 = none := by kernel_rfl
@[simp] theorem k_guard52 : Try.prog.eqGuardType Try.prog.depth 52 = false := by kernel_rfl
@[simp] theorem k_zero52 : zeroAV Try.prog 52 = some (AV.st [AV.v (Value.int IntKind.i64 0), AV.v (Value.int IntKind.i64 0), AV.v (Value.int IntKind.i64 0), AV.v (Value.int IntKind.i64 0), AV.v (Value.int IntKind.i64 0), AV.v (Value.int IntKind.i64 0), AV.v (Value.int IntKind.i64 0), AV.v (Value.int IntKind.i64 0)]) := by kernel_rfl
@[simp] theorem k_ok53 : okT Try.prog 53 = true := by kernel_rfl
@[simp] theorem k_agg53 : aggB Try.prog 53 = false := by kernel_rfl
@[simp] theorem k_cells53 : Try.prog.cellsOf 53 = 1 := by kernel_rfl
@[simp] theorem k_bytes53 : Try.prog.bytesOf 53 = 8 := by kernel_rfl
@[simp] theorem k_eq53 : eqKinds Try.prog 53 = none := by kernel_rfl
@[simp] theorem k_guard53 : Try.prog.eqGuardType Try.prog.depth 53 = false := by kernel_rfl
@[simp] theorem k_zero53 : zeroAV Try.prog 53 = some (AV.v Value.nilFunc) := by kernel_rfl
@[simp] theorem k_ok54 : okT Try.prog 54 = true := by kernel_rfl
@[simp] theorem k_agg54 : aggB Try.prog 54 = false := by kernel_rfl
@[simp] theorem k_cells54 : Try.prog.cellsOf 54 = 1 := by kernel_rfl
@[simp] theorem k_bytes54 : Try.prog.bytesOf 54 = 8 := by kernel_rfl
@[simp] theorem k_eq54 : eqKinds Try.prog 54 = none := by kernel_rfl
@[simp] theorem k_guard54 : Try.prog.eqGuardType Try.prog.depth 54 = false := by kernel_rfl
@[simp] theorem k_zero54 : zeroAV Try.prog 54 = some (AV.v Value.nilFunc) := by kernel_rfl
@[simp] theorem k_ok55 : okT Try.prog 55 = true := by kernel_rfl
@[simp] theorem k_agg55 : aggB Try.prog 55 = false := by kernel_rfl
@[simp] theorem k_cells55 : Try.prog.cellsOf 55 = 1 := by kernel_rfl
@[simp] theorem k_bytes55 : Try.prog.bytesOf 55 = 8 := by kernel_rfl
@[simp] theorem k_eq55 : eqKinds Try.prog 55 = none := by kernel_rfl
@[simp] theorem k_guard55 : Try.prog.eqGuardType Try.prog.depth 55 = false := by kernel_rfl
@[simp] theorem k_zero55 : zeroAV Try.prog 55 = some (AV.v (Value.map none)) := by kernel_rfl
@[simp] theorem k_ok56 : okT Try.prog 56 = true := by kernel_rfl
@[simp] theorem k_agg56 : aggB Try.prog 56 = false := by kernel_rfl
@[simp] theorem k_cells56 : Try.prog.cellsOf 56 = 1 := by kernel_rfl
@[simp] theorem k_bytes56 : Try.prog.bytesOf 56 = 8 := by kernel_rfl
@[simp] theorem k_eq56 : eqKinds Try.prog 56 = none := by kernel_rfl
@[simp] theorem k_guard56 : Try.prog.eqGuardType Try.prog.depth 56 = false := by kernel_rfl
@[simp] theorem k_zero56 : zeroAV Try.prog 56 = some (AV.v Value.nilFunc) := by kernel_rfl
@[simp] theorem k_ok57 : okT Try.prog 57 = true := by kernel_rfl
@[simp] theorem k_agg57 : aggB Try.prog 57 = true := by kernel_rfl
@[simp] theorem k_cells57 : Try.prog.cellsOf 57 = 2 := by kernel_rfl
@[simp] theorem k_bytes57 : Try.prog.bytesOf 57 = 16 := by kernel_rfl
@[simp] theorem k_eq57 : eqKinds Try.prog 57 = some [SK.i, SK.i] := by kernel_rfl
@[simp] theorem k_guard57 : Try.prog.eqGuardType Try.prog.depth 57 = false := by kernel_rfl
@[simp] theorem k_zero57 : zeroAV Try.prog 57 = some (AV.st [AV.v (Value.int IntKind.i64 0), AV.v (Value.int IntKind.i64 0)]) := by kernel_rfl
@[simp] theorem k_ok58 : okT Try.prog 58 = true := by kernel_rfl
@[simp] theorem k_agg58 : aggB Try.prog 58 = true := by kernel_rfl
@[simp] theorem k_cells58 : Try.prog.cellsOf 58 = 2 := by kernel_rfl
@[simp] theorem k_bytes58 : Try.prog.bytesOf 58 = 16 := by kernel_rfl
@[simp] theorem k_eq58 : eqKinds Try.prog 58 = some [SK.i, SK.i] := by kernel_rfl
@[simp] theorem k_guard58 : Try.prog.eqGuardType Try.prog.depth 58 = false := by kernel_rfl
@[simp] theorem k_zero58 : zeroAV Try.prog 58 = some (AV.st [AV.v (Value.int IntKind.i64 0), AV.v (Value.int IntKind.i64 0)]) := by kernel_rfl
@[simp] theorem k_ok59 : okT Try.prog 59 = true := by kernel_rfl
@[simp] theorem k_agg59 : aggB Try.prog 59 = false := by kernel_rfl
@[simp] theorem k_cells59 : Try.prog.cellsOf 59 = 1 := by kernel_rfl
@[simp] theorem k_bytes59 : Try.prog.bytesOf 59 = 8 := by kernel_rfl
@[simp] theorem k_eq59 : eqKinds Try.prog 59 = none := by kernel_rfl
@[simp] theorem k_guard59 : Try.prog.eqGuardType Try.prog.depth 59 = false := by kernel_rfl
@[simp] theorem k_zero59 : zeroAV Try.prog 59 = some (AV.v Value.nilFunc) := by kernel_rfl
@[simp] theorem k_ok60 : okT Try.prog 60 = true := by kernel_rfl
@[simp] theorem k_agg60 : aggB Try.prog 60 = false := by kernel_rfl
@[simp] theorem k_cells60 : Try.prog.cellsOf 60 = 1 := by kernel_rfl
@[simp] theorem k_bytes60 : Try.prog.bytesOf 60 = 8 := by kernel_rfl
@[simp] theorem k_eq60 : eqKinds Try.prog 60 = none := by kernel_rfl
@[simp] theorem k_guard60 : Try.prog.eqGuardType Try.prog.depth 60 = false := by kernel_rfl
@[simp] theorem k_zero60 : zeroAV Try.prog 60 = some (AV.v (Value.map none)) := by kernel_rfl
@[simp] theorem k_ok61 : okT Try.prog 61 = true := by kernel_rfl
@[simp] theorem k_agg61 : aggB Try.prog 61 = false := by kernel_rfl
@[simp] theorem k_cells61 : Try.prog.cellsOf 61 = 1 := by kernel_rfl
@[simp] theorem k_bytes61 : Try.prog.bytesOf 61 = 8 := by kernel_rfl
@[simp] theorem k_eq61 : eqKinds Try.prog 61 = none := by kernel_rfl
@[simp] theorem k_guard61 : Try.prog.eqGuardType Try.prog.depth 61 = false := by kernel_rfl
@[simp] theorem k_zero61 : zeroAV Try.prog 61 = some (AV.v Value.nilFunc) := by kernel_rfl
@[simp] theorem k_ok62 : okT Try.prog 62 = true := by kernel_rfl
@[simp] theorem k_agg62 : aggB Try.prog 62 = false := by kernel_rfl
@[simp] theorem k_cells62 : Try.prog.cellsOf 62 = 1 := by kernel_rfl
@[simp] theorem k_bytes62 : Try.prog.bytesOf 62 = 8 := by kernel_rfl
@[simp] theorem k_eq62 : eqKinds Try.prog 62 = none := by kernel_rfl
@[simp] theorem k_guard62 : Try.prog.eqGuardType Try.prog.depth 62 = false := by kernel_rfl
@[simp] theorem k_zero62 : zeroAV Try.prog 62 = some (AV.v Value.nilFunc) := by kernel_rfl
@[simp] theorem k_ok63 : okT Try.prog 63 = true := by kernel_rfl
@[simp] theorem k_agg63 : aggB Try.prog 63 = false := by kernel_rfl
@[simp] theorem k_cells63 : Try.prog.cellsOf 63 = 1 := by kernel_rfl
@[simp] theorem k_bytes63 : Try.prog.bytesOf 63 = 8 := by kernel_rfl
@[simp] theorem k_eq63 : eqKinds Try.prog 63 = none := by kernel_rfl
@[simp] theorem k_guard63 : Try.prog.eqGuardType Try.prog.depth 63 = false := by kernel_rfl
@[simp] theorem k_zero63 : zeroAV Try.prog 63 = some (AV.v Value.nilFunc) := by kernel_rfl
@[simp] theorem k_ok64 : okT Try.prog 64 = true := by kernel_rfl
@[simp] theorem k_agg64 : aggB Try.prog 64 = false := by kernel_rfl
@[simp] theorem k_cells64 : Try.prog.cellsOf 64 = 1 := by kernel_rfl
@[simp] theorem k_bytes64 : Try.prog.bytesOf 64 = 8 := by kernel_rfl
@[simp] theorem k_eq64 : eqKinds Try.prog 64 = none := by kernel_rfl
@[simp] theorem k_guard64 : Try.prog.eqGuardType Try.prog.depth 64 = false := by kernel_rfl
@[simp] theorem k_zero64 : zeroAV Try.prog 64 = some (AV.v Value.nilFunc) := by kernel_rfl
@[simp] theorem k_ok65 : okT Try.prog 65 = true := by kernel_rfl
@[simp] theorem k_agg65 : aggB Try.prog 65 = false := by kernel_rfl
@[simp] theorem k_cells65 : Try.prog.cellsOf 65 = 1 := by kernel_rfl
@[simp] theorem k_bytes65 : Try.prog.bytesOf 65 = 8 := by kernel_rfl
@[simp] theorem k_eq65 : eqKinds Try.prog 65 = none := by kernel_rfl
@[simp] theorem k_guard65 : Try.prog.eqGuardType Try.prog.depth 65 = false := by kernel_rfl
@[simp] theorem k_zero65 : zeroAV Try.prog 65 = some (AV.v Value.nilFunc) := by kernel_rfl
@[simp] theorem k_ok66 : okT Try.prog 66 = true := by kernel_rfl
@[simp] theorem k_agg66 : aggB Try.prog 66 = false := by kernel_rfl
@[simp] theorem k_cells66 : Try.prog.cellsOf 66 = 1 := by kernel_rfl
@[simp] theorem k_bytes66 : Try.prog.bytesOf 66 = 8 := by kernel_rfl
@[simp] theorem k_eq66 : eqKinds Try.prog 66 = none := by kernel_rfl
@[simp] theorem k_guard66 : Try.prog.eqGuardType Try.prog.depth 66 = false := by kernel_rfl
@[simp] theorem k_zero66 : zeroAV Try.prog 66 = some (AV.v Value.nilFunc) := by kernel_rfl
@[simp] theorem k_ok67 : okT Try.prog 67 = true := by kernel_rfl
@[simp] theorem k_agg67 : aggB Try.prog 67 = false := by kernel_rfl
@[simp] theorem k_cells67 : Try.prog.cellsOf 67 = 1 := by kernel_rfl
@[simp] theorem k_bytes67 : Try.prog.bytesOf 67 = 0 := by kernel_rfl
@[simp] theorem k_eq67 : eqKinds Try.prog 67 = none := by kernel_rfl
@[simp] theorem k_guard67 : Try.prog.eqGuardType Try.prog.depth 67 = false := by kernel_rfl
@[simp] theorem k_zero67 : zeroAV Try.prog 67 = some AV.u := by kernel_rfl
@[simp] theorem k_ok68 : okT Try.prog 68 = true := by kernel_rfl
@[simp] theorem k_agg68 : aggB Try.prog 68 = false := by kernel_rfl
@[simp] theorem k_cells68 : Try.prog.cellsOf 68 = 1 := by kernel_rfl
@[simp] theorem k_bytes68 : Try.prog.bytesOf 68 = 8 := by kernel_rfl
@[simp] theorem k_eq68 : eqKinds Try.prog 68 = none := by kernel_rfl
@[simp] theorem k_guard68 : Try.prog.eqGuardType Try.prog.depth 68 = false := by kernel_rfl
@[simp] theorem k_zero68 : zeroAV Try.prog 68 = some (AV.v Value.nilFunc) := by kernel_rfl
@[simp] theorem k_ok69 : okT Try.prog 69 = true := by kernel_rfl
@[simp] theorem k_agg69 : aggB Try.prog 69 = false := by kernel_rfl
@[simp] theorem k_cells69 : Try.prog.cellsOf 69 = 1 := by kernel_rfl
@[simp] theorem k_bytes69 : Try.prog.bytesOf 69 = 8 := by kernel_rfl
@[simp] theorem k_eq69 : eqKinds Try.prog 69 = none := by kernel_rfl
@[simp] theorem k_guard69 : Try.prog.eqGuardType Try.prog.depth 69 = false := by kernel_rfl
@[simp] theorem k_zero69 : zeroAV Try.prog 69 = some (AV.v Value.nilFunc) := by kernel_rfl
@[simp] theorem k_ok70 : okT Try.prog 70 = true := by kernel_rfl
@[simp] theorem k_agg70 : aggB Try.prog 70 = false := by kernel_rfl
@[simp] theorem k_cells70 : Try.prog.cellsOf 70 = 1 := by kernel_rfl
@[simp] theorem k_bytes70 : Try.prog.bytesOf 70 = 8 := by kernel_rfl
@[simp] theorem k_eq70 : eqKinds Try.prog 70 = none := by kernel_rfl
@[simp] theorem k_guard70 : Try.prog.eqGuardType Try.prog.depth 70 = false := by kernel_rfl
@[simp] theorem k_zero70 : zeroAV Try.prog 70 = some (AV.v Value.nilFunc) := by kernel_rfl
@[simp] theorem k_ok71 : okT Try.prog 71 = true := by kernel_rfl
@[simp] theorem k_agg71 : aggB Try.prog 71 = false := by kernel_rfl
@[simp] theorem k_cells71 : Try.prog.cellsOf 71 = 1 := by kernel_rfl
@[simp] theorem k_bytes71 : Try.prog.bytesOf 71 = 8 := by kernel_rfl
@[simp] theorem k_eq71 : eqKinds Try.prog 71 = none := by kernel_rfl
@[simp] theorem k_guard71 : Try.prog.eqGuardType Try.prog.depth 71 = false := by kernel_rfl
@[simp] theorem k_zero71 : zeroAV Try.prog 71 = some (AV.v Value.nilFunc) := by kernel_rfl
@[simp] theorem k_ok72 : okT Try.prog 72 = true := by kernel_rfl
@[simp] theorem k_agg72 : aggB Try.prog 72 = false := by kernel_rfl
@[simp] theorem k_cells72 : Try.prog.cellsOf 72 = 1 := by kernel_rfl
@[simp] theorem k_bytes72 : Try.prog.bytesOf 72 = 8 := by kernel_rfl
@[simp] theorem k_eq72 : eqKinds Try.prog 72 = none := by kernel_rfl
@[simp] theorem k_guard72 : Try.prog.eqGuardType Try.prog.depth 72 = false := by kernel_rfl
@[simp] theorem k_zero72 : zeroAV Try.prog 72 = some (AV.v Value.nilFunc) := by kernel_rfl
@[simp] theorem k_ok73 : okT Try.prog 73 = true := by kernel_rfl
@[simp] theorem k_agg73 : aggB Try.prog 73 = false := by kernel_rfl
@[simp] theorem k_cells73 : Try.prog.cellsOf 73 = 1 := by kernel_rfl
@[simp] theorem k_bytes73 : Try.prog.bytesOf 73 = 8 := by kernel_rfl
@[simp] theorem k_eq73 : eqKinds Try.prog 73 = none := by kernel_rfl
@[simp] theorem k_guard73 : Try.prog.eqGuardType Try.prog.depth 73 = false := by kernel_rfl
@[simp] theorem k_zero73 : zeroAV Try.prog 73 = some (AV.v Value.nilFunc) := by kernel_rfl
@[simp] theorem k_ok74 : okT Try.prog 74 = true := by kernel_rfl
@[simp] theorem k_agg74 : aggB Try.prog 74 = false := by kernel_rfl
@[simp] theorem k_cells74 : Try.prog.cellsOf 74 = 1 := by kernel_rfl
@[simp] theorem k_bytes74 : Try.prog.bytesOf 74 = 8 := by kernel_rfl
@[simp] theorem k_eq74 : eqKinds Try.prog 74 = some [SK.i] := by kernel_rfl
@[simp] theorem k_guard74 : Try.prog.eqGuardType Try.prog.depth 74 = false := by kernel_rfl
@[simp] theorem k_zero74 : zeroAV Try.prog 74 = some (AV.v (Value.int IntKind.u64 0)) := by kernel_rfl
@[simp] theorem k_ok75 : okT Try.prog 75 = true := by kernel_rfl
@[simp] theorem k_agg75 : aggB Try.prog 75 = false := by kernel_rfl
@[simp] theorem k_cells75 : Try.prog.cellsOf 75 = 1 := by kernel_rfl
@[simp] theorem k_bytes75 : Try.prog.bytesOf 75 = 24 := by kernel_rfl
@[simp] theorem k_eq75 : eqKinds Try.prog 75 = none := by kernel_rfl
@[simp] theorem k_guard75 : Try.prog.eqGuardType Try.prog.depth 75 = false := by kernel_rfl
@[simp] theorem k_zero75 : zeroAV Try.prog 75 = some (AV.v (Value.slice none 0 0)) := by kernel_rfl
@[simp] theorem k_ok76 : okT Try.prog 76 = true := by kernel_rfl
@[simp] theorem k_agg76 : aggB Try.prog 76 = false := by kernel_rfl
@[simp] theorem k_cells76 : Try.prog.cellsOf 76 = 1 := by kernel_rfl
@[simp] theorem k_bytes76 : Try.prog.bytesOf 76 = 8 := by kernel_rfl
@[simp] theorem k_eq76 : eqKinds Try.prog 76 = none := by kernel_rfl
@[simp] theorem k_guard76 : Try.prog.eqGuardType Try.prog.depth 76 = false := by kernel_rfl
@[simp] theorem k_zero76 : zeroAV Try.prog 76 = some (AV.v Value.nilFunc) := by kernel_rfl
@[simp] theorem k_ok77 : okT Try.prog 77 = true := by kernel_rfl
@[simp] theorem k_agg77 : aggB Try.prog 77 = false := by kernel_rfl
@[simp] theorem k_cells77 : Try.prog.cellsOf 77 = 1 := by kernel_rfl
@[simp] theorem k_bytes77 : Try.prog.bytesOf 77 = 8 := by kernel_rfl
@[simp] theorem k_eq77 : eqKinds Try.prog 77 = none := by kernel_rfl
@[simp] theorem k_guard77 : Try.prog.eqGuardType Try.prog.depth 77 = false := by kernel_rfl
@[simp] theorem k_zero77 : zeroAV Try.prog 77 = some (AV.v Value.nilFunc) := by kernel_rfl
@[simp] theorem k_ok78 : okT Try.prog 78 = true := by kernel_rfl
@[simp] theorem k_agg78 : aggB Try.prog 78 = false := by kernel_rfl
@[simp] theorem k_cells78 : Try.prog.cellsOf 78 = 1 := by kernel_rfl
@[simp] theorem k_bytes78 : Try.prog.bytesOf 78 = 8 := by kernel_rfl
@[simp] theorem k_eq78 : eqKinds Try.prog 78 = none := by kernel_rfl
@[simp] theorem k_guard78 : Try.prog.eqGuardType Try.prog.depth 78 = false := by kernel_rfl
@[simp] theorem k_zero78 : zeroAV Try.prog 78 = some (AV.v Value.nilFunc) := by kernel_rfl
@[simp] theorem k_ok79 : okT Try.prog 79 = true := by kernel_rfl
@[simp] theorem k_agg79 : aggB Try.prog 79 = false := by kernel_rfl
@[simp] theorem k_cells79 : Try.prog.cellsOf 79 = 1 := by kernel_rfl
@[simp] theorem k_bytes79 : Try.prog.bytesOf 79 = 8 := by kernel_rfl
@[simp] theorem k_eq79 : eqKinds Try.prog 79 = none := by kernel_rfl
@[simp] theorem k_guard79 : Try.prog.eqGuardType Try.prog.depth 79 = false := by kernel_rfl
@[simp] theorem k_zero79 : zeroAV Try.prog 79 = some (AV.v Value.nilFunc) := by kernel_rfl
@[simp] theorem k_ok80 : okT Try.prog 80 = true := by kernel_rfl
@[simp] theorem k_agg80 : aggB Try.prog 80 = false := by kernel_rfl
@[simp] theorem k_cells80 : Try.prog.cellsOf 80 = 1 := by kernel_rfl
@[simp] theorem k_bytes80 : Try.prog.bytesOf 80 = 8 := by kernel_rfl
@[simp] theorem k_eq80 : eqKinds Try.prog 80 = none := by kernel_rfl
@[simp] theorem k_guard80 : Try.prog.eqGuardType Try.prog.depth 80 = false := by kernel_rfl
@[simp] theorem k_zero80 : zeroAV Try.prog 80 = some (AV.v Value.nilFunc) := by kernel_rfl
@[simp] theorem k_ok81 : okT Try.prog 81 = true := by kernel_rfl
@[simp] theorem k_agg81 : aggB Try.prog 81 = false := by kernel_rfl
@[simp] theorem k_cells81 : Try.prog.cellsOf 81 = 1 := by kernel_rfl
@[simp] theorem k_bytes81 : Try.prog.bytesOf 81 = 8 := by kernel_rfl
@[simp] theorem k_eq81 : eqKinds Try.prog 81 = some [SK.i] := by kernel_rfl
@[simp] theorem k_guard81 : Try.prog.eqGuardType Try.prog.depth 81 = false := by kernel_rfl
@[simp] theorem k_zero81 : zeroAV Try.prog 81 = some (AV.v (Value.int IntKind.i64 0)) := by kernel_rfl
@[simp] theorem k_ok82 : okT Try.prog 82 = true := by kernel_rfl
@[simp] theorem k_agg82 : aggB Try.prog 82 = false := by kernel_rfl
@[simp] theorem k_cells82 : Try.prog.cellsOf 82 = 1 := by kernel_rfl
@[simp] theorem k_bytes82 : Try.prog.bytesOf 82 = 0 := by kernel_rfl
@[simp] theorem k_eq82 : eqKinds Try.prog 82 = none := by kernel_rfl
@[simp] theorem k_guard82 : Try.prog.eqGuardType Try.prog.depth 82 = false := by kernel_rfl
@[simp] theorem k_zero82 : zeroAV Try.prog 82 = some AV.u := by kernel_rfl
@[simp] theorem k_ok83 : okT Try.prog 83 = true := by kernel_rfl
@[simp] theorem k_agg83 : aggB Try.prog 83 = false := by kernel_rfl
@[simp] theorem k_cells83 : Try.prog.cellsOf 83 = 1 := by kernel_rfl
@[simp] theorem k_bytes83 : Try.prog.bytesOf 83 = 8 := by kernel_rfl
@[simp] theorem k_eq83 : eqKinds Try.prog 83 = none := by kernel_rfl
@[simp] theorem k_guard83 : Try.prog.eqGuardType Try.prog.depth 83 = false := by kernel_rfl
@[simp] theorem k_zero83 : zeroAV Try.prog 83 = some (AV.v Value.nilFunc) := by kernel_rfl
@[simp] theorem k_ok84 : okT Try.prog 84 = true := by kernel_rfl
@[simp] theorem k_agg84 : aggB Try.prog 84 = false := by kernel_rfl
@[simp] theorem k_cells84 : Try.prog.cellsOf 84 = 1 := by kernel_rfl
@[simp] theorem k_bytes84 : Try.prog.bytesOf 84 = 8 := by kernel_rfl
@[simp] theorem k_eq84 : eqKinds Try.prog 84 = none := by kernel_rfl
@[simp] theorem k_guard84 : Try.prog.eqGuardType Try.prog.depth 84 = false := by kernel_rfl
@[simp] theorem k_zero84 : zeroAV Try.prog 84 = some (AV.v Value.nilFunc) := by kernel_rfl
@[simp] theorem k_ok85 : okT Try.prog 85 = true := by kernel_rfl
@[simp] theorem k_agg85 : aggB Try.prog 85 = false := by kernel_rfl
@[simp] theorem k_cells85 : Try.prog.cellsOf 85 = 1 := by kernel_rfl
@[simp] theorem k_bytes85 : Try.prog.bytesOf 85 = 8 := by kernel_rfl
@[simp] theorem k_eq85 : eqKinds Try.prog 85 = none := by kernel_rfl
@[simp] theorem k_guard85 : Try.prog.eqGuardType Try.prog.depth 85 = false := by kernel_rfl
@[simp] theorem k_zero85 : zeroAV Try.prog 85 = some (AV.v Value.nilFunc) := by kernel_rfl
@[simp] theorem k_ok86 : okT Try.prog 86 = true := by kernel_rfl
@[simp] theorem k_agg86 : aggB Try.prog 86 = false := by kernel_rfl
@[simp] theorem k_cells86 : Try.prog.cellsOf 86 = 1 := by kernel_rfl
@[simp] theorem k_bytes86 : Try.prog.bytesOf 86 = 8 := by kernel_rfl
@[simp] theorem k_eq86 : eqKinds Try.prog 86 = none := by kernel_rfl
@[simp] theorem k_guard86 : Try.prog.eqGuardType Try.prog.depth 86 = false := by kernel_rfl
@[simp] theorem k_zero86 : zeroAV Try.prog 86 = some (AV.v Value.nilFunc) := by kernel_rfl
@[simp] theorem k_ok87 : okT Try.prog 87 = true := by kernel_rfl
@[simp] theorem k_agg87 : aggB Try.prog 87 = false := by kernel_rfl
@[simp] theorem k_cells87 : Try.prog.cellsOf 87 = 1 := by kernel_rfl
@[simp] theorem k_bytes87 : Try.prog.bytesOf 87 = 8 := by kernel_rfl
@[simp] theorem k_eq87 : eqKinds Try.prog 87 = none := by kernel_rfl
@[simp] theorem k_guard87 : Try.prog.eqGuardType Try.prog.depth 87 = false := by kernel_rfl
@[simp] theorem k_zero87 : zeroAV Try.prog 87 = some (AV.v Value.nilFunc) := by kernel_rfl
@[simp] theorem k_ok88 : okT Try.prog 88 = true := by kernel_rfl
@[simp] theorem k_agg88 : aggB Try.prog 88 = false := by kernel_rfl
@[simp] theorem k_cells88 : Try.prog.cellsOf 88 = 1 := by kernel_rfl
@[simp] theorem k_bytes88 : Try.prog.bytesOf 88 = 4 := by kernel_rfl
@[simp] theorem k_eq88 : eqKinds Try.prog 88 = some [SK.i] := by kernel_rfl
@[simp] theorem k_guard88 : Try.prog.eqGuardType Try.prog.depth 88 = false := by kernel_rfl
@[simp] theorem k_zero88 : zeroAV Try.prog 88 = some (AV.v (Value.int IntKind.u32 0)) := by kernel_rfl
@[simp] theorem k_ok89 : okT Try.prog 89 = true := by kernel_rfl
@[simp] theorem k_agg89 : aggB Try.prog 89 = false := by kernel_rfl
@[simp] theorem k_cells89 : Try.prog.cellsOf 89 = 1 := by kernel_rfl
@[simp] theorem k_bytes89 : Try.prog.bytesOf 89 = 8 := by kernel_rfl
@[simp] theorem k_eq89 : eqKinds Try.prog 89 = none := by kernel_rfl
@[simp] theorem k_guard89 : Try.prog.eqGuardType Try.prog.depth 89 = false := by kernel_rfl
@[simp] theorem k_zero89 : zeroAV Try.prog 89 = some (AV.v Value.nilFunc) := by kernel_rfl
@[simp] theorem k_ok90 : okT Try.prog 90 = true := by kernel_rfl
@[simp] theorem k_agg90 : aggB Try.prog 90 = false := by kernel_rfl
@[simp] theorem k_cells90 : Try.prog.cellsOf 90 = 1 := by kernel_rfl
@[simp] theorem k_bytes90 : Try.prog.bytesOf 90 = 8 := by kernel_rfl
@[simp] theorem k_eq90 : eqKinds Try.prog 90 = some [SK.i] := by kernel_rfl
@[simp] theorem k_guard90 : Try.prog.eqGuardType Try.prog.depth 90 = false := by kernel_rfl
@[simp] theorem k_zero90 : zeroAV Try.prog 90 = some (AV.v (Value.int IntKind.u64 0)) := by kernel_rfl
@[simp] theorem k_ok91 : okT Try.prog 91 = true := by kernel_rfl
@[simp] theorem k_agg91 : aggB Try.prog 91 = false := by kernel_rfl
@[simp] theorem k_cells91 : Try.prog.cellsOf 91 = 1 := by kernel_rfl
@[simp] theorem k_bytes91 : Try.prog.bytesOf 91 = 8 := by kernel_rfl
@[simp] theorem k_eq91 : eqKinds Try.prog 91 = none := by kernel_rfl
@[simp] theorem k_guard91 : Try.prog.eqGuardType Try.prog.depth 91 = false := by kernel_rfl
@[simp] theorem k_zero91 : zeroAV Try.prog 91 = some (AV.v Value.nilFunc) := by kernel_rfl
@[simp] theorem k_ok92 : okT Try.prog 92 = true := by kernel_rfl
@[simp] theorem k_agg92 : aggB Try.prog 92 = false := by kernel_rfl
@[simp] theorem k_cells92 : Try.prog.cellsOf 92 = 1 := by kernel_rfl
@[simp] theorem k_bytes92 : Try.prog.bytesOf 92 = 8 := by kernel_rfl
@[simp] theorem k_eq92 : eqKinds Try.prog 92 = none := by kernel_rfl
@[simp] theorem k_guard92 : Try.prog.eqGuardType Try.prog.depth 92 = false := by kernel_rfl
@[simp] theorem k_zero92 : zeroAV Try.prog 92 = some (AV.v Value.nilFunc) := by kernel_rfl
@[simp] theorem k_ok93 : okT Try.prog 93 = true := by kernel_rfl
@[simp] theorem k_agg93 : aggB Try.prog 93 = false := by kernel_rfl
@[simp] theorem k_cells93 : Try.prog.cellsOf 93 = 1 := by kernel_rfl
@[simp] theorem k_bytes93 : Try.prog.bytesOf 93 = 8 := by kernel_rfl
@[simp] theorem k_eq93 : eqKinds Try.prog 93 = none := by kernel_rfl
@[simp] theorem k_guard93 : Try.prog.eqGuardType Try.prog.depth 93 = false := by kernel_rfl
@[simp] theorem k_zero93 : zeroAV Try.prog 93 = some (AV.v Value.nilFunc) := by kernel_rfl
@[simp] theorem k_ok94 : okT Try.prog 94 = true := by kernel_rfl
@[simp] theorem k_agg94 : aggB Try.prog 94 = false := by kernel_rfl
@[simp] theorem k_cells94 : Try.prog.cellsOf 94 = 1 := by kernel_rfl
@[simp] theorem k_bytes94 : Try.prog.bytesOf 94 = 8 := by kernel_rfl
@[simp] theorem k_eq94 : eqKinds Try.prog 94 = none := by kernel_rfl
@[simp] theorem k_guard94 : Try.prog.eqGuardType Try.prog.depth 94 = false := by kernel_rfl
@[simp] theorem k_zero94 : zeroAV Try.prog 94 = some (AV.v Value.nilFunc) := by kernel_rfl
@[simp] theorem k_ok95 : okT Try.prog 95 = true := by kernel_rfl
@[simp] theorem k_agg95 : aggB Try.prog 95 = false := by kernel_rfl
@[simp] theorem k_cells95 : Try.prog.cellsOf 95 = 1 := by kernel_rfl
@[simp] theorem k_bytes95 : Try.prog.bytesOf 95 = 8 := by kernel_rfl
@[simp] theorem k_eq95 : eqKinds Try.prog 95 = none := by kernel_rfl
@[simp] theorem k_guard95 : Try.prog.eqGuardType Try.prog.depth 95 = false := by kernel_rfl
@[simp] theorem k_zero95 : zeroAV Try.prog 95 = some (AV.v Value.nilFunc) := by kernel_rfl
@[simp] theorem k_ok96 : okT Try.prog 96 = true := by kernel_rfl
@[simp] theorem k_agg96 : aggB Try.prog 96 = false := by kernel_rfl
@[simp] theorem k_cells96 : Try.prog.cellsOf 96 = 1 := by kernel_rfl
@[simp] theorem k_bytes96 : Try.prog.bytesOf 96 = 8 := by kernel_rfl
@[simp] theorem k_eq96 : eqKinds Try.prog 96 = none := by kernel_rfl
@[simp] theorem k_guard96 : Try.prog.eqGuardType Try.prog.depth 96 = false := by kernel_rfl
@[simp] theorem k_zero96 : zeroAV Try.prog 96 = some (AV.v Value.nilFunc) := by kernel_rfl
@[simp] theorem k_ok97 : okT Try.prog 97 = true := by kernel_rfl
@[simp] theorem k_agg97 : aggB Try.prog 97 = false := by kernel_rfl
@[simp] theorem k_cells97 : Try.prog.cellsOf 97 = 1 := by kernel_rfl
@[simp] theorem k_bytes97 : Try.prog.bytesOf 97 = 8 := by kernel_rfl
@[simp] theorem k_eq97 : eqKinds Try.prog 97 = none := by kernel_rfl
@[simp] theorem k_guard97 : Try.prog.eqGuardType Try.prog.depth 97 = false := by kernel_rfl
@[simp] theorem k_zero97 : zeroAV Try.prog 97 = some (AV.v Value.nilFunc) := by kernel_rfl
@[simp] theorem k_ok98 : okT Try.prog 98 = true := by kernel_rfl
@[simp] theorem k_agg98 : aggB Try.prog 98 = false := by kernel_rfl
@[simp] theorem k_cells98 : Try.prog.cellsOf 98 = 1 := by kernel_rfl
@[simp] theorem k_bytes98 : Try.prog.bytesOf 98 = 8 := by kernel_rfl
@[simp] theorem k_eq98 : eqKinds Try.prog 98 = some [SK.i] := by kernel_rfl
@[simp] theorem k_guard98 : Try.prog.eqGuardType Try.prog.depth 98 = false := by kernel_rfl
@[simp] theorem k_zero98 : zeroAV Try.prog 98 = some (AV.v (Value.int IntKind.u64 0)) := by kernel_rfl
@[simp] theorem k_ok99 : okT Try.prog 99 = true := by kernel_rfl
@[simp] theorem k_agg99 : aggB Try.prog 99 = false := by kernel_rfl
@[simp] theorem k_cells99 : Try.prog.cellsOf 99 = 1 := by kernel_rfl
@[simp] theorem k_bytes99 : Try.prog.bytesOf 99 = 8 := by kernel_rfl
@[simp] theorem k_eq99 : eqKinds Try.prog 99 = none := by kernel_rfl
@[simp] theorem k_guard99 : Try.prog.eqGuardType Try.prog.depth 99 = false := by kernel_rfl
@[simp] theorem k_zero99 : zeroAV Try.prog 99 = some (AV.v Value.nilFunc) := by kernel_rfl
@[simp] theorem k_ok100 : okT Try.prog 100 = true := by kernel_rfl
@[simp] theorem k_agg100 : aggB Try.prog 100 = false := by kernel_rfl
@[simp] theorem k_cells100 : Try.prog.cellsOf 100 = 1 := by kernel_rfl
@[simp] theorem k_bytes100 : Try.prog.bytesOf 100 = 8 := by kernel_rfl
@[simp] theorem k_eq100 : eqKinds Try.prog 100 = none := by kernel_rfl
@[simp] theorem k_guard100 : Try.prog.eqGuardType Try.prog.depth 100 = false := by kernel_rfl
@[simp] theorem k_zero100 : zeroAV Try.prog 100 = some (AV.v Value.nilFunc) := by kernel_rfl
@[simp] theorem k_ok101 : okT Try.prog 101 = true := by kernel_rfl
@[simp] theorem k_agg101 : aggB Try.prog 101 = false := by kernel_rfl
@[simp] theorem k_cells101 : Try.prog.cellsOf 101 = 1 := by kernel_rfl
@[simp] theorem k_bytes101 : Try.prog.bytesOf 101 = 8 := by kernel_rfl
@[simp] theorem k_eq101 : eqKinds Try.prog 101 = none := by kernel_rfl
@[simp] theorem k_guard101 : Try.prog.eqGuardType Try.prog.depth 101 = false := by kernel_rfl
@[simp] theorem k_zero101 : zeroAV Try.prog 101 = some (AV.v Value.nilFunc) := by kernel_rfl
@[simp] theorem k_ok102 : okT Try.prog 102 = true := by kernel_rfl
@[simp] theorem k_agg102 : aggB Try.prog 102 = false := by kernel_rfl
@[simp] theorem k_cells102 : Try.prog.cellsOf 102 = 1 := by kernel_rfl
@[simp] theorem k_bytes102 : Try.prog.bytesOf 102 = 8 := by kernel_rfl
@[simp] theorem k_eq102 : eqKinds Try.prog 102 = none := by kernel_rfl
@[simp] theorem k_guard102 : Try.prog.eqGuardType Try.prog.depth 102 = false := by kernel_rfl
@[simp] theorem k_zero102 : zeroAV Try.prog 102 = some (AV.v (Value.pointer none)) := by kernel_rfl
@[simp] theorem k_ok103 : okT Try.prog 103 = true := by kernel_rfl
@[simp] theorem k_agg103 : aggB Try.prog 103 = false := by kernel_rfl
@[simp] theorem k_cells103 : Try.prog.cellsOf 103 = 1 := by kernel_rfl
@[simp] theorem k_bytes103 : Try.prog.bytesOf 103 = 8 := by kernel_rfl
@[simp] theorem k_eq103 : eqKinds Try.prog 103 = none := by kernel_rfl
@[simp] theorem k_guard103 : Try.prog.eqGuardType Try.prog.depth 103 = false := by kernel_rfl
@[simp] theorem k_zero103 : zeroAV Try.prog 103 = some (AV.v Value.nilFunc) := by kernel_rfl
@[simp] theorem k_ok104 : okT Try.prog 104 = true := by kernel_rfl
@[simp] theorem k_agg104 : aggB Try.prog 104 = false := by kernel_rfl
@[simp] theorem k_cells104 : Try.prog.cellsOf 104 = 1 := by kernel_rfl
@[simp] theorem k_bytes104 : Try.prog.bytesOf 104 = 8 := by kernel_rfl
@[simp] theorem k_eq104 : eqKinds Try.prog 104 = none := by kernel_rfl
@[simp] theorem k_guard104 : Try.prog.eqGuardType Try.prog.depth 104 = false := by kernel_rfl
@[simp] theorem k_zero104 : zeroAV Try.prog 104 = some (AV.v Value.nilFunc) := by kernel_rfl
@[simp] theorem k_ok105 : okT Try.prog 105 = true := by kernel_rfl
@[simp] theorem k_agg105 : aggB Try.prog 105 = false := by kernel_rfl
@[simp] theorem k_cells105 : Try.prog.cellsOf 105 = 1 := by kernel_rfl
@[simp] theorem k_bytes105 : Try.prog.bytesOf 105 = 8 := by kernel_rfl
@[simp] theorem k_eq105 : eqKinds Try.prog 105 = none := by kernel_rfl
@[simp] theorem k_guard105 : Try.prog.eqGuardType Try.prog.depth 105 = false := by kernel_rfl
@[simp] theorem k_zero105 : zeroAV Try.prog 105 = some (AV.v Value.nilFunc) := by kernel_rfl
@[simp] theorem k_ok106 : okT Try.prog 106 = true := by kernel_rfl
@[simp] theorem k_agg106 : aggB Try.prog 106 = false := by kernel_rfl
@[simp] theorem k_cells106 : Try.prog.cellsOf 106 = 1 := by kernel_rfl
@[simp] theorem k_bytes106 : Try.prog.bytesOf 106 = 8 := by kernel_rfl
@[simp] theorem k_eq106 : eqKinds Try.prog 106 = none := by kernel_rfl
@[simp] theorem k_guard106 : Try.prog.eqGuardType Try.prog.depth 106 = false := by kernel_rfl
@[simp] theorem k_zero106 : zeroAV Try.prog 106 = some (AV.v (Value.pointer none)) := by kernel_rfl
@[simp] theorem k_ok107 : okT Try.prog 107 = true := by kernel_rfl
@[simp] theorem k_agg107 : aggB Try.prog 107 = false := by kernel_rfl
@[simp] theorem k_cells107 : Try.prog.cellsOf 107 = 1 := by kernel_rfl
@[simp] theorem k_bytes107 : Try.prog.bytesOf 107 = 0 := by kernel_rfl
@[simp] theorem k_eq107 : eqKinds Try.prog 107 = none := by kernel_rfl
@[simp] theorem k_guard107 : Try.prog.eqGuardType Try.prog.depth 107 = false := by kernel_rfl
@[simp] theorem k_zero107 : zeroAV Try.prog 107 = some AV.u := by kernel_rfl
@[simp] theorem k_ok108 : okT Try.prog 108 = true := by kernel_rfl
@[simp] theorem k_agg108 : aggB Try.prog 108 = false := by kernel_rfl
@[simp] theorem k_cells108 : Try.prog.cellsOf 108 = 1 := by kernel_rfl
@[simp] theorem k_bytes108 : Try.prog.bytesOf 108 = 8 := by kernel_rfl
@[simp] theorem k_eq108 : eqKinds Try.prog 108 = none := by kernel_rfl
@[simp] theorem k_guard108 : Try.prog.eqGuardType Try.prog.depth 108 = false := by kernel_rfl
@[simp] theorem k_zero108 : zeroAV Try.prog 108 = some (AV.v Value.nilFunc) := by kernel_rfl
@[simp] theorem k_ok109 : okT Try.prog 109 = true := by kernel_rfl
@[simp] theorem k_agg109 : aggB Try.prog 109 = false := by kernel_rfl
@[simp] theorem k_cells109 : Try.prog.cellsOf 109 = 1 := by kernel_rfl
@[simp] theorem k_bytes109 : Try.prog.bytesOf 109 = 8 := by kernel_rfl
@[simp] theorem k_eq109 : eqKinds Try.prog 109 = none := by kernel_rfl
@[simp] theorem k_guard109 : Try.prog.eqGuardType Try.prog.depth 109 = false := by kernel_rfl
@[simp] theorem k_zero109 : zeroAV Try.prog 109 = some (AV.v Value.nilFunc) := by kernel_rfl
@[simp] theorem k_ok110 : okT Try.prog 110 = true := by kernel_rfl
@[simp] theorem k_agg110 : aggB Try.prog 110 = false := by kernel_rfl
@[simp] theorem k_cells110 : Try.prog.cellsOf 110 = 1 := by kernel_rfl
@[simp] theorem k_bytes110 : Try.prog.bytesOf 110 = 8 := by kernel_rfl
@[simp] theorem k_eq110 : eqKinds Try.prog 110 = none := by kernel_rfl
@[simp] theorem k_guard110 : Try.prog.eqGuardType Try.prog.depth 110 = false := by kernel_rfl
@[simp] theorem k_zero110 : zeroAV Try.prog 110 = some (AV.v Value.nilFunc) := by kernel_rfl
@[simp] theorem k_ok111 : okT Try.prog 111 = true := by kernel_rfl
@[simp] theorem k_agg111 : aggB Try.prog 111 = true := by kernel_rfl
@[simp] theorem k_cells111 : Try.prog.cellsOf 111 = 4 := by kernel_rfl
@[simp] theorem k_bytes111 : Try.prog.bytesOf 111 = 40 := by kernel_rfl
@[simp] theorem k_eq111 : eqKinds Try.prog 111 = none := by kernel_rfl
@[simp] theorem k_guard111 : Try.prog.eqGuardType Try.prog.depth 111 = false := by kernel_rfl
@[simp] theorem k_zero111 : zeroAV Try.prog 111 = some (AV.st [AV.v (Value.pointer none), AV.v (Value.pointer none), AV.v (Value.pointer none), AV.v (Value.string { data := { toList := [] } })]) := by kernel_rfl
@[simp] theorem k_ok112 : okT Try.prog 112 = true := by kernel_rfl
@[simp] theorem k_agg112 : aggB Try.prog 112 = true := by kernel_rfl
@[simp] theorem k_cells112 : Try.prog.cellsOf 112 = 4 := by kernel_rfl
@[simp] theorem k_bytes112 : Try.prog.bytesOf 112 = 40 := by kernel_rfl
@[simp] theorem k_eq112 : eqKinds Try.prog 112 = none := by kernel_rfl
@[simp] theorem k_guard112 : Try.prog.eqGuardType Try.prog.depth 112 = false := by kernel_rfl
@[simp] theorem k_zero112 : zeroAV Try.prog 112 = some (AV.st [AV.v (Value.pointer none), AV.v (Value.pointer none), AV.v (Value.pointer none), AV.v (Value.string { data := { toList := [] } })]) := by kernel_rfl
@[simp] theorem k_ok113 : okT Try.prog 113 = true := by kernel_rfl
@[simp] theorem k_agg113 : aggB Try.prog 113 = true := by kernel_rfl
@[simp] theorem k_cells113 : Try.prog.cellsOf 113 = 0 := by kernel_rfl
@[simp] theorem k_bytes113 : Try.prog.bytesOf 113 = 0 := by kernel_rfl
@[simp] theorem k_eq113 : eqKinds Try.prog 113 = none := by kernel_rfl
@[simp] theorem k_guard113 : Try.prog.eqGuardType Try.prog.depth 113 = false := by kernel_rfl
@[simp] theorem k_zero113 : zeroAV Try.prog 113 = some (AV.st []) := by kernel_rfl
@[simp] theorem k_ok114 : okT Try.prog 114 = true := by kernel_rfl
@[simp] theorem k_agg114 : aggB Try.prog 114 = true := by kernel_rfl
@[simp] theorem k_cells114 : Try.prog.cellsOf 114 = 0 := by kernel_rfl
@[simp] theorem k_bytes114 : Try.prog.bytesOf 114 = 0 := by kernel_rfl
@[simp] theorem k_eq114 : eqKinds Try.prog 114 = none := by kernel_rfl
@[simp] theorem k_guard114 : Try.prog.eqGuardType Try.prog.depth 114 = false := by kernel_rfl
@[simp] theorem k_zero114 : zeroAV Try.prog 114 = some (AV.st []) := by kernel_rfl
@[simp] theorem k_ok115 : okT Try.prog 115 = true := by kernel_rfl
@[simp] theorem k_agg115 : aggB Try.prog 115 = true := by kernel_rfl
@[simp] theorem k_cells115 : Try.prog.cellsOf 115 = 0 := by kernel_rfl
@[simp] theorem k_bytes115 : Try.prog.bytesOf 115 = 0 := by kernel_rfl
@[simp] theorem k_eq115 : eqKinds Try.prog 115 = none := by kernel_rfl
@[simp] theorem k_guard115 : Try.prog.eqGuardType Try.prog.depth 115 = false := by kernel_rfl
@[simp] theorem k_zero115 : zeroAV Try.prog 115 = some (AV.st []) := by kernel_rfl
@[simp] theorem k_ok116 : okT Try.prog 116 = true := by kernel_rfl
@[simp] theorem k_agg116 : aggB Try.prog 116 = false := by kernel_rfl
@[simp] theorem k_cells116 : Try.prog.cellsOf 116 = 1 := by kernel_rfl
@[simp] theorem k_bytes116 : Try.prog.bytesOf 116 = 8 := by kernel_rfl
@[simp] theorem k_eq116 : eqKinds Try.prog 116 = none := by kernel_rfl
@[simp] theorem k_guard116 : Try.prog.eqGuardType Try.prog.depth 116 = false := by kernel_rfl
@[simp] theorem k_zero116 : zeroAV Try.prog 116 = some (AV.v Value.nilFunc) := by kernel_rfl
@[simp] theorem k_ok117 : okT Try.prog 117 = true := by kernel_rfl
@[simp] theorem k_agg117 : aggB Try.prog 117 = false := by kernel_rfl
@[simp] theorem k_cells117 : Try.prog.cellsOf 117 = 1 := by kernel_rfl
@[simp] theorem k_bytes117 : Try.prog.bytesOf 117 = 1 := by kernel_rfl
@[simp] theorem k_eq117 : eqKinds Try.prog 117 = some [SK.i] := by kernel_rfl
@[simp] theorem k_guard117 : Try.prog.eqGuardType Try.prog.depth 117 = false := by kernel_rfl
@[simp] theorem k_zero117 : zeroAV Try.prog 117 = some (AV.v (Value.int IntKind.u8 0)) := by kernel_rfl
@[simp] theorem k_ok118 : okT Try.prog 118 = true := by kernel_rfl
@[simp] theorem k_agg118 : aggB Try.prog 118 = false := by kernel_rfl
@[simp] theorem k_cells118 : Try.prog.cellsOf 118 = 1 := by kernel_rfl
@[simp] theorem k_bytes118 : Try.prog.bytesOf 118 = 1 := by kernel_rfl
@[simp] theorem k_eq118 : eqKinds Try.prog 118 = some [SK.i] := by kernel_rfl
@[simp] theorem k_guard118 : Try.prog.eqGuardType Try.prog.depth 118 = false := by kernel_rfl
@[simp] theorem k_zero118 : zeroAV Try.prog 118 = some (AV.v (Value.int IntKind.u8 0)) := by kernel_rfl
@[simp] theorem k_ok119 : okT Try.prog 119 = true := by kernel_rfl
@[simp] theorem k_agg119 : aggB Try.prog 119 = false := by kernel_rfl
@[simp] theorem k_cells119 : Try.prog.cellsOf 119 = 1 := by kernel_rfl
@[simp] theorem k_bytes119 : Try.prog.bytesOf 119 = 8 := by kernel_rfl
@[simp] theorem k_eq119 : eqKinds Try.prog 119 = none := by kernel_rfl
@[simp] theorem k_guard119 : Try.prog.eqGuardType Try.prog.depth 119 = false := by kernel_rfl
@[simp] theorem k_zero119 : zeroAV Try.prog 119 = some (AV.v Value.nilFunc) := by kernel_rfl
@[simp] theorem k_ok120 : okT Try.prog 120 = true := by kernel_rfl
@[simp] theorem k_agg120 : aggB Try.prog 120 = false := by kernel_rfl
@[simp] theorem k_cells120 : Try.prog.cellsOf 120 = 1 := by kernel_rfl
@[simp] theorem k_bytes120 : Try.prog.bytesOf 120 = 8 := by kernel_rfl
@[simp] theorem k_eq120 : eqKinds Try.prog 120 = none := by kernel_rfl
@[simp] theorem k_guard120 : Try.prog.eqGuardType Try.prog.depth 120 = false := by kernel_rfl
@[simp] theorem k_zero120 : zeroAV Try.prog 120 = some (AV.v (Value.pointer none)) := by kernel_rfl
@[simp] theorem k_ok121 : okT Try.prog 121 = true := by kernel_rfl
@[simp] theorem k_agg121 : aggB Try.prog 121 = false := by kernel_rfl
@[simp] theorem k_cells121 : Try.prog.cellsOf 121 = 1 := by kernel_rfl
@[simp] theorem k_bytes121 : Try.prog.bytesOf 121 = 4 := by kernel_rfl
@[simp] theorem k_eq121 : eqKinds Try.prog 121 = some [SK.i] := by kernel_rfl
@[simp] theorem k_guard121 : Try.prog.eqGuardType Try.prog.depth 121 = false := by kernel_rfl
@[simp] theorem k_zero121 : zeroAV Try.prog 121 = some (AV.v (Value.int IntKind.i32 0)) := by kernel_rfl
@[simp] theorem k_ok122 : okT Try.prog 122 = true := by kernel_rfl
@[simp] theorem k_agg122 : aggB Try.prog 122 = false := by kernel_rfl
@[simp] theorem k_cells122 : Try.prog.cellsOf 122 = 1 := by kernel_rfl
@[simp] theorem k_bytes122 : Try.prog.bytesOf 122 = 4 := by kernel_rfl
@[simp] theorem k_eq122 : eqKinds Try.prog 122 = some [SK.i] := by kernel_rfl
@[simp] theorem k_guard122 : Try.prog.eqGuardType Try.prog.depth 122 = false := by kernel_rfl
@[simp] theorem k_zero122 : zeroAV Try.prog 122 = some (AV.v (Value.int IntKind.i32 0)) := by kernel_rfl
@[simp] theorem k_ok123 : okT Try.prog 123 = true := by kernel_rfl
@[simp] theorem k_agg123 : aggB Try.prog 123 = true := by kernel_rfl
@[simp] theorem k_cells123 : Try.prog.cellsOf 123 = 11 := by kernel_rfl
@[simp] theorem k_bytes123 : Try.prog.bytesOf 123 = 48 := by kernel_rfl
@[simp] theorem k_eq123 : eqKinds Try.prog 123 = none := by kernel_rfl
@[simp] theorem k_guard123 : Try.prog.eqGuardType Try.prog.depth 123 = false := by kernel_rfl
@[simp] theorem k_zero123 : zeroAV Try.prog 123 = some (AV.st [AV.v (Value.int IntKind.u64 0), AV.v (Value.int IntKind.u64 0), AV.v (Value.int IntKind.u32 0), AV.v (Value.int IntKind.u8 0), AV.v (Value.int IntKind.u8 0), AV.v (Value.int IntKind.u8 0), AV.v (Value.int IntKind.u8 0), AV.v Value.nilFunc, AV.v (Value.pointer none), AV.v (Value.int IntKind.i32 0), AV.v (Value.int IntKind.i32 0)]) := by kernel_rfl
@[simp] theorem k_ok124 : okT Try.prog 124 = true := by kernel_rfl
@[simp] theorem k_agg124 : aggB Try.prog 124 = true := by kernel_rfl
@[simp] theorem k_cells124 : Try.prog.cellsOf 124 = 11 := by kernel_rfl
@[simp] theorem k_bytes124 : Try.prog.bytesOf 124 = 48 := by kernel_rfl
@[simp] theorem k_eq124 : eqKinds Try.prog 124 = none := by kernel_rfl
@[simp] theorem k_guard124 : Try.prog.eqGuardType Try.prog.depth 124 = false := by kernel_rfl
@[simp] theorem k_zero124 : zeroAV Try.prog 124 = some (AV.st [AV.v (Value.int IntKind.u64 0), AV.v (Value.int IntKind.u64 0), AV.v (Value.int IntKind.u32 0), AV.v (Value.int IntKind.u8 0), AV.v (Value.int IntKind.u8 0), AV.v (Value.int IntKind.u8 0), AV.v (Value.int IntKind.u8 0), AV.v Value.nilFunc, AV.v (Value.pointer none), AV.v (Value.int IntKind.i32 0), AV.v (Value.int IntKind.i32 0)]) := by kernel_rfl
@[simp] theorem k_ok125 : okT Try.prog 125 = true := by kernel_rfl
@[simp] theorem k_agg125 : aggB Try.prog 125 = false := by kernel_rfl
@[simp] theorem k_cells125 : Try.prog.cellsOf 125 = 1 := by kernel_rfl
@[simp] theorem k_bytes125 : Try.prog.bytesOf 125 = 8 := by kernel_rfl
@[simp] theorem k_eq125 : eqKinds Try.prog 125 = none := by kernel_rfl
@[simp] theorem k_guard125 : Try.prog.eqGuardType Try.prog.depth 125 = false := by kernel_rfl
@[simp] theorem k_zero125 : zeroAV Try.prog 125 = some (AV.v (Value.pointer none)) := by kernel_rfl
attribute [simp] Try.underlying0 Try.underlying1 Try.underlying2 Try.underlying3 Try.underlying4 Try.underlying5 Try.underlying6 Try.underlying7 Try.underlying8 Try.underlying9
attribute [simp] Try.underlying10 Try.underlying11 Try.underlying12 Try.underlying13 Try.underlying14 Try.underlying15 Try.underlying16 Try.underlying17 Try.underlying18 Try.underlying19
attribute [simp] Try.underlying20 Try.underlying21 Try.underlying22 Try.underlying23 Try.underlying24 Try.underlying25 Try.underlying26 Try.underlying27 Try.underlying28 Try.underlying29
attribute [simp] Try.underlying30 Try.underlying31 Try.underlying32 Try.underlying33 Try.underlying34 Try.underlying35 Try.underlying36 Try.underlying37 Try.underlying38 Try.underlying39
attribute [simp] Try.underlying40 Try.underlying41 Try.underlying42 Try.underlying43 Try.underlying44 Try.underlying45 Try.underlying46 Try.underlying47 Try.underlying48 Try.underlying49
attribute [simp] Try.underlying50 Try.underlying51 Try.underlying52 Try.underlying53 Try.underlying54 Try.underlying55 Try.underlying56 Try.underlying57 Try.underlying58 Try.underlying59
attribute [simp] Try.underlying60 Try.underlying61 Try.underlying62 Try.underlying63 Try.underlying64 Try.underlying65 Try.underlying66 Try.underlying67 Try.underlying68 Try.underlying69
attribute [simp] Try.underlying70 Try.underlying71 Try.underlying72 Try.underlying73 Try.underlying74 Try.underlying75 Try.underlying76 Try.underlying77 Try.underlying78 Try.underlying79
attribute [simp] Try.underlying80 Try.underlying81 Try.underlying82 Try.underlying83 Try.underlying84 Try.underlying85 Try.underlying86 Try.underlying87 Try.underlying88 Try.underlying89
attribute [simp] Try.underlying90 Try.underlying91 Try.underlying92 Try.underlying93 Try.underlying94 Try.underlying95 Try.underlying96 Try.underlying97 Try.underlying98 Try.underlying99
attribute [simp] Try.underlying100 Try.underlying101 Try.underlying102 Try.underlying103 Try.underlying104 Try.underlying105 Try.underlying106 Try.underlying107 Try.underlying108 Try.underlying109
attribute [simp] Try.underlying110 Try.underlying111 Try.underlying112 Try.underlying113 Try.underlying114 Try.underlying115 Try.underlying116 Try.underlying117 Try.underlying118 Try.underlying119
attribute [simp] Try.underlying120 Try.underlying121 Try.underlying122 Try.underlying123 Try.underlying124 Try.underlying125
theorem mixed : Try.prog.follows .mixedOrders = true := by kernel_rfl
end Go.Proofs.Ytmjckbokjjnmeaa
