/- MADE BY A PROGRAM (mkfacts.py): the facts of this seat's types that the abstract machine asks for. Reports as data. Layer 25's small functions: fields, identify, the comparisons. slices.Compare and report.Compare. report.Compare, the law's compare, and the searches. Layer 25: searches and comparisons of lists. report.winners: the map of the greatest reports. report.Status and report.Missing. report.Missing. slices.Clone, slices.Compact at reports. Plain Lean: the order of reports, sorted lists of them. Nothing of the program stands here. -/
import Derived.Test.YtmjckbokjjnmeaaZ2
import Derived.Test.YtmjckbokjjnmeaaRows
import Derived.KernelRfl
import Derived.Test.YtmjckbokjjnmeaaZ3
set_option linter.unusedSimpArgs false
set_option linter.unusedVariables false
section
namespace Go.Proofs.Ytmjckbokjjnmeaa
open Go.Am
@[simp] theorem k_ok0 : okT Try.prog 0 = true := by kernel_rfl
@[simp] theorem k_agg0 : aggB Try.prog 0 = false := by kernel_rfl
@[simp] theorem k_cells0 : Try.prog.cellsOf 0 = 1 := by kernel_rfl
@[simp] theorem k_bytes0 : Try.prog.bytesOf 0 = 0 := by kernel_rfl
@[simp] theorem k_eq0 : eqKinds Try.prog 0 = none := by kernel_rfl
@[simp] theorem k_guard0 : Try.prog.eqGuardType Try.prog.depth 0 = false := by kernel_rfl
@[simp] theorem k_zero0 : zeroAV Try.prog 0 = some (AV.tup []) := by kernel_rfl
@[simp] theorem k_ok1 : okT Try.prog 1 = true := by kernel_rfl
@[simp] theorem k_agg1 : aggB Try.prog 1 = false := by kernel_rfl
@[simp] theorem k_cells1 : Try.prog.cellsOf 1 = 1 := by kernel_rfl
@[simp] theorem k_bytes1 : Try.prog.bytesOf 1 = 8 := by kernel_rfl
@[simp] theorem k_eq1 : eqKinds Try.prog 1 = none := by kernel_rfl
@[simp] theorem k_guard1 : Try.prog.eqGuardType Try.prog.depth 1 = false := by kernel_rfl
@[simp] theorem k_zero1 : zeroAV Try.prog 1 = some (AV.v Value.nilFunc) := by kernel_rfl
@[simp] theorem k_ok2 : okT Try.prog 2 = true := by kernel_rfl
@[simp] theorem k_agg2 : aggB Try.prog 2 = false := by kernel_rfl
@[simp] theorem k_cells2 : Try.prog.cellsOf 2 = 1 := by kernel_rfl
@[simp] theorem k_bytes2 : Try.prog.bytesOf 2 = 8 := by kernel_rfl
@[simp] theorem k_eq2 : eqKinds Try.prog 2 = some [SK.i] := by kernel_rfl
@[simp] theorem k_guard2 : Try.prog.eqGuardType Try.prog.depth 2 = false := by kernel_rfl
@[simp] theorem k_zero2 : zeroAV Try.prog 2 = some (AV.v (Value.int IntKind.i64 0)) := by kernel_rfl
@[simp] theorem k_ok3 : okT Try.prog 3 = true := by kernel_rfl
@[simp] theorem k_agg3 : aggB Try.prog 3 = false := by kernel_rfl
@[simp] theorem k_cells3 : Try.prog.cellsOf 3 = 1 := by kernel_rfl
@[simp] theorem k_bytes3 : Try.prog.bytesOf 3 = 8 := by kernel_rfl
@[simp] theorem k_eq3 : eqKinds Try.prog 3 = some [SK.i] := by kernel_rfl
@[simp] theorem k_guard3 : Try.prog.eqGuardType Try.prog.depth 3 = false := by kernel_rfl
@[simp] theorem k_zero3 : zeroAV Try.prog 3 = some (AV.v (Value.int IntKind.i64 0)) := by kernel_rfl
@[simp] theorem k_ok4 : okT Try.prog 4 = true := by kernel_rfl
@[simp] theorem k_agg4 : aggB Try.prog 4 = false := by kernel_rfl
@[simp] theorem k_cells4 : Try.prog.cellsOf 4 = 1 := by kernel_rfl
@[simp] theorem k_bytes4 : Try.prog.bytesOf 4 = 1 := by kernel_rfl
@[simp] theorem k_eq4 : eqKinds Try.prog 4 = some [SK.b] := by kernel_rfl
@[simp] theorem k_guard4 : Try.prog.eqGuardType Try.prog.depth 4 = false := by kernel_rfl
@[simp] theorem k_zero4 : zeroAV Try.prog 4 = some (AV.v (Value.bool false)) := by kernel_rfl
@[simp] theorem k_ok5 : okT Try.prog 5 = true := by kernel_rfl
@[simp] theorem k_agg5 : aggB Try.prog 5 = false := by kernel_rfl
@[simp] theorem k_cells5 : Try.prog.cellsOf 5 = 1 := by kernel_rfl
@[simp] theorem k_bytes5 : Try.prog.bytesOf 5 = 1 := by kernel_rfl
@[simp] theorem k_eq5 : eqKinds Try.prog 5 = some [SK.i] := by kernel_rfl
@[simp] theorem k_guard5 : Try.prog.eqGuardType Try.prog.depth 5 = false := by kernel_rfl
@[simp] theorem k_zero5 : zeroAV Try.prog 5 = some (AV.v (Value.int IntKind.u8 0)) := by kernel_rfl
@[simp] theorem k_ok6 : okT Try.prog 6 = true := by kernel_rfl
@[simp] theorem k_agg6 : aggB Try.prog 6 = false := by kernel_rfl
@[simp] theorem k_cells6 : Try.prog.cellsOf 6 = 1 := by kernel_rfl
@[simp] theorem k_bytes6 : Try.prog.bytesOf 6 = 1 := by kernel_rfl
@[simp] theorem k_eq6 : eqKinds Try.prog 6 = some [SK.i] := by kernel_rfl
@[simp] theorem k_guard6 : Try.prog.eqGuardType Try.prog.depth 6 = false := by kernel_rfl
@[simp] theorem k_zero6 : zeroAV Try.prog 6 = some (AV.v (Value.int IntKind.u8 0)) := by kernel_rfl
@[simp] theorem k_ok7 : okT Try.prog 7 = true := by kernel_rfl
@[simp] theorem k_agg7 : aggB Try.prog 7 = true := by kernel_rfl
@[simp] theorem k_cells7 : Try.prog.cellsOf 7 = 4 := by kernel_rfl
@[simp] theorem k_bytes7 : Try.prog.bytesOf 7 = 24 := by kernel_rfl
@[simp] theorem k_eq7 : eqKinds Try.prog 7 = some [SK.i, SK.i, SK.b, SK.i] := by kernel_rfl
@[simp] theorem k_guard7 : Try.prog.eqGuardType Try.prog.depth 7 = false := by kernel_rfl
@[simp] theorem k_zero7 : zeroAV Try.prog 7 = some (AV.st [AV.v (Value.int IntKind.i64 0), AV.v (Value.int IntKind.i64 0), AV.v (Value.bool false), AV.v (Value.int IntKind.u8 0)]) := by kernel_rfl
@[simp] theorem k_ok8 : okT Try.prog 8 = true := by kernel_rfl
@[simp] theorem k_agg8 : aggB Try.prog 8 = true := by kernel_rfl
@[simp] theorem k_cells8 : Try.prog.cellsOf 8 = 4 := by kernel_rfl
@[simp] theorem k_bytes8 : Try.prog.bytesOf 8 = 24 := by kernel_rfl
@[simp] theorem k_eq8 : eqKinds Try.prog 8 = some [SK.i, SK.i, SK.b, SK.i] := by kernel_rfl
@[simp] theorem k_guard8 : Try.prog.eqGuardType Try.prog.depth 8 = false := by kernel_rfl
@[simp] theorem k_zero8 : zeroAV Try.prog 8 = some (AV.st [AV.v (Value.int IntKind.i64 0), AV.v (Value.int IntKind.i64 0), AV.v (Value.bool false), AV.v (Value.int IntKind.u8 0)]) := by kernel_rfl
@[simp] theorem k_ok9 : okT Try.prog 9 = true := by kernel_rfl
@[simp] theorem k_agg9 : aggB Try.prog 9 = false := by kernel_rfl
@[simp] theorem k_cells9 : Try.prog.cellsOf 9 = 1 := by kernel_rfl
@[simp] theorem k_bytes9 : Try.prog.bytesOf 9 = 16 := by kernel_rfl
@[simp] theorem k_eq9 : eqKinds Try.prog 9 = some [SK.s] := by kernel_rfl
@[simp] theorem k_guard9 : Try.prog.eqGuardType Try.prog.depth 9 = false := by kernel_rfl
@[simp] theorem k_zero9 : zeroAV Try.prog 9 = some (AV.v (Value.string { data := { toList := [] } })) := by kernel_rfl
@[simp] theorem k_ok10 : okT Try.prog 10 = true := by kernel_rfl
@[simp] theorem k_agg10 : aggB Try.prog 10 = false := by kernel_rfl
@[simp] theorem k_cells10 : Try.prog.cellsOf 10 = 1 := by kernel_rfl
@[simp] theorem k_bytes10 : Try.prog.bytesOf 10 = 16 := by kernel_rfl
@[simp] theorem k_eq10 : eqKinds Try.prog 10 = some [SK.s] := by kernel_rfl
@[simp] theorem k_guard10 : Try.prog.eqGuardType Try.prog.depth 10 = false := by kernel_rfl
@[simp] theorem k_zero10 : zeroAV Try.prog 10 = some (AV.v (Value.string { data := { toList := [] } })) := by kernel_rfl
@[simp] theorem k_ok11 : okT Try.prog 11 = true := by kernel_rfl
@[simp] theorem k_agg11 : aggB Try.prog 11 = false := by kernel_rfl
@[simp] theorem k_cells11 : Try.prog.cellsOf 11 = 1 := by kernel_rfl
@[simp] theorem k_bytes11 : Try.prog.bytesOf 11 = 16 := by kernel_rfl
@[simp] theorem k_eq11 : eqKinds Try.prog 11 = some [SK.s] := by kernel_rfl
@[simp] theorem k_guard11 : Try.prog.eqGuardType Try.prog.depth 11 = false := by kernel_rfl
@[simp] theorem k_zero11 : zeroAV Try.prog 11 = some (AV.v (Value.string { data := { toList := [] } })) := by kernel_rfl
@[simp] theorem k_ok12 : okT Try.prog 12 = true := by kernel_rfl
@[simp] theorem k_agg12 : aggB Try.prog 12 = false := by kernel_rfl
@[simp] theorem k_cells12 : Try.prog.cellsOf 12 = 1 := by kernel_rfl
@[simp] theorem k_bytes12 : Try.prog.bytesOf 12 = 8 := by kernel_rfl
@[simp] theorem k_eq12 : eqKinds Try.prog 12 = some [SK.i] := by kernel_rfl
@[simp] theorem k_guard12 : Try.prog.eqGuardType Try.prog.depth 12 = false := by kernel_rfl
@[simp] theorem k_zero12 : zeroAV Try.prog 12 = some (AV.v (Value.int IntKind.u64 0)) := by kernel_rfl
@[simp] theorem k_ok13 : okT Try.prog 13 = true := by kernel_rfl
@[simp] theorem k_agg13 : aggB Try.prog 13 = true := by kernel_rfl
@[simp] theorem k_cells13 : Try.prog.cellsOf 13 = 2 := by kernel_rfl
@[simp] theorem k_bytes13 : Try.prog.bytesOf 13 = 24 := by kernel_rfl
@[simp] theorem k_eq13 : eqKinds Try.prog 13 = none := by kernel_rfl
@[simp] theorem k_guard13 : Try.prog.eqGuardType Try.prog.depth 13 = false := by kernel_rfl
@[simp] theorem k_zero13 : zeroAV Try.prog 13 = some (AV.st [AV.v (Value.string { data := { toList := [] } }), AV.v (Value.int IntKind.u64 0)]) := by kernel_rfl
@[simp] theorem k_ok14 : okT Try.prog 14 = true := by kernel_rfl
@[simp] theorem k_agg14 : aggB Try.prog 14 = true := by kernel_rfl
@[simp] theorem k_cells14 : Try.prog.cellsOf 14 = 2 := by kernel_rfl
@[simp] theorem k_bytes14 : Try.prog.bytesOf 14 = 24 := by kernel_rfl
@[simp] theorem k_eq14 : eqKinds Try.prog 14 = none := by kernel_rfl
@[simp] theorem k_guard14 : Try.prog.eqGuardType Try.prog.depth 14 = false := by kernel_rfl
@[simp] theorem k_zero14 : zeroAV Try.prog 14 = some (AV.st [AV.v (Value.string { data := { toList := [] } }), AV.v (Value.int IntKind.u64 0)]) := by kernel_rfl
@[simp] theorem k_ok15 : okT Try.prog 15 = true := by kernel_rfl
@[simp] theorem k_agg15 : aggB Try.prog 15 = false := by kernel_rfl
@[simp] theorem k_cells15 : Try.prog.cellsOf 15 = 1 := by kernel_rfl
@[simp] theorem k_bytes15 : Try.prog.bytesOf 15 = 8 := by kernel_rfl
@[simp] theorem k_eq15 : eqKinds Try.prog 15 = none := by kernel_rfl
@[simp] theorem k_guard15 : Try.prog.eqGuardType Try.prog.depth 15 = false := by kernel_rfl
@[simp] theorem k_zero15 : zeroAV Try.prog 15 = some (AV.v (Value.pointer none)) := by kernel_rfl
@[simp] theorem k_ok16 : okT Try.prog 16 = true := by kernel_rfl
@[simp] theorem k_agg16 : aggB Try.prog 16 = false := by kernel_rfl
@[simp] theorem k_cells16 : Try.prog.cellsOf 16 = 1 := by kernel_rfl
@[simp] theorem k_bytes16 : Try.prog.bytesOf 16 = 8 := by kernel_rfl
@[simp] theorem k_eq16 : eqKinds Try.prog 16 = none := by kernel_rfl
@[simp] theorem k_guard16 : Try.prog.eqGuardType Try.prog.depth 16 = false := by kernel_rfl
@[simp] theorem k_zero16 : zeroAV Try.prog 16 = some (AV.v (Value.pointer none)) := by kernel_rfl
@[simp] theorem k_ok17 : okT Try.prog 17 = true := by kernel_rfl
@[simp] theorem k_agg17 : aggB Try.prog 17 = false := by kernel_rfl
@[simp] theorem k_cells17 : Try.prog.cellsOf 17 = 1 := by kernel_rfl
@[simp] theorem k_bytes17 : Try.prog.bytesOf 17 = 8 := by kernel_rfl
@[simp] theorem k_eq17 : eqKinds Try.prog 17 = none := by kernel_rfl
@[simp] theorem k_guard17 : Try.prog.eqGuardType Try.prog.depth 17 = false := by kernel_rfl
@[simp] theorem k_zero17 : zeroAV Try.prog 17 = some (AV.v (Value.pointer none)) := by kernel_rfl
@[simp] theorem k_ok18 : okT Try.prog 18 = true := by kernel_rfl
@[simp] theorem k_agg18 : aggB Try.prog 18 = true := by kernel_rfl
@[simp] theorem k_cells18 : Try.prog.cellsOf 18 = 1 := by kernel_rfl
@[simp] theorem k_bytes18 : Try.prog.bytesOf 18 = 8 := by kernel_rfl
@[simp] theorem k_eq18 : eqKinds Try.prog 18 = none := by kernel_rfl
@[simp] theorem k_guard18 : Try.prog.eqGuardType Try.prog.depth 18 = false := by kernel_rfl
@[simp] theorem k_zero18 : zeroAV Try.prog 18 = some (AV.st [AV.v (Value.pointer none)]) := by kernel_rfl
@[simp] theorem k_ok19 : okT Try.prog 19 = true := by kernel_rfl
@[simp] theorem k_agg19 : aggB Try.prog 19 = true := by kernel_rfl
@[simp] theorem k_cells19 : Try.prog.cellsOf 19 = 1 := by kernel_rfl
@[simp] theorem k_bytes19 : Try.prog.bytesOf 19 = 8 := by kernel_rfl
@[simp] theorem k_eq19 : eqKinds Try.prog 19 = none := by kernel_rfl
@[simp] theorem k_guard19 : Try.prog.eqGuardType Try.prog.depth 19 = false := by kernel_rfl
@[simp] theorem k_zero19 : zeroAV Try.prog 19 = some (AV.st [AV.v (Value.pointer none)]) := by kernel_rfl
@[simp] theorem k_ok20 : okT Try.prog 20 = true := by kernel_rfl
@[simp] theorem k_agg20 : aggB Try.prog 20 = false := by kernel_rfl
@[simp] theorem k_cells20 : Try.prog.cellsOf 20 = 1 := by kernel_rfl
@[simp] theorem k_bytes20 : Try.prog.bytesOf 20 = 16 := by kernel_rfl
@[simp] theorem k_eq20 : eqKinds Try.prog 20 = none := by kernel_rfl
@[simp] theorem k_guard20 : Try.prog.eqGuardType Try.prog.depth 20 = false := by kernel_rfl
@[simp] theorem k_zero20 : zeroAV Try.prog 20 = some (AV.v Value.nilIface) := by kernel_rfl
@[simp] theorem k_ok21 : okT Try.prog 21 = true := by kernel_rfl
@[simp] theorem k_agg21 : aggB Try.prog 21 = false := by kernel_rfl
@[simp] theorem k_cells21 : Try.prog.cellsOf 21 = 1 := by kernel_rfl
@[simp] theorem k_bytes21 : Try.prog.bytesOf 21 = 4 := by kernel_rfl
@[simp] theorem k_eq21 : eqKinds Try.prog 21 = some [SK.i] := by kernel_rfl
@[simp] theorem k_guard21 : Try.prog.eqGuardType Try.prog.depth 21 = false := by kernel_rfl
@[simp] theorem k_zero21 : zeroAV Try.prog 21 = some (AV.v (Value.int IntKind.i32 0)) := by kernel_rfl
@[simp] theorem k_ok22 : okT Try.prog 22 = true := by kernel_rfl
@[simp] theorem k_agg22 : aggB Try.prog 22 = true := by kernel_rfl
@[simp] theorem k_cells22 : Try.prog.cellsOf 22 = 8 := by kernel_rfl
@[simp] theorem k_bytes22 : Try.prog.bytesOf 22 = 64 := by kernel_rfl
@[simp] theorem k_eq22 : eqKinds Try.prog 22 = some [SK.i, SK.i, SK.i, SK.i, SK.i, SK.i, SK.i, SK.b] := by kernel_rfl
@[simp] theorem k_guard22 : Try.prog.eqGuardType Try.prog.depth 22 = false := by kernel_rfl
@[simp] theorem k_zero22 : zeroAV Try.prog 22 = some (AV.st [AV.v (Value.int IntKind.i64 0), AV.v (Value.int IntKind.i64 0), AV.v (Value.int IntKind.i64 0), AV.v (Value.int IntKind.i64 0), AV.v (Value.int IntKind.i64 0), AV.v (Value.int IntKind.i64 0), AV.v (Value.int IntKind.i64 0), AV.v (Value.bool false)]) := by kernel_rfl
@[simp] theorem k_ok23 : okT Try.prog 23 = true := by kernel_rfl
@[simp] theorem k_agg23 : aggB Try.prog 23 = true := by kernel_rfl
@[simp] theorem k_cells23 : Try.prog.cellsOf 23 = 8 := by kernel_rfl
@[simp] theorem k_bytes23 : Try.prog.bytesOf 23 = 64 := by kernel_rfl
@[simp] theorem k_eq23 : eqKinds Try.prog 23 = some [SK.i, SK.i, SK.i, SK.i, SK.i, SK.i, SK.i, SK.b] := by kernel_rfl
@[simp] theorem k_guard23 : Try.prog.eqGuardType Try.prog.depth 23 = false := by kernel_rfl
@[simp] theorem k_zero23 : zeroAV Try.prog 23 = some (AV.st [AV.v (Value.int IntKind.i64 0), AV.v (Value.int IntKind.i64 0), AV.v (Value.int IntKind.i64 0), AV.v (Value.int IntKind.i64 0), AV.v (Value.int IntKind.i64 0), AV.v (Value.int IntKind.i64 0), AV.v (Value.int IntKind.i64 0), AV.v (Value.bool false)]) := by kernel_rfl
@[simp] theorem k_ok24 : okT Try.prog 24 = true := by kernel_rfl
@[simp] theorem k_agg24 : aggB Try.prog 24 = false := by kernel_rfl
@[simp] theorem k_cells24 : Try.prog.cellsOf 24 = 1 := by kernel_rfl
@[simp] theorem k_bytes24 : Try.prog.bytesOf 24 = 8 := by kernel_rfl
@[simp] theorem k_eq24 : eqKinds Try.prog 24 = none := by kernel_rfl
@[simp] theorem k_guard24 : Try.prog.eqGuardType Try.prog.depth 24 = false := by kernel_rfl
@[simp] theorem k_zero24 : zeroAV Try.prog 24 = some (AV.v Value.nilFunc) := by kernel_rfl
@[simp] theorem k_ok25 : okT Try.prog 25 = true := by kernel_rfl
@[simp] theorem k_agg25 : aggB Try.prog 25 = false := by kernel_rfl
@[simp] theorem k_cells25 : Try.prog.cellsOf 25 = 1 := by kernel_rfl
@[simp] theorem k_bytes25 : Try.prog.bytesOf 25 = 8 := by kernel_rfl
@[simp] theorem k_eq25 : eqKinds Try.prog 25 = none := by kernel_rfl
@[simp] theorem k_guard25 : Try.prog.eqGuardType Try.prog.depth 25 = false := by kernel_rfl
@[simp] theorem k_zero25 : zeroAV Try.prog 25 = some (AV.v Value.nilFunc) := by kernel_rfl
@[simp] theorem k_ok26 : okT Try.prog 26 = true := by kernel_rfl
@[simp] theorem k_agg26 : aggB Try.prog 26 = false := by kernel_rfl
@[simp] theorem k_cells26 : Try.prog.cellsOf 26 = 1 := by kernel_rfl
@[simp] theorem k_bytes26 : Try.prog.bytesOf 26 = 8 := by kernel_rfl
@[simp] theorem k_eq26 : eqKinds Try.prog 26 = none := by kernel_rfl
@[simp] theorem k_guard26 : Try.prog.eqGuardType Try.prog.depth 26 = false := by kernel_rfl
@[simp] theorem k_zero26 : zeroAV Try.prog 26 = some (AV.v Value.nilFunc) := by kernel_rfl
@[simp] theorem k_ok27 : okT Try.prog 27 = true := by kernel_rfl
@[simp] theorem k_agg27 : aggB Try.prog 27 = false := by kernel_rfl
@[simp] theorem k_cells27 : Try.prog.cellsOf 27 = 1 := by kernel_rfl
@[simp] theorem k_bytes27 : Try.prog.bytesOf 27 = 24 := by kernel_rfl
@[simp] theorem k_eq27 : eqKinds Try.prog 27 = none := by kernel_rfl
@[simp] theorem k_guard27 : Try.prog.eqGuardType Try.prog.depth 27 = false := by kernel_rfl
@[simp] theorem k_zero27 : zeroAV Try.prog 27 = some (AV.v (Value.slice none 0 0)) := by kernel_rfl
@[simp] theorem k_ok28 : okT Try.prog 28 = true := by kernel_rfl
@[simp] theorem k_agg28 : aggB Try.prog 28 = false := by kernel_rfl
@[simp] theorem k_cells28 : Try.prog.cellsOf 28 = 1 := by kernel_rfl
@[simp] theorem k_bytes28 : Try.prog.bytesOf 28 = 8 := by kernel_rfl
@[simp] theorem k_eq28 : eqKinds Try.prog 28 = none := by kernel_rfl
@[simp] theorem k_guard28 : Try.prog.eqGuardType Try.prog.depth 28 = false := by kernel_rfl
@[simp] theorem k_zero28 : zeroAV Try.prog 28 = some (AV.v Value.nilFunc) := by kernel_rfl
@[simp] theorem k_ok29 : okT Try.prog 29 = true := by kernel_rfl
@[simp] theorem k_agg29 : aggB Try.prog 29 = false := by kernel_rfl
@[simp] theorem k_cells29 : Try.prog.cellsOf 29 = 1 := by kernel_rfl
@[simp] theorem k_bytes29 : Try.prog.bytesOf 29 = 8 := by kernel_rfl
@[simp] theorem k_eq29 : eqKinds Try.prog 29 = none := by kernel_rfl
@[simp] theorem k_guard29 : Try.prog.eqGuardType Try.prog.depth 29 = false := by kernel_rfl
@[simp] theorem k_zero29 : zeroAV Try.prog 29 = some (AV.v Value.nilFunc) := by kernel_rfl
@[simp] theorem k_ok30 : okT Try.prog 30 = true := by kernel_rfl
@[simp] theorem k_agg30 : aggB Try.prog 30 = false := by kernel_rfl
@[simp] theorem k_cells30 : Try.prog.cellsOf 30 = 1 := by kernel_rfl
@[simp] theorem k_bytes30 : Try.prog.bytesOf 30 = 8 := by kernel_rfl
@[simp] theorem k_eq30 : eqKinds Try.prog 30 = none := by kernel_rfl
@[simp] theorem k_guard30 : Try.prog.eqGuardType Try.prog.depth 30 = false := by kernel_rfl
@[simp] theorem k_zero30 : zeroAV Try.prog 30 = some (AV.v Value.nilFunc) := by kernel_rfl
@[simp] theorem k_ok31 : okT Try.prog 31 = true := by kernel_rfl
@[simp] theorem k_agg31 : aggB Try.prog 31 = false := by kernel_rfl
@[simp] theorem k_cells31 : Try.prog.cellsOf 31 = 1 := by kernel_rfl
@[simp] theorem k_bytes31 : Try.prog.bytesOf 31 = 8 := by kernel_rfl
@[simp] theorem k_eq31 : eqKinds Try.prog 31 = none := by kernel_rfl
@[simp] theorem k_guard31 : Try.prog.eqGuardType Try.prog.depth 31 = false := by kernel_rfl
@[simp] theorem k_zero31 : zeroAV Try.prog 31 = some (AV.v Value.nilFunc) := by kernel_rfl
@[simp] theorem k_ok32 : okT Try.prog 32 = true := by kernel_rfl
@[simp] theorem k_agg32 : aggB Try.prog 32 = false := by kernel_rfl
@[simp] theorem k_cells32 : Try.prog.cellsOf 32 = 1 := by kernel_rfl
@[simp] theorem k_bytes32 : Try.prog.bytesOf 32 = 8 := by kernel_rfl
@[simp] theorem k_eq32 : eqKinds Try.prog 32 = none := by kernel_rfl
@[simp] theorem k_guard32 : Try.prog.eqGuardType Try.prog.depth 32 = false := by kernel_rfl
@[simp] theorem k_zero32 : zeroAV Try.prog 32 = some (AV.v Value.nilFunc) := by kernel_rfl
@[simp] theorem k_ok33 : okT Try.prog 33 = true := by kernel_rfl
@[simp] theorem k_agg33 : aggB Try.prog 33 = false := by kernel_rfl
@[simp] theorem k_cells33 : Try.prog.cellsOf 33 = 1 := by kernel_rfl
@[simp] theorem k_bytes33 : Try.prog.bytesOf 33 = 24 := by kernel_rfl
@[simp] theorem k_eq33 : eqKinds Try.prog 33 = none := by kernel_rfl
@[simp] theorem k_guard33 : Try.prog.eqGuardType Try.prog.depth 33 = false := by kernel_rfl
@[simp] theorem k_zero33 : zeroAV Try.prog 33 = some (AV.v (Value.slice none 0 0)) := by kernel_rfl
@[simp] theorem k_ok34 : okT Try.prog 34 = true := by kernel_rfl
@[simp] theorem k_agg34 : aggB Try.prog 34 = false := by kernel_rfl
@[simp] theorem k_cells34 : Try.prog.cellsOf 34 = 1 := by kernel_rfl
@[simp] theorem k_bytes34 : Try.prog.bytesOf 34 = 8 := by kernel_rfl
@[simp] theorem k_eq34 : eqKinds Try.prog 34 = none := by kernel_rfl
@[simp] theorem k_guard34 : Try.prog.eqGuardType Try.prog.depth 34 = false := by kernel_rfl
@[simp] theorem k_zero34 : zeroAV Try.prog 34 = some (AV.v Value.nilFunc) := by kernel_rfl
@[simp] theorem k_ok35 : okT Try.prog 35 = true := by kernel_rfl
@[simp] theorem k_agg35 : aggB Try.prog 35 = false := by kernel_rfl
@[simp] theorem k_cells35 : Try.prog.cellsOf 35 = 1 := by kernel_rfl
@[simp] theorem k_bytes35 : Try.prog.bytesOf 35 = 8 := by kernel_rfl
@[simp] theorem k_eq35 : eqKinds Try.prog 35 = none := by kernel_rfl
@[simp] theorem k_guard35 : Try.prog.eqGuardType Try.prog.depth 35 = false := by kernel_rfl
@[simp] theorem k_zero35 : zeroAV Try.prog 35 = some (AV.v Value.nilFunc) := by kernel_rfl
@[simp] theorem k_ok36 : okT Try.prog 36 = true := by kernel_rfl
@[simp] theorem k_agg36 : aggB Try.prog 36 = false := by kernel_rfl
@[simp] theorem k_cells36 : Try.prog.cellsOf 36 = 1 := by kernel_rfl
@[simp] theorem k_bytes36 : Try.prog.bytesOf 36 = 8 := by kernel_rfl
@[simp] theorem k_eq36 : eqKinds Try.prog 36 = none := by kernel_rfl
@[simp] theorem k_guard36 : Try.prog.eqGuardType Try.prog.depth 36 = false := by kernel_rfl
@[simp] theorem k_zero36 : zeroAV Try.prog 36 = some (AV.v Value.nilFunc) := by kernel_rfl
@[simp] theorem k_ok37 : okT Try.prog 37 = true := by kernel_rfl
@[simp] theorem k_agg37 : aggB Try.prog 37 = false := by kernel_rfl
@[simp] theorem k_cells37 : Try.prog.cellsOf 37 = 1 := by kernel_rfl
@[simp] theorem k_bytes37 : Try.prog.bytesOf 37 = 8 := by kernel_rfl
@[simp] theorem k_eq37 : eqKinds Try.prog 37 = none := by kernel_rfl
@[simp] theorem k_guard37 : Try.prog.eqGuardType Try.prog.depth 37 = false := by kernel_rfl
@[simp] theorem k_zero37 : zeroAV Try.prog 37 = some (AV.v Value.nilFunc) := by kernel_rfl
@[simp] theorem k_ok38 : okT Try.prog 38 = true := by kernel_rfl
@[simp] theorem k_agg38 : aggB Try.prog 38 = true := by kernel_rfl
@[simp] theorem k_cells38 : Try.prog.cellsOf 38 = 5 := by kernel_rfl
@[simp] theorem k_bytes38 : Try.prog.bytesOf 38 = 40 := by kernel_rfl
@[simp] theorem k_eq38 : eqKinds Try.prog 38 = some [SK.i, SK.i, SK.i, SK.i, SK.i] := by kernel_rfl
@[simp] theorem k_guard38 : Try.prog.eqGuardType Try.prog.depth 38 = false := by kernel_rfl
@[simp] theorem k_zero38 : zeroAV Try.prog 38 = some (AV.st [AV.v (Value.int IntKind.i64 0), AV.v (Value.int IntKind.i64 0), AV.v (Value.int IntKind.i64 0), AV.v (Value.int IntKind.i64 0), AV.v (Value.int IntKind.i64 0)]) := by kernel_rfl
@[simp] theorem k_ok39 : okT Try.prog 39 = true := by kernel_rfl
@[simp] theorem k_agg39 : aggB Try.prog 39 = true := by kernel_rfl
@[simp] theorem k_cells39 : Try.prog.cellsOf 39 = 5 := by kernel_rfl
@[simp] theorem k_bytes39 : Try.prog.bytesOf 39 = 40 := by kernel_rfl
@[simp] theorem k_eq39 : eqKinds Try.prog 39 = some [SK.i, SK.i, SK.i, SK.i, SK.i] := by kernel_rfl
@[simp] theorem k_guard39 : Try.prog.eqGuardType Try.prog.depth 39 = false := by kernel_rfl
@[simp] theorem k_zero39 : zeroAV Try.prog 39 = some (AV.st [AV.v (Value.int IntKind.i64 0), AV.v (Value.int IntKind.i64 0), AV.v (Value.int IntKind.i64 0), AV.v (Value.int IntKind.i64 0), AV.v (Value.int IntKind.i64 0)]) := by kernel_rfl
@[simp] theorem k_ok40 : okT Try.prog 40 = true := by kernel_rfl
@[simp] theorem k_agg40 : aggB Try.prog 40 = false := by kernel_rfl
@[simp] theorem k_cells40 : Try.prog.cellsOf 40 = 1 := by kernel_rfl
@[simp] theorem k_bytes40 : Try.prog.bytesOf 40 = 8 := by kernel_rfl
@[simp] theorem k_eq40 : eqKinds Try.prog 40 = some [SK.i] := by kernel_rfl
@[simp] theorem k_guard40 : Try.prog.eqGuardType Try.prog.depth 40 = false := by kernel_rfl
@[simp] theorem k_zero40 : zeroAV Try.prog 40 = some (AV.v (Value.int IntKind.i64 0)) := by kernel_rfl
@[simp] theorem k_ok41 : okT Try.prog 41 = true := by kernel_rfl
@[simp] theorem k_agg41 : aggB Try.prog 41 = false := by kernel_rfl
@[simp] theorem k_cells41 : Try.prog.cellsOf 41 = 1 := by kernel_rfl
@[simp] theorem k_bytes41 : Try.prog.bytesOf 41 = 8 := by kernel_rfl
@[simp] theorem k_eq41 : eqKinds Try.prog 41 = none := by kernel_rfl
@[simp] theorem k_guard41 : Try.prog.eqGuardType Try.prog.depth 41 = false := by kernel_rfl
@[simp] theorem k_zero41 : zeroAV Try.prog 41 = some (AV.v Value.nilFunc) := by kernel_rfl
@[simp] theorem k_ok42 : okT Try.prog 42 = true := by kernel_rfl
@[simp] theorem k_agg42 : aggB Try.prog 42 = false := by kernel_rfl
@[simp] theorem k_cells42 : Try.prog.cellsOf 42 = 1 := by kernel_rfl
@[simp] theorem k_bytes42 : Try.prog.bytesOf 42 = 8 := by kernel_rfl
@[simp] theorem k_eq42 : eqKinds Try.prog 42 = none := by kernel_rfl
@[simp] theorem k_guard42 : Try.prog.eqGuardType Try.prog.depth 42 = false := by kernel_rfl
@[simp] theorem k_zero42 : zeroAV Try.prog 42 = some (AV.v Value.nilFunc) := by kernel_rfl
@[simp] theorem k_ok43 : okT Try.prog 43 = true := by kernel_rfl
@[simp] theorem k_agg43 : aggB Try.prog 43 = false := by kernel_rfl
@[simp] theorem k_cells43 : Try.prog.cellsOf 43 = 1 := by kernel_rfl
@[simp] theorem k_bytes43 : Try.prog.bytesOf 43 = 8 := by kernel_rfl
@[simp] theorem k_eq43 : eqKinds Try.prog 43 = none := by kernel_rfl
@[simp] theorem k_guard43 : Try.prog.eqGuardType Try.prog.depth 43 = false := by kernel_rfl
@[simp] theorem k_zero43 : zeroAV Try.prog 43 = some (AV.v Value.nilFunc) := by kernel_rfl
@[simp] theorem k_ok44 : okT Try.prog 44 = true := by kernel_rfl
@[simp] theorem k_agg44 : aggB Try.prog 44 = false := by kernel_rfl
@[simp] theorem k_cells44 : Try.prog.cellsOf 44 = 1 := by kernel_rfl
@[simp] theorem k_bytes44 : Try.prog.bytesOf 44 = 8 := by kernel_rfl
@[simp] theorem k_eq44 : eqKinds Try.prog 44 = none := by kernel_rfl
@[simp] theorem k_guard44 : Try.prog.eqGuardType Try.prog.depth 44 = false := by kernel_rfl
@[simp] theorem k_zero44 : zeroAV Try.prog 44 = some (AV.v Value.nilFunc) := by kernel_rfl
@[simp] theorem k_ok45 : okT Try.prog 45 = true := by kernel_rfl
@[simp] theorem k_agg45 : aggB Try.prog 45 = false := by kernel_rfl
@[simp] theorem k_cells45 : Try.prog.cellsOf 45 = 1 := by kernel_rfl
@[simp] theorem k_bytes45 : Try.prog.bytesOf 45 = 8 := by kernel_rfl
@[simp] theorem k_eq45 : eqKinds Try.prog 45 = none := by kernel_rfl
@[simp] theorem k_guard45 : Try.prog.eqGuardType Try.prog.depth 45 = false := by kernel_rfl
@[simp] theorem k_zero45 : zeroAV Try.prog 45 = some (AV.v Value.nilFunc) := by kernel_rfl
@[simp] theorem k_ok46 : okT Try.prog 46 = true := by kernel_rfl
@[simp] theorem k_agg46 : aggB Try.prog 46 = false := by kernel_rfl
@[simp] theorem k_cells46 : Try.prog.cellsOf 46 = 1 := by kernel_rfl
@[simp] theorem k_bytes46 : Try.prog.bytesOf 46 = 0 := by kernel_rfl
@[simp] theorem k_eq46 : eqKinds Try.prog 46 = none := by kernel_rfl
@[simp] theorem k_guard46 : Try.prog.eqGuardType Try.prog.depth 46 = false := by kernel_rfl
@[simp] theorem k_zero46 : zeroAV Try.prog 46 = some AV.u := by kernel_rfl
@[simp] theorem k_ok47 : okT Try.prog 47 = true := by kernel_rfl
@[simp] theorem k_agg47 : aggB Try.prog 47 = false := by kernel_rfl
@[simp] theorem k_cells47 : Try.prog.cellsOf 47 = 1 := by kernel_rfl
@[simp] theorem k_bytes47 : Try.prog.bytesOf 47 = 8 := by kernel_rfl
@[simp] theorem k_eq47 : eqKinds Try.prog 47 = none := by kernel_rfl
@[simp] theorem k_guard47 : Try.prog.eqGuardType Try.prog.depth 47 = false := by kernel_rfl
@[simp] theorem k_zero47 : zeroAV Try.prog 47 = some (AV.v Value.nilFunc) := by kernel_rfl
@[simp] theorem k_ok48 : okT Try.prog 48 = true := by kernel_rfl
@[simp] theorem k_agg48 : aggB Try.prog 48 = false := by kernel_rfl
@[simp] theorem k_cells48 : Try.prog.cellsOf 48 = 1 := by kernel_rfl
@[simp] theorem k_bytes48 : Try.prog.bytesOf 48 = 8 := by kernel_rfl
@[simp] theorem k_eq48 : eqKinds Try.prog 48 = none := by kernel_rfl
@[simp] theorem k_guard48 : Try.prog.eqGuardType Try.prog.depth 48 = false := by kernel_rfl
@[simp] theorem k_zero48 : zeroAV Try.prog 48 = some (AV.v Value.nilFunc) := by kernel_rfl
@[simp] theorem k_ok49 : okT Try.prog 49 = true := by kernel_rfl
@[simp] theorem k_agg49 : aggB Try.prog 49 = false := by kernel_rfl
@[simp] theorem k_cells49 : Try.prog.cellsOf 49 = 1 := by kernel_rfl
@[simp] theorem k_bytes49 : Try.prog.bytesOf 49 = 8 := by kernel_rfl
@[simp] theorem k_eq49 : eqKinds Try.prog 49 = none := by kernel_rfl
@[simp] theorem k_guard49 : Try.prog.eqGuardType Try.prog.depth 49 = false := by kernel_rfl
@[simp] theorem k_zero49 : zeroAV Try.prog 49 = some (AV.v Value.nilFunc) := by kernel_rfl
@[simp] theorem k_ok50 : okT Try.prog 50 = true := by kernel_rfl
@[simp] theorem k_agg50 : aggB Try.prog 50 = false := by kernel_rfl
@[simp] theorem k_cells50 : Try.prog.cellsOf 50 = 1 := by kernel_rfl
@[simp] theorem k_bytes50 : Try.prog.bytesOf 50 = 8 := by kernel_rfl
@[simp] theorem k_eq50 : eqKinds Try.prog 50 = none := by kernel_rfl
@[simp] theorem k_guard50 : Try.prog.eqGuardType Try.prog.depth 50 = false := by kernel_rfl
@[simp] theorem k_zero50 : zeroAV Try.prog 50 = some (AV.v Value.nilFunc) := by kernel_rfl
@[simp] theorem k_ok51 : okT Try.prog 51 = true := by kernel_rfl
@[simp] theorem k_agg51 : aggB Try.prog 51 = false := by kernel_rfl
@[simp] theorem k_cells51 : Try.prog.cellsOf 51 = 1 := by kernel_rfl
@[simp] theorem k_bytes51 : Try.prog.bytesOf 51 = 8 := by kernel_rfl
@[simp] theorem k_eq51 : eqKinds Try.prog 51 = none := by kernel_rfl
@[simp] theorem k_guard51 : Try.prog.eqGuardType Try.prog.depth 51 = false := by kernel_rfl
@[simp] theorem k_zero51 : zeroAV Try.prog 51 = some (AV.v Value.nilFunc) := by kernel_rfl
@[simp] theorem k_ok52 : okT Try.prog 52 = true := by kernel_rfl
@[simp] theorem k_agg52 : aggB Try.prog 52 = true := by kernel_rfl
@[simp] theorem k_cells52 : Try.prog.cellsOf 52 = 8 := by kernel_rfl
@[simp] theorem k_bytes52 : Try.prog.bytesOf 52 = 64 := by kernel_rfl
@[simp] theorem k_eq52 : eqKinds Try.prog 52 = none := by kernel_rfl
@[simp] theorem k_guard52 : Try.prog.eqGuardType Try.prog.depth 52 = false := by kernel_rfl
@[simp] theorem k_zero52 : zeroAV Try.prog 52 = some (AV.st [AV.v (Value.int IntKind.i64 0), AV.v (Value.int IntKind.i64 0), AV.v (Value.int IntKind.i64 0), AV.v (Value.int IntKind.i64 0), AV.v (Value.int IntKind.i64 0), AV.v (Value.int IntKind.i64 0), AV.v (Value.int IntKind.i64 0), AV.v (Value.int IntKind.i64 0)]) := by kernel_rfl
@[simp] theorem k_ok53 : okT Try.prog 53 = true := by kernel_rfl
@[simp] theorem k_agg53 : aggB Try.prog 53 = false := by kernel_rfl
@[simp] theorem k_cells53 : Try.prog.cellsOf 53 = 1 := by kernel_rfl
@[simp] theorem k_bytes53 : Try.prog.bytesOf 53 = 8 := by kernel_rfl
@[simp] theorem k_eq53 : eqKinds Try.prog 53 = none := by kernel_rfl
@[simp] theorem k_guard53 : Try.prog.eqGuardType Try.prog.depth 53 = false := by kernel_rfl
@[simp] theorem k_zero53 : zeroAV Try.prog 53 = some (AV.v Value.nilFunc) := by kernel_rfl
@[simp] theorem k_ok54 : okT Try.prog 54 = true := by kernel_rfl
@[simp] theorem k_agg54 : aggB Try.prog 54 = false := by kernel_rfl
@[simp] theorem k_cells54 : Try.prog.cellsOf 54 = 1 := by kernel_rfl
@[simp] theorem k_bytes54 : Try.prog.bytesOf 54 = 8 := by kernel_rfl
@[simp] theorem k_eq54 : eqKinds Try.prog 54 = none := by kernel_rfl
@[simp] theorem k_guard54 : Try.prog.eqGuardType Try.prog.depth 54 = false := by kernel_rfl
@[simp] theorem k_zero54 : zeroAV Try.prog 54 = some (AV.v Value.nilFunc) := by kernel_rfl
@[simp] theorem k_ok55 : okT Try.prog 55 = true := by kernel_rfl
@[simp] theorem k_agg55 : aggB Try.prog 55 = false := by kernel_rfl
@[simp] theorem k_cells55 : Try.prog.cellsOf 55 = 1 := by kernel_rfl
@[simp] theorem k_bytes55 : Try.prog.bytesOf 55 = 8 := by kernel_rfl
@[simp] theorem k_eq55 : eqKinds Try.prog 55 = none := by kernel_rfl
@[simp] theorem k_guard55 : Try.prog.eqGuardType Try.prog.depth 55 = false := by kernel_rfl
@[simp] theorem k_zero55 : zeroAV Try.prog 55 = some (AV.v (Value.map none)) := by kernel_rfl
@[simp] theorem k_ok56 : okT Try.prog 56 = true := by kernel_rfl
@[simp] theorem k_agg56 : aggB Try.prog 56 = false := by kernel_rfl
@[simp] theorem k_cells56 : Try.prog.cellsOf 56 = 1 := by kernel_rfl
@[simp] theorem k_bytes56 : Try.prog.bytesOf 56 = 8 := by kernel_rfl
@[simp] theorem k_eq56 : eqKinds Try.prog 56 = none := by kernel_rfl
@[simp] theorem k_guard56 : Try.prog.eqGuardType Try.prog.depth 56 = false := by kernel_rfl
@[simp] theorem k_zero56 : zeroAV Try.prog 56 = some (AV.v Value.nilFunc) := by kernel_rfl
@[simp] theorem k_ok57 : okT Try.prog 57 = true := by kernel_rfl
@[simp] theorem k_agg57 : aggB Try.prog 57 = true := by kernel_rfl
@[simp] theorem k_cells57 : Try.prog.cellsOf 57 = 2 := by kernel_rfl
@[simp] theorem k_bytes57 : Try.prog.bytesOf 57 = 16 := by kernel_rfl
@[simp] theorem k_eq57 : eqKinds Try.prog 57 = some [SK.i, SK.i] := by kernel_rfl
@[simp] theorem k_guard57 : Try.prog.eqGuardType Try.prog.depth 57 = false := by kernel_rfl
@[simp] theorem k_zero57 : zeroAV Try.prog 57 = some (AV.st [AV.v (Value.int IntKind.i64 0), AV.v (Value.int IntKind.i64 0)]) := by kernel_rfl
@[simp] theorem k_ok58 : okT Try.prog 58 = true := by kernel_rfl
@[simp] theorem k_agg58 : aggB Try.prog 58 = true := by kernel_rfl
@[simp] theorem k_cells58 : Try.prog.cellsOf 58 = 2 := by kernel_rfl
@[simp] theorem k_bytes58 : Try.prog.bytesOf 58 = 16 := by kernel_rfl
@[simp] theorem k_eq58 : eqKinds Try.prog 58 = some [SK.i, SK.i] := by kernel_rfl
@[simp] theorem k_guard58 : Try.prog.eqGuardType Try.prog.depth 58 = false := by kernel_rfl
@[simp] theorem k_zero58 : zeroAV Try.prog 58 = some (AV.st [AV.v (Value.int IntKind.i64 0), AV.v (Value.int IntKind.i64 0)]) := by kernel_rfl
@[simp] theorem k_ok59 : okT Try.prog 59 = true := by kernel_rfl
@[simp] theorem k_agg59 : aggB Try.prog 59 = false := by kernel_rfl
@[simp] theorem k_cells59 : Try.prog.cellsOf 59 = 1 := by kernel_rfl
@[simp] theorem k_bytes59 : Try.prog.bytesOf 59 = 8 := by kernel_rfl
@[simp] theorem k_eq59 : eqKinds Try.prog 59 = none := by kernel_rfl
@[simp] theorem k_guard59 : Try.prog.eqGuardType Try.prog.depth 59 = false := by kernel_rfl
@[simp] theorem k_zero59 : zeroAV Try.prog 59 = some (AV.v Value.nilFunc) := by kernel_rfl
@[simp] theorem k_ok60 : okT Try.prog 60 = true := by kernel_rfl
@[simp] theorem k_agg60 : aggB Try.prog 60 = false := by kernel_rfl
@[simp] theorem k_cells60 : Try.prog.cellsOf 60 = 1 := by kernel_rfl
@[simp] theorem k_bytes60 : Try.prog.bytesOf 60 = 8 := by kernel_rfl
@[simp] theorem k_eq60 : eqKinds Try.prog 60 = none := by kernel_rfl
@[simp] theorem k_guard60 : Try.prog.eqGuardType Try.prog.depth 60 = false := by kernel_rfl
@[simp] theorem k_zero60 : zeroAV Try.prog 60 = some (AV.v (Value.map none)) := by kernel_rfl
@[simp] theorem k_ok61 : okT Try.prog 61 = true := by kernel_rfl
@[simp] theorem k_agg61 : aggB Try.prog 61 = false := by kernel_rfl
@[simp] theorem k_cells61 : Try.prog.cellsOf 61 = 1 := by kernel_rfl
@[simp] theorem k_bytes61 : Try.prog.bytesOf 61 = 8 := by kernel_rfl
@[simp] theorem k_eq61 : eqKinds Try.prog 61 = none := by kernel_rfl
@[simp] theorem k_guard61 : Try.prog.eqGuardType Try.prog.depth 61 = false := by kernel_rfl
@[simp] theorem k_zero61 : zeroAV Try.prog 61 = some (AV.v Value.nilFunc) := by kernel_rfl
@[simp] theorem k_ok62 : okT Try.prog 62 = true := by kernel_rfl
@[simp] theorem k_agg62 : aggB Try.prog 62 = false := by kernel_rfl
@[simp] theorem k_cells62 : Try.prog.cellsOf 62 = 1 := by kernel_rfl
@[simp] theorem k_bytes62 : Try.prog.bytesOf 62 = 8 := by kernel_rfl
@[simp] theorem k_eq62 : eqKinds Try.prog 62 = none := by kernel_rfl
@[simp] theorem k_guard62 : Try.prog.eqGuardType Try.prog.depth 62 = false := by kernel_rfl
@[simp] theorem k_zero62 : zeroAV Try.prog 62 = some (AV.v Value.nilFunc) := by kernel_rfl
@[simp] theorem k_ok63 : okT Try.prog 63 = true := by kernel_rfl
@[simp] theorem k_agg63 : aggB Try.prog 63 = false := by kernel_rfl
@[simp] theorem k_cells63 : Try.prog.cellsOf 63 = 1 := by kernel_rfl
@[simp] theorem k_bytes63 : Try.prog.bytesOf 63 = 8 := by kernel_rfl
@[simp] theorem k_eq63 : eqKinds Try.prog 63 = none := by kernel_rfl
@[simp] theorem k_guard63 : Try.prog.eqGuardType Try.prog.depth 63 = false := by kernel_rfl
@[simp] theorem k_zero63 : zeroAV Try.prog 63 = some (AV.v Value.nilFunc) := by kernel_rfl
@[simp] theorem k_ok64 : okT Try.prog 64 = true := by kernel_rfl
@[simp] theorem k_agg64 : aggB Try.prog 64 = false := by kernel_rfl
@[simp] theorem k_cells64 : Try.prog.cellsOf 64 = 1 := by kernel_rfl
@[simp] theorem k_bytes64 : Try.prog.bytesOf 64 = 8 := by kernel_rfl
@[simp] theorem k_eq64 : eqKinds Try.prog 64 = none := by kernel_rfl
@[simp] theorem k_guard64 : Try.prog.eqGuardType Try.prog.depth 64 = false := by kernel_rfl
@[simp] theorem k_zero64 : zeroAV Try.prog 64 = some (AV.v Value.nilFunc) := by kernel_rfl
@[simp] theorem k_ok65 : okT Try.prog 65 = true := by kernel_rfl
@[simp] theorem k_agg65 : aggB Try.prog 65 = false := by kernel_rfl
@[simp] theorem k_cells65 : Try.prog.cellsOf 65 = 1 := by kernel_rfl
@[simp] theorem k_bytes65 : Try.prog.bytesOf 65 = 8 := by kernel_rfl
@[simp] theorem k_eq65 : eqKinds Try.prog 65 = none := by kernel_rfl
@[simp] theorem k_guard65 : Try.prog.eqGuardType Try.prog.depth 65 = false := by kernel_rfl
@[simp] theorem k_zero65 : zeroAV Try.prog 65 = some (AV.v Value.nilFunc) := by kernel_rfl
@[simp] theorem k_ok66 : okT Try.prog 66 = true := by kernel_rfl
@[simp] theorem k_agg66 : aggB Try.prog 66 = false := by kernel_rfl
@[simp] theorem k_cells66 : Try.prog.cellsOf 66 = 1 := by kernel_rfl
@[simp] theorem k_bytes66 : Try.prog.bytesOf 66 = 8 := by kernel_rfl
@[simp] theorem k_eq66 : eqKinds Try.prog 66 = none := by kernel_rfl
@[simp] theorem k_guard66 : Try.prog.eqGuardType Try.prog.depth 66 = false := by kernel_rfl
@[simp] theorem k_zero66 : zeroAV Try.prog 66 = some (AV.v Value.nilFunc) := by kernel_rfl
@[simp] theorem k_ok67 : okT Try.prog 67 = true := by kernel_rfl
@[simp] theorem k_agg67 : aggB Try.prog 67 = false := by kernel_rfl
@[simp] theorem k_cells67 : Try.prog.cellsOf 67 = 1 := by kernel_rfl
@[simp] theorem k_bytes67 : Try.prog.bytesOf 67 = 0 := by kernel_rfl
@[simp] theorem k_eq67 : eqKinds Try.prog 67 = none := by kernel_rfl
@[simp] theorem k_guard67 : Try.prog.eqGuardType Try.prog.depth 67 = false := by kernel_rfl
@[simp] theorem k_zero67 : zeroAV Try.prog 67 = some AV.u := by kernel_rfl
@[simp] theorem k_ok68 : okT Try.prog 68 = true := by kernel_rfl
@[simp] theorem k_agg68 : aggB Try.prog 68 = false := by kernel_rfl
@[simp] theorem k_cells68 : Try.prog.cellsOf 68 = 1 := by kernel_rfl
@[simp] theorem k_bytes68 : Try.prog.bytesOf 68 = 8 := by kernel_rfl
@[simp] theorem k_eq68 : eqKinds Try.prog 68 = none := by kernel_rfl
@[simp] theorem k_guard68 : Try.prog.eqGuardType Try.prog.depth 68 = false := by kernel_rfl
@[simp] theorem k_zero68 : zeroAV Try.prog 68 = some (AV.v Value.nilFunc) := by kernel_rfl
@[simp] theorem k_ok69 : okT Try.prog 69 = true := by kernel_rfl
@[simp] theorem k_agg69 : aggB Try.prog 69 = false := by kernel_rfl
@[simp] theorem k_cells69 : Try.prog.cellsOf 69 = 1 := by kernel_rfl
@[simp] theorem k_bytes69 : Try.prog.bytesOf 69 = 8 := by kernel_rfl
@[simp] theorem k_eq69 : eqKinds Try.prog 69 = none := by kernel_rfl
@[simp] theorem k_guard69 : Try.prog.eqGuardType Try.prog.depth 69 = false := by kernel_rfl
@[simp] theorem k_zero69 : zeroAV Try.prog 69 = some (AV.v Value.nilFunc) := by kernel_rfl
@[simp] theorem k_ok70 : okT Try.prog 70 = true := by kernel_rfl
@[simp] theorem k_agg70 : aggB Try.prog 70 = false := by kernel_rfl
@[simp] theorem k_cells70 : Try.prog.cellsOf 70 = 1 := by kernel_rfl
@[simp] theorem k_bytes70 : Try.prog.bytesOf 70 = 8 := by kernel_rfl
@[simp] theorem k_eq70 : eqKinds Try.prog 70 = none := by kernel_rfl
@[simp] theorem k_guard70 : Try.prog.eqGuardType Try.prog.depth 70 = false := by kernel_rfl
@[simp] theorem k_zero70 : zeroAV Try.prog 70 = some (AV.v Value.nilFunc) := by kernel_rfl
@[simp] theorem k_ok71 : okT Try.prog 71 = true := by kernel_rfl
@[simp] theorem k_agg71 : aggB Try.prog 71 = false := by kernel_rfl
@[simp] theorem k_cells71 : Try.prog.cellsOf 71 = 1 := by kernel_rfl
@[simp] theorem k_bytes71 : Try.prog.bytesOf 71 = 8 := by kernel_rfl
@[simp] theorem k_eq71 : eqKinds Try.prog 71 = none := by kernel_rfl
@[simp] theorem k_guard71 : Try.prog.eqGuardType Try.prog.depth 71 = false := by kernel_rfl
@[simp] theorem k_zero71 : zeroAV Try.prog 71 = some (AV.v Value.nilFunc) := by kernel_rfl
@[simp] theorem k_ok72 : okT Try.prog 72 = true := by kernel_rfl
@[simp] theorem k_agg72 : aggB Try.prog 72 = false := by kernel_rfl
@[simp] theorem k_cells72 : Try.prog.cellsOf 72 = 1 := by kernel_rfl
@[simp] theorem k_bytes72 : Try.prog.bytesOf 72 = 8 := by kernel_rfl
@[simp] theorem k_eq72 : eqKinds Try.prog 72 = none := by kernel_rfl
@[simp] theorem k_guard72 : Try.prog.eqGuardType Try.prog.depth 72 = false := by kernel_rfl
@[simp] theorem k_zero72 : zeroAV Try.prog 72 = some (AV.v Value.nilFunc) := by kernel_rfl
@[simp] theorem k_ok73 : okT Try.prog 73 = true := by kernel_rfl
@[simp] theorem k_agg73 : aggB Try.prog 73 = false := by kernel_rfl
@[simp] theorem k_cells73 : Try.prog.cellsOf 73 = 1 := by kernel_rfl
@[simp] theorem k_bytes73 : Try.prog.bytesOf 73 = 8 := by kernel_rfl
@[simp] theorem k_eq73 : eqKinds Try.prog 73 = none := by kernel_rfl
@[simp] theorem k_guard73 : Try.prog.eqGuardType Try.prog.depth 73 = false := by kernel_rfl
@[simp] theorem k_zero73 : zeroAV Try.prog 73 = some (AV.v Value.nilFunc) := by kernel_rfl
@[simp] theorem k_ok74 : okT Try.prog 74 = true := by kernel_rfl
@[simp] theorem k_agg74 : aggB Try.prog 74 = false := by kernel_rfl
@[simp] theorem k_cells74 : Try.prog.cellsOf 74 = 1 := by kernel_rfl
@[simp] theorem k_bytes74 : Try.prog.bytesOf 74 = 8 := by kernel_rfl
@[simp] theorem k_eq74 : eqKinds Try.prog 74 = some [SK.i] := by kernel_rfl
@[simp] theorem k_guard74 : Try.prog.eqGuardType Try.prog.depth 74 = false := by kernel_rfl
@[simp] theorem k_zero74 : zeroAV Try.prog 74 = some (AV.v (Value.int IntKind.u64 0)) := by kernel_rfl
@[simp] theorem k_ok75 : okT Try.prog 75 = true := by kernel_rfl
@[simp] theorem k_agg75 : aggB Try.prog 75 = false := by kernel_rfl
@[simp] theorem k_cells75 : Try.prog.cellsOf 75 = 1 := by kernel_rfl
@[simp] theorem k_bytes75 : Try.prog.bytesOf 75 = 24 := by kernel_rfl
@[simp] theorem k_eq75 : eqKinds Try.prog 75 = none := by kernel_rfl
@[simp] theorem k_guard75 : Try.prog.eqGuardType Try.prog.depth 75 = false := by kernel_rfl
@[simp] theorem k_zero75 : zeroAV Try.prog 75 = some (AV.v (Value.slice none 0 0)) := by kernel_rfl
@[simp] theorem k_ok76 : okT Try.prog 76 = true := by kernel_rfl
@[simp] theorem k_agg76 : aggB Try.prog 76 = false := by kernel_rfl
@[simp] theorem k_cells76 : Try.prog.cellsOf 76 = 1 := by kernel_rfl
@[simp] theorem k_bytes76 : Try.prog.bytesOf 76 = 8 := by kernel_rfl
@[simp] theorem k_eq76 : eqKinds Try.prog 76 = none := by kernel_rfl
@[simp] theorem k_guard76 : Try.prog.eqGuardType Try.prog.depth 76 = false := by kernel_rfl
@[simp] theorem k_zero76 : zeroAV Try.prog 76 = some (AV.v Value.nilFunc) := by kernel_rfl
@[simp] theorem k_ok77 : okT Try.prog 77 = true := by kernel_rfl
@[simp] theorem k_agg77 : aggB Try.prog 77 = false := by kernel_rfl
@[simp] theorem k_cells77 : Try.prog.cellsOf 77 = 1 := by kernel_rfl
@[simp] theorem k_bytes77 : Try.prog.bytesOf 77 = 8 := by kernel_rfl
@[simp] theorem k_eq77 : eqKinds Try.prog 77 = none := by kernel_rfl
@[simp] theorem k_guard77 : Try.prog.eqGuardType Try.prog.depth 77 = false := by kernel_rfl
@[simp] theorem k_zero77 : zeroAV Try.prog 77 = some (AV.v Value.nilFunc) := by kernel_rfl
@[simp] theorem k_ok78 : okT Try.prog 78 = true := by kernel_rfl
@[simp] theorem k_agg78 : aggB Try.prog 78 = false := by kernel_rfl
@[simp] theorem k_cells78 : Try.prog.cellsOf 78 = 1 := by kernel_rfl
@[simp] theorem k_bytes78 : Try.prog.bytesOf 78 = 8 := by kernel_rfl
@[simp] theorem k_eq78 : eqKinds Try.prog 78 = none := by kernel_rfl
@[simp] theorem k_guard78 : Try.prog.eqGuardType Try.prog.depth 78 = false := by kernel_rfl
@[simp] theorem k_zero78 : zeroAV Try.prog 78 = some (AV.v Value.nilFunc) := by kernel_rfl
@[simp] theorem k_ok79 : okT Try.prog 79 = true := by kernel_rfl
@[simp] theorem k_agg79 : aggB Try.prog 79 = false := by kernel_rfl
@[simp] theorem k_cells79 : Try.prog.cellsOf 79 = 1 := by kernel_rfl
@[simp] theorem k_bytes79 : Try.prog.bytesOf 79 = 8 := by kernel_rfl
@[simp] theorem k_eq79 : eqKinds Try.prog 79 = none := by kernel_rfl
@[simp] theorem k_guard79 : Try.prog.eqGuardType Try.prog.depth 79 = false := by kernel_rfl
@[simp] theorem k_zero79 : zeroAV Try.prog 79 = some (AV.v Value.nilFunc) := by kernel_rfl
@[simp] theorem k_ok80 : okT Try.prog 80 = true := by kernel_rfl
@[simp] theorem k_agg80 : aggB Try.prog 80 = false := by kernel_rfl
@[simp] theorem k_cells80 : Try.prog.cellsOf 80 = 1 := by kernel_rfl
@[simp] theorem k_bytes80 : Try.prog.bytesOf 80 = 8 := by kernel_rfl
@[simp] theorem k_eq80 : eqKinds Try.prog 80 = none := by kernel_rfl
@[simp] theorem k_guard80 : Try.prog.eqGuardType Try.prog.depth 80 = false := by kernel_rfl
@[simp] theorem k_zero80 : zeroAV Try.prog 80 = some (AV.v Value.nilFunc) := by kernel_rfl
@[simp] theorem k_ok81 : okT Try.prog 81 = true := by kernel_rfl
@[simp] theorem k_agg81 : aggB Try.prog 81 = false := by kernel_rfl
@[simp] theorem k_cells81 : Try.prog.cellsOf 81 = 1 := by kernel_rfl
@[simp] theorem k_bytes81 : Try.prog.bytesOf 81 = 8 := by kernel_rfl
@[simp] theorem k_eq81 : eqKinds Try.prog 81 = some [SK.i] := by kernel_rfl
@[simp] theorem k_guard81 : Try.prog.eqGuardType Try.prog.depth 81 = false := by kernel_rfl
@[simp] theorem k_zero81 : zeroAV Try.prog 81 = some (AV.v (Value.int IntKind.i64 0)) := by kernel_rfl
@[simp] theorem k_ok82 : okT Try.prog 82 = true := by kernel_rfl
@[simp] theorem k_agg82 : aggB Try.prog 82 = false := by kernel_rfl
@[simp] theorem k_cells82 : Try.prog.cellsOf 82 = 1 := by kernel_rfl
@[simp] theorem k_bytes82 : Try.prog.bytesOf 82 = 0 := by kernel_rfl
@[simp] theorem k_eq82 : eqKinds Try.prog 82 = none := by kernel_rfl
@[simp] theorem k_guard82 : Try.prog.eqGuardType Try.prog.depth 82 = false := by kernel_rfl
@[simp] theorem k_zero82 : zeroAV Try.prog 82 = some AV.u := by kernel_rfl
@[simp] theorem k_ok83 : okT Try.prog 83 = true := by kernel_rfl
@[simp] theorem k_agg83 : aggB Try.prog 83 = false := by kernel_rfl
@[simp] theorem k_cells83 : Try.prog.cellsOf 83 = 1 := by kernel_rfl
@[simp] theorem k_bytes83 : Try.prog.bytesOf 83 = 8 := by kernel_rfl
@[simp] theorem k_eq83 : eqKinds Try.prog 83 = none := by kernel_rfl
@[simp] theorem k_guard83 : Try.prog.eqGuardType Try.prog.depth 83 = false := by kernel_rfl
@[simp] theorem k_zero83 : zeroAV Try.prog 83 = some (AV.v Value.nilFunc) := by kernel_rfl
@[simp] theorem k_ok84 : okT Try.prog 84 = true := by kernel_rfl
@[simp] theorem k_agg84 : aggB Try.prog 84 = false := by kernel_rfl
@[simp] theorem k_cells84 : Try.prog.cellsOf 84 = 1 := by kernel_rfl
@[simp] theorem k_bytes84 : Try.prog.bytesOf 84 = 8 := by kernel_rfl
@[simp] theorem k_eq84 : eqKinds Try.prog 84 = none := by kernel_rfl
@[simp] theorem k_guard84 : Try.prog.eqGuardType Try.prog.depth 84 = false := by kernel_rfl
@[simp] theorem k_zero84 : zeroAV Try.prog 84 = some (AV.v Value.nilFunc) := by kernel_rfl
@[simp] theorem k_ok85 : okT Try.prog 85 = true := by kernel_rfl
@[simp] theorem k_agg85 : aggB Try.prog 85 = false := by kernel_rfl
@[simp] theorem k_cells85 : Try.prog.cellsOf 85 = 1 := by kernel_rfl
@[simp] theorem k_bytes85 : Try.prog.bytesOf 85 = 8 := by kernel_rfl
@[simp] theorem k_eq85 : eqKinds Try.prog 85 = none := by kernel_rfl
@[simp] theorem k_guard85 : Try.prog.eqGuardType Try.prog.depth 85 = false := by kernel_rfl
@[simp] theorem k_zero85 : zeroAV Try.prog 85 = some (AV.v Value.nilFunc) := by kernel_rfl
@[simp] theorem k_ok86 : okT Try.prog 86 = true := by kernel_rfl
@[simp] theorem k_agg86 : aggB Try.prog 86 = false := by kernel_rfl
@[simp] theorem k_cells86 : Try.prog.cellsOf 86 = 1 := by kernel_rfl
@[simp] theorem k_bytes86 : Try.prog.bytesOf 86 = 8 := by kernel_rfl
@[simp] theorem k_eq86 : eqKinds Try.prog 86 = none := by kernel_rfl
@[simp] theorem k_guard86 : Try.prog.eqGuardType Try.prog.depth 86 = false := by kernel_rfl
@[simp] theorem k_zero86 : zeroAV Try.prog 86 = some (AV.v Value.nilFunc) := by kernel_rfl
@[simp] theorem k_ok87 : okT Try.prog 87 = true := by kernel_rfl
@[simp] theorem k_agg87 : aggB Try.prog 87 = false := by kernel_rfl
@[simp] theorem k_cells87 : Try.prog.cellsOf 87 = 1 := by kernel_rfl
@[simp] theorem k_bytes87 : Try.prog.bytesOf 87 = 8 := by kernel_rfl
@[simp] theorem k_eq87 : eqKinds Try.prog 87 = none := by kernel_rfl
@[simp] theorem k_guard87 : Try.prog.eqGuardType Try.prog.depth 87 = false := by kernel_rfl
@[simp] theorem k_zero87 : zeroAV Try.prog 87 = some (AV.v Value.nilFunc) := by kernel_rfl
@[simp] theorem k_ok88 : okT Try.prog 88 = true := by kernel_rfl
@[simp] theorem k_agg88 : aggB Try.prog 88 = false := by kernel_rfl
@[simp] theorem k_cells88 : Try.prog.cellsOf 88 = 1 := by kernel_rfl
@[simp] theorem k_bytes88 : Try.prog.bytesOf 88 = 4 := by kernel_rfl
@[simp] theorem k_eq88 : eqKinds Try.prog 88 = some [SK.i] := by kernel_rfl
@[simp] theorem k_guard88 : Try.prog.eqGuardType Try.prog.depth 88 = false := by kernel_rfl
@[simp] theorem k_zero88 : zeroAV Try.prog 88 = some (AV.v (Value.int IntKind.u32 0)) := by kernel_rfl
@[simp] theorem k_ok89 : okT Try.prog 89 = true := by kernel_rfl
@[simp] theorem k_agg89 : aggB Try.prog 89 = false := by kernel_rfl
@[simp] theorem k_cells89 : Try.prog.cellsOf 89 = 1 := by kernel_rfl
@[simp] theorem k_bytes89 : Try.prog.bytesOf 89 = 8 := by kernel_rfl
@[simp] theorem k_eq89 : eqKinds Try.prog 89 = none := by kernel_rfl
@[simp] theorem k_guard89 : Try.prog.eqGuardType Try.prog.depth 89 = false := by kernel_rfl
@[simp] theorem k_zero89 : zeroAV Try.prog 89 = some (AV.v Value.nilFunc) := by kernel_rfl
@[simp] theorem k_ok90 : okT Try.prog 90 = true := by kernel_rfl
@[simp] theorem k_agg90 : aggB Try.prog 90 = false := by kernel_rfl
@[simp] theorem k_cells90 : Try.prog.cellsOf 90 = 1 := by kernel_rfl
@[simp] theorem k_bytes90 : Try.prog.bytesOf 90 = 8 := by kernel_rfl
@[simp] theorem k_eq90 : eqKinds Try.prog 90 = some [SK.i] := by kernel_rfl
@[simp] theorem k_guard90 : Try.prog.eqGuardType Try.prog.depth 90 = false := by kernel_rfl
@[simp] theorem k_zero90 : zeroAV Try.prog 90 = some (AV.v (Value.int IntKind.u64 0)) := by kernel_rfl
@[simp] theorem k_ok91 : okT Try.prog 91 = true := by kernel_rfl
@[simp] theorem k_agg91 : aggB Try.prog 91 = false := by kernel_rfl
@[simp] theorem k_cells91 : Try.prog.cellsOf 91 = 1 := by kernel_rfl
@[simp] theorem k_bytes91 : Try.prog.bytesOf 91 = 8 := by kernel_rfl
@[simp] theorem k_eq91 : eqKinds Try.prog 91 = none := by kernel_rfl
@[simp] theorem k_guard91 : Try.prog.eqGuardType Try.prog.depth 91 = false := by kernel_rfl
@[simp] theorem k_zero91 : zeroAV Try.prog 91 = some (AV.v Value.nilFunc) := by kernel_rfl
@[simp] theorem k_ok92 : okT Try.prog 92 = true := by kernel_rfl
@[simp] theorem k_agg92 : aggB Try.prog 92 = false := by kernel_rfl
@[simp] theorem k_cells92 : Try.prog.cellsOf 92 = 1 := by kernel_rfl
@[simp] theorem k_bytes92 : Try.prog.bytesOf 92 = 8 := by kernel_rfl
@[simp] theorem k_eq92 : eqKinds Try.prog 92 = none := by kernel_rfl
@[simp] theorem k_guard92 : Try.prog.eqGuardType Try.prog.depth 92 = false := by kernel_rfl
@[simp] theorem k_zero92 : zeroAV Try.prog 92 = some (AV.v Value.nilFunc) := by kernel_rfl
@[simp] theorem k_ok93 : okT Try.prog 93 = true := by kernel_rfl
@[simp] theorem k_agg93 : aggB Try.prog 93 = false := by kernel_rfl
@[simp] theorem k_cells93 : Try.prog.cellsOf 93 = 1 := by kernel_rfl
@[simp] theorem k_bytes93 : Try.prog.bytesOf 93 = 8 := by kernel_rfl
@[simp] theorem k_eq93 : eqKinds Try.prog 93 = none := by kernel_rfl
@[simp] theorem k_guard93 : Try.prog.eqGuardType Try.prog.depth 93 = false := by kernel_rfl
@[simp] theorem k_zero93 : zeroAV Try.prog 93 = some (AV.v Value.nilFunc) := by kernel_rfl
@[simp] theorem k_ok94 : okT Try.prog 94 = true := by kernel_rfl
@[simp] theorem k_agg94 : aggB Try.prog 94 = false := by kernel_rfl
@[simp] theorem k_cells94 : Try.prog.cellsOf 94 = 1 := by kernel_rfl
@[simp] theorem k_bytes94 : Try.prog.bytesOf 94 = 8 := by kernel_rfl
@[simp] theorem k_eq94 : eqKinds Try.prog 94 = none := by kernel_rfl
@[simp] theorem k_guard94 : Try.prog.eqGuardType Try.prog.depth 94 = false := by kernel_rfl
@[simp] theorem k_zero94 : zeroAV Try.prog 94 = some (AV.v Value.nilFunc) := by kernel_rfl
@[simp] theorem k_ok95 : okT Try.prog 95 = true := by kernel_rfl
@[simp] theorem k_agg95 : aggB Try.prog 95 = false := by kernel_rfl
@[simp] theorem k_cells95 : Try.prog.cellsOf 95 = 1 := by kernel_rfl
@[simp] theorem k_bytes95 : Try.prog.bytesOf 95 = 8 := by kernel_rfl
@[simp] theorem k_eq95 : eqKinds Try.prog 95 = none := by kernel_rfl
@[simp] theorem k_guard95 : Try.prog.eqGuardType Try.prog.depth 95 = false := by kernel_rfl
@[simp] theorem k_zero95 : zeroAV Try.prog 95 = some (AV.v Value.nilFunc) := by kernel_rfl
@[simp] theorem k_ok96 : okT Try.prog 96 = true := by kernel_rfl
@[simp] theorem k_agg96 : aggB Try.prog 96 = false := by kernel_rfl
@[simp] theorem k_cells96 : Try.prog.cellsOf 96 = 1 := by kernel_rfl
@[simp] theorem k_bytes96 : Try.prog.bytesOf 96 = 8 := by kernel_rfl
@[simp] theorem k_eq96 : eqKinds Try.prog 96 = none := by kernel_rfl
@[simp] theorem k_guard96 : Try.prog.eqGuardType Try.prog.depth 96 = false := by kernel_rfl
@[simp] theorem k_zero96 : zeroAV Try.prog 96 = some (AV.v Value.nilFunc) := by kernel_rfl
@[simp] theorem k_ok97 : okT Try.prog 97 = true := by kernel_rfl
@[simp] theorem k_agg97 : aggB Try.prog 97 = false := by kernel_rfl
@[simp] theorem k_cells97 : Try.prog.cellsOf 97 = 1 := by kernel_rfl
@[simp] theorem k_bytes97 : Try.prog.bytesOf 97 = 8 := by kernel_rfl
@[simp] theorem k_eq97 : eqKinds Try.prog 97 = none := by kernel_rfl
@[simp] theorem k_guard97 : Try.prog.eqGuardType Try.prog.depth 97 = false := by kernel_rfl
@[simp] theorem k_zero97 : zeroAV Try.prog 97 = some (AV.v Value.nilFunc) := by kernel_rfl
@[simp] theorem k_ok98 : okT Try.prog 98 = true := by kernel_rfl
@[simp] theorem k_agg98 : aggB Try.prog 98 = false := by kernel_rfl
@[simp] theorem k_cells98 : Try.prog.cellsOf 98 = 1 := by kernel_rfl
@[simp] theorem k_bytes98 : Try.prog.bytesOf 98 = 8 := by kernel_rfl
@[simp] theorem k_eq98 : eqKinds Try.prog 98 = some [SK.i] := by kernel_rfl
@[simp] theorem k_guard98 : Try.prog.eqGuardType Try.prog.depth 98 = false := by kernel_rfl
@[simp] theorem k_zero98 : zeroAV Try.prog 98 = some (AV.v (Value.int IntKind.u64 0)) := by kernel_rfl
@[simp] theorem k_ok99 : okT Try.prog 99 = true := by kernel_rfl
@[simp] theorem k_agg99 : aggB Try.prog 99 = false := by kernel_rfl
@[simp] theorem k_cells99 : Try.prog.cellsOf 99 = 1 := by kernel_rfl
@[simp] theorem k_bytes99 : Try.prog.bytesOf 99 = 8 := by kernel_rfl
@[simp] theorem k_eq99 : eqKinds Try.prog 99 = none := by kernel_rfl
@[simp] theorem k_guard99 : Try.prog.eqGuardType Try.prog.depth 99 = false := by kernel_rfl
@[simp] theorem k_zero99 : zeroAV Try.prog 99 = some (AV.v Value.nilFunc) := by kernel_rfl
@[simp] theorem k_ok100 : okT Try.prog 100 = true := by kernel_rfl
@[simp] theorem k_agg100 : aggB Try.prog 100 = false := by kernel_rfl
@[simp] theorem k_cells100 : Try.prog.cellsOf 100 = 1 := by kernel_rfl
@[simp] theorem k_bytes100 : Try.prog.bytesOf 100 = 8 := by kernel_rfl
@[simp] theorem k_eq100 : eqKinds Try.prog 100 = none := by kernel_rfl
@[simp] theorem k_guard100 : Try.prog.eqGuardType Try.prog.depth 100 = false := by kernel_rfl
@[simp] theorem k_zero100 : zeroAV Try.prog 100 = some (AV.v Value.nilFunc) := by kernel_rfl
@[simp] theorem k_ok101 : okT Try.prog 101 = true := by kernel_rfl
@[simp] theorem k_agg101 : aggB Try.prog 101 = false := by kernel_rfl
@[simp] theorem k_cells101 : Try.prog.cellsOf 101 = 1 := by kernel_rfl
@[simp] theorem k_bytes101 : Try.prog.bytesOf 101 = 8 := by kernel_rfl
@[simp] theorem k_eq101 : eqKinds Try.prog 101 = none := by kernel_rfl
@[simp] theorem k_guard101 : Try.prog.eqGuardType Try.prog.depth 101 = false := by kernel_rfl
@[simp] theorem k_zero101 : zeroAV Try.prog 101 = some (AV.v Value.nilFunc) := by kernel_rfl
@[simp] theorem k_ok102 : okT Try.prog 102 = true := by kernel_rfl
@[simp] theorem k_agg102 : aggB Try.prog 102 = false := by kernel_rfl
@[simp] theorem k_cells102 : Try.prog.cellsOf 102 = 1 := by kernel_rfl
@[simp] theorem k_bytes102 : Try.prog.bytesOf 102 = 8 := by kernel_rfl
@[simp] theorem k_eq102 : eqKinds Try.prog 102 = none := by kernel_rfl
@[simp] theorem k_guard102 : Try.prog.eqGuardType Try.prog.depth 102 = false := by kernel_rfl
@[simp] theorem k_zero102 : zeroAV Try.prog 102 = some (AV.v (Value.pointer none)) := by kernel_rfl
@[simp] theorem k_ok103 : okT Try.prog 103 = true := by kernel_rfl
@[simp] theorem k_agg103 : aggB Try.prog 103 = false := by kernel_rfl
@[simp] theorem k_cells103 : Try.prog.cellsOf 103 = 1 := by kernel_rfl
@[simp] theorem k_bytes103 : Try.prog.bytesOf 103 = 8 := by kernel_rfl
@[simp] theorem k_eq103 : eqKinds Try.prog 103 = none := by kernel_rfl
@[simp] theorem k_guard103 : Try.prog.eqGuardType Try.prog.depth 103 = false := by kernel_rfl
@[simp] theorem k_zero103 : zeroAV Try.prog 103 = some (AV.v Value.nilFunc) := by kernel_rfl
@[simp] theorem k_ok104 : okT Try.prog 104 = true := by kernel_rfl
@[simp] theorem k_agg104 : aggB Try.prog 104 = false := by kernel_rfl
@[simp] theorem k_cells104 : Try.prog.cellsOf 104 = 1 := by kernel_rfl
@[simp] theorem k_bytes104 : Try.prog.bytesOf 104 = 8 := by kernel_rfl
@[simp] theorem k_eq104 : eqKinds Try.prog 104 = none := by kernel_rfl
@[simp] theorem k_guard104 : Try.prog.eqGuardType Try.prog.depth 104 = false := by kernel_rfl
@[simp] theorem k_zero104 : zeroAV Try.prog 104 = some (AV.v Value.nilFunc) := by kernel_rfl
@[simp] theorem k_ok105 : okT Try.prog 105 = true := by kernel_rfl
@[simp] theorem k_agg105 : aggB Try.prog 105 = false := by kernel_rfl
@[simp] theorem k_cells105 : Try.prog.cellsOf 105 = 1 := by kernel_rfl
@[simp] theorem k_bytes105 : Try.prog.bytesOf 105 = 8 := by kernel_rfl
@[simp] theorem k_eq105 : eqKinds Try.prog 105 = none := by kernel_rfl
@[simp] theorem k_guard105 : Try.prog.eqGuardType Try.prog.depth 105 = false := by kernel_rfl
@[simp] theorem k_zero105 : zeroAV Try.prog 105 = some (AV.v Value.nilFunc) := by kernel_rfl
@[simp] theorem k_ok106 : okT Try.prog 106 = true := by kernel_rfl
@[simp] theorem k_agg106 : aggB Try.prog 106 = false := by kernel_rfl
@[simp] theorem k_cells106 : Try.prog.cellsOf 106 = 1 := by kernel_rfl
@[simp] theorem k_bytes106 : Try.prog.bytesOf 106 = 8 := by kernel_rfl
@[simp] theorem k_eq106 : eqKinds Try.prog 106 = none := by kernel_rfl
@[simp] theorem k_guard106 : Try.prog.eqGuardType Try.prog.depth 106 = false := by kernel_rfl
@[simp] theorem k_zero106 : zeroAV Try.prog 106 = some (AV.v (Value.pointer none)) := by kernel_rfl
@[simp] theorem k_ok107 : okT Try.prog 107 = true := by kernel_rfl
@[simp] theorem k_agg107 : aggB Try.prog 107 = false := by kernel_rfl
@[simp] theorem k_cells107 : Try.prog.cellsOf 107 = 1 := by kernel_rfl
@[simp] theorem k_bytes107 : Try.prog.bytesOf 107 = 0 := by kernel_rfl
@[simp] theorem k_eq107 : eqKinds Try.prog 107 = none := by kernel_rfl
@[simp] theorem k_guard107 : Try.prog.eqGuardType Try.prog.depth 107 = false := by kernel_rfl
@[simp] theorem k_zero107 : zeroAV Try.prog 107 = some AV.u := by kernel_rfl
@[simp] theorem k_ok108 : okT Try.prog 108 = true := by kernel_rfl
@[simp] theorem k_agg108 : aggB Try.prog 108 = false := by kernel_rfl
@[simp] theorem k_cells108 : Try.prog.cellsOf 108 = 1 := by kernel_rfl
@[simp] theorem k_bytes108 : Try.prog.bytesOf 108 = 8 := by kernel_rfl
@[simp] theorem k_eq108 : eqKinds Try.prog 108 = none := by kernel_rfl
@[simp] theorem k_guard108 : Try.prog.eqGuardType Try.prog.depth 108 = false := by kernel_rfl
@[simp] theorem k_zero108 : zeroAV Try.prog 108 = some (AV.v Value.nilFunc) := by kernel_rfl
@[simp] theorem k_ok109 : okT Try.prog 109 = true := by kernel_rfl
@[simp] theorem k_agg109 : aggB Try.prog 109 = false := by kernel_rfl
@[simp] theorem k_cells109 : Try.prog.cellsOf 109 = 1 := by kernel_rfl
@[simp] theorem k_bytes109 : Try.prog.bytesOf 109 = 8 := by kernel_rfl
@[simp] theorem k_eq109 : eqKinds Try.prog 109 = none := by kernel_rfl
@[simp] theorem k_guard109 : Try.prog.eqGuardType Try.prog.depth 109 = false := by kernel_rfl
@[simp] theorem k_zero109 : zeroAV Try.prog 109 = some (AV.v Value.nilFunc) := by kernel_rfl
@[simp] theorem k_ok110 : okT Try.prog 110 = true := by kernel_rfl
@[simp] theorem k_agg110 : aggB Try.prog 110 = false := by kernel_rfl
@[simp] theorem k_cells110 : Try.prog.cellsOf 110 = 1 := by kernel_rfl
@[simp] theorem k_bytes110 : Try.prog.bytesOf 110 = 8 := by kernel_rfl
@[simp] theorem k_eq110 : eqKinds Try.prog 110 = none := by kernel_rfl
@[simp] theorem k_guard110 : Try.prog.eqGuardType Try.prog.depth 110 = false := by kernel_rfl
@[simp] theorem k_zero110 : zeroAV Try.prog 110 = some (AV.v Value.nilFunc) := by kernel_rfl
@[simp] theorem k_ok111 : okT Try.prog 111 = true := by kernel_rfl
@[simp] theorem k_agg111 : aggB Try.prog 111 = true := by kernel_rfl
@[simp] theorem k_cells111 : Try.prog.cellsOf 111 = 4 := by kernel_rfl
@[simp] theorem k_bytes111 : Try.prog.bytesOf 111 = 40 := by kernel_rfl
@[simp] theorem k_eq111 : eqKinds Try.prog 111 = none := by kernel_rfl
@[simp] theorem k_guard111 : Try.prog.eqGuardType Try.prog.depth 111 = false := by kernel_rfl
@[simp] theorem k_zero111 : zeroAV Try.prog 111 = some (AV.st [AV.v (Value.pointer none), AV.v (Value.pointer none), AV.v (Value.pointer none), AV.v (Value.string { data := { toList := [] } })]) := by kernel_rfl
@[simp] theorem k_ok112 : okT Try.prog 112 = true := by kernel_rfl
@[simp] theorem k_agg112 : aggB Try.prog 112 = true := by kernel_rfl
@[simp] theorem k_cells112 : Try.prog.cellsOf 112 = 4 := by kernel_rfl
@[simp] theorem k_bytes112 : Try.prog.bytesOf 112 = 40 := by kernel_rfl
@[simp] theorem k_eq112 : eqKinds Try.prog 112 = none := by kernel_rfl
@[simp] theorem k_guard112 : Try.prog.eqGuardType Try.prog.depth 112 = false := by kernel_rfl
@[simp] theorem k_zero112 : zeroAV Try.prog 112 = some (AV.st [AV.v (Value.pointer none), AV.v (Value.pointer none), AV.v (Value.pointer none), AV.v (Value.string { data := { toList := [] } })]) := by kernel_rfl
@[simp] theorem k_ok113 : okT Try.prog 113 = true := by kernel_rfl
@[simp] theorem k_agg113 : aggB Try.prog 113 = true := by kernel_rfl
@[simp] theorem k_cells113 : Try.prog.cellsOf 113 = 0 := by kernel_rfl
@[simp] theorem k_bytes113 : Try.prog.bytesOf 113 = 0 := by kernel_rfl
@[simp] theorem k_eq113 : eqKinds Try.prog 113 = none := by kernel_rfl
@[simp] theorem k_guard113 : Try.prog.eqGuardType Try.prog.depth 113 = false := by kernel_rfl
@[simp] theorem k_zero113 : zeroAV Try.prog 113 = some (AV.st []) := by kernel_rfl
@[simp] theorem k_ok114 : okT Try.prog 114 = true := by kernel_rfl
@[simp] theorem k_agg114 : aggB Try.prog 114 = true := by kernel_rfl
@[simp] theorem k_cells114 : Try.prog.cellsOf 114 = 0 := by kernel_rfl
@[simp] theorem k_bytes114 : Try.prog.bytesOf 114 = 0 := by kernel_rfl
@[simp] theorem k_eq114 : eqKinds Try.prog 114 = none := by kernel_rfl
@[simp] theorem k_guard114 : Try.prog.eqGuardType Try.prog.depth 114 = false := by kernel_rfl
@[simp] theorem k_zero114 : zeroAV Try.prog 114 = some (AV.st []) := by kernel_rfl
@[simp] theorem k_ok115 : okT Try.prog 115 = true := by kernel_rfl
@[simp] theorem k_agg115 : aggB Try.prog 115 = true := by kernel_rfl
@[simp] theorem k_cells115 : Try.prog.cellsOf 115 = 0 := by kernel_rfl
@[simp] theorem k_bytes115 : Try.prog.bytesOf 115 = 0 := by kernel_rfl
@[simp] theorem k_eq115 : eqKinds Try.prog 115 = none := by kernel_rfl
@[simp] theorem k_guard115 : Try.prog.eqGuardType Try.prog.depth 115 = false := by kernel_rfl
@[simp] theorem k_zero115 : zeroAV Try.prog 115 = some (AV.st []) := by kernel_rfl
@[simp] theorem k_ok116 : okT Try.prog 116 = true := by kernel_rfl
@[simp] theorem k_agg116 : aggB Try.prog 116 = false := by kernel_rfl
@[simp] theorem k_cells116 : Try.prog.cellsOf 116 = 1 := by kernel_rfl
@[simp] theorem k_bytes116 : Try.prog.bytesOf 116 = 8 := by kernel_rfl
@[simp] theorem k_eq116 : eqKinds Try.prog 116 = none := by kernel_rfl
@[simp] theorem k_guard116 : Try.prog.eqGuardType Try.prog.depth 116 = false := by kernel_rfl
@[simp] theorem k_zero116 : zeroAV Try.prog 116 = some (AV.v Value.nilFunc) := by kernel_rfl
@[simp] theorem k_ok117 : okT Try.prog 117 = true := by kernel_rfl
@[simp] theorem k_agg117 : aggB Try.prog 117 = false := by kernel_rfl
@[simp] theorem k_cells117 : Try.prog.cellsOf 117 = 1 := by kernel_rfl
@[simp] theorem k_bytes117 : Try.prog.bytesOf 117 = 1 := by kernel_rfl
@[simp] theorem k_eq117 : eqKinds Try.prog 117 = some [SK.i] := by kernel_rfl
@[simp] theorem k_guard117 : Try.prog.eqGuardType Try.prog.depth 117 = false := by kernel_rfl
@[simp] theorem k_zero117 : zeroAV Try.prog 117 = some (AV.v (Value.int IntKind.u8 0)) := by kernel_rfl
@[simp] theorem k_ok118 : okT Try.prog 118 = true := by kernel_rfl
@[simp] theorem k_agg118 : aggB Try.prog 118 = false := by kernel_rfl
@[simp] theorem k_cells118 : Try.prog.cellsOf 118 = 1 := by kernel_rfl
@[simp] theorem k_bytes118 : Try.prog.bytesOf 118 = 1 := by kernel_rfl
@[simp] theorem k_eq118 : eqKinds Try.prog 118 = some [SK.i] := by kernel_rfl
@[simp] theorem k_guard118 : Try.prog.eqGuardType Try.prog.depth 118 = false := by kernel_rfl
@[simp] theorem k_zero118 : zeroAV Try.prog 118 = some (AV.v (Value.int IntKind.u8 0)) := by kernel_rfl
@[simp] theorem k_ok119 : okT Try.prog 119 = true := by kernel_rfl
@[simp] theorem k_agg119 : aggB Try.prog 119 = false := by kernel_rfl
@[simp] theorem k_cells119 : Try.prog.cellsOf 119 = 1 := by kernel_rfl
@[simp] theorem k_bytes119 : Try.prog.bytesOf 119 = 8 := by kernel_rfl
@[simp] theorem k_eq119 : eqKinds Try.prog 119 = none := by kernel_rfl
@[simp] theorem k_guard119 : Try.prog.eqGuardType Try.prog.depth 119 = false := by kernel_rfl
@[simp] theorem k_zero119 : zeroAV Try.prog 119 = some (AV.v Value.nilFunc) := by kernel_rfl
@[simp] theorem k_ok120 : okT Try.prog 120 = true := by kernel_rfl
@[simp] theorem k_agg120 : aggB Try.prog 120 = false := by kernel_rfl
@[simp] theorem k_cells120 : Try.prog.cellsOf 120 = 1 := by kernel_rfl
@[simp] theorem k_bytes120 : Try.prog.bytesOf 120 = 8 := by kernel_rfl
@[simp] theorem k_eq120 : eqKinds Try.prog 120 = none := by kernel_rfl
@[simp] theorem k_guard120 : Try.prog.eqGuardType Try.prog.depth 120 = false := by kernel_rfl
@[simp] theorem k_zero120 : zeroAV Try.prog 120 = some (AV.v (Value.pointer none)) := by kernel_rfl
@[simp] theorem k_ok121 : okT Try.prog 121 = true := by kernel_rfl
@[simp] theorem k_agg121 : aggB Try.prog 121 = false := by kernel_rfl
@[simp] theorem k_cells121 : Try.prog.cellsOf 121 = 1 := by kernel_rfl
@[simp] theorem k_bytes121 : Try.prog.bytesOf 121 = 4 := by kernel_rfl
@[simp] theorem k_eq121 : eqKinds Try.prog 121 = some [SK.i] := by kernel_rfl
@[simp] theorem k_guard121 : Try.prog.eqGuardType Try.prog.depth 121 = false := by kernel_rfl
@[simp] theorem k_zero121 : zeroAV Try.prog 121 = some (AV.v (Value.int IntKind.i32 0)) := by kernel_rfl
@[simp] theorem k_ok122 : okT Try.prog 122 = true := by kernel_rfl
@[simp] theorem k_agg122 : aggB Try.prog 122 = false := by kernel_rfl
@[simp] theorem k_cells122 : Try.prog.cellsOf 122 = 1 := by kernel_rfl
@[simp] theorem k_bytes122 : Try.prog.bytesOf 122 = 4 := by kernel_rfl
@[simp] theorem k_eq122 : eqKinds Try.prog 122 = some [SK.i] := by kernel_rfl
@[simp] theorem k_guard122 : Try.prog.eqGuardType Try.prog.depth 122 = false := by kernel_rfl
@[simp] theorem k_zero122 : zeroAV Try.prog 122 = some (AV.v (Value.int IntKind.i32 0)) := by kernel_rfl
@[simp] theorem k_ok123 : okT Try.prog 123 = true := by kernel_rfl
@[simp] theorem k_agg123 : aggB Try.prog 123 = true := by kernel_rfl
@[simp] theorem k_cells123 : Try.prog.cellsOf 123 = 11 := by kernel_rfl
@[simp] theorem k_bytes123 : Try.prog.bytesOf 123 = 48 := by kernel_rfl
@[simp] theorem k_eq123 : eqKinds Try.prog 123 = none := by kernel_rfl
@[simp] theorem k_guard123 : Try.prog.eqGuardType Try.prog.depth 123 = false := by kernel_rfl
@[simp] theorem k_zero123 : zeroAV Try.prog 123 = some (AV.st [AV.v (Value.int IntKind.u64 0), AV.v (Value.int IntKind.u64 0), AV.v (Value.int IntKind.u32 0), AV.v (Value.int IntKind.u8 0), AV.v (Value.int IntKind.u8 0), AV.v (Value.int IntKind.u8 0), AV.v (Value.int IntKind.u8 0), AV.v Value.nilFunc, AV.v (Value.pointer none), AV.v (Value.int IntKind.i32 0), AV.v (Value.int IntKind.i32 0)]) := by kernel_rfl
@[simp] theorem k_ok124 : okT Try.prog 124 = true := by kernel_rfl
@[simp] theorem k_agg124 : aggB Try.prog 124 = true := by kernel_rfl
@[simp] theorem k_cells124 : Try.prog.cellsOf 124 = 11 := by kernel_rfl
@[simp] theorem k_bytes124 : Try.prog.bytesOf 124 = 48 := by kernel_rfl
@[simp] theorem k_eq124 : eqKinds Try.prog 124 = none := by kernel_rfl
@[simp] theorem k_guard124 : Try.prog.eqGuardType Try.prog.depth 124 = false := by kernel_rfl
@[simp] theorem k_zero124 : zeroAV Try.prog 124 = some (AV.st [AV.v (Value.int IntKind.u64 0), AV.v (Value.int IntKind.u64 0), AV.v (Value.int IntKind.u32 0), AV.v (Value.int IntKind.u8 0), AV.v (Value.int IntKind.u8 0), AV.v (Value.int IntKind.u8 0), AV.v (Value.int IntKind.u8 0), AV.v Value.nilFunc, AV.v (Value.pointer none), AV.v (Value.int IntKind.i32 0), AV.v (Value.int IntKind.i32 0)]) := by kernel_rfl
@[simp] theorem k_ok125 : okT Try.prog 125 = true := by kernel_rfl
@[simp] theorem k_agg125 : aggB Try.prog 125 = false := by kernel_rfl
@[simp] theorem k_cells125 : Try.prog.cellsOf 125 = 1 := by kernel_rfl
@[simp] theorem k_bytes125 : Try.prog.bytesOf 125 = 8 := by kernel_rfl
@[simp] theorem k_eq125 : eqKinds Try.prog 125 = none := by kernel_rfl
@[simp] theorem k_guard125 : Try.prog.eqGuardType Try.prog.depth 125 = false := by kernel_rfl
@[simp] theorem k_zero125 : zeroAV Try.prog 125 = some (AV.v (Value.pointer none)) := by kernel_rfl
attribute [simp] Try.underlying0 Try.underlying1 Try.underlying2 Try.underlying3 Try.underlying4 Try.underlying5 Try.underlying6 Try.underlying7 Try.underlying8 Try.underlying9
attribute [simp] Try.underlying10 Try.underlying11 Try.underlying12 Try.underlying13 Try.underlying14 Try.underlying15 Try.underlying16 Try.underlying17 Try.underlying18 Try.underlying19
attribute [simp] Try.underlying20 Try.underlying21 Try.underlying22 Try.underlying23 Try.underlying24 Try.underlying25 Try.underlying26 Try.underlying27 Try.underlying28 Try.underlying29
attribute [simp] Try.underlying30 Try.underlying31 Try.underlying32 Try.underlying33 Try.underlying34 Try.underlying35 Try.underlying36 Try.underlying37 Try.underlying38 Try.underlying39
attribute [simp] Try.underlying40 Try.underlying41 Try.underlying42 Try.underlying43 Try.underlying44 Try.underlying45 Try.underlying46 Try.underlying47 Try.underlying48 Try.underlying49
attribute [simp] Try.underlying50 Try.underlying51 Try.underlying52 Try.underlying53 Try.underlying54 Try.underlying55 Try.underlying56 Try.underlying57 Try.underlying58 Try.underlying59
attribute [simp] Try.underlying60 Try.underlying61 Try.underlying62 Try.underlying63 Try.underlying64 Try.underlying65 Try.underlying66 Try.underlying67 Try.underlying68 Try.underlying69
attribute [simp] Try.underlying70 Try.underlying71 Try.underlying72 Try.underlying73 Try.underlying74 Try.underlying75 Try.underlying76 Try.underlying77 Try.underlying78 Try.underlying79
attribute [simp] Try.underlying80 Try.underlying81 Try.underlying82 Try.underlying83 Try.underlying84 Try.underlying85 Try.underlying86 Try.underlying87 Try.underlying88 Try.underlying89
attribute [simp] Try.underlying90 Try.underlying91 Try.underlying92 Try.underlying93 Try.underlying94 Try.underlying95 Try.underlying96 Try.underlying97 Try.underlying98 Try.underlying99
attribute [simp] Try.underlying100 Try.underlying101 Try.underlying102 Try.underlying103 Try.underlying104 Try.underlying105 Try.underlying106 Try.underlying107 Try.underlying108 Try.underlying109
attribute [simp] Try.underlying110 Try.underlying111 Try.underlying112 Try.underlying113 Try.underlying114 Try.underlying115 Try.underlying116 Try.underlying117 Try.underlying118 Try.underlying119
attribute [simp] Try.underlying120 Try.underlying121 Try.underlying122 Try.underlying123 Try.underlying124 Try.underlying125
theorem mixed : Try.prog.follows .mixedOrders = true := by kernel_rfl
end Go.Proofs.Ytmjckbokjjnmeaa
end
section
namespace Go.Proofs.Ytmjckbokjjnmeaa
open Go.Am
abbrev iA (n : Int) : AV := .v (.int .i64 n)
abbrev bA (b : Bool) : AV := .v (.bool b)
structure R where
  (o s v d t x y : Int)
  c : Bool
  deriving DecidableEq, Inhabited
def encR (r : R) : AV := .st [iA r.o, iA r.s, iA r.v, iA r.d, iA r.t, iA r.x, iA r.y, bA r.c]
@[simp] theorem encR_cells (r : R) : (encR r).cells = [iA r.o, iA r.s, iA r.v, iA r.d, iA r.t, iA r.x, iA r.y, bA r.c] := rfl
@[simp] theorem encR_isSt (r : R) : (encR r).isSt = true := rfl
@[simp] theorem encR_sto (r : R) : (encR r).sto = true := rfl
@[simp] theorem encR_one (r : R) : (encR r).one = false := rfl
@[simp] theorem encR_idf (r : R) : (encR r).idf = true := rfl
@[simp] theorem encR_flat (r : R) : (encR r).flat = true := rfl
@[simp] theorem encR_ment (d : Nat) (r : R) : (encR r).ment d = false := by simp [encR]
@[simp] theorem encR_ren (σ : Nat → Nat) (r : R) : (encR r).ren σ = encR r := by simp [encR]
@[simp] theorem encR_ids (r : R) : (encR r).ids = [] := by simp [encR]
@[simp] theorem encR_idsOf (r : R) : idsOf (encR r) = [] := by simp [encR]
theorem encR_eq {a b : R} : encR a = encR b ↔ a = b := by
  constructor
  · intro h
    cases a; cases b
    simp [encR] at h
    simp [h]
  · rintro rfl; rfl
/-- The fields in the order in which they are compared. -/
def fieldsR (r : R) : List Int := [r.o, r.s, r.v, r.t, r.x, r.y, r.d, if r.c then 1 else 0]
theorem eqA_R (a b : R) : eqA [SK.i, .i, .i, .i, .i, .i, .i, .b] (encR a).cells (encR b).cells = some (decide (a = b)) := by
  simp only [encR_cells, eqA, eqA1, if_true, Option.map_some]
  congr 1
  rw [Bool.eq_iff_iff]
  cases a
  cases b
  simp [and_assoc]
theorem qbin_eqR {a b : R} {xc yc : Bool} {cont : AV → Prop} : qbin Try.prog .eql 23 (encR a) (encR b) xc yc cont ↔ cont (.v (.bool (decide (a = b)))) := by
  have h := eqA_R a b
  simp only [encR_cells] at h
  simp only [qbin, encR, k_agg23, k_eq23, k_guard23, true_and, h]
theorem qbin_neR {a b : R} {xc yc : Bool} {cont : AV → Prop} : qbin Try.prog .neq 23 (encR a) (encR b) xc yc cont ↔ cont (.v (.bool (!decide (a = b)))) := by
  have h := eqA_R a b
  simp only [encR_cells] at h
  simp only [qbin, encR, k_agg23, k_eq23, k_guard23, true_and, h]
attribute [simp high] qbin_eqR qbin_neR

theorem getR {l : List R} {i : Nat} (h : i < l.length) : (l.map encR).getD i .u = encR l[i] := by
  simp [List.getD_eq_getElem?_getD, h]
theorem getI {l : List Int} {i : Nat} (h : i < l.length) : (l.map iA).getD i .u = iA l[i] := by
  simp [List.getD_eq_getElem?_getD, h]
@[simp] theorem idf_R (l : List R) : idfL (l.map encR) = true := by induction l with | nil => rfl | cons a l ih => simp [ih]
@[simp] theorem idf_I (l : List Int) : idfL (l.map iA) = true := by induction l with | nil => rfl | cons a l ih => simp [ih]
@[simp] theorem flat_R (l : List R) : flatL (l.map encR) = true := by induction l with | nil => rfl | cons a l ih => simp [ih]
@[simp] theorem flat_I (l : List Int) : flatL (l.map iA) = true := by induction l with | nil => rfl | cons a l ih => simp [ih]
@[simp] theorem ment_R (d : Nat) (l : List R) : mentL d (l.map encR) = false := by induction l with | nil => rfl | cons a l ih => simp [ih]
@[simp] theorem ment_I (d : Nat) (l : List Int) : mentL d (l.map iA) = false := by induction l with | nil => rfl | cons a l ih => simp [ih]
@[simp] theorem ids_R (l : List R) : idsA (l.map encR) = [] := by induction l with | nil => rfl | cons a l ih => simp [ih]
@[simp] theorem ids_I (l : List Int) : idsA (l.map iA) = [] := by induction l with | nil => rfl | cons a l ih => simp [ih]
@[simp] theorem ren_R (σ : Nat → Nat) (l : List R) : renL σ (l.map encR) = l.map encR := by induction l with | nil => rfl | cons a l ih => simp [ih]
@[simp] theorem ren_I (σ : Nat → Nat) (l : List Int) : renL σ (l.map iA) = l.map iA := by induction l with | nil => rfl | cons a l ih => simp [ih]
/-- A call, by its contract: the arguments as they are. -/
theorem call_same {P : Program} {f : FuncId} {args : List AV} {bf : Nat → Option Ct} {d : Option Tmp} {res : AV} {k : AV → Option Ct → Prop} (h : PSpec P f args res) (hi : idfL args = true) (hr : res.idf = true) (hc : k res none) : QCall P f args bf d k :=
  ⟨.inl ⟨args, res, (by
    have : ∀ l : List AV, idfL l = true → ViewL bf l l := by
      intro l
      induction l with
      | nil => intro _; trivial
      | cons x l ih =>
        intro h
        simp only [idfL, Bool.and_eq_true] at h
        exact ⟨.inl ⟨rfl, h.1⟩, ih h.2⟩
    exact this args hi), h, .inr ⟨rfl, hi, hr⟩, hc⟩⟩
/-- .. own rows seen as rows; a flat result. -/
theorem call_view {P : Program} {f : FuncId} {args ds : List AV} {bf : Nat → Option Ct} {d : Option Tmp} {res : AV} {k : AV → Option Ct → Prop} (h : PSpec P f ds res) (hv : ViewL bf args ds) (hr : res.flat = true) (hc : k res none) : QCall P f args bf d k :=
  ⟨.inl ⟨ds, res, hv, h, .inl hr, hc⟩⟩
/-- .. one new box. -/
theorem call_new {P : Program} {f : FuncId} {args ds : List AV} {bf : Nat → Option Ct} {t : Tmp} {mk : Nat → AV} {c : Ct} {k : AV → Option Ct → Prop} (h : NSpec P f ds mk c) (hv : ViewL bf args ds) (hc : ∀ (H H' : Heap) (ρ ρ' : Rho) (w : World) (bd : Bd), CtRep H ρ w bd c → CtRep H' ρ' w bd c) (hk : k (mk t) (some c)) : QCall P f args bf (some t) k :=
  ⟨.inr ⟨ds, mk, c, t, hv, h, rfl, .inl hc, hk⟩⟩
theorem viewL_same (bf : Nat → Option Ct) : ∀ l : List AV, idfL l = true → ViewL bf l l := by
  intro l
  induction l with
  | nil => intro _; trivial
  | cons x l ih =>
    intro h
    simp only [idfL, Bool.and_eq_true] at h
    exact ⟨.inl ⟨rfl, h.1⟩, ih h.2⟩
theorem acall_same {P : Program} {E : Env} {f : FuncId} {args : List AV} {s : AState} {d : Option Tmp} {res : AV} {K : AState → Prop} (h : PSpec P f args res) (hi : idfL args = true) (hr : res.idf = true) (hk : K (s.put d res)) : ACall P E f args s d K :=
  ACall_pure h (viewL_same _ _ hi) (.inr ⟨rfl, hi, hr⟩) hk
theorem acall_view {P : Program} {E : Env} {f : FuncId} {args ds : List AV} {s : AState} {d : Option Tmp} {res : AV} {K : AState → Prop} (h : PSpec P f ds res) (hv : ViewL s.box args ds) (hr : res.flat = true) (hk : K (s.put d res)) : ACall P E f args s d K :=
  ACall_pure h hv (.inl hr) hk
theorem QCall_congr' {P : Program} {f : FuncId} {args args' : List AV} {bf : Nat → Option Ct} {d : Option Tmp} {k : AV → Option Ct → Prop} (h : args = args') : QCall P f args bf d k = QCall P f args' bf d k := by rw [h]
theorem ACall_congr' {P : Program} {E : Env} {f : FuncId} {args args' : List AV} {s : AState} {d : Option Tmp} {K : AState → Prop} (h : args = args') : ACall P E f args s d K = ACall P E f args' s d K := by rw [h]
attribute [congr] QCall_congr' ACall_congr'
end Go.Proofs.Ytmjckbokjjnmeaa
end
section
namespace Go.Proofs.Ytmjckbokjjnmeaa
open Go.Am

theorem s36 (r : R) : PSpec Try.prog 36 [encR r] (.st ((fieldsR r).map iA)) := by
  refine PSpec_of Try.func36 rfl rfl (Nat.le_of_ble_eq_true rfl) (Nat.le_of_ble_eq_true rfl) ?_
  intro E hE
  refine AW_seq fun K hK => ?_
  refine AW_region (by rw [hE]; decide) ?_
  simp
  refine hK _ ?_
  clear hK
  refine AW_seq fun K hK => ?_
  refine AW_region (by rw [hE]; decide) ?_
  simp
  refine hK _ ?_
  clear hK
  refine AW_seq fun K hK => ?_
  refine AW_seq fun K hK => ?_
  refine AW_region (by rw [hE]; decide) ?_
  simp
  refine hK _ ?_
  clear hK
  refine AW_cond (t := r.c) (by simp) ?_ ?_
  · intro hc
    refine AW_region (by rw [hE]; decide) ?_
    simp
    refine hK _ ?_
    clear hK
    refine AW_seq fun K hK => ?_
    refine AW_region (by rw [hE]; decide) ?_
    simp
    refine hK _ ?_
    clear hK
    refine AW_ret ?_
    simp [hc, fieldsR]
  · intro hc
    refine AW_skip ?_
    simp
    refine hK _ ?_
    clear hK
    refine AW_seq fun K hK => ?_
    refine AW_region (by rw [hE]; decide) ?_
    simp
    refine hK _ ?_
    clear hK
    refine AW_ret ?_
    simp [hc, fieldsR]

theorem s38 (r : R) : PSpec Try.prog 38 [encR r] (.st ((fieldsR r).map iA)) := by
  refine PSpec_of Try.func38 rfl rfl (Nat.le_of_ble_eq_true rfl) (Nat.le_of_ble_eq_true rfl) ?_
  intro E hE
  refine AW_seq fun K hK => ?_
  refine AW_region (by rw [hE]; decide) ?_
  simp
  refine hK _ ?_
  clear hK
  refine AW_seq fun K hK => ?_
  refine AW_region (by rw [hE]; decide) ?_
  simp
  refine hK _ ?_
  clear hK
  refine AW_seq fun K hK => ?_
  refine AW_seq fun K hK => ?_
  refine AW_region (by rw [hE]; decide) ?_
  simp
  refine hK _ ?_
  clear hK
  refine AW_cond (t := r.c) (by simp) ?_ ?_
  · intro hc
    refine AW_region (by rw [hE]; decide) ?_
    simp
    refine hK _ ?_
    clear hK
    refine AW_seq fun K hK => ?_
    refine AW_region (by rw [hE]; decide) ?_
    simp
    refine hK _ ?_
    clear hK
    refine AW_ret ?_
    simp [hc, fieldsR]
  · intro hc
    refine AW_skip ?_
    simp
    refine hK _ ?_
    clear hK
    refine AW_seq fun K hK => ?_
    refine AW_region (by rw [hE]; decide) ?_
    simp
    refine hK _ ?_
    clear hK
    refine AW_ret ?_
    simp [hc, fieldsR]

theorem s40 (r : R) : PSpec Try.prog 40 [encR r] (.st [iA r.o, iA r.s]) := by
  refine PSpec_of Try.func40 rfl rfl (Nat.le_of_ble_eq_true rfl) (Nat.le_of_ble_eq_true rfl) ?_
  intro E hE
  refine AW_seq fun K hK => ?_
  refine AW_region (by rw [hE]; decide) ?_
  simp
  refine hK _ ?_
  clear hK
  refine AW_seq fun K hK => ?_
  refine AW_region (by rw [hE]; decide) ?_
  simp
  refine hK _ ?_
  clear hK
  refine AW_ret ?_
  simp

theorem s62 (a : Int) : PSpec Try.prog 62 [iA a] (bA false) := by
  refine PSpec_of Try.func62 rfl rfl (Nat.le_of_ble_eq_true rfl) (Nat.le_of_ble_eq_true rfl) ?_
  intro E hE
  refine AW_seq fun K hK => ?_
  refine AW_region (by rw [hE]; decide) ?_
  simp
  refine hK _ ?_
  clear hK
  refine AW_seq fun K hK => ?_
  refine AW_region (by rw [hE]; decide) ?_
  simp
  refine hK _ ?_
  clear hK
  refine AW_ret ?_
  simp

def cmpI (a b : Int) : Int := if a < b then -1 else if b < a then 1 else 0

theorem s53 (a b : Int) : PSpec Try.prog 53 [iA a, iA b] (iA (cmpI a b)) := by
  refine PSpec_of Try.func53 rfl rfl (Nat.le_of_ble_eq_true rfl) (Nat.le_of_ble_eq_true rfl) ?_
  intro E hE
  refine AW_seq fun K hK => ?_
  refine AW_region (by rw [hE]; decide) ?_
  simp
  refine hK _ ?_
  clear hK
  refine AW_seq fun K hK => ?_
  refine AW_region (by rw [hE]; decide) ?_
  simp
  refine acall_same (s62 a) rfl rfl ?_
  simp
  refine hK _ ?_
  clear hK
  refine AW_seq fun K hK => ?_
  refine AW_region (by rw [hE]; decide) ?_
  simp
  refine acall_same (s62 b) rfl rfl ?_
  simp
  refine hK _ ?_
  clear hK
  refine AW_seq fun K hK => ?_
  refine AW_seq fun K hK => ?_
  refine AW_region (by rw [hE]; decide) ?_
  simp
  refine hK _ ?_
  clear hK
  refine AW_cond (t := false) (by simp) ?_ ?_
  · intro h; cases h
  intro _
  refine AW_skip ?_
  simp
  refine hK _ ?_
  clear hK
  refine AW_seq fun K hK => ?_
  refine AW_seq fun K hK => ?_
  refine AW_region (by rw [hE]; decide) ?_
  simp
  refine hK _ ?_
  clear hK
  refine AW_cond (t := false) (by simp) ?_ ?_
  · intro h; cases h
  intro _
  refine AW_skip ?_
  simp
  refine hK _ ?_
  clear hK
  refine AW_seq fun K hK => ?_
  refine AW_seq fun K hK => ?_
  refine AW_region (by rw [hE]; decide) ?_
  simp
  refine hK _ ?_
  clear hK
  refine AW_cond (t := decide (a < b)) (by simp) ?_ ?_
  · intro h
    refine AW_seq fun K hK => ?_
    refine AW_region (by rw [hE]; decide) ?_
    simp
    refine hK _ ?_
    clear hK
    refine AW_ret ?_
    simp [cmpI, of_decide_eq_true h]
  intro h1
  have h1 := of_decide_eq_false h1
  refine AW_skip ?_
  simp
  refine hK _ ?_
  clear hK
  refine AW_seq fun K hK => ?_
  refine AW_seq fun K hK => ?_
  refine AW_region (by rw [hE]; decide) ?_
  simp
  refine hK _ ?_
  clear hK
  refine AW_cond (t := decide (b < a)) (by simp) ?_ ?_
  · intro h
    refine AW_seq fun K hK => ?_
    refine AW_region (by rw [hE]; decide) ?_
    simp
    refine hK _ ?_
    clear hK
    refine AW_ret ?_
    simp [cmpI, h1, of_decide_eq_true h]
  intro h2
  have h2 := of_decide_eq_false h2
  refine AW_skip ?_
  simp
  refine hK _ ?_
  clear hK
  refine AW_seq fun K hK => ?_
  refine AW_region (by rw [hE]; decide) ?_
  simp
  refine hK _ ?_
  clear hK
  refine AW_ret ?_
  simp [cmpI, h1, h2]

end Go.Proofs.Ytmjckbokjjnmeaa
end
section
namespace Go.Proofs.Ytmjckbokjjnmeaa
open Go.Am

def cmpL : List Int → List Int → Int
  | [], [] => 0
  | [], _ :: _ => -1
  | _ :: _, [] => 1
  | a :: l, b :: m => if cmpI a b ≠ 0 then cmpI a b else cmpL l m

theorem cmpL_drop {l m : List Int} {i : Nat} (h1 : i < l.length) (h2 : i < m.length) : cmpL (l.drop i) (m.drop i) = if cmpI l[i] m[i] ≠ 0 then cmpI l[i] m[i] else cmpL (l.drop (i + 1)) (m.drop (i + 1)) := by
  rw [List.drop_eq_getElem_cons h1, List.drop_eq_getElem_cons h2]
  rfl

theorem s37 (l m : List Int) (hl : l.length < 4611686018427387904) : PSpec Try.prog 37 [.sl 1 (l.map iA), .sl 1 (m.map iA)] (iA (cmpL l m)) := by
  refine PSpec_of Try.func37 rfl rfl (Nat.le_of_ble_eq_true rfl) (Nat.le_of_ble_eq_true rfl) ?_
  intro E hE
  refine AW_seq fun K hK => ?_
  refine AW_region (by rw [hE]; decide) ?_
  simp
  refine hK _ ?_
  clear hK
  refine AW_seq fun K hK => ?_
  refine AW_seq fun K hK => ?_
  refine AW_region (by rw [hE]; decide) ?_
  simp
  refine hK _ ?_
  clear hK
  refine AW_block ?_
  refine AW_loop (G := Nat) (fun i => ⟨[(11, iA i), (10, iA l.length), (9, .sl 1 (l.map iA)), (1, .sl 1 (m.map iA)), (0, .sl 1 (l.map iA))], []⟩)
    (fun i => i ≤ l.length ∧ i ≤ m.length ∧ cmpL (l.drop i) (m.drop i) = cmpL l m) (fun i => l.length - i) 0 ⟨Nat.zero_le _, Nat.zero_le _, rfl⟩ (by simp) ?_
  rintro i ⟨hi1, hi2, heq⟩
  refine AW_seq fun K hK => ?_
  refine AW_region (by rw [hE]; decide) ?_
  simp
  refine hK _ ?_
  clear hK
  refine AW_seq fun K1 hK1 => ?_
  refine AW_cond (t := decide ((i : Int) < l.length)) (by simp) ?_ ?_
  · intro hlt
    have hlt : i < l.length := by have := of_decide_eq_true hlt; omega
    refine AW_skip ?_
    simp
    refine hK1 _ ?_
    clear hK1
    refine AW_seq fun K2 hK2 => ?_
    refine AW_block ?_
    refine AW_seq fun K hK => ?_
    refine AW_region (by rw [hE]; decide) ?_
    simp [hlt]
    refine hK _ ?_
    clear hK
    refine AW_seq fun K hK => ?_
    refine AW_seq fun K hK => ?_
    refine AW_region (by rw [hE]; decide) ?_
    simp
    refine hK _ ?_
    clear hK
    refine AW_cond (t := decide ((m.length : Int) ≤ i)) (by simp) ?_ ?_
    · intro hge
      have hge := of_decide_eq_true hge
      refine AW_seq fun K hK => ?_
      refine AW_region (by rw [hE]; decide) ?_
      simp
      refine hK _ ?_
      clear hK
      refine AW_ret ?_
      simp
      have : i = m.length := by omega
      subst this
      rw [← heq, List.drop_length, List.drop_eq_getElem_cons hlt]
      rfl
    · intro hge
      have hge := of_decide_eq_false hge
      have hlt2 : i < m.length := by omega
      refine AW_skip ?_
      simp
      refine hK _ ?_
      clear hK
      refine AW_seq fun K hK => ?_
      refine AW_region (by rw [hE]; decide) ?_
      simp [hlt2]
      refine hK _ ?_
      clear hK
      refine AW_seq fun K hK => ?_
      refine AW_region (by rw [hE]; decide) ?_
      simp
      refine acall_same (s53 _ _) rfl rfl ?_
      simp
      refine hK _ ?_
      clear hK
      refine AW_seq fun K hK => ?_
      refine AW_region (by rw [hE]; decide) ?_
      simp
      refine hK _ ?_
      clear hK
      refine AW_cond (t := decide (cmpI l[i] m[i] ≠ 0)) (by simp) ?_ ?_
      · intro hc
        have hc := of_decide_eq_true hc
        refine AW_seq fun K hK => ?_
        refine AW_region (by rw [hE]; decide) ?_
        simp
        refine hK _ ?_
        clear hK
        refine AW_ret ?_
        simp
        rw [← heq, cmpL_drop hlt hlt2, if_pos hc]
      · intro hc
        have hc := of_decide_eq_false hc
        refine AW_skip ?_
        simp
        refine hK2 _ ?_
        refine AW_region (by rw [hE]; decide) ?_
        simp
        refine ⟨by omega, i + 1, ⟨by omega, by omega, ?_⟩, by omega, by simp⟩
        rw [← heq, cmpL_drop hlt hlt2, if_neg hc]
  · intro hlt
    have hlt := of_decide_eq_false hlt
    have hil : i = l.length := by omega
    refine AW_exit ?_
    simp
    refine hK _ ?_
    clear hK
    refine AW_seq fun K hK => ?_
    refine AW_seq fun K hK => ?_
    refine AW_region (by rw [hE]; decide) ?_
    simp
    refine hK _ ?_
    clear hK
    refine AW_cond (t := decide ((l.length : Int) < m.length)) (by simp) ?_ ?_
    · intro hlm
      have hlm := of_decide_eq_true hlm
      refine AW_seq fun K hK => ?_
      refine AW_region (by rw [hE]; decide) ?_
      simp
      refine hK _ ?_
      clear hK
      refine AW_ret ?_
      simp
      rw [← heq, hil, List.drop_length, List.drop_eq_getElem_cons (by omega)]
      rfl
    · intro hlm
      have hlm := of_decide_eq_false hlm
      refine AW_skip ?_
      simp
      refine hK _ ?_
      clear hK
      refine AW_seq fun K hK => ?_
      refine AW_region (by rw [hE]; decide) ?_
      simp
      refine hK _ ?_
      clear hK
      refine AW_ret ?_
      simp
      have : m.length = l.length := by omega
      rw [← heq, hil, List.drop_length, ← this, List.drop_length]
      rfl
end Go.Proofs.Ytmjckbokjjnmeaa
end
section
namespace Go.Proofs.Ytmjckbokjjnmeaa
open Go.Am
def cmpR (a b : R) : Int := cmpL (fieldsR a) (fieldsR b)
@[simp] theorem fieldsR_len (r : R) : (fieldsR r).length = 8 := rfl
theorem s13 (a b : R) : PSpec Try.prog 13 [encR a, encR b] (iA (cmpR a b)) := by
  refine PSpec_of Try.func13 rfl rfl (Nat.le_of_ble_eq_true rfl) (Nat.le_of_ble_eq_true rfl) ?_
  intro E hE
  refine AW_seq fun K hK => ?_
  refine AW_region (by rw [hE]; decide) ?_
  simp
  refine hK _ ?_
  clear hK
  refine AW_seq fun K hK => ?_
  refine AW_draw 6 mixed (by rw [hE]; decide) (by simp [newOK]) ?_
  simp
  refine call_same (s36 a) rfl rfl ?_
  simp
  refine call_same (s36 b) rfl rfl ?_
  simp
  refine ⟨by decide, ?_⟩
  refine hK _ ?_
  clear hK
  refine AW_seq fun K hK => ?_
  refine AW_draw 4 mixed (by rw [hE]; decide) (by simp [newOK]) ?_
  simp
  refine call_view (s37 (fieldsR a) (fieldsR b) (by simp)) ?_ rfl ?_
  · simp
  simp
  refine ⟨by decide, ?_⟩
  refine hK _ ?_
  clear hK
  refine AW_ret ?_
  simp [cmpR]

theorem s15 (a b : R) : PSpec Try.prog 15 [encR a, encR b] (iA (cmpR a b)) := by
  refine PSpec_of Try.func15 rfl rfl (Nat.le_of_ble_eq_true rfl) (Nat.le_of_ble_eq_true rfl) ?_
  intro E hE
  refine AW_seq fun K hK => ?_
  refine AW_region (by rw [hE]; decide) ?_
  simp
  refine hK _ ?_
  clear hK
  refine AW_seq fun K hK => ?_
  refine AW_draw 6 mixed (by rw [hE]; decide) (by simp [newOK]) ?_
  simp
  refine call_same (s38 a) rfl rfl ?_
  simp
  refine call_same (s38 b) rfl rfl ?_
  simp
  refine ⟨by decide, ?_⟩
  refine hK _ ?_
  clear hK
  refine AW_seq fun K0 hK0 => ?_
  refine AW_seq fun K hK => ?_
  refine AW_region (by rw [hE]; decide) ?_
  simp
  refine hK _ ?_
  clear hK
  refine AW_block ?_
  refine AW_loop (G := Nat) (fun i => ⟨[(7, iA i), (5, .loc 5 0), (6, .loc 6 0)], [(5, .box 52 (.st ((fieldsR a).map iA))), (6, .box 52 (.st ((fieldsR b).map iA)))]⟩)
    (fun i => i ≤ 8 ∧ cmpL ((fieldsR a).drop i) ((fieldsR b).drop i) = cmpR a b) (fun i => 8 - i) 0 ⟨by omega, rfl⟩ (by simp) ?_
  rintro i ⟨hi, heq⟩
  refine AW_seq fun K hK => ?_
  refine AW_seq fun K1 hK1 => ?_
  refine AW_region (by rw [hE]; decide) ?_
  simp
  refine hK1 _ ?_
  clear hK1
  refine AW_cond (t := decide ((i : Int) < 8)) (by simp) ?_ ?_
  · intro hlt
    have hlt : i < 8 := by have := of_decide_eq_true hlt; omega
    have ha : i < (fieldsR a).length := by rw [fieldsR_len]; exact hlt
    have hb : i < (fieldsR b).length := by rw [fieldsR_len]; exact hlt
    refine AW_skip ?_
    simp
    refine hK _ ?_
    clear hK
    refine AW_seq fun K2 hK2 => ?_
    refine AW_block ?_
    refine AW_seq fun K hK => ?_
    refine AW_seq fun K hK => ?_
    refine AW_draw 7 mixed (by rw [hE]; decide) (by simp [newOK]) ?_
    simp [hlt]
    repeat' apply And.intro
    all_goals try omega
    all_goals try decide
    refine hK _ ?_
    clear hK
    refine AW_cond (t := decide ((fieldsR a)[i]'ha < (fieldsR b)[i]'hb)) (by simp) ?_ ?_
    · intro h
      have h := of_decide_eq_true h
      refine AW_seq fun K hK => ?_
      refine AW_region (by rw [hE]; decide) ?_
      simp
      refine hK _ ?_
      clear hK
      refine AW_ret ?_
      simp
      rw [← heq, cmpL_drop ha hb]
      simp [cmpI, h]
    intro h1
    have h1 := of_decide_eq_false h1
    refine AW_skip ?_
    simp
    refine hK _ ?_
    clear hK
    refine AW_seq fun K hK => ?_
    refine AW_draw 7 mixed (by rw [hE]; decide) (by simp [newOK]) ?_
    simp [hlt]
    repeat' apply And.intro
    all_goals try omega
    all_goals try decide
    refine hK _ ?_
    clear hK
    refine AW_cond (t := decide ((fieldsR b)[i]'hb < (fieldsR a)[i]'ha)) (by simp) ?_ ?_
    · intro h
      have h := of_decide_eq_true h
      refine AW_seq fun K hK => ?_
      refine AW_region (by rw [hE]; decide) ?_
      simp
      refine hK _ ?_
      clear hK
      refine AW_ret ?_
      simp
      rw [← heq, cmpL_drop ha hb]
      simp [cmpI, h1, h]
    intro h2
    have h2 := of_decide_eq_false h2
    refine AW_skip ?_
    simp
    refine hK2 _ ?_
    refine AW_region (by rw [hE]; decide) ?_
    simp
    refine ⟨by omega, i + 1, ⟨by omega, ?_⟩, by omega, by simp⟩
    rw [← heq, cmpL_drop ha hb]
    simp [cmpI, h1, h2]
  · intro hlt
    have hlt := of_decide_eq_false hlt
    have : i = 8 := by omega
    subst this
    refine AW_exit ?_
    simp
    refine hK0 _ ?_
    refine AW_seq fun K hK => ?_
    refine AW_region (by rw [hE]; decide) ?_
    simp
    refine hK _ ?_
    clear hK
    refine AW_ret ?_
    simp
    rw [← heq]
    rfl
end Go.Proofs.Ytmjckbokjjnmeaa
end
section
namespace Go.Proofs.Ytmjckbokjjnmeaa
open Go.Am

theorem s20 (l : List R) (r : R) (hl : l.length < 4611686018427387904) : PSpec Try.prog 20 [.sl 8 (l.map encR), encR r] (bA (decide (r ∈ l))) := by
  refine PSpec_of Try.func20 rfl rfl (Nat.le_of_ble_eq_true rfl) (Nat.le_of_ble_eq_true rfl) ?_
  intro E hE
  refine AW_seq fun K hK => ?_
  refine AW_region (by rw [hE]; decide) ?_
  simp
  refine hK _ ?_
  clear hK
  refine AW_seq fun K0 hK0 => ?_
  refine AW_seq fun K hK => ?_
  refine AW_region (by rw [hE]; decide) ?_
  simp
  refine hK _ ?_
  clear hK
  refine AW_block ?_
  refine AW_loop (G := Nat) (fun i => ⟨[(5, iA i), (3, .loc 3 0), (0, .sl 8 (l.map encR))], [(3, .box 23 (encR r))]⟩)
    (fun i => i ≤ l.length ∧ r ∉ l.take i) (fun i => l.length - i) 0 ⟨Nat.zero_le _, by simp⟩ (by simp) ?_
  rintro i ⟨hi, hno⟩
  refine AW_seq fun K1 hK1 => ?_
  refine AW_seq fun K2 hK2 => ?_
  refine AW_region (by rw [hE]; decide) ?_
  simp
  refine hK2 _ ?_
  clear hK2
  refine AW_cond (t := decide (i < l.length)) (by simp) ?_ ?_
  · intro hlt
    have hlt := of_decide_eq_true hlt
    refine AW_skip ?_
    simp
    refine hK1 _ ?_
    clear hK1
    refine AW_seq fun K1 hK1 => ?_
    refine AW_block ?_
    refine AW_seq fun K hK => ?_
    refine AW_draw 6 mixed (by rw [hE]; decide) (by simp [newOK]) ?_
    simp [hlt]
    repeat' apply And.intro
    all_goals try omega
    all_goals try decide
    refine hK _ ?_
    clear hK
    refine AW_cond (t := decide (l[i] = r)) (by simp) ?_ ?_
    · intro h
      have h := of_decide_eq_true h
      refine AW_seq fun K hK => ?_
      refine AW_region (by rw [hE]; decide) ?_
      simp
      refine hK _ ?_
      clear hK
      refine AW_ret ?_
      simp
      rw [← h]
      exact List.getElem_mem hlt
    intro h
    have h := of_decide_eq_false h
    refine AW_skip ?_
    simp
    refine hK1 _ ?_
    refine AW_region (by rw [hE]; decide) ?_
    simp
    refine ⟨by omega, i + 1, ⟨by omega, ?_⟩, by omega, by simp⟩
    rw [List.take_succ_eq_append_getElem hlt, List.mem_append]
    simp [hno, Ne.symm h]
  · intro hlt
    have hlt := of_decide_eq_false hlt
    have : i = l.length := by omega
    subst this
    refine AW_exit ?_
    simp
    refine hK0 _ ?_
    refine AW_seq fun K hK => ?_
    refine AW_region (by rw [hE]; decide) ?_
    simp
    refine hK _ ?_
    clear hK
    refine AW_ret ?_
    simp
    rw [List.take_length] at hno
    exact hno

/-- slices.Index at reports: below zero, or a place. -/
theorem s57 (l : List R) (r : R) (hl : l.length < 4611686018427387904) : ∃ n : Int, (0 ≤ n ↔ r ∈ l) ∧ PSpec Try.prog 57 [.sl 8 (l.map encR), encR r] (iA n) := by
  refine ⟨if r ∈ l then l.idxOf r else -1, ?_, ?_⟩
  · split <;> simp_all
  refine PSpec_of Try.func57 rfl rfl (Nat.le_of_ble_eq_true rfl) (Nat.le_of_ble_eq_true rfl) ?_
  intro E hE
  refine AW_seq fun K hK => ?_
  refine AW_region (by rw [hE]; decide) ?_
  simp
  refine hK _ ?_
  clear hK
  refine AW_seq fun K0 hK0 => ?_
  refine AW_seq fun K hK => ?_
  refine AW_region (by rw [hE]; decide) ?_
  simp
  refine hK _ ?_
  clear hK
  refine AW_block ?_
  refine AW_loop (G := Nat) (fun i => ⟨[(8, iA i), (7, iA l.length), (3, .loc 3 0), (0, .sl 8 (l.map encR))], [(3, .box 23 (encR r))]⟩)
    (fun i => i ≤ l.length ∧ r ∉ l.take i) (fun i => l.length - i) 0 ⟨Nat.zero_le _, by simp⟩ (by simp) ?_
  rintro i ⟨hi, hno⟩
  refine AW_seq fun K1 hK1 => ?_
  refine AW_region (by rw [hE]; decide) ?_
  simp
  refine hK1 _ ?_
  clear hK1
  refine AW_seq fun K1 hK1 => ?_
  refine AW_cond (t := decide (i < l.length)) (by simp) ?_ ?_
  · intro hlt
    have hlt := of_decide_eq_true hlt
    refine AW_skip ?_
    simp
    refine hK1 _ ?_
    clear hK1
    refine AW_seq fun K1 hK1 => ?_
    refine AW_block ?_
    refine AW_seq fun K hK => ?_
    refine AW_region (by rw [hE]; decide) ?_
    simp
    refine hK _ ?_
    clear hK
    refine AW_seq fun K hK => ?_
    refine AW_draw 6 mixed (by rw [hE]; decide) (by simp [newOK]) ?_
    simp [hlt]
    repeat' apply And.intro
    all_goals try omega
    all_goals try decide
    refine hK _ ?_
    clear hK
    refine AW_cond (t := decide (r = l[i])) (by simp) ?_ ?_
    · intro h
      have h := of_decide_eq_true h
      refine AW_seq fun K hK => ?_
      refine AW_region (by rw [hE]; decide) ?_
      simp
      refine hK _ ?_
      clear hK
      refine AW_ret ?_
      simp
      have hm : r ∈ l := by rw [h]; exact List.getElem_mem hlt
      have hix : l.idxOf r = i := by
        conv => lhs; rw [← List.take_append_drop i l]
        rw [List.idxOf_append, if_neg hno, List.length_take, List.drop_eq_getElem_cons hlt, ← h, List.idxOf_cons_self]
        omega
      simp [hm, hix]
    intro h
    have h := of_decide_eq_false h
    refine AW_skip ?_
    simp
    refine hK1 _ ?_
    refine AW_region (by rw [hE]; decide) ?_
    simp
    refine ⟨by omega, i + 1, ⟨by omega, ?_⟩, by omega, by simp⟩
    rw [List.take_succ_eq_append_getElem hlt, List.mem_append]
    simp [hno, h]
  · intro hlt
    have hlt := of_decide_eq_false hlt
    have : i = l.length := by omega
    subst this
    refine AW_exit ?_
    simp
    refine hK0 _ ?_
    refine AW_seq fun K hK => ?_
    refine AW_region (by rw [hE]; decide) ?_
    simp
    refine hK _ ?_
    clear hK
    refine AW_ret ?_
    simp
    rw [List.take_length] at hno
    simp [hno]

theorem s45 (l : List R) (r : R) (hl : l.length < 4611686018427387904) : PSpec Try.prog 45 [.sl 8 (l.map encR), encR r] (bA (decide (r ∈ l))) := by
  obtain ⟨n, hn, hs⟩ := s57 l r hl
  refine PSpec_of Try.func45 rfl rfl (Nat.le_of_ble_eq_true rfl) (Nat.le_of_ble_eq_true rfl) ?_
  intro E hE
  refine AW_seq fun K hK => ?_
  refine AW_region (by rw [hE]; decide) ?_
  simp
  refine hK _ ?_
  clear hK
  refine AW_seq fun K hK => ?_
  refine AW_region (by rw [hE]; decide) ?_
  simp
  refine acall_same hs (by simp) rfl ?_
  simp
  refine hK _ ?_
  clear hK
  refine AW_ret ?_
  simp
  exact hn.symm

theorem s28 (l : List R) (r : R) (hl : l.length < 4611686018427387904) : PSpec Try.prog 28 [.sl 8 (l.map encR), encR r] (bA (decide (r ∈ l))) := by
  refine PSpec_of Try.func28 rfl rfl (Nat.le_of_ble_eq_true rfl) (Nat.le_of_ble_eq_true rfl) ?_
  intro E hE
  refine AW_seq fun K hK => ?_
  refine AW_region (by rw [hE]; decide) ?_
  simp
  refine hK _ ?_
  clear hK
  refine AW_seq fun K hK => ?_
  refine AW_region (by rw [hE]; decide) ?_
  simp
  refine acall_same (s45 l r hl) (by simp) rfl ?_
  simp
  refine hK _ ?_
  clear hK
  refine AW_ret ?_
  simp

theorem s17 (l m : List R) (hl : l.length < 4611686018427387904) : PSpec Try.prog 17 [.sl 8 (l.map encR), .sl 8 (m.map encR)] (bA (decide (l = m))) := by
  refine PSpec_of Try.func17 rfl rfl (Nat.le_of_ble_eq_true rfl) (Nat.le_of_ble_eq_true rfl) ?_
  intro E hE
  refine AW_seq fun K hK => ?_
  refine AW_region (by rw [hE]; decide) ?_
  simp
  refine hK _ ?_
  clear hK
  refine AW_seq fun K hK => ?_
  refine AW_seq fun K hK => ?_
  refine AW_region (by rw [hE]; decide) ?_
  simp
  refine hK _ ?_
  clear hK
  refine AW_cond (t := !decide ((l.length : Int) = m.length)) (by simp) ?_ ?_
  · intro h
    have h : l.length ≠ m.length := by simp at h; omega
    refine AW_seq fun K hK => ?_
    refine AW_region (by rw [hE]; decide) ?_
    simp
    refine hK _ ?_
    clear hK
    refine AW_ret ?_
    simp
    rintro rfl
    exact h rfl
  intro h
  have h : l.length = m.length := by simp at h; omega
  refine AW_skip ?_
  simp
  refine hK _ ?_
  clear hK
  refine AW_seq fun K0 hK0 => ?_
  refine AW_seq fun K hK => ?_
  refine AW_region (by rw [hE]; decide) ?_
  simp
  refine hK _ ?_
  clear hK
  refine AW_block ?_
  refine AW_loop (G := Nat) (fun i => ⟨[(5, iA i), (1, .sl 8 (m.map encR)), (0, .sl 8 (l.map encR))], []⟩)
    (fun i => i ≤ l.length ∧ l.take i = m.take i) (fun i => l.length - i) 0 ⟨Nat.zero_le _, by simp⟩ (by simp) ?_
  rintro i ⟨hi, heq⟩
  refine AW_seq fun K1 hK1 => ?_
  refine AW_seq fun K2 hK2 => ?_
  refine AW_region (by rw [hE]; decide) ?_
  simp
  refine hK2 _ ?_
  clear hK2
  refine AW_cond (t := decide (i < l.length)) (by simp) ?_ ?_
  · intro hlt
    have hlt := of_decide_eq_true hlt
    have hlm : i < m.length := by omega
    refine AW_skip ?_
    simp
    refine hK1 _ ?_
    clear hK1
    refine AW_seq fun K1 hK1 => ?_
    refine AW_block ?_
    refine AW_seq fun K hK => ?_
    refine AW_draw 9 mixed (by rw [hE]; decide) (by simp [newOK]) ?_
    simp [hlt, hlm]
    repeat' apply And.intro
    all_goals try omega
    all_goals try decide
    refine hK _ ?_
    clear hK
    refine AW_cond (t := !decide (l[i] = m[i])) (by simp) ?_ ?_
    · intro h
      refine AW_seq fun K hK => ?_
      refine AW_region (by rw [hE]; decide) ?_
      simp
      refine hK _ ?_
      clear hK
      refine AW_ret ?_
      simp
      rintro rfl
      simp at h
    intro h
    have h : l[i] = m[i] := by simpa using h
    refine AW_skip ?_
    simp
    refine hK1 _ ?_
    refine AW_region (by rw [hE]; decide) ?_
    simp
    refine ⟨by omega, i + 1, ⟨by omega, ?_⟩, by omega, by simp⟩
    rw [List.take_succ_eq_append_getElem hlt, List.take_succ_eq_append_getElem hlm, heq, h]
  · intro hlt
    have hlt := of_decide_eq_false hlt
    have : i = l.length := by omega
    subst this
    refine AW_exit ?_
    simp
    refine hK0 _ ?_
    refine AW_seq fun K hK => ?_
    refine AW_region (by rw [hE]; decide) ?_
    simp
    refine hK _ ?_
    clear hK
    refine AW_ret ?_
    simp
    rw [List.take_length, h, List.take_length] at heq
    exact heq

theorem s23 (l m : List Int) (hl : l.length < 4611686018427387904) : PSpec Try.prog 23 [.sl 1 (l.map iA), .sl 1 (m.map iA)] (bA (decide (l = m))) := by
  refine PSpec_of Try.func23 rfl rfl (Nat.le_of_ble_eq_true rfl) (Nat.le_of_ble_eq_true rfl) ?_
  intro E hE
  refine AW_seq fun K hK => ?_
  refine AW_region (by rw [hE]; decide) ?_
  simp
  refine hK _ ?_
  clear hK
  refine AW_seq fun K hK => ?_
  refine AW_seq fun K hK => ?_
  refine AW_region (by rw [hE]; decide) ?_
  simp
  refine hK _ ?_
  clear hK
  refine AW_cond (t := !decide ((l.length : Int) = m.length)) (by simp) ?_ ?_
  · intro h
    have h : l.length ≠ m.length := by simp at h; omega
    refine AW_seq fun K hK => ?_
    refine AW_region (by rw [hE]; decide) ?_
    simp
    refine hK _ ?_
    clear hK
    refine AW_ret ?_
    simp
    rintro rfl
    exact h rfl
  intro h
  have h : l.length = m.length := by simp at h; omega
  refine AW_skip ?_
  simp
  refine hK _ ?_
  clear hK
  refine AW_seq fun K0 hK0 => ?_
  refine AW_seq fun K hK => ?_
  refine AW_region (by rw [hE]; decide) ?_
  simp
  refine hK _ ?_
  clear hK
  refine AW_block ?_
  refine AW_loop (G := Nat) (fun i => ⟨[(5, iA i), (1, .sl 1 (m.map iA)), (0, .sl 1 (l.map iA))], []⟩)
    (fun i => i ≤ l.length ∧ l.take i = m.take i) (fun i => l.length - i) 0 ⟨Nat.zero_le _, by simp⟩ (by simp) ?_
  rintro i ⟨hi, heq⟩
  refine AW_seq fun K1 hK1 => ?_
  refine AW_seq fun K2 hK2 => ?_
  refine AW_region (by rw [hE]; decide) ?_
  simp
  refine hK2 _ ?_
  clear hK2
  refine AW_cond (t := decide (i < l.length)) (by simp) ?_ ?_
  · intro hlt
    have hlt := of_decide_eq_true hlt
    have hlm : i < m.length := by omega
    refine AW_skip ?_
    simp
    refine hK1 _ ?_
    clear hK1
    refine AW_seq fun K1 hK1 => ?_
    refine AW_block ?_
    refine AW_seq fun K hK => ?_
    refine AW_draw 9 mixed (by rw [hE]; decide) (by simp [newOK]) ?_
    simp [hlt, hlm]
    repeat' apply And.intro
    all_goals try omega
    all_goals try decide
    refine hK _ ?_
    clear hK
    refine AW_cond (t := !decide (l[i] = m[i])) (by simp) ?_ ?_
    · intro h
      refine AW_seq fun K hK => ?_
      refine AW_region (by rw [hE]; decide) ?_
      simp
      refine hK _ ?_
      clear hK
      refine AW_ret ?_
      simp
      rintro rfl
      simp at h
    intro h
    have h : l[i] = m[i] := by simpa using h
    refine AW_skip ?_
    simp
    refine hK1 _ ?_
    refine AW_region (by rw [hE]; decide) ?_
    simp
    refine ⟨by omega, i + 1, ⟨by omega, ?_⟩, by omega, by simp⟩
    rw [List.take_succ_eq_append_getElem hlt, List.take_succ_eq_append_getElem hlm, heq, h]
  · intro hlt
    have hlt := of_decide_eq_false hlt
    have : i = l.length := by omega
    subst this
    refine AW_exit ?_
    simp
    refine hK0 _ ?_
    refine AW_seq fun K hK => ?_
    refine AW_region (by rw [hE]; decide) ?_
    simp
    refine hK _ ?_
    clear hK
    refine AW_ret ?_
    simp
    rw [List.take_length, h, List.take_length] at heq
    exact heq

theorem s29 (a b c : Int) : PSpec Try.prog 29 [iA a, iA b, iA c] (bA (decide (b ≤ a ∧ a ≤ c))) := by
  refine PSpec_of Try.func29 rfl rfl (Nat.le_of_ble_eq_true rfl) (Nat.le_of_ble_eq_true rfl) ?_
  intro E hE
  refine AW_seq fun K hK => ?_
  refine AW_region (by rw [hE]; decide) ?_
  simp
  refine hK _ ?_
  clear hK
  refine AW_seq fun K hK => ?_
  refine AW_region (by rw [hE]; decide) ?_
  simp
  constructor
  · intro h
    refine hK _ ?_
    clear hK
    refine AW_ret ?_
    simp [h]
  · intro h
    refine hK _ ?_
    clear hK
    refine AW_ret ?_
    simp
    omega

end Go.Proofs.Ytmjckbokjjnmeaa
end
section
namespace Go.Proofs.Ytmjckbokjjnmeaa
open Go.Am

/-- The map, as the list of its values: the key of r is its object and number. -/
def encM (m : List R) : List (AV × AV) := m.map fun r => (.st [iA r.o, iA r.s], encR r)
def findM (a b : Int) : List R → Option R
  | [] => none
  | r :: m => if a = r.o ∧ b = r.s then some r else findM a b m
def updM (r : R) : List R → List R
  | [] => [r]
  | w :: m => if r.o = w.o ∧ r.s = w.s then r :: m else w :: updM r m

theorem encM_cons (r : R) (m : List R) : encM (r :: m) = (.st [iA r.o, iA r.s], encR r) :: encM m := rfl
@[simp] theorem encM_nil : encM [] = [] := rfl
@[simp] theorem encM_len (m : List R) : (encM m).length = m.length := by simp [encM]
theorem eqK (a b c d : Int) : eqA [SK.i, SK.i] [iA a, iA b] [iA c, iA d] = some (decide (a = c) && decide (b = d)) := by simp
@[simp] theorem findA_M (a b : Int) : ∀ m : List R, findA [SK.i, SK.i] (.st [iA a, iA b]) (encM m) = (findM a b m).map encR
  | [] => rfl
  | r :: m => by
    rw [encM_cons]
    simp only [findA, findM, cells_st, eqK, Option.some.injEq, Bool.and_eq_true, decide_eq_true_eq, findA_M a b m]
    split <;> rfl
@[simp] theorem keysOK_M (a b : Int) : ∀ m : List R, keysOK [SK.i, SK.i] true (.st [iA a, iA b]) (encM m)
  | [] => trivial
  | r :: m => by
    rw [encM_cons]
    simp only [keysOK, cells_st, eqK]
    exact ⟨⟨rfl, rfl, rfl⟩, keysOK_M a b m⟩
@[simp] theorem updA_M (r : R) : ∀ m : List R, updA [SK.i, SK.i] (.st [iA r.o, iA r.s]) (encR r) (encM m) = encM (updM r m)
  | [] => rfl
  | w :: m => by
    rw [encM_cons]
    simp only [updA, updM, cells_st, eqK, Option.some.injEq, Bool.and_eq_true, decide_eq_true_eq, updA_M r m]
    split
    · rename_i h
      rw [encM_cons]
    · rw [encM_cons]
@[simp] theorem mentP_M (d : Nat) (m : List R) : mentP d (encM m) = false := by
  induction m with
  | nil => rfl
  | cons r m ih => rw [encM_cons]; simp [ih]
theorem flat_M (m : List R) (H H' : Heap) (ρ ρ' : Rho) (w : World) (bd : Bd) (h : CtRep H ρ w bd (.map (encM m) none)) : CtRep H' ρ' w bd (.map (encM m) none) := by
  obtain ⟨b, cap, ents, clock, h1, h2, h3, h4, h5⟩ := h
  refine ⟨b, cap, ents, clock, h1, h2, ⟨h3.1, fun i c u hc hu => (h3.2 i c u hc hu).flat ?_⟩, ⟨h4.1, fun i c u hc hu => (h4.2 i c u hc hu).flat ?_⟩, h5⟩
  · have := List.mem_of_getElem? hc
    simp only [encM, List.map_map, List.mem_map, Function.comp_apply] at this
    obtain ⟨r, _, rfl⟩ := this
    rfl
  · have := List.mem_of_getElem? hc
    simp only [encM, List.map_map, List.mem_map, Function.comp_apply] at this
    obtain ⟨r, _, rfl⟩ := this
    rfl

def stepW (m : List R) (r : R) : List R := match findM r.o r.s m with
  | none => updM r m
  | some w => if 0 < cmpR r w then updM r m else m
def winM (l : List R) : List R := l.foldl stepW []

theorem take_fold {l : List R} {i : Nat} (h : i < l.length) : (l.take (i + 1)).foldl stepW [] = stepW ((l.take i).foldl stepW []) l[i] := by
  rw [List.take_succ_eq_append_getElem h, List.foldl_append]
  rfl

theorem m39 (l : List R) (hl : l.length < 4611686018427387904) : MSpec Try.prog 39 [.sl 8 (l.map encR)] [] (fun res bf => res = .mp 8 ∧ bf 8 = some (.map (encM (winM l)) none)) := by
  refine MSpec_of Try.func39 rfl rfl (Nat.le_of_ble_eq_true rfl) (Nat.le_of_ble_eq_true rfl) ?_
  intro E hE
  refine AW_seq fun K hK => ?_
  refine AW_region (by rw [hE]; decide) ?_
  simp
  refine hK _ ?_
  clear hK
  refine AW_seq fun K hK => ?_
  refine AW_region (by rw [hE]; decide) ?_
  simp
  refine hK _ ?_
  clear hK
  refine AW_seq fun K0 hK0 => ?_
  refine AW_seq fun K hK => ?_
  refine AW_region (by rw [hE]; decide) ?_
  simp
  refine hK _ ?_
  clear hK
  refine AW_block ?_
  refine AW_loop (G := Nat) (fun i => ⟨[(11, iA i), (10, iA l.length), (9, .sl 8 (l.map encR)), (3, .mp 8)], [(8, .map (encM ((l.take i).foldl stepW [])) none)]⟩)
    (fun i => i ≤ l.length) (fun i => l.length - i) 0 (Nat.zero_le _) (by simp) ?_
  intro i hi
  generalize hm : (l.take i).foldl stepW [] = m
  refine AW_seq fun K1 hK1 => ?_
  refine AW_region (by rw [hE]; decide) ?_
  simp
  refine hK1 _ ?_
  clear hK1
  refine AW_seq fun K1 hK1 => ?_
  refine AW_cond (t := decide (i < l.length)) (by simp) ?_ ?_
  · intro hlt
    have hlt := of_decide_eq_true hlt
    have hf := take_fold hlt
    rw [hm] at hf
    refine AW_skip ?_
    simp
    refine hK1 _ ?_
    clear hK1
    refine AW_seq fun K1 hK1 => ?_
    refine AW_block ?_
    refine AW_seq fun K hK => ?_
    refine AW_region (by rw [hE]; decide) ?_
    simp [hlt]
    refine hK _ ?_
    clear hK
    refine AW_seq fun K hK => ?_
    refine AW_region (by rw [hE]; decide) ?_
    simp
    refine acall_same (s40 _) (by simp) rfl ?_
    rcases hw : findM l[i].o l[i].s m with _ | w
    · simp [hw]
      refine hK _ ?_
      clear hK
      have hf : (l.take (i + 1)).foldl stepW [] = updM l[i] m := by rw [hf]; simp [stepW, hw]
      refine AW_seq fun K hK => ?_
      refine AW_region (by rw [hE]; decide) ?_
      simp
      refine hK _ ?_
      clear hK
      refine AW_cond (t := true) (by simp) ?_ ?_
      · intro _
        refine AW_draw 4 mixed (by rw [hE]; decide) (by simp [newOK]) ?_
        simp
        refine call_same (s40 _) (by simp) rfl ?_
        simp
        refine ⟨by decide, ?_⟩
        refine hK1 _ ?_
        refine AW_region (by rw [hE]; decide) ?_
        simp
        refine ⟨by omega, i + 1, by omega, by omega, ?_⟩
        simp [hf]
      · intro h; cases h
    · simp [hw]
      refine hK _ ?_
      clear hK
      refine AW_seq fun K hK => ?_
      refine AW_region (by rw [hE]; decide) ?_
      simp
      refine acall_same (s13 _ _) (by simp) rfl ?_
      simp
      refine hK _ ?_
      clear hK
      refine AW_cond (t := decide (0 < cmpR l[i] w)) (by simp) ?_ ?_
      · intro hc
        have hc := of_decide_eq_true hc
        have hf : (l.take (i + 1)).foldl stepW [] = updM l[i] m := by rw [hf]; simp [stepW, hw, hc]
        refine AW_draw 4 mixed (by rw [hE]; decide) (by simp [newOK]) ?_
        simp
        refine call_same (s40 _) (by simp) rfl ?_
        simp
        refine ⟨by decide, ?_⟩
        refine hK1 _ ?_
        refine AW_region (by rw [hE]; decide) ?_
        simp
        refine ⟨by omega, i + 1, by omega, by omega, ?_⟩
        simp [hf]
      · intro hc
        have hc := of_decide_eq_false hc
        have hf : (l.take (i + 1)).foldl stepW [] = m := by rw [hf]; simp [stepW, hw, hc]
        refine AW_skip ?_
        simp
        refine hK1 _ ?_
        refine AW_region (by rw [hE]; decide) ?_
        simp
        refine ⟨by omega, i + 1, by omega, by omega, ?_⟩
        simp [hf]
  · intro hlt
    have hlt := of_decide_eq_false hlt
    have : i = l.length := by omega
    subst this
    rw [List.take_length] at hm
    refine AW_exit ?_
    simp
    refine hK0 _ ?_
    refine AW_seq fun K hK => ?_
    refine AW_region (by rw [hE]; decide) ?_
    simp
    refine hK _ ?_
    clear hK
    refine AW_ret ?_
    simp
    rw [← hm]
    rfl

theorem MSpec.toN {P : Program} {f : FuncId} {args : List AV} {j : Nat} {es : List (AV × AV)} {st : Option (List Nat × Nat)} (h : MSpec P f args [] (fun res bf => res = .mp j ∧ bf j = some (.map es st))) (hm : ∀ d, mentP d es = false) : NSpec P f args .mp (.map es st) := by
  refine ⟨h.1, fun H w vs he hr => ?_⟩
  refine Calls.mono (h.2 H rho0 w vs he ⟨fun id c hc => by simp [lk] at hc, fun id c b cap hc => by simp [lk] at hc, fun id id' c c' b cap cap' hc => by simp [lk] at hc⟩ hr) ?_
  rintro e w' ⟨H', ρ', res, bf', v, rfl, ⟨rfl, hbf⟩, hle, hnew, hext, hB, hrep, hfr, _⟩
  have hno : ∀ b, ¬ OwnB rho0 (lk ([] : List (Nat × Ct))) b := by rintro b ⟨id, c, cap, hc, _⟩; simp [lk] at hc
  cases hrep with
  | mp hρ =>
    rename_i b cap
    have h1 := hB.apart j _ b cap hbf hρ
    have h2 := hB.rep j _ hbf
    rw [hρ] at h2
    have hb0 : w.heap.size ≤ b := h1.2.2.resolve_right (hno b)
    refine ⟨H', _, b, cap, rfl, hle, fun b' o u hu hu0 => (hnew b' o u hu hu0).resolve_right (hno b'), hext, fun G ρ d hd => .mp hd, fun ρ => ?_, hb0, h1.2.1, h1.1, FrameBut.below ⟨hfr.os, hfr.tape, hfr.output, hfr.size, fun k hk _ => hfr.block k hk (hno k)⟩⟩
    exact h2.mono H'.le_refl (fun d hd => by simp only [Ct.ment] at hd; rw [hm d] at hd; cases hd) (fun _ _ _ => rfl)

theorem n39 (l : List R) (hl : l.length < 4611686018427387904) : NSpec Try.prog 39 [.sl 8 (l.map encR)] .mp (.map (encM (winM l)) none) := MSpec.toN (m39 l hl) (fun d => mentP_M d _)
end Go.Proofs.Ytmjckbokjjnmeaa
end
section
namespace Go.Proofs.Ytmjckbokjjnmeaa
open Go.Am

def zeroR : R := ⟨0, 0, 0, 0, 0, 0, 0, false⟩
theorem encR_zero : encR zeroR = .st [.v (.int .i64 0), .v (.int .i64 0), .v (.int .i64 0), .v (.int .i64 0), .v (.int .i64 0), .v (.int .i64 0), .v (.int .i64 0), .v (.bool false)] := rfl
def statusR (l : List R) (r : R) : Int :=
  if r ∉ l then 0 else if (findM r.o r.s (winM l)).getD zeroR ≠ r then 2 else if r.c = true then 3 else 1

theorem s22 (l : List R) (r : R) (hl : l.length < 4611686018427387904) : PSpec Try.prog 22 [.sl 8 (l.map encR), encR r] (iA (statusR l r)) := by
  refine PSpec_of Try.func22 rfl rfl (Nat.le_of_ble_eq_true rfl) (Nat.le_of_ble_eq_true rfl) ?_
  intro E hE
  refine AW_seq fun K hK => ?_
  refine AW_region (by rw [hE]; decide) ?_
  simp
  refine hK _ ?_
  clear hK
  refine AW_seq fun K0 hK0 => ?_
  refine AW_seq fun K hK => ?_
  refine AW_draw 6 mixed (by rw [hE]; decide) (by simp [newOK]) ?_
  simp
  refine call_new (n39 l hl) (by simp) (flat_M _) ?_
  simp
  refine call_same (s40 r) rfl rfl ?_
  simp
  have fin : ∀ x : R, x = (findM r.o r.s (winM l)).getD zeroR → (∀ s', s'.le ⟨[(3, .loc 3 0), (5, .loc 5 0), (0, .sl 8 (l.map encR))], [(3, .box 23 (encR r)), (5, .box 23 (encR x))]⟩ → K s') := by
    intro x hx s' hs'
    refine hK _ ?_
    refine AW_le hs' ?_
    refine AW_block ?_
    refine AW_seq fun K2 hK2 => ?_
    refine AW_region (by rw [hE]; decide) ?_
    simp
    refine acall_same (s28 l r hl) (by simp) rfl ?_
    simp
    refine hK2 _ ?_
    clear hK2
    refine AW_cond (t := !decide (r ∈ l)) (by simp) ?_ ?_
    · intro h
      have h : r ∉ l := by simpa using h
      refine AW_seq fun K hK => ?_
      refine AW_region (by rw [hE]; decide) ?_
      simp
      refine hK _ ?_
      clear hK
      refine AW_ret ?_
      simp [h, statusR]
    intro h
    have h : r ∈ l := by simpa using h
    refine AW_seq fun K2 hK2 => ?_
    refine AW_region (by rw [hE]; decide) ?_
    simp
    refine hK2 _ ?_
    clear hK2
    refine AW_cond (t := !decide (x = r)) (by simp) ?_ ?_
    · intro h2
      have h2 : x ≠ r := by simpa using h2
      rw [hx] at h2
      refine AW_seq fun K hK => ?_
      refine AW_region (by rw [hE]; decide) ?_
      simp
      refine hK _ ?_
      clear hK
      refine AW_ret ?_
      simp [h, h2, statusR]
    intro h2
    have h2 : x = r := by simpa using h2
    rw [hx] at h2
    refine AW_seq fun K2 hK2 => ?_
    refine AW_region (by rw [hE]; decide) ?_
    simp
    refine hK2 _ ?_
    clear hK2
    refine AW_cond (t := r.c) (by simp) ?_ ?_
    · intro h3
      refine AW_seq fun K hK => ?_
      refine AW_region (by rw [hE]; decide) ?_
      simp
      refine hK _ ?_
      clear hK
      refine AW_ret ?_
      simp [h, h2, h3, statusR]
    intro h3
    refine AW_skip ?_
    simp
    refine hK0 _ ?_
    refine AW_seq fun K hK => ?_
    refine AW_region (by rw [hE]; decide) ?_
    simp
    refine hK _ ?_
    clear hK
    refine AW_ret ?_
    simp [h, h2, h3, statusR]
  rcases hw : findM r.o r.s (winM l) with _ | w
  · simp
    refine ⟨by decide, ?_⟩
    refine fin zeroR (by rw [hw]; rfl) _ ?_
    simp [encR_zero]
  · simp
    refine ⟨by decide, ?_⟩
    refine fin w (by rw [hw]; rfl) _ ?_
    simp

/-! ### Missing -/
def encH (m : List Int) : List (AV × AV) := m.map fun n => (iA n, bA true)
def updH (a : Int) : List Int → List Int
  | [] => [a]
  | b :: m => if a = b then a :: m else b :: updH a m
theorem encH_cons (b : Int) (m : List Int) : encH (b :: m) = (iA b, bA true) :: encH m := rfl
@[simp] theorem encH_nil : encH [] = [] := rfl
theorem mem_updH (a b : Int) : ∀ m : List Int, b ∈ updH a m ↔ b = a ∨ b ∈ m
  | [] => by simp [updH]
  | c :: m => by
    simp only [updH]
    split
    · rename_i h; subst h; simp
    · simp [mem_updH a b m]
      constructor
      · rintro (h | h | h) <;> simp [h]
      · rintro (h | h | h) <;> simp [h]
theorem findH (a : Int) : ∀ m : List Int, findA [SK.i] (iA a) (encH m) = if a ∈ m then some (bA true) else none
  | [] => rfl
  | b :: m => by
    rw [encH_cons]
    simp only [findA, findH a m, List.mem_cons]
    by_cases h : a = b
    · simp [h]
    · simp [h]
@[simp] theorem keysOK_H (a : Int) : ∀ m : List Int, keysOK [SK.i] false (iA a) (encH m)
  | [] => trivial
  | b :: m => by
    rw [encH_cons]
    simp only [keysOK]
    exact ⟨⟨rfl, rfl, rfl⟩, keysOK_H a m⟩
@[simp] theorem updA_H (a : Int) : ∀ m : List Int, updA [SK.i] (iA a) (bA true) (encH m) = encH (updH a m)
  | [] => rfl
  | b :: m => by
    rw [encH_cons]
    simp only [updA, updH, updA_H a m]
    by_cases h : a = b
    · simp [h, encH_cons]
    · simp [h, encH_cons]
@[simp] theorem mentP_H (d : Nat) (m : List Int) : mentP d (encH m) = false := by
  induction m with
  | nil => rfl
  | cons r m ih => rw [encH_cons]; simp [ih]
end Go.Proofs.Ytmjckbokjjnmeaa
end
section
namespace Go.Proofs.Ytmjckbokjjnmeaa
open Go.Am

def stepH (ob : Int) (g : List Int × Int) (r : R) : List Int × Int := if r.o = ob then (updH r.s g.1, max g.2 r.s) else g
def haveM (ob : Int) (l : List R) : List Int × Int := l.foldl (stepH ob) ([], -1)
def missL (h : List Int) (last most : Int) : Nat → Int → List Int → List Int
  | 0, _, out => out
  | f + 1, n, out => if n < last ∧ (out.length : Int) < most then missL h last most f (n + 1) (if n ∈ h then out else out ++ [n]) else out
def missing (l : List R) (ob most : Int) : List Int := missL (haveM ob l).1 (haveM ob l).2 most ((haveM ob l).2 + 1).toNat 0 []

theorem take_foldH {ob : Int} {l : List R} {i : Nat} (h : i < l.length) : (l.take (i + 1)).foldl (stepH ob) ([], -1) = stepH ob ((l.take i).foldl (stepH ob) ([], -1)) l[i] := by
  rw [List.take_succ_eq_append_getElem h, List.foldl_append]
  rfl

@[simp] theorem take_len {α β : Type} (f : α → β) (l : List α) : (l.map f).take l.length = l.map f := by
  rw [← List.length_map (f := f), List.take_length]

theorem haveM_le (ob : Int) : ∀ (l : List R) (g : List Int × Int), g.2 ≤ 9223372036854775807 → (∀ r ∈ l, r.s ≤ 9223372036854775807) → (l.foldl (stepH ob) g).2 ≤ 9223372036854775807
  | [], g, h, _ => h
  | r :: l, g, h, hl => by
    refine haveM_le ob l _ ?_ (fun x hx => hl x (List.mem_cons_of_mem _ hx))
    have := hl r List.mem_cons_self
    unfold stepH
    split
    · simp only; omega
    · exact h

/-- A row that grows from nil: its value and its box. -/
def growA (id k : Nat) (xs : List AV) : AV := if xs = [] then .v (.slice none 0 0) else .own id k 0 xs.length
def growB (id T k : Nat) (xs : List AV) : List (Nat × Ct) := if xs = [] then [] else [(id, .arr T k xs)]

theorem s24 (l : List R) (ob most : Int) (hl : l.length < 4611686018427387904) (hb : ∀ r ∈ l, r.s ≤ 9223372036854775807) (hm : most ≤ 1000000) : PSpec Try.prog 24 [.sl 8 (l.map encR), iA ob, iA most] (.sl 1 ((missing l ob most).map iA)) := by
  refine PSpec_of Try.func24 rfl rfl (Nat.le_of_ble_eq_true rfl) (Nat.le_of_ble_eq_true rfl) ?_
  intro E hE
  refine AW_seq fun K hK => ?_
  refine AW_region (by rw [hE]; decide) ?_
  simp
  refine hK _ ?_
  clear hK
  refine AW_seq fun K hK => ?_
  refine AW_region (by rw [hE]; decide) ?_
  simp
  refine hK _ ?_
  clear hK
  refine AW_seq fun K hK => ?_
  refine AW_region (by rw [hE]; decide) ?_
  simp
  refine hK _ ?_
  clear hK
  refine AW_seq fun K0 hK0 => ?_
  refine AW_seq fun K hK => ?_
  refine AW_region (by rw [hE]; decide) ?_
  simp
  refine hK _ ?_
  clear hK
  refine AW_block ?_
  refine AW_loop (G := Nat) (fun i => ⟨[(16, iA i), (15, iA l.length), (14, .sl 8 (l.map encR)), (7, .mp 13), (8, iA ((l.take i).foldl (stepH ob) ([], -1)).2), (1, iA ob), (2, iA most)], [(13, .map (encH ((l.take i).foldl (stepH ob) ([], -1)).1) none)]⟩)
    (fun i => i ≤ l.length) (fun i => l.length - i) 0 (Nat.zero_le _) (by simp) ?_
  intro i hi
  generalize hg : (l.take i).foldl (stepH ob) ([], -1) = g
  refine AW_seq fun K1 hK1 => ?_
  refine AW_region (by rw [hE]; decide) ?_
  simp
  refine hK1 _ ?_
  clear hK1
  refine AW_seq fun K1 hK1 => ?_
  refine AW_cond (t := decide (i < l.length)) (by simp) ?_ ?_
  · intro hlt
    have hlt := of_decide_eq_true hlt
    have hf := take_foldH (ob := ob) hlt
    rw [hg] at hf
    refine AW_skip ?_
    simp
    refine hK1 _ ?_
    clear hK1
    refine AW_seq fun K1 hK1 => ?_
    refine AW_block ?_
    refine AW_seq fun K hK => ?_
    refine AW_region (by rw [hE]; decide) ?_
    simp [hlt]
    refine hK _ ?_
    clear hK
    refine AW_seq fun K hK => ?_
    refine AW_region (by rw [hE]; decide) ?_
    simp
    refine hK _ ?_
    clear hK
    refine AW_cond (t := decide (l[i].o = ob)) (by simp) ?_ ?_
    · intro h
      have h := of_decide_eq_true h
      have hf : (l.take (i + 1)).foldl (stepH ob) ([], -1) = (updH l[i].s g.1, max g.2 l[i].s) := by rw [hf]; simp [stepH, h]
      refine AW_seq fun K hK => ?_
      refine AW_region (by rw [hE]; decide) ?_
      simp
      refine hK _ ?_
      clear hK
      refine AW_region (by rw [hE]; decide) ?_
      simp
      refine hK1 _ ?_
      refine AW_region (by rw [hE]; decide) ?_
      simp
      refine ⟨by omega, i + 1, by omega, by omega, ?_⟩
      simp [hf]
    · intro h
      have h := of_decide_eq_false h
      have hf : (l.take (i + 1)).foldl (stepH ob) ([], -1) = g := by rw [hf]; simp [stepH, h]
      refine AW_skip ?_
      simp
      refine hK1 _ ?_
      refine AW_region (by rw [hE]; decide) ?_
      simp
      refine ⟨by omega, i + 1, by omega, by omega, ?_⟩
      simp [hf]
  · intro hlt
    have hlt := of_decide_eq_false hlt
    have : i = l.length := by omega
    subst this
    rw [List.take_length] at hg
    refine AW_exit ?_
    simp
    refine hK0 _ ?_
    clear hK0
    refine AW_seq fun K hK => ?_
    refine AW_region (by rw [hE]; decide) ?_
    simp
    refine hK _ ?_
    clear hK
    refine AW_seq fun K0 hK0 => ?_
    refine AW_seq fun K hK => ?_
    refine AW_region (by rw [hE]; decide) ?_
    simp
    refine hK _ ?_
    clear hK
    refine AW_block ?_
    refine AW_loop (G := Int × List Int) (fun p => ⟨[(12, iA p.1), (8, iA g.2), (11, growA 50 1 (p.2.map iA)), (7, .mp 13), (2, iA most)], (13, .map (encH g.1) none) :: growB 50 3 1 (p.2.map iA)⟩)
      (fun p => 0 ≤ p.1 ∧ (p.1 ≤ g.2 ∨ p.1 = 0) ∧ (p.2.length : Int) ≤ max most 0 ∧ missL g.1 g.2 most (g.2 + 1 - p.1).toNat p.1 p.2 = missing l ob most) (fun p => (g.2 - p.1).toNat) (0, []) ⟨by omega, .inr rfl, by simp; omega, by unfold missing; rw [show haveM ob l = g from hg]; simp⟩ (by simp [growA, growB]) ?_
    rintro ⟨n, out⟩ ⟨hn0, hn1, hlen, heq⟩
    simp only at hn0 hn1 hlen heq
    have hg2 : g.2 ≤ 9223372036854775807 := by rw [← hg]; exact haveM_le ob l _ (by simp) hb
    refine AW_seq fun K1 hK1 => ?_
    refine AW_seq fun K2 hK2 => ?_
    have fin : ∀ s', s'.le ⟨[(40, bA (decide (n < g.2 ∧ (out.length : Int) < most))), (12, iA n), (8, iA g.2), (11, growA 50 1 (out.map iA)), (7, .mp 13), (2, iA most)], (13, .map (encH g.1) none) :: growB 50 3 1 (out.map iA)⟩ → K2 s' := by
      intro s' hs'
      refine hK2 _ ?_
      refine AW_le hs' ?_
      clear hK2
      refine AW_cond (t := decide (n < g.2 ∧ (out.length : Int) < most)) (by simp) ?_ ?_
      · intro hc
        have hc := of_decide_eq_true hc
        have hnext : missL g.1 g.2 most (g.2 + 1 - (n + 1)).toNat (n + 1) (if n ∈ g.1 then out else out ++ [n]) = missing l ob most := by
          rw [← heq, show (g.2 + 1 - n).toNat = (g.2 + 1 - (n + 1)).toNat + 1 by omega, missL, if_pos hc]
        refine AW_skip ?_
        simp
        refine hK1 _ ?_
        clear hK1
        refine AW_seq fun K1 hK1 => ?_
        refine AW_block ?_
        by_cases hh : n ∈ g.1
        · rw [if_pos hh] at hnext
          refine AW_seq fun K hK => ?_
          refine AW_region (by rw [hE]; decide) ?_
          simp [findH, hh]
          refine hK _ ?_
          clear hK
          refine AW_cond (t := false) (by simp) ?_ ?_
          · intro h; cases h
          intro _
          refine AW_skip ?_
          simp
          refine hK1 _ ?_
          refine AW_region (by rw [hE]; decide) ?_
          simp
          refine ⟨by omega, n + 1, out, ⟨by omega, by omega, by omega, hnext⟩, by omega, by by_cases ho : out = [] <;> simp [growA, growB, ho]⟩
        · rw [if_neg hh] at hnext
          refine AW_seq fun K hK => ?_
          refine AW_region (by rw [hE]; decide) ?_
          simp [findH, hh]
          refine hK _ ?_
          clear hK
          refine AW_cond (t := true) (by simp) ?_ ?_
          rotate_left
          · intro h; cases h
          intro _
          by_cases ho : out = []
          · subst ho
            refine AW_region (by rw [hE]; decide) ?_
            simp [growA, growB]
            refine hK1 _ ?_
            refine AW_region (by rw [hE]; decide) ?_
            simp
            refine ⟨by omega, n + 1, [n], ⟨by omega, by omega, by simp; omega, hnext⟩, by omega, by simp [growA, growB]⟩
          · refine AW_region (by rw [hE]; decide) ?_
            simp [growA, growB, ho]
            repeat' apply And.intro
            all_goals try omega
            all_goals try decide
            refine hK1 _ ?_
            refine AW_region (by rw [hE]; decide) ?_
            simp
            refine ⟨by omega, n + 1, out ++ [n], ⟨by omega, by omega, by simp; omega, hnext⟩, by omega, by simp [growA, growB]⟩
      · intro hc
        have hc := of_decide_eq_false hc
        have hend : out = missing l ob most := by
          rw [← heq]
          cases (g.2 + 1 - n).toNat with
          | zero => rfl
          | succ f => rw [missL, if_neg hc]
        refine AW_exit ?_
        simp
        refine hK0 _ ?_
        by_cases ho : out = []
        · subst ho
          refine AW_seq fun K hK => ?_
          refine AW_region (by rw [hE]; decide) ?_
          simp [growA]
          refine hK _ ?_
          clear hK
          refine AW_ret ?_
          simp
          rw [← hend]
        · refine AW_seq fun K hK => ?_
          refine AW_region (by rw [hE]; decide) ?_
          simp [growA, ho]
          refine hK _ ?_
          clear hK
          refine AW_ret ?_
          simp [growB, ho]
          exact hend.symm ▸ rfl
    by_cases ho : out = []
    · subst ho
      refine AW_region (by rw [hE]; decide) ?_
      simp [growA, growB]
      constructor
      · intro h
        refine fin _ (by simp [growA, growB, h])
      · intro h
        refine fin _ (by simp [growA, growB]; omega)
    · refine AW_region (by rw [hE]; decide) ?_
      simp [growA, growB, ho]
      constructor
      · intro h
        refine fin _ (by simp [growA, growB, h, ho])
      · intro h
        refine fin _ (by simp [growA, growB, ho]; omega)
end Go.Proofs.Ytmjckbokjjnmeaa
end
section
namespace Go.Proofs.Ytmjckbokjjnmeaa
open Go.Am

theorem m41 (l : List R) (hl : l.length ≤ 1000000000) : MSpec Try.prog 41 [.sl 8 (l.map encR)] [] (fun res bf => (res = .own 5 8 0 l.length ∧ bf 5 = some (.arr 23 8 (l.map encR))) ∨ (l = [] ∧ res = .v (.slice none 0 0))) := by
  refine MSpec_of Try.func41 rfl rfl (Nat.le_of_ble_eq_true rfl) (Nat.le_of_ble_eq_true rfl) ?_
  intro E hE
  refine AW_seq fun K hK => ?_
  refine AW_region (by rw [hE]; decide) ?_
  simp
  refine hK _ ?_
  clear hK
  refine AW_seq fun K0 hK0 => ?_
  refine AW_seq fun K1 hK1 => ?_
  refine AW_region (by rw [hE]; decide) ?_
  simp
  have fin1 : ∀ s', s'.le ⟨[(4, bA true), (0, .sl 8 (l.map encR))], []⟩ → l = [] → K1 s' := by
    intro s' hs' hl0
    refine hK1 _ ?_
    refine AW_le hs' ?_
    refine AW_cond (t := true) (by simp) ?_ ?_
    · intro _
      refine AW_seq fun K hK => ?_
      refine AW_region (by rw [hE]; decide) ?_
      simp
      refine hK _ ?_
      clear hK
      refine AW_ret ?_
      simp [hl0]
    · intro h; cases h
  have fin2 : ∀ s', s'.le ⟨[(4, bA false), (0, .sl 8 (l.map encR))], []⟩ → K1 s' := by
    intro s' hs'
    refine hK1 _ ?_
    refine AW_le hs' ?_
    refine AW_cond (t := false) (by simp) ?_ ?_
    · intro h; cases h
    intro _
    refine AW_skip ?_
    simp
    refine hK0 _ ?_
    refine AW_seq fun K hK => ?_
    refine AW_region (by rw [hE]; decide) ?_
    simp
    repeat' apply And.intro
    all_goals try omega
    all_goals try decide
    refine hK _ ?_
    clear hK
    refine AW_ret ?_
    simp
  constructor
  · intro h
    exact fin2 _ (by simp)
  · intro h
    refine ⟨?_, ?_⟩
    · exact fin2 _ (by simp)
    · exact fin1 _ (by simp) h

/-! ### Compact -/
def ddS (D : List R) (x : R) : List R := if D.getLast? = some x then D else D ++ [x]
def dd (l : List R) : List R := l.foldl ddS []
theorem dd_take {l : List R} {i : Nat} (h : i < l.length) : dd (l.take (i + 1)) = ddS (dd (l.take i)) l[i] := by
  unfold dd
  rw [List.take_succ_eq_append_getElem h, List.foldl_append]
  rfl
theorem ddS_last (D : List R) (x : R) : (ddS D x).getLast? = some x := by
  unfold ddS
  split
  · assumption
  · simp
theorem dd_last {l : List R} {i : Nat} (h : i < l.length) : (dd (l.take (i + 1))).getLast? = some l[i] := by rw [dd_take h, ddS_last]
theorem dd_len {l : List R} : ∀ {i : Nat}, i ≤ l.length → (dd (l.take i)).length ≤ i
  | 0, _ => by simp [dd]
  | i + 1, h => by
    have := dd_len (l := l) (i := i) (by omega)
    rw [dd_take (by omega)]
    unfold ddS
    split
    · omega
    · simp; omega

theorem m43 (l : List R) (hl : l.length ≤ 1000000000) : MSpec Try.prog 43 [.own 1000000 8 0 l.length] [(1000000, .arr 23 8 (l.map encR))] (fun res bf => ∃ tail : List R, res = .own 1000000 8 0 (dd l).length ∧ bf 1000000 = some (.arr 23 8 ((dd l ++ tail).map encR))) := by
  refine MSpec_of Try.func43 rfl rfl (Nat.le_of_ble_eq_true rfl) (Nat.le_of_ble_eq_true rfl) ?_
  intro E hE
  refine AW_seq fun K hK => ?_
  refine AW_region (by rw [hE]; decide) ?_
  simp
  refine hK _ ?_
  clear hK
  refine AW_seq fun K hK => ?_
  refine AW_seq fun K hK => ?_
  refine AW_region (by rw [hE]; decide) ?_
  simp
  refine hK _ ?_
  clear hK
  refine AW_cond (t := decide ((l.length : Int) < 2)) (by simp) ?_ ?_
  · intro h
    have h : l.length < 2 := by have := of_decide_eq_true h; omega
    have hdd : dd l = l := by
      rcases l with _ | ⟨a, _ | ⟨b, l⟩⟩
      · rfl
      · simp [dd, ddS]
      · simp at h
        omega
    refine AW_seq fun K hK => ?_
    refine AW_region (by rw [hE]; decide) ?_
    simp
    refine hK _ ?_
    clear hK
    refine AW_ret ?_
    simp [hdd]
  intro h
  have h : 2 ≤ l.length := by have := of_decide_eq_false h; omega
  refine AW_skip ?_
  simp
  refine hK _ ?_
  clear hK
  refine AW_seq fun K0 hK0 => ?_
  refine AW_seq fun K hK => ?_
  refine AW_region (by rw [hE]; decide) ?_
  simp
  refine hK _ ?_
  clear hK
  refine AW_block ?_
  refine AW_loop (G := Nat) (fun k => ⟨[(3, iA k), (0, .own 1000000 8 0 l.length)], [(1000000, .arr 23 8 (l.map encR))]⟩)
    (fun k => 1 ≤ k ∧ k ≤ l.length ∧ dd (l.take k) = l.take k) (fun k => l.length - k) 1 ⟨by omega, by omega, by
      match l, h with
      | a :: l, _ => simp [dd, ddS]⟩ (by simp) ?_
  rintro k ⟨hk1, hk, hdk⟩
  refine AW_seq fun K1 hK1 => ?_
  refine AW_seq fun K2 hK2 => ?_
  refine AW_region (by rw [hE]; decide) ?_
  simp
  refine hK2 _ ?_
  clear hK2
  refine AW_cond (t := decide (k < l.length)) (by simp) ?_ ?_
  · intro hlt
    have hlt := of_decide_eq_true hlt
    obtain ⟨j, rfl⟩ : ∃ j, k = j + 1 := ⟨k - 1, by omega⟩
    have hj : j < l.length := by omega
    have hjj : ((j + 1 : Nat) : Int) - 1 = j := by omega
    refine AW_skip ?_
    simp
    refine hK1 _ ?_
    clear hK1
    refine AW_seq fun K1 hK1 => ?_
    refine AW_block ?_
    refine AW_seq fun K hK => ?_
    refine AW_draw 10 mixed (by rw [hE]; decide) (by simp [newOK]) ?_
    simp [hlt, hj]
    repeat' apply And.intro
    all_goals try omega
    all_goals try decide
    refine hK _ ?_
    clear hK
    have hdl := dd_last hj
    rw [hdk] at hdl
    refine AW_cond (t := decide (l[j + 1] = l[j])) (by simp) ?_ ?_
    · intro heq
      have heq := of_decide_eq_true heq
      have hD1 : dd (l.take (j + 1 + 1)) = l.take (j + 1) := by
        rw [dd_take hlt, hdk]
        unfold ddS
        rw [if_pos (by rw [hdl, heq])]
      have hD1l : (l.take (j + 1)).length = j + 1 := by rw [List.length_take]; omega
      refine AW_seq fun K3 hK3 => ?_
      refine AW_region (by rw [hE]; decide) ?_
      simp
      have ht : ((l.length : Int) - ((j : Int) + 1)).toNat = l.length - (j + 1) := by omega
      refine ⟨by omega, fun _ => ?_, fun _ h0 => absurd h0 (by omega)⟩
      rw [ht]
      refine hK3 _ ?_
      clear hK3
      refine AW_seq fun K3 hK3 => ?_
      refine AW_seq fun K hK => ?_
      refine AW_region (by rw [hE]; decide) ?_
      simp
      refine hK _ ?_
      clear hK
      refine AW_block ?_
      refine AW_loop (G := Nat) (fun m => ⟨[(5, iA m), (4, .own 1000000 8 (j + 1) (l.length - (j + 1))), (3, iA (dd (l.take (j + 1 + m))).length), (0, .own 1000000 8 0 l.length)], [(1000000, .arr 23 8 ((dd (l.take (j + 1 + m)) ++ l.drop (dd (l.take (j + 1 + m))).length).map encR))]⟩)
        (fun m => 1 ≤ m ∧ j + 1 + m ≤ l.length ∧ (dd (l.take (j + 1 + m))).length ≤ j + m) (fun m => l.length - (j + 1 + m)) 1 ⟨by omega, by omega, by rw [hD1, hD1l]; omega⟩ (by
          rw [hD1, hD1l, List.take_append_drop]
          simp) ?_
      rintro m ⟨hm1, hm, hDl⟩
      generalize hD : dd (l.take (j + 1 + m)) = D at hDl ⊢
      obtain ⟨A, hAA⟩ : ∃ A, A = D ++ l.drop D.length := ⟨_, rfl⟩
      have hA : A.length = l.length := by rw [hAA]; simp; omega
      have e1 : ∀ i, D.length ≤ i → (h1 : i < A.length) → (h2 : i < l.length) → A[i] = l[i] := by
        subst hAA
        intro i h0 h1 h2
        rw [List.getElem_append_right h0, List.getElem_drop]
        congr 1
        omega
      rw [← hAA]
      refine AW_seq fun K1 hK1 => ?_
      refine AW_seq fun K2 hK2 => ?_
      refine AW_region (by rw [hE]; decide) ?_
      simp
      refine hK2 _ ?_
      clear hK2
      refine AW_cond (t := decide (m < l.length - (j + 1))) (by simp) ?_ ?_
      · intro hlm
        have hlm : j + 1 + m < l.length := by have := of_decide_eq_true hlm; omega
        obtain ⟨m, rfl⟩ : ∃ m', m = m' + 1 := ⟨m - 1, by omega⟩
        have i1 : j + 1 + (m + 1) < A.length := by omega
        have i2 : j + 1 + m < A.length := by omega
        have i3 : m + 1 < l.length - (j + 1) := by omega
        have i4 : m < l.length - (j + 1) := by omega
        have f1 := e1 (j + 1 + (m + 1)) (by omega) i1 (by omega)
        have f2 := e1 (j + 1 + m) (by omega) i2 (by omega)
        have j1 : j + 1 + (m + 1) < l.length := by omega
        have j2 : j + 1 + m < l.length := by omega
        have hDn : dd (l.take (j + 1 + (m + 1 + 1))) = ddS D l[j + 1 + (m + 1)] := by rw [← hD]; exact dd_take j1
        have hDlast : D.getLast? = some l[j + 1 + m] := by rw [← hD]; exact dd_last j2
        refine AW_skip ?_
        simp
        refine hK1 _ ?_
        clear hK1
        refine AW_seq fun K1 hK1 => ?_
        refine AW_block ?_
        refine AW_seq fun K hK => ?_
        refine AW_draw 10 mixed (by rw [hE]; decide) (by simp [newOK]) ?_
        simp [i1, i2, i3, i4, f1, f2]
        repeat' apply And.intro
        all_goals try omega
        all_goals try decide
        refine hK _ ?_
        clear hK
        have hDl2 : D.length < l.length := by omega
        have hDl3 : D.length < A.length := by omega
        refine AW_cond (t := !decide (l[j + 1 + (m + 1)] = l[j + 1 + m])) (by simp) ?_ ?_
        · intro hne
          have hne : l[j + 1 + (m + 1)] ≠ l[j + 1 + m] := by simpa using hne
          have hDn2 : dd (l.take (j + 1 + (m + 1 + 1))) = D ++ [l[j + 1 + (m + 1)]] := by
            rw [hDn]
            unfold ddS
            rw [if_neg (by rw [hDlast]; simpa using Ne.symm hne)]
          have hset : A.set D.length l[j + 1 + (m + 1)] = (D ++ [l[j + 1 + (m + 1)]]) ++ l.drop (D ++ [l[j + 1 + (m + 1)]]).length := by
            have e0 : (l.drop D.length).set 0 l[j + 1 + (m + 1)] = l[j + 1 + (m + 1)] :: l.drop (D.length + 1) := by
              rw [List.drop_eq_getElem_cons hDl2]
              rfl
            rw [hAA, List.set_append_right _ _ (Nat.le_refl _), Nat.sub_self, e0]
            simp
          refine AW_seq fun K hK => ?_
          refine AW_region (by rw [hE]; decide) ?_
          simp [i1, f1, hDl3, hDl2]
          repeat' apply And.intro
          all_goals try omega
          all_goals try decide
          refine hK _ ?_
          refine AW_region (by rw [hE]; decide) ?_
          simp
          repeat' apply And.intro
          all_goals try omega
          all_goals try decide
          refine hK1 _ ?_
          refine AW_region (by rw [hE]; decide) ?_
          simp
          refine ⟨by omega, m + 2, ⟨by omega, by omega, ?_⟩, by omega, ?_⟩
          · rw [hDn2]; simp; omega
          · have hset2 := congrArg (List.map encR) hset
            rw [List.map_set, List.map_append, List.map_drop] at hset2
            rw [hDn2]
            exact ⟨⟨by omega, by simp⟩, hset2⟩
        · intro he
          have he : l[j + 1 + (m + 1)] = l[j + 1 + m] := by simpa using he
          have hDn2 : dd (l.take (j + 1 + (m + 1 + 1))) = D := by
            rw [hDn]
            unfold ddS
            rw [if_pos (by rw [hDlast, he])]
          refine AW_skip ?_
          simp
          refine hK1 _ ?_
          refine AW_region (by rw [hE]; decide) ?_
          simp
          refine ⟨by omega, m + 2, ⟨by omega, by omega, ?_⟩, by omega, ?_⟩
          · rw [hDn2]; omega
          · rw [hDn2]
            exact ⟨⟨by omega, rfl⟩, by rw [hAA, List.map_append, List.map_drop]⟩
      · intro hlm
        have hlm : j + 1 + m = l.length := by have := of_decide_eq_false hlm; omega
        rw [hlm, List.take_length] at hD
        refine AW_exit ?_
        simp
        refine hK3 _ ?_
        have hc : List.take D.length (List.map encR A) ++ (List.replicate (l.length - D.length) (encR zeroR) ++ List.drop (D.length + (l.length - D.length)) (List.map encR A)) = List.map encR (D ++ List.replicate (l.length - D.length) zeroR) := by
          have h1 : List.take D.length (List.map encR A) = List.map encR D := by rw [hAA, List.map_append, List.take_left' (by simp)]
          have h2 : List.drop (D.length + (l.length - D.length)) (List.map encR A) = [] := List.drop_eq_nil_of_le (by rw [List.length_map, hA]; omega)
          rw [h1, h2, List.map_append, List.map_replicate, List.append_nil]
        rw [encR_zero] at hc
        refine AW_seq fun K hK => ?_
        refine AW_region (by rw [hE]; decide) ?_
        simp
        refine ⟨by omega, fun _ => ⟨by omega, ?_⟩, fun _ h => absurd h (by omega)⟩
        rw [hc]
        refine hK _ ?_
        clear hK
        refine AW_seq fun K hK => ?_
        refine AW_region (by rw [hE]; decide) ?_
        simp
        repeat' apply And.intro
        all_goals try omega
        all_goals try decide
        refine hK _ ?_
        clear hK
        refine AW_ret ?_
        simp [hD]
        exact ⟨List.replicate (l.length - D.length) zeroR, (List.map_replicate).symm⟩
    · intro hne
      have hne := of_decide_eq_false hne
      refine AW_skip ?_
      simp
      refine hK1 _ ?_
      refine AW_region (by rw [hE]; decide) ?_
      simp
      refine ⟨by omega, j + 2, ⟨by omega, by omega, ?_⟩, by omega, by simp; omega⟩
      rw [dd_take hlt, hdk]
      unfold ddS
      rw [if_neg (by rw [hdl]; simpa using Ne.symm hne), ← List.take_succ_eq_append_getElem hlt]
  · intro hlt
    have hlt := of_decide_eq_false hlt
    have : k = l.length := by omega
    subst this
    rw [List.take_length] at hdk
    refine AW_exit ?_
    simp
    refine hK0 _ ?_
    refine AW_seq fun K hK => ?_
    refine AW_region (by rw [hE]; decide) ?_
    simp
    refine hK _ ?_
    clear hK
    refine AW_ret ?_
    simp [hdk]
end Go.Proofs.Ytmjckbokjjnmeaa
end
section
namespace Go.Proofs.Ytmjckbokjjnmeaa
open Go.Am Go.Proofs

theorem cmpI_swap (a b : Int) : cmpI b a = -cmpI a b := by unfold cmpI; split <;> split <;> (try split) <;> omega
theorem cmpI_zero {a b : Int} : cmpI a b = 0 ↔ a = b := by unfold cmpI; split <;> (try split) <;> omega
theorem cmpI_val (a b : Int) : cmpI a b = -1 ∨ cmpI a b = 0 ∨ cmpI a b = 1 := by unfold cmpI; split <;> (try split) <;> omega
theorem cmpI_neg {a b : Int} : cmpI a b < 0 ↔ a < b := by unfold cmpI; split <;> (try split) <;> omega
theorem cmpI_pos {a b : Int} : 0 < cmpI a b ↔ b < a := by unfold cmpI; split <;> (try split) <;> omega

theorem cmpL_swap : ∀ l m : List Int, cmpL m l = -cmpL l m
  | [], [] => rfl
  | [], _ :: _ => rfl
  | _ :: _, [] => rfl
  | a :: l, b :: m => by
    simp only [cmpL]
    have h1 := cmpI_swap a b
    have h2 := cmpL_swap l m
    by_cases h : cmpI a b ≠ 0
    · rw [if_pos h, if_pos (by omega), h1]
    · rw [if_neg h, if_neg (by omega), h2]
theorem cmpL_zero : ∀ {l m : List Int}, cmpL l m = 0 ↔ l = m
  | [], [] => by simp [cmpL]
  | [], _ :: _ => by simp [cmpL]
  | _ :: _, [] => by simp [cmpL]
  | a :: l, b :: m => by
    simp only [cmpL]
    by_cases h : cmpI a b ≠ 0
    · rw [if_pos h]
      constructor
      · intro h0; exact absurd h0 h
      · intro e; injection e with e1 e2; exact absurd (cmpI_zero.2 e1) h
    · rw [if_neg h, cmpL_zero]
      have := cmpI_zero.1 (Decidable.of_not_not h)
      simp [this]
theorem cmpL_trans : ∀ {l m n : List Int}, cmpL l m ≤ 0 → cmpL m n ≤ 0 → cmpL l n ≤ 0
  | [], _, [], _, _ => by simp [cmpL]
  | [], _, _ :: _, _, _ => by simp [cmpL]
  | _ :: _, [], _, h, _ => by simp [cmpL] at h
  | _ :: _, _ :: _, [], _, h => by simp [cmpL] at h
  | a :: l, b :: m, c :: n, h1, h2 => by
    simp only [cmpL] at *
    by_cases e1 : cmpI a b ≠ 0
    · rw [if_pos e1] at h1
      have hab : a < b := cmpI_neg.1 (by omega)
      by_cases e2 : cmpI b c ≠ 0
      · rw [if_pos e2] at h2
        have hbc : b < c := cmpI_neg.1 (by omega)
        have hac := cmpI_neg.2 (show a < c by omega)
        rw [if_pos (by omega)]; omega
      · have := cmpI_zero.1 (Decidable.of_not_not e2)
        subst this
        rw [if_pos e1]; omega
    · have := cmpI_zero.1 (Decidable.of_not_not e1)
      subst this
      rw [if_neg e1] at h1
      by_cases e2 : cmpI a c ≠ 0
      · rw [if_pos e2] at h2 ⊢; exact h2
      · rw [if_neg e2] at h2 ⊢; exact cmpL_trans h1 h2

theorem fieldsR_inj {a b : R} (h : fieldsR a = fieldsR b) : a = b := by
  cases a; cases b
  simp only [fieldsR, List.cons.injEq, and_true] at h
  obtain ⟨h1, h2, h3, h4, h5, h6, h7, h8⟩ := h
  rename_i c1 _ _ _ _ _ _ _ c2
  subst h1; subst h2; subst h3; subst h4; subst h5; subst h6; subst h7
  cases c1 <;> cases c2 <;> simp at h8 ⊢
theorem cmpR_swap (a b : R) : cmpR b a = -cmpR a b := cmpL_swap _ _
theorem cmpR_zero {a b : R} : cmpR a b = 0 ↔ a = b := ⟨fun h => fieldsR_inj (cmpL_zero.1 h), fun h => by rw [h]; exact cmpL_zero.2 rfl⟩
theorem cmpR_trans {a b c : R} (h1 : cmpR a b ≤ 0) (h2 : cmpR b c ≤ 0) : cmpR a c ≤ 0 := cmpL_trans h1 h2
theorem cmpR_lt_trans {a b c : R} (h1 : cmpR a b < 0) (h2 : cmpR b c < 0) : cmpR a c < 0 := by
  have h3 := cmpR_trans (by omega : cmpR a b ≤ 0) (by omega : cmpR b c ≤ 0)
  have h4 : cmpR a c ≠ 0 := by
    intro h
    have := cmpR_zero.1 h
    subst this
    have := cmpR_swap a b
    omega
  omega
@[simp] theorem cmpR_self (a : R) : cmpR a a = 0 := cmpR_zero.2 rfl

theorem ltOf_R (a b : R) : ltOf cmpR a b = decide (cmpR a b < 0) := rfl
theorem swoR : Go.Sort.SWO (ltOf cmpR) := by
  refine ⟨fun x => ?_, fun x y z h1 h2 => ?_, fun x y z h1 h2 => ?_⟩
  · simp [ltOf_R]
  · simp only [ltOf_R, decide_eq_true_eq] at *; exact cmpR_lt_trans h1 h2
  · simp only [ltOf_R, decide_eq_false_iff_not] at *
    have a1 := cmpR_swap x y
    have a2 := cmpR_swap y z
    have a3 := cmpR_swap x z
    have := cmpR_trans (a := z) (b := y) (c := x) (by omega) (by omega)
    omega
theorem totR (x y : R) (h1 : ltOf cmpR x y = false) (h2 : ltOf cmpR y x = false) : x = y := by
  simp only [ltOf_R, decide_eq_false_iff_not] at *
  have := cmpR_swap x y
  exact cmpR_zero.1 (by omega)

/-! ### strictly sorted lists -/
def SS (l : List R) : Prop := l.Pairwise fun a b => cmpR a b < 0
theorem SS.ext : ∀ {a b : List R}, SS a → SS b → (∀ x, x ∈ a ↔ x ∈ b) → a = b
  | [], [], _, _, _ => rfl
  | [], y :: b, _, _, h => by simpa using (h y).2 List.mem_cons_self
  | x :: a, [], _, _, h => by simpa using (h x).1 List.mem_cons_self
  | x :: a, y :: b, ha, hb, h => by
    have ha1 := (List.pairwise_cons.1 ha).1
    have hb1 := (List.pairwise_cons.1 hb).1
    have hxy : x = y := by
      have hx := (h x).1 List.mem_cons_self
      have hy := (h y).2 List.mem_cons_self
      rcases List.mem_cons.1 hx with e | hx
      · exact e
      · rcases List.mem_cons.1 hy with e | hy
        · exact e.symm
        · have := hb1 x hx
          have := ha1 y hy
          have := cmpR_swap x y
          omega
    subst hxy
    have hnot : ∀ l : List R, (∀ z ∈ l, cmpR x z < 0) → x ∉ l := fun l hl hx => by have := hl x hx; simp at this
    have e : a = b := SS.ext (List.pairwise_cons.1 ha).2 (List.pairwise_cons.1 hb).2 (fun z => by
      have hz := h z
      simp only [List.mem_cons] at hz
      constructor
      · intro hza
        have : z ≠ x := by rintro rfl; exact hnot a ha1 hza
        exact ((hz.1 (.inr hza)).resolve_left this)
      · intro hzb
        have : z ≠ x := by rintro rfl; exact hnot b hb1 hzb
        exact ((hz.2 (.inr hzb)).resolve_left this))
    rw [e]
theorem SS.nodup {l : List R} (h : SS l) : l.Nodup := List.Pairwise.imp (fun {a b} hab => by rintro rfl; simp at hab) h
theorem SS.filter {l : List R} (p : R → Bool) (h : SS l) : SS (l.filter p) := List.Pairwise.sublist List.filter_sublist h

theorem sortL_sorted (l : List R) : (sortL cmpR l).Pairwise fun a b => cmpR a b ≤ 0 := by
  have h := List.pairwise_mergeSort (le := fun x y => !(ltOf cmpR) y x) (by
    intro a b c h1 h2
    simp only [ltOf_R, Bool.not_eq_true', decide_eq_false_iff_not] at *
    have a1 := cmpR_swap a b
    have a2 := cmpR_swap b c
    have a3 := cmpR_swap a c
    have := cmpR_trans (a := a) (b := b) (c := c) (by omega) (by omega)
    omega) (by
    intro a b
    simp only [ltOf_R, Bool.or_eq_true, Bool.not_eq_true', decide_eq_false_iff_not]
    have := cmpR_swap a b
    omega) l
  refine List.Pairwise.imp (fun {a b} hab => ?_) h
  simp only [ltOf_R, Bool.not_eq_true', decide_eq_false_iff_not] at hab
  have := cmpR_swap a b
  omega
theorem mem_sortL (l : List R) (x : R) : x ∈ sortL cmpR l ↔ x ∈ l := (List.mergeSort_perm l _).mem_iff
theorem sortL_len (l : List R) : (sortL cmpR l).length = l.length := List.length_mergeSort l

theorem dd_snoc (l : List R) (x : R) : dd (l ++ [x]) = ddS (dd l) x := by unfold dd; rw [List.foldl_append]; rfl
theorem mem_ddS {D : List R} {x y : R} : y ∈ ddS D x ↔ y ∈ D ∨ y = x := by
  unfold ddS
  split
  · rename_i h
    have := List.mem_of_getLast? h
    constructor
    · exact .inl
    · rintro (h | rfl)
      · exact h
      · exact this
  · simp
theorem dd_ind (P : List R → List R → Prop) (h0 : P [] []) (hs : ∀ l x, P l (dd l) → P (l ++ [x]) (ddS (dd l) x)) (l : List R) : P l (dd l) := by
  have key : ∀ n, ∀ l : List R, l.length = n → P l (dd l) := by
    intro n
    induction n with
    | zero => intro l h; rw [List.eq_nil_of_length_eq_zero h]; exact h0
    | succ n ih =>
      intro l h
      have hne : l ≠ [] := by rintro rfl; simp at h
      rw [← List.dropLast_concat_getLast hne, dd_snoc]
      exact hs _ _ (ih _ (by simp [h]))
  exact key _ l rfl
theorem mem_dd (l : List R) (x : R) : x ∈ dd l ↔ x ∈ l :=
  dd_ind (fun l D => x ∈ D ↔ x ∈ l) (by simp) (fun l y ih => by rw [mem_ddS, ih]; simp) l
theorem dd_SS (l : List R) (h : l.Pairwise fun a b => cmpR a b ≤ 0) : SS (dd l) := by
  refine dd_ind (fun l D => (l.Pairwise fun a b => cmpR a b ≤ 0) → SS D) (fun _ => List.Pairwise.nil) (fun l y ih h => ?_) l h
  have hl := (List.pairwise_append.1 h).1
  have hy : ∀ a ∈ l, cmpR a y ≤ 0 := fun a ha => (List.pairwise_append.1 h).2.2 a ha y (by simp)
  have hss := ih hl
  unfold ddS
  split
  · exact hss
  · rename_i hne
    refine List.pairwise_append.2 ⟨hss, List.pairwise_singleton _ _, fun a ha b hb => ?_⟩
    rw [List.mem_singleton] at hb
    subst hb
    have h1 := hy a ((mem_dd l a).1 ha)
    by_cases h0 : cmpR a b = 0
    · exfalso
      have := cmpR_zero.1 h0
      subst this
      -- a is in D, and the last of D is ≥ a, and ≤ a
      have hD : dd l ≠ [] := List.ne_nil_of_mem ha
      have hlast := List.getLast_mem hD
      have h2 := hy _ ((mem_dd l _).1 hlast)
      have h3 : a = (dd l).getLast hD ∨ cmpR a ((dd l).getLast hD) < 0 := by
        have hsp := List.dropLast_concat_getLast hD
        rw [← hsp] at ha hss
        rcases List.mem_append.1 ha with ha | ha
        · exact .inr ((List.pairwise_append.1 hss).2.2 a ha _ (by simp))
        · exact .inl (by simpa using ha)
      rcases h3 with h3 | h3
      · rw [List.getLast?_eq_some_getLast hD] at hne
        exact hne (congrArg some h3.symm)
      · have := cmpR_swap a ((dd l).getLast hD)
        omega
    · omega

/-- The reports of a list in order, each once. -/
def setR (l : List R) : List R := dd (sortL cmpR l)
theorem setR_SS (l : List R) : SS (setR l) := dd_SS _ (sortL_sorted l)
@[simp] theorem mem_setR {l : List R} {x : R} : x ∈ setR l ↔ x ∈ l := by unfold setR; rw [mem_dd, mem_sortL]
theorem setR_congr {a b : List R} (h : ∀ x, x ∈ a ↔ x ∈ b) : setR a = setR b := (setR_SS a).ext (setR_SS b) (fun x => by simp [h x])
theorem setR_of_SS {l : List R} (h : SS l) : setR l = l := (setR_SS l).ext h (fun x => by simp)
theorem dd_len' (l : List R) : (dd l).length ≤ l.length := by have := dd_len (l := l) (i := l.length) (Nat.le_refl _); rwa [List.take_length] at this
theorem setR_len (l : List R) : (setR l).length ≤ l.length := by
  unfold setR
  have := dd_len' (sortL cmpR l)
  rwa [sortL_len] at this
end Go.Proofs.Ytmjckbokjjnmeaa
end
