/- MADE BY A PROGRAM (mkfacts -/
import Derived.Test.YtfkgaphfdpflmaaGreatDoorZD
import Derived.Test.YtfkgaphfdpflmaaGreatDoorRows
import Derived.KernelRfl
set_option linter.unusedSimpArgs false
set_option linter.unusedVariables false
namespace Go.Proofs.YtfkgaphfdpflmaaGreatDoor
open Go.Am
@[simp] theorem k_ok0 : okT Tryz.prog 0 = true:=by kernel_rfl
@[simp] theorem k_agg0 : aggB Tryz.prog 0 = false:=by kernel_rfl
@[simp] theorem k_cells0 : Tryz.prog.cellsOf 0 = 1:=by kernel_rfl
@[simp] theorem k_bytes0 : Tryz.prog.bytesOf 0 = 0:=by kernel_rfl
@[simp] theorem k_eq0 : eqKinds Tryz.prog 0 = none:=by kernel_rfl
@[simp] theorem k_guard0 : Tryz.prog.eqGuardType Tryz.prog.depth 0 = false:=by kernel_rfl
@[simp] theorem k_zero0 : zeroAV Tryz.prog 0 = some (AV.tup []):=by kernel_rfl
@[simp] theorem k_ok1 : okT Tryz.prog 1 = true:=by kernel_rfl
@[simp] theorem k_agg1 : aggB Tryz.prog 1 = false:=by kernel_rfl
@[simp] theorem k_cells1 : Tryz.prog.cellsOf 1 = 1:=by kernel_rfl
@[simp] theorem k_bytes1 : Tryz.prog.bytesOf 1 = 8:=by kernel_rfl
@[simp] theorem k_eq1 : eqKinds Tryz.prog 1 = none:=by kernel_rfl
@[simp] theorem k_guard1 : Tryz.prog.eqGuardType Tryz.prog.depth 1 = false:=by kernel_rfl
@[simp] theorem k_zero1 : zeroAV Tryz.prog 1 = some (AV.v Value.nilFunc):=by kernel_rfl
@[simp] theorem k_ok2 : okT Tryz.prog 2 = true:=by kernel_rfl
@[simp] theorem k_agg2 : aggB Tryz.prog 2 = false:=by kernel_rfl
@[simp] theorem k_cells2 : Tryz.prog.cellsOf 2 = 1:=by kernel_rfl
@[simp] theorem k_bytes2 : Tryz.prog.bytesOf 2 = 8:=by kernel_rfl
@[simp] theorem k_eq2 : eqKinds Tryz.prog 2 = some [SK.i]:=by kernel_rfl
@[simp] theorem k_guard2 : Tryz.prog.eqGuardType Tryz.prog.depth 2 = false:=by kernel_rfl
@[simp] theorem k_zero2 : zeroAV Tryz.prog 2 = some (AV.v (Value.int IntKind.i64 0)):=by kernel_rfl
@[simp] theorem k_ok3 : okT Tryz.prog 3 = true:=by kernel_rfl
@[simp] theorem k_agg3 : aggB Tryz.prog 3 = false:=by kernel_rfl
@[simp] theorem k_cells3 : Tryz.prog.cellsOf 3 = 1:=by kernel_rfl
@[simp] theorem k_bytes3 : Tryz.prog.bytesOf 3 = 8:=by kernel_rfl
@[simp] theorem k_eq3 : eqKinds Tryz.prog 3 = some [SK.i]:=by kernel_rfl
@[simp] theorem k_guard3 : Tryz.prog.eqGuardType Tryz.prog.depth 3 = false:=by kernel_rfl
@[simp] theorem k_zero3 : zeroAV Tryz.prog 3 = some (AV.v (Value.int IntKind.i64 0)):=by kernel_rfl
@[simp] theorem k_ok4 : okT Tryz.prog 4 = true:=by kernel_rfl
@[simp] theorem k_agg4 : aggB Tryz.prog 4 = false:=by kernel_rfl
@[simp] theorem k_cells4 : Tryz.prog.cellsOf 4 = 1:=by kernel_rfl
@[simp] theorem k_bytes4 : Tryz.prog.bytesOf 4 = 1:=by kernel_rfl
@[simp] theorem k_eq4 : eqKinds Tryz.prog 4 = some [SK.b]:=by kernel_rfl
@[simp] theorem k_guard4 : Tryz.prog.eqGuardType Tryz.prog.depth 4 = false:=by kernel_rfl
@[simp] theorem k_zero4 : zeroAV Tryz.prog 4 = some (AV.v (Value.bool false)):=by kernel_rfl
@[simp] theorem k_ok5 : okT Tryz.prog 5 = true:=by kernel_rfl
@[simp] theorem k_agg5 : aggB Tryz.prog 5 = false:=by kernel_rfl
@[simp] theorem k_cells5 : Tryz.prog.cellsOf 5 = 1:=by kernel_rfl
@[simp] theorem k_bytes5 : Tryz.prog.bytesOf 5 = 1:=by kernel_rfl
@[simp] theorem k_eq5 : eqKinds Tryz.prog 5 = some [SK.i]:=by kernel_rfl
@[simp] theorem k_guard5 : Tryz.prog.eqGuardType Tryz.prog.depth 5 = false:=by kernel_rfl
@[simp] theorem k_zero5 : zeroAV Tryz.prog 5 = some (AV.v (Value.int IntKind.u8 0)):=by kernel_rfl
@[simp] theorem k_ok6 : okT Tryz.prog 6 = true:=by kernel_rfl
@[simp] theorem k_agg6 : aggB Tryz.prog 6 = false:=by kernel_rfl
@[simp] theorem k_cells6 : Tryz.prog.cellsOf 6 = 1:=by kernel_rfl
@[simp] theorem k_bytes6 : Tryz.prog.bytesOf 6 = 1:=by kernel_rfl
@[simp] theorem k_eq6 : eqKinds Tryz.prog 6 = some [SK.i]:=by kernel_rfl
@[simp] theorem k_guard6 : Tryz.prog.eqGuardType Tryz.prog.depth 6 = false:=by kernel_rfl
@[simp] theorem k_zero6 : zeroAV Tryz.prog 6 = some (AV.v (Value.int IntKind.u8 0)):=by kernel_rfl
@[simp] theorem k_ok7 : okT Tryz.prog 7 = true:=by kernel_rfl
@[simp] theorem k_agg7 : aggB Tryz.prog 7 = true:=by kernel_rfl
@[simp] theorem k_cells7 : Tryz.prog.cellsOf 7 = 4:=by kernel_rfl
@[simp] theorem k_bytes7 : Tryz.prog.bytesOf 7 = 24:=by kernel_rfl
@[simp] theorem k_eq7 : eqKinds Tryz.prog 7 = some [SK.i,SK.i,SK.b,SK.i]:=by kernel_rfl
@[simp] theorem k_guard7 : Tryz.prog.eqGuardType Tryz.prog.depth 7 = false:=by kernel_rfl
@[simp] theorem k_zero7 : zeroAV Tryz.prog 7 = some (AV.st [AV.v (Value.int IntKind.i64 0),AV.v (Value.int IntKind.i64 0),AV.v (Value.bool false),AV.v (Value.int IntKind.u8 0)]):=by kernel_rfl
@[simp] theorem k_ok8 : okT Tryz.prog 8 = true:=by kernel_rfl
@[simp] theorem k_agg8 : aggB Tryz.prog 8 = true:=by kernel_rfl
@[simp] theorem k_cells8 : Tryz.prog.cellsOf 8 = 4:=by kernel_rfl
@[simp] theorem k_bytes8 : Tryz.prog.bytesOf 8 = 24:=by kernel_rfl
@[simp] theorem k_eq8 : eqKinds Tryz.prog 8 = some [SK.i,SK.i,SK.b,SK.i]:=by kernel_rfl
@[simp] theorem k_guard8 : Tryz.prog.eqGuardType Tryz.prog.depth 8 = false:=by kernel_rfl
@[simp] theorem k_zero8 : zeroAV Tryz.prog 8 = some (AV.st [AV.v (Value.int IntKind.i64 0),AV.v (Value.int IntKind.i64 0),AV.v (Value.bool false),AV.v (Value.int IntKind.u8 0)]):=by kernel_rfl
@[simp] theorem k_ok9 : okT Tryz.prog 9 = true:=by kernel_rfl
@[simp] theorem k_agg9 : aggB Tryz.prog 9 = false:=by kernel_rfl
@[simp] theorem k_cells9 : Tryz.prog.cellsOf 9 = 1:=by kernel_rfl
@[simp] theorem k_bytes9 : Tryz.prog.bytesOf 9 = 16:=by kernel_rfl
@[simp] theorem k_eq9 : eqKinds Tryz.prog 9 = some [SK.s]:=by kernel_rfl
@[simp] theorem k_guard9 : Tryz.prog.eqGuardType Tryz.prog.depth 9 = false:=by kernel_rfl
@[simp] theorem k_zero9 : zeroAV Tryz.prog 9 = some (AV.v (Value.string { data:={ toList:=[] } })):=by kernel_rfl
@[simp] theorem k_ok10 : okT Tryz.prog 10 = true:=by kernel_rfl
@[simp] theorem k_agg10 : aggB Tryz.prog 10 = false:=by kernel_rfl
@[simp] theorem k_cells10 : Tryz.prog.cellsOf 10 = 1:=by kernel_rfl
@[simp] theorem k_bytes10 : Tryz.prog.bytesOf 10 = 16:=by kernel_rfl
@[simp] theorem k_eq10 : eqKinds Tryz.prog 10 = some [SK.s]:=by kernel_rfl
@[simp] theorem k_guard10 : Tryz.prog.eqGuardType Tryz.prog.depth 10 = false:=by kernel_rfl
@[simp] theorem k_zero10 : zeroAV Tryz.prog 10 = some (AV.v (Value.string { data:={ toList:=[] } })):=by kernel_rfl
@[simp] theorem k_ok11 : okT Tryz.prog 11 = true:=by kernel_rfl
@[simp] theorem k_agg11 : aggB Tryz.prog 11 = false:=by kernel_rfl
@[simp] theorem k_cells11 : Tryz.prog.cellsOf 11 = 1:=by kernel_rfl
@[simp] theorem k_bytes11 : Tryz.prog.bytesOf 11 = 16:=by kernel_rfl
@[simp] theorem k_eq11 : eqKinds Tryz.prog 11 = some [SK.s]:=by kernel_rfl
@[simp] theorem k_guard11 : Tryz.prog.eqGuardType Tryz.prog.depth 11 = false:=by kernel_rfl
@[simp] theorem k_zero11 : zeroAV Tryz.prog 11 = some (AV.v (Value.string { data:={ toList:=[] } })):=by kernel_rfl
@[simp] theorem k_ok12 : okT Tryz.prog 12 = true:=by kernel_rfl
@[simp] theorem k_agg12 : aggB Tryz.prog 12 = false:=by kernel_rfl
@[simp] theorem k_cells12 : Tryz.prog.cellsOf 12 = 1:=by kernel_rfl
@[simp] theorem k_bytes12 : Tryz.prog.bytesOf 12 = 8:=by kernel_rfl
@[simp] theorem k_eq12 : eqKinds Tryz.prog 12 = some [SK.i]:=by kernel_rfl
@[simp] theorem k_guard12 : Tryz.prog.eqGuardType Tryz.prog.depth 12 = false:=by kernel_rfl
@[simp] theorem k_zero12 : zeroAV Tryz.prog 12 = some (AV.v (Value.int IntKind.u64 0)):=by kernel_rfl
@[simp] theorem k_ok13 : okT Tryz.prog 13 = true:=by kernel_rfl
@[simp] theorem k_agg13 : aggB Tryz.prog 13 = true:=by kernel_rfl
@[simp] theorem k_cells13 : Tryz.prog.cellsOf 13 = 2:=by kernel_rfl
@[simp] theorem k_bytes13 : Tryz.prog.bytesOf 13 = 24:=by kernel_rfl
@[simp] theorem k_eq13 : eqKinds Tryz.prog 13 = none:=by kernel_rfl
@[simp] theorem k_guard13 : Tryz.prog.eqGuardType Tryz.prog.depth 13 = false:=by kernel_rfl
@[simp] theorem k_zero13 : zeroAV Tryz.prog 13 = some (AV.st [AV.v (Value.string { data:={ toList:=[] } }),AV.v (Value.int IntKind.u64 0)]):=by kernel_rfl
@[simp] theorem k_ok14 : okT Tryz.prog 14 = true:=by kernel_rfl
@[simp] theorem k_agg14 : aggB Tryz.prog 14 = true:=by kernel_rfl
@[simp] theorem k_cells14 : Tryz.prog.cellsOf 14 = 2:=by kernel_rfl
@[simp] theorem k_bytes14 : Tryz.prog.bytesOf 14 = 24:=by kernel_rfl
@[simp] theorem k_eq14 : eqKinds Tryz.prog 14 = none:=by kernel_rfl
@[simp] theorem k_guard14 : Tryz.prog.eqGuardType Tryz.prog.depth 14 = false:=by kernel_rfl
@[simp] theorem k_zero14 : zeroAV Tryz.prog 14 = some (AV.st [AV.v (Value.string { data:={ toList:=[] } }),AV.v (Value.int IntKind.u64 0)]):=by kernel_rfl
@[simp] theorem k_ok15 : okT Tryz.prog 15 = true:=by kernel_rfl
@[simp] theorem k_agg15 : aggB Tryz.prog 15 = false:=by kernel_rfl
@[simp] theorem k_cells15 : Tryz.prog.cellsOf 15 = 1:=by kernel_rfl
@[simp] theorem k_bytes15 : Tryz.prog.bytesOf 15 = 8:=by kernel_rfl
@[simp] theorem k_eq15 : eqKinds Tryz.prog 15 = none:=by kernel_rfl
@[simp] theorem k_guard15 : Tryz.prog.eqGuardType Tryz.prog.depth 15 = false:=by kernel_rfl
@[simp] theorem k_zero15 : zeroAV Tryz.prog 15 = some (AV.v (Value.pointer none)):=by kernel_rfl
@[simp] theorem k_ok16 : okT Tryz.prog 16 = true:=by kernel_rfl
@[simp] theorem k_agg16 : aggB Tryz.prog 16 = false:=by kernel_rfl
@[simp] theorem k_cells16 : Tryz.prog.cellsOf 16 = 1:=by kernel_rfl
@[simp] theorem k_bytes16 : Tryz.prog.bytesOf 16 = 8:=by kernel_rfl
@[simp] theorem k_eq16 : eqKinds Tryz.prog 16 = none:=by kernel_rfl
@[simp] theorem k_guard16 : Tryz.prog.eqGuardType Tryz.prog.depth 16 = false:=by kernel_rfl
@[simp] theorem k_zero16 : zeroAV Tryz.prog 16 = some (AV.v (Value.pointer none)):=by kernel_rfl
@[simp] theorem k_ok17 : okT Tryz.prog 17 = true:=by kernel_rfl
@[simp] theorem k_agg17 : aggB Tryz.prog 17 = false:=by kernel_rfl
@[simp] theorem k_cells17 : Tryz.prog.cellsOf 17 = 1:=by kernel_rfl
@[simp] theorem k_bytes17 : Tryz.prog.bytesOf 17 = 8:=by kernel_rfl
@[simp] theorem k_eq17 : eqKinds Tryz.prog 17 = none:=by kernel_rfl
@[simp] theorem k_guard17 : Tryz.prog.eqGuardType Tryz.prog.depth 17 = false:=by kernel_rfl
@[simp] theorem k_zero17 : zeroAV Tryz.prog 17 = some (AV.v (Value.pointer none)):=by kernel_rfl
@[simp] theorem k_ok18 : okT Tryz.prog 18 = true:=by kernel_rfl
@[simp] theorem k_agg18 : aggB Tryz.prog 18 = true:=by kernel_rfl
@[simp] theorem k_cells18 : Tryz.prog.cellsOf 18 = 1:=by kernel_rfl
@[simp] theorem k_bytes18 : Tryz.prog.bytesOf 18 = 8:=by kernel_rfl
@[simp] theorem k_eq18 : eqKinds Tryz.prog 18 = none:=by kernel_rfl
@[simp] theorem k_guard18 : Tryz.prog.eqGuardType Tryz.prog.depth 18 = false:=by kernel_rfl
@[simp] theorem k_zero18 : zeroAV Tryz.prog 18 = some (AV.st [AV.v (Value.pointer none)]):=by kernel_rfl
@[simp] theorem k_ok19 : okT Tryz.prog 19 = true:=by kernel_rfl
@[simp] theorem k_agg19 : aggB Tryz.prog 19 = true:=by kernel_rfl
@[simp] theorem k_cells19 : Tryz.prog.cellsOf 19 = 1:=by kernel_rfl
@[simp] theorem k_bytes19 : Tryz.prog.bytesOf 19 = 8:=by kernel_rfl
@[simp] theorem k_eq19 : eqKinds Tryz.prog 19 = none:=by kernel_rfl
@[simp] theorem k_guard19 : Tryz.prog.eqGuardType Tryz.prog.depth 19 = false:=by kernel_rfl
@[simp] theorem k_zero19 : zeroAV Tryz.prog 19 = some (AV.st [AV.v (Value.pointer none)]):=by kernel_rfl
@[simp] theorem k_ok20 : okT Tryz.prog 20 = true:=by kernel_rfl
@[simp] theorem k_agg20 : aggB Tryz.prog 20 = false:=by kernel_rfl
@[simp] theorem k_cells20 : Tryz.prog.cellsOf 20 = 1:=by kernel_rfl
@[simp] theorem k_bytes20 : Tryz.prog.bytesOf 20 = 16:=by kernel_rfl
@[simp] theorem k_eq20 : eqKinds Tryz.prog 20 = none:=by kernel_rfl
@[simp] theorem k_guard20 : Tryz.prog.eqGuardType Tryz.prog.depth 20 = false:=by kernel_rfl
@[simp] theorem k_zero20 : zeroAV Tryz.prog 20 = some (AV.v Value.nilIface):=by kernel_rfl
@[simp] theorem k_ok21 : okT Tryz.prog 21 = true:=by kernel_rfl
@[simp] theorem k_agg21 : aggB Tryz.prog 21 = false:=by kernel_rfl
@[simp] theorem k_cells21 : Tryz.prog.cellsOf 21 = 1:=by kernel_rfl
@[simp] theorem k_bytes21 : Tryz.prog.bytesOf 21 = 4:=by kernel_rfl
@[simp] theorem k_eq21 : eqKinds Tryz.prog 21 = some [SK.i]:=by kernel_rfl
@[simp] theorem k_guard21 : Tryz.prog.eqGuardType Tryz.prog.depth 21 = false:=by kernel_rfl
@[simp] theorem k_zero21 : zeroAV Tryz.prog 21 = some (AV.v (Value.int IntKind.i32 0)):=by kernel_rfl
@[simp] theorem k_ok22 : okT Tryz.prog 22 = true:=by kernel_rfl
@[simp] theorem k_agg22 : aggB Tryz.prog 22 = false:=by kernel_rfl
@[simp] theorem k_cells22 : Tryz.prog.cellsOf 22 = 1:=by kernel_rfl
@[simp] theorem k_bytes22 : Tryz.prog.bytesOf 22 = 24:=by kernel_rfl
@[simp] theorem k_eq22 : eqKinds Tryz.prog 22 = none:=by kernel_rfl
@[simp] theorem k_guard22 : Tryz.prog.eqGuardType Tryz.prog.depth 22 = false:=by kernel_rfl
@[simp] theorem k_zero22 : zeroAV Tryz.prog 22 = some (AV.v (Value.slice none 0 0)):=by kernel_rfl
@[simp] theorem k_ok23 : okT Tryz.prog 23 = true:=by kernel_rfl
@[simp] theorem k_agg23 : aggB Tryz.prog 23 = false:=by kernel_rfl
@[simp] theorem k_cells23 : Tryz.prog.cellsOf 23 = 1:=by kernel_rfl
@[simp] theorem k_bytes23 : Tryz.prog.bytesOf 23 = 24:=by kernel_rfl
@[simp] theorem k_eq23 : eqKinds Tryz.prog 23 = none:=by kernel_rfl
@[simp] theorem k_guard23 : Tryz.prog.eqGuardType Tryz.prog.depth 23 = false:=by kernel_rfl
@[simp] theorem k_zero23 : zeroAV Tryz.prog 23 = some (AV.v (Value.slice none 0 0)):=by kernel_rfl
@[simp] theorem k_ok24 : okT Tryz.prog 24 = true:=by kernel_rfl
@[simp] theorem k_agg24 : aggB Tryz.prog 24 = true:=by kernel_rfl
@[simp] theorem k_cells24 : Tryz.prog.cellsOf 24 = 2:=by kernel_rfl
@[simp] theorem k_bytes24 : Tryz.prog.bytesOf 24 = 48:=by kernel_rfl
@[simp] theorem k_eq24 : eqKinds Tryz.prog 24 = none:=by kernel_rfl
@[simp] theorem k_guard24 : Tryz.prog.eqGuardType Tryz.prog.depth 24 = false:=by kernel_rfl
@[simp] theorem k_zero24 : zeroAV Tryz.prog 24 = some (AV.st [AV.v (Value.slice none 0 0),AV.v (Value.slice none 0 0)]):=by kernel_rfl
@[simp] theorem k_ok25 : okT Tryz.prog 25 = true:=by kernel_rfl
@[simp] theorem k_agg25 : aggB Tryz.prog 25 = true:=by kernel_rfl
@[simp] theorem k_cells25 : Tryz.prog.cellsOf 25 = 2:=by kernel_rfl
@[simp] theorem k_bytes25 : Tryz.prog.bytesOf 25 = 48:=by kernel_rfl
@[simp] theorem k_eq25 : eqKinds Tryz.prog 25 = none:=by kernel_rfl
@[simp] theorem k_guard25 : Tryz.prog.eqGuardType Tryz.prog.depth 25 = false:=by kernel_rfl
@[simp] theorem k_zero25 : zeroAV Tryz.prog 25 = some (AV.st [AV.v (Value.slice none 0 0),AV.v (Value.slice none 0 0)]):=by kernel_rfl
@[simp] theorem k_ok26 : okT Tryz.prog 26 = true:=by kernel_rfl
@[simp] theorem k_agg26 : aggB Tryz.prog 26 = true:=by kernel_rfl
@[simp] theorem k_cells26 : Tryz.prog.cellsOf 26 = 2:=by kernel_rfl
@[simp] theorem k_bytes26 : Tryz.prog.bytesOf 26 = 2:=by kernel_rfl
@[simp] theorem k_eq26 : eqKinds Tryz.prog 26 = none:=by kernel_rfl
@[simp] theorem k_guard26 : Tryz.prog.eqGuardType Tryz.prog.depth 26 = false:=by kernel_rfl
@[simp] theorem k_zero26 : zeroAV Tryz.prog 26 = some (AV.st [AV.v (Value.int IntKind.u8 0),AV.v (Value.int IntKind.u8 0)]):=by kernel_rfl
@[simp] theorem k_ok27 : okT Tryz.prog 27 = true:=by kernel_rfl
@[simp] theorem k_agg27 : aggB Tryz.prog 27 = true:=by kernel_rfl
@[simp] theorem k_cells27 : Tryz.prog.cellsOf 27 = 6:=by kernel_rfl
@[simp] theorem k_bytes27 : Tryz.prog.bytesOf 27 = 48:=by kernel_rfl
@[simp] theorem k_eq27 : eqKinds Tryz.prog 27 = some [SK.i,SK.i,SK.i,SK.i,SK.i,SK.i]:=by kernel_rfl
@[simp] theorem k_guard27 : Tryz.prog.eqGuardType Tryz.prog.depth 27 = false:=by kernel_rfl
@[simp] theorem k_zero27 : zeroAV Tryz.prog 27 = some (AV.st [AV.v (Value.int IntKind.i64 0),AV.v (Value.int IntKind.i64 0),AV.v (Value.int IntKind.i64 0),AV.v (Value.int IntKind.i64 0),AV.v (Value.int IntKind.i64 0),AV.v (Value.int IntKind.i64 0)]):=by kernel_rfl
@[simp] theorem k_ok28 : okT Tryz.prog 28 = true:=by kernel_rfl
@[simp] theorem k_agg28 : aggB Tryz.prog 28 = true:=by kernel_rfl
@[simp] theorem k_cells28 : Tryz.prog.cellsOf 28 = 6:=by kernel_rfl
@[simp] theorem k_bytes28 : Tryz.prog.bytesOf 28 = 48:=by kernel_rfl
@[simp] theorem k_eq28 : eqKinds Tryz.prog 28 = some [SK.i,SK.i,SK.i,SK.i,SK.i,SK.i]:=by kernel_rfl
@[simp] theorem k_guard28 : Tryz.prog.eqGuardType Tryz.prog.depth 28 = false:=by kernel_rfl
@[simp] theorem k_zero28 : zeroAV Tryz.prog 28 = some (AV.st [AV.v (Value.int IntKind.i64 0),AV.v (Value.int IntKind.i64 0),AV.v (Value.int IntKind.i64 0),AV.v (Value.int IntKind.i64 0),AV.v (Value.int IntKind.i64 0),AV.v (Value.int IntKind.i64 0)]):=by kernel_rfl
@[simp] theorem k_ok29 : okT Tryz.prog 29 = true:=by kernel_rfl
@[simp] theorem k_agg29 : aggB Tryz.prog 29 = false:=by kernel_rfl
@[simp] theorem k_cells29 : Tryz.prog.cellsOf 29 = 1:=by kernel_rfl
@[simp] theorem k_bytes29 : Tryz.prog.bytesOf 29 = 8:=by kernel_rfl
@[simp] theorem k_eq29 : eqKinds Tryz.prog 29 = none:=by kernel_rfl
@[simp] theorem k_guard29 : Tryz.prog.eqGuardType Tryz.prog.depth 29 = false:=by kernel_rfl
@[simp] theorem k_zero29 : zeroAV Tryz.prog 29 = some (AV.v Value.nilFunc):=by kernel_rfl
@[simp] theorem k_ok30 : okT Tryz.prog 30 = true:=by kernel_rfl
@[simp] theorem k_agg30 : aggB Tryz.prog 30 = false:=by kernel_rfl
@[simp] theorem k_cells30 : Tryz.prog.cellsOf 30 = 1:=by kernel_rfl
@[simp] theorem k_bytes30 : Tryz.prog.bytesOf 30 = 8:=by kernel_rfl
@[simp] theorem k_eq30 : eqKinds Tryz.prog 30 = none:=by kernel_rfl
@[simp] theorem k_guard30 : Tryz.prog.eqGuardType Tryz.prog.depth 30 = false:=by kernel_rfl
@[simp] theorem k_zero30 : zeroAV Tryz.prog 30 = some (AV.v Value.nilFunc):=by kernel_rfl
@[simp] theorem k_ok31 : okT Tryz.prog 31 = true:=by kernel_rfl
@[simp] theorem k_agg31 : aggB Tryz.prog 31 = false:=by kernel_rfl
@[simp] theorem k_cells31 : Tryz.prog.cellsOf 31 = 1:=by kernel_rfl
@[simp] theorem k_bytes31 : Tryz.prog.bytesOf 31 = 24:=by kernel_rfl
@[simp] theorem k_eq31 : eqKinds Tryz.prog 31 = none:=by kernel_rfl
@[simp] theorem k_guard31 : Tryz.prog.eqGuardType Tryz.prog.depth 31 = false:=by kernel_rfl
@[simp] theorem k_zero31 : zeroAV Tryz.prog 31 = some (AV.v (Value.slice none 0 0)):=by kernel_rfl
@[simp] theorem k_ok32 : okT Tryz.prog 32 = true:=by kernel_rfl
@[simp] theorem k_agg32 : aggB Tryz.prog 32 = false:=by kernel_rfl
@[simp] theorem k_cells32 : Tryz.prog.cellsOf 32 = 1:=by kernel_rfl
@[simp] theorem k_bytes32 : Tryz.prog.bytesOf 32 = 24:=by kernel_rfl
@[simp] theorem k_eq32 : eqKinds Tryz.prog 32 = none:=by kernel_rfl
@[simp] theorem k_guard32 : Tryz.prog.eqGuardType Tryz.prog.depth 32 = false:=by kernel_rfl
@[simp] theorem k_zero32 : zeroAV Tryz.prog 32 = some (AV.v (Value.slice none 0 0)):=by kernel_rfl
@[simp] theorem k_ok33 : okT Tryz.prog 33 = true:=by kernel_rfl
@[simp] theorem k_agg33 : aggB Tryz.prog 33 = true:=by kernel_rfl
@[simp] theorem k_cells33 : Tryz.prog.cellsOf 33 = 3:=by kernel_rfl
@[simp] theorem k_bytes33 : Tryz.prog.bytesOf 33 = 56:=by kernel_rfl
@[simp] theorem k_eq33 : eqKinds Tryz.prog 33 = none:=by kernel_rfl
@[simp] theorem k_guard33 : Tryz.prog.eqGuardType Tryz.prog.depth 33 = false:=by kernel_rfl
@[simp] theorem k_zero33 : zeroAV Tryz.prog 33 = some (AV.st [AV.v (Value.int IntKind.i64 0),AV.v (Value.slice none 0 0),AV.v (Value.slice none 0 0)]):=by kernel_rfl
@[simp] theorem k_ok34 : okT Tryz.prog 34 = true:=by kernel_rfl
@[simp] theorem k_agg34 : aggB Tryz.prog 34 = true:=by kernel_rfl
@[simp] theorem k_cells34 : Tryz.prog.cellsOf 34 = 3:=by kernel_rfl
@[simp] theorem k_bytes34 : Tryz.prog.bytesOf 34 = 56:=by kernel_rfl
@[simp] theorem k_eq34 : eqKinds Tryz.prog 34 = none:=by kernel_rfl
@[simp] theorem k_guard34 : Tryz.prog.eqGuardType Tryz.prog.depth 34 = false:=by kernel_rfl
@[simp] theorem k_zero34 : zeroAV Tryz.prog 34 = some (AV.st [AV.v (Value.int IntKind.i64 0),AV.v (Value.slice none 0 0),AV.v (Value.slice none 0 0)]):=by kernel_rfl
@[simp] theorem k_ok35 : okT Tryz.prog 35 = true:=by kernel_rfl
@[simp] theorem k_agg35 : aggB Tryz.prog 35 = false:=by kernel_rfl
@[simp] theorem k_cells35 : Tryz.prog.cellsOf 35 = 1:=by kernel_rfl
@[simp] theorem k_bytes35 : Tryz.prog.bytesOf 35 = 8:=by kernel_rfl
@[simp] theorem k_eq35 : eqKinds Tryz.prog 35 = none:=by kernel_rfl
@[simp] theorem k_guard35 : Tryz.prog.eqGuardType Tryz.prog.depth 35 = false:=by kernel_rfl
@[simp] theorem k_zero35 : zeroAV Tryz.prog 35 = some (AV.v Value.nilFunc):=by kernel_rfl
@[simp] theorem k_ok36 : okT Tryz.prog 36 = true:=by kernel_rfl
@[simp] theorem k_agg36 : aggB Tryz.prog 36 = false:=by kernel_rfl
@[simp] theorem k_cells36 : Tryz.prog.cellsOf 36 = 1:=by kernel_rfl
@[simp] theorem k_bytes36 : Tryz.prog.bytesOf 36 = 24:=by kernel_rfl
@[simp] theorem k_eq36 : eqKinds Tryz.prog 36 = none:=by kernel_rfl
@[simp] theorem k_guard36 : Tryz.prog.eqGuardType Tryz.prog.depth 36 = false:=by kernel_rfl
@[simp] theorem k_zero36 : zeroAV Tryz.prog 36 = some (AV.v (Value.slice none 0 0)):=by kernel_rfl
@[simp] theorem k_ok37 : okT Tryz.prog 37 = true:=by kernel_rfl
@[simp] theorem k_agg37 : aggB Tryz.prog 37 = false:=by kernel_rfl
@[simp] theorem k_cells37 : Tryz.prog.cellsOf 37 = 1:=by kernel_rfl
@[simp] theorem k_bytes37 : Tryz.prog.bytesOf 37 = 8:=by kernel_rfl
@[simp] theorem k_eq37 : eqKinds Tryz.prog 37 = none:=by kernel_rfl
@[simp] theorem k_guard37 : Tryz.prog.eqGuardType Tryz.prog.depth 37 = false:=by kernel_rfl
@[simp] theorem k_zero37 : zeroAV Tryz.prog 37 = some (AV.v Value.nilFunc):=by kernel_rfl
@[simp] theorem k_ok38 : okT Tryz.prog 38 = true:=by kernel_rfl
@[simp] theorem k_agg38 : aggB Tryz.prog 38 = false:=by kernel_rfl
@[simp] theorem k_cells38 : Tryz.prog.cellsOf 38 = 1:=by kernel_rfl
@[simp] theorem k_bytes38 : Tryz.prog.bytesOf 38 = 8:=by kernel_rfl
@[simp] theorem k_eq38 : eqKinds Tryz.prog 38 = none:=by kernel_rfl
@[simp] theorem k_guard38 : Tryz.prog.eqGuardType Tryz.prog.depth 38 = false:=by kernel_rfl
@[simp] theorem k_zero38 : zeroAV Tryz.prog 38 = some (AV.v Value.nilFunc):=by kernel_rfl
@[simp] theorem k_ok39 : okT Tryz.prog 39 = true:=by kernel_rfl
@[simp] theorem k_agg39 : aggB Tryz.prog 39 = false:=by kernel_rfl
@[simp] theorem k_cells39 : Tryz.prog.cellsOf 39 = 1:=by kernel_rfl
@[simp] theorem k_bytes39 : Tryz.prog.bytesOf 39 = 24:=by kernel_rfl
@[simp] theorem k_eq39 : eqKinds Tryz.prog 39 = none:=by kernel_rfl
@[simp] theorem k_guard39 : Tryz.prog.eqGuardType Tryz.prog.depth 39 = false:=by kernel_rfl
@[simp] theorem k_zero39 : zeroAV Tryz.prog 39 = some (AV.v (Value.slice none 0 0)):=by kernel_rfl
@[simp] theorem k_ok40 : okT Tryz.prog 40 = true:=by kernel_rfl
@[simp] theorem k_agg40 : aggB Tryz.prog 40 = false:=by kernel_rfl
@[simp] theorem k_cells40 : Tryz.prog.cellsOf 40 = 1:=by kernel_rfl
@[simp] theorem k_bytes40 : Tryz.prog.bytesOf 40 = 0:=by kernel_rfl
@[simp] theorem k_eq40 : eqKinds Tryz.prog 40 = none:=by kernel_rfl
@[simp] theorem k_guard40 : Tryz.prog.eqGuardType Tryz.prog.depth 40 = false:=by kernel_rfl
@[simp] theorem k_zero40 : zeroAV Tryz.prog 40 = some AV.u:=by kernel_rfl
@[simp] theorem k_ok41 : okT Tryz.prog 41 = true:=by kernel_rfl
@[simp] theorem k_agg41 : aggB Tryz.prog 41 = false:=by kernel_rfl
@[simp] theorem k_cells41 : Tryz.prog.cellsOf 41 = 1:=by kernel_rfl
@[simp] theorem k_bytes41 : Tryz.prog.bytesOf 41 = 8:=by kernel_rfl
@[simp] theorem k_eq41 : eqKinds Tryz.prog 41 = none:=by kernel_rfl
@[simp] theorem k_guard41 : Tryz.prog.eqGuardType Tryz.prog.depth 41 = false:=by kernel_rfl
@[simp] theorem k_zero41 : zeroAV Tryz.prog 41 = some (AV.v Value.nilFunc):=by kernel_rfl
@[simp] theorem k_ok42 : okT Tryz.prog 42 = true:=by kernel_rfl
@[simp] theorem k_agg42 : aggB Tryz.prog 42 = false:=by kernel_rfl
@[simp] theorem k_cells42 : Tryz.prog.cellsOf 42 = 1:=by kernel_rfl
@[simp] theorem k_bytes42 : Tryz.prog.bytesOf 42 = 8:=by kernel_rfl
@[simp] theorem k_eq42 : eqKinds Tryz.prog 42 = none:=by kernel_rfl
@[simp] theorem k_guard42 : Tryz.prog.eqGuardType Tryz.prog.depth 42 = false:=by kernel_rfl
@[simp] theorem k_zero42 : zeroAV Tryz.prog 42 = some (AV.v Value.nilFunc):=by kernel_rfl
@[simp] theorem k_ok43 : okT Tryz.prog 43 = true:=by kernel_rfl
@[simp] theorem k_agg43 : aggB Tryz.prog 43 = false:=by kernel_rfl
@[simp] theorem k_cells43 : Tryz.prog.cellsOf 43 = 1:=by kernel_rfl
@[simp] theorem k_bytes43 : Tryz.prog.bytesOf 43 = 8:=by kernel_rfl
@[simp] theorem k_eq43 : eqKinds Tryz.prog 43 = none:=by kernel_rfl
@[simp] theorem k_guard43 : Tryz.prog.eqGuardType Tryz.prog.depth 43 = false:=by kernel_rfl
@[simp] theorem k_zero43 : zeroAV Tryz.prog 43 = some (AV.v Value.nilFunc):=by kernel_rfl
@[simp] theorem k_ok44 : okT Tryz.prog 44 = true:=by kernel_rfl
@[simp] theorem k_agg44 : aggB Tryz.prog 44 = false:=by kernel_rfl
@[simp] theorem k_cells44 : Tryz.prog.cellsOf 44 = 1:=by kernel_rfl
@[simp] theorem k_bytes44 : Tryz.prog.bytesOf 44 = 8:=by kernel_rfl
@[simp] theorem k_eq44 : eqKinds Tryz.prog 44 = none:=by kernel_rfl
@[simp] theorem k_guard44 : Tryz.prog.eqGuardType Tryz.prog.depth 44 = false:=by kernel_rfl
@[simp] theorem k_zero44 : zeroAV Tryz.prog 44 = some (AV.v Value.nilFunc):=by kernel_rfl
@[simp] theorem k_ok46 : okT Tryz.prog 46 = true:=by kernel_rfl
@[simp] theorem k_agg46 : aggB Tryz.prog 46 = false:=by kernel_rfl
@[simp] theorem k_cells46 : Tryz.prog.cellsOf 46 = 1:=by kernel_rfl
@[simp] theorem k_bytes46 : Tryz.prog.bytesOf 46 = 8:=by kernel_rfl
@[simp] theorem k_eq46 : eqKinds Tryz.prog 46 = none:=by kernel_rfl
@[simp] theorem k_guard46 : Tryz.prog.eqGuardType Tryz.prog.depth 46 = false:=by kernel_rfl
@[simp] theorem k_zero46 : zeroAV Tryz.prog 46 = some (AV.v Value.nilFunc):=by kernel_rfl
@[simp] theorem k_ok47 : okT Tryz.prog 47 = true:=by kernel_rfl
@[simp] theorem k_agg47 : aggB Tryz.prog 47 = false:=by kernel_rfl
@[simp] theorem k_cells47 : Tryz.prog.cellsOf 47 = 1:=by kernel_rfl
@[simp] theorem k_bytes47 : Tryz.prog.bytesOf 47 = 8:=by kernel_rfl
@[simp] theorem k_eq47 : eqKinds Tryz.prog 47 = none:=by kernel_rfl
@[simp] theorem k_guard47 : Tryz.prog.eqGuardType Tryz.prog.depth 47 = false:=by kernel_rfl
@[simp] theorem k_zero47 : zeroAV Tryz.prog 47 = some (AV.v Value.nilFunc):=by kernel_rfl
@[simp] theorem k_ok48 : okT Tryz.prog 48 = true:=by kernel_rfl
@[simp] theorem k_agg48 : aggB Tryz.prog 48 = false:=by kernel_rfl
@[simp] theorem k_cells48 : Tryz.prog.cellsOf 48 = 1:=by kernel_rfl
@[simp] theorem k_bytes48 : Tryz.prog.bytesOf 48 = 8:=by kernel_rfl
@[simp] theorem k_eq48 : eqKinds Tryz.prog 48 = none:=by kernel_rfl
@[simp] theorem k_guard48 : Tryz.prog.eqGuardType Tryz.prog.depth 48 = false:=by kernel_rfl
@[simp] theorem k_zero48 : zeroAV Tryz.prog 48 = some (AV.v Value.nilFunc):=by kernel_rfl
@[simp] theorem k_ok49 : okT Tryz.prog 49 = true:=by kernel_rfl
@[simp] theorem k_agg49 : aggB Tryz.prog 49 = true:=by kernel_rfl
@[simp] theorem k_cells49 : Tryz.prog.cellsOf 49 = 4:=by kernel_rfl
@[simp] theorem k_bytes49 : Tryz.prog.bytesOf 49 = 4:=by kernel_rfl
@[simp] theorem k_eq49 : eqKinds Tryz.prog 49 = none:=by kernel_rfl
@[simp] theorem k_guard49 : Tryz.prog.eqGuardType Tryz.prog.depth 49 = false:=by kernel_rfl
@[simp] theorem k_zero49 : zeroAV Tryz.prog 49 = some (AV.st [AV.v (Value.int IntKind.u8 0),AV.v (Value.int IntKind.u8 0),AV.v (Value.int IntKind.u8 0),AV.v (Value.int IntKind.u8 0)]):=by kernel_rfl
@[simp] theorem k_ok50 : okT Tryz.prog 50 = true:=by kernel_rfl
@[simp] theorem k_agg50 : aggB Tryz.prog 50 = false:=by kernel_rfl
@[simp] theorem k_cells50 : Tryz.prog.cellsOf 50 = 1:=by kernel_rfl
@[simp] theorem k_bytes50 : Tryz.prog.bytesOf 50 = 24:=by kernel_rfl
@[simp] theorem k_eq50 : eqKinds Tryz.prog 50 = none:=by kernel_rfl
@[simp] theorem k_guard50 : Tryz.prog.eqGuardType Tryz.prog.depth 50 = false:=by kernel_rfl
@[simp] theorem k_zero50 : zeroAV Tryz.prog 50 = some (AV.v (Value.slice none 0 0)):=by kernel_rfl
@[simp] theorem k_ok51 : okT Tryz.prog 51 = true:=by kernel_rfl
@[simp] theorem k_agg51 : aggB Tryz.prog 51 = true:=by kernel_rfl
@[simp] theorem k_cells51 : Tryz.prog.cellsOf 51 = 9:=by kernel_rfl
@[simp] theorem k_bytes51 : Tryz.prog.bytesOf 51 = 88:=by kernel_rfl
@[simp] theorem k_eq51 : eqKinds Tryz.prog 51 = none:=by kernel_rfl
@[simp] theorem k_guard51 : Tryz.prog.eqGuardType Tryz.prog.depth 51 = false:=by kernel_rfl
@[simp] theorem k_zero51 : zeroAV Tryz.prog 51 = some (AV.st [AV.v (Value.int IntKind.i64 0),AV.v (Value.int IntKind.i64 0),AV.v (Value.slice none 0 0),AV.v (Value.int IntKind.i64 0),AV.v (Value.int IntKind.i64 0),AV.v (Value.int IntKind.i64 0),AV.v (Value.int IntKind.i64 0),AV.v (Value.int IntKind.i64 0),AV.v (Value.int IntKind.i64 0)]):=by kernel_rfl
@[simp] theorem k_ok52 : okT Tryz.prog 52 = true:=by kernel_rfl
@[simp] theorem k_agg52 : aggB Tryz.prog 52 = true:=by kernel_rfl
@[simp] theorem k_cells52 : Tryz.prog.cellsOf 52 = 9:=by kernel_rfl
@[simp] theorem k_bytes52 : Tryz.prog.bytesOf 52 = 88:=by kernel_rfl
@[simp] theorem k_eq52 : eqKinds Tryz.prog 52 = none:=by kernel_rfl
@[simp] theorem k_guard52 : Tryz.prog.eqGuardType Tryz.prog.depth 52 = false:=by kernel_rfl
@[simp] theorem k_zero52 : zeroAV Tryz.prog 52 = some (AV.st [AV.v (Value.int IntKind.i64 0),AV.v (Value.int IntKind.i64 0),AV.v (Value.slice none 0 0),AV.v (Value.int IntKind.i64 0),AV.v (Value.int IntKind.i64 0),AV.v (Value.int IntKind.i64 0),AV.v (Value.int IntKind.i64 0),AV.v (Value.int IntKind.i64 0),AV.v (Value.int IntKind.i64 0)]):=by kernel_rfl
@[simp] theorem k_ok53 : okT Tryz.prog 53 = true:=by kernel_rfl
@[simp] theorem k_agg53 : aggB Tryz.prog 53 = false:=by kernel_rfl
@[simp] theorem k_cells53 : Tryz.prog.cellsOf 53 = 1:=by kernel_rfl
@[simp] theorem k_bytes53 : Tryz.prog.bytesOf 53 = 8:=by kernel_rfl
@[simp] theorem k_eq53 : eqKinds Tryz.prog 53 = none:=by kernel_rfl
@[simp] theorem k_guard53 : Tryz.prog.eqGuardType Tryz.prog.depth 53 = false:=by kernel_rfl
@[simp] theorem k_zero53 : zeroAV Tryz.prog 53 = some (AV.v Value.nilFunc):=by kernel_rfl
@[simp] theorem k_ok55 : okT Tryz.prog 55 = true:=by kernel_rfl
@[simp] theorem k_agg55 : aggB Tryz.prog 55 = true:=by kernel_rfl
@[simp] theorem k_cells55 : Tryz.prog.cellsOf 55 = 3:=by kernel_rfl
@[simp] theorem k_bytes55 : Tryz.prog.bytesOf 55 = 24:=by kernel_rfl
@[simp] theorem k_eq55 : eqKinds Tryz.prog 55 = none:=by kernel_rfl
@[simp] theorem k_guard55 : Tryz.prog.eqGuardType Tryz.prog.depth 55 = false:=by kernel_rfl
@[simp] theorem k_zero55 : zeroAV Tryz.prog 55 = some (AV.st [AV.v (Value.int IntKind.i64 0),AV.v (Value.int IntKind.i64 0),AV.v (Value.int IntKind.i64 0)]):=by kernel_rfl
@[simp] theorem k_ok56 : okT Tryz.prog 56 = true:=by kernel_rfl
@[simp] theorem k_agg56 : aggB Tryz.prog 56 = false:=by kernel_rfl
@[simp] theorem k_cells56 : Tryz.prog.cellsOf 56 = 1:=by kernel_rfl
@[simp] theorem k_bytes56 : Tryz.prog.bytesOf 56 = 24:=by kernel_rfl
@[simp] theorem k_eq56 : eqKinds Tryz.prog 56 = none:=by kernel_rfl
@[simp] theorem k_guard56 : Tryz.prog.eqGuardType Tryz.prog.depth 56 = false:=by kernel_rfl
@[simp] theorem k_zero56 : zeroAV Tryz.prog 56 = some (AV.v (Value.slice none 0 0)):=by kernel_rfl
@[simp] theorem k_ok57 : okT Tryz.prog 57 = true:=by kernel_rfl
@[simp] theorem k_agg57 : aggB Tryz.prog 57 = false:=by kernel_rfl
@[simp] theorem k_cells57 : Tryz.prog.cellsOf 57 = 1:=by kernel_rfl
@[simp] theorem k_bytes57 : Tryz.prog.bytesOf 57 = 8:=by kernel_rfl
@[simp] theorem k_eq57 : eqKinds Tryz.prog 57 = some [SK.i]:=by kernel_rfl
@[simp] theorem k_guard57 : Tryz.prog.eqGuardType Tryz.prog.depth 57 = false:=by kernel_rfl
@[simp] theorem k_zero57 : zeroAV Tryz.prog 57 = some (AV.v (Value.int IntKind.i64 0)):=by kernel_rfl
@[simp] theorem k_ok66 : okT Tryz.prog 66 = true:=by kernel_rfl
@[simp] theorem k_agg66 : aggB Tryz.prog 66 = true:=by kernel_rfl
@[simp] theorem k_cells66 : Tryz.prog.cellsOf 66 = 8:=by kernel_rfl
@[simp] theorem k_bytes66 : Tryz.prog.bytesOf 66 = 64:=by kernel_rfl
@[simp] theorem k_eq66 : eqKinds Tryz.prog 66 = some [SK.i,SK.i,SK.i,SK.i,SK.i,SK.i,SK.i,SK.i]:=by kernel_rfl
@[simp] theorem k_guard66 : Tryz.prog.eqGuardType Tryz.prog.depth 66 = false:=by kernel_rfl
@[simp] theorem k_zero66 : zeroAV Tryz.prog 66 = some (AV.st [AV.v (Value.int IntKind.i64 0),AV.v (Value.int IntKind.i64 0),AV.v (Value.int IntKind.i64 0),AV.v (Value.int IntKind.i64 0),AV.v (Value.int IntKind.i64 0),AV.v (Value.int IntKind.i64 0),AV.v (Value.int IntKind.i64 0),AV.v (Value.int IntKind.i64 0)]):=by kernel_rfl
@[simp] theorem k_ok67 : okT Tryz.prog 67 = true:=by kernel_rfl
@[simp] theorem k_agg67 : aggB Tryz.prog 67 = false:=by kernel_rfl
@[simp] theorem k_cells67 : Tryz.prog.cellsOf 67 = 1:=by kernel_rfl
@[simp] theorem k_bytes67 : Tryz.prog.bytesOf 67 = 24:=by kernel_rfl
@[simp] theorem k_eq67 : eqKinds Tryz.prog 67 = none:=by kernel_rfl
@[simp] theorem k_guard67 : Tryz.prog.eqGuardType Tryz.prog.depth 67 = false:=by kernel_rfl
@[simp] theorem k_zero67 : zeroAV Tryz.prog 67 = some (AV.v (Value.slice none 0 0)):=by kernel_rfl
@[simp] theorem k_ok76 : okT Tryz.prog 76 = true:=by kernel_rfl
@[simp] theorem k_agg76 : aggB Tryz.prog 76 = true:=by kernel_rfl
@[simp] theorem k_cells76 : Tryz.prog.cellsOf 76 = 2:=by kernel_rfl
@[simp] theorem k_bytes76 : Tryz.prog.bytesOf 76 = 32:=by kernel_rfl
@[simp] theorem k_eq76 : eqKinds Tryz.prog 76 = none:=by kernel_rfl
@[simp] theorem k_guard76 : Tryz.prog.eqGuardType Tryz.prog.depth 76 = false:=by kernel_rfl
@[simp] theorem k_zero76 : zeroAV Tryz.prog 76 = some (AV.st [AV.v (Value.int IntKind.i64 0),AV.v (Value.slice none 0 0)]):=by kernel_rfl
@[simp] theorem k_ok82 : okT Tryz.prog 82 = true:=by kernel_rfl
@[simp] theorem k_agg82 : aggB Tryz.prog 82 = true:=by kernel_rfl
@[simp] theorem k_cells82 : Tryz.prog.cellsOf 82 = 2:=by kernel_rfl
@[simp] theorem k_bytes82 : Tryz.prog.bytesOf 82 = 24:=by kernel_rfl
@[simp] theorem k_eq82 : eqKinds Tryz.prog 82 = some [SK.b,SK.s]:=by kernel_rfl
@[simp] theorem k_guard82 : Tryz.prog.eqGuardType Tryz.prog.depth 82 = false:=by kernel_rfl
@[simp] theorem k_zero82 : zeroAV Tryz.prog 82 = some (AV.st [AV.v (Value.bool false),AV.v (Value.string { data:={ toList:=[] } })]):=by kernel_rfl
@[simp] theorem k_ok84 : okT Tryz.prog 84 = true:=by kernel_rfl
@[simp] theorem k_agg84 : aggB Tryz.prog 84 = true:=by kernel_rfl
@[simp] theorem k_cells84 : Tryz.prog.cellsOf 84 = 4:=by kernel_rfl
@[simp] theorem k_bytes84 : Tryz.prog.bytesOf 84 = 48:=by kernel_rfl
@[simp] theorem k_eq84 : eqKinds Tryz.prog 84 = some [SK.b,SK.s,SK.b,SK.s]:=by kernel_rfl
@[simp] theorem k_guard84 : Tryz.prog.eqGuardType Tryz.prog.depth 84 = false:=by kernel_rfl
@[simp] theorem k_zero84 : zeroAV Tryz.prog 84 = some (AV.st [AV.v (Value.bool false),AV.v (Value.string { data:={ toList:=[] } }),AV.v (Value.bool false),AV.v (Value.string { data:={ toList:=[] } })]):=by kernel_rfl
@[simp] theorem k_ok88 : okT Tryz.prog 88 = true:=by kernel_rfl
@[simp] theorem k_agg88 : aggB Tryz.prog 88 = true:=by kernel_rfl
@[simp] theorem k_cells88 : Tryz.prog.cellsOf 88 = 8:=by kernel_rfl
@[simp] theorem k_bytes88 : Tryz.prog.bytesOf 88 = 96:=by kernel_rfl
@[simp] theorem k_eq88 : eqKinds Tryz.prog 88 = some [SK.b,SK.s,SK.b,SK.s,SK.b,SK.s,SK.b,SK.s]:=by kernel_rfl
@[simp] theorem k_guard88 : Tryz.prog.eqGuardType Tryz.prog.depth 88 = false:=by kernel_rfl
@[simp] theorem k_zero88 : zeroAV Tryz.prog 88 = some (AV.st [AV.v (Value.bool false),AV.v (Value.string { data:={ toList:=[] } }),AV.v (Value.bool false),AV.v (Value.string { data:={ toList:=[] } }),AV.v (Value.bool false),AV.v (Value.string { data:={ toList:=[] } }),AV.v (Value.bool false),AV.v (Value.string { data:={ toList:=[] } })]):=by kernel_rfl
@[simp] theorem k_ok92 : okT Tryz.prog 92 = true:=by kernel_rfl
@[simp] theorem k_agg92 : aggB Tryz.prog 92 = true:=by kernel_rfl
@[simp] theorem k_cells92 : Tryz.prog.cellsOf 92 = 9:=by kernel_rfl
@[simp] theorem k_bytes92 : Tryz.prog.bytesOf 92 = 104:=by kernel_rfl
@[simp] theorem k_eq92 : eqKinds Tryz.prog 92 = some [SK.b,SK.s,SK.b,SK.s,SK.b,SK.s,SK.b,SK.s,SK.b]:=by kernel_rfl
@[simp] theorem k_guard92 : Tryz.prog.eqGuardType Tryz.prog.depth 92 = false:=by kernel_rfl
@[simp] theorem k_zero92 : zeroAV Tryz.prog 92 = some (AV.st [AV.v (Value.bool false),AV.v (Value.string { data:={ toList:=[] } }),AV.v (Value.bool false),AV.v (Value.string { data:={ toList:=[] } }),AV.v (Value.bool false),AV.v (Value.string { data:={ toList:=[] } }),AV.v (Value.bool false),AV.v (Value.string { data:={ toList:=[] } }),AV.v (Value.bool false)]):=by kernel_rfl
@[simp] theorem k_ok95 : okT Tryz.prog 95 = true:=by kernel_rfl
@[simp] theorem k_agg95 : aggB Tryz.prog 95 = true:=by kernel_rfl
@[simp] theorem k_cells95 : Tryz.prog.cellsOf 95 = 20:=by kernel_rfl
@[simp] theorem k_bytes95 : Tryz.prog.bytesOf 95 = 216:=by kernel_rfl
@[simp] theorem k_eq95 : eqKinds Tryz.prog 95 = some [SK.b,SK.s,SK.b,SK.s,SK.b,SK.s,SK.b,SK.s,SK.b,SK.b,SK.s,SK.b,SK.s,SK.b,SK.s,SK.b,SK.s,SK.b,SK.b,SK.b]:=by kernel_rfl
@[simp] theorem k_guard95 : Tryz.prog.eqGuardType Tryz.prog.depth 95 = false:=by kernel_rfl
@[simp] theorem k_zero95 : zeroAV Tryz.prog 95 = some (AV.st [AV.v (Value.bool false),AV.v (Value.string { data:={ toList:=[] } }),AV.v (Value.bool false),AV.v (Value.string { data:={ toList:=[] } }),AV.v (Value.bool false),AV.v (Value.string { data:={ toList:=[] } }),AV.v (Value.bool false),AV.v (Value.string { data:={ toList:=[] } }),AV.v (Value.bool false),AV.v (Value.bool false),AV.v (Value.string { data:={ toList:=[] } }),AV.v (Value.bool false),AV.v (Value.string { data:={ toList:=[] } }),AV.v (Value.bool false),AV.v (Value.string { data:={ toList:=[] } }),AV.v (Value.bool false),AV.v (Value.string { data:={ toList:=[] } }),AV.v (Value.bool false),AV.v (Value.bool false),AV.v (Value.bool false)]):=by kernel_rfl
@[simp] theorem k_ok101 : okT Tryz.prog 101 = true:=by kernel_rfl
@[simp] theorem k_agg101 : aggB Tryz.prog 101 = true:=by kernel_rfl
@[simp] theorem k_cells101 : Tryz.prog.cellsOf 101 = 2:=by kernel_rfl
@[simp] theorem k_bytes101 : Tryz.prog.bytesOf 101 = 16:=by kernel_rfl
@[simp] theorem k_eq101 : eqKinds Tryz.prog 101 = some [SK.i,SK.i]:=by kernel_rfl
@[simp] theorem k_guard101 : Tryz.prog.eqGuardType Tryz.prog.depth 101 = false:=by kernel_rfl
@[simp] theorem k_zero101 : zeroAV Tryz.prog 101 = some (AV.st [AV.v (Value.int IntKind.i64 0),AV.v (Value.int IntKind.i64 0)]):=by kernel_rfl
@[simp] theorem k_ok106 : okT Tryz.prog 106 = true:=by kernel_rfl
@[simp] theorem k_agg106 : aggB Tryz.prog 106 = false:=by kernel_rfl
@[simp] theorem k_cells106 : Tryz.prog.cellsOf 106 = 1:=by kernel_rfl
@[simp] theorem k_bytes106 : Tryz.prog.bytesOf 106 = 24:=by kernel_rfl
@[simp] theorem k_eq106 : eqKinds Tryz.prog 106 = none:=by kernel_rfl
@[simp] theorem k_guard106 : Tryz.prog.eqGuardType Tryz.prog.depth 106 = false:=by kernel_rfl
@[simp] theorem k_zero106 : zeroAV Tryz.prog 106 = some (AV.v (Value.slice none 0 0)):=by kernel_rfl
@[simp] theorem k_ok109 : okT Tryz.prog 109 = true:=by kernel_rfl
@[simp] theorem k_agg109 : aggB Tryz.prog 109 = true:=by kernel_rfl
@[simp] theorem k_cells109 : Tryz.prog.cellsOf 109 = 16:=by kernel_rfl
@[simp] theorem k_bytes109 : Tryz.prog.bytesOf 109 = 192:=by kernel_rfl
@[simp] theorem k_eq109 : eqKinds Tryz.prog 109 = some [SK.b,SK.s,SK.b,SK.s,SK.b,SK.s,SK.b,SK.s,SK.b,SK.s,SK.b,SK.s,SK.b,SK.s,SK.b,SK.s]:=by kernel_rfl
@[simp] theorem k_guard109 : Tryz.prog.eqGuardType Tryz.prog.depth 109 = false:=by kernel_rfl
@[simp] theorem k_zero109 : zeroAV Tryz.prog 109 = some (AV.st [AV.v (Value.bool false),AV.v (Value.string { data:={ toList:=[] } }),AV.v (Value.bool false),AV.v (Value.string { data:={ toList:=[] } }),AV.v (Value.bool false),AV.v (Value.string { data:={ toList:=[] } }),AV.v (Value.bool false),AV.v (Value.string { data:={ toList:=[] } }),AV.v (Value.bool false),AV.v (Value.string { data:={ toList:=[] } }),AV.v (Value.bool false),AV.v (Value.string { data:={ toList:=[] } }),AV.v (Value.bool false),AV.v (Value.string { data:={ toList:=[] } }),AV.v (Value.bool false),AV.v (Value.string { data:={ toList:=[] } })]):=by kernel_rfl
@[simp] theorem k_ok111 : okT Tryz.prog 111 = true:=by kernel_rfl
@[simp] theorem k_agg111 : aggB Tryz.prog 111 = true:=by kernel_rfl
@[simp] theorem k_cells111 : Tryz.prog.cellsOf 111 = 36:=by kernel_rfl
@[simp] theorem k_bytes111 : Tryz.prog.bytesOf 111 = 408:=by kernel_rfl
@[simp] theorem k_eq111 : eqKinds Tryz.prog 111 = some [SK.b,SK.s,SK.b,SK.s,SK.b,SK.s,SK.b,SK.s,SK.b,SK.b,SK.s,SK.b,SK.s,SK.b,SK.s,SK.b,SK.s,SK.b,SK.b,SK.b,SK.b,SK.s,SK.b,SK.s,SK.b,SK.s,SK.b,SK.s,SK.b,SK.s,SK.b,SK.s,SK.b,SK.s,SK.b,SK.s]:=by kernel_rfl
@[simp] theorem k_guard111 : Tryz.prog.eqGuardType Tryz.prog.depth 111 = false:=by kernel_rfl
@[simp] theorem k_zero111 : zeroAV Tryz.prog 111 = some (AV.st [AV.v (Value.bool false),AV.v (Value.string { data:={ toList:=[] } }),AV.v (Value.bool false),AV.v (Value.string { data:={ toList:=[] } }),AV.v (Value.bool false),AV.v (Value.string { data:={ toList:=[] } }),AV.v (Value.bool false),AV.v (Value.string { data:={ toList:=[] } }),AV.v (Value.bool false),AV.v (Value.bool false),AV.v (Value.string { data:={ toList:=[] } }),AV.v (Value.bool false),AV.v (Value.string { data:={ toList:=[] } }),AV.v (Value.bool false),AV.v (Value.string { data:={ toList:=[] } }),AV.v (Value.bool false),AV.v (Value.string { data:={ toList:=[] } }),AV.v (Value.bool false),AV.v (Value.bool false),AV.v (Value.bool false),AV.v (Value.bool false),AV.v (Value.string { data:={ toList:=[] } }),AV.v (Value.bool false),AV.v (Value.string { data:={ toList:=[] } }),AV.v (Value.bool false),AV.v (Value.string { data:={ toList:=[] } }),AV.v (Value.bool false),AV.v (Value.string { data:={ toList:=[] } }),AV.v (Value.bool false),AV.v (Value.string { data:={ toList:=[] } }),AV.v (Value.bool false),AV.v (Value.string { data:={ toList:=[] } }),AV.v (Value.bool false),AV.v (Value.string { data:={ toList:=[] } }),AV.v (Value.bool false),AV.v (Value.string { data:={ toList:=[] } })]):=by kernel_rfl
@[simp] theorem k_ok114 : okT Tryz.prog 114 = true:=by kernel_rfl
@[simp] theorem k_agg114 : aggB Tryz.prog 114 = false:=by kernel_rfl
@[simp] theorem k_cells114 : Tryz.prog.cellsOf 114 = 1:=by kernel_rfl
@[simp] theorem k_bytes114 : Tryz.prog.bytesOf 114 = 8:=by kernel_rfl
@[simp] theorem k_eq114 : eqKinds Tryz.prog 114 = none:=by kernel_rfl
@[simp] theorem k_guard114 : Tryz.prog.eqGuardType Tryz.prog.depth 114 = false:=by kernel_rfl
@[simp] theorem k_zero114 : zeroAV Tryz.prog 114 = some (AV.v Value.nilFunc):=by kernel_rfl
@[simp] theorem k_ok116 : okT Tryz.prog 116 = true:=by kernel_rfl
@[simp] theorem k_agg116 : aggB Tryz.prog 116 = true:=by kernel_rfl
@[simp] theorem k_cells116 : Tryz.prog.cellsOf 116 = 2:=by kernel_rfl
@[simp] theorem k_bytes116 : Tryz.prog.bytesOf 116 = 16:=by kernel_rfl
@[simp] theorem k_eq116 : eqKinds Tryz.prog 116 = none:=by kernel_rfl
@[simp] theorem k_guard116 : Tryz.prog.eqGuardType Tryz.prog.depth 116 = false:=by kernel_rfl
@[simp] theorem k_zero116 : zeroAV Tryz.prog 116 = some (AV.st [AV.v (Value.int IntKind.i64 0),AV.v (Value.int IntKind.i64 0)]):=by kernel_rfl
@[simp] theorem k_ok117 : okT Tryz.prog 117 = true:=by kernel_rfl
@[simp] theorem k_agg117 : aggB Tryz.prog 117 = true:=by kernel_rfl
@[simp] theorem k_cells117 : Tryz.prog.cellsOf 117 = 6:=by kernel_rfl
@[simp] theorem k_bytes117 : Tryz.prog.bytesOf 117 = 48:=by kernel_rfl
@[simp] theorem k_eq117 : eqKinds Tryz.prog 117 = none:=by kernel_rfl
@[simp] theorem k_guard117 : Tryz.prog.eqGuardType Tryz.prog.depth 117 = false:=by kernel_rfl
@[simp] theorem k_zero117 : zeroAV Tryz.prog 117 = some (AV.st [AV.v (Value.int IntKind.i64 0),AV.v (Value.int IntKind.i64 0),AV.v (Value.int IntKind.i64 0),AV.v (Value.int IntKind.i64 0),AV.v (Value.int IntKind.i64 0),AV.v (Value.int IntKind.i64 0)]):=by kernel_rfl
@[simp] theorem k_ok126 : okT Tryz.prog 126 = true:=by kernel_rfl
@[simp] theorem k_agg126 : aggB Tryz.prog 126 = false:=by kernel_rfl
@[simp] theorem k_cells126 : Tryz.prog.cellsOf 126 = 1:=by kernel_rfl
@[simp] theorem k_bytes126 : Tryz.prog.bytesOf 126 = 8:=by kernel_rfl
@[simp] theorem k_eq126 : eqKinds Tryz.prog 126 = none:=by kernel_rfl
@[simp] theorem k_guard126 : Tryz.prog.eqGuardType Tryz.prog.depth 126 = false:=by kernel_rfl
@[simp] theorem k_zero126 : zeroAV Tryz.prog 126 = some (AV.v Value.nilFunc):=by kernel_rfl
@[simp] theorem k_ok130 : okT Tryz.prog 130 = true:=by kernel_rfl
@[simp] theorem k_agg130 : aggB Tryz.prog 130 = false:=by kernel_rfl
@[simp] theorem k_cells130 : Tryz.prog.cellsOf 130 = 1:=by kernel_rfl
@[simp] theorem k_bytes130 : Tryz.prog.bytesOf 130 = 8:=by kernel_rfl
@[simp] theorem k_eq130 : eqKinds Tryz.prog 130 = none:=by kernel_rfl
@[simp] theorem k_guard130 : Tryz.prog.eqGuardType Tryz.prog.depth 130 = false:=by kernel_rfl
@[simp] theorem k_zero130 : zeroAV Tryz.prog 130 = some (AV.v Value.nilFunc):=by kernel_rfl
@[simp] theorem k_ok142 : okT Tryz.prog 142 = true:=by kernel_rfl
@[simp] theorem k_agg142 : aggB Tryz.prog 142 = false:=by kernel_rfl
@[simp] theorem k_cells142 : Tryz.prog.cellsOf 142 = 1:=by kernel_rfl
@[simp] theorem k_bytes142 : Tryz.prog.bytesOf 142 = 24:=by kernel_rfl
@[simp] theorem k_eq142 : eqKinds Tryz.prog 142 = none:=by kernel_rfl
@[simp] theorem k_guard142 : Tryz.prog.eqGuardType Tryz.prog.depth 142 = false:=by kernel_rfl
@[simp] theorem k_zero142 : zeroAV Tryz.prog 142 = some (AV.v (Value.slice none 0 0)):=by kernel_rfl
@[simp] theorem k_ok146 : okT Tryz.prog 146 = true:=by kernel_rfl
@[simp] theorem k_agg146 : aggB Tryz.prog 146 = true:=by kernel_rfl
@[simp] theorem k_cells146 : Tryz.prog.cellsOf 146 = 12:=by kernel_rfl
@[simp] theorem k_bytes146 : Tryz.prog.bytesOf 146 = 144:=by kernel_rfl
@[simp] theorem k_eq146 : eqKinds Tryz.prog 146 = some [SK.b,SK.s,SK.b,SK.s,SK.b,SK.s,SK.b,SK.s,SK.b,SK.s,SK.b,SK.s]:=by kernel_rfl
@[simp] theorem k_guard146 : Tryz.prog.eqGuardType Tryz.prog.depth 146 = false:=by kernel_rfl
@[simp] theorem k_zero146 : zeroAV Tryz.prog 146 = some (AV.st [AV.v (Value.bool false),AV.v (Value.string { data:={ toList:=[] } }),AV.v (Value.bool false),AV.v (Value.string { data:={ toList:=[] } }),AV.v (Value.bool false),AV.v (Value.string { data:={ toList:=[] } }),AV.v (Value.bool false),AV.v (Value.string { data:={ toList:=[] } }),AV.v (Value.bool false),AV.v (Value.string { data:={ toList:=[] } }),AV.v (Value.bool false),AV.v (Value.string { data:={ toList:=[] } })]):=by kernel_rfl
@[simp] theorem k_ok148 : okT Tryz.prog 148 = true:=by kernel_rfl
@[simp] theorem k_agg148 : aggB Tryz.prog 148 = false:=by kernel_rfl
@[simp] theorem k_cells148 : Tryz.prog.cellsOf 148 = 1:=by kernel_rfl
@[simp] theorem k_bytes148 : Tryz.prog.bytesOf 148 = 24:=by kernel_rfl
@[simp] theorem k_eq148 : eqKinds Tryz.prog 148 = none:=by kernel_rfl
@[simp] theorem k_guard148 : Tryz.prog.eqGuardType Tryz.prog.depth 148 = false:=by kernel_rfl
@[simp] theorem k_zero148 : zeroAV Tryz.prog 148 = some (AV.v (Value.slice none 0 0)):=by kernel_rfl
@[simp] theorem k_ok149 : okT Tryz.prog 149 = true:=by kernel_rfl
@[simp] theorem k_agg149 : aggB Tryz.prog 149 = true:=by kernel_rfl
@[simp] theorem k_cells149 : Tryz.prog.cellsOf 149 = 3:=by kernel_rfl
@[simp] theorem k_bytes149 : Tryz.prog.bytesOf 149 = 72:=by kernel_rfl
@[simp] theorem k_eq149 : eqKinds Tryz.prog 149 = none:=by kernel_rfl
@[simp] theorem k_guard149 : Tryz.prog.eqGuardType Tryz.prog.depth 149 = false:=by kernel_rfl
@[simp] theorem k_zero149 : zeroAV Tryz.prog 149 = some (AV.st [AV.v (Value.slice none 0 0),AV.v (Value.slice none 0 0),AV.v (Value.slice none 0 0)]):=by kernel_rfl
@[simp] theorem k_ok151 : okT Tryz.prog 151 = true:=by kernel_rfl
@[simp] theorem k_agg151 : aggB Tryz.prog 151 = true:=by kernel_rfl
@[simp] theorem k_cells151 : Tryz.prog.cellsOf 151 = 18:=by kernel_rfl
@[simp] theorem k_bytes151 : Tryz.prog.bytesOf 151 = 208:=by kernel_rfl
@[simp] theorem k_eq151 : eqKinds Tryz.prog 151 = some [SK.b,SK.s,SK.b,SK.s,SK.b,SK.s,SK.b,SK.s,SK.b,SK.b,SK.s,SK.b,SK.s,SK.b,SK.s,SK.b,SK.s,SK.b]:=by kernel_rfl
@[simp] theorem k_guard151 : Tryz.prog.eqGuardType Tryz.prog.depth 151 = false:=by kernel_rfl
@[simp] theorem k_zero151 : zeroAV Tryz.prog 151 = some (AV.st [AV.v (Value.bool false),AV.v (Value.string { data:={ toList:=[] } }),AV.v (Value.bool false),AV.v (Value.string { data:={ toList:=[] } }),AV.v (Value.bool false),AV.v (Value.string { data:={ toList:=[] } }),AV.v (Value.bool false),AV.v (Value.string { data:={ toList:=[] } }),AV.v (Value.bool false),AV.v (Value.bool false),AV.v (Value.string { data:={ toList:=[] } }),AV.v (Value.bool false),AV.v (Value.string { data:={ toList:=[] } }),AV.v (Value.bool false),AV.v (Value.string { data:={ toList:=[] } }),AV.v (Value.bool false),AV.v (Value.string { data:={ toList:=[] } }),AV.v (Value.bool false)]):=by kernel_rfl
@[simp] theorem k_ok154 : okT Tryz.prog 154 = true:=by kernel_rfl
@[simp] theorem k_agg154 : aggB Tryz.prog 154 = false:=by kernel_rfl
@[simp] theorem k_cells154 : Tryz.prog.cellsOf 154 = 1:=by kernel_rfl
@[simp] theorem k_bytes154 : Tryz.prog.bytesOf 154 = 8:=by kernel_rfl
@[simp] theorem k_eq154 : eqKinds Tryz.prog 154 = none:=by kernel_rfl
@[simp] theorem k_guard154 : Tryz.prog.eqGuardType Tryz.prog.depth 154 = false:=by kernel_rfl
@[simp] theorem k_zero154 : zeroAV Tryz.prog 154 = some (AV.v Value.nilFunc):=by kernel_rfl
@[simp] theorem k_ok161 : okT Tryz.prog 161 = true:=by kernel_rfl
@[simp] theorem k_agg161 : aggB Tryz.prog 161 = true:=by kernel_rfl
@[simp] theorem k_cells161 : Tryz.prog.cellsOf 161 = 0:=by kernel_rfl
@[simp] theorem k_bytes161 : Tryz.prog.bytesOf 161 = 0:=by kernel_rfl
@[simp] theorem k_eq161 : eqKinds Tryz.prog 161 = some []:=by kernel_rfl
@[simp] theorem k_guard161 : Tryz.prog.eqGuardType Tryz.prog.depth 161 = false:=by kernel_rfl
@[simp] theorem k_zero161 : zeroAV Tryz.prog 161 = some (AV.st []):=by kernel_rfl
@[simp] theorem k_ok167 : okT Tryz.prog 167 = true:=by kernel_rfl
@[simp] theorem k_agg167 : aggB Tryz.prog 167 = false:=by kernel_rfl
@[simp] theorem k_cells167 : Tryz.prog.cellsOf 167 = 1:=by kernel_rfl
@[simp] theorem k_bytes167 : Tryz.prog.bytesOf 167 = 24:=by kernel_rfl
@[simp] theorem k_eq167 : eqKinds Tryz.prog 167 = none:=by kernel_rfl
@[simp] theorem k_guard167 : Tryz.prog.eqGuardType Tryz.prog.depth 167 = false:=by kernel_rfl
@[simp] theorem k_zero167 : zeroAV Tryz.prog 167 = some (AV.v (Value.slice none 0 0)):=by kernel_rfl
@[simp] theorem k_ok169 : okT Tryz.prog 169 = true:=by kernel_rfl
@[simp] theorem k_agg169 : aggB Tryz.prog 169 = true:=by kernel_rfl
@[simp] theorem k_cells169 : Tryz.prog.cellsOf 169 = 12:=by kernel_rfl
@[simp] theorem k_bytes169 : Tryz.prog.bytesOf 169 = 144:=by kernel_rfl
@[simp] theorem k_eq169 : eqKinds Tryz.prog 169 = some [SK.b,SK.s,SK.b,SK.s,SK.b,SK.s,SK.b,SK.s,SK.b,SK.s,SK.b,SK.s]:=by kernel_rfl
@[simp] theorem k_guard169 : Tryz.prog.eqGuardType Tryz.prog.depth 169 = false:=by kernel_rfl
@[simp] theorem k_zero169 : zeroAV Tryz.prog 169 = some (AV.st [AV.v (Value.bool false),AV.v (Value.string { data:={ toList:=[] } }),AV.v (Value.bool false),AV.v (Value.string { data:={ toList:=[] } }),AV.v (Value.bool false),AV.v (Value.string { data:={ toList:=[] } }),AV.v (Value.bool false),AV.v (Value.string { data:={ toList:=[] } }),AV.v (Value.bool false),AV.v (Value.string { data:={ toList:=[] } }),AV.v (Value.bool false),AV.v (Value.string { data:={ toList:=[] } })]):=by kernel_rfl
@[simp] theorem k_ok177 : okT Tryz.prog 177 = true:=by kernel_rfl
@[simp] theorem k_agg177 : aggB Tryz.prog 177 = false:=by kernel_rfl
@[simp] theorem k_cells177 : Tryz.prog.cellsOf 177 = 1:=by kernel_rfl
@[simp] theorem k_bytes177 : Tryz.prog.bytesOf 177 = 8:=by kernel_rfl
@[simp] theorem k_eq177 : eqKinds Tryz.prog 177 = none:=by kernel_rfl
@[simp] theorem k_guard177 : Tryz.prog.eqGuardType Tryz.prog.depth 177 = false:=by kernel_rfl
@[simp] theorem k_zero177 : zeroAV Tryz.prog 177 = some (AV.v Value.nilFunc):=by kernel_rfl
@[simp] theorem k_ok178 : okT Tryz.prog 178 = true:=by kernel_rfl
@[simp] theorem k_agg178 : aggB Tryz.prog 178 = false:=by kernel_rfl
@[simp] theorem k_cells178 : Tryz.prog.cellsOf 178 = 1:=by kernel_rfl
@[simp] theorem k_bytes178 : Tryz.prog.bytesOf 178 = 8:=by kernel_rfl
@[simp] theorem k_eq178 : eqKinds Tryz.prog 178 = none:=by kernel_rfl
@[simp] theorem k_guard178 : Tryz.prog.eqGuardType Tryz.prog.depth 178 = false:=by kernel_rfl
@[simp] theorem k_zero178 : zeroAV Tryz.prog 178 = some (AV.v Value.nilFunc):=by kernel_rfl
@[simp] theorem k_ok185 : okT Tryz.prog 185 = true:=by kernel_rfl
@[simp] theorem k_agg185 : aggB Tryz.prog 185 = false:=by kernel_rfl
@[simp] theorem k_cells185 : Tryz.prog.cellsOf 185 = 1:=by kernel_rfl
@[simp] theorem k_bytes185 : Tryz.prog.bytesOf 185 = 8:=by kernel_rfl
@[simp] theorem k_eq185 : eqKinds Tryz.prog 185 = some [SK.i]:=by kernel_rfl
@[simp] theorem k_guard185 : Tryz.prog.eqGuardType Tryz.prog.depth 185 = false:=by kernel_rfl
@[simp] theorem k_zero185 : zeroAV Tryz.prog 185 = some (AV.v (Value.int IntKind.u64 0)):=by kernel_rfl
@[simp] theorem k_ok189 : okT Tryz.prog 189 = true:=by kernel_rfl
@[simp] theorem k_agg189 : aggB Tryz.prog 189 = true:=by kernel_rfl
@[simp] theorem k_cells189 : Tryz.prog.cellsOf 189 = 36:=by kernel_rfl
@[simp] theorem k_bytes189 : Tryz.prog.bytesOf 189 = 408:=by kernel_rfl
@[simp] theorem k_eq189 : eqKinds Tryz.prog 189 = some [SK.b,SK.s,SK.b,SK.s,SK.b,SK.s,SK.b,SK.s,SK.b,SK.b,SK.s,SK.b,SK.s,SK.b,SK.s,SK.b,SK.s,SK.b,SK.b,SK.b,SK.b,SK.s,SK.b,SK.s,SK.b,SK.s,SK.b,SK.s,SK.b,SK.s,SK.b,SK.s,SK.b,SK.s,SK.b,SK.s]:=by kernel_rfl
@[simp] theorem k_guard189 : Tryz.prog.eqGuardType Tryz.prog.depth 189 = false:=by kernel_rfl
@[simp] theorem k_zero189 : zeroAV Tryz.prog 189 = some (AV.st [AV.v (Value.bool false),AV.v (Value.string { data:={ toList:=[] } }),AV.v (Value.bool false),AV.v (Value.string { data:={ toList:=[] } }),AV.v (Value.bool false),AV.v (Value.string { data:={ toList:=[] } }),AV.v (Value.bool false),AV.v (Value.string { data:={ toList:=[] } }),AV.v (Value.bool false),AV.v (Value.bool false),AV.v (Value.string { data:={ toList:=[] } }),AV.v (Value.bool false),AV.v (Value.string { data:={ toList:=[] } }),AV.v (Value.bool false),AV.v (Value.string { data:={ toList:=[] } }),AV.v (Value.bool false),AV.v (Value.string { data:={ toList:=[] } }),AV.v (Value.bool false),AV.v (Value.bool false),AV.v (Value.bool false),AV.v (Value.bool false),AV.v (Value.string { data:={ toList:=[] } }),AV.v (Value.bool false),AV.v (Value.string { data:={ toList:=[] } }),AV.v (Value.bool false),AV.v (Value.string { data:={ toList:=[] } }),AV.v (Value.bool false),AV.v (Value.string { data:={ toList:=[] } }),AV.v (Value.bool false),AV.v (Value.string { data:={ toList:=[] } }),AV.v (Value.bool false),AV.v (Value.string { data:={ toList:=[] } }),AV.v (Value.bool false),AV.v (Value.string { data:={ toList:=[] } }),AV.v (Value.bool false),AV.v (Value.string { data:={ toList:=[] } })]):=by kernel_rfl
@[simp] theorem k_ok192 : okT Tryz.prog 192 = true:=by kernel_rfl
@[simp] theorem k_agg192 : aggB Tryz.prog 192 = false:=by kernel_rfl
@[simp] theorem k_cells192 : Tryz.prog.cellsOf 192 = 1:=by kernel_rfl
@[simp] theorem k_bytes192 : Tryz.prog.bytesOf 192 = 8:=by kernel_rfl
@[simp] theorem k_eq192 : eqKinds Tryz.prog 192 = none:=by kernel_rfl
@[simp] theorem k_guard192 : Tryz.prog.eqGuardType Tryz.prog.depth 192 = false:=by kernel_rfl
@[simp] theorem k_zero192 : zeroAV Tryz.prog 192 = some (AV.v Value.nilFunc):=by kernel_rfl
@[simp] theorem k_ok210 : okT Tryz.prog 210 = true:=by kernel_rfl
@[simp] theorem k_agg210 : aggB Tryz.prog 210 = false:=by kernel_rfl
@[simp] theorem k_cells210 : Tryz.prog.cellsOf 210 = 1:=by kernel_rfl
@[simp] theorem k_bytes210 : Tryz.prog.bytesOf 210 = 8:=by kernel_rfl
@[simp] theorem k_eq210 : eqKinds Tryz.prog 210 = none:=by kernel_rfl
@[simp] theorem k_guard210 : Tryz.prog.eqGuardType Tryz.prog.depth 210 = false:=by kernel_rfl
@[simp] theorem k_zero210 : zeroAV Tryz.prog 210 = some (AV.v Value.nilFunc):=by kernel_rfl
@[simp] theorem k_ok212 : okT Tryz.prog 212 = true:=by kernel_rfl
@[simp] theorem k_agg212 : aggB Tryz.prog 212 = false:=by kernel_rfl
@[simp] theorem k_cells212 : Tryz.prog.cellsOf 212 = 1:=by kernel_rfl
@[simp] theorem k_bytes212 : Tryz.prog.bytesOf 212 = 16:=by kernel_rfl
@[simp] theorem k_eq212 : eqKinds Tryz.prog 212 = none:=by kernel_rfl
@[simp] theorem k_guard212 : Tryz.prog.eqGuardType Tryz.prog.depth 212 = true:=by kernel_rfl
@[simp] theorem k_zero212 : zeroAV Tryz.prog 212 = some (AV.v Value.nilIface):=by kernel_rfl
@[simp] theorem k_ok216 : okT Tryz.prog 216 = true:=by kernel_rfl
@[simp] theorem k_agg216 : aggB Tryz.prog 216 = false:=by kernel_rfl
@[simp] theorem k_cells216 : Tryz.prog.cellsOf 216 = 1:=by kernel_rfl
@[simp] theorem k_bytes216 : Tryz.prog.bytesOf 216 = 8:=by kernel_rfl
@[simp] theorem k_eq216 : eqKinds Tryz.prog 216 = some [SK.i]:=by kernel_rfl
@[simp] theorem k_guard216 : Tryz.prog.eqGuardType Tryz.prog.depth 216 = false:=by kernel_rfl
@[simp] theorem k_zero216 : zeroAV Tryz.prog 216 = some (AV.v (Value.int IntKind.u64 0)):=by kernel_rfl
@[simp] theorem k_ok242 : okT Tryz.prog 242 = true:=by kernel_rfl
@[simp] theorem k_agg242 : aggB Tryz.prog 242 = true:=by kernel_rfl
@[simp] theorem k_cells242 : Tryz.prog.cellsOf 242 = 8:=by kernel_rfl
@[simp] theorem k_bytes242 : Tryz.prog.bytesOf 242 = 8:=by kernel_rfl
@[simp] theorem k_eq242 : eqKinds Tryz.prog 242 = none:=by kernel_rfl
@[simp] theorem k_guard242 : Tryz.prog.eqGuardType Tryz.prog.depth 242 = false:=by kernel_rfl
@[simp] theorem k_zero242 : zeroAV Tryz.prog 242 = some (AV.st [AV.v (Value.int IntKind.u8 0),AV.v (Value.int IntKind.u8 0),AV.v (Value.int IntKind.u8 0),AV.v (Value.int IntKind.u8 0),AV.v (Value.int IntKind.u8 0),AV.v (Value.int IntKind.u8 0),AV.v (Value.int IntKind.u8 0),AV.v (Value.int IntKind.u8 0)]):=by kernel_rfl
@[simp] theorem k_ok243 : okT Tryz.prog 243 = true:=by kernel_rfl
@[simp] theorem k_agg243 : aggB Tryz.prog 243 = false:=by kernel_rfl
@[simp] theorem k_cells243 : Tryz.prog.cellsOf 243 = 1:=by kernel_rfl
@[simp] theorem k_bytes243 : Tryz.prog.bytesOf 243 = 24:=by kernel_rfl
@[simp] theorem k_eq243 : eqKinds Tryz.prog 243 = none:=by kernel_rfl
@[simp] theorem k_guard243 : Tryz.prog.eqGuardType Tryz.prog.depth 243 = false:=by kernel_rfl
@[simp] theorem k_zero243 : zeroAV Tryz.prog 243 = some (AV.v (Value.slice none 0 0)):=by kernel_rfl
@[simp] theorem k_ok257 : okT Tryz.prog 257 = true:=by kernel_rfl
@[simp] theorem k_agg257 : aggB Tryz.prog 257 = true:=by kernel_rfl
@[simp] theorem k_cells257 : Tryz.prog.cellsOf 257 = 10:=by kernel_rfl
@[simp] theorem k_bytes257 : Tryz.prog.bytesOf 257 = 112:=by kernel_rfl
@[simp] theorem k_eq257 : eqKinds Tryz.prog 257 = some [SK.b,SK.s,SK.b,SK.s,SK.b,SK.s,SK.b,SK.s,SK.b,SK.b]:=by kernel_rfl
@[simp] theorem k_guard257 : Tryz.prog.eqGuardType Tryz.prog.depth 257 = false:=by kernel_rfl
@[simp] theorem k_zero257 : zeroAV Tryz.prog 257 = some (AV.st [AV.v (Value.bool false),AV.v (Value.string { data:={ toList:=[] } }),AV.v (Value.bool false),AV.v (Value.string { data:={ toList:=[] } }),AV.v (Value.bool false),AV.v (Value.string { data:={ toList:=[] } }),AV.v (Value.bool false),AV.v (Value.string { data:={ toList:=[] } }),AV.v (Value.bool false),AV.v (Value.bool false)]):=by kernel_rfl
@[simp] theorem k_ok260 : okT Tryz.prog 260 = true:=by kernel_rfl
@[simp] theorem k_agg260 : aggB Tryz.prog 260 = false:=by kernel_rfl
@[simp] theorem k_cells260 : Tryz.prog.cellsOf 260 = 1:=by kernel_rfl
@[simp] theorem k_bytes260 : Tryz.prog.bytesOf 260 = 8:=by kernel_rfl
@[simp] theorem k_eq260 : eqKinds Tryz.prog 260 = none:=by kernel_rfl
@[simp] theorem k_guard260 : Tryz.prog.eqGuardType Tryz.prog.depth 260 = false:=by kernel_rfl
@[simp] theorem k_zero260 : zeroAV Tryz.prog 260 = some (AV.v (Value.pointer none)):=by kernel_rfl
@[simp] theorem k_ok267 : okT Tryz.prog 267 = true:=by kernel_rfl
@[simp] theorem k_agg267 : aggB Tryz.prog 267 = false:=by kernel_rfl
@[simp] theorem k_cells267 : Tryz.prog.cellsOf 267 = 1:=by kernel_rfl
@[simp] theorem k_bytes267 : Tryz.prog.bytesOf 267 = 8:=by kernel_rfl
@[simp] theorem k_eq267 : eqKinds Tryz.prog 267 = none:=by kernel_rfl
@[simp] theorem k_guard267 : Tryz.prog.eqGuardType Tryz.prog.depth 267 = false:=by kernel_rfl
@[simp] theorem k_zero267 : zeroAV Tryz.prog 267 = some (AV.v Value.nilFunc):=by kernel_rfl
@[simp] theorem k_ok276 : okT Tryz.prog 276 = true:=by kernel_rfl
@[simp] theorem k_agg276 : aggB Tryz.prog 276 = false:=by kernel_rfl
@[simp] theorem k_cells276 : Tryz.prog.cellsOf 276 = 1:=by kernel_rfl
@[simp] theorem k_bytes276 : Tryz.prog.bytesOf 276 = 24:=by kernel_rfl
@[simp] theorem k_eq276 : eqKinds Tryz.prog 276 = none:=by kernel_rfl
@[simp] theorem k_guard276 : Tryz.prog.eqGuardType Tryz.prog.depth 276 = false:=by kernel_rfl
@[simp] theorem k_zero276 : zeroAV Tryz.prog 276 = some (AV.v (Value.slice none 0 0)):=by kernel_rfl
@[simp] theorem k_ok278 : okT Tryz.prog 278 = true:=by kernel_rfl
@[simp] theorem k_agg278 : aggB Tryz.prog 278 = false:=by kernel_rfl
@[simp] theorem k_cells278 : Tryz.prog.cellsOf 278 = 1:=by kernel_rfl
@[simp] theorem k_bytes278 : Tryz.prog.bytesOf 278 = 4:=by kernel_rfl
@[simp] theorem k_eq278 : eqKinds Tryz.prog 278 = some [SK.i]:=by kernel_rfl
@[simp] theorem k_guard278 : Tryz.prog.eqGuardType Tryz.prog.depth 278 = false:=by kernel_rfl
@[simp] theorem k_zero278 : zeroAV Tryz.prog 278 = some (AV.v (Value.int IntKind.u32 0)):=by kernel_rfl
@[simp] theorem k_ok288 : okT Tryz.prog 288 = true:=by kernel_rfl
@[simp] theorem k_agg288 : aggB Tryz.prog 288 = false:=by kernel_rfl
@[simp] theorem k_cells288 : Tryz.prog.cellsOf 288 = 1:=by kernel_rfl
@[simp] theorem k_bytes288 : Tryz.prog.bytesOf 288 = 8:=by kernel_rfl
@[simp] theorem k_eq288 : eqKinds Tryz.prog 288 = none:=by kernel_rfl
@[simp] theorem k_guard288 : Tryz.prog.eqGuardType Tryz.prog.depth 288 = false:=by kernel_rfl
@[simp] theorem k_zero288 : zeroAV Tryz.prog 288 = some (AV.v Value.nilFunc):=by kernel_rfl
@[simp] theorem k_ok297 : okT Tryz.prog 297 = true:=by kernel_rfl
@[simp] theorem k_agg297 : aggB Tryz.prog 297 = true:=by kernel_rfl
@[simp] theorem k_cells297 : Tryz.prog.cellsOf 297 = 2:=by kernel_rfl
@[simp] theorem k_bytes297 : Tryz.prog.bytesOf 297 = 32:=by kernel_rfl
@[simp] theorem k_eq297 : eqKinds Tryz.prog 297 = none:=by kernel_rfl
@[simp] theorem k_guard297 : Tryz.prog.eqGuardType Tryz.prog.depth 297 = false:=by kernel_rfl
@[simp] theorem k_zero297 : zeroAV Tryz.prog 297 = some (AV.st [AV.v (Value.pointer none),AV.v (Value.slice none 0 0)]):=by kernel_rfl
@[simp] theorem k_ok347 : okT Tryz.prog 347 = true:=by kernel_rfl
@[simp] theorem k_agg347 : aggB Tryz.prog 347 = true:=by kernel_rfl
@[simp] theorem k_cells347 : Tryz.prog.cellsOf 347 = 16:=by kernel_rfl
@[simp] theorem k_bytes347 : Tryz.prog.bytesOf 347 = 192:=by kernel_rfl
@[simp] theorem k_eq347 : eqKinds Tryz.prog 347 = none:=by kernel_rfl
@[simp] theorem k_guard347 : Tryz.prog.eqGuardType Tryz.prog.depth 347 = false:=by kernel_rfl
@[simp] theorem k_zero347 : zeroAV Tryz.prog 347 = some (AV.st [AV.v (Value.bool false),AV.v (Value.string { data:={ toList:=[] } }),AV.v (Value.bool false),AV.v (Value.string { data:={ toList:=[] } }),AV.v (Value.bool false),AV.v (Value.string { data:={ toList:=[] } }),AV.v (Value.bool false),AV.v (Value.string { data:={ toList:=[] } }),AV.v (Value.bool false),AV.v (Value.string { data:={ toList:=[] } }),AV.v (Value.bool false),AV.v (Value.string { data:={ toList:=[] } }),AV.v (Value.bool false),AV.v (Value.string { data:={ toList:=[] } }),AV.v (Value.bool false),AV.v (Value.string { data:={ toList:=[] } })]):=by kernel_rfl
attribute [simp] Tryz.underlying0 Tryz.underlying1 Tryz.underlying2 Tryz.underlying3 Tryz.underlying4 Tryz.underlying5 Tryz.underlying6 Tryz.underlying7 Tryz.underlying8 Tryz.underlying9
attribute [simp] Tryz.underlying10 Tryz.underlying11 Tryz.underlying12 Tryz.underlying13 Tryz.underlying14 Tryz.underlying15 Tryz.underlying16 Tryz.underlying17 Tryz.underlying18 Tryz.underlying19
attribute [simp] Tryz.underlying20 Tryz.underlying21 Tryz.underlying22 Tryz.underlying23 Tryz.underlying24 Tryz.underlying25 Tryz.underlying26 Tryz.underlying27 Tryz.underlying28 Tryz.underlying29
attribute [simp] Tryz.underlying30 Tryz.underlying31 Tryz.underlying32 Tryz.underlying33 Tryz.underlying34 Tryz.underlying35 Tryz.underlying36 Tryz.underlying37 Tryz.underlying38 Tryz.underlying39
attribute [simp] Tryz.underlying40 Tryz.underlying41 Tryz.underlying42 Tryz.underlying43 Tryz.underlying44 Tryz.underlying46 Tryz.underlying47 Tryz.underlying48 Tryz.underlying49
attribute [simp] Tryz.underlying50 Tryz.underlying51 Tryz.underlying52 Tryz.underlying53 Tryz.underlying55 Tryz.underlying56 Tryz.underlying57
attribute [simp] Tryz.underlying66 Tryz.underlying67
attribute [simp] Tryz.underlying76
attribute [simp] Tryz.underlying82 Tryz.underlying84 Tryz.underlying88
attribute [simp] Tryz.underlying92 Tryz.underlying95
attribute [simp] Tryz.underlying101 Tryz.underlying106 Tryz.underlying109
attribute [simp] Tryz.underlying111 Tryz.underlying114 Tryz.underlying116 Tryz.underlying117
attribute [simp] Tryz.underlying126
attribute [simp] Tryz.underlying130
attribute [simp] Tryz.underlying142 Tryz.underlying146 Tryz.underlying148 Tryz.underlying149
attribute [simp] Tryz.underlying151 Tryz.underlying154
attribute [simp] Tryz.underlying161 Tryz.underlying167 Tryz.underlying169
attribute [simp] Tryz.underlying177 Tryz.underlying178
attribute [simp] Tryz.underlying185 Tryz.underlying189
attribute [simp] Tryz.underlying192
attribute [simp] Tryz.underlying210 Tryz.underlying212 Tryz.underlying216
attribute [simp] Tryz.underlying242 Tryz.underlying243
attribute [simp] Tryz.underlying257
attribute [simp] Tryz.underlying260 Tryz.underlying267
attribute [simp] Tryz.underlying276 Tryz.underlying278
attribute [simp] Tryz.underlying288
attribute [simp] Tryz.underlying297
attribute [simp] Tryz.underlying347
theorem mixed : Tryz.prog.follows .mixedOrders = true:=by kernel_rfl
end Go.Proofs.YtfkgaphfdpflmaaGreatDoor
