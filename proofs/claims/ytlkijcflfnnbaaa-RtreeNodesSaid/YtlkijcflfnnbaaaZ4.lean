/- MADE BY A PROGRAM (mkfacts -/
import Derived.Test.YtlkijcflfnnbaaaZD
import Derived.Test.YtlkijcflfnnbaaaRows
import Derived.KernelRfl
set_option linter.unusedSimpArgs false
set_option linter.unusedVariables false
namespace Go.Proofs.Ytlkijcflfnnbaaa
open Go.Am
@[simp] theorem k_ok0 : okT Try.prog 0 = true:=by kernel_rfl
@[simp] theorem k_agg0 : aggB Try.prog 0 = false:=by kernel_rfl
@[simp] theorem k_cells0 : Try.prog.cellsOf 0 = 1:=by kernel_rfl
@[simp] theorem k_bytes0 : Try.prog.bytesOf 0 = 0:=by kernel_rfl
@[simp] theorem k_eq0 : eqKinds Try.prog 0 = none:=by kernel_rfl
@[simp] theorem k_guard0 : Try.prog.eqGuardType Try.prog.depth 0 = false:=by kernel_rfl
@[simp] theorem k_zero0 : zeroAV Try.prog 0 = some (AV.tup []):=by kernel_rfl
@[simp] theorem k_ok1 : okT Try.prog 1 = true:=by kernel_rfl
@[simp] theorem k_agg1 : aggB Try.prog 1 = false:=by kernel_rfl
@[simp] theorem k_cells1 : Try.prog.cellsOf 1 = 1:=by kernel_rfl
@[simp] theorem k_bytes1 : Try.prog.bytesOf 1 = 8:=by kernel_rfl
@[simp] theorem k_eq1 : eqKinds Try.prog 1 = none:=by kernel_rfl
@[simp] theorem k_guard1 : Try.prog.eqGuardType Try.prog.depth 1 = false:=by kernel_rfl
@[simp] theorem k_zero1 : zeroAV Try.prog 1 = some (AV.v Value.nilFunc):=by kernel_rfl
@[simp] theorem k_ok2 : okT Try.prog 2 = true:=by kernel_rfl
@[simp] theorem k_agg2 : aggB Try.prog 2 = false:=by kernel_rfl
@[simp] theorem k_cells2 : Try.prog.cellsOf 2 = 1:=by kernel_rfl
@[simp] theorem k_bytes2 : Try.prog.bytesOf 2 = 8:=by kernel_rfl
@[simp] theorem k_eq2 : eqKinds Try.prog 2 = some [SK.i]:=by kernel_rfl
@[simp] theorem k_guard2 : Try.prog.eqGuardType Try.prog.depth 2 = false:=by kernel_rfl
@[simp] theorem k_zero2 : zeroAV Try.prog 2 = some (AV.v (Value.int IntKind.i64 0)):=by kernel_rfl
@[simp] theorem k_ok3 : okT Try.prog 3 = true:=by kernel_rfl
@[simp] theorem k_agg3 : aggB Try.prog 3 = false:=by kernel_rfl
@[simp] theorem k_cells3 : Try.prog.cellsOf 3 = 1:=by kernel_rfl
@[simp] theorem k_bytes3 : Try.prog.bytesOf 3 = 8:=by kernel_rfl
@[simp] theorem k_eq3 : eqKinds Try.prog 3 = some [SK.i]:=by kernel_rfl
@[simp] theorem k_guard3 : Try.prog.eqGuardType Try.prog.depth 3 = false:=by kernel_rfl
@[simp] theorem k_zero3 : zeroAV Try.prog 3 = some (AV.v (Value.int IntKind.i64 0)):=by kernel_rfl
@[simp] theorem k_ok4 : okT Try.prog 4 = true:=by kernel_rfl
@[simp] theorem k_agg4 : aggB Try.prog 4 = false:=by kernel_rfl
@[simp] theorem k_cells4 : Try.prog.cellsOf 4 = 1:=by kernel_rfl
@[simp] theorem k_bytes4 : Try.prog.bytesOf 4 = 1:=by kernel_rfl
@[simp] theorem k_eq4 : eqKinds Try.prog 4 = some [SK.b]:=by kernel_rfl
@[simp] theorem k_guard4 : Try.prog.eqGuardType Try.prog.depth 4 = false:=by kernel_rfl
@[simp] theorem k_zero4 : zeroAV Try.prog 4 = some (AV.v (Value.bool false)):=by kernel_rfl
@[simp] theorem k_ok5 : okT Try.prog 5 = true:=by kernel_rfl
@[simp] theorem k_agg5 : aggB Try.prog 5 = false:=by kernel_rfl
@[simp] theorem k_cells5 : Try.prog.cellsOf 5 = 1:=by kernel_rfl
@[simp] theorem k_bytes5 : Try.prog.bytesOf 5 = 1:=by kernel_rfl
@[simp] theorem k_eq5 : eqKinds Try.prog 5 = some [SK.i]:=by kernel_rfl
@[simp] theorem k_guard5 : Try.prog.eqGuardType Try.prog.depth 5 = false:=by kernel_rfl
@[simp] theorem k_zero5 : zeroAV Try.prog 5 = some (AV.v (Value.int IntKind.u8 0)):=by kernel_rfl
@[simp] theorem k_ok22 : okT Try.prog 22 = true:=by kernel_rfl
@[simp] theorem k_agg22 : aggB Try.prog 22 = true:=by kernel_rfl
@[simp] theorem k_cells22 : Try.prog.cellsOf 22 = 6:=by kernel_rfl
@[simp] theorem k_bytes22 : Try.prog.bytesOf 22 = 48:=by kernel_rfl
@[simp] theorem k_eq22 : eqKinds Try.prog 22 = some [SK.i,SK.i,SK.i,SK.i,SK.i,SK.i]:=by kernel_rfl
@[simp] theorem k_guard22 : Try.prog.eqGuardType Try.prog.depth 22 = false:=by kernel_rfl
@[simp] theorem k_zero22 : zeroAV Try.prog 22 = some (AV.st [AV.v (Value.int IntKind.i64 0),AV.v (Value.int IntKind.i64 0),AV.v (Value.int IntKind.i64 0),AV.v (Value.int IntKind.i64 0),AV.v (Value.int IntKind.i64 0),AV.v (Value.int IntKind.i64 0)]):=by kernel_rfl
@[simp] theorem k_ok23 : okT Try.prog 23 = true:=by kernel_rfl
@[simp] theorem k_agg23 : aggB Try.prog 23 = true:=by kernel_rfl
@[simp] theorem k_cells23 : Try.prog.cellsOf 23 = 6:=by kernel_rfl
@[simp] theorem k_bytes23 : Try.prog.bytesOf 23 = 48:=by kernel_rfl
@[simp] theorem k_eq23 : eqKinds Try.prog 23 = some [SK.i,SK.i,SK.i,SK.i,SK.i,SK.i]:=by kernel_rfl
@[simp] theorem k_guard23 : Try.prog.eqGuardType Try.prog.depth 23 = false:=by kernel_rfl
@[simp] theorem k_zero23 : zeroAV Try.prog 23 = some (AV.st [AV.v (Value.int IntKind.i64 0),AV.v (Value.int IntKind.i64 0),AV.v (Value.int IntKind.i64 0),AV.v (Value.int IntKind.i64 0),AV.v (Value.int IntKind.i64 0),AV.v (Value.int IntKind.i64 0)]):=by kernel_rfl
@[simp] theorem k_ok25 : okT Try.prog 25 = true:=by kernel_rfl
@[simp] theorem k_agg25 : aggB Try.prog 25 = false:=by kernel_rfl
@[simp] theorem k_cells25 : Try.prog.cellsOf 25 = 1:=by kernel_rfl
@[simp] theorem k_bytes25 : Try.prog.bytesOf 25 = 8:=by kernel_rfl
@[simp] theorem k_eq25 : eqKinds Try.prog 25 = some [SK.i]:=by kernel_rfl
@[simp] theorem k_guard25 : Try.prog.eqGuardType Try.prog.depth 25 = false:=by kernel_rfl
@[simp] theorem k_zero25 : zeroAV Try.prog 25 = some (AV.v (Value.int IntKind.i64 0)):=by kernel_rfl
@[simp] theorem k_ok29 : okT Try.prog 29 = true:=by kernel_rfl
@[simp] theorem k_agg29 : aggB Try.prog 29 = false:=by kernel_rfl
@[simp] theorem k_cells29 : Try.prog.cellsOf 29 = 1:=by kernel_rfl
@[simp] theorem k_bytes29 : Try.prog.bytesOf 29 = 24:=by kernel_rfl
@[simp] theorem k_eq29 : eqKinds Try.prog 29 = none:=by kernel_rfl
@[simp] theorem k_guard29 : Try.prog.eqGuardType Try.prog.depth 29 = false:=by kernel_rfl
@[simp] theorem k_zero29 : zeroAV Try.prog 29 = some (AV.v (Value.slice none 0 0)):=by kernel_rfl
@[simp] theorem k_ok30 : okT Try.prog 30 = true:=by kernel_rfl
@[simp] theorem k_agg30 : aggB Try.prog 30 = false:=by kernel_rfl
@[simp] theorem k_cells30 : Try.prog.cellsOf 30 = 1:=by kernel_rfl
@[simp] theorem k_bytes30 : Try.prog.bytesOf 30 = 24:=by kernel_rfl
@[simp] theorem k_eq30 : eqKinds Try.prog 30 = none:=by kernel_rfl
@[simp] theorem k_guard30 : Try.prog.eqGuardType Try.prog.depth 30 = false:=by kernel_rfl
@[simp] theorem k_zero30 : zeroAV Try.prog 30 = some (AV.v (Value.slice none 0 0)):=by kernel_rfl
@[simp] theorem k_ok31 : okT Try.prog 31 = true:=by kernel_rfl
@[simp] theorem k_agg31 : aggB Try.prog 31 = true:=by kernel_rfl
@[simp] theorem k_cells31 : Try.prog.cellsOf 31 = 6:=by kernel_rfl
@[simp] theorem k_bytes31 : Try.prog.bytesOf 31 = 6:=by kernel_rfl
@[simp] theorem k_eq31 : eqKinds Try.prog 31 = some [SK.i,SK.i,SK.i,SK.i,SK.i,SK.i]:=by kernel_rfl
@[simp] theorem k_guard31 : Try.prog.eqGuardType Try.prog.depth 31 = false:=by kernel_rfl
@[simp] theorem k_zero31 : zeroAV Try.prog 31 = some (AV.st [AV.v (Value.int IntKind.u8 0),AV.v (Value.int IntKind.u8 0),AV.v (Value.int IntKind.u8 0),AV.v (Value.int IntKind.u8 0),AV.v (Value.int IntKind.u8 0),AV.v (Value.int IntKind.u8 0)]):=by kernel_rfl
@[simp] theorem k_ok32 : okT Try.prog 32 = true:=by kernel_rfl
@[simp] theorem k_agg32 : aggB Try.prog 32 = true:=by kernel_rfl
@[simp] theorem k_cells32 : Try.prog.cellsOf 32 = 6:=by kernel_rfl
@[simp] theorem k_bytes32 : Try.prog.bytesOf 32 = 6:=by kernel_rfl
@[simp] theorem k_eq32 : eqKinds Try.prog 32 = some [SK.i,SK.i,SK.i,SK.i,SK.i,SK.i]:=by kernel_rfl
@[simp] theorem k_guard32 : Try.prog.eqGuardType Try.prog.depth 32 = false:=by kernel_rfl
@[simp] theorem k_zero32 : zeroAV Try.prog 32 = some (AV.st [AV.v (Value.int IntKind.u8 0),AV.v (Value.int IntKind.u8 0),AV.v (Value.int IntKind.u8 0),AV.v (Value.int IntKind.u8 0),AV.v (Value.int IntKind.u8 0),AV.v (Value.int IntKind.u8 0)]):=by kernel_rfl
@[simp] theorem k_ok33 : okT Try.prog 33 = true:=by kernel_rfl
@[simp] theorem k_agg33 : aggB Try.prog 33 = false:=by kernel_rfl
@[simp] theorem k_cells33 : Try.prog.cellsOf 33 = 1:=by kernel_rfl
@[simp] theorem k_bytes33 : Try.prog.bytesOf 33 = 24:=by kernel_rfl
@[simp] theorem k_eq33 : eqKinds Try.prog 33 = none:=by kernel_rfl
@[simp] theorem k_guard33 : Try.prog.eqGuardType Try.prog.depth 33 = false:=by kernel_rfl
@[simp] theorem k_zero33 : zeroAV Try.prog 33 = some (AV.v (Value.slice none 0 0)):=by kernel_rfl
@[simp] theorem k_ok36 : okT Try.prog 36 = true:=by kernel_rfl
@[simp] theorem k_agg36 : aggB Try.prog 36 = false:=by kernel_rfl
@[simp] theorem k_cells36 : Try.prog.cellsOf 36 = 1:=by kernel_rfl
@[simp] theorem k_bytes36 : Try.prog.bytesOf 36 = 8:=by kernel_rfl
@[simp] theorem k_eq36 : eqKinds Try.prog 36 = none:=by kernel_rfl
@[simp] theorem k_guard36 : Try.prog.eqGuardType Try.prog.depth 36 = false:=by kernel_rfl
@[simp] theorem k_zero36 : zeroAV Try.prog 36 = some (AV.v (Value.pointer none)):=by kernel_rfl
@[simp] theorem k_ok37 : okT Try.prog 37 = true:=by kernel_rfl
@[simp] theorem k_agg37 : aggB Try.prog 37 = false:=by kernel_rfl
@[simp] theorem k_cells37 : Try.prog.cellsOf 37 = 1:=by kernel_rfl
@[simp] theorem k_bytes37 : Try.prog.bytesOf 37 = 0:=by kernel_rfl
@[simp] theorem k_eq37 : eqKinds Try.prog 37 = none:=by kernel_rfl
@[simp] theorem k_guard37 : Try.prog.eqGuardType Try.prog.depth 37 = false:=by kernel_rfl
@[simp] theorem k_zero37 : zeroAV Try.prog 37 = some AV.u:=by kernel_rfl
@[simp] theorem k_ok39 : okT Try.prog 39 = true:=by kernel_rfl
@[simp] theorem k_agg39 : aggB Try.prog 39 = false:=by kernel_rfl
@[simp] theorem k_cells39 : Try.prog.cellsOf 39 = 1:=by kernel_rfl
@[simp] theorem k_bytes39 : Try.prog.bytesOf 39 = 24:=by kernel_rfl
@[simp] theorem k_eq39 : eqKinds Try.prog 39 = none:=by kernel_rfl
@[simp] theorem k_guard39 : Try.prog.eqGuardType Try.prog.depth 39 = false:=by kernel_rfl
@[simp] theorem k_zero39 : zeroAV Try.prog 39 = some (AV.v (Value.slice none 0 0)):=by kernel_rfl
@[simp] theorem k_ok43 : okT Try.prog 43 = true:=by kernel_rfl
@[simp] theorem k_agg43 : aggB Try.prog 43 = false:=by kernel_rfl
@[simp] theorem k_cells43 : Try.prog.cellsOf 43 = 1:=by kernel_rfl
@[simp] theorem k_bytes43 : Try.prog.bytesOf 43 = 8:=by kernel_rfl
@[simp] theorem k_eq43 : eqKinds Try.prog 43 = none:=by kernel_rfl
@[simp] theorem k_guard43 : Try.prog.eqGuardType Try.prog.depth 43 = false:=by kernel_rfl
@[simp] theorem k_zero43 : zeroAV Try.prog 43 = some (AV.v Value.nilFunc):=by kernel_rfl
@[simp] theorem k_ok47 : okT Try.prog 47 = true:=by kernel_rfl
@[simp] theorem k_agg47 : aggB Try.prog 47 = false:=by kernel_rfl
@[simp] theorem k_cells47 : Try.prog.cellsOf 47 = 1:=by kernel_rfl
@[simp] theorem k_bytes47 : Try.prog.bytesOf 47 = 0:=by kernel_rfl
@[simp] theorem k_eq47 : eqKinds Try.prog 47 = none:=by kernel_rfl
@[simp] theorem k_guard47 : Try.prog.eqGuardType Try.prog.depth 47 = false:=by kernel_rfl
@[simp] theorem k_zero47 : zeroAV Try.prog 47 = some AV.u:=by kernel_rfl
@[simp] theorem k_ok50 : okT Try.prog 50 = true:=by kernel_rfl
@[simp] theorem k_agg50 : aggB Try.prog 50 = true:=by kernel_rfl
@[simp] theorem k_cells50 : Try.prog.cellsOf 50 = 7:=by kernel_rfl
@[simp] theorem k_bytes50 : Try.prog.bytesOf 50 = 56:=by kernel_rfl
@[simp] theorem k_eq50 : eqKinds Try.prog 50 = some [SK.i,SK.i,SK.i,SK.i,SK.i,SK.i,SK.i]:=by kernel_rfl
@[simp] theorem k_guard50 : Try.prog.eqGuardType Try.prog.depth 50 = false:=by kernel_rfl
@[simp] theorem k_zero50 : zeroAV Try.prog 50 = some (AV.st [AV.v (Value.int IntKind.i64 0),AV.v (Value.int IntKind.i64 0),AV.v (Value.int IntKind.i64 0),AV.v (Value.int IntKind.i64 0),AV.v (Value.int IntKind.i64 0),AV.v (Value.int IntKind.i64 0),AV.v (Value.int IntKind.i64 0)]):=by kernel_rfl
@[simp] theorem k_ok51 : okT Try.prog 51 = true:=by kernel_rfl
@[simp] theorem k_agg51 : aggB Try.prog 51 = true:=by kernel_rfl
@[simp] theorem k_cells51 : Try.prog.cellsOf 51 = 7:=by kernel_rfl
@[simp] theorem k_bytes51 : Try.prog.bytesOf 51 = 56:=by kernel_rfl
@[simp] theorem k_eq51 : eqKinds Try.prog 51 = some [SK.i,SK.i,SK.i,SK.i,SK.i,SK.i,SK.i]:=by kernel_rfl
@[simp] theorem k_guard51 : Try.prog.eqGuardType Try.prog.depth 51 = false:=by kernel_rfl
@[simp] theorem k_zero51 : zeroAV Try.prog 51 = some (AV.st [AV.v (Value.int IntKind.i64 0),AV.v (Value.int IntKind.i64 0),AV.v (Value.int IntKind.i64 0),AV.v (Value.int IntKind.i64 0),AV.v (Value.int IntKind.i64 0),AV.v (Value.int IntKind.i64 0),AV.v (Value.int IntKind.i64 0)]):=by kernel_rfl
@[simp] theorem k_ok53 : okT Try.prog 53 = true:=by kernel_rfl
@[simp] theorem k_agg53 : aggB Try.prog 53 = false:=by kernel_rfl
@[simp] theorem k_cells53 : Try.prog.cellsOf 53 = 1:=by kernel_rfl
@[simp] theorem k_bytes53 : Try.prog.bytesOf 53 = 24:=by kernel_rfl
@[simp] theorem k_eq53 : eqKinds Try.prog 53 = none:=by kernel_rfl
@[simp] theorem k_guard53 : Try.prog.eqGuardType Try.prog.depth 53 = false:=by kernel_rfl
@[simp] theorem k_zero53 : zeroAV Try.prog 53 = some (AV.v (Value.slice none 0 0)):=by kernel_rfl
@[simp] theorem k_ok55 : okT Try.prog 55 = true:=by kernel_rfl
@[simp] theorem k_agg55 : aggB Try.prog 55 = false:=by kernel_rfl
@[simp] theorem k_cells55 : Try.prog.cellsOf 55 = 1:=by kernel_rfl
@[simp] theorem k_bytes55 : Try.prog.bytesOf 55 = 0:=by kernel_rfl
@[simp] theorem k_eq55 : eqKinds Try.prog 55 = none:=by kernel_rfl
@[simp] theorem k_guard55 : Try.prog.eqGuardType Try.prog.depth 55 = false:=by kernel_rfl
@[simp] theorem k_zero55 : zeroAV Try.prog 55 = some AV.u:=by kernel_rfl
@[simp] theorem k_ok57 : okT Try.prog 57 = true:=by kernel_rfl
@[simp] theorem k_agg57 : aggB Try.prog 57 = false:=by kernel_rfl
@[simp] theorem k_cells57 : Try.prog.cellsOf 57 = 1:=by kernel_rfl
@[simp] theorem k_bytes57 : Try.prog.bytesOf 57 = 8:=by kernel_rfl
@[simp] theorem k_eq57 : eqKinds Try.prog 57 = none:=by kernel_rfl
@[simp] theorem k_guard57 : Try.prog.eqGuardType Try.prog.depth 57 = false:=by kernel_rfl
@[simp] theorem k_zero57 : zeroAV Try.prog 57 = some (AV.v (Value.map none)):=by kernel_rfl
@[simp] theorem k_ok59 : okT Try.prog 59 = true:=by kernel_rfl
@[simp] theorem k_agg59 : aggB Try.prog 59 = true:=by kernel_rfl
@[simp] theorem k_cells59 : Try.prog.cellsOf 59 = 8:=by kernel_rfl
@[simp] theorem k_bytes59 : Try.prog.bytesOf 59 = 96:=by kernel_rfl
@[simp] theorem k_eq59 : eqKinds Try.prog 59 = none:=by kernel_rfl
@[simp] theorem k_guard59 : Try.prog.eqGuardType Try.prog.depth 59 = false:=by kernel_rfl
@[simp] theorem k_zero59 : zeroAV Try.prog 59 = some (AV.st [AV.v (Value.int IntKind.i64 0),AV.v (Value.int IntKind.i64 0),AV.v (Value.int IntKind.i64 0),AV.v (Value.int IntKind.i64 0),AV.v (Value.int IntKind.i64 0),AV.v (Value.int IntKind.i64 0),AV.v (Value.slice none 0 0),AV.v (Value.slice none 0 0)]):=by kernel_rfl
@[simp] theorem k_ok60 : okT Try.prog 60 = true:=by kernel_rfl
@[simp] theorem k_agg60 : aggB Try.prog 60 = true:=by kernel_rfl
@[simp] theorem k_cells60 : Try.prog.cellsOf 60 = 8:=by kernel_rfl
@[simp] theorem k_bytes60 : Try.prog.bytesOf 60 = 96:=by kernel_rfl
@[simp] theorem k_eq60 : eqKinds Try.prog 60 = none:=by kernel_rfl
@[simp] theorem k_guard60 : Try.prog.eqGuardType Try.prog.depth 60 = false:=by kernel_rfl
@[simp] theorem k_zero60 : zeroAV Try.prog 60 = some (AV.st [AV.v (Value.int IntKind.i64 0),AV.v (Value.int IntKind.i64 0),AV.v (Value.int IntKind.i64 0),AV.v (Value.int IntKind.i64 0),AV.v (Value.int IntKind.i64 0),AV.v (Value.int IntKind.i64 0),AV.v (Value.slice none 0 0),AV.v (Value.slice none 0 0)]):=by kernel_rfl
@[simp] theorem k_ok61 : okT Try.prog 61 = true:=by kernel_rfl
@[simp] theorem k_agg61 : aggB Try.prog 61 = false:=by kernel_rfl
@[simp] theorem k_cells61 : Try.prog.cellsOf 61 = 1:=by kernel_rfl
@[simp] theorem k_bytes61 : Try.prog.bytesOf 61 = 8:=by kernel_rfl
@[simp] theorem k_eq61 : eqKinds Try.prog 61 = none:=by kernel_rfl
@[simp] theorem k_guard61 : Try.prog.eqGuardType Try.prog.depth 61 = false:=by kernel_rfl
@[simp] theorem k_zero61 : zeroAV Try.prog 61 = some (AV.v Value.nilFunc):=by kernel_rfl
@[simp] theorem k_ok62 : okT Try.prog 62 = true:=by kernel_rfl
@[simp] theorem k_agg62 : aggB Try.prog 62 = false:=by kernel_rfl
@[simp] theorem k_cells62 : Try.prog.cellsOf 62 = 1:=by kernel_rfl
@[simp] theorem k_bytes62 : Try.prog.bytesOf 62 = 24:=by kernel_rfl
@[simp] theorem k_eq62 : eqKinds Try.prog 62 = none:=by kernel_rfl
@[simp] theorem k_guard62 : Try.prog.eqGuardType Try.prog.depth 62 = false:=by kernel_rfl
@[simp] theorem k_zero62 : zeroAV Try.prog 62 = some (AV.v (Value.slice none 0 0)):=by kernel_rfl
@[simp] theorem k_ok67 : okT Try.prog 67 = true:=by kernel_rfl
@[simp] theorem k_agg67 : aggB Try.prog 67 = true:=by kernel_rfl
@[simp] theorem k_cells67 : Try.prog.cellsOf 67 = 7:=by kernel_rfl
@[simp] theorem k_bytes67 : Try.prog.bytesOf 67 = 7:=by kernel_rfl
@[simp] theorem k_eq67 : eqKinds Try.prog 67 = some [SK.i,SK.i,SK.i,SK.i,SK.i,SK.i,SK.i]:=by kernel_rfl
@[simp] theorem k_guard67 : Try.prog.eqGuardType Try.prog.depth 67 = false:=by kernel_rfl
@[simp] theorem k_zero67 : zeroAV Try.prog 67 = some (AV.st [AV.v (Value.int IntKind.u8 0),AV.v (Value.int IntKind.u8 0),AV.v (Value.int IntKind.u8 0),AV.v (Value.int IntKind.u8 0),AV.v (Value.int IntKind.u8 0),AV.v (Value.int IntKind.u8 0),AV.v (Value.int IntKind.u8 0)]):=by kernel_rfl
@[simp] theorem k_ok68 : okT Try.prog 68 = true:=by kernel_rfl
@[simp] theorem k_agg68 : aggB Try.prog 68 = true:=by kernel_rfl
@[simp] theorem k_cells68 : Try.prog.cellsOf 68 = 7:=by kernel_rfl
@[simp] theorem k_bytes68 : Try.prog.bytesOf 68 = 7:=by kernel_rfl
@[simp] theorem k_eq68 : eqKinds Try.prog 68 = some [SK.i,SK.i,SK.i,SK.i,SK.i,SK.i,SK.i]:=by kernel_rfl
@[simp] theorem k_guard68 : Try.prog.eqGuardType Try.prog.depth 68 = false:=by kernel_rfl
@[simp] theorem k_zero68 : zeroAV Try.prog 68 = some (AV.st [AV.v (Value.int IntKind.u8 0),AV.v (Value.int IntKind.u8 0),AV.v (Value.int IntKind.u8 0),AV.v (Value.int IntKind.u8 0),AV.v (Value.int IntKind.u8 0),AV.v (Value.int IntKind.u8 0),AV.v (Value.int IntKind.u8 0)]):=by kernel_rfl
@[simp] theorem k_ok71 : okT Try.prog 71 = true:=by kernel_rfl
@[simp] theorem k_agg71 : aggB Try.prog 71 = true:=by kernel_rfl
@[simp] theorem k_cells71 : Try.prog.cellsOf 71 = 4:=by kernel_rfl
@[simp] theorem k_bytes71 : Try.prog.bytesOf 71 = 64:=by kernel_rfl
@[simp] theorem k_eq71 : eqKinds Try.prog 71 = none:=by kernel_rfl
@[simp] theorem k_guard71 : Try.prog.eqGuardType Try.prog.depth 71 = false:=by kernel_rfl
@[simp] theorem k_zero71 : zeroAV Try.prog 71 = some (AV.st [AV.v (Value.slice none 0 0),AV.v (Value.slice none 0 0),AV.v (Value.int IntKind.i64 0),AV.v (Value.int IntKind.i64 0)]):=by kernel_rfl
@[simp] theorem k_ok72 : okT Try.prog 72 = true:=by kernel_rfl
@[simp] theorem k_agg72 : aggB Try.prog 72 = true:=by kernel_rfl
@[simp] theorem k_cells72 : Try.prog.cellsOf 72 = 4:=by kernel_rfl
@[simp] theorem k_bytes72 : Try.prog.bytesOf 72 = 64:=by kernel_rfl
@[simp] theorem k_eq72 : eqKinds Try.prog 72 = none:=by kernel_rfl
@[simp] theorem k_guard72 : Try.prog.eqGuardType Try.prog.depth 72 = false:=by kernel_rfl
@[simp] theorem k_zero72 : zeroAV Try.prog 72 = some (AV.st [AV.v (Value.slice none 0 0),AV.v (Value.slice none 0 0),AV.v (Value.int IntKind.i64 0),AV.v (Value.int IntKind.i64 0)]):=by kernel_rfl
@[simp] theorem k_ok74 : okT Try.prog 74 = true:=by kernel_rfl
@[simp] theorem k_agg74 : aggB Try.prog 74 = false:=by kernel_rfl
@[simp] theorem k_cells74 : Try.prog.cellsOf 74 = 1:=by kernel_rfl
@[simp] theorem k_bytes74 : Try.prog.bytesOf 74 = 8:=by kernel_rfl
@[simp] theorem k_eq74 : eqKinds Try.prog 74 = none:=by kernel_rfl
@[simp] theorem k_guard74 : Try.prog.eqGuardType Try.prog.depth 74 = false:=by kernel_rfl
@[simp] theorem k_zero74 : zeroAV Try.prog 74 = some (AV.v (Value.map none)):=by kernel_rfl
@[simp] theorem k_ok75 : okT Try.prog 75 = true:=by kernel_rfl
@[simp] theorem k_agg75 : aggB Try.prog 75 = false:=by kernel_rfl
@[simp] theorem k_cells75 : Try.prog.cellsOf 75 = 1:=by kernel_rfl
@[simp] theorem k_bytes75 : Try.prog.bytesOf 75 = 8:=by kernel_rfl
@[simp] theorem k_eq75 : eqKinds Try.prog 75 = none:=by kernel_rfl
@[simp] theorem k_guard75 : Try.prog.eqGuardType Try.prog.depth 75 = false:=by kernel_rfl
@[simp] theorem k_zero75 : zeroAV Try.prog 75 = some (AV.v Value.nilFunc):=by kernel_rfl
@[simp] theorem k_ok76 : okT Try.prog 76 = true:=by kernel_rfl
@[simp] theorem k_agg76 : aggB Try.prog 76 = false:=by kernel_rfl
@[simp] theorem k_cells76 : Try.prog.cellsOf 76 = 1:=by kernel_rfl
@[simp] theorem k_bytes76 : Try.prog.bytesOf 76 = 8:=by kernel_rfl
@[simp] theorem k_eq76 : eqKinds Try.prog 76 = none:=by kernel_rfl
@[simp] theorem k_guard76 : Try.prog.eqGuardType Try.prog.depth 76 = false:=by kernel_rfl
@[simp] theorem k_zero76 : zeroAV Try.prog 76 = some (AV.v Value.nilFunc):=by kernel_rfl
@[simp] theorem k_ok79 : okT Try.prog 79 = true:=by kernel_rfl
@[simp] theorem k_agg79 : aggB Try.prog 79 = false:=by kernel_rfl
@[simp] theorem k_cells79 : Try.prog.cellsOf 79 = 1:=by kernel_rfl
@[simp] theorem k_bytes79 : Try.prog.bytesOf 79 = 8:=by kernel_rfl
@[simp] theorem k_eq79 : eqKinds Try.prog 79 = none:=by kernel_rfl
@[simp] theorem k_guard79 : Try.prog.eqGuardType Try.prog.depth 79 = false:=by kernel_rfl
@[simp] theorem k_zero79 : zeroAV Try.prog 79 = some (AV.v Value.nilFunc):=by kernel_rfl
@[simp] theorem k_ok80 : okT Try.prog 80 = true:=by kernel_rfl
@[simp] theorem k_agg80 : aggB Try.prog 80 = false:=by kernel_rfl
@[simp] theorem k_cells80 : Try.prog.cellsOf 80 = 1:=by kernel_rfl
@[simp] theorem k_bytes80 : Try.prog.bytesOf 80 = 8:=by kernel_rfl
@[simp] theorem k_eq80 : eqKinds Try.prog 80 = none:=by kernel_rfl
@[simp] theorem k_guard80 : Try.prog.eqGuardType Try.prog.depth 80 = false:=by kernel_rfl
@[simp] theorem k_zero80 : zeroAV Try.prog 80 = some (AV.v Value.nilFunc):=by kernel_rfl
@[simp] theorem k_ok85 : okT Try.prog 85 = true:=by kernel_rfl
@[simp] theorem k_agg85 : aggB Try.prog 85 = false:=by kernel_rfl
@[simp] theorem k_cells85 : Try.prog.cellsOf 85 = 1:=by kernel_rfl
@[simp] theorem k_bytes85 : Try.prog.bytesOf 85 = 8:=by kernel_rfl
@[simp] theorem k_eq85 : eqKinds Try.prog 85 = none:=by kernel_rfl
@[simp] theorem k_guard85 : Try.prog.eqGuardType Try.prog.depth 85 = false:=by kernel_rfl
@[simp] theorem k_zero85 : zeroAV Try.prog 85 = some (AV.v Value.nilFunc):=by kernel_rfl
@[simp] theorem k_ok86 : okT Try.prog 86 = true:=by kernel_rfl
@[simp] theorem k_agg86 : aggB Try.prog 86 = false:=by kernel_rfl
@[simp] theorem k_cells86 : Try.prog.cellsOf 86 = 1:=by kernel_rfl
@[simp] theorem k_bytes86 : Try.prog.bytesOf 86 = 8:=by kernel_rfl
@[simp] theorem k_eq86 : eqKinds Try.prog 86 = none:=by kernel_rfl
@[simp] theorem k_guard86 : Try.prog.eqGuardType Try.prog.depth 86 = false:=by kernel_rfl
@[simp] theorem k_zero86 : zeroAV Try.prog 86 = some (AV.v Value.nilFunc):=by kernel_rfl
@[simp] theorem k_ok87 : okT Try.prog 87 = true:=by kernel_rfl
@[simp] theorem k_agg87 : aggB Try.prog 87 = false:=by kernel_rfl
@[simp] theorem k_cells87 : Try.prog.cellsOf 87 = 1:=by kernel_rfl
@[simp] theorem k_bytes87 : Try.prog.bytesOf 87 = 8:=by kernel_rfl
@[simp] theorem k_eq87 : eqKinds Try.prog 87 = none:=by kernel_rfl
@[simp] theorem k_guard87 : Try.prog.eqGuardType Try.prog.depth 87 = false:=by kernel_rfl
@[simp] theorem k_zero87 : zeroAV Try.prog 87 = some (AV.v Value.nilFunc):=by kernel_rfl
@[simp] theorem k_ok89 : okT Try.prog 89 = true:=by kernel_rfl
@[simp] theorem k_agg89 : aggB Try.prog 89 = false:=by kernel_rfl
@[simp] theorem k_cells89 : Try.prog.cellsOf 89 = 1:=by kernel_rfl
@[simp] theorem k_bytes89 : Try.prog.bytesOf 89 = 24:=by kernel_rfl
@[simp] theorem k_eq89 : eqKinds Try.prog 89 = none:=by kernel_rfl
@[simp] theorem k_guard89 : Try.prog.eqGuardType Try.prog.depth 89 = false:=by kernel_rfl
@[simp] theorem k_zero89 : zeroAV Try.prog 89 = some (AV.v (Value.slice none 0 0)):=by kernel_rfl
@[simp] theorem k_ok90 : okT Try.prog 90 = true:=by kernel_rfl
@[simp] theorem k_agg90 : aggB Try.prog 90 = false:=by kernel_rfl
@[simp] theorem k_cells90 : Try.prog.cellsOf 90 = 1:=by kernel_rfl
@[simp] theorem k_bytes90 : Try.prog.bytesOf 90 = 8:=by kernel_rfl
@[simp] theorem k_eq90 : eqKinds Try.prog 90 = none:=by kernel_rfl
@[simp] theorem k_guard90 : Try.prog.eqGuardType Try.prog.depth 90 = false:=by kernel_rfl
@[simp] theorem k_zero90 : zeroAV Try.prog 90 = some (AV.v (Value.pointer none)):=by kernel_rfl
@[simp] theorem k_ok91 : okT Try.prog 91 = true:=by kernel_rfl
@[simp] theorem k_agg91 : aggB Try.prog 91 = false:=by kernel_rfl
@[simp] theorem k_cells91 : Try.prog.cellsOf 91 = 1:=by kernel_rfl
@[simp] theorem k_bytes91 : Try.prog.bytesOf 91 = 8:=by kernel_rfl
@[simp] theorem k_eq91 : eqKinds Try.prog 91 = none:=by kernel_rfl
@[simp] theorem k_guard91 : Try.prog.eqGuardType Try.prog.depth 91 = false:=by kernel_rfl
@[simp] theorem k_zero91 : zeroAV Try.prog 91 = some (AV.v Value.nilFunc):=by kernel_rfl
@[simp] theorem k_ok92 : okT Try.prog 92 = true:=by kernel_rfl
@[simp] theorem k_agg92 : aggB Try.prog 92 = false:=by kernel_rfl
@[simp] theorem k_cells92 : Try.prog.cellsOf 92 = 1:=by kernel_rfl
@[simp] theorem k_bytes92 : Try.prog.bytesOf 92 = 8:=by kernel_rfl
@[simp] theorem k_eq92 : eqKinds Try.prog 92 = none:=by kernel_rfl
@[simp] theorem k_guard92 : Try.prog.eqGuardType Try.prog.depth 92 = false:=by kernel_rfl
@[simp] theorem k_zero92 : zeroAV Try.prog 92 = some (AV.v Value.nilFunc):=by kernel_rfl
@[simp] theorem k_ok97 : okT Try.prog 97 = true:=by kernel_rfl
@[simp] theorem k_agg97 : aggB Try.prog 97 = false:=by kernel_rfl
@[simp] theorem k_cells97 : Try.prog.cellsOf 97 = 1:=by kernel_rfl
@[simp] theorem k_bytes97 : Try.prog.bytesOf 97 = 8:=by kernel_rfl
@[simp] theorem k_eq97 : eqKinds Try.prog 97 = none:=by kernel_rfl
@[simp] theorem k_guard97 : Try.prog.eqGuardType Try.prog.depth 97 = false:=by kernel_rfl
@[simp] theorem k_zero97 : zeroAV Try.prog 97 = some (AV.v Value.nilFunc):=by kernel_rfl
@[simp] theorem k_ok98 : okT Try.prog 98 = true:=by kernel_rfl
@[simp] theorem k_agg98 : aggB Try.prog 98 = false:=by kernel_rfl
@[simp] theorem k_cells98 : Try.prog.cellsOf 98 = 1:=by kernel_rfl
@[simp] theorem k_bytes98 : Try.prog.bytesOf 98 = 8:=by kernel_rfl
@[simp] theorem k_eq98 : eqKinds Try.prog 98 = some [SK.i]:=by kernel_rfl
@[simp] theorem k_guard98 : Try.prog.eqGuardType Try.prog.depth 98 = false:=by kernel_rfl
@[simp] theorem k_zero98 : zeroAV Try.prog 98 = some (AV.v (Value.int IntKind.u64 0)):=by kernel_rfl
@[simp] theorem k_ok99 : okT Try.prog 99 = true:=by kernel_rfl
@[simp] theorem k_agg99 : aggB Try.prog 99 = false:=by kernel_rfl
@[simp] theorem k_cells99 : Try.prog.cellsOf 99 = 1:=by kernel_rfl
@[simp] theorem k_bytes99 : Try.prog.bytesOf 99 = 8:=by kernel_rfl
@[simp] theorem k_eq99 : eqKinds Try.prog 99 = none:=by kernel_rfl
@[simp] theorem k_guard99 : Try.prog.eqGuardType Try.prog.depth 99 = false:=by kernel_rfl
@[simp] theorem k_zero99 : zeroAV Try.prog 99 = some (AV.v Value.nilFunc):=by kernel_rfl
@[simp] theorem k_ok100 : okT Try.prog 100 = true:=by kernel_rfl
@[simp] theorem k_agg100 : aggB Try.prog 100 = false:=by kernel_rfl
@[simp] theorem k_cells100 : Try.prog.cellsOf 100 = 1:=by kernel_rfl
@[simp] theorem k_bytes100 : Try.prog.bytesOf 100 = 8:=by kernel_rfl
@[simp] theorem k_eq100 : eqKinds Try.prog 100 = none:=by kernel_rfl
@[simp] theorem k_guard100 : Try.prog.eqGuardType Try.prog.depth 100 = false:=by kernel_rfl
@[simp] theorem k_zero100 : zeroAV Try.prog 100 = some (AV.v Value.nilFunc):=by kernel_rfl
@[simp] theorem k_ok101 : okT Try.prog 101 = true:=by kernel_rfl
@[simp] theorem k_agg101 : aggB Try.prog 101 = false:=by kernel_rfl
@[simp] theorem k_cells101 : Try.prog.cellsOf 101 = 1:=by kernel_rfl
@[simp] theorem k_bytes101 : Try.prog.bytesOf 101 = 8:=by kernel_rfl
@[simp] theorem k_eq101 : eqKinds Try.prog 101 = none:=by kernel_rfl
@[simp] theorem k_guard101 : Try.prog.eqGuardType Try.prog.depth 101 = false:=by kernel_rfl
@[simp] theorem k_zero101 : zeroAV Try.prog 101 = some (AV.v Value.nilFunc):=by kernel_rfl
@[simp] theorem k_ok102 : okT Try.prog 102 = true:=by kernel_rfl
@[simp] theorem k_agg102 : aggB Try.prog 102 = false:=by kernel_rfl
@[simp] theorem k_cells102 : Try.prog.cellsOf 102 = 1:=by kernel_rfl
@[simp] theorem k_bytes102 : Try.prog.bytesOf 102 = 8:=by kernel_rfl
@[simp] theorem k_eq102 : eqKinds Try.prog 102 = none:=by kernel_rfl
@[simp] theorem k_guard102 : Try.prog.eqGuardType Try.prog.depth 102 = false:=by kernel_rfl
@[simp] theorem k_zero102 : zeroAV Try.prog 102 = some (AV.v Value.nilFunc):=by kernel_rfl
attribute [simp] Try.underlying0 Try.underlying1 Try.underlying2 Try.underlying3 Try.underlying4 Try.underlying5
attribute [simp] Try.underlying22 Try.underlying23 Try.underlying25 Try.underlying29
attribute [simp] Try.underlying30 Try.underlying31 Try.underlying32 Try.underlying33 Try.underlying36 Try.underlying37 Try.underlying39
attribute [simp] Try.underlying43 Try.underlying47
attribute [simp] Try.underlying50 Try.underlying51 Try.underlying53 Try.underlying55 Try.underlying57 Try.underlying59
attribute [simp] Try.underlying60 Try.underlying61 Try.underlying62 Try.underlying67 Try.underlying68
attribute [simp] Try.underlying71 Try.underlying72 Try.underlying74 Try.underlying75 Try.underlying76 Try.underlying79
attribute [simp] Try.underlying80 Try.underlying85 Try.underlying86 Try.underlying87 Try.underlying89
attribute [simp] Try.underlying90 Try.underlying91 Try.underlying92 Try.underlying97 Try.underlying98 Try.underlying99
attribute [simp] Try.underlying100 Try.underlying101 Try.underlying102
theorem mixed : Try.prog.follows .mixedOrders = true:=by kernel_rfl
end Go.Proofs.Ytlkijcflfnnbaaa
