/- The abstract machine, part 5: what each quiet operation does to abstract values. -/
import Derived.Test.YtmjckbokjjnmeaaAmOps
namespace Go.Am
open Go.RowKit

/-- The box that it points into. -/
def lkA (bf : Nat → Option Ct) : AV → Option Ct
  | .loc id _ => bf id
  | .eloc id _ _ _ => bf id
  | .own id _ _ _ => bf id
  | .mp id => bf id
  | _ => none

def qload (P : Program) (T : TypeId) (p : AV) (c : Option Ct) (cont : AV → Prop) : Prop :=
  okT P T = true ∧ match p with
  | .loc _ off => (match c with
    | some (.box _ x) => (off + P.cellsOf T ≤ x.cells.length ∧ (aggB P T = true ∨ P.cellsOf T = 1)) ∧ cont (aload x off (P.cellsOf T) (aggB P T))
    | _ => False)
  | .eloc _ kk i off => (match c with
    | some (.arr _ k' xs) => (kk = k' ∧ i < xs.length ∧ off + P.cellsOf T ≤ kk ∧ (aggB P T = true ∨ P.cellsOf T = 1)) ∧ cont (aload (xs.getD i .u) off (P.cellsOf T) (aggB P T))
    | _ => False)
  | .ep x => (P.cellsOf T = x.cells.length ∧ aggB P T = x.isSt ∧ (aggB P T = true ∨ P.cellsOf T = 1)) ∧ cont x
  | _ => False

def qfaddr (P : Program) (T : TypeId) (x : AV) (f : Nat) (cont : AV → Prop) : Prop :=
  match P.underlying T with
  | some (.struct fs) => (match fs[f]? with
    | some fld => (okT P fld.type = true ∧ P.cellsOf fld.type ≠ 0) ∧ (match x with
      | .loc id off => cont (.loc id (off + fld.offset))
      | .eloc id kk i off => cont (.eloc id kk i (off + fld.offset))
      | .ep y => (fld.offset + P.cellsOf fld.type ≤ y.cells.length ∧ (aggB P fld.type = true ∨ P.cellsOf fld.type = 1)) ∧ cont (.ep (y.part fld.offset (P.cellsOf fld.type) (aggB P fld.type)))
      | _ => False)
    | none => False)
  | _ => False

def qiaddr (P : Program) (T : TypeId) (x i : AV) (cont : AV → Prop) : Prop :=
  match P.underlying T, i with
  | some (.slice e), .v (.int _ n) => okT P e = true ∧ (match x with
    | .sl k xs => P.cellsOf e = k ∧ (0 ≤ n ∧ n < xs.length) ∧ cont (.ep (xs.getD n.toNat .u))
    | .own id k off m => P.cellsOf e = k ∧ (0 ≤ n ∧ n < m) ∧ cont (.eloc id k (off + n.toNat) 0)
    | _ => False)
  | some (.array len e), .v (.int _ n) => okT P e = true ∧ (match x with
    | .loc id off => (0 ≤ n ∧ n < len) ∧ cont (.loc id (off + n.toNat * P.cellsOf e))
    | .ep y => (0 ≤ n ∧ n < len) ∧ (n.toNat * P.cellsOf e + P.cellsOf e ≤ y.cells.length ∧ (aggB P e = true ∨ P.cellsOf e = 1)) ∧ cont (.ep (y.part (n.toNat * P.cellsOf e) (P.cellsOf e) (aggB P e)))
    | _ => False)
  | _, _ => False

def fillElems : List AV → List (Nat × AV) → List AV
  | es, [] => es
  | es, (i, x) :: rest => fillElems (es.set i x) rest
def partsOK (len k : Nat) : List (Nat × AV) → Prop
  | [] => True
  | (i, x) :: rest => (i < len ∧ x.sto = true ∧ x.cells.length = k) ∧ partsOK len k rest

def qbslice (P : Program) (T : TypeId) (len : Nat) (parts : List (Nat × AV)) (d : Nat) (k : AV → Option Ct → Prop) : Prop :=
  match P.underlying T with
  | some (.slice e) => (okT P e = true ∧ 0 < P.cellsOf e ∧ len * P.cellsOf e ≤ 16777216) ∧ (match zeroAV P e with
    | some z => (z.sto = true ∧ z.cells.length = P.cellsOf e) ∧ partsOK len (P.cellsOf e) parts ∧ k (.own d (P.cellsOf e) 0 len) (some (.arr e (P.cellsOf e) (fillElems (List.replicate len z) parts)))
    | none => False)
  | _ => False

def setPart (cs : List AV) (off : Nat) (new : List AV) : List AV := cs.take off ++ (new ++ cs.drop (off + new.length))
def buildK (place : Nat → Option (Nat × Nat)) (cs : List AV) : List (Nat × AV) → (List AV → Prop) → Prop
  | [], k => k cs
  | (i, x) :: rest, k => match place i with
    | some (off, sz) => (x.sto = true ∧ x.cells.length = sz ∧ off + sz ≤ cs.length) ∧ buildK place (setPart cs off x.cells) rest k
    | none => False

def fplace (P : Program) (fs : Array Field) (i : Nat) : Option (Nat × Nat) := (fs[i]?).map fun f => (f.offset, P.cellsOf f.type)

def qbuild (P : Program) (T : TypeId) (parts : List (Nat × AV)) (cont : AV → Prop) : Prop :=
  match zeroAV P T with
  | some (.st cs) => okT P T = true ∧ (match P.underlying T with
    | some (.struct fs) => fs.toList.all (fun f => okT P f.type) = true ∧ buildK (fplace P fs) cs parts (fun cs' => cont (.st cs'))
    | some (.array _ e) => okT P e = true ∧ buildK (fun i => some (i * P.cellsOf e, P.cellsOf e)) cs parts (fun cs' => cont (.st cs'))
    | _ => False)
  | _ => False

def qfield (P : Program) (T : TypeId) (x : AV) (f : Nat) (cont : AV → Prop) : Prop :=
  match P.underlying T with
  | some (.struct fs) => (match fs[f]? with
    | some fld => x.isSt = true ∧ (okT P fld.type = true ∧ fld.offset + P.cellsOf fld.type ≤ x.cells.length ∧ (aggB P fld.type = true ∨ P.cellsOf fld.type = 1)) ∧ cont (x.part fld.offset (P.cellsOf fld.type) (aggB P fld.type))
    | none => False)
  | _ => False

def qindex (P : Program) (T : TypeId) (x i : AV) (cont : AV → Prop) : Prop :=
  match P.underlying T, x, i with
  | some .string, .v (.string s), .v (.int _ n) => (0 ≤ n ∧ n < s.size) ∧ cont (.v (.int .u8 ((s.data.toList.getD n.toNat 0).toNat : Int)))
  | some (.array len e), .st cs, .v (.int _ n) => (okT P e = true ∧ 0 ≤ n ∧ n < len ∧ n.toNat * P.cellsOf e + P.cellsOf e ≤ cs.length ∧ (aggB P e = true ∨ P.cellsOf e = 1)) ∧
      cont ((AV.st cs).part (n.toNat * P.cellsOf e) (P.cellsOf e) (aggB P e))
  | _, _, _ => False

def qun (op : UnOp) (x : AV) (cont : AV → Prop) : Prop :=
  match op, x with
  | .not, .v (.bool b) => cont (.v (.bool (!b)))
  | .neg, .v (.int k n) => arith k (0 - n) cont
  | _, _ => False

def qconv (P : Program) (src dst : TypeId) (x : AV) (cont : AV → Prop) : Prop :=
  okT P src = true ∧ match P.underlying dst, x with
  | some (.int k), .v (.int _ n) => cont (.v (.int k (k.wrap n)))
  | some .string, .v (.string s) => cont (.v (.string s))
  | _, _ => False

def slBound (x : Option AV) (dflt : Nat) : Option Int :=
  match x with
  | none => some dflt
  | some (.v (.int _ n)) => some n
  | _ => none

def qslice (P : Program) (T : TypeId) (x : AV) (lo hi : Option AV) (c : Option Ct) (cont : AV → Prop) : Prop :=
  match P.underlying T, x with
  | some (.slice e), .sl k xs => (okT P e = true ∧ P.cellsOf e = k) ∧ (match slBound lo 0, slBound hi xs.length with
    | some l, some h => (0 ≤ l ∧ l ≤ h ∧ h ≤ xs.length) ∧ cont (.sl k ((xs.take h.toNat).drop l.toNat))
    | _, _ => False)
  | some (.slice e), .own id k off n => (okT P e = true ∧ P.cellsOf e = k) ∧ (match slBound lo 0, slBound hi n with
    | some l, some h => (0 ≤ l ∧ l ≤ h ∧ h ≤ n) ∧ ((l = 0 ∨ l < n) → cont (.own id k (off + l.toNat) (h - l).toNat)) ∧ (¬ (l = 0 ∨ l < n) → cont (.sl k []))
    | _, _ => False)
  | some .string, .v (.string s) => (match slBound lo 0, slBound hi s.size with
    | some l, some h => (0 ≤ l ∧ l ≤ h ∧ h ≤ s.size) ∧ cont (.v (.string (s.extract l.toNat h.toNat)))
    | _, _ => False)
  | some (.array n e), .loc id off => (okT P e = true ∧ P.cellsOf e = 1 ∧ off = 0 ∧ lo = none ∧ hi = none ∧ n ≠ 0) ∧ (match c with
    | some (.box _ y) => y.cells.length = n ∧ n ≤ 16777216 ∧ cont (.own id 1 0 n)
    | _ => False)
  | _, _ => False

/-- The entry of a key. -/
def findA (ks : List SK) (key : AV) : List (AV × AV) → Option AV
  | [] => none
  | (k, v) :: es => if eqA ks key.cells k.cells = some true then some v else findA ks key es
def keysOK (ks : List SK) (agg : Bool) (key : AV) : List (AV × AV) → Prop
  | [] => True
  | (k, _) :: es => ((eqA ks key.cells k.cells).isSome = true ∧ k.isSt = agg ∧ k.sto = true) ∧ keysOK ks agg key es

def qlookup (P : Program) (T : TypeId) (x i : AV) (ok : Bool) (c : Option Ct) (cont : AV → Prop) : Prop :=
  match P.underlying T with
  | some (.map kt e) => (match eqKinds P kt, zeroAV P e with
    | some ks, some z => (ks.length = P.cellsOf kt ∧ i.isSt = aggB P kt ∧ i.sto = true) ∧ (match x with
      | .mp _ => (match c with
        | some (.map es _) => (eqA ks i.cells i.cells).isSome = true ∧ keysOK ks (aggB P kt) i es ∧ (match findA ks i es with
          | some v => cont (if ok then .tup [v, .v (.bool true)] else v)
          | none => cont (if ok then .tup [z, .v (.bool false)] else z))
        | _ => False)
      | .v (.map none) => (eqA ks i.cells i.cells).isSome = true ∧ cont (if ok then .tup [z, .v (.bool false)] else z)
      | _ => False)
    | _, _ => False)
  | _ => False

def qlen (P : Program) (T : TypeId) (x : AV) (c : Option Ct) (cont : AV → Prop) : Prop :=
  match P.underlying T with
  | some (.slice _) => (match x with
    | .sl _ xs => cont (.v (.int .i64 xs.length))
    | .own _ _ _ n => cont (.v (.int .i64 n))
    | .v (.slice _ n _) => cont (.v (.int .i64 n))
    | _ => False)
  | some .string => (match x with
    | .v (.string s) => cont (.v (.int .i64 s.size))
    | _ => False)
  | some (.map _ _) => (match x with
    | .mp _ => (match c with
      | some (.map es _) => cont (.v (.int .i64 es.length))
      | _ => False)
    | .v (.map none) => cont (.v (.int .i64 0))
    | _ => False)
  | some (.array n _) => cont (.v (.int .i64 n))
  | _ => False

def foldInts (f : Int → Int → Int) (k : IntKind) : Int → List AV → (Int → Prop) → Prop
  | n, [], cont => cont n
  | n, .v (.int k' m) :: rest, cont => k = k' ∧ foldInts f k (f n m) rest cont
  | _, _ :: _, _ => False
def qfold (f : Int → Int → Int) : List AV → (AV → Prop) → Prop
  | .v (.int k n) :: rest, cont => foldInts f k n rest (fun m => cont (.v (.int k m)))
  | _, _ => False

/-- An argument seen as a value for the time of a call. -/
def View (bf : Nat → Option Ct) (x d : AV) : Prop :=
  (x = d ∧ x.idf = true) ∨
  (∃ id k off n T xs, x = .own id k off n ∧ bf id = some (.arr T k xs) ∧ off + n ≤ xs.length ∧ d = .sl k ((xs.drop off).take n) ∧ idfL ((xs.drop off).take n) = true) ∨
  (∃ id n T y, x = .own id 1 0 n ∧ bf id = some (.box T y) ∧ n = y.cells.length ∧ d = .sl 1 y.cells ∧ idfL y.cells = true) ∨
  (∃ id T y, x = .loc id 0 ∧ bf id = some (.box T y) ∧ d = .ep y ∧ y.idf = true) ∨
  (∃ k n c, x = .v (.slice none n c) ∧ n = 0 ∧ d = .sl k [])
def ViewL (bf : Nat → Option Ct) : List AV → List AV → Prop
  | [], [] => True
  | x :: xs, d :: ds => View bf x d ∧ ViewL bf xs ds
  | _, _ => False

/-- A call of a function of values. -/
structure QCall (P : Program) (f : FuncId) (args : List AV) (bf : Nat → Option Ct) (d : Option Tmp) (k : AV → Option Ct → Prop) : Prop where
  ex : (∃ ds res, ViewL bf args ds ∧ PSpec P f ds res ∧ (res.flat = true ∨ (ds = args ∧ idfL args = true ∧ res.idf = true)) ∧ k res none) ∨
    (∃ ds mk c t, ViewL bf args ds ∧ NSpec P f ds mk c ∧ d = some t ∧ ((∀ (H H' : Heap) (ρ ρ' : Rho) (w : World) (bd : Bd), CtRep H ρ w bd c → CtRep H' ρ' w bd c) ∨ (ds = args ∧ idfL args = true)) ∧ k (mk t) (some c))

def qcall (P : Program) (c : Call) (av : Operand → AV) (bf : Nat → Option Ct) (d : Option Tmp) (k : AV → Option Ct → Prop) : Prop :=
  match c.callee, c.args.toList.map av with
  | .builtin .len, [x] => (match c.argTypes[0]? with
    | some T => qlen P T x (lkA bf x) (fun x => k x none)
    | none => False)
  | .builtin .min, xs => qfold (fun a b => min a b) xs (fun x => k x none)
  | .builtin .max, xs => qfold (fun a b => max a b) xs (fun x => k x none)
  | .value f, xs => (match av f with
    | .fn (.func g) first caps => QCall P g (first ++ xs ++ caps) bf d k
    | _ => False)
  | _, _ => False

def qop (P : Program) (o : Oper) (av : Operand → AV) (bf : Nat → Option Ct) (k : AV → Option Ct → Prop) : Prop :=
  match o.op with
  | .move x => k (av x) none
  | .assign x => k (av x) none
  | .pick c a b => (match av c with
    | .v (.bool t) => (t = true → k (av a) none) ∧ (t = false → k (av b) none)
    | _ => False)
  | .alloc T => (match o.dst, zeroAV P T with
    | some d, some z => z.sto = true ∧ k (.loc d 0) (some (.box T z))
    | _, _ => False)
  | .box T x => (match o.dst with
    | some d => (av x).sto = true ∧ k (.loc d 0) (some (.box T (av x)))
    | none => False)
  | .load T p => qload P T (av p) (lkA bf (av p)) (fun x => k x none)
  | .fieldAddr T x f => qfaddr P T (av x) f (fun x => k x none)
  | .indexAddr T x i => qiaddr P T (av x) (av i) (fun x => k x none)
  | .buildSlice T len parts => (match o.dst with
    | some d => qbslice P T len (parts.toList.map fun p => (p.1, av p.2)) d k
    | none => False)
  | .build T parts => qbuild P T (parts.toList.map fun p => (p.1, av p.2)) (fun x => k x none)
  | .field T x f => qfield P T (av x) f (fun x => k x none)
  | .index T x i => qindex P T (av x) (av i) (fun x => k x none)
  | .extract t i => (match av t with
    | .tup xs => (match xs[i]? with
      | some x => k x none
      | none => False)
    | _ => False)
  | .binOp op T x y _ => qbin P op T (av x) (av y) (isConst x) (isConst y) (fun x => k x none)
  | .unOp op _ x => qun op (av x) (fun x => k x none)
  | .convert s d x => qconv P s d (av x) (fun x => k x none)
  | .makeInterface T x => (okT P T = true ∧ (match P.underlying T with | some (.interface _) => False | _ => True)) ∧ k (.ifc T (av x)) none
  | .makeFunc fn first caps => k (.fn fn (first.toList.map av) (caps.toList.map av)) none
  | .makeMap _ none => (match o.dst with
    | some d => k (.mp d) (some (.map [] none))
    | none => False)
  | .slice T x lo hi none => qslice P T (av x) (lo.map av) (hi.map av) (lkA bf (av x)) (fun x => k x none)
  | .lookup T x i ok => qlookup P T (av x) (av i) ok (lkA bf (av x)) (fun x => k x none)
  | .call c => qcall P c av bf o.dst k
  | _ => False

/-- Does it make a box? -/
def newOp : Op → Bool
  | .alloc _ | .box _ _ | .buildSlice _ _ _ | .makeMap _ _ => true
  | .call c => (match c.callee with | .value _ => true | _ => false)
  | _ => false

mutual
/-- The boxes that it reads. -/
def idsOf : AV → List Nat
  | .loc id _ => [id]
  | .eloc id _ _ _ => [id]
  | .own id _ _ _ => [id]
  | .mp id => [id]
  | .fn _ first caps => idsL first ++ idsL caps
  | _ => []
def idsL : List AV → List Nat
  | [] => []
  | x :: xs => idsOf x ++ idsL xs
end
def rids (o : Oper) (av : Operand → AV) : List Nat :=
  match o.op with
  | .load _ p => idsOf (av p)
  | .slice _ x _ _ _ => idsOf (av x)
  | .lookup _ x _ _ => idsOf (av x)
  | .call c => (match c.callee with
    | .value f => idsOf (av f)
    | _ => []) ++ idsL (c.args.toList.map av)
  | _ => []

end Go.Am
