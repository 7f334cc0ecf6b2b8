/- The abstract machine, part 21: the rules in the form that a script walks by itself. -/
import Derived.Test.YtmjckbokjjnmeaaAmSimp
namespace Go.Am
open Go.RowKit

@[simp] theorem bits_i64 : IntKind.bits .i64 = 64 := rfl
@[simp] theorem bits_i8 : IntKind.bits .i8 = 8 := rfl
@[simp] theorem sg_i8 : IntKind.signed .i8 = true := rfl
@[simp] theorem min_i8 : IntKind.min .i8 = -128 := rfl
@[simp] theorem max_i8 : IntKind.max .i8 = 127 := rfl
@[simp] theorem bits_i16 : IntKind.bits .i16 = 16 := rfl
@[simp] theorem sg_i16 : IntKind.signed .i16 = true := rfl
@[simp] theorem min_i16 : IntKind.min .i16 = -32768 := rfl
@[simp] theorem max_i16 : IntKind.max .i16 = 32767 := rfl
@[simp] theorem bits_i32 : IntKind.bits .i32 = 32 := rfl
@[simp] theorem sg_i32 : IntKind.signed .i32 = true := rfl
@[simp] theorem min_i32 : IntKind.min .i32 = -2147483648 := rfl
@[simp] theorem max_i32 : IntKind.max .i32 = 2147483647 := rfl
@[simp] theorem bits_u8 : IntKind.bits .u8 = 8 := rfl
@[simp] theorem sg_u8 : IntKind.signed .u8 = false := rfl
@[simp] theorem min_u8 : IntKind.min .u8 = 0 := rfl
@[simp] theorem max_u8 : IntKind.max .u8 = 255 := rfl
@[simp] theorem bits_u16 : IntKind.bits .u16 = 16 := rfl
@[simp] theorem sg_u16 : IntKind.signed .u16 = false := rfl
@[simp] theorem min_u16 : IntKind.min .u16 = 0 := rfl
@[simp] theorem max_u16 : IntKind.max .u16 = 65535 := rfl
@[simp] theorem bits_u32 : IntKind.bits .u32 = 32 := rfl
@[simp] theorem sg_u32 : IntKind.signed .u32 = false := rfl
@[simp] theorem min_u32 : IntKind.min .u32 = 0 := rfl
@[simp] theorem max_u32 : IntKind.max .u32 = 4294967295 := rfl
@[simp] theorem bits_u64 : IntKind.bits .u64 = 64 := rfl
@[simp] theorem sg_u64 : IntKind.signed .u64 = false := rfl
@[simp] theorem min_u64 : IntKind.min .u64 = 0 := rfl
@[simp] theorem max_u64 : IntKind.max .u64 = 18446744073709551615 := rfl
@[simp] theorem two_one : (2 : Int) ^ 1 = 2 := rfl

/-- What is known of an opaque continuation, of an opaque branch. -/
structure Kont (K : AState → Prop) (A : AState → Prop) : Prop where
  h : ∀ s, A s → K s
structure Alt (X A : Prop) : Prop where
  h : A → X
def condK (v : AV) (X Y : Prop) : Prop := match v with
  | .v (.bool t) => (t = true → X) ∧ (t = false → Y)
  | _ => False
@[simp] theorem condK_b {t : Bool} {X Y : Prop} : condK (.v (.bool t)) X Y = ((t = true → X) ∧ (t = false → Y)) := rfl
/-- A fact that simp does not look into. -/
structure Hld (p : Prop) : Prop where
  out : p
theorem useK {K A : AState → Prop} {s : AState} (h : Kont K A) (ha : A s) : K s := h.h s ha
theorem imp1 {p X : Prop} (h : p → X) : p → X := h
theorem useX {X A : Prop} (h : Alt X A) (ha : A) : X := h.h ha

/-- So many operations from the first one on are quiet. -/
def quietOp (o : Oper) : Bool := match o.op with
  | .store _ _ _ | .mapUpdate _ _ _ _ | .insert _ _ _ _ | .nilCheck _ | .range _ _ | .next _ _ | .entry _ => false
  | .call c => (match c.callee with | .builtin .append | .builtin .clear | .builtin .cap => false | _ => true)
  | _ => true
def quietN : List Oper → Nat
  | [] => 0
  | o :: l => if quietOp o then quietN l + 1 else 0
attribute [simp] quietOp quietN

structure Kont2 (K A : AState → List Fp → Prop) : Prop where
  h : ∀ s acc, A s acc → K s acc
theorem useK2 {K A : AState → List Fp → Prop} {s : AState} {acc : List Fp} (h : Kont2 K A) (ha : A s acc) : K s acc := h.h s acc ha
/-- One operation of a drawn region. -/
def qop1 (P : Program) (ops : Array Oper) (o : Oper) (s : AState) (acc : List Fp) (k : AState → List Fp → Prop) : Prop := match o.guard with
  | none => qd P o s (fun s' f => k s' (acc ++ [f]))
  | some (j, want) => match (ops[j]?).bind (·.dst) with
    | some t => (match s.slot t with
      | .v (.bool b) => (b = want → qd P o (s.put (some t) (.v (.bool want))) (fun s' f => k s' (acc ++ [f]))) ∧
          (b = (!want) → k ((s.put (some t) (.v (.bool (!want)))).put o.dst (.tup [])) (acc ++ [⟨[], []⟩]))
      | .tup [] => k (s.put o.dst (.tup [])) (acc ++ [⟨[], []⟩])
      | _ => False)
    | none => k (s.put o.dst (.tup [])) (acc ++ [⟨[], []⟩])
theorem RKQ_stepk {P : Program} {ops : Array Oper} {o : Oper} {rest : List Oper} {s : AState} {acc : List Fp} {K : AState → List Fp → Prop}
    (h : ∀ K' : AState → List Fp → Prop, Kont2 K' (fun s' acc' => RKQ P ops rest s' acc' K) → qop1 P ops o s acc K') : RKQ P ops (o :: rest) s acc K := h _ ⟨fun _ _ h => h⟩
theorem RKQ_nilk {P : Program} {ops : Array Oper} {s : AState} {acc : List Fp} {K : AState → List Fp → Prop} (h : K s acc) : RKQ P ops [] s acc K := h
/-- One operation of a region. -/
def op1 (P : Program) (E : Env) (ops : Array Oper) (o : Oper) (s : AState) (k : AState → Prop) : Prop := match o.guard with
  | none => stepOp P E o s k
  | some (j, want) => match (ops[j]?).bind (·.dst) with
    | some t => (match s.slot t with
      | .v (.bool b) => (b = want → stepOp P E o (s.put (some t) (.v (.bool want))) k) ∧ (b = (!want) → k ((s.put (some t) (.v (.bool (!want)))).put o.dst (.tup [])))
      | .tup [] => k (s.put o.dst (.tup []))
      | _ => False)
    | none => k (s.put o.dst (.tup []))
theorem RK_stepk {P : Program} {E : Env} {ops : Array Oper} {o : Oper} {rest : List Oper} {s : AState} {K : AState → Prop}
    (h : ∀ K' : AState → Prop, Kont K' (fun s' => RK P E ops rest s' K) → op1 P E ops o s K') : RK P E ops (o :: rest) s K := h _ ⟨fun _ h => h⟩
theorem RK_nilk {P : Program} {E : Env} {ops : Array Oper} {s : AState} {K : AState → Prop} (h : K s) : RK P E ops [] s K := h
attribute [simp ↓] qop1 op1

section
variable {P : Program} {E : Env} {s : AState} {Q : AExit → AState → Prop}
theorem AW_seqk {x y : Code} (h : ∀ K : AState → Prop, Kont K (fun s' => AW P E y s' Q) → AW P E x s (thenK K Q)) : AW P E (.seq x y) s Q :=
  AW_seq fun K hK => h K ⟨hK⟩
theorem AW_if {c : Operand} {x y : Code} (h : ∀ X Y : Prop, Alt X (AW P E x s Q) → Alt Y (AW P E y s Q) → condK (s.eval c) X Y) : AW P E (.cond c x y) s Q := by
  have h' := h (AW P E x s Q) (AW P E y s Q) ⟨id⟩ ⟨id⟩
  unfold condK at h'
  split at h'
  · rename_i t hc
    exact AW_cond hc h'.1 h'.2
  · exact h'.elim
def shortL (l : List Oper) : Bool := match l with
  | _ :: _ :: _ :: _ :: _ :: _ :: _ :: _ :: _ => false
  | _ => true
theorem AW_regionS {id : Nat} {l : List Oper} (hs : shortL l = true) (hd : dstOK E.n l = true) (h : RK P E l.toArray l s (Q .normal)) : AW P E (.region id l.toArray false) s Q := AW_region hd (by have := hs; exact h)
/-- A loop, its rounds' end opaque. -/
theorem AW_loopk {G : Type} {c : Code} (I : G → AState) (ok : G → Prop) (μ : G → Nat) (g0 : G) (h0 : ok g0) (hl : s.le (I g0))
    (round : ∀ g, ok g → ∀ K : AState → Prop, Kont K (fun s' => ∃ g', ok g' ∧ μ g' < μ g ∧ s'.le (I g')) → AW P E c (I g) (thenK K Q)) : AW P E (.loop c) s Q :=
  AW_loop I ok μ g0 h0 hl (fun g hg => round g hg _ ⟨fun _ h => h⟩)
theorem AW_drawq {id : Nat} {l : List Oper} (hm : P.follows .mixedOrders = true) (hdst : dstOK E.n l = true) (hnew : newOK l s = true)
    (h : RKQ P l.toArray (l.take (quietN l)) s [] (fun s' fps => drawOK l (quietN l) fps = true ∧ RK P E l.toArray (l.drop (quietN l)) s' (Q .normal))) : AW P E (.region id l.toArray true) s Q :=
  AW_draw (quietN l) hm hdst (by
    simp only [newOK, List.all_eq_true] at hnew ⊢
    exact fun o ho => hnew o (List.mem_of_mem_take ho)) h
end
end Go.Am
