/- The abstract machine, part 21: the rules in the form that a script walks by itself -/
import Derived.Test.YtfkgaphfdpflmaaGreatDoorZD
import Derived.OpenShut
import Derived.Carry
import Derived.ChangeSame
import Derived.JoinedCond
import Derived.ProofKit
import Derived.Deep.DeepHandedRow
set_option linter.unusedSimpArgs false
set_option linter.unusedVariables false
section
namespace Go.Am
open Go.RowKit
@[simp] theorem bits_i64 : IntKind.bits .i64 = 64:=rfl
@[simp] theorem bits_i8 : IntKind.bits .i8 = 8:=rfl
@[simp] theorem sg_i8 : IntKind.signed .i8 = true:=rfl
@[simp] theorem min_i8 : IntKind.min .i8 = -128:=rfl
@[simp] theorem max_i8 : IntKind.max .i8 = 127:=rfl
@[simp] theorem bits_i16 : IntKind.bits .i16 = 16:=rfl
@[simp] theorem sg_i16 : IntKind.signed .i16 = true:=rfl
@[simp] theorem min_i16 : IntKind.min .i16 = -32768:=rfl
@[simp] theorem max_i16 : IntKind.max .i16 = 32767:=rfl
@[simp] theorem bits_i32 : IntKind.bits .i32 = 32:=rfl
@[simp] theorem sg_i32 : IntKind.signed .i32 = true:=rfl
@[simp] theorem min_i32 : IntKind.min .i32 = -2147483648:=rfl
@[simp] theorem max_i32 : IntKind.max .i32 = 2147483647:=rfl
@[simp] theorem bits_u8 : IntKind.bits .u8 = 8:=rfl
@[simp] theorem sg_u8 : IntKind.signed .u8 = false:=rfl
@[simp] theorem min_u8 : IntKind.min .u8 = 0:=rfl
@[simp] theorem max_u8 : IntKind.max .u8 = 255:=rfl
@[simp] theorem bits_u16 : IntKind.bits .u16 = 16:=rfl
@[simp] theorem sg_u16 : IntKind.signed .u16 = false:=rfl
@[simp] theorem min_u16 : IntKind.min .u16 = 0:=rfl
@[simp] theorem max_u16 : IntKind.max .u16 = 65535:=rfl
@[simp] theorem bits_u32 : IntKind.bits .u32 = 32:=rfl
@[simp] theorem sg_u32 : IntKind.signed .u32 = false:=rfl
@[simp] theorem min_u32 : IntKind.min .u32 = 0:=rfl
@[simp] theorem max_u32 : IntKind.max .u32 = 4294967295:=rfl
@[simp] theorem bits_u64 : IntKind.bits .u64 = 64:=rfl
@[simp] theorem sg_u64 : IntKind.signed .u64 = false:=rfl
@[simp] theorem min_u64 : IntKind.min .u64 = 0:=rfl
@[simp] theorem max_u64 : IntKind.max .u64 = 18446744073709551615:=rfl
@[simp] theorem two_one : (2 : Int) ^ 1 = 2:=rfl
structure Kont (K : AState → Prop) (A : AState → Prop) : Prop where
 h : ∀ s,A s → K s
structure Alt (X A : Prop) : Prop where
 h : A → X
def condK (v : AV) (X Y : Prop) : Prop:=match v with
 |.v (.bool t)=>(t = true → X) ∧ (t = false → Y)
 |_=>False
@[simp] theorem condK_b {t : Bool} {X Y : Prop} : condK (.v (.bool t)) X Y = ((t = true → X) ∧ (t = false → Y)):=rfl
structure Hld (p : Prop) : Prop where
 out : p
theorem useK {K A : AState → Prop} {s : AState} (h : Kont K A) (ha : A s) : K s:=h.h s ha
theorem imp1 {p X : Prop} (h : p → X) : p → X:=h
def quietOp (o : Oper) : Bool:=match o.op with
 |.store _ _ _|.mapUpdate _ _ _ _|.insert _ _ _ _|.makeSlice _ _ _|.range _ _|.next _ _|.entry _=>false
 |.call c=>(match c.callee with|.builtin .append|.builtin .clear|.builtin .cap|.builtin .unsafeString=>false|_=>true)
 |_=>true
def quietN : List Oper → Nat
 |[]=>0
 |o :: l=>if quietOp o then quietN l + 1 else 0
attribute [simp] quietOp quietN
structure Kont2 (K A : AState → List Fp → Prop) : Prop where
 h : ∀ s acc,A s acc → K s acc
def qop1 (P : Program) (ops : Array Oper) (o : Oper) (s : AState) (acc : List Fp) (k : AState → List Fp → Prop) : Prop:=match o.guard with
 |none=>qd P o s (fun s' f=>k s' (acc ++ [f]))
 |some (j,want)=>match (ops[j]?).bind (·.dst) with
  |some t=>(match s.slot t with
   |.v (.bool b)=>(b = want → qd P o (s.put (some t) (.v (.bool want))) (fun s' f=>k s' (acc ++ [f]))) ∧
     (b = (!want) → k ((s.put (some t) (.v (.bool (!want)))).put o.dst (.tup [])) (acc ++ [⟨[],[]⟩]))
   |.tup []=>k (s.put o.dst (.tup [])) (acc ++ [⟨[],[]⟩])
   |_=>False)
  |none=>k (s.put o.dst (.tup [])) (acc ++ [⟨[],[]⟩])
theorem RKQ_stepk {P : Program} {ops : Array Oper} {o : Oper} {rest : List Oper} {s : AState} {acc : List Fp} {K : AState → List Fp → Prop}
 (h : ∀ K' : AState → List Fp → Prop,Kont2 K' (fun s' acc'=>RKQ P ops rest s' acc' K) → qop1 P ops o s acc K') : RKQ P ops (o :: rest) s acc K:=h _ ⟨fun _ _ h=>h⟩
theorem RKQ_nilk {P : Program} {ops : Array Oper} {s : AState} {acc : List Fp} {K : AState → List Fp → Prop} (h : K s acc) : RKQ P ops [] s acc K:=h
def op1 (P : Program) (E : Env) (ops : Array Oper) (o : Oper) (s : AState) (k : AState → Prop) : Prop:=match o.guard with
 |none=>stepOp P E o s k
 |some (j,want)=>match (ops[j]?).bind (·.dst) with
  |some t=>(match s.slot t with
   |.v (.bool b)=>(b = want → stepOp P E o (s.put (some t) (.v (.bool want))) k) ∧ (b = (!want) → k ((s.put (some t) (.v (.bool (!want)))).put o.dst (.tup [])))
   |.tup []=>k (s.put o.dst (.tup []))
   |_=>False)
  |none=>k (s.put o.dst (.tup []))
theorem RK_stepk {P : Program} {E : Env} {ops : Array Oper} {o : Oper} {rest : List Oper} {s : AState} {K : AState → Prop}
 (h : ∀ K' : AState → Prop,Kont K' (fun s'=>RK P E ops rest s' K) → op1 P E ops o s K') : RK P E ops (o :: rest) s K:=h _ ⟨fun _ h=>h⟩
theorem RK_nilk {P : Program} {E : Env} {ops : Array Oper} {s : AState} {K : AState → Prop} (h : K s) : RK P E ops [] s K:=h
attribute [simp ↓] qop1 op1
section
variable {P : Program} {E : Env} {s : AState} {Q : AExit → AState → Prop}
theorem AW_seqk {x y : Code} (h : ∀ K : AState → Prop,Kont K (fun s'=>AW P E y s' Q) → AW P E x s (thenK K Q)) : AW P E (.seq x y) s Q :=
 AW_seq fun K hK=>h K ⟨hK⟩
theorem AW_seqt (t : AState) {x y : Code} (h2 : AW P E y t Q) (h1 : ∀ K : AState → Prop,Kont K (fun s'=>s'.le t) → AW P E x s (thenK K Q)) : AW P E (.seq x y) s Q :=
 AW_seq fun K hK=>h1 K ⟨fun s' hl=>hK s' (AW_le hl h2)⟩
theorem AW_if {c : Operand} {x y : Code} (h : ∀ X Y : Prop,Alt X (AW P E x s Q) → Alt Y (AW P E y s Q) → condK (s.eval c) X Y) : AW P E (.cond c x y) s Q:=by
 have h':=h (AW P E x s Q) (AW P E y s Q) ⟨id⟩ ⟨id⟩
 unfold condK at h'
 split at h'
 ·rename_i t hc
  exact AW_cond hc h'.1 h'.2
 ·exact h'.elim
def shortL (l : List Oper) : Bool:=match l with
 |_ :: _ :: _ :: _ :: _ :: _ :: _ :: _ :: _=>false
 |_=>true
theorem AW_regionS {id : Nat} {l : List Oper} (hs : shortL l = true) (hd : dstOK E.n l = true) (h : RK P E l.toArray l s (Q .normal)) : AW P E (.region id l.toArray false) s Q:=AW_region hd (by have:=hs;exact h)
theorem AW_loopk {G : Type} {c : Code} (I : G → AState) (ok : G → Prop) (μ : G → Nat) (g0 : G) (h0 : ok g0) (hl : s.le (I g0))
 (round : ∀ g,ok g → ∀ K : AState → Prop,Kont K (fun s'=>∃ g',ok g' ∧ μ g' < μ g ∧ s'.le (I g')) → AW P E c (I g) (thenK K Q)) : AW P E (.loop c) s Q :=
 AW_loop I ok μ g0 h0 hl (fun g hg=>round g hg _ ⟨fun _ h=>h⟩)
theorem AW_drawq {id : Nat} {l : List Oper} (hm : P.follows .mixedOrders = true) (hdst : dstOK E.n l = true) (hnew : newOK l s = true)
 (h : RKQ P l.toArray (l.take (quietN l)) s [] (fun s' fps=>drawOK l (quietN l) fps = true ∧ RK P E l.toArray (l.drop (quietN l)) s' (Q .normal))) : AW P E (.region id l.toArray true) s Q :=
 AW_draw (quietN l) hm hdst (by
  simp only [newOK,List.all_eq_true] at hnew ⊢
  exact fun o ho=>hnew o (List.mem_of_mem_take ho)) h
theorem uK {K A : AState → Prop} (ha : A s) (h : Kont K A:=by assumption) : K s:=h.h s ha
theorem uX {X A : Prop} (ha : A) (h : Alt X A:=by assumption) : X:=h.h ha
theorem rS {N id : Nat} (hE : E.n = N) {l : List Oper} (h : RK P E l.toArray l s (Q .normal)) (hs : shortL l = true:=by rfl) (hd : dstOK N l = true:=by decide) : AW P E (.region id l.toArray false) s Q:=AW_regionS hs (hE ▸ hd) h
theorem rL {N id : Nat} (hE : E.n = N) {l : List Oper} (h : RK P E l.toArray l s (Q .normal)) (hd : dstOK N l = true:=by decide) : AW P E (.region id l.toArray false) s Q:=AW_region (hE ▸ hd) h
end
end Go.Am
end
section
namespace Go.Am
open Go.RowKit
section
variable {P : Program} {E : Env} {s : AState} {Q : AExit → AState → Prop}
theorem jq {x y : Code} (h : ∀ K : AState → Prop,Kont K (fun s'=>AW P E y s' Q) → AW P E x s (thenK K Q)) : AW P E (.seq x y) s Q:=AW_seqk h
theorem jb {id : Nat} {c : Code} (h : AW P E c s (inBlk id Q)) : AW P E (.block id c) s Q:=AW_block h
theorem ji {c : Operand} {x y : Code} (h : ∀ X Y : Prop,Alt X (AW P E x s Q) → Alt Y (AW P E y s Q) → condK (s.eval c) X Y) : AW P E (.cond c x y) s Q:=AW_if h
theorem jr (h : Q .ret s) : AW P E .ret s Q:=AW_ret h
theorem jk (h : Q .normal s) : AW P E .skip s Q:=AW_skip h
theorem jx {id : Nat} (h : Q (.exit id) s) : AW P E (.exit id) s Q:=AW_exit h
theorem jn {ops : Array Oper} {K : AState → Prop} (h : K s) : RK P E ops [] s K:=RK_nilk h
theorem js {ops : Array Oper} {o : Oper} {rest : List Oper} {K : AState → Prop} (h : ∀ K' : AState → Prop,Kont K' (fun s'=>RK P E ops rest s' K) → op1 P E ops o s K') : RK P E ops (o :: rest) s K:=RK_stepk h
theorem jv {ops : Array Oper} {o : Oper} {rest : List Oper} {acc : List Fp} {K : AState → List Fp → Prop}
 (h : ∀ K' : AState → List Fp → Prop,Kont2 K' (fun s' acc'=>RKQ P ops rest s' acc' K) → qop1 P ops o s acc K') : RKQ P ops (o :: rest) s acc K:=RKQ_stepk h
theorem uQ {K A : AState → List Fp → Prop} {acc : List Fp} (ha : A s acc) (h : Kont2 K A:=by assumption) : K s acc:=h.h s acc ha
theorem rD {N id : Nat} {l : List Oper} (hm : P.follows .mixedOrders = true) (hE : E.n = N)
 (h : RKQ P l.toArray (l.take (quietN l)) s [] (fun s' fps=>drawOK l (quietN l) fps = true ∧ RK P E l.toArray (l.drop (quietN l)) s' (Q .normal))) (hnew : newOK l s = true:=by simp [newOK]) (hdst : dstOK N l = true:=by decide) : AW P E (.region id l.toArray true) s Q :=
 AW_drawq hm (hE ▸ hdst) hnew h
theorem jC {g : FuncId} {args ds : List AV} {res : AV} {d : Option Tmp} {K : AState → Prop} (hsp : PSpec P g ds res) (hv : ViewL s.box args ds) (hfl : res.flat = true ∨ (ds = args ∧ idfL args = true ∧ res.idf = true)) (hk : K (s.put d res)) : ACall P E g args s d K:=ACall_pure hsp hv hfl hk
theorem jQ {f : FuncId} {args ds : List AV} {bf : Nat → Option Ct} {d : Option Tmp} {res : AV} {k : AV → Option Ct → Prop} (h : PSpec P f ds res) (hv : ViewL bf args ds) (hfl : res.flat = true ∨ (ds = args ∧ idfL args = true ∧ res.idf = true)) (hc : k res none) : QCall P f args bf d k :=
 ⟨.inl ⟨ds,res,hv,h,hfl,hc⟩⟩
end
@[simp] theorem viewL_self {bf : Nat → Option Ct} : ∀ {xs : List AV},idfL xs = true → ViewL bf xs xs
  |[],_=>trivial
  |x :: xs,h=>by
   simp only [idfL,Bool.and_eq_true] at h
   exact ⟨view_self h.1,viewL_self h.2⟩
end Go.Am
end
section
namespace Go.Am
open Go.RowKit
theorem MSpec.toP {P : Program} {f : FuncId} {args : List AV} {R : AV → (Nat → Option Ct) → Prop} {d : AV} (h : MSpec P f args [] R) (hv : ∀ res bf,R res bf → View bf res d) : PSpec P f args d:=by
 refine ⟨h.1,fun H w vs he hr=>?_⟩
 refine Calls.mono (h.2 H rho0 w vs he ⟨fun id c hc=>by simp [lk] at hc,fun id c b cap hc=>by simp [lk] at hc,fun id id' c c' b cap cap' hc=>by simp [lk] at hc⟩ hr) ?_
 rintro e w' ⟨H',ρ',res,bf',v,rfl,hR,hle,hnew,hext,hB,hrep,hfr,_⟩
 have hno : ∀ b,¬ OwnB rho0 (lk ([] : List (Nat × Ct))) b:=by rintro b ⟨id,c,cap,hc,_⟩;simp [lk] at hc
 have hle' : H'.le (thaw H' w.heap.size w'):=fun b o u hu=>by simp [thaw,hu]
 refine ⟨thaw H' w.heap.size w',v,rfl,fun b o u hu=>hle' _ _ _ (hle b o u hu),?_,?_,?_,?_⟩
 ·intro b o u hu hu0
  simp only [thaw] at hu
  split at hu
  ·exact (hnew b o u hu hu0).resolve_right (hno b)
  ·split at hu
   ·assumption
   ·cases hu
 ·intro b o u hu
  simp only [thaw] at hu
  split at hu
  ·exact hext b o u hu
  ·split at hu
   ·exact hu
   ·cases hu
 ·refine view_rep2 (hv _ _ hR) hrep hB.rep hle' ?_
  intro id c b cap hc hbd o u hu
  have h1:=hB.apart id c b cap hc hbd
  simp [thaw,h1.1 o,h1.2.2.resolve_right (hno b),hu]
 ·exact FrameBut.below ⟨hfr.os,hfr.tape,hfr.output,hfr.size,fun k hk _=>hfr.block k hk (hno k)⟩
def oneB (id : Nat) (c : Ct) : Nat → Option Ct:=fun j=>if j = id then some c else none
@[simp] theorem oneB_same (id : Nat) (c : Ct) : oneB id c id = some c:=by simp [oneB]
def fr1 (id : Nat) (c : Ct) (x y : AV) : Prop:=(x = y ∧ y.ment id = false) ∨ View (oneB id c) x y
def frS (s : AState) (id : Nat) (c : Ct) : List (Nat × AV) → Prop
 |[]=>True
 |(i,y) :: l=>fr1 id c (s.slot i) y ∧ frS s id c l
def frB (s : AState) (id : Nat) : List (Nat × Ct) → Prop
 |[]=>True
 |(i,c) :: l=>(i ≠ id ∧ s.box i = some c ∧ c.ment id = false) ∧ frB s id l
theorem frS_lk {s : AState} {id : Nat} {c : Ct} : ∀ {l : List (Nat × AV)} {i : Nat} {x : AV},frS s id c l → lk l i = some x → fr1 id c (s.slot i) x
 |[],_,_,_,h=>by simp [lk] at h
 |(j,y) :: l,i,x,hl,h=>by
  simp only [lk] at h
  split at h
  ·rename_i e;subst e;cases h;exact hl.1
  ·exact frS_lk hl.2 h
theorem frB_lk {s : AState} {id : Nat} : ∀ {l : List (Nat × Ct)} {i : Nat} {x : Ct},frB s id l → lk l i = some x → i ≠ id ∧ s.box i = some x ∧ x.ment id = false
 |[],_,_,_,h=>by simp [lk] at h
 |(j,y) :: l,i,x,hl,h=>by
  simp only [lk] at h
  split at h
  ·rename_i e;subst e;cases h;exact hl.1
  ·exact frB_lk hl.2 h
theorem view_idf {bf : Nat → Option Ct} {x d : AV} (h : View bf x d) : d.idf = true:=by
 rcases h with ⟨rfl,h⟩|⟨_,_,_,_,_,_,_,_,_,rfl,h⟩|⟨_,_,_,_,_,_,_,rfl,h⟩|⟨_,_,_,_,_,rfl,h⟩|⟨_,_,_,_,_,rfl⟩
 ·exact h
 all_goals rfl
section
variable {P : Program} {E : Env} {s : AState} {Q : AExit → AState → Prop}
theorem AW_freeze (id : Nat) {cb : Ct} {c : Code} {t : AState} (hb : s.box id = some cb) (hs : frS s id cb t.s) (hB : frB s id t.b) (h : AW P E c t Q) : AW P E c s Q:=by
 intro H ρ a w hS
 obtain ⟨G,hle,hG,hB1,hB2⟩ : ∃ G : Heap,H.le G ∧ (∀ b o u,G b o = some u → H b o = some u ∨ ((∃ cap,ρ id = .at b cap) ∧ w.cell? ⟨b,o,none⟩ = some u)) ∧
  (∀ b cap,ρ id = .at b cap → ∀ o u,w.cell? ⟨b,o,none⟩ = some u → G b o = some u) ∧ (∀ b,(∀ cap,ρ id ≠ .at b cap) → ∀ o,G b o = H b o):=by
  rcases hρ : ρ id with _|_|⟨b,cap⟩
  ·exact ⟨H,H.le_refl,fun _ _ _ h=>.inl h,fun b cap h=>by simp at h,fun _ _ _=>rfl⟩
  ·exact ⟨H,H.le_refl,fun _ _ _ h=>.inl h,fun b cap h=>by simp at h,fun _ _ _=>rfl⟩
  ·have h0:=(hS.boxes.apart _ _ _ _ hb hρ).1
   refine ⟨fun b' o=>if b' = b then w.cell? ⟨b,o,none⟩ else H b' o,fun b' o u hu=>?_,fun b' o u hu=>?_,fun b' cap' h o u hu=>?_,fun b' h o=>?_⟩
   ·have : b' ≠ b:=by rintro rfl;rw [h0] at hu;cases hu
    simp [this,hu]
   ·simp only at hu
    split at hu
    ·rename_i e;subst e;exact .inr ⟨⟨cap,rfl⟩,hu⟩
    ·exact .inl hu
   ·simp at h
    obtain ⟨rfl,rfl⟩:=h
    simp [hu]
   ·have : b' ≠ b:=by rintro rfl;exact h cap rfl
    simp [this]
 have hone : ∀ j c',oneB id cb j = some c' → j = id ∧ s.box j = some c':=by
  intro j c' h
  unfold oneB at h
  by_cases e : j = id
  ·subst e
   rw [if_pos rfl] at h
   cases h
   exact ⟨rfl,hb⟩
  ·rw [if_neg e] at h
   cases h
 refine h G ρ a w ⟨?_,?_,hS.size,hS.defers,?_,fun b o u hu=>hle _ _ _ (hS.h0 b o u hu),?_,hS.frame,hS.keep,hS.nle⟩
 ·intro b o u hu
  rcases hG b o u hu with h|⟨_,h⟩
  ·exact hS.ext b o u h
  ·exact h
 ·intro i
  have hsl:=hS.slots i
  show Rep G ρ ((lk t.s i).getD .u) _
  cases hl : lk t.s i with
  |none=>exact .u
  |some y =>
   rcases frS_lk hs hl with ⟨he,_⟩|hv
   ·rw [he] at hsl
    exact hsl.mono hle
   ·have:=view_rep2 (G:=G) hv hsl (fun id' c' h=>hS.boxes.rep _ _ (hone _ _ h).2) hle
     (fun id' c' b cap hc hbd o u hu=>by
       obtain ⟨rfl,_⟩:=hone _ _ hc
       exact hB1 b cap hbd o u hu)
    exact this.idf (view_idf hv)
 ·refine ⟨fun i c hc=>?_,fun i c b cap hc hbd=>?_,fun i i' c c' b cap cap' hc hc' h1 h2=>?_⟩
  ·obtain ⟨_,h2,_⟩:=frB_lk hB hc
   exact (hS.boxes.rep _ _ h2).mono hle (fun _ _=>rfl) (fun _ _ _=>rfl)
  ·obtain ⟨h1,h2,_⟩:=frB_lk hB hc
   obtain ⟨h3,h4⟩:=hS.boxes.apart _ _ _ _ h2 hbd
   refine ⟨fun o=>?_,h4⟩
   rw [hB2 b (fun cap' hh=>h1 (hS.boxes.inj _ _ _ _ _ _ _ h2 hb hbd hh))]
   exact h3 o
  ·exact hS.boxes.inj _ _ _ _ _ _ _ (frB_lk hB hc).2.1 (frB_lk hB hc').2.1 h1 h2
 ·intro b o u hu h0
  rcases hG b o u hu with h|⟨⟨cap,h⟩,_⟩
  ·exact hS.new b o u h h0
  ·exact (hS.boxes.apart _ _ _ _ hb h).2.2
end
attribute [simp] fr1 frS frB
end Go.Am
end
section
namespace Go.Am
open Go.RowKit
section
variable {P : Program} {E : Env} {s : AState} {Q : AExit → AState → Prop}
theorem AW_mkrow (i d T k : Nat) {c : Code} (hs : s.slot i = .v (.slice none 0 0)) (hm : s.ment d = false) (hb : s.box d = none) (hd : d < 1000000) (h : AW P E c ⟨(i,.own d k 0 0) :: s.s,(d,.arr T k []) :: s.b⟩ Q) : AW P E c s Q:=by
 intro H ρ a w hS
 obtain ⟨hm1,hm2⟩:=fresh2 hm
 have hat : ∀ j b cap,(ρ.upd d .nil) j = .at b cap → j ≠ d ∧ ρ j = .at b cap:=by
  intro j b cap h
  simp only [Rho.upd] at h
  split at h
  ·cases h
  ·rename_i e;exact ⟨e,h⟩
 have hbx : ∀ j c',lk ((d,Ct.arr T k []) :: s.b) j = some c' → (j = d ∧ c' = .arr T k []) ∨ (j ≠ d ∧ s.box j = some c'):=by
  intro j c' h
  simp only [lk] at h
  split at h
  ·rename_i e;cases h;exact .inl ⟨e.symm,rfl⟩
  ·rename_i e;exact .inr ⟨fun e'=>e e'.symm,h⟩
 refine h H (ρ.upd d .nil) a w ⟨hS.ext,fun j=>?_,hS.size,hS.defers,⟨fun j c' hc=>?_,fun j c' b cap hc hbd=>?_,fun j j' c' c'' b cap cap' hc hc' h1 h2=>?_⟩,hS.h0,hS.new,hS.frame,fun j hj hj2=>?_,hS.nle⟩
 ·show Rep H _ ((lk ((i,.own d k 0 0) :: s.s) j).getD .u) _
  simp only [lk]
  split
  ·rename_i e
   subst e
   have:=hS.slots i
   rw [hs] at this
   rw [Rep.v_inv this]
   exact .ownNil (Rho.upd_same _ _ _)
  ·exact (hS.slots j).upd (hm1 j)
 ·rcases hbx j c' hc with ⟨rfl,rfl⟩|⟨h1,h2⟩
  ·exact .inl ⟨Rho.upd_same _ _ _,rfl⟩
  ·have e : (ρ.upd d .nil) j = ρ j:=by simp [Rho.upd,h1]
   rw [e]
   refine (hS.boxes.rep _ _ h2).mono H.le_refl (fun x hx=>?_) (fun _ _ _=>rfl)
   have : x ≠ d:=by rintro rfl;rw [hm2 _ _ h2] at hx;cases hx
   simp [Rho.upd,this]
 ·obtain ⟨h1,h2⟩:=hat _ _ _ hbd
  rcases hbx j c' hc with ⟨h3,_⟩|⟨_,h4⟩
  ·exact absurd h3 h1
  ·exact hS.boxes.apart _ _ _ _ h4 h2
 ·obtain ⟨h3,h4⟩:=hat _ _ _ h1
  obtain ⟨h5,h6⟩:=hat _ _ _ h2
  rcases hbx j c' hc with ⟨h7,_⟩|⟨_,h7⟩
  ·exact absurd h7 h3
  ·rcases hbx j' c'' hc' with ⟨h8,_⟩|⟨_,h8⟩
   ·exact absurd h8 h5
   ·exact hS.boxes.inj _ _ _ _ _ _ _ h7 h8 h4 h6
 ·have : j ≠ d:=by omega
  simp [Rho.upd,this,hS.keep j hj (by assumption)]
theorem AW_mkrowB (i d T k T' : Nat) {c : Code} (hs : s.box i = some (.box T' (.v (.slice none 0 0)))) (hm : s.ment d = false) (hb : s.box d = none) (hd : d < 1000000) (h : AW P E c ⟨s.s,(i,.box T' (.own d k 0 0)) :: (d,.arr T k []) :: s.b⟩ Q) : AW P E c s Q:=by
 intro H ρ a w hS
 obtain ⟨hm1,hm2⟩:=fresh2 hm
 have hid : i ≠ d:=by rintro rfl;rw [hb] at hs;cases hs
 have hat : ∀ j b cap,(ρ.upd d .nil) j = .at b cap → j ≠ d ∧ ρ j = .at b cap:=by
  intro j b cap h
  simp only [Rho.upd] at h
  split at h
  ·cases h
  ·rename_i e;exact ⟨e,h⟩
 have hbx : ∀ j c',lk ((i,Ct.box T' (.own d k 0 0)) :: (d,Ct.arr T k []) :: s.b) j = some c' → (j = i ∧ c' = .box T' (.own d k 0 0)) ∨ (j = d ∧ c' = .arr T k []) ∨ (j ≠ d ∧ s.box j = some c'):=by
  intro j c' h
  simp only [lk] at h
  split at h
  ·rename_i e;cases h;exact .inl ⟨e.symm,rfl⟩
  ·split at h
   ·rename_i e;cases h;exact .inr (.inl ⟨e.symm,rfl⟩)
   ·rename_i e;exact .inr (.inr ⟨fun e'=>e e'.symm,h⟩)
 have hold : ∀ j c',lk ((i,Ct.box T' (.own d k 0 0)) :: (d,Ct.arr T k []) :: s.b) j = some c' → j ≠ d → ∃ c0,s.box j = some c0:=by
  intro j c' h hj
  rcases hbx j c' h with ⟨rfl,_⟩|⟨h,_⟩|⟨_,h⟩
  ·exact ⟨_,hs⟩
  ·exact absurd h hj
  ·exact ⟨_,h⟩
 refine h H (ρ.upd d .nil) a w ⟨hS.ext,fun j=>(hS.slots j).upd (hm1 j),hS.size,hS.defers,⟨fun j c' hc=>?_,fun j c' b cap hc hbd=>?_,fun j j' c' c'' b cap cap' hc hc' h1 h2=>?_⟩,hS.h0,hS.new,hS.frame,fun j hj hj2=>?_,hS.nle⟩
 ·rcases hbx j c' hc with ⟨rfl,rfl⟩|⟨rfl,rfl⟩|⟨h1,h2⟩
  ·have e : (ρ.upd d .nil) j = ρ j:=by simp [Rho.upd,hid]
   rw [e]
   obtain ⟨b,cap,vs,g1,g2,g3,g4,g5⟩:=hS.boxes.rep _ _ hs
   simp only [AV.cells] at g3 g5
   obtain ⟨u,us,rfl,g6,g7⟩:=g3.cons_inv
   rw [Rep.v_inv g6] at g2
   rw [g7.nil_inv] at g2
   exact ⟨b,cap,[.slice none 0 0],g1,g2,RepL.cons (.ownNil (Rho.upd_same _ _ _)) RepL.nil,by intro c hc;simp [AV.cells] at hc;subst hc;rfl,g5⟩
  ·exact .inl ⟨Rho.upd_same _ _ _,rfl⟩
  ·have e : (ρ.upd d .nil) j = ρ j:=by simp [Rho.upd,h1]
   rw [e]
   refine (hS.boxes.rep _ _ h2).mono H.le_refl (fun x hx=>?_) (fun _ _ _=>rfl)
   have : x ≠ d:=by rintro rfl;rw [hm2 _ _ h2] at hx;cases hx
   simp [Rho.upd,this]
 ·obtain ⟨h1,h2⟩:=hat _ _ _ hbd
  obtain ⟨c0,h3⟩:=hold j c' hc h1
  exact hS.boxes.apart _ _ _ _ h3 h2
 ·obtain ⟨h3,h4⟩:=hat _ _ _ h1
  obtain ⟨h5,h6⟩:=hat _ _ _ h2
  obtain ⟨c0,h7⟩:=hold j c' hc h3
  obtain ⟨c1,h8⟩:=hold j' c'' hc' h5
  exact hS.boxes.inj _ _ _ _ _ _ _ h7 h8 h4 h6
 ·have : j ≠ d:=by omega
  simp [Rho.upd,this,hS.keep j hj (by assumption)]
theorem RepL.flat {H : Heap} {ρ : Rho} {cs : List AV} {vs : List Value} (h : RepL H ρ cs vs) (hf : flatL cs = true) {H' : Heap} {ρ' : Rho} : RepL H' ρ' cs vs :=
 ⟨h.1,fun i c u hc hu=>(h.2 i c u hc hu).flat (flat_of_mem hf hc)⟩
mutual
theorem ids_ment (d : Nat) : ∀ x : AV,d ∈ x.ids → x.ment d = true
 |.st cs,h=>by simp only [AV.ids] at h;simp only [AV.ment];exact idsA_ment d cs h
 |.own ..,h=>by simp [AV.ids] at h;simp [AV.ment,h]
 |.loc ..,h=>by simp [AV.ids] at h;simp [AV.ment,h]
 |.eloc ..,h=>by simp [AV.ids] at h;simp [AV.ment,h]
 |.mp _,h=>by simp [AV.ids] at h;simp [AV.ment,h]
 |.fn _ a b,h=>by
  simp only [AV.ids,List.mem_append] at h
  simp only [AV.ment,Bool.or_eq_true]
  rcases h with h|h
  ·exact .inl (idsA_ment d a h)
  ·exact .inr (idsA_ment d b h)
 |.tup vs,h=>by simp only [AV.ids] at h;simp only [AV.ment];exact idsA_ment d vs h
 |.ifc _ x,h=>by simp only [AV.ids] at h;simp only [AV.ment];exact ids_ment d x h
 |.v _,h=>by simp [AV.ids] at h
 |.sl _ _,h=>by simp [AV.ids] at h
 |.ep _,h=>by simp [AV.ids] at h
 |.w,h=>by simp [AV.ids] at h
 |.u,h=>by simp [AV.ids] at h
theorem idsA_ment (d : Nat) : ∀ cs : List AV,d ∈ idsA cs → mentL d cs = true
 |[],h=>by simp [idsA] at h
 |c :: cs,h=>by
  simp only [idsA,List.mem_append] at h
  simp only [mentL,Bool.or_eq_true]
  rcases h with h|h
  ·exact .inl (ids_ment d c h)
  ·exact .inr (idsA_ment d cs h)
end
theorem ids_mentP (d : Nat) : ∀ {es : List (AV × AV)},d ∈ idsA (es.map (·.1)) ∨ d ∈ idsA (es.map (·.2)) → mentP d es = true
 |[],h=>by simp [idsA] at h
 |e :: es,h=>by
  simp only [List.map_cons,idsA,List.mem_append] at h
  simp only [mentP,Bool.or_eq_true]
  rcases h with (h|h)|(h|h)
  ·exact .inl (.inl (ids_ment d _ h))
  ·exact .inr (ids_mentP d (.inl h))
  ·exact .inl (.inr (ids_ment d _ h))
  ·exact .inr (ids_mentP d (.inr h))
theorem ids_mentC (d : Nat) {c : Ct} (h : d ∈ c.ids) : c.ment d = true:=by
 cases c with
 |box T x=>exact ids_ment d x h
 |arr T k xs=>exact idsA_ment d xs h
 |map es st=>exact ids_mentP d (by simpa [Ct.ids] using h)
 |it m bs ck vis=>simp [Ct.ids] at h;simp [Ct.ment,h]
 |raw o=>simp [Ct.ids] at h
 |pin b o=>simp [Ct.ids] at h
 |hp H'=>simp [Ct.ids] at h
def sw (id d : Nat) : Nat → Nat:=fun i=>if i = id then d else i
@[simp] theorem sw_same (id d : Nat) : sw id d id = d:=by simp [sw]
def rnS (s : AState) (id d : Nat) : List (Nat × AV) → Prop
 |[]=>True
 |(i,y) :: l=>y = (s.slot i).ren (sw id d) ∧ rnS s id d l
def rnB (s : AState) (id d : Nat) (cb : Ct) : List (Nat × Ct) → Prop
 |[]=>True
 |(i,c) :: l=>((i = d ∧ c = cb.ren (sw id d)) ∨ (i ≠ id ∧ i ≠ d ∧ ∃ c0,s.box i = some c0 ∧ c = c0.ren (sw id d))) ∧ rnB s id d cb l
theorem rnS_lk {s : AState} {id d : Nat} : ∀ {l : List (Nat × AV)} {i : Nat} {x : AV},rnS s id d l → lk l i = some x → x = (s.slot i).ren (sw id d)
 |[],_,_,_,h=>by simp [lk] at h
 |(j,y) :: l,i,x,hl,h=>by
  simp only [lk] at h
  split at h
  ·rename_i e;subst e;cases h;exact hl.1
  ·exact rnS_lk hl.2 h
theorem rnB_lk {s : AState} {id d : Nat} {cb : Ct} : ∀ {l : List (Nat × Ct)} {i : Nat} {c : Ct},rnB s id d cb l → lk l i = some c → (i = d ∧ c = cb.ren (sw id d)) ∨ (i ≠ id ∧ i ≠ d ∧ ∃ c0,s.box i = some c0 ∧ c = c0.ren (sw id d))
 |[],_,_,_,h=>by simp [lk] at h
 |(j,y) :: l,i,x,hl,h=>by
  simp only [lk] at h
  split at h
  ·rename_i e;subst e;cases h;exact hl.1
  ·exact rnB_lk hl.2 h
theorem AW_ren (id d : Nat) {cb : Ct} {c : Code} {t : AState} (hb : s.box id = some cb) (hd : s.ment d = false) (hdl : d < 1000000) (hs : rnS s id d t.s) (hB : rnB s id d cb t.b) (h : AW P E c t Q) : AW P E c s Q:=by
 intro H ρ a w hS
 obtain ⟨hd1,hd2⟩:=fresh2 hd
 have key : ∀ i,i ≠ d → (ρ.upd d (ρ id)) (sw id d i) = ρ i:=by
  intro i hi
  unfold sw
  by_cases e : i = id
  ·subst e;rw [if_pos rfl,Rho.upd_same]
  ·rw [if_neg e];simp [Rho.upd,hi]
 have k1 : ∀ x : AV,x.ment d = false → ∀ i ∈ x.ids,(ρ.upd d (ρ id)) (sw id d i) = ρ i:=by
  intro x hx i hi
  refine key i ?_
  rintro rfl
  rw [ids_ment _ x hi] at hx
  cases hx
 have k2 : ∀ x : Ct,x.ment d = false → ∀ i ∈ x.ids,(ρ.upd d (ρ id)) (sw id d i) = ρ i:=by
  intro x hx i hi
  refine key i ?_
  rintro rfl
  rw [ids_mentC _ hi] at hx
  cases hx
 have hbd : ∀ i c,lk t.b i = some c → ∃ j c0,s.box j = some c0 ∧ c = c0.ren (sw id d) ∧ (ρ.upd d (ρ id)) i = ρ j ∧ (i = d → j = id) ∧ (i ≠ d → j = i):=by
  intro i c hc
  rcases rnB_lk hB hc with ⟨rfl,rfl⟩|⟨h1,h2,c0,h3,rfl⟩
  ·exact ⟨id,cb,hb,rfl,Rho.upd_same _ _ _,fun _=>rfl,fun h=>absurd rfl h⟩
  ·exact ⟨i,c0,h3,rfl,by simp [Rho.upd,h2],fun h=>absurd h h2,fun _=>rfl⟩
 refine h H (ρ.upd d (ρ id)) a w ⟨hS.ext,fun i=>?_,hS.size,hS.defers,⟨fun i c hc=>?_,fun i c b cap hc hbb=>?_,fun i i' c c' b cap cap' hc hc' h1 h2=>?_⟩,hS.h0,hS.new,hS.frame,fun i hi hi2=>?_,hS.nle⟩
 ·show Rep H _ ((lk t.s i).getD .u) _
  cases hl : lk t.s i with
  |none=>exact .u
  |some y =>
   rw [Option.getD_some,rnS_lk hs hl]
   exact (hS.slots i).ren (k1 _ (hd1 i))
 ·obtain ⟨j,c0,h1,rfl,h2,_⟩:=hbd i c hc
  rw [h2]
  exact (hS.boxes.rep _ _ h1).ren (k2 _ (hd2 _ _ h1))
 ·obtain ⟨j,c0,h1,rfl,h2,_⟩:=hbd i c hc
  rw [h2] at hbb
  exact hS.boxes.apart _ _ _ _ h1 hbb
 ·obtain ⟨j,c0,g1,rfl,g2,g3,g4⟩:=hbd i c hc
  obtain ⟨j',c0',g1',rfl,g2',g3',g4'⟩:=hbd i' c' hc'
  rw [g2] at h1
  rw [g2'] at h2
  have hj:=hS.boxes.inj _ _ _ _ _ _ _ g1 g1' h1 h2
  by_cases e : i = d
  ·by_cases e' : i' = d
   ·rw [e,e']
   ·have e1:=g3 e
    have e2:=g4' e'
    rcases rnB_lk hB hc' with ⟨h,_⟩|⟨h,_⟩
    ·exact absurd h e'
    ·exact absurd (e2.symm.trans (hj.symm.trans e1)) h
  ·by_cases e' : i' = d
   ·have e1:=g3' e'
    have e2:=g4 e
    rcases rnB_lk hB hc with ⟨h,_⟩|⟨h,_⟩
    ·exact absurd h e
    ·exact absurd (e2.symm.trans (hj.trans e1)) h
   ·rw [← g4 e,← g4' e',hj]
 ·have : i ≠ d:=by omega
  simp [Rho.upd,this,hS.keep i hi (by assumption)]
attribute [simp] rnS rnB
def RSpec (P : Program) (f : FuncId) (args : List AV) (T k : Nat) (xs : List AV) : Prop :=
 MSpec P f args [] (fun res bf=>(∃ j ys,res = .own j k 0 xs.length ∧ bf j = some (.arr T k ys) ∧ ys.take xs.length = xs) ∨ (xs = [] ∧ res = .v (.slice none 0 0)))
theorem RSpec.toP {f : FuncId} {args : List AV} {T k : Nat} {xs : List AV} (h : RSpec P f args T k xs) (hi : idfL xs = true) : PSpec P f args (.sl k xs) :=
 MSpec.toP h (by
  rintro res bf (⟨j,ys,rfl,hb,he⟩|⟨rfl,rfl⟩)
  ·have hl:=congrArg List.length he
   rw [List.length_take] at hl
   exact .inr (.inl ⟨j,k,0,xs.length,T,ys,rfl,hb,by omega,by rw [List.drop_zero,he],by rw [List.drop_zero,he];exact hi⟩)
  ·exact .inr (.inr (.inr (.inr ⟨_,_,_,rfl,rfl,rfl⟩))))
theorem Sim.after {H : Heap} {ρ : Rho} {a : Act} {w w' : World} {t : Nat} {x : AV} {ct : Ct} {G : Heap} {bd : Bd} {v : Value} (hs : Sim E H ρ s.slot s.box a w) (hm : s.ment t = false) (htn : t < E.n) (hle : H.le G) (hnew : ∀ b o u,G b o = some u → H b o = none → w.heap.size ≤ b) (hext : Ext G w')
 (hrep : Rep G (ρ.upd t bd) x v) (hct : CtRep G (ρ.upd t bd) w' bd ct) (hbd : ∀ b cap,bd = .at b cap → w.heap.size ≤ b ∧ b < w'.heap.size ∧ ∀ o,G b o = none) (hbel : Bel w.heap.size w w') :
 Sim E G (ρ.upd t bd) ((s.put (some t) x).addBox (some t) (some ct)).slot ((s.put (some t) x).addBox (some t) (some ct)).box (a.put (some t) v) w':=by
 obtain ⟨hm1,hm2⟩:=fresh2 hm
 have hne : ∀ i,1000000 ≤ i → i ≠ t:=fun i hi=>by have:=hs.nle;omega
 have hold : ∀ j c,s.box j = some c → j ≠ t → CtRep G (ρ.upd t bd) w' ((ρ.upd t bd) j) c ∧ (ρ.upd t bd) j = ρ j:=by
  intro j c hc hj
  have e : (ρ.upd t bd) j = ρ j:=by simp [Rho.upd,hj]
  rw [e]
  refine ⟨(hs.boxes.rep _ _ hc).mono hle (fun x hx=>?_) (fun b cap hb=>hbel.block b (hs.boxes.apart _ _ _ _ hc hb).2.1),rfl⟩
  have : x ≠ t:=by rintro rfl;rw [hm2 _ _ hc] at hx;cases hx
  simp [Rho.upd,this]
 have hbx : ∀ j c,((s.put (some t) x).addBox (some t) (some ct)).box j = some c → (j = t ∧ c = ct) ∨ (j ≠ t ∧ s.box j = some c):=by
  intro j c hc
  have hc : lk ((t,ct) :: s.b) j = some c:=hc
  simp only [lk] at hc
  split at hc
  ·rename_i e;cases hc;exact .inl ⟨e.symm,rfl⟩
  ·rename_i e;exact .inr ⟨fun e'=>e e'.symm,hc⟩
 have hfr : FrameBut E.may E.w0 w':=hs.frame.trans (FrameBut.of_below (may:=fun _=>False) hbel) (fun _ _ h=>h.elim)
 refine ⟨hext,fun j=>?_,by simpa [Act.put] using hs.size,hs.defers.bel hbel,⟨fun j c hc=>?_,fun j c b cap hc hb=>?_,fun j j' c c' b cap cap' hc hc' h1 h2=>?_⟩,fun b o u hu=>hle _ _ _ (hs.h0 b o u hu),fun b o u hu h0=>?_,hfr,fun i hi hi2=>?_,hs.nle⟩
 ·rw [AState.slot_addBox,AState.slot_put,put_get (by rw [hs.size];exact htn)]
  simp only [putF]
  split
  ·exact hrep
  ·exact ((hs.slots j).mono hle).upd (hm1 j)
 ·rcases hbx j c hc with ⟨rfl,rfl⟩|⟨hj,hc⟩
  ·rw [Rho.upd_same];exact hct
  ·exact (hold j c hc hj).1
 ·rcases hbx j c hc with ⟨rfl,rfl⟩|⟨hj,hc⟩
  ·rw [Rho.upd_same] at hb
   obtain ⟨h1,h2,h3⟩:=hbd b cap hb
   exact ⟨h3,h2,.inl (Nat.le_trans hs.frame.size h1)⟩
  ·rw [(hold j c hc hj).2] at hb
   obtain ⟨h1,h2,h3⟩:=hs.boxes.apart _ _ _ _ hc hb
   refine ⟨fun o=>?_,Nat.lt_of_lt_of_le h2 hbel.size,h3⟩
   cases hg : G b o with
   |none=>rfl
   |some u=>have:=hnew b o u hg (h1 o);omega
 ·rcases hbx j c hc with ⟨e1,_⟩|⟨hj,hc⟩
  ·rcases hbx j' c' hc' with ⟨e2,_⟩|⟨hj',hc'⟩
   ·rw [e1,e2]
   ·rw [e1,Rho.upd_same] at h1
    rw [(hold j' c' hc' hj').2] at h2
    have:=(hbd b cap h1).1
    have:=(hs.boxes.apart _ _ _ _ hc' h2).2.1
    omega
  ·rw [(hold j c hc hj).2] at h1
   rcases hbx j' c' hc' with ⟨e2,_⟩|⟨hj',hc'⟩
   ·rw [e2,Rho.upd_same] at h2
    have:=(hbd b cap' h2).1
    have:=(hs.boxes.apart _ _ _ _ hc h1).2.1
    omega
   ·rw [(hold j' c' hc' hj').2] at h2
    exact hs.boxes.inj _ _ _ _ _ _ _ hc hc' h1 h2
 ·cases hH : H b o with
  |none=>exact .inl (Nat.le_trans hs.frame.size (hnew b o u hu hH))
  |some u' =>
   have:=hle _ _ _ hH
   rw [hu] at this
   cases this
   exact hs.new b o u hH h0
 ·simp [Rho.upd,hne i hi,hs.keep i hi (by assumption)]
def nm (l : List (Nat × Nat)) : Nat → Nat:=fun i=>(lk l i).getD i
@[simp] theorem nm_nil (i : Nat) : nm [] i = i:=rfl
@[simp] theorem nm_cons (a b : Nat) (l : List (Nat × Nat)) (i : Nat) : nm ((a,b) :: l) i = if a = i then b else nm l i:=by
  simp only [nm,lk]
  split <;> rfl
theorem acall_boxes {g : FuncId} {args cargs : List AV} {bx : List (Nat × Ct)} {R : AV → (Nat → Option Ct) → Prop} {d : Option Tmp} {K : AState → Prop} (h : MSpec P g args bx R) (σ τ : Nat → Nat) (L : List (Nat × Ct)) (r : AV)
 (hR : ∀ res bf,R res bf → res = r ∧ ∀ p ∈ L,bf p.1 = some p.2) (hargs : cargs = args.map (AV.ren σ)) (hbx : ∀ p ∈ bx,s.box (σ p.1) = some (p.2.ren σ)) (hinj : ∀ p ∈ bx,∀ q ∈ bx,σ p.1 = σ q.1 → p.1 = q.1)
 (hname : ∀ p ∈ L,((1000000 ≤ p.1 ∧ p.1 < 2000000) ∧ (lk bx p.1).isSome = true ∧ τ p.1 = σ p.1) ∨ (p.1 < 1000000 ∧ s.ment (τ p.1) = false ∧ s.box (τ p.1) = none ∧ τ p.1 < 1000000)) (hinj2 : ∀ p ∈ L,∀ q ∈ L,τ p.1 = τ q.1 → p.1 = q.1)
 (hids : ∀ i ∈ r.ids,i ∈ L.map (·.1)) (hids2 : ∀ p ∈ L,∀ i ∈ p.2.ids,i ∈ L.map (·.1))
 (hk : K ((AState.mk s.s (L.map (fun p=>(τ p.1,p.2.ren τ)) ++ dropB (bx.map fun p=>σ p.1) s.b)).put d (r.ren τ))) : ACall P E g cargs s d K:=by
 refine ACall_mut h σ hargs (fun i c hc=>hbx _ (lk_mem hc)) (fun i i' h1 h2 e=>?_) (fun res bf hr=>?_)
 ·obtain ⟨c,hc⟩:=Option.isSome_iff_exists.1 h1
  obtain ⟨c',hc'⟩:=Option.isSome_iff_exists.1 h2
  exact hinj _ (lk_mem hc) _ (lk_mem hc') e
 ·obtain ⟨rfl,hL⟩:=hR res bf hr
  exact ⟨L,τ,⟨hL,hname,hinj2,hids,hids2⟩,hk⟩
theorem MSpec.mono {f : FuncId} {args : List AV} {bx : List (Nat × Ct)} {R R' : AV → (Nat → Option Ct) → Prop} (h : MSpec P f args bx R) (hR : ∀ res bf,R res bf → R' res bf) : MSpec P f args bx R' :=
 ⟨h.1,fun H ρ w vs he hb hr=>Calls.mono (h.2 H ρ w vs he hb hr) (by
   rintro e w' ⟨H',ρ',res,bf',v,h1,h2,h3⟩
   exact ⟨H',ρ',res,bf',v,h1,hR _ _ h2,h3⟩)⟩
end
end Go.Am
end
section
namespace Go.Am
open Go.RowKit
end Go.Am
end
section
namespace Go.Am
open Go.RowKit Go.ChangeShapes
def ShapeF (S : TypeId → List AV → Prop) (sz : TypeId → Nat) : List Field → List AV → Prop
 |[],cs=>cs = []
 |f :: fs,cs=>∃ a b,cs = a ++ b ∧ S f.type a ∧ a.length = sz f.type ∧ ShapeF S sz fs b
def ShapeA (S : List AV → Prop) (k : Nat) : Nat → List AV → Prop
 |0,cs=>cs = []
 |n + 1,cs=>∃ a b,cs = a ++ b ∧ S a ∧ a.length = k ∧ ShapeA S k n b
def ShapeC (P : Program) : Nat → TypeId → List AV → Prop
 |0,_,_=>False
 |n + 1,t,cs=>match P.underlying t with
  |some .bool=>∃ b,cs = [.v (.bool b)]
  |some (.int k)=>∃ i,cs = [.v (.int k i)] ∧ k.min ≤ i ∧ i ≤ k.max
  |some .string=>∃ s,cs = [.v (.string s)] ∧ s.size ≤ maxLen
  |some (.slice e)=>∃ xs,cs = [.sl (P.cellsOf e) xs] ∧ xs.length ≤ maxLen ∧ ∀ x ∈ xs,∃ cs',ShapeC P n e cs' ∧ x = (if aggB P e then .st cs' else cs'.headD .u)
  |some (.struct fs)=>ShapeF (ShapeC P n) P.cellsOf fs.toList cs
  |some (.array m e)=>ShapeA (ShapeC P n e) (P.cellsOf e) m cs
  |_=>False
def layF (sz : TypeId → Nat) : List Field → Nat → Option Nat
 |[],off=>some off
 |f :: fs,off=>if f.offset = off then layF sz fs (off + sz f.type) else none
def layB (P : Program) : Nat → TypeId → Bool
 |0,_=>false
 |n + 1,t=>match P.underlying t with
  |some .bool|some (.int _)|some .string=>P.cellsOf t == 1
  |some (.slice e)=>P.cellsOf t == 1 && decide (0 < P.cellsOf e) && (aggB P e || P.cellsOf e == 1) && layB P n e
  |some (.struct fs)=>layF P.cellsOf fs.toList 0 == some (P.cellsOf t) && fs.toList.all fun f=>layB P n f.type
  |some (.array m e)=>P.cellsOf t == m * P.cellsOf e && layB P n e
  |_=>false
theorem ShapeC.len {P : Program} : ∀ {n : Nat} {t : TypeId} {cs : List AV},layB P n t = true → ShapeC P n t cs → cs.length = P.cellsOf t
 |0,_,_,_,h=>h.elim
 |n + 1,t,cs,hl,h=>by
  simp only [ShapeC,layB] at h hl
  split at h
  ·rename_i hu;rw [hu] at hl;obtain ⟨b,rfl⟩:=h;simpa using (beq_iff_eq.1 hl).symm
  ·rename_i hu;rw [hu] at hl;obtain ⟨b,rfl,_⟩:=h;simpa using (beq_iff_eq.1 hl).symm
  ·rename_i hu;rw [hu] at hl;obtain ⟨b,rfl,_⟩:=h;simpa using (beq_iff_eq.1 hl).symm
  ·rename_i hu;rw [hu] at hl;obtain ⟨b,rfl,_⟩:=h
   simp only [Bool.and_eq_true,beq_iff_eq] at hl
   simpa using hl.1.1.1.symm
  ·rename_i fs hu
   rw [hu] at hl
   simp only [Bool.and_eq_true,beq_iff_eq] at hl
   have key : ∀ (fs : List Field) (off : Nat) (cs : List AV) (e : Nat),ShapeF (ShapeC P n) P.cellsOf fs cs → layF P.cellsOf fs off = some e → off + cs.length = e:=by
    intro fs
    induction fs with
    |nil=>intro off cs e h hl;simp only [ShapeF] at h;simp only [layF,Option.some.injEq] at hl;subst h;simpa using hl
    |cons f fs ih =>
     intro off cs e h hl
     obtain ⟨a,b,rfl,_,h2,h3⟩:=h
     simp only [layF] at hl
     split at hl
     ·have:=ih _ _ _ h3 hl
      rw [List.length_append,h2];omega
     ·cases hl
   have:=key _ _ _ _ h hl.1
   omega
  ·rename_i m e hu
   rw [hu] at hl
   simp only [Bool.and_eq_true,beq_iff_eq] at hl
   rw [hl.1]
   have key : ∀ (m : Nat) (cs : List AV),ShapeA (ShapeC P n e) (P.cellsOf e) m cs → cs.length = m * P.cellsOf e:=by
    intro m
    induction m with
    |zero=>intro cs h;simp only [ShapeA] at h;subst h;simp
    |succ m ih =>
     intro cs h
     obtain ⟨a,b,rfl,_,h2,h3⟩:=h
     rw [List.length_append,h2,ih _ h3,Nat.add_mul,Nat.one_mul,Nat.add_comm]
   exact key _ _ h
  ·exact h.elim
section
variable {H : Type} {enc : TypeId × Value → H} {P : Program} {W : World} {base : Nat} {spare : Nat → Bool} {held : Bool}
theorem read_rep : ∀ (n : Nat) (t : TypeId),layB P n t = true → ∀ (fuel : Nat) (cs : List Value) (x : DataW H × List MemPlace),DataW.trod enc P W base spare held fuel t cs = some x →
 ∃ avs,ShapeC P n t avs ∧ RepL (snap W) rho0 avs cs ∧ ∀ c ∈ avs,c.one = true
 |0,_,h=>by simp [layB] at h
 |n + 1,t,hl=>by
  intro fuel cs x h
  simp only [layB] at hl
  split at hl
  ·rename_i hu
   obtain ⟨b,rfl,_⟩:=DataW.trod_bool hu h
   exact ⟨[.v (.bool b)],by simp only [ShapeC,hu];exact ⟨b,rfl⟩,RepL.cons (.v rfl) RepL.nil,by simp [AV.one]⟩
  ·rename_i k hu
   obtain ⟨i,rfl,_,hw⟩:=DataW.trod_int hu h
   simp only [Lit.wf,Bool.and_eq_true,decide_eq_true_eq] at hw
   exact ⟨[.v (.int k i)],by simp only [ShapeC,hu];exact ⟨i,rfl,hw.1,hw.2⟩,RepL.cons (.v rfl) RepL.nil,by simp [AV.one]⟩
  ·rename_i hu
   obtain ⟨s,rfl,_,hw⟩:=DataW.trod_string hu h
   exact ⟨[.v (.string s)],by simp only [ShapeC,hu];exact ⟨s,rfl,hw⟩,RepL.cons (.v rfl) RepL.nil,by simp [AV.one]⟩
  ·rename_i e hu
   simp only [Bool.and_eq_true,Bool.or_eq_true,beq_iff_eq,decide_eq_true_eq] at hl
   obtain ⟨⟨⟨_,hk⟩,hagg⟩,hle⟩:=hl
   rcases DataW.trod_slice hu h with ⟨rfl,_⟩|⟨a,len,cap,elems,rest,m,_,rfl,_,_,hlc,hcm,hel,hg,_,_⟩
   ·exact ⟨[.sl (P.cellsOf e) []],by simp only [ShapeC,hu];exact ⟨[],rfl,by simp,by simp⟩,RepL.cons .slNil RepL.nil,by simp [AV.one]⟩
   ·by_cases hlen : len = 0
    ·subst hlen
     exact ⟨[.sl (P.cellsOf e) []],by simp only [ShapeC,hu];exact ⟨[],rfl,by simp,by simp⟩,RepL.cons .slNil RepL.nil,by simp [AV.one]⟩
    ·
     obtain ⟨b0,o0,rfl⟩ : ∃ b o,a = ⟨b,o,none⟩:=by
      have h0:=hg 0 (by omega)
      obtain ⟨y,hy⟩ : ∃ y,elems[0]? = some y:=⟨_,List.getElem?_eq_getElem (by omega)⟩
      rw [hy,Option.bind_eq_some_iff] at h0
      obtain ⟨vs,hvs,ht⟩:=h0
      obtain ⟨_,hl0,hc⟩:=World.cells?_some hvs
      have hc0:=hc 0 hk
      rw [List.getElem?_eq_getElem (by omega)] at hc0
      cases a with
      |mk b o sp =>
       cases sp with
       |none=>exact ⟨b,o,rfl⟩
       |some s =>
        exfalso
        simp only [Addr.add,Nat.zero_mul,if_true,World.cell?] at hc0
        split at hc0
        ·simp at hc0
        ·cases hc0
     have each : ∀ i,i < len → ∃ cs',ShapeC P n e cs' ∧ cs'.length = P.cellsOf e ∧ (∀ c ∈ cs',c.one = true) ∧ ∃ vs,RepL (snap W) rho0 cs' vs ∧ ∀ j,j < P.cellsOf e → W.cell? ⟨b0,o0 + (i * P.cellsOf e + j),none⟩ = vs[j]?:=by
      intro i hi
      have:=hg i hi
      obtain ⟨y,hy⟩ : ∃ y,elems[i]? = some y:=⟨_,List.getElem?_eq_getElem (by omega)⟩
      rw [hy,Option.bind_eq_some_iff] at this
      obtain ⟨vs,hvs,ht⟩:=this
      obtain ⟨cs',h1,h2,h3⟩:=read_rep n e hle _ _ _ ht
      obtain ⟨_,_,hc⟩:=World.cells?_some hvs
      refine ⟨cs',h1,h1.len hle,h3,vs,h2,fun j hj=>?_⟩
      have:=hc j hj
      rw [Addr.add_mk,Addr.add_mk,Nat.add_assoc] at this
      exact this
     have hch : ∃ f : Nat → List AV,∀ i,i < len → ShapeC P n e (f i) ∧ (f i).length = P.cellsOf e ∧ (∀ c ∈ f i,c.one = true) ∧ ∃ vs,RepL (snap W) rho0 (f i) vs ∧ ∀ j,j < P.cellsOf e → W.cell? ⟨b0,o0 + (i * P.cellsOf e + j),none⟩ = vs[j]?:=by
      refine ⟨fun i=>if h : i < len then Classical.choose (each i h) else [],fun i hi=>?_⟩
      simp only [hi,dif_pos]
      exact Classical.choose_spec (each i hi)
     obtain ⟨f,hf⟩:=hch
     obtain ⟨mk,hmk⟩ : ∃ mk : List AV → AV,∀ cs',mk cs' = if aggB P e then .st cs' else cs'.headD .u:=⟨_,fun _=>rfl⟩
     have hmc : ∀ i,i < len → (mk (f i)).cells = f i:=by
      intro i hi
      rw [hmk]
      by_cases ha : aggB P e = true
      ·rw [if_pos ha];rfl
      ·rw [if_neg ha]
       obtain ⟨_,h2,h3,_⟩:=hf i hi
       rw [hagg.resolve_left ha] at h2
       match hfi : f i,h2 with
       |[c],_ =>
        rw [hfi] at h3
        exact AV.one_cells (h3 c (by simp))
     refine ⟨[.sl (P.cellsOf e) ((List.range len).map fun i=>mk (f i))],?_,RepL.cons ?_ RepL.nil,by simp [AV.one]⟩
     ·simp only [ShapeC,hu]
      refine ⟨_,rfl,by simp;omega,fun y hy=>?_⟩
      obtain ⟨i,hi,rfl⟩:=List.mem_map.1 hy
      exact ⟨f i,(hf i (List.mem_range.1 hi)).1,hmk _⟩
     ·have hlr : ((List.range len).map fun i=>mk (f i)).length = len:=by simp
      have hget : ∀ (i : Nat) (x : AV),((List.range len).map fun i=>mk (f i))[i]? = some x → i < len ∧ x = mk (f i):=by
       intro i x hx
       have hi : i < len:=by have:=(List.getElem?_eq_some_iff.1 hx).1;simpa using this
       rw [List.getElem?_map,List.getElem?_range hi] at hx
       exact ⟨hi,by simpa using hx.symm⟩
      have hcell : ∀ (i j : Nat) (c : AV),i < len → (f i)[j]? = some c → ∃ u,W.cell? ⟨b0,o0 + i * P.cellsOf e + j,none⟩ = some u ∧ Rep (snap W) (fun _=>Bd.no) c u:=by
       intro i j c hi hc
       obtain ⟨_,h2,_,vs,hvs,hcc⟩:=hf i hi
       have hj : j < P.cellsOf e:=by have:=(List.getElem?_eq_some_iff.1 hc).1;omega
       obtain ⟨u,hu1,hu2⟩:=hvs.get hc
       refine ⟨u,?_,hu2⟩
       have:=hcc j hj
       rw [← hu1,← this,Nat.add_assoc]
      have:=Rep.sl (H:=snap W) (ρ:=rho0) (k:=P.cellsOf e) (xs:=(List.range len).map fun i=>mk (f i)) (blk:=b0) (off:=o0) (cap:=cap)
       (fun i j=>(W.cell? ⟨b0,o0 + i * P.cellsOf e + j,none⟩).getD undef) (by rw [hlr];exact hlc) hcm
       (fun x hx=>by obtain ⟨i,hi,rfl⟩:=List.mem_map.1 hx;rw [hmc i (List.mem_range.1 hi)];exact (hf i (List.mem_range.1 hi)).2.1)
       (fun x hx c hc=>by obtain ⟨i,hi,rfl⟩:=List.mem_map.1 hx;rw [hmc i (List.mem_range.1 hi)] at hc;exact (hf i (List.mem_range.1 hi)).2.2.1 c hc)
       (fun i j x c hx hc=>by
         obtain ⟨hi,rfl⟩:=hget i x hx
         rw [hmc i hi] at hc
         obtain ⟨u,h1,_⟩:=hcell i j c hi hc
         show W.cell? _ = _
         rw [h1];rfl)
       (fun i j x c hx hc=>by
         obtain ⟨hi,rfl⟩:=hget i x hx
         rw [hmc i hi] at hc
         obtain ⟨u,h1,h2⟩:=hcell i j c hi hc
         rw [h1]
         exact h2)
      rw [hlr] at this
      exact this
  ·rename_i fs hu
   simp only [Bool.and_eq_true,beq_iff_eq,List.all_eq_true] at hl
   obtain ⟨hlay,hall⟩:=hl
   obtain ⟨xs,m,_,_,hlen,hxl,hg⟩:=DataW.trod_struct hu h
   have key : ∀ (gs : List Field) (off : Nat),(∀ f ∈ gs,layB P n f.type = true ∧ ∃ y,DataW.trod enc P W base spare held m f.type ((cs.drop f.offset).take (P.cellsOf f.type)) = some y) → layF P.cellsOf gs off = some cs.length →
    ∃ avs,ShapeF (ShapeC P n) P.cellsOf gs avs ∧ RepL (snap W) rho0 avs (cs.drop off) ∧ ∀ c ∈ avs,c.one = true:=by
    intro gs
    induction gs with
    |nil =>
     intro off _ hl
     simp only [layF,Option.some.injEq] at hl
     exact ⟨[],rfl,by rw [hl,List.drop_length];exact RepL.nil,by simp⟩
    |cons f gs ih =>
     intro off hgs hl
     simp only [layF] at hl
     split at hl
     ·rename_i ho
      obtain ⟨hb,y,hy⟩:=hgs f List.mem_cons_self
      obtain ⟨a,h1,h2,h3⟩:=read_rep n f.type hb _ _ _ hy
      obtain ⟨b,h4,h5,h6⟩:=ih _ (fun g hg=>hgs g (List.mem_cons_of_mem _ hg)) hl
      refine ⟨a ++ b,⟨a,b,rfl,h1,h1.len hb,h4⟩,?_,fun c hc=>(List.mem_append.1 hc).elim (h3 c) (h6 c)⟩
      have:=h2.append h5
      rw [ho] at this
      rw [← List.drop_drop,List.take_append_drop] at this
      exact this
     ·cases hl
   have hfs : ∀ f ∈ fs.toList,layB P n f.type = true ∧ ∃ y,DataW.trod enc P W base spare held m f.type ((cs.drop f.offset).take (P.cellsOf f.type)) = some y:=by
    intro f hf
    refine ⟨hall f hf,?_⟩
    obtain ⟨i,hi⟩:=List.getElem?_of_mem hf
    rw [Array.getElem?_toList] at hi
    have:=hg i f hi
    have hi' : i < xs.length:=by rw [hxl];exact (Array.getElem?_eq_some_iff.1 hi).1
    rw [List.getElem?_eq_getElem hi'] at this
    exact ⟨_,this⟩
   obtain ⟨avs,h1,h2,h3⟩:=key fs.toList 0 hfs (by rw [hlay,hlen])
   exact ⟨avs,by simp only [ShapeC,hu];exact h1,by simpa using h2,h3⟩
  ·rename_i m e hu
   simp only [Bool.and_eq_true,beq_iff_eq] at hl
   obtain ⟨hsz,hle⟩:=hl
   obtain ⟨xs,q,_,_,hlen,hxl,hg⟩:=DataW.trod_array hu h
   have key : ∀ (r i : Nat),i + r = m → ∃ avs,ShapeA (ShapeC P n e) (P.cellsOf e) r avs ∧ RepL (snap W) rho0 avs (cs.drop (i * P.cellsOf e)) ∧ ∀ c ∈ avs,c.one = true:=by
    intro r
    induction r with
    |zero =>
     intro i hi
     exact ⟨[],rfl,by rw [show i = m by omega,← hsz,← hlen,List.drop_length];exact RepL.nil,by simp⟩
    |succ r ih =>
     intro i hi
     have hi' : i < m:=by omega
     have ht:=hg i hi'
     rw [List.getElem?_eq_getElem (by omega)] at ht
     obtain ⟨a,h1,h2,h3⟩:=read_rep n e hle _ _ _ ht
     obtain ⟨b,h4,h5,h6⟩:=ih (i + 1) (by omega)
     refine ⟨a ++ b,⟨a,b,rfl,h1,h1.len hle,h4⟩,?_,fun c hc=>(List.mem_append.1 hc).elim (h3 c) (h6 c)⟩
     have:=h2.append h5
     rw [Nat.add_mul,Nat.one_mul,← List.drop_drop,List.take_append_drop] at this
     exact this
   obtain ⟨avs,h1,h2,h3⟩:=key m 0 (by omega)
   exact ⟨avs,by simp only [ShapeC,hu];exact h1,by simpa using h2,h3⟩
  ·cases hl
end
end Go.Am
end
section
namespace Go.Am
open Go.RowKit Go.ChangeShapes Go.WideShapes Go.ChangeAt
def mkAV (P : Program) (t : TypeId) (cs : List AV) : AV:=if aggB P t then .st cs else cs.headD .u
section
variable {H : Type} {enc : TypeId × Value → H} {P : Program} {W W' : World} {base : Nat} {spare : Nat → Bool} {held : Bool}
theorem read_arg {m b0 : Nat} {r : Reach} {t : TypeId} {v : Value} {d : DataW H} {ps : List MemPlace} (hl : layB P m t = true) (hval : Value.okWide P W r b0 t v) (hd : DataW.Trod enc P W base spare held t v d ps) :
 ∃ cs,ShapeC P m t cs ∧ Rep (snap W) rho0 (mkAV P t cs) v:=by
 obtain ⟨fuel,hf⟩:=hd
 obtain ⟨avs,h1,h2,h3⟩:=read_rep m t hl _ _ _ hf
 refine ⟨avs,h1,?_⟩
 unfold mkAV
 by_cases ha : aggB P t = true
 ·rw [if_pos ha]
  obtain ⟨cs,rfl⟩ : ∃ cs,v = .agg cs:=by
   unfold aggB at ha
   unfold Value.okWide at hval
   split at ha
   ·rename_i hu;rw [hu] at hval;obtain ⟨cs,rfl,_⟩:=hval;exact ⟨cs,rfl⟩
   ·rename_i hu;rw [hu] at hval;obtain ⟨cs,rfl,_⟩:=hval;exact ⟨cs,rfl⟩
   ·cases ha
  have:=Rep.st' h2 h3
  simpa [Value.cells] using this
 ·rw [if_neg ha]
  have hna : ∀ cs,v ≠ .agg cs:=by
   rintro cs rfl
   unfold aggB at ha
   unfold Value.okWide at hval
   split at hval
   ·rename_i hu;rw [hu] at ha;exact ha rfl
   ·rename_i hu;rw [hu] at ha;exact ha rfl
   ·unfold Cell.okWide Cell.ok at hval
    split at hval <;> first|exact hval|(rename_i he;cases he)|(split at hval <;> first|exact hval|(rename_i he;cases he))
  have hc : v.cells = #[v]:=by
   cases v <;> first|rfl|exact absurd rfl (hna _)
  rw [hc] at h2
  have hlen:=h2.1
  match avs,hlen,h2,h3 with
  |[c],_,h2,_=>exact h2.2 0 c v rfl rfl
def ShapeL (P : Program) (m : Nat) : List TypeId → List AV → Prop
 |[],avs=>avs = []
 |t :: ts,avs=>∃ cs rest,avs = mkAV P t cs :: rest ∧ ShapeC P m t cs ∧ ShapeL P m ts rest
theorem read_args {m b0 : Nat} {r : Reach} : ∀ {ts : List TypeId} {vs : List Value} {ds : List (DataW H)} {ps : List MemPlace},(∀ t ∈ ts,layB P m t = true) → (∀ (j : Nat) t v,ts[j]? = some t → vs[j]? = some v → Value.okWide P W r b0 t v) → DataW.TrodAll enc P W base spare held ts vs ds ps →
 ∃ avs,ShapeL P m ts avs ∧ RepL (snap W) rho0 avs vs
 |[],vs,ds,ps,_,_,h=>by
  obtain ⟨rfl,rfl,rfl⟩:=trodAll_nil h
  exact ⟨[],rfl,RepL.nil⟩
 |t :: ts,vs,ds,ps,hl,hv,h=>by
  obtain ⟨v,vs',d,ds',p,q,rfl,rfl,rfl,h0,r0⟩:=trodAll_cons h
  obtain ⟨cs,h1,h2⟩:=read_arg (hl t List.mem_cons_self) (hv 0 t v rfl rfl) h0
  obtain ⟨avs,h3,h4⟩:=read_args (fun t ht=>hl t (List.mem_cons_of_mem _ ht)) (fun j t v hj hvj=>hv (j + 1) t v hj hvj) r0
  exact ⟨mkAV P t cs :: avs,⟨cs,avs,rfl,h1,h3⟩,RepL.cons h2 h4⟩
theorem frozen_of_block {w w' : World} {b off : Nat} (h : w'.heap[b]? = w.heap[b]?) : w'.frozen? ⟨b,off,none⟩ = w.frozen? ⟨b,off,none⟩:=by
 simp only [World.frozen?,h]
theorem stays_all {sp : Nat → Bool} (hl : laidOutB P = true) : ∀ {ts : List TypeId} {vs : List Value} {ds : List (DataW H)} {ps : List MemPlace},(∀ t ∈ ts,P.readableRec t = true ∧ t < P.types.size) → DataW.TrodAll enc P W 0 (fun _=>true) true ts vs ds ps →
 (∀ p ∈ ps,W.sameAt W' p) → (∀ p ∈ ps,sp p.block = true) → DataW.TrodAll enc P W' 0 sp true ts vs ds ps
 |[],vs,ds,ps,_,h,_,_=>by
  obtain ⟨rfl,rfl,rfl⟩:=trodAll_nil h
  exact trodAll_mk0
 |t :: ts,vs,ds,ps,hr,h,hs,hp=>by
  obtain ⟨v,vs',d,ds',p,q,rfl,rfl,rfl,h0,r0⟩:=trodAll_cons h
  refine trodAll_cons_mk ?_ (stays_all hl (fun t ht=>hr t (List.mem_cons_of_mem _ ht)) r0 (fun x hx=>hs x (List.mem_append_right _ hx)) (fun x hx=>hp x (List.mem_append_right _ hx)))
  exact WideElems.Trod_stays hl (hr t List.mem_cons_self).1 (hr t List.mem_cons_self).2 h0 (fun x hx=>hs x (List.mem_append_left _ hx)) (fun x hx=>hp x (List.mem_append_left _ hx))
theorem law_post {f : Func} {s : ChangeSpec} {apart fresh handsOn again : Bool} {args : Array Value} {ds gs : List (DataW H)} {before : List MemPlace} {tb : TypeId} (hW : DataW.Whole enc P f.params.toList s.vars apart W args.toList ds gs before) (hv : s.vars = []) (hb : Bel W.heap.size W W') (hl : laidOutB P = true)
 (hr : ∀ t ∈ f.params.toList,P.readableRec t = true ∧ t < P.types.size) (hs : s.fn H ds = { results:=[.lit (.bool true)],args:=ds }) (hres : f.resultTypes = #[tb]) (htb : P.underlying tb = some .bool) : s.post enc P f apart fresh handsOn again W args (.bool true) W':=by
 have hW':=hW
 obtain ⟨p,q,hA,hV,rfl,hz,hn⟩:=hW
 rw [hv] at hV
 obtain ⟨rfl,rfl⟩:=trodVars_none hV
 have hlt : ∀ x ∈ p ++ [],x.block < W.heap.size:=fun x hx=>hW'.lt x hx
 have hold : ∀ x ∈ p,(fun b=>decide (b < W.heap.size)) x.block = true:=fun x hx=>by simpa using hlt x (by simpa using hx)
 have hargs : ∀ sp : Nat → Bool,(∀ x ∈ p,sp x.block = true) → DataW.TrodAll enc P W' 0 sp true f.params.toList args.toList ds p:=fun sp hsp =>
  stays_all hl hr hA (fun x hx=>hb.toBelow.same (hlt x (by simpa using hx))) hsp
 have hres' : ∀ (b : Nat) (sp : Nat → Bool) (hd : Bool),DataW.TrodAll enc P W' b sp hd f.resultTypes.toList ((Value.bool true).resultList f.resultTypes.size) [.lit (.bool true)] []:=by
  intro b sp hd
  rw [hres]
  exact trodAll_cons_mk (shut_bool htb true) trodAll_mk0
 have hfn : s.fn H (ds ++ []) = { results:=[.lit (.bool true)],args:=ds }:=by rw [List.append_nil];exact hs
 refine ⟨ds,[],p ++ [],[],p,[],hW',by rw [hfn];exact hres' _ _ _,by rw [hfn];exact hargs _ hold,by rw [hfn,hv];rfl,World.keptBut_mono (fun x hx=>⟨hx,Or.inr (by simpa using hx)⟩) (hb.toBelow.frame _),fun _=>?_⟩
 refine ⟨ok_one hres rfl (okWide_bool_mk htb _),[.lit (.bool true)] ++ ds,[],([] ++ p) ++ [],⟨[] ++ p,[],?_,by rw [hv];rfl,rfl,?_,?_⟩,?_⟩
 ·exact trodAll_append (hargs _ (fun _ _=>rfl)) (hres' _ _ _)
 ·intro b off hp
  rw [frozen_of_block (hb.block b (show b < W.heap.size from hlt (.cell b off) (by simpa using hp)))]
  exact hz b off (by simpa using hp)
 ·intro ha
  simpa using hn ha
 ·intro x hx _
  simpa using hx
theorem law_contract {m : Nat} {f : FuncId} {fn : Func} {s : ChangeSpec} {apart fresh handsOn again : Bool} {tb : TypeId} (hspec : ∀ avs,ShapeL P m fn.params.toList avs → PSpec P f avs (.v (.bool true))) (hlay : ∀ t ∈ fn.params.toList,layB P m t = true) (hv : s.vars = []) (hl : laidOutB P = true)
 (hr : ∀ t ∈ fn.params.toList,P.readableRec t = true ∧ t < P.types.size) (hs : ∀ ds : List (DataW H),ds.length = fn.params.size → s.fn H ds = { results:=[.lit (.bool true)],args:=ds }) (hres : fn.resultTypes = #[tb]) (htb : P.underlying tb = some .bool)
 {b0 : Nat} {args : Array Value} {ds gs : List (DataW H)} {before : List MemPlace} (hval : ∀ (j : Nat) t v,fn.params[j]? = some t → args[j]? = some v → Value.okWide P W .any b0 t v) (hW : DataW.Whole enc P fn.params.toList s.vars apart W args.toList ds gs before) :
 Calls P f args W fun e W'=>∃ v,e = .returned v ∧ s.post enc P fn apart fresh handsOn again W args v W':=by
 obtain ⟨p,q,hA,hV,hpq,hz,hn⟩:=hW
 have hlen : ds.length = fn.params.size:=by
  have key : ∀ {ts : List TypeId} {vs : List Value} {ds : List (DataW H)} {ps : List MemPlace},DataW.TrodAll enc P W 0 (fun _=>true) true ts vs ds ps → ds.length = ts.length:=by
   intro ts
   induction ts with
   |nil=>intro vs ds ps h;obtain ⟨_,rfl,_⟩:=trodAll_nil h;rfl
   |cons t ts ih=>intro vs ds ps h;obtain ⟨v,vs',d,ds',p,q,_,rfl,_,_,r0⟩:=trodAll_cons h;simp [ih r0]
  simpa using key hA
 obtain ⟨avs,h1,h2⟩:=read_args hlay (fun j t v hj hvj=>hval j t v (by simpa using hj) (by simpa using hvj)) hA
 have hrun:=(hspec avs h1).2 (snap W) W args.toList (snap_ext W) h2
 refine Calls.mono hrun ?_
 rintro e W' ⟨H',v,rfl,_,_,_,hrep,hbel⟩
 rw [Rep.v_inv hrep]
 exact ⟨_,rfl,law_post ⟨p,q,hA,hV,hpq,hz,hn⟩ hv hbel hl hr (hs ds hlen) hres htb⟩
end
end Go.Am
end
