/- The abstract machine, part 2: boxes, states, what a state stands for, contracts, the rules for structured code. -/
import Derived.Test.YtmjckbokjjnmeaaAmCore
namespace Go.Am
open Go.RowKit

/-- What a box of the state holds: a variable; a row of elements (it may be the nil row); a map (while it is ranged over: its stamps); an iterator over map m (the entries that it has shown). -/
inductive Ct where
  | box (T : TypeId) (x : AV)
  | arr (T k : Nat) (xs : List AV)
  | map (es : List (AV × AV)) (st : Option (List Nat × Nat))
  | it (m : Nat) (bs : List Nat) (ck : Nat) (vis : List Nat)
  | raw (o : Obj)
  deriving Inhabited

def oneAll (x : AV) : Prop := ∀ c ∈ x.cells, c.one = true

def CtRep (H : Heap) (ρ : Rho) (w : World) (bd : Bd) : Ct → Prop
  | .box T x => ∃ b cap vs, bd = .at b cap ∧ w.heap[b]? = some (.cells (List.toArray vs) T (0, 0)) ∧ RepL H ρ x.cells vs ∧ oneAll x ∧ cap = x.cells.length
  | .arr T k xs => (bd = .nil ∧ xs = []) ∨ ∃ b cap cur, bd = .at b cap ∧ w.heap[b]? = some (.cells cur T (0, 0)) ∧ cap ≤ maxLen ∧ xs.length ≤ cap ∧ cur.size = cap * k ∧
      RepL H ρ (xs.flatMap AV.cells) (cur.toList.take (xs.length * k)) ∧ (∀ x ∈ xs, x.cells.length = k ∧ oneAll x)
  | .map es st => ∃ b cap ents clock, bd = .at b cap ∧ w.heap[b]? = some (.map ents clock) ∧ RepL H ρ (es.map (·.1)) (ents.toList.map (·.key)) ∧ RepL H ρ (es.map (·.2)) (ents.toList.map (·.val)) ∧
      (∀ e ∈ ents.toList, e.born < clock) ∧ (ents.toList.map (·.born)).Nodup ∧ (∀ bs ck, st = some (bs, ck) → ents.toList.map (·.born) = bs ∧ clock = ck)
  | .it m bs ck vis => ∃ b cap mb capm seen, bd = .at b cap ∧ ρ m = .at mb capm ∧ w.heap[b]? = some (.mapIter (some mb) ck seen ck) ∧ seen.toList = vis.map (fun i => bs.getD i 0) ∧ (∀ i ∈ vis, i < bs.length)
  | .raw o => ∃ b cap, bd = .at b cap ∧ w.heap[b]? = some o

mutual
def Ct.ment (d : Nat) : Ct → Bool
  | .box _ x => x.ment d
  | .arr _ _ xs => mentL d xs
  | .map es _ => mentP d es
  | .it m _ _ _ => m == d
  | .raw _ => false
def mentP (d : Nat) : List (AV × AV) → Bool
  | [] => false
  | e :: es => e.1.ment d || e.2.ment d || mentP d es
end

theorem mentL_flat {d : Nat} : ∀ {xs : List AV}, mentL d (xs.flatMap AV.cells) = true → mentL d xs = true
  | [], h => by simp [mentL] at h
  | x :: xs, h => by
    have key : ∀ (a b : List AV), mentL d (a ++ b) = (mentL d a || mentL d b) := by
      intro a b
      induction a with
      | nil => simp [mentL]
      | cons c a ih => simp [mentL, ih, Bool.or_assoc]
    rw [List.flatMap_cons, key, Bool.or_eq_true] at h
    simp only [mentL, Bool.or_eq_true]
    rcases h with h | h
    · left
      cases x with
      | st cs => simpa only [AV.ment, AV.cells] using h
      | _ => simpa only [AV.cells, mentL, Bool.or_false] using h
    · right; exact mentL_flat h

theorem mentL_cells {d : Nat} {x : AV} (h : mentL d x.cells = true) : x.ment d = true := by
  cases x with
  | st cs => simpa only [AV.ment, AV.cells] using h
  | _ => simpa only [AV.cells, mentL, Bool.or_false] using h

theorem mentP_fst {d : Nat} : ∀ {es : List (AV × AV)}, mentL d (es.map (·.1)) = true → mentP d es = true
  | [], h => by simp [mentL] at h
  | e :: es, h => by
    simp only [List.map_cons, mentL, Bool.or_eq_true] at h
    simp only [mentP, Bool.or_eq_true]
    rcases h with h | h
    · exact .inl (.inl h)
    · exact .inr (mentP_fst h)
theorem mentP_snd {d : Nat} : ∀ {es : List (AV × AV)}, mentL d (es.map (·.2)) = true → mentP d es = true
  | [], h => by simp [mentL] at h
  | e :: es, h => by
    simp only [List.map_cons, mentL, Bool.or_eq_true] at h
    simp only [mentP, Bool.or_eq_true]
    rcases h with h | h
    · exact .inl (.inr h)
    · exact .inr (mentP_snd h)

theorem CtRep.mono {H H' : Heap} {ρ ρ' : Rho} {w w' : World} {bd : Bd} {c : Ct} (h : CtRep H ρ w bd c) (hle : H.le H') (hr : ∀ d, c.ment d = true → ρ' d = ρ d)
    (hw : ∀ b cap, bd = .at b cap → w'.heap[b]? = w.heap[b]?) : CtRep H' ρ' w' bd c := by
  cases c with
  | box T x =>
    obtain ⟨b, cap, vs, h1, h2, h3, h4, h5⟩ := h
    exact ⟨b, cap, vs, h1, (hw b cap h1).trans h2, (h3.mono hle).rho (fun d hd => hr d (by simp only [Ct.ment]; exact mentL_cells hd)), h4, h5⟩
  | arr T k xs =>
    rcases h with h | ⟨b, cap, cur, h1, h2, h3, h4, h5, h6, h7⟩
    · exact .inl h
    · exact .inr ⟨b, cap, cur, h1, (hw b cap h1).trans h2, h3, h4, h5, (h6.mono hle).rho (fun d hd => hr d (by simp only [Ct.ment]; exact mentL_flat hd)), h7⟩
  | map es st =>
    obtain ⟨b, cap, ents, clock, h1, h2, h3, h4, h5⟩ := h
    exact ⟨b, cap, ents, clock, h1, (hw b cap h1).trans h2, (h3.mono hle).rho (fun d hd => hr d (by simp only [Ct.ment]; exact mentP_fst hd)), (h4.mono hle).rho (fun d hd => hr d (by simp only [Ct.ment]; exact mentP_snd hd)), h5⟩
  | it m bs ck vis =>
    obtain ⟨b, cap, mb, capm, seen, h1, h2, h3, h4, h5⟩ := h
    exact ⟨b, cap, mb, capm, seen, h1, (hr m (by simp [Ct.ment])).trans h2, (hw b cap h1).trans h3, h4, h5⟩
  | raw o =>
    obtain ⟨b, cap, h1, h2⟩ := h
    exact ⟨b, cap, h1, (hw b cap h1).trans h2⟩

def Ext (H : Heap) (w : World) : Prop := ∀ b o v, H b o = some v → w.cell? ⟨b, o, none⟩ = some v

structure Boxes (H : Heap) (ρ : Rho) (bf : Nat → Option Ct) (w : World) (ok : Nat → Prop) : Prop where
  rep : ∀ id c, bf id = some c → CtRep H ρ w (ρ id) c
  apart : ∀ id c b cap, bf id = some c → ρ id = .at b cap → (∀ o, H b o = none) ∧ b < w.heap.size ∧ ok b
  inj : ∀ id id' c c' b cap cap', bf id = some c → bf id' = some c' → ρ id = .at b cap → ρ id' = .at b cap' → id = id'

/-- 'Below', and the draws only grow. -/
structure Bel (B : Nat) (w w' : World) : Prop extends Below B w w' where
  drawn : w.drawn ≤ w'.drawn
theorem Bel.refl (B : Nat) (w : World) : Bel B w w := ⟨Below.refl B w, Nat.le_refl _⟩
theorem Bel.alloc {B : Nat} {w w' : World} (h : Bel B w w') (hB : B ≤ w'.heap.size) (o : Obj) : Bel B w (w'.alloc o) := ⟨h.toBelow.alloc hB o, h.drawn⟩

structure FrameBut (may : Nat → Prop) (w w' : World) : Prop where
  os : w'.os = w.os
  tape : w'.tape = w.tape
  output : w'.output = w.output ∧ w.drawn ≤ w'.drawn
  size : w.heap.size ≤ w'.heap.size
  block : ∀ k, k < w.heap.size → ¬ may k → w'.heap[k]? = w.heap[k]?

theorem FrameBut.refl (may : Nat → Prop) (w : World) : FrameBut may w w := ⟨rfl, rfl, ⟨rfl, Nat.le_refl _⟩, Nat.le_refl _, fun _ _ _ => rfl⟩
theorem FrameBut.trans {may may' : Nat → Prop} {w w' w'' : World} (h : FrameBut may w w') (h' : FrameBut may' w' w'') (hm : ∀ k, k < w.heap.size → may' k → may k) : FrameBut may w w'' :=
  ⟨h'.os.trans h.os, h'.tape.trans h.tape, ⟨h'.output.1.trans h.output.1, Nat.le_trans h.output.2 h'.output.2⟩, Nat.le_trans h.size h'.size,
   fun k hk hn => (h'.block k (Nat.lt_of_lt_of_le hk h.size) (fun x => hn (hm k hk x))).trans (h.block k hk hn)⟩
theorem FrameBut.of_below {may : Nat → Prop} {w w' : World} (h : Bel w.heap.size w w') : FrameBut may w w' := ⟨h.os, h.tape, ⟨h.output, h.drawn⟩, h.size, fun k hk _ => h.block k hk⟩
theorem FrameBut.below {w w' : World} (h : FrameBut (fun _ => False) w w') : Bel w.heap.size w w' := ⟨⟨h.os, h.tape, h.output.1, h.size, fun k hk => h.block k hk (fun x => x)⟩, h.output.2⟩

/-- Where a function's walk stands: its world at the entry, the cells that were fixed then, the blocks that it may write, how many slots, what the ids from a million on are bound to (that stays). -/
structure Env where
  w0 : World
  H0 : Heap
  may : Nat → Prop
  n : Nat
  r0 : Rho

def Env.mine (E : Env) (b : Nat) : Prop := E.w0.heap.size ≤ b ∨ E.may b

structure Sim (E : Env) (H : Heap) (ρ : Rho) (sf : Nat → AV) (bf : Nat → Option Ct) (a : Act) (w : World) : Prop where
  ext : Ext H w
  slots : ∀ i, Rep H ρ (sf i) (a.tmps.getD i undef)
  size : a.tmps.size = E.n
  defers : a.defers = []
  boxes : Boxes H ρ bf w E.mine
  h0 : E.H0.le H
  new : ∀ b o v, H b o = some v → E.H0 b o = none → E.mine b
  frame : FrameBut E.may E.w0 w
  keep : ∀ i, 1000000 ≤ i → ρ i = E.r0 i
  nle : E.n ≤ 1000000

/-- First match. -/
def lk {α : Type} : List (Nat × α) → Nat → Option α
  | [], _ => none
  | (i, x) :: l, j => if i = j then some x else lk l j

structure AState where
  s : List (Nat × AV)
  b : List (Nat × Ct)
  deriving Inhabited

def AState.slot (s : AState) (i : Nat) : AV := (lk s.s i).getD .u
def AState.box (s : AState) (i : Nat) : Option Ct := lk s.b i

def AState.put (s : AState) (d : Option Tmp) (x : AV) : AState :=
  match d with
  | some d => ⟨(d, x) :: s.s, s.b⟩
  | none => s
def AState.addBox (s : AState) (d : Option Tmp) (n : Option Ct) : AState :=
  match d, n with
  | some d, some c => ⟨s.s, (d, c) :: s.b⟩
  | _, _ => s

def mentS (d : Nat) : List (Nat × AV) → Bool
  | [] => false
  | (_, x) :: l => x.ment d || mentS d l
def mentB (d : Nat) : List (Nat × Ct) → Bool
  | [] => false
  | (_, c) :: l => c.ment d || mentB d l
def AState.ment (s : AState) (d : Nat) : Bool := mentS d s.s || mentB d s.b

theorem mentS_lk {d : Nat} : ∀ {l : List (Nat × AV)} {i : Nat} {x : AV}, lk l i = some x → mentS d l = false → x.ment d = false
  | [], _, _, h, _ => by simp [lk] at h
  | (j, y) :: l, i, x, h, hm => by
    simp only [mentS, Bool.or_eq_false_iff] at hm
    simp only [lk] at h
    split at h
    · cases h; exact hm.1
    · exact mentS_lk h hm.2
theorem mentB_lk {d : Nat} : ∀ {l : List (Nat × Ct)} {i : Nat} {x : Ct}, lk l i = some x → mentB d l = false → x.ment d = false
  | [], _, _, h, _ => by simp [lk] at h
  | (j, y) :: l, i, x, h, hm => by
    simp only [mentB, Bool.or_eq_false_iff] at hm
    simp only [lk] at h
    split at h
    · cases h; exact hm.1
    · exact mentB_lk h hm.2
theorem AState.ment_slot {s : AState} {d i : Nat} (h : s.ment d = false) : (s.slot i).ment d = false := by
  simp only [AState.ment, Bool.or_eq_false_iff] at h
  unfold AState.slot
  cases hl : lk s.s i with
  | none => simp [AV.ment]
  | some x => simpa using mentS_lk hl h.1
theorem AState.ment_box {s : AState} {d i : Nat} {c : Ct} (h : s.ment d = false) (hc : s.box i = some c) : c.ment d = false := by
  simp only [AState.ment, Bool.or_eq_false_iff] at h
  exact mentB_lk hc h.2

/-- The value of a constant. -/
def ofVal : Value → AV
  | .agg vs => if vs.toList.all okV then .st (vs.toList.map .v) else .u
  | .func f first caps => if first.isEmpty && caps.isEmpty then .fn f [] [] else .v (.func f first caps)
  | .tuple vs => if vs.isEmpty then .tup [] else .u
  | x => .v x

def evalF (sf : Nat → AV) : Operand → AV
  | .tmp t => sf t
  | .const v => ofVal v
  | .global g => .v (.pointer (some ⟨g, 0, none⟩))
  | .func f => .fn (.func f) [] []
def AState.eval (s : AState) : Operand → AV := evalF s.slot

theorem RepL.consts {H : Heap} {ρ : Rho} : ∀ (vs : List Value), vs.all okV = true → RepL H ρ (vs.map .v) vs
  | [], _ => RepL.nil
  | x :: vs, h => by
    simp only [List.all_cons, Bool.and_eq_true] at h
    exact RepL.cons (.v h.1) (RepL.consts vs h.2)

theorem Rep.ofVal {H : Heap} {ρ : Rho} (v : Value) : Rep H ρ (ofVal v) v := by
  cases v with
  | agg vs =>
    simp only [Am.ofVal]
    split
    · rename_i h
      have := Rep.st (H := H) (ρ := ρ) (cs := vs.toList.map .v) (vs := vs.toList) (by simp) (by simp [AV.one]) (RepL.consts (H := H) (ρ := ρ) _ h).2
      simpa using this
    · exact .u
  | func f first caps =>
    simp only [Am.ofVal]
    split
    · rename_i h
      simp only [Bool.and_eq_true, Array.isEmpty_iff] at h
      rw [h.1, h.2]
      exact Rep.fn (us := []) (vs := []) rfl rfl (by simp) (by simp)
    · exact .v rfl
  | tuple vs =>
    simp only [Am.ofVal]
    split
    · rename_i h
      rw [Array.isEmpty_iff] at h
      subst h
      exact Rep.tup (vs := []) rfl (by simp)
    · exact .u
  | _ => exact .v rfl

theorem Sim.eval {E : Env} {H : Heap} {ρ : Rho} {sf : Nat → AV} {bf : Nat → Option Ct} {a : Act} {w : World} (h : Sim E H ρ sf bf a w) (x : Operand) : Rep H ρ (evalF sf x) (a.eval x) := by
  cases x with
  | tmp t => exact h.slots t
  | const v => exact Rep.ofVal v
  | global g => exact .v rfl
  | func f => exact Rep.fn (us := []) (vs := []) rfl rfl (by simp) (by simp)

/-! ### contracts -/

def OwnB (ρ : Rho) (bf : Nat → Option Ct) (b : Nat) : Prop := ∃ id c cap, bf id = some c ∧ ρ id = .at b cap

/-- A call of it enters its body. -/
def Ent (P : Program) (f : FuncId) : Prop := ∀ (args : Array Value) (w : World), (callFunc f args).run P w = .ok (.enter f args) w

theorem ent_of {P : Program} {f : FuncId} {fn : Func} {c : Code} (hf : P.funcs[f]? = some fn) (hname : (fn.name == "runtime.NumGoroutine") = false) (hb : fn.body = some c) : Ent P f := by
  intro args w
  have h1 : fn.name ≠ "runtime.NumGoroutine" := by simpa using hname
  simp [callFunc, hf, h1, hb, mark]

/-- A function of values: called with what stands for args it returns what stands for res; it turns nothing. -/
def PSpec (P : Program) (f : FuncId) (args : List AV) (res : AV) : Prop :=
  Ent P f ∧ ∀ (H : Heap) (w : World) (vs : List Value), Ext H w → RepL H rho0 args vs → Calls P f vs.toArray w fun e w' =>
    ∃ H' v, e = .returned v ∧ H.le H' ∧ (∀ b o u, H' b o = some u → H b o = none → w.heap.size ≤ b) ∧ Ext H' w' ∧ Rep H' rho0 res v ∧ Bel w.heap.size w w'

/-- A function of values that hands back one new box. -/
def NSpec (P : Program) (f : FuncId) (args : List AV) (mk : Nat → AV) (c : Ct) : Prop :=
  Ent P f ∧ ∀ (H : Heap) (w : World) (vs : List Value), Ext H w → RepL H rho0 args vs → Calls P f vs.toArray w fun e w' =>
    ∃ H' v b cap, e = .returned v ∧ H.le H' ∧ (∀ b o u, H' b o = some u → H b o = none → w.heap.size ≤ b) ∧ Ext H' w' ∧ (∀ (G : Heap) (ρ : Rho) (d : Nat), ρ d = .at b cap → Rep G ρ (mk d) v) ∧ (∀ ρ, CtRep H' ρ w' (.at b cap) c) ∧
      w.heap.size ≤ b ∧ b < w'.heap.size ∧ (∀ o, H' b o = none) ∧ Bel w.heap.size w w'

/-- A function over boxes. -/
def MSpec (P : Program) (f : FuncId) (args : List AV) (bx : List (Nat × Ct)) (R : AV → (Nat → Option Ct) → Prop) : Prop :=
  Ent P f ∧ ∀ (H : Heap) (ρ : Rho) (w : World) (vs : List Value), Ext H w → Boxes H ρ (lk bx) w (fun _ => True) → RepL H ρ args vs → Calls P f vs.toArray w fun e w' =>
    ∃ H' ρ' res bf' v, e = .returned v ∧ R res bf' ∧ H.le H' ∧ (∀ b o u, H' b o = some u → H b o = none → w.heap.size ≤ b ∨ OwnB ρ (lk bx) b) ∧ Ext H' w' ∧
      Boxes H' ρ' bf' w' (fun b => w.heap.size ≤ b ∨ OwnB ρ (lk bx) b) ∧ Rep H' ρ' res v ∧ FrameBut (OwnB ρ (lk bx)) w w' ∧ (∀ i, 1000000 ≤ i → ρ' i = ρ i)

/-! ### structured code -/

inductive AExit where
  | normal
  | ret
  | exit (id : Nat)

def post (E : Env) (Q : AExit → AState → Prop) : Exit → Act → World → Prop
  | .normal, a, w => ∃ s H ρ, Q .normal s ∧ Sim E H ρ s.slot s.box a w
  | .ret, a, w => ∃ s H ρ, Q .ret s ∧ Sim E H ρ s.slot s.box a w
  | .exit id, a, w => ∃ s H ρ, Q (.exit id) s ∧ Sim E H ρ s.slot s.box a w
  | _, _, _ => False

def AW (P : Program) (E : Env) (c : Code) (s : AState) (Q : AExit → AState → Prop) : Prop :=
  ∀ H ρ a w, Sim E H ρ s.slot s.box a w → c.wp P (post E Q) a w

def thenK (K : AState → Prop) (Q : AExit → AState → Prop) : AExit → AState → Prop
  | .normal, s => K s
  | e, s => Q e s

def inBlk (id : Nat) (Q : AExit → AState → Prop) : AExit → AState → Prop
  | .exit id', s => if id' = id then Q .normal s else Q (.exit id') s
  | e, s => Q e s

section
variable {P : Program} {E : Env} {s : AState} {Q : AExit → AState → Prop}

theorem AW.mono {c : Code} {Q' : AExit → AState → Prop} (h : AW P E c s Q) (hq : ∀ e s, Q e s → Q' e s) : AW P E c s Q' := by
  intro H ρ a w hs
  refine wp_mono (h H ρ a w hs) ?_
  intro e a w h
  cases e <;> simp only [post] at h ⊢
  all_goals (obtain ⟨s, H, ρ, hq', h⟩ := h; exact ⟨s, H, ρ, hq _ _ hq', h⟩)

theorem AW_seq {x y : Code} (h : ∀ K : AState → Prop, (∀ s', AW P E y s' Q → K s') → AW P E x s (thenK K Q)) : AW P E (.seq x y) s Q := by
  intro H ρ a w hs
  refine wp_seq (wp_mono (h (fun s' => AW P E y s' Q) (fun _ h => h) H ρ a w hs) ?_)
  intro e a w h
  cases e <;> simp only [post, Exit.then] at h ⊢
  · obtain ⟨s', H', ρ', hk, hs'⟩ := h
    exact hk H' ρ' a w hs'
  all_goals exact h

theorem AW_skip (h : Q .normal s) : AW P E .skip s Q := fun H ρ _ _ hs => wp_skip ⟨s, H, ρ, h, hs⟩
theorem AW_label {l : Nat} (h : Q .normal s) : AW P E (.label l) s Q := fun H ρ _ _ hs => wp_label ⟨s, H, ρ, h, hs⟩
theorem AW_exit {id : Nat} (h : Q (.exit id) s) : AW P E (.exit id) s Q := fun H ρ _ _ hs => wp_exit ⟨s, H, ρ, h, hs⟩
theorem AW_ret (h : Q .ret s) : AW P E .ret s Q := fun H ρ _ _ hs => wp_ret ⟨s, H, ρ, h, hs⟩

theorem AW_block {id : Nat} {c : Code} (h : AW P E c s (inBlk id Q)) : AW P E (.block id c) s Q := by
  intro H ρ a w hs
  refine wp_block (wp_mono (h H ρ a w hs) ?_)
  intro e a w h
  cases e <;> simp only [post, Exit.inBlock] at h ⊢
  · exact h
  · rename_i id'
    obtain ⟨s', H', ρ', hq, hs'⟩ := h
    simp only [inBlk] at hq
    split
    · rename_i e; rw [if_pos e] at hq; exact ⟨s', H', ρ', hq, hs'⟩
    · rename_i e; rw [if_neg e] at hq; exact ⟨s', H', ρ', hq, hs'⟩
  all_goals exact h

theorem Rep.bool_inv {H : Heap} {ρ : Rho} {t : Bool} {v : Value} (h : Rep H ρ (.v (.bool t)) v) : v = .bool t := by cases h; rfl
theorem Rep.v_inv {H : Heap} {ρ : Rho} {x v : Value} (h : Rep H ρ (.v x) v) : v = x := by cases h; rfl

theorem AW_cond {c : Operand} {x y : Code} {t : Bool} (hc : s.eval c = .v (.bool t)) (hx : t = true → AW P E x s Q) (hy : t = false → AW P E y s Q) : AW P E (.cond c x y) s Q := by
  intro H ρ a w hs
  have he := hs.eval c
  unfold AState.eval at hc
  rw [hc] at he
  exact wp_cond_split he.v_inv (fun e => hx e H ρ a w hs) (fun e => hy e H ρ a w hs)

/-- A state that knows less. -/
def leS (s : AState) : List (Nat × AV) → Prop
  | [] => True
  | (i, x) :: l => s.slot i = x ∧ leS s l
def leC (x : Option Ct) (c : Ct) : Prop := x = some c ∨ ∃ es st, x = some (.map es st) ∧ c = .map es none
def leB (s : AState) : List (Nat × Ct) → Prop
  | [] => True
  | (i, c) :: l => leC (s.box i) c ∧ leB s l
def AState.le (s t : AState) : Prop := leS s t.s ∧ leB s t.b

theorem leS_lk {s : AState} : ∀ {l : List (Nat × AV)} {i : Nat} {x : AV}, leS s l → lk l i = some x → s.slot i = x
  | [], _, _, _, h => by simp [lk] at h
  | (j, y) :: l, i, x, hl, h => by
    simp only [lk] at h
    split at h
    · rename_i e; subst e; cases h; exact hl.1
    · exact leS_lk hl.2 h
theorem leB_lk {s : AState} : ∀ {l : List (Nat × Ct)} {i : Nat} {x : Ct}, leB s l → lk l i = some x → leC (s.box i) x
  | [], _, _, _, h => by simp [lk] at h
  | (j, y) :: l, i, x, hl, h => by
    simp only [lk] at h
    split at h
    · rename_i e; subst e; cases h; exact hl.1
    · exact leB_lk hl.2 h

theorem CtRep.forget {H : Heap} {ρ : Rho} {w : World} {bd : Bd} {es : List (AV × AV)} {st : Option (List Nat × Nat)} (h : CtRep H ρ w bd (.map es st)) : CtRep H ρ w bd (.map es none) := by
  obtain ⟨b, cap, ents, clock, h1, h2, h3, h4, h5, h6, _⟩ := h
  exact ⟨b, cap, ents, clock, h1, h2, h3, h4, h5, h6, fun _ _ e => by cases e⟩

theorem Sim.weaken {H : Heap} {ρ : Rho} {sf sf' : Nat → AV} {bf bf' : Nat → Option Ct} {a : Act} {w : World} (h : Sim E H ρ sf bf a w)
    (hs : ∀ i, sf' i = .u ∨ sf' i = sf i) (hb : ∀ i c, bf' i = some c → leC (bf i) c) : Sim E H ρ sf' bf' a w :=
  ⟨h.ext, fun i => by rcases hs i with e | e <;> rw [e]; exact .u; exact h.slots i, h.size, h.defers,
   ⟨fun id c hc => (by
      rcases hb id c hc with e | ⟨es, st, e, rfl⟩
      · exact h.boxes.rep id c e
      · exact (h.boxes.rep id _ e).forget),
    fun id c b cap hc => (by
      rcases hb id c hc with e | ⟨es, st, e, rfl⟩ <;> exact h.boxes.apart id _ b cap e),
    fun id id' c c' b cap cap' hc hc' => (by
      rcases hb id c hc with e | ⟨es, st, e, rfl⟩ <;> rcases hb id' c' hc' with e' | ⟨es', st', e', rfl⟩ <;> exact h.boxes.inj id id' _ _ b cap cap' e e')⟩,
   h.h0, h.new, h.frame, h.keep, h.nle⟩

theorem Sim.le {H : Heap} {ρ : Rho} {s t : AState} {a : Act} {w : World} (h : Sim E H ρ s.slot s.box a w) (hl : s.le t) : Sim E H ρ t.slot t.box a w :=
  h.weaken (fun i => by
    unfold AState.slot
    cases hx : lk t.s i with
    | none => left; rfl
    | some x => right; have := leS_lk hl.1 hx; unfold AState.slot at this; simp [this]) (fun i c hc => leB_lk hl.2 hc)

theorem AW_le {c : Code} {t : AState} (hl : s.le t) (h : AW P E c t Q) : AW P E c s Q := fun H ρ a w hs => h H ρ a w (hs.le hl)

/-- A loop: the relation I over states, the measure μ; a round may end in a state that knows more. -/
theorem AW_loop {G : Type} {c : Code} (I : G → AState) (ok : G → Prop) (μ : G → Nat) (g0 : G) (h0 : ok g0) (hl : s.le (I g0))
    (round : ∀ g, ok g → AW P E c (I g) (thenK (fun s' => ∃ g', ok g' ∧ μ g' < μ g ∧ s'.le (I g')) Q)) : AW P E (.loop c) s Q := by
  intro H ρ a w hs b k cs
  have key : ∀ n g, μ g = n → ok g → ∀ H ρ a w, Sim E H ρ (I g).slot (I g).box a w →
      ∃ e a' w', post E Q e a' w' ∧ Arrives P (lone (b.at a (.code c :: .inLoop c :: k)) cs w) b k cs e a' w' := by
    intro n
    induction n using Nat.strongRecOn with
    | _ n ih =>
      intro g hn hg H ρ a w hs
      obtain ⟨e, a₁, w₁, hq, harr⟩ := round g hg H ρ a w hs b (.inLoop c :: k) cs
      cases e with
      | normal =>
        obtain ⟨s', H', ρ', ⟨g', hg', hlt, hle⟩, hs'⟩ := hq
        obtain ⟨e₂, a₂, w₂, hq₂, harr₂⟩ := ih (μ g') (hn ▸ hlt) g' rfl hg' H' ρ' a₁ w₁ (hs'.le hle)
        exact ⟨e₂, a₂, w₂, hq₂, .of_steps (Steps.trans harr (.one step_inLoop)) harr₂⟩
      | exit id => exact ⟨.exit id, a₁, w₁, hq, .pass (x := .inLoop c) rfl (fun _ _ => .inl (by simp)) harr⟩
      | goto l => exact hq.elim
      | ret => exact ⟨.ret, a₁, w₁, hq, .pass (x := .inLoop c) rfl (fun _ _ => .inl (by simp)) harr⟩
      | panic ch => exact hq.elim
      | outgrown => exact hq.elim
  obtain ⟨e, a', w', hq, harr⟩ := key _ g0 rfl h0 H ρ a w (hs.le hl)
  exact ⟨e, a', w', hq, .of_steps (.one step_loop) harr⟩

end
end Go.Am
