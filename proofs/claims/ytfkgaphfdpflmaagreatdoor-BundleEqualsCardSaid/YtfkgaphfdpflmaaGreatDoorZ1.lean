/- The abstract machine, part 1: abstract values, what they stand for, and how that is kept -/
import Derived.WalkKit
import Derived.ControlIn
import Derived.CallsIn
import Derived.TacticsIn
import Derived.OrdersIn
import Derived.Orders
import Derived.Deep.LoopGhost
import Derived.Lib.UnsafeStr
set_option linter.unusedSimpArgs false
set_option linter.unusedVariables false
section
namespace Go.Am
abbrev Heap:=Nat → Nat → Option Value
def Heap.le (H H' : Heap) : Prop:=∀ b o v,H b o = some v → H' b o = some v
theorem Heap.le_refl (H : Heap) : H.le H:=fun _ _ _ h=>h
theorem Heap.le_trans {A B C : Heap} (h : A.le B) (k : B.le C) : A.le C:=fun b o v x=>k b o v (h b o v x)
inductive Bd where
 |no
 |nil
 |at (b cap : Nat)
 deriving Inhabited
abbrev Rho:=Nat → Bd
def rho0 : Rho:=fun _=>.no
def Rho.upd (ρ : Rho) (d : Nat) (x : Bd) : Rho:=fun i=>if i = d then x else ρ i
inductive AV where
 |v (x : Value)
 |st (cs : List AV)
 |sl (k : Nat) (xs : List AV)
 |ep (x : AV)
 |own (id k off n : Nat)
 |loc (id off : Nat)
 |eloc (id k i off : Nat)
 |mp (id : Nat)
 |fn (f : Fn) (first caps : List AV)
 |tup (vs : List AV)
 |ifc (t : TypeId) (x : AV)
 |w
 |u
 deriving Inhabited
def okV : Value → Bool
 |.agg _|.tuple _=>false
 |_=>true
def AV.one : AV → Bool
 |.st _|.tup _|.u=>false
 |_=>true
def AV.cells : AV → List AV
 |.st cs=>cs
 |x=>[x]
mutual
def AV.ment (d : Nat) : AV → Bool
 |.st cs=>mentL d cs
 |.own id _ _ _=>id == d
 |.loc id _=>id == d
 |.eloc id _ _ _=>id == d
 |.mp id=>id == d
 |.fn _ a b=>mentL d a || mentL d b
 |.tup vs=>mentL d vs
 |.ifc _ x=>x.ment d
 |_=>false
def mentL (d : Nat) : List AV → Bool
 |[]=>false
 |c :: cs=>c.ment d || mentL d cs
end
mutual
def AV.idf : AV → Bool
 |.st cs=>idfL cs
 |.own _ _ _ _=>false
 |.loc _ _=>false
 |.eloc _ _ _ _=>false
 |.mp _=>false
 |.fn _ a b=>idfL a && idfL b
 |.tup vs=>idfL vs
 |.ifc _ x=>x.idf
 |_=>true
def idfL : List AV → Bool
 |[]=>true
 |c :: cs=>c.idf && idfL cs
end
mutual
def AV.flat : AV → Bool
 |.v _=>true
 |.st cs=>flatL cs
 |.tup vs=>flatL vs
 |.ifc _ x=>x.flat
 |.w=>true
 |.u=>true
 |.sl _ xs=>xs.isEmpty
 |_=>false
def flatL : List AV → Bool
 |[]=>true
 |c :: cs=>c.flat && flatL cs
end
inductive Rep (H : Heap) : Rho → AV → Value → Prop
 |v {ρ : Rho} {x : Value} (h : okV x = true) : Rep H ρ (.v x) x
 |st {ρ : Rho} {cs : List AV} {vs : List Value} (hl : cs.length = vs.length) (h1 : ∀ c ∈ cs,c.one = true)
   (h : ∀ (i : Nat) (c : AV) (u : Value),cs[i]? = some c → vs[i]? = some u → Rep H ρ c u) : Rep H ρ (.st cs) (.agg vs.toArray)
 |slNil {ρ : Rho} {k : Nat} {a : Option Addr} {cap : Nat} : Rep H ρ (.sl k []) (.slice a 0 cap)
 |sl {ρ : Rho} {k : Nat} {xs : List AV} {blk off cap : Nat} (cell : Nat → Nat → Value) (hcap : xs.length ≤ cap) (hmax : cap ≤ maxLen)
   (hk : ∀ x ∈ xs,x.cells.length = k) (h1 : ∀ x ∈ xs,∀ c ∈ x.cells,c.one = true)
   (hH : ∀ (i j : Nat) (x c : AV),xs[i]? = some x → x.cells[j]? = some c → H blk (off + i * k + j) = some (cell i j))
   (h : ∀ (i j : Nat) (x c : AV),xs[i]? = some x → x.cells[j]? = some c → Rep H (fun _=>Bd.no) c (cell i j)) : Rep H ρ (.sl k xs) (.slice (some ⟨blk,off,none⟩) xs.length cap)
 |ep {ρ : Rho} {x : AV} {blk off : Nat} (cell : Nat → Value) (h1 : ∀ c ∈ x.cells,c.one = true)
   (hH : ∀ (j : Nat) (c : AV),x.cells[j]? = some c → H blk (off + j) = some (cell j))
   (h : ∀ (j : Nat) (c : AV),x.cells[j]? = some c → Rep H (fun _=>Bd.no) c (cell j)) : Rep H ρ (.ep x) (.pointer (some ⟨blk,off,none⟩))
 |ownNil {ρ : Rho} {id k : Nat} (h : ρ id = .nil) : Rep H ρ (.own id k 0 0) (.slice none 0 0)
 |own {ρ : Rho} {id k off n c b cap : Nat} (h : ρ id = .at b cap) (hn : off + n ≤ cap ∧ n ≤ c ∧ off + c ≤ cap) (hmax : cap ≤ maxLen) : Rep H ρ (.own id k off n) (.slice (some ⟨b,off * k,none⟩) n c)
 |loc {ρ : Rho} {id off b cap : Nat} (h : ρ id = .at b cap) : Rep H ρ (.loc id off) (.pointer (some ⟨b,off,none⟩))
 |eloc {ρ : Rho} {id k i off b cap : Nat} (h : ρ id = .at b cap) : Rep H ρ (.eloc id k i off) (.pointer (some ⟨b,i * k + off,none⟩))
 |mp {ρ : Rho} {id b cap : Nat} (h : ρ id = .at b cap) : Rep H ρ (.mp id) (.map (some b))
 |fn {ρ : Rho} {f : Fn} {fs cs : List AV} {us vs : List Value} (hl1 : fs.length = us.length) (hl2 : cs.length = vs.length)
   (h1 : ∀ (i : Nat) (c : AV) (u : Value),fs[i]? = some c → us[i]? = some u → Rep H ρ c u)
   (h2 : ∀ (i : Nat) (c : AV) (u : Value),cs[i]? = some c → vs[i]? = some u → Rep H ρ c u) : Rep H ρ (.fn f fs cs) (.func f us.toArray vs.toArray)
 |tup {ρ : Rho} {cs : List AV} {vs : List Value} (hl : cs.length = vs.length)
   (h : ∀ (i : Nat) (c : AV) (u : Value),cs[i]? = some c → vs[i]? = some u → Rep H ρ c u) : Rep H ρ (.tup cs) (.tuple vs.toArray)
 |ifc {ρ : Rho} {t : TypeId} {x : AV} {v : Value} (h : Rep H ρ x v) : Rep H ρ (.ifc t x) (.iface t v)
 |w {ρ : Rho} {v : Value} (h : okV v = true) : Rep H ρ .w v
 |u {ρ : Rho} {v : Value} : Rep H ρ .u v
def RepL (H : Heap) (ρ : Rho) (cs : List AV) (vs : List Value) : Prop :=
 cs.length = vs.length ∧ ∀ (i : Nat) (c : AV) (u : Value),cs[i]? = some c → vs[i]? = some u → Rep H ρ c u
theorem RepL.nil {H : Heap} {ρ : Rho} : RepL H ρ [] []:=⟨rfl,fun i c u h=>by simp at h⟩
theorem RepL.cons {H : Heap} {ρ : Rho} {c : AV} {cs : List AV} {u : Value} {us : List Value} (h : Rep H ρ c u) (hs : RepL H ρ cs us) : RepL H ρ (c :: cs) (u :: us):=by
 refine ⟨by simp [hs.1],fun i x y hx hy=>?_⟩
 cases i with
 |zero=>simp at hx hy;subst hx;subst hy;exact h
 |succ i=>exact hs.2 i x y (by simpa using hx) (by simpa using hy)
theorem RepL.cons_inv {H : Heap} {ρ : Rho} {c : AV} {cs : List AV} {us : List Value} (h : RepL H ρ (c :: cs) us) : ∃ u us',us = u :: us' ∧ Rep H ρ c u ∧ RepL H ρ cs us':=by
 obtain ⟨hl,h⟩:=h
 cases us with
 |nil=>simp at hl
 |cons u us' =>
  refine ⟨u,us',rfl,h 0 c u (by simp) (by simp),by simpa using hl,fun i x y hx hy=>h (i + 1) x y (by simpa using hx) (by simpa using hy)⟩
theorem RepL.nil_inv {H : Heap} {ρ : Rho} {us : List Value} (h : RepL H ρ [] us) : us = []:=by
 cases us with
 |nil=>rfl
 |cons=>have:=h.1;simp at this
theorem RepL.get {H : Heap} {ρ : Rho} {cs : List AV} {vs : List Value} (h : RepL H ρ cs vs) {i : Nat} {c : AV} (hc : cs[i]? = some c) : ∃ u,vs[i]? = some u ∧ Rep H ρ c u:=by
 have hi : i < cs.length:=(List.getElem?_eq_some_iff.1 hc).1
 have hi' : i < vs.length:=h.1 ▸ hi
 exact ⟨vs[i],List.getElem?_eq_getElem hi',h.2 i c _ hc (List.getElem?_eq_getElem hi')⟩
theorem RepL.getV {H : Heap} {ρ : Rho} {cs : List AV} {vs : List Value} (h : RepL H ρ cs vs) {i : Nat} {u : Value} (hu : vs[i]? = some u) : ∃ c,cs[i]? = some c ∧ Rep H ρ c u:=by
 have hi : i < vs.length:=(List.getElem?_eq_some_iff.1 hu).1
 have hi' : i < cs.length:=h.1 ▸ hi
 exact ⟨cs[i],List.getElem?_eq_getElem hi',h.2 i _ u (List.getElem?_eq_getElem hi') hu⟩
theorem Rep.mono {H H' : Heap} (hle : H.le H') {ρ : Rho} {x : AV} {v : Value} (h : Rep H ρ x v) : Rep H' ρ x v:=by
 induction h with
 |v h=>exact .v h
 |st hl h1 _ ih=>exact .st hl h1 ih
 |slNil=>exact .slNil
 |sl cell hcap hmax hk h1 hH _ ih=>exact .sl cell hcap hmax hk h1 (fun i j x c hx hc=>hle _ _ _ (hH i j x c hx hc)) ih
 |ep cell h1 hH _ ih=>exact .ep cell h1 (fun j c hc=>hle _ _ _ (hH j c hc)) ih
 |ownNil h=>exact .ownNil h
 |own h hn hm=>exact .own h hn hm
 |loc h=>exact .loc h
 |eloc h=>exact .eloc h
 |mp h=>exact .mp h
 |fn hl1 hl2 _ _ ih1 ih2=>exact .fn hl1 hl2 ih1 ih2
 |tup hl _ ih=>exact .tup hl ih
 |ifc _ ih=>exact .ifc ih
 |w h=>exact .w h
 |u=>exact .u
theorem RepL.mono {H H' : Heap} (hle : H.le H') {ρ : Rho} {cs : List AV} {vs : List Value} (h : RepL H ρ cs vs) : RepL H' ρ cs vs:=⟨h.1,fun i c u hc hu=>(h.2 i c u hc hu).mono hle⟩
theorem ment_of_mem {d : Nat} : ∀ {cs : List AV} {i : Nat} {c : AV},cs[i]? = some c → c.ment d = true → mentL d cs = true
 |[],i,c,h,_=>by simp at h
 |x :: cs,0,c,h,hm=>by simp at h;subst h;simp [mentL,hm]
 |x :: cs,i + 1,c,h,hm=>by simp at h;simp [mentL,ment_of_mem (cs:=cs) h hm]
theorem idf_of_mem : ∀ {cs : List AV} {i : Nat} {c : AV},idfL cs = true → cs[i]? = some c → c.idf = true
 |[],i,c,_,h=>by simp at h
 |x :: cs,0,c,hi,h=>by simp at h;subst h;simp [idfL] at hi;exact hi.1
 |x :: cs,i + 1,c,hi,h=>by simp at h;simp [idfL] at hi;exact idf_of_mem hi.2 h
theorem flat_of_mem : ∀ {cs : List AV} {i : Nat} {c : AV},flatL cs = true → cs[i]? = some c → c.flat = true
 |[],i,c,_,h=>by simp at h
 |x :: cs,0,c,hi,h=>by simp at h;subst h;simp [flatL] at hi;exact hi.1
 |x :: cs,i + 1,c,hi,h=>by simp at h;simp [flatL] at hi;exact flat_of_mem hi.2 h
theorem Rep.rho {H : Heap} {ρ : Rho} {x : AV} {v : Value} (h : Rep H ρ x v) : ∀ {ρ' : Rho},(∀ d,x.ment d = true → ρ' d = ρ d) → Rep H ρ' x v:=by
 induction h with
 |v h=>intro _ _;exact .v h
 |st hl h1 _ ih=>intro ρ' hr;exact .st hl h1 (fun i c u hc hu=>ih i c u hc hu (fun d hd=>hr d (by simp only [AV.ment];exact ment_of_mem hc hd)))
 |slNil=>intro _ _;exact .slNil
 |sl cell hcap hmax hk h1 hH h _=>intro _ _;exact .sl cell hcap hmax hk h1 hH h
 |ep cell h1 hH h _=>intro _ _;exact .ep cell h1 hH h
 |ownNil h=>intro ρ' hr;exact .ownNil ((hr _ (by simp [AV.ment])).trans h)
 |own h hn hm=>intro ρ' hr;exact .own ((hr _ (by simp [AV.ment])).trans h) hn hm
 |loc h=>intro ρ' hr;exact .loc ((hr _ (by simp [AV.ment])).trans h)
 |eloc h=>intro ρ' hr;exact .eloc ((hr _ (by simp [AV.ment])).trans h)
 |mp h=>intro ρ' hr;exact .mp ((hr _ (by simp [AV.ment])).trans h)
 |fn hl1 hl2 _ _ ih1 ih2 =>
  intro ρ' hr
  exact .fn hl1 hl2 (fun i c u hc hu=>ih1 i c u hc hu (fun d hd=>hr d (by simp [AV.ment,ment_of_mem hc hd])))
   (fun i c u hc hu=>ih2 i c u hc hu (fun d hd=>hr d (by simp [AV.ment,ment_of_mem hc hd])))
 |tup hl _ ih=>intro ρ' hr;exact .tup hl (fun i c u hc hu=>ih i c u hc hu (fun d hd=>hr d (by simp only [AV.ment];exact ment_of_mem hc hd)))
 |ifc _ ih=>intro ρ' hr;exact .ifc (ih (fun d hd=>hr d (by simpa only [AV.ment] using hd)))
 |w h=>intro _ _;exact .w h
 |u=>intro _ _;exact .u
theorem Rep.any {H : Heap} {ρ0 : Rho} {x : AV} {v : Value} (h : Rep H ρ0 x v) : (∀ d,ρ0 d = .no) → ∀ ρ : Rho,Rep H ρ x v:=by
 induction h with
 |v h=>intro _ _;exact .v h
 |st hl h1 _ ih=>intro h0 ρ;exact .st hl h1 (fun i c u hc hu=>ih i c u hc hu h0 ρ)
 |slNil=>intro _ _;exact .slNil
 |sl cell hcap hmax hk h1 hH h _=>intro _ _;exact .sl cell hcap hmax hk h1 hH h
 |ep cell h1 hH h _=>intro _ _;exact .ep cell h1 hH h
 |ownNil h=>intro h0;rw [h0] at h;cases h
 |own h=>intro h0;rw [h0] at h;cases h
 |loc h=>intro h0;rw [h0] at h;cases h
 |eloc h=>intro h0;rw [h0] at h;cases h
 |mp h=>intro h0;rw [h0] at h;cases h
 |fn hl1 hl2 _ _ ih1 ih2=>intro h0 ρ;exact .fn hl1 hl2 (fun i c u hc hu=>ih1 i c u hc hu h0 ρ) (fun i c u hc hu=>ih2 i c u hc hu h0 ρ)
 |tup hl _ ih=>intro h0 ρ;exact .tup hl (fun i c u hc hu=>ih i c u hc hu h0 ρ)
 |ifc _ ih=>intro h0 ρ;exact .ifc (ih h0 ρ)
 |w h=>intro _ _;exact .w h
 |u=>intro _ _;exact .u
theorem RepL.rho {H : Heap} {ρ ρ' : Rho} {cs : List AV} {vs : List Value} (h : RepL H ρ cs vs) (hr : ∀ d,mentL d cs = true → ρ' d = ρ d) : RepL H ρ' cs vs :=
 ⟨h.1,fun i c u hc hu=>(h.2 i c u hc hu).rho (fun d hd=>hr d (ment_of_mem hc hd))⟩
mutual
theorem idf_ment (d : Nat) : ∀ x : AV,x.idf = true → x.ment d = false
 |.v _,_=>by simp [AV.ment]
 |.st cs,h=>by simp only [AV.ment];exact idfL_ment d cs (by simpa only [AV.idf] using h)
 |.sl _ _,_=>by simp [AV.ment]
 |.ep _,_=>by simp [AV.ment]
 |.own ..,h=>by simp [AV.idf] at h
 |.loc ..,h=>by simp [AV.idf] at h
 |.eloc ..,h=>by simp [AV.idf] at h
 |.mp _,h=>by simp [AV.idf] at h
 |.fn _ a b,h=>by
  simp only [AV.idf,Bool.and_eq_true] at h
  simp [AV.ment,idfL_ment d a h.1,idfL_ment d b h.2]
 |.tup vs,h=>by simp only [AV.ment];exact idfL_ment d vs (by simpa only [AV.idf] using h)
 |.ifc _ x,h=>by simp only [AV.ment];exact idf_ment d x (by simpa only [AV.idf] using h)
 |.w,_=>by simp [AV.ment]
 |.u,_=>by simp [AV.ment]
theorem idfL_ment (d : Nat) : ∀ cs : List AV,idfL cs = true → mentL d cs = false
 |[],_=>by simp [mentL]
 |c :: cs,h=>by
  simp only [idfL,Bool.and_eq_true] at h
  simp [mentL,idf_ment d c h.1,idfL_ment d cs h.2]
end
theorem Rep.idf {H : Heap} {ρ ρ' : Rho} {x : AV} {v : Value} (h : Rep H ρ x v) (hi : x.idf = true) : Rep H ρ' x v:=h.rho (fun d hd=>by rw [idf_ment d x hi] at hd;cases hd)
theorem RepL.idf {H : Heap} {ρ ρ' : Rho} {cs : List AV} {vs : List Value} (h : RepL H ρ cs vs) (hi : idfL cs = true) : RepL H ρ' cs vs:=h.rho (fun d hd=>by rw [idfL_ment d cs hi] at hd;cases hd)
theorem Rep.flat {H : Heap} {ρ : Rho} {x : AV} {v : Value} (h : Rep H ρ x v) : ∀ {H' : Heap} {ρ' : Rho},x.flat = true → Rep H' ρ' x v:=by
 induction h with
 |v h=>intro _ _ _;exact .v h
 |st hl h1 _ ih=>intro _ _ hf;exact .st hl h1 (fun i c u hc hu=>ih i c u hc hu (flat_of_mem (by simpa only [AV.flat] using hf) hc))
 |tup hl _ ih=>intro _ _ hf;exact .tup hl (fun i c u hc hu=>ih i c u hc hu (flat_of_mem (by simpa only [AV.flat] using hf) hc))
 |ifc _ ih=>intro _ _ hf;exact .ifc (ih (by simpa only [AV.flat] using hf))
 |w h=>intro _ _ _;exact .w h
 |u=>intro _ _ _;exact .u
 |slNil=>intro _ _ _;exact .slNil
 |sl cell hcap hmax hk h1 hH h _=>intro _ _ hf;simp only [AV.flat,List.isEmpty_iff] at hf;subst hf;exact .slNil
 |_=>intro _ _ hf;simp [AV.flat] at hf
theorem Rep.okV {H : Heap} {ρ : Rho} {x : AV} {v : Value} (h : Rep H ρ x v) (h1 : x.one = true) : okV v = true:=by
 cases h <;> first|rfl|assumption|(simp [AV.one] at h1)
theorem okV_cells {v : Value} (h : okV v = true) : v.cells = #[v]:=by cases v <;> first|rfl|(simp [Am.okV] at h)
theorem okV_oneCell {v : Value} (h : okV v = true) : v.oneCell' = true:=by cases v <;> first|rfl|(simp [Am.okV] at h)
theorem AV.one_cells {x : AV} (h : x.one = true) : x.cells = [x]:=by cases x <;> first|rfl|(simp [AV.one] at h)
def AV.sto : AV → Bool
 |.tup _|.u=>false
 |_=>true
theorem Rep.cellsL {H : Heap} {ρ : Rho} {x : AV} {v : Value} (h : Rep H ρ x v) (hs : x.sto = true) : RepL H ρ x.cells v.cells.toList ∧ ∀ c ∈ x.cells,c.one = true:=by
 by_cases h1 : x.one = true
 ·rw [AV.one_cells h1,okV_cells (h.okV h1)]
  exact ⟨RepL.cons h RepL.nil,by simpa using h1⟩
 ·cases h with
  |st hl h2 h=>exact ⟨⟨by simpa [AV.cells,Value.cells] using hl,by simpa [AV.cells,Value.cells] using h⟩,h2⟩
  |tup=>simp [AV.sto] at hs
  |u=>simp [AV.sto] at hs
  |_=>simp [AV.one] at h1
theorem RepL.ok {H : Heap} {ρ : Rho} {cs : List AV} {vs : List Value} (h : RepL H ρ cs vs) (h1 : ∀ c ∈ cs,c.one = true) : ∀ u ∈ vs,okV u = true:=by
 intro u hu
 obtain ⟨i,hi⟩:=List.getElem?_of_mem hu
 obtain ⟨c,hc,hr⟩:=h.getV hi
 exact hr.okV (h1 c (List.mem_of_getElem? hc))
end Go.Am
end
section
namespace Go.Am
variable {P : Program}
def fenceR (r : Option Nat) : Fence:={ Fence.wide with round:=r }
def noDef (o : Oper) : Bool:=match o.op with|.defer _=>false|_=>true
theorem noDef_spec {o : Oper} (h : noDef o = true) (c : Call) : o.op ≠ .defer c:=by
 intro e
 simp [noDef,e] at h
theorem callsIn_R {r : Option Nat} {n : Nat} {f : FuncId} {args : Array Value} {w : World} {R : Ending → World → Prop} : CallsIn (fenceR r) n P f args w R ↔ Calls P f args w R :=
 Iff.trans (Iff.rfl : CallsIn (fenceR r) n P f args w R ↔ CallsIn Fence.wide n P f args w R) callsIn_wide
theorem rowsIn_R {r : Option Nat} {n : Nat} {f : String} {args : Array Value} {w : World} {R : Value → World → Prop} (h : Rows P f args w R) : RowsIn (fenceR r) n P f args w R:=by
 intro c cs _
 obtain ⟨v,w',hv,hs⟩:=h c cs
 exact ⟨v,w',hv,(stepsIn_wide (P:=P)).2 hs⟩
theorem Oper.wp_in {r : Option Nat} {o : Oper} {a : Act} {w : World} {K : Act → World → Prop} {Q : Exit → Act → World → Prop} (hd : noDef o = true) (h : o.wp P a w K Q) : o.wpIn (fenceR r) 0 P a w K Q:=by
 refine ⟨fun _ _=>trivial,?_⟩
 have he : Oper.semAt (fenceR r).round a.eval o = execOp a.eval o:=Oper.semAt_eq _ _ _ (noDef_spec hd)
 rw [he]
 unfold Oper.wp at h
 generalize (execOp a.eval o).run P w = x at h ⊢
 cases x with
 |ok x w' =>
  cases x <;> simp only [Oper.upon,Oper.uponIn] at h ⊢ <;> first
   |exact h
   |exact ⟨fun h=>by simp [fenceR,Fence.wide] at h,callsIn_R.2 h⟩
   |exact ⟨fun h=>by simp [fenceR,Fence.wide] at h,rowsIn_R h⟩
   |exact h.elim
 |halt x w'=>cases x <;> simp only [Oper.upon,Oper.uponIn] at h ⊢ <;> exact h
theorem wpOp_in {r : Option Nat} {ops : Array Oper} {Q : Exit → Act → World → Prop} {i : Nat} {K K' : Act → World → Prop} {a : Act} {w : World} (hd : ops.toList.all noDef = true) (hq : ¬ LetsOut Q)
 (hk : ∀ a w,K a w → K' a w) (h : wpOp P ops Q i K a w) : wpOpIn (fenceR r) 0 P ops Q i K' a w:=by
 unfold wpOp at h
 unfold wpOpIn
 cases ho : ops[i]? with
 |none=>simp only [ho] at h ⊢;exact hk _ _ h
 |some o =>
  simp only [ho] at h ⊢
  split at h
  ·rename_i hw
   rw [if_pos hw]
   rcases h with h|⟨_,h⟩
   ·exact Oper.wpIn_mono hk (Oper.wp_in (List.all_eq_true.1 hd o (by rw [Array.mem_toList_iff];exact Array.mem_of_getElem? ho)) h)
   ·exact absurd h hq
  ·rename_i hw
   rw [if_neg hw]
   exact ⟨fun _ _=>trivial,hk _ _ h⟩
theorem wpAny_in {r : Option Nat} {ops : Array Oper} {Q : Exit → Act → World → Prop} {md : Region.Mode} (hd : ops.toList.all noDef = true) (hq : ¬ LetsOut Q) :
 ∀ (n : Nat) (listed : Array Bool) (a : Act) (w : World),wpAny P md ops Q n listed a w → wpAnyIn (fenceR r) 0 P md ops Q n listed a w
 |0,_,_,_,h=>h
 |n + 1,_,_,_,h=>⟨h.1,fun i hi=>wpOp_in hd hq (fun a w h=>wpAny_in hd hq n _ a w h) (h.2 i hi)⟩
theorem wpR_region_any {r : Option Nat} {id : Nat} {ops : Array Oper} {Q : Exit → Act → World → Prop} {a : Act} {w : World} (hm : P.follows .mixedOrders = true) (hd : ops.toList.all noDef = true) (hq : ¬ LetsOut Q)
 (h : wpAny P .any ops Q ops.size (Array.replicate ops.size false) a { w with drawn:=w.drawn + 1 }) : (Code.region id ops true).wpIn (fenceR r) 0 P Q a w :=
 wpIn_region_any hm (wpAny_in hd hq _ _ _ _ h)
end Go.Am
end
section
namespace Go.Am
open Go.RowKit
inductive Ct where
 |box (T : TypeId) (x : AV)
 |arr (T k : Nat) (xs : List AV)
 |map (es : List (AV × AV)) (st : Option (List Nat × Nat))
 |it (m : Nat) (bs : List Nat) (ck : Nat) (vis : List Nat)
 |raw (o : Obj)
 |pin (b : Nat) (o : Obj)
 |hp (H : Heap)
 deriving Inhabited
def notDef (o : Obj) : Prop:=∀ x,o ≠ .deferred x
def oneAll (x : AV) : Prop:=∀ c ∈ x.cells,c.one = true
def CtRep (H : Heap) (ρ : Rho) (w : World) (bd : Bd) : Ct → Prop
 |.box T x=>∃ b cap vs,bd = .at b cap ∧ w.heap[b]? = some (.cells (List.toArray vs) T (0,0)) ∧ RepL H ρ x.cells vs ∧ oneAll x ∧ cap = x.cells.length
 |.arr T k xs=>(bd = .nil ∧ xs = []) ∨ ∃ b cap cur,bd = .at b cap ∧ w.heap[b]? = some (.cells cur T (0,0)) ∧ cap ≤ maxLen ∧ xs.length ≤ cap ∧ cur.size = cap * k ∧
   RepL H ρ (xs.flatMap AV.cells) (cur.toList.take (xs.length * k)) ∧ (∀ x ∈ xs,x.cells.length = k ∧ oneAll x)
 |.map es st=>∃ b cap ents clock,bd = .at b cap ∧ w.heap[b]? = some (.map ents clock) ∧ RepL H ρ (es.map (·.1)) (ents.toList.map (·.key)) ∧ RepL H ρ (es.map (·.2)) (ents.toList.map (·.val)) ∧
   (∀ e ∈ ents.toList,e.born < clock) ∧ (ents.toList.map (·.born)).Nodup ∧ (∀ bs ck,st = some (bs,ck) → ents.toList.map (·.born) = bs ∧ clock = ck)
 |.it m bs ck vis=>∃ b cap mb capm seen,bd = .at b cap ∧ ρ m = .at mb capm ∧ w.heap[b]? = some (.mapIter (some mb) ck seen ck) ∧ seen.toList = vis.map (fun i=>bs.getD i 0) ∧ (∀ i ∈ vis,i < bs.length)
 |.raw o=>∃ b cap,bd = .at b cap ∧ w.heap[b]? = some o ∧ notDef o
 |.pin b o=>bd = .at b 0 ∧ w.heap[b]? = some o ∧ notDef o
 |.hp H'=>bd = .no ∧ H'.le H
mutual
def Ct.ment (d : Nat) : Ct → Bool
 |.box _ x=>x.ment d
 |.arr _ _ xs=>mentL d xs
 |.map es _=>mentP d es
 |.it m _ _ _=>m == d
 |.raw _=>false
 |.pin _ _=>false
 |.hp _=>false
def mentP (d : Nat) : List (AV × AV) → Bool
 |[]=>false
 |e :: es=>e.1.ment d || e.2.ment d || mentP d es
end
theorem mentL_flat {d : Nat} : ∀ {xs : List AV},mentL d (xs.flatMap AV.cells) = true → mentL d xs = true
 |[],h=>by simp [mentL] at h
 |x :: xs,h=>by
  have key : ∀ (a b : List AV),mentL d (a ++ b) = (mentL d a || mentL d b):=by
   intro a b
   induction a with
   |nil=>simp [mentL]
   |cons c a ih=>simp [mentL,ih,Bool.or_assoc]
  rw [List.flatMap_cons,key,Bool.or_eq_true] at h
  simp only [mentL,Bool.or_eq_true]
  rcases h with h|h
  ·left
   cases x with
   |st cs=>simpa only [AV.ment,AV.cells] using h
   |_=>simpa only [AV.cells,mentL,Bool.or_false] using h
  ·right;exact mentL_flat h
theorem mentL_cells {d : Nat} {x : AV} (h : mentL d x.cells = true) : x.ment d = true:=by
 cases x with
 |st cs=>simpa only [AV.ment,AV.cells] using h
 |_=>simpa only [AV.cells,mentL,Bool.or_false] using h
theorem mentP_fst {d : Nat} : ∀ {es : List (AV × AV)},mentL d (es.map (·.1)) = true → mentP d es = true
 |[],h=>by simp [mentL] at h
 |e :: es,h=>by
  simp only [List.map_cons,mentL,Bool.or_eq_true] at h
  simp only [mentP,Bool.or_eq_true]
  rcases h with h|h
  ·exact .inl (.inl h)
  ·exact .inr (mentP_fst h)
theorem mentP_snd {d : Nat} : ∀ {es : List (AV × AV)},mentL d (es.map (·.2)) = true → mentP d es = true
 |[],h=>by simp [mentL] at h
 |e :: es,h=>by
  simp only [List.map_cons,mentL,Bool.or_eq_true] at h
  simp only [mentP,Bool.or_eq_true]
  rcases h with h|h
  ·exact .inl (.inr h)
  ·exact .inr (mentP_snd h)
theorem CtRep.mono {H H' : Heap} {ρ ρ' : Rho} {w w' : World} {bd : Bd} {c : Ct} (h : CtRep H ρ w bd c) (hle : H.le H') (hr : ∀ d,c.ment d = true → ρ' d = ρ d)
 (hw : ∀ b cap,bd = .at b cap → w'.heap[b]? = w.heap[b]?) : CtRep H' ρ' w' bd c:=by
 cases c with
 |box T x =>
  obtain ⟨b,cap,vs,h1,h2,h3,h4,h5⟩:=h
  exact ⟨b,cap,vs,h1,(hw b cap h1).trans h2,(h3.mono hle).rho (fun d hd=>hr d (by simp only [Ct.ment];exact mentL_cells hd)),h4,h5⟩
 |arr T k xs =>
  rcases h with h|⟨b,cap,cur,h1,h2,h3,h4,h5,h6,h7⟩
  ·exact .inl h
  ·exact .inr ⟨b,cap,cur,h1,(hw b cap h1).trans h2,h3,h4,h5,(h6.mono hle).rho (fun d hd=>hr d (by simp only [Ct.ment];exact mentL_flat hd)),h7⟩
 |map es st =>
  obtain ⟨b,cap,ents,clock,h1,h2,h3,h4,h5⟩:=h
  exact ⟨b,cap,ents,clock,h1,(hw b cap h1).trans h2,(h3.mono hle).rho (fun d hd=>hr d (by simp only [Ct.ment];exact mentP_fst hd)),(h4.mono hle).rho (fun d hd=>hr d (by simp only [Ct.ment];exact mentP_snd hd)),h5⟩
 |it m bs ck vis =>
  obtain ⟨b,cap,mb,capm,seen,h1,h2,h3,h4,h5⟩:=h
  exact ⟨b,cap,mb,capm,seen,h1,(hr m (by simp [Ct.ment])).trans h2,(hw b cap h1).trans h3,h4,h5⟩
 |raw o =>
  obtain ⟨b,cap,h1,h2,h3⟩:=h
  exact ⟨b,cap,h1,(hw b cap h1).trans h2,h3⟩
 |pin b o =>
  obtain ⟨h1,h2,h3⟩:=h
  exact ⟨h1,(hw b 0 h1).trans h2,h3⟩
 |hp H'=>exact ⟨h.1,Heap.le_trans h.2 hle⟩
theorem CtRep.obj {H : Heap} {ρ : Rho} {w : World} {b cap : Nat} {c : Ct} (h : CtRep H ρ w (.at b cap) c) : ∃ o,w.heap[b]? = some o ∧ notDef o:=by
 cases c with
 |box T x=>obtain ⟨b',_,vs,h1,h2,_⟩:=h;cases h1;exact ⟨_,h2,fun x e=>by cases e⟩
 |arr T k xs =>
  rcases h with ⟨h,_⟩|⟨b',_,cur,h1,h2,_⟩
  ·cases h
  ·cases h1;exact ⟨_,h2,fun x e=>by cases e⟩
 |map es st=>obtain ⟨b',_,_,_,h1,h2,_⟩:=h;cases h1;exact ⟨_,h2,fun x e=>by cases e⟩
 |it m bs ck vis=>obtain ⟨b',_,_,_,_,h1,_,h2,_⟩:=h;cases h1;exact ⟨_,h2,fun x e=>by cases e⟩
 |raw o=>obtain ⟨b',_,h1,h2⟩:=h;cases h1;exact ⟨_,h2⟩
 |pin b' o=>obtain ⟨h1,h2⟩:=h;cases h1;exact ⟨_,h2⟩
 |hp H'=>obtain ⟨h1,h2⟩:=h;cases h1
def markD (D : Nat) : Deferred:={ target:=.collected D,args:=#[] }
def DefOK (B : Nat) (ds : List Deferred) (w : World) : Prop:=∃ Ds : List Nat,ds = Ds.map markD ∧ Ds.Nodup ∧ ∀ D ∈ Ds,B ≤ D ∧ w.heap[D]? = some (Obj.deferred (some []))
theorem DefOK.of_same {B : Nat} {ds : List Deferred} {w w' : World} (h : DefOK B ds w) (hw : ∀ D : Nat,w.heap[D]? = some (Obj.deferred (some [])) → w'.heap[D]? = w.heap[D]?) : DefOK B ds w' :=
 let ⟨Ds,h1,h2,h3⟩:=h;⟨Ds,h1,h2,fun D hD=>⟨(h3 D hD).1,(hw D (h3 D hD).2).trans (h3 D hD).2⟩⟩
theorem DefOK.nil {B : Nat} {w : World} : DefOK B [] w:=⟨[],rfl,List.nodup_nil,fun d hd=>by cases hd⟩
def Ext (H : Heap) (w : World) : Prop:=∀ b o v,H b o = some v → w.cell? ⟨b,o,none⟩ = some v
structure Boxes (H : Heap) (ρ : Rho) (bf : Nat → Option Ct) (w : World) (ok : Nat → Prop) : Prop where
 rep : ∀ id c,bf id = some c → CtRep H ρ w (ρ id) c
 apart : ∀ id c b cap,bf id = some c → ρ id = .at b cap → (∀ o,H b o = none) ∧ b < w.heap.size ∧ ok b
 inj : ∀ id id' c c' b cap cap',bf id = some c → bf id' = some c' → ρ id = .at b cap → ρ id' = .at b cap' → id = id'
structure Bel (B : Nat) (w w' : World) : Prop extends Below B w w' where
 drawn : w.drawn ≤ w'.drawn
theorem Bel.refl (B : Nat) (w : World) : Bel B w w:=⟨Below.refl B w,Nat.le_refl _⟩
theorem Bel.alloc {B : Nat} {w w' : World} (h : Bel B w w') (hB : B ≤ w'.heap.size) (o : Obj) : Bel B w (w'.alloc o):=⟨h.toBelow.alloc hB o,h.drawn⟩
theorem DefOK.bel {B : Nat} {ds : List Deferred} {w w' : World} (h : DefOK B ds w) (hb : Bel w.heap.size w w') : DefOK B ds w' :=
 h.of_same fun D hD=>hb.block D (Array.getElem?_eq_some_iff.1 hD).1
structure FrameBut (may : Nat → Prop) (w w' : World) : Prop where
 os : w'.os = w.os
 tape : w'.tape = w.tape
 output : w'.output = w.output ∧ w.drawn ≤ w'.drawn
 size : w.heap.size ≤ w'.heap.size
 block : ∀ k,k < w.heap.size → ¬ may k → w'.heap[k]? = w.heap[k]?
theorem FrameBut.refl (may : Nat → Prop) (w : World) : FrameBut may w w:=⟨rfl,rfl,⟨rfl,Nat.le_refl _⟩,Nat.le_refl _,fun _ _ _=>rfl⟩
theorem FrameBut.trans {may may' : Nat → Prop} {w w' w'' : World} (h : FrameBut may w w') (h' : FrameBut may' w' w'') (hm : ∀ k,k < w.heap.size → may' k → may k) : FrameBut may w w'' :=
 ⟨h'.os.trans h.os,h'.tape.trans h.tape,⟨h'.output.1.trans h.output.1,Nat.le_trans h.output.2 h'.output.2⟩,Nat.le_trans h.size h'.size,
  fun k hk hn=>(h'.block k (Nat.lt_of_lt_of_le hk h.size) (fun x=>hn (hm k hk x))).trans (h.block k hk hn)⟩
theorem FrameBut.of_below {may : Nat → Prop} {w w' : World} (h : Bel w.heap.size w w') : FrameBut may w w':=⟨h.os,h.tape,⟨h.output,h.drawn⟩,h.size,fun k hk _=>h.block k hk⟩
theorem FrameBut.below {w w' : World} (h : FrameBut (fun _=>False) w w') : Bel w.heap.size w w':=⟨⟨h.os,h.tape,h.output.1,h.size,fun k hk=>h.block k hk (fun x=>x)⟩,h.output.2⟩
structure Env where
 w0 : World
 H0 : Heap
 may : Nat → Prop
 n : Nat
 r0 : Rho
 round : Option Nat
def Env.fence (E : Env) : Fence:=fenceR E.round
def Env.mine (E : Env) (b : Nat) : Prop:=E.w0.heap.size ≤ b ∨ E.may b
theorem DefOK.frame {B : Nat} {ds : List Deferred} {w w' : World} {may : Nat → Prop} (h : DefOK B ds w) (hf : FrameBut may w w') (hm : ∀ D,w.heap[D]? = some (Obj.deferred (some [])) → ¬ may D) : DefOK B ds w' :=
 h.of_same fun D hD=>hf.block D (Array.getElem?_eq_some_iff.1 hD).1 (hm D hD)
structure Sim (E : Env) (H : Heap) (ρ : Rho) (sf : Nat → AV) (bf : Nat → Option Ct) (a : Act) (w : World) : Prop where
 ext : Ext H w
 slots : ∀ i,Rep H ρ (sf i) (a.tmps.getD i undef)
 size : a.tmps.size = E.n
 defers : DefOK E.w0.heap.size a.defers w
 boxes : Boxes H ρ bf w E.mine
 h0 : E.H0.le H
 new : ∀ b o v,H b o = some v → E.H0 b o = none → E.mine b
 frame : FrameBut E.may E.w0 w
 keep : ∀ i,1000000 ≤ i → i < 2000000 → ρ i = E.r0 i
 nle : E.n ≤ 1000000
theorem Sim.noDef {E : Env} {H : Heap} {ρ : Rho} {sf : Nat → AV} {bf : Nat → Option Ct} {a : Act} {w : World} (h : Sim E H ρ sf bf a w) {id b cap : Nat} {c : Ct} (hc : bf id = some c) (hb : ρ id = .at b cap) {x : Option (List Deferred)} : w.heap[b]? ≠ some (.deferred x):=by
 intro hD
 have hr:=h.boxes.rep id c hc
 rw [hb] at hr
 obtain ⟨o,ho,hn⟩:=hr.obj
 rw [hD] at ho
 cases ho
 exact hn _ rfl
def lk {α : Type} : List (Nat × α) → Nat → Option α
 |[],_=>none
 |(i,x) :: l,j=>if i = j then some x else lk l j
structure AState where
 s : List (Nat × AV)
 b : List (Nat × Ct)
 deriving Inhabited
def AState.slot (s : AState) (i : Nat) : AV:=(lk s.s i).getD .u
def AState.box (s : AState) (i : Nat) : Option Ct:=lk s.b i
def AState.put (s : AState) (d : Option Tmp) (x : AV) : AState :=
 match d with
 |some d=>⟨(d,x) :: s.s,s.b⟩
 |none=>s
def AState.addBox (s : AState) (d : Option Tmp) (n : Option Ct) : AState :=
 match d,n with
 |some d,some c=>⟨s.s,(d,c) :: s.b⟩
 |_,_=>s
def mentS (d : Nat) : List (Nat × AV) → Bool
 |[]=>false
 |(_,x) :: l=>x.ment d || mentS d l
def mentB (d : Nat) : List (Nat × Ct) → Bool
 |[]=>false
 |(_,c) :: l=>c.ment d || mentB d l
def AState.ment (s : AState) (d : Nat) : Bool:=mentS d s.s || mentB d s.b
theorem mentS_lk {d : Nat} : ∀ {l : List (Nat × AV)} {i : Nat} {x : AV},lk l i = some x → mentS d l = false → x.ment d = false
 |[],_,_,h,_=>by simp [lk] at h
 |(j,y) :: l,i,x,h,hm=>by
  simp only [mentS,Bool.or_eq_false_iff] at hm
  simp only [lk] at h
  split at h
  ·cases h;exact hm.1
  ·exact mentS_lk h hm.2
theorem mentB_lk {d : Nat} : ∀ {l : List (Nat × Ct)} {i : Nat} {x : Ct},lk l i = some x → mentB d l = false → x.ment d = false
 |[],_,_,h,_=>by simp [lk] at h
 |(j,y) :: l,i,x,h,hm=>by
  simp only [mentB,Bool.or_eq_false_iff] at hm
  simp only [lk] at h
  split at h
  ·cases h;exact hm.1
  ·exact mentB_lk h hm.2
theorem AState.ment_slot {s : AState} {d i : Nat} (h : s.ment d = false) : (s.slot i).ment d = false:=by
 simp only [AState.ment,Bool.or_eq_false_iff] at h
 unfold AState.slot
 cases hl : lk s.s i with
 |none=>simp [AV.ment]
 |some x=>simpa using mentS_lk hl h.1
theorem AState.ment_box {s : AState} {d i : Nat} {c : Ct} (h : s.ment d = false) (hc : s.box i = some c) : c.ment d = false:=by
 simp only [AState.ment,Bool.or_eq_false_iff] at h
 exact mentB_lk hc h.2
def ofVal : Value → AV
 |.agg vs=>if vs.toList.all okV then .st (vs.toList.map .v) else .u
 |.func f first caps=>if first.isEmpty && caps.isEmpty then .fn f [] [] else .v (.func f first caps)
 |.tuple vs=>if vs.isEmpty then .tup [] else .u
 |x=>.v x
def evalF (sf : Nat → AV) : Operand → AV
 |.tmp t=>sf t
 |.const v=>ofVal v
 |.global g=>.v (.pointer (some ⟨g,0,none⟩))
 |.func f=>.fn (.func f) [] []
def AState.eval (s : AState) : Operand → AV:=evalF s.slot
theorem RepL.consts {H : Heap} {ρ : Rho} : ∀ (vs : List Value),vs.all okV = true → RepL H ρ (vs.map .v) vs
 |[],_=>RepL.nil
 |x :: vs,h=>by
  simp only [List.all_cons,Bool.and_eq_true] at h
  exact RepL.cons (.v h.1) (RepL.consts vs h.2)
theorem Rep.ofVal {H : Heap} {ρ : Rho} (v : Value) : Rep H ρ (ofVal v) v:=by
 cases v with
 |agg vs =>
  simp only [Am.ofVal]
  split
  ·rename_i h
   have:=Rep.st (H:=H) (ρ:=ρ) (cs:=vs.toList.map .v) (vs:=vs.toList) (by simp) (by simp [AV.one]) (RepL.consts (H:=H) (ρ:=ρ) _ h).2
   simpa using this
  ·exact .u
 |func f first caps =>
  simp only [Am.ofVal]
  split
  ·rename_i h
   simp only [Bool.and_eq_true,Array.isEmpty_iff] at h
   rw [h.1,h.2]
   exact Rep.fn (us:=[]) (vs:=[]) rfl rfl (by simp) (by simp)
  ·exact .v rfl
 |tuple vs =>
  simp only [Am.ofVal]
  split
  ·rename_i h
   rw [Array.isEmpty_iff] at h
   subst h
   exact Rep.tup (vs:=[]) rfl (by simp)
  ·exact .u
 |_=>exact .v rfl
theorem Sim.eval {E : Env} {H : Heap} {ρ : Rho} {sf : Nat → AV} {bf : Nat → Option Ct} {a : Act} {w : World} (h : Sim E H ρ sf bf a w) (x : Operand) : Rep H ρ (evalF sf x) (a.eval x):=by
 cases x with
 |tmp t=>exact h.slots t
 |const v=>exact Rep.ofVal v
 |global g=>exact .v rfl
 |func f=>exact Rep.fn (us:=[]) (vs:=[]) rfl rfl (by simp) (by simp)
def OwnB (ρ : Rho) (bf : Nat → Option Ct) (b : Nat) : Prop:=∃ id c cap,bf id = some c ∧ ρ id = .at b cap
def Ent (P : Program) (f : FuncId) : Prop:=∀ (args : Array Value) (w : World),(callFunc f args).run P w = .ok (.enter f args) w
theorem ent_of {P : Program} {f : FuncId} {fn : Func} {c : Code} (hf : P.funcs[f]? = some fn) (hname : (fn.name == "runtime.NumGoroutine") = false) (hb : fn.body = some c) : Ent P f:=by
 intro args w
 have h1 : fn.name ≠ "runtime.NumGoroutine":=by simpa using hname
 simp [callFunc,hf,h1,hb,mark]
def PSpec (P : Program) (f : FuncId) (args : List AV) (res : AV) : Prop :=
 Ent P f ∧ ∀ (H : Heap) (w : World) (vs : List Value),Ext H w → RepL H rho0 args vs → Calls P f vs.toArray w fun e w' =>
  ∃ H' v,e = .returned v ∧ H.le H' ∧ (∀ b o u,H' b o = some u → H b o = none → w.heap.size ≤ b) ∧ Ext H' w' ∧ Rep H' rho0 res v ∧ Bel w.heap.size w w'
def NSpec (P : Program) (f : FuncId) (args : List AV) (mk : Nat → AV) (c : Ct) : Prop :=
 Ent P f ∧ ∀ (H : Heap) (w : World) (vs : List Value),Ext H w → RepL H rho0 args vs → Calls P f vs.toArray w fun e w' =>
  ∃ H' v b cap,e = .returned v ∧ H.le H' ∧ (∀ b o u,H' b o = some u → H b o = none → w.heap.size ≤ b) ∧ Ext H' w' ∧ (∀ (G : Heap) (ρ : Rho) (d : Nat),ρ d = .at b cap → Rep G ρ (mk d) v) ∧ (∀ ρ,CtRep H' ρ w' (.at b cap) c) ∧
    w.heap.size ≤ b ∧ b < w'.heap.size ∧ (∀ o,H' b o = none) ∧ Bel w.heap.size w w'
def MSpec (P : Program) (f : FuncId) (args : List AV) (bx : List (Nat × Ct)) (R : AV → (Nat → Option Ct) → Prop) : Prop :=
 Ent P f ∧ ∀ (H : Heap) (ρ : Rho) (w : World) (vs : List Value),Ext H w → Boxes H ρ (lk bx) w (fun _=>True) → RepL H ρ args vs → Calls P f vs.toArray w fun e w' =>
  ∃ H' ρ' res bf' v,e = .returned v ∧ R res bf' ∧ H.le H' ∧ (∀ b o u,H' b o = some u → H b o = none → w.heap.size ≤ b ∨ OwnB ρ (lk bx) b) ∧ Ext H' w' ∧
    Boxes H' ρ' bf' w' (fun b=>w.heap.size ≤ b ∨ OwnB ρ (lk bx) b) ∧ Rep H' ρ' res v ∧ FrameBut (OwnB ρ (lk bx)) w w' ∧ (∀ i,1000000 ≤ i → i < 2000000 → ρ' i = ρ i)
inductive AExit where
 |normal
 |ret
 |exit (id : Nat)
def post (E : Env) (Q : AExit → AState → Prop) : Exit → Act → World → Prop
 |.normal,a,w=>∃ s H ρ,Q .normal s ∧ Sim E H ρ s.slot s.box a w
 |.ret,a,w=>∃ s H ρ,Q .ret s ∧ Sim E H ρ s.slot s.box a w
 |.exit id,a,w=>∃ s H ρ,Q (.exit id) s ∧ Sim E H ρ s.slot s.box a w
 |_,_,_=>False
def AW (P : Program) (E : Env) (c : Code) (s : AState) (Q : AExit → AState → Prop) : Prop :=
 ∀ H ρ a w,Sim E H ρ s.slot s.box a w → c.wpIn E.fence 0 P (post E Q) a w
def thenK (K : AState → Prop) (Q : AExit → AState → Prop) : AExit → AState → Prop
 |.normal,s=>K s
 |e,s=>Q e s
def inBlk (id : Nat) (Q : AExit → AState → Prop) : AExit → AState → Prop
 |.exit id',s=>if id' = id then Q .normal s else Q (.exit id') s
 |e,s=>Q e s
section
variable {P : Program} {E : Env} {s : AState} {Q : AExit → AState → Prop}
theorem not_letsOut {E : Env} {Q : AExit → AState → Prop} : ¬ LetsOut (post E Q):=by
 rintro ⟨a,w,h⟩
 exact h
theorem AW.mono {c : Code} {Q' : AExit → AState → Prop} (h : AW P E c s Q) (hq : ∀ e s,Q e s → Q' e s) : AW P E c s Q':=by
 intro H ρ a w hs
 refine wpIn_mono (h H ρ a w hs) ?_
 intro e a w h
 cases e <;> simp only [post] at h ⊢
 all_goals (obtain ⟨s,H,ρ,hq',h⟩:=h;exact ⟨s,H,ρ,hq _ _ hq',h⟩)
theorem AW_seq {x y : Code} (h : ∀ K : AState → Prop,(∀ s',AW P E y s' Q → K s') → AW P E x s (thenK K Q)) : AW P E (.seq x y) s Q:=by
 intro H ρ a w hs
 refine wpIn_seq (wpIn_mono (h (fun s'=>AW P E y s' Q) (fun _ h=>h) H ρ a w hs) ?_)
 intro e a w h
 cases e <;> simp only [post,Exit.then] at h ⊢
 ·obtain ⟨s',H',ρ',hk,hs'⟩:=h
  exact hk H' ρ' a w hs'
 all_goals exact h
theorem AW_skip (h : Q .normal s) : AW P E .skip s Q:=fun H ρ _ _ hs=>wpIn_skip ⟨s,H,ρ,h,hs⟩
theorem AW_exit {id : Nat} (h : Q (.exit id) s) : AW P E (.exit id) s Q:=fun H ρ _ _ hs=>wpIn_exit ⟨s,H,ρ,h,hs⟩
theorem AW_ret (h : Q .ret s) : AW P E .ret s Q:=fun H ρ _ _ hs=>wpIn_ret ⟨s,H,ρ,h,hs⟩
theorem AW_block {id : Nat} {c : Code} (h : AW P E c s (inBlk id Q)) : AW P E (.block id c) s Q:=by
 intro H ρ a w hs
 refine wpIn_block (wpIn_mono (h H ρ a w hs) ?_)
 intro e a w h
 cases e <;> simp only [post,Exit.inBlock] at h ⊢
 ·exact h
 ·rename_i id'
  obtain ⟨s',H',ρ',hq,hs'⟩:=h
  simp only [inBlk] at hq
  split
  ·rename_i e;rw [if_pos e] at hq;exact ⟨s',H',ρ',hq,hs'⟩
  ·rename_i e;rw [if_neg e] at hq;exact ⟨s',H',ρ',hq,hs'⟩
 all_goals exact h
theorem Rep.v_inv {H : Heap} {ρ : Rho} {x v : Value} (h : Rep H ρ (.v x) v) : v = x:=by cases h;rfl
theorem AW_cond {c : Operand} {x y : Code} {t : Bool} (hc : s.eval c = .v (.bool t)) (hx : t = true → AW P E x s Q) (hy : t = false → AW P E y s Q) : AW P E (.cond c x y) s Q:=by
 intro H ρ a w hs
 have he:=hs.eval c
 unfold AState.eval at hc
 rw [hc] at he
 exact wpIn_cond_split he.v_inv (fun e=>hx e H ρ a w hs) (fun e=>hy e H ρ a w hs)
def leS (s : AState) : List (Nat × AV) → Prop
 |[]=>True
 |(i,x) :: l=>s.slot i = x ∧ leS s l
def leC (x : Option Ct) (c : Ct) : Prop:=x = some c ∨ ∃ es st,x = some (.map es st) ∧ c = .map es none
def leB (s : AState) : List (Nat × Ct) → Prop
 |[]=>True
 |(i,c) :: l=>leC (s.box i) c ∧ leB s l
def AState.le (s t : AState) : Prop:=leS s t.s ∧ leB s t.b
theorem leS_lk {s : AState} : ∀ {l : List (Nat × AV)} {i : Nat} {x : AV},leS s l → lk l i = some x → s.slot i = x
 |[],_,_,_,h=>by simp [lk] at h
 |(j,y) :: l,i,x,hl,h=>by
  simp only [lk] at h
  split at h
  ·rename_i e;subst e;cases h;exact hl.1
  ·exact leS_lk hl.2 h
theorem leB_lk {s : AState} : ∀ {l : List (Nat × Ct)} {i : Nat} {x : Ct},leB s l → lk l i = some x → leC (s.box i) x
 |[],_,_,_,h=>by simp [lk] at h
 |(j,y) :: l,i,x,hl,h=>by
  simp only [lk] at h
  split at h
  ·rename_i e;subst e;cases h;exact hl.1
  ·exact leB_lk hl.2 h
theorem CtRep.forget {H : Heap} {ρ : Rho} {w : World} {bd : Bd} {es : List (AV × AV)} {st : Option (List Nat × Nat)} (h : CtRep H ρ w bd (.map es st)) : CtRep H ρ w bd (.map es none):=by
 obtain ⟨b,cap,ents,clock,h1,h2,h3,h4,h5,h6,_⟩:=h
 exact ⟨b,cap,ents,clock,h1,h2,h3,h4,h5,h6,fun _ _ e=>by cases e⟩
theorem Sim.weaken {H : Heap} {ρ : Rho} {sf sf' : Nat → AV} {bf bf' : Nat → Option Ct} {a : Act} {w : World} (h : Sim E H ρ sf bf a w)
 (hs : ∀ i,sf' i = .u ∨ sf' i = sf i) (hb : ∀ i c,bf' i = some c → leC (bf i) c) : Sim E H ρ sf' bf' a w :=
 ⟨h.ext,fun i=>by rcases hs i with e|e <;> rw [e];exact .u;exact h.slots i,h.size,h.defers,
  ⟨fun id c hc=>(by
    rcases hb id c hc with e|⟨es,st,e,rfl⟩
    ·exact h.boxes.rep id c e
    ·exact (h.boxes.rep id _ e).forget),
   fun id c b cap hc=>(by
    rcases hb id c hc with e|⟨es,st,e,rfl⟩ <;> exact h.boxes.apart id _ b cap e),
   fun id id' c c' b cap cap' hc hc'=>(by
    rcases hb id c hc with e|⟨es,st,e,rfl⟩ <;> rcases hb id' c' hc' with e'|⟨es',st',e',rfl⟩ <;> exact h.boxes.inj id id' _ _ b cap cap' e e')⟩,
  h.h0,h.new,h.frame,h.keep,h.nle⟩
theorem Sim.le {H : Heap} {ρ : Rho} {s t : AState} {a : Act} {w : World} (h : Sim E H ρ s.slot s.box a w) (hl : s.le t) : Sim E H ρ t.slot t.box a w :=
 h.weaken (fun i=>by
  unfold AState.slot
  cases hx : lk t.s i with
  |none=>left;rfl
  |some x=>right;have:=leS_lk hl.1 hx;unfold AState.slot at this;simp [this]) (fun i c hc=>leB_lk hl.2 hc)
theorem AW_le {c : Code} {t : AState} (hl : s.le t) (h : AW P E c t Q) : AW P E c s Q:=fun H ρ a w hs=>h H ρ a w (hs.le hl)
theorem wpIn_loop_g {F : Fence} {rm : Nat} {Q : Exit → Act → World → Prop} {a : Act} {w : World} {c : Code} (I : Nat → Act → World → Prop) (n₀ : Nat) (h₀ : I n₀ a w)
 (round : ∀ n a w,I n a w → c.wpIn F rm P (Exit.then (fun a' w'=>∃ n',n' < n ∧ I n' a' w') Q) a w) : (Code.loop c).wpIn F rm P Q a w:=by
 refine wpIn_loop (fun a w=>∃ n,I n a w) (fun a w=>leastOf (fun n=>I n a w)) ⟨n₀,h₀⟩ ?_
 intro a w hI
 refine wpIn_mono (round _ a w (leastOf_spec hI).1) ?_
 intro e a' w' hq
 cases e with
 |normal =>
  obtain ⟨n',hlt,hI'⟩:=hq
  exact show (∃ n,I n a' w') ∧ leastOf (fun n=>I n a' w') < leastOf (fun n=>I n a w) from ⟨⟨n',hI'⟩,Nat.lt_of_le_of_lt ((leastOf_spec ⟨n',hI'⟩).2 n' hI') hlt⟩
 |exit id=>exact hq
 |goto l=>exact hq
 |ret=>exact hq
 |panic ch=>exact hq
 |outgrown=>exact hq
theorem AW_loop {G : Type} {c : Code} (I : G → AState) (ok : G → Prop) (μ : G → Nat) (g0 : G) (h0 : ok g0) (hl : s.le (I g0))
 (round : ∀ g,ok g → AW P E c (I g) (thenK (fun s'=>∃ g',ok g' ∧ μ g' < μ g ∧ s'.le (I g')) Q)) : AW P E (.loop c) s Q:=by
 intro H ρ a w hs
 refine wpIn_loop_g (fun n a w=>∃ g H ρ,μ g = n ∧ ok g ∧ Sim E H ρ (I g).slot (I g).box a w) (μ g0) ⟨g0,H,ρ,rfl,h0,hs.le hl⟩ ?_
 rintro n a w ⟨g,H,ρ,rfl,hg,hs⟩
 refine wpIn_mono (round g hg H ρ a w hs) ?_
 intro e a' w' hp
 cases e <;> simp only [post,Exit.then] at hp ⊢
 ·obtain ⟨s',H',ρ',⟨g',hg',hlt,hle⟩,hs'⟩:=hp
  exact ⟨μ g',hlt,g',H',ρ',rfl,hg',hs'.le hle⟩
 all_goals exact hp
end
end Go.Am
end
section
namespace Go.Am
open Go.RowKit
def okT (P : Program) (T : TypeId) : Bool:=(P.underlying T).isSome
def aggB (P : Program) (T : TypeId) : Bool:=match P.underlying T with|some (.struct _)|some (.array _ _)=>true|_=>false
def zeroAV (P : Program) (T : TypeId) : Option AV:=((P.info? T).bind (·.zero)).map ofVal
theorem info_of_okT {P : Program} {T : TypeId} (h : okT P T = true) : ∃ i,P.info? T = some i:=by
 unfold okT Program.underlying at h
 cases hi : P.info? T with
 |none=>rw [hi] at h;simp at h
 |some i=>exact ⟨i,rfl⟩
theorem run_isAgg' {P : Program} {T : TypeId} (h : okT P T = true) (w : World) : (isAgg T).run P w = .ok (aggB P T) w:=by
 unfold okT at h
 obtain ⟨d,hd⟩:=Option.isSome_iff_exists.1 h
 unfold aggB
 rw [hd]
 cases d <;> simp [isAgg,run_underlying hd]
theorem run_sizeOf' {P : Program} {T : TypeId} (h : okT P T = true) (w : World) : (sizeOf T).run P w = .ok (P.cellsOf T) w:=by
 obtain ⟨i,hi⟩:=info_of_okT h
 simp [sizeOf,typeInfo,hi,Program.cellsOf]
def AV.isSt : AV → Bool|.st _=>true|_=>false
def AV.part (x : AV) (off n : Nat) (agg : Bool) : AV:=if agg then .st ((x.cells.drop off).take n) else (x.cells.drop off).headD .u
def aload (x : AV) (off n : Nat) (agg : Bool) : AV:=if off = 0 ∧ x.cells.length = n ∧ x.isSt = agg then x else x.part off n agg
theorem RepL.drop {H : Heap} {ρ : Rho} {cs : List AV} {vs : List Value} (h : RepL H ρ cs vs) (n : Nat) : RepL H ρ (cs.drop n) (vs.drop n) :=
 ⟨by simp [h.1],fun i c u hc hu=>h.2 (n + i) c u (by simpa [List.getElem?_drop] using hc) (by simpa [List.getElem?_drop] using hu)⟩
theorem RepL.take {H : Heap} {ρ : Rho} {cs : List AV} {vs : List Value} (h : RepL H ρ cs vs) (n : Nat) : RepL H ρ (cs.take n) (vs.take n):=by
 refine ⟨by simp [h.1],fun i c u hc hu=>?_⟩
 rw [List.getElem?_take] at hc hu
 split at hc
 ·rename_i hi;rw [if_pos hi] at hu;exact h.2 i c u hc hu
 ·cases hc
theorem RepL.append {H : Heap} {ρ : Rho} {cs ds : List AV} {vs us : List Value} (h : RepL H ρ cs vs) (h' : RepL H ρ ds us) : RepL H ρ (cs ++ ds) (vs ++ us):=by
 refine ⟨by simp [h.1,h'.1],fun i c u hc hu=>?_⟩
 by_cases hi : i < cs.length
 ·rw [List.getElem?_append_left hi] at hc
  rw [List.getElem?_append_left (h.1 ▸ hi)] at hu
  exact h.2 i c u hc hu
 ·rw [List.getElem?_append_right (by omega)] at hc
  rw [List.getElem?_append_right (by have:=h.1;omega)] at hu
  rw [← h.1] at hu
  exact h'.2 _ c u hc hu
theorem mem_drop_take {α : Type} {l : List α} {n m : Nat} {x : α} (h : x ∈ (l.drop n).take m) : x ∈ l:=List.mem_of_mem_drop (List.mem_of_mem_take h)
theorem Rep.st' {H : Heap} {ρ : Rho} {cs : List AV} {vs : List Value} (h : RepL H ρ cs vs) (h1 : ∀ c ∈ cs,c.one = true) : Rep H ρ (.st cs) (.agg vs.toArray):=.st h.1 h1 h.2
theorem part_rep {H : Heap} {ρ : Rho} {x : AV} {vs : List Value} {off n : Nat} {agg : Bool} (h : RepL H ρ x.cells vs) (h1 : oneAll x) (hn : off + n ≤ x.cells.length) (ha : agg = true ∨ n = 1) :
 Rep H ρ (x.part off n agg) (if agg then .agg ((vs.drop off).take n).toArray else (vs.drop off).headD undef):=by
 cases agg with
 |true=>simp only [AV.part,if_true];exact Rep.st' ((h.drop off).take n) (fun c hc=>h1 c (mem_drop_take hc))
 |false =>
  simp only [AV.part,Bool.false_eq_true,if_false]
  have hn1 : n = 1:=by simpa using ha
  have hd:=h.drop off
  have hlt : off < x.cells.length:=by omega
  cases hx : x.cells.drop off with
  |nil=>have:=congrArg List.length hx;simp at this;omega
  |cons c cs =>
   rw [hx] at hd
   obtain ⟨u,us,hu,hr,_⟩:=hd.cons_inv
   rw [hu]
   exact hr
theorem aload_rep {H : Heap} {ρ : Rho} {x : AV} {vs : List Value} {off n : Nat} {agg : Bool} (h : RepL H ρ x.cells vs) (h1 : oneAll x) (hn : off + n ≤ x.cells.length) (ha : agg = true ∨ n = 1) :
 Rep H ρ (aload x off n agg) (if agg then .agg ((vs.drop off).take n).toArray else (vs.drop off).headD undef):=by
 unfold aload
 split
 ·rename_i hc
  obtain ⟨rfl,hl,hs⟩:=hc
  have hp:=part_rep h h1 hn ha
  have : x.part 0 n agg = x:=by
   cases agg with
   |true =>
    cases x with
    |st cs=>simp only [AV.part,if_true,AV.cells,List.drop_zero];rw [List.take_of_length_le (by simp only [AV.cells] at hl;omega)]
    |_=>simp [AV.isSt] at hs
   |false =>
    have hx1 : n = 1:=by simpa using ha
    cases x with
    |st cs=>simp [AV.isSt] at hs
    |_=>rfl
  rw [this] at hp
  exact hp
 ·exact part_rep h h1 hn ha
theorem Addr.add_mk (b o n : Nat) : (⟨b,o,none⟩ : Addr).add n = ⟨b,o + n,none⟩:=by
 unfold Addr.add;split <;> simp_all
theorem run_loadVar' {P : Program} {w : World} {T : TypeId} {b o : Nat} {vs : List Value} (hT : okT P T = true) (hl : vs.length = P.cellsOf T) (h1 : aggB P T = true ∨ P.cellsOf T = 1)
 (hc : ∀ j v,vs[j]? = some v → w.cell? ⟨b,o + j,none⟩ = some v) :
 (loadVar T ⟨b,o,none⟩).run P w = .ok (if aggB P T then .agg vs.toArray else vs.headD undef) w:=by
 unfold loadVar
 simp only [Sem.run_bind,run_isAgg' hT,Result.andThen_ok]
 cases ha : aggB P T with
 |true =>
  have hcl : (loadCells ⟨b,o,none⟩ (P.cellsOf T)).run P w = .ok vs.toArray w:=by
   rw [← hl]
   exact run_loadCells_list w ⟨b,o,none⟩ vs (fun j v hj=>by rw [Addr.add_mk];exact hc j v hj)
  simp [run_sizeOf' hT,hcl]
 |false =>
  have hn1 : P.cellsOf T = 1:=by simpa [ha] using h1
  rw [hn1] at hl
  match vs,hl with
  |[v],_ =>
   have:=hc 0 v (by simp)
   simp only [Nat.add_zero] at this
   simp [this]
def NewBox (d : Option Tmp) (H' : Heap) (ρ ρ' : Rho) (w w' : World) : Option Ct → Prop
 |none=>ρ' = ρ
 |some c=>∃ t b cap,d = some t ∧ ρ' = ρ.upd t (.at b cap) ∧ w.heap.size ≤ b ∧ b < w'.heap.size ∧ (∀ i,H' b i = none) ∧ CtRep H' ρ' w' (.at b cap) c
def QPost (o : Oper) (a : Act) (w : World) (H : Heap) (ρ : Rho) (k : AV → Option Ct → Prop) (a' : Act) (w' : World) : Prop :=
 ∃ x n H' ρ' u,k x n ∧ a' = a.put o.dst u ∧ H.le H' ∧ (∀ b i v,H' b i = some v → H b i = none → w.heap.size ≤ b) ∧ Ext H' w' ∧ Rep H' ρ' x u ∧ Bel w.heap.size w w' ∧ NewBox o.dst H' ρ ρ' w w' n
theorem q_val {P : Program} {o : Oper} {a : Act} {w : World} {H : Heap} {ρ : Rho} {k : AV → Option Ct → Prop} {Q : Exit → Act → World → Prop} {u : Value} {x : AV}
 (hrun : (execOp a.eval o).run P w = .ok (.value u) w) (hr : Rep H ρ x u) (he : Ext H w) (hk : k x none) : o.wp P a w (QPost o a w H ρ k) Q:=by
 unfold Oper.wp
 rw [hrun]
 exact ⟨x,none,H,ρ,u,hk,rfl,H.le_refl,fun b i v h h'=>by rw [h'] at h;(first|(cases h;done)|(simp at h)),he,hr,Bel.refl _ _,rfl⟩
theorem q_new {P : Program} {o : Oper} {a : Act} {w : World} {H : Heap} {ρ : Rho} {k : AV → Option Ct → Prop} {Q : Exit → Act → World → Prop} {u : Value} {x : AV} {c : Ct} {obj : Obj} {d cap : Nat}
 (hd : o.dst = some d) (hrun : (execOp a.eval o).run P w = .ok (.value u) (w.alloc obj)) (hr : Rep H (ρ.upd d (.at w.heap.size cap)) x u) (he : Ext H w)
 (hc : CtRep H (ρ.upd d (.at w.heap.size cap)) (w.alloc obj) (.at w.heap.size cap) c) (hk : k x (some c)) : o.wp P a w (QPost o a w H ρ k) Q:=by
 unfold Oper.wp
 rw [hrun]
 have hno : ∀ i,H w.heap.size i = none:=by
  intro i
  cases h : H w.heap.size i with
  |none=>rfl
  |some v=>have:=World.block_lt_of_cell? w _ (he _ _ _ h);simp at this
 refine ⟨x,some c,H,_,u,hk,rfl,H.le_refl,fun b i v h h'=>by rw [h'] at h;simp at h,?_,hr,(Bel.refl _ _).alloc (Nat.le_refl _) _,d,w.heap.size,cap,hd,rfl,Nat.le_refl _,by simp,hno,hc⟩
 intro b i v h
 have h0:=he b i v h
 rw [World.cell?_alloc_lt _ _ _ (World.block_lt_of_cell? w _ h0)]
 exact h0
theorem Ext.of_below {H : Heap} {w w' : World} (h : Ext H w) (hb : Bel w.heap.size w w') : Ext H w':=by
 intro b o v hv
 have h0:=h b o v hv
 rw [hb.cell (p:=⟨b,o,none⟩) (World.block_lt_of_cell? w _ h0)]
 exact h0
theorem Rep.upd {H : Heap} {ρ : Rho} {d : Nat} {x : AV} {v : Value} {bd : Bd} (h : Rep H ρ x v) (hm : x.ment d = false) : Rep H (ρ.upd d bd) x v :=
 h.rho (fun i hi=>by unfold Rho.upd;split;(rename_i e;subst e;rw [hm] at hi;cases hi);rfl)
theorem RepL.upd {H : Heap} {ρ : Rho} {d : Nat} {cs : List AV} {vs : List Value} {bd : Bd} (h : RepL H ρ cs vs) (hm : mentL d cs = false) : RepL H (ρ.upd d bd) cs vs :=
 h.rho (fun i hi=>by unfold Rho.upd;split;(rename_i e;subst e;rw [hm] at hi;cases hi);rfl)
theorem Rho.upd_same (ρ : Rho) (d : Nat) (x : Bd) : (ρ.upd d x) d = x:=by simp [Rho.upd]
theorem mentL_of_cells {d : Nat} {x : AV} (h : x.ment d = false) : mentL d x.cells = false:=by
 cases hm : mentL d x.cells with
 |false=>rfl
 |true=>rw [mentL_cells hm] at h;cases h
end Go.Am
end
section
namespace Go.Am
open Go.RowKit
inductive SK where
 |b|i|s
 deriving DecidableEq
def kindsF (g : TypeId → Option (List SK)) (sz : TypeId → Nat) : List Field → Nat → Option (List SK)
 |[],_=>some []
 |f :: fs,off =>
  if f.name == "_" || f.offset != off then none
  else match g f.type with
   |some a=>if a.length = sz f.type then (kindsF g sz fs (off + sz f.type)).map (a ++ ·) else none
   |none=>none
def kinds (P : Program) : Nat → TypeId → Option (List SK)
 |0,_=>none
 |d + 1,T =>
  match P.underlying T with
  |some .bool=>some [.b]
  |some (.int _)=>some [.i]
  |some .string=>some [.s]
  |some (.struct fs)=>if P.stoodInHeld T then none else kindsF (kinds P d) P.cellsOf fs.toList 0
  |_=>none
def eq1 : SK → Value → Value → Option Bool
 |.b,.bool a,.bool b=>some (a == b)
 |.i,.int k a,.int k' b=>if k = k' then some (decide (a = b)) else none
 |.s,.string a,.string b=>some (decide (a = b))
 |_,_,_=>none
def eqCells : List SK → List Value → List Value → Option Bool
 |[],[],[]=>some true
 |k :: ks,x :: xs,y :: ys=>match eq1 k x y with
  |some a=>(eqCells ks xs ys).map (a && ·)
  |none=>none
 |_,_,_=>none
theorem eqCells_len : ∀ {ks : List SK} {xs ys : List Value} {r : Bool},eqCells ks xs ys = some r → xs.length = ks.length ∧ ys.length = ks.length
 |[],[],[],_,_=>⟨rfl,rfl⟩
 |[],[],_ :: _,_,h=>by simp [eqCells] at h
 |[],_ :: _,_,_,h=>by simp [eqCells] at h
 |_ :: _,[],_,_,h=>by simp [eqCells] at h
 |_ :: _,_ :: _,[],_,h=>by simp [eqCells] at h
 |k :: ks,x :: xs,y :: ys,r,h=>by
  simp only [eqCells] at h
  split at h
  ·cases hr : eqCells ks xs ys with
   |none=>rw [hr] at h;simp at h
   |some r'=>have:=eqCells_len hr;simp [this.1,this.2]
  ·cases h
theorem eqCells_append : ∀ {a b : List SK} {xs ys : List Value} {r : Bool},eqCells (a ++ b) xs ys = some r →
 ∃ r1 r2,eqCells a (xs.take a.length) (ys.take a.length) = some r1 ∧ eqCells b (xs.drop a.length) (ys.drop a.length) = some r2 ∧ r = (r1 && r2)
 |[],b,xs,ys,r,h=>⟨true,r,by simp [eqCells],by simpa using h,by simp⟩
 |k :: a,b,[],ys,r,h=>by simp [eqCells] at h
 |k :: a,b,x :: xs,[],r,h=>by simp [eqCells] at h
 |k :: a,b,x :: xs,y :: ys,r,h=>by
  simp only [List.cons_append,eqCells] at h
  split at h
  ·rename_i a1 he
   cases hr : eqCells (a ++ b) xs ys with
   |none=>rw [hr] at h;simp at h
   |some r' =>
    rw [hr] at h
    obtain ⟨r1,r2,h1,h2,h3⟩:=eqCells_append hr
    refine ⟨a1 && r1,r2,by simp [eqCells,he,h1],by simpa using h2,?_⟩
    simp at h
    rw [← h,h3,Bool.and_assoc]
  ·cases h
theorem ba_beq (a b : ByteArray) : (a == b) = decide (a = b):=by
 obtain ⟨⟨x⟩⟩:=a
 obtain ⟨⟨y⟩⟩:=b
 show ((⟨x⟩ : Array UInt8) == ⟨y⟩) = _
 rw [Bool.eq_iff_iff]
 simp
def valOf (P : Program) (T : TypeId) (xs : List Value) : Value:=if aggB P T then .agg xs.toArray else xs.headD undef
theorem run_part {P : Program} {w : World} {T : TypeId} {xs : List Value} {off : Nat} (hT : okT P T = true) (h1 : aggB P T = true ∨ P.cellsOf T = 1) (hl : off + P.cellsOf T ≤ xs.length) :
 (part T xs.toArray off).run P w = .ok (valOf P T ((xs.drop off).take (P.cellsOf T))) w:=by
 unfold part valOf
 simp only [Sem.run_bind,run_isAgg' hT,Result.andThen_ok]
 cases ha : aggB P T with
 |true =>
  simp only [if_true,Sem.run_bind,run_sizeOf' hT,Result.andThen_ok,Sem.run_pure]
  congr 2
  simp [List.extract_eq_take_drop]
 |false =>
  have hn1 : P.cellsOf T = 1:=by simpa [ha] using h1
  rw [hn1] at hl ⊢
  have hlt : off < xs.length:=by omega
  simp only [Bool.false_eq_true,if_false,List.getElem?_toArray,List.getElem?_eq_getElem hlt,Sem.run_pure]
  rw [List.drop_eq_getElem_cons hlt]
  rfl
theorem kinds_ok {P : Program} : ∀ {n : Nat} {T : TypeId} {ks : List SK},kinds P n T = some ks → okT P T = true
 |0,_,_,h=>by simp [kinds] at h
 |n + 1,T,ks,h=>by
  unfold okT
  simp only [kinds] at h
  cases hu : P.underlying T with
  |none=>rw [hu] at h;simp at h
  |some d=>rfl
theorem kinds_one {P : Program} {n : Nat} {T : TypeId} {ks : List SK} (h : kinds P n T = some ks) (hl : ks.length = P.cellsOf T) : aggB P T = true ∨ P.cellsOf T = 1:=by
 cases n with
 |zero=>simp [kinds] at h
 |succ n =>
  simp only [kinds] at h
  unfold aggB
  cases hu : P.underlying T with
  |none=>rw [hu] at h;simp at h
  |some d =>
   rw [hu] at h
   cases d <;> simp at h ⊢ <;> (subst h;simpa using hl.symm)
theorem run_equalIn_kinds {P : Program} : ∀ (n : Nat) (T : TypeId) (ks : List SK),kinds P n T = some ks → ∀ (d : Nat),n ≤ d → ∀ (xs ys : List Value) (r : Bool) (w : World),
 eqCells ks xs ys = some r → (Op.equalIn d T (valOf P T xs) (valOf P T ys)).run P w = .ok r w:=by
 intro n
 induction n with
 |zero=>intro T ks h;simp [kinds] at h
 |succ n ih =>
  intro T ks h d hd xs ys r w he
  obtain ⟨d,rfl⟩ : ∃ d',d = d' + 1:=⟨d - 1,by omega⟩
  simp only [kinds] at h
  cases hu : P.underlying T with
  |none=>rw [hu] at h;simp at h
  |some de =>
   rw [hu] at h
   have single : ∀ k : SK,ks = [k] → aggB P T = false → ∃ x y,xs = [x] ∧ ys = [y] ∧ eq1 k x y = some r ∧ valOf P T xs = x ∧ valOf P T ys = y:=by
    intro k hk ha
    subst hk
    obtain ⟨hx,hy⟩:=eqCells_len he
    match xs,ys,hx,hy with
    |[x],[y],_,_ =>
     refine ⟨x,y,rfl,rfl,?_,by simp [valOf,ha],by simp [valOf,ha]⟩
     simp only [eqCells] at he
     split at he
     ·rename_i a h1;simp at he;rw [h1,he]
     ·cases he
   cases de <;> simp only at h <;> try (cases h;done)
   case bool =>
    obtain ⟨x,y,_,_,h1,hx,hy⟩:=single .b (by simpa using h.symm) (by simp [aggB,hu])
    rw [hx,hy]
    cases x <;> cases y <;> simp [eq1] at h1
    subst h1
    exact run_equalIn_bool w d T _ _ hu
   case int k =>
    obtain ⟨x,y,_,_,h1,hx,hy⟩:=single .i (by simpa using h.symm) (by simp [aggB,hu])
    rw [hx,hy]
    cases x <;> cases y <;> simp only [eq1,reduceCtorEq] at h1
    split at h1
    ·rename_i e;subst e
     rw [run_equalIn_int w d T _ _ _ _ hu]
     simp at h1;rw [← h1]
     congr 1
    ·cases h1
   case string =>
    obtain ⟨x,y,_,_,h1,hx,hy⟩:=single .s (by simpa using h.symm) (by simp [aggB,hu])
    rw [hx,hy]
    cases x <;> cases y <;> simp only [eq1,reduceCtorEq] at h1
    rw [run_equalIn_string w d T _ _ hu,← beq_toListBytes]
    simp at h1;rw [← h1]
    rw [ba_beq]
   case struct fs =>
    split at h
    ·cases h
    ·rename_i hs
     have ha : aggB P T = true:=by simp [aggB,hu]
     have hf : P.fieldsOf T = fs:=by simp [Program.fieldsOf,hu]
     simp only [valOf,ha,if_true]
     rw [run_equalIn_struct w d T _ _ (by rw [hf];exact hu) (by simpa using hs),hf]
     have key : ∀ (l : List Field) (off : Nat) (ks : List SK) (r : Bool),kindsF (kinds P n) P.cellsOf l off = some ks → off + ks.length = xs.length → off + ks.length = ys.length →
      eqCells ks (xs.drop off) (ys.drop off) = some r → (Op.eqFields d xs.toArray ys.toArray l).run P w = .ok r w:=by
      intro l
      induction l with
      |nil =>
       intro off ks r hk hx hy he
       simp only [kindsF,Option.some.injEq] at hk
       subst hk
       have h1 : xs.drop off = []:=by simp at hx;simp [hx]
       have h2 : ys.drop off = []:=by simp at hy;simp [hy]
       rw [h1,h2] at he
       simp [eqCells] at he
       subst he
       simp [Op.eqFields]
      |cons f l ihl =>
       intro off ks r hk hx hy he
       simp only [kindsF] at hk
       split at hk
       ·cases hk
       ·rename_i hno
        simp only [Bool.or_eq_true,beq_iff_eq,bne_iff_ne,ne_eq,not_or,Decidable.not_not] at hno
        obtain ⟨hname,hoff⟩:=hno
        split at hk
        ·rename_i a hka
         split at hk
         ·rename_i hal
          cases hr : kindsF (kinds P n) P.cellsOf l (off + P.cellsOf f.type) with
          |none=>rw [hr] at hk;simp at hk
          |some b =>
           rw [hr] at hk
           simp at hk
           subst hk
           obtain ⟨r1,r2,h1,h2,h3⟩:=eqCells_append he
           have hok:=kinds_ok hka
           have hone:=kinds_one hka hal
           simp only [List.length_append] at hx hy
           have p1:=run_part (P:=P) (w:=w) (xs:=xs) (off:=off) hok hone (by omega)
           have p2:=run_part (P:=P) (w:=w) (xs:=ys) (off:=off) hok hone (by omega)
           have e1:=ih f.type a hka d (by omega) _ _ r1 w h1
           rw [hal] at e1 h2
           simp only [Op.eqFields,hname,ne_eq,not_false_eq_true,if_true,Sem.run_bind,hoff,p1,p2,e1,Result.andThen_ok]
           have e2:=ihl (off + P.cellsOf f.type) b r2 hr (by omega) (by omega) (by simpa [List.drop_drop] using h2)
           subst h3
           cases r1 <;> simp [e2]
         ·cases hk
        ·cases hk
     have hl:=eqCells_len he
     exact key fs.toList 0 ks r h (by omega) (by omega) (by simpa using he)
end Go.Am
end
section
namespace Go.Am
open Go.RowKit
def eqA1 : SK → AV → AV → Option Bool
 |.b,.v (.bool a),.v (.bool b)=>some (a == b)
 |.i,.v (.int k a),.v (.int k' b)=>if k = k' then some (decide (a = b)) else none
 |.s,.v (.string a),.v (.string b)=>some (decide (a = b))
 |_,_,_=>none
def eqA : List SK → List AV → List AV → Option Bool
 |[],[],[]=>some true
 |k :: ks,x :: xs,y :: ys=>match eqA1 k x y with
  |some a=>(eqA ks xs ys).map (a && ·)
  |none=>none
 |_,_,_=>none
theorem eqA1_rep {H : Heap} {ρ : Rho} {k : SK} {x y : AV} {u v : Value} {r : Bool} (hx : Rep H ρ x u) (hy : Rep H ρ y v) (h : eqA1 k x y = some r) : eq1 k u v = some r:=by
 unfold eqA1 at h
 split at h
 ·rw [hx.v_inv,hy.v_inv];exact h
 ·rw [hx.v_inv,hy.v_inv];exact h
 ·rw [hx.v_inv,hy.v_inv];exact h
 ·cases h
theorem eqA_rep {H : Heap} {ρ : Rho} : ∀ {ks : List SK} {cs ds : List AV} {vs us : List Value} {r : Bool},RepL H ρ cs vs → RepL H ρ ds us → eqA ks cs ds = some r → eqCells ks vs us = some r
 |[],[],[],vs,us,r,hv,hu,h=>by
  rw [hv.nil_inv,hu.nil_inv];simpa [eqA,eqCells] using h
 |[],[],_ :: _,_,_,_,_,_,h=>by simp [eqA] at h
 |[],_ :: _,_,_,_,_,_,_,h=>by simp [eqA] at h
 |_ :: _,[],_,_,_,_,_,_,h=>by simp [eqA] at h
 |_ :: _,_ :: _,[],_,_,_,_,_,h=>by simp [eqA] at h
 |k :: ks,x :: cs,y :: ds,vs,us,r,hv,hu,h=>by
  obtain ⟨v,vs',rfl,hv1,hv2⟩:=hv.cons_inv
  obtain ⟨u,us',rfl,hu1,hu2⟩:=hu.cons_inv
  simp only [eqA] at h
  split at h
  ·rename_i a ha
   cases hr : eqA ks cs ds with
   |none=>rw [hr] at h;simp at h
   |some r' =>
    rw [hr] at h
    simp only [eqCells,eqA1_rep hv1 hu1 ha,eqA_rep hv2 hu2 hr]
    exact h
  ·cases h
def arith (k : IntKind) (n : Int) (cont : AV → Prop) : Prop :=
 if k.signed then (k.min ≤ n ∧ n ≤ k.max) ∧ cont (.v (.int k n)) else cont (.v (.int k (k.wrap n)))
theorem wrap_in (k : IntKind) {n : Int} (h1 : k.min ≤ n) (h2 : n ≤ k.max) : k.wrap n = n:=by
 cases k <;> simp only [IntKind.min,IntKind.max,IntKind.wrap,IntKind.signed,IntKind.bits] at * <;> simp at * <;> (try split) <;> omega
theorem arith_sound {k : IntKind} {n : Int} {cont : AV → Prop} (h : arith k n cont) : cont (.v (.int k (k.wrap n))):=by
 unfold arith at h
 split at h
 ·rw [wrap_in k h.1.1 h.1.2];exact h.2
 ·exact h
def bitsV (op : BinOp) (k : IntKind) (a b : Int) : Int :=
 match op with
 |.and=>k.wrap (BitVec.ofInt k.bits a &&& BitVec.ofInt k.bits b).toNat
 |.or=>k.wrap (BitVec.ofInt k.bits a ||| BitVec.ofInt k.bits b).toNat
 |.xor=>k.wrap (BitVec.ofInt k.bits a ^^^ BitVec.ofInt k.bits b).toNat
 |_=>k.wrap (BitVec.ofInt k.bits a &&& ~~~ BitVec.ofInt k.bits b).toNat
def binInt (op : BinOp) (k : IntKind) (a b : Int) (cont : AV → Prop) : Prop :=
 match op with
 |.add=>arith k (a + b) cont
 |.sub=>arith k (a - b) cont
 |.mul=>arith k (a * b) cont
 |.quo=>b ≠ 0 ∧ arith k (a.tdiv b) cont
 |.rem=>b ≠ 0 ∧ cont (.v (.int k (a.tmod b)))
 |.eql=>cont (.v (.bool (decide (a = b))))
 |.neq=>cont (.v (.bool (!decide (a = b))))
 |.lss=>cont (.v (.bool (decide (a < b))))
 |.leq=>cont (.v (.bool (decide (a ≤ b))))
 |.gtr=>cont (.v (.bool (decide (b < a))))
 |.geq=>cont (.v (.bool (decide (b ≤ a))))
 |.and=>cont (.v (.int k (bitsV .and k a b)))
 |.or=>cont (.v (.int k (bitsV .or k a b)))
 |.xor=>cont (.v (.int k (bitsV .xor k a b)))
 |.andNot=>cont (.v (.int k (bitsV .andNot k a b)))
 |.shl|.shr=>False
def shiftInt (op : BinOp) (k : IntKind) (a b : Int) (cont : AV → Prop) : Prop :=
 0 ≤ b ∧ match op with
 |.shl=>arith k (a * 2 ^ (min b.toNat k.bits)) cont
 |.shr=>cont (.v (.int k (a.fdiv (2 ^ (min b.toNat k.bits)))))
 |_=>False
def BinOp.isShift : BinOp → Bool|.shl|.shr=>true|_=>false
def strOp (op : BinOp) (a b : ByteArray) (cont : AV → Prop) : Prop :=
 match op with
 |.add=>a.size + b.size ≤ 9223372036854775807 ∧ cont (.v (.string (a ++ b)))
 |.eql=>cont (.v (.bool (decide (a = b))))
 |.neq=>cont (.v (.bool (!decide (a = b))))
 |.lss=>cont (.v (.bool (Op.bytesLess a.toList b.toList)))
 |.leq=>cont (.v (.bool (Op.bytesLess a.toList b.toList || decide (a = b))))
 |.gtr=>cont (.v (.bool (!(Op.bytesLess a.toList b.toList || decide (a = b)))))
 |.geq=>cont (.v (.bool (!Op.bytesLess a.toList b.toList)))
 |_=>False
def nilP : AV → Option Bool
 |.v (.pointer none)=>some true
 |.ep _=>some false
 |.loc _ _=>some false
 |.eloc _ _ _ _=>some false
 |_=>none
def nilM : AV → Option Bool
 |.v (.map none)=>some true
 |.mp _=>some false
 |_=>none
def nilF : AV → Option Bool
 |.v .nilFunc=>some true
 |.fn _ _ _=>some false
 |_=>none
def nilI : AV → Option Bool
 |.v .nilIface=>some true
 |.ifc _ _=>some false
 |_=>none
def eqKinds (P : Program) (T : TypeId) : Option (List SK):=kinds P 12 T
def nilCmp (P : Program) (T : TypeId) (x y : AV) (xc yc : Bool) (cont : Bool → Prop) : Prop :=
 match P.underlying T with
 |some (.pointer _)=>(match nilP x,nilP y with|some a,some b=>(a = true ∨ b = true) ∧ cont (a && b)|_,_=>False)
 |some (.map _ _)=>(match nilM x,nilM y with|some a,some b=>(a = true ∨ b = true) ∧ cont (a && b)|_,_=>False)
 |some (.func _ _ _)=>(match nilF x,nilF y with|some a,some b=>(a = true ∨ b = true) ∧ cont (a && b)|_,_=>False)
 |some (.interface _)=>(match nilI x,nilI y with|some a,some b=>(a = true ∨ b = true) ∧ (a = true → b = true → (xc || yc) = true) ∧ cont (a && b)|_,_=>False)
 |_=>False
def qbin (P : Program) (op : BinOp) (T : TypeId) (x y : AV) (xc yc : Bool) (cont : AV → Prop) : Prop :=
 match x,y with
 |.v (.int k a),.v (.int k' b)=>if BinOp.isShift op then shiftInt op k a b cont else k = k' ∧ binInt op k a b cont
 |.v (.string a),.v (.string b)=>strOp op a b cont
 |.v (.bool a),.v (.bool b)=>P.underlying T = some .bool ∧ match op with
  |.eql=>cont (.v (.bool (a == b)))
  |.neq=>cont (.v (.bool (!(a == b))))
  |_=>False
 |.st xs,.st ys=>aggB P T = true ∧ P.eqGuardType P.depth T = false ∧ match eqKinds P T with
  |some ks=>(match eqA ks xs ys with
   |some r=>(match op with
    |.eql=>cont (.v (.bool r))
    |.neq=>cont (.v (.bool (!r)))
    |_=>False)
   |none=>False)
  |none=>False
 |x,y=>match op with
  |.eql=>nilCmp P T x y xc yc (fun r=>cont (.v (.bool r)))
  |.neq=>nilCmp P T x y xc yc (fun r=>cont (.v (.bool (!r))))
  |_=>False
def isConst : Operand → Bool|.const _=>true|_=>false
theorem run_eqGuard_other {P : Program} {w : World} {op : BinOp} {T : TypeId} {x y : Operand} {a b : Value} (h1 : a ≠ .nilIface ∨ b ≠ .nilIface) (h2 : (∀ xs,a ≠ .agg xs) ∨ (∀ ys,b ≠ .agg ys)) :
 (eqGuard op T x y a b).run P w = .ok () w:=by
 unfold eqGuard
 cases op <;> first
  |rfl
  |(simp only [Bool.not_true,Bool.false_eq_true,if_false]
    split
    ·simp at h1
    ·rename_i xs ys
     rcases h2 with h|h
     ·exact absurd rfl (h xs)
     ·exact absurd rfl (h ys)
    ·rfl)
theorem run_eqGuard_nilc {P : Program} {w : World} {op : BinOp} {T : TypeId} {x y : Operand} (h : (isConst x || isConst y) = true) :
 (eqGuard op T x y .nilIface .nilIface).run P w = .ok () w:=by
 unfold eqGuard
 cases op <;> first
  |rfl
  |(cases x <;> cases y <;> first|rfl|(simp [isConst] at h))
theorem nilP_val {H : Heap} {ρ : Rho} {x : AV} {v : Value} {r : Bool} (hr : Rep H ρ x v) (h : nilP x = some r) : ∃ a,v = .pointer a ∧ r = a.isNone:=by
 cases hr with
 |v hv=>unfold nilP at h;split at h <;> simp_all
 |ep=>simp [nilP] at h;subst h;exact ⟨_,rfl,rfl⟩
 |loc=>simp [nilP] at h;subst h;exact ⟨_,rfl,rfl⟩
 |eloc=>simp [nilP] at h;subst h;exact ⟨_,rfl,rfl⟩
 |_=>simp [nilP] at h
theorem nilM_val {H : Heap} {ρ : Rho} {x : AV} {v : Value} {r : Bool} (hr : Rep H ρ x v) (h : nilM x = some r) : ∃ a,v = .map a ∧ r = a.isNone:=by
 cases hr with
 |v hv=>unfold nilM at h;split at h <;> simp_all
 |mp=>simp [nilM] at h;subst h;exact ⟨_,rfl,rfl⟩
 |_=>simp [nilM] at h
theorem nilF_val {H : Heap} {ρ : Rho} {x : AV} {v : Value} {r : Bool} (hr : Rep H ρ x v) (h : nilF x = some r) : (r = true ∧ v = .nilFunc) ∨ (r = false ∧ ∃ f a b,v = .func f a b):=by
 cases hr with
 |v hv=>unfold nilF at h;split at h <;> simp_all
 |fn=>simp [nilF] at h;subst h;exact .inr ⟨rfl,_,_,_,rfl⟩
 |_=>simp [nilF] at h
theorem nilI_val {H : Heap} {ρ : Rho} {x : AV} {v : Value} {r : Bool} (hr : Rep H ρ x v) (h : nilI x = some r) : (r = true ∧ v = .nilIface) ∨ (r = false ∧ ∃ t u,v = .iface t u):=by
 cases hr with
 |v hv=>unfold nilI at h;split at h <;> simp_all
 |ifc=>simp [nilI] at h;subst h;exact .inr ⟨rfl,_,_,rfl⟩
 |_=>simp [nilI] at h
theorem run_binOp_eq {P : Program} {w : World} {op : BinOp} {T : TypeId} {u v : Value} {r : Bool} (hne : (∀ k a,u ≠ .int k a) ∧ (∀ k a,u ≠ .float k a) ∧ (∀ k a b,u ≠ .complex k a b) ∧ (∀ s,u ≠ .string s))
 (he : (Op.equal T u v).run P w = .ok r w) : (op = .eql → (binOp op T u v).run P w = .ok (.bool r) w) ∧ (op = .neq → (binOp op T u v).run P w = .ok (.bool (!r)) w):=by
 obtain ⟨h1,h2,h3,h4⟩:=hne
 constructor
 ·rintro rfl
  cases u <;> first
   |(exact absurd rfl (h1 _ _))
   |(exact absurd rfl (h2 _ _))
   |(exact absurd rfl (h3 _ _ _))
   |(exact absurd rfl (h4 _))
   |(cases v <;> simp [binOp,he])
 ·rintro rfl
  cases u <;> first
   |(exact absurd rfl (h1 _ _))
   |(exact absurd rfl (h2 _ _))
   |(exact absurd rfl (h3 _ _ _))
   |(exact absurd rfl (h4 _))
   |(cases v <;> simp [binOp,he])
theorem eqIn_ptr {P : Program} {w : World} (d : Nat) {T e : TypeId} (hT : P.underlying T = some (.pointer e)) (a b : Option Addr) (h : a.isNone = true ∨ b.isNone = true) :
 (Op.equalIn (d + 1) T (.pointer a) (.pointer b)).run P w = .ok (a.isNone && b.isNone) w:=by
 cases a <;> cases b <;> simp_all [Op.equalIn,run_underlying hT]
theorem eqIn_map {P : Program} {w : World} (d : Nat) {T k e : TypeId} (hT : P.underlying T = some (.map k e)) (a b : Option Nat) (h : a.isNone = true ∨ b.isNone = true) :
 (Op.equalIn (d + 1) T (.map a) (.map b)).run P w = .ok (a.isNone && b.isNone) w:=by
 cases a <;> cases b <;> simp_all [Op.equalIn,run_underlying hT]
theorem eqIn_ff {P : Program} {w : World} (d : Nat) {T : TypeId} {p r s} (hT : P.underlying T = some (.func p r s)) : (Op.equalIn (d + 1) T .nilFunc .nilFunc).run P w = .ok true w:=by
 simp [Op.equalIn,run_underlying hT]
theorem eqIn_fg {P : Program} {w : World} (d : Nat) {T : TypeId} {p r s} (hT : P.underlying T = some (.func p r s)) (f a b) : (Op.equalIn (d + 1) T .nilFunc (.func f a b)).run P w = .ok false w:=by
 simp [Op.equalIn,run_underlying hT]
theorem eqIn_gf {P : Program} {w : World} (d : Nat) {T : TypeId} {p r s} (hT : P.underlying T = some (.func p r s)) (f a b) : (Op.equalIn (d + 1) T (.func f a b) .nilFunc).run P w = .ok false w:=by
 simp [Op.equalIn,run_underlying hT]
theorem eqIn_ii {P : Program} {w : World} (d : Nat) {T : TypeId} {ms} (hT : P.underlying T = some (.interface ms)) : (Op.equalIn (d + 1) T .nilIface .nilIface).run P w = .ok true w:=by
 simp [Op.equalIn,run_underlying hT]
theorem eqIn_ij {P : Program} {w : World} (d : Nat) {T : TypeId} {ms} (hT : P.underlying T = some (.interface ms)) (t u) : (Op.equalIn (d + 1) T .nilIface (.iface t u)).run P w = .ok false w:=by
 simp [Op.equalIn,run_underlying hT]
theorem eqIn_ji {P : Program} {w : World} (d : Nat) {T : TypeId} {ms} (hT : P.underlying T = some (.interface ms)) (t u) : (Op.equalIn (d + 1) T (.iface t u) .nilIface).run P w = .ok false w:=by
 simp [Op.equalIn,run_underlying hT]
theorem nilCmp_sound {P : Program} {w : World} {T : TypeId} {H : Heap} {ρ : Rho} {x y : AV} {u v : Value} {xc yc : Bool} {cont : Bool → Prop} (hx : Rep H ρ x u) (hy : Rep H ρ y v) (h : nilCmp P T x y xc yc cont) :
 ∃ r,cont r ∧ (Op.equal T u v).run P w = .ok r w ∧ ((∀ k a,u ≠ .int k a) ∧ (∀ k a,u ≠ .float k a) ∧ (∀ k a b,u ≠ .complex k a b) ∧ (∀ s,u ≠ .string s)) ∧
   (∀ xs,u ≠ .agg xs) ∧ (u = .nilIface → v = .nilIface → (xc || yc) = true):=by
 unfold Op.equal Op.maxDepth
 rw [show (10000 : Nat) = 9999 + 1 from rfl]
 generalize (9999 : Nat) = d
 unfold nilCmp at h
 split at h
 ·rename_i e hT
  split at h
  ·rename_i a b ha hb
   obtain ⟨u',rfl,rfl⟩:=nilP_val hx ha
   obtain ⟨v',rfl,rfl⟩:=nilP_val hy hb
   exact ⟨_,h.2,eqIn_ptr d hT _ _ h.1,by simp,by simp,by simp⟩
  ·exact h.elim
 ·rename_i k e hT
  split at h
  ·rename_i a b ha hb
   obtain ⟨u',rfl,rfl⟩:=nilM_val hx ha
   obtain ⟨v',rfl,rfl⟩:=nilM_val hy hb
   exact ⟨_,h.2,eqIn_map d hT _ _ h.1,by simp,by simp,by simp⟩
  ·exact h.elim
 ·rename_i p r s hT
  split at h
  ·rename_i a b ha hb
   have h1:=h.1
   refine ⟨_,h.2,?_⟩
   rcases nilF_val hx ha with ⟨rfl,rfl⟩|⟨rfl,f,c,d',rfl⟩ <;> rcases nilF_val hy hb with ⟨rfl,rfl⟩|⟨rfl,f2,c2,d2,rfl⟩
   ·exact ⟨eqIn_ff d hT,by simp,by simp,by simp⟩
   ·exact ⟨eqIn_fg d hT _ _ _,by simp,by simp,by simp⟩
   ·exact ⟨eqIn_gf d hT _ _ _,by simp,by simp,by simp⟩
   ·simp at h1
  ·exact h.elim
 ·rename_i ms hT
  split at h
  ·rename_i a b ha hb
   have h1:=h.1
   have h2:=h.2.1
   refine ⟨_,h.2.2,?_⟩
   rcases nilI_val hx ha with ⟨rfl,rfl⟩|⟨rfl,t,c,rfl⟩ <;> rcases nilI_val hy hb with ⟨rfl,rfl⟩|⟨rfl,t2,c2,rfl⟩
   ·exact ⟨eqIn_ii d hT,by simp,by simp,fun _ _=>h2 rfl rfl⟩
   ·exact ⟨eqIn_ij d hT _ _,by simp,by simp,by simp⟩
   ·exact ⟨eqIn_ji d hT _ _,by simp,by simp,by simp⟩
   ·simp at h1
  ·exact h.elim
 ·exact h.elim
theorem strOp_sound {P : Program} {w : World} {op : BinOp} {a b : ByteArray} {cont : AV → Prop} (h : strOp op a b cont) : ∃ u,cont (.v u) ∧ okV u = true ∧ (Op.stringOp op a b).run P w = .ok u w:=by
 have he : (a.toList == b.toList) = decide (a = b):=by rw [← beq_toListBytes,ba_beq]
 unfold strOp at h
 cases op <;> simp only at h <;> first
  |exact h.elim
  |(refine ⟨_,h,rfl,?_⟩;simp only [Op.stringOp,he];rfl)
  |(refine ⟨_,h.2,rfl,?_⟩
    have h1:=h.1
    have h2 : ¬ ((a.size + b.size : Nat) : Int) > IntKind.i64.max:=by simp only [IntKind.max,IntKind.signed,IntKind.bits];simp;omega
    simp only [Op.stringOp,if_neg h2]
    rfl)
theorem binInt_sound {P : Program} {w : World} {op : BinOp} {k : IntKind} {T : TypeId} {a b : Int} {cont : AV → Prop} (h : binInt op k a b cont) : ∃ u,cont (.v u) ∧ okV u = true ∧ (binOp op T (.int k a) (.int k b)).run P w = .ok u w:=by
 unfold binInt at h
 cases op <;> simp only at h
 case add=>exact ⟨_,arith_sound h,rfl,by simp [binOp,Op.intArith]⟩
 case sub=>exact ⟨_,arith_sound h,rfl,by simp [binOp,Op.intArith]⟩
 case mul=>exact ⟨_,arith_sound h,rfl,by simp [binOp,Op.intArith]⟩
 case quo=>exact ⟨_,arith_sound h.2,rfl,by simp [binOp,Op.intDiv,h.1]⟩
 case rem=>exact ⟨_,h.2,rfl,by simp [binOp,Op.intDiv,h.1]⟩
 case and=>exact ⟨_,h,rfl,by simp [binOp,Op.intBits,bitsV]⟩
 case or=>exact ⟨_,h,rfl,by simp [binOp,Op.intBits,bitsV]⟩
 case xor=>exact ⟨_,h,rfl,by simp [binOp,Op.intBits,bitsV]⟩
 case andNot=>exact ⟨_,h,rfl,by simp [binOp,Op.intBits,bitsV]⟩
 case eql=>exact ⟨_,h,rfl,by simp [binOp,Op.intCmp];rfl⟩
 case neq=>exact ⟨_,h,rfl,by simp [binOp,Op.intCmp,bne];rfl⟩
 case lss=>exact ⟨_,h,rfl,by simp [binOp,Op.intCmp]⟩
 case leq=>exact ⟨_,h,rfl,by simp [binOp,Op.intCmp]⟩
 case gtr=>exact ⟨_,h,rfl,by simp [binOp,Op.intCmp]⟩
 case geq=>exact ⟨_,h,rfl,by simp [binOp,Op.intCmp]⟩
theorem shiftInt_sound {P : Program} {w : World} {op : BinOp} {k k' : IntKind} {T : TypeId} {a b : Int} {cont : AV → Prop} (h : shiftInt op k a b cont) : ∃ u,cont (.v u) ∧ okV u = true ∧ (binOp op T (.int k a) (.int k' b)).run P w = .ok u w:=by
 unfold shiftInt at h
 obtain ⟨h0,h⟩:=h
 have hn : ¬ b < 0:=by omega
 cases op <;> simp only at h
 case shl=>exact ⟨_,arith_sound h,rfl,by simp [binOp,Op.shift,hn]⟩
 case shr=>exact ⟨_,h,rfl,by simp [binOp,Op.shift,hn]⟩
theorem qbin_sound {P : Program} {w : World} {op : BinOp} {T : TypeId} {x y : AV} {ox oy : Operand} {u v : Value} {H : Heap} {ρ : Rho} {cont : AV → Prop} (hx : Rep H ρ x u) (hy : Rep H ρ y v)
 (h : qbin P op T x y (isConst ox) (isConst oy) cont) : ∃ r,cont (.v r) ∧ okV r = true ∧ (eqGuard op T ox oy u v).run P w = .ok () w ∧ (binOp op T u v).run P w = .ok r w:=by
 unfold qbin at h
 split at h
 ·rename_i k a k' b
  rw [hx.v_inv,hy.v_inv]
  have hg:=run_eqGuard_other (P:=P) (w:=w) (op:=op) (T:=T) (x:=ox) (y:=oy) (a:=.int k a) (b:=.int k' b) (by simp) (by simp)
  split at h
  ·obtain ⟨r,h1,h2,h3⟩:=shiftInt_sound (P:=P) (w:=w) (k':=k') (T:=T) h
   exact ⟨r,h1,h2,hg,h3⟩
  ·obtain ⟨rfl,h⟩:=h
   obtain ⟨r,h1,h2,h3⟩:=binInt_sound (P:=P) (w:=w) (T:=T) h
   exact ⟨r,h1,h2,hg,h3⟩
 ·rename_i a b
  rw [hx.v_inv,hy.v_inv]
  have hg:=run_eqGuard_other (P:=P) (w:=w) (op:=op) (T:=T) (x:=ox) (y:=oy) (a:=.string a) (b:=.string b) (by simp) (by simp)
  obtain ⟨r,h1,h2,h3⟩:=strOp_sound (P:=P) (w:=w) h
  refine ⟨r,h1,h2,hg,?_⟩
  rw [← h3]
  cases op <;> rfl
 ·rename_i a b
  rw [hx.v_inv,hy.v_inv]
  have hg:=run_eqGuard_other (P:=P) (w:=w) (op:=op) (T:=T) (x:=ox) (y:=oy) (a:=.bool a) (b:=.bool b) (by simp) (by simp)
  obtain ⟨hT,h⟩:=h
  have he : (Op.equal T (.bool a) (.bool b)).run P w = .ok (a == b) w:=by
   unfold Op.equal Op.maxDepth
   rw [show (10000 : Nat) = 9999 + 1 from rfl]
   exact run_equalIn_bool w _ T a b hT
  have hb:=run_binOp_eq (op:=op) (v:=.bool b) (by simp) he
  split at h
  ·exact ⟨_,h,rfl,hg,hb.1 rfl⟩
  ·exact ⟨_,h,rfl,hg,hb.2 rfl⟩
  ·exact h.elim
 ·rename_i xs ys
  obtain ⟨hagg,hgt,h⟩:=h
  split at h
  ·rename_i ks hks
   split at h
   ·rename_i r hr
    cases hx with
    |st hl h1 hx =>
     cases hy with
     |st hl' h1' hy =>
      rename_i us vs
      have hc:=eqA_rep ⟨hl,hx⟩ ⟨hl',hy⟩ hr
      have he : (Op.equal T (.agg us.toArray) (.agg vs.toArray)).run P w = .ok r w:=by
       have:=run_equalIn_kinds 12 T ks hks 10000 (by omega) us vs r w hc
       simp only [valOf,hagg,if_true] at this
       exact this
      have hb:=run_binOp_eq (op:=op) (v:=.agg vs.toArray) (by simp) he
      have hg:=run_eqGuard_agg (P:=P) w op T ox oy us.toArray vs.toArray hgt
      split at h
      ·exact ⟨_,h,rfl,hg,hb.1 rfl⟩
      ·exact ⟨_,h,rfl,hg,hb.2 rfl⟩
      ·exact h.elim
   ·exact h.elim
  ·exact h.elim
 ·split at h
  ·obtain ⟨r,h1,h2,h3,h4,h5⟩:=nilCmp_sound (P:=P) (w:=w) hx hy h
   refine ⟨_,h1,rfl,?_,(run_binOp_eq h3 h2).1 rfl⟩
   by_cases hn : u = .nilIface ∧ v = .nilIface
   ·obtain ⟨rfl,rfl⟩:=hn
    exact run_eqGuard_nilc (h5 rfl rfl)
   ·exact run_eqGuard_other (by
     by_cases h1 : u = .nilIface
     ·right;exact fun h2=>hn ⟨h1,h2⟩
     ·left;exact h1) (.inl h4)
  ·obtain ⟨r,h1,h2,h3,h4,h5⟩:=nilCmp_sound (P:=P) (w:=w) hx hy h
   refine ⟨_,h1,rfl,?_,(run_binOp_eq h3 h2).2 rfl⟩
   by_cases hn : u = .nilIface ∧ v = .nilIface
   ·obtain ⟨rfl,rfl⟩:=hn
    exact run_eqGuard_nilc (h5 rfl rfl)
   ·exact run_eqGuard_other (by
     by_cases h1 : u = .nilIface
     ·right;exact fun h2=>hn ⟨h1,h2⟩
     ·left;exact h1) (.inl h4)
  ·exact h.elim
end Go.Am
end
section
namespace Go.Am
open Go.RowKit
def lkA (bf : Nat → Option Ct) : AV → Option Ct
 |.loc id _=>bf id
 |.eloc id _ _ _=>bf id
 |.own id _ _ _=>bf id
 |.mp id=>bf id
 |_=>none
def qload (P : Program) (T : TypeId) (p : AV) (c : Option Ct) (cont : AV → Prop) : Prop :=
 okT P T = true ∧ match p with
 |.loc _ off=>(match c with
  |some (.box _ x)=>(off + P.cellsOf T ≤ x.cells.length ∧ (aggB P T = true ∨ P.cellsOf T = 1)) ∧ cont (aload x off (P.cellsOf T) (aggB P T))
  |_=>False)
 |.eloc _ kk i off=>(match c with
  |some (.arr _ k' xs)=>(kk = k' ∧ i < xs.length ∧ off + P.cellsOf T ≤ kk ∧ (aggB P T = true ∨ P.cellsOf T = 1)) ∧ cont (aload (xs.getD i .u) off (P.cellsOf T) (aggB P T))
  |_=>False)
 |.ep x=>(P.cellsOf T = x.cells.length ∧ aggB P T = x.isSt ∧ (aggB P T = true ∨ P.cellsOf T = 1)) ∧ cont x
 |_=>False
def qfaddr (P : Program) (T : TypeId) (x : AV) (f : Nat) (cont : AV → Prop) : Prop :=
 match P.underlying T with
 |some (.struct fs)=>(match fs[f]? with
  |some fld=>(okT P fld.type = true ∧ P.cellsOf fld.type ≠ 0) ∧ (match x with
   |.loc id off=>cont (.loc id (off + fld.offset))
   |.eloc id kk i off=>cont (.eloc id kk i (off + fld.offset))
   |.ep y=>(fld.offset + P.cellsOf fld.type ≤ y.cells.length ∧ (aggB P fld.type = true ∨ P.cellsOf fld.type = 1)) ∧ cont (.ep (y.part fld.offset (P.cellsOf fld.type) (aggB P fld.type)))
   |_=>False)
  |none=>False)
 |_=>False
def qiaddr (P : Program) (T : TypeId) (x i : AV) (cont : AV → Prop) : Prop :=
 match P.underlying T,i with
 |some (.slice e),.v (.int _ n)=>okT P e = true ∧ (match x with
  |.sl k xs=>P.cellsOf e = k ∧ (0 ≤ n ∧ n < xs.length) ∧ cont (.ep (xs.getD n.toNat .u))
  |.own id k off m=>P.cellsOf e = k ∧ (0 ≤ n ∧ n < m) ∧ cont (.eloc id k (off + n.toNat) 0)
  |_=>False)
 |some (.array len e),.v (.int _ n)=>okT P e = true ∧ (match x with
  |.loc id off=>(0 ≤ n ∧ n < len) ∧ cont (.loc id (off + n.toNat * P.cellsOf e))
  |.ep y=>(0 ≤ n ∧ n < len) ∧ (n.toNat * P.cellsOf e + P.cellsOf e ≤ y.cells.length ∧ (aggB P e = true ∨ P.cellsOf e = 1)) ∧ cont (.ep (y.part (n.toNat * P.cellsOf e) (P.cellsOf e) (aggB P e)))
  |_=>False)
 |_,_=>False
def fillElems : List AV → List (Nat × AV) → List AV
 |es,[]=>es
 |es,(i,x) :: rest=>fillElems (es.set i x) rest
def partsOK (len k : Nat) : List (Nat × AV) → Prop
 |[]=>True
 |(i,x) :: rest=>(i < len ∧ x.sto = true ∧ x.cells.length = k) ∧ partsOK len k rest
def qbslice (P : Program) (T : TypeId) (len : Nat) (parts : List (Nat × AV)) (d : Nat) (k : AV → Option Ct → Prop) : Prop :=
 match P.underlying T with
 |some (.slice e)=>(okT P e = true ∧ 0 < P.cellsOf e ∧ len * P.cellsOf e ≤ 16777216) ∧ (match zeroAV P e with
  |some z=>(z.sto = true ∧ z.cells.length = P.cellsOf e) ∧ partsOK len (P.cellsOf e) parts ∧ k (.own d (P.cellsOf e) 0 len) (some (.arr e (P.cellsOf e) (fillElems (List.replicate len z) parts)))
  |none=>False)
 |_=>False
def setPart (cs : List AV) (off : Nat) (new : List AV) : List AV:=cs.take off ++ (new ++ cs.drop (off + new.length))
def buildK (place : Nat → Option (Nat × Nat)) (cs : List AV) : List (Nat × AV) → (List AV → Prop) → Prop
 |[],k=>k cs
 |(i,x) :: rest,k=>match place i with
  |some (off,sz)=>(x.sto = true ∧ x.cells.length = sz ∧ off + sz ≤ cs.length) ∧ buildK place (setPart cs off x.cells) rest k
  |none=>False
def fplace (P : Program) (fs : Array Field) (i : Nat) : Option (Nat × Nat):=(fs[i]?).map fun f=>(f.offset,P.cellsOf f.type)
def qbuild (P : Program) (T : TypeId) (parts : List (Nat × AV)) (cont : AV → Prop) : Prop :=
 match zeroAV P T with
 |some (.st cs)=>okT P T = true ∧ (match P.underlying T with
  |some (.struct fs)=>fs.toList.all (fun f=>okT P f.type) = true ∧ buildK (fplace P fs) cs parts (fun cs'=>cont (.st cs'))
  |some (.array _ e)=>okT P e = true ∧ buildK (fun i=>some (i * P.cellsOf e,P.cellsOf e)) cs parts (fun cs'=>cont (.st cs'))
  |_=>False)
 |_=>False
def qfield (P : Program) (T : TypeId) (x : AV) (f : Nat) (cont : AV → Prop) : Prop :=
 match P.underlying T with
 |some (.struct fs)=>(match fs[f]? with
  |some fld=>x.isSt = true ∧ (okT P fld.type = true ∧ fld.offset + P.cellsOf fld.type ≤ x.cells.length ∧ (aggB P fld.type = true ∨ P.cellsOf fld.type = 1)) ∧ cont (x.part fld.offset (P.cellsOf fld.type) (aggB P fld.type))
  |none=>False)
 |_=>False
def qindex (P : Program) (T : TypeId) (x i : AV) (cont : AV → Prop) : Prop :=
 match P.underlying T,x,i with
 |some .string,.v (.string s),.v (.int _ n)=>(0 ≤ n ∧ n < s.size) ∧ cont (.v (.int .u8 ((s.data.toList.getD n.toNat 0).toNat : Int)))
 |some (.array len e),.st cs,.v (.int _ n)=>(okT P e = true ∧ 0 ≤ n ∧ n < len ∧ n.toNat * P.cellsOf e + P.cellsOf e ≤ cs.length ∧ (aggB P e = true ∨ P.cellsOf e = 1)) ∧
   cont ((AV.st cs).part (n.toNat * P.cellsOf e) (P.cellsOf e) (aggB P e))
 |_,_,_=>False
def qun (op : UnOp) (x : AV) (cont : AV → Prop) : Prop :=
 match op,x with
 |.not,.v (.bool b)=>cont (.v (.bool (!b)))
 |.neg,.v (.int k n)=>arith k (0 - n) cont
 |_,_=>False
def qconv (P : Program) (src dst : TypeId) (x : AV) (cont : AV → Prop) : Prop :=
 okT P src = true ∧ match P.underlying dst,x with
 |some (.int k),.v (.int _ n)=>cont (.v (.int k (k.wrap n)))
 |some .string,.v (.string s)=>cont (.v (.string s))
 |_,_=>False
def slBound (x : Option AV) (dflt : Nat) : Option Int :=
 match x with
 |none=>some dflt
 |some (.v (.int _ n))=>some n
 |_=>none
def qslice (P : Program) (T : TypeId) (x : AV) (lo hi : Option AV) (c : Option Ct) (cont : AV → Prop) : Prop :=
 match P.underlying T,x with
 |some (.slice e),.sl k xs=>(okT P e = true ∧ P.cellsOf e = k) ∧ (match slBound lo 0,slBound hi xs.length with
  |some l,some h=>(0 ≤ l ∧ l ≤ h ∧ h ≤ xs.length) ∧ cont (.sl k ((xs.take h.toNat).drop l.toNat))
  |_,_=>False)
 |some (.slice e),.own id k off n=>(okT P e = true ∧ P.cellsOf e = k) ∧ (match slBound lo 0,slBound hi n with
  |some l,some h=>(0 ≤ l ∧ l ≤ h ∧ h ≤ n) ∧ ((l = 0 ∨ l < n) → cont (.own id k (off + l.toNat) (h - l).toNat)) ∧ (¬ (l = 0 ∨ l < n) → cont (.sl k []))
  |_,_=>False)
 |some .string,.v (.string s)=>(match slBound lo 0,slBound hi s.size with
  |some l,some h=>(0 ≤ l ∧ l ≤ h ∧ h ≤ s.size) ∧ cont (.v (.string (s.extract l.toNat h.toNat)))
  |_,_=>False)
 |some (.array n e),.loc id off=>(okT P e = true ∧ P.cellsOf e = 1 ∧ off = 0 ∧ lo = none ∧ n ≠ 0) ∧ (match c,slBound hi n with
  |some (.box _ y),some h=>(y.cells.length = n ∧ n ≤ 16777216 ∧ 0 ≤ h ∧ h ≤ n) ∧ cont (.own id 1 0 h.toNat)
  |_,_=>False)
 |some (.slice e),.v (.slice (some ⟨b,o,none⟩) n cc)=>okT P e = true ∧ (match slBound lo 0,slBound hi n with
  |some l,some h=>(0 ≤ l ∧ l ≤ h ∧ h ≤ n ∧ n ≤ cc ∧ l < cc) ∧ cont (.v (.slice (some ⟨b,o + l.toNat * P.cellsOf e,none⟩) (h - l).toNat (cc - l.toNat)))
  |_,_=>False)
 |_,_=>False
def findA (ks : List SK) (key : AV) : List (AV × AV) → Option AV
 |[]=>none
 |(k,v) :: es=>if eqA ks key.cells k.cells = some true then some v else findA ks key es
def keysOK (ks : List SK) (agg : Bool) (key : AV) : List (AV × AV) → Prop
 |[]=>True
 |(k,_) :: es=>((eqA ks key.cells k.cells).isSome = true ∧ k.isSt = agg ∧ k.sto = true) ∧ keysOK ks agg key es
def qlookup (P : Program) (T : TypeId) (x i : AV) (ok : Bool) (c : Option Ct) (cont : AV → Prop) : Prop :=
 match P.underlying T with
 |some (.map kt e)=>(match eqKinds P kt,zeroAV P e with
  |some ks,some z=>(ks.length = P.cellsOf kt ∧ i.isSt = aggB P kt ∧ i.sto = true) ∧ (match x with
   |.mp _=>(match c with
    |some (.map es _)=>(eqA ks i.cells i.cells).isSome = true ∧ keysOK ks (aggB P kt) i es ∧ (match findA ks i es with
     |some v=>cont (if ok then .tup [v,.v (.bool true)] else v)
     |none=>cont (if ok then .tup [z,.v (.bool false)] else z))
    |_=>False)
   |.v (.map none)=>(eqA ks i.cells i.cells).isSome = true ∧ cont (if ok then .tup [z,.v (.bool false)] else z)
   |_=>False)
  |_,_=>False)
 |_=>False
def qlen (P : Program) (T : TypeId) (x : AV) (c : Option Ct) (cont : AV → Prop) : Prop :=
 match P.underlying T with
 |some (.slice _)=>(match x with
  |.sl _ xs=>cont (.v (.int .i64 xs.length))
  |.own _ _ _ n=>cont (.v (.int .i64 n))
  |.v (.slice _ n _)=>cont (.v (.int .i64 n))
  |_=>False)
 |some .string=>(match x with
  |.v (.string s)=>cont (.v (.int .i64 s.size))
  |_=>False)
 |some (.map _ _)=>(match x with
  |.mp _=>(match c with
   |some (.map es _)=>cont (.v (.int .i64 es.length))
   |_=>False)
  |.v (.map none)=>cont (.v (.int .i64 0))
  |_=>False)
 |some (.array n _)=>cont (.v (.int .i64 n))
 |_=>False
def foldInts (f : Int → Int → Int) (k : IntKind) : Int → List AV → (Int → Prop) → Prop
 |n,[],cont=>cont n
 |n,.v (.int k' m) :: rest,cont=>k = k' ∧ foldInts f k (f n m) rest cont
 |_,_ :: _,_=>False
def qfold (f : Int → Int → Int) : List AV → (AV → Prop) → Prop
 |.v (.int k n) :: rest,cont=>foldInts f k n rest (fun m=>cont (.v (.int k m)))
 |_,_=>False
def View (bf : Nat → Option Ct) (x d : AV) : Prop :=
 (x = d ∧ x.idf = true) ∨
 (∃ id k off n T xs,x = .own id k off n ∧ bf id = some (.arr T k xs) ∧ off + n ≤ xs.length ∧ d = .sl k ((xs.drop off).take n) ∧ idfL ((xs.drop off).take n) = true) ∨
 (∃ id n T y,x = .own id 1 0 n ∧ bf id = some (.box T y) ∧ n = y.cells.length ∧ d = .sl 1 y.cells ∧ idfL y.cells = true) ∨
 (∃ id T y,x = .loc id 0 ∧ bf id = some (.box T y) ∧ d = .ep y ∧ y.idf = true) ∨
 (∃ k n c,x = .v (.slice none n c) ∧ n = 0 ∧ d = .sl k [])
def ViewL (bf : Nat → Option Ct) : List AV → List AV → Prop
 |[],[]=>True
 |x :: xs,d :: ds=>View bf x d ∧ ViewL bf xs ds
 |_,_=>False
def aThere : AV → Bool
 |.loc _ _|.eloc _ _ _ _|.ep _|.ifc _ _|.fn (.func _) _ _=>true
 |_=>false
def methOf (P : Program) (t : TypeId) (name : String) : Option FuncId :=
 match (P.info? t).bind (fun i=>i.methods.find? (·.name == name)) with
 |some m=>if m.path.isEmpty then (match m.func,P.underlying t with
  |some (f,true),some (.pointer _)=>some f
  |some (f,false),some (.pointer _)=>none
  |some (f,false),some _=>some f
  |_,_=>none) else none
 |none=>none
theorem run_callMethod {P : Program} {w : World} {t : TypeId} {v : Value} {name : String} {f : FuncId} {args : Array Value} (h : methOf P t name = some f) : (callMethod (.iface t v) name args).run P w = (callFunc f (#[v] ++ args)).run P w:=by
 have key : ∀ n,(method (n + 1) t v name).run P w = .ok (f,v) w:=by
  intro n
  unfold methOf at h
  cases hi : P.info? t with
  |none=>simp [hi] at h
  |some i =>
   rw [hi] at h
   simp only [Option.bind_some] at h
   cases hm : i.methods.find? (fun x=>x.name == name) with
   |none=>simp [hm] at h
   |some m =>
    rw [hm] at h
    simp only at h
    split at h
    ·rename_i hp
     have hp' : m.path = #[]:=by simpa using hp
     split at h
     ·rename_i f' e h1 h2
      cases h
      simp [method,typeInfo,hi,hm,hp',follow,h1,receiverAt,run_underlying h2,Place.get]
     ·cases h
     ·rename_i f' u h1 h2 h3
      cases h
      rename_i hne _
      cases u <;> first|(exact absurd rfl (h2 _))|(simp [method,typeInfo,hi,hm,hp',follow,h1,receiverAt,run_underlying h3,Place.get];done)|skip
      all_goals simp_all [method,typeInfo,follow,receiverAt,Place.get,run_underlying]
     ·cases h
    ·cases h
 simp only [callMethod,Sem.run_bind,run_program,Result.andThen_ok]
 rw [show P.types.size + Made.depth = (P.types.size + 99) + 1 from rfl,key]
 rfl
theorem run_nilAhead {P : Program} {w : World} {t : TypeId} {v : Value} {name : String} {f : FuncId} (h : methOf P t name = some f) (n : Nat) : (nilAhead (n + 1) t v name).run P w = .ok (some false) w:=by
 unfold methOf at h
 cases hi : P.info? t with
 |none=>simp [hi] at h
 |some i =>
  rw [hi] at h
  simp only [Option.bind_some] at h
  cases hm : i.methods.find? (fun x=>x.name == name) with
  |none=>simp [hm] at h
  |some m =>
   rw [hm] at h
   simp only at h
   split at h
   ·rename_i hp
    have hp' : m.path = #[]:=by simpa using hp
    split at h
    ·rename_i f' e h1 h2
     simp [nilAhead,typeInfo,hi,hm,hp',followBlind,h1]
    ·cases h
    ·rename_i f' u h1 h2 h3
     rename_i hne _
     cases u <;> first|(exact absurd rfl (h2 _))|(simp [nilAhead,typeInfo,hi,hm,hp',followBlind,h1,run_underlying h3];done)|skip
     all_goals simp_all [nilAhead,typeInfo,followBlind,run_underlying]
    ·cases h
   ·cases h
def aThr (P : Program) : AV → Bool
 |.fn (.method m) [.ifc t _] []=>(methOf P t m).isSome
 |x=>aThere x
theorem run_nilCheck {P : Program} {H : Heap} {ρ : Rho} {w : World} {ev : Operand → Value} {o : Oper} {x : Operand} {y : AV} (hop : o.op = .nilCheck x) (hr : Rep H ρ y (ev x)) (ht : aThr P y = true) : (execOp ev o).run P w = .ok (.value (ev x)) w:=by
 simp only [execOp,hop]
 generalize ev x = v at hr
 unfold aThr at ht
 split at ht
 ·rename_i m t z
  cases hr with
  |fn hl1 hl2 h1 h2 =>
   rename_i us vs
   match us,hl1 with
   |[u],_ =>
    have hu:=h1 0 _ u rfl rfl
    generalize hz : AV.ifc t z = zz at hu
    cases hu <;> cases hz
    cases hm : methOf P t m with
    |none=>rw [hm] at ht;cases ht
    |some f =>
     have:=run_nilAhead (P:=P) (w:=w) (v:=by assumption) hm (P.types.size + 99)
     simp [Sem.run_bind,run_program,show P.types.size + Made.depth = (P.types.size + 99) + 1 from rfl,this]
 ·rename_i hne
  clear hne
  cases hr <;> first|rfl|(simp [aThere] at ht;done)|skip
  rename_i f fs cs us vs _ _ _ _
  cases f <;> first|rfl|(simp [aThere] at ht;done)
structure QCall (P : Program) (f : FuncId) (args : List AV) (bf : Nat → Option Ct) (d : Option Tmp) (k : AV → Option Ct → Prop) : Prop where
 ex : (∃ ds res,ViewL bf args ds ∧ PSpec P f ds res ∧ (res.flat = true ∨ (ds = args ∧ idfL args = true ∧ res.idf = true)) ∧ k res none) ∨
  (∃ ds mk c t,ViewL bf args ds ∧ NSpec P f ds mk c ∧ d = some t ∧ ((∀ (H H' : Heap) (ρ ρ' : Rho) (w : World) (bd : Bd),CtRep H ρ w bd c → CtRep H' ρ' w bd c) ∨ (ds = args ∧ idfL args = true)) ∧ k (mk t) (some c))
def qcall (P : Program) (c : Call) (av : Operand → AV) (bf : Nat → Option Ct) (d : Option Tmp) (k : AV → Option Ct → Prop) : Prop :=
 match c.callee,c.args.toList.map av with
 |.builtin .len,[x]=>(match c.argTypes[0]? with
  |some T=>qlen P T x (lkA bf x) (fun x=>k x none)
  |none=>False)
 |.builtin .unsafeSliceData,[x]=>(match x with
  |.own id kk off n=>0 < n ∧ k (.eloc id kk off 0) none
  |_=>False)
 |.builtin .min,xs=>qfold (fun a b=>min a b) xs (fun x=>k x none)
 |.builtin .max,xs=>qfold (fun a b=>max a b) xs (fun x=>k x none)
 |.value f,xs=>(match av f with
  |.fn (.func g) first caps=>QCall P g (first ++ xs ++ caps) bf d k
  |_=>False)
 |.invoke r m,xs=>(match av r with
  |.ifc t x=>(match methOf P t m with
   |some f=>QCall P f (x :: xs) bf d k
   |none=>False)
  |_=>False)
 |_,_=>False
def qop (P : Program) (o : Oper) (av : Operand → AV) (bf : Nat → Option Ct) (k : AV → Option Ct → Prop) : Prop :=
 match o.op with
 |.move x=>k (av x) none
 |.nilCheck x=>aThr P (av x) = true ∧ k (av x) none
 |.assign x=>k (av x) none
 |.pick c a b=>(match av c with
  |.v (.bool t)=>(t = true → k (av a) none) ∧ (t = false → k (av b) none)
  |_=>False)
 |.alloc T=>(match o.dst,zeroAV P T with
  |some d,some z=>z.sto = true ∧ k (.loc d 0) (some (.box T z))
  |_,_=>False)
 |.box T x=>(match o.dst with
  |some d=>(av x).sto = true ∧ k (.loc d 0) (some (.box T (av x)))
  |none=>False)
 |.load T p=>qload P T (av p) (lkA bf (av p)) (fun x=>k x none)
 |.fieldAddr T x f=>qfaddr P T (av x) f (fun x=>k x none)
 |.indexAddr T x i=>qiaddr P T (av x) (av i) (fun x=>k x none)
 |.buildSlice T len parts=>(match o.dst with
  |some d=>qbslice P T len (parts.toList.map fun p=>(p.1,av p.2)) d k
  |none=>False)
 |.build T parts=>qbuild P T (parts.toList.map fun p=>(p.1,av p.2)) (fun x=>k x none)
 |.field T x f=>qfield P T (av x) f (fun x=>k x none)
 |.index T x i=>qindex P T (av x) (av i) (fun x=>k x none)
 |.extract t i=>(match av t with
  |.tup xs=>(match xs[i]? with
   |some x=>k x none
   |none=>False)
  |_=>False)
 |.binOp op T x y _=>qbin P op T (av x) (av y) (isConst x) (isConst y) (fun x=>k x none)
 |.unOp op _ x=>qun op (av x) (fun x=>k x none)
 |.convert s d x=>qconv P s d (av x) (fun x=>k x none)
 |.makeInterface T x=>(okT P T = true ∧ (match P.underlying T with|some (.interface _)=>False|_=>True)) ∧ k (.ifc T (av x)) none
 |.makeFunc fn first caps=>k (.fn fn (first.toList.map av) (caps.toList.map av)) none
 |.makeMap _ none=>(match o.dst with
  |some d=>k (.mp d) (some (.map [] none))
  |none=>False)
 |.slice T x lo hi none=>qslice P T (av x) (lo.map av) (hi.map av) (lkA bf (av x)) (fun x=>k x none)
 |.lookup T x i ok=>qlookup P T (av x) (av i) ok (lkA bf (av x)) (fun x=>k x none)
 |.call c=>qcall P c av bf o.dst k
 |_=>False
def newOp : Op → Bool
 |.alloc _|.box _ _|.buildSlice _ _ _|.makeMap _ _=>true
 |.call c=>(match c.callee with|.value _|.invoke _ _=>true|_=>false)
 |_=>false
mutual
def idsOf : AV → List Nat
 |.loc id _=>[id]
 |.eloc id _ _ _=>[id]
 |.own id _ _ _=>[id]
 |.mp id=>[id]
 |.fn _ first caps=>idsL first ++ idsL caps
 |_=>[]
def idsL : List AV → List Nat
 |[]=>[]
 |x :: xs=>idsOf x ++ idsL xs
end
def rids (o : Oper) (av : Operand → AV) : List Nat :=
 match o.op with
 |.load _ p=>idsOf (av p)
 |.slice _ x _ _ _=>idsOf (av x)
 |.lookup _ x _ _=>idsOf (av x)
 |.call c=>(match c.callee with
  |.value f=>idsOf (av f)
  |.invoke r _=>(match av r with|.ifc _ x=>idsOf x|_=>[])
  |_=>[]) ++ idsL (c.args.toList.map av)
 |_=>[]
end Go.Am
end
section
namespace Go.Am
open Go.RowKit
section
variable {P : Program} {w : World} {H : Heap} {ρ : Rho} {bf : Nat → Option Ct}
theorem flat_get {k : Nat} : ∀ {xs : List AV} {i : Nat} {x : AV},(∀ x ∈ xs,x.cells.length = k) → xs[i]? = some x → ((xs.flatMap AV.cells).drop (i * k)).take k = x.cells
 |[],i,x,_,h=>by simp at h
 |y :: ys,0,x,hk,h=>by
  simp only [List.getElem?_cons_zero,Option.some.injEq] at h
  subst h
  have:=hk y (by simp)
  simp only [Nat.zero_mul,List.drop_zero,List.flatMap_cons]
  rw [← this,List.take_left]
 |y :: ys,i + 1,x,hk,h=>by
  have hy:=hk y (by simp)
  have ih:=flat_get (i:=i) (x:=x) (fun z hz=>hk z (List.mem_cons_of_mem _ hz)) (by simpa using h)
  rw [List.flatMap_cons,show (i + 1) * k = y.cells.length + i * k by rw [hy,Nat.add_mul];omega,← List.drop_drop,List.drop_left]
  exact ih
theorem flat_len {k : Nat} : ∀ {xs : List AV},(∀ x ∈ xs,x.cells.length = k) → (xs.flatMap AV.cells).length = xs.length * k
 |[],_=>by simp
 |y :: ys,hk=>by
  rw [List.flatMap_cons,List.length_append,hk y (by simp),flat_len (fun z hz=>hk z (List.mem_cons_of_mem _ hz)),List.length_cons,Nat.add_mul]
  omega
theorem rho_at {id b cap : Nat} {ρ : Rho} (h : ρ id = .at b cap) {b' cap' : Nat} (h' : ρ id = .at b' cap') : b = b' ∧ cap = cap':=by
 rw [h] at h';cases h';exact ⟨rfl,rfl⟩
theorem run_loadAt {T : TypeId} {b o : Nat} {vs : List Value} (hT : okT P T = true) (hl : vs.length = P.cellsOf T) (h1 : aggB P T = true ∨ P.cellsOf T = 1)
 (hc : ∀ j v,vs[j]? = some v → w.cell? ⟨b,o + j,none⟩ = some v) :
 (Instr.loadAt T (.pointer (some ⟨b,o,none⟩))).run P w = .ok (if aggB P T then .agg vs.toArray else vs.headD undef) w:=by
 have h:=run_loadVar' (w:=w) hT hl h1 hc
 simp only [Instr.loadAt,Instr.sureAddr,Sem.run_bind,Sem.run_pure,Result.andThen_ok]
 exact h
theorem qload_sound {T : TypeId} {p : AV} {v : Value} {cont : AV → Prop} (hr : Rep H ρ p v) (he : Ext H w) (hb : ∀ id c,bf id = some c → CtRep H ρ w (ρ id) c)
 (h : qload P T p (lkA bf p) cont) : ∃ x u,cont x ∧ Rep H ρ x u ∧ (Instr.loadAt T v).run P w = .ok u w:=by
 obtain ⟨hT,h⟩:=h
 have hd1 : ∀ (l : List Value),(aggB P T = true ∨ P.cellsOf T = 1) → (if aggB P T then Value.agg (l.take (P.cellsOf T)).toArray else (l.take (P.cellsOf T)).headD undef) = (if aggB P T then Value.agg (l.take (P.cellsOf T)).toArray else l.headD undef):=by
  intro l hh
  cases ha : aggB P T with
  |true=>rfl
  |false =>
   have : P.cellsOf T = 1:=by simpa [ha] using hh
   rw [this]
   cases l <;> rfl
 split at h
 ·rename_i id off
  split at h
  ·rename_i T' x hbf
   obtain ⟨⟨hlen,h1⟩,hk⟩:=h
   cases hr with
   |loc hρ =>
    rename_i b cap
    obtain ⟨b',cap',vs,hbd,hheap,hrep,hone,_⟩:=hb _ _ hbf
    obtain ⟨rfl,rfl⟩:=rho_at hρ hbd
    have hl:=hrep.1
    refine ⟨_,_,hk,aload_rep hrep hone hlen h1,?_⟩
    rw [run_loadAt (vs:=(vs.drop off).take (P.cellsOf T)) hT (by simp;omega) h1,hd1 _ h1]
    intro j v hj
    rw [List.getElem?_take] at hj
    split at hj
    ·rw [cell_of_row w b _ _ _ _ hheap]
     simpa [List.getElem?_drop] using hj
    ·cases hj
  ·exact h.elim
 ·rename_i id kk i off
  split at h
  ·rename_i T' k' xs hbf
   obtain ⟨⟨rfl,hi,hlen,h1⟩,hk⟩:=h
   cases hr with
   |eloc hρ =>
    rename_i b cap
    rcases hb _ _ hbf with ⟨hnil,_⟩|⟨b',cap',cur,hbd,hheap,hmax,hcap,hsz,hrep,hall⟩
    ·rw [hnil] at hρ;cases hρ
    obtain ⟨rfl,rfl⟩:=rho_at hρ hbd
    have hx : xs[i]? = some xs[i]:=List.getElem?_eq_getElem hi
    have hfl:=flat_len (fun x hx=>(hall x hx).1)
    have hseg:=(hrep.drop (i * kk)).take kk
    rw [flat_get (fun x hx=>(hall x hx).1) hx] at hseg
    have hxk : xs[i].cells.length = kk:=(hall _ (List.getElem_mem hi)).1
    have hxd : xs.getD i .u = xs[i]:=by simp [hi]
    rw [hxd] at hk
    refine ⟨_,_,hk,aload_rep hseg (hall _ (List.getElem_mem hi)).2 (by omega) h1,?_⟩
    have hsl:=hseg.1
    rw [run_loadAt (vs:=((((cur.toList.take (xs.length * kk)).drop (i * kk)).take kk).drop off).take (P.cellsOf T)) hT (by rw [List.length_take,List.length_drop,← hsl];omega) h1,hd1 _ h1]
    intro j v hj
    rw [List.getElem?_take] at hj
    split at hj
    ·rw [cell_of_row w b _ _ _ _ hheap]
     rw [List.getElem?_drop,List.getElem?_take] at hj
     split at hj
     ·rw [List.getElem?_drop,List.getElem?_take] at hj
      split at hj
      ·rw [← hj]
       simp only [Array.getElem?_toList]
       congr 1
       omega
      ·cases hj
     ·cases hj
    ·cases hj
  ·exact h.elim
 ·rename_i x
  obtain ⟨⟨hlen,hst,h1⟩,hk⟩:=h
  cases hr with
  |ep cell hone hH hrep =>
   rename_i blk off
   have hrl : RepL H ρ x.cells ((List.range x.cells.length).map cell):=by
    refine ⟨by simp,fun i c u hc hu=>?_⟩
    have hi : i < x.cells.length:=(List.getElem?_eq_some_iff.1 hc).1
    have hu' : u = cell i:=by
     rw [List.getElem?_map,List.getElem?_range hi] at hu
     simpa using hu.symm
    rw [hu']
    exact (hrep i c hc).any (fun _=>rfl) ρ
   refine ⟨x,_,hk,?_,run_loadAt (vs:=(List.range x.cells.length).map cell) hT (by simp [hlen]) h1 ?_⟩
   ·have:=aload_rep (off:=0) (n:=P.cellsOf T) (agg:=aggB P T) hrl hone (by omega) h1
    have hfull : ((List.range x.cells.length).map cell).take (P.cellsOf T) = (List.range x.cells.length).map cell:=List.take_of_length_le (by simp [hlen])
    have ha : aload x 0 (P.cellsOf T) (aggB P T) = x:=by simp [aload,hlen,hst]
    rw [List.drop_zero,hfull,ha] at this
    exact this
   ·intro j v hj
    have hjl : j < x.cells.length:=by
     have:=(List.getElem?_eq_some_iff.1 hj).1
     simpa using this
    rw [List.getElem?_map,List.getElem?_range hjl] at hj
    simp at hj
    subst hj
    exact he _ _ _ (hH j _ (List.getElem?_eq_getElem hjl))
 ·exact h.elim
end
end Go.Am
end
section
namespace Go.Am
open Go.RowKit
section
variable {P : Program} {w : World} {H : Heap} {ρ : Rho} {bf : Nat → Option Ct}
theorem part_cells {y : AV} {off n : Nat} {agg : Bool} (hn : off + n ≤ y.cells.length) (ha : agg = true ∨ n = 1) (h1 : oneAll y) : (y.part off n agg).cells = (y.cells.drop off).take n:=by
 cases agg with
 |true=>simp [AV.part,AV.cells]
 |false =>
  have hn1 : n = 1:=by simpa using ha
  subst hn1
  simp only [AV.part,Bool.false_eq_true,if_false]
  have hlt : off < y.cells.length:=by omega
  rw [List.drop_eq_getElem_cons hlt]
  simp only [List.headD_cons,List.take_succ_cons,List.take_zero]
  exact AV.one_cells (h1 _ (List.getElem_mem hlt))
theorem ep_part {y : AV} {v : Value} {off n : Nat} {agg : Bool} (hr : Rep H ρ (.ep y) v) (hn : off + n ≤ y.cells.length) (ha : agg = true ∨ n = 1) :
 ∃ b o,v = .pointer (some ⟨b,o,none⟩) ∧ Rep H ρ (.ep (y.part off n agg)) (.pointer (some ⟨b,o + off,none⟩)):=by
 cases hr with
 |ep cell hone hH hrep =>
  rename_i b o
  have hc:=part_cells hn ha hone
  refine ⟨b,o,rfl,.ep (fun j=>cell (off + j)) ?_ ?_ ?_⟩
  ·intro c hc'
   rw [hc] at hc'
   exact hone c (mem_drop_take hc')
  ·intro j c hj
   rw [hc,List.getElem?_take] at hj
   split at hj
   ·rw [List.getElem?_drop] at hj
    rw [Nat.add_assoc]
    exact hH _ c hj
   ·cases hj
  ·intro j c hj
   rw [hc,List.getElem?_take] at hj
   split at hj
   ·rw [List.getElem?_drop] at hj
    exact hrep _ c hj
   ·cases hj
theorem run_fieldAt {T : TypeId} {fs : Array Field} {f : Nat} {fld : Field} {b o : Nat} (hT : P.underlying T = some (.struct fs)) (hf : fs[f]? = some fld) (hok : okT P fld.type = true) (hs : P.cellsOf fld.type ≠ 0) :
 (Instr.fieldAt T (.pointer (some ⟨b,o,none⟩)) f).run P w = .ok (.pointer (some ⟨b,o + fld.offset,none⟩)) w:=by
 simp [Instr.fieldAt,run_underlying hT,hf,Instr.sureAddr,fieldPlace,run_sizeOf' hok,hs,Addr.add_mk]
theorem qfaddr_sound {T : TypeId} {x : AV} {v : Value} {f : Nat} {cont : AV → Prop} (hr : Rep H ρ x v) (h : qfaddr P T x f cont) :
 ∃ y u,cont y ∧ Rep H ρ y u ∧ (Instr.fieldAt T v f).run P w = .ok u w:=by
 unfold qfaddr at h
 split at h
 ·rename_i fs hT
  split at h
  ·rename_i fld hf
   obtain ⟨⟨hok,hs⟩,h⟩:=h
   split at h
   ·cases hr with
    |loc hρ=>exact ⟨_,_,h,.loc hρ,run_fieldAt hT hf hok hs⟩
   ·cases hr with
    |eloc hρ =>
     refine ⟨_,_,h,.eloc hρ,?_⟩
     rw [run_fieldAt hT hf hok hs,Nat.add_assoc]
   ·rename_i y
    obtain ⟨⟨hn,ha⟩,hk⟩:=h
    obtain ⟨b,o,rfl,hrep⟩:=ep_part hr hn ha
    exact ⟨_,_,hk,hrep,run_fieldAt hT hf hok hs⟩
   ·exact h.elim
  ·exact h.elim
 ·exact h.elim
theorem run_indexAt_slice {T e : TypeId} {ik : IntKind} {n : Int} {b o m cap : Nat} (hT : P.underlying T = some (.slice e)) (hok : okT P e = true) (h0 : 0 ≤ n) (h1 : n < m) :
 (Instr.indexAt T (.slice (some ⟨b,o,none⟩) m cap) (.int ik n)).run P w = .ok (.pointer (some ⟨b,o + n.toNat * P.cellsOf e,none⟩)) w:=by
 simp [Instr.indexAt,asIntOf,run_underlying hT,h0,h1,run_sizeOf' hok,Addr.add_mk]
theorem run_indexAt_array {T e : TypeId} {ik : IntKind} {n : Int} {b o len : Nat} (hT : P.underlying T = some (.array len e)) (hok : okT P e = true) (h0 : 0 ≤ n) (h1 : n < len) :
 (Instr.indexAt T (.pointer (some ⟨b,o,none⟩)) (.int ik n)).run P w = .ok (.pointer (some ⟨b,o + n.toNat * P.cellsOf e,none⟩)) w:=by
 simp [Instr.indexAt,asIntOf,run_underlying hT,h0,h1,run_sizeOf' hok,Addr.add_mk,Instr.sureAddr]
theorem qiaddr_sound {T : TypeId} {x i : AV} {v u : Value} {cont : AV → Prop} (hr : Rep H ρ x v) (hi : Rep H ρ i u) (h : qiaddr P T x i cont) :
 ∃ y r,cont y ∧ Rep H ρ y r ∧ (Instr.indexAt T v u).run P w = .ok r w:=by
 unfold qiaddr at h
 split at h
 ·rename_i e ik n hT
  rw [hi.v_inv]
  obtain ⟨hok,h⟩:=h
  split at h
  ·rename_i k xs
   obtain ⟨hk,⟨h0,h1⟩,hc⟩:=h
   have hlt : n.toNat < xs.length:=by omega
   cases hr with
   |slNil=>simp at hlt
   |sl cell hcap hmax hkk hone hH hrep =>
    rename_i b o cap
    refine ⟨_,_,hc,?_,run_indexAt_slice hT hok h0 h1⟩
    have hx : xs[n.toNat]? = some (xs.getD n.toNat .u):=by simp [hlt]
    rw [hk]
    exact .ep (fun j=>cell n.toNat j) (hone _ (List.mem_of_getElem? hx)) (fun j c hj=>by rw [Nat.add_assoc];have:=hH _ j _ c hx hj;rw [Nat.add_assoc] at this;exact this) (fun j c hj=>hrep _ j _ c hx hj)
  ·rename_i id k off m
   obtain ⟨hk,⟨h0,h1⟩,hc⟩:=h
   cases hr with
   |ownNil=>omega
   |own hρ hn hm =>
    refine ⟨_,_,hc,?_,run_indexAt_slice hT hok h0 h1⟩
    have:=Rep.eloc (H:=H) (ρ:=ρ) (k:=k) (i:=off + n.toNat) (off:=0) hρ
    rw [hk,← Nat.add_mul]
    exact this
  ·exact h.elim
 ·rename_i len e ik n hT
  rw [hi.v_inv]
  obtain ⟨hok,h⟩:=h
  split at h
  ·obtain ⟨⟨h0,h1⟩,hc⟩:=h
   cases hr with
   |loc hρ=>exact ⟨_,_,hc,.loc hρ,run_indexAt_array hT hok h0 h1⟩
  ·obtain ⟨⟨h0,h1⟩,⟨hn,ha⟩,hc⟩:=h
   obtain ⟨b,o,rfl,hrep⟩:=ep_part hr hn ha
   exact ⟨_,_,hc,hrep,run_indexAt_array hT hok h0 h1⟩
  ·exact h.elim
 ·exact h.elim
theorem valOf_take {T : TypeId} {vs : List Value} {off : Nat} (h1 : aggB P T = true ∨ P.cellsOf T = 1) :
 valOf P T ((vs.drop off).take (P.cellsOf T)) = (if aggB P T then .agg ((vs.drop off).take (P.cellsOf T)).toArray else (vs.drop off).headD undef):=by
 unfold valOf
 cases ha : aggB P T with
 |true=>rfl
 |false =>
  have : P.cellsOf T = 1:=by simpa [ha] using h1
  rw [this]
  cases vs.drop off <;> rfl
theorem isSt_inv {x : AV} {v : Value} (hr : Rep H ρ x v) (h : x.isSt = true) : ∃ vs,v = .agg (List.toArray vs) ∧ RepL H ρ x.cells vs ∧ oneAll x:=by
 cases hr with
 |st hl h1 hh=>exact ⟨_,rfl,⟨hl,hh⟩,h1⟩
 |_=>simp [AV.isSt] at h
theorem qfield_sound {T : TypeId} {x : AV} {v : Value} {f : Nat} {cont : AV → Prop} (hr : Rep H ρ x v) (h : qfield P T x f cont) :
 ∃ y u,cont y ∧ Rep H ρ y u ∧ (Instr.field T v f).run P w = .ok u w:=by
 unfold qfield at h
 split at h
 ·rename_i fs hT
  split at h
  ·rename_i fld hf
   obtain ⟨hst,⟨hok,hn,ha⟩,hk⟩:=h
   obtain ⟨vs,rfl,hrep,hone⟩:=isSt_inv hr hst
   refine ⟨_,_,hk,part_rep hrep hone hn ha,?_⟩
   have:=run_part (P:=P) (w:=w) (xs:=vs) (off:=fld.offset) hok ha (by rw [← hrep.1];exact hn)
   rw [valOf_take ha] at this
   simp only [Instr.field,Sem.run_bind,run_underlying hT,Result.andThen_ok,hf,asAgg,Sem.run_pure]
   exact this
  ·exact h.elim
 ·exact h.elim
theorem qindex_sound {T : TypeId} {x i : AV} {v u : Value} {cont : AV → Prop} (hr : Rep H ρ x v) (hi : Rep H ρ i u) (h : qindex P T x i cont) :
 ∃ y r,cont y ∧ Rep H ρ y r ∧ (Instr.index T v u).run P w = .ok r w:=by
 unfold qindex at h
 split at h
 ·rename_i s ik n hT
  rw [hr.v_inv,hi.v_inv]
  obtain ⟨⟨h0,h1⟩,hk⟩:=h
  refine ⟨_,_,hk,.v rfl,?_⟩
  have hlt : n.toNat < s.size:=by omega
  have hlt' : n.toNat < s.data.toList.length:=by simpa using hlt
  have e1 : s[n.toNat]? = some (s.data.toList.getD n.toNat 0):=by
   rw [List.getD_eq_getElem?_getD,List.getElem?_eq_getElem hlt',Option.getD_some]
   rw [getElem?_pos s n.toNat hlt]
   rfl
  simp only [Instr.index,asIntOf,Sem.run_bind,Sem.run_pure,Result.andThen_ok,run_underlying hT,if_pos h0,e1]
 ·rename_i len e cs ik n hT
  rw [hi.v_inv]
  obtain ⟨⟨hok,h0,h1,hn,ha⟩,hk⟩:=h
  obtain ⟨vs,rfl,hrep,hone⟩:=isSt_inv hr rfl
  refine ⟨_,_,hk,part_rep hrep hone hn ha,?_⟩
  have:=run_part (P:=P) (w:=w) (xs:=vs) (off:=n.toNat * P.cellsOf e) hok ha (by rw [← hrep.1];exact hn)
  rw [valOf_take ha] at this
  simp only [Instr.index,asIntOf,Sem.run_bind,Sem.run_pure,Result.andThen_ok,run_underlying hT,h0,h1,and_self,if_true,run_sizeOf' hok]
  exact this
 ·exact h.elim
theorem qun_sound {op : UnOp} {x : AV} {v : Value} {cont : AV → Prop} (hr : Rep H ρ x v) (h : qun op x cont) : ∃ y u,cont y ∧ Rep H ρ y u ∧ (Op.unary op v).run P w = .ok u w:=by
 unfold qun at h
 split at h
 ·rw [hr.v_inv];exact ⟨_,_,h,.v rfl,rfl⟩
 ·rw [hr.v_inv];exact ⟨_,_,arith_sound h,.v rfl,rfl⟩
 ·exact h.elim
theorem qconv_sound {src dst : TypeId} {x : AV} {v : Value} {cont : AV → Prop} (hr : Rep H ρ x v) (h : qconv P src dst x cont) : ∃ y u,cont y ∧ Rep H ρ y u ∧ (convert src dst v).run P w = .ok u w:=by
 obtain ⟨hs,h⟩:=h
 unfold okT at hs
 obtain ⟨ds,hs⟩:=Option.isSome_iff_exists.1 hs
 split at h
 ·rename_i k k' n hd
  rw [hr.v_inv]
  refine ⟨_,_,h,.v rfl,?_⟩
  simp only [convert,Sem.run_bind,run_underlying hs,run_underlying hd,Result.andThen_ok]
  cases ds <;> rfl
 ·rename_i s hd
  rw [hr.v_inv]
  refine ⟨_,_,h,.v rfl,?_⟩
  simp only [convert,Sem.run_bind,run_underlying hs,run_underlying hd,Result.andThen_ok]
  cases ds <;> rfl
 ·exact h.elim
theorem set_seg : ∀ (new : List Value) (j off : Nat) (arr : Array Value),off + j + new.length ≤ arr.size →
 ((new.zipIdx j).foldl (fun (cs : Array Value) (x : Value × Nat)=>cs.setIfInBounds (off + x.2) x.1) arr).toList = arr.toList.take (off + j) ++ (new ++ arr.toList.drop (off + j + new.length))
 |[],j,off,arr,_=>by simp
 |v :: new,j,off,arr,h=>by
  simp only [List.length_cons] at h
  rw [List.zipIdx_cons,List.foldl_cons,set_seg new (j + 1) off _ (by simp;omega)]
  have hlt : off + j < arr.toList.length:=by simp;omega
  simp only [Array.toList_setIfInBounds,List.length_cons]
  rw [show off + (j + 1) = (off + j) + 1 by omega]
  have e1 : (arr.toList.set (off + j) v).take (off + j + 1) = arr.toList.take (off + j) ++ [v]:=by
   rw [List.take_succ_eq_append_getElem (by simpa using hlt)]
   simp [List.take_set_of_le]
  have e2 : (arr.toList.set (off + j) v).drop (off + j + 1 + new.length) = arr.toList.drop (off + j + (new.length + 1)):=by
   rw [List.drop_set_of_lt (by omega)]
   congr 1
   omega
  rw [e1,e2]
  simp
theorem RepL.setPart {cs : List AV} {vs : List Value} {off : Nat} {new : List AV} {nv : List Value} (h : RepL H ρ cs vs) (hn : RepL H ρ new nv) :
 RepL H ρ (setPart cs off new) (vs.take off ++ (nv ++ vs.drop (off + nv.length))):=by
 unfold Am.setPart
 rw [hn.1]
 exact (h.take off).append (hn.append (h.drop _))
theorem setPart_one {cs : List AV} {off : Nat} {new : List AV} (h : ∀ c ∈ cs,c.one = true) (hn : ∀ c ∈ new,c.one = true) : ∀ c ∈ setPart cs off new,c.one = true:=by
 intro c hc
 unfold Am.setPart at hc
 simp only [List.mem_append] at hc
 rcases hc with hc|hc|hc
 ·exact h c (List.mem_of_mem_take hc)
 ·exact hn c hc
 ·exact h c (List.mem_of_mem_drop hc)
theorem setPart_len {cs : List AV} {off : Nat} {new : List AV} (h : off + new.length ≤ cs.length) : (setPart cs off new).length = cs.length:=by
 unfold Am.setPart
 simp only [List.length_append,List.length_take,List.length_drop]
 omega
def PartsRep (H : Heap) (ρ : Rho) : List (Nat × AV) → List (Nat × Value) → Prop
 |[],[]=>True
 |(i,x) :: l,(j,v) :: m=>i = j ∧ Rep H ρ x v ∧ PartsRep H ρ l m
 |_,_=>False
theorem fill_sound {place place' : Nat → Option (Nat × Nat)} (hp : ∀ i,place i = place' i) : ∀ (parts : List (Nat × AV)) (vparts : List (Nat × Value)) (cs : List AV) (arr : Array Value) (cont : List AV → Prop),PartsRep H ρ parts vparts → RepL H ρ cs arr.toList →
 (∀ c ∈ cs,c.one = true) → buildK place cs parts cont → ∃ cs' arr',cont cs' ∧ Instr.fill place' arr vparts = some arr' ∧ RepL H ρ cs' arr'.toList ∧ (∀ c ∈ cs',c.one = true)
 |[],[],cs,arr,cont,_,hr,h1,h=>⟨cs,arr,h,rfl,hr,h1⟩
 |[],_ :: _,_,_,_,hpr,_,_,_=>hpr.elim
 |_ :: _,[],_,_,_,hpr,_,_,_=>hpr.elim
 |(i,x) :: rest,(j,v) :: vrest,cs,arr,cont,hpr,hr,h1,h=>by
  obtain ⟨rfl,hx,hrest⟩:=hpr
  simp only [buildK] at h
  split at h
  ·rename_i off sz hpl
   obtain ⟨⟨hsto,hlen,hfit⟩,h⟩:=h
   obtain ⟨hcl,hone⟩:=hx.cellsL hsto
   have hvl : v.cells.toList.length = sz:=by rw [← hcl.1];exact hlen
   have hsz : arr.toList.length = cs.length:=hr.1.symm
   have hseg:=set_seg v.cells.toList 0 off arr (by rw [hvl];simp only [Array.length_toList] at hsz;omega)
   have hz : v.cells.zipIdx.foldl (fun cs (x : Value × Nat)=>cs.setIfInBounds (off + x.2) x.1) arr = (v.cells.toList.zipIdx 0).foldl (fun (cs : Array Value) (x : Value × Nat)=>cs.setIfInBounds (off + x.2) x.1) arr:=by
    rw [← Array.foldl_toList,Array.toList_zipIdx]
   have hrep':=hr.setPart (off:=off) hcl
   simp only [Nat.add_zero] at hseg
   rw [← hseg] at hrep'
   obtain ⟨cs',arr',hc,hf,hr',h1'⟩:=fill_sound hp rest vrest _ _ cont hrest hrep' (setPart_one h1 hone) h
   refine ⟨cs',arr',hc,?_,hr',h1'⟩
   simp only [Instr.fill,← hp,hpl]
   rw [if_neg]
   ·rw [hz];exact hf
   ·simp only [Array.length_toList] at hvl hsz
    simp [hvl]
    omega
  ·exact h.elim
theorem zeroAV_inv {T : TypeId} {z : AV} (h : zeroAV P T = some z) : ∃ i v,P.info? T = some i ∧ i.zero = some v ∧ z = ofVal v:=by
 unfold zeroAV at h
 cases hi : P.info? T with
 |none=>rw [hi] at h;simp at h
 |some i =>
  rw [hi] at h
  cases hz : i.zero with
  |none=>simp [hz] at h
  |some v=>simp [hz] at h;exact ⟨i,v,rfl,hz,h.symm⟩
theorem run_zeroValue' {T : TypeId} {z : AV} (h : zeroAV P T = some z) (w : World) : ∃ v,(zeroValue T).run P w = .ok v w ∧ (∀ (H : Heap) (ρ : Rho),Rep H ρ z v) ∧ ∃ i,P.info? T = some i ∧ i.zero = some v:=by
 obtain ⟨i,v,hi,hz,rfl⟩:=zeroAV_inv h
 exact ⟨v,by simp [zeroValue,typeInfo,hi,hz],fun H ρ=>Rep.ofVal v,i,hi,hz⟩
theorem mapM_places {fs : List Field} (h : fs.all (fun f=>okT P f.type) = true) (w : World) :
 ((fs.mapM fun f=>do pure (f.offset,← Go.sizeOf f.type) : Sem (List (Nat × Nat)))).run P w = .ok (fs.map fun f=>(f.offset,P.cellsOf f.type)) w:=by
 induction fs with
 |nil=>simp
 |cons f fs ih =>
  simp only [List.all_cons,Bool.and_eq_true] at h
  simp only [List.mapM_cons,Sem.run_bind,run_sizeOf' h.1,Result.andThen_ok,Sem.run_pure,ih h.2,List.map_cons]
theorem mapM_placesA {fs : Array Field} (h : fs.toList.all (fun f=>okT P f.type) = true) (w : World) :
 ((fs.mapM fun f=>do pure (f.offset,← Go.sizeOf f.type) : Sem (Array (Nat × Nat)))).run P w = .ok (fs.map fun f=>(f.offset,P.cellsOf f.type)) w:=by
 obtain ⟨l⟩:=fs
 have:=mapM_places (P:=P) (fs:=l) (by simpa using h) w
 simp only [List.mapM_toArray,Sem.run_map,this]
 simp
theorem qbuild_sound {T : TypeId} {parts : List (Nat × AV)} {vparts : Array (Nat × Value)} {cont : AV → Prop} (hp : PartsRep H ρ parts vparts.toList) (h : qbuild P T parts cont) :
 ∃ y u,cont y ∧ Rep H ρ y u ∧ (Instr.build T vparts).run P w = .ok u w:=by
 unfold qbuild at h
 split at h
 ·rename_i cs hz
  obtain ⟨hT,h⟩:=h
  obtain ⟨zv,hzr,hzrep,_⟩:=run_zeroValue' hz w
  obtain ⟨zs,rfl,hzl,hz1⟩:=isSt_inv (hzrep H ρ) rfl
  split at h
  ·rename_i fs hu
   obtain ⟨hok,h⟩:=h
   obtain ⟨cs',arr',hc,hf,hr',h1'⟩:=fill_sound (H:=H) (ρ:=ρ) (place':=((fs.map fun f=>(f.offset,P.cellsOf f.type))[·]?)) (fun i=>by simp [fplace]) parts vparts.toList cs zs.toArray (fun cs'=>cont (.st cs')) hp (show RepL H ρ cs zs.toArray.toList from hzl) hz1 h
   refine ⟨_,_,hc,Rep.st' (vs:=arr'.toList) hr' h1',?_⟩
   simp only [Instr.build,Sem.run_bind,hzr,Result.andThen_ok,run_underlying hu,mapM_placesA hok,Value.cells,hf,Sem.run_pure]
  ·rename_i len e hu
   obtain ⟨hok,h⟩:=h
   obtain ⟨cs',arr',hc,hf,hr',h1'⟩:=fill_sound (H:=H) (ρ:=ρ) (fun i=>rfl) parts vparts.toList cs zs.toArray (fun cs'=>cont (.st cs')) hp (show RepL H ρ cs zs.toArray.toList from hzl) hz1 h
   refine ⟨_,_,hc,Rep.st' (vs:=arr'.toList) hr' h1',?_⟩
   simp only [Instr.build,Sem.run_bind,hzr,Result.andThen_ok,run_underlying hu,run_sizeOf' hok,Value.cells,hf,Sem.run_pure]
  ·exact h.elim
 ·exact h.elim
end
end Go.Am
end
section
namespace Go.Am
open Go.RowKit
section
variable {P : Program} {H : Heap} {ρ : Rho}
theorem run_checkKey : ∀ (n : Nat) (T : TypeId) (ks : List SK),kinds P n T = some ks → ∀ (d : Nat),n ≤ d → ∀ (e : Bool) (xs ys : List Value) (r : Bool) (w : World),
 eqCells ks xs ys = some r → (Instr.checkKey e d T (valOf P T xs)).run P w = .ok () w:=by
 intro n
 induction n with
 |zero=>intro T ks h;simp [kinds] at h
 |succ n ih =>
  intro T ks h d hd e xs ys r w he
  obtain ⟨d,rfl⟩ : ∃ d',d = d' + 1:=⟨d - 1,by omega⟩
  simp only [kinds] at h
  cases hu : P.underlying T with
  |none=>rw [hu] at h;simp at h
  |some de =>
   rw [hu] at h
   cases de <;> simp only at h <;> try (cases h;done)
   case bool=>simp only [Instr.checkKey,Sem.run_bind,run_underlying hu,Result.andThen_ok];rfl
   case int k=>simp only [Instr.checkKey,Sem.run_bind,run_underlying hu,Result.andThen_ok];rfl
   case string=>simp only [Instr.checkKey,Sem.run_bind,run_underlying hu,Result.andThen_ok];rfl
   case struct fs =>
    split at h
    ·cases h
    ·have ha : aggB P T = true:=by simp [aggB,hu]
     simp only [valOf,ha,if_true]
     simp only [Instr.checkKey,Sem.run_bind,run_underlying hu,Result.andThen_ok]
     rw [← Array.forIn_toList]
     have key : ∀ (l : List Field) (off : Nat) (ks : List SK) (r : Bool),kindsF (kinds P n) P.cellsOf l off = some ks → off + ks.length = xs.length → off + ks.length = ys.length →
      eqCells ks (xs.drop off) (ys.drop off) = some r →
      Sem.run P (forIn l PUnit.unit fun f _=>if f.name ≠ "_" then do
       let __do_lift ← part f.type xs.toArray f.offset
       Instr.checkKey e d f.type __do_lift
       pure (ForInStep.yield PUnit.unit) else pure (ForInStep.yield PUnit.unit)) w = .ok PUnit.unit w:=by
      intro l
      induction l with
      |nil=>intro off ks r hk hx hy he;simp
      |cons f l ihl =>
       intro off ks r hk hx hy he
       simp only [kindsF] at hk
       split at hk
       ·cases hk
       ·rename_i hno
        simp only [Bool.or_eq_true,beq_iff_eq,bne_iff_ne,ne_eq,not_or,Decidable.not_not] at hno
        obtain ⟨hname,hoff⟩:=hno
        split at hk
        ·rename_i a hka
         split at hk
         ·rename_i hal
          cases hr : kindsF (kinds P n) P.cellsOf l (off + P.cellsOf f.type) with
          |none=>rw [hr] at hk;simp at hk
          |some b =>
           rw [hr] at hk
           simp at hk
           subst hk
           obtain ⟨r1,r2,h1,h2,h3⟩:=eqCells_append he
           have hok:=kinds_ok hka
           have hone:=kinds_one hka hal
           simp only [List.length_append] at hx hy
           have p1:=run_part (P:=P) (w:=w) (xs:=xs) (off:=off) hok hone (by omega)
           have e1:=ih f.type a hka d (by omega) e _ _ r1 w h1
           rw [hal] at e1 h2
           have e2:=ihl (off + P.cellsOf f.type) b r2 hr (by omega) (by omega) (by simpa [List.drop_drop] using h2)
           simp only [List.forIn_cons,hname,ne_eq,not_false_eq_true,if_true,Sem.run_bind,hoff,p1,e1,Result.andThen_ok,Sem.run_pure]
           exact e2
         ·cases hk
        ·cases hk
     have hl:=eqCells_len he
     have:=key fs.toList 0 ks r h (by omega) (by omega) (by simpa using he)
     rw [this]
     rfl
def findV (ks : List SK) (xs : List Value) (P : Program) (T : TypeId) : List MapEntry → Nat → Option (Nat × Value)
 |[],_=>none
 |e :: es,i=>if eqCells ks xs e.key.cells.toList = some true then some (i,e.val) else findV ks xs P T es (i + 1)
def keyFit (P : Program) (T : TypeId) (ks : List SK) (xs : List Value) (e : MapEntry) : Prop :=
 e.key = valOf P T e.key.cells.toList ∧ (eqCells ks xs e.key.cells.toList).isSome = true
theorem run_findAsking {T : TypeId} {ks : List SK} (hk : kinds P 12 T = some ks) {xs : List Value} (w : World) : ∀ (es : List MapEntry) (i : Nat),(∀ e ∈ es,keyFit P T ks xs e) →
 (Instr.findAsking T (valOf P T xs) es i).run P w = .ok (findV ks xs P T es i) w
 |[],i,_=>rfl
 |e :: es,i,h=>by
  obtain ⟨h1,h2⟩:=h e (by simp)
  obtain ⟨r,hr⟩:=Option.isSome_iff_exists.1 h2
  have he : (Op.equal T (valOf P T xs) e.key).run P w = .ok r w:=by
   rw [h1]
   exact run_equalIn_kinds 12 T ks hk 10000 (by omega) xs _ r w hr
  have ih:=run_findAsking hk w es (i + 1) (fun e' he'=>h e' (List.mem_cons_of_mem _ he'))
  simp only [Instr.findAsking,Sem.run_bind,he,Result.andThen_ok,findV,hr]
  cases r
  ·simpa using ih
  ·simp
theorem findNow_eq {T : TypeId} {ks : List SK} (hk : kinds P 12 T = some ks) {xs : List Value} {kd : TypeDesc} (hu : P.underlying T = some kd) : ∀ (es : List MapEntry) (i : Nat),(∀ e ∈ es,keyFit P T ks xs e) →
 Instr.findNow kd (valOf P T xs) es i = none ∨ Instr.findNow kd (valOf P T xs) es i = some (findV ks xs P T es i)
 |[],i,_=>.inr rfl
 |e :: es,i,h=>by
  obtain ⟨h1,h2⟩:=h e (by simp)
  obtain ⟨r,hr⟩:=Option.isSome_iff_exists.1 h2
  have ih:=findNow_eq hk hu es (i + 1) (fun e' he'=>h e' (List.mem_cons_of_mem _ he'))
  have hsame : Instr.sameNow kd (valOf P T xs) e.key = none ∨ Instr.sameNow kd (valOf P T xs) e.key = some r:=by
   simp only [kinds,hu] at hk
   have single : ∀ k : SK,ks = [k] → aggB P T = false → ∃ x y,valOf P T xs = x ∧ e.key = y ∧ eq1 k x y = some r:=by
    intro k hk ha
    subst hk
    obtain ⟨hx,hy⟩:=eqCells_len hr
    rw [h1]
    generalize e.key.cells.toList = ys at hr hy
    match xs,ys,hx,hy with
    |[x],[y],_,_ =>
     refine ⟨x,y,by simp [valOf,ha],by simp [valOf,ha],?_⟩
     simp only [eqCells] at hr
     split at hr
     ·rename_i a h1;simp at hr;rw [h1,hr]
     ·cases hr
   cases kd <;> simp only at hk <;> try (cases hk;done)
   case bool =>
    obtain ⟨x,y,hx,hy,h1⟩:=single .b (by simpa using hk.symm) (by simp [aggB,hu])
    rw [hx,hy]
    cases x <;> cases y <;> simp [eq1] at h1
    right;simp [Instr.sameNow,h1]
   case int k =>
    obtain ⟨x,y,hx,hy,h1⟩:=single .i (by simpa using hk.symm) (by simp [aggB,hu])
    rw [hx,hy]
    cases x <;> cases y <;> simp only [eq1,reduceCtorEq] at h1
    split at h1
    ·rename_i e;subst e
     right
     simp at h1;rw [← h1]
     simp [Instr.sameNow]
     rfl
    ·cases h1
   case string =>
    obtain ⟨x,y,hx,hy,h1⟩:=single .s (by simpa using hk.symm) (by simp [aggB,hu])
    rw [hx,hy]
    cases x <;> cases y <;> simp only [eq1,reduceCtorEq] at h1
    right
    simp at h1;rw [← h1]
    simp [Instr.sameNow,ba_beq]
   case struct fs=>left;rfl
  simp only [Instr.findNow,findV,hr]
  rcases hsame with hs|hs
  ·left;rw [hs]
  ·rw [hs]
   cases r
   ·simpa using ih
   ·simp
theorem run_findKey {T : TypeId} {ks : List SK} (hk : kinds P 12 T = some ks) {xs : List Value} (w : World) {es : List MapEntry} (h : ∀ e ∈ es,keyFit P T ks xs e) :
 (Instr.findKey T (valOf P T xs) es).run P w = .ok (findV ks xs P T es 0) w:=by
 have hok:=kinds_ok hk
 unfold okT at hok
 obtain ⟨kd,hu⟩:=Option.isSome_iff_exists.1 hok
 unfold Instr.findKey
 simp only [Sem.run_bind,run_underlying hu,Result.andThen_ok]
 rcases findNow_eq hk hu es 0 h with hn|hn
 ·rw [hn];exact run_findAsking hk w es 0 h
 ·rw [hn];rfl
theorem valOf_cells {T : TypeId} {x : AV} {v : Value} (hr : Rep H ρ x v) (hs : x.isSt = aggB P T) (hsto : x.sto = true) : v = valOf P T v.cells.toList ∧ RepL H ρ x.cells v.cells.toList:=by
 obtain ⟨hc,_⟩:=hr.cellsL hsto
 refine ⟨?_,hc⟩
 cases hx : x.isSt with
 |true =>
  obtain ⟨vs,rfl,_,_⟩:=isSt_inv hr hx
  rw [hx] at hs
  simp [valOf,← hs,Value.cells]
 |false =>
  have h1 : x.one = true:=by cases x <;> simp_all [AV.isSt,AV.one,AV.sto]
  have:=okV_cells (hr.okV h1)
  rw [hx] at hs
  simp [valOf,← hs,this]
theorem find_agree {ks : List SK} {T : TypeId} {key : AV} {kx : List Value} (hkey : RepL H ρ key.cells kx) : ∀ (es : List (AV × AV)) (ents : List MapEntry) (i : Nat),RepL H ρ (es.map (·.1)) (ents.map (·.key)) → RepL H ρ (es.map (·.2)) (ents.map (·.val)) →
 keysOK ks (aggB P T) key es → (∀ e ∈ ents,keyFit P T ks kx e) ∧ ((findA ks key es = none ∧ findV ks kx P T ents i = none) ∨ ∃ x j v,findA ks key es = some x ∧ findV ks kx P T ents i = some (j,v) ∧ Rep H ρ x v)
 |[],ents,i,hk,_,_=>by
  have : ents = []:=by simpa using hk.nil_inv
  subst this
  exact ⟨by simp,.inl ⟨rfl,rfl⟩⟩
 |(k,v) :: es,[],i,hk,_,_=>by have:=hk.1;simp at this
 |(k,v) :: es,e :: ents,i,hk,hv,hok=>by
  obtain ⟨⟨hsome,hst,hsto⟩,hrest⟩:=hok
  obtain ⟨ek,ks',hek,hk1,hk2⟩:=hk.cons_inv
  obtain ⟨ev,vs',hev,hv1,hv2⟩:=hv.cons_inv
  simp only [List.map_cons,List.cons.injEq] at hek hev
  obtain ⟨rfl,rfl⟩:=hek
  obtain ⟨rfl,rfl⟩:=hev
  obtain ⟨r,hr⟩:=Option.isSome_iff_exists.1 hsome
  obtain ⟨hval,hcl⟩:=valOf_cells (P:=P) (T:=T) hk1 hst hsto
  have he:=eqA_rep hkey hcl hr
  have ih:=find_agree (T:=T) hkey es ents (i + 1) hk2 hv2 hrest
  refine ⟨fun e' he'=>?_,?_⟩
  ·rcases List.mem_cons.1 he' with rfl|he'
   ·exact ⟨hval,by rw [he];rfl⟩
   ·exact ih.1 e' he'
  ·simp only [findA,findV,hr,he]
   cases r
   ·simpa using ih.2
   ·right;exact ⟨v,i,e.val,by simp,by simp,hv1⟩
end
end Go.Am
end
section
namespace Go.Am
open Go.RowKit
section
variable {P : Program} {w : World} {H : Heap} {ρ : Rho} {bf : Nat → Option Ct}
theorem flat_set {k : Nat} : ∀ {es : List AV} {i : Nat} {x : AV},(∀ e ∈ es,e.cells.length = k) → x.cells.length = k → i < es.length →
 (es.set i x).flatMap AV.cells = setPart (es.flatMap AV.cells) (i * k) x.cells
 |[],i,x,_,_,h=>by simp at h
 |e :: es,0,x,he,hx,_=>by
  have h1:=he e (by simp)
  simp only [List.set_cons_zero,List.flatMap_cons,Am.setPart,Nat.zero_mul,List.take_zero,List.nil_append,Nat.zero_add]
  rw [hx,← h1,List.drop_left]
 |e :: es,i + 1,x,he,hx,hi=>by
  have h1:=he e (by simp)
  have ih:=flat_set (i:=i) (fun z hz=>he z (List.mem_cons_of_mem _ hz)) hx (by simpa using hi)
  simp only [List.set_cons_succ,List.flatMap_cons,ih,Am.setPart]
  rw [show (i + 1) * k = e.cells.length + i * k by rw [h1,Nat.add_mul];omega,List.take_length_add_append,Nat.add_assoc,List.drop_length_add_append]
  simp
theorem buildK_elems {k len : Nat} : ∀ (parts : List (Nat × AV)) (es : List AV),es.length = len → (∀ e ∈ es,e.cells.length = k) → partsOK len k parts →
 buildK (fun i=>some (i * k,k)) (es.flatMap AV.cells) parts (fun cs=>cs = (fillElems es parts).flatMap AV.cells)
 |[],es,_,_,_=>rfl
 |(i,x) :: rest,es,hl,he,hp=>by
  obtain ⟨⟨hi,hs,hx⟩,hrest⟩:=hp
  have hfl:=flat_len he
  refine ⟨⟨hs,hx,?_⟩,?_⟩
  ·rw [hfl,hl]
   have:=Nat.mul_le_mul_right k (Nat.succ_le_of_lt hi)
   rw [Nat.succ_mul] at this
   exact this
  ·rw [← flat_set he hx (by omega)]
   exact buildK_elems rest (es.set i x) (by simpa using hl) (fun e hm=>by
    rcases List.mem_or_eq_of_mem_set hm with h|h
    ·exact he e h
    ·subst h;exact hx) hrest
theorem fillElems_all {Q : AV → Prop} : ∀ (parts : List (Nat × AV)) (es : List AV),(∀ e ∈ es,Q e) → (∀ p ∈ parts,Q p.2) → ∀ e ∈ fillElems es parts,Q e
 |[],es,h,_=>h
 |(i,x) :: rest,es,h,hp=>fillElems_all rest (es.set i x) (fun e hm=>by
    rcases List.mem_or_eq_of_mem_set hm with h'|h'
    ·exact h e h'
    ·subst h';exact hp (i,e) (by simp)) (fun p hm=>hp p (List.mem_cons_of_mem _ hm))
theorem fillElems_length : ∀ (parts : List (Nat × AV)) (es : List AV),(fillElems es parts).length = es.length
 |[],_=>rfl
 |(i,x) :: rest,es=>by rw [fillElems,fillElems_length rest];simp
theorem partsOK_mem {len k : Nat} : ∀ {parts : List (Nat × AV)},partsOK len k parts → ∀ p ∈ parts,p.2.sto = true ∧ p.2.cells.length = k
 |[],_,p,hp=>by simp at hp
 |(i,x) :: rest,h,p,hp=>by
  rcases List.mem_cons.1 hp with rfl|hp
  ·exact ⟨h.1.2.1,h.1.2.2⟩
  ·exact partsOK_mem h.2 p hp
theorem mentL_map_v (d : Nat) : ∀ (l : List Value),mentL d (l.map .v) = false
 |[]=>rfl
 |x :: l=>by simp [mentL,AV.ment,mentL_map_v d l]
theorem ofVal_ment (d : Nat) (v : Value) : (ofVal v).ment d = false:=by
 cases v with
 |agg vs =>
  simp only [ofVal]
  split
  ·simp only [AV.ment];exact mentL_map_v d _
  ·rfl
 |func f a b=>simp only [ofVal];split <;> simp [AV.ment,mentL]
 |tuple vs=>simp only [ofVal];split <;> simp [AV.ment,mentL]
 |_=>rfl
theorem zeroAV_ment {T : TypeId} {z : AV} (h : zeroAV P T = some z) (d : Nat) : z.ment d = false:=by
 obtain ⟨i,v,_,_,rfl⟩:=zeroAV_inv h
 exact ofVal_ment d v
theorem PartsRep.get : ∀ {l : List (Nat × AV)} {m : List (Nat × Value)},PartsRep H ρ l m → ∀ p ∈ l,∃ v,Rep H ρ p.2 v
 |[],[],_,p,hp=>by simp at hp
 |[],_ :: _,h,_,_=>h.elim
 |_ :: _,[],h,_,_=>h.elim
 |(i,x) :: l,(j,v) :: m,h,p,hp=>by
  rcases List.mem_cons.1 hp with rfl|hp
  ·exact ⟨v,h.2.1⟩
  ·exact PartsRep.get h.2.2 p hp
theorem mentL_false_of {d : Nat} : ∀ {cs : List AV},(∀ c ∈ cs,c.ment d = false) → mentL d cs = false
 |[],_=>rfl
 |c :: cs,h=>by simp [mentL,h c (by simp),mentL_false_of (fun x hx=>h x (List.mem_cons_of_mem _ hx))]
theorem flat_zero (zs : Array Value) (len : Nat) :
 ((Array.range (len * zs.size)).map (fun i=>zs[i % zs.size]!)).toList = (List.replicate len zs.toList).flatten:=by
 rw [Array.toList_map,Array.toList_range]
 induction len with
 |zero=>simp
 |succ n ih =>
  rw [Nat.succ_mul,List.range_add,List.map_append,ih,List.replicate_succ',List.flatten_append]
  congr 1
  simp only [List.map_map,List.flatten_cons,List.flatten_nil,List.append_nil]
  apply List.ext_getElem
  ·simp
  ·intro i h1 h2
   have hi : i < zs.size:=by simpa using h1
   simp only [List.getElem_map,List.getElem_range,Function.comp_apply,Array.getElem_toList]
   rw [show (n * zs.size + i) % zs.size = i by rw [Nat.mul_comm,Nat.mul_add_mod];exact Nat.mod_eq_of_lt hi]
   exact getElem!_pos zs i hi
theorem RepL.replicate {z : AV} {zs : List Value} (h : RepL H ρ z.cells zs) : ∀ len,RepL H ρ ((List.replicate len z).flatMap AV.cells) ((List.replicate len zs).flatten)
 |0=>by simpa using RepL.nil
 |n + 1=>by
  rw [List.replicate_succ,List.replicate_succ,List.flatMap_cons,List.flatten_cons]
  exact h.append (RepL.replicate h n)
theorem qbslice_sound {T : TypeId} {len d : Nat} {parts : List (Nat × AV)} {vparts : Array (Nat × Value)} {k : AV → Option Ct → Prop} (hp : PartsRep H ρ parts vparts.toList) (hm : ∀ p ∈ parts,p.2.ment d = false)
 (h : qbslice P T len parts d k) : ∃ x c u obj cap,k x (some c) ∧ Rep H (ρ.upd d (.at w.heap.size cap)) x u ∧ CtRep H (ρ.upd d (.at w.heap.size cap)) (w.alloc obj) (.at w.heap.size cap) c ∧ (Instr.buildSlice T len vparts).run P w = .ok u (w.alloc obj):=by
 unfold qbslice at h
 split at h
 ·rename_i e hT
  obtain ⟨⟨hok,hsz,hbig⟩,h⟩:=h
  split at h
  ·rename_i z hz
   obtain ⟨⟨hzs,hzl⟩,hpo,hk⟩:=h
   obtain ⟨zv,hzr,hzrep,_⟩:=run_zeroValue' hz w
   have hzc:=(hzrep H ρ).cellsL hzs
   have hes : ∀ e' ∈ List.replicate len z,e'.cells.length = P.cellsOf e:=fun e' he'=>by rw [(List.mem_replicate.1 he').2];exact hzl
   have hone0 : ∀ e' ∈ List.replicate len z,oneAll e':=fun e' he'=>by rw [(List.mem_replicate.1 he').2];exact hzc.2
   have hb:=buildK_elems parts (List.replicate len z) (by simp) hes hpo
   have hzsize : zv.cells.size = P.cellsOf e:=by have:=hzc.1.1;rw [hzl] at this;simpa using this.symm
   have hinit : RepL H ρ ((List.replicate len z).flatMap AV.cells) (((Array.range (len * P.cellsOf e)).map (fun i=>zv.cells[i % zv.cells.size]!)).toList):=by
    rw [← hzsize,flat_zero]
    exact RepL.replicate hzc.1 len
   have hone1 : ∀ c ∈ (List.replicate len z).flatMap AV.cells,c.one = true:=by
    intro c hc
    obtain ⟨e',he',hc'⟩:=List.mem_flatMap.1 hc
    exact hone0 e' he' c hc'
   obtain ⟨cs',arr',rfl,hf,hr',h1'⟩:=fill_sound (H:=H) (ρ:=ρ) (fun i=>rfl) parts vparts.toList _ _ _ hp hinit hone1 hb
   have hrun : (Instr.buildSlice T len vparts).run P w = .ok (.slice (some ⟨w.heap.size,0,none⟩) len len) (w.alloc (.cells arr' e)):=by
    have hbig' : ¬ len * P.cellsOf e > 2 ^ 24:=by omega
    simp only [Instr.buildSlice,Sem.run_bind,run_underlying hT,Result.andThen_ok,run_sizeOf' hok,hbig',if_false]
    by_cases h0 : len * P.cellsOf e = 0
    ·have hlen0 : len = 0:=by
      rcases Nat.mul_eq_zero.1 h0 with h|h
      ·exact h
      ·omega
     subst hlen0
     have hr0 : Array.range 0 = #[]:=rfl
     have hf' : Instr.fill (fun i=>some (i * P.cellsOf e,P.cellsOf e)) #[] vparts.toList = some arr':=by simpa [hr0] using hf
     simp [hr0,hf',newRow]
    ·simp [h0,hzr,hf,newRow]
   have hel : ∀ x ∈ fillElems (List.replicate len z) parts,x.cells.length = P.cellsOf e ∧ oneAll x:=by
    refine fillElems_all parts _ (fun e' he'=>⟨hes e' he',hone0 e' he'⟩) (fun p hp'=>⟨(partsOK_mem hpo p hp').2,?_⟩)
    obtain ⟨v,hv⟩:=hp.get p hp'
    exact (hv.cellsL (partsOK_mem hpo p hp').1).2
   have hmel : ∀ x ∈ fillElems (List.replicate len z) parts,x.ment d = false :=
    fillElems_all parts _ (fun e' he'=>by rw [(List.mem_replicate.1 he').2];exact zeroAV_ment hz d) hm
   have hlen : (fillElems (List.replicate len z) parts).length = len:=by rw [fillElems_length];simp
   have hlenmax : len ≤ maxLen:=by
    have:=Nat.le_mul_of_pos_right len hsz
    unfold maxLen;omega
   have hfl:=flat_len (k:=P.cellsOf e) (fun x hx=>(hel x hx).1)
   refine ⟨_,_,_,_,len,hk,?_,?_,hrun⟩
   ·have:=Rep.own (H:=H) (ρ:=ρ.upd d (.at w.heap.size len)) (id:=d) (k:=P.cellsOf e) (off:=0) (n:=len) (b:=w.heap.size) (cap:=len) (c:=len) (Rho.upd_same _ _ _) (by omega) hlenmax
    simpa using this
   ·refine .inr ⟨w.heap.size,len,arr',rfl,heap_alloc_new w _,hlenmax,by omega,?_,?_,hel⟩
    ·have:=hr'.1;rw [hfl,hlen] at this;simpa using this.symm
    ·have hfull : arr'.toList.take ((fillElems (List.replicate len z) parts).length * P.cellsOf e) = arr'.toList:=by
      apply List.take_of_length_le
      have:=hr'.1;rw [hfl] at this;omega
     rw [hfull]
     exact hr'.upd (mentL_false_of (fun c hc=>by
      obtain ⟨x,hx,hcx⟩:=List.mem_flatMap.1 hc
      have hml:=mentL_of_cells (hmel x hx)
      cases hmc : c.ment d with
      |false=>rfl
      |true =>
       obtain ⟨i,hi⟩:=List.getElem?_of_mem hcx
       rw [ment_of_mem hi hmc] at hml
       cases hml))
  ·exact h.elim
 ·exact h.elim
end
end Go.Am
end
section
namespace Go.Am
open Go.RowKit
section
variable {P : Program} {w : World} {H : Heap} {ρ : Rho} {bf : Nat → Option Ct}
def OptRep (H : Heap) (ρ : Rho) : Option AV → Option Value → Prop
 |none,none=>True
 |some x,some v=>Rep H ρ x v
 |_,_=>False
theorem slBound_inv {x : Option AV} {v : Option Value} {dflt : Nat} {n : Int} (hr : OptRep H ρ x v) (h : slBound x dflt = some n) : (v = none ∧ n = dflt) ∨ ∃ k,v = some (.int k n):=by
 unfold slBound at h
 split at h
 ·cases v with
  |none=>left;simpa using h.symm
  |some v=>exact hr.elim
 ·cases v with
  |none=>exact hr.elim
  |some v =>
   have h' : Rep H ρ (.v (.int _ _)) v:=hr
   rw [h'.v_inv]
   right
   simp at h
   exact ⟨_,by rw [h]⟩
 ·cases h
theorem run_sliceBound {k : IntKind} {i : Int} {y : Nat} {code : BoundsCode} (h0 : 0 ≤ i) (h1 : i ≤ y) : (Instr.sliceBound (.int k i) y code).run P w = .ok i.toNat w:=by
 simp [Instr.sliceBound,asIntOf,h0,h1]
theorem run_sliceBounds {isS : Bool} {len cap : Nat} {lo hi : Option Value} {l h : Int} (hlo : (lo = none ∧ l = (0 : Nat)) ∨ ∃ k,lo = some (.int k l)) (hhi : (hi = none ∧ h = len) ∨ ∃ k,hi = some (.int k h))
 (h0 : 0 ≤ l) (h1 : l ≤ h) (h2 : h ≤ len) (hc : len ≤ cap) : (Instr.sliceBounds isS len cap lo hi none).run P w = .ok (l.toNat,h.toNat,cap) w:=by
 have e1 : ∀ code k,(Instr.sliceBound (.int k h) cap code).run P w = .ok h.toNat w:=fun code k=>run_sliceBound (by omega) (by omega)
 have e2 : ∀ code k,(Instr.sliceBound (.int k l) h.toNat code).run P w = .ok l.toNat w:=fun code k=>run_sliceBound (by omega) (by omega)
 unfold Instr.sliceBounds
 rcases hlo with ⟨rfl,hl⟩|⟨k1,rfl⟩ <;> rcases hhi with ⟨rfl,hh⟩|⟨k2,rfl⟩
 ·subst hl;subst hh;simp
 ·subst hl;simp [e1]
 ·subst hh
  have e2' : ∀ code,(Instr.sliceBound (.int k1 l) len code).run P w = .ok l.toNat w:=fun code=>by have:=e2 code k1;simpa using this
  cases isS <;> simp [e2']
 ·cases isS <;> simp [e1,e2]
theorem take_drop_get {α : Type} {l : List α} {lo hi i : Nat} {x : α} (h : ((l.take hi).drop lo)[i]? = some x) : l[lo + i]? = some x:=by
 rw [List.getElem?_drop,List.getElem?_take] at h
 split at h
 ·exact h
 ·cases h
theorem qslice_sound {T : TypeId} {x : AV} {lo hi : Option AV} {v : Value} {vlo vhi : Option Value} {cont : AV → Prop} (hr : Rep H ρ x v) (hlo : OptRep H ρ lo vlo) (hhi : OptRep H ρ hi vhi)
 (hb : ∀ id c,bf id = some c → CtRep H ρ w (ρ id) c) (h : qslice P T x lo hi (lkA bf x) cont) : ∃ y u,cont y ∧ Rep H ρ y u ∧ (Instr.sliceAt T v vlo vhi none).run P w = .ok u w:=by
 unfold qslice at h
 split at h
 ·rename_i e k xs hT
  obtain ⟨⟨hok,hk⟩,h⟩:=h
  split at h
  ·rename_i l hh hl1 hh1
   obtain ⟨⟨h0,h1,h2⟩,hc⟩:=h
   have b1:=slBound_inv hlo hl1
   have b2:=slBound_inv hhi hh1
   cases hr with
   |slNil =>
    rename_i a cap
    have hl0 : l = 0:=by simp at h2;omega
    have hh0 : hh = 0:=by simp at h2;omega
    refine ⟨_,.slice (if cap = 0 then a else a.map (·.add 0)) 0 (cap - 0),hc,by simpa using Rep.slNil,?_⟩
    have hs:=run_sliceBounds (P:=P) (w:=w) (isS:=true) (cap:=cap) b1 (by simpa using b2) h0 h1 (by simpa using h2) (Nat.zero_le _)
    simp [Instr.sliceAt,Instr.slice,run_underlying hT,hs,run_sizeOf' hok,hl0,hh0]
   |sl cell hcap hmax hkk hone hH hrep =>
    rename_i b o cap
    have hs:=run_sliceBounds (P:=P) (w:=w) (isS:=true) (cap:=cap) b1 b2 h0 h1 h2 hcap
    have hlen : ((xs.take hh.toNat).drop l.toNat).length = hh.toNat - l.toNat:=by simp;omega
    refine ⟨_,.slice (some (if cap = l.toNat then ⟨b,o,none⟩ else ⟨b,o + l.toNat * P.cellsOf e,none⟩)) (hh.toNat - l.toNat) (cap - l.toNat),hc,?_,?_⟩
    ·by_cases he : (xs.take hh.toNat).drop l.toNat = []
     ·rw [he] at hlen ⊢
      rw [← hlen]
      exact Rep.slNil
     ·have hne : cap ≠ l.toNat:=by
       intro e
       apply he
       apply List.eq_nil_of_length_eq_zero
       rw [hlen];omega
      rw [if_neg hne,← hlen]
      refine Rep.sl (fun i j=>cell (l.toNat + i) j) (by rw [hlen];omega) (by omega) (fun y hy=>hkk y (List.mem_of_mem_take (List.mem_of_mem_drop hy))) (fun y hy=>hone y (List.mem_of_mem_take (List.mem_of_mem_drop hy))) ?_ ?_
      ·intro i j y c hy hc'
       have:=hH _ j y c (take_drop_get hy) hc'
       rw [hk,Nat.add_assoc o,← Nat.add_mul]
       exact this
      ·intro i j y c hy hc'
       exact hrep _ j y c (take_drop_get hy) hc'
    ·simp only [Instr.sliceAt,Instr.slice,run_underlying hT,hs,run_sizeOf' hok,Sem.run_bind,Result.andThen_ok,Sem.run_pure,Option.map_some,Addr.add_mk]
     split <;> rfl
  ·exact h.elim
 ·rename_i e id k off n hT
  obtain ⟨⟨hok,hk⟩,h⟩:=h
  split at h
  ·rename_i l hh hl1 hh1
   obtain ⟨⟨h0,h1,h2⟩,hc1,hc2⟩:=h
   have b1:=slBound_inv hlo hl1
   have b2:=slBound_inv hhi hh1
   cases hr with
   |ownNil hρ =>
    have hl0 : l = 0:=by omega
    have hh0 : hh = 0:=by omega
    subst hl0 hh0
    have hs:=run_sliceBounds (P:=P) (w:=w) (isS:=true) (cap:=0) b1 b2 h0 h1 h2 (Nat.zero_le _)
    refine ⟨_,.slice none 0 0,hc1 (.inl rfl),by simpa using Rep.ownNil (k:=k) hρ,?_⟩
    simp only [Int.toNat_zero] at hs
    simp [Instr.sliceAt,Instr.slice,run_underlying hT,hs,run_sizeOf' hok]
   |own hρ hn hm =>
    rename_i cc b cap
    have hs:=run_sliceBounds (P:=P) (w:=w) (isS:=true) (cap:=cc) b1 b2 h0 h1 h2 (by omega)
    by_cases hcase : l = 0 ∨ l < n
    ·refine ⟨_,.slice (some ⟨b,(off + l.toNat) * k,none⟩) (hh - l).toNat (cc - l.toNat),hc1 hcase,.own hρ (by omega) hm,?_⟩
     simp only [Instr.sliceAt,Instr.slice,run_underlying hT,hs,run_sizeOf' hok,Sem.run_bind,Result.andThen_ok,Sem.run_pure,Option.map_some,Addr.add_mk,hk]
     have e1 : hh.toNat - l.toNat = (hh - l).toNat:=by omega
     rw [e1]
     split
     ·have : l.toNat = 0:=by omega
      rw [this,Nat.add_zero]
     ·rw [Nat.add_mul]
    ·refine ⟨_,.slice (if cc = l.toNat then some ⟨b,off * k,none⟩ else some ⟨b,off * k + l.toNat * k,none⟩) 0 (cc - l.toNat),hc2 hcase,.slNil,?_⟩
     simp only [Instr.sliceAt,Instr.slice,run_underlying hT,hs,run_sizeOf' hok,Sem.run_bind,Result.andThen_ok,Sem.run_pure,Option.map_some,Addr.add_mk,hk]
     have e1 : hh.toNat - l.toNat = 0:=by omega
     rw [e1]
  ·exact h.elim
 ·rename_i s hT
  split at h
  ·rename_i l hh hl1 hh1
   obtain ⟨⟨h0,h1,h2⟩,hc⟩:=h
   have b1:=slBound_inv hlo hl1
   have b2:=slBound_inv hhi hh1
   rw [hr.v_inv]
   have hs:=run_sliceBounds (P:=P) (w:=w) (isS:=false) (cap:=s.size) b1 b2 h0 h1 h2 (Nat.le_refl _)
   refine ⟨_,_,hc,.v rfl,?_⟩
   simp [Instr.sliceAt,Instr.slice,run_underlying hT,hs]
  ·exact h.elim
 ·rename_i n e id off hT
  obtain ⟨⟨hok,hk1,rfl,rfl,hn0⟩,h⟩:=h
  split at h
  ·rename_i T' y hh hbf hh1
   obtain ⟨⟨hyl,hmax,h0,h1⟩,hc⟩:=h
   have b2:=slBound_inv hhi hh1
   cases hr with
   |loc hρ =>
    rename_i b cap
    obtain ⟨b',cap',vs,hbd,hheap,hrep,hone,hcap⟩:=hb _ _ hbf
    obtain ⟨rfl,rfl⟩:=rho_at hρ hbd
    have hlo0 : vlo = none:=by cases vlo with|none=>rfl|some _=>exact hlo.elim
    subst hlo0
    refine ⟨_,.slice (some ⟨b,0,none⟩) hh.toNat n,hc,?_,?_⟩
    ·have:=Rep.own (H:=H) (ρ:=ρ) (id:=id) (k:=1) (off:=0) (n:=hh.toNat) (c:=n) hρ (by omega) (by unfold maxLen;omega)
     simpa using this
    ·have hs:=run_sliceBounds (P:=P) (w:=w) (isS:=false) (len:=n) (cap:=n) (lo:=none) (hi:=vhi) (l:=0) (h:=hh) (.inl ⟨rfl,rfl⟩) b2 (by omega) (by omega) (by omega) (Nat.le_refl _)
     simp only [Int.toNat_zero] at hs
     simp [Instr.sliceAt,run_underlying hT,Instr.sureAddr,hs,run_sizeOf' hok,hn0,Addr.add_mk]
  ·exact h.elim
 ·rename_i e b o n cc hT
  obtain ⟨hok,h⟩:=h
  split at h
  ·rename_i l hh hl1 hh1
   obtain ⟨⟨h0,h1,h2,h3,h4⟩,hc⟩:=h
   have b1:=slBound_inv hlo hl1
   have b2:=slBound_inv hhi hh1
   rw [hr.v_inv]
   have hs:=run_sliceBounds (P:=P) (w:=w) (isS:=true) (cap:=cc) b1 b2 h0 h1 h2 h3
   refine ⟨_,_,hc,.v rfl,?_⟩
   have e1 : hh.toNat - l.toNat = (hh - l).toNat:=by omega
   have e2 : ¬ cc = l.toNat:=by omega
   simp [Instr.sliceAt,Instr.slice,run_underlying hT,hs,run_sizeOf' hok,e1,e2,Addr.add_mk]
  ·exact h.elim
 ·exact h.elim
theorem run_getObj_map {b : Nat} {es : Array MapEntry} {clock : Nat} (h : w.heap[b]? = some (.map es clock)) : (getObj b).run P w = .ok (.map es clock) w:=by
 simp [getObj,Sem.run,h]
theorem qlookup_sound {T : TypeId} {x i : AV} {v u : Value} {ok : Bool} {cont : AV → Prop} (hr : Rep H ρ x v) (hi : Rep H ρ i u) (hb : ∀ id c,bf id = some c → CtRep H ρ w (ρ id) c)
 (h : qlookup P T x i ok (lkA bf x) cont) : ∃ y r,cont y ∧ Rep H ρ y r ∧ (Instr.lookup T v u ok).run P w = .ok r w:=by
 unfold qlookup at h
 split at h
 ·rename_i kt e hT
  split at h
  ·rename_i ks z hks hz
   obtain ⟨⟨hkl,hst,hsto⟩,h⟩:=h
   obtain ⟨hval,hcl⟩:=valOf_cells (P:=P) (T:=kt) hi hst hsto
   obtain ⟨zv,hzr,hzrep,_⟩:=run_zeroValue' hz w
   have tupR : ∀ (y : AV) (r : Value) (t : Bool),Rep H ρ y r → Rep H ρ (if ok then .tup [y,.v (.bool t)] else y) (if ok then .tuple #[r,.bool t] else r):=by
    intro y r t hy
    cases ok with
    |true =>
     have:=RepL.cons hy (RepL.cons (Rep.v (H:=H) (ρ:=ρ) (x:=.bool t) rfl) RepL.nil)
     exact Rep.tup (vs:=[r,.bool t]) this.1 this.2
    |false=>exact hy
   split at h
   ·rename_i id
    split at h
    ·rename_i es st hbf
     obtain ⟨hself,hkeys,h⟩:=h
     cases hr with
     |mp hρ =>
      rename_i b cap
      obtain ⟨b',cap',ents,clock,hbd,hheap,hk1,hk2,_⟩:=hb _ _ hbf
      obtain ⟨rfl,rfl⟩:=rho_at hρ hbd
      obtain ⟨hfit,hag⟩:=find_agree (P:=P) (T:=kt) hcl es ents.toList 0 hk1 hk2 hkeys
      obtain ⟨rs,hrs⟩:=Option.isSome_iff_exists.1 hself
      have hck : ∀ em,(Instr.checkKey em 10000 kt u).run P w = .ok () w:=fun em=>by
       rw [hval];exact run_checkKey 12 kt ks hks 10000 (by omega) em _ _ rs w (eqA_rep hcl hcl hrs)
      have hfk : (Instr.findKey kt u ents.toList).run P w = .ok (findV ks u.cells.toList P kt ents.toList 0) w:=by
       have:=run_findKey hks w hfit
       rw [← hval] at this
       exact this
      rcases hag with ⟨hn1,hn2⟩|⟨y,j,r,hn1,hn2,hrep⟩
      ·rw [hn1] at h
       refine ⟨_,_,h,tupR z zv false (hzrep H ρ),?_⟩
       simp only [Instr.lookup,Sem.run_bind,run_underlying hT,Result.andThen_ok,run_getObj_map hheap,Sem.run_pure,hck,hfk,hn2,hzr]
      ·rw [hn1] at h
       refine ⟨_,_,h,tupR y r true hrep,?_⟩
       simp only [Instr.lookup,Sem.run_bind,run_underlying hT,Result.andThen_ok,run_getObj_map hheap,Sem.run_pure,hck,hfk,hn2]
    ·exact h.elim
   ·obtain ⟨hself,h⟩:=h
    rw [hr.v_inv]
    obtain ⟨rs,hrs⟩:=Option.isSome_iff_exists.1 hself
    have hck : ∀ em,(Instr.checkKey em 10000 kt u).run P w = .ok () w:=fun em=>by
     rw [hval];exact run_checkKey 12 kt ks hks 10000 (by omega) em _ _ rs w (eqA_rep hcl hcl hrs)
    have hfk : (Instr.findKey kt u []).run P w = .ok none w:=by
     have:=run_findKey (xs:=u.cells.toList) hks w (es:=[]) (by simp)
     rw [← hval] at this
     exact this
    refine ⟨_,_,h,tupR z zv false (hzrep H ρ),?_⟩
    simp only [Instr.lookup,Sem.run_bind,run_underlying hT,Result.andThen_ok,Sem.run_pure,hck,hfk,hzr]
   ·exact h.elim
  ·exact h.elim
 ·exact h.elim
theorem qlen_sound {T ty : TypeId} {x : AV} {v : Value} {cont : AV → Prop} (hr : Rep H ρ x v) (hb : ∀ id c,bf id = some c → CtRep H ρ w (ρ id) c) (h : qlen P T x (lkA bf x) cont) (ts : Array TypeId) (hts : ts[0]? = some T) :
 ∃ y r,cont y ∧ Rep H ρ y r ∧ (Builtin.len_ ts ty #[v]).run P w = .ok r w:=by
 unfold qlen at h
 unfold Builtin.len_
 simp only [hts,List.getElem?_toArray,List.getElem?_cons_zero]
 split at h
 ·rename_i e hT
  split at h
  ·rename_i k xs
   cases hr with
   |slNil=>exact ⟨_,_,h,.v rfl,by simp [run_underlying hT,goInt]⟩
   |sl=>exact ⟨_,_,h,.v rfl,by simp [run_underlying hT,goInt]⟩
  ·cases hr with
   |ownNil=>exact ⟨_,_,h,.v rfl,by simp [run_underlying hT,goInt]⟩
   |own=>exact ⟨_,_,h,.v rfl,by simp [run_underlying hT,goInt]⟩
  ·rw [hr.v_inv];exact ⟨_,_,h,.v rfl,by simp [run_underlying hT,goInt]⟩
  ·exact h.elim
 ·rename_i hT
  split at h
  ·rw [hr.v_inv];exact ⟨_,_,h,.v rfl,by simp [run_underlying hT,goInt]⟩
  ·exact h.elim
 ·rename_i k e hT
  split at h
  ·split at h
   ·rename_i es st hbf
    cases hr with
    |mp hρ =>
     rename_i b cap
     obtain ⟨b',cap',ents,clock,hbd,hheap,hk1,hk2,_⟩:=hb _ _ hbf
     obtain ⟨rfl,rfl⟩:=rho_at hρ hbd
     refine ⟨_,_,h,.v rfl,?_⟩
     have hl : es.length = ents.size:=by have:=hk1.1;simpa using this
     simp [run_underlying hT,goInt,run_getObj_map hheap,hl]
   ·exact h.elim
  ·rw [hr.v_inv];exact ⟨_,_,h,.v rfl,by simp [run_underlying hT,goInt]⟩
  ·exact h.elim
 ·rename_i n e hT
  exact ⟨_,_,h,.v rfl,by simp [run_underlying hT,goInt]⟩
 ·exact h.elim
theorem foldInts_sound {f : Int → Int → Int} {g : Value → Value → Sem Value} (hg : ∀ k a b w,(g (.int k a) (.int k b)).run P w = .ok (.int k (f a b)) w) : ∀ (xs : List AV) (vs : List Value) (k : IntKind) (n : Int) (cont : Int → Prop),RepL H ρ xs vs →
 foldInts f k n xs cont → ∃ m,cont m ∧ (vs.foldlM g (.int k n)).run P w = .ok (.int k m) w
 |[],vs,k,n,cont,hr,h=>by
  rw [hr.nil_inv];exact ⟨n,h,rfl⟩
 |x :: xs,vs,k,n,cont,hr,h=>by
  obtain ⟨u,us,rfl,h1,h2⟩:=hr.cons_inv
  cases x with
  |v x =>
   cases x with
   |int k' m =>
    simp only [foldInts] at h
    obtain ⟨rfl,h⟩:=h
    obtain ⟨m',hc,hrun⟩:=foldInts_sound hg xs us k _ cont h2 h
    refine ⟨m',hc,?_⟩
    rw [h1.v_inv,List.foldlM_cons,Sem.run_bind,hg]
    exact hrun
   |_=>simp [foldInts] at h
  |_=>simp [foldInts] at h
theorem qfold_sound {f : Int → Int → Int} {g : Value → Value → Sem Value} (hg : ∀ k a b w,(g (.int k a) (.int k b)).run P w = .ok (.int k (f a b)) w) {xs : List AV} {vs : List Value} {cont : AV → Prop} (hr : RepL H ρ xs vs)
 (h : qfold f xs cont) : ∃ y u v vs',vs = v :: vs' ∧ cont y ∧ Rep H ρ y u ∧ (vs'.foldlM g v).run P w = .ok u w:=by
 cases xs with
 |nil=>simp [qfold] at h
 |cons x xs =>
  cases x with
  |v x =>
   cases x with
   |int k n =>
    obtain ⟨u,us,rfl,h1,h2⟩:=hr.cons_inv
    obtain ⟨m,hc,hrun⟩:=foldInts_sound hg xs us k n _ h2 h
    refine ⟨_,_,u,us,rfl,hc,.v rfl,?_⟩
    rw [h1.v_inv]
    exact hrun
   |_=>simp [qfold] at h
  |_=>simp [qfold] at h
def snap (w : World) : Heap:=fun b o=>w.cell? ⟨b,o,none⟩
theorem snap_ext (w : World) : Ext (snap w) w:=fun _ _ _ h=>h
theorem snap_le (h : Ext H w) : H.le (snap w):=fun b o v hv=>h b o v hv
theorem view_rep {x d : AV} {v : Value} (hv : View bf x d) (hr : Rep H ρ x v) (he : Ext H w) (hb : ∀ id c,bf id = some c → CtRep H ρ w (ρ id) c) : Rep (snap w) rho0 d v:=by
 have lift : ∀ {cs : List AV} {vs : List Value},RepL H ρ cs vs → idfL cs = true → ∀ (i : Nat) (c : AV) (u : Value),cs[i]? = some c → vs[i]? = some u → Rep (snap w) (fun _=>Bd.no) c u:=by
  intro cs vs hrl hi i c u hc hu
  exact ((hrl.2 i c u hc hu).mono (snap_le he)).idf (idf_of_mem hi hc)
 rcases hv with ⟨rfl,hi⟩|⟨id,k,off,n,T,xs,rfl,hbf,hn,rfl,hi⟩|⟨id,n,T,y,rfl,hbf,hn,rfl,hi⟩|⟨id,T,y,rfl,hbf,rfl,hi⟩|⟨k,n,c,rfl,rfl,rfl⟩
 ·exact (hr.mono (snap_le he)).idf hi
 ·rcases hb _ _ hbf with ⟨hnil,hxs⟩|⟨b',cap',cur,hbd,hheap,hmax,hcap,hsz,hrep,hall⟩
  ·subst hxs
   cases hr with
   |ownNil=>simpa using Rep.slNil
   |own hρ=>rw [hnil] at hρ;cases hρ
  ·cases hr with
   |ownNil hρ=>rw [hbd] at hρ;cases hρ
   |own hρ hn' hm =>
    rename_i cc b cap
    obtain ⟨rfl,rfl⟩:=rho_at hρ hbd
    have hlen : ((xs.drop off).take n).length = n:=by simp;omega
    have hfl:=flat_len (fun x hx=>(hall x hx).1)
    have main : ∀ (i j : Nat) (x c : AV),((xs.drop off).take n)[i]? = some x → x.cells[j]? = some c → ∃ u,w.cell? ⟨b,off * k + i * k + j,none⟩ = some u ∧ Rep (snap w) (fun _=>Bd.no) c u:=by
     intro i j x c hx hc
     have hx' : xs[off + i]? = some x:=by
      rw [List.getElem?_take] at hx
      split at hx
      ·simpa [List.getElem?_drop] using hx
      ·cases hx
     have hxm:=List.mem_of_getElem? hx'
     have hseg:=(hrep.drop ((off + i) * k)).take k
     rw [flat_get (fun x hx=>(hall x hx).1) hx'] at hseg
     obtain ⟨u,hu,hru⟩:=hseg.get hc
     refine ⟨u,?_,?_⟩
     ·rw [cell_of_row w b _ _ _ _ hheap]
      rw [List.getElem?_take] at hu
      split at hu
      ·rw [List.getElem?_drop,List.getElem?_take] at hu
       split at hu
       ·rw [← hu,← Nat.add_mul];simp
       ·cases hu
      ·cases hu
     ·have hix : x.idf = true:=idf_of_mem hi hx
      have hic : c.idf = true:=by
       cases x with
       |st cs=>exact idf_of_mem (cs:=cs) (by simpa only [AV.idf] using hix) hc
       |_ =>
        simp only [AV.cells] at hc
        cases j with
        |zero=>simp at hc;subst hc;exact hix
        |succ j=>simp at hc
      exact (hru.mono (snap_le he)).idf hic
    have hgoal : Rep (snap w) rho0 (.sl k ((xs.drop off).take n)) (.slice (some ⟨b,off * k,none⟩) ((xs.drop off).take n).length cc):=by
     refine Rep.sl (fun i j=>(w.cell? ⟨b,off * k + i * k + j,none⟩).getD undef) (by omega) (by omega) (fun x hx=>(hall x (mem_drop_take hx)).1) (fun x hx=>(hall x (mem_drop_take hx)).2) ?_ ?_
     ·intro i j x c hx hc
      obtain ⟨u,hu,_⟩:=main i j x c hx hc
      simp [snap,hu]
     ·intro i j x c hx hc
      obtain ⟨u,hu,hru⟩:=main i j x c hx hc
      simpa [hu] using hru
    rw [hlen] at hgoal
    exact hgoal
 ·obtain ⟨b',cap',vs,hbd,hheap,hrep,hone,hcap⟩:=hb _ _ hbf
  cases hr with
  |ownNil hρ=>rw [hbd] at hρ;cases hρ
  |own hρ hn' hm =>
   rename_i cc b cap
   obtain ⟨rfl,rfl⟩:=rho_at hρ hbd
   have hgoal : Rep (snap w) rho0 (.sl 1 y.cells) (.slice (some ⟨b,0 * 1,none⟩) y.cells.length cc):=by
    have hc1 : ∀ x ∈ y.cells,x.cells = [x]:=fun x hx=>AV.one_cells (hone x hx)
    refine Rep.sl (fun i j=>(vs[i]?).getD undef) (by omega) (by omega) (fun x hx=>by rw [hc1 x hx];rfl) (fun x hx c hc=>by rw [hc1 x hx] at hc;simp at hc;subst hc;exact hone _ hx) ?_ ?_
    ·intro i j x c hx hc
     have hxm:=List.mem_of_getElem? hx
     rw [hc1 x hxm] at hc
     cases j with
     |succ j=>simp at hc
     |zero =>
      obtain ⟨u,hu,_⟩:=hrep.get hx
      simp [snap,cell_of_row w b _ _ _ _ hheap,hu]
    ·intro i j x c hx hc
     have hxm:=List.mem_of_getElem? hx
     rw [hc1 x hxm] at hc
     cases j with
     |succ j=>simp at hc
     |zero =>
      simp at hc
      subst hc
      obtain ⟨u,hu,_⟩:=hrep.get hx
      simpa [hu] using lift hrep hi i _ u hx hu
   rw [← hn] at hgoal
   simpa using hgoal
 ·obtain ⟨b',cap',vs,hbd,hheap,hrep,hone,hcap⟩:=hb _ _ hbf
  cases hr with
  |loc hρ =>
   rename_i b cap
   obtain ⟨rfl,rfl⟩:=rho_at hρ hbd
   have hic : idfL y.cells = true:=by
    cases y with
    |st cs=>simpa only [AV.idf,AV.cells] using hi
    |_=>simp only [AV.cells,idfL,Bool.and_true];exact hi
   refine Rep.ep (fun j=>(vs[j]?).getD undef) hone ?_ ?_
   ·intro j c hc
    obtain ⟨u,hu,_⟩:=hrep.get hc
    simp [snap,cell_of_row w b _ _ _ _ hheap,hu]
   ·intro j c hc
    obtain ⟨u,hu,_⟩:=hrep.get hc
    simpa [hu] using lift hrep hic j c u hc hu
 ·rw [hr.v_inv];exact .slNil
theorem viewL_rep : ∀ {xs ds : List AV} {vs : List Value},ViewL bf xs ds → RepL H ρ xs vs → Ext H w → (∀ id c,bf id = some c → CtRep H ρ w (ρ id) c) → RepL (snap w) rho0 ds vs
 |[],[],vs,_,hr,_,_=>by rw [hr.nil_inv];exact RepL.nil
 |[],_ :: _,_,h,_,_,_=>h.elim
 |_ :: _,[],_,h,_,_,_=>h.elim
 |x :: xs,d :: ds,vs,h,hr,he,hb=>by
  obtain ⟨u,us,rfl,h1,h2⟩:=hr.cons_inv
  exact RepL.cons (view_rep h.1 h1 he hb) (viewL_rep h.2 h2 he hb)
end
end Go.Am
end
section
namespace Go.Am
open Go.RowKit
section
variable {P : Program} {w : World} {H : Heap} {ρ : Rho} {bf : Nat → Option Ct}
theorem RepL.mapOps {av : Operand → AV} {ev : Operand → Value} : ∀ {xs : List Operand},(∀ x ∈ xs,Rep H ρ (av x) (ev x)) → RepL H ρ (xs.map av) (xs.map ev)
 |[],_=>RepL.nil
 |x :: xs,h=>RepL.cons (h x (by simp)) (RepL.mapOps (fun y hy=>h y (List.mem_cons_of_mem _ hy)))
theorem parts_rep {av : Operand → AV} {ev : Operand → Value} : ∀ {l : List (Nat × Operand)},(∀ p ∈ l,Rep H ρ (av p.2) (ev p.2)) → PartsRep H ρ (l.map fun p=>(p.1,av p.2)) (l.map fun p=>(p.1,ev p.2))
 |[],_=>trivial
 |p :: l,h=>⟨rfl,h p (by simp),parts_rep (fun q hq=>h q (List.mem_cons_of_mem _ hq))⟩
theorem opt_rep {av : Operand → AV} {ev : Operand → Value} {x : Option Operand} (h : ∀ y,x = some y → Rep H ρ (av y) (ev y)) : OptRep H ρ (x.map av) (x.map ev):=by
 cases x with
 |none=>trivial
 |some y=>exact h y rfl
theorem qcall_fun {o : Oper} {a : Act} {k : AV → Option Ct → Prop} {Q : Exit → Act → World → Prop} {g : FuncId} {args : List AV} {vs : List Value} (hr : RepL H ρ args vs) (he : Ext H w)
 (hb : ∀ id c,bf id = some c → CtRep H ρ w (ρ id) c) (hrun : (execOp a.eval o).run P w = (callFunc g vs.toArray).run P w) (h : QCall P g args bf o.dst k) :
 o.wp P a w (QPost o a w H ρ k) Q:=by
 rcases h.ex with ⟨ds,res,hv,⟨hent,hspec⟩,hfl,hk⟩|⟨ds,mk,c,t,hv,⟨hent,hspec⟩,hdt,hfl,hk⟩
 rotate_left
 ·unfold Oper.wp
  rw [hrun,hent]
  simp only [Oper.upon]
  rcases hfl with hfl|⟨rfl,hi⟩
  ·refine Calls.mono (hspec (snap w) w vs (snap_ext w) (viewL_rep hv hr he hb)) ?_
   rintro e w' ⟨H',v,b,cap,rfl,hle,hnew,hext,hrep,hct,hb0,hb1,hno,hbel⟩
   have hnoH : ∀ i,H b i = none:=fun i=>by
    cases hh : H b i with
    |none=>rfl
    |some u=>have:=World.block_lt_of_cell? w _ (he _ _ _ hh);simp at this;omega
   exact ⟨mk t,some c,H,ρ.upd t (.at b cap),v,hk,rfl,H.le_refl,fun b i u h h'=>by rw [h'] at h;simp at h,he.of_below hbel,hrep _ _ _ (Rho.upd_same _ _ _),hbel,t,b,cap,hdt,rfl,hb0,hb1,hnoH,hfl _ _ _ _ _ _ (hct ρ)⟩
  ·refine Calls.mono (hspec H w vs he (hr.idf hi)) ?_
   rintro e w' ⟨H',v,b,cap,rfl,hle,hnew,hext,hrep,hct,hb0,hb1,hno,hbel⟩
   exact ⟨mk t,some c,H',ρ.upd t (.at b cap),v,hk,rfl,hle,hnew,hext,hrep _ _ _ (Rho.upd_same _ _ _),hbel,t,b,cap,hdt,rfl,hb0,hb1,hno,hct _⟩
 unfold Oper.wp
 rw [hrun,hent]
 simp only [Oper.upon]
 rcases hfl with hfl|⟨rfl,hi,hri⟩
 ·refine Calls.mono (hspec (snap w) w vs (snap_ext w) (viewL_rep hv hr he hb)) ?_
  rintro e w' ⟨H',v,rfl,hle,hnew,hext,hrep,hbel⟩
  exact ⟨res,none,H,ρ,v,hk,rfl,H.le_refl,fun b i u h h'=>by rw [h'] at h;simp at h,he.of_below hbel,hrep.flat hfl,hbel,rfl⟩
 ·refine Calls.mono (hspec H w vs he (hr.idf hi)) ?_
  rintro e w' ⟨H',v,rfl,hle,hnew,hext,hrep,hbel⟩
  exact ⟨res,none,H',ρ,v,hk,rfl,hle,hnew,hext,hrep.idf hri,hbel,rfl⟩
theorem resolve_fun {ρ' : Operand → Value} {c : Call} {f : Operand} {ty : TypeId} {g : FuncId} {us vs : Array Value} (hc : c.callee = .value f) (hf : ρ' f = .func (.func g) us vs) :
 (do let d ← resolve ρ' c ty;invoke d.target d.args : Sem Next).run P w = (callFunc g (us ++ c.args.map ρ' ++ vs)).run P w:=by
 simp [resolve,hc,hf,Deferred.ofValue,invoke]
theorem fn_inv {f : Fn} {xs cs : List AV} {v : Value} (h : Rep H ρ (.fn f xs cs) v) : ∃ us vs,v = .func f (List.toArray us) (List.toArray vs) ∧ RepL H ρ xs us ∧ RepL H ρ cs vs:=by
 cases h with
 |fn hl1 hl2 h1 h2=>exact ⟨_,_,rfl,⟨hl1,h1⟩,⟨hl2,h2⟩⟩
theorem run_min2 (k : IntKind) (a b : Int) (w : World) : (Builtin.min2 (.int k a) (.int k b)).run P w = .ok (.int k (min a b)) w:=by
 simp only [Builtin.min2,Sem.run_pure]
 congr 2
 split <;> omega
theorem run_max2 (k : IntKind) (a b : Int) (w : World) : (Builtin.max2 (.int k a) (.int k b)).run P w = .ok (.int k (max a b)) w:=by
 simp only [Builtin.max2,Sem.run_pure]
 congr 2
 split <;> omega
theorem qop_sound {o : Oper} {a : Act} {av : Operand → AV} {k : AV → Option Ct → Prop} {Q : Exit → Act → World → Prop} (hav : ∀ x ∈ o.op.operands.toList,Rep H ρ (av x) (a.eval x)) (he : Ext H w)
 (hb : ∀ id c,bf id = some c → CtRep H ρ w (ρ id) c) (hfr : newOp o.op = true → ∀ d,o.dst = some d → ∀ x ∈ o.op.operands.toList,(av x).ment d = false) (h : qop P o av bf k) :
 o.wp P a w (QPost o a w H ρ k) Q:=by
 have fin : ∀ {s : Sem Value} {x : AV} {u : Value},(∀ w,(execOp a.eval o).run P w = (do pure (.value (← s)) : Sem Next).run P w) → s.run P w = .ok u w → Rep H ρ x u → k x none → o.wp P a w (QPost o a w H ρ k) Q:=by
  intro s x u he1 hs hr hk
  exact q_val (by rw [he1];simp [hs]) hr he hk
 unfold qop at h
 cases hop : o.op with
 |move x =>
  rw [hop] at h hav
  exact q_val (by simp [execOp,hop]) (hav x (by simp [Op.operands])) he h
 |nilCheck x =>
  rw [hop] at h hav
  obtain ⟨ht,h⟩:=h
  have hr:=hav x (by simp [Op.operands])
  exact q_val (u:=a.eval x) (run_nilCheck hop hr ht) hr he h
 |assign x =>
  rw [hop] at h hav
  exact q_val (by simp [execOp,hop]) (hav x (by simp [Op.operands])) he h
 |pick c x y =>
  rw [hop] at h hav
  have hc:=hav c (by simp [Op.operands])
  simp only at h
  split at h
  ·rename_i t ht
   rw [ht] at hc
   cases t with
   |true=>exact q_val (u:=a.eval x) (by simp [execOp,hop,hc.v_inv,asBool]) (hav x (by simp [Op.operands])) he (h.1 rfl)
   |false=>exact q_val (u:=a.eval y) (by simp [execOp,hop,hc.v_inv,asBool]) (hav y (by simp [Op.operands])) he (h.2 rfl)
  ·exact h.elim
 |alloc T =>
  rw [hop] at h
  simp only at h
  split at h
  ·rename_i d z hd hz
   obtain ⟨hs,hk⟩:=h
   obtain ⟨zv,hzr,hzrep,_⟩:=run_zeroValue' hz w
   have hc:=(hzrep H (ρ.upd d (.at w.heap.size z.cells.length))).cellsL hs
   refine q_new (c:=.box T z) (cap:=z.cells.length) (obj:=.cells zv.cells T) hd (u:=.pointer (some ⟨w.heap.size,0,none⟩)) (by simp [execOp,hop,Instr.alloc,hzr,newVar,newRow]) (.loc (Rho.upd_same _ _ _)) he ⟨w.heap.size,_,zv.cells.toList,rfl,by rw [heap_alloc_new],hc.1,hc.2,rfl⟩ hk
  ·exact h.elim
 |box T x =>
  rw [hop] at h hav hfr
  simp only at h
  split at h
  ·rename_i d hd
   obtain ⟨hs,hk⟩:=h
   have hx:=hav x (by simp [Op.operands])
   have hm:=hfr rfl d hd x (by simp [Op.operands])
   have hc:=hx.cellsL hs
   exact q_new (c:=.box T (av x)) (cap:=(av x).cells.length) (obj:=.cells (a.eval x).cells T) hd (u:=.pointer (some ⟨w.heap.size,0,none⟩)) (by simp [execOp,hop,Instr.box,newVar,newRow]) (.loc (Rho.upd_same _ _ _)) he
    ⟨w.heap.size,_,(a.eval x).cells.toList,rfl,by rw [heap_alloc_new],hc.1.upd (mentL_of_cells hm),hc.2,rfl⟩ hk
  ·exact h.elim
 |load T p =>
  rw [hop] at h hav
  obtain ⟨x,u,hk,hr,hrun⟩:=qload_sound (hav p (by simp [Op.operands])) he hb h
  exact fin (s:=Instr.loadAt T (a.eval p)) (by simp [execOp,hop]) hrun hr hk
 |fieldAddr T x f =>
  rw [hop] at h hav
  obtain ⟨y,u,hk,hr,hrun⟩:=qfaddr_sound (w:=w) (hav x (by simp [Op.operands])) h
  exact fin (s:=Instr.fieldAt T (a.eval x) f) (by simp [execOp,hop]) hrun hr hk
 |indexAddr T x i =>
  rw [hop] at h hav
  obtain ⟨y,u,hk,hr,hrun⟩:=qiaddr_sound (w:=w) (hav x (by simp [Op.operands])) (hav i (by simp [Op.operands])) h
  exact fin (s:=Instr.indexAt T (a.eval x) (a.eval i)) (by simp [execOp,hop]) hrun hr hk
 |buildSlice T len parts =>
  rw [hop] at h hav hfr
  simp only at h
  split at h
  ·rename_i d hd
   have hp : PartsRep H ρ (parts.toList.map fun p=>(p.1,av p.2)) (parts.map fun (i,x)=>(i,a.eval x)).toList:=by
    rw [Array.toList_map]
    exact parts_rep (fun p hp=>hav p.2 (by simp only [Op.operands];simp;exact ⟨p.1,by simpa using hp⟩))
   obtain ⟨x,c,u,obj,cap,hk,hr,hc,hrun⟩:=qbslice_sound (w:=w) hp (fun p hp'=>by
    obtain ⟨q,hq,rfl⟩:=List.mem_map.1 hp'
    exact hfr rfl d hd q.2 (by simp only [Op.operands];simp;exact ⟨q.1,by simpa using hq⟩)) h
   exact q_new hd (by simp only [execOp,hop,Sem.run_bind,hrun,Result.andThen_ok,Sem.run_pure]) hr he hc hk
  ·exact h.elim
 |build T parts =>
  rw [hop] at h hav
  have hp : PartsRep H ρ (parts.toList.map fun p=>(p.1,av p.2)) (parts.map fun (i,x)=>(i,a.eval x)).toList:=by
   rw [Array.toList_map]
   exact parts_rep (fun p hp=>hav p.2 (by simp only [Op.operands];simp;exact ⟨p.1,by simpa using hp⟩))
  obtain ⟨y,u,hk,hr,hrun⟩:=qbuild_sound (w:=w) hp h
  exact fin (s:=Instr.build T (parts.map fun (i,x)=>(i,a.eval x))) (by simp [execOp,hop]) hrun hr hk
 |field T x f =>
  rw [hop] at h hav
  obtain ⟨y,u,hk,hr,hrun⟩:=qfield_sound (w:=w) (hav x (by simp [Op.operands])) h
  exact fin (s:=Instr.field T (a.eval x) f) (by simp [execOp,hop]) hrun hr hk
 |index T x i =>
  rw [hop] at h hav
  obtain ⟨y,u,hk,hr,hrun⟩:=qindex_sound (w:=w) (hav x (by simp [Op.operands])) (hav i (by simp [Op.operands])) h
  exact fin (s:=Instr.index T (a.eval x) (a.eval i)) (by simp [execOp,hop]) hrun hr hk
 |extract t i =>
  rw [hop] at h hav
  have ht:=hav t (by simp [Op.operands])
  simp only at h
  split at h
  ·rename_i xs hx
   rw [hx] at ht
   split at h
   ·rename_i x hxi
    cases hv : a.eval t with
    |tuple vs =>
     rw [hv] at ht
     cases ht with
     |tup hl hh =>
      rename_i vs
      obtain ⟨u,hu,hr⟩:=RepL.get ⟨hl,hh⟩ hxi
      exact q_val (u:=u) (by simp [execOp,hop,Instr.extract,hv,hu]) hr he h
    |_=>rw [hv] at ht;cases ht
   ·exact h.elim
  ·exact h.elim
 |binOp op T x y ty =>
  rw [hop] at h hav
  obtain ⟨r,hk,hok,hg,hrun⟩:=qbin_sound (P:=P) (w:=w) (ox:=x) (oy:=y) (hav x (by simp [Op.operands])) (hav y (by simp [Op.operands])) h
  exact q_val (u:=r) (by simp [execOp,hop,hg,hrun]) (.v hok) he hk
 |unOp op T x =>
  rw [hop] at h hav
  obtain ⟨y,u,hk,hr,hrun⟩:=qun_sound (P:=P) (w:=w) (hav x (by simp [Op.operands])) h
  exact fin (s:=Op.unary op (a.eval x)) (by simp [execOp,hop]) hrun hr hk
 |convert sT dT x =>
  rw [hop] at h hav
  obtain ⟨y,u,hk,hr,hrun⟩:=qconv_sound (P:=P) (w:=w) (hav x (by simp [Op.operands])) h
  exact fin (s:=convert sT dT (a.eval x)) (by simp [execOp,hop]) hrun hr hk
 |makeInterface T x =>
  rw [hop] at h hav
  obtain ⟨⟨hok,hni⟩,hk⟩:=h
  unfold okT at hok
  obtain ⟨d,hd⟩:=Option.isSome_iff_exists.1 hok
  rw [hd] at hni
  refine fin (s:=Instr.makeInterface T (a.eval x)) (u:=.iface T (a.eval x)) (by simp [execOp,hop]) ?_ (.ifc (hav x (by simp [Op.operands]))) hk
  cases d <;> first|(exact hni.elim)|(simp [Instr.makeInterface,run_underlying hd])
 |makeFunc fn first caps =>
  rw [hop] at h hav
  have h1:=RepL.mapOps (H:=H) (ρ:=ρ) (av:=av) (ev:=a.eval) (xs:=first.toList) (fun x hx=>hav x (by simp only [Op.operands,Array.toList_append];exact List.mem_append_left _ hx))
  have h2:=RepL.mapOps (H:=H) (ρ:=ρ) (av:=av) (ev:=a.eval) (xs:=caps.toList) (fun x hx=>hav x (by simp only [Op.operands,Array.toList_append];exact List.mem_append_right _ hx))
  refine q_val (u:=.func fn (first.map a.eval) (caps.map a.eval)) (by simp [execOp,hop,Instr.makeFunc]) ?_ he h
  have:=Rep.fn (f:=fn) h1.1 h2.1 h1.2 h2.2
  have e1 : (first.toList.map a.eval).toArray = first.map a.eval:=by apply Array.toList_inj.1;simp
  have e2 : (caps.toList.map a.eval).toArray = caps.map a.eval:=by apply Array.toList_inj.1;simp
  rw [e1,e2] at this
  exact this
 |makeMap T r =>
  rw [hop] at h
  cases r with
  |some r=>exact h.elim
  |none =>
   simp only at h
   split at h
   ·rename_i d hd
    refine q_new (c:=.map [] none) (cap:=0) (obj:=.map #[] 0) hd (u:=.map (some w.heap.size)) (by simp [execOp,hop,Instr.makeMap]) (.mp (Rho.upd_same _ _ _)) he ⟨w.heap.size,0,#[],0,rfl,heap_alloc_new w _,RepL.nil,RepL.nil,by simp,by simp,fun _ _ e=>by cases e⟩ h
   ·exact h.elim
 |slice T x lo hi mx =>
  cases mx with
  |some m=>rw [hop] at h;exact h.elim
  |none =>
   rw [hop] at h hav
   obtain ⟨y,u,hk,hr,hrun⟩:=qslice_sound (w:=w) (hav x (by simp [Op.operands])) (opt_rep (x:=lo) (fun y hy=>hav y (by subst hy;simp [Op.operands]))) (opt_rep (x:=hi) (fun y hy=>hav y (by subst hy;simp [Op.operands]))) hb h
   exact fin (s:=Instr.sliceAt T (a.eval x) (lo.map a.eval) (hi.map a.eval) none) (by simp [execOp,hop]) hrun hr hk
 |lookup T x i ok =>
  rw [hop] at h hav
  obtain ⟨y,u,hk,hr,hrun⟩:=qlookup_sound (w:=w) (hav x (by simp [Op.operands])) (hav i (by simp [Op.operands])) hb h
  exact fin (s:=Instr.lookup T (a.eval x) (a.eval i) ok) (by simp [execOp,hop]) hrun hr hk
 |call c =>
  rw [hop] at h hav
  have hargs:=RepL.mapOps (H:=H) (ρ:=ρ) (av:=av) (ev:=a.eval) (xs:=c.args.toList) (fun x hx=>hav x (by simp only [Op.operands,Call.operands,Array.toList_append];exact List.mem_append_right _ hx))
  simp only [qcall] at h
  split at h
  ·rename_i x hc hx
   rw [hx] at hargs
   obtain ⟨v,vs',hvs,hr,hnil⟩:=hargs.cons_inv
   rw [hnil.nil_inv] at hvs
   have hva : c.args.map a.eval = #[v]:=by
    apply Array.toList_inj.1
    rw [Array.toList_map]
    exact hvs
   split at h
   ·rename_i T hT
    obtain ⟨y,r,hk,hrep,hrun⟩:=qlen_sound (ty:=o.type) hr hb h c.argTypes hT
    exact q_val (u:=r) (by simp [execOp,hop,resolve,hc,invoke,builtin,hva,hrun]) hrep he hk
   ·exact h.elim
  ·rename_i x hc hx
   rw [hx] at hargs
   obtain ⟨v,vs',hvs,hr,hnil⟩:=hargs.cons_inv
   rw [hnil.nil_inv] at hvs
   have hva : c.args.map a.eval = #[v]:=by
    apply Array.toList_inj.1
    rw [Array.toList_map]
    exact hvs
   split at h
   ·rename_i id kk off n
    obtain ⟨h0,h⟩:=h
    cases hr with
    |ownNil=>omega
    |own hρ hn hm =>
     rename_i cc b cap
     have hrun:=Go.Lib.run_unsafeSliceData_row (P:=P) w c.argTypes o.type ⟨b,off * kk,none⟩ n cc (by omega)
     refine q_val (u:=.pointer (some ⟨b,off * kk,none⟩)) (by simp [execOp,hop,resolve,hc,invoke,builtin,hva,hrun]) ?_ he h
     have:=Rep.eloc (H:=H) (ρ:=ρ) (id:=id) (k:=kk) (i:=off) (off:=0) hρ
     simpa using this
   ·exact h.elim
  ·rename_i xs hc
   obtain ⟨y,u,v,vs',hvs,hk,hrep,hrun⟩:=qfold_sound (P:=P) (w:=w) (g:=Builtin.min2) run_min2 hargs h
   have hva : (c.args.map a.eval).toList = v :: vs':=by rw [Array.toList_map];exact hvs
   exact q_val (u:=u) (by simp only [execOp,hop,resolve,hc,invoke,builtin,Builtin.min_,Sem.run_bind,Sem.run_pure,Result.andThen_ok,hva,hrun]) hrep he hk
  ·rename_i xs hc
   obtain ⟨y,u,v,vs',hvs,hk,hrep,hrun⟩:=qfold_sound (P:=P) (w:=w) (g:=Builtin.max2) run_max2 hargs h
   have hva : (c.args.map a.eval).toList = v :: vs':=by rw [Array.toList_map];exact hvs
   exact q_val (u:=u) (by simp only [execOp,hop,resolve,hc,invoke,builtin,Builtin.max_,Sem.run_bind,Sem.run_pure,Result.andThen_ok,hva,hrun]) hrep he hk
  ·rename_i xs f hc
   have hf:=hav f (by simp only [Op.operands,Call.operands,hc,Array.toList_append];exact List.mem_append_left _ (by simp))
   split at h
   ·rename_i g first caps hfn
    rw [hfn] at hf
    obtain ⟨us,vs,hv,hus,hvs⟩:=fn_inv hf
    refine qcall_fun (vs:=us ++ c.args.toList.map a.eval ++ vs) ((hus.append hargs).append hvs) he hb ?_ h
    have:=resolve_fun (P:=P) (w:=w) (ty:=o.type) hc hv
    simp only [execOp,hop]
    rw [this]
    congr 1
    congr 1
    apply Array.toList_inj.1
    simp
   ·exact h.elim
  ·rename_i xs r m hc
   have hfr:=hav r (by simp only [Op.operands,Call.operands,hc,Array.toList_append];exact List.mem_append_left _ (by simp))
   split at h
   ·rename_i t x hf
    split at h
    ·rename_i f hmeth
     rw [hf] at hfr
     generalize hrv : a.eval r = rv at hfr
     cases hfr with
     |ifc hfr =>
      rename_i v
      refine qcall_fun (vs:=v :: c.args.toList.map a.eval) (RepL.cons hfr hargs) he hb ?_ h
      have e : #[v] ++ c.args.map a.eval = (v :: c.args.toList.map a.eval).toArray:=by
       apply Array.toList_inj.1
       simp
      rw [← e,← run_callMethod (P:=P) (w:=w) (v:=v) (args:=c.args.map a.eval) hmeth]
      have e2 : (#[Value.iface t v] ++ c.args.map a.eval)[0]? = some (.iface t v):=by rw [Array.getElem?_append_left (by simp)];rfl
      have e3 : (#[Value.iface t v] ++ c.args.map a.eval).extract 1 (#[Value.iface t v] ++ c.args.map a.eval).size = c.args.map a.eval:=by
       apply Array.toList_inj.1
       simp
       exact List.take_of_length_le (by simp)
      simp only [execOp,hop,resolve,hc,invoke,hrv,Sem.run_bind,Sem.run_pure,Result.andThen_ok,e2,e3]
    ·exact h.elim
   ·exact h.elim
  ·exact h.elim
 |_=>rw [hop] at h;exact h.elim
theorem view_congr {bf' : Nat → Option Ct} {x d : AV} (hbf : ∀ id ∈ idsOf x,bf' id = bf id) (h : View bf x d) : View bf' x d:=by
 rcases h with h|⟨id,k,off,n,T,xs,rfl,hb,h⟩|⟨id,n,T,y,rfl,hb,h⟩|⟨id,T,y,rfl,hb,h⟩|h
 ·exact .inl h
 ·exact .inr (.inl ⟨id,k,off,n,T,xs,rfl,(hbf id (by simp [idsOf])).trans hb,h⟩)
 ·exact .inr (.inr (.inl ⟨id,n,T,y,rfl,(hbf id (by simp [idsOf])).trans hb,h⟩))
 ·exact .inr (.inr (.inr (.inl ⟨id,T,y,rfl,(hbf id (by simp [idsOf])).trans hb,h⟩)))
 ·exact .inr (.inr (.inr (.inr h)))
theorem viewL_congr {bf' : Nat → Option Ct} : ∀ {xs ds : List AV},(∀ id ∈ idsL xs,bf' id = bf id) → ViewL bf xs ds → ViewL bf' xs ds
 |[],[],_,_=>trivial
 |[],_ :: _,_,h=>h.elim
 |_ :: _,[],_,h=>h.elim
 |x :: xs,d :: ds,hbf,h=>by
  simp only [idsL,List.mem_append] at hbf
  exact ⟨view_congr (fun id hid=>hbf id (.inl hid)) h.1,viewL_congr (fun id hid=>hbf id (.inr hid)) h.2⟩
theorem qcall_congr {bf' : Nat → Option Ct} {f : FuncId} {args : List AV} {d : Option Tmp} {k : AV → Option Ct → Prop} (hbf : ∀ id ∈ idsL args,bf' id = bf id) (h : QCall P f args bf d k) : QCall P f args bf' d k:=by
 rcases h.ex with ⟨ds,res,hv,h⟩|⟨ds,mk,c,t,hv,h⟩
 ·exact ⟨.inl ⟨ds,res,viewL_congr hbf hv,h⟩⟩
 ·exact ⟨.inr ⟨ds,mk,c,t,viewL_congr hbf hv,h⟩⟩
theorem lkA_congr {bf' : Nat → Option Ct} {x : AV} (hbf : ∀ id ∈ idsOf x,bf' id = bf id) : lkA bf' x = lkA bf x:=by
 cases x <;> simp [idsOf] at hbf <;> simp [lkA,hbf]
theorem idsL_append : ∀ (a b : List AV),idsL (a ++ b) = idsL a ++ idsL b
 |[],b=>rfl
 |x :: a,b=>by simp [idsL,idsL_append a b]
theorem qop_congr {o : Oper} {av av' : Operand → AV} {bf' : Nat → Option Ct} {k : AV → Option Ct → Prop} (hav : ∀ x ∈ o.op.operands.toList,av' x = av x) (hbf : ∀ id ∈ rids o av,bf' id = bf id) (h : qop P o av bf k) : qop P o av' bf' k:=by
 unfold qop at h ⊢
 unfold rids at hbf
 cases hop : o.op with
 |move x=>rw [hop] at h hav;simp only at h ⊢;rw [hav x (by simp [Op.operands])];exact h
 |nilCheck x=>rw [hop] at h hav;simp only at h ⊢;rw [hav x (by simp [Op.operands])];exact h
 |assign x=>rw [hop] at h hav;simp only at h ⊢;rw [hav x (by simp [Op.operands])];exact h
 |pick c x y=>rw [hop] at h hav;simp only at h ⊢;rw [hav c (by simp [Op.operands]),hav x (by simp [Op.operands]),hav y (by simp [Op.operands])];exact h
 |alloc T=>rw [hop] at h;exact h
 |box T x=>rw [hop] at h hav;simp only at h ⊢;rw [hav x (by simp [Op.operands])];exact h
 |load T p =>
  rw [hop] at h hav hbf
  simp only at h hbf ⊢
  rw [hav p (by simp [Op.operands]),lkA_congr hbf]
  exact h
 |fieldAddr T x f=>rw [hop] at h hav;simp only at h ⊢;rw [hav x (by simp [Op.operands])];exact h
 |indexAddr T x i=>rw [hop] at h hav;simp only at h ⊢;rw [hav x (by simp [Op.operands]),hav i (by simp [Op.operands])];exact h
 |buildSlice T len parts =>
  rw [hop] at h hav
  simp only at h ⊢
  have : (parts.toList.map fun p=>(p.1,av' p.2)) = (parts.toList.map fun p=>(p.1,av p.2)):=List.map_congr_left fun p hp=>by
   rw [hav p.2 (by simp only [Op.operands];simp;exact ⟨p.1,by simpa using hp⟩)]
  rw [this];exact h
 |build T parts =>
  rw [hop] at h hav
  simp only at h ⊢
  have : (parts.toList.map fun p=>(p.1,av' p.2)) = (parts.toList.map fun p=>(p.1,av p.2)):=List.map_congr_left fun p hp=>by
   rw [hav p.2 (by simp only [Op.operands];simp;exact ⟨p.1,by simpa using hp⟩)]
  rw [this];exact h
 |field T x f=>rw [hop] at h hav;simp only at h ⊢;rw [hav x (by simp [Op.operands])];exact h
 |index T x i=>rw [hop] at h hav;simp only at h ⊢;rw [hav x (by simp [Op.operands]),hav i (by simp [Op.operands])];exact h
 |extract t i=>rw [hop] at h hav;simp only at h ⊢;rw [hav t (by simp [Op.operands])];exact h
 |binOp op T x y ty=>rw [hop] at h hav;simp only at h ⊢;rw [hav x (by simp [Op.operands]),hav y (by simp [Op.operands])];exact h
 |unOp op T x=>rw [hop] at h hav;simp only at h ⊢;rw [hav x (by simp [Op.operands])];exact h
 |convert sT dT x=>rw [hop] at h hav;simp only at h ⊢;rw [hav x (by simp [Op.operands])];exact h
 |makeInterface T x=>rw [hop] at h hav;simp only at h ⊢;rw [hav x (by simp [Op.operands])];exact h
 |makeFunc fn first caps =>
  rw [hop] at h hav
  simp only at h ⊢
  have h1 : first.toList.map av' = first.toList.map av:=List.map_congr_left fun x hx=>hav x (by simp only [Op.operands,Array.toList_append];exact List.mem_append_left _ hx)
  have h2 : caps.toList.map av' = caps.toList.map av:=List.map_congr_left fun x hx=>hav x (by simp only [Op.operands,Array.toList_append];exact List.mem_append_right _ hx)
  rw [h1,h2];exact h
 |makeMap T r=>rw [hop] at h;cases r <;> exact h
 |slice T x lo hi mx =>
  cases mx with
  |some m=>rw [hop] at h;exact h.elim
  |none =>
   rw [hop] at h hav hbf
   simp only at h hbf ⊢
   have h1 : lo.map av' = lo.map av:=by cases lo with|none=>rfl|some y=>simp [hav y (by simp [Op.operands])]
   have h2 : hi.map av' = hi.map av:=by cases hi with|none=>rfl|some y=>simp [hav y (by simp [Op.operands])]
   rw [h1,h2,hav x (by simp [Op.operands]),lkA_congr hbf]
   exact h
 |lookup T x i ok =>
  rw [hop] at h hav hbf
  simp only at h hbf ⊢
  rw [hav x (by simp [Op.operands]),hav i (by simp [Op.operands]),lkA_congr hbf]
  exact h
 |call c =>
  rw [hop] at h hav hbf
  simp only at h hbf ⊢
  have h1 : c.args.toList.map av' = c.args.toList.map av:=List.map_congr_left fun x hx=>hav x (by simp only [Op.operands,Call.operands,Array.toList_append];exact List.mem_append_right _ hx)
  unfold qcall at h ⊢
  rw [h1]
  have hbf2 : ∀ id ∈ idsL (c.args.toList.map av),bf' id = bf id:=fun id hid=>hbf id (List.mem_append_right _ hid)
  generalize c.args.toList.map av = xs at *
  cases hc : c.callee with
  |builtin b =>
   rw [hc] at h
   cases b with
   |len =>
    match xs,h with
    |[x],h =>
     simp only at h ⊢
     rw [lkA_congr (fun id hid=>hbf2 id (by simp [idsL,hid]))]
     exact h
    |[],h=>exact h
    |_ :: _ :: _,h=>exact h
   |unsafeSliceData =>
    match xs,h with
    |[x],h=>exact h
    |[],h=>exact h
    |_ :: _ :: _,h=>exact h
   |_=>exact h
  |value f =>
   rw [hc] at h hbf
   simp only at h hbf ⊢
   rw [hav f (by simp only [Op.operands,Call.operands,hc,Array.toList_append];exact List.mem_append_left _ (by simp))]
   cases hf : av f with
   |fn fk first caps =>
    rw [hf] at h hbf
    cases fk with
    |func g =>
     simp only at h ⊢
     refine qcall_congr (fun id hid=>?_) h
     rw [idsL_append,idsL_append] at hid
     simp only [List.mem_append] at hid
     rcases hid with (hid|hid)|hid
     ·exact hbf id (List.mem_append_left _ (by simp only [idsOf,List.mem_append];exact .inl hid))
     ·exact hbf2 id hid
     ·exact hbf id (List.mem_append_left _ (by simp only [idsOf,List.mem_append];exact .inr hid))
    |_=>exact h
   |_=>rw [hf] at h;exact h
  |invoke r m =>
   rw [hc] at h hbf
   simp only at h hbf ⊢
   rw [hav r (by simp only [Op.operands,Call.operands,hc,Array.toList_append];exact List.mem_append_left _ (by simp))]
   cases hf : av r with
   |ifc t x =>
    rw [hf] at h hbf
    simp only at h hbf ⊢
    cases hm : methOf P t m with
    |none=>rw [hm] at h;exact h
    |some f =>
     rw [hm] at h
     simp only at h ⊢
     refine qcall_congr (fun id hid=>?_) h
     simp only [idsL,List.mem_append] at hid
     rcases hid with hid|hid
     ·exact hbf id (List.mem_append_left _ hid)
     ·exact hbf2 id hid
   |_=>rw [hf] at h;exact h
 |_=>rw [hop] at h;exact h.elim
end
end Go.Am
end
section
namespace Go.Am
open Go.RowKit
def putF (sf : Nat → AV) (d : Option Tmp) (x : AV) : Nat → AV:=match d with
 |some d=>fun i=>if d = i then x else sf i
 |none=>sf
def addF (bf : Nat → Option Ct) (d : Option Tmp) (n : Option Ct) : Nat → Option Ct:=match d,n with
 |some d,some c=>fun i=>if d = i then some c else bf i
 |_,_=>bf
theorem AState.slot_put (s : AState) (d : Option Tmp) (x : AV) : (s.put d x).slot = putF s.slot d x:=by
 cases d with
 |none=>rfl
 |some d =>
  funext i
  simp only [AState.put,AState.slot,lk,putF]
  split <;> rfl
theorem AState.box_put (s : AState) (d : Option Tmp) (x : AV) : (s.put d x).box = s.box:=by cases d <;> rfl
theorem AState.slot_addBox (s : AState) (d : Option Tmp) (n : Option Ct) : (s.addBox d n).slot = s.slot:=by cases d <;> cases n <;> rfl
theorem AState.box_addBox (s : AState) (d : Option Tmp) (n : Option Ct) : (s.addBox d n).box = addF s.box d n:=by
 cases d <;> cases n <;> rfl
theorem put_get {a : Act} {d i : Nat} {u : Value} (hd : d < a.tmps.size) : (a.put (some d) u).tmps.getD i undef = if d = i then u else a.tmps.getD i undef:=by
 simp only [Act.put,Array.getD_eq_getD_getElem?,Array.getElem?_setIfInBounds]
 split
 ·rename_i e;subst e;simp
 ·rfl
section
variable {P : Program} {E : Env}
theorem Sim.put {H : Heap} {ρ : Rho} {sf : Nat → AV} {bf : Nat → Option Ct} {a : Act} {w : World} (h : Sim E H ρ sf bf a w) {d : Option Tmp} (hd : ∀ t,d = some t → t < E.n) {x : AV} {u : Value} (hr : Rep H ρ x u) :
 Sim E H ρ (putF sf d x) bf (a.put d u) w:=by
 cases d with
 |none=>exact h
 |some d =>
  have hlt : d < a.tmps.size:=by rw [h.size];exact hd d rfl
  refine ⟨h.ext,fun i=>?_,by simp [Act.put,h.size],h.defers,h.boxes,h.h0,h.new,h.frame,h.keep,h.nle⟩
  rw [put_get hlt]
  simp only [putF]
  split
  ·exact hr
  ·exact h.slots i
theorem Rep.undef {H : Heap} {ρ : Rho} : Rep H ρ (.tup []) undef:=Rep.tup (vs:=[]) rfl (by simp)
theorem Sim.quiet2 {H : Heap} {ρ : Rho} {sf : Nat → AV} {bf : Nat → Option Ct} {a a' : Act} {w w' : World} {o : Oper} {k : AV → Option Ct → Prop} (h : Sim E H ρ sf bf a w) (hd : ∀ t,o.dst = some t → t < E.n)
 (hfr : ∀ x c,k x (some c) → ∀ t,o.dst = some t → (∀ i,(sf i).ment t = false) ∧ (∀ id c,bf id = some c → c.ment t = false)) (hq : QPost o a w H ρ k a' w') :
 ∃ x n H' ρ',k x n ∧ (∀ d,n = none ∨ o.dst ≠ some d → ρ' d = ρ d) ∧ Sim E H' ρ' (putF sf o.dst x) (addF bf o.dst n) a' w':=by
 obtain ⟨x,n,H',ρ',u,hk,rfl,hle,hnew,hext,hr,hbel,hnb⟩:=hq
 refine ⟨x,n,H',ρ',hk,?_,?_⟩
 ·intro d hd'
  cases n with
  |none=>have : ρ' = ρ:=hnb;rw [this]
  |some c =>
   obtain ⟨t,b0,cap0,ht,rfl,_⟩:=hnb
   rcases hd' with h|h
   ·cases h
   ·have : d ≠ t:=fun e=>h (by rw [ht,e])
    simp [Rho.upd,this]
 have hsz:=h.frame.size
 have hnew' : ∀ b o v,H' b o = some v → E.H0 b o = none → E.mine b:=by
  intro b o v hv h0
  cases hh : H b o with
  |some v'=>exact h.new b o v' hh h0
  |none=>exact .inl (Nat.le_trans hsz (hnew b o v hv hh))
 have hfrm : FrameBut E.may E.w0 w':=h.frame.trans (may':=fun _=>False) (.of_below hbel) (fun _ _ x=>x.elim)
 have keepH : ∀ b,b < w.heap.size → (∀ o,H b o = none) → ∀ o,H' b o = none:=by
  intro b hb hn o
  cases hh : H' b o with
  |none=>rfl
  |some v=>have:=hnew b o v hh (hn o);omega
 cases n with
 |none =>
  have hρ : ρ' = ρ:=hnb
  subst hρ
  have h2 : Sim E H' ρ' sf bf a w':=by
   refine ⟨hext,fun i=>(h.slots i).mono hle,h.size,h.defers.bel hbel,⟨fun id c hc=>?_,fun id c b cap hc hb=>?_,h.boxes.inj⟩,Heap.le_trans h.h0 hle,hnew',hfrm,h.keep,h.nle⟩
   ·exact (h.boxes.rep id c hc).mono hle (fun _ _=>rfl) (fun b cap hb=>hbel.block b (h.boxes.apart id c b cap hc hb).2.1)
   ·obtain ⟨h1,h2,h3⟩:=h.boxes.apart id c b cap hc hb
    exact ⟨keepH b h2 h1,Nat.lt_of_lt_of_le h2 hbel.size,h3⟩
  have h3:=h2.put hd hr
  have : addF bf o.dst none = bf:=by cases o.dst <;> rfl
  rw [this]
  exact h3
 |some c =>
  obtain ⟨t,b0,cap0,ht,rfl,hb0,hb1,hbn,hcr⟩:=hnb
  obtain ⟨hf1,hf2⟩:=hfr x c hk t ht
  have htn:=hd t ht
  rw [ht]
  have hlt : t < a.tmps.size:=by rw [h.size];exact htn
  have hρne : ∀ id,id ≠ t → (ρ.upd t (.at b0 cap0)) id = ρ id:=fun id hne=>by simp [Rho.upd,hne]
  refine ⟨hext,fun i=>?_,by simp [Act.put,h.size],h.defers.bel hbel,⟨fun id c' hc=>?_,fun id c' b cap hc hb=>?_,fun id id' c1 c2 b cap cap' hc hc' hb hb'=>?_⟩,Heap.le_trans h.h0 hle,hnew',hfrm,fun i hi hi2=>(hρne i (fun e=>absurd (Nat.lt_of_lt_of_le htn h.nle) (Nat.not_lt.2 (e ▸ hi)))).trans (h.keep i hi hi2),h.nle⟩
  ·rw [put_get hlt]
   simp only [putF]
   split
   ·exact hr
   ·exact ((h.slots i).mono hle).upd (hf1 i)
  ·simp only [addF] at hc
   split at hc
   ·rename_i e
    subst e
    cases hc
    rw [Rho.upd_same]
    exact hcr
   ·rename_i hne
    rw [hρne id (fun e=>hne e.symm)]
    refine (h.boxes.rep id c' hc).mono hle (fun d hdm=>hρne d (fun e=>?_)) (fun b cap hb=>hbel.block b (h.boxes.apart id c' b cap hc hb).2.1)
    subst e
    rw [hf2 id c' hc] at hdm
    cases hdm
  ·simp only [addF] at hc
   split at hc
   ·rename_i e
    subst e
    rw [Rho.upd_same] at hb
    cases hb
    exact ⟨hbn,hb1,.inl (Nat.le_trans hsz hb0)⟩
   ·rename_i hne
    rw [hρne id (fun e=>hne e.symm)] at hb
    obtain ⟨h1,h2,h3⟩:=h.boxes.apart id c' b cap hc hb
    exact ⟨keepH b h2 h1,Nat.lt_of_lt_of_le h2 hbel.size,h3⟩
  ·simp only [addF] at hc hc'
   split at hc
   ·rename_i e
    split at hc'
    ·rename_i e';exact e.symm.trans e'
    ·rename_i hne'
     exfalso
     subst e
     rw [Rho.upd_same] at hb
     cases hb
     rw [hρne id' (fun e=>hne' e.symm)] at hb'
     have:=(h.boxes.apart id' c2 _ _ hc' hb').2.1
     omega
   ·rename_i hne
    rw [hρne id (fun e=>hne e.symm)] at hb
    split at hc'
    ·rename_i e'
     exfalso
     subst e'
     rw [Rho.upd_same] at hb'
     cases hb'
     have:=(h.boxes.apart id c1 _ _ hc hb).2.1
     omega
    ·rename_i hne'
     rw [hρne id' (fun e=>hne' e.symm)] at hb'
     exact h.boxes.inj id id' c1 c2 b cap cap' hc hc' hb hb'
theorem Sim.quiet {H : Heap} {ρ : Rho} {sf : Nat → AV} {bf : Nat → Option Ct} {a a' : Act} {w w' : World} {o : Oper} {k : AV → Option Ct → Prop} (h : Sim E H ρ sf bf a w) (hd : ∀ t,o.dst = some t → t < E.n)
 (hfr : ∀ x c,k x (some c) → ∀ t,o.dst = some t → (∀ i,(sf i).ment t = false) ∧ (∀ id c,bf id = some c → c.ment t = false)) (hq : QPost o a w H ρ k a' w') :
 ∃ x n H' ρ',k x n ∧ Sim E H' ρ' (putF sf o.dst x) (addF bf o.dst n) a' w':=by
 obtain ⟨x,n,H',ρ',hk,_,hs⟩:=h.quiet2 hd hfr hq
 exact ⟨x,n,H',ρ',hk,hs⟩
structure ACallE (P : Program) (E : Env) (g : FuncId) (args : List AV) (s : AState) (d : Option Tmp) (K : AState → Prop) : Prop where
 ent : Ent P g
 run : ∀ H ρ a w vs,Sim E H ρ s.slot s.box a w → RepL H ρ args vs → (∀ t,d = some t → t < E.n) →
  Calls P g vs.toArray w fun e w'=>∃ v,e = .returned v ∧ ∃ s' H' ρ',K s' ∧ Sim E H' ρ' s'.slot s'.box (a.put d v) w'
def XCall (P : Program) (E : Env) (g : FuncId) (args : List AV) (s : AState) (d : Option Tmp) (K : AState → Prop) : Prop :=
 ∀ H ρ a w vs,Sim E H ρ s.slot s.box a w → RepL H ρ args vs → (∀ t,d = some t → t < E.n) →
   ∃ v w',(callFunc g vs.toArray).run P w = .ok (.value v) w' ∧ ∃ s' H' ρ',K s' ∧ Sim E H' ρ' s'.slot s'.box (a.put d v) w'
def ACall (P : Program) (E : Env) (g : FuncId) (args : List AV) (s : AState) (d : Option Tmp) (K : AState → Prop) : Prop:=ACallE P E g args s d K ∨ XCall P E g args s d K
theorem ACall.mono {g : FuncId} {args : List AV} {s : AState} {d : Option Tmp} {K K' : AState → Prop} (h : ACall P E g args s d K) (hk : ∀ s,K s → K' s) : ACall P E g args s d K':=by
 rcases h with h|h
 ·exact .inl ⟨h.ent,fun H ρ a w vs hs hr hd=>Calls.mono (h.run H ρ a w vs hs hr hd) (fun _ _ ⟨v,he,s',H',ρ',hks,hs'⟩=>⟨v,he,s',H',ρ',hk _ hks,hs'⟩)⟩
 ·refine .inr fun H ρ a w vs hs hr hd=>?_
  obtain ⟨v,w',h1,s',H',ρ',hks,hs'⟩:=h H ρ a w vs hs hr hd
  exact ⟨v,w',h1,s',H',ρ',hk _ hks,hs'⟩
theorem ACall_pure {g : FuncId} {args ds : List AV} {res : AV} {s : AState} {d : Option Tmp} {K : AState → Prop} (hsp : PSpec P g ds res) (hv : ViewL s.box args ds) (hfl : res.flat = true ∨ (ds = args ∧ idfL args = true ∧ res.idf = true))
 (hk : K (s.put d res)) : ACall P E g args s d K:=by
 refine .inl ⟨hsp.1,fun H ρ a w vs hs hr hd=>?_⟩
 have he:=hs.ext
 have hb:=hs.boxes.rep
 rcases hfl with hfl|⟨rfl,hi,hri⟩
 ·refine Calls.mono (hsp.2 (snap w) w vs (snap_ext w) (viewL_rep hv hr he hb)) ?_
  rintro e w' ⟨H',v,rfl,hle,hnew,hext,hrep,hbel⟩
  obtain ⟨x,n,H2,ρ2,⟨rfl,rfl⟩,hs'⟩:=hs.quiet (o:={ (default : Oper) with dst:=d }) (k:=fun x n=>x = res ∧ n = none) hd (by rintro x c ⟨_,h⟩;cases h)
   ⟨res,none,H,ρ,v,⟨rfl,rfl⟩,rfl,H.le_refl,fun b i u h h'=>by rw [h'] at h;simp at h,he.of_below hbel,hrep.flat hfl,hbel,rfl⟩
  refine ⟨v,rfl,_,H2,ρ2,hk,?_⟩
  rw [AState.slot_put,AState.box_put]
  have : addF s.box d none = s.box:=by cases d <;> rfl
  rw [this] at hs'
  exact hs'
 ·refine Calls.mono (hsp.2 H w vs he (hr.idf hi)) ?_
  rintro e w' ⟨H',v,rfl,hle,hnew,hext,hrep,hbel⟩
  obtain ⟨x,n,H2,ρ2,⟨rfl,rfl⟩,hs'⟩:=hs.quiet (o:={ (default : Oper) with dst:=d }) (k:=fun x n=>x = res ∧ n = none) hd (by rintro x c ⟨_,h⟩;cases h)
   ⟨res,none,H',ρ,v,⟨rfl,rfl⟩,rfl,hle,hnew,hext,hrep.idf hri,hbel,rfl⟩
  refine ⟨v,rfl,_,H2,ρ2,hk,?_⟩
  rw [AState.slot_put,AState.box_put]
  have : addF s.box d none = s.box:=by cases d <;> rfl
  rw [this] at hs'
  exact hs'
end
end Go.Am
end
