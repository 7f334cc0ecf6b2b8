/- The abstract machine: a drawn region walked in another order than the text's -/
import Derived.Test.YtbibemijcdkjhaaGreatDoorZ3
import Derived.OrdersHeld
set_option linter.unusedSimpArgs false
set_option linter.unusedVariables false
section
namespace Go.Am
open Go.RowKit
def pick : List Oper → List Bool → List Oper
 |o :: l,b :: bs=>if b then o :: pick l bs else pick l bs
 |_,_=>[]
section
variable {P : Program} {E : Env}
def tailLate (l : List Oper) : Bool:=tailOK (mkMasks l 0 []) (quietN l) l.length || lateOK l (mkMasks l 0 []) (quietN l)
theorem AW_drawq3 {s : AState} {Q : AExit → AState → Prop} {id : Nat} {l : List Oper} (_ht : tailLate l = true) (hm : P.follows .mixedOrders = true) (hdst : dstOK E.n l = true) (hnew : newOK l s = true)
 (h : RKQ P l.toArray (l.take (quietN l)) s [] (fun s' fps=>drawOK l (quietN l) fps = true ∧ RK P E l.toArray (l.drop (quietN l)) s' (Q .normal))) : AW P E (.region id l.toArray true) s Q:=AW_drawq hm hdst hnew h
theorem AW_seqx {s : AState} {Q : AExit → AState → Prop} (T : AState → Prop) {x y : Code} (h2 : ∀ t,T t → AW P E y t Q) (h1 : ∀ K : AState → Prop,Kont K (fun s'=>∃ t,T t ∧ s'.le t) → AW P E x s (thenK K Q)) : AW P E (.seq x y) s Q :=
 AW_seq fun K hK=>h1 K ⟨fun s' ⟨t,ht,hl⟩=>hK s' (AW_le hl (h2 t ht))⟩
end
end Go.Am
end
section
namespace Go.Am
open Go.RowKit
inductive DView (bf : Nat → Option Ct) : AV → AV → Prop
 |base {x d : AV} (h : View bf x d) : DView bf x d
 |st {cs ds : List AV} (hl : cs.length = ds.length) (h1 : ∀ d ∈ ds,d.one = true) (h : ∀ (i : Nat) (c d : AV),cs[i]? = some c → ds[i]? = some d → DView bf c d) : DView bf (.st cs) (.st ds)
 |tup {cs ds : List AV} (hl : cs.length = ds.length) (h : ∀ (i : Nat) (c d : AV),cs[i]? = some c → ds[i]? = some d → DView bf c d) : DView bf (.tup cs) (.tup ds)
 |ep {id : Nat} {T : TypeId} {y z : AV} (hb : bf id = some (.box T y)) (hl : y.cells.length = z.cells.length) (h1 : ∀ d ∈ z.cells,d.one = true)
   (h : ∀ (i : Nat) (c d : AV),y.cells[i]? = some c → z.cells[i]? = some d → DView bf c d) : DView bf (.loc id 0) (.ep z)
theorem dview_rep {H G : Heap} {ρ : Rho} {w : World} {bf : Nat → Option Ct} (hb : ∀ id c,bf id = some c → CtRep H ρ w (ρ id) c)
 (hG : H.le G) (hB : ∀ id c b cap,bf id = some c → ρ id = .at b cap → ∀ o uu,w.cell? ⟨b,o,none⟩ = some uu → G b o = some uu) {x d : AV} (hv : DView bf x d) : ∀ {v : Value},Rep H ρ x v → Rep G rho0 d v:=by
 induction hv with
 |base h=>intro v hr;exact view_rep2 h hr hb hG hB
 |st hl h1 _ ih =>
  intro v hr
  cases hr with
  |st hl2 _ hr =>
   refine .st (hl ▸ hl2) h1 (fun i d uu hd hu=>?_)
   rename_i cs ds _ vs _
   have hi : i < cs.length:=by have:=(List.getElem?_eq_some_iff.1 hd).1;omega
   exact ih i cs[i] d (List.getElem?_eq_getElem hi) hd (hr i cs[i] uu (List.getElem?_eq_getElem hi) hu)
 |tup hl _ ih =>
  intro v hr
  cases hr with
  |tup hl2 hr =>
   refine .tup (hl ▸ hl2) (fun i d uu hd hu=>?_)
   rename_i cs ds _ vs
   have hi : i < cs.length:=by have:=(List.getElem?_eq_some_iff.1 hd).1;omega
   exact ih i cs[i] d (List.getElem?_eq_getElem hi) hd (hr i cs[i] uu (List.getElem?_eq_getElem hi) hu)
 |ep hbf hl h1 _ ih =>
  intro v hr
  rename_i id T y z _
  obtain ⟨b',cap',vs,hbd,hheap,hrep,hone,hcap⟩:=hb _ _ hbf
  cases hr with
  |loc hρ =>
   rename_i b cap
   obtain ⟨rfl,rfl⟩:=rho_at hρ hbd
   have each : ∀ (j : Nat) (d : AV),z.cells[j]? = some d → ∃ uu,vs[j]? = some uu ∧ Rep G rho0 d uu:=by
    intro j d hd
    have hj : j < y.cells.length:=by have:=(List.getElem?_eq_some_iff.1 hd).1;omega
    obtain ⟨uu,hu,hru⟩:=hrep.get (List.getElem?_eq_getElem hj)
    exact ⟨uu,hu,ih j _ d (List.getElem?_eq_getElem hj) hd hru⟩
   refine Rep.ep (fun j=>(vs[j]?).getD undef) h1 ?_ ?_
   ·intro j c hc
    obtain ⟨uu,hu,_⟩:=each j c hc
    have hcell : w.cell? ⟨b,j,none⟩ = some uu:=by rw [cell_of_row w b _ _ _ _ hheap];simpa using hu
    have:=hB _ _ _ _ hbf hbd _ _ hcell
    simp [this,hu]
   ·intro j c hc
    obtain ⟨uu,hu,hru⟩:=each j c hc
    show Rep G rho0 c _
    simpa [hu] using hru
def DViewL (bf : Nat → Option Ct) : List AV → List AV → Prop
 |[],[]=>True
 |x :: xs,d :: ds=>DView bf x d ∧ DViewL bf xs ds
 |_,_=>False
theorem DViewL.get {bf : Nat → Option Ct} : ∀ {xs ds : List AV},DViewL bf xs ds → xs.length = ds.length ∧ ∀ (i : Nat) (c d : AV),xs[i]? = some c → ds[i]? = some d → DView bf c d
 |[],[],_=>⟨rfl,fun i c d h=>by simp at h⟩
 |[],_ :: _,h=>h.elim
 |_ :: _,[],h=>h.elim
 |x :: xs,d :: ds,h=>by
  obtain ⟨hl,hr⟩:=h.2.get
  refine ⟨by simp [hl],fun i c e hc he=>?_⟩
  cases i with
  |zero=>simp at hc he;subst hc;subst he;exact h.1
  |succ i=>exact hr i c e (by simpa using hc) (by simpa using he)
theorem DView.stL {bf : Nat → Option Ct} {cs ds : List AV} (h1 : ∀ d ∈ ds,d.one = true) (h : DViewL bf cs ds) : DView bf (.st cs) (.st ds):=.st h.get.1 h1 h.get.2
theorem DView.tupL {bf : Nat → Option Ct} {cs ds : List AV} (h : DViewL bf cs ds) : DView bf (.tup cs) (.tup ds):=.tup h.get.1 h.get.2
theorem DView.epL {bf : Nat → Option Ct} {id : Nat} {T : TypeId} {y z : AV} (hb : bf id = some (.box T y)) (h1 : ∀ d ∈ z.cells,d.one = true) (h : DViewL bf y.cells z.cells) : DView bf (.loc id 0) (.ep z):=.ep hb h.get.1 h1 h.get.2
theorem dviewL_rep {H G : Heap} {ρ : Rho} {w : World} {bf : Nat → Option Ct} (hb : ∀ id c,bf id = some c → CtRep H ρ w (ρ id) c)
 (hG : H.le G) (hB : ∀ id c b cap,bf id = some c → ρ id = .at b cap → ∀ o uu,w.cell? ⟨b,o,none⟩ = some uu → G b o = some uu) : ∀ {xs ds : List AV} {vs : List Value},DViewL bf xs ds → RepL H ρ xs vs → RepL G rho0 ds vs
 |[],[],vs,_,hr=>by rw [hr.nil_inv];exact RepL.nil
 |[],_ :: _,_,h,_=>h.elim
 |_ :: _,[],_,h,_=>h.elim
 |x :: xs,d :: ds,vs,h,hr=>by
  obtain ⟨uu,us,rfl,h1,h2⟩:=hr.cons_inv
  exact RepL.cons (dview_rep hb hG hB h.1 h1) (dviewL_rep hb hG hB h.2 h2)
section
variable {P : Program} {E : Env} {s : AState} {Q : AExit → AState → Prop}
theorem acall_deep {g : FuncId} {args ds : List AV} {res : AV} {d : Option Tmp} {K : AState → Prop} (hsp : PSpec P g ds res) (hv : DViewL s.box args ds) (hfl : res.flat = true) (hk : K (s.put d res)) : ACall P E g args s d K:=by
 refine ⟨hsp.1,fun H ρ a w vs hs hr hd=>?_⟩
 have he:=hs.ext
 have hb:=hs.boxes.rep
 refine Calls.mono (hsp.2 (snap w) w vs (snap_ext w) (dviewL_rep hb (snap_le he) (fun _ _ _ _ _ _ _ _ hu=>hu) hv hr)) ?_
 rintro e w' ⟨H',v,rfl,hle,hnew,hext,hrep,hbel⟩
 obtain ⟨x,n,H2,ρ2,⟨rfl,rfl⟩,hs'⟩:=hs.quiet (o:={ (default : Oper) with dst:=d }) (k:=fun x n=>x = res ∧ n = none) hd (by rintro x c ⟨_,h⟩;cases h)
  ⟨res,none,H,ρ,v,⟨rfl,rfl⟩,rfl,H.le_refl,fun b i uu h h'=>by rw [h'] at h;simp at h,he.of_below hbel,hrep.flat hfl,hbel,rfl⟩
 refine ⟨v,rfl,_,H2,ρ2,hk,?_⟩
 rw [AState.slot_put,AState.box_put]
 have : addF s.box d none = s.box:=by cases d <;> rfl
 rw [this] at hs'
 exact hs'
theorem MSpec.toD {f : FuncId} {args : List AV} {R : AV → (Nat → Option Ct) → Prop} {d : AV} (h : MSpec P f args [] R) (hv : ∀ res bf,R res bf → DView bf res d) : PSpec P f args d:=by
 refine ⟨h.1,fun H w vs he hr=>?_⟩
 refine Calls.mono (h.2 H rho0 w vs he ⟨fun id c hc=>by simp [lk] at hc,fun id c b cap hc=>by simp [lk] at hc,fun id id' c c' b cap cap' hc=>by simp [lk] at hc⟩ hr) ?_
 rintro e w' ⟨H',ρ',res,bf',v,rfl,hR,hle,hnew,hext,hB,hrep,hfr,_⟩
 have hno : ∀ b,¬ OwnB rho0 (lk ([] : List (Nat × Ct))) b:=by rintro b ⟨id,c,cap,hc,_⟩;simp [lk] at hc
 have hle' : H'.le (thaw H' w.heap.size w'):=fun b o uu hu=>by simp [thaw,hu]
 refine ⟨thaw H' w.heap.size w',v,rfl,fun b o uu hu=>hle' _ _ _ (hle b o uu hu),?_,?_,?_,?_⟩
 ·intro b o uu hu hu0
  simp only [thaw] at hu
  split at hu
  ·exact (hnew b o uu hu hu0).resolve_right (hno b)
  ·split at hu
   ·assumption
   ·cases hu
 ·intro b o uu hu
  simp only [thaw] at hu
  split at hu
  ·exact hext b o uu hu
  ·split at hu
   ·exact hu
   ·cases hu
 ·refine dview_rep (H:=H') (w:=w') hB.rep hle' ?_ (hv _ _ hR) hrep
  intro id c b cap hc hbd o uu hu
  have h1:=hB.apart id c b cap hc hbd
  simp [thaw,h1.1 o,h1.2.2.resolve_right (hno b),hu]
 ·exact FrameBut.below ⟨hfr.os,hfr.tape,hfr.output,hfr.size,fun k hk _=>hfr.block k hk (hno k)⟩
def frD (s : AState) (id : Nat) (c : Ct) : List (Nat × Ct) → Prop
 |[]=>True
 |(i,.box T y) :: l=>(i ≠ id ∧ ∃ x,s.box i = some (.box T x) ∧ x.cells.length = y.cells.length ∧ (∀ d ∈ y.cells,d.one = true) ∧ ∀ (j : Nat) (a b : AV),x.cells[j]? = some a → y.cells[j]? = some b → fr1 id c a b) ∧ frD s id c l
 |(i,e) :: l=>(i ≠ id ∧ s.box i = some e ∧ e.ment id = false) ∧ frD s id c l
theorem frD_lk {id : Nat} {c : Ct} : ∀ {l : List (Nat × Ct)} {i : Nat} {x : Ct},frD s id c l → lk l i = some x → i ≠ id ∧
 ((s.box i = some x ∧ x.ment id = false) ∨ ∃ T uu y,x = .box T y ∧ s.box i = some (.box T uu) ∧ uu.cells.length = y.cells.length ∧ (∀ d ∈ y.cells,d.one = true) ∧ ∀ (j : Nat) (a b : AV),uu.cells[j]? = some a → y.cells[j]? = some b → fr1 id c a b)
 |[],_,_,_,h=>by simp [lk] at h
 |(j,y) :: l,i,x,hl,h=>by
  simp only [lk] at h
  split at h
  ·rename_i e
   subst e
   cases h
   cases y with
   |box T y =>
    obtain ⟨h1,uu,h2,h3,h4,h5⟩:=hl.1
    exact ⟨h1,.inr ⟨T,uu,y,rfl,h2,h3,h4,h5⟩⟩
   |_=>exact ⟨hl.1.1,.inl hl.1.2⟩
  ·refine frD_lk (l:=l) ?_ h
   cases y <;> exact hl.2
theorem AW_freezeD (id : Nat) {cb : Ct} {c : Code} {t : AState} (hb : s.box id = some cb) (hs : frS s id cb t.s) (hB : frD s id cb t.b) (h : AW P E c t Q) : AW P E c s Q:=by
 intro H ρ a w hS
 obtain ⟨G,hle,hG,hB1,hB2⟩ : ∃ G : Heap,H.le G ∧ (∀ b o uu,G b o = some uu → H b o = some uu ∨ ((∃ cap,ρ id = .at b cap) ∧ w.cell? ⟨b,o,none⟩ = some uu)) ∧
  (∀ b cap,ρ id = .at b cap → ∀ o uu,w.cell? ⟨b,o,none⟩ = some uu → G b o = some uu) ∧ (∀ b,(∀ cap,ρ id ≠ .at b cap) → ∀ o,G b o = H b o):=by
  rcases hρ : ρ id with _|_|⟨b,cap⟩
  ·exact ⟨H,H.le_refl,fun _ _ _ h=>.inl h,fun b cap h=>by simp at h,fun _ _ _=>rfl⟩
  ·exact ⟨H,H.le_refl,fun _ _ _ h=>.inl h,fun b cap h=>by simp at h,fun _ _ _=>rfl⟩
  ·have h0:=(hS.boxes.apart _ _ _ _ hb hρ).1
   refine ⟨fun b' o=>if b' = b then w.cell? ⟨b,o,none⟩ else H b' o,fun b' o uu hu=>?_,fun b' o uu hu=>?_,fun b' cap' h o uu hu=>?_,fun b' h o=>?_⟩
   ·have : b' ≠ b:=by rintro rfl;rw [h0] at hu;cases hu
    simp [this,hu]
   ·simp only at hu
    split at hu
    ·rename_i e;subst e;exact .inr ⟨⟨cap,rfl⟩,hu⟩
    ·exact .inl hu
   ·simp at h
    obtain ⟨rfl,rfl⟩:=h
    simp [hu]
   ·have : b' ≠ b:=by rintro rfl;exact h cap rfl
    simp [this]
 have hone : ∀ j c',oneB id cb j = some c' → j = id ∧ s.box j = some c':=by
  intro j c' h
  unfold oneB at h
  by_cases e : j = id
  ·subst e
   rw [if_pos rfl] at h
   cases h
   exact ⟨rfl,hb⟩
  ·rw [if_neg e] at h
   cases h
 have one : ∀ {x y : AV} {v : Value},fr1 id cb x y → Rep H ρ x v → Rep G ρ y v:=by
  intro x y v hf hr
  rcases hf with ⟨rfl,_⟩|hv
  ·exact hr.mono hle
  ·have:=view_rep2 (G:=G) hv hr (fun id' c' h=>hS.boxes.rep _ _ (hone _ _ h).2) hle
    (fun id' c' b cap hc hbd o uu hu=>by
      obtain ⟨rfl,_⟩:=hone _ _ hc
      exact hB1 b cap hbd o uu hu)
   exact this.idf (view_idf hv)
 have old : ∀ i x,t.box i = some x → i ≠ id ∧ ∃ x0,s.box i = some x0:=by
  intro i x h
  obtain ⟨h1,h2⟩:=frD_lk hB h
  refine ⟨h1,?_⟩
  rcases h2 with ⟨h2,_⟩|⟨T,uu,y,_,h2,_⟩
  ·exact ⟨_,h2⟩
  ·exact ⟨_,h2⟩
 refine h G ρ a w ⟨?_,?_,hS.size,hS.defers,?_,fun b o uu hu=>hle _ _ _ (hS.h0 b o uu hu),?_,hS.frame,hS.keep,hS.nle⟩
 ·intro b o uu hu
  rcases hG b o uu hu with h|⟨_,h⟩
  ·exact hS.ext b o uu h
  ·exact h
 ·intro i
  have hsl:=hS.slots i
  show Rep G ρ ((lk t.s i).getD .u) _
  cases hl : lk t.s i with
  |none=>exact .u
  |some y=>exact one (frS_lk hs hl) hsl
 ·refine ⟨fun i c hc=>?_,fun i c b cap hc hbd=>?_,fun i i' c c' b cap cap' hc hc' h1 h2=>?_⟩
  ·obtain ⟨_,h2⟩:=frD_lk hB hc
   rcases h2 with ⟨h2,_⟩|⟨T,uu,y,rfl,h2,h3,h4,h5⟩
   ·exact (hS.boxes.rep _ _ h2).mono hle (fun _ _=>rfl) (fun _ _ _=>rfl)
   ·obtain ⟨b,cap,vs,g1,g2,g3,g4,g5⟩:=hS.boxes.rep _ _ h2
    refine ⟨b,cap,vs,g1,g2,⟨h3 ▸ g3.1,fun j b' uu' hb' hu'=>?_⟩,h4,by rw [g5,h3]⟩
    have hj : j < uu.cells.length:=by have:=(List.getElem?_eq_some_iff.1 hb').1;omega
    exact one (h5 j _ b' (List.getElem?_eq_getElem hj) hb') (g3.2 j _ uu' (List.getElem?_eq_getElem hj) hu')
  ·obtain ⟨h1,x0,h2⟩:=old _ _ hc
   obtain ⟨h3,h4⟩:=hS.boxes.apart _ _ _ _ h2 hbd
   refine ⟨fun o=>?_,h4⟩
   rw [hB2 b (fun cap' hh=>h1 (hS.boxes.inj _ _ _ _ _ _ _ h2 hb hbd hh))]
   exact h3 o
  ·obtain ⟨_,x0,g1⟩:=old _ _ hc
   obtain ⟨_,x1,g2⟩:=old _ _ hc'
   exact hS.boxes.inj _ _ _ _ _ _ _ g1 g2 h1 h2
 ·intro b o uu hu h0
  rcases hG b o uu hu with h|⟨⟨cap,h⟩,_⟩
  ·exact hS.new b o uu h h0
  ·exact (hS.boxes.apart _ _ _ _ hb h).2.2
end
attribute [simp] frD DViewL
def SLe (x y : AV) : Prop:=∀ (H : Heap) (ρ : Rho) (v : Value),Rep H ρ x v → Rep H ρ y v
def SLeL : List AV → List AV → Prop
 |[],[]=>True
 |x :: xs,y :: ys=>SLe x y ∧ SLeL xs ys
 |_,_=>False
@[simp] theorem SLe_refl (x : AV) : SLe x x:=fun _ _ _ h=>h
@[simp] theorem SLe_nil (k c : Nat) : SLe (.v (.slice none 0 c)) (.sl k []):=fun _ _ _ h=>by rw [h.v_inv];exact .slNil
theorem SLeL.rep {H : Heap} {ρ : Rho} : ∀ {xs ys : List AV} {vs : List Value},SLeL xs ys → RepL H ρ xs vs → RepL H ρ ys vs
 |[],[],_,_,h=>h
 |[],_ :: _,_,h,_=>h.elim
 |_ :: _,[],_,h,_=>h.elim
 |x :: xs,y :: ys,vs,h,hr=>by
  obtain ⟨uu,us,rfl,h1,h2⟩:=hr.cons_inv
  exact RepL.cons (h.1 _ _ _ h1) (SLeL.rep h.2 h2)
theorem SLe.st {cs ds : List AV} (h : SLeL cs ds) (h1 : ∀ d ∈ ds,d.one = true) : SLe (.st cs) (.st ds):=fun H ρ v hr=>by
 cases hr with
 |st hl _ hr =>
  have:=SLeL.rep (H:=H) (ρ:=ρ) h ⟨hl,hr⟩
  exact .st this.1 h1 this.2
theorem SLe.sl1 {k : Nat} {xs ys : List AV} (hx : ∀ x ∈ xs,x.cells = [x]) (hy : ∀ y ∈ ys,y.cells = [y] ∧ y.one = true) (h : SLeL xs ys) : SLe (.sl k xs) (.sl k ys):=fun H ρ v hr=>by
 have hlen : ∀ {xs ys : List AV},SLeL xs ys → xs.length = ys.length ∧ ∀ (i : Nat) (y : AV),ys[i]? = some y → ∃ x,xs[i]? = some x ∧ SLe x y:=by
  intro xs
  induction xs with
  |nil=>intro ys h;cases ys with|nil=>exact ⟨rfl,fun i y h=>by simp at h⟩|cons=>exact h.elim
  |cons x xs ih =>
   intro ys h
   cases ys with
   |nil=>exact h.elim
   |cons y ys =>
    obtain ⟨h1,h2⟩:=ih h.2
    refine ⟨by simp [h1],fun i z hz=>?_⟩
    cases i with
    |zero=>simp at hz;subst hz;exact ⟨x,rfl,h.1⟩
    |succ i=>obtain ⟨x',hx',hl⟩:=h2 i z (by simpa using hz);exact ⟨x',by simpa using hx',hl⟩
 obtain ⟨hl,hp⟩:=hlen h
 generalize hz : AV.sl k xs = z at hr
 cases hr with
 |slNil =>
  cases hz
  cases ys with
  |nil=>exact .slNil
  |cons=>simp at hl
 |sl cell hcap hmax hk h1 hH hrep =>
  cases hz
  rename_i blk off cap
  rw [hl]
  refine Rep.sl cell (hl ▸ hcap) hmax (fun y hy'=>?_) (fun y hy' c hc=>by rw [(hy y hy').1] at hc;simp at hc;subst hc;exact (hy c hy').2) (fun i j y c hyi hc=>?_) (fun i j y c hyi hc=>?_)
  ·obtain ⟨i,hi⟩:=List.getElem?_of_mem hy'
   obtain ⟨x,hx',_⟩:=hp i y hi
   have:=hk x (List.mem_of_getElem? hx')
   rw [hx x (List.mem_of_getElem? hx')] at this
   rw [(hy y hy').1];exact this
  ·obtain ⟨x,hx',_⟩:=hp i y hyi
   have hxc:=hx x (List.mem_of_getElem? hx')
   rw [(hy y (List.mem_of_getElem? hyi)).1] at hc
   cases j with
   |succ j=>simp at hc
   |zero=>exact hH i 0 x x hx' (by rw [hxc];rfl)
  ·obtain ⟨x,hx',hle⟩:=hp i y hyi
   have hxc:=hx x (List.mem_of_getElem? hx')
   rw [(hy y (List.mem_of_getElem? hyi)).1] at hc
   cases j with
   |succ j=>simp at hc
   |zero=>simp at hc;subst hc;exact hle _ _ _ (hrep i 0 x x hx' (by rw [hxc];rfl))
 |_=>cases hz
theorem PSpec.args {P : Program} {f : FuncId} {xs ds : List AV} {res : AV} (h : PSpec P f ds res) (hle : SLeL xs ds) : PSpec P f xs res:=⟨h.1,fun H w vs he hr=>h.2 H w vs he (hle.rep hr)⟩
theorem MSpec.args {P : Program} {f : FuncId} {xs ds : List AV} {bx : List (Nat × Ct)} {R : AV → (Nat → Option Ct) → Prop} (h : MSpec P f ds bx R) (hle : SLeL xs ds) : MSpec P f xs bx R:=⟨h.1,fun H ρ w vs he hb hr=>h.2 H ρ w vs he hb (hle.rep hr)⟩
theorem PSpec.res {P : Program} {f : FuncId} {xs : List AV} {x y : AV} (h : PSpec P f xs x) (hle : SLe x y) : PSpec P f xs y :=
 ⟨h.1,fun H w vs he hr=>Calls.mono (h.2 H w vs he hr) (by
   rintro e w' ⟨H',v,h1,h2,h3,h4,h5,h6⟩
   exact ⟨H',v,h1,h2,h3,h4,hle _ _ _ h5,h6⟩)⟩
attribute [simp] SLeL
section
variable {P : Program} {T : TypeId} {z : AV} {i o : Nat} {v : Value} {xc yc : Bool} {cont : AV → Prop}
@[simp] theorem qbin_nil1 : qbin P .eql T (.ep z) (.v v) xc yc cont ↔ nilCmp P T (.ep z) (.v v) xc yc (fun r=>cont (.v (.bool (r)))):=Iff.rfl
@[simp] theorem qbin_nil2 : qbin P .neq T (.ep z) (.v v) xc yc cont ↔ nilCmp P T (.ep z) (.v v) xc yc (fun r=>cont (.v (.bool (!r)))):=Iff.rfl
@[simp] theorem qbin_nil3 : qbin P .eql T (.loc i o) (.v v) xc yc cont ↔ nilCmp P T (.loc i o) (.v v) xc yc (fun r=>cont (.v (.bool (r)))):=Iff.rfl
@[simp] theorem qbin_nil4 : qbin P .neq T (.loc i o) (.v v) xc yc cont ↔ nilCmp P T (.loc i o) (.v v) xc yc (fun r=>cont (.v (.bool (!r)))):=Iff.rfl
@[simp] theorem qbin_nil5 : qbin P .eql T (.v (.pointer none)) (.v (.pointer none)) xc yc cont ↔ nilCmp P T (.v (.pointer none)) (.v (.pointer none)) xc yc (fun r=>cont (.v (.bool (r)))):=Iff.rfl
@[simp] theorem qbin_nil6 : qbin P .neq T (.v (.pointer none)) (.v (.pointer none)) xc yc cont ↔ nilCmp P T (.v (.pointer none)) (.v (.pointer none)) xc yc (fun r=>cont (.v (.bool (!r)))):=Iff.rfl
end
attribute [simp] nilCmp
end Go.Am
end
section
namespace Go.Am
section
variable {P : Program} {E : Env} {s : AState} {Q : AExit → AState → Prop}
theorem Sim_freezeD (id : Nat) {cb : Ct} {t : AState} (hb : s.box id = some cb) (hs : frS s id cb t.s) (hB : frD s id cb t.b) {H : Heap} {ρ : Rho} {a : Act} {w : World} (hS : Sim E H ρ s.slot s.box a w) :
 ∃ G : Heap,H.le G ∧ (∀ {x y : AV} {v : Value},fr1 id cb x y → Rep H ρ x v → Rep G ρ y v) ∧ Sim E G ρ t.slot t.box a w:=by
 obtain ⟨G,hle,hG,hB1,hB2⟩ : ∃ G : Heap,H.le G ∧ (∀ b o uu,G b o = some uu → H b o = some uu ∨ ((∃ cap,ρ id = .at b cap) ∧ w.cell? ⟨b,o,none⟩ = some uu)) ∧
  (∀ b cap,ρ id = .at b cap → ∀ o uu,w.cell? ⟨b,o,none⟩ = some uu → G b o = some uu) ∧ (∀ b,(∀ cap,ρ id ≠ .at b cap) → ∀ o,G b o = H b o):=by
  rcases hρ : ρ id with _|_|⟨b,cap⟩
  ·exact ⟨H,H.le_refl,fun _ _ _ h=>.inl h,fun b cap h=>by simp at h,fun _ _ _=>rfl⟩
  ·exact ⟨H,H.le_refl,fun _ _ _ h=>.inl h,fun b cap h=>by simp at h,fun _ _ _=>rfl⟩
  ·have h0:=(hS.boxes.apart _ _ _ _ hb hρ).1
   refine ⟨fun b' o=>if b' = b then w.cell? ⟨b,o,none⟩ else H b' o,fun b' o uu hu=>?_,fun b' o uu hu=>?_,fun b' cap' h o uu hu=>?_,fun b' h o=>?_⟩
   ·have : b' ≠ b:=by rintro rfl;rw [h0] at hu;cases hu
    simp [this,hu]
   ·simp only at hu
    split at hu
    ·rename_i e;subst e;exact .inr ⟨⟨cap,rfl⟩,hu⟩
    ·exact .inl hu
   ·simp at h
    obtain ⟨rfl,rfl⟩:=h
    simp [hu]
   ·have : b' ≠ b:=by rintro rfl;exact h cap rfl
    simp [this]
 have hone : ∀ j c',oneB id cb j = some c' → j = id ∧ s.box j = some c':=by
  intro j c' h
  unfold oneB at h
  by_cases e : j = id
  ·subst e
   rw [if_pos rfl] at h
   cases h
   exact ⟨rfl,hb⟩
  ·rw [if_neg e] at h
   cases h
 have one : ∀ {x y : AV} {v : Value},fr1 id cb x y → Rep H ρ x v → Rep G ρ y v:=by
  intro x y v hf hr
  rcases hf with ⟨rfl,_⟩|hv
  ·exact hr.mono hle
  ·have:=view_rep2 (G:=G) hv hr (fun id' c' h=>hS.boxes.rep _ _ (hone _ _ h).2) hle
    (fun id' c' b cap hc hbd o uu hu=>by
      obtain ⟨rfl,_⟩:=hone _ _ hc
      exact hB1 b cap hbd o uu hu)
   exact this.idf (view_idf hv)
 have old : ∀ i x,t.box i = some x → i ≠ id ∧ ∃ x0,s.box i = some x0:=by
  intro i x h
  obtain ⟨h1,h2⟩:=frD_lk hB h
  refine ⟨h1,?_⟩
  rcases h2 with ⟨h2,_⟩|⟨T,uu,y,_,h2,_⟩
  ·exact ⟨_,h2⟩
  ·exact ⟨_,h2⟩
 refine ⟨G,hle,fun hf hr=>one hf hr,⟨?_,?_,hS.size,hS.defers,?_,fun b o uu hu=>hle _ _ _ (hS.h0 b o uu hu),?_,hS.frame,hS.keep,hS.nle⟩⟩
 ·intro b o uu hu
  rcases hG b o uu hu with h|⟨_,h⟩
  ·exact hS.ext b o uu h
  ·exact h
 ·intro i
  have hsl:=hS.slots i
  show Rep G ρ ((lk t.s i).getD .u) _
  cases hl : lk t.s i with
  |none=>exact .u
  |some y=>exact one (frS_lk hs hl) hsl
 ·refine ⟨fun i c hc=>?_,fun i c b cap hc hbd=>?_,fun i i' c c' b cap cap' hc hc' h1 h2=>?_⟩
  ·obtain ⟨_,h2⟩:=frD_lk hB hc
   rcases h2 with ⟨h2,_⟩|⟨T,uu,y,rfl,h2,h3,h4,h5⟩
   ·exact (hS.boxes.rep _ _ h2).mono hle (fun _ _=>rfl) (fun _ _ _=>rfl)
   ·obtain ⟨b,cap,vs,g1,g2,g3,g4,g5⟩:=hS.boxes.rep _ _ h2
    refine ⟨b,cap,vs,g1,g2,⟨h3 ▸ g3.1,fun j b' uu' hb' hu'=>?_⟩,h4,by rw [g5,h3]⟩
    have hj : j < uu.cells.length:=by have:=(List.getElem?_eq_some_iff.1 hb').1;omega
    exact one (h5 j _ b' (List.getElem?_eq_getElem hj) hb') (g3.2 j _ uu' (List.getElem?_eq_getElem hj) hu')
  ·obtain ⟨h1,x0,h2⟩:=old _ _ hc
   obtain ⟨h3,h4⟩:=hS.boxes.apart _ _ _ _ h2 hbd
   refine ⟨fun o=>?_,h4⟩
   rw [hB2 b (fun cap' hh=>h1 (hS.boxes.inj _ _ _ _ _ _ _ h2 hb hbd hh))]
   exact h3 o
  ·obtain ⟨_,x0,g1⟩:=old _ _ hc
   obtain ⟨_,x1,g2⟩:=old _ _ hc'
   exact hS.boxes.inj _ _ _ _ _ _ _ g1 g2 h1 h2
 ·intro b o uu hu h0
  rcases hG b o uu hu with h|⟨⟨cap,h⟩,_⟩
  ·exact hS.new b o uu h h0
  ·exact (hS.boxes.apart _ _ _ _ hb h).2.2
def frC (id : Nat) (cb : Ct) : List AV → List AV → Prop
 |[],[]=>True
 |x :: xs,y :: ys=>fr1 id cb x y ∧ frC id cb xs ys
 |_,_=>False
def fr2 (id : Nat) (cb : Ct) (x y : AV) : Prop:=fr1 id cb x y ∨ ∃ cs ds,x = .st cs ∧ y = .st ds ∧ (ds.all fun d=>d.one) = true ∧ frC id cb cs ds
def frL (id : Nat) (cb : Ct) : List AV → List AV → Prop
 |[],[]=>True
 |x :: xs,y :: ys=>fr2 id cb x y ∧ frL id cb xs ys
 |_,_=>False
theorem frC_rep {id : Nat} {cb : Ct} {H G : Heap} {ρ : Rho} (one : ∀ {x y : AV} {v : Value},fr1 id cb x y → Rep H ρ x v → Rep G ρ y v) : ∀ {xs ys : List AV} {vs : List Value},frC id cb xs ys → RepL H ρ xs vs → RepL G ρ ys vs
 |[],[],vs,_,hr=>by rw [hr.nil_inv];exact RepL.nil
 |[],_ :: _,_,h,_=>h.elim
 |_ :: _,[],_,h,_=>h.elim
 |x :: xs,d :: ds,vs,h,hr=>by
  obtain ⟨uu,us,rfl,h1,h2⟩:=hr.cons_inv
  exact RepL.cons (one h.1 h1) (frC_rep one h.2 h2)
theorem fr2_rep {id : Nat} {cb : Ct} {H G : Heap} {ρ : Rho} (one : ∀ {x y : AV} {v : Value},fr1 id cb x y → Rep H ρ x v → Rep G ρ y v) {x y : AV} {v : Value} (h : fr2 id cb x y) (hr : Rep H ρ x v) : Rep G ρ y v:=by
 rcases h with h|⟨cs,ds,rfl,rfl,h1,h2⟩
 ·exact one h hr
 ·cases hr with
  |st hl _ hr =>
   have:=frC_rep one h2 ⟨hl,hr⟩
   exact .st this.1 (fun d hd=>List.all_eq_true.1 h1 d hd) this.2
theorem frL_rep {id : Nat} {cb : Ct} {H G : Heap} {ρ : Rho} (one : ∀ {x y : AV} {v : Value},fr1 id cb x y → Rep H ρ x v → Rep G ρ y v) : ∀ {xs ys : List AV} {vs : List Value},frL id cb xs ys → RepL H ρ xs vs → RepL G ρ ys vs
 |[],[],vs,_,hr=>by rw [hr.nil_inv];exact RepL.nil
 |[],_ :: _,_,h,_=>h.elim
 |_ :: _,[],_,h,_=>h.elim
 |x :: xs,d :: ds,vs,h,hr=>by
  obtain ⟨uu,us,rfl,h1,h2⟩:=hr.cons_inv
  exact RepL.cons (fr2_rep one h.1 h1) (frL_rep one h.2 h2)
theorem ACall_freezeD (id : Nat) {cb : Ct} {g : FuncId} {args args' : List AV} {d : Option Tmp} {K : AState → Prop} {t : AState} (hb : s.box id = some cb) (hs : frS s id cb t.s) (hB : frD s id cb t.b) (ha : frL id cb args args') (h : ACall P E g args' t d K) : ACall P E g args s d K:=by
 refine ⟨h.1,fun H ρ a w vs hS hr hd=>?_⟩
 obtain ⟨G,hle,one,hS'⟩:=Sim_freezeD id hb hs hB hS
 exact h.2 G ρ a w vs hS' (frL_rep one ha hr) hd
end
attribute [simp] frL frC
end Go.Am
end
section
namespace Go.Am
open Go.RowKit
section
variable {P : Program} {H : Heap} {ρ : Rho}
def _root_.Go.Am.AV.kn : AV → Bool
 |.u=>false
 |_=>true
def qheld (P : Program) (o : Oper) (av : Operand → AV) (k : AV → Prop) : Prop :=
 match o.op with
 |.move x=>(av x).kn = true ∧ k (av x)
 |.assign x=>(av x).kn = true ∧ k (av x)
 |.nilCheck x=>aThere (av x) = true ∧ k (av x)
 |.pick c a b=>(match av c with
  |.v (.bool t)=>(t = true → (av a).kn = true ∧ k (av a)) ∧ (t = false → (av b).kn = true ∧ k (av b))
  |_=>False)
 |.unOp op _ x=>qun op (av x) k
 |.convert sT dT x=>qconv P sT dT (av x) k
 |.extract t i=>(match av t with
  |.tup xs=>(match xs[i]? with
   |some x=>k x
   |none=>False)
  |_=>False)
 |.fieldAddr T x f=>qfaddr P T (av x) f k
 |.indexAddr T x i=>qiaddr P T (av x) (av i) k
 |.slice T x lo hi none=>(match av x with
  |.sl kk xs=>qslice P T (.sl kk xs) (lo.map av) (hi.map av) none k
  |_=>False)
 |.load T p=>(match av p with
  |.ep y=>qload P T (.ep y) none k
  |_=>False)
 |.binOp op T x y _=>(match av x,av y with
  |.v (.int ka a),.v (.int kb b)=>if op == .shl || op == .shr then False else qbin P op T (.v (.int ka a)) (.v (.int kb b)) (isConst x) (isConst y) k
  |_,_=>False)
 |.call c=>(match c.callee,c.args.toList.map av with
  |.builtin .len,[x]=>(match c.argTypes[0]? with
   |some T=>(match P.underlying T,x with
    |some (.slice _),.sl _ xs=>k (.v (.int .i64 xs.length))
    |some (.slice _),.own _ _ _ n=>k (.v (.int .i64 n))
    |_,_=>False)
   |none=>False)
  |_,_=>False)
 |_=>False
theorem qfaddr_all {T : TypeId} {x : AV} {v : Value} {f : Nat} {cont : AV → Prop} (hr : Rep H ρ x v) (h : qfaddr P T x f cont) :
 ∃ y u,cont y ∧ Rep H ρ y u ∧ ∀ w : World,(Instr.fieldAt T v f).run P w = .ok u w:=by
 unfold qfaddr at h
 split at h
 ·rename_i fs hT
  split at h
  ·rename_i fld hf
   obtain ⟨⟨hok,hs⟩,h⟩:=h
   split at h
   ·cases hr with
    |loc hρ=>exact ⟨_,_,h,.loc hρ,fun w=>run_fieldAt hT hf hok hs⟩
   ·cases hr with
    |eloc hρ =>
     refine ⟨_,_,h,.eloc hρ,fun w=>?_⟩
     rw [run_fieldAt hT hf hok hs,Nat.add_assoc]
   ·rename_i y
    obtain ⟨⟨hn,ha⟩,hk⟩:=h
    obtain ⟨b,o,rfl,hrep⟩:=ep_part hr hn ha
    exact ⟨_,_,hk,hrep,fun w=>run_fieldAt hT hf hok hs⟩
   ·exact h.elim
  ·exact h.elim
 ·exact h.elim
theorem qiaddr_all {T : TypeId} {x i : AV} {v u : Value} {cont : AV → Prop} (hr : Rep H ρ x v) (hi : Rep H ρ i u) (h : qiaddr P T x i cont) :
 ∃ y r,cont y ∧ Rep H ρ y r ∧ ∀ w : World,(Instr.indexAt T v u).run P w = .ok r w:=by
 unfold qiaddr at h
 split at h
 ·rename_i e ik n hT
  rw [hi.v_inv]
  obtain ⟨hok,h⟩:=h
  split at h
  ·rename_i k xs
   obtain ⟨hk,⟨h0,h1⟩,hc⟩:=h
   have hlt : n.toNat < xs.length:=by omega
   cases hr with
   |slNil=>simp at hlt
   |sl cell hcap hmax hkk hone hH hrep =>
    rename_i b o cap
    refine ⟨_,_,hc,?_,fun w=>run_indexAt_slice hT hok h0 h1⟩
    have hx : xs[n.toNat]? = some (xs.getD n.toNat .u):=by simp [hlt]
    rw [hk]
    exact .ep (fun j=>cell n.toNat j) (hone _ (List.mem_of_getElem? hx)) (fun j c hj=>by rw [Nat.add_assoc];have:=hH _ j _ c hx hj;rw [Nat.add_assoc] at this;exact this) (fun j c hj=>hrep _ j _ c hx hj)
  ·rename_i id k off m
   obtain ⟨hk,⟨h0,h1⟩,hc⟩:=h
   cases hr with
   |ownNil=>omega
   |own hρ hn hm =>
    refine ⟨_,_,hc,?_,fun w=>run_indexAt_slice hT hok h0 h1⟩
    have:=Rep.eloc (H:=H) (ρ:=ρ) (k:=k) (i:=off + n.toNat) (off:=0) hρ
    rw [hk,← Nat.add_mul]
    exact this
  ·exact h.elim
 ·rename_i len e ik n hT
  rw [hi.v_inv]
  obtain ⟨hok,h⟩:=h
  split at h
  ·obtain ⟨⟨h0,h1⟩,hc⟩:=h
   cases hr with
   |loc hρ=>exact ⟨_,_,hc,.loc hρ,fun w=>run_indexAt_array hT hok h0 h1⟩
  ·obtain ⟨⟨h0,h1⟩,⟨hn,ha⟩,hc⟩:=h
   obtain ⟨b,o,rfl,hrep⟩:=ep_part hr hn ha
   exact ⟨_,_,hc,hrep,fun w=>run_indexAt_array hT hok h0 h1⟩
  ·exact h.elim
 ·exact h.elim
theorem qslice_all {T : TypeId} {k : Nat} {xs : List AV} {lo hi : Option AV} {v : Value} {vlo vhi : Option Value} {cont : AV → Prop} (hr : Rep H ρ (.sl k xs) v) (hlo : OptRep H ρ lo vlo) (hhi : OptRep H ρ hi vhi)
 (h : qslice P T (.sl k xs) lo hi none cont) : ∃ y u,cont y ∧ Rep H ρ y u ∧ ∀ w : World,(Instr.sliceAt T v vlo vhi none).run P w = .ok u w:=by
 unfold qslice at h
 split at h
 ·rename_i e k' xs' hT heq
  cases heq
  obtain ⟨⟨hok,hk⟩,h⟩:=h
  split at h
  ·rename_i l hh hl1 hh1
   obtain ⟨⟨h0,h1,h2⟩,hc⟩:=h
   have b1:=slBound_inv hlo hl1
   have b2:=slBound_inv hhi hh1
   cases hr with
   |slNil =>
    rename_i a cap
    have hl0 : l = 0:=by simp at h2;omega
    have hh0 : hh = 0:=by simp at h2;omega
    refine ⟨_,.slice (if cap = 0 then a else a.map (·.add 0)) 0 (cap - 0),hc,by simpa using Rep.slNil,fun w=>?_⟩
    have hs:=run_sliceBounds (P:=P) (w:=w) (isS:=true) (cap:=cap) b1 (by simpa using b2) h0 h1 (by simpa using h2) (Nat.zero_le _)
    simp [Instr.sliceAt,Instr.slice,run_underlying hT,hs,run_sizeOf' hok,hl0,hh0]
   |sl cell hcap hmax hkk hone hH hrep =>
    rename_i b o cap
    have hs:=fun w=>run_sliceBounds (P:=P) (w:=w) (isS:=true) (cap:=cap) b1 b2 h0 h1 h2 hcap
    have hlen : ((xs.take hh.toNat).drop l.toNat).length = hh.toNat - l.toNat:=by simp;omega
    refine ⟨_,.slice (some (if cap = l.toNat then ⟨b,o,none⟩ else ⟨b,o + l.toNat * P.cellsOf e,none⟩)) (hh.toNat - l.toNat) (cap - l.toNat),hc,?_,fun w=>?_⟩
    ·by_cases he : (xs.take hh.toNat).drop l.toNat = []
     ·rw [he] at hlen ⊢
      rw [← hlen]
      exact Rep.slNil
     ·have hne : cap ≠ l.toNat:=by
       intro e
       apply he
       apply List.eq_nil_of_length_eq_zero
       rw [hlen];omega
      rw [if_neg hne,← hlen]
      refine Rep.sl (fun i j=>cell (l.toNat + i) j) (by rw [hlen];omega) (by omega) (fun y hy=>hkk y (List.mem_of_mem_take (List.mem_of_mem_drop hy))) (fun y hy=>hone y (List.mem_of_mem_take (List.mem_of_mem_drop hy))) ?_ ?_
      ·intro i j y c hy hc'
       have:=hH _ j y c (take_drop_get hy) hc'
       rw [hk,Nat.add_assoc o,← Nat.add_mul]
       exact this
      ·intro i j y c hy hc'
       exact hrep _ j y c (take_drop_get hy) hc'
    ·simp only [Instr.sliceAt,Instr.slice,run_underlying hT,hs,run_sizeOf' hok,Sem.run_bind,Result.andThen_ok,Sem.run_pure,Option.map_some,Addr.add_mk]
     split <;> rfl
  ·exact h.elim
 all_goals first|(rename_i heq;cases heq;done)|(rename_i heq _;cases heq;done)|exact h.elim
theorem qload_all {T : TypeId} {y : AV} {v : Value} {cont : AV → Prop} (hr : Rep H ρ (.ep y) v) (h : qload P T (.ep y) none cont) : ∃ x u,cont x ∧ Rep H ρ x u ∧ ∀ w : World,Ext H w → (Instr.loadAt T v).run P w = .ok u w:=by
 obtain ⟨hT,⟨hlen,hst,h1⟩,hk⟩:=h
 cases hr with
 |ep cell hone hH hrep =>
  rename_i blk off
  have hrl : RepL H ρ y.cells ((List.range y.cells.length).map cell):=by
   refine ⟨by simp,fun i c u hc hu=>?_⟩
   have hi : i < y.cells.length:=(List.getElem?_eq_some_iff.1 hc).1
   have hu' : u = cell i:=by
    rw [List.getElem?_map,List.getElem?_range hi] at hu
    simpa using hu.symm
   rw [hu']
   exact (hrep i c hc).any (fun _=>rfl) ρ
  refine ⟨y,_,hk,?_,fun w he=>run_loadAt (vs:=(List.range y.cells.length).map cell) hT (by simp [hlen]) h1 ?_⟩
  ·have:=aload_rep (off:=0) (n:=P.cellsOf T) (agg:=aggB P T) hrl hone (by omega) h1
   have hfull : ((List.range y.cells.length).map cell).take (P.cellsOf T) = (List.range y.cells.length).map cell:=List.take_of_length_le (by simp [hlen])
   have ha : aload y 0 (P.cellsOf T) (aggB P T) = y:=by simp [aload,hlen,hst]
   rw [List.drop_zero,hfull,ha] at this
   exact this
  ·intro j v hj
   have hjl : j < y.cells.length:=by
    have:=(List.getElem?_eq_some_iff.1 hj).1
    simpa using this
   rw [List.getElem?_map,List.getElem?_range hjl] at hj
   simp at hj
   subst hj
   exact he _ _ _ (hH j _ (List.getElem?_eq_getElem hjl))
theorem binInt_all {op : BinOp} {k : IntKind} {T : TypeId} {a b : Int} {cont : AV → Prop} (h : binInt op k a b cont) : ∃ u,cont (.v u) ∧ okV u = true ∧ ∀ w : World,(binOp op T (.int k a) (.int k b)).run P w = .ok u w:=by
 unfold binInt at h
 cases op <;> simp only at h
 case add=>exact ⟨_,arith_sound h,rfl,fun w=>by simp [binOp,Op.intArith]⟩
 case sub=>exact ⟨_,arith_sound h,rfl,fun w=>by simp [binOp,Op.intArith]⟩
 case mul=>exact ⟨_,arith_sound h,rfl,fun w=>by simp [binOp,Op.intArith]⟩
 case quo=>exact ⟨_,arith_sound h.2,rfl,fun w=>by simp [binOp,Op.intDiv,h.1]⟩
 case rem=>exact ⟨_,h.2,rfl,fun w=>by simp [binOp,Op.intDiv,h.1]⟩
 case and=>exact ⟨_,h,rfl,fun w=>by simp [binOp,Op.intBits,bitsV]⟩
 case or=>exact ⟨_,h,rfl,fun w=>by simp [binOp,Op.intBits,bitsV]⟩
 case xor=>exact ⟨_,h,rfl,fun w=>by simp [binOp,Op.intBits,bitsV]⟩
 case andNot=>exact ⟨_,h,rfl,fun w=>by simp [binOp,Op.intBits,bitsV]⟩
 case eql=>exact ⟨_,h,rfl,fun w=>by simp [binOp,Op.intCmp];rfl⟩
 case neq=>exact ⟨_,h,rfl,fun w=>by simp [binOp,Op.intCmp,bne];rfl⟩
 case lss=>exact ⟨_,h,rfl,fun w=>by simp [binOp,Op.intCmp]⟩
 case leq=>exact ⟨_,h,rfl,fun w=>by simp [binOp,Op.intCmp]⟩
 case gtr=>exact ⟨_,h,rfl,fun w=>by simp [binOp,Op.intCmp]⟩
 case geq=>exact ⟨_,h,rfl,fun w=>by simp [binOp,Op.intCmp]⟩
theorem qun_all {op : UnOp} {x : AV} {v : Value} {cont : AV → Prop} (hr : Rep H ρ x v) (h : qun op x cont) : ∃ y u,cont y ∧ Rep H ρ y u ∧ ∀ w : World,(Op.unary op v).run P w = .ok u w:=by
 unfold qun at h
 split at h
 ·rw [hr.v_inv];exact ⟨_,_,h,.v rfl,fun _=>rfl⟩
 ·rw [hr.v_inv];exact ⟨_,_,arith_sound h,.v rfl,fun _=>rfl⟩
 ·exact h.elim
theorem qconv_all {src dst : TypeId} {x : AV} {v : Value} {cont : AV → Prop} (hr : Rep H ρ x v) (h : qconv P src dst x cont) : ∃ y u,cont y ∧ Rep H ρ y u ∧ ∀ w : World,(convert src dst v).run P w = .ok u w:=by
 obtain ⟨hs,h⟩:=h
 unfold okT at hs
 obtain ⟨ds,hs⟩:=Option.isSome_iff_exists.1 hs
 split at h
 ·rename_i k k' n hd
  rw [hr.v_inv]
  refine ⟨_,_,h,.v rfl,fun w=>?_⟩
  simp only [convert,Sem.run_bind,run_underlying hs,run_underlying hd,Result.andThen_ok]
  cases ds <;> rfl
 ·rename_i s hd
  rw [hr.v_inv]
  refine ⟨_,_,h,.v rfl,fun w=>?_⟩
  simp only [convert,Sem.run_bind,run_underlying hs,run_underlying hd,Result.andThen_ok]
  cases ds <;> rfl
 ·exact h.elim
def isLoad : Op → Bool
 |.load _ _=>true
 |_=>false
theorem qheld_sound {o : Oper} {a : Act} {av : Operand → AV} {k : AV → Prop} (hav : ∀ x,Rep H ρ (av x) (a.eval x)) (h : qheld P o av k) :
 ∃ x u,k x ∧ Rep H ρ x u ∧ ∀ w : World,(isLoad o.op = true → Ext H w) → (execOp a.eval o).run P w = .ok (.value u) w:=by
 unfold qheld at h
 cases hop : o.op with
 |move x =>
  rw [hop] at h
  exact ⟨_,_,h.2,hav x,fun w _=>by simp [execOp,hop]⟩
 |assign x =>
  rw [hop] at h
  exact ⟨_,_,h.2,hav x,fun w _=>by simp [execOp,hop]⟩
 |nilCheck x =>
  rw [hop] at h
  obtain ⟨ht,h⟩:=h
  have hr:=hav x
  refine ⟨_,a.eval x,h,hr,fun w _=>?_⟩
  simp only [execOp,hop]
  generalize av x = y at hr ht
  generalize a.eval x = v at hr
  cases hr <;> first|rfl|(simp [aThere] at ht;done)|skip
  rename_i f fs cs us vs _ _ _ _
  cases f <;> first|rfl|(simp [aThere] at ht;done)
 |pick c x y =>
  rw [hop] at h
  have hc:=hav c
  simp only at h
  split at h
  ·rename_i t ht
   rw [ht] at hc
   cases t with
   |true=>exact ⟨_,a.eval x,(h.1 rfl).2,hav x,fun w _=>by simp [execOp,hop,hc.v_inv,asBool]⟩
   |false=>exact ⟨_,a.eval y,(h.2 rfl).2,hav y,fun w _=>by simp [execOp,hop,hc.v_inv,asBool]⟩
  ·exact h.elim
 |unOp op T x =>
  rw [hop] at h
  obtain ⟨y,u,hk,hr,hrun⟩:=qun_all (P:=P) (hav x) h
  exact ⟨y,u,hk,hr,fun w _=>by simp [execOp,hop,hrun w]⟩
 |convert sT dT x =>
  rw [hop] at h
  obtain ⟨y,u,hk,hr,hrun⟩:=qconv_all (P:=P) (hav x) h
  exact ⟨y,u,hk,hr,fun w _=>by simp [execOp,hop,hrun w]⟩
 |extract t i =>
  rw [hop] at h
  have ht:=hav t
  simp only at h
  split at h
  ·rename_i xs hx
   rw [hx] at ht
   split at h
   ·rename_i x hxi
    cases hv : a.eval t with
    |tuple vs =>
     rw [hv] at ht
     cases ht with
     |tup hl hh =>
      rename_i vs
      obtain ⟨u,hu,hr⟩:=RepL.get ⟨hl,hh⟩ hxi
      exact ⟨_,u,h,hr,fun w _=>by simp [execOp,hop,Instr.extract,hv,hu]⟩
    |_=>rw [hv] at ht;cases ht
   ·exact h.elim
  ·exact h.elim
 |fieldAddr T x f =>
  rw [hop] at h
  obtain ⟨y,u,hk,hr,hrun⟩:=qfaddr_all (hav x) h
  exact ⟨y,u,hk,hr,fun w _=>by simp [execOp,hop,hrun w]⟩
 |indexAddr T x i =>
  rw [hop] at h
  obtain ⟨y,u,hk,hr,hrun⟩:=qiaddr_all (hav x) (hav i) h
  exact ⟨y,u,hk,hr,fun w _=>by simp [execOp,hop,hrun w]⟩
 |slice T x lo hi mx =>
  cases mx with
  |some m=>rw [hop] at h;exact h.elim
  |none =>
   rw [hop] at h
   simp only at h
   split at h
   ·rename_i kk xs hx
    have hx':=hav x
    rw [hx] at hx'
    obtain ⟨y,u,hk,hr,hrun⟩:=qslice_all hx' (opt_rep (x:=lo) (fun y hy=>hav y)) (opt_rep (x:=hi) (fun y hy=>hav y)) h
    exact ⟨y,u,hk,hr,fun w _=>by simp [execOp,hop,hrun w]⟩
   ·exact h.elim
 |load T p =>
  rw [hop] at h
  simp only at h
  split at h
  ·rename_i y hy
   have hp:=hav p
   rw [hy] at hp
   obtain ⟨x,u,hk,hr,hrun⟩:=qload_all hp h
   exact ⟨x,u,hk,hr,fun w he=>by simp [execOp,hop,hrun w (he rfl)]⟩
  ·exact h.elim
 |binOp op T x y ty =>
  rw [hop] at h
  simp only at h
  split at h
  ·rename_i ka a' kb b' hx hy
   have h1:=hav x
   have h2:=hav y
   rw [hx] at h1
   rw [hy] at h2
   split at h
   ·exact h.elim
   ·rename_i hns
    unfold qbin at h
    simp only at h
    split at h
    ·rename_i hsh;cases op <;> simp_all
    ·obtain ⟨rfl,h⟩:=h
     obtain ⟨r,hk,hok,hrun⟩:=binInt_all (P:=P) (T:=T) h
     refine ⟨.v r,r,hk,.v hok,fun w _=>?_⟩
     have hg:=run_eqGuard_other (P:=P) (w:=w) (op:=op) (T:=T) (x:=x) (y:=y) (a:=.int ka a') (b:=.int ka b') (by simp) (by simp)
     simp [execOp,hop,h1.v_inv,h2.v_inv,hg,hrun w]
  ·exact h.elim
 |call c =>
  rw [hop] at h
  have hargs:=RepL.mapOps (H:=H) (ρ:=ρ) (av:=av) (ev:=a.eval) (xs:=c.args.toList) (fun x _=>hav x)
  simp only at h
  split at h
  ·rename_i x hc hx
   rw [hx] at hargs
   obtain ⟨v,vs',hvs,hr,hnil⟩:=hargs.cons_inv
   rw [hnil.nil_inv] at hvs
   have hva : c.args.map a.eval = #[v]:=by
    apply Array.toList_inj.1
    rw [Array.toList_map]
    exact hvs
   split at h
   ·rename_i T hT
    have key : ∃ n : Nat,k (.v (.int .i64 n)) ∧ ∀ w : World,(Builtin.len_ c.argTypes o.type #[v]).run P w = .ok (.int .i64 n) w:=by
     split at h
     ·rename_i e hU
      refine ⟨_,h,fun w=>?_⟩
      unfold Builtin.len_
      cases hr with
      |slNil=>simp [hT,run_underlying hU,goInt]
      |sl=>simp [hT,run_underlying hU,goInt]
     ·rename_i e hU
      refine ⟨_,h,fun w=>?_⟩
      unfold Builtin.len_
      cases hr with
      |ownNil=>simp [hT,run_underlying hU,goInt]
      |own=>simp [hT,run_underlying hU,goInt]
     ·exact h.elim
    obtain ⟨n,hk,hrun⟩:=key
    exact ⟨_,_,hk,.v rfl,fun w _=>by simp [execOp,hop,resolve,hc,invoke,builtin,hva,hrun w]⟩
   ·exact h.elim
  ·exact h.elim
 |_=>rw [hop] at h;exact h.elim
variable {E : Env}
theorem Oper.wp_put {o : Oper} {a : Act} {w : World} {K : Act → World → Prop} {Q : Exit → Act → World → Prop} (h : o.wp P a w K Q) : o.wp P a w (fun a' w'=>K a' w' ∧ ∀ i,o.dst ≠ some i → a'.tmps.getD i undef = a.tmps.getD i undef) Q:=by
 have put : ∀ (a a2 : Act) (d : Option Tmp) (v : Value),a2.tmps = a.tmps → ∀ i,d ≠ some i → (a2.put d v).tmps.getD i undef = a.tmps.getD i undef:=by
  intro a a2 d v he i hi
  cases d with
  |none=>simp [Act.put,he]
  |some d =>
   have hne : d ≠ i:=fun e=>hi (by rw [e])
   simp [Act.put,he,Array.getD_eq_getD_getElem?,Array.getElem?_setIfInBounds_ne hne]
 unfold Oper.wp at *
 generalize (execOp a.eval o).run P w = r at *
 cases r with
 |ok n w' =>
  cases n <;> simp only [Oper.upon] at h ⊢
  case value u=>exact ⟨h,put _ _ _ _ rfl⟩
  case skip=>exact ⟨h,put _ _ _ _ rfl⟩
  case defer d=>exact ⟨h,put _ _ _ _ rfl⟩
  case enter f args =>
   refine Calls.mono h fun e w'' he=>?_
   cases e with
   |returned u=>exact ⟨he,put _ _ _ _ rfl⟩
   |panicked c=>exact he
   |outgrown=>exact he
  case row row args=>exact Rows.mono h fun u w'' he=>⟨he,put _ _ _ _ rfl⟩
 |halt x w' =>
  cases x <;> simp only [Oper.upon] at h ⊢
  case panic u=>exact h
def Held (E : Env) (hs : AState) (a : Act) : Prop:=∀ i,Rep E.H0 rho0 (hs.slot i) (a.tmps.getD i undef)
theorem Held.eval {hs : AState} {a : Act} (h : Held E hs a) (x : Operand) : Rep E.H0 rho0 (hs.eval x) (a.eval x):=by
 cases x with
 |tmp t=>exact h t
 |const v=>exact Rep.ofVal v
 |global g=>exact .v rfl
 |func f=>exact Rep.fn (us:=[]) (vs:=[]) rfl rfl (by simp) (by simp)
def DH (P : Program) (E : Env) (ops : Array Oper) (Q : AExit → AState → Prop) (fuel : Nat) (listed : Array Bool) (hs s : AState) : Prop :=
 ∀ H ρ a w,Sim E H ρ s.slot s.box a w → Held E hs a → wpAnyH P .any ops (post E Q) (fun w=>Ext E.H0 w) fuel listed a w
def dropS (hs : AState) (d : Option Tmp) : AState:=⟨hs.s.filter fun p=>decide (d ≠ some p.1),[]⟩
theorem lk_filter (d : Option Tmp) : ∀ (l : List (Nat × AV)) (i : Nat),d ≠ some i → lk (l.filter fun p=>decide (d ≠ some p.1)) i = lk l i
 |[],_,_=>rfl
 |(j,x) :: l,i,h=>by
  by_cases hj : d = some j
  ·have : j ≠ i:=by rintro rfl;exact h hj
   simp [hj,lk,this]
   have:=lk_filter d l i h
   simpa [hj] using this
  ·simp only [List.filter_cons,ne_eq,hj,not_false_eq_true,decide_true,if_true,lk]
   split
   ·rfl
   ·exact lk_filter d l i h
theorem lk_filter0 (d : Option Tmp) : ∀ (l : List (Nat × AV)) (i : Nat),d = some i → lk (l.filter fun p=>decide (d ≠ some p.1)) i = none
 |[],_,_=>rfl
 |(j,x) :: l,i,h=>by
  by_cases hj : d = some j
  ·have:=lk_filter0 d l i h
   simp [hj]
   simpa [hj] using this
  ·have hji : j ≠ i:=by rintro rfl;exact hj h
   simp only [List.filter_cons,ne_eq,hj,not_false_eq_true,decide_true,if_true,lk,if_neg hji]
   exact lk_filter0 d l i h
theorem Held.drop {hs : AState} {a a' : Act} {d : Option Tmp} (h : Held E hs a) (he : ∀ i,d ≠ some i → a'.tmps.getD i undef = a.tmps.getD i undef) : Held E (dropS hs d) a':=by
 intro i
 unfold dropS AState.slot
 by_cases hi : d = some i
 ·simp only [lk_filter0 d hs.s i hi];exact .u
 ·simp only [lk_filter d hs.s i hi]
  rw [he i hi]
  exact h i
theorem Sim.held {H : Heap} {ρ : Rho} {sf : Nat → AV} {bf : Nat → Option Ct} {a : Act} {w : World} (h : Sim E H ρ sf bf a w) : Ext E.H0 w:=fun b o u hu=>h.ext b o u (h.h0 b o u hu)
theorem rep_rho0 {H : Heap} {x : AV} {v : Value} (h : Rep H rho0 x v) (ρ : Rho) : Rep H ρ x v:=h.any (fun _=>rfl) ρ
theorem DH_take {ops : Array Oper} {Q : AExit → AState → Prop} {fuel : Nat} {listed : Array Bool} {hs s : AState} (i : Nat) (oi : Oper) (d : Tmp) (hi : ops[i]? = some oi) (hsel : Region.noSelect ops = true) (hf : Region.free .any ops listed i = true) (hr : (Region.ready .any ops listed).contains i = true)
 (hg : oi.guard = none) (hd : oi.dst = some d) (hdn : d < E.n) (hq : qheld P oi hs.eval (fun x=>DH P E ops Q fuel (listed.setIfInBounds i true) ⟨(d,x) :: hs.s,[]⟩ (s.put (some d) x))) : DH P E ops Q (fuel + 1) listed hs s:=by
 intro H ρ a w hsim hheld
 obtain ⟨x,u,hk,hrep,hrun⟩:=qheld_sound (H:=E.H0) (ρ:=rho0) (fun x=>hheld.eval x) hq
 have hy : YieldsIf P ops (fun w=>Ext E.H0 w) oi u a:=.inl ⟨by simp [Region.wanted,hg],fun w' hw'=>hrun w' (fun _=>hw')⟩
 refine wpAnyH_take hi hsel hf hr (fun c a w h=>h) hy hsim.held ?_
 have hlt : d < a.tmps.size:=by rw [hsim.size];exact hdn
 rw [hd]
 refine hk H ρ _ w ?_ ?_
 ·rw [AState.slot_put,AState.box_put]
  exact hsim.put (by rintro t ht;cases ht;exact hdn) ((rep_rho0 hrep ρ).mono hsim.h0)
 ·intro j
  simp only [AState.slot,lk]
  by_cases hj : d = j
  ·subst hj
   simp [Act.put,hlt,hrep]
  ·rw [if_neg hj]
   have:=hheld j
   simpa [Act.put,Array.getD_eq_getD_getElem?,Array.getElem?_setIfInBounds_ne hj] using this
theorem DH_takeP {ops : Array Oper} {Q : AExit → AState → Prop} {fuel : Nat} {listed : Array Bool} {hs s : AState} (i : Nat) (oi : Oper) (d : Tmp) (hi : ops[i]? = some oi) (hsel : Region.noSelect ops = true) (hf : Region.free .any ops listed i = true) (hr : (Region.ready .any ops listed).contains i = true)
 (hg : oi.guard = none) (hd : oi.dst = some d) (hdn : d < E.n) (hl : isLoad oi.op = false) (hq : qheld P oi s.eval (fun x=>DH P E ops Q fuel (listed.setIfInBounds i true) (dropS hs (some d)) (s.put (some d) x))) : DH P E ops Q (fuel + 1) listed hs s:=by
 intro H ρ a w hsim hheld
 obtain ⟨x,u,hk,hrep,hrun⟩:=qheld_sound (H:=H) (ρ:=ρ) (fun x=>hsim.eval x) hq
 have hy : YieldsIf P ops (fun w=>Ext E.H0 w) oi u a:=.inl ⟨by simp [Region.wanted,hg],fun w' _=>hrun w' (fun h=>by rw [hl] at h;cases h)⟩
 refine wpAnyH_take hi hsel hf hr (fun c a w h=>h) hy hsim.held ?_
 rw [hd]
 refine hk H ρ _ w ?_ (hheld.drop fun j hj=>?_)
 ·rw [AState.slot_put,AState.box_put]
  exact hsim.put (by rintro t ht;cases ht;exact hdn) hrep
 ·have hne : d ≠ j:=fun e=>hj (by rw [e])
  simp [Act.put,Array.getD_eq_getD_getElem?,Array.getElem?_setIfInBounds_ne hne]
def guardK (x : AV) (want : Bool) (yes no : Prop) : Prop:=match x with
 |.v (.bool b)=>(b = want → yes) ∧ (b = (!want) → no)
 |.tup []=>no
 |_=>False
@[simp] theorem guardK_b {b want : Bool} {yes no : Prop} : guardK (.v (.bool b)) want yes no = ((b = want → yes) ∧ (b = (!want) → no)):=rfl
@[simp] theorem guardK_u {want : Bool} {yes no : Prop} : guardK (.tup []) want yes no = no:=rfl
theorem guardK_spec {ops : Array Oper} {o : Oper} {H : Heap} {ρ : Rho} {s : AState} {a : Act} {w : World} {j t : Nat} {want : Bool} {yes no : Prop} (hs : Sim E H ρ s.slot s.box a w) (hg : o.guard = some (j,want)) (ht : (ops[j]?).bind (·.dst) = some t) (h : guardK (s.slot t) want yes no) :
 (Region.wanted o (yielded ops a.tmps) = true ∧ yes) ∨ (Region.wanted o (yielded ops a.tmps) = false ∧ no):=by
 obtain ⟨y1,y2⟩:=yielded_of (a:=a) ht
 unfold guardK at h
 split at h
 ·rename_i b hb
  have hy:=y1 b (bool_slot hs hb)
  by_cases e : b = want
  ·exact .inl ⟨by simp [Region.wanted,hg,hy,e],h.1 e⟩
  ·have e2 : b = !want:=by cases b <;> cases want <;> simp at e ⊢
   refine .inr ⟨?_,h.2 e2⟩
   subst e2
   simp [Region.wanted,hg,hy]
 ·rename_i hb
  exact .inr ⟨by simp [Region.wanted,hg,y2 (undef_slot hs hb)],h⟩
 ·exact h.elim
theorem DH_takeG {ops : Array Oper} {Q : AExit → AState → Prop} {fuel : Nat} {listed : Array Bool} {hs s : AState} (i : Nat) (oi : Oper) (d : Tmp) {j t : Nat} {want : Bool} (hi : ops[i]? = some oi) (hsel : Region.noSelect ops = true) (hf : Region.free .any ops listed i = true) (hr : (Region.ready .any ops listed).contains i = true)
 (hg : oi.guard = some (j,want)) (ht : (ops[j]?).bind (·.dst) = some t) (hd : oi.dst = some d) (hdn : d < E.n)
 (hq : guardK (s.slot t) want (qheld P oi hs.eval (fun x=>DH P E ops Q fuel (listed.setIfInBounds i true) ⟨(d,x) :: hs.s,[]⟩ (s.put (some d) x))) (DH P E ops Q fuel (listed.setIfInBounds i true) ⟨(d,.tup []) :: hs.s,[]⟩ (s.put (some d) (.tup [])))) : DH P E ops Q (fuel + 1) listed hs s:=by
 intro H ρ a w hsim hheld
 have hlt : d < a.tmps.size:=by rw [hsim.size];exact hdn
 have fin : ∀ (x : AV) (u : Value),Rep E.H0 rho0 x u → YieldsIf P ops (fun w=>Ext E.H0 w) oi u a → DH P E ops Q fuel (listed.setIfInBounds i true) ⟨(d,x) :: hs.s,[]⟩ (s.put (some d) x) → wpAnyH P .any ops (post E Q) (fun w=>Ext E.H0 w) (fuel + 1) listed a w:=by
  intro x u hrep hy hk
  refine wpAnyH_take hi hsel hf hr (fun c a w h=>h) hy hsim.held ?_
  rw [hd]
  refine hk H ρ _ w ?_ ?_
  ·rw [AState.slot_put,AState.box_put]
   exact hsim.put (by rintro t ht;cases ht;exact hdn) ((rep_rho0 hrep ρ).mono hsim.h0)
  ·intro j
   simp only [AState.slot,lk]
   by_cases hj : d = j
   ·subst hj
    simp [Act.put,hlt,hrep]
   ·rw [if_neg hj]
    have:=hheld j
    simpa [Act.put,Array.getD_eq_getD_getElem?,Array.getElem?_setIfInBounds_ne hj] using this
 rcases guardK_spec hsim hg ht hq with ⟨hw,hy⟩|⟨hw,hn⟩
 ·obtain ⟨x,u,hk,hrep,hrun⟩:=qheld_sound (H:=E.H0) (ρ:=rho0) (fun x=>hheld.eval x) hy
  exact fin x u hrep (.inl ⟨hw,fun w' hw'=>hrun w' (fun _=>hw')⟩) hk
 ·exact fin (.tup []) undef Rep.undef (.inr ⟨hw,rfl⟩) hn
def DHall (P : Program) (E : Env) (ops : Array Oper) (Q : AExit → AState → Prop) (fuel : Nat) (listed : Array Bool) (hs s : AState) : List Nat → Prop
 |[]=>True
 |i :: is=>(match ops[i]? with
  |some o=>dstOK E.n [o] = true ∧ ((o.guard = none ∧ stepOp P E o s (fun s'=>DH P E ops Q fuel (listed.setIfInBounds i true) (dropS hs o.dst) s')) ∨
    ∃ j want t,o.guard = some (j,want) ∧ (ops[j]?).bind (·.dst) = some t ∧ guardK (s.slot t) want (stepOp P E o s (fun s'=>DH P E ops Q fuel (listed.setIfInBounds i true) (dropS hs o.dst) s'))
      (DH P E ops Q fuel (listed.setIfInBounds i true) (dropS hs o.dst) (s.put o.dst (.tup []))))
  |none=>False) ∧ DHall P E ops Q fuel listed hs s is
theorem DH_all {ops : Array Oper} {Q : AExit → AState → Prop} {fuel : Nat} {listed : Array Bool} {hs s : AState} (rs : List Nat) (hr : Region.ready .any ops listed = rs) (hne : rs ≠ []) (h : DHall P E ops Q fuel listed hs s rs) : DH P E ops Q (fuel + 1) listed hs s:=by
 intro H ρ a w hsim hheld
 refine wpAnyH_all hr hne fun i hi=>?_
 clear hr hne
 induction rs with
 |nil=>cases hi
 |cons j rs ih =>
  obtain ⟨h1,h2⟩:=h
  rcases List.mem_cons.1 hi with rfl|hi
  ·split at h1
   ·rename_i o ho
    obtain ⟨hd,h1⟩:=h1
    have go : Region.wanted o (yielded ops a.tmps) = true → stepOp P E o s (fun s'=>DH P E ops Q fuel (listed.setIfInBounds i true) (dropS hs o.dst) s') → wpOp P ops (post E Q) i (fun a' w'=>Ext E.H0 w' ∧ wpAnyH P .any ops (post E Q) (fun w=>Ext E.H0 w) fuel (listed.setIfInBounds i true) a' w') a w:=by
     intro hw hst
     unfold wpOp
     simp only [ho]
     rw [if_pos hw]
     refine .inl (Oper.wp_mono ?_ (Oper.wp_put (stepOp_sound hsim (dstOK_spec hd o (by simp)) hst)))
     rintro a' w' ⟨⟨s',H',ρ',hk,hs'⟩,hput⟩
     exact ⟨hs'.held,hk H' ρ' a' w' hs' (hheld.drop hput)⟩
    rcases h1 with ⟨hg,hst⟩|⟨j,want,t,hg,ht,hk⟩
    ·exact go (by simp [Region.wanted,hg]) hst
    ·rcases guardK_spec hsim hg ht hk with ⟨hw,hst⟩|⟨hw,hno⟩
     ·exact go hw hst
     ·unfold wpOp
      simp only [ho]
      rw [if_neg (by simp [hw])]
      refine ⟨hsim.held,hno H ρ _ w ?_ (hheld.drop fun k hk=>?_)⟩
      ·rw [AState.slot_put,AState.box_put]
       exact hsim.put (dstOK_spec hd o (by simp)) Rep.undef
      ·cases hod : o.dst with
       |none=>rfl
       |some d =>
        have hne : d ≠ k:=fun e=>hk (by rw [hod,e])
        simp [Act.put,Array.getD_eq_getD_getElem?,Array.getElem?_setIfInBounds_ne hne]
   ·exact h1.elim
  ·exact ih h2 hi
theorem DH_done {ops : Array Oper} {Q : AExit → AState → Prop} {fuel : Nat} {listed : Array Bool} {hs s : AState} (hr : (Region.ready .any ops listed).isEmpty = true) (h : Q .normal s) : DH P E ops Q fuel listed hs s:=by
 intro H ρ a w hsim _
 exact wpAnyH_done (by simpa using hr) ⟨s,H,ρ,h,hsim⟩ fuel
theorem AW_drawH {s : AState} {Q : AExit → AState → Prop} {id : Nat} {l : List Oper} (hs : AState) (hm : P.follows .mixedOrders = true) (hh : ∀ p ∈ hs.s,s.slot p.1 = p.2 ∧ p.2.idf = true)
 (h : ∀ E' : Env,E'.n = E.n → DH P E' l.toArray Q l.length (Array.replicate l.length false) hs s) : AW P E (.region id l.toArray true) s Q:=by
 intro H ρ a w hsim
 have hs' : Sim { E with H0:=H } H ρ s.slot s.box a { w with drawn:=w.drawn + 1 }:=by
  have h:=hsim.drew
  exact ⟨h.ext,h.slots,h.size,h.defers,h.boxes,H.le_refl,fun b o v hv h0=>by rw [show H b o = none from h0] at hv;simp at hv,h.frame,h.keep,h.nle⟩
 have hheld : Held { E with H0:=H } hs a:=by
  intro i
  unfold AState.slot
  cases hl : lk hs.s i with
  |none=>exact .u
  |some x =>
   have hmem : (i,x) ∈ hs.s:=lk_mem hl
   obtain ⟨h1,h2⟩:=hh _ hmem
   have:=hsim.slots i
   simp only at h1 h2
   rw [h1] at this
   exact this.idf h2
 have back : ∀ (s : AState) (H' : Heap) (ρ' : Rho) (a : Act) (w : World),Sim { E with H0:=H } H' ρ' s.slot s.box a w → Sim E H' ρ' s.slot s.box a w:=by
  intro s H' ρ' a w h
  refine ⟨h.ext,h.slots,h.size,h.defers,h.boxes,fun b o u hu=>h.h0 b o u (hsim.h0 b o u hu),fun b o v hv h0=>?_,h.frame,h.keep,h.nle⟩
  cases hH : H b o with
  |none=>exact h.new b o v hv hH
  |some u=>exact hsim.new b o u hH h0
 have key:=h { E with H0:=H } rfl H ρ a _ hs' hheld
 refine Code.wp_mono ?_ (wp_region_held (S:=fun w=>Ext H w) hm (by simpa using key))
 intro e a' w' hp
 cases e with
 |normal=>obtain ⟨s',H',ρ',h1,h2⟩:=hp;exact ⟨s',H',ρ',h1,back _ _ _ _ _ h2⟩
 |ret=>obtain ⟨s',H',ρ',h1,h2⟩:=hp;exact ⟨s',H',ρ',h1,back _ _ _ _ _ h2⟩
 |exit id=>obtain ⟨s',H',ρ',h1,h2⟩:=hp;exact ⟨s',H',ρ',h1,back _ _ _ _ _ h2⟩
 |_=>exact hp
def lst (n : Nat) : List Nat → Array Bool
 |[]=>Array.replicate n false
 |i :: l=>(lst n l).setIfInBounds i true
def DHd (P : Program) (E : Env) (ops : Array Oper) (Q : AExit → AState → Prop) (done : List Nat) (hs s : AState) : Prop:=DH P E ops Q (ops.size - done.length) (lst ops.size done) hs s
structure Kont3 (K A : AState → AState → Prop) : Prop where
 h : ∀ hs s,A hs s → K hs s
theorem useK3 {K A : AState → AState → Prop} {hs s : AState} (h : Kont3 K A) (ha : A hs s) : K hs s:=h.h hs s ha
def takeOK (ops : Array Oper) (done : List Nat) (i : Nat) : Bool :=
 (Region.ready .any ops (lst ops.size done)).contains i && Region.noSelect ops && Region.free .any ops (lst ops.size done) i && decide (done.length < ops.size)
theorem DHd_take {ops : Array Oper} {Q : AExit → AState → Prop} {done : List Nat} {hs s : AState} (i : Nat) {oi : Oper} {d : Tmp} (hi : ops[i]? = some oi) (ht : takeOK ops done i = true)
 (hg : oi.guard = none) (hd : oi.dst = some d) (hdn : d < E.n) (h : ∀ K : AState → AState → Prop,Kont3 K (fun hs' s'=>DHd P E ops Q (i :: done) hs' s') → qheld P oi hs.eval (fun x=>K ⟨(d,x) :: hs.s,[]⟩ (s.put (some d) x))) : DHd P E ops Q done hs s:=by
 simp only [takeOK,Bool.and_eq_true,decide_eq_true_eq] at ht
 obtain ⟨⟨⟨h1,h2⟩,h3⟩,h4⟩:=ht
 have hq:=h _ ⟨fun _ _ h=>h⟩
 unfold DHd
 rw [show ops.size - done.length = (ops.size - (i :: done).length) + 1 by simp;omega]
 exact DH_take i oi d hi h2 h3 h1 hg hd hdn hq
theorem DHd_takeP {ops : Array Oper} {Q : AExit → AState → Prop} {done : List Nat} {hs s : AState} (i : Nat) {oi : Oper} {d : Tmp} (hi : ops[i]? = some oi) (ht : takeOK ops done i = true)
 (hg : oi.guard = none) (hd : oi.dst = some d) (hdn : d < E.n) (hl : isLoad oi.op = false) (h : ∀ K : AState → AState → Prop,Kont3 K (fun hs' s'=>DHd P E ops Q (i :: done) hs' s') → qheld P oi s.eval (fun x=>K (dropS hs (some d)) (s.put (some d) x))) : DHd P E ops Q done hs s:=by
 simp only [takeOK,Bool.and_eq_true,decide_eq_true_eq] at ht
 obtain ⟨⟨⟨h1,h2⟩,h3⟩,h4⟩:=ht
 have hq:=h _ ⟨fun _ _ h=>h⟩
 unfold DHd
 rw [show ops.size - done.length = (ops.size - (i :: done).length) + 1 by simp;omega]
 exact DH_takeP i oi d hi h2 h3 h1 hg hd hdn hl hq
theorem dt {N : Nat} (hN : E.n = N) {ops : Array Oper} {Q : AExit → AState → Prop} {done : List Nat} {hs s : AState} (i : Nat) {oi : Oper} {d : Tmp} (h : ∀ K : AState → AState → Prop,Kont3 K (fun hs' s'=>DHd P E ops Q (i :: done) hs' s') → qheld P oi hs.eval (fun x=>K ⟨(d,x) :: hs.s,[]⟩ (s.put (some d) x)))
 (hi : ops[i]? = some oi:=by exact rfl) (ht : takeOK ops done i = true:=by decide +kernel) (hg : oi.guard = none:=by rfl) (hd : oi.dst = some d:=by rfl) (hdn : d < N:=by decide) : DHd P E ops Q done hs s:=DHd_take i hi ht hg hd (hN ▸ hdn) h
theorem dp {N : Nat} (hN : E.n = N) {ops : Array Oper} {Q : AExit → AState → Prop} {done : List Nat} {hs s : AState} (i : Nat) {oi : Oper} {d : Tmp} (h : ∀ K : AState → AState → Prop,Kont3 K (fun hs' s'=>DHd P E ops Q (i :: done) hs' s') → qheld P oi s.eval (fun x=>K (dropS hs (some d)) (s.put (some d) x)))
 (hi : ops[i]? = some oi:=by exact rfl) (ht : takeOK ops done i = true:=by decide +kernel) (hg : oi.guard = none:=by rfl) (hd : oi.dst = some d:=by rfl) (hdn : d < N:=by decide) (hl : isLoad oi.op = false:=by rfl) : DHd P E ops Q done hs s:=DHd_takeP i hi ht hg hd (hN ▸ hdn) hl h
theorem DHd_takeG {ops : Array Oper} {Q : AExit → AState → Prop} {done : List Nat} {hs s : AState} (i : Nat) {oi : Oper} {d : Tmp} {j t : Nat} {want : Bool} (hi : ops[i]? = some oi) (hto : takeOK ops done i = true)
 (hg : oi.guard = some (j,want)) (ht : (ops[j]?).bind (·.dst) = some t) (hd : oi.dst = some d) (hdn : d < E.n)
 (h : ∀ K : AState → AState → Prop,Kont3 K (fun hs' s'=>DHd P E ops Q (i :: done) hs' s') → guardK (s.slot t) want (qheld P oi hs.eval (fun x=>K ⟨(d,x) :: hs.s,[]⟩ (s.put (some d) x))) (K ⟨(d,.tup []) :: hs.s,[]⟩ (s.put (some d) (.tup [])))) : DHd P E ops Q done hs s:=by
 simp only [takeOK,Bool.and_eq_true,decide_eq_true_eq] at hto
 obtain ⟨⟨⟨h1,h2⟩,h3⟩,h4⟩:=hto
 have hq:=h _ ⟨fun _ _ h=>h⟩
 unfold DHd
 rw [show ops.size - done.length = (ops.size - (i :: done).length) + 1 by simp;omega]
 exact DH_takeG i oi d hi h2 h3 h1 hg ht hd hdn hq
def rdy (ops : Array Oper) (done : List Nat) (i : Nat) : Bool:=(Region.ready .any ops (lst ops.size done)).contains i
def DHsome (P : Program) (E : Env) (ops : Array Oper) (Q : AExit → AState → Prop) (done : List Nat) (hs s : AState) : Nat → Prop
 |0=>True
 |i + 1=>DHsome P E ops Q done hs s i ∧ (rdy ops done i = true → match ops[i]? with
  |some o=>dstOK E.n [o] = true ∧ ((o.guard = none ∧ stepOp P E o s (fun s'=>DHd P E ops Q (i :: done) (dropS hs o.dst) s')) ∨
    ∃ j want t,o.guard = some (j,want) ∧ (ops[j]?).bind (·.dst) = some t ∧ guardK (s.slot t) want (stepOp P E o s (fun s'=>DHd P E ops Q (i :: done) (dropS hs o.dst) s')) (DHd P E ops Q (i :: done) (dropS hs o.dst) (s.put o.dst (.tup []))))
  |none=>False)
theorem DHsome_nil {ops : Array Oper} {Q : AExit → AState → Prop} {done : List Nat} {hs s : AState} : DHsome P E ops Q done hs s 0:=trivial
theorem DHsome_no {ops : Array Oper} {Q : AExit → AState → Prop} {done : List Nat} {hs s : AState} {i : Nat} (h : rdy ops done i = false) (r : DHsome P E ops Q done hs s i) : DHsome P E ops Q done hs s (i + 1):=⟨r,fun h'=>by rw [h] at h';cases h'⟩
theorem DHsome_yes {ops : Array Oper} {Q : AExit → AState → Prop} {done : List Nat} {hs s : AState} {i : Nat} {oi : Oper} (hi : ops[i]? = some oi) (hg : oi.guard = none) (hd : dstOK E.n [oi] = true)
 (h : ∀ K : AState → AState → Prop,Kont3 K (fun hs' s'=>DHd P E ops Q (i :: done) hs' s') → stepOp P E oi s (fun s'=>K (dropS hs oi.dst) s')) (r : DHsome P E ops Q done hs s i) : DHsome P E ops Q done hs s (i + 1) :=
 ⟨r,fun _=>by rw [hi];exact ⟨hd,.inl ⟨hg,h _ ⟨fun _ _ h=>h⟩⟩⟩⟩
theorem DHsome_yesG {ops : Array Oper} {Q : AExit → AState → Prop} {done : List Nat} {hs s : AState} {i j t : Nat} {want : Bool} {oi : Oper} (hi : ops[i]? = some oi) (hg : oi.guard = some (j,want)) (ht : (ops[j]?).bind (·.dst) = some t) (hd : dstOK E.n [oi] = true)
 (h : ∀ K : AState → AState → Prop,Kont3 K (fun hs' s'=>DHd P E ops Q (i :: done) hs' s') → guardK (s.slot t) want (stepOp P E oi s (fun s'=>K (dropS hs oi.dst) s')) (K (dropS hs oi.dst) (s.put oi.dst (.tup [])))) (r : DHsome P E ops Q done hs s i) : DHsome P E ops Q done hs s (i + 1) :=
 ⟨r,fun _=>by rw [hi];exact ⟨hd,.inr ⟨j,want,t,hg,ht,h _ ⟨fun _ _ h=>h⟩⟩⟩⟩
theorem DHd_any {ops : Array Oper} {Q : AExit → AState → Prop} {done : List Nat} {hs s : AState} {n : Nat} (hn : ops.size = n) (h0 : (!(Region.ready .any ops (lst ops.size done)).isEmpty && decide (done.length < ops.size)) = true) (h : DHsome P E ops Q done hs s n) : DHd P E ops Q done hs s:=by
 simp only [Bool.and_eq_true,decide_eq_true_eq,Bool.not_eq_true',List.isEmpty_eq_false_iff] at h0
 unfold DHd
 rw [show ops.size - done.length = (ops.size - done.length - 1) + 1 by omega]
 refine DH_all _ rfl h0.1 ?_
 have all : ∀ i,i < n → rdy ops done i = true → ∃ o,ops[i]? = some o ∧ dstOK E.n [o] = true ∧ ((o.guard = none ∧ stepOp P E o s (fun s'=>DHd P E ops Q (i :: done) (dropS hs o.dst) s')) ∨
       ∃ j want t,o.guard = some (j,want) ∧ (ops[j]?).bind (·.dst) = some t ∧ guardK (s.slot t) want (stepOp P E o s (fun s'=>DHd P E ops Q (i :: done) (dropS hs o.dst) s')) (DHd P E ops Q (i :: done) (dropS hs o.dst) (s.put o.dst (.tup [])))):=by
  clear hn
  induction n with
  |zero=>intro i h;omega
  |succ n ih =>
   intro i hi hr
   obtain ⟨h1,h2⟩:=h
   by_cases e : i = n
   ·subst e
    have:=h2 hr
    split at this
    ·rename_i o ho;exact ⟨o,ho,this⟩
    ·exact this.elim
   ·exact ih h1 i (by omega) hr
 have key : ∀ rs : List Nat,(∀ i ∈ rs,i ∈ Region.ready .any ops (lst ops.size done)) → DHall P E ops Q (ops.size - done.length - 1) (lst ops.size done) hs s rs:=by
  intro rs
  induction rs with
  |nil=>intro _;trivial
  |cons i rs ih =>
   intro hm
   refine ⟨?_,ih fun j hj=>hm j (List.mem_cons_of_mem _ hj)⟩
   have hi:=hm i List.mem_cons_self
   obtain ⟨_,o,ho,_⟩:=mem_ready.1 hi
   have hlt:=(Array.getElem?_eq_some_iff.1 ho).1
   obtain ⟨o',ho',hst⟩:=all i (by omega) (by simpa [rdy] using hi)
   rw [ho']
   have e : ops.size - done.length - 1 = ops.size - (i :: done).length:=by simp;omega
   rw [e]
   exact hst
 exact key _ fun i hi=>hi
theorem DHd_done {ops : Array Oper} {Q : AExit → AState → Prop} {done : List Nat} {hs s : AState} (hr : (Region.ready .any ops (lst ops.size done)).isEmpty = true) (h : Q .normal s) : DHd P E ops Q done hs s:=DH_done hr h
theorem AW_drawHd {s : AState} {Q : AExit → AState → Prop} {id : Nat} {l : List Oper} (hs : AState) (hm : P.follows .mixedOrders = true) (hh : ∀ p ∈ hs.s,s.slot p.1 = p.2 ∧ p.2.idf = true)
 (h : ∀ E' : Env,E'.n = E.n → DHd P E' l.toArray Q [] hs s) : AW P E (.region id l.toArray true) s Q :=
 AW_drawH hs hm hh fun E' hE'=>by
  have:=h E' hE'
  simpa [DHd,lst] using this
end
@[simp] theorem dropS_mk (l : List (Nat × AV)) (b : List (Nat × Ct)) (d : Option Tmp) : dropS ⟨l,b⟩ d = ⟨l.filter fun p=>decide (d ≠ some p.1),[]⟩:=rfl
attribute [simp] qheld AV.kn
end Go.Am
end
