/- The abstract machine, part 12: stores, appends, map updates -/
import Derived.Test.YtbibemijcdkjhaaGreatDoorZ1
import Derived.Lib.AppendStr
import Derived.Maps.RangeRun
import Derived.Lib.AppendZeros
import Derived.Lib.ConvBytes
import Derived.Laws.BytesString
import Derived.Lib.IfaceEq
set_option linter.unusedSimpArgs false
set_option linter.unusedVariables false
section
namespace Go.Am
open Go.RowKit
def astore (y : AV) (off : Nat) (x : AV) : AV:=if off = 0 ∧ x.cells.length = y.cells.length ∧ x.isSt = y.isSt then x else .st (setPart y.cells off x.cells)
def AState.setBox (s : AState) (id : Nat) (c : Ct) : AState:=⟨s.s,(id,c) :: s.b⟩
def aStore (P : Program) (T : TypeId) (p x : AV) (s : AState) (K : AState → Prop) : Prop :=
 (okT P T = true ∧ x.sto = true ∧ x.cells.length = P.cellsOf T) ∧ match p with
 |.loc id off=>(match s.box id with
  |some (.box T' y)=>(off + x.cells.length ≤ y.cells.length ∧ ((off = 0 ∧ x.cells.length = y.cells.length ∧ x.isSt = y.isSt) ∨ y.isSt = true)) ∧ K (s.setBox id (.box T' (astore y off x)))
  |_=>False)
 |.eloc id kk i off=>(match s.box id with
  |some (.arr T' k xs)=>(kk = k ∧ i < xs.length ∧ off + x.cells.length ≤ k ∧ ((off = 0 ∧ x.cells.length = (xs.getD i .u).cells.length ∧ x.isSt = (xs.getD i .u).isSt) ∨ (xs.getD i .u).isSt = true)) ∧
    K (s.setBox id (.arr T' k (xs.set i (astore (xs.getD i .u) off x))))
  |_=>False)
 |_=>False
def killL (id : Nat) : List (Nat × AV) → List (Nat × AV)
 |[]=>[]
 |(i,x) :: l=>(i,if x.ment id then .u else x) :: killL id l
def aSrc (s : AState) (x : AV) (K : List AV → Prop) (k : Nat) : Prop :=
 match x with
 |.sl k' ys=>k' = k ∧ K ys
 |.own id k' off m=>(match s.box id with
  |some (.arr _ k2 xs)=>(k' = k ∧ k2 = k ∧ off + m ≤ xs.length) ∧ K ((xs.drop off).take m)
  |_=>False)
 |.v (.slice none n _)=>n = 0 ∧ K []
 |_=>False
def aAppK (P : Program) (T : TypeId) (v : AV) (s : AState) (d : Option Tmp) (src : Nat → (List AV → Prop) → Prop) (K : AState → Prop) : Prop :=
 match P.underlying T with
 |some (.slice e)=>(okT P e = true ∧ 0 < P.cellsOf e ∧ (zeroAV P e).any (fun z=>z.sto && z.cells.length == P.cellsOf e) = true) ∧ (match v with
  |.own id k off n=>(match s.box id with
   |some (.arr e' k' xs)=>src k (fun ys=>(e' = e ∧ k = P.cellsOf e ∧ k' = k ∧ off = 0 ∧ id < 1000000 ∧ n ≤ xs.length ∧ n + ys.length ≤ 9223372036854775807 ∧ (n + ys.length) * P.bytesOf e ≤ 140737488355328 ∧ mentB id s.b = false ∧ mentL id ys = false) ∧
     K ((AState.mk (killL id s.s) ((id,.arr e k (xs.take n ++ ys)) :: s.b)).put d (.own id k 0 (n + ys.length))))
   |_=>False)
  |.v (.slice none n c)=>(match d with
   |some t=>src (P.cellsOf e) (fun ys=>(n = 0 ∧ c = 0 ∧ ys.length ≤ 9223372036854775807 ∧ ys.length * P.bytesOf e ≤ 140737488355328 ∧ mentB t s.b = false ∧ mentL t ys = false) ∧
     K ((AState.mk (killL t s.s) ((t,.arr e (P.cellsOf e) ys) :: s.b)).put d (.own t (P.cellsOf e) 0 ys.length)))
   |none=>False)
  |_=>False)
 |_=>False
def aAppend (P : Program) (T : TypeId) (v x : AV) (s : AState) (d : Option Tmp) (K : AState → Prop) : Prop:=aAppK P T v s d (fun k K=>aSrc s x K k) K
def byteA (b : UInt8) : AV:=.v (.int .u8 b.toNat)
def strA (s : ByteArray) : List AV:=s.data.toList.map byteA
def strSrc (x : AV) (k : Nat) (K : List AV → Prop) : Prop:=match x with
 |.v (.string s)=>k = 1 ∧ K (strA s)
 |_=>False
def aAppendS (P : Program) (T T' : TypeId) (v x : AV) (s : AState) (d : Option Tmp) (K : AState → Prop) : Prop :=
 P.underlying T' = some .string ∧ (match P.underlying T with|some (.slice e)=>P.bytesOf e = 1|_=>False) ∧ aAppK P T v s d (strSrc x) K
def updA (ks : List SK) (key val : AV) : List (AV × AV) → List (AV × AV)
 |[]=>[(key,val)]
 |(k,v) :: es=>if eqA ks key.cells k.cells = some true then (key,val) :: es else (k,v) :: updA ks key val es
def aMapUpd (P : Program) (T : TypeId) (m key val : AV) (s : AState) (K : AState → Prop) : Prop :=
 match P.underlying T with
 |some (.map kt _)=>(match eqKinds P kt with
  |some ks=>(key.isSt = aggB P kt ∧ key.sto = true ∧ (eqA ks key.cells key.cells).isSome = true) ∧ (match m with
   |.mp id=>(match s.box id with
    |some (.map es _)=>keysOK ks (aggB P kt) key es ∧ K (s.setBox id (.map (updA ks key val es) none))
    |_=>False)
   |_=>False)
  |none=>False)
 |_=>False
section
variable {P : Program} {E : Env} {H : Heap} {ρ : Rho} {sf : Nat → AV} {bf : Nat → Option Ct} {a : Act} {w : World}
theorem Ext.not_owned (h : Sim E H ρ sf bf a w) {id b cap : Nat} {c : Ct} (hc : bf id = some c) (hb : ρ id = .at b cap) {b' o : Nat} {v : Value} (hv : H b' o = some v) : b' ≠ b:=by
 rintro rfl
 rw [(h.boxes.apart id c _ cap hc hb).1] at hv
 cases hv
theorem Sim.write (h : Sim E H ρ sf bf a w) {id b cap : Nat} {c c' : Ct} {w' : World} (hc : bf id = some c) (hb : ρ id = .at b cap) (hos : w'.os = w.os) (htape : w'.tape = w.tape) (hout : w'.output = w.output ∧ w.drawn ≤ w'.drawn)
 (hsz : w'.heap.size = w.heap.size) (hoth : ∀ k,k ≠ b → w'.heap[k]? = w.heap[k]?) (hc' : CtRep H ρ w' (.at b cap) c') : Sim E H ρ sf (addF bf (some id) (some c')) a w':=by
 have hmine:=(h.boxes.apart id c b cap hc hb).2.2
 refine ⟨fun b' o v hv=>?_,h.slots,h.size,h.defers,⟨fun id' c2 hc2=>?_,fun id' c2 b' cap' hc2 hb'=>?_,fun i j ci cj bi capi capj hi hj hbi hbj=>?_⟩,h.h0,h.new,?_,h.keep,h.nle⟩
 ·have hne:=Ext.not_owned h hc hb hv
  have:=h.ext b' o v hv
  rw [World.cell?_of_block (w:=w) (a:=⟨b',o,none⟩) (hoth b' hne)]
  exact this
 ·simp only [addF] at hc2
  split at hc2
  ·rename_i e;subst e;cases hc2;rw [hb];exact hc'
  ·rename_i hne
   refine (h.boxes.rep id' c2 hc2).mono H.le_refl (fun _ _=>rfl) (fun b2 cap2 hb2=>hoth b2 ?_)
   rintro rfl
   exact hne (h.boxes.inj id id' c c2 _ cap cap2 hc hc2 hb hb2)
 ·simp only [addF] at hc2
  rw [hsz]
  split at hc2
  ·rename_i e;subst e;exact h.boxes.apart id c b' cap' hc hb'
  ·exact h.boxes.apart id' c2 b' cap' hc2 hb'
 ·have lift : ∀ j cj,addF bf (some id) (some c') j = some cj → ∃ cj',bf j = some cj':=by
   intro j cj hj
   simp only [addF] at hj
   split at hj
   ·rename_i e;subst e;exact ⟨c,hc⟩
   ·exact ⟨cj,hj⟩
  obtain ⟨ci',hi'⟩:=lift i ci hi
  obtain ⟨cj',hj'⟩:=lift j cj hj
  exact h.boxes.inj i j ci' cj' bi capi capj hi' hj' hbi hbj
 ·refine ⟨hos.trans h.frame.os,htape.trans h.frame.tape,⟨hout.1.trans h.frame.output.1,Nat.le_trans h.frame.output.2 hout.2⟩,by rw [hsz];exact h.frame.size,fun k hk hm=>?_⟩
  rw [hoth k (fun e=>by subst e;exact hmine.elim (fun h1=>by omega) hm)]
  exact h.frame.block k hk hm
theorem Sim.rebind (h : Sim E H ρ sf bf a w) {id b cap : Nat} {c' : Ct} {w' : World} (hidl : id < 1000000) (hos : w'.os = w.os) (htape : w'.tape = w.tape) (hout : w'.output = w.output ∧ w.drawn ≤ w'.drawn)
 (hoth : ∀ k,k < w.heap.size → w'.heap[k]? = w.heap[k]?) (hb0 : w.heap.size ≤ b) (hb1 : b < w'.heap.size) (hm : ∀ j c,bf j = some c → c.ment id = false) {sf' : Nat → AV} (hsf : ∀ i,sf' i = .u ∨ (sf' i = sf i ∧ (sf i).ment id = false))
 (hc' : CtRep H (ρ.upd id (.at b cap)) w' (.at b cap) c') : Sim E H (ρ.upd id (.at b cap)) sf' (addF bf (some id) (some c')) a w':=by
 have hw0:=h.frame.size
 have hρne : ∀ j,j ≠ id → (ρ.upd id (.at b cap)) j = ρ j:=fun j hne=>by simp [Rho.upd,hne]
 have hHb : ∀ o,H b o = none:=by
  intro o
  cases hh : H b o with
  |none=>rfl
  |some v=>have:=World.block_lt_of_cell? w _ (h.ext b o v hh);simp at this;omega
 refine ⟨fun b' o v hv=>?_,fun i=>?_,h.size,h.defers,⟨fun id' c2 hc2=>?_,fun id' c2 b' cap' hc2 hb'=>?_,fun i j ci cj bi capi capj hi hj hbi hbj=>?_⟩,h.h0,h.new,?_,fun i hi=>(hρne i (by omega)).trans (h.keep i hi),h.nle⟩
 ·have h0:=h.ext b' o v hv
  have hlt:=World.block_lt_of_cell? w _ h0
  rw [World.cell?_of_block (w:=w) (a:=⟨b',o,none⟩) (hoth b' hlt)]
  exact h0
 ·rcases hsf i with e|⟨e,hme⟩
  ·rw [e];exact .u
  ·rw [e];exact (h.slots i).upd hme
 ·simp only [addF] at hc2
  split at hc2
  ·rename_i e;subst e;cases hc2;rw [Rho.upd_same];exact hc'
  ·rename_i hne
   rw [hρne id' (fun e=>hne e.symm)]
   refine (h.boxes.rep id' c2 hc2).mono H.le_refl (fun d hd=>hρne d (fun e=>?_)) (fun b2 cap2 hb2=>hoth b2 (h.boxes.apart id' c2 b2 cap2 hc2 hb2).2.1)
   subst e
   rw [hm id' c2 hc2] at hd
   cases hd
 ·simp only [addF] at hc2
  split at hc2
  ·rename_i e;subst e
   rw [Rho.upd_same] at hb'
   cases hb'
   exact ⟨hHb,hb1,.inl (by omega)⟩
  ·rename_i hne
   rw [hρne id' (fun e=>hne e.symm)] at hb'
   obtain ⟨h1,h2,h3⟩:=h.boxes.apart id' c2 b' cap' hc2 hb'
   exact ⟨h1,by omega,h3⟩
 ·simp only [addF] at hi hj
  split at hi
  ·rename_i e
   split at hj
   ·rename_i e';exact e.symm.trans e'
   ·rename_i hne'
    exfalso
    subst e
    rw [Rho.upd_same] at hbi
    cases hbi
    rw [hρne j (fun e=>hne' e.symm)] at hbj
    have:=(h.boxes.apart j cj _ _ hj hbj).2.1
    omega
  ·rename_i hne
   rw [hρne i (fun e=>hne e.symm)] at hbi
   split at hj
   ·rename_i e'
    exfalso
    subst e'
    rw [Rho.upd_same] at hbj
    cases hbj
    have:=(h.boxes.apart i ci _ _ hi hbi).2.1
    omega
   ·rename_i hne'
    rw [hρne j (fun e=>hne' e.symm)] at hbj
    exact h.boxes.inj i j ci cj bi capi capj hi hj hbi hbj
 ·refine ⟨hos.trans h.frame.os,htape.trans h.frame.tape,⟨hout.1.trans h.frame.output.1,Nat.le_trans h.frame.output.2 hout.2⟩,by omega,fun k hk hmay=>?_⟩
  rw [hoth k (by omega)]
  exact h.frame.block k hk hmay
theorem setRow_size (w : World) (g : Nat) (cs : Array Value) : (w.setRow g cs).heap.size = w.heap.size:=by simp [World.setRow]
theorem RepL.setPart' {cs : List AV} {vs : List Value} {off : Nat} {new : List AV} {nv : List Value} (h : RepL H ρ cs vs) (hn : RepL H ρ new nv) :
 RepL H ρ (Am.setPart cs off new) (vs.take off ++ nv ++ vs.drop (off + nv.length)):=by
 rw [List.append_assoc];exact h.setPart hn
theorem astore_cells {y x : AV} {off : Nat} (hfit : off + x.cells.length ≤ y.cells.length) (hc : (off = 0 ∧ x.cells.length = y.cells.length ∧ x.isSt = y.isSt) ∨ y.isSt = true) : (astore y off x).cells = setPart y.cells off x.cells:=by
 unfold astore
 split
 ·rename_i h
  obtain ⟨rfl,hl,_⟩:=h
  simp only [Am.setPart,List.take_zero,List.nil_append,Nat.zero_add]
  rw [hl,List.drop_length,List.append_nil]
 ·rfl
theorem AState.box_setBox (s : AState) (id : Nat) (c : Ct) : (s.setBox id c).box = addF s.box (some id) (some c):=rfl
theorem AState.slot_setBox (s : AState) (id : Nat) (c : Ct) : (s.setBox id c).slot = s.slot:=rfl
theorem run_storeAt {T : TypeId} {b o : Nat} {v : Value} {cur : Array Value} {t : TypeId} (hT : okT P T = true) (hl : v.cells.size = P.cellsOf T) (hg : w.heap[b]? = some (.cells cur t (0,0))) (hfit : o + v.cells.size ≤ cur.size) (h1 : ∀ u ∈ v.cells.toList,okV u = true) :
 (Instr.storeAt T (.pointer (some ⟨b,o,none⟩)) v).run P w = .ok () (w.setRow b (cur.toList.take o ++ v.cells.toList ++ cur.toList.drop (o + v.cells.toList.length)).toArray):=by
 have hst:=run_storeCells_at P b o t v.cells.toList 0 cur w hg (by simpa using hfit) (fun u hu=>okV_oneCell (h1 u hu))
 simp only [Nat.add_zero] at hst
 simp only [Instr.storeAt,Instr.sureAddr,Sem.run_bind,Sem.run_pure,Result.andThen_ok,storeVar,run_sizeOf' hT,hl,ne_eq,not_true_eq_false,if_false]
 exact hst
theorem aStore_sound {T : TypeId} {p x : AV} {vp vx : Value} {s : AState} {K : AState → Prop} (hs : Sim E H ρ s.slot s.box a w) (hp : Rep H ρ p vp) (hx : Rep H ρ x vx) (h : aStore P T p x s K) :
 ∃ w' s',K s' ∧ Sim E H ρ s'.slot s'.box a w' ∧ (Instr.storeAt T vp vx).run P w = .ok () w':=by
 obtain ⟨⟨hT,hsto,hlen⟩,h⟩:=h
 obtain ⟨hxc,hx1⟩:=hx.cellsL hsto
 have hvl : vx.cells.size = P.cellsOf T:=by have:=hxc.1;rw [hlen] at this;simpa using this.symm
 have hok:=hxc.ok hx1
 split at h
 ·rename_i id off
  split at h
  ·rename_i T' y hbx
   obtain ⟨⟨hfit,hcase⟩,hk⟩:=h
   cases hp with
   |loc hρ =>
    rename_i b cap
    obtain ⟨b',cap',vs,hbd,hheap,hrep,hone,hcap⟩:=hs.boxes.rep _ _ hbx
    obtain ⟨rfl,rfl⟩:=rho_at hρ hbd
    have hrun:=run_storeAt (P:=P) (w:=w) (o:=off) hT hvl hheap (by rw [hvl,← hlen];have:=hrep.1;simp;omega) hok
    refine ⟨_,_,hk,?_,hrun⟩
    rw [AState.box_setBox,AState.slot_setBox]
    have hac:=astore_cells hfit hcase
    refine hs.write hbx hρ rfl rfl ⟨rfl,Nat.le_refl _⟩ (setRow_size _ _ _) (fun k hk=>setRow_other w b k _ hk) ⟨b,cap,_,rfl,setRow_heap w b _ _ _ _ hheap,?_,?_,?_⟩
    ·rw [hac]
     exact hrep.setPart' hxc
    ·intro c hc
     rw [hac] at hc
     exact setPart_one hone hx1 c hc
    ·rw [hac,setPart_len hfit];exact hcap
  ·exact h.elim
 ·rename_i id kk i off
  split at h
  ·rename_i T' k xs hbx
   obtain ⟨⟨rfl,hi,hfit,hcase⟩,hkk⟩:=h
   cases hp with
   |eloc hρ =>
    rename_i b cap
    rcases hs.boxes.rep _ _ hbx with ⟨hnil,_⟩|⟨b',cap',cur,hbd,hheap,hmax,hcap,hsz,hrep,hall⟩
    ·rw [hnil] at hρ;cases hρ
    obtain ⟨rfl,rfl⟩:=rho_at hρ hbd
    have hxi : xs.getD i .u = xs[i]:=by simp [hi]
    rw [hxi] at hcase hkk
    have hik:=hall _ (List.getElem_mem hi)
    have hfl:=flat_len (fun x hx=>(hall x hx).1)
    have hmul : (i + 1) * kk ≤ cap * kk:=Nat.mul_le_mul_right _ (by omega)
    rw [Nat.add_mul,Nat.one_mul] at hmul
    have hrun:=run_storeAt (P:=P) (w:=w) (o:=i * kk + off) hT hvl hheap (by rw [hvl,← hlen,hsz];omega) hok
    refine ⟨_,_,hkk,?_,hrun⟩
    rw [AState.box_setBox,AState.slot_setBox]
    have hac:=astore_cells (by rw [hik.1];exact hfit) hcase
    have hackk : (astore xs[i] off x).cells.length = kk:=by rw [hac,setPart_len (by rw [hik.1];exact hfit)];exact hik.1
    have hvlx : vx.cells.toList.length = x.cells.length:=by rw [← hxc.1]
    refine hs.write hbx hρ rfl rfl ⟨rfl,Nat.le_refl _⟩ (setRow_size _ _ _) (fun k hk=>setRow_other w b k _ hk) (.inr ⟨b,cap,_,rfl,setRow_heap w b _ _ _ _ hheap,hmax,by simpa using hcap,?_,?_,?_⟩)
    ·simp only [List.size_toArray,List.length_append,List.length_take,List.length_drop,Array.length_toList,hvl]
     omega
    ·have hfs:=flat_set (fun x hx=>(hall x hx).1) hackk hi
     rw [hfs,hac,List.length_set]
     have hm2 : (i + 1) * kk ≤ xs.length * kk:=Nat.mul_le_mul_right _ (by omega)
     rw [Nat.add_mul,Nat.one_mul] at hm2
     have hseg : setPart (xs.flatMap AV.cells) (i * kk) (setPart xs[i].cells off x.cells) = setPart (xs.flatMap AV.cells) (i * kk + off) x.cells:=by
      have hg:=flat_get (fun x hx=>(hall x hx).1) (List.getElem?_eq_getElem hi)
      have hsl:=setPart_len (cs:=xs[i].cells) (off:=off) (new:=x.cells) (by rw [hik.1];exact hfit)
      unfold Am.setPart at hsl ⊢
      rw [hsl,hik.1]
      have e1 : (xs.flatMap AV.cells).take (i * kk + off) = (xs.flatMap AV.cells).take (i * kk) ++ xs[i].cells.take off:=by
       rw [List.take_add,← hg,List.take_take]
       congr 2
       omega
      have e2 : xs[i].cells.drop (off + x.cells.length) ++ (xs.flatMap AV.cells).drop (i * kk + kk) = (xs.flatMap AV.cells).drop (i * kk + off + x.cells.length):=by
       rw [← hg,← List.drop_drop (i:=kk),List.drop_take]
       have : (xs.flatMap AV.cells).drop (i * kk + off + x.cells.length) = ((xs.flatMap AV.cells).drop (i * kk)).drop (off + x.cells.length):=by rw [List.drop_drop];congr 1;omega
       rw [this]
       generalize (xs.flatMap AV.cells).drop (i * kk) = L
       have h3 : L.drop kk = (L.drop (off + x.cells.length)).drop (kk - (off + x.cells.length)):=by rw [List.drop_drop];congr 1;omega
       rw [h3,List.take_append_drop]
      rw [e1,← e2]
      simp only [List.append_assoc]
     rw [hseg]
     have hr2:=hrep.setPart' (off:=i * kk + off) hxc
     have e3 : (cur.toList.take (i * kk + off) ++ vx.cells.toList ++ cur.toList.drop (i * kk + off + vx.cells.toList.length)).take (xs.length * kk) =
      (cur.toList.take (xs.length * kk)).take (i * kk + off) ++ vx.cells.toList ++ (cur.toList.take (xs.length * kk)).drop (i * kk + off + vx.cells.toList.length):=by
      rw [List.append_assoc,List.append_assoc,List.take_append,List.take_append,List.take_take,List.drop_take]
      have l1 : (cur.toList.take (i * kk + off)).length = i * kk + off:=by simp;omega
      rw [l1,List.take_take]
      have l2 : min (xs.length * kk) (i * kk + off) = i * kk + off:=by omega
      have l2' : min (i * kk + off) (xs.length * kk) = i * kk + off:=by omega
      rw [l2,l2']
      congr 1
      have l3 : vx.cells.toList.take (xs.length * kk - (i * kk + off)) = vx.cells.toList:=List.take_of_length_le (by rw [hvlx];omega)
      rw [l3]
      congr 2
      omega
     show RepL H ρ _ (List.take (xs.length * kk) (List.toArray _).toList)
     rw [List.toList_toArray,e3]
     exact hr2
    ·intro z hz
     rcases List.mem_or_eq_of_mem_set hz with h|h
     ·exact hall z h
     ·subst h
      refine ⟨hackk,fun c hc=>?_⟩
      rw [hac] at hc
      exact setPart_one hik.2 hx1 c hc
  ·exact h.elim
 ·exact h.elim
theorem mentB_box {s : AState} {id j : Nat} {c : Ct} (h : mentB id s.b = false) (hc : s.box j = some c) : c.ment id = false:=mentB_lk hc h
theorem killL_slot {id : Nat} : ∀ (l : List (Nat × AV)) (i : Nat),(lk (killL id l) i).getD .u = .u ∨ ((lk (killL id l) i).getD .u = (lk l i).getD .u ∧ ((lk l i).getD .u).ment id = false)
 |[],i=>.inl rfl
 |(j,x) :: l,i=>by
  simp only [killL,lk]
  split
  ·cases hm : x.ment id
   ·right;simp [hm]
   ·left;simp
  ·exact killL_slot l i
def SrcRep (H : Heap) (ρ : Rho) (w : World) (k : Nat) (ys : List AV) (v : Value) : Prop :=
 (∀ y ∈ ys,y.cells.length = k ∧ oneAll y) ∧ ∃ base c,v = .slice base ys.length c ∧ (ys ≠ [] → ∃ ad,base = some ad ∧ ∃ news : List Value,RepL H ρ (ys.flatMap AV.cells) news ∧ ∀ j u,news[j]? = some u → w.cell? (ad.add j) = some u)
theorem aSrc_sound {s : AState} {x : AV} {vx : Value} {K : List AV → Prop} {k : Nat} (hs : Sim E H ρ s.slot s.box a w) (hx : Rep H ρ x vx) (h : aSrc s x K k) : ∃ ys,K ys ∧ SrcRep H ρ w k ys vx:=by
 unfold aSrc at h
 split at h
 ·rename_i k' ys
  obtain ⟨rfl,hk⟩:=h
  refine ⟨ys,hk,?_⟩
  cases hx with
  |slNil=>exact ⟨by simp,_,_,rfl,fun h=>absurd rfl h⟩
  |sl cell hcap hmax hkk hone hH hrep =>
   rename_i blk off cap
   refine ⟨fun y hy=>⟨hkk y hy,hone y hy⟩,_,_,rfl,fun _=>⟨_,rfl,?_⟩⟩
   have hfl:=flat_len hkk
   have hel : ∀ j c,(ys.flatMap AV.cells)[j]? = some c → ∃ x,ys[j / k']? = some x ∧ x.cells[j % k']? = some c:=by
    intro j c hc
    have hj : j < ys.length * k':=by rw [← hfl];exact (List.getElem?_eq_some_iff.1 hc).1
    have hk0 : 0 < k':=by
     rcases Nat.eq_zero_or_pos k' with h|h
     ·subst h;simp at hj
     ·exact h
    have hi : j / k' < ys.length:=(Nat.div_lt_iff_lt_mul hk0).2 hj
    have hg:=flat_get hkk (List.getElem?_eq_getElem hi)
    refine ⟨ys[j / k'],List.getElem?_eq_getElem hi,?_⟩
    rw [← hg,List.getElem?_take,if_pos (Nat.mod_lt _ hk0),List.getElem?_drop]
    rw [show j / k' * k' + j % k' = j by rw [Nat.mul_comm];exact Nat.div_add_mod j k']
    exact hc
   refine ⟨(List.range (ys.length * k')).map (fun j=>cell (j / k') (j % k')),⟨by rw [hfl];simp,fun j c u hc hu=>?_⟩,fun j u hu=>?_⟩
   ·obtain ⟨x,hx1,hx2⟩:=hel j c hc
    have hj : j < ys.length * k':=by rw [← hfl];exact (List.getElem?_eq_some_iff.1 hc).1
    rw [List.getElem?_map,List.getElem?_range hj] at hu
    simp at hu
    subst hu
    exact (hrep _ _ _ _ hx1 hx2).any (fun _=>rfl) ρ
   ·have hj : j < ys.length * k':=by
     have:=(List.getElem?_eq_some_iff.1 hu).1
     simpa using this
    rw [List.getElem?_map,List.getElem?_range hj] at hu
    simp at hu
    subst hu
    obtain ⟨x,hx1,hx2⟩:=hel j _ (List.getElem?_eq_getElem (by rw [hfl];exact hj))
    have:=hs.ext _ _ _ (hH _ _ _ _ hx1 hx2)
    rw [Addr.add_mk]
    rw [Nat.add_assoc,show j / k' * k' + j % k' = j by rw [Nat.mul_comm];exact Nat.div_add_mod j k'] at this
    exact this
 ·rename_i id k' off m
  split at h
  ·rename_i T k2 xs hbx
   obtain ⟨⟨rfl,rfl,hlen⟩,hk⟩:=h
   refine ⟨_,hk,?_⟩
   have hyl : ((xs.drop off).take m).length = m:=by simp;omega
   rcases hs.boxes.rep _ _ hbx with ⟨hnil,hxs⟩|⟨b',cap',cur,hbd,hheap,hmax,hcap,hsz,hrep,hall⟩
   ·subst hxs
    have hm0 : m = 0:=by simpa using hyl.symm
    refine ⟨by simp,?_⟩
    rw [hyl]
    cases hx with
    |ownNil=>exact ⟨_,_,rfl,fun h=>absurd (by simp) h⟩
    |own hρ=>rw [hnil] at hρ;cases hρ
   ·refine ⟨fun y hy=>hall y (mem_drop_take hy),?_⟩
    rw [hyl]
    cases hx with
    |ownNil=>exact ⟨_,_,rfl,fun h=>absurd (by simp) h⟩
    |own hρ hn hm =>
     rename_i b cap
     obtain ⟨rfl,rfl⟩:=rho_at hρ hbd
     refine ⟨_,_,rfl,fun _=>⟨_,rfl,?_⟩⟩
     have hfl:=flat_len (fun x hx=>(hall x hx).1)
     have hseg:=(hrep.drop (off * k2)).take (m * k2)
     have e1 : ((xs.flatMap AV.cells).drop (off * k2)).take (m * k2) = ((xs.drop off).take m).flatMap AV.cells:=by
      have hd : (xs.flatMap AV.cells).drop (off * k2) = (xs.drop off).flatMap AV.cells:=by
       conv=>lhs;rw [← List.take_append_drop off xs]
       rw [List.flatMap_append]
       have : ((xs.take off).flatMap AV.cells).length = off * k2:=by
        rw [flat_len (fun x hx=>(hall x (List.mem_of_mem_take hx)).1)]
        rw [List.length_take];congr 1;omega
       rw [← this,List.drop_left]
      rw [hd]
      conv=>lhs;rw [← List.take_append_drop m (xs.drop off)]
      rw [List.flatMap_append]
      have : (((xs.drop off).take m).flatMap AV.cells).length = m * k2:=by
       rw [flat_len (fun x hx=>(hall x (mem_drop_take hx)).1),hyl]
      rw [← this,List.take_left]
     rw [e1] at hseg
     refine ⟨_,hseg,fun j u hu=>?_⟩
     rw [Addr.add_mk,cell_of_row w b _ _ _ _ hheap]
     rw [List.getElem?_take] at hu
     split at hu
     ·rw [List.getElem?_drop,List.getElem?_take] at hu
      split at hu
      ·simpa using hu
      ·cases hu
     ·cases hu
  ·exact h.elim
 ·obtain ⟨rfl,hk⟩:=h
  rw [hx.v_inv]
  exact ⟨[],hk,by simp,_,_,rfl,fun h=>absurd rfl h⟩
 ·exact h.elim
theorem run_append_zero {t ty e : TypeId} {sb xb : Option Addr} {n c xc : Nat} (ht : P.underlying t = some (.slice e)) (hok : okT P e = true) (hc : n ≤ c) :
 (Builtin.append_ #[t,t] ty #[.slice sb n c,.slice xb 0 xc]).run P w = .ok (.slice sb n c) w:=by
 obtain ⟨i,hi⟩:=info_of_okT hok
 cases sb <;> cases xb <;> simp [Builtin.append_,run_underlying ht,Go.sizeOf,typeInfo,hi,Builtin.lenOf,hc,Builtin.firstCells,loadCells,loadCellsFrom,storeCells]
theorem mentL_flat_false {d : Nat} {xs : List AV} (h : mentL d xs = false) : mentL d (xs.flatMap AV.cells) = false:=by
 cases hm : mentL d (xs.flatMap AV.cells) with
 |false=>rfl
 |true=>rw [mentL_flat hm] at h;cases h
theorem mentL_append (d : Nat) : ∀ (a b : List AV),mentL d (a ++ b) = (mentL d a || mentL d b)
 |[],b=>by simp [mentL]
 |c :: a,b=>by simp [mentL,mentL_append d a b,Bool.or_assoc]
theorem mentL_take {d n : Nat} : ∀ {xs : List AV},mentL d xs = false → mentL d (xs.take n) = false
 |[],_=>by simp [mentL]
 |x :: xs,h=>by
  cases n with
  |zero=>simp [mentL]
  |succ n =>
   simp only [mentL,Bool.or_eq_false_iff] at h
   simp [mentL,h.1,mentL_take h.2]
def AV.forg (id : Nat) (x : AV) : AV:=if x.isSt then .st (x.cells.map fun c=>if c.ment id then .w else c) else if x.ment id then .w else x
def killB (id : Nat) : List (Nat × Ct) → List (Nat × Ct)
 |[]=>[]
 |(i,.box T x) :: l=>(i,if x.ment id then .box T (x.forg id) else .box T x) :: killB id l
 |(i,c) :: l=>(i,c) :: killB id l
def AState.forget (s : AState) (v : AV) : AState:=match v with
 |.own id _ _ _=>⟨s.s,killB id s.b⟩
 |_=>s
theorem killB_lk {id : Nat} : ∀ {l : List (Nat × Ct)} {i : Nat} {c : Ct},lk (killB id l) i = some c → lk l i = some c ∨ ∃ T x,lk l i = some (.box T x) ∧ c = .box T (x.forg id)
 |[],_,_,h=>by simp [killB,lk] at h
 |(j,e) :: l,i,c,h=>by
  have step : ∀ e',lk ((j,e') :: killB id l) i = some c → (e' = e ∨ ∃ T x,e = .box T x ∧ e' = .box T (x.forg id)) → lk ((j,e) :: l) i = some c ∨ ∃ T x,lk ((j,e) :: l) i = some (.box T x) ∧ c = .box T (x.forg id):=by
   intro e' h he
   by_cases hji : j = i
   ·simp only [lk,if_pos hji] at h ⊢
    have h:=Option.some.inj h
    subst h
    rcases he with rfl|⟨T,x,rfl,rfl⟩
    ·exact .inl rfl
    ·exact .inr ⟨T,x,rfl,rfl⟩
   ·simp only [lk,if_neg hji] at h ⊢
    exact killB_lk h
  cases e with
  |box T x =>
   simp only [killB] at h
   by_cases hm : x.ment id = true
   ·rw [if_pos hm] at h;exact step _ h (.inr ⟨T,x,rfl,rfl⟩)
   ·rw [if_neg hm] at h;exact step _ h (.inl rfl)
  |_=>simp only [killB] at h;exact step _ h (.inl rfl)
theorem forg_len {id : Nat} {x : AV} (h : oneAll x) : (x.forg id).cells.length = x.cells.length:=by
 unfold AV.forg
 by_cases hs : x.isSt = true
 ·rw [if_pos hs];simp [AV.cells]
 ·rw [if_neg hs]
  split
  ·cases x <;> simp_all [AV.isSt,AV.cells]
  ·rfl
theorem forg_cells {id : Nat} {x : AV} {i : Nat} {c : AV} (h : (x.forg id).cells[i]? = some c) : x.cells[i]? = some c ∨ (c = .w ∧ i < x.cells.length):=by
 unfold AV.forg at h
 by_cases hs : x.isSt = true
 ·rw [if_pos hs] at h
  simp only [AV.cells,List.getElem?_map] at h
  cases hx : x.cells[i]? with
  |none =>
   cases x <;> simp_all [AV.cells,AV.isSt]
  |some y =>
   have hi:=(List.getElem?_eq_some_iff.1 hx).1
   cases x with
   |st cs =>
    simp only [AV.cells] at hx hi h
    rw [hx] at h
    simp only [Option.map_some,Option.some.injEq] at h
    split at h
    ·exact .inr ⟨h.symm,hi⟩
    ·subst h;exact .inl rfl
   |_=>simp [AV.isSt] at hs
 ·rw [if_neg hs] at h
  split at h
  ·cases x with
   |st cs=>simp [AV.isSt] at hs
   |_ =>
    simp only [AV.cells] at h ⊢
    cases i with
    |zero=>simp at h;exact .inr ⟨h.symm,by simp⟩
    |succ i=>simp at h
  ·exact .inl h
theorem CtRep.forg {id : Nat} {T : TypeId} {x : AV} {bd : Bd} (h : CtRep H ρ w bd (.box T x)) : CtRep H ρ w bd (.box T (x.forg id)):=by
 obtain ⟨b,cap,vs,h1,h2,h3,h4,h5⟩:=h
 have hl:=forg_len (id:=id) h4
 refine ⟨b,cap,vs,h1,h2,⟨by rw [hl];exact h3.1,fun i c u hc hu=>?_⟩,fun c hc=>?_,by rw [hl];exact h5⟩
 ·rcases forg_cells hc with h|⟨rfl,hi⟩
  ·exact h3.2 i c u h hu
  ·exact .w ((h3.2 i _ u (List.getElem?_eq_getElem hi) hu).okV (h4 _ (List.getElem_mem hi)))
 ·obtain ⟨i,hi⟩:=List.getElem?_of_mem hc
  rcases forg_cells hi with h|⟨rfl,_⟩
  ·exact h4 c (List.mem_of_getElem? h)
  ·rfl
theorem Sim.forget {s : AState} (hs : Sim E H ρ s.slot s.box a w) (v : AV) : Sim E H ρ (s.forget v).slot (s.forget v).box a w:=by
 unfold AState.forget
 split
 ·rename_i id _ _ _
  have hb : ∀ i c,lk (killB id s.b) i = some c → s.box i = some c ∨ ∃ T x,s.box i = some (.box T x) ∧ c = .box T (x.forg id):=fun i c h=>killB_lk h
  refine ⟨hs.ext,hs.slots,hs.size,hs.defers,⟨fun i c hc=>?_,fun i c b cap hc hbd=>?_,fun i i' c c' b cap cap' hc hc' h1 h2=>?_⟩,hs.h0,hs.new,hs.frame,hs.keep,hs.nle⟩
  ·rcases hb i c hc with h|⟨T,x,h,rfl⟩
   ·exact hs.boxes.rep i c h
   ·exact (hs.boxes.rep i _ h).forg
  ·rcases hb i c hc with h|⟨T,x,h,rfl⟩
   ·exact hs.boxes.apart i c b cap h hbd
   ·exact hs.boxes.apart i _ b cap h hbd
  ·have g : ∀ i c,lk (killB id s.b) i = some c → ∃ c0,s.box i = some c0:=fun i c h=>(hb i c h).elim (fun h=>⟨_,h⟩) (fun ⟨T,x,h,_⟩=>⟨_,h⟩)
   obtain ⟨c0,h0⟩:=g i c hc
   obtain ⟨c1,h3⟩:=g i' c' hc'
   exact hs.boxes.inj i i' c0 c1 b cap cap' h0 h3 h1 h2
 ·exact hs
def SrcOK (P : Program) (H : Heap) (ρ : Rho) (w : World) (T T' ty e k : Nat) (ys : List AV) (vx : Value) : Prop :=
 (∀ y ∈ ys,y.cells.length = k ∧ oneAll y) ∧
 (ys = [] → ∀ sb n cc,n ≤ cc → (Builtin.append_ #[T,T'] ty #[.slice sb n cc,vx]).run P w = .ok (.slice sb n cc) w) ∧
 (ys ≠ [] → ∃ news : List Value,RepL H ρ (ys.flatMap AV.cells) news ∧
   (∀ (i : TypeInfo) (z : Value),P.info? e = some i → i.zero = some z → news.length = ys.length * i.size → 0 < ys.length → (ys.length : Int) ≤ 9223372036854775807 → ys.length * i.bytes ≤ 281474976710656 →
     (Builtin.append_ #[T,T'] ty #[.slice none 0 0,vx]).run P w = .ok (.slice (some ⟨w.heap.size,0,none⟩) ys.length (grownCap w ys.length 0 e)) (w.drew.alloc (.cells (news.toArray ++ Builtin.zeroCells z.cells (grownCap w ys.length 0 e - ys.length)) e))) ∧
   (∀ (i : TypeInfo),P.info? e = some i → ∀ (g sLen sCap : Nat) (cur : Array Value),w.heap[g]? = some (.cells cur e (0,0)) → news.length = ys.length * i.size → (∀ u ∈ news,u.oneCell' = true) → sLen + ys.length ≤ sCap → sLen * i.size + news.length ≤ cur.size →
     (Builtin.append_ #[T,T'] ty #[.slice (some ⟨g,0,none⟩) sLen sCap,vx]).run P w = .ok (.slice (some ⟨g,0,none⟩) (sLen + ys.length) sCap) (w.setRow g (cur.toList.take (sLen * i.size) ++ news ++ cur.toList.drop (sLen * i.size + news.length)).toArray)) ∧
   (∀ (i : TypeInfo) (z : Value),P.info? e = some i → i.zero = some z → ∀ (b : Addr) (sLen sCap : Nat) (olds : List Value),olds.length = sLen * i.size → (∀ j v,olds[j]? = some v → w.cell? (b.add j) = some v) → news.length = ys.length * i.size →
     sCap < sLen + ys.length → ((sLen + ys.length : Nat) : Int) ≤ 9223372036854775807 → Builtin.nextslicecap (sLen + ys.length) sCap * i.bytes ≤ 281474976710656 →
     (Builtin.append_ #[T,T'] ty #[.slice (some b) sLen sCap,vx]).run P w = .ok (.slice (some ⟨w.heap.size,0,none⟩) (sLen + ys.length) (grownCap w (sLen + ys.length) sCap e))
       (w.drew.alloc (.cells (olds.toArray ++ news.toArray ++ Builtin.zeroCells z.cells (grownCap w (sLen + ys.length) sCap e - (sLen + ys.length))) e))))
theorem aAppK_sound {T T' ty : TypeId} {v : AV} {vv vx : Value} {s : AState} {d : Option Tmp} {K : AState → Prop} {src : Nat → (List AV → Prop) → Prop} (hs : Sim E H ρ s.slot s.box a w) (hd : ∀ t,d = some t → t < E.n) (hv : Rep H ρ v vv)
 (hsrc : ∀ e k K,P.underlying T = some (.slice e) → okT P e = true → src k K → ∃ ys,K ys ∧ SrcOK P H ρ w T T' ty e k ys vx) (h : aAppK P T v s d src K) :
 ∃ u w' s' ρ',K s' ∧ Sim E H ρ' s'.slot s'.box (a.put d u) w' ∧ (Builtin.append_ #[T,T'] ty #[vv,vx]).run P w = .ok u w':=by
 unfold aAppK at h
 split at h
 ·rename_i e hT
  obtain ⟨⟨hok,hk0,hz⟩,h⟩:=h
  obtain ⟨i,hi⟩:=info_of_okT hok
  have hsize : i.size = P.cellsOf e:=by simp [Program.cellsOf,hi]
  have hbytes : i.bytes = P.bytesOf e:=by simp [Program.bytesOf,hi]
  obtain ⟨z,hzeq,hzc⟩ : ∃ z,i.zero = some z ∧ z.cells.size = P.cellsOf e:=by
   cases hza : zeroAV P e with
   |none=>rw [hza] at hz;simp at hz
   |some za =>
    rw [hza] at hz
    simp at hz
    obtain ⟨i',zv,hi',hzv,rfl⟩:=zeroAV_inv hza
    rw [hi] at hi'
    cases hi'
    refine ⟨zv,hzv,?_⟩
    have:=((Rep.ofVal (H:=H) (ρ:=ρ) zv).cellsL hz.1).1.1
    rw [hz.2] at this
    simpa using this.symm
  split at h
  ·rename_i id k off n
   split at h
   ·rename_i e' k' xs hbx
    obtain ⟨ys,⟨⟨rfl,hk,hk',rfl,hidl,hn,h63,h48,hmb,hmy⟩,hK⟩,hsy,hzr,hnews⟩:=hsrc e k _ hT hok h
    have hk'':=hk'.symm
    subst hk''
    have hsl : ∀ i,(AState.mk (killL id s.s) ((id,.arr e' k (xs.take n ++ ys)) :: s.b)).slot i = .u ∨ ((AState.mk (killL id s.s) ((id,.arr e' k (xs.take n ++ ys)) :: s.b)).slot i = s.slot i ∧ (s.slot i).ment id = false):=fun i=>killL_slot s.s i
    have hbxf : (AState.mk (killL id s.s) ((id,.arr e' k (xs.take n ++ ys)) :: s.b)).box = addF s.box (some id) (some (.arr e' k (xs.take n ++ ys))):=rfl
    have hmx : mentL id xs = false:=by have:=mentB_box hmb hbx;simpa only [Ct.ment] using this
    have hmnew : mentL id ((xs.take n ++ ys).flatMap AV.cells) = false:=mentL_flat_false (by rw [mentL_append,mentL_take hmx,hmy];rfl)
    have hnl : (xs.take n).length = n:=by simp;omega
    by_cases hy0 : ys = []
    ·
     subst hy0
     have hrunz : ∀ sb cc,n ≤ cc → (Builtin.append_ #[T,T'] ty #[.slice sb n cc,vx]).run P w = .ok (.slice sb n cc) w:=fun sb cc hcc=>hzr rfl sb n cc hcc
     rcases hs.boxes.rep _ _ hbx with ⟨hnil,hxs⟩|⟨b',cap',cur,hbd,hheap,hmax,hcap,hsz,hrep,hall⟩
     ·subst hxs
      have hn0 : n = 0:=by simpa using hn
      subst hn0
      cases hv with
      |own hρ=>rw [hnil] at hρ;cases hρ
      |ownNil hρ =>
       refine ⟨_,w,_,ρ,hK,?_,hrunz _ _ (Nat.zero_le _)⟩
       rw [AState.slot_put,AState.box_put]
       refine Sim.put ?_ hd (.ownNil hρ)
       refine hs.weaken (fun i=>?_) (fun j cj hj=>Or.inl ?_)
       ·rcases hsl i with h|h
        ·exact .inl h
        ·exact .inr h.1
       ·rw [hbxf] at hj
        simp only [addF] at hj
        split at hj
        ·rename_i e;subst e;rw [hbx];simpa using hj
        ·exact hj
     ·cases hv with
      |ownNil hρ=>rw [hbd] at hρ;cases hρ
      |own hρ hn' hm' =>
       rename_i b cap
       obtain ⟨rfl,rfl⟩:=rho_at hρ hbd
       refine ⟨_,w,_,ρ,hK,?_,hrunz _ _ (by omega)⟩
       rw [AState.slot_put,AState.box_put]
       have hsim : Sim E H ρ s.slot (addF s.box (some id) (some (.arr e' k (xs.take n ++ [])))) a w:=by
        refine hs.write hbx hρ rfl rfl ⟨rfl,Nat.le_refl _⟩ rfl (fun _ _=>rfl) (.inr ⟨b,cap,cur,rfl,hheap,hmax,by simp;omega,hsz,?_,?_⟩)
        ·have hfl:=flat_len (fun x hx=>(hall x hx).1)
         have e1 : (xs.take n).flatMap AV.cells = (xs.flatMap AV.cells).take (n * k):=by
          conv=>rhs;rw [← List.take_append_drop n xs]
          rw [List.flatMap_append]
          have : ((xs.take n).flatMap AV.cells).length = n * k:=by rw [flat_len (fun x hx=>(hall x (List.mem_of_mem_take hx)).1),hnl]
          rw [← this,List.take_left]
         rw [List.append_nil,hnl,e1]
         have:=hrep.take (n * k)
         rw [List.take_take,show min (n * k) (xs.length * k) = n * k from Nat.min_eq_left (Nat.mul_le_mul_right _ hn)] at this
         exact this
        ·intro y hy
         rw [List.append_nil] at hy
         exact hall y (List.mem_of_mem_take hy)
       refine Sim.put (hsim.weaken (fun i=>?_) (fun j cj hj=>Or.inl hj)) hd (.own hρ (by simp;omega) hm')
       rcases hsl i with h|h
       ·exact .inl h
       ·exact .inr h.1
    ·obtain ⟨news,hnr,hrn,hrr,hrg⟩:=hnews hy0
     have hyfl:=flat_len (fun y hy=>(hsy y hy).1)
     have hnl2 : news.length = ys.length * k:=by rw [← hnr.1];exact hyfl
     have hn1 : ∀ u ∈ news,u.oneCell' = true:=fun u hu=>okV_oneCell (hnr.ok (fun c hc=>by
      obtain ⟨y,hy,hcy⟩:=List.mem_flatMap.1 hc
      exact (hsy y hy).2 c hcy) u hu)
     have hypos : 0 < ys.length:=by cases ys with|nil=>exact absurd rfl hy0|cons=>simp
     have grown : ∀ (w2 : World) (cap2 : Nat) (olds : List Value),RepL H ρ ((xs.take n).flatMap AV.cells) olds → w2.heap.size = w.heap.size → (∀ k : Nat,w2.heap[k]? = w.heap[k]?) → w2.os = w.os → w2.tape = w.tape → (w2.output = w.output ∧ w.drawn ≤ w2.drawn) →
      n + ys.length ≤ cap2 → cap2 ≤ maxLen → (∀ y ∈ xs.take n,y.cells.length = k ∧ oneAll y) →
      Sim E H (ρ.upd id (.at w.heap.size cap2)) ((AState.mk (killL id s.s) ((id,.arr e' k (xs.take n ++ ys)) :: s.b)).put d (.own id k 0 (n + ys.length))).slot
       ((AState.mk (killL id s.s) ((id,.arr e' k (xs.take n ++ ys)) :: s.b)).put d (.own id k 0 (n + ys.length))).box (a.put d (.slice (some ⟨w.heap.size,0,none⟩) (n + ys.length) cap2))
       (w2.alloc (.cells (olds.toArray ++ news.toArray ++ Builtin.zeroCells z.cells (cap2 - (n + ys.length))) e')):=by
      intro w2 cap2 olds hor hsz2 hheq hos htape hout hcap2 hmax2 hallx
      have hol : olds.length = n * k:=by rw [← hor.1,flat_len (fun y hy=>(hallx y hy).1),hnl]
      rw [AState.slot_put,AState.box_put]
      have hno : ∀ k,k < w.heap.size → (w2.alloc (.cells (olds.toArray ++ news.toArray ++ Builtin.zeroCells z.cells (cap2 - (n + ys.length))) e')).heap[k]? = w.heap[k]?:=by
       intro k hk
       rw [heap_alloc_old _ _ (by omega)]
       exact hheq k
      have hnb : (w2.alloc (.cells (olds.toArray ++ news.toArray ++ Builtin.zeroCells z.cells (cap2 - (n + ys.length))) e')).heap[w.heap.size]? = some (.cells (olds.toArray ++ news.toArray ++ Builtin.zeroCells z.cells (cap2 - (n + ys.length))) e'):=by
       rw [← hsz2];exact heap_alloc_new _ _
      have hsim:=hs.rebind (hidl:=hidl) (id:=id) (b:=w.heap.size) (cap:=cap2) (c':=.arr e' k (xs.take n ++ ys)) (w':=w2.alloc (.cells (olds.toArray ++ news.toArray ++ Builtin.zeroCells z.cells (cap2 - (n + ys.length))) e'))
       hos htape hout hno (Nat.le_refl _) (by simp [hsz2]) (fun j c hc=>mentB_box hmb hc) hsl (by
        refine .inr ⟨w.heap.size,cap2,_,rfl,hnb,hmax2,by simp [hnl];omega,?_,?_,?_⟩
        ·simp only [Array.size_append,List.size_toArray,size_zeroCells,hzc,hol,hnl2,← hk,← Nat.add_mul]
         congr 1
         omega
        ·rw [List.flatMap_append]
         have : (olds.toArray ++ news.toArray ++ Builtin.zeroCells z.cells (cap2 - (n + ys.length))).toList.take ((xs.take n ++ ys).length * k) = olds ++ news:=by
          rw [Array.toList_append,Array.toList_append,List.toList_toArray,List.toList_toArray]
          have : (xs.take n ++ ys).length * k = (olds ++ news).length:=by rw [List.length_append,List.length_append,hnl,hol,hnl2,Nat.add_mul]
          rw [this,List.take_left]
         rw [this]
         rw [List.flatMap_append] at hmnew
         exact (hor.append hnr).upd hmnew
        ·intro y hy
         rcases List.mem_append.1 hy with h|h
         ·exact hallx y h
         ·exact hsy y h)
      rw [hbxf]
      refine hsim.put hd ?_
      have:=Rep.own (H:=H) (ρ:=ρ.upd id (.at w.heap.size cap2)) (id:=id) (k:=k) (off:=0) (n:=n + ys.length) (b:=w.heap.size) (cap:=cap2) (Rho.upd_same _ _ _) (by omega) hmax2
      simpa using this
     rcases hs.boxes.rep _ _ hbx with ⟨hnil,hxs⟩|⟨b',cap',cur,hbd,hheap,hmax,hcap,hsz,hrep,hall⟩
     ·subst hxs
      have hn0 : n = 0:=by simpa using hn
      subst hn0
      cases hv with
      |own hρ=>rw [hnil] at hρ;cases hρ
      |ownNil hρ =>
       have hr:=hrn i z hi hzeq (by rw [hnl2,hsize,hk]) hypos (by omega) (by rw [hbytes];simp only [Nat.zero_add] at h48;omega)
       have hg:=grown w.drew (grownCap w ys.length 0 e') [] (by simpa using RepL.nil) rfl (fun _=>rfl) rfl rfl ⟨rfl,Nat.le_succ _⟩ (by have:=grownCap_ge w ys.length 0 e';omega) (grownCap_le_maxLen w _ _ _ (by unfold maxLen;omega)) (by simp)
       refine ⟨_,_,_,ρ.upd id (.at w.heap.size (grownCap w ys.length 0 e')),hK,?_,hr⟩
       simpa using hg
     ·cases hv with
      |ownNil hρ=>rw [hbd] at hρ;cases hρ
      |own hρ hn' hm' =>
       rename_i b cap
       obtain ⟨rfl,rfl⟩:=rho_at hρ hbd
       have hfl:=flat_len (fun x hx=>(hall x hx).1)
       have e1 : (xs.take n).flatMap AV.cells = (xs.flatMap AV.cells).take (n * k):=by
        conv=>rhs;rw [← List.take_append_drop n xs]
        rw [List.flatMap_append]
        have : ((xs.take n).flatMap AV.cells).length = n * k:=by rw [flat_len (fun x hx=>(hall x (List.mem_of_mem_take hx)).1),hnl]
        rw [← this,List.take_left]
       have hold : RepL H ρ ((xs.take n).flatMap AV.cells) (cur.toList.take (n * k)):=by
        have:=hrep.take (n * k)
        rw [List.take_take,show min (n * k) (xs.length * k) = n * k from Nat.min_eq_left (Nat.mul_le_mul_right _ hn)] at this
        rw [e1];exact this
       have hncap : n * k ≤ cap * k:=Nat.mul_le_mul_right _ (by omega)
       simp only [Nat.zero_mul,Nat.sub_zero]
       by_cases hroom : n + ys.length ≤ cap
       ·have hrk : (n + ys.length) * k ≤ cap * k:=Nat.mul_le_mul_right _ hroom
        rw [Nat.add_mul] at hrk
        have hr:=hrr i hi b n cap cur hheap (by rw [hnl2,hsize,hk]) hn1 hroom (by rw [hsize,← hk,hnl2,hsz];omega)
        refine ⟨_,_,_,ρ,hK,?_,hr⟩
        rw [AState.slot_put,AState.box_put,hbxf]
        have hsim:=hs.write (c':=.arr e' k (xs.take n ++ ys)) (w':=w.setRow b (cur.toList.take (n * i.size) ++ news ++ cur.toList.drop (n * i.size + news.length)).toArray) hbx hρ rfl rfl ⟨rfl,Nat.le_refl _⟩ (setRow_size _ _ _) (fun j hj=>setRow_other w b j _ hj)
         (.inr ⟨b,cap,_,rfl,setRow_heap w b _ _ _ _ hheap,hmax,by simp [hnl];omega,by
           have hcl : cur.toList.length = cap * k:=by simpa using hsz
           rw [hsize,← hk,List.size_toArray,List.length_append,List.length_append,List.length_take,List.length_drop,hnl2]
           omega,by
           rw [hsize,← hk,List.flatMap_append]
           have : ((cur.toList.take (n * k) ++ news ++ cur.toList.drop (n * k + news.length)).toArray.toList.take ((xs.take n ++ ys).length * k)) = cur.toList.take (n * k) ++ news:=by
            rw [List.toList_toArray]
            have : (xs.take n ++ ys).length * k = (cur.toList.take (n * k) ++ news).length:=by
             have hcl : cur.toList.length = cap * k:=by simpa using hsz
             rw [List.length_append,List.length_append,hnl,hnl2,Nat.add_mul,List.length_take]
             omega
            rw [this,List.take_left]
           rw [this]
           exact hold.append hnr,by
           intro y hy
           rcases List.mem_append.1 hy with h|h
           ·exact hall y (List.mem_of_mem_take h)
           ·exact hsy y h⟩)
        refine Sim.put (hsim.weaken (fun i=>?_) (fun j cj hj=>Or.inl hj)) hd ?_
        ·rcases hsl i with h|h
         ·exact .inl h
         ·exact .inr h.1
        ·have:=Rep.own (H:=H) (ρ:=ρ) (id:=id) (k:=k) (off:=0) (n:=n + ys.length) hρ (by omega) hm'
         simpa using this
       ·have hr:=hrg i z hi hzeq ⟨b,0,none⟩ n cap (cur.toList.take (n * k)) (by rw [hsize,← hk,List.length_take,Array.length_toList];omega)
         (fun j u hu=>by
           rw [Addr.add_mk,cell_of_row w b _ _ _ _ hheap]
           rw [List.getElem?_take] at hu
           split at hu
           ·simpa using hu
           ·cases hu) (by rw [hnl2,hsize,hk]) (by omega) (by omega) (growslice_fits (by omega) (by rw [hbytes];exact h48))
        have hg:=grown w.drew (grownCap w (n + ys.length) cap e') (cur.toList.take (n * k)) hold rfl (fun _=>rfl) rfl rfl ⟨rfl,Nat.le_succ _⟩ (grownCap_ge w _ _ _) (grownCap_le_maxLen w _ _ _ (by unfold maxLen;omega)) (fun y hy=>hall y (List.mem_of_mem_take hy))
        exact ⟨_,_,_,_,hK,hg,hr⟩
   ·exact h.elim
  ·rename_i n c
   split at h
   ·rename_i t
    obtain ⟨ys,⟨⟨rfl,rfl,h63,h48,hmb,hmy⟩,hK⟩,hsy,hzr,hnews⟩:=hsrc e _ _ hT hok h
    rw [hv.v_inv]
    have hsl : ∀ i,(AState.mk (killL t s.s) ((t,.arr e (P.cellsOf e) ys) :: s.b)).slot i = .u ∨ ((AState.mk (killL t s.s) ((t,.arr e (P.cellsOf e) ys) :: s.b)).slot i = s.slot i ∧ (s.slot i).ment t = false):=fun i=>killL_slot s.s i
    have hbxf : (AState.mk (killL t s.s) ((t,.arr e (P.cellsOf e) ys) :: s.b)).box = addF s.box (some t) (some (.arr e (P.cellsOf e) ys)):=rfl
    by_cases hy0 : ys = []
    ·subst hy0
     refine ⟨.slice none 0 0,w,_,ρ.upd t .nil,hK,?_,hzr rfl none 0 0 (Nat.le_refl _)⟩
     rw [AState.slot_put,AState.box_put,hbxf]
     refine Sim.put ?_ hd (.ownNil (Rho.upd_same _ _ _))
     have hρne : ∀ j,j ≠ t → (ρ.upd t .nil) j = ρ j:=fun j hne=>by simp [Rho.upd,hne]
     refine ⟨hs.ext,fun i=>?_,hs.size,hs.defers,⟨fun id' c2 hc2=>?_,fun id' c2 b' cap' hc2 hb'=>?_,fun i j ci cj bi capi capj hi hj hbi hbj=>?_⟩,hs.h0,hs.new,hs.frame,fun i hi=>(hρne i (fun e=>absurd (Nat.lt_of_lt_of_le (hd t rfl) hs.nle) (Nat.not_lt.2 (e ▸ hi)))).trans (hs.keep i hi),hs.nle⟩
     ·rcases hsl i with e|⟨e,hme⟩
      ·rw [e];exact .u
      ·rw [e];exact (hs.slots i).upd hme
     ·simp only [addF] at hc2
      split at hc2
      ·rename_i e;subst e;cases hc2;rw [Rho.upd_same];exact .inl ⟨rfl,rfl⟩
      ·rename_i hne
       rw [hρne id' (fun e=>hne e.symm)]
       refine (hs.boxes.rep id' c2 hc2).mono H.le_refl (fun j hj=>hρne j (fun e=>?_)) (fun _ _ _=>rfl)
       rw [e,mentB_box hmb hc2] at hj
       cases hj
     ·simp only [addF] at hc2
      split at hc2
      ·rename_i e;subst e;rw [Rho.upd_same] at hb';cases hb'
      ·rename_i hne
       rw [hρne id' (fun e=>hne e.symm)] at hb'
       exact hs.boxes.apart id' c2 b' cap' hc2 hb'
     ·simp only [addF] at hi hj
      split at hi
      ·rename_i e;subst e;rw [Rho.upd_same] at hbi;cases hbi
      ·rename_i hne
       split at hj
       ·rename_i e;subst e;rw [Rho.upd_same] at hbj;cases hbj
       ·rename_i hne'
        rw [hρne i (fun e=>hne e.symm)] at hbi
        rw [hρne j (fun e=>hne' e.symm)] at hbj
        exact hs.boxes.inj i j ci cj bi capi capj hi hj hbi hbj
    ·obtain ⟨news,hnr,hrn,hrr,hrg⟩:=hnews hy0
     have hyfl:=flat_len (fun y hy=>(hsy y hy).1)
     have hnl2 : news.length = ys.length * P.cellsOf e:=by rw [← hnr.1];exact hyfl
     have hypos : 0 < ys.length:=by cases ys with|nil=>exact absurd rfl hy0|cons=>simp
     have hr:=hrn i z hi hzeq (by rw [hnl2,hsize]) hypos (by omega) (by rw [hbytes];omega)
     refine ⟨_,_,_,ρ.upd t (.at w.heap.size (grownCap w ys.length 0 e)),hK,?_,hr⟩
     rw [AState.slot_put,AState.box_put,hbxf]
     have hge:=grownCap_ge w ys.length 0 e
     have hmax2:=grownCap_le_maxLen w ys.length 0 e (by unfold maxLen;omega)
     have hsim:=hs.rebind (hidl:=Nat.lt_of_lt_of_le (hd t rfl) hs.nle) (id:=t) (b:=w.heap.size) (cap:=grownCap w ys.length 0 e) (c':=.arr e (P.cellsOf e) ys) (w':=w.drew.alloc (.cells (news.toArray ++ Builtin.zeroCells z.cells (grownCap w ys.length 0 e - ys.length)) e))
      rfl rfl ⟨rfl,Nat.le_succ _⟩ (fun k hk=>heap_alloc_old _ _ (by simpa using hk)) (Nat.le_refl _) (by simp) (fun j c hc=>mentB_box hmb hc) hsl (by
       refine .inr ⟨w.heap.size,_,_,rfl,heap_alloc_new w.drew _,hmax2,hge,?_,?_,hsy⟩
       ·simp only [Array.size_append,List.size_toArray,size_zeroCells,hzc,hnl2,← Nat.add_mul]
        congr 1
        omega
       ·have : (news.toArray ++ Builtin.zeroCells z.cells (grownCap w ys.length 0 e - ys.length)).toList.take (ys.length * P.cellsOf e) = news:=by
         rw [Array.toList_append,List.toList_toArray,← hnl2,List.take_left]
        rw [this]
        exact hnr.upd (mentL_flat_false hmy))
     refine hsim.put hd ?_
     have:=Rep.own (H:=H) (ρ:=ρ.upd t (.at w.heap.size (grownCap w ys.length 0 e))) (id:=t) (k:=P.cellsOf e) (off:=0) (n:=ys.length) (Rho.upd_same _ _ _) (by omega) hmax2
     simpa using this
   ·exact h.elim
  ·exact h.elim
 ·exact h.elim
theorem aAppend_sound {T ty : TypeId} {v x : AV} {vv vx : Value} {s : AState} {d : Option Tmp} {K : AState → Prop} (hs : Sim E H ρ s.slot s.box a w) (hd : ∀ t,d = some t → t < E.n) (hv : Rep H ρ v vv) (hx : Rep H ρ x vx) (h : aAppend P T v x s d K) :
 ∃ u w' s' ρ',K s' ∧ Sim E H ρ' s'.slot s'.box (a.put d u) w' ∧ (Builtin.append_ #[T,T] ty #[vv,vx]).run P w = .ok u w':=by
 refine aAppK_sound hs hd hv (fun e k K hT hok hsr=>?_) h
 obtain ⟨ys,hK,hsy,base,c,rfl,hnews⟩:=aSrc_sound hs hx hsr
 refine ⟨ys,hK,hsy,?_,?_⟩
 ·rintro rfl sb n cc hcc
  exact run_append_zero hT hok hcc
 ·intro hy0
  obtain ⟨ad,rfl,news,hnr,hnc⟩:=hnews hy0
  refine ⟨news,hnr,?_,?_,?_⟩
  ·intro i z hi hz hl h0 h63 h48
   exact run_append_nil (P:=P) w T ty e i z hT hi hz ad ys.length c news hl hnc h0 h63 h48
  ·intro i hi g sLen sCap cur hg hl h1 hroom hfit
   exact run_append_room (P:=P) w T ty e i hT hi g sLen sCap cur hg ad ys.length c news hl hnc h1 hroom hfit
  ·intro i z hi hz b sLen sCap olds hlo holds hl hlt h63 hfit
   exact run_append_grow (P:=P) w T ty e i z hT hi hz b sLen sCap olds hlo holds ad ys.length c news hl hnc hlt h63 hfit
theorem strA_cells (s : ByteArray) : (strA s).flatMap AV.cells = (Go.Lib.strCells s).map .v:=by
 unfold strA Go.Lib.strCells
 induction s.data.toList with
 |nil=>rfl
 |cons b l ih=>simp [byteA,AV.cells,ih]
theorem strA_len (s : ByteArray) : (strA s).length = s.size:=by simp [strA]
theorem run_append_zeroS {t u ty e : TypeId} {sb : Option Addr} {n c : Nat} {s : ByteArray} (ht : P.underlying t = some (.slice e)) (hu : P.underlying u = some .string) (hok : okT P e = true) (hs : s.size = 0) (hc : n ≤ c) :
 (Builtin.append_ #[t,u] ty #[.slice sb n c,.string s]).run P w = .ok (.slice sb n c) w:=by
 obtain ⟨i,hi⟩:=info_of_okT hok
 have hf:=Go.Lib.run_firstCells_string (P:=P) (w:=w) i.size s
 rw [hs] at hf
 have h0 : Go.Lib.strCells s = []:=List.eq_nil_of_length_eq_zero (by rw [Go.Lib.strCells_length,hs])
 rw [h0] at hf
 cases sb <;> simp [Builtin.append_,run_underlying ht,run_underlying hu,Go.sizeOf,typeInfo,hi,Builtin.lenOf,hc,hs,hf,storeCells]
theorem run_append_nilS {t u ty e : TypeId} {i : TypeInfo} {z : Value} {s : ByteArray} (ht : P.underlying t = some (.slice e)) (hu : P.underlying u = some .string) (hi : P.info? e = some i) (hz : i.zero = some z)
 (h0 : 0 < s.size) (h63 : (s.size : Int) ≤ 9223372036854775807) (h48 : s.size * i.bytes ≤ 281474976710656) :
 (Builtin.append_ #[t,u] ty #[.slice none 0 0,.string s]).run P w =
   .ok (.slice (some ⟨w.heap.size,0,none⟩) s.size (grownCap w s.size 0 e)) (w.drew.alloc (.cells ((Go.Lib.strCells s).toArray ++ Builtin.zeroCells z.cells (grownCap w s.size 0 e - s.size)) e)):=by
 have hn : s.size ≠ 0:=by omega
 have h63' : ¬ (9223372036854775807 < (s.size : Int)):=by omega
 have h48' : ¬ (281474976710656 < Builtin.nextslicecap s.size 0 * i.bytes):=by rw [nextslicecap_zero h0];omega
 have hf:=Go.Lib.run_firstCells_string (P:=P) (w:=w.drew) i.size s
 simp [Builtin.append_,run_underlying ht,run_underlying hu,sizeOf,typeInfo,zeroValue,hi,hz,Builtin.lenOf,hn,h63',h48',Question.forced,run_firstCells_none,hf,newRow,grownCap]
theorem aAppendS_sound {T T' ty : TypeId} {v x : AV} {vv vx : Value} {s : AState} {d : Option Tmp} {K : AState → Prop} (hs : Sim E H ρ s.slot s.box a w) (hd : ∀ t,d = some t → t < E.n) (hv : Rep H ρ v vv) (hx : Rep H ρ x vx) (h : aAppendS P T T' v x s d K) :
 ∃ u w' s' ρ',K s' ∧ Sim E H ρ' s'.slot s'.box (a.put d u) w' ∧ (Builtin.append_ #[T,T'] ty #[vv,vx]).run P w = .ok u w':=by
 obtain ⟨hu,_,h⟩:=h
 refine aAppK_sound hs hd hv (fun e k K hT hok hsr=>?_) h
 unfold strSrc at hsr
 split at hsr
 ·rename_i str
  obtain ⟨rfl,hK⟩:=hsr
  rw [hx.v_inv]
  have hone : ∀ y ∈ strA str,y.cells.length = 1 ∧ oneAll y:=by
   intro y hy
   obtain ⟨b,_,rfl⟩:=List.mem_map.1 hy
   exact ⟨rfl,by intro c hc;simp [byteA,AV.cells] at hc;subst hc;rfl⟩
  have hsz : ∀ i : TypeInfo,strA str ≠ [] → (Go.Lib.strCells str).length = (strA str).length * i.size → i.size = 1:=by
   intro i h0 h
   rw [Go.Lib.strCells_length,strA_len] at h
   have : 0 < str.size:=by rw [← strA_len];exact List.length_pos_iff.2 h0
   have h2 : str.size * i.size = str.size * 1:=by omega
   exact Nat.eq_of_mul_eq_mul_left this h2
  refine ⟨_,hK,hone,fun h0 sb n cc hcc=>run_append_zeroS hT hu hok (by rw [← strA_len,h0];rfl) hcc,fun h0=>⟨Go.Lib.strCells str,?_,?_,?_,?_⟩⟩
  ·rw [strA_cells]
   have hok : ∀ v ∈ Go.Lib.strCells str,okV v = true:=by
    intro v hv
    obtain ⟨b,_,rfl⟩:=List.mem_map.1 hv
    rfl
   refine RepL.consts _ (List.all_eq_true.2 hok)
  ·intro i z hi hz hl h1 h63 h48
   rw [strA_len] at h1 h63 h48 ⊢
   exact run_append_nilS hT hu hi hz h1 h63 h48
  ·intro i hi g sLen sCap cur hg hl h1 hroom hfit
   have h1:=hsz i h0 hl
   rw [strA_len] at hroom ⊢
   rw [h1,Nat.mul_one,Go.Lib.strCells_length] at hfit ⊢
   exact Go.Lib.run_append_room_string (P:=P) (w:=w) T _ ty e i hT hu hi h1 g sLen sCap cur hg str hroom hfit
  ·intro i z hi hz b sLen sCap olds hlo holds hl hlt h63 hfit
   rw [strA_len] at hlt h63 hfit ⊢
   exact Go.Lib.run_append_grow_string (P:=P) (w:=w) T _ ty e i z hT hu hi hz b sLen sCap olds hlo holds str hlt h63 hfit
 ·exact hsr.elim
end
end Go.Am
end
section
namespace Go.Am
open Go.RowKit
theorem eq1_true {k : SK} {x y : Value} (h : eq1 k x y = some true) : x = y ∧ ∀ n,Instr.sameBits n x y = true:=by
 unfold eq1 at h
 split at h
 ·simp at h;subst h;exact ⟨rfl,fun n=>by cases n <;> simp [Instr.sameBits]⟩
 ·split at h
  ·rename_i e;subst e;simp at h;subst h;exact ⟨rfl,fun n=>by cases n <;> simp [Instr.sameBits]⟩
  ·cases h
 ·simp at h;subst h;exact ⟨rfl,fun n=>by cases n <;> simp [Instr.sameBits,ba_beq]⟩
 ·cases h
theorem eqCells_true : ∀ {ks : List SK} {xs ys : List Value},eqCells ks xs ys = some true → xs = ys ∧ ∀ n,(xs.zip ys).all (fun (x,y)=>Instr.sameBits n x y) = true
 |[],[],[],_=>⟨rfl,fun _=>rfl⟩
 |[],[],_ :: _,h=>by simp [eqCells] at h
 |[],_ :: _,_,h=>by simp [eqCells] at h
 |_ :: _,[],_,h=>by simp [eqCells] at h
 |_ :: _,_ :: _,[],h=>by simp [eqCells] at h
 |k :: ks,x :: xs,y :: ys,h=>by
  simp only [eqCells] at h
  split at h
  ·rename_i a ha
   cases hr : eqCells ks xs ys with
   |none=>rw [hr] at h;simp at h
   |some r =>
    rw [hr] at h
    simp at h
    obtain ⟨rfl,rfl⟩:=h
    obtain ⟨h1,h2⟩:=eq1_true ha
    obtain ⟨h3,h4⟩:=eqCells_true hr
    refine ⟨by rw [h1,h3],fun n=>?_⟩
    simp only [List.zip_cons_cons,List.all_cons,Bool.and_eq_true]
    exact ⟨h2 n,h4 n⟩
  ·cases h
theorem run_keyThatStays {P : Program} {T : TypeId} {ks : List SK} (hk : kinds P 12 T = some ks) {xs ys : List Value} (h : eqCells ks xs ys = some true) (w : World) :
 (Instr.keyThatStays (valOf P T ys) (valOf P T xs)).run P w = .ok (valOf P T xs) w:=by
 obtain ⟨rfl,hall⟩:=eqCells_true h
 have hs : Instr.sameBits 10000 (valOf P T xs) (valOf P T xs) = true:=by
  unfold valOf
  cases ha : aggB P T with
  |true =>
   simp only [if_true]
   rw [show (10000 : Nat) = 9999 + 1 from rfl]
   simp only [Instr.sameBits,List.size_toArray,beq_self_eq_true,Bool.true_and]
   exact hall 9999
  |false =>
   simp only [Bool.false_eq_true,if_false]
   have hl : ks.length = 1:=by
    simp only [kinds] at hk
    unfold aggB at ha
    cases hu : P.underlying T with
    |none=>rw [hu] at hk;simp at hk
    |some d =>
     rw [hu] at hk ha
     cases d <;> simp at hk ha <;> (subst hk;rfl)
   have hx:=(eqCells_len h).1
   match xs,hx,hall with
   |[x],_,hall=>simpa using hall 10000
   |[],hx,_=>simp at hx;omega
   |_ :: _ :: _,hx,_=>simp at hx;omega
 simp [Instr.keyThatStays,hs]
def updV (ks : List SK) (kx : List Value) (key val : Value) (clock : Nat) : List MapEntry → List MapEntry
 |[]=>[{ key,val,born:=clock }]
 |e :: es=>if eqCells ks kx e.key.cells.toList = some true then { e with key,val } :: es else e :: updV ks kx key val clock es
theorem updV_none {ks : List SK} {kx : List Value} {key val : Value} {clock : Nat} {P : Program} {T : TypeId} : ∀ {es : List MapEntry} {i : Nat},findV ks kx P T es i = none → updV ks kx key val clock es = es ++ [{ key,val,born:=clock }]
 |[],_,_=>rfl
 |e :: es,i,h=>by
  simp only [findV] at h
  split at h
  ·cases h
  ·rename_i hne
   simp only [updV,if_neg hne,List.cons_append,updV_none h]
theorem updV_some {ks : List SK} {kx : List Value} {key val : Value} {clock : Nat} {P : Program} {T : TypeId} : ∀ {es : List MapEntry} {i j : Nat} {v : Value},findV ks kx P T es i = some (j,v) →
 i ≤ j ∧ ∃ e,es[j - i]? = some e ∧ eqCells ks kx e.key.cells.toList = some true ∧ updV ks kx key val clock es = es.set (j - i) { e with key,val }
 |[],_,_,_,h=>by simp [findV] at h
 |e :: es,i,j,v,h=>by
  simp only [findV] at h
  split at h
  ·rename_i he
   simp at h
   obtain ⟨rfl,_⟩:=h
   exact ⟨Nat.le_refl _,e,by simp,he,by simp [updV,he]⟩
  ·rename_i hne
   obtain ⟨h1,e',h2,h3,h4⟩:=updV_some (key:=key) (val:=val) (clock:=clock) h
   refine ⟨by omega,e',?_,h3,?_⟩
   ·rw [show j - i = (j - (i + 1)) + 1 by omega];simpa using h2
   ·rw [show j - i = (j - (i + 1)) + 1 by omega]
    simp only [updV,if_neg hne,h4,List.set_cons_succ]
section
variable {P : Program} {E : Env} {H : Heap} {ρ : Rho} {a : Act} {w : World}
theorem upd_agree {ks : List SK} {T : TypeId} {key val : AV} {kv vv : Value} {clock : Nat} (hkv : Rep H ρ key kv) (hvv : Rep H ρ val vv) (hkey : RepL H ρ key.cells kv.cells.toList) : ∀ (es : List (AV × AV)) (ents : List MapEntry),RepL H ρ (es.map (·.1)) (ents.map (·.key)) → RepL H ρ (es.map (·.2)) (ents.map (·.val)) →
 keysOK ks (aggB P T) key es → RepL H ρ ((updA ks key val es).map (·.1)) ((updV ks kv.cells.toList kv vv clock ents).map (·.key)) ∧ RepL H ρ ((updA ks key val es).map (·.2)) ((updV ks kv.cells.toList kv vv clock ents).map (·.val))
 |[],ents,hk,_,_=>by
  have : ents = []:=by simpa using hk.nil_inv
  subst this
  exact ⟨RepL.cons hkv RepL.nil,RepL.cons hvv RepL.nil⟩
 |(k,v) :: es,[],hk,_,_=>by have:=hk.1;simp at this
 |(k,v) :: es,e :: ents,hk,hv,hok=>by
  obtain ⟨⟨hsome,hst,hsto⟩,hrest⟩:=hok
  obtain ⟨ek,ks',hek,hk1,hk2⟩:=hk.cons_inv
  obtain ⟨ev,vs',hev,hv1,hv2⟩:=hv.cons_inv
  simp only [List.map_cons,List.cons.injEq] at hek hev
  obtain ⟨rfl,rfl⟩:=hek
  obtain ⟨rfl,rfl⟩:=hev
  obtain ⟨r,hr⟩:=Option.isSome_iff_exists.1 hsome
  obtain ⟨hval,hcl⟩:=valOf_cells (P:=P) (T:=T) hk1 hst hsto
  have he:=eqA_rep hkey hcl hr
  have ih:=upd_agree (T:=T) (clock:=clock) hkv hvv hkey es ents hk2 hv2 hrest
  simp only [updA,updV,hr,he]
  cases r
  ·simp only [Option.some.injEq,Bool.false_eq_true,if_false,List.map_cons]
   exact ⟨RepL.cons hk1 ih.1,RepL.cons hv1 ih.2⟩
  ·simp only [if_true,List.map_cons]
   exact ⟨RepL.cons hkv hk2,RepL.cons hvv hv2⟩
theorem run_setObj_map {b : Nat} {es es' : Array MapEntry} {clock clock' : Nat} (h : w.heap[b]? = some (.map es clock)) : (setObj b (.map es' clock')).run P w = .ok () { w with heap:=w.heap.setIfInBounds b (.map es' clock') }:=by
 simp [setObj,Sem.run,h]
theorem aMapUpd_sound {T : TypeId} {m key val : AV} {vm kv vv : Value} {s : AState} {K : AState → Prop} (hs : Sim E H ρ s.slot s.box a w) (hm : Rep H ρ m vm) (hkv : Rep H ρ key kv) (hvv : Rep H ρ val vv) (h : aMapUpd P T m key val s K) :
 ∃ w' s',K s' ∧ Sim E H ρ s'.slot s'.box a w' ∧ (Instr.mapUpdate T vm kv vv).run P w = .ok () w':=by
 unfold aMapUpd at h
 split at h
 ·rename_i kt et hT
  split at h
  ·rename_i ks hks
   obtain ⟨⟨hst,hsto,hself⟩,h⟩:=h
   obtain ⟨hval,hcl⟩:=valOf_cells (P:=P) (T:=kt) hkv hst hsto
   split at h
   ·rename_i id
    split at h
    ·rename_i es st hbx
     obtain ⟨hkeys,hK⟩:=h
     cases hm with
     |mp hρ =>
      rename_i b cap
      obtain ⟨b',cap',ents,clock,hbd,hheap,hk1,hk2,hborn,hnd,_⟩:=hs.boxes.rep _ _ hbx
      obtain ⟨rfl,rfl⟩:=rho_at hρ hbd
      obtain ⟨hfit,hag⟩:=find_agree (P:=P) (T:=kt) hcl es ents.toList 0 hk1 hk2 hkeys
      have hup:=upd_agree (P:=P) (T:=kt) (clock:=clock) hkv hvv hcl es ents.toList hk1 hk2 hkeys
      obtain ⟨rs,hrs⟩:=Option.isSome_iff_exists.1 hself
      have hck : (Instr.checkKey false 10000 kt kv).run P w = .ok () w:=by
       rw [hval];exact run_checkKey 12 kt ks hks 10000 (by omega) false _ _ rs w (eqA_rep hcl hcl hrs)
      have hfk : (Instr.findKey kt kv ents.toList).run P w = .ok (findV ks kv.cells.toList P kt ents.toList 0) w:=by
       have:=run_findKey hks w hfit
       rw [← hval] at this
       exact this
      have fin : ∀ (ents' : Array MapEntry) (clock' : Nat),ents'.toList = updV ks kv.cells.toList kv vv clock ents.toList → (∀ e ∈ ents'.toList,e.born < clock') → (ents'.toList.map (·.born)).Nodup →
       Sim E H ρ (s.setBox id (.map (updA ks key val es) none)).slot (s.setBox id (.map (updA ks key val es) none)).box a { w with heap:=w.heap.setIfInBounds b (.map ents' clock') }:=by
       intro ents' clock' he h1 h2
       rw [AState.box_setBox,AState.slot_setBox]
       have hlt : b < w.heap.size:=(Array.getElem?_eq_some_iff.1 hheap).1
       refine hs.write hbx hρ rfl rfl ⟨rfl,Nat.le_refl _⟩ (by simp) (fun k hk=>by simp [Array.getElem?_setIfInBounds_ne (Ne.symm hk)]) ⟨b,cap,ents',clock',rfl,by simp [hlt],?_,?_,h1,h2,fun _ _ e=>by cases e⟩
       ·rw [he];exact hup.1
       ·rw [he];exact hup.2
      rcases hag with ⟨_,hn⟩|⟨y,j,r,_,hn,_⟩
      ·refine ⟨_,_,hK,fin (ents.push { key:=kv,val:=vv,born:=clock }) (clock + 1) ?_ ?_ ?_,?_⟩
       ·rw [updV_none hn];simp
       ·intro e he
        simp at he
        rcases he with he|rfl
        ·have:=hborn e (by simpa using he);omega
        ·exact Nat.lt_succ_self _
       ·simp only [Array.toList_push,List.map_append,List.map_cons,List.map_nil]
        rw [List.nodup_append]
        refine ⟨hnd,by simp,?_⟩
        intro x hx y hy
        obtain ⟨e,he,rfl⟩:=List.mem_map.1 hx
        simp at hy
        subst hy
        have:=hborn e he
        omega
       ·simp only [Instr.mapUpdate,Sem.run_bind,run_underlying hT,Result.andThen_ok,run_getObj_map hheap,hck,hfk,hn,run_setObj_map hheap]
      ·obtain ⟨_,e,he1,he2,he3⟩:=updV_some (key:=kv) (val:=vv) (clock:=clock) hn
       simp only [Nat.sub_zero] at he1 he3
       have hej : ents[j]? = some e:=by simpa using he1
       have hold:=(hfit e (List.mem_of_getElem? he1)).1
       have hkeep : (Instr.keyThatStays (((ents[j]?).map (·.key)).getD kv) kv).run P w = .ok kv w:=by
        rw [hej]
        simp only [Option.map_some,Option.getD_some]
        have:=run_keyThatStays (P:=P) hks he2 w
        rw [← hold,← hval] at this
        exact this
       have hmod : (ents.modify j fun e=>{ e with key:=kv,val:=vv }).toList = updV ks kv.cells.toList kv vv clock ents.toList:=by
        rw [he3,Array.toList_modify]
        apply List.ext_getElem?
        intro i
        simp only [List.getElem?_modify,List.getElem?_set]
        by_cases hij : j = i
        ·subst hij
         have hlt : j < ents.toList.length:=(List.getElem?_eq_some_iff.1 he1).1
         rw [if_pos rfl,if_pos hlt,he1]
         simp
        ·rw [if_neg hij]
         simp [hij]
       have hbornmod : ((ents.modify j fun e=>{ e with key:=kv,val:=vv }).toList.map (·.born)) = ents.toList.map (·.born):=by
        rw [Array.toList_modify]
        apply List.ext_getElem?
        intro i
        simp only [List.getElem?_map,List.getElem?_modify]
        cases hi : ents.toList[i]? with
        |none=>simp
        |some e2=>simp;split <;> rfl
       refine ⟨_,_,hK,fin (ents.modify j fun e=>{ e with key:=kv,val:=vv }) clock hmod ?_ ?_,?_⟩
       ·intro e2 he2'
        have : e2.born ∈ ((ents.modify j fun e=>{ e with key:=kv,val:=vv }).toList.map (·.born)):=List.mem_map.2 ⟨e2,he2',rfl⟩
        rw [hbornmod] at this
        obtain ⟨e3,he3',h3⟩:=List.mem_map.1 this
        rw [← h3]
        exact hborn e3 he3'
       ·rw [hbornmod];exact hnd
       ·simp only [Instr.mapUpdate,Sem.run_bind,run_underlying hT,Result.andThen_ok,run_getObj_map hheap,hck,hfk,hn,hkeep,run_setObj_map hheap]
    ·exact h.elim
   ·exact h.elim
  ·exact h.elim
 ·exact h.elim
end
end Go.Am
end
section
namespace Go.Am
open Go.RowKit
def aRange (P : Program) (T : TypeId) (x : AV) (s : AState) (d : Option Tmp) (K : AState → Prop) : Prop :=
 match P.underlying T,d with
 |some (.map _ _),some t=>s.ment t = false ∧ (match x with
  |.mp m=>(match s.box m with
   |some (.map es none)=>m ≠ t ∧ ∀ bs ck,bs.length = es.length → bs.Nodup → K (((s.setBox m (.map es (some (bs,ck)))).put d (.loc t 0)).addBox d (some (.it m bs ck [])))
   |_=>False)
  |.v (.map none)=>K ((s.put d (.loc t 0)).addBox d (some (.raw (.mapIter none 0 #[] 0))))
  |_=>False)
 |some .string,some t=>s.ment t = false ∧ (match x with
  |.v (.string str)=>K ((s.put d (.loc t 0)).addBox d (some (.raw (.stringIter str 0))))
  |_=>False)
 |_,_=>False
def aNext (it : AV) (isStr : Bool) (s : AState) (d : Option Tmp) (K : AState → Prop) : Prop :=
 match it with
 |.loc t 0=>(match s.box t with
  |some (.it m bs ck vis)=>isStr = false ∧ (match s.box m with
   |some (.map es (some (bs',ck')))=>(bs' = bs ∧ ck' = ck ∧ m ≠ t) ∧
     (∀ i,i < es.length → i ∉ vis → K ((s.setBox t (.it m bs ck (vis ++ [i]))).put d (.tup [.v (.bool true),(es.getD i default).1,(es.getD i default).2]))) ∧
     ((∀ i,i < es.length → i ∈ vis) → K (s.put d (.tup [.v (.bool false)])))
   |_=>False)
  |some (.raw (.mapIter none _ _ _))=>isStr = false ∧ K (s.put d (.tup [.v (.bool false)]))
  |some (.raw (.stringIter str pos))=>isStr = true ∧
    (pos < str.size → K ((s.setBox t (.raw (.stringIter str (pos + (Utf8.decode str pos).2)))).put d (.tup [.v (.bool true),.v (.int .i64 pos),.v (.int .i32 (Utf8.decode str pos).1)]))) ∧
    (¬ pos < str.size → K (s.put d (.tup [.v (.bool false)])))
  |_=>False)
 |_=>False
def aEntry (it : AV) (s : AState) (d : Option Tmp) (K : AState → Prop) : Prop :=
 match it with
 |.loc t 0=>(match s.box t with
  |some (.it m bs ck vis)=>(match s.box m,vis.getLast? with
   |some (.map es (some (bs',ck'))),some i=>(bs' = bs ∧ ck' = ck) ∧ K (s.put d (.tup [(es.getD i default).1,(es.getD i default).2]))
   |_,_=>False)
  |_=>False)
 |_=>False
def aClear (P : Program) (T : TypeId) (x : AV) (s : AState) (K : AState → Prop) : Prop :=
 match P.underlying T,x with
 |some (.slice _),.sl _ []=>K s
 |some (.slice _),.v (.slice none _ _)=>K s
 |some (.slice e),.own id k off n=>(match zeroAV P e,s.box id with
  |some z,some (.arr e' k' xs)=>(k' = k ∧ z.sto = true ∧ z.cells.length = k ∧ off + n ≤ xs.length) ∧ K (s.setBox id (.arr e' k (xs.take off ++ (List.replicate n z ++ xs.drop (off + n)))))
  |_,_=>False)
 |_,_=>False
def aSlNil (P : Program) (op : BinOp) (T : TypeId) (emp : Prop) (s : AState) (d : Option Tmp) (K : AState → Prop) : Prop :=
 (∃ e,P.underlying T = some (.slice e)) ∧ match op with
 |.eql=>(¬ emp → K (s.put d (.v (.bool false)))) ∧ (emp → ∀ b,K (s.put d (.v (.bool b))))
 |.neq=>(¬ emp → K (s.put d (.v (.bool true)))) ∧ (emp → ∀ b,K (s.put d (.v (.bool b))))
 |_=>False
def nilRow (P : Program) (e : TypeId) (z : AV) : AV:=match z with
 |.v (.slice none 0 0)=>(match P.underlying e with|some (.slice e2)=>.sl (P.cellsOf e2) []|_=>.v (.slice none 0 0))
 |z=>z
def aMake (P : Program) (T : TypeId) (n c : AV) (s : AState) (d : Option Tmp) (K : AState → Prop) : Prop :=
 match P.underlying T,d,n,c with
 |some (.slice e),some t,.v (.int .i64 m),.v (.int .i64 m')=>(match zeroAV P e with
  |some z=>(m = m' ∧ okT P e = true ∧ 0 < P.cellsOf e ∧ z.sto = true ∧ z.cells.length = P.cellsOf e ∧ 0 ≤ m ∧ m ≤ 4611686018427387904 ∧ m * P.bytesOf e ≤ 140737488355328 ∧ s.ment t = false) ∧
    K ((s.put d (.own t (P.cellsOf e) 0 m.toNat)).addBox d (some (.arr e (P.cellsOf e) (List.replicate m.toNat (nilRow P e z)))))
  |none=>False)
 |_,_,_,_=>False
def aAppendN (P : Program) (T T' : TypeId) (v x : AV) (s : AState) (d : Option Tmp) (K : AState → Prop) : Prop :=
 match P.underlying T,P.underlying T',d with
 |some (.slice e),some (.int .i64),some t=>(match v,x,zeroAV P e with
  |.v (.slice none 0 0),.v (.int .i64 n),some z=>(okT P e = true ∧ 0 < P.cellsOf e ∧ z.sto = true ∧ z.cells.length = P.cellsOf e ∧ 0 < n ∧ n ≤ 4611686018427387904 ∧ n * P.bytesOf e ≤ 140737488355328 ∧ s.ment t = false) ∧
    K ((s.put d (.own t (P.cellsOf e) 0 n.toNat)).addBox d (some (.arr e (P.cellsOf e) (List.replicate n.toNat z))))
  |_,_,_=>False)
 |_,_,_=>False
section
variable {P : Program} {E : Env} {H : Heap} {ρ : Rho} {s : AState} {a : Act} {w : World} {d : Option Tmp} {K : AState → Prop}
def Came (E : Env) (K : AState → Prop) (a : Act) (d : Option Tmp) (u : Value) (w' : World) : Prop:=∃ s' H' ρ',K s' ∧ Sim E H' ρ' s'.slot s'.box (a.put d u) w'
theorem fresh2 {t : Nat} (h : s.ment t = false) : (∀ i,(s.slot i).ment t = false) ∧ (∀ id c,s.box id = some c → c.ment t = false) :=
 ⟨fun _=>AState.ment_slot h,fun _ _ hc=>AState.ment_box h hc⟩
theorem Came.new {t cap : Nat} {x : AV} {c : Ct} {u : Value} {w1 : World} {obj : Obj} (hs : Sim E H ρ s.slot s.box a w) (hd : ∀ t,d = some t → t < E.n) (hdt : d = some t) (hf : s.ment t = false)
 (h1 : w1 = w ∨ w1 = w.drew) (hr : Rep H (ρ.upd t (.at w.heap.size cap)) x u) (hc : CtRep H (ρ.upd t (.at w.heap.size cap)) (w1.alloc obj) (.at w.heap.size cap) c) (hk : K ((s.put d x).addBox d (some c))) : Came E K a d u (w1.alloc obj):=by
 have hh : w1.heap = w.heap:=by rcases h1 with rfl|rfl <;> rfl
 have hno : ∀ i,H w.heap.size i = none:=by
  intro i
  cases h : H w.heap.size i with
  |none=>rfl
  |some v=>have:=World.block_lt_of_cell? w _ (hs.ext _ _ _ h);simp at this
 have hbel : Bel w.heap.size w (w1.alloc obj):=by
  have hb0 : Bel w.heap.size w w1:=by rcases h1 with rfl|rfl <;> first|exact Bel.refl _ _|exact ⟨⟨rfl,rfl,rfl,Nat.le_refl _,fun _ _=>rfl⟩,Nat.le_succ _⟩
  exact hb0.alloc (by rw [hh];exact Nat.le_refl _) _
 obtain ⟨x',n',H2,ρ2,⟨rfl,rfl⟩,hs'⟩:=hs.quiet (o:={ (default : Oper) with dst:=d }) (k:=fun y n=>y = x ∧ n = some c) (a':=a.put d u) (w':=w1.alloc obj) hd
  (by rintro y c' ⟨rfl,h⟩ t' ht';have ht2 : d = some t':=ht';rw [hdt] at ht2;cases ht2;exact fresh2 hf)
  ⟨x,some c,H,_,u,⟨rfl,rfl⟩,rfl,H.le_refl,fun b i v h h'=>(by rw [h'] at h;cases h),hs.ext.of_below hbel,hr,hbel,t,w.heap.size,cap,hdt,rfl,Nat.le_refl _,by simp [hh],hno,hc⟩
 refine ⟨_,H2,ρ2,hk,?_⟩
 rw [AState.slot_addBox,AState.box_addBox,AState.slot_put,AState.box_put]
 exact hs'
theorem Came.put {u : Value} {x : AV} {s' : AState} {w' : World} (hs : Sim E H ρ s'.slot s'.box a w') (hd : ∀ t,d = some t → t < E.n) (hr : Rep H ρ x u) (hk : K (s'.put d x)) : Came E K a d u w':=by
 refine ⟨_,H,ρ,hk,?_⟩
 rw [AState.slot_put,AState.box_put]
 exact hs.put hd hr
theorem Sim.drawn {sf : Nat → AV} {bf : Nat → Option Ct} (h : Sim E H ρ sf bf a w) : Sim E H ρ sf bf a w.drew :=
 ⟨h.ext,h.slots,h.size,h.defers,⟨h.boxes.rep,h.boxes.apart,h.boxes.inj⟩,h.h0,h.new,⟨h.frame.os,h.frame.tape,⟨h.frame.output.1,Nat.le_succ_of_le h.frame.output.2⟩,h.frame.size,h.frame.block⟩,h.keep,h.nle⟩
theorem Sim.rebox {id : Nat} {c c' : Ct} (hs : Sim E H ρ s.slot s.box a w) (hc : s.box id = some c) (h : CtRep H ρ w (ρ id) c') : Sim E H ρ (s.setBox id c').slot (s.setBox id c').box a w:=by
 rw [AState.box_setBox,AState.slot_setBox]
 refine ⟨hs.ext,hs.slots,hs.size,hs.defers,⟨fun j cj hj=>?_,fun j cj b cap hj hb=>?_,fun i j ci cj b cap cap' hi hj hbi hbj=>?_⟩,hs.h0,hs.new,hs.frame,hs.keep,hs.nle⟩
 ·simp only [addF] at hj
  split at hj
  ·rename_i e;subst e;cases hj;exact h
  ·exact hs.boxes.rep j cj hj
 ·simp only [addF] at hj
  split at hj
  ·rename_i e;subst e;exact hs.boxes.apart id c b cap hc hb
  ·exact hs.boxes.apart j cj b cap hj hb
 ·have lift : ∀ j cj,addF s.box (some id) (some c') j = some cj → ∃ cj',s.box j = some cj':=by
   intro j cj hj
   simp only [addF] at hj
   split at hj
   ·rename_i e;subst e;exact ⟨c,hc⟩
   ·exact ⟨cj,hj⟩
  obtain ⟨ci',hi'⟩:=lift i ci hi
  obtain ⟨cj',hj'⟩:=lift j cj hj
  exact hs.boxes.inj i j ci' cj' b cap cap' hi' hj' hbi hbj
theorem aRange_sound {T : TypeId} {x : AV} {v : Value} (hs : Sim E H ρ s.slot s.box a w) (hd : ∀ t,d = some t → t < E.n) (hx : Rep H ρ x v) (h : aRange P T x s d K) :
 ∃ u w',(Instr.range T v).run P w = .ok u w' ∧ Came E K a d u w':=by
 unfold aRange at h
 split at h
 ·rename_i kt et t hT
  obtain ⟨hf,h⟩:=h
  split at h
  ·rename_i m
   split at h
   ·rename_i es hbx
    obtain ⟨hmt,h⟩:=h
    obtain ⟨b,cap,ents,clock,hbd,hheap,hk1,hk2,hborn,hnd,_⟩:=hs.boxes.rep _ _ hbx
    cases hx with
    |mp hρ =>
     rename_i b' cap'
     obtain ⟨rfl,rfl⟩:=rho_at hρ hbd
     refine ⟨_,_,run_range_map w T kt et b' ents clock hT hheap,?_⟩
     have hlen : (ents.toList.map (·.born)).length = es.length:=by have:=hk1.1;simp at this ⊢;omega
     have h2:=h (ents.toList.map (·.born)) clock hlen hnd
     have hs2:=hs.rebox (c':=.map es (some (ents.toList.map (·.born),clock))) hbx (by
      rw [hρ]
      exact ⟨b',cap',ents,clock,rfl,hheap,hk1,hk2,hborn,hnd,fun bs ck e=>by cases e;exact ⟨rfl,rfl⟩⟩)
     have hf2 : (s.setBox m (.map es (some (ents.toList.map (·.born),clock)))).ment t = false:=by
      have h3:=AState.ment_box hf hbx
      simp only [AState.ment,Bool.or_eq_false_iff] at hf ⊢
      refine ⟨hf.1,?_⟩
      simp only [AState.setBox,mentB,Bool.or_eq_false_iff]
      exact ⟨by simpa only [Ct.ment] using h3,hf.2⟩
     refine Came.new (s:=s.setBox m (.map es (some (ents.toList.map (·.born),clock)))) (cap:=0) hs2 hd rfl hf2 (Or.inl rfl) (.loc (Rho.upd_same _ _ _)) ?_ h2
     refine ⟨w.heap.size,0,b',cap',#[],rfl,?_,heap_alloc_new w _,by simp,by simp⟩
     simp [Rho.upd,hmt,hρ]
   ·exact h.elim
  ·rw [hx.v_inv]
   refine ⟨_,_,run_range_nilMap w T kt et hT,?_⟩
   exact Came.new (cap:=0) (c:=.raw _) hs hd rfl hf (Or.inl rfl) (.loc (Rho.upd_same _ _ _)) ⟨w.heap.size,0,rfl,heap_alloc_new w _⟩ h
  ·exact h.elim
 ·rename_i t hT
  obtain ⟨hf,h⟩:=h
  split at h
  ·rename_i str
   rw [hx.v_inv]
   refine ⟨_,_,run_range_string w T str hT,?_⟩
   exact Came.new (cap:=0) (c:=.raw _) hs hd rfl hf (Or.inl rfl) (.loc (Rho.upd_same _ _ _)) ⟨w.heap.size,0,rfl,heap_alloc_new w _⟩ h
  ·exact h.elim
 ·exact h.elim
theorem bool_rep {b : Bool} : Rep H ρ (.v (.bool b)) (.bool b):=.v rfl
theorem setBlock_write {id b cap : Nat} {c c' : Ct} {obj : Obj} (hs : Sim E H ρ s.slot s.box a w) (hc : s.box id = some c) (hb : ρ id = .at b cap) (hc' : ∀ w' : World,w'.heap[b]? = some obj → CtRep H ρ w' (.at b cap) c') :
 Sim E H ρ (s.setBox id c').slot (s.setBox id c').box a (ChangeMaps.setBlock w b obj):=by
 rw [AState.box_setBox,AState.slot_setBox]
 have hlt:=(hs.boxes.apart id c b cap hc hb).2.1
 exact hs.write hc hb rfl rfl ⟨rfl,Nat.le_refl _⟩ (by simp [ChangeMaps.setBlock]) (fun k hk=>by simp [ChangeMaps.setBlock,Array.getElem?_setIfInBounds_ne (Ne.symm hk)]) (hc' _ (by simp [ChangeMaps.setBlock,hlt]))
theorem aNext_sound {it : AV} {v : Value} {isStr : Bool} {ty : TypeId} (hs : Sim E H ρ s.slot s.box a w) (hd : ∀ t,d = some t → t < E.n) (hx : Rep H ρ it v) (h : aNext it isStr s d K) :
 ∃ u w',(Instr.next v isStr ty).run P w = .ok u w' ∧ Came E K a d u w':=by
 unfold aNext at h
 split at h
 ·rename_i t
  cases hx with
  |loc hρt =>
   rename_i r capr
   split at h
   ·rename_i m bs ck vis hbt
    obtain ⟨rfl,h⟩:=h
    split at h
    ·rename_i es bs' ck' hbm
     obtain ⟨⟨rfl,rfl,hmt⟩,hnext,hover⟩:=h
     obtain ⟨r',capr',mb,capm,seen,hbd,hρm,hheapr,hseen,hvis⟩:=hs.boxes.rep _ _ hbt
     obtain ⟨rfl,rfl⟩:=rho_at hρt hbd
     obtain ⟨b',cap',ents,clock,hbd2,hheapm,hk1,hk2,hborn,hnd,hst⟩:=hs.boxes.rep _ _ hbm
     obtain ⟨rfl,rfl⟩:=rho_at hρm hbd2
     obtain ⟨hbs,hck⟩:=hst bs' ck' rfl
     subst hck
     have hlen : ents.toList.length = es.length:=by have:=hk1.1;simp at this ⊢;omega
     have hbl : bs'.length = es.length:=by rw [← hbs,List.length_map,hlen]
     have hbget : ∀ i (hi : i < ents.toList.length),bs'.getD i 0 = (ents.toList[i]).born:=by
      intro i hi
      rw [← hbs]
      simp [List.getD_eq_getElem?_getD,List.getElem?_map,List.getElem?_eq_getElem hi]
     have hmem : ∀ i (hi : i < ents.toList.length),(ents.toList[i]).born ∈ seen.toList ↔ i ∈ vis:=by
      intro i hi
      rw [hseen,List.mem_map]
      constructor
      ·rintro ⟨j,hj,hjb⟩
       have hjl : j < ents.toList.length:=by have:=hvis j hj;omega
       rw [hbget j hjl] at hjb
       have hnd2:=hnd
       have : j = i:=by
        have h3 : j < (ents.toList.map (·.born)).length:=by simpa using hjl
        have h4 : i < (ents.toList.map (·.born)).length:=by simpa using hi
        refine (List.getElem_inj (h₀:=h3) (h₁:=h4) hnd2).1 ?_
        rw [List.getElem_map,List.getElem_map]
        exact hjb
       subst this
       exact hj
      ·intro hi'
       exact ⟨i,hi',hbget i hi⟩
     rcases run_next_at (P:=P) w ty r mb clock clock seen ents clock hheapr hheapm hborn (Nat.le_refl _) with ⟨h0,hrun⟩|⟨e,he,w1,hw1,hrun⟩
     ·refine ⟨_,_,hrun,Came.put hs hd ?_ (hover ?_)⟩
      ·exact .tup (vs:=[.bool false]) rfl (RepL.cons bool_rep RepL.nil).2
      ·intro i hi
       have hi' : i < ents.toList.length:=by omega
       refine (hmem i hi').1 ?_
       rw [Array.mem_toList_iff]
       have : leftOf ents seen = #[]:=Array.eq_empty_of_size_eq_zero h0
       unfold leftOf at this
       rw [Array.filter_eq_empty_iff] at this
       have:=this (ents.toList[i]) (by simp)
       simpa using this
     ·have hem : e ∈ ents.toList ∧ e.born ∉ seen:=by
       unfold leftOf at he
       simpa using he
      obtain ⟨i,hi,hie⟩:=List.mem_iff_getElem.1 hem.1
      have hiv : i ∉ vis:=by
       intro hv
       have:=(hmem i hi).2 hv
       rw [hie] at this
       exact hem.2 (by simpa using this)
      have hs1 : Sim E H ρ s.slot s.box a w1:=by
       rcases hw1 with rfl|rfl
       ·exact hs
       ·exact hs.drawn
      have hs2:=setBlock_write (id:=t) (c':=.it m bs' clock (vis ++ [i])) (obj:=.mapIter (some mb) clock (seen.push e.born) clock) hs1 hbt hρt (fun w' hw'=>by
       refine ⟨r,_,mb,capm,seen.push e.born,rfl,hρm,hw',?_,?_⟩
       ·simp only [Array.toList_push,List.map_append,List.map_cons,List.map_nil,hseen]
        rw [hbget i hi,hie]
       ·intro j hj
        rcases List.mem_append.1 hj with hj|hj
        ·exact hvis j hj
        ·simp at hj;omega)
      refine ⟨_,_,hrun,Came.put hs2 hd ?_ (hnext i (by omega) hiv)⟩
      have g1 : (es.map (·.1))[i]? = some (es.getD i default).1:=by
       have : i < es.length:=by omega
       simp [List.getD_eq_getElem?_getD,List.getElem?_eq_getElem this]
      have g2 : (es.map (·.2))[i]? = some (es.getD i default).2:=by
       have : i < es.length:=by omega
       simp [List.getD_eq_getElem?_getD,List.getElem?_eq_getElem this]
      have r1:=hk1.2 i _ e.key g1 (by simp [List.getElem?_map,List.getElem?_eq_getElem hi,hie])
      have r2:=hk2.2 i _ e.val g2 (by simp [List.getElem?_map,List.getElem?_eq_getElem hi,hie])
      exact .tup (vs:=[.bool true,e.key,e.val]) rfl (RepL.cons bool_rep (RepL.cons r1 (RepL.cons r2 RepL.nil))).2
    ·exact h.elim
   ·rename_i a1 a2 a3 hbt
    obtain ⟨rfl,h⟩:=h
    obtain ⟨r',capr',hbd,hheapr⟩:=hs.boxes.rep _ _ hbt
    obtain ⟨rfl,rfl⟩:=rho_at hρt hbd
    refine ⟨.tuple #[.bool false],w,?_,Came.put hs hd ?_ h⟩
    ·simp only [Instr.next,getObj,Sem.run_bind,Sem.run,hheapr,Result.andThen]
     rfl
    ·exact .tup (vs:=[.bool false]) rfl (RepL.cons bool_rep RepL.nil).2
   ·rename_i str pos hbt
    obtain ⟨rfl,h1,h2⟩:=h
    obtain ⟨r',capr',hbd,hheapr⟩:=hs.boxes.rep _ _ hbt
    obtain ⟨rfl,rfl⟩:=rho_at hρt hbd
    by_cases hpos : pos < str.size
    ·have hs2:=setBlock_write (id:=t) (c':=.raw (.stringIter str (pos + (Utf8.decode str pos).2))) (obj:=.stringIter str (pos + (Utf8.decode str pos).2)) hs hbt hρt (fun w' hw'=>⟨r,_,rfl,hw'⟩)
     refine ⟨.tuple #[.bool true,.int .i64 pos,.int .i32 (Utf8.decode str pos).1],_,?_,Came.put hs2 hd ?_ (h1 hpos)⟩
     ·simp only [Instr.next,getObj,setObj,Sem.run_bind,Sem.run,hheapr,Result.andThen,hpos,if_true]
      rfl
     ·exact .tup (vs:=[.bool true,.int .i64 pos,.int .i32 (Utf8.decode str pos).1]) rfl (RepL.cons bool_rep (RepL.cons (.v rfl) (RepL.cons (.v rfl) RepL.nil))).2
    ·refine ⟨.tuple #[.bool false],w,?_,Came.put hs hd ?_ (h2 hpos)⟩
     ·simp [Instr.next,getObj,Sem.run,hheapr,hpos]
     ·exact .tup (vs:=[.bool false]) rfl (RepL.cons bool_rep RepL.nil).2
   ·exact h.elim
 ·exact h.elim
theorem aEntry_sound {it : AV} {v : Value} (hs : Sim E H ρ s.slot s.box a w) (hd : ∀ t,d = some t → t < E.n) (hx : Rep H ρ it v) (h : aEntry it s d K) :
 ∃ u w',(Instr.entry v).run P w = .ok u w' ∧ Came E K a d u w':=by
 unfold aEntry at h
 split at h
 ·rename_i t
  cases hx with
  |loc hρt =>
   rename_i r capr
   split at h
   ·rename_i m bs ck vis hbt
    split at h
    ·rename_i es bs' ck' i hbm hlast
     obtain ⟨⟨rfl,rfl⟩,hK⟩:=h
     obtain ⟨r',capr',mb,capm,seen,hbd,hρm,hheapr,hseen,hvis⟩:=hs.boxes.rep _ _ hbt
     obtain ⟨rfl,rfl⟩:=rho_at hρt hbd
     obtain ⟨b',cap',ents,clock,hbd2,hheapm,hk1,hk2,hborn,hnd,hst⟩:=hs.boxes.rep _ _ hbm
     obtain ⟨rfl,rfl⟩:=rho_at hρm hbd2
     obtain ⟨hbs,hck⟩:=hst bs' ck' rfl
     subst hck
     have hlen : ents.toList.length = es.length:=by have:=hk1.1;simp at this ⊢;omega
     have hbl : bs'.length = es.length:=by rw [← hbs,List.length_map,hlen]
     have him : i ∈ vis:=List.mem_of_getLast? hlast
     have hi : i < ents.toList.length:=by have:=hvis i him;omega
     obtain ⟨pre,hpre⟩ : ∃ pre,vis = pre ++ [i]:=by
      obtain ⟨ys,hys⟩:=List.getLast?_eq_some_iff.1 hlast
      exact ⟨ys,hys⟩
     have hbi : bs'.getD i 0 = (ents.toList[i]).born:=by
      rw [← hbs]
      simp [List.getD_eq_getElem?_getD,List.getElem?_map,List.getElem?_eq_getElem hi]
     have hsp : seen = (pre.map (fun j=>bs'.getD j 0)).toArray.push (ents.toList[i]).born:=by
      apply Array.toList_inj.1
      rw [hseen,hpre,Array.toList_push,List.toList_toArray,List.map_append,List.map_cons,List.map_nil,hbi]
     rw [hsp] at hheapr
     refine ⟨_,_,run_entry_at (P:=P) w r mb clock _ ents clock (ents.toList[i]) hheapr hheapm (List.getElem_mem hi) hnd,Came.put hs hd ?_ hK⟩
     have g1 : (es.map (·.1))[i]? = some (es.getD i default).1:=by
      have : i < es.length:=by omega
      simp [List.getD_eq_getElem?_getD,List.getElem?_eq_getElem this]
     have g2 : (es.map (·.2))[i]? = some (es.getD i default).2:=by
      have : i < es.length:=by omega
      simp [List.getD_eq_getElem?_getD,List.getElem?_eq_getElem this]
     have r1:=hk1.2 i _ (ents.toList[i]).key g1 (by simp [List.getElem?_map,List.getElem?_eq_getElem hi])
     have r2:=hk2.2 i _ (ents.toList[i]).val g2 (by simp [List.getElem?_map,List.getElem?_eq_getElem hi])
     exact .tup (vs:=[(ents.toList[i]).key,(ents.toList[i]).val]) rfl (RepL.cons r1 (RepL.cons r2 RepL.nil)).2
    ·exact h.elim
   ·exact h.elim
 ·exact h.elim
theorem flat_splice {k : Nat} {xs ys : List AV} {off : Nat} (hx : ∀ x ∈ xs,x.cells.length = k) (hy : ∀ y ∈ ys,y.cells.length = k) (hfit : off + ys.length ≤ xs.length) :
 (xs.take off ++ (ys ++ xs.drop (off + ys.length))).flatMap AV.cells = setPart (xs.flatMap AV.cells) (off * k) (ys.flatMap AV.cells):=by
 have hyl:=flat_len hy
 have e1 : (xs.flatMap AV.cells).take (off * k) = (xs.take off).flatMap AV.cells:=by
  conv=>lhs;rw [← List.take_append_drop off xs]
  rw [List.flatMap_append]
  have : ((xs.take off).flatMap AV.cells).length = off * k:=by
   rw [flat_len (fun x h=>hx x (List.mem_of_mem_take h)),List.length_take]
   congr 1
   omega
  rw [← this,List.take_left]
 have e2 : (xs.flatMap AV.cells).drop (off * k + (ys.flatMap AV.cells).length) = (xs.drop (off + ys.length)).flatMap AV.cells:=by
  conv=>lhs;rw [← List.take_append_drop (off + ys.length) xs]
  rw [List.flatMap_append]
  have : ((xs.take (off + ys.length)).flatMap AV.cells).length = off * k + (ys.flatMap AV.cells).length:=by
   rw [flat_len (fun x h=>hx x (List.mem_of_mem_take h)),List.length_take,hyl,← Nat.add_mul]
   congr 1
   omega
  rw [← this,List.drop_left]
 unfold Am.setPart
 rw [e1,e2,List.flatMap_append,List.flatMap_append]
theorem Sim.splice {id b cap T k off : Nat} {xs ys : List AV} {cur : Array Value} {nv : List Value} (hs : Sim E H ρ s.slot s.box a w) (hbx : s.box id = some (.arr T k xs)) (hρ : ρ id = .at b cap) (hheap : w.heap[b]? = some (.cells cur T (0,0)))
 (hmax : cap ≤ maxLen) (hcap : xs.length ≤ cap) (hsz : cur.size = cap * k) (hrep : RepL H ρ (xs.flatMap AV.cells) (cur.toList.take (xs.length * k))) (hall : ∀ x ∈ xs,x.cells.length = k ∧ oneAll x)
 (hys : ∀ y ∈ ys,y.cells.length = k ∧ oneAll y) (hnv : RepL H ρ (ys.flatMap AV.cells) nv) (hfit : off + ys.length ≤ xs.length) :
 Sim E H ρ (s.setBox id (.arr T k (xs.take off ++ (ys ++ xs.drop (off + ys.length))))).slot (s.setBox id (.arr T k (xs.take off ++ (ys ++ xs.drop (off + ys.length))))).box a
  (w.setRow b (cur.toList.take (off * k) ++ nv ++ cur.toList.drop (off * k + nv.length)).toArray):=by
 have hyl:=flat_len (fun y hy=>(hys y hy).1)
 have hnl : nv.length = ys.length * k:=by rw [← hnv.1];exact hyl
 have hlen : (xs.take off ++ (ys ++ xs.drop (off + ys.length))).length = xs.length:=by simp;omega
 have hm1 : (off + ys.length) * k ≤ xs.length * k:=Nat.mul_le_mul_right _ hfit
 have hm2 : xs.length * k ≤ cap * k:=Nat.mul_le_mul_right _ hcap
 rw [Nat.add_mul] at hm1
 rw [AState.box_setBox,AState.slot_setBox]
 refine hs.write hbx hρ rfl rfl ⟨rfl,Nat.le_refl _⟩ (setRow_size _ _ _) (fun k hk=>setRow_other w b k _ hk) (.inr ⟨b,cap,_,rfl,setRow_heap w b _ _ _ _ hheap,hmax,by rw [hlen];exact hcap,?_,?_,?_⟩)
 ·simp only [List.size_toArray,List.length_append,List.length_take,List.length_drop,Array.length_toList]
  omega
 ·rw [hlen,flat_splice (fun x h=>(hall x h).1) (fun y h=>(hys y h).1) hfit]
  have hr2:=hrep.setPart' (off:=off * k) hnv
  have e3 : (cur.toList.take (off * k) ++ nv ++ cur.toList.drop (off * k + nv.length)).take (xs.length * k) =
   (cur.toList.take (xs.length * k)).take (off * k) ++ nv ++ (cur.toList.take (xs.length * k)).drop (off * k + nv.length):=by
   rw [List.append_assoc,List.append_assoc,List.take_append,List.take_append,List.take_take,List.drop_take]
   have l1 : (cur.toList.take (off * k)).length = off * k:=by simp;omega
   rw [l1,List.take_take]
   have l2 : min (xs.length * k) (off * k) = off * k:=by omega
   have l2' : min (off * k) (xs.length * k) = off * k:=by omega
   rw [l2,l2']
   congr 1
   have l3 : nv.take (xs.length * k - off * k) = nv:=List.take_of_length_le (by omega)
   rw [l3]
   congr 2
   omega
  show RepL H ρ _ (List.take (xs.length * k) (List.toArray _).toList)
  rw [List.toList_toArray,e3]
  exact hr2
 ·intro z hz
  simp only [List.mem_append] at hz
  rcases hz with h|h|h
  ·exact hall z (List.mem_of_mem_take h)
  ·exact hys z h
  ·exact hall z (List.mem_of_mem_drop h)
theorem zero_facts {e : TypeId} {z : AV} (h : zeroAV P e = some z) (hsto : z.sto = true) : ∃ i zv,P.info? e = some i ∧ i.zero = some zv ∧ (∀ (H : Heap) (ρ : Rho),RepL H ρ z.cells zv.cells.toList) ∧ oneAll z:=by
 obtain ⟨i,zv,hi,hz,rfl⟩:=zeroAV_inv h
 refine ⟨i,zv,hi,hz,fun H ρ=>((Rep.ofVal (H:=H) (ρ:=ρ) zv).cellsL hsto).1,((Rep.ofVal (H:=fun _ _=>none) (ρ:=rho0) zv).cellsL hsto).2⟩
theorem zeroCells_rep {z : AV} {zv : Value} (h : RepL H ρ z.cells zv.cells.toList) (n : Nat) : RepL H ρ ((List.replicate n z).flatMap AV.cells) (Builtin.zeroCells zv.cells n).toList:=by
 have:=RepL.replicate h n
 rw [← flat_zero] at this
 exact this
theorem aClear_sound {T ty : TypeId} {x : AV} {v : Value} (hs : Sim E H ρ s.slot s.box a w) (hd : ∀ t,d = some t → t < E.n) (hx : Rep H ρ x v) (h : aClear P T x s (fun s'=>K (s'.put d (.tup [])))) :
 ∃ u w',(Builtin.clear_ #[T] ty #[v]).run P w = .ok u w' ∧ Came E K a d u w':=by
 unfold aClear at h
 split at h
 ·rename_i e k hT
  have hv : ∃ p c,v = .slice p 0 c:=by
   generalize hy : AV.sl k [] = y at hx
   cases hx with
   |slNil=>exact ⟨_,_,rfl⟩
   |sl=>cases hy;exact ⟨_,_,rfl⟩
   |_=>cases hy
  obtain ⟨p,c,rfl⟩:=hv
  refine ⟨.tuple #[],w,?_,Came.put hs hd Rep.undef h⟩
  cases p <;> simp [Builtin.clear_,run_underlying hT]
 ·rename_i e n c hT
  rw [hx.v_inv]
  refine ⟨.tuple #[],w,?_,Came.put hs hd Rep.undef h⟩
  simp [Builtin.clear_,run_underlying hT]
 ·rename_i e id k off n hT
  split at h
  ·rename_i z e' k' xs hz hbx
   obtain ⟨⟨rfl,hsto,hzl,hfit⟩,hK⟩:=h
   obtain ⟨i,zv,hi,hzv,hzr,hz1⟩:=zero_facts hz hsto
   have hlr : (List.replicate n z).length = n:=by simp
   have triv : xs.take off ++ (List.replicate 0 z ++ xs.drop (off + 0)) = xs:=by simp
   have same : n = 0 → (Builtin.clear_ #[T] ty #[v]).run P w = .ok (.tuple #[]) w → ∃ u w',(Builtin.clear_ #[T] ty #[v]).run P w = .ok u w' ∧ Came E K a d u w':=by
    rintro rfl hrun
    rw [triv] at hK
    refine ⟨_,_,hrun,Came.put (hs.rebox hbx (hs.boxes.rep _ _ hbx)) hd Rep.undef hK⟩
   cases hx with
   |ownNil hρ=>exact same rfl (by simp [Builtin.clear_,run_underlying hT])
   |own hρ hn hm =>
    rename_i b cap
    rcases hs.boxes.rep _ _ hbx with ⟨hnil,hxs⟩|⟨b',cap',cur,hbd,hheap,hmax,hcap,hsz,hrep,hall⟩
    ·rw [hnil] at hρ;cases hρ
    obtain ⟨rfl,rfl⟩:=rho_at hρ hbd
    by_cases hn0 : n = 0
    ·subst hn0
     exact same rfl (by simp [Builtin.clear_,run_underlying hT])
    ·have hzs : (Builtin.zeroCells zv.cells n).toList.length = n * k':=by
      have h1:=(hzr H ρ).1
      rw [hzl,Array.length_toList] at h1
      rw [Array.length_toList,size_zeroCells,← h1]
     have hnv:=zeroCells_rep (hzr H ρ) n
     have hm1 : (off + n) * k' ≤ xs.length * k':=Nat.mul_le_mul_right _ hfit
     have hm2 : xs.length * k' ≤ cap * k':=Nat.mul_le_mul_right _ hcap
     rw [Nat.add_mul] at hm1
     have hone : ∀ u ∈ (Builtin.zeroCells zv.cells n).toList,u.oneCell' = true:=by
      intro u hu
      refine okV_oneCell (hnv.ok ?_ u hu)
      intro c hc
      obtain ⟨y,hy,hcy⟩:=List.mem_flatMap.1 hc
      rw [(List.mem_replicate.1 hy).2] at hcy
      exact hz1 c hcy
     have hst:=run_storeCells_at P b (off * k') e' (Builtin.zeroCells zv.cells n).toList 0 cur w hheap (by rw [hzs,hsz];omega) hone
     simp only [Nat.add_zero] at hst
     have hsim:=hs.splice (off:=off) (ys:=List.replicate n z) (nv:=(Builtin.zeroCells zv.cells n).toList) hbx hρ hheap hmax hcap hsz hrep hall
      (fun y hy=>by rw [(List.mem_replicate.1 hy).2];exact ⟨hzl,hz1⟩) hnv (by simpa using hfit)
     rw [hlr] at hsim
     refine ⟨.tuple #[],_,?_,Came.put hsim hd Rep.undef hK⟩
     have hzrun : (zeroValue e).run P w = .ok zv w:=by simp [zeroValue,typeInfo,hi,hzv]
     cases n with
     |zero=>exact absurd rfl hn0
     |succ n =>
      simp only [Builtin.clear_,run_underlying hT,Sem.run_bind,Result.andThen_ok]
      simp only [List.getElem?_toArray,List.getElem?_cons_zero,Sem.run_bind,run_underlying hT,hzrun,Result.andThen_ok,hst,Sem.run_pure]
  ·exact h.elim
 ·exact h.elim
theorem eqIn_slice (dd : Nat) {T e : TypeId} (hT : P.underlying T = some (.slice e)) (p : Option Addr) (n c m c' : Nat) :
 (Op.equalIn (dd + 1) T (.slice p n c) (.slice none m c')).run P w = .ok p.isNone w:=by
 cases p <;> simp [Op.equalIn,run_underlying hT]
theorem slNil_sound {op : BinOp} {T : TypeId} {ox oy : Operand} {p : Option Addr} {n c m c' : Nat} {emp : Prop} (hs : Sim E H ρ s.slot s.box a w) (hd : ∀ t,d = some t → t < E.n) (hp : ¬ emp → p ≠ none) (h : aSlNil P op T emp s d K) :
 ∃ u,(eqGuard op T ox oy (.slice p n c) (.slice none m c')).run P w = .ok () w ∧ (binOp op T (.slice p n c) (.slice none m c')).run P w = .ok u w ∧ Came E K a d u w:=by
 obtain ⟨⟨e,hT⟩,h⟩:=h
 have hg:=run_eqGuard_other (P:=P) (w:=w) (op:=op) (T:=T) (x:=ox) (y:=oy) (a:=.slice p n c) (b:=.slice none m c') (by simp) (by simp)
 have he : (Op.equal T (.slice p n c) (.slice none m c')).run P w = .ok p.isNone w:=by
  unfold Op.equal Op.maxDepth
  rw [show (10000 : Nat) = 9999 + 1 from rfl]
  exact eqIn_slice 9999 hT p n c m c'
 have hb:=run_binOp_eq (op:=op) (v:=.slice none m c') (by simp) he
 by_cases hem : emp
 ·split at h
  ·exact ⟨_,hg,hb.1 rfl,Came.put hs hd (.v rfl) (h.2 hem _)⟩
  ·exact ⟨_,hg,hb.2 rfl,Came.put hs hd (.v rfl) (h.2 hem _)⟩
  ·exact h.elim
 ·have hp' : p.isNone = false:=by
   cases p with
   |none=>exact absurd rfl (hp hem)
   |some _=>rfl
  rw [hp'] at hb
  split at h
  ·exact ⟨_,hg,hb.1 rfl,Came.put hs hd (.v rfl) (h.1 hem)⟩
  ·exact ⟨_,hg,hb.2 rfl,Came.put hs hd (.v rfl) (h.1 hem)⟩
  ·exact h.elim
theorem sl_val {k : Nat} {xs : List AV} {v : Value} (h : Rep H ρ (.sl k xs) v) : ∃ p n c,v = .slice p n c ∧ (¬ xs = [] → p ≠ none):=by
 generalize hy : AV.sl k xs = y at h
 cases h with
 |slNil=>cases hy;exact ⟨_,_,_,rfl,fun h=>absurd rfl h⟩
 |sl=>cases hy;exact ⟨_,_,_,rfl,fun _=>by simp⟩
 |_=>cases hy
theorem own_val {id k off n : Nat} {v : Value} (h : Rep H ρ (.own id k off n) v) : ∃ p n' c,v = .slice p n' c ∧ (¬ n = 0 → p ≠ none):=by
 cases h with
 |ownNil=>exact ⟨_,_,_,rfl,fun h=>absurd rfl h⟩
 |own=>exact ⟨_,_,_,rfl,fun _=>by simp⟩
theorem aAppendN_sound {T T' ty : TypeId} {v x : AV} {vv vx : Value} (hs : Sim E H ρ s.slot s.box a w) (hd : ∀ t,d = some t → t < E.n) (hv : Rep H ρ v vv) (hx : Rep H ρ x vx) (h : aAppendN P T T' v x s d K) :
 ∃ u w',(Builtin.append_ #[T,T'] ty #[vv,vx]).run P w = .ok u w' ∧ Came E K a d u w':=by
 unfold aAppendN at h
 split at h
 ·rename_i e t hT hT'
  split at h
  ·rename_i n z hz
   obtain ⟨⟨hok,hk0,hsto,hzl,hn0,hn62,h47,hf⟩,hK⟩:=h
   obtain ⟨i,zv,hi,hzv,hzr,hz1⟩:=zero_facts hz hsto
   rw [hv.v_inv,hx.v_inv]
   have hsize : i.size = P.cellsOf e:=by simp [Program.cellsOf,hi]
   have hbytes : i.bytes = P.bytesOf e:=by simp [Program.bytesOf,hi]
   obtain ⟨m,rfl⟩ : ∃ m : Nat,n = m:=⟨n.toNat,by omega⟩
   rw [Int.toNat_natCast] at hK
   rw [← Int.natCast_mul] at h47
   have hrun:=Go.Lib.run_append_nil_zeros (P:=P) w T T' ty e i zv .i64 .i64 hT hT' hi hzv m (by omega) (by omega) (by omega) (by rw [hbytes];omega)
   refine ⟨_,_,hrun,?_⟩
   have hge:=grownCap_ge w m 0 e
   have hmax:=grownCap_le_maxLen w m 0 e (by unfold maxLen;omega)
   have hzc : zv.cells.size = P.cellsOf e:=by
    have:=(hzr H ρ).1
    rw [hzl,Array.length_toList] at this
    exact this.symm
   refine Came.new (cap:=grownCap w m 0 e) (c:=.arr e (P.cellsOf e) (List.replicate m z)) hs hd rfl hf (Or.inr rfl) ?_ (Or.inr ⟨w.heap.size,_,_,rfl,heap_alloc_new w.drew _,hmax,by simpa using hge,?_,?_,?_⟩) hK
   ·have:=Rep.own (H:=H) (ρ:=ρ.upd t (.at w.heap.size (grownCap w m 0 e))) (id:=t) (k:=P.cellsOf e) (off:=0) (n:=m) (Rho.upd_same _ _ _) (by omega) hmax
    simpa using this
   ·simp only [Array.size_append,size_zeroCells,hzc,← Nat.add_mul]
    congr 1
    omega
   ·have : (Builtin.zeroCells zv.cells m ++ Builtin.zeroCells zv.cells (grownCap w m 0 e - m)).toList.take ((List.replicate m z).length * P.cellsOf e) = (Builtin.zeroCells zv.cells m).toList:=by
     rw [Array.toList_append,List.length_replicate]
     have : m * P.cellsOf e = (Builtin.zeroCells zv.cells m).toList.length:=by rw [Array.length_toList,size_zeroCells,hzc]
     rw [this,List.take_left]
    rw [this]
    exact zeroCells_rep (hzr H _) m
   ·intro y hy
    rw [(List.mem_replicate.1 hy).2]
    exact ⟨hzl,hz1⟩
  ·exact h.elim
 ·exact h.elim
theorem nilRow_rep {e : TypeId} {z : AV} {vs : List Value} (h : RepL H ρ z.cells vs) : RepL H ρ (nilRow P e z).cells vs:=by
 unfold nilRow
 split
 ·split
  ·obtain ⟨u,us,rfl,h1,h2⟩:=h.cons_inv
   rw [h2.nil_inv,h1.v_inv]
   exact RepL.cons .slNil RepL.nil
  ·exact h
 ·exact h
theorem nilRow_cells (e : TypeId) (z : AV) : (nilRow P e z).cells.length = z.cells.length ∧ (oneAll z → oneAll (nilRow P e z)):=by
 unfold nilRow
 split
 ·split
  ·exact ⟨rfl,fun _ c hc=>by simp [AV.cells] at hc;subst hc;rfl⟩
  ·exact ⟨rfl,id⟩
 ·exact ⟨rfl,id⟩
theorem aMake_sound {T : TypeId} {n c : AV} {vn vc : Value} (hs : Sim E H ρ s.slot s.box a w) (hd : ∀ t,d = some t → t < E.n) (hn : Rep H ρ n vn) (hc : Rep H ρ c vc) (h : aMake P T n c s d K) :
 ∃ u w',(Instr.makeSlice T vn vc).run P w = .ok u w' ∧ Came E K a d u w':=by
 unfold aMake at h
 split at h
 ·rename_i e t m m' hT
  split at h
  ·rename_i z hz
   obtain ⟨⟨rfl,hok,hk0,hsto,hzl,hn0,hn62,h47,hf⟩,hK⟩:=h
   obtain ⟨i,zv,hi,hzv,hzr,hz1⟩:=zero_facts hz hsto
   rw [hn.v_inv,hc.v_inv]
   have hsize : i.size = P.cellsOf e:=by simp [Program.cellsOf,hi]
   have hbytes : i.bytes = P.bytesOf e:=by simp [Program.bytesOf,hi]
   have hzc : zv.cells.size = P.cellsOf e:=by
    have:=(hzr H ρ).1
    rw [hzl,Array.length_toList] at this
    exact this.symm
   have hrun:=run_make (P:=P) w T e i zv hT hi hzv .i64 .i64 m m hn0 (Int.le_refl _) (by rw [hbytes,Int.mul_comm];omega) (by omega)
   have hmk : madeCells zv.cells (m.toNat * i.size) = Builtin.zeroCells zv.cells m.toNat:=by
    unfold madeCells Builtin.zeroCells
    rw [hsize,hzc]
   refine ⟨_,_,hrun,?_⟩
   rw [hmk]
   have hcell:=nilRow_cells (P:=P) e z
   refine Came.new (cap:=m.toNat) (c:=.arr e (P.cellsOf e) (List.replicate m.toNat (nilRow P e z))) hs hd rfl hf (Or.inl rfl) ?_ (Or.inr ⟨w.heap.size,_,_,rfl,heap_alloc_new w _,by unfold maxLen;omega,by simp,?_,?_,?_⟩) hK
   ·have:=Rep.own (H:=H) (ρ:=ρ.upd t (.at w.heap.size m.toNat)) (id:=t) (k:=P.cellsOf e) (off:=0) (n:=m.toNat) (Rho.upd_same _ _ _) (by omega) (by unfold maxLen;omega)
    simpa using this
   ·simp only [size_zeroCells,hzc]
   ·have : (Builtin.zeroCells zv.cells m.toNat).toList.take ((List.replicate m.toNat (nilRow P e z)).length * P.cellsOf e) = (Builtin.zeroCells zv.cells m.toNat).toList:=by
     rw [List.length_replicate]
     have : m.toNat * P.cellsOf e = (Builtin.zeroCells zv.cells m.toNat).toList.length:=by rw [Array.length_toList,size_zeroCells,hzc]
     rw [this,List.take_length]
    rw [this]
    exact zeroCells_rep (nilRow_rep (hzr H _)) m.toNat
   ·intro y hy
    rw [(List.mem_replicate.1 hy).2]
    exact ⟨hcell.1.trans hzl,hcell.2 hz1⟩
  ·exact h.elim
 ·exact h.elim
theorem run_cap_nil {T e ty : TypeId} {n c : Nat} (hT : P.underlying T = some (.slice e)) : (Builtin.cap_ #[T] ty #[.slice none n c]).run P w = .ok (.int .i64 c) w:=by
 simp [Builtin.cap_,run_underlying hT,goInt]
theorem run_slice_nil {T e : TypeId} {k : IntKind} (hT : P.underlying T = some (.slice e)) (hok : okT P e = true) : (Instr.sliceAt T (.slice none 0 0) none (some (.int k 0)) none).run P w = .ok (.slice none 0 0) w:=by
 obtain ⟨i,hi⟩:=info_of_okT hok
 simp [Instr.sliceAt,Instr.slice,run_underlying hT,Instr.sliceBounds,Instr.sliceBound,asIntOf,Go.sizeOf,typeInfo,hi]
end
end Go.Am
end
section
namespace Go.Am
open Go.RowKit
def aConvS (P : Program) (S T : TypeId) (b : ByteArray) (s : AState) (d : Option Tmp) (K : AState → Prop) : Prop:=match P.underlying T with
 |some (.slice e)=>((P.underlying S).isSome = true ∧ P.underlying e = some (.int .u8) ∧ b.size ≤ 1000000) ∧ K (s.put d (.sl 1 (b.data.toList.map byteA)))
 |_=>False
def aConvB (P : Program) (S T : TypeId) (id : Nat) (s : AState) (d : Option Tmp) (K : AState → Prop) : Prop:=match s.box id,P.underlying S with
 |some (.arr _ 1 [.v (.int .u8 m)]),some (.slice e)=>(P.underlying e = some (.int .u8) ∧ P.underlying T = some .string) ∧ K (s.put d (.v (.string ⟨#[UInt8.ofNat m.toNat]⟩)))
 |_,_=>False
def aIfcEq (P : Program) (op : BinOp) (T t t' : TypeId) (k k' : IntKind) (a b : Int) (s : AState) (d : Option Tmp) (K : AState → Prop) : Prop:=match P.underlying T,P.underlying t with
 |some (.interface _),some (.int _)=>(t = t' ∧ k = k' ∧ (P.info? t).map (·.comparable) = some true) ∧ (match op with
  |.eql=>K (s.put d (.v (.bool (a == b))))
  |.neq=>K (s.put d (.v (.bool (!(a == b)))))
  |_=>False)
 |_,_=>False
section
variable {P : Program} {E : Env}
theorem aConvS_sound {H : Heap} {ρ : Rho} {a : Act} {w : World} {s : AState} {K : AState → Prop} {d : Option Tmp} {S T : TypeId} {b : ByteArray} (hs : Sim E H ρ s.slot s.box a w) (hd : ∀ t,d = some t → t < E.n) (h : aConvS P S T b s d K) :
 ∃ u w',(convert S T (.string b)).run P w = .ok u w' ∧ Came E K a d u w':=by
 unfold aConvS at h
 split at h
 ·rename_i e hT
  obtain ⟨⟨hS,he,hb⟩,hK⟩:=h
  obtain ⟨us,hS⟩:=Option.isSome_iff_exists.1 hS
  refine ⟨_,_,Go.Lib.run_convert_string_bytes w S T e b hS hT he,?_⟩
  have hlen : (b.data.toList.map byteA).length = b.size:=by rw [List.length_map,Array.length_toList];rfl
  have hbel : Bel w.heap.size w (Go.Lib.bytesWorld w e b):=by
   refine ⟨⟨?_,?_,?_,by rw [Go.Lib.bytesWorld_size];omega,fun k hk=>Go.Lib.bytesWorld_at_old w e b k hk⟩,?_⟩
   all_goals simp [Go.Lib.bytesWorld,World.freeze,World.alloc,World.drew, -World.alloc_eq, -World.drew_eq]
  let H' : Heap:=fun bl o=>if bl = w.heap.size then (Go.Lib.bytesWorld w e b).cell? ⟨bl,o,none⟩ else H bl o
  have hold : ∀ bl o u,H bl o = some u → bl < w.heap.size:=by
   intro bl o u hu
   have:=hs.ext bl o u hu
   rcases Nat.lt_or_ge bl w.heap.size with h|h
   ·exact h
   ·unfold World.cell? at this
    simp only at this
    rw [Array.getElem?_eq_none (by simpa using h)] at this
    simp at this
  have hle : H.le H':=by
   intro bl o u hu
   have:=hold _ _ _ hu
   simp only [H']
   rw [if_neg (by omega)]
   exact hu
  have hext : Ext H' (Go.Lib.bytesWorld w e b):=by
   intro bl o u hu
   simp only [H'] at hu
   split at hu
   ·exact hu
   ·exact (Go.Lib.bytesWorld_old w e b ⟨bl,o,none⟩ (hold _ _ _ hu)).trans (hs.ext _ _ _ hu)
  have hrep : Rep H' ρ (.sl 1 (b.data.toList.map byteA)) (.slice (some ⟨w.heap.size,0,none⟩) b.size (grownCap w b.size 0 e)):=by
   have key:=Rep.sl (H:=H') (ρ:=ρ) (k:=1) (xs:=b.data.toList.map byteA) (blk:=w.heap.size) (off:=0) (cap:=grownCap w b.size 0 e) (fun i _=>.int .u8 ((b.data.toList.getD i 0).toNat : Int))
    (by rw [hlen];exact grownCap_ge w _ _ _) (grownCap_le_maxLen w _ _ _ (by unfold maxLen;omega)) (by intro x hx;simp at hx;obtain ⟨y,_,rfl⟩:=hx;rfl) (by intro x hx c hc;simp at hx;obtain ⟨y,_,rfl⟩:=hx;simp [byteA,AV.cells] at hc;subst hc;rfl)
    (by
      intro i j x c hx hc
      have hi : i < b.size:=by
       have:=(List.getElem?_eq_some_iff.1 hx).1
       rw [hlen] at this
       exact this
      rw [List.getElem?_map,Option.map_eq_some_iff] at hx
      obtain ⟨y,_,rfl⟩:=hx
      have hj : j = 0:=by
       rcases j with _|j
       ·rfl
       ·simp [byteA,AV.cells] at hc
      subst hj
      simp only [H']
      rw [if_pos trivial,show 0 + i * 1 + 0 = i by omega]
      exact Go.Lib.bytesWorld_cell w e b i hi)
    (by
      intro i j x c hx hc
      rw [List.getElem?_map,Option.map_eq_some_iff] at hx
      obtain ⟨y,hy,rfl⟩:=hx
      have hj : j = 0:=by
       rcases j with _|j
       ·rfl
       ·simp [byteA,AV.cells] at hc
      subst hj
      simp [byteA,AV.cells] at hc
      subst hc
      have : b.data.toList.getD i 0 = y:=by rw [List.getD_eq_getElem?_getD,hy];rfl
      rw [this]
      exact .v rfl)
   rw [hlen] at key
   exact key
  obtain ⟨x,n,H2,ρ2,⟨rfl,rfl⟩,hs'⟩:=hs.quiet (o:={ (default : Oper) with dst:=d }) (k:=fun x n=>x = .sl 1 (b.data.toList.map byteA) ∧ n = none) hd (by rintro x c ⟨_,h⟩;cases h)
   ⟨_,none,H',ρ,_,⟨rfl,rfl⟩,rfl,hle,(by
     intro bl o u hu h0
     simp only [H'] at hu
     split at hu
     ·omega
     ·rw [h0] at hu;cases hu),hext,hrep,hbel,rfl⟩
  refine ⟨_,H2,ρ2,hK,?_⟩
  rw [AState.slot_put,AState.box_put]
  have : addF s.box d none = s.box:=by cases d <;> rfl
  rw [this] at hs'
  exact hs'
 ·exact h.elim
theorem aConvB_sound {H : Heap} {ρ : Rho} {a : Act} {w : World} {s : AState} {K : AState → Prop} {d : Option Tmp} {S T : TypeId} {id : Nat} {v : Value} (hs : Sim E H ρ s.slot s.box a w) (hd : ∀ t,d = some t → t < E.n) (hv : Rep H ρ (.own id 1 0 1) v) (h : aConvB P S T id s d K) :
 ∃ u w',(convert S T v).run P w = .ok u w' ∧ Came E K a d u w':=by
 unfold aConvB at h
 split at h
 ·rename_i T' m e hbx hS
  obtain ⟨⟨he,hT⟩,hK⟩:=h
  cases hv with
  |own hρ hn hmax =>
   rename_i b cap
   rcases hs.boxes.rep _ _ hbx with ⟨hnil,hxs⟩|⟨b',cap',cur,hbd,hheap,hmax',hcap,hsz,hrep,hall⟩
   ·rw [hnil] at hρ;cases hρ
   ·obtain ⟨rfl,rfl⟩:=rho_at hρ hbd
    have hc : w.cell? ((⟨b,0 * 1,none⟩ : Addr).add 0) = some (.int .u8 m):=by
     have hg : ([AV.v (.int .u8 m)].flatMap AV.cells)[0]? = some (.v (.int .u8 m)):=rfl
     obtain ⟨u,hu,hru⟩:=hrep.get hg
     rw [List.getElem?_take] at hu
     split at hu
     ·rw [Array.getElem?_toList] at hu
      rw [Addr.add_mk,cell_of_row w b _ _ _ _ hheap]
      simpa [hru.v_inv] using hu
     ·cases hu
    have hl : (loadCells (⟨b,0 * 1,none⟩ : Addr) 1).run P w = .ok ([m].map (Value.int .u8)).toArray w:=by
     have:=run_loadCells_list (P:=P) (w:=w) (⟨b,0 * 1,none⟩ : Addr) [Value.int .u8 m] (by
      intro j v hj
      rcases j with _|j
      ·simp at hj;subst hj;exact hc
      ·simp at hj)
     simpa using this
    refine ⟨_,_,by rw [run_convert_bytes_string w S T e _ _ _ hS he hT,run_bytesToString w _ _ _ [m] hl],?_⟩
    exact Came.put hs hd (.v rfl) hK
 ·exact h.elim
theorem ifc_val {H : Heap} {ρ : Rho} {t : TypeId} {y v : Value} (h : Rep H ρ (.ifc t (.v y)) v) : v = .iface t y:=by
 cases h with
 |ifc h=>rw [h.v_inv]
theorem run_neq_iface_int {P : Program} (w : World) {t tx : TypeId} {ms : Array (String × TypeId)} {k q : IntKind} (a b : Int)
 (ht : P.underlying t = some (.interface ms)) (hc : (P.info? tx).map (·.comparable) = some true) (hx : P.underlying tx = some (.int q)) :
 (binOp .neq t (.iface tx (.int k a)) (.iface tx (.int k b))).run P w = .ok (.bool (!(a == b))) w:=by
 cases hi : P.info? tx with
 |none=>simp [hi] at hc
 |some i =>
  have hcc : i.comparable = true:=by simpa [hi] using hc
  have h : ∀ d : Nat,(Op.equalIn (d + 2) t (.iface tx (.int k a)) (.iface tx (.int k b))).run P w = .ok (a == b) w:=fun d=>by
   simp [Op.equalIn,run_underlying ht,run_underlying hx,typeInfo,hi,hcc]
  simp only [binOp]
  simp [Op.equal,Op.maxDepth,h 9998]
theorem aIfcEq_sound {H : Heap} {ρ : Rho} {a : Act} {w : World} {s : AState} {K : AState → Prop} {d : Option Tmp} {op : BinOp} {T t t' : TypeId} {k k' : IntKind} {x y : Int} {ox oy : Operand} (hs : Sim E H ρ s.slot s.box a w) (hd : ∀ t,d = some t → t < E.n) (h : aIfcEq P op T t t' k k' x y s d K) :
 ∃ u,(eqGuard op T ox oy (.iface t (.int k x)) (.iface t' (.int k' y))).run P w = .ok () w ∧ (binOp op T (.iface t (.int k x)) (.iface t' (.int k' y))).run P w = .ok u w ∧ Came E K a d u w:=by
 unfold aIfcEq at h
 split at h
 ·rename_i ms q hT ht
  obtain ⟨⟨rfl,rfl,hc⟩,h⟩:=h
  have hg:=run_eqGuard_other (P:=P) (w:=w) (op:=op) (T:=T) (x:=ox) (y:=oy) (a:=.iface t (.int k x)) (b:=.iface t (.int k y)) (.inl (by simp)) (.inl (by intro xs;simp))
  split at h
  ·exact ⟨_,hg,Go.Lib.run_eql_iface_int w x y hT hc ht,Came.put hs hd (.v rfl) h⟩
  ·exact ⟨_,hg,run_neq_iface_int w x y hT hc ht,Came.put hs hd (.v rfl) h⟩
  ·exact h.elim
 ·exact h.elim
end
end Go.Am
end
section
namespace Go.Am
open Go.RowKit
def AState.fresh (s : AState) (d : Option Tmp) : Prop:=match d with
 |some d=>s.ment d = false
 |none=>True
def qstep (P : Program) (o : Oper) (s : AState) (K : AState → Prop) : Prop :=
 (newOp o.op = true → s.fresh o.dst) ∧ qop P o s.eval s.box (fun x n=>K ((s.put o.dst x).addBox o.dst n))
def aCall (P : Program) (E : Env) (f : AV) (args : List AV) (s : AState) (d : Option Tmp) (K : AState → Prop) : Prop :=
 match f with
 |.fn (.func g) first caps=>ACall P E g (first ++ args ++ caps) s d K
 |_=>False
def stepBin (P : Program) (o : Oper) (op : BinOp) (T : TypeId) (x y : AV) (s : AState) (K : AState → Prop) : Prop :=
 match x,y with
 |.sl _ xs,.v (.slice none _ _)=>aSlNil P op T (xs = []) s o.dst K
 |.own _ _ _ n,.v (.slice none _ _)=>aSlNil P op T (n = 0) s o.dst K
 |.ifc t (.v (.int k a)),.ifc t' (.v (.int k' b))=>aIfcEq P op T t t' k k' a b s o.dst K
 |_,_=>qstep P o s K
def stepConv (P : Program) (o : Oper) (S T : TypeId) (x : AV) (s : AState) (K : AState → Prop) : Prop :=
 match x,P.underlying T with
 |.v (.string b),some (.slice _)=>aConvS P S T b s o.dst K
 |.own id 1 0 1,some .string=>aConvB P S T id s o.dst K
 |_,_=>qstep P o s K
def stepNeg (P : Program) (o : Oper) (op : UnOp) (x : AV) (s : AState) (K : AState → Prop) : Prop :=
 match op,x with
 |.neg,.v (.int .i64 n)=>(n = -9223372036854775808 → K (s.put o.dst (.v (.int .i64 n)))) ∧ (n ≠ -9223372036854775808 → qstep P o s K)
 |_,_=>qstep P o s K
def stepSlice (P : Program) (o : Oper) (T : TypeId) (x : AV) (lo hi : Option AV) (s : AState) (K : AState → Prop) : Prop :=
 match x,lo,hi with
 |.v (.slice none 0 0),none,some (.v (.int _ 0))=>(∃ e,P.underlying T = some (.slice e) ∧ okT P e = true) ∧ K (s.put o.dst (.v (.slice none 0 0)))
 |_,_,_=>qstep P o s K
def stepCap (P : Program) (T : TypeId) (x : AV) (s : AState) (d : Option Tmp) (K : AState → Prop) : Prop :=
 match x with
 |.v (.slice none _ c)=>(∃ e,P.underlying T = some (.slice e)) ∧ K (s.put d (.v (.int .i64 c)))
 |_=>False
def aAppendO (P : Program) (T T' : TypeId) (v x : AV) (s : AState) (d : Option Tmp) (K : AState → Prop) : Prop:=match P.underlying T' with
 |some .string=>aAppendS P T T' v x (s.forget v) d K
 |_=>aAppendN P T T' v x s d K
def killI (id : Nat) : List (Nat × Ct) → List (Nat × Ct)
 |[]=>[]
 |(i,c) :: l=>if i = id then killI id l else (i,c) :: killI id l
theorem killI_lk {id : Nat} : ∀ {l : List (Nat × Ct)} {i : Nat} {c : Ct},lk (killI id l) i = some c → i ≠ id ∧ lk l i = some c
 |[],_,_,h=>by simp [killI,lk] at h
 |(j,e) :: l,i,c,h=>by
  simp only [killI] at h
  split at h
  ·rename_i hj
   obtain ⟨h1,h2⟩:=killI_lk h
   refine ⟨h1,?_⟩
   simp only [lk]
   rw [if_neg (fun e=>h1 (e.symm.trans hj))]
   exact h2
  ·rename_i hj
   simp only [lk] at h ⊢
   split at h
   ·rename_i hji
    rw [if_pos hji]
    exact ⟨fun e=>hj (hji.trans e),h⟩
   ·rename_i hji
    rw [if_neg hji]
    exact killI_lk h
def aUStr (P : Program) (pt : TypeId) (p n : AV) (s : AState) (d : Option Tmp) (K : AState → Prop) : Prop:=match p,n with
 |.eloc id k i off,.v (.int .i64 m)=>(match s.box id with
  |some (.arr T k' xs)=>((k = 1 ∧ k' = 1 ∧ i = 0 ∧ off = 0) ∧ P.underlying pt = some (.pointer T) ∧ P.cellsOf T = 1 ∧ 0 < m ∧ m ≤ xs.length) ∧ ∃ l : List UInt8,xs.take m.toNat = l.map byteA ∧ K ((AState.mk s.s (killI id s.b)).put d (.v (.string ⟨l.toArray⟩)))
  |_=>False)
 |_,_=>False
def stepCall (P : Program) (E : Env) (o : Oper) (c : Call) (s : AState) (K : AState → Prop) : Prop :=
 match c.callee with
 |.builtin .append=>(match c.args.toList,c.argTypes.toList with
  |[v,x],[T,T']=>if T = T' then aAppend P T (s.eval v) (s.eval x) (s.forget (s.eval v)) o.dst K else aAppendO P T T' (s.eval v) (s.eval x) s o.dst K
  |_,_=>False)
 |.builtin .clear=>(match c.args.toList,c.argTypes.toList with
  |[x],[T]=>aClear P T (s.eval x) s (fun s'=>K (s'.put o.dst (.tup [])))
  |_,_=>False)
 |.builtin .cap=>(match c.args.toList,c.argTypes.toList with
  |[x],[T]=>stepCap P T (s.eval x) s o.dst K
  |_,_=>False)
 |.builtin .unsafeString=>(match c.args.toList,c.argTypes.toList with
  |[p,n],[pt,_]=>aUStr P pt (s.eval p) (s.eval n) s o.dst K
  |_,_=>False)
 |.value f=>aCall P E (s.eval f) (c.args.toList.map s.eval) s o.dst K
 |_=>qstep P o s K
def stepOp (P : Program) (E : Env) (o : Oper) (s : AState) (K : AState → Prop) : Prop :=
 match o.op with
 |.store T p x=>aStore P T (s.eval p) (s.eval x) s (fun s'=>K (s'.put o.dst (.tup [])))
 |.mapUpdate T m k x=>aMapUpd P T (s.eval m) (s.eval k) (s.eval x) s (fun s'=>K (s'.put o.dst (.tup [])))
 |.insert T m k x=>aMapUpd P T (s.eval m) (s.eval k) (s.eval x) s (fun s'=>K (s'.put o.dst (.tup [])))
 |.nilCheck x=>aThere (s.eval x) = true ∧ K (s.put o.dst (s.eval x))
 |.range T x=>aRange P T (s.eval x) s o.dst K
 |.makeSlice T l c=>aMake P T (s.eval l) (s.eval c) s o.dst K
 |.next it str=>aNext (s.eval it) str s o.dst K
 |.entry it=>aEntry (s.eval it) s o.dst K
 |.binOp op T x y _=>stepBin P o op T (s.eval x) (s.eval y) s K
 |.slice T x lo hi none=>stepSlice P o T (s.eval x) (lo.map s.eval) (hi.map s.eval) s K
 |.convert S T x=>stepConv P o S T (s.eval x) s K
 |.unOp op _ x=>stepNeg P o op (s.eval x) s K
 |.call c=>stepCall P E o c s K
 |_=>qstep P o s K
def RK (P : Program) (E : Env) (ops : Array Oper) : List Oper → AState → (AState → Prop) → Prop
 |[],s,K=>K s
 |o :: rest,s,K=>match o.guard with
  |none=>stepOp P E o s (fun s'=>RK P E ops rest s' K)
  |some (j,want)=>match (ops[j]?).bind (·.dst) with
   |some t=>(match s.slot t with
    |.v (.bool b)=>(b = want → stepOp P E o (s.put (some t) (.v (.bool want))) (fun s'=>RK P E ops rest s' K)) ∧ (b = (!want) → RK P E ops rest ((s.put (some t) (.v (.bool (!want)))).put o.dst (.tup [])) K)
    |.tup []=>RK P E ops rest (s.put o.dst (.tup [])) K
    |_=>False)
   |none=>RK P E ops rest (s.put o.dst (.tup [])) K
section
variable {P : Program} {E : Env}
theorem fresh_all {s : AState} {t : Nat} (h : s.ment t = false) : (∀ i,(s.slot i).ment t = false) ∧ (∀ id c,s.box id = some c → c.ment t = false) :=
 ⟨fun _=>AState.ment_slot h,fun _ _ hc=>AState.ment_box h hc⟩
theorem qop_old {o : Oper} {av : Operand → AV} {bf : Nat → Option Ct} {k : AV → Option Ct → Prop} (hn : newOp o.op = false) (h : qop P o av bf k) : qop P o av bf (fun x n=>k x none ∧ n = none):=by
 unfold qop at h ⊢
 cases hop : o.op <;> rw [hop] at h hn <;> simp only [newOp,reduceCtorEq] at hn <;> simp only [and_true] at h ⊢ <;> first|exact h|skip
 case slice T x lo hi mx=>cases mx <;> exact h
 case call c =>
  unfold qcall at h ⊢
  split at h
  ·split at h
   ·simpa using h
   ·exact h.elim
  ·split at h
   ·simpa using h
   ·exact h.elim
  ·simpa using h
  ·simpa using h
  ·rename_i hc
   simp [hc] at hn
  ·exact h.elim
theorem aUStr_sound {H : Heap} {ρ : Rho} {a : Act} {w : World} {s : AState} {K : AState → Prop} {d : Option Tmp} {pt nt ty : TypeId} {p n : AV} {vp vn : Value} (hs : Sim E H ρ s.slot s.box a w) (hd : ∀ t,d = some t → t < E.n) (hp : Rep H ρ p vp) (hn : Rep H ρ n vn) (h : aUStr P pt p n s d K) :
 ∃ u w',(Builtin.unsafeString_ #[pt,nt] ty #[vp,vn]).run P w = .ok u w' ∧ Came E K a d u w':=by
 unfold aUStr at h
 split at h
 ·rename_i id k i off m
  split at h
  ·rename_i T k' xs hbx
   obtain ⟨⟨⟨rfl,rfl,rfl,rfl⟩,hpt,hc1,hm0,hml⟩,l,hl,hK⟩:=h
   rw [hn.v_inv]
   cases hp with
   |eloc hρ =>
    rename_i b cap
    rcases hs.boxes.rep _ _ hbx with ⟨hnil,hxs⟩|⟨b',cap',cur,hbd,hheap,hmax,hcap,hsz,hrep,hall⟩
    ·rw [hnil] at hρ;cases hρ
    ·obtain ⟨rfl,rfl⟩:=rho_at hρ hbd
     have hll : l.length = m.toNat:=by have:=congrArg List.length hl;simp at this;omega
     have hmm : m = (l.length : Int):=by omega
     have hx1 : xs.flatMap AV.cells = xs.flatMap AV.cells:=rfl
     have hbytes : ∀ (j : Nat) (x : UInt8),l[j]? = some x → cur[j]? = some (Value.int .u8 x.toNat):=by
      intro j (x : UInt8) hx
      have h1 : xs[j]? = some (byteA x):=by
       have : (xs.take m.toNat)[j]? = some (byteA x):=by rw [hl,List.getElem?_map,hx];rfl
       rw [List.getElem?_take] at this
       split at this
       ·exact this
       ·cases this
      have hfl:=flat_get (fun x hx=>(hall x hx).1) h1
      have hg : (xs.flatMap AV.cells)[j]? = some (byteA x):=by
       have:=congrArg (fun (q : List AV)=>q[0]?) hfl
       simp only [Nat.mul_one,List.getElem?_take,List.getElem?_drop] at this
       simpa [byteA,AV.cells] using this
      obtain ⟨u,hu,hru⟩:=hrep.get hg
      rw [List.getElem?_take] at hu
      split at hu
      ·rw [Array.getElem?_toList] at hu
       rw [hu,hru.v_inv]
      ·cases hu
     have hcell : ∀ (j : Nat) (x : UInt8),l[j]? = some x → w.cell? ((⟨b,0,none⟩ : Addr).add j) = some (Value.int .u8 x.toNat):=by
      intro j x hx
      rw [Addr.add_mk,cell_of_row w b _ _ _ _ hheap]
      simpa using hbytes j x hx
     have hsh : w.shape? b = some (T,cur.size):=by simp [World.shape?,hheap]
     have hlc : l.length ≤ cur.size:=by rw [hsz];omega
     have hrun:=Go.Lib.run_unsafeString_row (P:=P) w pt nt ty T hpt hc1 b cur.size hsh l (by rintro rfl;simp at hll;omega) hlc (by unfold maxLen at hmax;omega) hcell
     refine ⟨_,_,by simpa [hmm] using hrun,?_⟩
     have hl0 : l.length ≠ 0:=by omega
     have hsim:=hs.write (c':=.raw (.cells cur T (0,l.length))) (w':=w.freeze ⟨b,0,none⟩ l.length) hbx hρ (by unfold World.freeze;rw [if_neg hl0]) (by unfold World.freeze;rw [if_neg hl0]) (by unfold World.freeze;rw [if_neg hl0];exact ⟨rfl,Nat.le_refl _⟩) (by unfold World.freeze;rw [if_neg hl0];simp)
      (fun j hj=>by unfold World.freeze;rw [if_neg hl0];simp [Array.getElem?_modify,Ne.symm hj])
      ⟨b,cap,rfl,by unfold World.freeze;rw [if_neg hl0];simp [Array.getElem?_modify,hheap]⟩
     refine Came.put (H:=H) (ρ:=ρ) (s':=AState.mk s.s (killI id s.b)) ?_ hd (.v rfl) hK
     refine hsim.weaken (fun i=>.inr rfl) (fun i c hc=>.inl ?_)
     obtain ⟨h1,h2⟩:=killI_lk hc
     simp only [addF]
     rw [if_neg (fun e=>h1 e.symm)]
     exact h2
  ·exact h.elim
 ·exact h.elim
theorem qstep_sound {H : Heap} {ρ : Rho} {a : Act} {w : World} {o : Oper} {s : AState} {K : AState → Prop} {Q : Exit → Act → World → Prop} (hs : Sim E H ρ s.slot s.box a w) (hd : ∀ t,o.dst = some t → t < E.n) (h : qstep P o s K) :
 o.wp P a w (fun a' w'=>∃ s' H' ρ',K s' ∧ Sim E H' ρ' s'.slot s'.box a' w') Q:=by
 obtain ⟨hf,h⟩:=h
 have hfr : newOp o.op = true → ∀ d,o.dst = some d → s.ment d = false:=by
  intro hn d hd'
  have:=hf hn
  rw [hd'] at this
  exact this
 have hm : newOp o.op = true → ∀ d,o.dst = some d → ∀ x ∈ o.op.operands.toList,(s.eval x).ment d = false:=by
  intro hn d hd' x _
  cases x with
  |tmp t=>exact AState.ment_slot (hfr hn d hd')
  |const v=>exact ofVal_ment d v
  |global g=>rfl
  |func f=>simp [AState.eval,evalF,AV.ment,mentL]
 by_cases hn : newOp o.op = true
 ·refine Oper.wp_mono ?_ (qop_sound (Q:=Q) (fun x _=>hs.eval x) hs.ext hs.boxes.rep hm h)
  intro a' w' hq
  obtain ⟨x,n,H',ρ',hk,hs'⟩:=hs.quiet hd (fun x c _ t ht=>fresh_all (hfr hn t ht)) hq
  refine ⟨_,H',ρ',hk,?_⟩
  rw [AState.slot_addBox,AState.box_addBox,AState.slot_put,AState.box_put]
  exact hs'
 ·refine Oper.wp_mono ?_ (qop_sound (Q:=Q) (fun x _=>hs.eval x) hs.ext hs.boxes.rep hm (qop_old (by simpa using hn) h))
  intro a' w' hq
  obtain ⟨x,n,H',ρ',⟨hk,rfl⟩,hs'⟩:=hs.quiet hd (by rintro x c ⟨_,h⟩;cases h) hq
  refine ⟨_,H',ρ',hk,?_⟩
  rw [AState.slot_addBox,AState.box_addBox,AState.slot_put,AState.box_put]
  have : addF s.box o.dst none = s.box:=by cases o.dst <;> rfl
  rw [this] at hs' ⊢
  exact hs'
theorem stepOp_sound {H : Heap} {ρ : Rho} {a : Act} {w : World} {o : Oper} {s : AState} {K : AState → Prop} {Q : Exit → Act → World → Prop} (hs : Sim E H ρ s.slot s.box a w) (hd : ∀ t,o.dst = some t → t < E.n) (h : stepOp P E o s K) :
 o.wp P a w (fun a' w'=>∃ s' H' ρ',K s' ∧ Sim E H' ρ' s'.slot s'.box a' w') Q:=by
 have putU : ∀ {s' : AState} {w' : World},Sim E H ρ s'.slot s'.box a w' → Sim E H ρ (s'.put o.dst (.tup [])).slot (s'.put o.dst (.tup [])).box (a.put o.dst undef) w':=by
  intro s' w' h'
  rw [AState.slot_put,AState.box_put]
  exact h'.put hd Rep.undef
 unfold stepOp at h
 cases hop : o.op with
 |store T p x =>
  rw [hop] at h
  obtain ⟨w',s',hk,hs',hrun⟩:=aStore_sound (P:=P) hs (hs.eval p) (hs.eval x) h
  unfold Oper.wp
  simp only [execOp,hop,Sem.run_bind,hrun,Result.andThen_ok,Sem.run_pure,Oper.upon]
  exact ⟨_,H,ρ,hk,putU hs'⟩
 |mapUpdate T m k x =>
  rw [hop] at h
  obtain ⟨w',s',hk,hs',hrun⟩:=aMapUpd_sound (P:=P) hs (hs.eval m) (hs.eval k) (hs.eval x) h
  unfold Oper.wp
  simp only [execOp,hop,Sem.run_bind,hrun,Result.andThen_ok,Sem.run_pure,Oper.upon]
  exact ⟨_,H,ρ,hk,putU hs'⟩
 |insert T m k x =>
  rw [hop] at h
  obtain ⟨w',s',hk,hs',hrun⟩:=aMapUpd_sound (P:=P) hs (hs.eval m) (hs.eval k) (hs.eval x) h
  unfold Oper.wp
  simp only [execOp,hop,Sem.run_bind,hrun,Result.andThen_ok,Sem.run_pure,Oper.upon]
  exact ⟨_,H,ρ,hk,putU hs'⟩
 |nilCheck x =>
  rw [hop] at h
  obtain ⟨ht,h⟩:=h
  have hr:=hs.eval x
  have hrun : (execOp a.eval o).run P w = .ok (.value (a.eval x)) w:=by
   simp only [execOp,hop]
   have hr2 : Rep H ρ (s.eval x) (a.eval x):=hr
   generalize s.eval x = y at hr2 ht
   generalize a.eval x = v at hr2
   cases hr2 <;> first|rfl|(simp [aThere] at ht;done)|skip
   rename_i f fs cs us vs _ _ _ _
   cases f <;> first|rfl|(simp [aThere] at ht;done)
  unfold Oper.wp
  rw [hrun]
  simp only [Oper.upon]
  exact Came.put hs hd hr h
 |makeSlice T l c =>
  rw [hop] at h
  obtain ⟨u,w',hrun,hcm⟩:=aMake_sound (P:=P) hs hd (hs.eval l) (hs.eval c) h
  unfold Oper.wp
  simp only [execOp,hop,Sem.run_bind,hrun,Result.andThen_ok,Sem.run_pure,Oper.upon]
  exact hcm
 |range T x =>
  rw [hop] at h
  obtain ⟨u,w',hrun,hc⟩:=aRange_sound hs hd (hs.eval x) h
  unfold Oper.wp
  simp only [execOp,hop,Sem.run_bind,hrun,Result.andThen_ok,Sem.run_pure,Oper.upon]
  exact hc
 |next it str =>
  rw [hop] at h
  obtain ⟨u,w',hrun,hc⟩:=aNext_sound (P:=P) (ty:=o.type) hs hd (hs.eval it) h
  unfold Oper.wp
  simp only [execOp,hop,Sem.run_bind,hrun,Result.andThen_ok,Sem.run_pure,Oper.upon]
  exact hc
 |entry it =>
  rw [hop] at h
  obtain ⟨u,w',hrun,hc⟩:=aEntry_sound (P:=P) hs hd (hs.eval it) h
  unfold Oper.wp
  simp only [execOp,hop,Sem.run_bind,hrun,Result.andThen_ok,Sem.run_pure,Oper.upon]
  exact hc
 |binOp op T x y T2 =>
  rw [hop] at h
  have hrx:=hs.eval x
  have hry:=hs.eval y
  simp only at h
  unfold stepBin at h
  have two : ∀ {emp : Prop} {p : Option Addr} {n c m c' : Nat},a.eval x = .slice p n c → a.eval y = .slice none m c' → (¬ emp → p ≠ none) → aSlNil P op T emp s o.dst K →
   o.wp P a w (fun a' w'=>∃ s' H' ρ',K s' ∧ Sim E H' ρ' s'.slot s'.box a' w') Q:=by
   intro emp p n c m c' e1 e2 hp h
   obtain ⟨u,hg,hb,hc⟩:=slNil_sound (P:=P) (ox:=x) (oy:=y) (n:=n) (c:=c) (m:=m) (c':=c') hs hd hp h
   unfold Oper.wp
   simp only [execOp,hop,e1,e2,Sem.run_bind,hg,hb,Result.andThen_ok,Sem.run_pure,Oper.upon]
   exact hc
  split at h
  ·rename_i k xs m c' hx hy
   unfold AState.eval at hx hy
   rw [hx] at hrx
   rw [hy] at hry
   obtain ⟨p,n,c,hv,hp⟩:=sl_val hrx
   exact two hv hry.v_inv hp h
  ·rename_i id k off n m c' hx hy
   unfold AState.eval at hx hy
   rw [hx] at hrx
   rw [hy] at hry
   obtain ⟨p,n',c,hv,hp⟩:=own_val hrx
   exact two hv hry.v_inv hp h
  ·rename_i t k m t' k' m' hx hy
   unfold AState.eval at hx hy
   rw [hx] at hrx
   rw [hy] at hry
   obtain ⟨u,hg,hb,hc⟩:=aIfcEq_sound (P:=P) (ox:=x) (oy:=y) hs hd h
   have e1:=ifc_val hrx
   have e2:=ifc_val hry
   unfold Oper.wp
   simp only [execOp,hop,e1,e2,Sem.run_bind,hg,hb,Result.andThen_ok,Sem.run_pure,Oper.upon]
   exact hc
  ·exact qstep_sound hs hd h
 |unOp op T x =>
  rw [hop] at h
  have hrx:=hs.eval x
  simp only at h
  unfold stepNeg at h
  split at h
  ·rename_i n hx
   by_cases hn : n = -9223372036854775808
   ·unfold AState.eval at hx
    rw [hx] at hrx
    have hk:=h.1 hn
    subst hn
    have hrun : (execOp a.eval o).run P w = .ok (.value (.int .i64 (-9223372036854775808))) w:=by
     simp only [execOp,hop,hrx.v_inv]
     rfl
    unfold Oper.wp
    rw [hrun]
    simp only [Oper.upon]
    exact Came.put hs hd (.v rfl) hk
   ·exact qstep_sound hs hd (h.2 hn)
  ·exact qstep_sound hs hd h
 |convert S T x =>
  rw [hop] at h
  have hrx:=hs.eval x
  simp only at h
  unfold stepConv at h
  split at h
  ·rename_i b e hx hT
   unfold AState.eval at hx
   rw [hx] at hrx
   obtain ⟨u,w',hrun,hc⟩:=aConvS_sound hs hd h
   unfold Oper.wp
   simp only [execOp,hop,hrx.v_inv,Sem.run_bind,hrun,Result.andThen_ok,Sem.run_pure,Oper.upon]
   exact hc
  ·rename_i id hx hT
   unfold AState.eval at hx
   rw [hx] at hrx
   obtain ⟨u,w',hrun,hc⟩:=aConvB_sound hs hd hrx h
   unfold Oper.wp
   simp only [execOp,hop,Sem.run_bind,hrun,Result.andThen_ok,Sem.run_pure,Oper.upon]
   exact hc
  ·exact qstep_sound hs hd h
 |slice T x lo hi mx =>
  rw [hop] at h
  cases mx with
  |some m=>exact qstep_sound hs hd h
  |none =>
   simp only at h
   unfold stepSlice at h
   split at h
   ·rename_i kk hx hlo hhi
    obtain ⟨⟨e,hT,hok⟩,hK⟩:=h
    cases lo with
    |some l=>cases hlo
    |none =>
     cases hi with
     |none=>cases hhi
     |some hh =>
      simp only [Option.map_some,Option.some.injEq] at hhi
      have hrx:=hs.eval x
      have hrh:=hs.eval hh
      unfold AState.eval at hx hhi
      rw [hx] at hrx
      rw [hhi] at hrh
      have hrun:=run_slice_nil (P:=P) (w:=w) (k:=kk) hT hok
      unfold Oper.wp
      simp only [execOp,hop,Option.map_some,Option.map_none,hrx.v_inv,hrh.v_inv,Sem.run_bind,hrun,Result.andThen_ok,Sem.run_pure,Oper.upon]
      exact Came.put hs hd (.v rfl) hK
   ·exact qstep_sound hs hd h
 |call c =>
  rw [hop] at h
  simp only at h
  unfold stepCall at h
  split at h
  ·rename_i hc
   split at h
   ·rename_i v x T T' hargs htys
    have e1 : c.args.map a.eval = #[a.eval v,a.eval x]:=by
     apply Array.toList_inj.1
     rw [Array.toList_map,hargs]
     rfl
    have e2 : c.argTypes = #[T,T']:=Array.toList_inj.1 htys
    split at h
    ·rename_i hTT
     subst hTT
     obtain ⟨u,w',s',ρ',hk,hs',hrun⟩:=aAppend_sound (P:=P) (ty:=o.type) (hs.forget (s.eval v)) hd (hs.eval v) (hs.eval x) h
     unfold Oper.wp
     simp only [execOp,hop,resolve,hc,invoke,builtin,Sem.run_bind,Sem.run_pure,Result.andThen_ok,e1,e2,hrun,Oper.upon]
     exact ⟨s',H,ρ',hk,hs'⟩
    ·unfold aAppendO at h
     split at h
     ·obtain ⟨u,w',s',ρ',hk,hs',hrun⟩:=aAppendS_sound (P:=P) (ty:=o.type) (hs.forget (s.eval v)) hd (hs.eval v) (hs.eval x) h
      unfold Oper.wp
      simp only [execOp,hop,resolve,hc,invoke,builtin,Sem.run_bind,Sem.run_pure,Result.andThen_ok,e1,e2,hrun,Oper.upon]
      exact ⟨s',H,ρ',hk,hs'⟩
     ·obtain ⟨u,w',hrun,hcm⟩:=aAppendN_sound (P:=P) (ty:=o.type) hs hd (hs.eval v) (hs.eval x) h
      unfold Oper.wp
      simp only [execOp,hop,resolve,hc,invoke,builtin,Sem.run_bind,Sem.run_pure,Result.andThen_ok,e1,e2,hrun,Oper.upon]
      exact hcm
   ·exact h.elim
  ·rename_i hc
   split at h
   ·rename_i x T hargs htys
    have e1 : c.args.map a.eval = #[a.eval x]:=by
     apply Array.toList_inj.1
     rw [Array.toList_map,hargs]
     rfl
    have e2 : c.argTypes = #[T]:=Array.toList_inj.1 htys
    obtain ⟨u,w',hrun,hcm⟩:=aClear_sound (P:=P) (ty:=o.type) hs hd (hs.eval x) h
    unfold Oper.wp
    simp only [execOp,hop,resolve,hc,invoke,builtin,Sem.run_bind,Sem.run_pure,Result.andThen_ok,e1,e2,hrun,Oper.upon]
    exact hcm
   ·exact h.elim
  ·rename_i hc
   split at h
   ·rename_i x T hargs htys
    have e1 : c.args.map a.eval = #[a.eval x]:=by
     apply Array.toList_inj.1
     rw [Array.toList_map,hargs]
     rfl
    have e2 : c.argTypes = #[T]:=Array.toList_inj.1 htys
    unfold stepCap at h
    split at h
    ·rename_i n cc hx
     obtain ⟨⟨e,hT⟩,hK⟩:=h
     have hrx:=hs.eval x
     unfold AState.eval at hx
     rw [hx] at hrx
     have hrun:=run_cap_nil (P:=P) (w:=w) (ty:=o.type) (n:=n) (c:=cc) hT
     unfold Oper.wp
     simp only [execOp,hop,resolve,hc,invoke,builtin,Sem.run_bind,Sem.run_pure,Result.andThen_ok,e1,e2,hrx.v_inv,hrun,Oper.upon]
     exact Came.put hs hd (.v rfl) hK
    ·exact h.elim
   ·exact h.elim
  ·rename_i hc
   split at h
   ·rename_i p n pt nt hargs htys
    have e1 : c.args.map a.eval = #[a.eval p,a.eval n]:=by
     apply Array.toList_inj.1
     rw [Array.toList_map,hargs]
     rfl
    have e2 : c.argTypes = #[pt,nt]:=Array.toList_inj.1 htys
    obtain ⟨u,w',hrun,hcm⟩:=aUStr_sound (P:=P) (nt:=nt) (ty:=o.type) hs hd (hs.eval p) (hs.eval n) h
    unfold Oper.wp
    simp only [execOp,hop,resolve,hc,invoke,builtin,Sem.run_bind,Sem.run_pure,Result.andThen_ok,e1,e2,hrun,Oper.upon]
    exact hcm
   ·exact h.elim
  ·rename_i f hc
   unfold aCall at h
   split at h
   ·rename_i g first caps hf
    have hfr:=hs.eval f
    unfold AState.eval at hf
    rw [hf] at hfr
    obtain ⟨us,vs,hv,hus,hvs⟩:=fn_inv hfr
    have hargs:=RepL.mapOps (H:=H) (ρ:=ρ) (av:=s.eval) (ev:=a.eval) (xs:=c.args.toList) (fun x _=>hs.eval x)
    have hrun : ∀ w,(execOp a.eval o).run P w = (callFunc g (us ++ c.args.toList.map a.eval ++ vs).toArray).run P w:=by
     intro w
     have:=resolve_fun (P:=P) (w:=w) (ty:=o.type) hc hv
     simp only [execOp,hop]
     rw [this]
     congr 1
     congr 1
     apply Array.toList_inj.1
     simp
    unfold Oper.wp
    rw [hrun,h.ent]
    simp only [Oper.upon]
    refine Calls.mono (h.run H ρ a w _ hs ((hus.append hargs).append hvs) hd) ?_
    rintro e w' ⟨v,rfl,s',H',ρ',hk,hs'⟩
    exact ⟨s',H',ρ',hk,hs'⟩
   ·exact h.elim
  ·exact qstep_sound hs hd h
 |_=>rw [hop] at h;exact qstep_sound hs hd h
theorem undef_slot {H : Heap} {ρ : Rho} {s : AState} {a : Act} {w : World} {t : Nat} (hs : Sim E H ρ s.slot s.box a w) (h : s.slot t = .tup []) : a.tmps.getD t undef = undef:=by
 have:=hs.slots t
 rw [h] at this
 generalize a.tmps.getD t undef = u at this
 cases this with
 |tup hl hh =>
  rename_i vs
  have : vs = []:=by cases vs with|nil=>rfl|cons=>simp at hl
  subst this
  rfl
theorem bool_slot {H : Heap} {ρ : Rho} {s : AState} {a : Act} {w : World} {t : Nat} {b : Bool} (hs : Sim E H ρ s.slot s.box a w) (h : s.slot t = .v (.bool b)) : a.tmps.getD t undef = .bool b:=by
 have:=hs.slots t
 rw [h] at this
 exact this.v_inv
theorem Sim.setSlot {H : Heap} {ρ : Rho} {s : AState} {a : Act} {w : World} {t : Nat} {x : AV} (hs : Sim E H ρ s.slot s.box a w) (hr : Rep H ρ x (a.tmps.getD t undef)) : Sim E H ρ (s.put (some t) x).slot (s.put (some t) x).box a w:=by
 rw [AState.slot_put,AState.box_put]
 refine ⟨hs.ext,fun i=>?_,hs.size,hs.defers,hs.boxes,hs.h0,hs.new,hs.frame,hs.keep,hs.nle⟩
 simp only [putF]
 split
 ·rename_i e;subst e;exact hr
 ·exact hs.slots i
theorem yielded_of {ops : Array Oper} {a : Act} {j t : Nat} (hg : (ops[j]?).bind (·.dst) = some t) : (∀ b,a.tmps.getD t undef = .bool b → yielded ops a.tmps j = some b) ∧ (a.tmps.getD t undef = undef → yielded ops a.tmps j = none):=by
 unfold yielded
 rw [hg]
 simp only [Option.bind_some]
 constructor
 ·intro b hb
  cases h : a.tmps[t]? with
  |none=>simp [h,undef] at hb
  |some v=>simp [h] at hb;subst hb;rfl
 ·intro hu
  cases h : a.tmps[t]? with
  |none=>rfl
  |some v=>simp [h,undef] at hu;subst hu;rfl
theorem RK_sound {ops : Array Oper} {Q : Exit → Act → World → Prop} (hdst : ∀ o ∈ ops.toList,∀ t,o.dst = some t → t < E.n) : ∀ (l : List Oper) (s : AState) (K : AState → Prop),(∀ o ∈ l,o ∈ ops.toList) → RK P E ops l s K → ∀ {H : Heap} {ρ : Rho} {a : Act} {w : World},Sim E H ρ s.slot s.box a w →
 (∀ s' H' ρ' a' w',K s' → Sim E H' ρ' s'.slot s'.box a' w' → Q .normal a' w') → wpList P ops Q l a w
 |[],s,K,_,h,H,ρ,a,w,hs,hQ=>hQ s H ρ a w h hs
 |o :: rest,s,K,hl,h,H,ρ,a,w,hs,hQ=>by
  have hd:=hdst o (hl o (by simp))
  have hrest : ∀ o ∈ rest,o ∈ ops.toList:=fun o ho=>hl o (List.mem_cons_of_mem _ ho)
  simp only [RK] at h
  have take : ∀ {s1 : AState},Sim E H ρ s1.slot s1.box a w → stepOp P E o s1 (fun s'=>RK P E ops rest s' K) → o.wp P a w (wpList P ops Q rest) Q:=by
   intro s1 hs1 h1
   refine Oper.wp_mono ?_ (stepOp_sound (Q:=Q) hs1 hd h1)
   rintro a' w' ⟨s',H',ρ',hk,hs'⟩
   exact RK_sound hdst rest s' K hrest hk hs' hQ
  have skip : ∀ {s1 : AState},Sim E H ρ s1.slot s1.box a w → RK P E ops rest (s1.put o.dst (.tup [])) K → wpList P ops Q rest (a.put o.dst undef) w:=by
   intro s1 hs1 h1
   refine RK_sound hdst rest _ K hrest h1 (H:=H) (ρ:=ρ) ?_ hQ
   rw [AState.slot_put,AState.box_put]
   exact hs1.put hd Rep.undef
  unfold wpList
  split at h
  ·rename_i hg
   rw [if_pos (by simp [Region.wanted,hg])]
   exact .inl (take hs h)
  ·rename_i j want hg
   split at h
   ·rename_i t ht
    have hy:=yielded_of (a:=a) ht
    split at h
    ·rename_i b hb
     have hbv:=bool_slot hs hb
     have hyb:=hy.1 b hbv
     by_cases hbw : b = want
     ·rw [if_pos (by simp [Region.wanted,hg,hyb,hbw])]
      refine .inl (take (hs.setSlot (t:=t) (x:=.v (.bool want)) ?_) (h.1 hbw))
      rw [hbv,hbw]
      exact .v rfl
     ·rw [if_neg (by simp [Region.wanted,hg,hyb,hbw])]
      have hbn : b = !want:=by cases b <;> cases want <;> simp_all
      refine skip (hs.setSlot (t:=t) (x:=.v (.bool (!want))) ?_) (h.2 hbn)
      rw [hbv,hbn]
      exact .v rfl
    ·rename_i hb
     have hyn:=hy.2 (undef_slot hs hb)
     rw [if_neg (by simp [Region.wanted,hg,hyn])]
     exact skip hs h
    ·exact h.elim
   ·rename_i ht
    have hyn : yielded ops a.tmps j = none:=by unfold yielded;rw [ht];rfl
    rw [if_neg (by simp [Region.wanted,hg,hyn])]
    exact skip hs h
def dstOK (n : Nat) (ops : List Oper) : Bool:=ops.all fun o=>match o.dst with|some t=>decide (t < n)|none=>true
theorem dstOK_spec {n : Nat} {ops : List Oper} (h : dstOK n ops = true) : ∀ o ∈ ops,∀ t,o.dst = some t → t < n:=by
 intro o ho t ht
 have:=List.all_eq_true.1 h o ho
 rw [ht] at this
 simpa using this
theorem AW_region {s : AState} {Q : AExit → AState → Prop} {id : Nat} {l : List Oper} (hd : dstOK E.n l = true) (h : RK P E l.toArray l s (Q .normal)) : AW P E (.region id l.toArray false) s Q:=by
 intro H ρ a w hs
 refine wp_region_lit ?_
 exact RK_sound (P:=P) (fun o ho=>dstOK_spec hd o (by simpa using ho)) l s _ (fun o ho=>by simpa using ho) h hs (fun s' H' ρ' a' w' hk hs'=>⟨s',H',ρ',hk,hs'⟩)
end
end Go.Am
end
section
namespace Go.Am
open Go.RowKit
section
variable {P : Program}
theorem arith_ex {k : IntKind} {n : Int} {cont : AV → Prop} (h : arith k n cont) : ∃ x,cont x ∧ arith k n (· = x):=by
 unfold arith at h ⊢
 split at h
 ·exact ⟨_,h.2,by rw [if_pos (by assumption)];exact ⟨h.1,rfl⟩⟩
 ·exact ⟨_,h,by rw [if_neg (by assumption)]⟩
theorem binInt_ex {op : BinOp} {k : IntKind} {a b : Int} {cont : AV → Prop} (h : binInt op k a b cont) : ∃ x,cont x ∧ binInt op k a b (· = x):=by
 unfold binInt at h ⊢
 cases op <;> simp only at h ⊢ <;> first
  |exact h.elim
  |exact arith_ex h
  |exact ⟨_,h,rfl⟩
  |exact ⟨_,h.2,h.1,rfl⟩
  |(obtain ⟨x,h1,h2⟩:=arith_ex h.2;exact ⟨x,h1,h.1,h2⟩)
theorem shiftInt_ex {op : BinOp} {k : IntKind} {a b : Int} {cont : AV → Prop} (h : shiftInt op k a b cont) : ∃ x,cont x ∧ shiftInt op k a b (· = x):=by
 unfold shiftInt at h ⊢
 obtain ⟨h0,h⟩:=h
 cases op <;> simp only at h ⊢ <;> first
  |exact h.elim
  |exact ⟨_,h,h0,rfl⟩
  |(obtain ⟨x,h1,h2⟩:=arith_ex h;exact ⟨x,h1,h0,h2⟩)
theorem strOp_ex {op : BinOp} {a b : ByteArray} {cont : AV → Prop} (h : strOp op a b cont) : ∃ x,cont x ∧ strOp op a b (· = x):=by
 unfold strOp at h ⊢
 cases op <;> simp only at h ⊢ <;> first
  |exact h.elim
  |exact ⟨_,h,rfl⟩
  |exact ⟨_,h.2,h.1,rfl⟩
theorem nilCmp_ex {T : TypeId} {x y : AV} {xc yc : Bool} {cont : Bool → Prop} (h : nilCmp P T x y xc yc cont) : ∃ r,cont r ∧ nilCmp P T x y xc yc (· = r):=by
 unfold nilCmp at h ⊢
 split at h <;> first
  |exact h.elim
  |(split at h <;> first
     |exact h.elim
     |exact ⟨_,h.2,h.1,rfl⟩
     |exact ⟨_,h.2.2,h.1,h.2.1,rfl⟩)
theorem nilCmp_mono {T : TypeId} {x y : AV} {xc yc : Bool} {c c' : Bool → Prop} (hc : ∀ r,c r → c' r) (h : nilCmp P T x y xc yc c) : nilCmp P T x y xc yc c':=by
 unfold nilCmp at h ⊢
 split at h <;> first
  |exact h.elim
  |(split at h <;> first
     |exact h.elim
     |exact ⟨h.1,hc _ h.2⟩
     |exact ⟨h.1,h.2.1,hc _ h.2.2⟩)
theorem qbin_ex {op : BinOp} {T : TypeId} {x y : AV} {xc yc : Bool} {cont : AV → Prop} (h : qbin P op T x y xc yc cont) : ∃ z,cont z ∧ qbin P op T x y xc yc (· = z):=by
 unfold qbin at h ⊢
 split at h
 ·split at h
  ·rename_i hsft
   obtain ⟨z,h1,h2⟩:=shiftInt_ex h
   exact ⟨z,h1,by simp only [hsft,if_true];exact h2⟩
  ·rename_i hsft
   obtain ⟨z,h1,h2⟩:=binInt_ex h.2
   exact ⟨z,h1,by simp only [hsft,if_false];exact ⟨h.1,h2⟩⟩
 ·exact strOp_ex h
 ·obtain ⟨h0,h⟩:=h
  cases op <;> simp only at h ⊢ <;> first
   |exact h.elim
   |exact ⟨_,h,h0,rfl⟩
 ·obtain ⟨h0,h1,h⟩:=h
  split at h
  ·rename_i ks hks
   split at h
   ·rename_i r hr
    cases op <;> simp only at h <;> first
     |exact h.elim
     |exact ⟨_,h,h0,h1,by simp only [hks,hr]⟩
   ·exact h.elim
  ·exact h.elim
 ·rename_i hn1 hn2 hn3 hn4
  cases op <;> simp only at h <;> try exact h.elim
  ·obtain ⟨r,h1,h2⟩:=nilCmp_ex h
   refine ⟨_,h1,?_⟩
   split <;> first
    |exact (hn1 _ _ _ _ rfl rfl).elim
    |exact (hn2 _ _ rfl rfl).elim
    |exact (hn3 _ _ rfl rfl).elim
    |exact (hn4 _ _ rfl rfl).elim
    |(rename_i heq;cases heq;done)
    |exact nilCmp_mono (fun r' e=>by rw [e]) h2
  ·obtain ⟨r,h1,h2⟩:=nilCmp_ex h
   refine ⟨_,h1,?_⟩
   split <;> first
    |exact (hn1 _ _ _ _ rfl rfl).elim
    |exact (hn2 _ _ rfl rfl).elim
    |exact (hn3 _ _ rfl rfl).elim
    |exact (hn4 _ _ rfl rfl).elim
    |(rename_i heq;cases heq;done)
    |exact nilCmp_mono (fun r' e=>by rw [e]) h2
theorem qload_ex {T : TypeId} {p : AV} {c : Option Ct} {cont : AV → Prop} (h : qload P T p c cont) : ∃ x,cont x ∧ qload P T p c (· = x):=by
 unfold qload at h ⊢
 obtain ⟨h0,h⟩:=h
 split at h
 ·split at h
  ·exact ⟨_,h.2,h0,h.1,rfl⟩
  ·exact h.elim
 ·split at h
  ·exact ⟨_,h.2,h0,h.1,rfl⟩
  ·exact h.elim
 ·exact ⟨_,h.2,h0,h.1,rfl⟩
 ·exact h.elim
theorem qfaddr_ex {T : TypeId} {x : AV} {f : Nat} {cont : AV → Prop} (h : qfaddr P T x f cont) : ∃ y,cont y ∧ qfaddr P T x f (· = y):=by
 unfold qfaddr at h ⊢
 split at h
 ·split at h
  ·obtain ⟨h0,h⟩:=h
   split at h
   ·exact ⟨_,h,h0,rfl⟩
   ·exact ⟨_,h,h0,rfl⟩
   ·exact ⟨_,h.2,h0,h.1,rfl⟩
   ·exact h.elim
  ·exact h.elim
 ·exact h.elim
theorem qiaddr_ex {T : TypeId} {x i : AV} {cont : AV → Prop} (h : qiaddr P T x i cont) : ∃ y,cont y ∧ qiaddr P T x i (· = y):=by
 unfold qiaddr at h ⊢
 split at h
 ·obtain ⟨h0,h⟩:=h
  split at h
  ·exact ⟨_,h.2.2,h0,h.1,h.2.1,rfl⟩
  ·exact ⟨_,h.2.2,h0,h.1,h.2.1,rfl⟩
  ·exact h.elim
 ·obtain ⟨h0,h⟩:=h
  split at h
  ·exact ⟨_,h.2,h0,h.1,rfl⟩
  ·exact ⟨_,h.2.2,h0,h.1,h.2.1,rfl⟩
  ·exact h.elim
 ·exact h.elim
theorem qbslice_ex {T : TypeId} {len d : Nat} {parts : List (Nat × AV)} {k : AV → Option Ct → Prop} (h : qbslice P T len parts d k) : ∃ x n,k x n ∧ qbslice P T len parts d (fun y m=>y = x ∧ m = n):=by
 unfold qbslice at h ⊢
 split at h
 ·obtain ⟨h0,h⟩:=h
  split at h
  ·exact ⟨_,_,h.2.2,h0,h.1,h.2.1,rfl,rfl⟩
  ·exact h.elim
 ·exact h.elim
theorem buildK_ex {place : Nat → Option (Nat × Nat)} : ∀ {parts : List (Nat × AV)} {cs : List AV} {cont : List AV → Prop},buildK place cs parts cont → ∃ x,cont x ∧ buildK place cs parts (· = x)
 |[],cs,cont,h=>⟨cs,h,rfl⟩
 |(i,x) :: rest,cs,cont,h=>by
  simp only [buildK] at h ⊢
  split at h
  ·obtain ⟨z,h1,h2⟩:=buildK_ex h.2
   exact ⟨z,h1,h.1,h2⟩
  ·exact h.elim
theorem buildK_mono {place : Nat → Option (Nat × Nat)} : ∀ {parts : List (Nat × AV)} {cs : List AV} {cont cont' : List AV → Prop},(∀ x,cont x → cont' x) → buildK place cs parts cont → buildK place cs parts cont'
 |[],cs,cont,cont',hc,h=>hc _ h
 |(i,x) :: rest,cs,cont,cont',hc,h=>by
  simp only [buildK] at h ⊢
  split at h
  ·exact ⟨h.1,buildK_mono hc h.2⟩
  ·exact h.elim
theorem qbuild_ex {T : TypeId} {parts : List (Nat × AV)} {cont : AV → Prop} (h : qbuild P T parts cont) : ∃ y,cont y ∧ qbuild P T parts (· = y):=by
 unfold qbuild at h ⊢
 split at h
 ·obtain ⟨h0,h⟩:=h
  split at h
  ·obtain ⟨z,h1,h2⟩:=buildK_ex h.2
   exact ⟨_,h1,h0,h.1,buildK_mono (fun x e=>by rw [e]) h2⟩
  ·obtain ⟨z,h1,h2⟩:=buildK_ex h.2
   exact ⟨_,h1,h0,h.1,buildK_mono (fun x e=>by rw [e]) h2⟩
  ·exact h.elim
 ·exact h.elim
theorem qfield_ex {T : TypeId} {x : AV} {f : Nat} {cont : AV → Prop} (h : qfield P T x f cont) : ∃ y,cont y ∧ qfield P T x f (· = y):=by
 unfold qfield at h ⊢
 split at h
 ·split at h
  ·exact ⟨_,h.2.2,h.1,h.2.1,rfl⟩
  ·exact h.elim
 ·exact h.elim
theorem qindex_ex {T : TypeId} {x i : AV} {cont : AV → Prop} (h : qindex P T x i cont) : ∃ y,cont y ∧ qindex P T x i (· = y):=by
 unfold qindex at h ⊢
 split at h
 ·exact ⟨_,h.2,h.1,rfl⟩
 ·exact ⟨_,h.2,h.1,rfl⟩
 ·exact h.elim
theorem qun_ex {op : UnOp} {x : AV} {cont : AV → Prop} (h : qun op x cont) : ∃ y,cont y ∧ qun op x (· = y):=by
 unfold qun at h ⊢
 split at h
 ·exact ⟨_,h,rfl⟩
 ·exact arith_ex h
 ·exact h.elim
theorem qconv_ex {s d : TypeId} {x : AV} {cont : AV → Prop} (h : qconv P s d x cont) : ∃ y,cont y ∧ qconv P s d x (· = y):=by
 unfold qconv at h ⊢
 obtain ⟨h0,h⟩:=h
 split at h
 ·exact ⟨_,h,h0,rfl⟩
 ·exact ⟨_,h,h0,rfl⟩
 ·exact h.elim
theorem qslice_ex {T : TypeId} {x : AV} {lo hi : Option AV} {c : Option Ct} {cont : AV → Prop} (h : qslice P T x lo hi c cont) : ∃ y,cont y ∧ qslice P T x lo hi c (· = y):=by
 unfold qslice at h ⊢
 split at h
 ·obtain ⟨h0,h⟩:=h
  split at h
  ·exact ⟨_,h.2,h0,h.1,rfl⟩
  ·exact h.elim
 ·obtain ⟨h0,h⟩:=h
  split at h
  ·rename_i n hT _ _ l hh hl1 hh1
   by_cases hcase : l = 0 ∨ l < n
   ·exact ⟨_,h.2.1 hcase,h0,h.1,fun _=>rfl,fun hn=>absurd hcase hn⟩
   ·exact ⟨_,h.2.2 hcase,h0,h.1,fun hn=>absurd hn hcase,fun _=>rfl⟩
  ·exact h.elim
 ·split at h
  ·exact ⟨_,h.2,h.1,rfl⟩
  ·exact h.elim
 ·obtain ⟨h0,h⟩:=h
  split at h
  ·exact ⟨_,h.2.2,h0,h.1,h.2.1,rfl⟩
  ·exact h.elim
 ·exact h.elim
theorem qlookup_ex {T : TypeId} {x i : AV} {ok : Bool} {c : Option Ct} {cont : AV → Prop} (h : qlookup P T x i ok c cont) : ∃ y,cont y ∧ qlookup P T x i ok c (· = y):=by
 unfold qlookup at h ⊢
 split at h
 ·split at h
  ·obtain ⟨h0,h⟩:=h
   split at h
   ·split at h
    ·obtain ⟨h1,h2,h⟩:=h
     split at h
     ·exact ⟨_,h,h0,h1,h2,rfl⟩
     ·exact ⟨_,h,h0,h1,h2,rfl⟩
    ·exact h.elim
   ·exact ⟨_,h.2,h0,h.1,rfl⟩
   ·exact h.elim
  ·exact h.elim
 ·exact h.elim
theorem qlen_ex {T : TypeId} {x : AV} {c : Option Ct} {cont : AV → Prop} (h : qlen P T x c cont) : ∃ y,cont y ∧ qlen P T x c (· = y):=by
 unfold qlen at h ⊢
 split at h
 ·split at h <;> first|exact h.elim|exact ⟨_,h,rfl⟩
 ·split at h <;> first|exact h.elim|exact ⟨_,h,rfl⟩
 ·split at h
  ·split at h <;> first|exact h.elim|exact ⟨_,h,rfl⟩
  ·exact ⟨_,h,rfl⟩
  ·exact h.elim
 ·exact ⟨_,h,rfl⟩
 ·exact h.elim
theorem foldInts_ex {f : Int → Int → Int} {k : IntKind} : ∀ {xs : List AV} {n : Int} {cont : Int → Prop},foldInts f k n xs cont → ∃ m,cont m ∧ ∀ cont' : Int → Prop,cont' m → foldInts f k n xs cont'
 |[],n,cont,h=>⟨n,h,fun _ h=>h⟩
 |x :: xs,n,cont,h=>by
  cases x with
  |v x =>
   cases x with
   |int k' m =>
    simp only [foldInts] at h
    obtain ⟨m',h1,h2⟩:=foldInts_ex h.2
    exact ⟨m',h1,fun c hc=>⟨h.1,h2 c hc⟩⟩
   |_=>simp [foldInts] at h
  |_=>simp [foldInts] at h
theorem qfold_ex {f : Int → Int → Int} {xs : List AV} {cont : AV → Prop} (h : qfold f xs cont) : ∃ y,cont y ∧ qfold f xs (· = y):=by
 cases xs with
 |nil=>simp [qfold] at h
 |cons x xs =>
  cases x with
  |v x =>
   cases x with
   |int k n =>
    simp only [qfold] at h ⊢
    obtain ⟨m,h1,h2⟩:=foldInts_ex h
    exact ⟨_,h1,h2 _ rfl⟩
   |_=>simp [qfold] at h
  |_=>simp [qfold] at h
theorem qcall_ex {c : Call} {av : Operand → AV} {bf : Nat → Option Ct} {d : Option Tmp} {k : AV → Option Ct → Prop} (h : qcall P c av bf d k) : ∃ y n,k y n ∧ (n ≠ none → newOp (.call c) = true) ∧ qcall P c av bf d (fun z m=>z = y ∧ m = n):=by
 have one : ∀ {F : (AV → Prop) → Prop},(∃ x,k x none ∧ F (· = x)) → ∃ x,k x none ∧ F (fun y=>y = x ∧ (none : Option Ct) = none) :=
  fun ⟨x,h1,h2⟩=>⟨x,h1,by have e : (fun y : AV=>y = x ∧ (none : Option Ct) = none) = (· = x):=funext fun y=>by simp
                          rw [e];exact h2⟩
 unfold qcall at h ⊢
 split at h
 ·split at h
  ·obtain ⟨x,h1,h2⟩:=one (qlen_ex h)
   exact ⟨x,none,h1,fun h=>absurd rfl h,h2⟩
  ·exact h.elim
 ·split at h
  ·exact ⟨_,none,h.2,fun h=>absurd rfl h,h.1,rfl,rfl⟩
  ·exact h.elim
 ·obtain ⟨x,h1,h2⟩:=one (qfold_ex h)
  exact ⟨x,none,h1,fun h=>absurd rfl h,h2⟩
 ·obtain ⟨x,h1,h2⟩:=one (qfold_ex h)
  exact ⟨x,none,h1,fun h=>absurd rfl h,h2⟩
 ·rename_i hc
  have hn : newOp (.call c) = true:=by simp only [newOp,hc]
  split at h
  ·rcases h.ex with ⟨ds,res,h1,h2,h3,h4⟩|⟨ds,mk,ct,t,h1,h2,h3,h4,h5⟩
   ·exact ⟨res,none,h4,fun _=>hn,⟨.inl ⟨ds,res,h1,h2,h3,rfl,rfl⟩⟩⟩
   ·exact ⟨mk t,some ct,h5,fun _=>hn,⟨.inr ⟨ds,mk,ct,t,h1,h2,h3,h4,rfl,rfl⟩⟩⟩
  ·exact h.elim
 ·exact h.elim
theorem qop_ex {o : Oper} {av : Operand → AV} {bf : Nat → Option Ct} {k : AV → Option Ct → Prop} (h : qop P o av bf k) : ∃ x n,k x n ∧ (n ≠ none → newOp o.op = true) ∧ qop P o av bf (fun y m=>y = x ∧ m = n):=by
 have one : ∀ {F : (AV → Prop) → Prop},(∃ x,k x none ∧ F (· = x)) → (∀ {c c' : AV → Prop},(∀ x,c x = c' x) → F c → F c') → ∃ x,k x none ∧ F (fun y=>y = x ∧ (none : Option Ct) = none) :=
  fun ⟨x,h1,h2⟩ hc=>⟨x,h1,hc (fun y=>by simp) h2⟩
 have cg : ∀ {F : (AV → Prop) → Prop} {c c' : AV → Prop},(∀ x,c x = c' x) → F c → F c':=fun h hF=>by rw [← funext h];exact hF
 unfold qop at h ⊢
 cases hop : o.op with
 |move x=>rw [hop] at h;exact ⟨_,_,h,fun h=>absurd rfl h,rfl,rfl⟩
 |assign x=>rw [hop] at h;exact ⟨_,_,h,fun h=>absurd rfl h,rfl,rfl⟩
 |nilCheck x=>rw [hop] at h;exact ⟨_,_,h.2,fun h=>absurd rfl h,h.1,rfl,rfl⟩
 |pick c x y =>
  rw [hop] at h
  simp only at h ⊢
  split at h
  ·rename_i t ht
   cases t with
   |true=>exact ⟨_,_,h.1 rfl,fun h=>absurd rfl h,fun _=>⟨rfl,rfl⟩,(fun h=>by cases h)⟩
   |false=>exact ⟨_,_,h.2 rfl,fun h=>absurd rfl h,(fun h=>by cases h),fun _=>⟨rfl,rfl⟩⟩
  ·exact h.elim
 |alloc T =>
  rw [hop] at h
  simp only at h ⊢
  split at h
  ·exact ⟨_,_,h.2,fun _=>rfl,h.1,rfl,rfl⟩
  ·exact h.elim
 |box T x =>
  rw [hop] at h
  simp only at h ⊢
  split at h
  ·exact ⟨_,_,h.2,fun _=>rfl,h.1,rfl,rfl⟩
  ·exact h.elim
 |load T p=>rw [hop] at h;obtain ⟨x,h1,h2⟩:=one (qload_ex h) cg;exact ⟨x,none,h1,fun h=>absurd rfl h,h2⟩
 |fieldAddr T x f=>rw [hop] at h;obtain ⟨x,h1,h2⟩:=one (qfaddr_ex h) cg;exact ⟨x,none,h1,fun h=>absurd rfl h,h2⟩
 |indexAddr T x i=>rw [hop] at h;obtain ⟨x,h1,h2⟩:=one (qiaddr_ex h) cg;exact ⟨x,none,h1,fun h=>absurd rfl h,h2⟩
 |buildSlice T len parts =>
  rw [hop] at h
  simp only at h ⊢
  split at h
  ·obtain ⟨x,n,h1,h2⟩:=qbslice_ex h
   exact ⟨x,n,h1,fun _=>rfl,h2⟩
  ·exact h.elim
 |build T parts=>rw [hop] at h;obtain ⟨x,h1,h2⟩:=one (qbuild_ex h) cg;exact ⟨x,none,h1,fun h=>absurd rfl h,h2⟩
 |field T x f=>rw [hop] at h;obtain ⟨x,h1,h2⟩:=one (qfield_ex h) cg;exact ⟨x,none,h1,fun h=>absurd rfl h,h2⟩
 |index T x i=>rw [hop] at h;obtain ⟨x,h1,h2⟩:=one (qindex_ex h) cg;exact ⟨x,none,h1,fun h=>absurd rfl h,h2⟩
 |extract t i =>
  rw [hop] at h
  simp only at h ⊢
  split at h
  ·split at h
   ·exact ⟨_,_,h,fun h=>absurd rfl h,rfl,rfl⟩
   ·exact h.elim
  ·exact h.elim
 |binOp op T x y ty=>rw [hop] at h;obtain ⟨x,h1,h2⟩:=one (qbin_ex h) cg;exact ⟨x,none,h1,fun h=>absurd rfl h,h2⟩
 |unOp op T x=>rw [hop] at h;obtain ⟨x,h1,h2⟩:=one (qun_ex h) cg;exact ⟨x,none,h1,fun h=>absurd rfl h,h2⟩
 |convert sT dT x=>rw [hop] at h;obtain ⟨x,h1,h2⟩:=one (qconv_ex h) cg;exact ⟨x,none,h1,fun h=>absurd rfl h,h2⟩
 |makeInterface T x=>rw [hop] at h;exact ⟨_,_,h.2,fun h=>absurd rfl h,h.1,rfl,rfl⟩
 |makeFunc fn first caps=>rw [hop] at h;exact ⟨_,_,h,fun h=>absurd rfl h,rfl,rfl⟩
 |makeMap T r =>
  rw [hop] at h
  cases r with
  |some r=>exact h.elim
  |none =>
   simp only at h ⊢
   split at h
   ·exact ⟨_,_,h,fun _=>rfl,rfl,rfl⟩
   ·exact h.elim
 |slice T x lo hi mx =>
  rw [hop] at h
  cases mx with
  |some m=>exact h.elim
  |none=>obtain ⟨x,h1,h2⟩:=one (qslice_ex h) cg;exact ⟨x,none,h1,fun h=>absurd rfl h,h2⟩
 |lookup T x i ok=>rw [hop] at h;obtain ⟨x,h1,h2⟩:=one (qlookup_ex h) cg;exact ⟨x,none,h1,fun h=>absurd rfl h,h2⟩
 |call c=>rw [hop] at h;exact qcall_ex h
 |_=>rw [hop] at h;exact h.elim
end
end Go.Am
end
section
namespace Go.Am
open Go.RowKit
theorem Rep.noment {H : Heap} {ρ : Rho} {x : AV} {v : Value} {d : Nat} (h : Rep H ρ x v) : ρ d = .no → x.ment d = false:=by
 induction h with
 |v h=>intro _;rfl
 |st hl h1 _ ih =>
  intro h0
  simp only [AV.ment]
  refine mentL_false_of (fun c hc=>?_)
  obtain ⟨i,hi⟩:=List.getElem?_of_mem hc
  exact ih i c _ hi (List.getElem?_eq_getElem (hl ▸ (List.getElem?_eq_some_iff.1 hi).1)) h0
 |slNil=>intro _;rfl
 |sl=>intro _;rfl
 |ep=>intro _;rfl
 |ownNil h=>intro h0;simp only [AV.ment,beq_eq_false_iff_ne];rintro rfl;rw [h0] at h;cases h
 |own h=>intro h0;simp only [AV.ment,beq_eq_false_iff_ne];rintro rfl;rw [h0] at h;cases h
 |loc h=>intro h0;simp only [AV.ment,beq_eq_false_iff_ne];rintro rfl;rw [h0] at h;cases h
 |eloc h=>intro h0;simp only [AV.ment,beq_eq_false_iff_ne];rintro rfl;rw [h0] at h;cases h
 |mp h=>intro h0;simp only [AV.ment,beq_eq_false_iff_ne];rintro rfl;rw [h0] at h;cases h
 |fn hl1 hl2 _ _ ih1 ih2 =>
  intro h0
  simp only [AV.ment,Bool.or_eq_false_iff]
  refine ⟨mentL_false_of (fun c hc=>?_),mentL_false_of (fun c hc=>?_)⟩
  ·obtain ⟨i,hi⟩:=List.getElem?_of_mem hc
   exact ih1 i c _ hi (List.getElem?_eq_getElem (hl1 ▸ (List.getElem?_eq_some_iff.1 hi).1)) h0
  ·obtain ⟨i,hi⟩:=List.getElem?_of_mem hc
   exact ih2 i c _ hi (List.getElem?_eq_getElem (hl2 ▸ (List.getElem?_eq_some_iff.1 hi).1)) h0
 |tup hl _ ih =>
  intro h0
  simp only [AV.ment]
  refine mentL_false_of (fun c hc=>?_)
  obtain ⟨i,hi⟩:=List.getElem?_of_mem hc
  exact ih i c _ hi (List.getElem?_eq_getElem (hl ▸ (List.getElem?_eq_some_iff.1 hi).1)) h0
 |ifc _ ih=>intro h0;simp only [AV.ment];exact ih h0
 |w _=>intro _;rfl
 |u=>intro _;rfl
theorem RepL.noment {H : Heap} {ρ : Rho} {cs : List AV} {vs : List Value} {d : Nat} (h : RepL H ρ cs vs) (h0 : ρ d = .no) : mentL d cs = false :=
 mentL_false_of (fun c hc=>by
  obtain ⟨i,hi⟩:=List.getElem?_of_mem hc
  obtain ⟨u,_,hr⟩:=h.get hi
  exact hr.noment h0)
theorem ment_of_cells {d : Nat} {x : AV} (h : mentL d x.cells = false) : x.ment d = false:=by
 cases x with
 |st cs=>simpa only [AV.ment,AV.cells] using h
 |_=>simpa only [AV.cells,mentL,Bool.or_false] using h
theorem mentL_of_flat {d : Nat} : ∀ {xs : List AV},mentL d (xs.flatMap AV.cells) = false → mentL d xs = false
 |[],_=>rfl
 |x :: xs,h=>by
  rw [List.flatMap_cons,mentL_append,Bool.or_eq_false_iff] at h
  simp only [mentL,Bool.or_eq_false_iff]
  exact ⟨ment_of_cells h.1,mentL_of_flat h.2⟩
theorem mentP_of {d : Nat} : ∀ {es : List (AV × AV)},mentL d (es.map (·.1)) = false → mentL d (es.map (·.2)) = false → mentP d es = false
 |[],_,_=>rfl
 |e :: es,h1,h2=>by
  simp only [List.map_cons,mentL,Bool.or_eq_false_iff] at h1 h2
  simp only [mentP,Bool.or_eq_false_iff]
  exact ⟨⟨h1.1,h2.1⟩,mentP_of h1.2 h2.2⟩
theorem CtRep.noment {H : Heap} {ρ : Rho} {w : World} {bd : Bd} {c : Ct} {d : Nat} (h : CtRep H ρ w bd c) (h0 : ρ d = .no) : c.ment d = false:=by
 cases c with
 |box T x=>obtain ⟨_,_,_,_,_,h3,_⟩:=h;simp only [Ct.ment];exact ment_of_cells (h3.noment h0)
 |arr T k xs =>
  simp only [Ct.ment]
  rcases h with ⟨_,rfl⟩|⟨_,_,_,_,_,_,_,_,h6,_⟩
  ·rfl
  ·exact mentL_of_flat (h6.noment h0)
 |it m bs ck vis =>
  obtain ⟨_,_,_,_,_,_,h2,_⟩:=h
  simp only [Ct.ment,beq_eq_false_iff_ne]
  rintro rfl
  rw [h0] at h2
  cases h2
 |map es st=>obtain ⟨_,_,_,_,_,_,h3,h4,_⟩:=h;simp only [Ct.ment];exact mentP_of (h3.noment h0) (h4.noment h0)
 |raw o=>rfl
structure Fp where
 r : List Nat
 n : List Nat
 deriving Inhabited
def newIds (o : Oper) : List Nat:=if newOp o.op then o.dst.toList else []
def qd (P : Program) (o : Oper) (s : AState) (k : AState → Fp → Prop) : Prop :=
 qop P o s.eval s.box (fun x n=>k ((s.put o.dst x).addBox o.dst n) ⟨rids o s.eval,newIds o⟩)
def RKQ (P : Program) (ops : Array Oper) : List Oper → AState → List Fp → (AState → List Fp → Prop) → Prop
 |[],s,acc,K=>K s acc
 |o :: rest,s,acc,K=>match o.guard with
  |none=>qd P o s (fun s' f=>RKQ P ops rest s' (acc ++ [f]) K)
  |some (j,want)=>match (ops[j]?).bind (·.dst) with
   |some t=>(match s.slot t with
    |.v (.bool b)=>(b = want → qd P o (s.put (some t) (.v (.bool want))) (fun s' f=>RKQ P ops rest s' (acc ++ [f]) K)) ∧
      (b = (!want) → RKQ P ops rest ((s.put (some t) (.v (.bool (!want)))).put o.dst (.tup [])) (acc ++ [⟨[],[]⟩]) K)
    |.tup []=>RKQ P ops rest (s.put o.dst (.tup [])) (acc ++ [⟨[],[]⟩]) K
    |_=>False)
   |none=>RKQ P ops rest (s.put o.dst (.tup [])) (acc ++ [⟨[],[]⟩]) K
def gOn (ops : Array Oper) (o : Oper) (sf : Nat → AV) : Prop :=
 match o.guard with
 |none=>True
 |some (j,want)=>∃ t,(ops[j]?).bind (·.dst) = some t ∧ sf t = .v (.bool want)
def gOff (ops : Array Oper) (o : Oper) (sf : Nat → AV) : Prop :=
 match o.guard with
 |none=>False
 |some (j,want)=>(ops[j]?).bind (·.dst) = none ∨ ∃ t,(ops[j]?).bind (·.dst) = some t ∧ (sf t = .tup [] ∨ sf t = .v (.bool (!want)))
structure Ev where
 on : Bool
 x : AV
 n : Option Ct
 f : Fp
 deriving Inhabited
def evOK (P : Program) (ops : Array Oper) (o : Oper) (sf : Nat → AV) (bf : Nat → Option Ct) (e : Ev) : Prop :=
 if e.on then gOn ops o sf ∧ qop P o (evalF sf) bf (fun y m=>y = e.x ∧ m = e.n) ∧ (e.n ≠ none → newOp o.op = true) ∧ e.f = ⟨rids o (evalF sf),newIds o⟩
 else gOff ops o sf ∧ e.x = .tup [] ∧ e.n = none ∧ e.f = ⟨[],[]⟩
def RunQ (P : Program) (ops : Array Oper) : List Oper → (Nat → AV) → (Nat → Option Ct) → List Ev → (Nat → AV) → (Nat → Option Ct) → Prop
 |[],sf,bf,[],sf',bf'=>sf = sf' ∧ bf = bf'
 |o :: l,sf,bf,e :: es,sf',bf'=>evOK P ops o sf bf e ∧ RunQ P ops l (putF sf o.dst e.x) (addF bf o.dst e.n) es sf' bf'
 |_,_,_,_,_,_=>False
theorem slot_same {s : AState} {t : Nat} {x : AV} (h : s.slot t = x) : (s.put (some t) x).slot = s.slot:=by
 rw [AState.slot_put]
 funext i
 simp only [putF]
 split
 ·rename_i e;subst e;exact h.symm
 ·rfl
section
variable {P : Program} {E : Env} {ops : Array Oper}
theorem RKQ_run : ∀ (l : List Oper) (s : AState) (acc : List Fp) (K : AState → List Fp → Prop),RKQ P ops l s acc K → ∃ es s',RunQ P ops l s.slot s.box es s'.slot s'.box ∧ K s' (acc ++ es.map (·.f))
 |[],s,acc,K,h=>⟨[],s,⟨rfl,rfl⟩,by simpa [RKQ] using h⟩
 |o :: rest,s,acc,K,h=>by
  simp only [RKQ] at h
  have take : ∀ {s1 : AState},s1.slot = s.slot → s1.box = s.box → gOn ops o s.slot → qd P o s1 (fun s' f=>RKQ P ops rest s' (acc ++ [f]) K) →
   ∃ es s',RunQ P ops (o :: rest) s.slot s.box es s'.slot s'.box ∧ K s' (acc ++ es.map (·.f)):=by
   intro s1 h1 h2 hg hq
   obtain ⟨x,n,hk,hn,hq⟩:=qop_ex hq
   obtain ⟨es,s',hr,hK⟩:=RKQ_run rest _ _ K hk
   refine ⟨⟨true,x,n,⟨rids o s1.eval,newIds o⟩⟩ :: es,s',⟨?_,?_⟩,by simpa using hK⟩
   ·have he : s1.eval = evalF s.slot:=by unfold AState.eval;rw [h1]
    simp only [evOK,if_true]
    rw [he,h2] at hq
    exact ⟨hg,hq,hn,by rw [he]⟩
   ·rw [AState.slot_addBox,AState.box_addBox,AState.slot_put,AState.box_put,h1,h2] at hr
    exact hr
  have skip : ∀ {s1 : AState},s1.slot = s.slot → s1.box = s.box → gOff ops o s.slot → RKQ P ops rest (s1.put o.dst (.tup [])) (acc ++ [⟨[],[]⟩]) K →
   ∃ es s',RunQ P ops (o :: rest) s.slot s.box es s'.slot s'.box ∧ K s' (acc ++ es.map (·.f)):=by
   intro s1 h1 h2 hg hq
   obtain ⟨es,s',hr,hK⟩:=RKQ_run rest _ _ K hq
   refine ⟨⟨false,.tup [],none,⟨[],[]⟩⟩ :: es,s',⟨?_,?_⟩,by simpa using hK⟩
   ·simp only [evOK,Bool.false_eq_true,if_false]
    exact ⟨hg,by simp⟩
   ·have : addF s.box o.dst none = s.box:=by cases o.dst <;> rfl
    rw [AState.slot_put,AState.box_put,h1,h2] at hr
    simp only [this]
    exact hr
  split at h
  ·rename_i hg
   exact take rfl rfl (by simp [gOn,hg]) h
  ·rename_i j want hg
   split at h
   ·rename_i t ht
    split at h
    ·rename_i b hb
     by_cases hbw : b = want
     ·subst hbw
      exact take (slot_same hb) (AState.box_put _ _ _) (by simp only [gOn,hg];exact ⟨t,ht,hb⟩) (h.1 rfl)
     ·have hbn : b = !want:=by cases b <;> cases want <;> simp_all
      subst hbn
      exact skip (slot_same hb) (AState.box_put _ _ _) (by simp only [gOff,hg];exact .inr ⟨t,ht,.inr hb⟩) (h.2 rfl)
    ·rename_i hb
     exact skip rfl rfl (by simp only [gOff,hg];exact .inr ⟨t,ht,.inl hb⟩) h
    ·exact h.elim
   ·rename_i ht
    exact skip rfl rfl (by simp only [gOff,hg];exact .inl ht) h
def edgeMask (m : List Nat) (j : Nat) (es : List Edge) (s : Nat) : Nat :=
 match es with
 |[]=>s
 |e :: es=>edgeMask m j es (if Region.binds .any e && decide (e.on < j) then s ||| (2 ^ e.on) ||| m.getD e.on 0 else s)
def masksOK (ops : List Oper) (m : List Nat) : Bool :=
 ops.zipIdx.all fun (o,j)=>m.getD j 0 == edgeMask m j o.after.toList 0
def mkMasks : List Oper → Nat → List Nat → List Nat
 |[],_,acc=>acc
 |o :: l,j,acc=>mkMasks l (j + 1) (acc ++ [edgeMask acc j o.after.toList 0])
theorem edgeMask_spec {m : List Nat} {j i : Nat} : ∀ {es : List Edge} {s : Nat},(edgeMask m j es s).testBit i = true → s.testBit i = true ∨ ∃ e ∈ es,Region.binds .any e = true ∧ e.on < j ∧ (i = e.on ∨ (m.getD e.on 0).testBit i = true)
 |[],s,h=>.inl h
 |e :: es,s,h=>by
  simp only [edgeMask] at h
  rcases edgeMask_spec h with h|⟨e',he',h⟩
  ·split at h
   ·rename_i hb
    simp only [Bool.and_eq_true,decide_eq_true_eq] at hb
    simp only [Nat.testBit_or,Bool.or_eq_true] at h
    rcases h with (h|h)|h
    ·exact .inl h
    ·refine .inr ⟨e,by simp,hb.1,hb.2,.inl ?_⟩
     rw [Nat.testBit_two_pow] at h
     exact (of_decide_eq_true h).symm
    ·exact .inr ⟨e,by simp,hb.1,hb.2,.inr h⟩
   ·exact .inl h
  ·exact .inr ⟨e',List.mem_cons_of_mem _ he',h⟩
theorem masksOK_spec {l : List Oper} {m : List Nat} (h : masksOK l m = true) {j : Nat} {o : Oper} (ho : l[j]? = some o) {i : Nat} (hi : (m.getD j 0).testBit i = true) :
 ∃ e ∈ o.after,Region.binds .any e = true ∧ e.on < j ∧ (i = e.on ∨ (m.getD e.on 0).testBit i = true):=by
 have h1:=List.all_eq_true.1 h (o,j) (by
  rw [List.mem_iff_getElem?]
  exact ⟨j,by simp [List.getElem?_zipIdx,ho]⟩)
 simp only [beq_iff_eq] at h1
 rw [h1] at hi
 rcases edgeMask_spec hi with h|⟨e,he,h⟩
 ·simp at h
 ·exact ⟨e,by simpa using he,h⟩
theorem mask_listed {l : List Oper} {m : List Nat} (hm : masksOK l m = true) {listed : Nat → Bool} (hcl : ∀ j o,l[j]? = some o → listed j = true → ∀ e ∈ o.after,Region.binds .any e = true → listed e.on = true) (hlt : ∀ j,listed j = true → j < l.length) :
 ∀ (j : Nat) (o : Oper),l[j]? = some o → (∀ e ∈ o.after,Region.binds .any e = true → listed e.on = true) → ∀ i,(m.getD j 0).testBit i = true → listed i = true:=by
 intro j
 induction j using Nat.strongRecOn with
 |_ j ih =>
  intro o ho hall i hi
  obtain ⟨e,he,hb,hlt',h|h⟩:=masksOK_spec hm ho hi
  ·rw [h];exact hall e he hb
  ·have hon:=hall e he hb
   have hlen:=hlt _ hon
   have hoe : l[e.on]? = some l[e.on]:=List.getElem?_eq_getElem hlen
   exact ih e.on hlt' _ hoe (hcl e.on _ hoe hon) i h
def headOK (ops : Array Oper) (m : List Nat) (l : List Oper) (fps : List Fp) : Bool :=
 l.zipIdx.all fun (o,j)=>l.zipIdx.all fun (o',i) =>
  (match o'.dst with
   |some d=>(!(o.looksAt ops).contains d || (m.getD j 0).testBit i) && (i == j || o.dst != some d) &&
     (!newOp o'.op || !((fps.getD j ⟨[],[]⟩).r).contains d || (m.getD j 0).testBit i)
   |none=>true)
def tailOK (m : List Nat) (n N : Nat) : Bool :=
 (List.range N).all fun t=>decide (t < n) || (List.range t).all fun i=>(m.getD t 0).testBit i
def newOK (l : List Oper) (s : AState) : Bool:=l.all fun o=>(newIds o).all fun d=>!s.ment d && (s.box d).isNone
def backOK (ops : List Oper) : Bool:=ops.zipIdx.all fun (o,j)=>o.after.toList.all fun e=>!Region.binds .any e || decide (e.on < j)
def lateOp : Op → Bool
 |.extract (.tmp _) _=>true
 |.move _=>true
 |_=>false
def latePOK (l : List Oper) (m : List Nat) (n p : Nat) : Bool :=
 (match l[p]? with
  |some o=>o.guard.isNone && lateOp o.op &&
   (List.range l.length).all (fun j=>decide (j < n) || (match l[j]? with|some oj=>oj.after.toList.any (fun e=>Region.binds .any e && e.on == p) || o.apart l.toArray oj|none=>true))
  |none=>false) &&
 (List.range l.length).all (fun t=>decide (t < n) || (List.range t).all fun i=>i == p || (m.getD t 0).testBit i) && l.all fun o=>match o.op with|.select _ _=>false|_=>true
def lateOK (l : List Oper) (m : List Nat) (n : Nat) : Bool:=(List.range n).any fun p=>latePOK l m n p
def drawOK (ops : List Oper) (n : Nat) (fps : List Fp) : Bool :=
 masksOK ops (mkMasks ops 0 []) && headOK ops.toArray (mkMasks ops 0 []) (ops.take n) fps && (tailOK (mkMasks ops 0 []) n ops.length || lateOK ops (mkMasks ops 0 []) n) && backOK ops
theorem RunQ_len : ∀ {l : List Oper} {sf sf' : Nat → AV} {bf bf' : Nat → Option Ct} {es : List Ev},RunQ P ops l sf bf es sf' bf' → es.length = l.length
 |[],_,_,_,_,[],_=>rfl
 |[],_,_,_,_,_ :: _,h=>h.elim
 |_ :: _,_,_,_,_,[],h=>h.elim
 |_ :: l,_,_,_,_,_ :: es,h=>by simp [RunQ_len h.2]
structure Cur (l : List Oper) (es : List Ev) (sf0 : Nat → AV) (bf0 : Nat → Option Ct) (S : Nat → Prop) (sf : Nat → AV) (bf : Nat → Option Ct) : Prop where
 s1 : ∀ i o e d,l[i]? = some o → es[i]? = some e → S i → o.dst = some d → sf d = e.x
 s0 : ∀ x,(∀ i o,l[i]? = some o → S i → o.dst ≠ some x) → sf x = sf0 x
 b1 : ∀ i o e d c,l[i]? = some o → es[i]? = some e → S i → o.dst = some d → e.n = some c → bf d = some c
 b0 : ∀ x,(∀ i o e,l[i]? = some o → es[i]? = some e → S i → e.n ≠ none → o.dst ≠ some x) → bf x = bf0 x
def dstApart (l : List Oper) : Prop:=∀ (i j : Nat) (o o' : Oper) (d : Nat),l[i]? = some o → l[j]? = some o' → o.dst = some d → o'.dst = some d → i = j
theorem Cur.step {l : List Oper} {es : List Ev} {sf0 sf : Nat → AV} {bf0 bf : Nat → Option Ct} {S : Nat → Prop} (h : Cur l es sf0 bf0 S sf bf) (hap : dstApart l) {j : Nat} {o : Oper} {e : Ev} (ho : l[j]? = some o) (he : es[j]? = some e) (hj : ¬ S j) :
 Cur l es sf0 bf0 (fun i=>S i ∨ i = j) (putF sf o.dst e.x) (addF bf o.dst e.n):=by
 refine ⟨fun i o' e' d ho' he' hs hd=>?_,fun x hx=>?_,fun i o' e' d c ho' he' hs hd hn=>?_,fun x hx=>?_⟩
 ·rcases hs with hs|rfl
  ·cases hod : o.dst with
   |none=>exact h.s1 i o' e' d ho' he' hs hd
   |some d' =>
    simp only [putF]
    split
    ·rename_i e2;subst e2
     have:=hap i j o' o _ ho' ho hd hod
     subst this
     exact absurd hs hj
    ·exact h.s1 i o' e' d ho' he' hs hd
  ·rw [ho] at ho';cases ho'
   rw [he] at he';cases he'
   rw [hd];simp [putF]
 ·cases hod : o.dst with
  |none=>exact h.s0 x (fun i o' ho' hs=>hx i o' ho' (.inl hs))
  |some d' =>
   simp only [putF]
   split
   ·rename_i e2;subst e2
    exact absurd hod (hx j o ho (.inr rfl))
   ·exact h.s0 x (fun i o' ho' hs=>hx i o' ho' (.inl hs))
 ·rcases hs with hs|rfl
  ·cases hod : o.dst with
   |none=>exact h.b1 i o' e' d c ho' he' hs hd hn
   |some d' =>
    cases hen : e.n with
    |none=>exact h.b1 i o' e' d c ho' he' hs hd hn
    |some c' =>
     simp only [addF]
     split
     ·rename_i e2;subst e2
      have:=hap i j o' o _ ho' ho hd hod
      subst this
      exact absurd hs hj
     ·exact h.b1 i o' e' d c ho' he' hs hd hn
  ·rw [ho] at ho';cases ho'
   rw [he] at he';cases he'
   rw [hd,hn];simp [addF]
 ·cases hod : o.dst with
  |none=>exact h.b0 x (fun i o' e' ho' he' hs=>hx i o' e' ho' he' (.inl hs))
  |some d' =>
   cases hen : e.n with
   |none=>exact h.b0 x (fun i o' e' ho' he' hs=>hx i o' e' ho' he' (.inl hs))
   |some c' =>
    simp only [addF]
    split
    ·rename_i e2;subst e2
     exact absurd hod (hx j o e ho he (.inr rfl) (by rw [hen];simp))
    ·exact h.b0 x (fun i o' e' ho' he' hs=>hx i o' e' ho' he' (.inl hs))
theorem RunQ_at {l : List Oper} {es : List Ev} {sf0 sf' : Nat → AV} {bf0 bf' : Nat → Option Ct} (hap : dstApart l) : ∀ (k : Nat) (sf : Nat → AV) (bf : Nat → Option Ct),RunQ P ops (l.drop k) sf bf (es.drop k) sf' bf' → Cur l es sf0 bf0 (fun i=>i < k) sf bf → es.length = l.length → k ≤ l.length →
 (∀ j o e,k ≤ j → l[j]? = some o → es[j]? = some e → ∃ sj bj,Cur l es sf0 bf0 (fun i=>i < j) sj bj ∧ evOK P ops o sj bj e) ∧ Cur l es sf0 bf0 (fun i=>i < l.length) sf' bf':=by
 intro k
 generalize hn : l.length - k = n
 induction n generalizing k with
 |zero =>
  intro sf bf hr hc hlen hk
  have hkl : k = l.length:=by omega
  subst hkl
  have e1 : l.drop l.length = []:=by simp
  have e2 : es.drop l.length = []:=by rw [← hlen];simp
  rw [e1,e2] at hr
  obtain ⟨rfl,rfl⟩:=hr
  refine ⟨fun j o e hj ho=>?_,hc⟩
  have:=(List.getElem?_eq_some_iff.1 ho).1
  omega
 |succ n ih =>
  intro sf bf hr hc hlen hk
  have hkl : k < l.length:=by omega
  have hke : k < es.length:=by omega
  rw [List.drop_eq_getElem_cons hkl,List.drop_eq_getElem_cons hke] at hr
  obtain ⟨hev,hr⟩:=hr
  have ho : l[k]? = some l[k]:=List.getElem?_eq_getElem hkl
  have he : es[k]? = some es[k]:=List.getElem?_eq_getElem hke
  have hc2:=hc.step hap ho he (by omega)
  have hc3 : Cur l es sf0 bf0 (fun i=>i < k + 1) (putF sf l[k].dst es[k].x) (addF bf l[k].dst es[k].n):=by
   have : (fun i=>i < k ∨ i = k) = (fun i=>i < k + 1):=by funext i;apply propext;omega
   rw [this] at hc2
   exact hc2
  obtain ⟨h1,h2⟩:=ih (k + 1) (by omega) _ _ hr hc3 hlen (by omega)
  refine ⟨fun j o e hj ho' he'=>?_,h2⟩
  by_cases hjk : j = k
  ·subst hjk
   rw [ho] at ho';cases ho'
   rw [he] at he';cases he'
   exact ⟨sf,bf,hc,hev⟩
  ·exact h1 j o e (by omega) ho' he'
theorem headOK_spec {m : List Nat} {l : List Oper} {fps : List Fp} (h : headOK ops m l fps = true) {i j : Nat} {o o' : Oper} {d : Nat} (ho : l[j]? = some o) (ho' : l[i]? = some o') (hd : o'.dst = some d) :
 (d ∈ o.looksAt ops → (m.getD j 0).testBit i = true) ∧ (i = j ∨ o.dst ≠ some d) ∧ (newOp o'.op = true → d ∈ (fps.getD j ⟨[],[]⟩).r → (m.getD j 0).testBit i = true):=by
 have h1:=List.all_eq_true.1 h (o,j) (by rw [List.mem_iff_getElem?];exact ⟨j,by simp [List.getElem?_zipIdx,ho]⟩)
 have h2:=List.all_eq_true.1 h1 (o',i) (by rw [List.mem_iff_getElem?];exact ⟨i,by simp [List.getElem?_zipIdx,ho']⟩)
 simp only [hd,Bool.and_eq_true,Bool.or_eq_true,Bool.not_eq_true',beq_iff_eq,bne_iff_ne,ne_eq] at h2
 obtain ⟨⟨h3,h4⟩,h5⟩:=h2
 refine ⟨fun hm=>?_,h4,fun hn hm=>?_⟩
 ·rcases h3 with h3|h3
  ·rw [List.contains_iff_mem.2 hm] at h3;cases h3
  ·exact h3
 ·rcases h5 with (h5|h5)|h5
  ·rw [hn] at h5;cases h5
  ·rw [List.contains_iff_mem.2 hm] at h5;cases h5
  ·exact h5
theorem headOK_apart {m : List Nat} {l : List Oper} {fps : List Fp} (h : headOK ops m l fps = true) : dstApart l:=by
 intro i j o o' d ho ho' hd hd'
 rcases (headOK_spec h ho' ho hd).2.1 with e|e
 ·exact e
 ·exact absurd hd' e
theorem tailOK_spec {m : List Nat} {n N t : Nat} (h : tailOK m n N = true) (ht : t < N) (hn : n ≤ t) : ∀ i,i < t → (m.getD t 0).testBit i = true:=by
 have h1:=List.all_eq_true.1 h t (List.mem_range.2 ht)
 simp only [Bool.or_eq_true,decide_eq_true_eq] at h1
 rcases h1 with h1|h1
 ·omega
 ·intro i hi
  exact List.all_eq_true.1 h1 i (List.mem_range.2 hi)
theorem looksAt_operand {o : Oper} {t : Tmp} (h : .tmp t ∈ o.op.operands.toList) : t ∈ o.looksAt ops:=by
 unfold Oper.looksAt
 refine List.mem_append_left _ (List.mem_filterMap.2 ⟨.tmp t,h,rfl⟩)
theorem looksAt_guard {o : Oper} {j t : Nat} {want : Bool} (hg : o.guard = some (j,want)) (ht : (ops[j]?).bind (·.dst) = some t) : t ∈ o.looksAt ops:=by
 unfold Oper.looksAt
 refine List.mem_append_right _ ?_
 simp [hg,ht]
theorem rids_congr {o : Oper} {av av' : Operand → AV} (hav : ∀ x ∈ o.op.operands.toList,av' x = av x) : rids o av' = rids o av:=by
 unfold rids
 cases hop : o.op <;> rw [hop] at hav <;> simp only
 case load T p=>rw [hav p (by simp [Op.operands])]
 case slice T x lo hi mx=>rw [hav x (by simp [Op.operands])]
 case lookup T x i ok=>rw [hav x (by simp [Op.operands])]
 case call c =>
  have h1 : c.args.toList.map av' = c.args.toList.map av:=List.map_congr_left fun x hx=>hav x (by simp only [Op.operands,Call.operands,Array.toList_append];exact List.mem_append_right _ hx)
  rw [h1]
  cases hc : c.callee with
  |value f=>simp only;rw [hav f (by simp only [Op.operands,Call.operands,hc,Array.toList_append];exact List.mem_append_left _ (by simp))]
  |_=>rfl
theorem head_op {l : List Oper} {es : List Ev} {sf0 : Nat → AV} {bf0 : Nat → Option Ct} {m : List Nat} (hok : headOK ops m l (es.map (·.f)) = true) {S : Nat → Prop} {sf sj : Nat → AV} {bf bj : Nat → Option Ct} {j : Nat} {o : Oper} {e : Ev}
 (ho : l[j]? = some o) (he : es[j]? = some e) (hcur : Cur l es sf0 bf0 S sf bf) (hcj : Cur l es sf0 bf0 (fun i=>i < j) sj bj) (hev : evOK P ops o sj bj e)
 (hS : ∀ i,(m.getD j 0).testBit i = true → S i) (hlow : ∀ i,(m.getD j 0).testBit i = true → i < j) (hlen : es.length = l.length)
 (hnews : ∀ (i : Nat) (o : Oper) (e : Ev),l[i]? = some o → es[i]? = some e → e.n ≠ none → newOp o.op = true) : evOK P ops o sf bf e:=by
 have slotEq : ∀ t,t ∈ o.looksAt ops → sf t = sj t:=by
  intro t ht
  by_cases hex : ∃ (i : Nat) (o' : Oper),l[i]? = some o' ∧ o'.dst = some t
  ·obtain ⟨i,o',ho',hd⟩:=hex
   have hb:=(headOK_spec hok ho ho' hd).1 ht
   have hie : i < es.length:=by rw [hlen];exact (List.getElem?_eq_some_iff.1 ho').1
   have he' : es[i]? = some es[i]:=List.getElem?_eq_getElem hie
   rw [hcur.s1 i o' _ t ho' he' (hS i hb) hd,hcj.s1 i o' _ t ho' he' (hlow i hb) hd]
  ·have hno : ∀ (i : Nat) (o' : Oper),l[i]? = some o' → o'.dst ≠ some t:=fun i o' ho' hd=>hex ⟨i,o',ho',hd⟩
   rw [hcur.s0 t (fun i o' ho' _=>hno i o' ho'),hcj.s0 t (fun i o' ho' _=>hno i o' ho')]
 have evalEq : ∀ x ∈ o.op.operands.toList,evalF sf x = evalF sj x:=by
  intro x hx
  cases x with
  |tmp t=>exact slotEq t (looksAt_operand hx)
  |_=>rfl
 have gOnEq : gOn ops o sj → gOn ops o sf:=by
  intro h
  unfold gOn at h ⊢
  split at h
  ·trivial
  ·rename_i j' want hg
   obtain ⟨t,ht,hb⟩:=h
   exact ⟨t,ht,by rw [slotEq t (looksAt_guard hg ht)];exact hb⟩
 have gOffEq : gOff ops o sj → gOff ops o sf:=by
  intro h
  unfold gOff at h ⊢
  split at h
  ·exact h
  ·rename_i j' want hg
   rcases h with h|⟨t,ht,hb⟩
   ·exact .inl h
   ·exact .inr ⟨t,ht,by rw [slotEq t (looksAt_guard hg ht)];exact hb⟩
 unfold evOK at hev ⊢
 by_cases hon : e.on = true
 ·rw [if_pos hon] at hev ⊢
  obtain ⟨hg,hq,hn,hf⟩:=hev
  have hrids : rids o (evalF sf) = rids o (evalF sj):=rids_congr evalEq
  refine ⟨gOnEq hg,qop_congr evalEq (fun id hid=>?_) hq,hn,by rw [hrids];exact hf⟩
  by_cases hex : ∃ (i : Nat) (o' : Oper) (e' : Ev),l[i]? = some o' ∧ es[i]? = some e' ∧ e'.n ≠ none ∧ o'.dst = some id
  ·obtain ⟨i,o',e',ho',he',hn',hd⟩:=hex
   cases hen : e'.n with
   |none=>exact absurd hen hn'
   |some c =>
    have hnew : newOp o'.op = true:=hnews i o' e' ho' he' hn'
    have hb:=(headOK_spec hok ho ho' hd).2.2 hnew (by
     rw [List.getD_eq_getElem?_getD,List.getElem?_map,he,Option.map_some,Option.getD_some,hf]
     exact hid)
    rw [hcur.b1 i o' e' id c ho' he' (hS i hb) hd hen,hcj.b1 i o' e' id c ho' he' (hlow i hb) hd hen]
  ·have hno : ∀ (i : Nat) (o' : Oper) (e' : Ev),l[i]? = some o' → es[i]? = some e' → e'.n ≠ none → o'.dst ≠ some id:=fun i o' e' ho' he' hn' hd=>hex ⟨i,o',e',ho',he',hn',hd⟩
   rw [hcur.b0 id (fun i o' e' ho' he' _=>hno i o' e' ho' he'),hcj.b0 id (fun i o' e' ho' he' _=>hno i o' e' ho' he')]
 ·rw [if_neg hon] at hev ⊢
  exact ⟨gOffEq hev.1,hev.2⟩
end
end Go.Am
end
section
namespace Go.Am
open Go.RowKit
section
variable {P : Program} {E : Env}
theorem backOK_spec {l : List Oper} (h : backOK l = true) {j : Nat} {o : Oper} (ho : l[j]? = some o) {e : Edge} (he : e ∈ o.after) (hb : Region.binds .any e = true) : e.on < j:=by
 have h1:=List.all_eq_true.1 h (o,j) (by rw [List.mem_iff_getElem?];exact ⟨j,by simp [List.getElem?_zipIdx,ho]⟩)
 have h2:=List.all_eq_true.1 h1 e (by simpa using he)
 simpa [hb] using h2
theorem newOK_spec {l : List Oper} {s : AState} (h : newOK l s = true) {i : Nat} {o : Oper} (ho : l[i]? = some o) (hn : newOp o.op = true) {d : Nat} (hd : o.dst = some d) : s.ment d = false ∧ s.box d = none:=by
 have h1:=List.all_eq_true.1 h o (List.mem_of_getElem? ho)
 have h2:=List.all_eq_true.1 h1 d (by simp [newIds,hn,hd])
 simpa using h2
theorem wanted_on {ops : Array Oper} {o : Oper} {H : Heap} {ρ : Rho} {sf : Nat → AV} {bf : Nat → Option Ct} {a : Act} {w : World} (hs : Sim E H ρ sf bf a w) (h : gOn ops o sf) : Region.wanted o (yielded ops a.tmps) = true:=by
 unfold gOn at h
 split at h
 ·rename_i hg;simp [Region.wanted,hg]
 ·rename_i j want hg
  obtain ⟨t,ht,hb⟩:=h
  have:=hs.slots t
  rw [hb] at this
  have hy:=(yielded_of (a:=a) ht).1 want this.v_inv
  simp [Region.wanted,hg,hy]
theorem wanted_off {ops : Array Oper} {o : Oper} {H : Heap} {ρ : Rho} {sf : Nat → AV} {bf : Nat → Option Ct} {a : Act} {w : World} (hs : Sim E H ρ sf bf a w) (h : gOff ops o sf) : Region.wanted o (yielded ops a.tmps) = false:=by
 unfold gOff at h
 split at h
 ·exact h.elim
 ·rename_i j want hg
  rcases h with h|⟨t,ht,hb|hb⟩
  ·have : yielded ops a.tmps j = none:=by unfold yielded;rw [h];rfl
   simp [Region.wanted,hg,this]
  ·have:=hs.slots t
   rw [hb] at this
   have hu : a.tmps.getD t undef = undef:=by
    generalize a.tmps.getD t undef = u at this
    cases this with
    |tup hl hh =>
     rename_i vs
     have : vs = []:=by cases vs with|nil=>rfl|cons=>simp at hl
     subst this
     rfl
   have hy:=(yielded_of (a:=a) ht).2 hu
   simp [Region.wanted,hg,hy]
  ·have:=hs.slots t
   rw [hb] at this
   have hy:=(yielded_of (a:=a) ht).1 _ this.v_inv
   simp [Region.wanted,hg,hy]
theorem wpAny_tail {l : List Oper} {Q : Exit → Act → World → Prop} {m : List Nat} {n : Nat} (hmk : masksOK l m = true) (htl : ∀ t i,n ≤ i → i < t → t < l.length → (m.getD t 0).testBit i = true) (hbk : backOK l = true) : ∀ (f k : Nat) (listed : Array Bool) (a : Act) (w : World),
 n ≤ k → k ≤ l.length → l.length - k ≤ f → listed.size = l.length → (∀ i,i < l.length → listed.getD i true = decide (i < k)) → wpList P l.toArray Q (l.drop k) a w → wpAny P .any l.toArray Q f listed a w:=by
 have ready_iff : ∀ (k : Nat) (listed : Array Bool),n ≤ k → listed.size = l.length → (∀ i,i < l.length → listed.getD i true = decide (i < k)) → ∀ i,i ∈ Region.ready .any l.toArray listed → i = k ∧ k < l.length:=by
  intro k listed hk hsz hli i hi
  obtain ⟨hun,o,ho,hall⟩:=mem_ready.1 hi
  have ho' : l[i]? = some o:=by simpa using ho
  have hil:=(List.getElem?_eq_some_iff.1 ho').1
  have hik : k ≤ i:=by
   rw [hli i hil] at hun
   simpa using hun
  refine ⟨?_,by omega⟩
  by_cases hne : i = k
  ·exact hne
  ·exfalso
   have hcl : ∀ (j : Nat) (o : Oper),l[j]? = some o → decide (j < k ∧ j < l.length) = true → ∀ e ∈ o.after,Region.binds .any e = true → decide (e.on < k ∧ e.on < l.length) = true:=by
    intro j o hj hl e he hb
    have:=backOK_spec hbk hj he hb
    simp at hl ⊢
    omega
   have hl2 : ∀ e ∈ o.after,Region.binds .any e = true → decide (e.on < k ∧ e.on < l.length) = true:=by
    intro e he hb
    have h1:=hall e he hb
    have h2:=backOK_spec hbk ho' he hb
    have h3 : listed.getD e.on true = true:=by
     have : e.on < listed.size:=by omega
     simp only [Array.getD_eq_getD_getElem?,Array.getElem?_eq_getElem this] at h1 ⊢
     exact h1
    rw [hli e.on (by omega)] at h3
    simp at h3 ⊢
    omega
   have:=mask_listed hmk (listed:=fun j=>decide (j < k ∧ j < l.length)) hcl (fun j hj=>by simp at hj;exact hj.2) i o ho' hl2 k (htl i k (by omega) (by omega) hil)
   simp at this
 intro f
 induction f with
 |zero =>
  intro k listed a w hk hkl hf hsz hli h
  have hkl' : k = l.length:=by omega
  have e1 : l.drop k = []:=by rw [hkl'];simp
  rw [e1] at h
  refine ⟨?_,h⟩
  cases hr : Region.ready .any l.toArray listed with
  |nil=>rfl
  |cons i is =>
   have:=ready_iff k listed hk hsz hli i (by rw [hr];simp)
   omega
 |succ f ih =>
  intro k listed a w hk hkl hf hsz hli h
  by_cases hkl' : k = l.length
  ·have e1 : l.drop k = []:=by rw [hkl'];simp
   rw [e1] at h
   refine ⟨fun _=>h,fun i hi=>?_⟩
   have:=ready_iff k listed hk hsz hli i hi
   omega
  ·have hlt : k < l.length:=by omega
   rw [List.drop_eq_getElem_cons hlt] at h
   have hok : l[k]? = some l[k]:=List.getElem?_eq_getElem hlt
   refine ⟨fun h0=>?_,fun i hi=>?_⟩
   ·exfalso
    have : k ∈ Region.ready .any l.toArray listed:=mem_ready.2 ⟨by rw [hli k hlt];simp,l[k],by simp,fun e he hb=>by
     have:=backOK_spec hbk hok he hb
     have h3:=hli e.on (by omega)
     have h4 : e.on < listed.size:=by omega
     simp only [Array.getD_eq_getD_getElem?,Array.getElem?_eq_getElem h4] at h3 ⊢
     rw [Option.getD_some] at h3 ⊢
     rw [h3]
     simpa using this⟩
    rw [h0] at this
    cases this
   ·obtain ⟨rfl,_⟩:=ready_iff k listed hk hsz hli i hi
    unfold wpOp
    simp only [List.getElem?_toArray,hok]
    have hnext : ∀ a w,wpList P l.toArray Q (l.drop (i + 1)) a w → wpAny P .any l.toArray Q f (listed.setIfInBounds i true) a w:=fun a w hw =>
     ih (i + 1) _ a w (by omega) (by omega) (by omega) (by simpa using hsz) (fun j hj=>by
      by_cases hji : i = j
      ·subst hji
       have : i < listed.size:=by omega
       simp [Array.getElem?_setIfInBounds_self_of_lt this]
      ·rw [getD_set_ne true hji,hli j hj]
       simp;omega) hw
    unfold wpList at h
    split
    ·rename_i hw
     rw [if_pos hw] at h
     exact h.imp (Oper.wp_mono hnext) id
    ·rename_i hw
     rw [if_neg hw] at h
     exact hnext _ _ h
theorem Sim.drew {H : Heap} {ρ : Rho} {sf : Nat → AV} {bf : Nat → Option Ct} {a : Act} {w : World} (h : Sim E H ρ sf bf a w) : Sim E H ρ sf bf a { w with drawn:=w.drawn + 1 } :=
 ⟨h.ext,h.slots,h.size,h.defers,⟨h.boxes.rep,h.boxes.apart,h.boxes.inj⟩,h.h0,h.new,⟨h.frame.os,h.frame.tape,⟨h.frame.output.1,Nat.le_succ_of_le h.frame.output.2⟩,h.frame.size,h.frame.block⟩,h.keep,h.nle⟩
theorem draw_any {s : AState} {Q : AExit → AState → Prop} {l : List Oper} (n : Nat) (hdst : dstOK E.n l = true) (hnew : newOK (l.take n) s = true)
 (h : RKQ P l.toArray (l.take n) s [] (fun s' fps=>drawOK l n fps = true ∧ RK P E l.toArray (l.drop n) s' (Q .normal))) :
 ∀ (H : Heap) (ρ : Rho) (a : Act) (w : World),Sim E H ρ s.slot s.box a w → wpAny P .any l.toArray (post E Q) l.toArray.size (Array.replicate l.toArray.size false) a { w with drawn:=w.drawn + 1 }:=by
 intro H ρ a w hs0
 obtain ⟨es,s',hrun,hok,hrk⟩:=RKQ_run (P:=P) (ops:=l.toArray) (l.take n) s [] _ h
 simp only [List.nil_append] at hok
 simp only [drawOK,Bool.and_eq_true] at hok
 obtain ⟨⟨⟨hmk,hhd⟩,htl⟩,hbk⟩:=hok
 generalize hmasks : mkMasks l 0 [] = m at hmk hhd htl
 have hlate : (∀ t i,n ≤ t → t < l.length → i < t → (m.getD t 0).testBit i = true) ∨ ∃ p oi,l[p]? = some oi ∧ p < n ∧ oi.guard = none ∧ lateOp oi.op = true ∧
  (∀ t i,n ≤ t → t < l.length → i < t → i ≠ p → (m.getD t 0).testBit i = true) ∧ (∀ (j : Nat) (o : Oper) cs b,l.toArray[j]? = some o → o.op ≠ .select cs b) ∧
  (∀ j oj,l[j]? = some oj → n ≤ j → (∀ e ∈ oj.after,Region.binds .any e = true → e.on ≠ p) → oi.apart l.toArray oj = true):=by
  rcases Bool.or_eq_true_iff.1 htl with h|h
  ·exact .inl fun t i h1 h2 h3=>tailOK_spec h h2 h1 i h3
  ·obtain ⟨p,hp,hpo⟩:=List.any_eq_true.1 h
   rw [List.mem_range] at hp
   unfold latePOK at hpo
   simp only [Bool.and_eq_true] at hpo
   obtain ⟨⟨h1,h2⟩,h3⟩:=hpo
   split at h1
   ·rename_i oi hoi
    simp only [Bool.and_eq_true,Option.isNone_iff_eq_none] at h1
    obtain ⟨⟨h4,h5⟩,h6⟩:=h1
    ·refine .inr ⟨p,oi,hoi,hp,h4,h5,fun t i g1 g2 g3 g4=>?_,fun j o cs b ho heq=>?_,fun j oj hj g1 g2=>?_⟩
     ·have:=List.all_eq_true.1 h2 t (List.mem_range.2 g2)
      simp only [Bool.or_eq_true,decide_eq_true_eq] at this
      rcases this with h|h
      ·omega
      ·have:=List.all_eq_true.1 h i (List.mem_range.2 g3)
       simp only [Bool.or_eq_true,beq_iff_eq] at this
       rcases this with h|h
       ·exact absurd h g4
       ·exact h
     ·have:=List.all_eq_true.1 h3 o (List.mem_of_getElem? (by simpa using ho))
      rw [heq] at this
      cases this
     ·have:=List.all_eq_true.1 h6 j (List.mem_range.2 (List.getElem?_eq_some_iff.1 hj).1)
      simp only [hj,Bool.or_eq_true,decide_eq_true_eq] at this
      rcases this with h|h|h
      ·omega
      ·obtain ⟨e,he,hb⟩:=List.any_eq_true.1 h
       simp only [Bool.and_eq_true,beq_iff_eq] at hb
       exact absurd hb.2 (g2 e (by simpa using he) hb.1)
      ·exact h
   ·cases h1
 have htl1 : ∀ t i,n ≤ i → i < t → t < l.length → (m.getD t 0).testBit i = true:=by
  intro t i h1 h2 h3
  rcases hlate with h|⟨p,oi,_,hp,_,_,h,_⟩
  ·exact h t i (by omega) h3 h2
  ·exact h t i (by omega) h3 h2 (by omega)
 have hlen:=RunQ_len hrun
 have hap:=headOK_apart hhd
 have hds:=dstOK_spec hdst
 obtain ⟨hat,hend⟩:=RunQ_at (sf0:=s.slot) (bf0:=s.box) hap 0 s.slot s.box (by simpa using hrun) ⟨fun _ _ _ _ _ _ h=>by omega,fun _ _=>rfl,fun _ _ _ _ _ _ _ h=>by omega,fun _ _=>rfl⟩ hlen (Nat.zero_le _)
 have hnews : ∀ (i : Nat) (o : Oper) (e : Ev),(l.take n)[i]? = some o → es[i]? = some e → e.n ≠ none → newOp o.op = true:=by
  intro i o e ho he hn
  obtain ⟨sj,bj,_,hev⟩:=hat i o e (Nat.zero_le _) ho he
  unfold evOK at hev
  split at hev
  ·exact hev.2.2.1 hn
  ·exact absurd hev.2.2.1 hn
 have hlow : ∀ j (o : Oper),l[j]? = some o → ∀ i,(m.getD j 0).testBit i = true → i < j:=by
  intro j
  induction j using Nat.strongRecOn with
  |_ j ih =>
   intro o ho i hi
   obtain ⟨e,he,hb,hlt,h|h⟩:=masksOK_spec hmk ho hi
   ·omega
   ·have hel : e.on < l.length:=by have:=(List.getElem?_eq_some_iff.1 ho).1;omega
    have:=ih e.on hlt _ (List.getElem?_eq_getElem hel) i h
    omega
 let ρ0 : Rho:=fun d=>if s.ment d = false ∧ s.box d = none ∧ d < 1000000 then .no else ρ d
 have hρ0 : ∀ d,s.ment d = true → ρ0 d = ρ d:=fun d hd=>by simp [ρ0,hd]
 have hs : Sim E H ρ0 s.slot s.box a { w with drawn:=w.drawn + 1 }:=by
  have hs1:=hs0.drew
  refine ⟨hs1.ext,fun i=>(hs1.slots i).rho (fun d hd=>hρ0 d ?_),hs1.size,hs1.defers,⟨fun id c hc=>?_,fun id c b cap hc hb=>?_,fun i j ci cj bi capi capj hi hj hbi hbj=>?_⟩,hs1.h0,hs1.new,hs1.frame,fun i hi=>(by simp only [ρ0];rw [if_neg (by omega)];exact hs1.keep i hi),hs1.nle⟩
  ·cases hm : s.ment d with
   |true=>rfl
   |false=>rw [AState.ment_slot hm] at hd;cases hd
  ·have hid : ρ0 id = ρ id:=by simp [ρ0,hc]
   rw [hid]
   refine (hs1.boxes.rep id c hc).mono H.le_refl (fun d hd=>hρ0 d ?_) (fun _ _ _=>rfl)
   cases hm : s.ment d with
   |true=>rfl
   |false=>rw [AState.ment_box hm hc] at hd;cases hd
  ·have hid : ρ0 id = ρ id:=by simp [ρ0,hc]
   rw [hid] at hb
   exact hs1.boxes.apart id c b cap hc hb
  ·have hid : ρ0 i = ρ i:=by simp [ρ0,hi]
   have hjd : ρ0 j = ρ j:=by simp [ρ0,hj]
   rw [hid] at hbi
   rw [hjd] at hbj
   exact hs1.boxes.inj i j ci cj bi capi capj hi hj hbi hbj
 have hno0 : ∀ (i : Nat) (o : Oper) (d : Nat),(l.take n)[i]? = some o → newOp o.op = true → o.dst = some d → ρ0 d = .no ∧ s.box d = none:=by
  intro i o d ho hn hd
  have:=newOK_spec hnew ho hn hd
  have hlt : d < 1000000:=Nat.lt_of_lt_of_le (hds o (List.mem_of_mem_take (List.mem_of_getElem? ho)) d hd) hs0.nle
  exact ⟨by simp [ρ0,this.1,this.2,hlt],this.2⟩
 have htk : ∀ (i : Nat) (o : Oper),(l.take n)[i]? = some o → l[i]? = some o ∧ i < n:=by
  intro i o h
  rw [List.getElem?_take] at h
  split at h
  ·exact ⟨h,by assumption⟩
  ·cases h
 have key : ∀ (f : Nat) (listed : Array Bool) (U : List Nat) (a : Act) (w : World) (H : Heap) (ρ : Rho) (sf : Nat → AV) (bf : Nat → Option Ct),U.Nodup → U.length ≤ f → listed.size = l.length →
  (∀ i,i ∈ U ↔ i < l.length ∧ listed.getD i true = false) → (∀ i,n ≤ i → i < l.length → listed.getD i true = false) →
  (∀ (j : Nat) (o : Oper),l[j]? = some o → listed.getD j true = true → ∀ e ∈ o.after,Region.binds .any e = true → listed.getD e.on true = true) →
  Sim E H ρ sf bf a w → Cur (l.take n) es s.slot s.box (fun i=>i < l.length ∧ listed.getD i true = true) sf bf →
  (∀ (i : Nat) (o : Oper) (d : Nat),(l.take n)[i]? = some o → listed.getD i true = false → newOp o.op = true → o.dst = some d → ρ d = .no ∧ bf d = none) →
  wpAny P .any l.toArray (post E Q) f listed a w:=by
  intro f
  induction f with
  |zero =>
   intro listed U a w H ρ sf bf hnd hU hsz hmem htail hcl hsim hcur hno
   have hU0 : U = []:=List.eq_nil_of_length_eq_zero (by omega)
   have hall : ∀ i,i < l.length → listed.getD i true = true:=by
    intro i hi
    cases hb : listed.getD i true with
    |true=>rfl
    |false=>have:=(hmem i).2 ⟨hi,hb⟩;rw [hU0] at this;cases this
   have hnl : l.length ≤ n:=by
    rcases Nat.lt_or_ge n l.length with h|h
    ·have h1:=hall n h
     rw [htail n (Nat.le_refl _) h] at h1
     cases h1
    ·exact h
   have htake : l.take n = l:=List.take_of_length_le hnl
   refine ⟨?_,?_⟩
   ·cases hr : Region.ready .any l.toArray listed with
    |nil=>rfl
    |cons i is =>
     have hi : i ∈ Region.ready .any l.toArray listed:=by rw [hr];simp
     obtain ⟨hun,o,ho,_⟩:=mem_ready.1 hi
     have ho' : l[i]? = some o:=by simpa using ho
     rw [hall i (List.getElem?_eq_some_iff.1 ho').1] at hun
     cases hun
   ·rw [htake] at hend hcur
    have hrk' : Q .normal s':=by
     rw [List.drop_of_length_le hnl] at hrk
     exact hrk
    refine ⟨s',H,ρ,hrk',?_⟩
    have e1 : sf = s'.slot:=by
     funext x
     by_cases hex : ∃ (i : Nat) (o' : Oper),l[i]? = some o' ∧ o'.dst = some x
     ·obtain ⟨i,o',ho',hd⟩:=hex
      have hil:=(List.getElem?_eq_some_iff.1 ho').1
      have hie : i < es.length:=by rw [hlen,htake];exact hil
      have he' : es[i]? = some es[i]:=List.getElem?_eq_getElem hie
      rw [hcur.s1 i o' _ x ho' he' ⟨hil,hall i hil⟩ hd,hend.s1 i o' _ x ho' he' hil hd]
     ·have hno' : ∀ (i : Nat) (o' : Oper),l[i]? = some o' → o'.dst ≠ some x:=fun i o' ho' hd=>hex ⟨i,o',ho',hd⟩
      rw [hcur.s0 x (fun i o' ho' _=>hno' i o' ho'),hend.s0 x (fun i o' ho' _=>hno' i o' ho')]
    have e2 : bf = s'.box:=by
     funext x
     by_cases hex : ∃ (i : Nat) (o' : Oper) (e' : Ev),l[i]? = some o' ∧ es[i]? = some e' ∧ e'.n ≠ none ∧ o'.dst = some x
     ·obtain ⟨i,o',e',ho',he',hn',hd⟩:=hex
      have hil:=(List.getElem?_eq_some_iff.1 ho').1
      cases hen : e'.n with
      |none=>exact absurd hen hn'
      |some c=>rw [hcur.b1 i o' e' x c ho' he' ⟨hil,hall i hil⟩ hd hen,hend.b1 i o' e' x c ho' he' hil hd hen]
     ·have hno' : ∀ (i : Nat) (o' : Oper) (e' : Ev),l[i]? = some o' → es[i]? = some e' → e'.n ≠ none → o'.dst ≠ some x:=fun i o' e' ho' he' hn' hd=>hex ⟨i,o',e',ho',he',hn',hd⟩
      rw [hcur.b0 x (fun i o' e' ho' he' _=>hno' i o' e' ho' he'),hend.b0 x (fun i o' e' ho' he' _=>hno' i o' e' ho' he')]
    rw [← e1,← e2]
    exact hsim
  |succ f ih =>
   intro listed U a w H ρ sf bf hnd hU hsz hmem htail hcl hsim hcur hno
   by_cases hdone : ∀ i,i < n → i < l.length → listed.getD i true = true
   ·
    have hnn : min n l.length ≤ l.length:=by omega
    have hli : ∀ i,i < l.length → listed.getD i true = decide (i < min n l.length):=by
     intro i hi
     by_cases hin : i < n
     ·rw [hdone i hin hi];simp;omega
     ·rw [htail i (by omega) hi];simp;omega
    have hUl : l.length - min n l.length ≤ f + 1:=by
     have hsub : (List.range' n (l.length - n)).length ≤ U.length:=by
      apply List.Nodup.length_le_of_subset List.nodup_range'
      intro i hi
      rw [List.mem_range'_1] at hi
      exact (hmem i).2 ⟨by omega,htail i hi.1 (by omega)⟩
     simp at hsub
     omega
    refine wpAny_tail (P:=P) (n:=min n l.length) hmk (fun t i h1 h2 h3=>htl1 t i (by omega) h2 h3) hbk (f + 1) (min n l.length) listed a w (Nat.le_refl _) hnn hUl hsz hli ?_
    have e1 : sf = s'.slot:=by
     funext x
     by_cases hex : ∃ (i : Nat) (o' : Oper),(l.take n)[i]? = some o' ∧ o'.dst = some x
     ·obtain ⟨i,o',ho',hd⟩:=hex
      have hil:=(htk i o' ho')
      have hie : i < es.length:=by rw [hlen];exact (List.getElem?_eq_some_iff.1 ho').1
      have hill:=(List.getElem?_eq_some_iff.1 hil.1).1
      have he' : es[i]? = some es[i]:=List.getElem?_eq_getElem hie
      rw [hcur.s1 i o' _ x ho' he' ⟨hill,hdone i hil.2 hill⟩ hd,hend.s1 i o' _ x ho' he' (List.getElem?_eq_some_iff.1 ho').1 hd]
     ·have hno' : ∀ (i : Nat) (o' : Oper),(l.take n)[i]? = some o' → o'.dst ≠ some x:=fun i o' ho' hd=>hex ⟨i,o',ho',hd⟩
      rw [hcur.s0 x (fun i o' ho' _=>hno' i o' ho'),hend.s0 x (fun i o' ho' _=>hno' i o' ho')]
    have e2 : bf = s'.box:=by
     funext x
     by_cases hex : ∃ (i : Nat) (o' : Oper) (e' : Ev),(l.take n)[i]? = some o' ∧ es[i]? = some e' ∧ e'.n ≠ none ∧ o'.dst = some x
     ·obtain ⟨i,o',e',ho',he',hn',hd⟩:=hex
      have hil:=(htk i o' ho')
      have hill:=(List.getElem?_eq_some_iff.1 hil.1).1
      cases hen : e'.n with
      |none=>exact absurd hen hn'
      |some c=>rw [hcur.b1 i o' e' x c ho' he' ⟨hill,hdone i hil.2 hill⟩ hd hen,hend.b1 i o' e' x c ho' he' (List.getElem?_eq_some_iff.1 ho').1 hd hen]
     ·have hno' : ∀ (i : Nat) (o' : Oper) (e' : Ev),(l.take n)[i]? = some o' → es[i]? = some e' → e'.n ≠ none → o'.dst ≠ some x:=fun i o' e' ho' he' hn' hd=>hex ⟨i,o',e',ho',he',hn',hd⟩
      rw [hcur.b0 x (fun i o' e' ho' he' _=>hno' i o' e' ho' he'),hend.b0 x (fun i o' e' ho' he' _=>hno' i o' e' ho' he')]
    have hdrop : l.drop (min n l.length) = l.drop n:=by
     rcases Nat.lt_or_ge n l.length with h|h
     ·rw [Nat.min_eq_left (by omega)]
     ·rw [Nat.min_eq_right h,List.drop_of_length_le h,List.drop_length]
    rw [hdrop]
    rw [e1,e2] at hsim
    exact RK_sound (P:=P) (fun o ho=>hds o (by simpa using ho)) (l.drop n) s' _ (fun o ho=>by simpa using List.mem_of_mem_drop ho) hrk hsim (fun s2 H2 ρ2 a2 w2 hk2 hs2=>⟨s2,H2,ρ2,hk2,hs2⟩)
   ·
    have hex : ∃ j,j < n ∧ j < l.length ∧ listed.getD j true = false:=by
     apply Classical.byContradiction
     intro hc
     apply hdone
     intro i h1 h2
     cases hb : listed.getD i true with
     |true=>rfl
     |false=>exact absurd ⟨i,h1,h2,hb⟩ hc
    have prep : ∀ (i : Nat) (o : Oper),l[i]? = some o → listed.getD i true = false → i < n → (∀ e ∈ o.after,Region.binds .any e = true → listed.getD e.on true = true) → (∀ k,(m.getD i 0).testBit k = true → (decide (k < l.length) && listed.getD k true) = true) →
     ∃ ev,es[i]? = some ev ∧ (l.take n)[i]? = some o ∧ evOK P l.toArray o sf bf ev ∧ (ev.n ≠ none → newOp o.op = true) ∧ (∀ t,o.dst = some t → t < E.n) ∧
       (∀ {a' : Act} {w' : World} {H' : Heap} {ρ' : Rho},Sim E H' ρ' (putF sf o.dst ev.x) (addF bf o.dst ev.n) a' w' →
         (∀ d,o.dst ≠ some d ∨ newOp o.op = false → ρ' d = ρ d) → wpAny P .any l.toArray (post E Q) f (listed.setIfInBounds i true) a' w'):=by
     intro i o ho' hun hin hall' hmask
     have hil:=(List.getElem?_eq_some_iff.1 ho').1
     have hot : (l.take n)[i]? = some o:=by rw [List.getElem?_take,if_pos hin];exact ho'
     have hie : i < es.length:=by rw [hlen];exact (List.getElem?_eq_some_iff.1 hot).1
     have hee : es[i]? = some es[i]:=List.getElem?_eq_getElem hie
     obtain ⟨sj,bj,hcj,hevj⟩:=hat i o es[i] (Nat.zero_le _) hot hee
     have hev:=head_op (P:=P) (ops:=l.toArray) hhd hot hee hcur hcj hevj (fun k hk=>by
      have:=hmask k hk
      simpa using this) (hlow i o ho') hlen hnews
     have hd:=hds o (List.mem_of_getElem? ho')
     have hU' : i ∈ U:=(hmem i).2 ⟨hil,hun⟩
     have next : ∀ {a' : Act} {w' : World} {H' : Heap} {ρ' : Rho},Sim E H' ρ' (putF sf o.dst (es[i]).x) (addF bf o.dst (es[i]).n) a' w' →
      (∀ d,o.dst ≠ some d ∨ newOp o.op = false → ρ' d = ρ d) → wpAny P .any l.toArray (post E Q) f (listed.setIfInBounds i true) a' w':=by
      intro a' w' H' ρ' hsim' hρ'
      have hset : ∀ j,(listed.setIfInBounds i true).getD j true = if i = j then true else listed.getD j true:=by
       intro j
       split
       ·rename_i e;subst e
        have : i < listed.size:=by omega
        simp [Array.getElem?_setIfInBounds_self_of_lt this]
       ·rename_i e;rw [getD_set_ne true e]
      refine ih (listed.setIfInBounds i true) (U.erase i) a' w' H' ρ' _ _ (hnd.erase i) (by rw [List.length_erase_of_mem hU'];omega) (by simpa using hsz) (fun j=>?_) (fun j hj hjl=>?_) (fun j o2 ho2 hl2 e he hb=>?_) hsim' ?_ (fun j o2 d ho2 hl2 hn2 hd2=>?_)
      ·rw [hnd.mem_erase_iff,hmem,hset]
       constructor
       ·rintro ⟨h1,h2,h3⟩
        exact ⟨h2,by rw [if_neg (Ne.symm h1)];exact h3⟩
       ·rintro ⟨h1,h2⟩
        split at h2
        ·cases h2
        ·rename_i e;exact ⟨Ne.symm e,h1,h2⟩
      ·rw [hset,if_neg (by omega)];exact htail j hj hjl
      ·rw [hset] at hl2 ⊢
       split
       ·rfl
       ·split at hl2
        ·rename_i e2;subst e2
         rw [ho'] at ho2;cases ho2
         exact hall' e he hb
        ·exact hcl j o2 ho2 hl2 e he hb
      ·have hstep:=hcur.step hap hot hee (fun hc=>by rw [hun] at hc;cases hc.2)
       have : (fun j=>(j < l.length ∧ listed.getD j true = true) ∨ j = i) = (fun j=>j < l.length ∧ (listed.setIfInBounds i true).getD j true = true):=by
        funext j
        apply propext
        rw [hset]
        constructor
        ·rintro (⟨h1,h2⟩|rfl)
         ·exact ⟨h1,by split;rfl;exact h2⟩
         ·exact ⟨hil,by rw [if_pos rfl]⟩
        ·rintro ⟨h1,h2⟩
         split at h2
         ·rename_i e;exact .inr e.symm
         ·exact .inl ⟨h1,h2⟩
       rw [this] at hstep
       exact hstep
      ·rw [hset] at hl2
       split at hl2
       ·cases hl2
       ·rename_i hne
        have hdn : o.dst ≠ some d:=fun hod=>hne (hap i j o o2 d hot ho2 hod hd2)
        obtain ⟨h1,h2⟩:=hno j o2 d ho2 hl2 hn2 hd2
        refine ⟨by rw [hρ' d (.inl hdn)];exact h1,?_⟩
        cases hod : o.dst with
        |none=>exact h2
        |some d' =>
         cases (es[i]).n with
         |none=>exact h2
         |some c =>
          simp only [addF]
          split
          ·rename_i e;subst e;exact absurd hod hdn
          ·exact h2
     refine ⟨es[i],hee,hot,hev,fun h=>hnews i o _ hot hee h,hd,next⟩
    by_cases hlt : ∃ p oi,l[p]? = some oi ∧ p < n ∧ oi.guard = none ∧ lateOp oi.op = true ∧ (∀ (j : Nat) (o : Oper) cs b,l.toArray[j]? = some o → o.op ≠ .select cs b) ∧
     (∀ j oj,l[j]? = some oj → n ≤ j → (∀ e ∈ oj.after,Region.binds .any e = true → e.on ≠ p) → oi.apart l.toArray oj = true) ∧ listed.getD p true = false ∧ ∀ j,j < n → j < l.length → j ≠ p → listed.getD j true = true
    ·
     obtain ⟨p,oi,hoi,hpn,hgd,hop,hns,hfree,hpun,hrest⟩:=hlt
     have hpl:=(List.getElem?_eq_some_iff.1 hoi).1
     have hpall : ∀ e ∈ oi.after,Region.binds .any e = true → listed.getD e.on true = true:=by
      intro e he hb
      have:=backOK_spec hbk hoi he hb
      exact hrest e.on (by omega) (by omega) (by omega)
     obtain ⟨ev,hev1,hot,hev,hnw,hd,next⟩:=prep p oi hoi hpun hpn hpall (fun k hk=>by
      have:=hlow p oi hoi k hk
      simp only [Bool.and_eq_true,decide_eq_true_eq]
      exact ⟨by omega,hrest k (by omega) (by omega) (by omega)⟩)
     unfold evOK at hev
     split at hev
     ·obtain ⟨hg,hq,hn,_⟩:=hev
      have hnone : ev.n = none:=by
       cases hen : ev.n with
       |none=>rfl
       |some c =>
        have:=hn (by rw [hen];simp)
        unfold lateOp at hop
        split at hop
        ·rename_i h0;rw [h0] at this;simp [newOp] at this
        ·rename_i h0;rw [h0] at this;simp [newOp] at this
        ·cases hop
      have hyl : ∃ u,(∀ w,(execOp a.eval oi).run P w = .ok (.value u) w) ∧ Rep H ρ ev.x u:=by
       unfold qop at hq
       unfold lateOp at hop
       split at hop
       ·rename_i tt ii h0
        rw [h0] at hq
        simp only at hq
        have ht:=hsim.eval (.tmp tt)
        split at hq
        ·rename_i xs hx
         rw [hx] at ht
         split at hq
         ·rename_i x hxi
          cases hv : a.eval (.tmp tt) with
          |tuple vs =>
           rw [hv] at ht
           cases ht with
           |tup hl hh =>
            rename_i vs
            obtain ⟨u,hu,hr⟩:=RepL.get ⟨hl,hh⟩ hxi
            exact ⟨u,fun w=>by simp [execOp,h0,Instr.extract,hv,hu],hq.1 ▸ hr⟩
          |_=>rw [hv] at ht;cases ht
         ·exact hq.elim
        ·exact hq.elim
       ·rename_i x h0
        rw [h0] at hq
        simp only at hq
        exact ⟨a.eval x,fun w=>by simp [execOp,h0],hq.1 ▸ hsim.eval x⟩
       ·cases hop
      obtain ⟨u,hu,hru⟩:=hyl
      have hw : Region.wanted oi (yielded l.toArray a.tmps) = true:=by simp [Region.wanted,hgd]
      have hsim2:=hsim.put hd hru
      have e0 : addF bf oi.dst ev.n = bf:=by rw [hnone];cases oi.dst <;> rfl
      refine wpAny_first (by simpa using hoi) hns (fun c a w h=>h) f listed a w ?_ ?_ (.inl ⟨hw,hu⟩) (next (by rw [e0];exact hsim2) (fun _ _=>rfl))
      ·intro j oj hj hjp hjun hno
       have hj' : l[j]? = some oj:=by simpa using hj
       refine hfree j oj hj' ?_ hno
       rcases Nat.lt_or_ge j n with h|h
       ·have:=hrest j h (List.getElem?_eq_some_iff.1 hj').1 hjp
        rw [hjun] at this;cases this
       ·exact h
      ·refine mem_ready.2 ⟨hpun,oi,by simpa using hoi,fun e he hb=>?_⟩
       have h5:=hpall e he hb
       have:=backOK_spec hbk hoi he hb
       have h6 : e.on < listed.size:=by omega
       simp only [Array.getD_eq_getD_getElem?,Array.getElem?_eq_getElem h6] at h5 ⊢
       exact h5
     ·obtain ⟨hg,_⟩:=hev
      unfold gOff at hg
      rw [hgd] at hg
      exact hg.elim
    have hexj : ∃ j,j < n ∧ j < l.length ∧ listed.getD j true = false ∧ ∀ t,n ≤ t → t < l.length → (m.getD t 0).testBit j = true:=by
     rcases hlate with h|⟨p,oi,hoi,hpn,hgd,hop,htb,hns,hfree⟩
     ·obtain ⟨j,h1,h2,h3⟩:=hex
      exact ⟨j,h1,h2,h3,fun t g1 g2=>h t j g1 g2 (by omega)⟩
     ·by_cases hj : ∃ j,j < n ∧ j < l.length ∧ j ≠ p ∧ listed.getD j true = false
      ·obtain ⟨j,h1,h2,h3,h4⟩:=hj
       exact ⟨j,h1,h2,h4,fun t g1 g2=>htb t j g1 g2 (by omega) h3⟩
      ·exfalso
       have hall : ∀ j,j < n → j < l.length → j ≠ p → listed.getD j true = true:=by
        intro j h1 h2 h3
        cases hb : listed.getD j true with
        |true=>rfl
        |false=>exact absurd ⟨j,h1,h2,h3,hb⟩ hj
       obtain ⟨j,h1,h2,h3⟩:=hex
       have hjp : j = p:=by
        apply Classical.byContradiction
        intro hne
        rw [hall j h1 h2 hne] at h3;cases h3
       subst hjp
       exact hlt ⟨j,oi,hoi,hpn,hgd,hop,hns,hfree,h3,hall⟩
    refine ⟨fun h0=>?_,fun i hi=>?_⟩
    ·exfalso
     have least : ∀ k,(∃ j,j ≤ k ∧ j < l.length ∧ listed.getD j true = false) → ∃ j,j < l.length ∧ listed.getD j true = false ∧ ∀ i,i < j → listed.getD i true = true:=by
      intro k
      induction k with
      |zero =>
       rintro ⟨j,h1,h2,h3⟩
       have : j = 0:=by omega
       subst this
       exact ⟨0,h2,h3,fun i hi=>by omega⟩
      |succ k ihk =>
       rintro ⟨j,h1,h2,h3⟩
       by_cases hlt : ∃ j,j ≤ k ∧ j < l.length ∧ listed.getD j true = false
       ·exact ihk hlt
       ·refine ⟨j,h2,h3,fun i hi=>?_⟩
        cases hb : listed.getD i true with
        |true=>rfl
        |false=>exact absurd ⟨i,by omega,by omega,hb⟩ hlt
     obtain ⟨j0,hj0,hj1,hj2⟩:=hex
     obtain ⟨j,h2,h3,h4⟩:=least j0 ⟨j0,Nat.le_refl _,hj1,hj2⟩
     have hoj : l[j]? = some l[j]:=List.getElem?_eq_getElem h2
     have : j ∈ Region.ready .any l.toArray listed:=mem_ready.2 ⟨h3,l[j],by simp,fun e he hb=>by
      have hlt:=backOK_spec hbk hoj he hb
      have h5:=h4 e.on hlt
      have h6 : e.on < listed.size:=by omega
      simp only [Array.getD_eq_getD_getElem?,Array.getElem?_eq_getElem h6] at h5 ⊢
      exact h5⟩
     rw [h0] at this
     cases this
    ·obtain ⟨hun,o,ho,hall⟩:=mem_ready.1 hi
     have ho' : l[i]? = some o:=by simpa using ho
     have hil:=(List.getElem?_eq_some_iff.1 ho').1
     have hall' : ∀ e ∈ o.after,Region.binds .any e = true → listed.getD e.on true = true:=by
      intro e he hb
      have h1:=hall e he hb
      have h2:=backOK_spec hbk ho' he hb
      have h6 : e.on < listed.size:=by omega
      simp only [Array.getD_eq_getD_getElem?,Array.getElem?_eq_getElem h6] at h1 ⊢
      exact h1
     have hmask:=mask_listed hmk (listed:=fun j=>decide (j < l.length) && listed.getD j true) (fun j o hj hl e he hb=>by
      simp only [Bool.and_eq_true,decide_eq_true_eq] at hl ⊢
      have:=backOK_spec hbk hj he hb
      exact ⟨by omega,hcl j o hj hl.2 e he hb⟩) (fun j hj=>by simp only [Bool.and_eq_true,decide_eq_true_eq] at hj;exact hj.1) i o ho' (fun e he hb=>by
      simp only [Bool.and_eq_true,decide_eq_true_eq]
      have:=backOK_spec hbk ho' he hb
      exact ⟨by omega,hall' e he hb⟩)
     have hin : i < n:=by
      rcases Nat.lt_or_ge i n with h|h
      ·exact h
      ·exfalso
       obtain ⟨j,hj1,hj2,hj3,hj4⟩:=hexj
       have:=hmask j (hj4 i h hil)
       simp only [Bool.and_eq_true,decide_eq_true_eq] at this
       rw [hj3] at this
       cases this.2
     obtain ⟨ev,hee,hot,hev,hnw,hd,next⟩:=prep i o ho' hun hin hall' (fun k hk=>by have:=hmask k hk;simpa using this)
     unfold wpOp
     simp only [ho]
     unfold evOK at hev
     split at hev
     ·obtain ⟨hg,hq,hn,_⟩:=hev
      rw [if_pos (wanted_on hsim hg)]
      refine .inl ?_
      have hfr2 : newOp o.op = true → ∀ d,o.dst = some d → ρ d = .no:=fun hn2 d hd2=>(hno i o d hot hun hn2 hd2).1
      refine Oper.wp_mono ?_ (qop_sound (Q:=post E Q) (fun x _=>hsim.eval x) hsim.ext hsim.boxes.rep (fun hn2 d hd2 x _=>(hsim.eval x).noment (hfr2 hn2 d hd2)) hq)
      intro a' w' hqp
      obtain ⟨x,n',H',ρ',⟨hx,hn'⟩,hρ',hsim'⟩:=hsim.quiet2 hd (fun x c hxc t ht=>by
       have hnw : newOp o.op = true:=hn (by rw [← hxc.2];simp)
       have h0:=hfr2 hnw t ht
       exact ⟨fun j=>(hsim.slots j).noment h0,fun id c hc=>(hsim.boxes.rep id c hc).noment h0⟩) hqp
      rw [hx,hn'] at hsim'
      refine next hsim' (fun d hd'=>hρ' d ?_)
      rcases hd' with hd'|hd'
      ·exact .inr hd'
      ·left
       rw [hn']
       cases hen : ev.n with
       |none=>rfl
       |some c=>have:=hn (by rw [hen];simp);rw [hd'] at this;cases this
     ·obtain ⟨hg,hx,hn,_⟩:=hev
      rw [if_neg (by rw [wanted_off hsim hg];simp)]
      refine next (H':=H) (ρ':=ρ) ?_ (fun _ _=>rfl)
      rw [hx,hn]
      have : addF bf o.dst none = bf:=by cases o.dst <;> rfl
      rw [this]
      exact hsim.put hd Rep.undef
 have hrep : ∀ i,i < l.length → (Array.replicate l.toArray.size false).getD i true = false:=fun i hi=>by simp [Array.getElem?_replicate,hi]
 refine key l.toArray.size (Array.replicate l.toArray.size false) (List.range l.length) a _ H ρ0 s.slot s.box List.nodup_range (by simp) (by simp) (fun i=>?_) (fun i _ hi=>hrep i hi) (fun j o ho hl=>?_) hs
  ⟨fun i o e d ho he h=>?_,fun _ _=>rfl,fun i o e d c ho he h=>?_,fun _ _=>rfl⟩ (fun i o d ho _ hn hd=>hno0 i o d ho hn hd)
 ·rw [List.mem_range]
  exact ⟨fun h=>⟨h,hrep i h⟩,fun h=>h.1⟩
 ·rw [hrep j (List.getElem?_eq_some_iff.1 ho).1] at hl;cases hl
 ·rw [hrep i h.1] at h;cases h.2
 ·rw [hrep i h.1] at h;cases h.2
theorem AW_draw {s : AState} {Q : AExit → AState → Prop} {id : Nat} {l : List Oper} (n : Nat) (hm : P.follows .mixedOrders = true) (hdst : dstOK E.n l = true) (hnew : newOK (l.take n) s = true)
 (h : RKQ P l.toArray (l.take n) s [] (fun s' fps=>drawOK l n fps = true ∧ RK P E l.toArray (l.drop n) s' (Q .normal))) : AW P E (.region id l.toArray true) s Q :=
 fun H ρ a w hs=>wp_region_any hm (draw_any n hdst hnew h H ρ a w hs)
end
end Go.Am
end
section
namespace Go.Am
open Go.RowKit
def argSlots : Nat → List AV → List (Nat × AV)
 |_,[]=>[]
 |k,x :: xs=>(k,x) :: argSlots (k + 1) xs
theorem argSlots_lk : ∀ {args : List AV} {k i : Nat},lk (argSlots k args) i = if k ≤ i then args[i - k]? else none
 |[],k,i=>by simp [argSlots,lk]
 |x :: xs,k,i=>by
  simp only [argSlots,lk]
  by_cases h : k = i
  ·subst h;simp
  ·rw [if_neg h,argSlots_lk]
   by_cases h2 : k ≤ i
   ·have h3 : k + 1 ≤ i:=by omega
    rw [if_pos h2,if_pos h3,show i - k = (i - (k + 1)) + 1 by omega,List.getElem?_cons_succ]
   ·rw [if_neg h2,if_neg (by omega)]
def retK (P : Program) : List ResultVar → AState → (List AV → Prop) → Prop
 |[],_,K=>K []
 |.tmp t :: rs,s,K=>retK P rs s (fun xs=>K (s.slot t :: xs))
 |.cell a T :: rs,s,K=>qload P T (s.slot a) (lkA s.box (s.slot a)) (fun x=>retK P rs s (fun xs=>K (x :: xs)))
def tupAV : List AV → AV
 |[x]=>x
 |xs=>.tup xs
section
variable {P : Program}
theorem loadVar_of {T : TypeId} {v u : Value} {w : World} {H : Heap} {ρ : Rho} {p : AV} {c : Option Ct} {cont : AV → Prop} (hr : Rep H ρ p v) (hq : qload P T p c cont) (h : (Instr.loadAt T v).run P w = .ok u w) :
 (do loadVar T (← asAddr v) : Sem Value).run P w = .ok u w:=by
 have hv : ∃ a,v = .pointer (some a):=by
  obtain ⟨_,hq⟩:=hq
  cases hr <;> first
   |exact ⟨_,rfl⟩
   |exact hq.elim
 obtain ⟨a,rfl⟩:=hv
 exact h
def resOne (tmps : Array Value) : ResultVar → Sem Value
 |.tmp t=>pure (tmps.getD t undef)
 |.cell a t=>do loadVar t (← asAddr (tmps.getD a undef))
theorem retK_run {E : Env} {H : Heap} {ρ : Rho} {s : AState} {a : Act} {w : World} (hs : Sim E H ρ s.slot s.box a w) : ∀ {rs : List ResultVar} {K : List AV → Prop},retK P rs s K →
 ∃ xs vs,K xs ∧ RepL H ρ xs vs ∧ (rs.mapM (resOne a.tmps)).run P w = .ok vs w
 |[],K,h=>⟨[],[],h,RepL.nil,rfl⟩
 |.tmp t :: rs,K,h=>by
  obtain ⟨xs,vs,hk,hr,hrun⟩:=retK_run hs (rs:=rs) h
  refine ⟨_,_,hk,RepL.cons (hs.slots t) hr,?_⟩
  simp only [List.mapM_cons,Sem.run_bind,resOne,Sem.run_pure,Result.andThen_ok,hrun]
 |.cell b T :: rs,K,h=>by
  simp only [retK] at h
  obtain ⟨x,u,hk,hr,hrun⟩:=qload_sound (P:=P) (hs.slots b) hs.ext hs.boxes.rep h
  obtain ⟨xs,vs,hk2,hr2,hrun2⟩:=retK_run hs (rs:=rs) hk
  refine ⟨_,_,hk2,RepL.cons hr hr2,?_⟩
  have:=loadVar_of (P:=P) (hs.slots b) h hrun
  simp only [List.mapM_cons,Sem.run_bind,resOne,Sem.run_pure,Result.andThen_ok]
  simp only [Sem.run_bind] at this
  simp only [this,Result.andThen_ok,hrun2]
theorem results_run {fn : Func} {tmps : Array Value} {vs : List Value} {w : World} (h : (fn.results.toList.mapM (resOne tmps)).run P w = .ok vs w) :
 (results fn tmps).run P w = .ok (if h : vs.length = 1 then vs[0] else .tuple vs.toArray) w:=by
 have e : results fn tmps = (fn.results.mapM (resOne tmps) >>= fun vs=>pure (if h : vs.size = 1 then vs[0] else .tuple vs)):=by
  unfold results
  congr 1
 have e2 : fn.results = fn.results.toList.toArray:=by simp
 rw [e,e2,List.mapM_toArray]
 simp only [map_eq_pure_bind,Sem.run_bind,h,Sem.run_pure,Result.andThen_ok]
 simp
theorem tup_rep {H : Heap} {ρ : Rho} {xs : List AV} {vs : List Value} (h : RepL H ρ xs vs) : Rep H ρ (tupAV xs) (if h : vs.length = 1 then vs[0] else .tuple vs.toArray):=by
 have hl:=h.1
 match xs,vs,h with
 |[],[],h=>exact .tup hl h.2
 |[x],[v],h=>exact h.2 0 x v rfl rfl
 |x :: y :: xs,a :: b :: vs,h =>
  rw [dif_neg (by simp)]
  exact .tup hl h.2
 |[],_ :: _,_=>simp at hl
 |[_],[],_=>simp at hl
 |[_],_ :: _ :: _,_=>simp at hl
 |_ :: _ :: _,[],_=>simp at hl
 |_ :: _ :: _,[_],_=>simp at hl
def retQ (P : Program) (fn : Func) (K : AV → AState → Prop) : AExit → AState → Prop
 |.exit _,_=>False
 |_,s=>retK P fn.results.toList s (fun xs=>K (tupAV xs) s)
theorem view_rep2 {H G : Heap} {ρ : Rho} {w : World} {bf : Nat → Option Ct} {x d : AV} {v : Value} (hv : View bf x d) (hr : Rep H ρ x v) (hb : ∀ id c,bf id = some c → CtRep H ρ w (ρ id) c)
 (hG : H.le G) (hB : ∀ id c b cap,bf id = some c → ρ id = .at b cap → ∀ o u,w.cell? ⟨b,o,none⟩ = some u → G b o = some u) : Rep G rho0 d v:=by
 have lift : ∀ {cs : List AV} {vs : List Value},RepL H ρ cs vs → idfL cs = true → ∀ (i : Nat) (c : AV) (u : Value),cs[i]? = some c → vs[i]? = some u → Rep G (fun _=>Bd.no) c u:=by
  intro cs vs hrl hi i c u hc hu
  exact ((hrl.2 i c u hc hu).mono hG).idf (idf_of_mem hi hc)
 rcases hv with ⟨rfl,hi⟩|⟨id,k,off,n,T,xs,rfl,hbf,hn,rfl,hi⟩|⟨id,n,T,y,rfl,hbf,hn,rfl,hi⟩|⟨id,T,y,rfl,hbf,rfl,hi⟩|⟨k,n,c,rfl,rfl,rfl⟩
 ·exact (hr.mono hG).idf hi
 ·rcases hb _ _ hbf with ⟨hnil,hxs⟩|⟨b',cap',cur,hbd,hheap,hmax,hcap,hsz,hrep,hall⟩
  ·subst hxs
   cases hr with
   |ownNil=>simpa using Rep.slNil
   |own hρ=>rw [hnil] at hρ;cases hρ
  ·cases hr with
   |ownNil hρ=>rw [hbd] at hρ;cases hρ
   |own hρ hn' hm =>
    rename_i b cap
    obtain ⟨rfl,rfl⟩:=rho_at hρ hbd
    have hlen : ((xs.drop off).take n).length = n:=by simp;omega
    have main : ∀ (i j : Nat) (x c : AV),((xs.drop off).take n)[i]? = some x → x.cells[j]? = some c → ∃ u,w.cell? ⟨b,off * k + i * k + j,none⟩ = some u ∧ Rep G (fun _=>Bd.no) c u:=by
     intro i j x c hx hc
     have hx' : xs[off + i]? = some x:=by
      rw [List.getElem?_take] at hx
      split at hx
      ·simpa [List.getElem?_drop] using hx
      ·cases hx
     have hseg:=(hrep.drop ((off + i) * k)).take k
     rw [flat_get (fun x hx=>(hall x hx).1) hx'] at hseg
     obtain ⟨u,hu,hru⟩:=hseg.get hc
     refine ⟨u,?_,?_⟩
     ·rw [cell_of_row w b _ _ _ _ hheap]
      rw [List.getElem?_take] at hu
      split at hu
      ·rw [List.getElem?_drop,List.getElem?_take] at hu
       split at hu
       ·rw [← hu,← Nat.add_mul];simp
       ·cases hu
      ·cases hu
     ·have hix : x.idf = true:=idf_of_mem hi hx
      have hic : c.idf = true:=by
       cases x with
       |st cs=>exact idf_of_mem (cs:=cs) (by simpa only [AV.idf] using hix) hc
       |_ =>
        simp only [AV.cells] at hc
        cases j with
        |zero=>simp at hc;subst hc;exact hix
        |succ j=>simp at hc
      exact (hru.mono hG).idf hic
    have hgoal : Rep G rho0 (.sl k ((xs.drop off).take n)) (.slice (some ⟨b,off * k,none⟩) ((xs.drop off).take n).length (cap - off)):=by
     refine Rep.sl (fun i j=>(w.cell? ⟨b,off * k + i * k + j,none⟩).getD undef) (by omega) (by omega) (fun x hx=>(hall x (mem_drop_take hx)).1) (fun x hx=>(hall x (mem_drop_take hx)).2) ?_ ?_
     ·intro i j x c hx hc
      obtain ⟨u,hu,_⟩:=main i j x c hx hc
      rw [hB _ _ _ _ hbf hbd _ _ hu]
      simp [hu]
     ·intro i j x c hx hc
      obtain ⟨u,hu,hru⟩:=main i j x c hx hc
      simpa [hu] using hru
    rw [hlen] at hgoal
    exact hgoal
 ·obtain ⟨b',cap',vs,hbd,hheap,hrep,hone,hcap⟩:=hb _ _ hbf
  cases hr with
  |ownNil hρ=>rw [hbd] at hρ;cases hρ
  |own hρ hn' hm =>
   rename_i b cap
   obtain ⟨rfl,rfl⟩:=rho_at hρ hbd
   have hgoal : Rep G rho0 (.sl 1 y.cells) (.slice (some ⟨b,0 * 1,none⟩) y.cells.length (cap - 0)):=by
    have hc1 : ∀ x ∈ y.cells,x.cells = [x]:=fun x hx=>AV.one_cells (hone x hx)
    refine Rep.sl (fun i j=>(vs[i]?).getD undef) (by omega) (by omega) (fun x hx=>by rw [hc1 x hx];rfl) (fun x hx c hc=>by rw [hc1 x hx] at hc;simp at hc;subst hc;exact hone _ hx) ?_ ?_
    ·intro i j x c hx hc
     have hxm:=List.mem_of_getElem? hx
     rw [hc1 x hxm] at hc
     cases j with
     |succ j=>simp at hc
     |zero =>
      obtain ⟨u,hu,_⟩:=hrep.get hx
      have hcell : w.cell? ⟨b,i,none⟩ = some u:=by rw [cell_of_row w b _ _ _ _ hheap];simpa using hu
      have:=hB _ _ _ _ hbf hbd _ _ hcell
      simp [this,hu]
    ·intro i j x c hx hc
     have hxm:=List.mem_of_getElem? hx
     rw [hc1 x hxm] at hc
     cases j with
     |succ j=>simp at hc
     |zero =>
      simp at hc
      subst hc
      obtain ⟨u,hu,_⟩:=hrep.get hx
      simpa [hu] using lift hrep hi i _ u hx hu
   rw [← hn] at hgoal
   simpa using hgoal
 ·obtain ⟨b',cap',vs,hbd,hheap,hrep,hone,hcap⟩:=hb _ _ hbf
  cases hr with
  |loc hρ =>
   rename_i b cap
   obtain ⟨rfl,rfl⟩:=rho_at hρ hbd
   have hic : idfL y.cells = true:=by
    cases y with
    |st cs=>simpa only [AV.idf,AV.cells] using hi
    |_=>simp only [AV.cells,idfL,Bool.and_true];exact hi
   refine Rep.ep (fun j=>(vs[j]?).getD undef) hone ?_ ?_
   ·intro j c hc
    obtain ⟨u,hu,_⟩:=hrep.get hc
    have hcell : w.cell? ⟨b,j,none⟩ = some u:=by rw [cell_of_row w b _ _ _ _ hheap];simpa using hu
    have:=hB _ _ _ _ hbf hbd _ _ hcell
    simp [this,hu]
   ·intro j c hc
    obtain ⟨u,hu,_⟩:=hrep.get hc
    simpa [hu] using lift hrep hic j c u hc hu
 ·rw [hr.v_inv];exact .slNil
theorem entry {f : FuncId} {fn : Func} {c : Code} {H : Heap} {ρ : Rho} {w : World} {args : List AV} {bx : List (Nat × Ct)} {vs : List Value} {R : Ending → World → Prop}
 (hf : P.funcs[f]? = some fn) (hb : fn.body = some c) (he : Ext H w) (hbx : Boxes H ρ (lk bx) w (fun _=>True)) (hr : RepL H ρ args vs) (hn : args.length ≤ fn.ntmps) (hnl : fn.ntmps ≤ 1000000)
 (K : AV → AState → Prop) (haw : AW P ⟨w,H,OwnB ρ (lk bx),fn.ntmps,ρ⟩ c ⟨argSlots 0 args,bx⟩ (retQ P fn K))
 (hk : ∀ x s H' ρ' a' w' v,K x s → Sim ⟨w,H,OwnB ρ (lk bx),fn.ntmps,ρ⟩ H' ρ' s.slot s.box a' w' → Rep H' ρ' x v → R (.returned v) w') : Calls P f vs.toArray w R:=by
 refine calls_of_wp hf hb ?_
 have hs : Sim ⟨w,H,OwnB ρ (lk bx),fn.ntmps,ρ⟩ H ρ (AState.mk (argSlots 0 args) bx).slot (AState.mk (argSlots 0 args) bx).box { tmps:=vs.toArray ++ Array.replicate (fn.ntmps - vs.toArray.size) undef,defers:=[] } w:=by
  refine ⟨he,fun i=>?_,?_,rfl,⟨hbx.rep,fun id c b cap hc hb=>⟨(hbx.apart id c b cap hc hb).1,(hbx.apart id c b cap hc hb).2.1,.inr ⟨id,c,cap,hc,hb⟩⟩,hbx.inj⟩,H.le_refl,fun b o v h h'=>(by rw [show H b o = none from h'] at h;cases h),FrameBut.refl _ _,fun _ _=>rfl,hnl⟩
  ·show Rep H ρ ((lk (argSlots 0 args) i).getD .u) _
   rw [argSlots_lk]
   simp only [Nat.zero_le,if_true,Nat.sub_zero]
   cases hx : args[i]? with
   |none=>exact .u
   |some x =>
    obtain ⟨u,hu,hru⟩:=hr.get hx
    have hi : i < vs.length:=(List.getElem?_eq_some_iff.1 hu).1
    have : (vs.toArray ++ Array.replicate (fn.ntmps - vs.toArray.size) undef).getD i undef = u:=by
     rw [Array.getD_eq_getD_getElem?,Array.getElem?_append_left (by simpa using hi)]
     simp [hu]
    simp only [Option.getD_some]
    rw [this]
    exact hru
  ·have:=hr.1
   simp
   omega
 refine wp_mono (haw H ρ _ w hs) ?_
 have fin : ∀ s H' ρ' a w',retK P fn.results.toList s (fun xs=>K (tupAV xs) s) → Sim ⟨w,H,OwnB ρ (lk bx),fn.ntmps,ρ⟩ H' ρ' s.slot s.box a w' → a.defers = [] ∧ ∃ v,(results fn a.tmps).run P w' = .ok v w' ∧ R (.returned v) w':=by
  intro s H' ρ' a w' hq hs'
  obtain ⟨xs,us,hkx,hru,hrun⟩:=retK_run hs' hq
  exact ⟨hs'.defers,_,results_run hrun,hk _ s H' ρ' a w' _ hkx hs' (tup_rep hru)⟩
 intro e a w' hp
 cases e <;> simp only [post,bodyPost] at hp ⊢
 ·obtain ⟨s,H',ρ',hq,hs'⟩:=hp
  exact fin s H' ρ' a w' hq hs'
 ·obtain ⟨s,H',ρ',hq,_⟩:=hp
  exact hq.elim
 ·obtain ⟨s,H',ρ',hq,hs'⟩:=hp
  exact fin s H' ρ' a w' hq hs'
def thaw (H : Heap) (n : Nat) (w : World) : Heap:=fun b o=>if (H b o).isSome then H b o else if n ≤ b then w.cell? ⟨b,o,none⟩ else none
theorem PSpec_of {f : FuncId} {fn : Func} {c : Code} {args : List AV} {res : AV} (hf : P.funcs[f]? = some fn) (hb : fn.body = some c) (hname : (fn.name == "runtime.NumGoroutine") = false) (hn : args.length ≤ fn.ntmps) (hnl : fn.ntmps ≤ 1000000)
 (h : ∀ E : Env,E.n = fn.ntmps → AW P E c ⟨argSlots 0 args,[]⟩ (retQ P fn (fun x s=>View s.box x res))) : PSpec P f args res:=by
 refine ⟨ent_of hf hname hb,fun H w vs he hr=>?_⟩
 refine entry (P:=P) (bx:=[]) hf hb he ⟨fun id c hc=>by simp [lk] at hc,fun id c b cap hc=>by simp [lk] at hc,fun id id' c c' b cap cap' hc=>by simp [lk] at hc⟩ hr hn hnl _ (h _ rfl) ?_
 intro x s H' ρ' a' w' v hv hs hrx
 have hno : ∀ b,¬ OwnB rho0 (lk ([] : List (Nat × Ct))) b:=by rintro b ⟨id,c,cap,hc,_⟩;simp [lk] at hc
 have hmine : ∀ b,(Env.mine ⟨w,H,OwnB rho0 (lk []),fn.ntmps,rho0⟩ b) → w.heap.size ≤ b:=by
  rintro b (h|h)
  ·exact h
  ·exact (hno b h).elim
 have hle : H'.le (thaw H' w.heap.size w'):=fun b o u hu=>by simp [thaw,hu]
 refine ⟨thaw H' w.heap.size w',v,rfl,fun b o u hu=>hle _ _ _ (hs.h0 b o u hu),?_,?_,?_,?_⟩
 ·intro b o u hu hu0
  simp only [thaw] at hu
  split at hu
  ·exact hmine b (hs.new b o u hu hu0)
  ·split at hu
   ·assumption
   ·cases hu
 ·intro b o u hu
  simp only [thaw] at hu
  split at hu
  ·exact hs.ext b o u hu
  ·split at hu
   ·exact hu
   ·cases hu
 ·refine view_rep2 hv hrx hs.boxes.rep hle ?_
  intro id c b cap hc hbd o u hu
  have h1:=hs.boxes.apart id c b cap hc hbd
  simp [thaw,h1.1 o,hmine b h1.2.2,hu]
 ·refine FrameBut.below ⟨hs.frame.os,hs.frame.tape,hs.frame.output,hs.frame.size,fun k hk _=>hs.frame.block k hk (hno k)⟩
def MOut (P : Program) (fn : Func) (R : AV → (Nat → Option Ct) → Prop) : AExit → AState → Prop:=retQ P fn (fun x s=>R x s.box)
theorem MSpec_of {f : FuncId} {fn : Func} {c : Code} {args : List AV} {bx : List (Nat × Ct)} {R : AV → (Nat → Option Ct) → Prop} (hf : P.funcs[f]? = some fn) (hb : fn.body = some c) (hname : (fn.name == "runtime.NumGoroutine") = false) (hn : args.length ≤ fn.ntmps) (hnl : fn.ntmps ≤ 1000000)
 (h : ∀ E : Env,E.n = fn.ntmps → AW P E c ⟨argSlots 0 args,bx⟩ (MOut P fn R)) : MSpec P f args bx R:=by
 refine ⟨ent_of hf hname hb,fun H ρ w vs he hbx hr=>?_⟩
 refine entry (P:=P) hf hb he hbx hr hn hnl _ (h _ rfl) ?_
 intro x s H' ρ' a' w' v hv hs hrx
 exact ⟨H',ρ',x,s.box,v,rfl,hv,hs.h0,hs.new,hs.ext,hs.boxes,hrx,hs.frame,hs.keep⟩
end
end Go.Am
end
section
namespace Go.Am
open Go.RowKit
mutual
def AV.ren (σ : Nat → Nat) : AV → AV
 |.v x=>.v x
 |.st cs=>.st (renL σ cs)
 |.sl k xs=>.sl k xs
 |.ep x=>.ep x
 |.own id k off n=>.own (σ id) k off n
 |.loc id off=>.loc (σ id) off
 |.eloc id k i off=>.eloc (σ id) k i off
 |.mp id=>.mp (σ id)
 |.fn f a b=>.fn f (renL σ a) (renL σ b)
 |.tup vs=>.tup (renL σ vs)
 |.ifc t x=>.ifc t (x.ren σ)
 |.w=>.w
 |.u=>.u
def renL (σ : Nat → Nat) : List AV → List AV
 |[]=>[]
 |c :: cs=>c.ren σ :: renL σ cs
end
theorem renL_map (σ : Nat → Nat) : ∀ cs : List AV,renL σ cs = cs.map (AV.ren σ)
 |[]=>rfl
 |c :: cs=>by simp [renL,renL_map σ cs]
mutual
def AV.ids : AV → List Nat
 |.st cs=>idsA cs
 |.own id _ _ _=>[id]
 |.loc id _=>[id]
 |.eloc id _ _ _=>[id]
 |.mp id=>[id]
 |.fn _ a b=>idsA a ++ idsA b
 |.tup vs=>idsA vs
 |.ifc _ x=>x.ids
 |_=>[]
def idsA : List AV → List Nat
 |[]=>[]
 |c :: cs=>c.ids ++ idsA cs
end
theorem idsA_mem {cs : List AV} {i : Nat} {c : AV} {d : Nat} (h : cs[i]? = some c) (hd : d ∈ c.ids) : d ∈ idsA cs:=by
 induction cs generalizing i with
 |nil=>simp at h
 |cons x cs ih =>
  simp only [idsA,List.mem_append]
  cases i with
  |zero=>simp at h;subst h;exact .inl hd
  |succ i=>exact .inr (ih (by simpa using h))
theorem ren_one (σ : Nat → Nat) (x : AV) : (x.ren σ).one = x.one:=by cases x <;> rfl
theorem ren_cells (σ : Nat → Nat) (x : AV) : (x.ren σ).cells = x.cells.map (AV.ren σ):=by
 cases x <;> simp [AV.ren,AV.cells,renL_map]
theorem Rep.ren {H : Heap} {ρ : Rho} {x : AV} {v : Value} (h : Rep H ρ x v) : ∀ {σ : Nat → Nat} {ρ' : Rho},(∀ d ∈ x.ids,ρ' (σ d) = ρ d) → Rep H ρ' (x.ren σ) v:=by
 induction h with
 |v h=>intro _ _ _;exact .v h
 |st hl h1 _ ih =>
  intro σ ρ' hr
  simp only [AV.ren,renL_map]
  refine .st (by simpa using hl) (by simpa [ren_one] using h1) (fun i c u hc hu=>?_)
  rw [List.getElem?_map,Option.map_eq_some_iff] at hc
  obtain ⟨c0,hc0,rfl⟩:=hc
  exact ih i c0 u hc0 hu (fun d hd=>hr d (by simp only [AV.ids];exact idsA_mem hc0 hd))
 |slNil=>intro _ _ _;exact .slNil
 |sl cell hcap hmax hk h1 hH h _=>intro _ _ _;exact .sl cell hcap hmax hk h1 hH h
 |ep cell h1 hH h _=>intro _ _ _;exact .ep cell h1 hH h
 |ownNil h=>intro σ ρ' hr;exact .ownNil ((hr _ (by simp [AV.ids])).trans h)
 |own h hn hm=>intro σ ρ' hr;exact .own ((hr _ (by simp [AV.ids])).trans h) hn hm
 |loc h=>intro σ ρ' hr;exact .loc ((hr _ (by simp [AV.ids])).trans h)
 |eloc h=>intro σ ρ' hr;exact .eloc ((hr _ (by simp [AV.ids])).trans h)
 |mp h=>intro σ ρ' hr;exact .mp ((hr _ (by simp [AV.ids])).trans h)
 |fn hl1 hl2 _ _ ih1 ih2 =>
  intro σ ρ' hr
  simp only [AV.ren,renL_map]
  refine .fn (by simpa using hl1) (by simpa using hl2) (fun i c u hc hu=>?_) (fun i c u hc hu=>?_)
  ·rw [List.getElem?_map,Option.map_eq_some_iff] at hc
   obtain ⟨c0,hc0,rfl⟩:=hc
   exact ih1 i c0 u hc0 hu (fun d hd=>hr d (by simp only [AV.ids];exact List.mem_append_left _ (idsA_mem hc0 hd)))
  ·rw [List.getElem?_map,Option.map_eq_some_iff] at hc
   obtain ⟨c0,hc0,rfl⟩:=hc
   exact ih2 i c0 u hc0 hu (fun d hd=>hr d (by simp only [AV.ids];exact List.mem_append_right _ (idsA_mem hc0 hd)))
 |tup hl _ ih =>
  intro σ ρ' hr
  simp only [AV.ren,renL_map]
  refine .tup (by simpa using hl) (fun i c u hc hu=>?_)
  rw [List.getElem?_map,Option.map_eq_some_iff] at hc
  obtain ⟨c0,hc0,rfl⟩:=hc
  exact ih i c0 u hc0 hu (fun d hd=>hr d (by simp only [AV.ids];exact idsA_mem hc0 hd))
 |ifc _ ih=>intro σ ρ' hr;exact .ifc (ih (fun d hd=>hr d (by simpa only [AV.ids] using hd)))
 |w h=>intro _ _ _;exact .w h
 |u=>intro _ _ _;exact .u
mutual
theorem Rep.unren {H : Heap} {ρ : Rho} {σ : Nat → Nat} : ∀ (x : AV) {v : Value},Rep H ρ (x.ren σ) v → Rep H (fun i=>ρ (σ i)) x v
 |.v x,v,h=>by cases h with|v h=>exact .v h
 |.st cs,v,h=>by
  simp only [AV.ren,renL_map] at h
  cases h with
  |st hl h1 h =>
   have:=RepL.unren (H:=H) (ρ:=ρ) (σ:=σ) cs ⟨by simpa [renL_map] using hl,fun i c u hc hu=>h i c u (by rwa [renL_map] at hc) hu⟩
   exact .st this.1 (by simpa [ren_one] using h1) this.2
 |.sl k xs,v,h=>by
  simp only [AV.ren] at h
  cases h with
  |slNil=>exact .slNil
  |sl cell hcap hmax hk h1 hH h=>exact .sl cell hcap hmax hk h1 hH h
 |.ep x,v,h=>by
  simp only [AV.ren] at h
  cases h with
  |ep cell h1 hH h=>exact .ep cell h1 hH h
 |.own id k off n,v,h=>by
  simp only [AV.ren] at h
  cases h with
  |ownNil h=>exact .ownNil h
  |own h hn hm=>exact .own h hn hm
 |.loc id off,v,h=>by simp only [AV.ren] at h;cases h with|loc h=>exact .loc h
 |.eloc id k i off,v,h=>by simp only [AV.ren] at h;cases h with|eloc h=>exact .eloc h
 |.mp id,v,h=>by simp only [AV.ren] at h;cases h with|mp h=>exact .mp h
 |.fn f a b,v,h=>by
  simp only [AV.ren,renL_map] at h
  cases h with
  |fn hl1 hl2 h1 h2 =>
   have t1:=RepL.unren (H:=H) (ρ:=ρ) (σ:=σ) a ⟨by simpa [renL_map] using hl1,fun i c u hc hu=>h1 i c u (by rwa [renL_map] at hc) hu⟩
   have t2:=RepL.unren (H:=H) (ρ:=ρ) (σ:=σ) b ⟨by simpa [renL_map] using hl2,fun i c u hc hu=>h2 i c u (by rwa [renL_map] at hc) hu⟩
   exact .fn t1.1 t2.1 t1.2 t2.2
 |.tup vs,v,h=>by
  simp only [AV.ren,renL_map] at h
  cases h with
  |tup hl h =>
   have:=RepL.unren (H:=H) (ρ:=ρ) (σ:=σ) vs ⟨by simpa [renL_map] using hl,fun i c u hc hu=>h i c u (by rwa [renL_map] at hc) hu⟩
   exact .tup this.1 this.2
 |.ifc t x,v,h=>by
  simp only [AV.ren] at h
  cases h with
  |ifc h=>exact .ifc (Rep.unren x h)
 |.w,v,h=>by
  simp only [AV.ren] at h
  cases h with
  |w h=>exact .w h
 |.u,v,h=>.u
theorem RepL.unren {H : Heap} {ρ : Rho} {σ : Nat → Nat} : ∀ (cs : List AV) {vs : List Value},RepL H ρ (renL σ cs) vs → RepL H (fun i=>ρ (σ i)) cs vs
 |[],vs,h=>by rw [h.nil_inv];exact RepL.nil
 |c :: cs,vs,h=>by
  obtain ⟨u,us,rfl,h1,h2⟩:=RepL.cons_inv (by simpa only [renL] using h)
  exact RepL.cons (Rep.unren c h1) (RepL.unren cs h2)
end
def Ct.ren (σ : Nat → Nat) : Ct → Ct
 |.box T x=>.box T (x.ren σ)
 |.arr T k xs=>.arr T k (renL σ xs)
 |.map es st=>.map (es.map fun e=>(e.1.ren σ,e.2.ren σ)) st
 |.it m bs ck vis=>.it (σ m) bs ck vis
 |.raw o=>.raw o
def Ct.ids : Ct → List Nat
 |.box _ x=>x.ids
 |.arr _ _ xs=>idsA xs
 |.map es _=>idsA (es.map (·.1)) ++ idsA (es.map (·.2))
 |.it m _ _ _=>[m]
 |.raw _=>[]
theorem RepL.ren {H : Heap} {ρ ρ' : Rho} {σ : Nat → Nat} {cs : List AV} {vs : List Value} (h : RepL H ρ cs vs) (hr : ∀ d ∈ idsA cs,ρ' (σ d) = ρ d) : RepL H ρ' (cs.map (AV.ren σ)) vs:=by
 refine ⟨by simpa using h.1,fun i c u hc hu=>?_⟩
 rw [List.getElem?_map,Option.map_eq_some_iff] at hc
 obtain ⟨c0,hc0,rfl⟩:=hc
 exact (h.2 i c0 u hc0 hu).ren (fun d hd=>hr d (idsA_mem hc0 hd))
theorem idsA_append : ∀ a b : List AV,idsA (a ++ b) = idsA a ++ idsA b
 |[],b=>rfl
 |x :: a,b=>by simp [idsA,idsA_append a b]
theorem ids_cells (x : AV) : idsA x.cells = x.ids:=by
 cases x <;> simp [AV.cells,idsA,AV.ids]
theorem ids_flat : ∀ xs : List AV,idsA (xs.flatMap AV.cells) = idsA xs
 |[]=>rfl
 |x :: xs=>by simp [idsA,idsA_append,ids_cells,ids_flat xs]
theorem oneAll_ren {σ : Nat → Nat} {x : AV} : oneAll (x.ren σ) ↔ oneAll x:=by
 simp [oneAll,ren_cells,ren_one]
theorem flat_ren (σ : Nat → Nat) (xs : List AV) : (renL σ xs).flatMap AV.cells = (xs.flatMap AV.cells).map (AV.ren σ):=by
 induction xs with
 |nil=>rfl
 |cons x xs ih=>simp [renL,ren_cells,ih]
theorem CtRep.ren {H : Heap} {ρ ρ' : Rho} {w : World} {bd : Bd} {c : Ct} {σ : Nat → Nat} (h : CtRep H ρ w bd c) (hr : ∀ d ∈ c.ids,ρ' (σ d) = ρ d) : CtRep H ρ' w bd (c.ren σ):=by
 cases c with
 |box T x =>
  obtain ⟨b,cap,vs,h1,h2,h3,h4,h5⟩:=h
  refine ⟨b,cap,vs,h1,h2,?_,oneAll_ren.2 h4,by rw [ren_cells];simpa using h5⟩
  rw [ren_cells]
  exact h3.ren (by rw [ids_cells];exact hr)
 |arr T k xs =>
  rcases h with ⟨h,rfl⟩|⟨b,cap,cur,h1,h2,h3,h4,h5,h6,h7⟩
  ·exact .inl ⟨h,rfl⟩
  ·refine .inr ⟨b,cap,cur,h1,h2,h3,by rw [renL_map];simpa using h4,h5,?_,?_⟩
   ·rw [flat_ren,renL_map,List.length_map]
    exact h6.ren (by rw [ids_flat];exact hr)
   ·rw [renL_map]
    intro x hx
    obtain ⟨y,hy,rfl⟩:=List.mem_map.1 hx
    obtain ⟨h8,h9⟩:=h7 y hy
    exact ⟨by rw [ren_cells];simpa using h8,oneAll_ren.2 h9⟩
 |map es st =>
  obtain ⟨b,cap,ents,clock,h1,h2,h3,h4,h5⟩:=h
  refine ⟨b,cap,ents,clock,h1,h2,?_,?_,h5⟩
  ·have:=h3.ren (ρ':=ρ') (σ:=σ) (fun d hd=>hr d (List.mem_append_left _ hd))
   simpa [List.map_map,Function.comp_def] using this
  ·have:=h4.ren (ρ':=ρ') (σ:=σ) (fun d hd=>hr d (List.mem_append_right _ hd))
   simpa [List.map_map,Function.comp_def] using this
 |it m bs ck vis =>
  obtain ⟨b,cap,mb,capm,seen,h1,h2,h3,h4,h5⟩:=h
  exact ⟨b,cap,mb,capm,seen,h1,(hr m (by simp [Ct.ids])).trans h2,h3,h4,h5⟩
 |raw o=>exact h
theorem CtRep.unren {H : Heap} {ρ : Rho} {w : World} {bd : Bd} {c : Ct} {σ : Nat → Nat} (h : CtRep H ρ w bd (c.ren σ)) : CtRep H (fun i=>ρ (σ i)) w bd c:=by
 cases c with
 |box T x =>
  obtain ⟨b,cap,vs,h1,h2,h3,h4,h5⟩:=h
  refine ⟨b,cap,vs,h1,h2,?_,oneAll_ren.1 h4,by rw [ren_cells] at h5;simpa using h5⟩
  rw [ren_cells,← renL_map] at h3
  exact RepL.unren _ h3
 |arr T k xs =>
  rcases h with ⟨h,h'⟩|⟨b,cap,cur,h1,h2,h3,h4,h5,h6,h7⟩
  ·exact .inl ⟨h,by cases xs with|nil=>rfl|cons=>simp [renL] at h'⟩
  ·refine .inr ⟨b,cap,cur,h1,h2,h3,by rw [renL_map] at h4;simpa using h4,h5,?_,?_⟩
   ·rw [flat_ren,← renL_map,renL_map σ xs,List.length_map] at h6
    exact RepL.unren _ h6
   ·intro x hx
    obtain ⟨h8,h9⟩:=h7 (x.ren σ) (by rw [renL_map];exact List.mem_map_of_mem hx)
    exact ⟨by rw [ren_cells] at h8;simpa using h8,oneAll_ren.1 h9⟩
 |map es st =>
  obtain ⟨b,cap,ents,clock,h1,h2,h3,h4,h5⟩:=h
  refine ⟨b,cap,ents,clock,h1,h2,?_,?_,h5⟩
  ·have e : (es.map fun e=>(e.1.ren σ,e.2.ren σ)).map (·.1) = renL σ (es.map (·.1)):=by simp [renL_map,List.map_map,Function.comp_def]
   rw [e] at h3
   exact RepL.unren _ h3
  ·have e : (es.map fun e=>(e.1.ren σ,e.2.ren σ)).map (·.2) = renL σ (es.map (·.2)):=by simp [renL_map,List.map_map,Function.comp_def]
   rw [e] at h4
   exact RepL.unren _ h4
 |it m bs ck vis =>
  obtain ⟨b,cap,mb,capm,seen,h1,h2,h3,h4,h5⟩:=h
  exact ⟨b,cap,mb,capm,seen,h1,h2,h3,h4,h5⟩
 |raw o=>exact h
def dropB (ids : List Nat) : List (Nat × Ct) → List (Nat × Ct)
 |[]=>[]
 |(i,c) :: l=>if ids.contains i then dropB ids l else (i,c) :: dropB ids l
theorem lk_dropB {ids : List Nat} : ∀ {l : List (Nat × Ct)} {i : Nat},lk (dropB ids l) i = if ids.contains i then none else lk l i
 |[],i=>by simp [dropB,lk]
 |(j,c) :: l,i=>by
  simp only [dropB]
  split
  ·rename_i h
   rw [lk_dropB]
   split
   ·rfl
   ·rename_i h2
    simp only [lk]
    rw [if_neg (fun (e : j = i)=>h2 (e ▸ h))]
  ·rename_i h
   simp only [lk]
   by_cases e : j = i
   ·subst e
    rw [if_pos rfl,if_neg h,if_pos rfl]
   ·rw [if_neg e,if_neg e,lk_dropB]
theorem lk_append {α : Type} : ∀ {a b : List (Nat × α)} {i : Nat},lk (a ++ b) i = match lk a i with|some c=>some c|none=>lk b i
 |[],b,i=>by simp [lk]
 |(j,c) :: a,b,i=>by
  simp only [List.cons_append,lk]
  by_cases e : j = i
  ·simp [e]
  ·simp [e,lk_append (a:=a)]
theorem lk_mem {α : Type} : ∀ {a : List (Nat × α)} {i : Nat} {c : α},lk a i = some c → (i,c) ∈ a
 |[],i,c,h=>by simp [lk] at h
 |(j,x) :: a,i,c,h=>by
  simp only [lk] at h
  split at h
  ·rename_i e;cases h;subst e;exact List.mem_cons_self
  ·exact List.mem_cons_of_mem _ (lk_mem h)
theorem lk_ren {τ : Nat → Nat} : ∀ {L : List (Nat × Ct)} {i : Nat} {c : Ct},lk (L.map fun p=>(τ p.1,p.2.ren τ)) i = some c → ∃ p ∈ L,τ p.1 = i ∧ c = p.2.ren τ
 |[],i,c,h=>by simp [lk] at h
 |p :: L,i,c,h=>by
  simp only [List.map_cons,lk] at h
  split at h
  ·rename_i e;cases h;exact ⟨p,List.mem_cons_self,e,rfl⟩
  ·obtain ⟨q,hq,h1,h2⟩:=lk_ren h
   exact ⟨q,List.mem_cons_of_mem _ hq,h1,h2⟩
structure MBack (s : AState) (bx : List (Nat × Ct)) (σ : Nat → Nat) (res : AV) (bf : Nat → Option Ct) (L : List (Nat × Ct)) (τ : Nat → Nat) : Prop where
 known : ∀ p ∈ L,bf p.1 = some p.2
 name : ∀ p ∈ L,(1000000 ≤ p.1 ∧ (lk bx p.1).isSome = true ∧ τ p.1 = σ p.1) ∨ (p.1 < 1000000 ∧ s.ment (τ p.1) = false ∧ s.box (τ p.1) = none ∧ τ p.1 < 1000000)
 inj : ∀ p ∈ L,∀ q ∈ L,τ p.1 = τ q.1 → p.1 = q.1
 ids : ∀ i ∈ res.ids,i ∈ L.map (·.1)
 ids2 : ∀ p ∈ L,∀ i ∈ p.2.ids,i ∈ L.map (·.1)
section
variable {P : Program} {E : Env}
theorem ACall_mut {g : FuncId} {args cargs : List AV} {bx : List (Nat × Ct)} {R : AV → (Nat → Option Ct) → Prop} {s : AState} {d : Option Tmp} {K : AState → Prop} (hsp : MSpec P g args bx R) (σ : Nat → Nat) (hargs : cargs = args.map (AV.ren σ))
 (hbx : ∀ i c,lk bx i = some c → s.box (σ i) = some (c.ren σ)) (hinj : ∀ i i',(lk bx i).isSome = true → (lk bx i').isSome = true → σ i = σ i' → i = i')
 (hk : ∀ res bf,R res bf → ∃ (L : List (Nat × Ct)) (τ : Nat → Nat),MBack s bx σ res bf L τ ∧ K ((AState.mk s.s (L.map (fun p=>(τ p.1,p.2.ren τ)) ++ dropB (bx.map fun p=>σ p.1) s.b)).put d (res.ren τ))) :
 ACall P E g cargs s d K:=by
 refine ⟨hsp.1,fun H ρ a w vs hs hr hd=>?_⟩
 subst hargs
 have hOwn : ∀ b,OwnB (fun i=>ρ (σ i)) (lk bx) b → ∃ i c cap,(lk bx i).isSome = true ∧ s.box (σ i) = some c ∧ ρ (σ i) = .at b cap:=by
  rintro b ⟨i,c,cap,hc,hb⟩
  exact ⟨i,_,cap,by simp [hc],hbx i c hc,hb⟩
 refine Calls.mono (hsp.2 H (fun i=>ρ (σ i)) w vs hs.ext ⟨fun i c hc=>(hs.boxes.rep _ _ (hbx i c hc)).unren,fun i c b cap hc hb=>?_,fun i i' c c' b cap cap' hc hc' hb hb'=>?_⟩ (RepL.unren args (by rw [renL_map];exact hr))) ?_
 ·obtain ⟨h1,h2,_⟩:=hs.boxes.apart _ _ b cap (hbx i c hc) hb
  exact ⟨h1,h2,trivial⟩
 ·exact hinj i i' (by simp [hc]) (by simp [hc']) (hs.boxes.inj _ _ _ _ b cap cap' (hbx i c hc) (hbx i' c' hc') hb hb')
 rintro e w' ⟨H',ρ',res,bf',v,rfl,hR,hle,hnew,hext,hB,hrep,hfr,hkeep⟩
 obtain ⟨L,τ,hM,hK⟩:=hk res bf' hR
 refine ⟨v,rfl,(AState.mk s.s (L.map (fun p=>(τ p.1,p.2.ren τ)) ++ dropB (bx.map fun p=>σ p.1) s.b)).put d (res.ren τ),H',?_⟩
 let isNew : Nat → Prop:=fun i=>∃ p ∈ L,p.1 < 1000000 ∧ τ p.1 = i
 have hex : ∀ i,∃ bd,(∀ p ∈ L,p.1 < 1000000 → τ p.1 = i → bd = ρ' p.1) ∧ ((¬ isNew i) → bd = ρ i):=by
  intro i
  by_cases h : isNew i
  ·obtain ⟨p,hp,hlt,rfl⟩:=h
   exact ⟨ρ' p.1,fun q hq _ e=>by rw [hM.inj q hq p hp e],fun hn=>absurd ⟨p,hp,hlt,rfl⟩ hn⟩
  ·exact ⟨ρ i,fun p hp hlt e=>absurd ⟨p,hp,hlt,e⟩ h,fun _=>rfl⟩
 let ρc : Rho:=fun i=>Classical.choose (hex i)
 have hρnew : ∀ p ∈ L,p.1 < 1000000 → ρc (τ p.1) = ρ' p.1:=fun p hp hlt=>(Classical.choose_spec (hex (τ p.1))).1 p hp hlt rfl
 have hρold : ∀ i,¬ isNew i → ρc i = ρ i:=fun i h=>(Classical.choose_spec (hex i)).2 h
 have hnewfresh : ∀ i,isNew i → s.ment i = false ∧ s.box i = none ∧ i < 1000000:=by
  rintro i ⟨p,hp,hlt,rfl⟩
  rcases hM.name p hp with ⟨h,_⟩|⟨_,h1,h2,h3⟩
  ·omega
  ·exact ⟨h1,h2,h3⟩
 have hρL : ∀ p ∈ L,ρc (τ p.1) = ρ' p.1:=by
  intro p hp
  by_cases hlt : p.1 < 1000000
  ·exact hρnew p hp hlt
  ·rcases hM.name p hp with ⟨h,h1,h2⟩|⟨h,_⟩
   ·have hn : ¬ isNew (τ p.1):=by
     intro hn
     have:=(hnewfresh _ hn).2.1
     rw [h2] at this
     cases hc : lk bx p.1 with
     |none=>rw [hc] at h1;cases h1
     |some c=>rw [hbx _ _ hc] at this;cases this
    rw [hρold _ hn,h2,hkeep p.1 h]
   ·exact absurd h hlt
 have hρids : ∀ i ∈ L.map (·.1),ρc (τ i) = ρ' i:=by
  intro i hi
  obtain ⟨p,hp,rfl⟩:=List.mem_map.1 hi
  exact hρL p hp
 have hsz:=hs.frame.size
 have hmine : ∀ b,(w.heap.size ≤ b ∨ OwnB (fun i=>ρ (σ i)) (lk bx) b) → E.mine b:=by
  rintro b (h|h)
  ·exact .inl (by omega)
  ·obtain ⟨i,c,cap,_,hc,hb⟩:=hOwn b h
   exact (hs.boxes.apart _ _ b cap hc hb).2.2
 have hrest : ∀ i c,¬ (bx.map fun p=>σ p.1).contains i = true → s.box i = some c → ∀ b cap,ρ i = .at b cap → b < w.heap.size ∧ ¬ OwnB (fun i=>ρ (σ i)) (lk bx) b:=by
  intro i c hni hc b cap hb
  refine ⟨(hs.boxes.apart i c b cap hc hb).2.1,fun h=>hni ?_⟩
  obtain ⟨j,c',cap',hj,hc',hb'⟩:=hOwn b h
  have:=hs.boxes.inj _ _ _ _ b cap' cap hc' hc hb' hb
  subst this
  cases hjj : lk bx j with
  |none=>rw [hjj] at hj;cases hj
  |some c2 =>
   have:=lk_mem hjj
   simp only [List.contains_iff_mem,List.mem_map]
   exact ⟨(j,c2),this,rfl⟩
 let s1 : AState:=AState.mk s.s (L.map (fun p=>(τ p.1,p.2.ren τ)) ++ dropB (bx.map fun p=>σ p.1) s.b)
 have hbox1 : ∀ i c,s1.box i = some c → (∃ p ∈ L,τ p.1 = i ∧ c = p.2.ren τ) ∨ (¬ (bx.map fun p=>σ p.1).contains i = true ∧ s.box i = some c):=by
  intro i c hc
  have hc' : lk (L.map (fun p=>(τ p.1,p.2.ren τ)) ++ dropB (bx.map fun p=>σ p.1) s.b) i = some c:=hc
  rw [lk_append] at hc'
  split at hc'
  ·rename_i c1 h1
   cases hc'
   exact .inl (lk_ren h1)
  ·rw [lk_dropB] at hc'
   split at hc'
   ·cases hc'
   ·exact .inr ⟨by assumption,hc'⟩
 have hsim : Sim E H' ρc s1.slot s1.box a w':=by
  refine ⟨hext,fun i=>?_,hs.size,hs.defers,⟨fun i c hc=>?_,fun i c b cap hc hb=>?_,fun i i' c c' b cap cap' hc hc' hb hb'=>?_⟩,Heap.le_trans hs.h0 hle,?_,?_,fun i hi=>?_,hs.nle⟩
  ·refine ((hs.slots i).mono hle).rho (fun d hd=>?_)
   refine hρold d (fun hn=>?_)
   rw [AState.ment_slot (hnewfresh d hn).1] at hd
   cases hd
  ·rcases hbox1 i c hc with ⟨p,hp,rfl,rfl⟩|⟨hni,hc⟩
   ·rw [hρL p hp]
    exact (hB.rep p.1 p.2 (hM.known p hp)).ren (fun d hd=>hρids d (hM.ids2 p hp d hd))
   ·have hn : ¬ isNew i:=fun hn=>by rw [(hnewfresh i hn).2.1] at hc;cases hc
    rw [hρold i hn]
    refine (hs.boxes.rep i c hc).mono hle (fun d hd=>hρold d (fun hn=>?_)) (fun b cap hb=>?_)
    ·rw [AState.ment_box (hnewfresh d hn).1 hc] at hd
     cases hd
    ·obtain ⟨h1,h2⟩:=hrest i c hni hc b cap hb
     exact hfr.block b h1 h2
  ·rcases hbox1 i c hc with ⟨p,hp,rfl,rfl⟩|⟨hni,hc⟩
   ·rw [hρL p hp] at hb
    obtain ⟨h1,h2,h3⟩:=hB.apart p.1 p.2 b cap (hM.known p hp) hb
    exact ⟨h1,h2,hmine b h3⟩
   ·have hn : ¬ isNew i:=fun hn=>by rw [(hnewfresh i hn).2.1] at hc;cases hc
    rw [hρold i hn] at hb
    obtain ⟨h1,h2,h3⟩:=hs.boxes.apart i c b cap hc hb
    obtain ⟨h4,h5⟩:=hrest i c hni hc b cap hb
    refine ⟨fun o=>?_,Nat.lt_of_lt_of_le h2 hfr.size,h3⟩
    cases hh : H' b o with
    |none=>rfl
    |some u =>
     rcases hnew b o u hh (h1 o) with h|h
     ·omega
     ·exact absurd h h5
  ·have cross : ∀ p ∈ L,∀ i c,¬ (bx.map fun p=>σ p.1).contains i = true → s.box i = some c → ∀ b cap cap',ρc (τ p.1) = .at b cap → ρc i = .at b cap' → False:=by
    intro p hp i c hni hc b cap cap' hb hb'
    rw [hρL p hp] at hb
    have hn : ¬ isNew i:=fun hn=>by rw [(hnewfresh i hn).2.1] at hc;cases hc
    rw [hρold i hn] at hb'
    obtain ⟨h4,h5⟩:=hrest i c hni hc b cap' hb'
    rcases (hB.apart p.1 p.2 b cap (hM.known p hp) hb).2.2 with h|h
    ·omega
    ·exact h5 h
   rcases hbox1 i c hc with ⟨p,hp,rfl,rfl⟩|⟨hni,hc⟩ <;> rcases hbox1 i' c' hc' with ⟨q,hq,rfl,rfl⟩|⟨hni',hc'⟩
   ·rw [hρL p hp] at hb
    rw [hρL q hq] at hb'
    rw [hB.inj p.1 q.1 _ _ b cap cap' (hM.known p hp) (hM.known q hq) hb hb']
   ·exact (cross p hp i' c' hni' hc' b cap cap' hb hb').elim
   ·exact (cross q hq i c hni hc b cap' cap hb' hb).elim
   ·have hn : ¬ isNew i:=fun hn=>by rw [(hnewfresh i hn).2.1] at hc;cases hc
    have hn' : ¬ isNew i':=fun hn=>by rw [(hnewfresh i' hn).2.1] at hc';cases hc'
    rw [hρold i hn] at hb
    rw [hρold i' hn'] at hb'
    exact hs.boxes.inj i i' c c' b cap cap' hc hc' hb hb'
  ·intro b o u hu h0
   cases hh : H b o with
   |some u'=>exact hs.new b o u' hh h0
   |none=>exact hmine b (hnew b o u hu hh)
  ·refine hs.frame.trans hfr (fun k hk hown=>?_)
   obtain ⟨i,c,cap,_,hc,hb⟩:=hOwn k hown
   rcases (hs.boxes.apart _ _ k cap hc hb).2.2 with h|h
   ·omega
   ·exact h
  ·have hn : ¬ isNew i:=fun hn=>by have:=(hnewfresh i hn).2.2;omega
   rw [hρold i hn]
   exact hs.keep i hi
 refine ⟨ρc,hK,?_⟩
 rw [AState.slot_put,AState.box_put]
 exact hsim.put hd (hrep.ren (fun d hd=>hρids d (hM.ids d hd)))
end
end Go.Am
end
section
namespace Go.Am
open Go.RowKit
attribute [simp ↓] aConvS aConvB aIfcEq stepConv stepNeg aMake aAppendO aUStr aAppK aAppendS strSrc RK RKQ qd stepOp stepSlice stepCap stepCall aRange aNext aEntry aClear aSlNil aAppendN qstep qop aCall aStore aMapUpd aAppend aSrc qload qfaddr qiaddr qbslice qbuild buildK qfield qindex qun qconv qslice qlookup qlen qfold foldInts qcall binInt shiftInt strOp arith nilCmp
attribute [simp] nilRow killI aThere newOp AState.fresh AState.eval evalF AState.slot AState.box argSlots lk AState.put AState.addBox AState.setBox AState.ment mentS mentB AV.ment mentL Ct.ment mentP AV.part aload lkA ofVal okV
 fillElems partsOK setPart fplace slBound findA keysOK nilP nilM nilF nilI isConst BinOp.isShift eqA eqA1 astore killL killB AState.forget AV.forg updA idsOf idsL rids AV.idf idfL AV.flat flatL AState.le leS leB leC thenK inBlk retQ retK tupAV ViewL MOut newIds
attribute [simp] AV.ren renL AV.ids idsA Ct.ren Ct.ids dropB
@[simp] theorem sto_v {x : Value} : (AV.v x).sto = true:=rfl
@[simp] theorem isSt_v {x : Value} : (AV.v x).isSt = false:=rfl
@[simp] theorem one_v {x : Value} : (AV.v x).one = true:=rfl
@[simp] theorem cells_v {x : Value} : (AV.v x).cells = [.v x]:=rfl
@[simp] theorem sto_st {cs : List AV} : (AV.st cs).sto = true:=rfl
@[simp] theorem isSt_st {cs : List AV} : (AV.st cs).isSt = true:=rfl
@[simp] theorem one_st {cs : List AV} : (AV.st cs).one = false:=rfl
@[simp] theorem cells_st {cs : List AV} : (AV.st cs).cells = cs:=rfl
@[simp] theorem sto_sl {k : Nat} {xs : List AV} : (AV.sl k xs).sto = true:=rfl
@[simp] theorem isSt_sl {k : Nat} {xs : List AV} : (AV.sl k xs).isSt = false:=rfl
@[simp] theorem one_sl {k : Nat} {xs : List AV} : (AV.sl k xs).one = true:=rfl
@[simp] theorem cells_sl {k : Nat} {xs : List AV} : (AV.sl k xs).cells = [.sl k xs]:=rfl
@[simp] theorem sto_ep {x : AV} : (AV.ep x).sto = true:=rfl
@[simp] theorem isSt_ep {x : AV} : (AV.ep x).isSt = false:=rfl
@[simp] theorem one_ep {x : AV} : (AV.ep x).one = true:=rfl
@[simp] theorem cells_ep {x : AV} : (AV.ep x).cells = [.ep x]:=rfl
@[simp] theorem sto_own {a b c d : Nat} : (AV.own a b c d).sto = true:=rfl
@[simp] theorem isSt_own {a b c d : Nat} : (AV.own a b c d).isSt = false:=rfl
@[simp] theorem one_own {a b c d : Nat} : (AV.own a b c d).one = true:=rfl
@[simp] theorem cells_own {a b c d : Nat} : (AV.own a b c d).cells = [.own a b c d]:=rfl
@[simp] theorem sto_loc {a b : Nat} : (AV.loc a b).sto = true:=rfl
@[simp] theorem isSt_loc {a b : Nat} : (AV.loc a b).isSt = false:=rfl
@[simp] theorem one_loc {a b : Nat} : (AV.loc a b).one = true:=rfl
@[simp] theorem cells_loc {a b : Nat} : (AV.loc a b).cells = [.loc a b]:=rfl
@[simp] theorem sto_eloc {a b c d : Nat} : (AV.eloc a b c d).sto = true:=rfl
@[simp] theorem isSt_eloc {a b c d : Nat} : (AV.eloc a b c d).isSt = false:=rfl
@[simp] theorem one_eloc {a b c d : Nat} : (AV.eloc a b c d).one = true:=rfl
@[simp] theorem cells_eloc {a b c d : Nat} : (AV.eloc a b c d).cells = [.eloc a b c d]:=rfl
@[simp] theorem sto_mp {a : Nat} : (AV.mp a).sto = true:=rfl
@[simp] theorem isSt_mp {a : Nat} : (AV.mp a).isSt = false:=rfl
@[simp] theorem one_mp {a : Nat} : (AV.mp a).one = true:=rfl
@[simp] theorem cells_mp {a : Nat} : (AV.mp a).cells = [.mp a]:=rfl
@[simp] theorem sto_fn {f : Fn} {a b : List AV} : (AV.fn f a b).sto = true:=rfl
@[simp] theorem isSt_fn {f : Fn} {a b : List AV} : (AV.fn f a b).isSt = false:=rfl
@[simp] theorem one_fn {f : Fn} {a b : List AV} : (AV.fn f a b).one = true:=rfl
@[simp] theorem cells_fn {f : Fn} {a b : List AV} : (AV.fn f a b).cells = [.fn f a b]:=rfl
@[simp] theorem sto_tup {a : List AV} : (AV.tup a).sto = false:=rfl
@[simp] theorem isSt_tup {a : List AV} : (AV.tup a).isSt = false:=rfl
@[simp] theorem one_tup {a : List AV} : (AV.tup a).one = false:=rfl
@[simp] theorem sto_w : AV.w.sto = true:=rfl
@[simp] theorem isSt_w : AV.w.isSt = false:=rfl
@[simp] theorem one_w : AV.w.one = true:=rfl
@[simp] theorem cells_w : AV.w.cells = [.w]:=rfl
@[simp] theorem sto_ifc {t : TypeId} {x : AV} : (AV.ifc t x).sto = true:=rfl
@[simp] theorem isSt_ifc {t : TypeId} {x : AV} : (AV.ifc t x).isSt = false:=rfl
@[simp] theorem one_ifc {t : TypeId} {x : AV} : (AV.ifc t x).one = true:=rfl
@[simp] theorem cells_ifc {t : TypeId} {x : AV} : (AV.ifc t x).cells = [.ifc t x]:=rfl
theorem stepBin_congr {P : Program} {o : Oper} {op : BinOp} {T : TypeId} {x y x' y' : AV} {s : AState} {K : AState → Prop} (hx : x = x') (hy : y = y') : stepBin P o op T x y s K = stepBin P o op T x' y' s K:=by rw [hx,hy]
attribute [congr] stepBin_congr
@[simp low] theorem stepBin_def {P : Program} {o : Oper} {op : BinOp} {T : TypeId} {x y : AV} {s : AState} {K : AState → Prop} : stepBin P o op T x y s K = (match x,y with
   |.sl _ xs,.v (.slice none _ _)=>aSlNil P op T (xs = []) s o.dst K
   |.own _ _ _ n,.v (.slice none _ _)=>aSlNil P op T (n = 0) s o.dst K
   |.ifc t (.v (.int k a)),.ifc t' (.v (.int k' b))=>aIfcEq P op T t t' k k' a b s o.dst K
   |_,_=>qstep P o s K):=rfl
theorem qbin_congr {P : Program} {op : BinOp} {T : TypeId} {x y x' y' : AV} {xc yc : Bool} {cont : AV → Prop} (hx : x = x') (hy : y = y') : qbin P op T x y xc yc cont = qbin P op T x' y' xc yc cont:=by rw [hx,hy]
attribute [congr] qbin_congr
section
variable {P : Program} {op : BinOp} {T : TypeId} {x y : AV} {xc yc : Bool} {cont : AV → Prop}
@[simp] theorem qbin_int {k k' : IntKind} {a b : Int} : qbin P op T (.v (.int k a)) (.v (.int k' b)) xc yc cont = (if BinOp.isShift op then shiftInt op k a b cont else k = k' ∧ binInt op k a b cont):=rfl
@[simp] theorem qbin_str {a b : ByteArray} : qbin P op T (.v (.string a)) (.v (.string b)) xc yc cont = strOp op a b cont:=rfl
@[simp] theorem qbin_bool_eq {a b : Bool} : qbin P .eql T (.v (.bool a)) (.v (.bool b)) xc yc cont = (P.underlying T = some .bool ∧ cont (.v (.bool (a == b)))):=rfl
@[simp] theorem qbin_bool_ne {a b : Bool} : qbin P .neq T (.v (.bool a)) (.v (.bool b)) xc yc cont = (P.underlying T = some .bool ∧ cont (.v (.bool (!(a == b))))):=rfl
@[simp] theorem qbin_st_eq {a b : List AV} : qbin P .eql T (.st a) (.st b) xc yc cont = (aggB P T = true ∧ P.eqGuardType P.depth T = false ∧ match eqKinds P T with
   |some ks=>(match eqA ks a b with
    |some r=>cont (.v (.bool r))
    |none=>False)
   |none=>False):=rfl
@[simp] theorem qbin_st_ne {a b : List AV} : qbin P .neq T (.st a) (.st b) xc yc cont = (aggB P T = true ∧ P.eqGuardType P.depth T = false ∧ match eqKinds P T with
   |some ks=>(match eqA ks a b with
    |some r=>cont (.v (.bool (!r)))
    |none=>False)
   |none=>False):=rfl
def nilish : AV → Bool
 |.v (.pointer none)|.v (.map none)|.v .nilFunc|.v .nilIface|.ep _|.loc _ _|.eloc _ _ _ _|.mp _|.fn _ _ _|.ifc _ _=>true
 |_=>false
@[simp] theorem qbin_nil_eq (h : nilish x = true) : qbin P .eql T x y xc yc cont = nilCmp P T x y xc yc (fun r=>cont (.v (.bool r))):=by
  unfold nilish at h
  split at h <;> first|rfl|(cases h;done)
@[simp] theorem qbin_nil_ne (h : nilish x = true) : qbin P .neq T x y xc yc cont = nilCmp P T x y xc yc (fun r=>cont (.v (.bool (!r)))):=by
  unfold nilish at h
  split at h <;> first|rfl|(cases h;done)
attribute [simp] nilish
end
theorem min64 : IntKind.min .i64 = -9223372036854775808:=rfl
theorem max64 : IntKind.max .i64 = 9223372036854775807:=rfl
theorem sg64 : IntKind.signed .i64 = true:=rfl
attribute [simp] min64 max64 sg64
section
variable {bf : Nat → Option Ct} {d x : AV}
@[simp] theorem view_self (h : x.idf = true) : View bf x x:=.inl ⟨rfl,h⟩
@[simp] theorem view_own {id k off n : Nat} : View bf (.own id k off n) d ↔ match bf id with
   |some (.arr _ k' xs)=>k' = k ∧ off + n ≤ xs.length ∧ d = .sl k ((xs.drop off).take n) ∧ idfL ((xs.drop off).take n) = true
   |some (.box _ y)=>k = 1 ∧ off = 0 ∧ n = y.cells.length ∧ d = .sl 1 y.cells ∧ idfL y.cells = true
   |_=>False:=by
  constructor
  ·rintro (⟨rfl,h⟩|⟨_,_,_,_,_,_,h,hb,h1,h2,h3⟩|⟨_,_,_,_,h,hb,h1,h2,h3⟩|⟨_,_,_,h,_⟩|⟨_,_,_,h,_⟩)
   ·simp [AV.idf] at h
   ·cases h;rw [hb];exact ⟨rfl,h1,h2,h3⟩
   ·cases h;rw [hb];exact ⟨rfl,rfl,h1,h2,h3⟩
   ·cases h
   ·cases h
  ·intro h
   split at h
   ·rename_i hb
    obtain ⟨rfl,h1,h2,h3⟩:=h
    exact .inr (.inl ⟨_,_,_,_,_,_,rfl,hb,h1,h2,h3⟩)
   ·rename_i hb
    obtain ⟨rfl,rfl,h1,h2,h3⟩:=h
    exact .inr (.inr (.inl ⟨_,_,_,_,rfl,hb,h1,h2,h3⟩))
   ·exact h.elim
@[simp] theorem view_loc0 {id : Nat} : View bf (.loc id 0) d ↔ match bf id with
   |some (.box _ y)=>d = .ep y ∧ y.idf = true
   |_=>False:=by
  constructor
  ·rintro (⟨rfl,h⟩|⟨_,_,_,_,_,_,h,hb,h1,h2,h3⟩|⟨_,_,_,_,h,hb,h1,h2,h3⟩|⟨_,_,_,h,hb,h1,h2⟩|⟨_,_,_,h,_⟩)
   ·simp [AV.idf] at h
   ·cases h
   ·cases h
   ·cases h;rw [hb];exact ⟨h1,h2⟩
   ·cases h
  ·intro h
   split at h
   ·rename_i hb;exact .inr (.inr (.inr (.inl ⟨_,_,_,rfl,hb,h.1,h.2⟩)))
   ·exact h.elim
@[simp] theorem view_v {v : Value} : View bf (.v v) d ↔ d = .v v ∨ ∃ k c,v = .slice none 0 c ∧ d = .sl k []:=by
  constructor
  ·rintro (⟨rfl,h⟩|⟨_,_,_,_,_,_,h,hb,h1,h2,h3⟩|⟨_,_,_,_,h,hb,h1,h2,h3⟩|⟨_,_,_,h,hb,h1,h2⟩|⟨_,_,_,h,rfl,h1⟩)
   ·exact .inl rfl
   ·cases h
   ·cases h
   ·cases h
   ·cases h;exact .inr ⟨_,_,rfl,h1⟩
  ·rintro (rfl|⟨k,c,rfl,rfl⟩)
   ·exact .inl ⟨rfl,rfl⟩
   ·exact .inr (.inr (.inr (.inr ⟨_,_,_,rfl,rfl,rfl⟩)))
@[simp] theorem view_st {cs : List AV} : View bf (.st cs) d ↔ d = .st cs ∧ idfL cs = true:=by
  constructor
  ·rintro (⟨rfl,h⟩|⟨_,_,_,_,_,_,h,hb,h1,h2,h3⟩|⟨_,_,_,_,h,hb,h1,h2,h3⟩|⟨_,_,_,h,hb,h1,h2⟩|⟨_,_,_,h,rfl,h1⟩)
   ·exact ⟨rfl,by simpa only [AV.idf] using h⟩
   all_goals cases h
  ·rintro ⟨rfl,h⟩
   exact .inl ⟨rfl,by simpa only [AV.idf] using h⟩
@[simp] theorem view_sl {k : Nat} {xs : List AV} : View bf (.sl k xs) d ↔ d = .sl k xs:=by
  constructor
  ·rintro (⟨rfl,h⟩|⟨_,_,_,_,_,_,h,hb,h1,h2,h3⟩|⟨_,_,_,_,h,hb,h1,h2,h3⟩|⟨_,_,_,h,hb,h1,h2⟩|⟨_,_,_,h,rfl,h1⟩)
   ·rfl
   all_goals cases h
  ·rintro rfl
   exact .inl ⟨rfl,rfl⟩
@[simp] theorem view_ep : View bf (.ep x) d ↔ d = .ep x:=by
  constructor
  ·rintro (⟨rfl,h⟩|⟨_,_,_,_,_,_,h,hb,h1,h2,h3⟩|⟨_,_,_,_,h,hb,h1,h2,h3⟩|⟨_,_,_,h,hb,h1,h2⟩|⟨_,_,_,h,rfl,h1⟩)
   ·rfl
   all_goals cases h
  ·rintro rfl
   exact .inl ⟨rfl,rfl⟩
@[simp] theorem view_tup {cs : List AV} : View bf (.tup cs) d ↔ d = .tup cs ∧ idfL cs = true:=by
  constructor
  ·rintro (⟨rfl,h⟩|⟨_,_,_,_,_,_,h,hb,h1,h2,h3⟩|⟨_,_,_,_,h,hb,h1,h2,h3⟩|⟨_,_,_,h,hb,h1,h2⟩|⟨_,_,_,h,rfl,h1⟩)
   ·exact ⟨rfl,by simpa only [AV.idf] using h⟩
   all_goals cases h
  ·rintro ⟨rfl,h⟩
   exact .inl ⟨rfl,by simpa only [AV.idf] using h⟩
@[simp] theorem view_nil {c k : Nat} : View bf (.v (.slice none 0 c)) (.sl k []):=.inr (.inr (.inr (.inr ⟨_,_,_,rfl,rfl,rfl⟩)))
end
end Go.Am
end
