/- The abstract machine, part 12: stores, appends, map updates -/
import Derived.Test.YtfkgaphfdpflmaaGreatDoorZ1
import Derived.Lib.AppendStr
import Derived.Maps.RangeRun
import Derived.Lib.AppendZeros
import Derived.Lib.ConvBytes
import Derived.Laws.BytesString
import Derived.Lib.IfaceEq
set_option linter.unusedSimpArgs false
set_option linter.unusedVariables false
section
namespace Go.Am
open Go.RowKit
def astore (y : AV) (off : Nat) (x : AV) : AV:=if off = 0 ∧ x.cells.length = y.cells.length ∧ x.isSt = y.isSt then x else .st (setPart y.cells off x.cells)
def AState.setBox (s : AState) (id : Nat) (c : Ct) : AState:=⟨s.s,(id,c) :: s.b⟩
def aStore (P : Program) (T : TypeId) (p x : AV) (s : AState) (K : AState → Prop) : Prop :=
 (okT P T = true ∧ x.sto = true ∧ x.cells.length = P.cellsOf T) ∧ match p with
 |.loc id off=>(match s.box id with
  |some (.box T' y)=>(off + x.cells.length ≤ y.cells.length ∧ ((off = 0 ∧ x.cells.length = y.cells.length ∧ x.isSt = y.isSt) ∨ y.isSt = true)) ∧ K (s.setBox id (.box T' (astore y off x)))
  |_=>False)
 |.eloc id kk i off=>(match s.box id with
  |some (.arr T' k xs)=>(kk = k ∧ i < xs.length ∧ off + x.cells.length ≤ k ∧ ((off = 0 ∧ x.cells.length = (xs.getD i .u).cells.length ∧ x.isSt = (xs.getD i .u).isSt) ∨ (xs.getD i .u).isSt = true)) ∧
    K (s.setBox id (.arr T' k (xs.set i (astore (xs.getD i .u) off x))))
  |_=>False)
 |_=>False
def killL (id : Nat) : List (Nat × AV) → List (Nat × AV)
 |[]=>[]
 |(i,x) :: l=>(i,if x.ment id then .u else x) :: killL id l
def aSrc (s : AState) (x : AV) (K : List AV → Prop) (k : Nat) : Prop :=
 match x with
 |.sl k' ys=>k' = k ∧ K ys
 |.own id k' off m=>(match s.box id with
  |some (.arr _ k2 xs)=>(k' = k ∧ k2 = k ∧ off + m ≤ xs.length) ∧ K ((xs.drop off).take m)
  |_=>False)
 |.v (.slice none n _)=>n = 0 ∧ K []
 |_=>False
def aAppK (P : Program) (T : TypeId) (v : AV) (s : AState) (d : Option Tmp) (src : Nat → (List AV → Prop) → Prop) (K : AState → Prop) : Prop :=
 match P.underlying T with
 |some (.slice e)=>(okT P e = true ∧ 0 < P.cellsOf e ∧ (zeroAV P e).any (fun z=>z.sto && z.cells.length == P.cellsOf e) = true) ∧ (match v with
  |.own id k off n=>(match s.box id with
   |some (.arr e' k' xs)=>src k (fun ys=>(e' = e ∧ k = P.cellsOf e ∧ k' = k ∧ off = 0 ∧ id < 1000000 ∧ n ≤ xs.length ∧ n + ys.length ≤ 9223372036854775807 ∧ (n + ys.length) * P.bytesOf e ≤ 140737488355328 ∧ mentB id s.b = false ∧ mentL id ys = false) ∧
     K ((AState.mk (killL id s.s) ((id,.arr e k (xs.take n ++ ys)) :: s.b)).put d (.own id k 0 (n + ys.length))))
   |_=>False)
  |.v (.slice none n c)=>(match d with
   |some t=>src (P.cellsOf e) (fun ys=>(n = 0 ∧ c = 0 ∧ ys.length ≤ 9223372036854775807 ∧ ys.length * P.bytesOf e ≤ 140737488355328 ∧ mentB t s.b = false ∧ mentL t ys = false) ∧
     K ((AState.mk (killL t s.s) ((t,.arr e (P.cellsOf e) ys) :: s.b)).put d (.own t (P.cellsOf e) 0 ys.length)))
   |none=>False)
  |_=>False)
 |_=>False
def aAppend (P : Program) (T : TypeId) (v x : AV) (s : AState) (d : Option Tmp) (K : AState → Prop) : Prop:=aAppK P T v s d (fun k K=>aSrc s x K k) K
def byteA (b : UInt8) : AV:=.v (.int .u8 b.toNat)
def strA (s : ByteArray) : List AV:=s.data.toList.map byteA
def strSrc (x : AV) (k : Nat) (K : List AV → Prop) : Prop:=match x with
 |.v (.string s)=>k = 1 ∧ K (strA s)
 |_=>False
def aAppendS (P : Program) (T T' : TypeId) (v x : AV) (s : AState) (d : Option Tmp) (K : AState → Prop) : Prop :=
 P.underlying T' = some .string ∧ (match P.underlying T with|some (.slice e)=>P.bytesOf e = 1|_=>False) ∧ aAppK P T v s d (strSrc x) K
def updA (ks : List SK) (key val : AV) : List (AV × AV) → List (AV × AV)
 |[]=>[(key,val)]
 |(k,v) :: es=>if eqA ks key.cells k.cells = some true then (key,val) :: es else (k,v) :: updA ks key val es
def aMapUpd (P : Program) (T : TypeId) (m key val : AV) (s : AState) (K : AState → Prop) : Prop :=
 match P.underlying T with
 |some (.map kt _)=>(match eqKinds P kt with
  |some ks=>(key.isSt = aggB P kt ∧ key.sto = true ∧ (eqA ks key.cells key.cells).isSome = true) ∧ (match m with
   |.mp id=>(match s.box id with
    |some (.map es _)=>keysOK ks (aggB P kt) key es ∧ K (s.setBox id (.map (updA ks key val es) none))
    |_=>False)
   |_=>False)
  |none=>False)
 |_=>False
section
variable {P : Program} {E : Env} {H : Heap} {ρ : Rho} {sf : Nat → AV} {bf : Nat → Option Ct} {a : Act} {w : World}
theorem Ext.not_owned (h : Sim E H ρ sf bf a w) {id b cap : Nat} {c : Ct} (hc : bf id = some c) (hb : ρ id = .at b cap) {b' o : Nat} {v : Value} (hv : H b' o = some v) : b' ≠ b:=by
 rintro rfl
 rw [(h.boxes.apart id c _ cap hc hb).1] at hv
 cases hv
theorem Sim.write (h : Sim E H ρ sf bf a w) {id b cap : Nat} {c c' : Ct} {w' : World} (hc : bf id = some c) (hb : ρ id = .at b cap) (hos : w'.os = w.os) (htape : w'.tape = w.tape) (hout : w'.output = w.output ∧ w.drawn ≤ w'.drawn)
 (hsz : w'.heap.size = w.heap.size) (hoth : ∀ k,k ≠ b → w'.heap[k]? = w.heap[k]?) (hc' : CtRep H ρ w' (.at b cap) c') : Sim E H ρ sf (addF bf (some id) (some c')) a w':=by
 have hmine:=(h.boxes.apart id c b cap hc hb).2.2
 have hdf : DefOK E.w0.heap.size a.defers w':=h.defers.of_same fun D hD=>hoth D (by
  rintro rfl
  have hr:=h.boxes.rep id c hc
  rw [hb] at hr
  obtain ⟨o,ho,hn⟩:=hr.obj
  rw [hD] at ho
  cases ho
  exact hn _ rfl)
 refine ⟨fun b' o v hv=>?_,h.slots,h.size,hdf,⟨fun id' c2 hc2=>?_,fun id' c2 b' cap' hc2 hb'=>?_,fun i j ci cj bi capi capj hi hj hbi hbj=>?_⟩,h.h0,h.new,?_,h.keep,h.nle⟩
 ·have hne:=Ext.not_owned h hc hb hv
  have:=h.ext b' o v hv
  rw [World.cell?_of_block (w:=w) (a:=⟨b',o,none⟩) (hoth b' hne)]
  exact this
 ·simp only [addF] at hc2
  split at hc2
  ·rename_i e;subst e;cases hc2;rw [hb];exact hc'
  ·rename_i hne
   refine (h.boxes.rep id' c2 hc2).mono H.le_refl (fun _ _=>rfl) (fun b2 cap2 hb2=>hoth b2 ?_)
   rintro rfl
   exact hne (h.boxes.inj id id' c c2 _ cap cap2 hc hc2 hb hb2)
 ·simp only [addF] at hc2
  rw [hsz]
  split at hc2
  ·rename_i e;subst e;exact h.boxes.apart id c b' cap' hc hb'
  ·exact h.boxes.apart id' c2 b' cap' hc2 hb'
 ·have lift : ∀ j cj,addF bf (some id) (some c') j = some cj → ∃ cj',bf j = some cj':=by
   intro j cj hj
   simp only [addF] at hj
   split at hj
   ·rename_i e;subst e;exact ⟨c,hc⟩
   ·exact ⟨cj,hj⟩
  obtain ⟨ci',hi'⟩:=lift i ci hi
  obtain ⟨cj',hj'⟩:=lift j cj hj
  exact h.boxes.inj i j ci' cj' bi capi capj hi' hj' hbi hbj
 ·refine ⟨hos.trans h.frame.os,htape.trans h.frame.tape,⟨hout.1.trans h.frame.output.1,Nat.le_trans h.frame.output.2 hout.2⟩,by rw [hsz];exact h.frame.size,fun k hk hm=>?_⟩
  rw [hoth k (fun e=>by subst e;exact hmine.elim (fun h1=>by omega) hm)]
  exact h.frame.block k hk hm
theorem Sim.rebind (h : Sim E H ρ sf bf a w) {id b cap : Nat} {c' : Ct} {w' : World} (hidl : id < 1000000) (hos : w'.os = w.os) (htape : w'.tape = w.tape) (hout : w'.output = w.output ∧ w.drawn ≤ w'.drawn)
 (hoth : ∀ k,k < w.heap.size → w'.heap[k]? = w.heap[k]?) (hb0 : w.heap.size ≤ b) (hb1 : b < w'.heap.size) (hm : ∀ j c,bf j = some c → c.ment id = false) {sf' : Nat → AV} (hsf : ∀ i,sf' i = .u ∨ (sf' i = sf i ∧ (sf i).ment id = false))
 (hc' : CtRep H (ρ.upd id (.at b cap)) w' (.at b cap) c') : Sim E H (ρ.upd id (.at b cap)) sf' (addF bf (some id) (some c')) a w':=by
 have hw0:=h.frame.size
 have hρne : ∀ j,j ≠ id → (ρ.upd id (.at b cap)) j = ρ j:=fun j hne=>by simp [Rho.upd,hne]
 have hHb : ∀ o,H b o = none:=by
  intro o
  cases hh : H b o with
  |none=>rfl
  |some v=>have:=World.block_lt_of_cell? w _ (h.ext b o v hh);simp at this;omega
 refine ⟨fun b' o v hv=>?_,fun i=>?_,h.size,h.defers.of_same fun D hD=>hoth D (Array.getElem?_eq_some_iff.1 hD).1,⟨fun id' c2 hc2=>?_,fun id' c2 b' cap' hc2 hb'=>?_,fun i j ci cj bi capi capj hi hj hbi hbj=>?_⟩,h.h0,h.new,?_,fun i hi hi2=>(hρne i (by omega)).trans (h.keep i hi hi2),h.nle⟩
 ·have h0:=h.ext b' o v hv
  have hlt:=World.block_lt_of_cell? w _ h0
  rw [World.cell?_of_block (w:=w) (a:=⟨b',o,none⟩) (hoth b' hlt)]
  exact h0
 ·rcases hsf i with e|⟨e,hme⟩
  ·rw [e];exact .u
  ·rw [e];exact (h.slots i).upd hme
 ·simp only [addF] at hc2
  split at hc2
  ·rename_i e;subst e;cases hc2;rw [Rho.upd_same];exact hc'
  ·rename_i hne
   rw [hρne id' (fun e=>hne e.symm)]
   refine (h.boxes.rep id' c2 hc2).mono H.le_refl (fun d hd=>hρne d (fun e=>?_)) (fun b2 cap2 hb2=>hoth b2 (h.boxes.apart id' c2 b2 cap2 hc2 hb2).2.1)
   subst e
   rw [hm id' c2 hc2] at hd
   cases hd
 ·simp only [addF] at hc2
  split at hc2
  ·rename_i e;subst e
   rw [Rho.upd_same] at hb'
   cases hb'
   exact ⟨hHb,hb1,.inl (by omega)⟩
  ·rename_i hne
   rw [hρne id' (fun e=>hne e.symm)] at hb'
   obtain ⟨h1,h2,h3⟩:=h.boxes.apart id' c2 b' cap' hc2 hb'
   exact ⟨h1,by omega,h3⟩
 ·simp only [addF] at hi hj
  split at hi
  ·rename_i e
   split at hj
   ·rename_i e';exact e.symm.trans e'
   ·rename_i hne'
    exfalso
    subst e
    rw [Rho.upd_same] at hbi
    cases hbi
    rw [hρne j (fun e=>hne' e.symm)] at hbj
    have:=(h.boxes.apart j cj _ _ hj hbj).2.1
    omega
  ·rename_i hne
   rw [hρne i (fun e=>hne e.symm)] at hbi
   split at hj
   ·rename_i e'
    exfalso
    subst e'
    rw [Rho.upd_same] at hbj
    cases hbj
    have:=(h.boxes.apart i ci _ _ hi hbi).2.1
    omega
   ·rename_i hne'
    rw [hρne j (fun e=>hne' e.symm)] at hbj
    exact h.boxes.inj i j ci cj bi capi capj hi hj hbi hbj
 ·refine ⟨hos.trans h.frame.os,htape.trans h.frame.tape,⟨hout.1.trans h.frame.output.1,Nat.le_trans h.frame.output.2 hout.2⟩,by omega,fun k hk hmay=>?_⟩
  rw [hoth k (by omega)]
  exact h.frame.block k hk hmay
theorem setRow_size (w : World) (g : Nat) (cs : Array Value) : (w.setRow g cs).heap.size = w.heap.size:=by simp [World.setRow]
theorem RepL.setPart' {cs : List AV} {vs : List Value} {off : Nat} {new : List AV} {nv : List Value} (h : RepL H ρ cs vs) (hn : RepL H ρ new nv) :
 RepL H ρ (Am.setPart cs off new) (vs.take off ++ nv ++ vs.drop (off + nv.length)):=by
 rw [List.append_assoc];exact h.setPart hn
theorem astore_cells {y x : AV} {off : Nat} (hfit : off + x.cells.length ≤ y.cells.length) (hc : (off = 0 ∧ x.cells.length = y.cells.length ∧ x.isSt = y.isSt) ∨ y.isSt = true) : (astore y off x).cells = setPart y.cells off x.cells:=by
 unfold astore
 split
 ·rename_i h
  obtain ⟨rfl,hl,_⟩:=h
  simp only [Am.setPart,List.take_zero,List.nil_append,Nat.zero_add]
  rw [hl,List.drop_length,List.append_nil]
 ·rfl
theorem AState.box_setBox (s : AState) (id : Nat) (c : Ct) : (s.setBox id c).box = addF s.box (some id) (some c):=rfl
theorem AState.slot_setBox (s : AState) (id : Nat) (c : Ct) : (s.setBox id c).slot = s.slot:=rfl
theorem run_storeAt {T : TypeId} {b o : Nat} {v : Value} {cur : Array Value} {t : TypeId} (hT : okT P T = true) (hl : v.cells.size = P.cellsOf T) (hg : w.heap[b]? = some (.cells cur t (0,0))) (hfit : o + v.cells.size ≤ cur.size) (h1 : ∀ u ∈ v.cells.toList,okV u = true) :
 (Instr.storeAt T (.pointer (some ⟨b,o,none⟩)) v).run P w = .ok () (w.setRow b (cur.toList.take o ++ v.cells.toList ++ cur.toList.drop (o + v.cells.toList.length)).toArray):=by
 have hst:=run_storeCells_at P b o t v.cells.toList 0 cur w hg (by simpa using hfit) (fun u hu=>okV_oneCell (h1 u hu))
 simp only [Nat.add_zero] at hst
 simp only [Instr.storeAt,Instr.sureAddr,Sem.run_bind,Sem.run_pure,Result.andThen_ok,storeVar,run_sizeOf' hT,hl,ne_eq,not_true_eq_false,if_false]
 exact hst
theorem aStore_sound {T : TypeId} {p x : AV} {vp vx : Value} {s : AState} {K : AState → Prop} (hs : Sim E H ρ s.slot s.box a w) (hp : Rep H ρ p vp) (hx : Rep H ρ x vx) (h : aStore P T p x s K) :
 ∃ w' s',K s' ∧ Sim E H ρ s'.slot s'.box a w' ∧ (Instr.storeAt T vp vx).run P w = .ok () w':=by
 obtain ⟨⟨hT,hsto,hlen⟩,h⟩:=h
 obtain ⟨hxc,hx1⟩:=hx.cellsL hsto
 have hvl : vx.cells.size = P.cellsOf T:=by have:=hxc.1;rw [hlen] at this;simpa using this.symm
 have hok:=hxc.ok hx1
 split at h
 ·rename_i id off
  split at h
  ·rename_i T' y hbx
   obtain ⟨⟨hfit,hcase⟩,hk⟩:=h
   cases hp with
   |loc hρ =>
    rename_i b cap
    obtain ⟨b',cap',vs,hbd,hheap,hrep,hone,hcap⟩:=hs.boxes.rep _ _ hbx
    obtain ⟨rfl,rfl⟩:=rho_at hρ hbd
    have hrun:=run_storeAt (P:=P) (w:=w) (o:=off) hT hvl hheap (by rw [hvl,← hlen];have:=hrep.1;simp;omega) hok
    refine ⟨_,_,hk,?_,hrun⟩
    rw [AState.box_setBox,AState.slot_setBox]
    have hac:=astore_cells hfit hcase
    refine hs.write hbx hρ rfl rfl ⟨rfl,Nat.le_refl _⟩ (setRow_size _ _ _) (fun k hk=>setRow_other w b k _ hk) ⟨b,cap,_,rfl,setRow_heap w b _ _ _ _ hheap,?_,?_,?_⟩
    ·rw [hac]
     exact hrep.setPart' hxc
    ·intro c hc
     rw [hac] at hc
     exact setPart_one hone hx1 c hc
    ·rw [hac,setPart_len hfit];exact hcap
  ·exact h.elim
 ·rename_i id kk i off
  split at h
  ·rename_i T' k xs hbx
   obtain ⟨⟨rfl,hi,hfit,hcase⟩,hkk⟩:=h
   cases hp with
   |eloc hρ =>
    rename_i b cap
    rcases hs.boxes.rep _ _ hbx with ⟨hnil,_⟩|⟨b',cap',cur,hbd,hheap,hmax,hcap,hsz,hrep,hall⟩
    ·rw [hnil] at hρ;cases hρ
    obtain ⟨rfl,rfl⟩:=rho_at hρ hbd
    have hxi : xs.getD i .u = xs[i]:=by simp [hi]
    rw [hxi] at hcase hkk
    have hik:=hall _ (List.getElem_mem hi)
    have hfl:=flat_len (fun x hx=>(hall x hx).1)
    have hmul : (i + 1) * kk ≤ cap * kk:=Nat.mul_le_mul_right _ (by omega)
    rw [Nat.add_mul,Nat.one_mul] at hmul
    have hrun:=run_storeAt (P:=P) (w:=w) (o:=i * kk + off) hT hvl hheap (by rw [hvl,← hlen,hsz];omega) hok
    refine ⟨_,_,hkk,?_,hrun⟩
    rw [AState.box_setBox,AState.slot_setBox]
    have hac:=astore_cells (by rw [hik.1];exact hfit) hcase
    have hackk : (astore xs[i] off x).cells.length = kk:=by rw [hac,setPart_len (by rw [hik.1];exact hfit)];exact hik.1
    have hvlx : vx.cells.toList.length = x.cells.length:=by rw [← hxc.1]
    refine hs.write hbx hρ rfl rfl ⟨rfl,Nat.le_refl _⟩ (setRow_size _ _ _) (fun k hk=>setRow_other w b k _ hk) (.inr ⟨b,cap,_,rfl,setRow_heap w b _ _ _ _ hheap,hmax,by simpa using hcap,?_,?_,?_⟩)
    ·simp only [List.size_toArray,List.length_append,List.length_take,List.length_drop,Array.length_toList,hvl]
     omega
    ·have hfs:=flat_set (fun x hx=>(hall x hx).1) hackk hi
     rw [hfs,hac,List.length_set]
     have hm2 : (i + 1) * kk ≤ xs.length * kk:=Nat.mul_le_mul_right _ (by omega)
     rw [Nat.add_mul,Nat.one_mul] at hm2
     have hseg : setPart (xs.flatMap AV.cells) (i * kk) (setPart xs[i].cells off x.cells) = setPart (xs.flatMap AV.cells) (i * kk + off) x.cells:=by
      have hg:=flat_get (fun x hx=>(hall x hx).1) (List.getElem?_eq_getElem hi)
      have hsl:=setPart_len (cs:=xs[i].cells) (off:=off) (new:=x.cells) (by rw [hik.1];exact hfit)
      unfold Am.setPart at hsl ⊢
      rw [hsl,hik.1]
      have e1 : (xs.flatMap AV.cells).take (i * kk + off) = (xs.flatMap AV.cells).take (i * kk) ++ xs[i].cells.take off:=by
       rw [List.take_add,← hg,List.take_take]
       congr 2
       omega
      have e2 : xs[i].cells.drop (off + x.cells.length) ++ (xs.flatMap AV.cells).drop (i * kk + kk) = (xs.flatMap AV.cells).drop (i * kk + off + x.cells.length):=by
       rw [← hg,← List.drop_drop (i:=kk),List.drop_take]
       have : (xs.flatMap AV.cells).drop (i * kk + off + x.cells.length) = ((xs.flatMap AV.cells).drop (i * kk)).drop (off + x.cells.length):=by rw [List.drop_drop];congr 1;omega
       rw [this]
       generalize (xs.flatMap AV.cells).drop (i * kk) = L
       have h3 : L.drop kk = (L.drop (off + x.cells.length)).drop (kk - (off + x.cells.length)):=by rw [List.drop_drop];congr 1;omega
       rw [h3,List.take_append_drop]
      rw [e1,← e2]
      simp only [List.append_assoc]
     rw [hseg]
     have hr2:=hrep.setPart' (off:=i * kk + off) hxc
     have e3 : (cur.toList.take (i * kk + off) ++ vx.cells.toList ++ cur.toList.drop (i * kk + off + vx.cells.toList.length)).take (xs.length * kk) =
      (cur.toList.take (xs.length * kk)).take (i * kk + off) ++ vx.cells.toList ++ (cur.toList.take (xs.length * kk)).drop (i * kk + off + vx.cells.toList.length):=by
      rw [List.append_assoc,List.append_assoc,List.take_append,List.take_append,List.take_take,List.drop_take]
      have l1 : (cur.toList.take (i * kk + off)).length = i * kk + off:=by simp;omega
      rw [l1,List.take_take]
      have l2 : min (xs.length * kk) (i * kk + off) = i * kk + off:=by omega
      have l2' : min (i * kk + off) (xs.length * kk) = i * kk + off:=by omega
      rw [l2,l2']
      congr 1
      have l3 : vx.cells.toList.take (xs.length * kk - (i * kk + off)) = vx.cells.toList:=List.take_of_length_le (by rw [hvlx];omega)
      rw [l3]
      congr 2
      omega
     show RepL H ρ _ (List.take (xs.length * kk) (List.toArray _).toList)
     rw [List.toList_toArray,e3]
     exact hr2
    ·intro z hz
     rcases List.mem_or_eq_of_mem_set hz with h|h
     ·exact hall z h
     ·subst h
      refine ⟨hackk,fun c hc=>?_⟩
      rw [hac] at hc
      exact setPart_one hik.2 hx1 c hc
  ·exact h.elim
 ·exact h.elim
theorem mentB_box {s : AState} {id j : Nat} {c : Ct} (h : mentB id s.b = false) (hc : s.box j = some c) : c.ment id = false:=mentB_lk hc h
theorem killL_slot {id : Nat} : ∀ (l : List (Nat × AV)) (i : Nat),(lk (killL id l) i).getD .u = .u ∨ ((lk (killL id l) i).getD .u = (lk l i).getD .u ∧ ((lk l i).getD .u).ment id = false)
 |[],i=>.inl rfl
 |(j,x) :: l,i=>by
  simp only [killL,lk]
  split
  ·cases hm : x.ment id
   ·right;simp [hm]
   ·left;simp
  ·exact killL_slot l i
def SrcRep (H : Heap) (ρ : Rho) (w : World) (k : Nat) (ys : List AV) (v : Value) : Prop :=
 (∀ y ∈ ys,y.cells.length = k ∧ oneAll y) ∧ ∃ base c,v = .slice base ys.length c ∧ (ys ≠ [] → ∃ ad,base = some ad ∧ ∃ news : List Value,RepL H ρ (ys.flatMap AV.cells) news ∧ ∀ j u,news[j]? = some u → w.cell? (ad.add j) = some u)
theorem aSrc_sound {s : AState} {x : AV} {vx : Value} {K : List AV → Prop} {k : Nat} (hs : Sim E H ρ s.slot s.box a w) (hx : Rep H ρ x vx) (h : aSrc s x K k) : ∃ ys,K ys ∧ SrcRep H ρ w k ys vx:=by
 unfold aSrc at h
 split at h
 ·rename_i k' ys
  obtain ⟨rfl,hk⟩:=h
  refine ⟨ys,hk,?_⟩
  cases hx with
  |slNil=>exact ⟨by simp,_,_,rfl,fun h=>absurd rfl h⟩
  |sl cell hcap hmax hkk hone hH hrep =>
   rename_i blk off cap
   refine ⟨fun y hy=>⟨hkk y hy,hone y hy⟩,_,_,rfl,fun _=>⟨_,rfl,?_⟩⟩
   have hfl:=flat_len hkk
   have hel : ∀ j c,(ys.flatMap AV.cells)[j]? = some c → ∃ x,ys[j / k']? = some x ∧ x.cells[j % k']? = some c:=by
    intro j c hc
    have hj : j < ys.length * k':=by rw [← hfl];exact (List.getElem?_eq_some_iff.1 hc).1
    have hk0 : 0 < k':=by
     rcases Nat.eq_zero_or_pos k' with h|h
     ·subst h;simp at hj
     ·exact h
    have hi : j / k' < ys.length:=(Nat.div_lt_iff_lt_mul hk0).2 hj
    have hg:=flat_get hkk (List.getElem?_eq_getElem hi)
    refine ⟨ys[j / k'],List.getElem?_eq_getElem hi,?_⟩
    rw [← hg,List.getElem?_take,if_pos (Nat.mod_lt _ hk0),List.getElem?_drop]
    rw [show j / k' * k' + j % k' = j by rw [Nat.mul_comm];exact Nat.div_add_mod j k']
    exact hc
   refine ⟨(List.range (ys.length * k')).map (fun j=>cell (j / k') (j % k')),⟨by rw [hfl];simp,fun j c u hc hu=>?_⟩,fun j u hu=>?_⟩
   ·obtain ⟨x,hx1,hx2⟩:=hel j c hc
    have hj : j < ys.length * k':=by rw [← hfl];exact (List.getElem?_eq_some_iff.1 hc).1
    rw [List.getElem?_map,List.getElem?_range hj] at hu
    simp at hu
    subst hu
    exact (hrep _ _ _ _ hx1 hx2).any (fun _=>rfl) ρ
   ·have hj : j < ys.length * k':=by
     have:=(List.getElem?_eq_some_iff.1 hu).1
     simpa using this
    rw [List.getElem?_map,List.getElem?_range hj] at hu
    simp at hu
    subst hu
    obtain ⟨x,hx1,hx2⟩:=hel j _ (List.getElem?_eq_getElem (by rw [hfl];exact hj))
    have:=hs.ext _ _ _ (hH _ _ _ _ hx1 hx2)
    rw [Addr.add_mk]
    rw [Nat.add_assoc,show j / k' * k' + j % k' = j by rw [Nat.mul_comm];exact Nat.div_add_mod j k'] at this
    exact this
 ·rename_i id k' off m
  split at h
  ·rename_i T k2 xs hbx
   obtain ⟨⟨rfl,rfl,hlen⟩,hk⟩:=h
   refine ⟨_,hk,?_⟩
   have hyl : ((xs.drop off).take m).length = m:=by simp;omega
   rcases hs.boxes.rep _ _ hbx with ⟨hnil,hxs⟩|⟨b',cap',cur,hbd,hheap,hmax,hcap,hsz,hrep,hall⟩
   ·subst hxs
    have hm0 : m = 0:=by simpa using hyl.symm
    refine ⟨by simp,?_⟩
    rw [hyl]
    cases hx with
    |ownNil=>exact ⟨_,_,rfl,fun h=>absurd (by simp) h⟩
    |own hρ=>rw [hnil] at hρ;cases hρ
   ·refine ⟨fun y hy=>hall y (mem_drop_take hy),?_⟩
    rw [hyl]
    cases hx with
    |ownNil=>exact ⟨_,_,rfl,fun h=>absurd (by simp) h⟩
    |own hρ hn hm =>
     rename_i b cap
     obtain ⟨rfl,rfl⟩:=rho_at hρ hbd
     refine ⟨_,_,rfl,fun _=>⟨_,rfl,?_⟩⟩
     have hfl:=flat_len (fun x hx=>(hall x hx).1)
     have hseg:=(hrep.drop (off * k2)).take (m * k2)
     have e1 : ((xs.flatMap AV.cells).drop (off * k2)).take (m * k2) = ((xs.drop off).take m).flatMap AV.cells:=by
      have hd : (xs.flatMap AV.cells).drop (off * k2) = (xs.drop off).flatMap AV.cells:=by
       conv=>lhs;rw [← List.take_append_drop off xs]
       rw [List.flatMap_append]
       have : ((xs.take off).flatMap AV.cells).length = off * k2:=by
        rw [flat_len (fun x hx=>(hall x (List.mem_of_mem_take hx)).1)]
        rw [List.length_take];congr 1;omega
       rw [← this,List.drop_left]
      rw [hd]
      conv=>lhs;rw [← List.take_append_drop m (xs.drop off)]
      rw [List.flatMap_append]
      have : (((xs.drop off).take m).flatMap AV.cells).length = m * k2:=by
       rw [flat_len (fun x hx=>(hall x (mem_drop_take hx)).1),hyl]
      rw [← this,List.take_left]
     rw [e1] at hseg
     refine ⟨_,hseg,fun j u hu=>?_⟩
     rw [Addr.add_mk,cell_of_row w b _ _ _ _ hheap]
     rw [List.getElem?_take] at hu
     split at hu
     ·rw [List.getElem?_drop,List.getElem?_take] at hu
      split at hu
      ·simpa using hu
      ·cases hu
     ·cases hu
  ·exact h.elim
 ·obtain ⟨rfl,hk⟩:=h
  rw [hx.v_inv]
  exact ⟨[],hk,by simp,_,_,rfl,fun h=>absurd rfl h⟩
 ·exact h.elim
theorem run_append_zero {t ty e : TypeId} {sb xb : Option Addr} {n c xc : Nat} (ht : P.underlying t = some (.slice e)) (hok : okT P e = true) (hc : n ≤ c) :
 (Builtin.append_ #[t,t] ty #[.slice sb n c,.slice xb 0 xc]).run P w = .ok (.slice sb n c) w:=by
 obtain ⟨i,hi⟩:=info_of_okT hok
 cases sb <;> cases xb <;> simp [Builtin.append_,run_underlying ht,Go.sizeOf,typeInfo,hi,Builtin.lenOf,hc,Builtin.firstCells,loadCells,loadCellsFrom,storeCells]
theorem mentL_flat_false {d : Nat} {xs : List AV} (h : mentL d xs = false) : mentL d (xs.flatMap AV.cells) = false:=by
 cases hm : mentL d (xs.flatMap AV.cells) with
 |false=>rfl
 |true=>rw [mentL_flat hm] at h;cases h
theorem mentL_append (d : Nat) : ∀ (a b : List AV),mentL d (a ++ b) = (mentL d a || mentL d b)
 |[],b=>by simp [mentL]
 |c :: a,b=>by simp [mentL,mentL_append d a b,Bool.or_assoc]
theorem mentL_take {d n : Nat} : ∀ {xs : List AV},mentL d xs = false → mentL d (xs.take n) = false
 |[],_=>by simp [mentL]
 |x :: xs,h=>by
  cases n with
  |zero=>simp [mentL]
  |succ n =>
   simp only [mentL,Bool.or_eq_false_iff] at h
   simp [mentL,h.1,mentL_take h.2]
def AV.forg (id : Nat) (x : AV) : AV:=if x.isSt then .st (x.cells.map fun c=>if c.ment id then .w else c) else if x.ment id then .w else x
def killB (id : Nat) : List (Nat × Ct) → List (Nat × Ct)
 |[]=>[]
 |(i,.box T x) :: l=>(i,if x.ment id then .box T (x.forg id) else .box T x) :: killB id l
 |(i,.arr T k xs) :: l=>(i,if mentL id xs then .arr T k (xs.map (AV.forg id)) else .arr T k xs) :: killB id l
 |(i,c) :: l=>(i,c) :: killB id l
def AState.forget (s : AState) (v : AV) : AState:=match v with
 |.own id _ _ _=>⟨s.s,killB id s.b⟩
 |_=>s
theorem killB_lk {id : Nat} : ∀ {l : List (Nat × Ct)} {i : Nat} {c : Ct},lk (killB id l) i = some c → lk l i = some c ∨ (∃ T x,lk l i = some (.box T x) ∧ c = .box T (x.forg id)) ∨ ∃ T k xs,lk l i = some (.arr T k xs) ∧ c = .arr T k (xs.map (AV.forg id))
 |[],_,_,h=>by simp [killB,lk] at h
 |(j,e) :: l,i,c,h=>by
  have step : ∀ e',lk ((j,e') :: killB id l) i = some c → (e' = e ∨ (∃ T x,e = .box T x ∧ e' = .box T (x.forg id)) ∨ ∃ T k xs,e = .arr T k xs ∧ e' = .arr T k (xs.map (AV.forg id))) →
   lk ((j,e) :: l) i = some c ∨ (∃ T x,lk ((j,e) :: l) i = some (.box T x) ∧ c = .box T (x.forg id)) ∨ ∃ T k xs,lk ((j,e) :: l) i = some (.arr T k xs) ∧ c = .arr T k (xs.map (AV.forg id)):=by
   intro e' h he
   by_cases hji : j = i
   ·simp only [lk,if_pos hji] at h ⊢
    have h:=Option.some.inj h
    subst h
    rcases he with rfl|⟨T,x,rfl,rfl⟩|⟨T,k,xs,rfl,rfl⟩
    ·exact .inl rfl
    ·exact .inr (.inl ⟨T,x,rfl,rfl⟩)
    ·exact .inr (.inr ⟨T,k,xs,rfl,rfl⟩)
   ·simp only [lk,if_neg hji] at h ⊢
    exact killB_lk h
  cases e with
  |box T x =>
   simp only [killB] at h
   by_cases hm : x.ment id = true
   ·rw [if_pos hm] at h;exact step _ h (.inr (.inl ⟨T,x,rfl,rfl⟩))
   ·rw [if_neg hm] at h;exact step _ h (.inl rfl)
  |arr T k xs =>
   simp only [killB] at h
   by_cases hm : mentL id xs = true
   ·rw [if_pos hm] at h;exact step _ h (.inr (.inr ⟨T,k,xs,rfl,rfl⟩))
   ·rw [if_neg hm] at h;exact step _ h (.inl rfl)
  |_=>simp only [killB] at h;exact step _ h (.inl rfl)
theorem forg_len {id : Nat} {x : AV} (h : oneAll x) : (x.forg id).cells.length = x.cells.length:=by
 unfold AV.forg
 by_cases hs : x.isSt = true
 ·rw [if_pos hs];simp [AV.cells]
 ·rw [if_neg hs]
  split
  ·cases x <;> simp_all [AV.isSt,AV.cells]
  ·rfl
theorem forg_cells {id : Nat} {x : AV} {i : Nat} {c : AV} (h : (x.forg id).cells[i]? = some c) : x.cells[i]? = some c ∨ (c = .w ∧ i < x.cells.length):=by
 unfold AV.forg at h
 by_cases hs : x.isSt = true
 ·rw [if_pos hs] at h
  simp only [AV.cells,List.getElem?_map] at h
  cases hx : x.cells[i]? with
  |none =>
   cases x <;> simp_all [AV.cells,AV.isSt]
  |some y =>
   have hi:=(List.getElem?_eq_some_iff.1 hx).1
   cases x with
   |st cs =>
    simp only [AV.cells] at hx hi h
    rw [hx] at h
    simp only [Option.map_some,Option.some.injEq] at h
    split at h
    ·exact .inr ⟨h.symm,hi⟩
    ·subst h;exact .inl rfl
   |_=>simp [AV.isSt] at hs
 ·rw [if_neg hs] at h
  split at h
  ·cases x with
   |st cs=>simp [AV.isSt] at hs
   |_ =>
    simp only [AV.cells] at h ⊢
    cases i with
    |zero=>simp at h;exact .inr ⟨h.symm,by simp⟩
    |succ i=>simp at h
  ·exact .inl h
theorem CtRep.forg {id : Nat} {T : TypeId} {x : AV} {bd : Bd} (h : CtRep H ρ w bd (.box T x)) : CtRep H ρ w bd (.box T (x.forg id)):=by
 obtain ⟨b,cap,vs,h1,h2,h3,h4,h5⟩:=h
 have hl:=forg_len (id:=id) h4
 refine ⟨b,cap,vs,h1,h2,⟨by rw [hl];exact h3.1,fun i c u hc hu=>?_⟩,fun c hc=>?_,by rw [hl];exact h5⟩
 ·rcases forg_cells hc with h|⟨rfl,hi⟩
  ·exact h3.2 i c u h hu
  ·exact .w ((h3.2 i _ u (List.getElem?_eq_getElem hi) hu).okV (h4 _ (List.getElem_mem hi)))
 ·obtain ⟨i,hi⟩:=List.getElem?_of_mem hc
  rcases forg_cells hi with h|⟨rfl,_⟩
  ·exact h4 c (List.mem_of_getElem? h)
  ·rfl
theorem forg_eq {id : Nat} {x : AV} (h : oneAll x) : (x.forg id).cells = x.cells.map fun c=>if c.ment id then .w else c:=by
 unfold AV.forg
 by_cases hs : x.isSt = true
 ·rw [if_pos hs];simp [AV.cells]
 ·rw [if_neg hs]
  have hx : x.cells = [x]:=by cases x <;> first|(simp [AV.isSt] at hs;done)|rfl
  rw [hx]
  by_cases hm : x.ment id = true
  ·rw [if_pos hm];simp [hm,AV.cells]
  ·rw [if_neg hm,hx];simp [hm]
theorem CtRep.forgA {id : Nat} {T k : Nat} {xs : List AV} {bd : Bd} (h : CtRep H ρ w bd (.arr T k xs)) : CtRep H ρ w bd (.arr T k (xs.map (AV.forg id))):=by
 rcases h with ⟨h,rfl⟩|⟨b,cap,cur,h1,h2,h3,h4,h5,h6,h7⟩
 ·exact .inl ⟨h,rfl⟩
 ·have e : (xs.map (AV.forg id)).flatMap AV.cells = (xs.flatMap AV.cells).map fun c=>if c.ment id then .w else c:=by
   clear h6 h4
   induction xs with
   |nil=>rfl
   |cons x xs ih=>rw [List.map_cons,List.flatMap_cons,List.flatMap_cons,List.map_append,ih (fun y hy=>h7 y (by simp [hy])),forg_eq (h7 x (by simp)).2]
  have h1s : ∀ c ∈ xs.flatMap AV.cells,c.one = true:=fun c hc=>by
   obtain ⟨x,hx,hcx⟩:=List.mem_flatMap.1 hc
   exact (h7 x hx).2 c hcx
  refine .inr ⟨b,cap,cur,h1,h2,h3,by simpa using h4,h5,?_,fun y hy=>?_⟩
  ·rw [e,List.length_map]
   refine ⟨by simpa using h6.1,fun i c u hc hu=>?_⟩
   rw [List.getElem?_map] at hc
   cases hx : (xs.flatMap AV.cells)[i]? with
   |none=>rw [hx] at hc;cases hc
   |some c0 =>
    rw [hx] at hc
    simp only [Option.map_some,Option.some.injEq] at hc
    have hr:=h6.2 i c0 u hx hu
    split at hc
    ·subst hc;exact .w (hr.okV (h1s c0 (List.mem_of_getElem? hx)))
    ·subst hc;exact hr
  ·obtain ⟨x,hx,rfl⟩:=List.mem_map.1 hy
   refine ⟨by rw [forg_len (h7 x hx).2];exact (h7 x hx).1,fun c hc=>?_⟩
   rw [forg_eq (h7 x hx).2] at hc
   obtain ⟨c0,hc0,rfl⟩:=List.mem_map.1 hc
   split
   ·rfl
   ·exact (h7 x hx).2 c0 hc0
theorem Sim.forget {s : AState} (hs : Sim E H ρ s.slot s.box a w) (v : AV) : Sim E H ρ (s.forget v).slot (s.forget v).box a w:=by
 unfold AState.forget
 split
 ·rename_i id _ _ _
  have hb : ∀ i c,lk (killB id s.b) i = some c → s.box i = some c ∨ (∃ T x,s.box i = some (.box T x) ∧ c = .box T (x.forg id)) ∨ ∃ T k xs,s.box i = some (.arr T k xs) ∧ c = .arr T k (xs.map (AV.forg id)):=fun i c h=>killB_lk h
  refine ⟨hs.ext,hs.slots,hs.size,hs.defers,⟨fun i c hc=>?_,fun i c b cap hc hbd=>?_,fun i i' c c' b cap cap' hc hc' h1 h2=>?_⟩,hs.h0,hs.new,hs.frame,hs.keep,hs.nle⟩
  ·rcases hb i c hc with h|⟨T,x,h,rfl⟩|⟨T,k,xs,h,rfl⟩
   ·exact hs.boxes.rep i c h
   ·exact (hs.boxes.rep i _ h).forg
   ·exact (hs.boxes.rep i _ h).forgA
  ·rcases hb i c hc with h|⟨T,x,h,rfl⟩|⟨T,k,xs,h,rfl⟩
   ·exact hs.boxes.apart i c b cap h hbd
   ·exact hs.boxes.apart i _ b cap h hbd
   ·exact hs.boxes.apart i _ b cap h hbd
  ·have g : ∀ i c,lk (killB id s.b) i = some c → ∃ c0,s.box i = some c0:=fun i c h=>by
    rcases hb i c h with h|⟨T,x,h,_⟩|⟨T,k,xs,h,_⟩ <;> exact ⟨_,h⟩
   obtain ⟨c0,h0⟩:=g i c hc
   obtain ⟨c1,h3⟩:=g i' c' hc'
   exact hs.boxes.inj i i' c0 c1 b cap cap' h0 h3 h1 h2
 ·exact hs
def SrcOK (P : Program) (H : Heap) (ρ : Rho) (w : World) (T T' ty e k : Nat) (ys : List AV) (vx : Value) : Prop :=
 (∀ y ∈ ys,y.cells.length = k ∧ oneAll y) ∧
 (ys = [] → ∀ sb n cc,n ≤ cc → (Builtin.append_ #[T,T'] ty #[.slice sb n cc,vx]).run P w = .ok (.slice sb n cc) w) ∧
 (ys ≠ [] → ∃ news : List Value,RepL H ρ (ys.flatMap AV.cells) news ∧
   (∀ (i : TypeInfo) (z : Value),P.info? e = some i → i.zero = some z → news.length = ys.length * i.size → 0 < ys.length → (ys.length : Int) ≤ 9223372036854775807 → ys.length * i.bytes ≤ 281474976710656 →
     (Builtin.append_ #[T,T'] ty #[.slice none 0 0,vx]).run P w = .ok (.slice (some ⟨w.heap.size,0,none⟩) ys.length (grownCap w ys.length 0 e)) (w.drew.alloc (.cells (news.toArray ++ Builtin.zeroCells z.cells (grownCap w ys.length 0 e - ys.length)) e))) ∧
   (∀ (i : TypeInfo),P.info? e = some i → ∀ (g sLen sCap : Nat) (cur : Array Value),w.heap[g]? = some (.cells cur e (0,0)) → news.length = ys.length * i.size → (∀ u ∈ news,u.oneCell' = true) → sLen + ys.length ≤ sCap → sLen * i.size + news.length ≤ cur.size →
     (Builtin.append_ #[T,T'] ty #[.slice (some ⟨g,0,none⟩) sLen sCap,vx]).run P w = .ok (.slice (some ⟨g,0,none⟩) (sLen + ys.length) sCap) (w.setRow g (cur.toList.take (sLen * i.size) ++ news ++ cur.toList.drop (sLen * i.size + news.length)).toArray)) ∧
   (∀ (i : TypeInfo) (z : Value),P.info? e = some i → i.zero = some z → ∀ (b : Addr) (sLen sCap : Nat) (olds : List Value),olds.length = sLen * i.size → (∀ j v,olds[j]? = some v → w.cell? (b.add j) = some v) → news.length = ys.length * i.size →
     sCap < sLen + ys.length → ((sLen + ys.length : Nat) : Int) ≤ 9223372036854775807 → Builtin.nextslicecap (sLen + ys.length) sCap * i.bytes ≤ 281474976710656 →
     (Builtin.append_ #[T,T'] ty #[.slice (some b) sLen sCap,vx]).run P w = .ok (.slice (some ⟨w.heap.size,0,none⟩) (sLen + ys.length) (grownCap w (sLen + ys.length) sCap e))
       (w.drew.alloc (.cells (olds.toArray ++ news.toArray ++ Builtin.zeroCells z.cells (grownCap w (sLen + ys.length) sCap e - (sLen + ys.length))) e))))
theorem aAppK_sound {T T' ty : TypeId} {v : AV} {vv vx : Value} {s : AState} {d : Option Tmp} {K : AState → Prop} {src : Nat → (List AV → Prop) → Prop} (hs : Sim E H ρ s.slot s.box a w) (hd : ∀ t,d = some t → t < E.n) (hv : Rep H ρ v vv)
 (hsrc : ∀ e k K,P.underlying T = some (.slice e) → okT P e = true → src k K → ∃ ys,K ys ∧ SrcOK P H ρ w T T' ty e k ys vx) (h : aAppK P T v s d src K) :
 ∃ u w' s' ρ',K s' ∧ Sim E H ρ' s'.slot s'.box (a.put d u) w' ∧ (Builtin.append_ #[T,T'] ty #[vv,vx]).run P w = .ok u w':=by
 unfold aAppK at h
 split at h
 ·rename_i e hT
  obtain ⟨⟨hok,hk0,hz⟩,h⟩:=h
  obtain ⟨i,hi⟩:=info_of_okT hok
  have hsize : i.size = P.cellsOf e:=by simp [Program.cellsOf,hi]
  have hbytes : i.bytes = P.bytesOf e:=by simp [Program.bytesOf,hi]
  obtain ⟨z,hzeq,hzc⟩ : ∃ z,i.zero = some z ∧ z.cells.size = P.cellsOf e:=by
   cases hza : zeroAV P e with
   |none=>rw [hza] at hz;simp at hz
   |some za =>
    rw [hza] at hz
    simp at hz
    obtain ⟨i',zv,hi',hzv,rfl⟩:=zeroAV_inv hza
    rw [hi] at hi'
    cases hi'
    refine ⟨zv,hzv,?_⟩
    have:=((Rep.ofVal (H:=H) (ρ:=ρ) zv).cellsL hz.1).1.1
    rw [hz.2] at this
    simpa using this.symm
  split at h
  ·rename_i id k off n
   split at h
   ·rename_i e' k' xs hbx
    obtain ⟨ys,⟨⟨rfl,hk,hk',rfl,hidl,hn,h63,h48,hmb,hmy⟩,hK⟩,hsy,hzr,hnews⟩:=hsrc e k _ hT hok h
    have hk'':=hk'.symm
    subst hk''
    have hsl : ∀ i,(AState.mk (killL id s.s) ((id,.arr e' k (xs.take n ++ ys)) :: s.b)).slot i = .u ∨ ((AState.mk (killL id s.s) ((id,.arr e' k (xs.take n ++ ys)) :: s.b)).slot i = s.slot i ∧ (s.slot i).ment id = false):=fun i=>killL_slot s.s i
    have hbxf : (AState.mk (killL id s.s) ((id,.arr e' k (xs.take n ++ ys)) :: s.b)).box = addF s.box (some id) (some (.arr e' k (xs.take n ++ ys))):=rfl
    have hmx : mentL id xs = false:=by have:=mentB_box hmb hbx;simpa only [Ct.ment] using this
    have hmnew : mentL id ((xs.take n ++ ys).flatMap AV.cells) = false:=mentL_flat_false (by rw [mentL_append,mentL_take hmx,hmy];rfl)
    have hnl : (xs.take n).length = n:=by simp;omega
    by_cases hy0 : ys = []
    ·
     subst hy0
     have hrunz : ∀ sb cc,n ≤ cc → (Builtin.append_ #[T,T'] ty #[.slice sb n cc,vx]).run P w = .ok (.slice sb n cc) w:=fun sb cc hcc=>hzr rfl sb n cc hcc
     rcases hs.boxes.rep _ _ hbx with ⟨hnil,hxs⟩|⟨b',cap',cur,hbd,hheap,hmax,hcap,hsz,hrep,hall⟩
     ·subst hxs
      have hn0 : n = 0:=by simpa using hn
      subst hn0
      cases hv with
      |own hρ=>rw [hnil] at hρ;cases hρ
      |ownNil hρ =>
       refine ⟨_,w,_,ρ,hK,?_,hrunz _ _ (Nat.zero_le _)⟩
       rw [AState.slot_put,AState.box_put]
       refine Sim.put ?_ hd (.ownNil hρ)
       refine hs.weaken (fun i=>?_) (fun j cj hj=>Or.inl ?_)
       ·rcases hsl i with h|h
        ·exact .inl h
        ·exact .inr h.1
       ·rw [hbxf] at hj
        simp only [addF] at hj
        split at hj
        ·rename_i e;subst e;rw [hbx];simpa using hj
        ·exact hj
     ·cases hv with
      |ownNil hρ=>rw [hbd] at hρ;cases hρ
      |own hρ hn' hm' =>
       rename_i b cap
       obtain ⟨rfl,rfl⟩:=rho_at hρ hbd
       refine ⟨_,w,_,ρ,hK,?_,hrunz _ _ (by omega)⟩
       rw [AState.slot_put,AState.box_put]
       have hsim : Sim E H ρ s.slot (addF s.box (some id) (some (.arr e' k (xs.take n ++ [])))) a w:=by
        refine hs.write hbx hρ rfl rfl ⟨rfl,Nat.le_refl _⟩ rfl (fun _ _=>rfl) (.inr ⟨b,cap,cur,rfl,hheap,hmax,by simp;omega,hsz,?_,?_⟩)
        ·have hfl:=flat_len (fun x hx=>(hall x hx).1)
         have e1 : (xs.take n).flatMap AV.cells = (xs.flatMap AV.cells).take (n * k):=by
          conv=>rhs;rw [← List.take_append_drop n xs]
          rw [List.flatMap_append]
          have : ((xs.take n).flatMap AV.cells).length = n * k:=by rw [flat_len (fun x hx=>(hall x (List.mem_of_mem_take hx)).1),hnl]
          rw [← this,List.take_left]
         rw [List.append_nil,hnl,e1]
         have:=hrep.take (n * k)
         rw [List.take_take,show min (n * k) (xs.length * k) = n * k from Nat.min_eq_left (Nat.mul_le_mul_right _ hn)] at this
         exact this
        ·intro y hy
         rw [List.append_nil] at hy
         exact hall y (List.mem_of_mem_take hy)
       refine Sim.put (hsim.weaken (fun i=>?_) (fun j cj hj=>Or.inl hj)) hd (.own hρ (by simp;omega) hm')
       rcases hsl i with h|h
       ·exact .inl h
       ·exact .inr h.1
    ·obtain ⟨news,hnr,hrn,hrr,hrg⟩:=hnews hy0
     have hyfl:=flat_len (fun y hy=>(hsy y hy).1)
     have hnl2 : news.length = ys.length * k:=by rw [← hnr.1];exact hyfl
     have hn1 : ∀ u ∈ news,u.oneCell' = true:=fun u hu=>okV_oneCell (hnr.ok (fun c hc=>by
      obtain ⟨y,hy,hcy⟩:=List.mem_flatMap.1 hc
      exact (hsy y hy).2 c hcy) u hu)
     have hypos : 0 < ys.length:=by cases ys with|nil=>exact absurd rfl hy0|cons=>simp
     have grown : ∀ (w2 : World) (cap2 : Nat) (olds : List Value),RepL H ρ ((xs.take n).flatMap AV.cells) olds → w2.heap.size = w.heap.size → (∀ k : Nat,w2.heap[k]? = w.heap[k]?) → w2.os = w.os → w2.tape = w.tape → (w2.output = w.output ∧ w.drawn ≤ w2.drawn) →
      n + ys.length ≤ cap2 → cap2 ≤ maxLen → (∀ y ∈ xs.take n,y.cells.length = k ∧ oneAll y) →
      Sim E H (ρ.upd id (.at w.heap.size cap2)) ((AState.mk (killL id s.s) ((id,.arr e' k (xs.take n ++ ys)) :: s.b)).put d (.own id k 0 (n + ys.length))).slot
       ((AState.mk (killL id s.s) ((id,.arr e' k (xs.take n ++ ys)) :: s.b)).put d (.own id k 0 (n + ys.length))).box (a.put d (.slice (some ⟨w.heap.size,0,none⟩) (n + ys.length) cap2))
       (w2.alloc (.cells (olds.toArray ++ news.toArray ++ Builtin.zeroCells z.cells (cap2 - (n + ys.length))) e')):=by
      intro w2 cap2 olds hor hsz2 hheq hos htape hout hcap2 hmax2 hallx
      have hol : olds.length = n * k:=by rw [← hor.1,flat_len (fun y hy=>(hallx y hy).1),hnl]
      rw [AState.slot_put,AState.box_put]
      have hno : ∀ k,k < w.heap.size → (w2.alloc (.cells (olds.toArray ++ news.toArray ++ Builtin.zeroCells z.cells (cap2 - (n + ys.length))) e')).heap[k]? = w.heap[k]?:=by
       intro k hk
       rw [heap_alloc_old _ _ (by omega)]
       exact hheq k
      have hnb : (w2.alloc (.cells (olds.toArray ++ news.toArray ++ Builtin.zeroCells z.cells (cap2 - (n + ys.length))) e')).heap[w.heap.size]? = some (.cells (olds.toArray ++ news.toArray ++ Builtin.zeroCells z.cells (cap2 - (n + ys.length))) e'):=by
       rw [← hsz2];exact heap_alloc_new _ _
      have hsim:=hs.rebind (hidl:=hidl) (id:=id) (b:=w.heap.size) (cap:=cap2) (c':=.arr e' k (xs.take n ++ ys)) (w':=w2.alloc (.cells (olds.toArray ++ news.toArray ++ Builtin.zeroCells z.cells (cap2 - (n + ys.length))) e'))
       hos htape hout hno (Nat.le_refl _) (by simp [hsz2]) (fun j c hc=>mentB_box hmb hc) hsl (by
        refine .inr ⟨w.heap.size,cap2,_,rfl,hnb,hmax2,by simp [hnl];omega,?_,?_,?_⟩
        ·simp only [Array.size_append,List.size_toArray,size_zeroCells,hzc,hol,hnl2,← hk,← Nat.add_mul]
         congr 1
         omega
        ·rw [List.flatMap_append]
         have : (olds.toArray ++ news.toArray ++ Builtin.zeroCells z.cells (cap2 - (n + ys.length))).toList.take ((xs.take n ++ ys).length * k) = olds ++ news:=by
          rw [Array.toList_append,Array.toList_append,List.toList_toArray,List.toList_toArray]
          have : (xs.take n ++ ys).length * k = (olds ++ news).length:=by rw [List.length_append,List.length_append,hnl,hol,hnl2,Nat.add_mul]
          rw [this,List.take_left]
         rw [this]
         rw [List.flatMap_append] at hmnew
         exact (hor.append hnr).upd hmnew
        ·intro y hy
         rcases List.mem_append.1 hy with h|h
         ·exact hallx y h
         ·exact hsy y h)
      rw [hbxf]
      refine hsim.put hd ?_
      have:=Rep.own (H:=H) (ρ:=ρ.upd id (.at w.heap.size cap2)) (id:=id) (k:=k) (off:=0) (n:=n + ys.length) (b:=w.heap.size) (cap:=cap2) (c:=cap2) (Rho.upd_same _ _ _) (by omega) hmax2
      simpa using this
     rcases hs.boxes.rep _ _ hbx with ⟨hnil,hxs⟩|⟨b',cap',cur,hbd,hheap,hmax,hcap,hsz,hrep,hall⟩
     ·subst hxs
      have hn0 : n = 0:=by simpa using hn
      subst hn0
      cases hv with
      |own hρ=>rw [hnil] at hρ;cases hρ
      |ownNil hρ =>
       have hr:=hrn i z hi hzeq (by rw [hnl2,hsize,hk]) hypos (by omega) (by rw [hbytes];simp only [Nat.zero_add] at h48;omega)
       have hg:=grown w.drew (grownCap w ys.length 0 e') [] (by simpa using RepL.nil) rfl (fun _=>rfl) rfl rfl ⟨rfl,Nat.le_succ _⟩ (by have:=grownCap_ge w ys.length 0 e';omega) (grownCap_le_maxLen w _ _ _ (by unfold maxLen;omega)) (by simp)
       refine ⟨_,_,_,ρ.upd id (.at w.heap.size (grownCap w ys.length 0 e')),hK,?_,hr⟩
       simpa using hg
     ·cases hv with
      |ownNil hρ=>rw [hbd] at hρ;cases hρ
      |own hρ hn' hm' =>
       rename_i cc b cap
       obtain ⟨rfl,rfl⟩:=rho_at hρ hbd
       have hfl:=flat_len (fun x hx=>(hall x hx).1)
       have e1 : (xs.take n).flatMap AV.cells = (xs.flatMap AV.cells).take (n * k):=by
        conv=>rhs;rw [← List.take_append_drop n xs]
        rw [List.flatMap_append]
        have : ((xs.take n).flatMap AV.cells).length = n * k:=by rw [flat_len (fun x hx=>(hall x (List.mem_of_mem_take hx)).1),hnl]
        rw [← this,List.take_left]
       have hold : RepL H ρ ((xs.take n).flatMap AV.cells) (cur.toList.take (n * k)):=by
        have:=hrep.take (n * k)
        rw [List.take_take,show min (n * k) (xs.length * k) = n * k from Nat.min_eq_left (Nat.mul_le_mul_right _ hn)] at this
        rw [e1];exact this
       have hncap : n * k ≤ cap * k:=Nat.mul_le_mul_right _ (by omega)
       simp only [Nat.zero_mul,Nat.sub_zero]
       by_cases hroom : n + ys.length ≤ cc
       ·have hrk : (n + ys.length) * k ≤ cap * k:=Nat.mul_le_mul_right _ (by omega)
        rw [Nat.add_mul] at hrk
        have hr:=hrr i hi b n cc cur hheap (by rw [hnl2,hsize,hk]) hn1 hroom (by rw [hsize,← hk,hnl2,hsz];omega)
        refine ⟨_,_,_,ρ,hK,?_,hr⟩
        rw [AState.slot_put,AState.box_put,hbxf]
        have hsim:=hs.write (c':=.arr e' k (xs.take n ++ ys)) (w':=w.setRow b (cur.toList.take (n * i.size) ++ news ++ cur.toList.drop (n * i.size + news.length)).toArray) hbx hρ rfl rfl ⟨rfl,Nat.le_refl _⟩ (setRow_size _ _ _) (fun j hj=>setRow_other w b j _ hj)
         (.inr ⟨b,cap,_,rfl,setRow_heap w b _ _ _ _ hheap,hmax,by simp [hnl];omega,by
           have hcl : cur.toList.length = cap * k:=by simpa using hsz
           rw [hsize,← hk,List.size_toArray,List.length_append,List.length_append,List.length_take,List.length_drop,hnl2]
           omega,by
           rw [hsize,← hk,List.flatMap_append]
           have : ((cur.toList.take (n * k) ++ news ++ cur.toList.drop (n * k + news.length)).toArray.toList.take ((xs.take n ++ ys).length * k)) = cur.toList.take (n * k) ++ news:=by
            rw [List.toList_toArray]
            have : (xs.take n ++ ys).length * k = (cur.toList.take (n * k) ++ news).length:=by
             have hcl : cur.toList.length = cap * k:=by simpa using hsz
             rw [List.length_append,List.length_append,hnl,hnl2,Nat.add_mul,List.length_take]
             omega
            rw [this,List.take_left]
           rw [this]
           exact hold.append hnr,by
           intro y hy
           rcases List.mem_append.1 hy with h|h
           ·exact hall y (List.mem_of_mem_take h)
           ·exact hsy y h⟩)
        refine Sim.put (hsim.weaken (fun i=>?_) (fun j cj hj=>Or.inl hj)) hd ?_
        ·rcases hsl i with h|h
         ·exact .inl h
         ·exact .inr h.1
        ·have:=Rep.own (H:=H) (ρ:=ρ) (id:=id) (k:=k) (off:=0) (n:=n + ys.length) (c:=cc) hρ (by omega) hm'
         simpa using this
       ·have hr:=hrg i z hi hzeq ⟨b,0,none⟩ n cc (cur.toList.take (n * k)) (by rw [hsize,← hk,List.length_take,Array.length_toList];omega)
         (fun j u hu=>by
           rw [Addr.add_mk,cell_of_row w b _ _ _ _ hheap]
           rw [List.getElem?_take] at hu
           split at hu
           ·simpa using hu
           ·cases hu) (by rw [hnl2,hsize,hk]) (by omega) (by omega) (growslice_fits (by omega) (by rw [hbytes];exact h48))
        have hg:=grown w.drew (grownCap w (n + ys.length) cc e') (cur.toList.take (n * k)) hold rfl (fun _=>rfl) rfl rfl ⟨rfl,Nat.le_succ _⟩ (grownCap_ge w _ _ _) (grownCap_le_maxLen w _ _ _ (by unfold maxLen;omega)) (fun y hy=>hall y (List.mem_of_mem_take hy))
        exact ⟨_,_,_,_,hK,hg,hr⟩
   ·exact h.elim
  ·rename_i n c
   split at h
   ·rename_i t
    obtain ⟨ys,⟨⟨rfl,rfl,h63,h48,hmb,hmy⟩,hK⟩,hsy,hzr,hnews⟩:=hsrc e _ _ hT hok h
    rw [hv.v_inv]
    have hsl : ∀ i,(AState.mk (killL t s.s) ((t,.arr e (P.cellsOf e) ys) :: s.b)).slot i = .u ∨ ((AState.mk (killL t s.s) ((t,.arr e (P.cellsOf e) ys) :: s.b)).slot i = s.slot i ∧ (s.slot i).ment t = false):=fun i=>killL_slot s.s i
    have hbxf : (AState.mk (killL t s.s) ((t,.arr e (P.cellsOf e) ys) :: s.b)).box = addF s.box (some t) (some (.arr e (P.cellsOf e) ys)):=rfl
    by_cases hy0 : ys = []
    ·subst hy0
     refine ⟨.slice none 0 0,w,_,ρ.upd t .nil,hK,?_,hzr rfl none 0 0 (Nat.le_refl _)⟩
     rw [AState.slot_put,AState.box_put,hbxf]
     refine Sim.put ?_ hd (.ownNil (Rho.upd_same _ _ _))
     have hρne : ∀ j,j ≠ t → (ρ.upd t .nil) j = ρ j:=fun j hne=>by simp [Rho.upd,hne]
     refine ⟨hs.ext,fun i=>?_,hs.size,hs.defers,⟨fun id' c2 hc2=>?_,fun id' c2 b' cap' hc2 hb'=>?_,fun i j ci cj bi capi capj hi hj hbi hbj=>?_⟩,hs.h0,hs.new,hs.frame,fun i hi hi2=>(hρne i (fun e=>absurd (Nat.lt_of_lt_of_le (hd t rfl) hs.nle) (Nat.not_lt.2 (e ▸ hi)))).trans (hs.keep i hi hi2),hs.nle⟩
     ·rcases hsl i with e|⟨e,hme⟩
      ·rw [e];exact .u
      ·rw [e];exact (hs.slots i).upd hme
     ·simp only [addF] at hc2
      split at hc2
      ·rename_i e;subst e;cases hc2;rw [Rho.upd_same];exact .inl ⟨rfl,rfl⟩
      ·rename_i hne
       rw [hρne id' (fun e=>hne e.symm)]
       refine (hs.boxes.rep id' c2 hc2).mono H.le_refl (fun j hj=>hρne j (fun e=>?_)) (fun _ _ _=>rfl)
       rw [e,mentB_box hmb hc2] at hj
       cases hj
     ·simp only [addF] at hc2
      split at hc2
      ·rename_i e;subst e;rw [Rho.upd_same] at hb';cases hb'
      ·rename_i hne
       rw [hρne id' (fun e=>hne e.symm)] at hb'
       exact hs.boxes.apart id' c2 b' cap' hc2 hb'
     ·simp only [addF] at hi hj
      split at hi
      ·rename_i e;subst e;rw [Rho.upd_same] at hbi;cases hbi
      ·rename_i hne
       split at hj
       ·rename_i e;subst e;rw [Rho.upd_same] at hbj;cases hbj
       ·rename_i hne'
        rw [hρne i (fun e=>hne e.symm)] at hbi
        rw [hρne j (fun e=>hne' e.symm)] at hbj
        exact hs.boxes.inj i j ci cj bi capi capj hi hj hbi hbj
    ·obtain ⟨news,hnr,hrn,hrr,hrg⟩:=hnews hy0
     have hyfl:=flat_len (fun y hy=>(hsy y hy).1)
     have hnl2 : news.length = ys.length * P.cellsOf e:=by rw [← hnr.1];exact hyfl
     have hypos : 0 < ys.length:=by cases ys with|nil=>exact absurd rfl hy0|cons=>simp
     have hr:=hrn i z hi hzeq (by rw [hnl2,hsize]) hypos (by omega) (by rw [hbytes];omega)
     refine ⟨_,_,_,ρ.upd t (.at w.heap.size (grownCap w ys.length 0 e)),hK,?_,hr⟩
     rw [AState.slot_put,AState.box_put,hbxf]
     have hge:=grownCap_ge w ys.length 0 e
     have hmax2:=grownCap_le_maxLen w ys.length 0 e (by unfold maxLen;omega)
     have hsim:=hs.rebind (hidl:=Nat.lt_of_lt_of_le (hd t rfl) hs.nle) (id:=t) (b:=w.heap.size) (cap:=grownCap w ys.length 0 e) (c':=.arr e (P.cellsOf e) ys) (w':=w.drew.alloc (.cells (news.toArray ++ Builtin.zeroCells z.cells (grownCap w ys.length 0 e - ys.length)) e))
      rfl rfl ⟨rfl,Nat.le_succ _⟩ (fun k hk=>heap_alloc_old _ _ (by simpa using hk)) (Nat.le_refl _) (by simp) (fun j c hc=>mentB_box hmb hc) hsl (by
       refine .inr ⟨w.heap.size,_,_,rfl,heap_alloc_new w.drew _,hmax2,hge,?_,?_,hsy⟩
       ·simp only [Array.size_append,List.size_toArray,size_zeroCells,hzc,hnl2,← Nat.add_mul]
        congr 1
        omega
       ·have : (news.toArray ++ Builtin.zeroCells z.cells (grownCap w ys.length 0 e - ys.length)).toList.take (ys.length * P.cellsOf e) = news:=by
         rw [Array.toList_append,List.toList_toArray,← hnl2,List.take_left]
        rw [this]
        exact hnr.upd (mentL_flat_false hmy))
     refine hsim.put hd ?_
     have:=Rep.own (H:=H) (ρ:=ρ.upd t (.at w.heap.size (grownCap w ys.length 0 e))) (id:=t) (k:=P.cellsOf e) (off:=0) (n:=ys.length) (c:=grownCap w ys.length 0 e) (Rho.upd_same _ _ _) (by omega) hmax2
     simpa using this
   ·exact h.elim
  ·exact h.elim
 ·exact h.elim
theorem aAppend_sound {T ty : TypeId} {v x : AV} {vv vx : Value} {s : AState} {d : Option Tmp} {K : AState → Prop} (hs : Sim E H ρ s.slot s.box a w) (hd : ∀ t,d = some t → t < E.n) (hv : Rep H ρ v vv) (hx : Rep H ρ x vx) (h : aAppend P T v x s d K) :
 ∃ u w' s' ρ',K s' ∧ Sim E H ρ' s'.slot s'.box (a.put d u) w' ∧ (Builtin.append_ #[T,T] ty #[vv,vx]).run P w = .ok u w':=by
 refine aAppK_sound hs hd hv (fun e k K hT hok hsr=>?_) h
 obtain ⟨ys,hK,hsy,base,c,rfl,hnews⟩:=aSrc_sound hs hx hsr
 refine ⟨ys,hK,hsy,?_,?_⟩
 ·rintro rfl sb n cc hcc
  exact run_append_zero hT hok hcc
 ·intro hy0
  obtain ⟨ad,rfl,news,hnr,hnc⟩:=hnews hy0
  refine ⟨news,hnr,?_,?_,?_⟩
  ·intro i z hi hz hl h0 h63 h48
   exact run_append_nil (P:=P) w T ty e i z hT hi hz ad ys.length c news hl hnc h0 h63 h48
  ·intro i hi g sLen sCap cur hg hl h1 hroom hfit
   exact run_append_room (P:=P) w T ty e i hT hi g sLen sCap cur hg ad ys.length c news hl hnc h1 hroom hfit
  ·intro i z hi hz b sLen sCap olds hlo holds hl hlt h63 hfit
   exact run_append_grow (P:=P) w T ty e i z hT hi hz b sLen sCap olds hlo holds ad ys.length c news hl hnc hlt h63 hfit
theorem strA_cells (s : ByteArray) : (strA s).flatMap AV.cells = (Go.Lib.strCells s).map .v:=by
 unfold strA Go.Lib.strCells
 induction s.data.toList with
 |nil=>rfl
 |cons b l ih=>simp [byteA,AV.cells,ih]
theorem strA_len (s : ByteArray) : (strA s).length = s.size:=by simp [strA]
theorem run_append_zeroS {t u ty e : TypeId} {sb : Option Addr} {n c : Nat} {s : ByteArray} (ht : P.underlying t = some (.slice e)) (hu : P.underlying u = some .string) (hok : okT P e = true) (hs : s.size = 0) (hc : n ≤ c) :
 (Builtin.append_ #[t,u] ty #[.slice sb n c,.string s]).run P w = .ok (.slice sb n c) w:=by
 obtain ⟨i,hi⟩:=info_of_okT hok
 have hf:=Go.Lib.run_firstCells_string (P:=P) (w:=w) i.size s
 rw [hs] at hf
 have h0 : Go.Lib.strCells s = []:=List.eq_nil_of_length_eq_zero (by rw [Go.Lib.strCells_length,hs])
 rw [h0] at hf
 cases sb <;> simp [Builtin.append_,run_underlying ht,run_underlying hu,Go.sizeOf,typeInfo,hi,Builtin.lenOf,hc,hs,hf,storeCells]
theorem run_append_nilS {t u ty e : TypeId} {i : TypeInfo} {z : Value} {s : ByteArray} (ht : P.underlying t = some (.slice e)) (hu : P.underlying u = some .string) (hi : P.info? e = some i) (hz : i.zero = some z)
 (h0 : 0 < s.size) (h63 : (s.size : Int) ≤ 9223372036854775807) (h48 : s.size * i.bytes ≤ 281474976710656) :
 (Builtin.append_ #[t,u] ty #[.slice none 0 0,.string s]).run P w =
   .ok (.slice (some ⟨w.heap.size,0,none⟩) s.size (grownCap w s.size 0 e)) (w.drew.alloc (.cells ((Go.Lib.strCells s).toArray ++ Builtin.zeroCells z.cells (grownCap w s.size 0 e - s.size)) e)):=by
 have hn : s.size ≠ 0:=by omega
 have h63' : ¬ (9223372036854775807 < (s.size : Int)):=by omega
 have h48' : ¬ (281474976710656 < Builtin.nextslicecap s.size 0 * i.bytes):=by rw [nextslicecap_zero h0];omega
 have hf:=Go.Lib.run_firstCells_string (P:=P) (w:=w.drew) i.size s
 simp [Builtin.append_,run_underlying ht,run_underlying hu,sizeOf,typeInfo,zeroValue,hi,hz,Builtin.lenOf,hn,h63',h48',Question.forced,run_firstCells_none,hf,newRow,grownCap]
theorem aAppendS_sound {T T' ty : TypeId} {v x : AV} {vv vx : Value} {s : AState} {d : Option Tmp} {K : AState → Prop} (hs : Sim E H ρ s.slot s.box a w) (hd : ∀ t,d = some t → t < E.n) (hv : Rep H ρ v vv) (hx : Rep H ρ x vx) (h : aAppendS P T T' v x s d K) :
 ∃ u w' s' ρ',K s' ∧ Sim E H ρ' s'.slot s'.box (a.put d u) w' ∧ (Builtin.append_ #[T,T'] ty #[vv,vx]).run P w = .ok u w':=by
 obtain ⟨hu,_,h⟩:=h
 refine aAppK_sound hs hd hv (fun e k K hT hok hsr=>?_) h
 unfold strSrc at hsr
 split at hsr
 ·rename_i str
  obtain ⟨rfl,hK⟩:=hsr
  rw [hx.v_inv]
  have hone : ∀ y ∈ strA str,y.cells.length = 1 ∧ oneAll y:=by
   intro y hy
   obtain ⟨b,_,rfl⟩:=List.mem_map.1 hy
   exact ⟨rfl,by intro c hc;simp [byteA,AV.cells] at hc;subst hc;rfl⟩
  have hsz : ∀ i : TypeInfo,strA str ≠ [] → (Go.Lib.strCells str).length = (strA str).length * i.size → i.size = 1:=by
   intro i h0 h
   rw [Go.Lib.strCells_length,strA_len] at h
   have : 0 < str.size:=by rw [← strA_len];exact List.length_pos_iff.2 h0
   have h2 : str.size * i.size = str.size * 1:=by omega
   exact Nat.eq_of_mul_eq_mul_left this h2
  refine ⟨_,hK,hone,fun h0 sb n cc hcc=>run_append_zeroS hT hu hok (by rw [← strA_len,h0];rfl) hcc,fun h0=>⟨Go.Lib.strCells str,?_,?_,?_,?_⟩⟩
  ·rw [strA_cells]
   have hok : ∀ v ∈ Go.Lib.strCells str,okV v = true:=by
    intro v hv
    obtain ⟨b,_,rfl⟩:=List.mem_map.1 hv
    rfl
   refine RepL.consts _ (List.all_eq_true.2 hok)
  ·intro i z hi hz hl h1 h63 h48
   rw [strA_len] at h1 h63 h48 ⊢
   exact run_append_nilS hT hu hi hz h1 h63 h48
  ·intro i hi g sLen sCap cur hg hl h1 hroom hfit
   have h1:=hsz i h0 hl
   rw [strA_len] at hroom ⊢
   rw [h1,Nat.mul_one,Go.Lib.strCells_length] at hfit ⊢
   exact Go.Lib.run_append_room_string (P:=P) (w:=w) T _ ty e i hT hu hi h1 g sLen sCap cur hg str hroom hfit
  ·intro i z hi hz b sLen sCap olds hlo holds hl hlt h63 hfit
   rw [strA_len] at hlt h63 hfit ⊢
   exact Go.Lib.run_append_grow_string (P:=P) (w:=w) T _ ty e i z hT hu hi hz b sLen sCap olds hlo holds str hlt h63 hfit
 ·exact hsr.elim
end
end Go.Am
end
section
namespace Go.Am
open Go.RowKit
theorem eq1_true {k : SK} {x y : Value} (h : eq1 k x y = some true) : x = y ∧ ∀ n,Instr.sameBits n x y = true:=by
 unfold eq1 at h
 split at h
 ·simp at h;subst h;exact ⟨rfl,fun n=>by cases n <;> simp [Instr.sameBits]⟩
 ·split at h
  ·rename_i e;subst e;simp at h;subst h;exact ⟨rfl,fun n=>by cases n <;> simp [Instr.sameBits]⟩
  ·cases h
 ·simp at h;subst h;exact ⟨rfl,fun n=>by cases n <;> simp [Instr.sameBits,ba_beq]⟩
 ·cases h
theorem eqCells_true : ∀ {ks : List SK} {xs ys : List Value},eqCells ks xs ys = some true → xs = ys ∧ ∀ n,(xs.zip ys).all (fun (x,y)=>Instr.sameBits n x y) = true
 |[],[],[],_=>⟨rfl,fun _=>rfl⟩
 |[],[],_ :: _,h=>by simp [eqCells] at h
 |[],_ :: _,_,h=>by simp [eqCells] at h
 |_ :: _,[],_,h=>by simp [eqCells] at h
 |_ :: _,_ :: _,[],h=>by simp [eqCells] at h
 |k :: ks,x :: xs,y :: ys,h=>by
  simp only [eqCells] at h
  split at h
  ·rename_i a ha
   cases hr : eqCells ks xs ys with
   |none=>rw [hr] at h;simp at h
   |some r =>
    rw [hr] at h
    simp at h
    obtain ⟨rfl,rfl⟩:=h
    obtain ⟨h1,h2⟩:=eq1_true ha
    obtain ⟨h3,h4⟩:=eqCells_true hr
    refine ⟨by rw [h1,h3],fun n=>?_⟩
    simp only [List.zip_cons_cons,List.all_cons,Bool.and_eq_true]
    exact ⟨h2 n,h4 n⟩
  ·cases h
theorem run_keyThatStays {P : Program} {T : TypeId} {ks : List SK} (hk : kinds P 12 T = some ks) {xs ys : List Value} (h : eqCells ks xs ys = some true) (w : World) :
 (Instr.keyThatStays (valOf P T ys) (valOf P T xs)).run P w = .ok (valOf P T xs) w:=by
 obtain ⟨rfl,hall⟩:=eqCells_true h
 have hs : Instr.sameBits 10000 (valOf P T xs) (valOf P T xs) = true:=by
  unfold valOf
  cases ha : aggB P T with
  |true =>
   simp only [if_true]
   rw [show (10000 : Nat) = 9999 + 1 from rfl]
   simp only [Instr.sameBits,List.size_toArray,beq_self_eq_true,Bool.true_and]
   exact hall 9999
  |false =>
   simp only [Bool.false_eq_true,if_false]
   have hl : ks.length = 1:=by
    simp only [kinds] at hk
    unfold aggB at ha
    cases hu : P.underlying T with
    |none=>rw [hu] at hk;simp at hk
    |some d =>
     rw [hu] at hk ha
     cases d <;> simp at hk ha <;> (subst hk;rfl)
   have hx:=(eqCells_len h).1
   match xs,hx,hall with
   |[x],_,hall=>simpa using hall 10000
   |[],hx,_=>simp at hx;omega
   |_ :: _ :: _,hx,_=>simp at hx;omega
 simp [Instr.keyThatStays,hs]
def updV (ks : List SK) (kx : List Value) (key val : Value) (clock : Nat) : List MapEntry → List MapEntry
 |[]=>[{ key,val,born:=clock }]
 |e :: es=>if eqCells ks kx e.key.cells.toList = some true then { e with key,val } :: es else e :: updV ks kx key val clock es
theorem updV_none {ks : List SK} {kx : List Value} {key val : Value} {clock : Nat} {P : Program} {T : TypeId} : ∀ {es : List MapEntry} {i : Nat},findV ks kx P T es i = none → updV ks kx key val clock es = es ++ [{ key,val,born:=clock }]
 |[],_,_=>rfl
 |e :: es,i,h=>by
  simp only [findV] at h
  split at h
  ·cases h
  ·rename_i hne
   simp only [updV,if_neg hne,List.cons_append,updV_none h]
theorem updV_some {ks : List SK} {kx : List Value} {key val : Value} {clock : Nat} {P : Program} {T : TypeId} : ∀ {es : List MapEntry} {i j : Nat} {v : Value},findV ks kx P T es i = some (j,v) →
 i ≤ j ∧ ∃ e,es[j - i]? = some e ∧ eqCells ks kx e.key.cells.toList = some true ∧ updV ks kx key val clock es = es.set (j - i) { e with key,val }
 |[],_,_,_,h=>by simp [findV] at h
 |e :: es,i,j,v,h=>by
  simp only [findV] at h
  split at h
  ·rename_i he
   simp at h
   obtain ⟨rfl,_⟩:=h
   exact ⟨Nat.le_refl _,e,by simp,he,by simp [updV,he]⟩
  ·rename_i hne
   obtain ⟨h1,e',h2,h3,h4⟩:=updV_some (key:=key) (val:=val) (clock:=clock) h
   refine ⟨by omega,e',?_,h3,?_⟩
   ·rw [show j - i = (j - (i + 1)) + 1 by omega];simpa using h2
   ·rw [show j - i = (j - (i + 1)) + 1 by omega]
    simp only [updV,if_neg hne,h4,List.set_cons_succ]
section
variable {P : Program} {E : Env} {H : Heap} {ρ : Rho} {a : Act} {w : World}
theorem upd_agree {ks : List SK} {T : TypeId} {key val : AV} {kv vv : Value} {clock : Nat} (hkv : Rep H ρ key kv) (hvv : Rep H ρ val vv) (hkey : RepL H ρ key.cells kv.cells.toList) : ∀ (es : List (AV × AV)) (ents : List MapEntry),RepL H ρ (es.map (·.1)) (ents.map (·.key)) → RepL H ρ (es.map (·.2)) (ents.map (·.val)) →
 keysOK ks (aggB P T) key es → RepL H ρ ((updA ks key val es).map (·.1)) ((updV ks kv.cells.toList kv vv clock ents).map (·.key)) ∧ RepL H ρ ((updA ks key val es).map (·.2)) ((updV ks kv.cells.toList kv vv clock ents).map (·.val))
 |[],ents,hk,_,_=>by
  have : ents = []:=by simpa using hk.nil_inv
  subst this
  exact ⟨RepL.cons hkv RepL.nil,RepL.cons hvv RepL.nil⟩
 |(k,v) :: es,[],hk,_,_=>by have:=hk.1;simp at this
 |(k,v) :: es,e :: ents,hk,hv,hok=>by
  obtain ⟨⟨hsome,hst,hsto⟩,hrest⟩:=hok
  obtain ⟨ek,ks',hek,hk1,hk2⟩:=hk.cons_inv
  obtain ⟨ev,vs',hev,hv1,hv2⟩:=hv.cons_inv
  simp only [List.map_cons,List.cons.injEq] at hek hev
  obtain ⟨rfl,rfl⟩:=hek
  obtain ⟨rfl,rfl⟩:=hev
  obtain ⟨r,hr⟩:=Option.isSome_iff_exists.1 hsome
  obtain ⟨hval,hcl⟩:=valOf_cells (P:=P) (T:=T) hk1 hst hsto
  have he:=eqA_rep hkey hcl hr
  have ih:=upd_agree (T:=T) (clock:=clock) hkv hvv hkey es ents hk2 hv2 hrest
  simp only [updA,updV,hr,he]
  cases r
  ·simp only [Option.some.injEq,Bool.false_eq_true,if_false,List.map_cons]
   exact ⟨RepL.cons hk1 ih.1,RepL.cons hv1 ih.2⟩
  ·simp only [if_true,List.map_cons]
   exact ⟨RepL.cons hkv hk2,RepL.cons hvv hv2⟩
theorem run_setObj_map {b : Nat} {es es' : Array MapEntry} {clock clock' : Nat} (h : w.heap[b]? = some (.map es clock)) : (setObj b (.map es' clock')).run P w = .ok () { w with heap:=w.heap.setIfInBounds b (.map es' clock') }:=by
 simp [setObj,Sem.run,h]
theorem aMapUpd_sound {T : TypeId} {m key val : AV} {vm kv vv : Value} {s : AState} {K : AState → Prop} (hs : Sim E H ρ s.slot s.box a w) (hm : Rep H ρ m vm) (hkv : Rep H ρ key kv) (hvv : Rep H ρ val vv) (h : aMapUpd P T m key val s K) :
 ∃ w' s',K s' ∧ Sim E H ρ s'.slot s'.box a w' ∧ (Instr.mapUpdate T vm kv vv).run P w = .ok () w':=by
 unfold aMapUpd at h
 split at h
 ·rename_i kt et hT
  split at h
  ·rename_i ks hks
   obtain ⟨⟨hst,hsto,hself⟩,h⟩:=h
   obtain ⟨hval,hcl⟩:=valOf_cells (P:=P) (T:=kt) hkv hst hsto
   split at h
   ·rename_i id
    split at h
    ·rename_i es st hbx
     obtain ⟨hkeys,hK⟩:=h
     cases hm with
     |mp hρ =>
      rename_i b cap
      obtain ⟨b',cap',ents,clock,hbd,hheap,hk1,hk2,hborn,hnd,_⟩:=hs.boxes.rep _ _ hbx
      obtain ⟨rfl,rfl⟩:=rho_at hρ hbd
      obtain ⟨hfit,hag⟩:=find_agree (P:=P) (T:=kt) hcl es ents.toList 0 hk1 hk2 hkeys
      have hup:=upd_agree (P:=P) (T:=kt) (clock:=clock) hkv hvv hcl es ents.toList hk1 hk2 hkeys
      obtain ⟨rs,hrs⟩:=Option.isSome_iff_exists.1 hself
      have hck : (Instr.checkKey false 10000 kt kv).run P w = .ok () w:=by
       rw [hval];exact run_checkKey 12 kt ks hks 10000 (by omega) false _ _ rs w (eqA_rep hcl hcl hrs)
      have hfk : (Instr.findKey kt kv ents.toList).run P w = .ok (findV ks kv.cells.toList P kt ents.toList 0) w:=by
       have:=run_findKey hks w hfit
       rw [← hval] at this
       exact this
      have fin : ∀ (ents' : Array MapEntry) (clock' : Nat),ents'.toList = updV ks kv.cells.toList kv vv clock ents.toList → (∀ e ∈ ents'.toList,e.born < clock') → (ents'.toList.map (·.born)).Nodup →
       Sim E H ρ (s.setBox id (.map (updA ks key val es) none)).slot (s.setBox id (.map (updA ks key val es) none)).box a { w with heap:=w.heap.setIfInBounds b (.map ents' clock') }:=by
       intro ents' clock' he h1 h2
       rw [AState.box_setBox,AState.slot_setBox]
       have hlt : b < w.heap.size:=(Array.getElem?_eq_some_iff.1 hheap).1
       refine hs.write hbx hρ rfl rfl ⟨rfl,Nat.le_refl _⟩ (by simp) (fun k hk=>by simp [Array.getElem?_setIfInBounds_ne (Ne.symm hk)]) ⟨b,cap,ents',clock',rfl,by simp [hlt],?_,?_,h1,h2,fun _ _ e=>by cases e⟩
       ·rw [he];exact hup.1
       ·rw [he];exact hup.2
      rcases hag with ⟨_,hn⟩|⟨y,j,r,_,hn,_⟩
      ·refine ⟨_,_,hK,fin (ents.push { key:=kv,val:=vv,born:=clock }) (clock + 1) ?_ ?_ ?_,?_⟩
       ·rw [updV_none hn];simp
       ·intro e he
        simp at he
        rcases he with he|rfl
        ·have:=hborn e (by simpa using he);omega
        ·exact Nat.lt_succ_self _
       ·simp only [Array.toList_push,List.map_append,List.map_cons,List.map_nil]
        rw [List.nodup_append]
        refine ⟨hnd,by simp,?_⟩
        intro x hx y hy
        obtain ⟨e,he,rfl⟩:=List.mem_map.1 hx
        simp at hy
        subst hy
        have:=hborn e he
        omega
       ·simp only [Instr.mapUpdate,Sem.run_bind,run_underlying hT,Result.andThen_ok,run_getObj_map hheap,hck,hfk,hn,run_setObj_map hheap]
      ·obtain ⟨_,e,he1,he2,he3⟩:=updV_some (key:=kv) (val:=vv) (clock:=clock) hn
       simp only [Nat.sub_zero] at he1 he3
       have hej : ents[j]? = some e:=by simpa using he1
       have hold:=(hfit e (List.mem_of_getElem? he1)).1
       have hkeep : (Instr.keyThatStays (((ents[j]?).map (·.key)).getD kv) kv).run P w = .ok kv w:=by
        rw [hej]
        simp only [Option.map_some,Option.getD_some]
        have:=run_keyThatStays (P:=P) hks he2 w
        rw [← hold,← hval] at this
        exact this
       have hmod : (ents.modify j fun e=>{ e with key:=kv,val:=vv }).toList = updV ks kv.cells.toList kv vv clock ents.toList:=by
        rw [he3,Array.toList_modify]
        apply List.ext_getElem?
        intro i
        simp only [List.getElem?_modify,List.getElem?_set]
        by_cases hij : j = i
        ·subst hij
         have hlt : j < ents.toList.length:=(List.getElem?_eq_some_iff.1 he1).1
         rw [if_pos rfl,if_pos hlt,he1]
         simp
        ·rw [if_neg hij]
         simp [hij]
       have hbornmod : ((ents.modify j fun e=>{ e with key:=kv,val:=vv }).toList.map (·.born)) = ents.toList.map (·.born):=by
        rw [Array.toList_modify]
        apply List.ext_getElem?
        intro i
        simp only [List.getElem?_map,List.getElem?_modify]
        cases hi : ents.toList[i]? with
        |none=>simp
        |some e2=>simp;split <;> rfl
       refine ⟨_,_,hK,fin (ents.modify j fun e=>{ e with key:=kv,val:=vv }) clock hmod ?_ ?_,?_⟩
       ·intro e2 he2'
        have : e2.born ∈ ((ents.modify j fun e=>{ e with key:=kv,val:=vv }).toList.map (·.born)):=List.mem_map.2 ⟨e2,he2',rfl⟩
        rw [hbornmod] at this
        obtain ⟨e3,he3',h3⟩:=List.mem_map.1 this
        rw [← h3]
        exact hborn e3 he3'
       ·rw [hbornmod];exact hnd
       ·simp only [Instr.mapUpdate,Sem.run_bind,run_underlying hT,Result.andThen_ok,run_getObj_map hheap,hck,hfk,hn,hkeep,run_setObj_map hheap]
    ·exact h.elim
   ·exact h.elim
  ·exact h.elim
 ·exact h.elim
end
end Go.Am
end
section
namespace Go.Am
open Go.RowKit
def aRange (P : Program) (T : TypeId) (x : AV) (s : AState) (d : Option Tmp) (K : AState → Prop) : Prop :=
 match P.underlying T,d with
 |some (.map _ _),some t=>s.ment t = false ∧ (match x with
  |.mp m=>(match s.box m with
   |some (.map es none)=>m ≠ t ∧ ∀ bs ck,bs.length = es.length → bs.Nodup → K (((s.setBox m (.map es (some (bs,ck)))).put d (.loc t 0)).addBox d (some (.it m bs ck [])))
   |_=>False)
  |.v (.map none)=>K ((s.put d (.loc t 0)).addBox d (some (.raw (.mapIter none 0 #[] 0))))
  |.v (.map (some b))=>(match s.box (2000000 + b) with
   |some (.pin b' (.map _ clock))=>b' = b ∧ K ((s.put d (.loc t 0)).addBox d (some (.raw (.mapIter (some b) clock #[] clock))))
   |_=>False)
  |_=>False)
 |some .string,some t=>s.ment t = false ∧ (match x with
  |.v (.string str)=>K ((s.put d (.loc t 0)).addBox d (some (.raw (.stringIter str 0))))
  |_=>False)
 |_,_=>False
def aNext (it : AV) (isStr : Bool) (s : AState) (d : Option Tmp) (K : AState → Prop) : Prop :=
 match it with
 |.loc t 0=>(match s.box t with
  |some (.it m bs ck vis)=>isStr = false ∧ (match s.box m with
   |some (.map es (some (bs',ck')))=>(bs' = bs ∧ ck' = ck ∧ m ≠ t) ∧
     (∀ i,i < es.length → i ∉ vis → K ((s.setBox t (.it m bs ck (vis ++ [i]))).put d (.tup [.v (.bool true),(es.getD i default).1,(es.getD i default).2]))) ∧
     ((∀ i,i < es.length → i ∈ vis) → K (s.put d (.tup [.v (.bool false)])))
   |_=>False)
  |some (.raw (.mapIter none _ _ _))=>isStr = false ∧ K (s.put d (.tup [.v (.bool false)]))
  |some (.raw (.mapIter (some b) ck seen ck'))=>isStr = false ∧ (match s.box (2000000 + b) with
   |some (.pin b' (.map ents clock))=>(b' = b ∧ ck = clock ∧ ck' = clock ∧ ∀ e ∈ ents.toList,e.born < clock ∧ okV e.key = true) ∧
     (∀ e ∈ ents.toList,e.born ∉ seen → K ((s.setBox t (.raw (.mapIter (some b) clock (seen.push e.born) clock))).put d (.tup [.v (.bool true),.v e.key,.u]))) ∧
     ((∀ e ∈ ents.toList,e.born ∈ seen) → K (s.put d (.tup [.v (.bool false)])))
   |_=>False)
  |some (.raw (.stringIter str pos))=>isStr = true ∧
    (pos < str.size → K ((s.setBox t (.raw (.stringIter str (pos + (Utf8.decode str pos).2)))).put d (.tup [.v (.bool true),.v (.int .i64 pos),.v (.int .i32 (Utf8.decode str pos).1)]))) ∧
    (¬ pos < str.size → K (s.put d (.tup [.v (.bool false)])))
  |_=>False)
 |_=>False
def aEntry (it : AV) (s : AState) (d : Option Tmp) (K : AState → Prop) : Prop :=
 match it with
 |.loc t 0=>(match s.box t with
  |some (.it m bs ck vis)=>(match s.box m,vis.getLast? with
   |some (.map es (some (bs',ck'))),some i=>(bs' = bs ∧ ck' = ck) ∧ K (s.put d (.tup [(es.getD i default).1,(es.getD i default).2]))
   |_,_=>False)
  |some (.raw (.mapIter (some b) ck seen ck'))=>(match s.box (2000000 + b) with
   |some (.pin b' (.map ents clock))=>(b' = b ∧ ck = clock ∧ ck' = clock ∧ (ents.toList.map (·.born)).Nodup) ∧ ∃ e ∈ ents.toList,(∃ sn : Array Nat,seen = sn.push e.born) ∧ okV e.key = true ∧ K (s.put d (.tup [.v e.key,.u]))
   |_=>False)
  |_=>False)
 |_=>False
def aClear (P : Program) (T : TypeId) (x : AV) (s : AState) (K : AState → Prop) : Prop :=
 match P.underlying T,x with
 |some (.slice _),.sl _ []=>K s
 |some (.slice _),.v (.slice none _ _)=>K s
 |some (.slice e),.own id k off n=>(match zeroAV P e,s.box id with
  |some z,some (.arr e' k' xs)=>(k' = k ∧ z.sto = true ∧ z.cells.length = k ∧ off + n ≤ xs.length) ∧ K (s.setBox id (.arr e' k (xs.take off ++ (List.replicate n z ++ xs.drop (off + n)))))
  |_,_=>False)
 |_,_=>False
def aSlNil (P : Program) (op : BinOp) (T : TypeId) (emp : Prop) (s : AState) (d : Option Tmp) (K : AState → Prop) : Prop :=
 (∃ e,P.underlying T = some (.slice e)) ∧ match op with
 |.eql=>(¬ emp → K (s.put d (.v (.bool false)))) ∧ (emp → ∀ b,K (s.put d (.v (.bool b))))
 |.neq=>(¬ emp → K (s.put d (.v (.bool true)))) ∧ (emp → ∀ b,K (s.put d (.v (.bool b))))
 |_=>False
def nilRow (P : Program) (e : TypeId) (z : AV) : AV:=match z with
 |.v (.slice none 0 0)=>(match P.underlying e with|some (.slice e2)=>.sl (P.cellsOf e2) []|_=>.v (.slice none 0 0))
 |z=>z
def aMake (P : Program) (T : TypeId) (n c : AV) (s : AState) (d : Option Tmp) (K : AState → Prop) : Prop :=
 match P.underlying T,d,n,c with
 |some (.slice e),some t,.v (.int .i64 m),.v (.int .i64 m')=>(match zeroAV P e with
  |some z=>(m = m' ∧ okT P e = true ∧ 0 < P.cellsOf e ∧ z.sto = true ∧ z.cells.length = P.cellsOf e ∧ 0 ≤ m ∧ m ≤ 4611686018427387904 ∧ m * P.bytesOf e ≤ 140737488355328 ∧ s.ment t = false) ∧
    K ((s.put d (.own t (P.cellsOf e) 0 m.toNat)).addBox d (some (.arr e (P.cellsOf e) (List.replicate m.toNat (nilRow P e z)))))
  |none=>False)
 |_,_,_,_=>False
def aAppendN (P : Program) (T T' : TypeId) (v x : AV) (s : AState) (d : Option Tmp) (K : AState → Prop) : Prop :=
 match P.underlying T,P.underlying T',d with
 |some (.slice e),some (.int .i64),some t=>(match v,x,zeroAV P e with
  |.v (.slice none 0 0),.v (.int .i64 n),some z=>(okT P e = true ∧ 0 < P.cellsOf e ∧ z.sto = true ∧ z.cells.length = P.cellsOf e ∧ 0 < n ∧ n ≤ 4611686018427387904 ∧ n * P.bytesOf e ≤ 140737488355328 ∧ s.ment t = false) ∧
    K ((s.put d (.own t (P.cellsOf e) 0 n.toNat)).addBox d (some (.arr e (P.cellsOf e) (List.replicate n.toNat z))))
  |_,_,_=>False)
 |_,_,_=>False
section
variable {P : Program} {E : Env} {H : Heap} {ρ : Rho} {s : AState} {a : Act} {w : World} {d : Option Tmp} {K : AState → Prop}
def Came (E : Env) (K : AState → Prop) (a : Act) (d : Option Tmp) (u : Value) (w' : World) : Prop:=∃ s' H' ρ',K s' ∧ Sim E H' ρ' s'.slot s'.box (a.put d u) w'
theorem fresh2 {t : Nat} (h : s.ment t = false) : (∀ i,(s.slot i).ment t = false) ∧ (∀ id c,s.box id = some c → c.ment t = false) :=
 ⟨fun _=>AState.ment_slot h,fun _ _ hc=>AState.ment_box h hc⟩
theorem Came.new {t cap : Nat} {x : AV} {c : Ct} {u : Value} {w1 : World} {obj : Obj} (hs : Sim E H ρ s.slot s.box a w) (hd : ∀ t,d = some t → t < E.n) (hdt : d = some t) (hf : s.ment t = false)
 (h1 : w1 = w ∨ w1 = w.drew) (hr : Rep H (ρ.upd t (.at w.heap.size cap)) x u) (hc : CtRep H (ρ.upd t (.at w.heap.size cap)) (w1.alloc obj) (.at w.heap.size cap) c) (hk : K ((s.put d x).addBox d (some c))) : Came E K a d u (w1.alloc obj):=by
 have hh : w1.heap = w.heap:=by rcases h1 with rfl|rfl <;> rfl
 have hno : ∀ i,H w.heap.size i = none:=by
  intro i
  cases h : H w.heap.size i with
  |none=>rfl
  |some v=>have:=World.block_lt_of_cell? w _ (hs.ext _ _ _ h);simp at this
 have hbel : Bel w.heap.size w (w1.alloc obj):=by
  have hb0 : Bel w.heap.size w w1:=by rcases h1 with rfl|rfl <;> first|exact Bel.refl _ _|exact ⟨⟨rfl,rfl,rfl,Nat.le_refl _,fun _ _=>rfl⟩,Nat.le_succ _⟩
  exact hb0.alloc (by rw [hh];exact Nat.le_refl _) _
 obtain ⟨x',n',H2,ρ2,⟨rfl,rfl⟩,hs'⟩:=hs.quiet (o:={ (default : Oper) with dst:=d }) (k:=fun y n=>y = x ∧ n = some c) (a':=a.put d u) (w':=w1.alloc obj) hd
  (by rintro y c' ⟨rfl,h⟩ t' ht';have ht2 : d = some t':=ht';rw [hdt] at ht2;cases ht2;exact fresh2 hf)
  ⟨x,some c,H,_,u,⟨rfl,rfl⟩,rfl,H.le_refl,fun b i v h h'=>(by rw [h'] at h;cases h),hs.ext.of_below hbel,hr,hbel,t,w.heap.size,cap,hdt,rfl,Nat.le_refl _,by simp [hh],hno,hc⟩
 refine ⟨_,H2,ρ2,hk,?_⟩
 rw [AState.slot_addBox,AState.box_addBox,AState.slot_put,AState.box_put]
 exact hs'
theorem Came.put {u : Value} {x : AV} {s' : AState} {w' : World} (hs : Sim E H ρ s'.slot s'.box a w') (hd : ∀ t,d = some t → t < E.n) (hr : Rep H ρ x u) (hk : K (s'.put d x)) : Came E K a d u w':=by
 refine ⟨_,H,ρ,hk,?_⟩
 rw [AState.slot_put,AState.box_put]
 exact hs.put hd hr
theorem Sim.drawn {sf : Nat → AV} {bf : Nat → Option Ct} (h : Sim E H ρ sf bf a w) : Sim E H ρ sf bf a w.drew :=
 ⟨h.ext,h.slots,h.size,h.defers,⟨h.boxes.rep,h.boxes.apart,h.boxes.inj⟩,h.h0,h.new,⟨h.frame.os,h.frame.tape,⟨h.frame.output.1,Nat.le_succ_of_le h.frame.output.2⟩,h.frame.size,h.frame.block⟩,h.keep,h.nle⟩
theorem Sim.rebox {id : Nat} {c c' : Ct} (hs : Sim E H ρ s.slot s.box a w) (hc : s.box id = some c) (h : CtRep H ρ w (ρ id) c') : Sim E H ρ (s.setBox id c').slot (s.setBox id c').box a w:=by
 rw [AState.box_setBox,AState.slot_setBox]
 refine ⟨hs.ext,hs.slots,hs.size,hs.defers,⟨fun j cj hj=>?_,fun j cj b cap hj hb=>?_,fun i j ci cj b cap cap' hi hj hbi hbj=>?_⟩,hs.h0,hs.new,hs.frame,hs.keep,hs.nle⟩
 ·simp only [addF] at hj
  split at hj
  ·rename_i e;subst e;cases hj;exact h
  ·exact hs.boxes.rep j cj hj
 ·simp only [addF] at hj
  split at hj
  ·rename_i e;subst e;exact hs.boxes.apart id c b cap hc hb
  ·exact hs.boxes.apart j cj b cap hj hb
 ·have lift : ∀ j cj,addF s.box (some id) (some c') j = some cj → ∃ cj',s.box j = some cj':=by
   intro j cj hj
   simp only [addF] at hj
   split at hj
   ·rename_i e;subst e;exact ⟨c,hc⟩
   ·exact ⟨cj,hj⟩
  obtain ⟨ci',hi'⟩:=lift i ci hi
  obtain ⟨cj',hj'⟩:=lift j cj hj
  exact hs.boxes.inj i j ci' cj' b cap cap' hi' hj' hbi hbj
theorem aRange_sound {T : TypeId} {x : AV} {v : Value} (hs : Sim E H ρ s.slot s.box a w) (hd : ∀ t,d = some t → t < E.n) (hx : Rep H ρ x v) (h : aRange P T x s d K) :
 ∃ u w',(Instr.range T v).run P w = .ok u w' ∧ Came E K a d u w':=by
 unfold aRange at h
 split at h
 ·rename_i kt et t hT
  obtain ⟨hf,h⟩:=h
  split at h
  ·rename_i m
   split at h
   ·rename_i es hbx
    obtain ⟨hmt,h⟩:=h
    obtain ⟨b,cap,ents,clock,hbd,hheap,hk1,hk2,hborn,hnd,_⟩:=hs.boxes.rep _ _ hbx
    cases hx with
    |mp hρ =>
     rename_i b' cap'
     obtain ⟨rfl,rfl⟩:=rho_at hρ hbd
     refine ⟨_,_,run_range_map w T kt et b' ents clock hT hheap,?_⟩
     have hlen : (ents.toList.map (·.born)).length = es.length:=by have:=hk1.1;simp at this ⊢;omega
     have h2:=h (ents.toList.map (·.born)) clock hlen hnd
     have hs2:=hs.rebox (c':=.map es (some (ents.toList.map (·.born),clock))) hbx (by
      rw [hρ]
      exact ⟨b',cap',ents,clock,rfl,hheap,hk1,hk2,hborn,hnd,fun bs ck e=>by cases e;exact ⟨rfl,rfl⟩⟩)
     have hf2 : (s.setBox m (.map es (some (ents.toList.map (·.born),clock)))).ment t = false:=by
      have h3:=AState.ment_box hf hbx
      simp only [AState.ment,Bool.or_eq_false_iff] at hf ⊢
      refine ⟨hf.1,?_⟩
      simp only [AState.setBox,mentB,Bool.or_eq_false_iff]
      exact ⟨by simpa only [Ct.ment] using h3,hf.2⟩
     refine Came.new (s:=s.setBox m (.map es (some (ents.toList.map (·.born),clock)))) (cap:=0) hs2 hd rfl hf2 (Or.inl rfl) (.loc (Rho.upd_same _ _ _)) ?_ h2
     refine ⟨w.heap.size,0,b',cap',#[],rfl,?_,heap_alloc_new w _,by simp,by simp⟩
     simp [Rho.upd,hmt,hρ]
   ·exact h.elim
  ·rw [hx.v_inv]
   refine ⟨_,_,run_range_nilMap w T kt et hT,?_⟩
   exact Came.new (cap:=0) (c:=.raw _) hs hd rfl hf (Or.inl rfl) (.loc (Rho.upd_same _ _ _)) ⟨w.heap.size,0,rfl,heap_alloc_new w _,fun x e=>by cases e⟩ h
  ·rename_i b
   split at h
   ·rename_i b' ents clock hbx
    obtain ⟨rfl,h⟩:=h
    obtain ⟨_,hheap,_⟩:=hs.boxes.rep _ _ hbx
    rw [hx.v_inv]
    refine ⟨_,_,run_range_map w T kt et b' ents clock hT hheap,?_⟩
    exact Came.new (cap:=0) (c:=.raw _) hs hd rfl hf (Or.inl rfl) (.loc (Rho.upd_same _ _ _)) ⟨w.heap.size,0,rfl,heap_alloc_new w _,fun x e=>by cases e⟩ h
   ·exact h.elim
  ·exact h.elim
 ·rename_i t hT
  obtain ⟨hf,h⟩:=h
  split at h
  ·rename_i str
   rw [hx.v_inv]
   refine ⟨_,_,run_range_string w T str hT,?_⟩
   exact Came.new (cap:=0) (c:=.raw _) hs hd rfl hf (Or.inl rfl) (.loc (Rho.upd_same _ _ _)) ⟨w.heap.size,0,rfl,heap_alloc_new w _,fun x e=>by cases e⟩ h
  ·exact h.elim
 ·exact h.elim
theorem bool_rep {b : Bool} : Rep H ρ (.v (.bool b)) (.bool b):=.v rfl
theorem setBlock_write {id b cap : Nat} {c c' : Ct} {obj : Obj} (hs : Sim E H ρ s.slot s.box a w) (hc : s.box id = some c) (hb : ρ id = .at b cap) (hc' : ∀ w' : World,w'.heap[b]? = some obj → CtRep H ρ w' (.at b cap) c') :
 Sim E H ρ (s.setBox id c').slot (s.setBox id c').box a (ChangeMaps.setBlock w b obj):=by
 rw [AState.box_setBox,AState.slot_setBox]
 have hlt:=(hs.boxes.apart id c b cap hc hb).2.1
 exact hs.write hc hb rfl rfl ⟨rfl,Nat.le_refl _⟩ (by simp [ChangeMaps.setBlock]) (fun k hk=>by simp [ChangeMaps.setBlock,Array.getElem?_setIfInBounds_ne (Ne.symm hk)]) (hc' _ (by simp [ChangeMaps.setBlock,hlt]))
theorem aNext_sound {it : AV} {v : Value} {isStr : Bool} {ty : TypeId} (hs : Sim E H ρ s.slot s.box a w) (hd : ∀ t,d = some t → t < E.n) (hx : Rep H ρ it v) (h : aNext it isStr s d K) :
 ∃ u w',(Instr.next v isStr ty).run P w = .ok u w' ∧ Came E K a d u w':=by
 unfold aNext at h
 split at h
 ·rename_i t
  cases hx with
  |loc hρt =>
   rename_i r capr
   split at h
   ·rename_i m bs ck vis hbt
    obtain ⟨rfl,h⟩:=h
    split at h
    ·rename_i es bs' ck' hbm
     obtain ⟨⟨rfl,rfl,hmt⟩,hnext,hover⟩:=h
     obtain ⟨r',capr',mb,capm,seen,hbd,hρm,hheapr,hseen,hvis⟩:=hs.boxes.rep _ _ hbt
     obtain ⟨rfl,rfl⟩:=rho_at hρt hbd
     obtain ⟨b',cap',ents,clock,hbd2,hheapm,hk1,hk2,hborn,hnd,hst⟩:=hs.boxes.rep _ _ hbm
     obtain ⟨rfl,rfl⟩:=rho_at hρm hbd2
     obtain ⟨hbs,hck⟩:=hst bs' ck' rfl
     subst hck
     have hlen : ents.toList.length = es.length:=by have:=hk1.1;simp at this ⊢;omega
     have hbl : bs'.length = es.length:=by rw [← hbs,List.length_map,hlen]
     have hbget : ∀ i (hi : i < ents.toList.length),bs'.getD i 0 = (ents.toList[i]).born:=by
      intro i hi
      rw [← hbs]
      simp [List.getD_eq_getElem?_getD,List.getElem?_map,List.getElem?_eq_getElem hi]
     have hmem : ∀ i (hi : i < ents.toList.length),(ents.toList[i]).born ∈ seen.toList ↔ i ∈ vis:=by
      intro i hi
      rw [hseen,List.mem_map]
      constructor
      ·rintro ⟨j,hj,hjb⟩
       have hjl : j < ents.toList.length:=by have:=hvis j hj;omega
       rw [hbget j hjl] at hjb
       have hnd2:=hnd
       have : j = i:=by
        have h3 : j < (ents.toList.map (·.born)).length:=by simpa using hjl
        have h4 : i < (ents.toList.map (·.born)).length:=by simpa using hi
        refine (List.getElem_inj (h₀:=h3) (h₁:=h4) hnd2).1 ?_
        rw [List.getElem_map,List.getElem_map]
        exact hjb
       subst this
       exact hj
      ·intro hi'
       exact ⟨i,hi',hbget i hi⟩
     rcases run_next_at (P:=P) w ty r mb clock clock seen ents clock hheapr hheapm hborn (Nat.le_refl _) with ⟨h0,hrun⟩|⟨e,he,w1,hw1,hrun⟩
     ·refine ⟨_,_,hrun,Came.put hs hd ?_ (hover ?_)⟩
      ·exact .tup (vs:=[.bool false]) rfl (RepL.cons bool_rep RepL.nil).2
      ·intro i hi
       have hi' : i < ents.toList.length:=by omega
       refine (hmem i hi').1 ?_
       rw [Array.mem_toList_iff]
       have : leftOf ents seen = #[]:=Array.eq_empty_of_size_eq_zero h0
       unfold leftOf at this
       rw [Array.filter_eq_empty_iff] at this
       have:=this (ents.toList[i]) (by simp)
       simpa using this
     ·have hem : e ∈ ents.toList ∧ e.born ∉ seen:=by
       unfold leftOf at he
       simpa using he
      obtain ⟨i,hi,hie⟩:=List.mem_iff_getElem.1 hem.1
      have hiv : i ∉ vis:=by
       intro hv
       have:=(hmem i hi).2 hv
       rw [hie] at this
       exact hem.2 (by simpa using this)
      have hs1 : Sim E H ρ s.slot s.box a w1:=by
       rcases hw1 with rfl|rfl
       ·exact hs
       ·exact hs.drawn
      have hs2:=setBlock_write (id:=t) (c':=.it m bs' clock (vis ++ [i])) (obj:=.mapIter (some mb) clock (seen.push e.born) clock) hs1 hbt hρt (fun w' hw'=>by
       refine ⟨r,_,mb,capm,seen.push e.born,rfl,hρm,hw',?_,?_⟩
       ·simp only [Array.toList_push,List.map_append,List.map_cons,List.map_nil,hseen]
        rw [hbget i hi,hie]
       ·intro j hj
        rcases List.mem_append.1 hj with hj|hj
        ·exact hvis j hj
        ·simp at hj;omega)
      refine ⟨_,_,hrun,Came.put hs2 hd ?_ (hnext i (by omega) hiv)⟩
      have g1 : (es.map (·.1))[i]? = some (es.getD i default).1:=by
       have : i < es.length:=by omega
       simp [List.getD_eq_getElem?_getD,List.getElem?_eq_getElem this]
      have g2 : (es.map (·.2))[i]? = some (es.getD i default).2:=by
       have : i < es.length:=by omega
       simp [List.getD_eq_getElem?_getD,List.getElem?_eq_getElem this]
      have r1:=hk1.2 i _ e.key g1 (by simp [List.getElem?_map,List.getElem?_eq_getElem hi,hie])
      have r2:=hk2.2 i _ e.val g2 (by simp [List.getElem?_map,List.getElem?_eq_getElem hi,hie])
      exact .tup (vs:=[.bool true,e.key,e.val]) rfl (RepL.cons bool_rep (RepL.cons r1 (RepL.cons r2 RepL.nil))).2
    ·exact h.elim
   ·rename_i a1 a2 a3 hbt
    obtain ⟨rfl,h⟩:=h
    obtain ⟨r',capr',hbd,hheapr,_⟩:=hs.boxes.rep _ _ hbt
    obtain ⟨rfl,rfl⟩:=rho_at hρt hbd
    refine ⟨.tuple #[.bool false],w,?_,Came.put hs hd ?_ h⟩
    ·simp only [Instr.next,getObj,Sem.run_bind,Sem.run,hheapr,Result.andThen]
     rfl
    ·exact .tup (vs:=[.bool false]) rfl (RepL.cons bool_rep RepL.nil).2
   ·rename_i mb ck seen ck' hbt
    obtain ⟨rfl,h⟩:=h
    split at h
    ·rename_i b' ents clock hbm
     obtain ⟨⟨rfl,rfl,rfl,hents⟩,hnext,hover⟩:=h
     obtain ⟨r',capr',hbd,hheapr,_⟩:=hs.boxes.rep _ _ hbt
     obtain ⟨rfl,rfl⟩:=rho_at hρt hbd
     obtain ⟨_,hheapm,_⟩:=hs.boxes.rep _ _ hbm
     rcases run_next_at (P:=P) w ty r b' ck' ck' seen ents ck' hheapr hheapm (fun e he=>(hents e (by simpa using he)).1) (Nat.le_refl _) with ⟨h0,hrun⟩|⟨e,he,w1,hw1,hrun⟩
     ·refine ⟨_,_,hrun,Came.put hs hd ?_ (hover ?_)⟩
      ·exact .tup (vs:=[.bool false]) rfl (RepL.cons bool_rep RepL.nil).2
      ·intro e he
       have : leftOf ents seen = #[]:=Array.eq_empty_of_size_eq_zero h0
       unfold leftOf at this
       rw [Array.filter_eq_empty_iff] at this
       have:=this e (by simpa using he)
       simpa using this
     ·have hem : e ∈ ents.toList ∧ e.born ∉ seen:=by
       unfold leftOf at he
       simpa using he
      have hs1 : Sim E H ρ s.slot s.box a w1:=by
       rcases hw1 with rfl|rfl
       ·exact hs
       ·exact hs.drawn
      have hs2:=setBlock_write (id:=t) (c':=.raw (.mapIter (some b') ck' (seen.push e.born) ck')) (obj:=.mapIter (some b') ck' (seen.push e.born) ck') hs1 hbt hρt (fun w' hw'=>⟨r,_,rfl,hw',fun x e=>by cases e⟩)
      refine ⟨_,_,hrun,Came.put hs2 hd ?_ (hnext e hem.1 hem.2)⟩
      exact .tup (vs:=[.bool true,e.key,e.val]) rfl (RepL.cons bool_rep (RepL.cons (.v (hents e hem.1).2) (RepL.cons .u RepL.nil))).2
    ·exact h.elim
   ·rename_i str pos hbt
    obtain ⟨rfl,h1,h2⟩:=h
    obtain ⟨r',capr',hbd,hheapr,_⟩:=hs.boxes.rep _ _ hbt
    obtain ⟨rfl,rfl⟩:=rho_at hρt hbd
    by_cases hpos : pos < str.size
    ·have hs2:=setBlock_write (id:=t) (c':=.raw (.stringIter str (pos + (Utf8.decode str pos).2))) (obj:=.stringIter str (pos + (Utf8.decode str pos).2)) hs hbt hρt (fun w' hw'=>⟨r,_,rfl,hw',fun x e=>by cases e⟩)
     refine ⟨.tuple #[.bool true,.int .i64 pos,.int .i32 (Utf8.decode str pos).1],_,?_,Came.put hs2 hd ?_ (h1 hpos)⟩
     ·simp only [Instr.next,getObj,setObj,Sem.run_bind,Sem.run,hheapr,Result.andThen,hpos,if_true]
      rfl
     ·exact .tup (vs:=[.bool true,.int .i64 pos,.int .i32 (Utf8.decode str pos).1]) rfl (RepL.cons bool_rep (RepL.cons (.v rfl) (RepL.cons (.v rfl) RepL.nil))).2
    ·refine ⟨.tuple #[.bool false],w,?_,Came.put hs hd ?_ (h2 hpos)⟩
     ·simp [Instr.next,getObj,Sem.run,hheapr,hpos]
     ·exact .tup (vs:=[.bool false]) rfl (RepL.cons bool_rep RepL.nil).2
   ·exact h.elim
 ·exact h.elim
theorem aEntry_sound {it : AV} {v : Value} (hs : Sim E H ρ s.slot s.box a w) (hd : ∀ t,d = some t → t < E.n) (hx : Rep H ρ it v) (h : aEntry it s d K) :
 ∃ u w',(Instr.entry v).run P w = .ok u w' ∧ Came E K a d u w':=by
 unfold aEntry at h
 split at h
 ·rename_i t
  cases hx with
  |loc hρt =>
   rename_i r capr
   split at h
   ·rename_i m bs ck vis hbt
    split at h
    ·rename_i es bs' ck' i hbm hlast
     obtain ⟨⟨rfl,rfl⟩,hK⟩:=h
     obtain ⟨r',capr',mb,capm,seen,hbd,hρm,hheapr,hseen,hvis⟩:=hs.boxes.rep _ _ hbt
     obtain ⟨rfl,rfl⟩:=rho_at hρt hbd
     obtain ⟨b',cap',ents,clock,hbd2,hheapm,hk1,hk2,hborn,hnd,hst⟩:=hs.boxes.rep _ _ hbm
     obtain ⟨rfl,rfl⟩:=rho_at hρm hbd2
     obtain ⟨hbs,hck⟩:=hst bs' ck' rfl
     subst hck
     have hlen : ents.toList.length = es.length:=by have:=hk1.1;simp at this ⊢;omega
     have hbl : bs'.length = es.length:=by rw [← hbs,List.length_map,hlen]
     have him : i ∈ vis:=List.mem_of_getLast? hlast
     have hi : i < ents.toList.length:=by have:=hvis i him;omega
     obtain ⟨pre,hpre⟩ : ∃ pre,vis = pre ++ [i]:=by
      obtain ⟨ys,hys⟩:=List.getLast?_eq_some_iff.1 hlast
      exact ⟨ys,hys⟩
     have hbi : bs'.getD i 0 = (ents.toList[i]).born:=by
      rw [← hbs]
      simp [List.getD_eq_getElem?_getD,List.getElem?_map,List.getElem?_eq_getElem hi]
     have hsp : seen = (pre.map (fun j=>bs'.getD j 0)).toArray.push (ents.toList[i]).born:=by
      apply Array.toList_inj.1
      rw [hseen,hpre,Array.toList_push,List.toList_toArray,List.map_append,List.map_cons,List.map_nil,hbi]
     rw [hsp] at hheapr
     refine ⟨_,_,run_entry_at (P:=P) w r mb clock _ ents clock (ents.toList[i]) hheapr hheapm (List.getElem_mem hi) hnd,Came.put hs hd ?_ hK⟩
     have g1 : (es.map (·.1))[i]? = some (es.getD i default).1:=by
      have : i < es.length:=by omega
      simp [List.getD_eq_getElem?_getD,List.getElem?_eq_getElem this]
     have g2 : (es.map (·.2))[i]? = some (es.getD i default).2:=by
      have : i < es.length:=by omega
      simp [List.getD_eq_getElem?_getD,List.getElem?_eq_getElem this]
     have r1:=hk1.2 i _ (ents.toList[i]).key g1 (by simp [List.getElem?_map,List.getElem?_eq_getElem hi])
     have r2:=hk2.2 i _ (ents.toList[i]).val g2 (by simp [List.getElem?_map,List.getElem?_eq_getElem hi])
     exact .tup (vs:=[(ents.toList[i]).key,(ents.toList[i]).val]) rfl (RepL.cons r1 (RepL.cons r2 RepL.nil)).2
    ·exact h.elim
   ·rename_i mb ck seen ck' hbt
    split at h
    ·rename_i b' ents clock hbm
     obtain ⟨⟨rfl,rfl,rfl,hnd⟩,e,he,⟨sn,rfl⟩,hok,hK⟩:=h
     obtain ⟨r',capr',hbd,hheapr,_⟩:=hs.boxes.rep _ _ hbt
     obtain ⟨rfl,rfl⟩:=rho_at hρt hbd
     obtain ⟨_,hheapm,_⟩:=hs.boxes.rep _ _ hbm
     refine ⟨_,_,run_entry_at (P:=P) w r b' ck' sn ents ck' e hheapr hheapm he hnd,Came.put hs hd ?_ hK⟩
     exact .tup (vs:=[e.key,e.val]) rfl (RepL.cons (.v hok) (RepL.cons .u RepL.nil)).2
    ·exact h.elim
   ·exact h.elim
 ·exact h.elim
theorem flat_splice {k : Nat} {xs ys : List AV} {off : Nat} (hx : ∀ x ∈ xs,x.cells.length = k) (hy : ∀ y ∈ ys,y.cells.length = k) (hfit : off + ys.length ≤ xs.length) :
 (xs.take off ++ (ys ++ xs.drop (off + ys.length))).flatMap AV.cells = setPart (xs.flatMap AV.cells) (off * k) (ys.flatMap AV.cells):=by
 have hyl:=flat_len hy
 have e1 : (xs.flatMap AV.cells).take (off * k) = (xs.take off).flatMap AV.cells:=by
  conv=>lhs;rw [← List.take_append_drop off xs]
  rw [List.flatMap_append]
  have : ((xs.take off).flatMap AV.cells).length = off * k:=by
   rw [flat_len (fun x h=>hx x (List.mem_of_mem_take h)),List.length_take]
   congr 1
   omega
  rw [← this,List.take_left]
 have e2 : (xs.flatMap AV.cells).drop (off * k + (ys.flatMap AV.cells).length) = (xs.drop (off + ys.length)).flatMap AV.cells:=by
  conv=>lhs;rw [← List.take_append_drop (off + ys.length) xs]
  rw [List.flatMap_append]
  have : ((xs.take (off + ys.length)).flatMap AV.cells).length = off * k + (ys.flatMap AV.cells).length:=by
   rw [flat_len (fun x h=>hx x (List.mem_of_mem_take h)),List.length_take,hyl,← Nat.add_mul]
   congr 1
   omega
  rw [← this,List.drop_left]
 unfold Am.setPart
 rw [e1,e2,List.flatMap_append,List.flatMap_append]
theorem Sim.splice {id b cap T k off : Nat} {xs ys : List AV} {cur : Array Value} {nv : List Value} (hs : Sim E H ρ s.slot s.box a w) (hbx : s.box id = some (.arr T k xs)) (hρ : ρ id = .at b cap) (hheap : w.heap[b]? = some (.cells cur T (0,0)))
 (hmax : cap ≤ maxLen) (hcap : xs.length ≤ cap) (hsz : cur.size = cap * k) (hrep : RepL H ρ (xs.flatMap AV.cells) (cur.toList.take (xs.length * k))) (hall : ∀ x ∈ xs,x.cells.length = k ∧ oneAll x)
 (hys : ∀ y ∈ ys,y.cells.length = k ∧ oneAll y) (hnv : RepL H ρ (ys.flatMap AV.cells) nv) (hfit : off + ys.length ≤ xs.length) :
 Sim E H ρ (s.setBox id (.arr T k (xs.take off ++ (ys ++ xs.drop (off + ys.length))))).slot (s.setBox id (.arr T k (xs.take off ++ (ys ++ xs.drop (off + ys.length))))).box a
  (w.setRow b (cur.toList.take (off * k) ++ nv ++ cur.toList.drop (off * k + nv.length)).toArray):=by
 have hyl:=flat_len (fun y hy=>(hys y hy).1)
 have hnl : nv.length = ys.length * k:=by rw [← hnv.1];exact hyl
 have hlen : (xs.take off ++ (ys ++ xs.drop (off + ys.length))).length = xs.length:=by simp;omega
 have hm1 : (off + ys.length) * k ≤ xs.length * k:=Nat.mul_le_mul_right _ hfit
 have hm2 : xs.length * k ≤ cap * k:=Nat.mul_le_mul_right _ hcap
 rw [Nat.add_mul] at hm1
 rw [AState.box_setBox,AState.slot_setBox]
 refine hs.write hbx hρ rfl rfl ⟨rfl,Nat.le_refl _⟩ (setRow_size _ _ _) (fun k hk=>setRow_other w b k _ hk) (.inr ⟨b,cap,_,rfl,setRow_heap w b _ _ _ _ hheap,hmax,by rw [hlen];exact hcap,?_,?_,?_⟩)
 ·simp only [List.size_toArray,List.length_append,List.length_take,List.length_drop,Array.length_toList]
  omega
 ·rw [hlen,flat_splice (fun x h=>(hall x h).1) (fun y h=>(hys y h).1) hfit]
  have hr2:=hrep.setPart' (off:=off * k) hnv
  have e3 : (cur.toList.take (off * k) ++ nv ++ cur.toList.drop (off * k + nv.length)).take (xs.length * k) =
   (cur.toList.take (xs.length * k)).take (off * k) ++ nv ++ (cur.toList.take (xs.length * k)).drop (off * k + nv.length):=by
   rw [List.append_assoc,List.append_assoc,List.take_append,List.take_append,List.take_take,List.drop_take]
   have l1 : (cur.toList.take (off * k)).length = off * k:=by simp;omega
   rw [l1,List.take_take]
   have l2 : min (xs.length * k) (off * k) = off * k:=by omega
   have l2' : min (off * k) (xs.length * k) = off * k:=by omega
   rw [l2,l2']
   congr 1
   have l3 : nv.take (xs.length * k - off * k) = nv:=List.take_of_length_le (by omega)
   rw [l3]
   congr 2
   omega
  show RepL H ρ _ (List.take (xs.length * k) (List.toArray _).toList)
  rw [List.toList_toArray,e3]
  exact hr2
 ·intro z hz
  simp only [List.mem_append] at hz
  rcases hz with h|h|h
  ·exact hall z (List.mem_of_mem_take h)
  ·exact hys z h
  ·exact hall z (List.mem_of_mem_drop h)
theorem zero_facts {e : TypeId} {z : AV} (h : zeroAV P e = some z) (hsto : z.sto = true) : ∃ i zv,P.info? e = some i ∧ i.zero = some zv ∧ (∀ (H : Heap) (ρ : Rho),RepL H ρ z.cells zv.cells.toList) ∧ oneAll z:=by
 obtain ⟨i,zv,hi,hz,rfl⟩:=zeroAV_inv h
 refine ⟨i,zv,hi,hz,fun H ρ=>((Rep.ofVal (H:=H) (ρ:=ρ) zv).cellsL hsto).1,((Rep.ofVal (H:=fun _ _=>none) (ρ:=rho0) zv).cellsL hsto).2⟩
theorem zeroCells_rep {z : AV} {zv : Value} (h : RepL H ρ z.cells zv.cells.toList) (n : Nat) : RepL H ρ ((List.replicate n z).flatMap AV.cells) (Builtin.zeroCells zv.cells n).toList:=by
 have:=RepL.replicate h n
 rw [← flat_zero] at this
 exact this
theorem aClear_sound {T ty : TypeId} {x : AV} {v : Value} (hs : Sim E H ρ s.slot s.box a w) (hd : ∀ t,d = some t → t < E.n) (hx : Rep H ρ x v) (h : aClear P T x s (fun s'=>K (s'.put d (.tup [])))) :
 ∃ u w',(Builtin.clear_ #[T] ty #[v]).run P w = .ok u w' ∧ Came E K a d u w':=by
 unfold aClear at h
 split at h
 ·rename_i e k hT
  have hv : ∃ p c,v = .slice p 0 c:=by
   generalize hy : AV.sl k [] = y at hx
   cases hx with
   |slNil=>exact ⟨_,_,rfl⟩
   |sl=>cases hy;exact ⟨_,_,rfl⟩
   |_=>cases hy
  obtain ⟨p,c,rfl⟩:=hv
  refine ⟨.tuple #[],w,?_,Came.put hs hd Rep.undef h⟩
  cases p <;> simp [Builtin.clear_,run_underlying hT]
 ·rename_i e n c hT
  rw [hx.v_inv]
  refine ⟨.tuple #[],w,?_,Came.put hs hd Rep.undef h⟩
  simp [Builtin.clear_,run_underlying hT]
 ·rename_i e id k off n hT
  split at h
  ·rename_i z e' k' xs hz hbx
   obtain ⟨⟨rfl,hsto,hzl,hfit⟩,hK⟩:=h
   obtain ⟨i,zv,hi,hzv,hzr,hz1⟩:=zero_facts hz hsto
   have hlr : (List.replicate n z).length = n:=by simp
   have triv : xs.take off ++ (List.replicate 0 z ++ xs.drop (off + 0)) = xs:=by simp
   have same : n = 0 → (Builtin.clear_ #[T] ty #[v]).run P w = .ok (.tuple #[]) w → ∃ u w',(Builtin.clear_ #[T] ty #[v]).run P w = .ok u w' ∧ Came E K a d u w':=by
    rintro rfl hrun
    rw [triv] at hK
    refine ⟨_,_,hrun,Came.put (hs.rebox hbx (hs.boxes.rep _ _ hbx)) hd Rep.undef hK⟩
   cases hx with
   |ownNil hρ=>exact same rfl (by simp [Builtin.clear_,run_underlying hT])
   |own hρ hn hm =>
    rename_i b cap
    rcases hs.boxes.rep _ _ hbx with ⟨hnil,hxs⟩|⟨b',cap',cur,hbd,hheap,hmax,hcap,hsz,hrep,hall⟩
    ·rw [hnil] at hρ;cases hρ
    obtain ⟨rfl,rfl⟩:=rho_at hρ hbd
    by_cases hn0 : n = 0
    ·subst hn0
     exact same rfl (by simp [Builtin.clear_,run_underlying hT])
    ·have hzs : (Builtin.zeroCells zv.cells n).toList.length = n * k':=by
      have h1:=(hzr H ρ).1
      rw [hzl,Array.length_toList] at h1
      rw [Array.length_toList,size_zeroCells,← h1]
     have hnv:=zeroCells_rep (hzr H ρ) n
     have hm1 : (off + n) * k' ≤ xs.length * k':=Nat.mul_le_mul_right _ hfit
     have hm2 : xs.length * k' ≤ cap * k':=Nat.mul_le_mul_right _ hcap
     rw [Nat.add_mul] at hm1
     have hone : ∀ u ∈ (Builtin.zeroCells zv.cells n).toList,u.oneCell' = true:=by
      intro u hu
      refine okV_oneCell (hnv.ok ?_ u hu)
      intro c hc
      obtain ⟨y,hy,hcy⟩:=List.mem_flatMap.1 hc
      rw [(List.mem_replicate.1 hy).2] at hcy
      exact hz1 c hcy
     have hst:=run_storeCells_at P b (off * k') e' (Builtin.zeroCells zv.cells n).toList 0 cur w hheap (by rw [hzs,hsz];omega) hone
     simp only [Nat.add_zero] at hst
     have hsim:=hs.splice (off:=off) (ys:=List.replicate n z) (nv:=(Builtin.zeroCells zv.cells n).toList) hbx hρ hheap hmax hcap hsz hrep hall
      (fun y hy=>by rw [(List.mem_replicate.1 hy).2];exact ⟨hzl,hz1⟩) hnv (by simpa using hfit)
     rw [hlr] at hsim
     refine ⟨.tuple #[],_,?_,Came.put hsim hd Rep.undef hK⟩
     have hzrun : (zeroValue e).run P w = .ok zv w:=by simp [zeroValue,typeInfo,hi,hzv]
     cases n with
     |zero=>exact absurd rfl hn0
     |succ n =>
      simp only [Builtin.clear_,run_underlying hT,Sem.run_bind,Result.andThen_ok]
      simp only [List.getElem?_toArray,List.getElem?_cons_zero,Sem.run_bind,run_underlying hT,hzrun,Result.andThen_ok,hst,Sem.run_pure]
  ·exact h.elim
 ·exact h.elim
theorem eqIn_slice (dd : Nat) {T e : TypeId} (hT : P.underlying T = some (.slice e)) (p : Option Addr) (n c m c' : Nat) :
 (Op.equalIn (dd + 1) T (.slice p n c) (.slice none m c')).run P w = .ok p.isNone w:=by
 cases p <;> simp [Op.equalIn,run_underlying hT]
theorem slNil_sound {op : BinOp} {T : TypeId} {ox oy : Operand} {p : Option Addr} {n c m c' : Nat} {emp : Prop} (hs : Sim E H ρ s.slot s.box a w) (hd : ∀ t,d = some t → t < E.n) (hp : ¬ emp → p ≠ none) (h : aSlNil P op T emp s d K) :
 ∃ u,(eqGuard op T ox oy (.slice p n c) (.slice none m c')).run P w = .ok () w ∧ (binOp op T (.slice p n c) (.slice none m c')).run P w = .ok u w ∧ Came E K a d u w:=by
 obtain ⟨⟨e,hT⟩,h⟩:=h
 have hg:=run_eqGuard_other (P:=P) (w:=w) (op:=op) (T:=T) (x:=ox) (y:=oy) (a:=.slice p n c) (b:=.slice none m c') (by simp) (by simp)
 have he : (Op.equal T (.slice p n c) (.slice none m c')).run P w = .ok p.isNone w:=by
  unfold Op.equal Op.maxDepth
  rw [show (10000 : Nat) = 9999 + 1 from rfl]
  exact eqIn_slice 9999 hT p n c m c'
 have hb:=run_binOp_eq (op:=op) (v:=.slice none m c') (by simp) he
 by_cases hem : emp
 ·split at h
  ·exact ⟨_,hg,hb.1 rfl,Came.put hs hd (.v rfl) (h.2 hem _)⟩
  ·exact ⟨_,hg,hb.2 rfl,Came.put hs hd (.v rfl) (h.2 hem _)⟩
  ·exact h.elim
 ·have hp' : p.isNone = false:=by
   cases p with
   |none=>exact absurd rfl (hp hem)
   |some _=>rfl
  rw [hp'] at hb
  split at h
  ·exact ⟨_,hg,hb.1 rfl,Came.put hs hd (.v rfl) (h.1 hem)⟩
  ·exact ⟨_,hg,hb.2 rfl,Came.put hs hd (.v rfl) (h.1 hem)⟩
  ·exact h.elim
theorem sl_val {k : Nat} {xs : List AV} {v : Value} (h : Rep H ρ (.sl k xs) v) : ∃ p n c,v = .slice p n c ∧ (¬ xs = [] → p ≠ none):=by
 generalize hy : AV.sl k xs = y at h
 cases h with
 |slNil=>cases hy;exact ⟨_,_,_,rfl,fun h=>absurd rfl h⟩
 |sl=>cases hy;exact ⟨_,_,_,rfl,fun _=>by simp⟩
 |_=>cases hy
theorem own_val {id k off n : Nat} {v : Value} (h : Rep H ρ (.own id k off n) v) : ∃ p n' c,v = .slice p n' c ∧ (¬ n = 0 → p ≠ none):=by
 cases h with
 |ownNil=>exact ⟨_,_,_,rfl,fun h=>absurd rfl h⟩
 |own=>exact ⟨_,_,_,rfl,fun _=>by simp⟩
theorem aAppendN_sound {T T' ty : TypeId} {v x : AV} {vv vx : Value} (hs : Sim E H ρ s.slot s.box a w) (hd : ∀ t,d = some t → t < E.n) (hv : Rep H ρ v vv) (hx : Rep H ρ x vx) (h : aAppendN P T T' v x s d K) :
 ∃ u w',(Builtin.append_ #[T,T'] ty #[vv,vx]).run P w = .ok u w' ∧ Came E K a d u w':=by
 unfold aAppendN at h
 split at h
 ·rename_i e t hT hT'
  split at h
  ·rename_i n z hz
   obtain ⟨⟨hok,hk0,hsto,hzl,hn0,hn62,h47,hf⟩,hK⟩:=h
   obtain ⟨i,zv,hi,hzv,hzr,hz1⟩:=zero_facts hz hsto
   rw [hv.v_inv,hx.v_inv]
   have hsize : i.size = P.cellsOf e:=by simp [Program.cellsOf,hi]
   have hbytes : i.bytes = P.bytesOf e:=by simp [Program.bytesOf,hi]
   obtain ⟨m,rfl⟩ : ∃ m : Nat,n = m:=⟨n.toNat,by omega⟩
   rw [Int.toNat_natCast] at hK
   rw [← Int.natCast_mul] at h47
   have hrun:=Go.Lib.run_append_nil_zeros (P:=P) w T T' ty e i zv .i64 .i64 hT hT' hi hzv m (by omega) (by omega) (by omega) (by rw [hbytes];omega)
   refine ⟨_,_,hrun,?_⟩
   have hge:=grownCap_ge w m 0 e
   have hmax:=grownCap_le_maxLen w m 0 e (by unfold maxLen;omega)
   have hzc : zv.cells.size = P.cellsOf e:=by
    have:=(hzr H ρ).1
    rw [hzl,Array.length_toList] at this
    exact this.symm
   refine Came.new (cap:=grownCap w m 0 e) (c:=.arr e (P.cellsOf e) (List.replicate m z)) hs hd rfl hf (Or.inr rfl) ?_ (Or.inr ⟨w.heap.size,_,_,rfl,heap_alloc_new w.drew _,hmax,by simpa using hge,?_,?_,?_⟩) hK
   ·have:=Rep.own (H:=H) (ρ:=ρ.upd t (.at w.heap.size (grownCap w m 0 e))) (id:=t) (k:=P.cellsOf e) (off:=0) (n:=m) (c:=grownCap w m 0 e) (Rho.upd_same _ _ _) (by omega) hmax
    simpa using this
   ·simp only [Array.size_append,size_zeroCells,hzc,← Nat.add_mul]
    congr 1
    omega
   ·have : (Builtin.zeroCells zv.cells m ++ Builtin.zeroCells zv.cells (grownCap w m 0 e - m)).toList.take ((List.replicate m z).length * P.cellsOf e) = (Builtin.zeroCells zv.cells m).toList:=by
     rw [Array.toList_append,List.length_replicate]
     have : m * P.cellsOf e = (Builtin.zeroCells zv.cells m).toList.length:=by rw [Array.length_toList,size_zeroCells,hzc]
     rw [this,List.take_left]
    rw [this]
    exact zeroCells_rep (hzr H _) m
   ·intro y hy
    rw [(List.mem_replicate.1 hy).2]
    exact ⟨hzl,hz1⟩
  ·exact h.elim
 ·exact h.elim
theorem nilRow_rep {e : TypeId} {z : AV} {vs : List Value} (h : RepL H ρ z.cells vs) : RepL H ρ (nilRow P e z).cells vs:=by
 unfold nilRow
 split
 ·split
  ·obtain ⟨u,us,rfl,h1,h2⟩:=h.cons_inv
   rw [h2.nil_inv,h1.v_inv]
   exact RepL.cons .slNil RepL.nil
  ·exact h
 ·exact h
theorem nilRow_cells (e : TypeId) (z : AV) : (nilRow P e z).cells.length = z.cells.length ∧ (oneAll z → oneAll (nilRow P e z)):=by
 unfold nilRow
 split
 ·split
  ·exact ⟨rfl,fun _ c hc=>by simp [AV.cells] at hc;subst hc;rfl⟩
  ·exact ⟨rfl,id⟩
 ·exact ⟨rfl,id⟩
theorem aMake_sound {T : TypeId} {n c : AV} {vn vc : Value} (hs : Sim E H ρ s.slot s.box a w) (hd : ∀ t,d = some t → t < E.n) (hn : Rep H ρ n vn) (hc : Rep H ρ c vc) (h : aMake P T n c s d K) :
 ∃ u w',(Instr.makeSlice T vn vc).run P w = .ok u w' ∧ Came E K a d u w':=by
 unfold aMake at h
 split at h
 ·rename_i e t m m' hT
  split at h
  ·rename_i z hz
   obtain ⟨⟨rfl,hok,hk0,hsto,hzl,hn0,hn62,h47,hf⟩,hK⟩:=h
   obtain ⟨i,zv,hi,hzv,hzr,hz1⟩:=zero_facts hz hsto
   rw [hn.v_inv,hc.v_inv]
   have hsize : i.size = P.cellsOf e:=by simp [Program.cellsOf,hi]
   have hbytes : i.bytes = P.bytesOf e:=by simp [Program.bytesOf,hi]
   have hzc : zv.cells.size = P.cellsOf e:=by
    have:=(hzr H ρ).1
    rw [hzl,Array.length_toList] at this
    exact this.symm
   have hrun:=run_make (P:=P) w T e i zv hT hi hzv .i64 .i64 m m hn0 (Int.le_refl _) (by rw [hbytes,Int.mul_comm];omega) (by omega)
   have hmk : madeCells zv.cells (m.toNat * i.size) = Builtin.zeroCells zv.cells m.toNat:=by
    unfold madeCells Builtin.zeroCells
    rw [hsize,hzc]
   refine ⟨_,_,hrun,?_⟩
   rw [hmk]
   have hcell:=nilRow_cells (P:=P) e z
   refine Came.new (cap:=m.toNat) (c:=.arr e (P.cellsOf e) (List.replicate m.toNat (nilRow P e z))) hs hd rfl hf (Or.inl rfl) ?_ (Or.inr ⟨w.heap.size,_,_,rfl,heap_alloc_new w _,by unfold maxLen;omega,by simp,?_,?_,?_⟩) hK
   ·have:=Rep.own (H:=H) (ρ:=ρ.upd t (.at w.heap.size m.toNat)) (id:=t) (k:=P.cellsOf e) (off:=0) (n:=m.toNat) (c:=m.toNat) (Rho.upd_same _ _ _) (by omega) (by unfold maxLen;omega)
    simpa using this
   ·simp only [size_zeroCells,hzc]
   ·have : (Builtin.zeroCells zv.cells m.toNat).toList.take ((List.replicate m.toNat (nilRow P e z)).length * P.cellsOf e) = (Builtin.zeroCells zv.cells m.toNat).toList:=by
     rw [List.length_replicate]
     have : m.toNat * P.cellsOf e = (Builtin.zeroCells zv.cells m.toNat).toList.length:=by rw [Array.length_toList,size_zeroCells,hzc]
     rw [this,List.take_length]
    rw [this]
    exact zeroCells_rep (nilRow_rep (hzr H _)) m.toNat
   ·intro y hy
    rw [(List.mem_replicate.1 hy).2]
    exact ⟨hcell.1.trans hzl,hcell.2 hz1⟩
  ·exact h.elim
 ·exact h.elim
theorem run_cap_nil {T e ty : TypeId} {n c : Nat} (hT : P.underlying T = some (.slice e)) : (Builtin.cap_ #[T] ty #[.slice none n c]).run P w = .ok (.int .i64 c) w:=by
 simp [Builtin.cap_,run_underlying hT,goInt]
theorem run_slice_nil {T e : TypeId} {k : IntKind} (hT : P.underlying T = some (.slice e)) (hok : okT P e = true) : (Instr.sliceAt T (.slice none 0 0) none (some (.int k 0)) none).run P w = .ok (.slice none 0 0) w:=by
 obtain ⟨i,hi⟩:=info_of_okT hok
 simp [Instr.sliceAt,Instr.slice,run_underlying hT,Instr.sliceBounds,Instr.sliceBound,asIntOf,Go.sizeOf,typeInfo,hi]
end
end Go.Am
end
section
namespace Go.Am
open Go.RowKit
def posA (ks : List SK) (key : AV) : List (AV × AV) → Nat
 |[]=>0
 |(k,_) :: es=>if eqA ks key.cells k.cells = some true then 0 else posA ks key es + 1
def aMapEnt (P : Program) (T : TypeId) (m key : AV) (s : AState) (d : Option Tmp) (K : AState → Prop) : Prop :=
 match P.underlying T with
 |some (.map kt et)=>(match eqKinds P kt,zeroAV P et with
  |some ks,some z=>(key.isSt = aggB P kt ∧ key.sto = true ∧ (eqA ks key.cells key.cells).isSome = true) ∧ (match m with
   |.mp id=>(match s.box id with
    |some (.map es none)=>keysOK ks (aggB P kt) key es ∧ ∀ (bs : List Nat) (ck : Nat),
      K ((s.setBox id (.map (updA ks key ((findA ks key es).getD z) es) (some (bs,ck)))).put d (.tup [(findA ks key es).getD z,.v (.int .i64 (bs.getD (posA ks key es) 0))]))
    |_=>False)
   |_=>False)
  |_,_=>False)
 |_=>False
def aEntSt (m st x : AV) (s : AState) (K : AState → Prop) : Prop :=
 match m with
 |.mp id=>(match s.box id with
  |some (.map es (some (bs,_)))=>∃ i,i < es.length ∧ st = .v (.int .i64 (bs.getD i 0)) ∧ K (s.setBox id (.map (es.set i ((es.getD i default).1,x)) none))
  |_=>False)
 |_=>False
theorem find_pos {H : Heap} {ρ : Rho} {P : Program} {ks : List SK} {T : TypeId} {key : AV} {kx : List Value} (hkey : RepL H ρ key.cells kx) : ∀ (es : List (AV × AV)) (ents : List MapEntry) (i : Nat),RepL H ρ (es.map (·.1)) (ents.map (·.key)) → RepL H ρ (es.map (·.2)) (ents.map (·.val)) →
 keysOK ks (aggB P T) key es → (findV ks kx P T ents i = none → posA ks key es = es.length) ∧ ∀ j v,findV ks kx P T ents i = some (j,v) → j = i + posA ks key es
 |[],ents,i,hk,_,_=>by
  have : ents = []:=by simpa using hk.nil_inv
  subst this
  exact ⟨fun _=>rfl,fun j v h=>by simp [findV] at h⟩
 |(k,v) :: es,[],i,hk,_,_=>by have:=hk.1;simp at this
 |(k,v) :: es,e :: ents,i,hk,hv,hok=>by
  obtain ⟨⟨hsome,hst,hsto⟩,hrest⟩:=hok
  obtain ⟨ek,ks',hek,hk1,hk2⟩:=hk.cons_inv
  obtain ⟨ev,vs',hev,hv1,hv2⟩:=hv.cons_inv
  simp only [List.map_cons,List.cons.injEq] at hek hev
  obtain ⟨rfl,rfl⟩:=hek
  obtain ⟨rfl,rfl⟩:=hev
  obtain ⟨r,hr⟩:=Option.isSome_iff_exists.1 hsome
  obtain ⟨hval,hcl⟩:=valOf_cells (P:=P) (T:=T) hk1 hst hsto
  have he:=eqA_rep hkey hcl hr
  have ih:=find_pos (T:=T) hkey es ents (i + 1) hk2 hv2 hrest
  simp only [posA,findV,hr,he]
  cases r
  ·refine ⟨fun h=>?_,fun j v h=>?_⟩
   ·have:=ih.1 (by simpa using h)
    simp [this]
   ·have:=ih.2 j v (by simpa using h)
    simp
    omega
  ·refine ⟨fun h=>by simp at h,fun j v h=>?_⟩
   simp at h
   simp [h.1]
theorem findV_val {P : Program} {ks : List SK} {kx : List Value} {T : TypeId} : ∀ {es : List MapEntry} {i j : Nat} {v : Value},findV ks kx P T es i = some (j,v) → ∃ e,es[j - i]? = some e ∧ i ≤ j ∧ e.val = v
 |[],_,_,_,h=>by simp [findV] at h
 |e :: es,i,j,v,h=>by
  simp only [findV] at h
  split at h
  ·simp at h
   obtain ⟨rfl,rfl⟩:=h
   exact ⟨e,by simp,Nat.le_refl _,rfl⟩
  ·obtain ⟨e',h1,h2,h3⟩:=findV_val h
   refine ⟨e',?_,by omega,h3⟩
   rw [show j - i = (j - (i + 1)) + 1 by omega]
   simpa using h1
section
variable {P : Program} {H : Heap} {ρ : Rho} {a : Act} {w : World} {E : Env}
theorem aMapEnt_sound {T : TypeId} {m key : AV} {vm kv : Value} {s : AState} {d : Option Tmp} {K : AState → Prop} (hs : Sim E H ρ s.slot s.box a w) (hd : ∀ t,d = some t → t < E.n) (hm : Rep H ρ m vm) (hkv : Rep H ρ key kv) (h : aMapEnt P T m key s d K) :
 ∃ u w',(Instr.mapEntry T vm kv).run P w = .ok u w' ∧ Came E K a d u w':=by
 unfold aMapEnt at h
 split at h
 ·rename_i kt et hT
  split at h
  ·rename_i ks z hks hz
   obtain ⟨⟨hst,hsto,hself⟩,h⟩:=h
   obtain ⟨hval,hcl⟩:=valOf_cells (P:=P) (T:=kt) hkv hst hsto
   obtain ⟨zv,hzr,hzrep,_⟩:=run_zeroValue' hz w
   split at h
   ·rename_i id
    split at h
    ·rename_i es hbx
     obtain ⟨hkeys,hK⟩:=h
     cases hm with
     |mp hρ =>
      rename_i b cap
      obtain ⟨b',cap',ents,clock,hbd,hheap,hk1,hk2,hborn,hnd,_⟩:=hs.boxes.rep _ _ hbx
      obtain ⟨rfl,rfl⟩:=rho_at hρ hbd
      obtain ⟨hfit,hag⟩:=find_agree (P:=P) (T:=kt) hcl es ents.toList 0 hk1 hk2 hkeys
      have hpos:=find_pos (P:=P) (T:=kt) hcl es ents.toList 0 hk1 hk2 hkeys
      obtain ⟨rs,hrs⟩:=Option.isSome_iff_exists.1 hself
      have hck : (Instr.checkKey false 10000 kt kv).run P w = .ok () w:=by
       rw [hval];exact run_checkKey 12 kt ks hks 10000 (by omega) false _ _ rs w (eqA_rep hcl hcl hrs)
      have hfk : (Instr.findKey kt kv ents.toList).run P w = .ok (findV ks kv.cells.toList P kt ents.toList 0) w:=by
       have:=run_findKey hks w hfit
       rw [← hval] at this
       exact this
      have fin : ∀ (vv : Value) (val : AV) (ents' : Array MapEntry) (clock' : Nat),Rep H ρ val vv → ents'.toList = updV ks kv.cells.toList kv vv clock ents.toList → (∀ e ∈ ents'.toList,e.born < clock') → (ents'.toList.map (·.born)).Nodup →
       Sim E H ρ (s.setBox id (.map (updA ks key val es) (some (ents'.toList.map (·.born),clock')))).slot (s.setBox id (.map (updA ks key val es) (some (ents'.toList.map (·.born),clock')))).box a { w with heap:=w.heap.setIfInBounds b (.map ents' clock') }:=by
       intro vv val ents' clock' hvv he h1 h2
       have hup:=upd_agree (P:=P) (T:=kt) (clock:=clock) hkv hvv hcl es ents.toList hk1 hk2 hkeys
       rw [AState.box_setBox,AState.slot_setBox]
       have hlt : b < w.heap.size:=(Array.getElem?_eq_some_iff.1 hheap).1
       refine hs.write hbx hρ rfl rfl ⟨rfl,Nat.le_refl _⟩ (by simp) (fun k hk=>by simp [Array.getElem?_setIfInBounds_ne (Ne.symm hk)]) ⟨b,cap,ents',clock',rfl,by simp [hlt],?_,?_,h1,h2,fun _ _ e=>by cases e;exact ⟨rfl,rfl⟩⟩
       ·rw [he];exact hup.1
       ·rw [he];exact hup.2
      have hlen : ents.toList.length = es.length:=by have:=hk1.1;simp at this ⊢;omega
      rcases hag with ⟨ha,hn⟩|⟨y,j,r,ha,hn,hyr⟩
      ·have hp:=hpos.1 hn
       rw [ha,hp] at hK
       simp only [Option.getD_none] at hK
       refine ⟨.tuple #[zv,goInt clock],_,?_,Came.put (fin zv z (ents.push { key:=kv,val:=zv,born:=clock }) (clock + 1) (hzrep H ρ) ?_ ?_ ?_) hd ?_ (hK _ _)⟩
       ·simp only [Instr.mapEntry,Sem.run_bind,run_underlying hT,Result.andThen_ok,run_getObj_map hheap,hck,hfk,hn,hzr,run_setObj_map hheap]
        rfl
       ·rw [updV_none hn];simp
       ·intro e he
        simp at he
        rcases he with he|rfl
        ·have:=hborn e (by simpa using he);omega
        ·exact Nat.lt_succ_self _
       ·simp only [Array.toList_push,List.map_append,List.map_cons,List.map_nil]
        rw [List.nodup_append]
        refine ⟨hnd,by simp,?_⟩
        intro x hx y hy
        obtain ⟨e,he,rfl⟩:=List.mem_map.1 hx
        simp at hy
        subst hy
        have:=hborn e he
        omega
       ·have e1 : (List.map (fun x=>x.born) (ents.push { key:=kv,val:=zv,born:=clock }).toList).getD es.length 0 = clock:=by
         rw [← hlen]
         simp [List.getD_eq_getElem?_getD]
        rw [e1]
        exact .tup (vs:=[zv,goInt clock]) rfl (RepL.cons (hzrep H ρ) (RepL.cons (.v rfl) RepL.nil)).2
      ·obtain ⟨_,e,he1,he2,he3⟩:=updV_some (key:=kv) (val:=r) (clock:=clock) hn
       obtain ⟨e0,he01,_,he0v⟩:=findV_val hn
       have hpj:=hpos.2 j r hn
       simp only [Nat.sub_zero] at he1 he3 he01
       simp only [Nat.zero_add] at hpj
       rw [he1] at he01
       injection he01 with he01
       subst he01
       subst he0v
       have hej : ents[j]? = some e:=by simpa using he1
       have hold:=(hfit e (List.mem_of_getElem? he1)).1
       have hkeep : (Instr.keyThatStays (((ents[j]?).map (·.key)).getD kv) kv).run P w = .ok kv w:=by
        rw [hej]
        simp only [Option.map_some,Option.getD_some]
        have:=run_keyThatStays (P:=P) hks he2 w
        rw [← hold,← hval] at this
        exact this
       have hmod : (ents.modify j fun e=>{ e with key:=kv }).toList = updV ks kv.cells.toList kv e.val clock ents.toList:=by
        rw [he3,Array.toList_modify]
        apply List.ext_getElem?
        intro i
        simp only [List.getElem?_modify,List.getElem?_set]
        by_cases hij : j = i
        ·subst hij
         have hlt : j < ents.toList.length:=(List.getElem?_eq_some_iff.1 he1).1
         rw [if_pos rfl,if_pos hlt,he1]
         simp
        ·rw [if_neg hij]
         simp [hij]
       have hbornmod : ((ents.modify j fun e=>{ e with key:=kv }).toList.map (·.born)) = ents.toList.map (·.born):=by
        rw [Array.toList_modify]
        apply List.ext_getElem?
        intro i
        simp only [List.getElem?_map,List.getElem?_modify]
        cases hi : ents.toList[i]? with
        |none=>simp
        |some e2=>simp;split <;> rfl
       rw [ha] at hK
       simp only [Option.getD_some] at hK
       refine ⟨.tuple #[e.val,goInt e.born],_,?_,Came.put (fin e.val y (ents.modify j fun e=>{ e with key:=kv }) clock hyr hmod ?_ ?_) hd ?_ (hK _ _)⟩
       ·simp only [Instr.mapEntry,Sem.run_bind,run_underlying hT,Result.andThen_ok,run_getObj_map hheap,hck,hfk,hn,hkeep,run_setObj_map hheap]
        rw [hej]
        rfl
       ·intro e2 he2'
        have : e2.born ∈ ((ents.modify j fun e=>{ e with key:=kv }).toList.map (·.born)):=List.mem_map.2 ⟨e2,he2',rfl⟩
        rw [hbornmod] at this
        obtain ⟨e3,he3',h3⟩:=List.mem_map.1 this
        rw [← h3]
        exact hborn e3 he3'
       ·rw [hbornmod];exact hnd
       ·rw [hbornmod,← hpj]
        have e1 : (List.map (fun x=>x.born) ents.toList).getD j 0 = e.born:=by
         simp [List.getD_eq_getElem?_getD,List.getElem?_map,hej]
        rw [e1]
        exact .tup (vs:=[e.val,goInt e.born]) rfl (RepL.cons hyr (RepL.cons (.v rfl) RepL.nil)).2
    ·exact h.elim
   ·exact h.elim
  ·exact h.elim
 ·exact h.elim
theorem findIdx_born {ents : Array MapEntry} (hnd : (ents.toList.map (·.born)).Nodup) {i : Nat} {e : MapEntry} (h : ents[i]? = some e) : ents.findIdx? (fun x=>((x.born : Int) == (e.born : Int))) = some i:=by
 rw [Array.findIdx?_eq_some_iff_getElem]
 obtain ⟨hi,rfl⟩:=Array.getElem?_eq_some_iff.1 h
 refine ⟨hi,by simp,fun j hj=>?_⟩
 have:=List.pairwise_iff_getElem.1 hnd j i (by simp;omega) (by simpa using hi) hj
 simp at this ⊢
 omega
theorem aEntSt_sound {T : TypeId} {m st x : AV} {vm sv xv : Value} {s : AState} {K : AState → Prop} (hs : Sim E H ρ s.slot s.box a w) (hm : Rep H ρ m vm) (hst : Rep H ρ st sv) (hxv : Rep H ρ x xv) (h : aEntSt m st x s K) :
 ∃ w' s',K s' ∧ Sim E H ρ s'.slot s'.box a w' ∧ (Instr.entryStore T vm sv xv).run P w = .ok () w':=by
 unfold aEntSt at h
 split at h
 ·rename_i id
  split at h
  ·rename_i es bs ck hbx
   obtain ⟨i,hi,rfl,hK⟩:=h
   cases hm with
   |mp hρ =>
    rename_i b cap
    obtain ⟨b',cap',ents,clock,hbd,hheap,hk1,hk2,hborn,hnd,hbs⟩:=hs.boxes.rep _ _ hbx
    obtain ⟨rfl,rfl⟩:=rho_at hρ hbd
    obtain ⟨hbs, -⟩:=hbs bs ck rfl
    have hlen : ents.toList.length = es.length:=by have:=hk1.1;simp at this ⊢;omega
    have hil : i < ents.toList.length:=by omega
    obtain ⟨e,he⟩ : ∃ e,ents[i]? = some e:=⟨ents[i]'(by simpa using hil),Array.getElem?_eq_getElem (by simpa using hil)⟩
    have e1 : bs.getD i 0 = e.born:=by
     rw [← hbs]
     simp [List.getD_eq_getElem?_getD,List.getElem?_map,he]
    have hsv:=hst.v_inv
    rw [e1] at hsv
    subst hsv
    have hlt : b < w.heap.size:=(Array.getElem?_eq_some_iff.1 hheap).1
    have hml : (ents.modify i fun e=>{ e with val:=xv }).toList = ents.toList.set i { e with val:=xv }:=by
     rw [Array.toList_modify]
     apply List.ext_getElem?
     intro j
     simp only [List.getElem?_modify,List.getElem?_set]
     by_cases hij : i = j
     ·subst hij
      rw [if_pos rfl,if_pos hil]
      simp [he]
     ·rw [if_neg hij]
      simp [hij]
    have hbm : (ents.modify i fun e=>{ e with val:=xv }).toList.map (·.born) = ents.toList.map (·.born):=by
     rw [Array.toList_modify]
     apply List.ext_getElem?
     intro j
     simp only [List.getElem?_map,List.getElem?_modify]
     cases hj : ents.toList[j]? with
     |none=>simp
     |some e2=>simp;split <;> rfl
    refine ⟨{ w with heap:=w.heap.setIfInBounds b (.map (ents.modify i fun e=>{ e with val:=xv }) clock) },_,hK,?_,?_⟩
    ·rw [AState.box_setBox,AState.slot_setBox]
     refine hs.write hbx hρ rfl rfl ⟨rfl,Nat.le_refl _⟩ (by simp) (fun k hk=>by simp [Array.getElem?_setIfInBounds_ne (Ne.symm hk)]) ⟨b,cap,ents.modify i fun e=>{ e with val:=xv },clock,rfl,by simp [hlt],?_,?_,?_,?_,fun _ _ e=>by cases e⟩
     ·have hk : (es.set i ((es.getD i default).1,x)).map (·.1) = es.map (·.1):=by
       apply List.ext_getElem?
       intro j
       simp only [List.getElem?_map,List.getElem?_set]
       by_cases hij : i = j
       ·subst hij
        rw [if_pos rfl,if_pos hi]
        simp [List.getD_eq_getElem?_getD,List.getElem?_eq_getElem hi]
       ·rw [if_neg hij]
      have hk' : (ents.modify i fun e=>{ e with val:=xv }).toList.map (·.key) = ents.toList.map (·.key):=by
       rw [hml]
       apply List.ext_getElem?
       intro j
       simp only [List.getElem?_map,List.getElem?_set]
       by_cases hij : i = j
       ·subst hij
        rw [if_pos rfl,if_pos hil]
        simp [he]
       ·rw [if_neg hij]
      rw [hk,hk']
      exact hk1
     ·rw [hml]
      refine ⟨by have:=hk2.1;simpa using this,fun j c v hc hv=>?_⟩
      simp only [List.getElem?_map,List.getElem?_set] at hc hv
      by_cases hij : i = j
      ·subst hij
       rw [if_pos rfl,if_pos hi] at hc
       rw [if_pos rfl,if_pos hil] at hv
       simp at hc hv
       rw [← hc,← hv]
       exact hxv
      ·rw [if_neg hij] at hc hv
       exact hk2.2 j c v (by simpa [List.getElem?_map] using hc) (by simpa [List.getElem?_map] using hv)
     ·intro e2 he2
      have : e2.born ∈ ((ents.modify i fun e=>{ e with val:=xv }).toList.map (·.born)):=List.mem_map.2 ⟨e2,he2,rfl⟩
      rw [hbm] at this
      obtain ⟨e3,he3,h3⟩:=List.mem_map.1 this
      rw [← h3]
      exact hborn e3 he3
     ·rw [hbm];exact hnd
    ·have h1 : (asInt (.int .i64 (e.born : Int))).run P w = .ok (e.born : Int) w:=rfl
     have h2:=findIdx_born hnd he
     simp only [Instr.entryStore,Sem.run_bind,run_getObj_map hheap,Result.andThen_ok,h1,h2,run_setObj_map hheap]
  ·exact h.elim
 ·exact h.elim
end
end Go.Am
end
section
namespace Go.Am
open Go.RowKit
def aConvS (P : Program) (S T : TypeId) (b : ByteArray) (s : AState) (d : Option Tmp) (K : AState → Prop) : Prop:=match P.underlying T with
 |some (.slice e)=>((P.underlying S).isSome = true ∧ P.underlying e = some (.int .u8) ∧ b.size ≤ 1000000) ∧ K (s.put d (.sl 1 (b.data.toList.map byteA)))
 |_=>False
def rowCells : Ct → Option (List AV)
 |.arr _ 1 xs=>some xs
 |.box _ y=>some y.cells
 |_=>none
def aConvB (P : Program) (S T : TypeId) (id off n : Nat) (s : AState) (d : Option Tmp) (K : AState → Prop) : Prop:=match P.underlying S with
 |some (.slice e)=>(P.underlying e = some (.int .u8) ∧ P.underlying T = some .string) ∧ (match (s.box id).bind rowCells with
  |some xs=>∃ l : List UInt8,((xs.drop off).take n = l.map byteA ∧ l.length = n) ∧ K (s.put d (.v (.string ⟨l.toArray⟩)))
  |none=>False)
 |_=>False
def aConvL (P : Program) (S T : TypeId) (xs : List AV) (s : AState) (d : Option Tmp) (K : AState → Prop) : Prop:=match P.underlying S with
 |some (.slice e)=>(P.underlying e = some (.int .u8) ∧ P.underlying T = some .string) ∧ ∃ l : List UInt8,xs = l.map byteA ∧ K (s.put d (.v (.string ⟨l.toArray⟩)))
 |_=>False
def aIfcEq (P : Program) (op : BinOp) (T t t' : TypeId) (k k' : IntKind) (a b : Int) (s : AState) (d : Option Tmp) (K : AState → Prop) : Prop:=match P.underlying T,P.underlying t with
 |some (.interface _),some (.int _)=>(t = t' ∧ k = k' ∧ (P.info? t).map (·.comparable) = some true) ∧ (match op with
  |.eql=>K (s.put d (.v (.bool (a == b))))
  |.neq=>K (s.put d (.v (.bool (!(a == b)))))
  |_=>False)
 |_,_=>False
section
variable {P : Program} {E : Env}
theorem aConvS_sound {H : Heap} {ρ : Rho} {a : Act} {w : World} {s : AState} {K : AState → Prop} {d : Option Tmp} {S T : TypeId} {b : ByteArray} (hs : Sim E H ρ s.slot s.box a w) (hd : ∀ t,d = some t → t < E.n) (h : aConvS P S T b s d K) :
 ∃ u w',(convert S T (.string b)).run P w = .ok u w' ∧ Came E K a d u w':=by
 unfold aConvS at h
 split at h
 ·rename_i e hT
  obtain ⟨⟨hS,he,hb⟩,hK⟩:=h
  obtain ⟨us,hS⟩:=Option.isSome_iff_exists.1 hS
  refine ⟨_,_,Go.Lib.run_convert_string_bytes w S T e b hS hT he,?_⟩
  have hlen : (b.data.toList.map byteA).length = b.size:=by rw [List.length_map,Array.length_toList];rfl
  have hbel : Bel w.heap.size w (Go.Lib.bytesWorld w e b):=by
   refine ⟨⟨?_,?_,?_,by rw [Go.Lib.bytesWorld_size];omega,fun k hk=>Go.Lib.bytesWorld_at_old w e b k hk⟩,?_⟩
   all_goals simp [Go.Lib.bytesWorld,World.freeze,World.alloc,World.drew, -World.alloc_eq, -World.drew_eq]
  let H' : Heap:=fun bl o=>if bl = w.heap.size then (Go.Lib.bytesWorld w e b).cell? ⟨bl,o,none⟩ else H bl o
  have hold : ∀ bl o u,H bl o = some u → bl < w.heap.size:=by
   intro bl o u hu
   have:=hs.ext bl o u hu
   rcases Nat.lt_or_ge bl w.heap.size with h|h
   ·exact h
   ·unfold World.cell? at this
    simp only at this
    rw [Array.getElem?_eq_none (by simpa using h)] at this
    simp at this
  have hle : H.le H':=by
   intro bl o u hu
   have:=hold _ _ _ hu
   simp only [H']
   rw [if_neg (by omega)]
   exact hu
  have hext : Ext H' (Go.Lib.bytesWorld w e b):=by
   intro bl o u hu
   simp only [H'] at hu
   split at hu
   ·exact hu
   ·exact (Go.Lib.bytesWorld_old w e b ⟨bl,o,none⟩ (hold _ _ _ hu)).trans (hs.ext _ _ _ hu)
  have hrep : Rep H' ρ (.sl 1 (b.data.toList.map byteA)) (.slice (some ⟨w.heap.size,0,none⟩) b.size (grownCap w b.size 0 e)):=by
   have key:=Rep.sl (H:=H') (ρ:=ρ) (k:=1) (xs:=b.data.toList.map byteA) (blk:=w.heap.size) (off:=0) (cap:=grownCap w b.size 0 e) (fun i _=>.int .u8 ((b.data.toList.getD i 0).toNat : Int))
    (by rw [hlen];exact grownCap_ge w _ _ _) (grownCap_le_maxLen w _ _ _ (by unfold maxLen;omega)) (by intro x hx;simp at hx;obtain ⟨y,_,rfl⟩:=hx;rfl) (by intro x hx c hc;simp at hx;obtain ⟨y,_,rfl⟩:=hx;simp [byteA,AV.cells] at hc;subst hc;rfl)
    (by
      intro i j x c hx hc
      have hi : i < b.size:=by
       have:=(List.getElem?_eq_some_iff.1 hx).1
       rw [hlen] at this
       exact this
      rw [List.getElem?_map,Option.map_eq_some_iff] at hx
      obtain ⟨y,_,rfl⟩:=hx
      have hj : j = 0:=by
       rcases j with _|j
       ·rfl
       ·simp [byteA,AV.cells] at hc
      subst hj
      simp only [H']
      rw [if_pos trivial,show 0 + i * 1 + 0 = i by omega]
      exact Go.Lib.bytesWorld_cell w e b i hi)
    (by
      intro i j x c hx hc
      rw [List.getElem?_map,Option.map_eq_some_iff] at hx
      obtain ⟨y,hy,rfl⟩:=hx
      have hj : j = 0:=by
       rcases j with _|j
       ·rfl
       ·simp [byteA,AV.cells] at hc
      subst hj
      simp [byteA,AV.cells] at hc
      subst hc
      have : b.data.toList.getD i 0 = y:=by rw [List.getD_eq_getElem?_getD,hy];rfl
      rw [this]
      exact .v rfl)
   rw [hlen] at key
   exact key
  obtain ⟨x,n,H2,ρ2,⟨rfl,rfl⟩,hs'⟩:=hs.quiet (o:={ (default : Oper) with dst:=d }) (k:=fun x n=>x = .sl 1 (b.data.toList.map byteA) ∧ n = none) hd (by rintro x c ⟨_,h⟩;cases h)
   ⟨_,none,H',ρ,_,⟨rfl,rfl⟩,rfl,hle,(by
     intro bl o u hu h0
     simp only [H'] at hu
     split at hu
     ·omega
     ·rw [h0] at hu;cases hu),hext,hrep,hbel,rfl⟩
  refine ⟨_,H2,ρ2,hK,?_⟩
  rw [AState.slot_put,AState.box_put]
  have : addF s.box d none = s.box:=by cases d <;> rfl
  rw [this] at hs'
  exact hs'
 ·exact h.elim
theorem foldl_bytes : ∀ (l : List UInt8) (r : ByteArray),(l.map fun b : UInt8=>(b.toNat : Int)).foldl (fun r n=>r.push (UInt8.ofNat n.toNat)) r = ⟨r.data ++ l.toArray⟩
 |[],r=>by simp
 |b :: l,r=>by
  rw [List.map_cons,List.foldl_cons,foldl_bytes l]
  have : UInt8.ofNat ((b.toNat : Int)).toNat = b:=by simp
  rw [this]
  simp [ByteArray.push]
theorem conv_cells {w : World} {S T e : TypeId} {l : List UInt8} {a : Addr} {c : Nat} (hS : P.underlying S = some (.slice e)) (he : P.underlying e = some (.int .u8)) (hT : P.underlying T = some .string) (h : ∀ j (b : UInt8),l[j]? = some b → w.cell? (a.add j) = some (.int .u8 b.toNat)) :
 (convert S T (.slice (some a) l.length c)).run P w = .ok (.string ⟨l.toArray⟩) w:=by
 have h1:=run_loadCells_list (P:=P) (w:=w) a (l.map fun b=>Value.int .u8 b.toNat) (by
  intro j v hj
  rw [List.getElem?_map,Option.map_eq_some_iff] at hj
  obtain ⟨b,hb,rfl⟩:=hj
  exact h j b hb)
 rw [List.length_map] at h1
 have h2:=run_bytesToString w a l.length c (l.map fun b : UInt8=>(b.toNat : Int)) (by rw [h1,List.map_map];rfl)
 rw [run_convert_bytes_string w S T e _ _ _ hS he hT,h2,foldl_bytes]
 simp [ByteArray.empty,ByteArray.emptyWithCapacity]
 rfl
theorem flat_one : ∀ {xs : List AV} {i : Nat},(∀ x ∈ xs,x.cells.length = 1) → ∀ {b : UInt8},xs[i]? = some (byteA b) → (xs.flatMap AV.cells)[i]? = some (byteA b)
 |[],i,_,b,h=>by simp at h
 |x :: xs,0,h1,b,h=>by
  simp at h
  subst h
  simp [byteA,AV.cells]
 |x :: xs,i + 1,h1,b,h=>by
  have hx:=h1 x List.mem_cons_self
  have:=flat_one (xs:=xs) (i:=i) (fun y hy=>h1 y (List.mem_cons_of_mem _ hy)) (b:=b) (by simpa using h)
  rw [List.flatMap_cons,List.getElem?_append_right (by omega),hx]
  simpa using this
theorem aConvB_sound {H : Heap} {ρ : Rho} {a : Act} {w : World} {s : AState} {K : AState → Prop} {d : Option Tmp} {S T : TypeId} {id off n : Nat} {v : Value} (hs : Sim E H ρ s.slot s.box a w) (hd : ∀ t,d = some t → t < E.n) (hv : Rep H ρ (.own id 1 off n) v) (h : aConvB P S T id off n s d K) :
 ∃ u w',(convert S T v).run P w = .ok u w' ∧ Came E K a d u w':=by
 unfold aConvB at h
 split at h
 ·rename_i e hS
  obtain ⟨⟨he,hT⟩,h⟩:=h
  split at h
  ·rename_i xs hxs
   obtain ⟨l,⟨hl,hln⟩,hK⟩:=h
   cases hbx : s.box id with
   |none=>rw [hbx] at hxs;cases hxs
   |some c =>
    rw [hbx] at hxs
    simp only [Option.bind_some] at hxs
    have hr:=hs.boxes.rep _ _ hbx
    have hget : ∀ j b,l[j]? = some b → xs[off + j]? = some (byteA b):=by
     intro j b hj
     have h1 : ((xs.drop off).take n)[j]? = some (byteA b):=by rw [hl,List.getElem?_map,hj];rfl
     rw [List.getElem?_take] at h1
     split at h1
     ·rwa [List.getElem?_drop] at h1
     ·cases h1
    cases hv with
    |ownNil hρ =>
     have : l = []:=by simpa using hln
     subst this
     refine ⟨_,_,by rw [run_convert_bytes_string w S T e _ _ _ hS he hT];rfl,?_⟩
     exact Came.put hs hd (.v rfl) hK
    |own hρ hn hmax =>
     rename_i cc b cap
     subst hln
     have key : ∀ j bb,l[j]? = some bb → w.cell? ((⟨b,off * 1,none⟩ : Addr).add j) = some (.int .u8 bb.toNat):=by
      intro j bb hj
      have hx:=hget j bb hj
      rw [Addr.add_mk,Nat.mul_one]
      cases c with
      |arr T' k ys =>
       have hk : k = 1 ∧ ys = xs:=by
        rcases k with _|_|k
        ·cases hxs
        ·exact ⟨rfl,Option.some.inj hxs⟩
        ·cases hxs
       obtain ⟨rfl,rfl⟩:=hk
       rcases hr with ⟨hnil,hys⟩|⟨b',cap',cur,hbd,hheap,hmax',hcap,hsz,hrep,hall⟩
       ·rw [hnil] at hρ;cases hρ
       ·obtain ⟨rfl,rfl⟩:=rho_at hρ hbd
        obtain ⟨u,hu,hru⟩:=hrep.get (flat_one (fun x hx=>(hall x hx).1) hx)
        rw [List.getElem?_take] at hu
        split at hu
        ·rw [Array.getElem?_toList] at hu
         rw [cell_of_row w b _ _ _ _ hheap,hu,hru.v_inv]
        ·cases hu
      |box T' y =>
       have hk : y.cells = xs:=Option.some.inj hxs
       subst hk
       obtain ⟨b',cap',vs,hbd,hheap,hrep,hone,hcap⟩:=hr
       obtain ⟨rfl,rfl⟩:=rho_at hρ hbd
       obtain ⟨u,hu,hru⟩:=hrep.get hx
       rw [cell_of_row w b _ _ _ _ hheap]
       simp [hu,hru.v_inv]
      |_=>simp [rowCells] at hxs
     exact ⟨_,_,conv_cells hS he hT key,Came.put hs hd (.v rfl) hK⟩
  ·exact h.elim
 ·exact h.elim
theorem aConvL_sound {H : Heap} {ρ : Rho} {a : Act} {w : World} {s : AState} {K : AState → Prop} {d : Option Tmp} {S T : TypeId} {xs : List AV} {v : Value} (hs : Sim E H ρ s.slot s.box a w) (hd : ∀ t,d = some t → t < E.n) (hv : Rep H ρ (.sl 1 xs) v) (h : aConvL P S T xs s d K) :
 ∃ u w',(convert S T v).run P w = .ok u w' ∧ Came E K a d u w':=by
 unfold aConvL at h
 split at h
 ·rename_i e hS
  obtain ⟨⟨he,hT⟩,l,rfl,hK⟩:=h
  generalize hxs : l.map byteA = xs at hv
  cases hv with
  |slNil =>
   rename_i aa cap
   have : l = []:=by simpa using hxs
   subst this
   cases aa with
   |none =>
    refine ⟨_,_,by rw [run_convert_bytes_string w S T e _ _ _ hS he hT];rfl,?_⟩
    exact Came.put hs hd (.v rfl) hK
   |some aa=>exact ⟨_,_,conv_cells (l:=[]) hS he hT (by intro j b h;simp at h),Came.put hs hd (.v rfl) hK⟩
  |sl cell hcap hmax hk h1 hH hrep =>
   rename_i blk off cap
   have hlen : xs.length = l.length:=by rw [← hxs];simp
   rw [hlen]
   refine ⟨_,_,conv_cells hS he hT ?_,Came.put hs hd (.v rfl) hK⟩
   intro j bb hj
   have hx : xs[j]? = some (byteA bb):=by rw [← hxs,List.getElem?_map,hj];rfl
   have e1:=hs.ext _ _ _ (hH j 0 _ _ hx rfl)
   have e2:=(hrep j 0 _ _ hx rfl).v_inv
   rw [e2] at e1
   rw [Addr.add_mk]
   simpa using e1
 ·exact h.elim
theorem ifc_val {H : Heap} {ρ : Rho} {t : TypeId} {y v : Value} (h : Rep H ρ (.ifc t (.v y)) v) : v = .iface t y:=by
 cases h with
 |ifc h=>rw [h.v_inv]
theorem run_neq_iface_int {P : Program} (w : World) {t tx : TypeId} {ms : Array (String × TypeId)} {k q : IntKind} (a b : Int)
 (ht : P.underlying t = some (.interface ms)) (hc : (P.info? tx).map (·.comparable) = some true) (hx : P.underlying tx = some (.int q)) :
 (binOp .neq t (.iface tx (.int k a)) (.iface tx (.int k b))).run P w = .ok (.bool (!(a == b))) w:=by
 cases hi : P.info? tx with
 |none=>simp [hi] at hc
 |some i =>
  have hcc : i.comparable = true:=by simpa [hi] using hc
  have h : ∀ d : Nat,(Op.equalIn (d + 2) t (.iface tx (.int k a)) (.iface tx (.int k b))).run P w = .ok (a == b) w:=fun d=>by
   simp [Op.equalIn,run_underlying ht,run_underlying hx,typeInfo,hi,hcc]
  simp only [binOp]
  simp [Op.equal,Op.maxDepth,h 9998]
theorem aIfcEq_sound {H : Heap} {ρ : Rho} {a : Act} {w : World} {s : AState} {K : AState → Prop} {d : Option Tmp} {op : BinOp} {T t t' : TypeId} {k k' : IntKind} {x y : Int} {ox oy : Operand} (hs : Sim E H ρ s.slot s.box a w) (hd : ∀ t,d = some t → t < E.n) (h : aIfcEq P op T t t' k k' x y s d K) :
 ∃ u,(eqGuard op T ox oy (.iface t (.int k x)) (.iface t' (.int k' y))).run P w = .ok () w ∧ (binOp op T (.iface t (.int k x)) (.iface t' (.int k' y))).run P w = .ok u w ∧ Came E K a d u w:=by
 unfold aIfcEq at h
 split at h
 ·rename_i ms q hT ht
  obtain ⟨⟨rfl,rfl,hc⟩,h⟩:=h
  have hg:=run_eqGuard_other (P:=P) (w:=w) (op:=op) (T:=T) (x:=ox) (y:=oy) (a:=.iface t (.int k x)) (b:=.iface t (.int k y)) (.inl (by simp)) (.inl (by intro xs;simp))
  split at h
  ·exact ⟨_,hg,Go.Lib.run_eql_iface_int w x y hT hc ht,Came.put hs hd (.v rfl) h⟩
  ·exact ⟨_,hg,run_neq_iface_int w x y hT hc ht,Came.put hs hd (.v rfl) h⟩
  ·exact h.elim
 ·exact h.elim
end
end Go.Am
end
section
namespace Go.Am
open Go.RowKit
def AState.fresh (s : AState) (d : Option Tmp) : Prop:=match d with
 |some d=>s.ment d = false
 |none=>True
def qstep (P : Program) (o : Oper) (s : AState) (K : AState → Prop) : Prop :=
 (newOp o.op = true → s.fresh o.dst) ∧ qop P o s.eval s.box (fun x n=>K ((s.put o.dst x).addBox o.dst n))
def aCall (P : Program) (E : Env) (f : AV) (args : List AV) (s : AState) (d : Option Tmp) (K : AState → Prop) : Prop :=
 match f with
 |.fn (.func g) first caps=>ACall P E g (first ++ args ++ caps) s d K
 |_=>False
def stepBin (P : Program) (o : Oper) (op : BinOp) (T : TypeId) (x y : AV) (s : AState) (K : AState → Prop) : Prop :=
 match x,y with
 |.sl _ xs,.v (.slice none _ _)=>aSlNil P op T (xs = []) s o.dst K
 |.own _ _ _ n,.v (.slice none _ _)=>aSlNil P op T (n = 0) s o.dst K
 |.ifc t (.v (.int k a)),.ifc t' (.v (.int k' b))=>aIfcEq P op T t t' k k' a b s o.dst K
 |_,_=>qstep P o s K
def stepConv (P : Program) (o : Oper) (S T : TypeId) (x : AV) (s : AState) (K : AState → Prop) : Prop :=
 match x,P.underlying T with
 |.v (.string b),some (.slice _)=>aConvS P S T b s o.dst K
 |.sl 1 xs,some .string=>aConvL P S T xs s o.dst K
 |.own id 1 off n,some .string=>aConvB P S T id off n s o.dst K
 |_,_=>qstep P o s K
def stepNeg (P : Program) (o : Oper) (op : UnOp) (x : AV) (s : AState) (K : AState → Prop) : Prop :=
 match op,x with
 |.neg,.v (.int .i64 n)=>(n = -9223372036854775808 → K (s.put o.dst (.v (.int .i64 n)))) ∧ (n ≠ -9223372036854775808 → qstep P o s K)
 |.neg,.v (.int .u64 n)=>(0 ≤ n ∧ n < 18446744073709551616) ∧ K (s.put o.dst (.v (.int .u64 ((18446744073709551616 - n) % 18446744073709551616))))
 |_,_=>qstep P o s K
def stepSlice (P : Program) (o : Oper) (T : TypeId) (x : AV) (lo hi : Option AV) (s : AState) (K : AState → Prop) : Prop :=
 match x,lo,hi with
 |.v (.slice none 0 0),none,some (.v (.int _ 0))=>(∃ e,P.underlying T = some (.slice e) ∧ okT P e = true) ∧ K (s.put o.dst (.v (.slice none 0 0)))
 |_,_,_=>qstep P o s K
def stepSlice3 (P : Program) (T : TypeId) (x lo hi mx : AV) (s : AState) (d : Option Tmp) (K : AState → Prop) : Prop :=
 match P.underlying T,x,lo,hi,mx with
 |some (.slice e),.v (.slice (some ⟨b,o,none⟩) _ c),.v (.int _ l),.v (.int _ h),.v (.int _ m)=>(okT P e = true ∧ 0 ≤ l ∧ l ≤ h ∧ h ≤ m ∧ m ≤ c ∧ l < m) ∧ K (s.put d (.v (.slice (some ⟨b,o + l.toNat * P.cellsOf e,none⟩) (h - l).toNat (m - l).toNat)))
 |some (.slice e),.sl k xs,.v (.int _ l),.v (.int _ h),.v (.int _ m)=>(okT P e = true ∧ P.cellsOf e = k ∧ 0 ≤ l ∧ l < h ∧ h ≤ m ∧ m ≤ xs.length) ∧ K (s.put d (.sl k ((xs.take h.toNat).drop l.toNat)))
 |_,_,_,_,_=>False
def stepCap (P : Program) (T : TypeId) (x : AV) (s : AState) (d : Option Tmp) (K : AState → Prop) : Prop :=
 match x with
 |.v (.slice none _ c)=>(∃ e,P.underlying T = some (.slice e)) ∧ K (s.put d (.v (.int .i64 c)))
 |_=>False
def aAppendO (P : Program) (T T' : TypeId) (v x : AV) (s : AState) (d : Option Tmp) (K : AState → Prop) : Prop:=match P.underlying T' with
 |some .string=>aAppendS P T T' v x (s.forget v) d K
 |_=>aAppendN P T T' v x s d K
def killI (id : Nat) : List (Nat × Ct) → List (Nat × Ct)
 |[]=>[]
 |(i,c) :: l=>if i = id then killI id l else (i,c) :: killI id l
theorem killI_lk {id : Nat} : ∀ {l : List (Nat × Ct)} {i : Nat} {c : Ct},lk (killI id l) i = some c → i ≠ id ∧ lk l i = some c
 |[],_,_,h=>by simp [killI,lk] at h
 |(j,e) :: l,i,c,h=>by
  simp only [killI] at h
  split at h
  ·rename_i hj
   obtain ⟨h1,h2⟩:=killI_lk h
   refine ⟨h1,?_⟩
   simp only [lk]
   rw [if_neg (fun e=>h1 (e.symm.trans hj))]
   exact h2
  ·rename_i hj
   simp only [lk] at h ⊢
   split at h
   ·rename_i hji
    rw [if_pos hji]
    exact ⟨fun e=>hj (hji.trans e),h⟩
   ·rename_i hji
    rw [if_neg hji]
    exact killI_lk h
def aUStr (P : Program) (pt : TypeId) (p n : AV) (s : AState) (d : Option Tmp) (K : AState → Prop) : Prop:=match p,n with
 |.eloc id k i off,.v (.int .i64 m)=>(match s.box id with
  |some (.arr T k' xs)=>((k = 1 ∧ k' = 1 ∧ i = 0 ∧ off = 0) ∧ P.underlying pt = some (.pointer T) ∧ P.cellsOf T = 1 ∧ 0 < m ∧ m ≤ xs.length) ∧ ∃ l : List UInt8,xs.take m.toNat = l.map byteA ∧ K ((AState.mk s.s (killI id s.b)).put d (.v (.string ⟨l.toArray⟩)))
  |_=>False)
 |_,_=>False
def stepCall (P : Program) (E : Env) (o : Oper) (c : Call) (s : AState) (K : AState → Prop) : Prop :=
 match c.callee with
 |.builtin .append=>(match c.args.toList,c.argTypes.toList with
  |[v,x],[T,T']=>if T = T' then aAppend P T (s.eval v) (s.eval x) (s.forget (s.eval v)) o.dst K else aAppendO P T T' (s.eval v) (s.eval x) s o.dst K
  |_,_=>False)
 |.builtin .clear=>(match c.args.toList,c.argTypes.toList with
  |[x],[T]=>aClear P T (s.eval x) s (fun s'=>K (s'.put o.dst (.tup [])))
  |_,_=>False)
 |.builtin .cap=>(match c.args.toList,c.argTypes.toList with
  |[x],[T]=>stepCap P T (s.eval x) s o.dst K
  |_,_=>False)
 |.builtin .unsafeString=>(match c.args.toList,c.argTypes.toList with
  |[p,n],[pt,_]=>aUStr P pt (s.eval p) (s.eval n) s o.dst K
  |_,_=>False)
 |.value f=>aCall P E (s.eval f) (c.args.toList.map s.eval) s o.dst K
 |.invoke r m=>(match s.eval r with
  |.ifc t x=>(match methOf P t m with
   |some f=>ACall P E f (x :: c.args.toList.map s.eval) s o.dst K
   |none=>False)
  |_=>False)
 |_=>qstep P o s K
def stepOp (P : Program) (E : Env) (o : Oper) (s : AState) (K : AState → Prop) : Prop :=
 match o.op with
 |.store T p x=>aStore P T (s.eval p) (s.eval x) s (fun s'=>K (s'.put o.dst (.tup [])))
 |.mapUpdate T m k x=>aMapUpd P T (s.eval m) (s.eval k) (s.eval x) s (fun s'=>K (s'.put o.dst (.tup [])))
 |.insert T m k x=>aMapUpd P T (s.eval m) (s.eval k) (s.eval x) s (fun s'=>K (s'.put o.dst (.tup [])))
 |.nilCheck x=>aThr P (s.eval x) = true ∧ K (s.put o.dst (s.eval x))
 |.range T x=>aRange P T (s.eval x) s o.dst K
 |.makeSlice T l c=>aMake P T (s.eval l) (s.eval c) s o.dst K
 |.next it str=>aNext (s.eval it) str s o.dst K
 |.entry it=>aEntry (s.eval it) s o.dst K
 |.mapEntry T m k=>aMapEnt P T (s.eval m) (s.eval k) s o.dst K
 |.entryStore _ m st x=>aEntSt (s.eval m) (s.eval st) (s.eval x) s (fun s'=>K (s'.put o.dst (.tup [])))
 |.binOp op T x y _=>stepBin P o op T (s.eval x) (s.eval y) s K
 |.slice T x lo hi none=>stepSlice P o T (s.eval x) (lo.map s.eval) (hi.map s.eval) s K
 |.slice T x (some lo) (some hi) (some mx)=>stepSlice3 P T (s.eval x) (s.eval lo) (s.eval hi) (s.eval mx) s o.dst K
 |.convert S T x=>stepConv P o S T (s.eval x) s K
 |.unOp op _ x=>stepNeg P o op (s.eval x) s K
 |.call c=>stepCall P E o c s K
 |_=>qstep P o s K
structure AYield (P : Program) (E : Env) (l : Nat) (args : List AV) (s : AState) (d : Option Tmp) (K : AState → Prop) : Prop where
 run : ∀ H ρ a w vs,Sim E H ρ s.slot s.box a w → RepL H ρ args vs → (∀ t,d = some t → t < E.n) →
  ∃ fn tmps assign body,(Instr.yield l vs.toArray).run P w = .ok (.round l fn tmps assign body) w ∧
    RoundIn (fenceR none) 0 P l fn tmps assign body w fun e w'=>∃ v,e = .returned v ∧ ∃ s' H' ρ',K s' ∧ Sim E H' ρ' s'.slot s'.box (a.put d v) w'
def yieldOp (P : Program) (E : Env) (o : Oper) (s : AState) (K : AState → Prop) : Prop:=match o.op with
 |.call c=>(match c.callee with
  |.value f=>(match s.eval f with
   |.fn (.yield l) [] []=>AYield P E l (c.args.toList.map s.eval) s o.dst K
   |_=>False)
  |_=>False)
 |_=>False
def RK (P : Program) (E : Env) (ops : Array Oper) : List Oper → AState → (AState → Prop) → Prop
 |[],s,K=>K s
 |o :: rest,s,K=>match o.guard with
  |none=>stepOp P E o s (fun s'=>RK P E ops rest s' K)
  |some (j,want)=>match (ops[j]?).bind (·.dst) with
   |some t=>(match s.slot t with
    |.v (.bool b)=>(b = want → stepOp P E o (s.put (some t) (.v (.bool want))) (fun s'=>RK P E ops rest s' K)) ∧ (b = (!want) → RK P E ops rest ((s.put (some t) (.v (.bool (!want)))).put o.dst (.tup [])) K)
    |.tup []=>RK P E ops rest (s.put o.dst (.tup [])) K
    |_=>False)
   |none=>RK P E ops rest (s.put o.dst (.tup [])) K
section
variable {P : Program} {E : Env}
theorem fresh_all {s : AState} {t : Nat} (h : s.ment t = false) : (∀ i,(s.slot i).ment t = false) ∧ (∀ id c,s.box id = some c → c.ment t = false) :=
 ⟨fun _=>AState.ment_slot h,fun _ _ hc=>AState.ment_box h hc⟩
theorem qop_old {o : Oper} {av : Operand → AV} {bf : Nat → Option Ct} {k : AV → Option Ct → Prop} (hn : newOp o.op = false) (h : qop P o av bf k) : qop P o av bf (fun x n=>k x none ∧ n = none):=by
 unfold qop at h ⊢
 cases hop : o.op <;> rw [hop] at h hn <;> simp only [newOp,reduceCtorEq] at hn <;> simp only [and_true] at h ⊢ <;> first|exact h|skip
 case slice T x lo hi mx=>cases mx <;> exact h
 case call c =>
  unfold qcall at h ⊢
  split at h
  ·split at h
   ·simpa using h
   ·exact h.elim
  ·split at h
   ·simpa using h
   ·exact h.elim
  ·simpa using h
  ·simpa using h
  ·rename_i hc
   simp [hc] at hn
  ·rename_i hc
   simp [hc] at hn
  ·exact h.elim
theorem aUStr_sound {H : Heap} {ρ : Rho} {a : Act} {w : World} {s : AState} {K : AState → Prop} {d : Option Tmp} {pt nt ty : TypeId} {p n : AV} {vp vn : Value} (hs : Sim E H ρ s.slot s.box a w) (hd : ∀ t,d = some t → t < E.n) (hp : Rep H ρ p vp) (hn : Rep H ρ n vn) (h : aUStr P pt p n s d K) :
 ∃ u w',(Builtin.unsafeString_ #[pt,nt] ty #[vp,vn]).run P w = .ok u w' ∧ Came E K a d u w':=by
 unfold aUStr at h
 split at h
 ·rename_i id k i off m
  split at h
  ·rename_i T k' xs hbx
   obtain ⟨⟨⟨rfl,rfl,rfl,rfl⟩,hpt,hc1,hm0,hml⟩,l,hl,hK⟩:=h
   rw [hn.v_inv]
   cases hp with
   |eloc hρ =>
    rename_i b cap
    rcases hs.boxes.rep _ _ hbx with ⟨hnil,hxs⟩|⟨b',cap',cur,hbd,hheap,hmax,hcap,hsz,hrep,hall⟩
    ·rw [hnil] at hρ;cases hρ
    ·obtain ⟨rfl,rfl⟩:=rho_at hρ hbd
     have hll : l.length = m.toNat:=by have:=congrArg List.length hl;simp at this;omega
     have hmm : m = (l.length : Int):=by omega
     have hx1 : xs.flatMap AV.cells = xs.flatMap AV.cells:=rfl
     have hbytes : ∀ (j : Nat) (x : UInt8),l[j]? = some x → cur[j]? = some (Value.int .u8 x.toNat):=by
      intro j (x : UInt8) hx
      have h1 : xs[j]? = some (byteA x):=by
       have : (xs.take m.toNat)[j]? = some (byteA x):=by rw [hl,List.getElem?_map,hx];rfl
       rw [List.getElem?_take] at this
       split at this
       ·exact this
       ·cases this
      have hfl:=flat_get (fun x hx=>(hall x hx).1) h1
      have hg : (xs.flatMap AV.cells)[j]? = some (byteA x):=by
       have:=congrArg (fun (q : List AV)=>q[0]?) hfl
       simp only [Nat.mul_one,List.getElem?_take,List.getElem?_drop] at this
       simpa [byteA,AV.cells] using this
      obtain ⟨u,hu,hru⟩:=hrep.get hg
      rw [List.getElem?_take] at hu
      split at hu
      ·rw [Array.getElem?_toList] at hu
       rw [hu,hru.v_inv]
      ·cases hu
     have hcell : ∀ (j : Nat) (x : UInt8),l[j]? = some x → w.cell? ((⟨b,0,none⟩ : Addr).add j) = some (Value.int .u8 x.toNat):=by
      intro j x hx
      rw [Addr.add_mk,cell_of_row w b _ _ _ _ hheap]
      simpa using hbytes j x hx
     have hsh : w.shape? b = some (T,cur.size):=by simp [World.shape?,hheap]
     have hlc : l.length ≤ cur.size:=by rw [hsz];omega
     have hrun:=Go.Lib.run_unsafeString_row (P:=P) w pt nt ty T hpt hc1 b cur.size hsh l (by rintro rfl;simp at hll;omega) hlc (by unfold maxLen at hmax;omega) hcell
     refine ⟨_,_,by simpa [hmm] using hrun,?_⟩
     have hl0 : l.length ≠ 0:=by omega
     have hsim:=hs.write (c':=.raw (.cells cur T (0,l.length))) (w':=w.freeze ⟨b,0,none⟩ l.length) hbx hρ (by unfold World.freeze;rw [if_neg hl0]) (by unfold World.freeze;rw [if_neg hl0]) (by unfold World.freeze;rw [if_neg hl0];exact ⟨rfl,Nat.le_refl _⟩) (by unfold World.freeze;rw [if_neg hl0];simp)
      (fun j hj=>by unfold World.freeze;rw [if_neg hl0];simp [Array.getElem?_modify,Ne.symm hj])
      ⟨b,cap,rfl,by unfold World.freeze;rw [if_neg hl0];simp [Array.getElem?_modify,hheap],fun x e=>by cases e⟩
     refine Came.put (H:=H) (ρ:=ρ) (s':=AState.mk s.s (killI id s.b)) ?_ hd (.v rfl) hK
     refine hsim.weaken (fun i=>.inr rfl) (fun i c hc=>.inl ?_)
     obtain ⟨h1,h2⟩:=killI_lk hc
     simp only [addF]
     rw [if_neg (fun e=>h1 e.symm)]
     exact h2
  ·exact h.elim
 ·exact h.elim
theorem qstep_sound {H : Heap} {ρ : Rho} {a : Act} {w : World} {o : Oper} {s : AState} {K : AState → Prop} {Q : Exit → Act → World → Prop} (hs : Sim E H ρ s.slot s.box a w) (hd : ∀ t,o.dst = some t → t < E.n) (h : qstep P o s K) :
 o.wp P a w (fun a' w'=>∃ s' H' ρ',K s' ∧ Sim E H' ρ' s'.slot s'.box a' w') Q:=by
 obtain ⟨hf,h⟩:=h
 have hfr : newOp o.op = true → ∀ d,o.dst = some d → s.ment d = false:=by
  intro hn d hd'
  have:=hf hn
  rw [hd'] at this
  exact this
 have hm : newOp o.op = true → ∀ d,o.dst = some d → ∀ x ∈ o.op.operands.toList,(s.eval x).ment d = false:=by
  intro hn d hd' x _
  cases x with
  |tmp t=>exact AState.ment_slot (hfr hn d hd')
  |const v=>exact ofVal_ment d v
  |global g=>rfl
  |func f=>simp [AState.eval,evalF,AV.ment,mentL]
 by_cases hn : newOp o.op = true
 ·refine Oper.wp_mono ?_ (qop_sound (Q:=Q) (fun x _=>hs.eval x) hs.ext hs.boxes.rep hm h)
  intro a' w' hq
  obtain ⟨x,n,H',ρ',hk,hs'⟩:=hs.quiet hd (fun x c _ t ht=>fresh_all (hfr hn t ht)) hq
  refine ⟨_,H',ρ',hk,?_⟩
  rw [AState.slot_addBox,AState.box_addBox,AState.slot_put,AState.box_put]
  exact hs'
 ·refine Oper.wp_mono ?_ (qop_sound (Q:=Q) (fun x _=>hs.eval x) hs.ext hs.boxes.rep hm (qop_old (by simpa using hn) h))
  intro a' w' hq
  obtain ⟨x,n,H',ρ',⟨hk,rfl⟩,hs'⟩:=hs.quiet hd (by rintro x c ⟨_,h⟩;cases h) hq
  refine ⟨_,H',ρ',hk,?_⟩
  rw [AState.slot_addBox,AState.box_addBox,AState.slot_put,AState.box_put]
  have : addF s.box o.dst none = s.box:=by cases o.dst <;> rfl
  rw [this] at hs' ⊢
  exact hs'
theorem stepOp_sound {H : Heap} {ρ : Rho} {a : Act} {w : World} {o : Oper} {s : AState} {K : AState → Prop} {Q : Exit → Act → World → Prop} (hs : Sim E H ρ s.slot s.box a w) (hd : ∀ t,o.dst = some t → t < E.n) (h : stepOp P E o s K) :
 o.wp P a w (fun a' w'=>∃ s' H' ρ',K s' ∧ Sim E H' ρ' s'.slot s'.box a' w') Q:=by
 have putU : ∀ {s' : AState} {w' : World},Sim E H ρ s'.slot s'.box a w' → Sim E H ρ (s'.put o.dst (.tup [])).slot (s'.put o.dst (.tup [])).box (a.put o.dst undef) w':=by
  intro s' w' h'
  rw [AState.slot_put,AState.box_put]
  exact h'.put hd Rep.undef
 unfold stepOp at h
 cases hop : o.op with
 |store T p x =>
  rw [hop] at h
  obtain ⟨w',s',hk,hs',hrun⟩:=aStore_sound (P:=P) hs (hs.eval p) (hs.eval x) h
  unfold Oper.wp
  simp only [execOp,hop,Sem.run_bind,hrun,Result.andThen_ok,Sem.run_pure,Oper.upon]
  exact ⟨_,H,ρ,hk,putU hs'⟩
 |mapUpdate T m k x =>
  rw [hop] at h
  obtain ⟨w',s',hk,hs',hrun⟩:=aMapUpd_sound (P:=P) hs (hs.eval m) (hs.eval k) (hs.eval x) h
  unfold Oper.wp
  simp only [execOp,hop,Sem.run_bind,hrun,Result.andThen_ok,Sem.run_pure,Oper.upon]
  exact ⟨_,H,ρ,hk,putU hs'⟩
 |insert T m k x =>
  rw [hop] at h
  obtain ⟨w',s',hk,hs',hrun⟩:=aMapUpd_sound (P:=P) hs (hs.eval m) (hs.eval k) (hs.eval x) h
  unfold Oper.wp
  simp only [execOp,hop,Sem.run_bind,hrun,Result.andThen_ok,Sem.run_pure,Oper.upon]
  exact ⟨_,H,ρ,hk,putU hs'⟩
 |entryStore T m st x =>
  rw [hop] at h
  obtain ⟨w',s',hk,hs',hrun⟩:=aEntSt_sound (P:=P) (T:=T) hs (hs.eval m) (hs.eval st) (hs.eval x) h
  unfold Oper.wp
  simp only [execOp,hop,Sem.run_bind,hrun,Result.andThen_ok,Sem.run_pure,Oper.upon]
  exact ⟨_,H,ρ,hk,putU hs'⟩
 |mapEntry T m k =>
  rw [hop] at h
  obtain ⟨u,w',hrun,hc⟩:=aMapEnt_sound (P:=P) hs hd (hs.eval m) (hs.eval k) h
  unfold Oper.wp
  simp only [execOp,hop,Sem.run_bind,hrun,Result.andThen_ok,Sem.run_pure,Oper.upon]
  exact hc
 |nilCheck x =>
  rw [hop] at h
  obtain ⟨ht,h⟩:=h
  have hr:=hs.eval x
  have hrun : (execOp a.eval o).run P w = .ok (.value (a.eval x)) w:=run_nilCheck hop hr ht
  unfold Oper.wp
  rw [hrun]
  simp only [Oper.upon]
  exact Came.put hs hd hr h
 |makeSlice T l c =>
  rw [hop] at h
  obtain ⟨u,w',hrun,hcm⟩:=aMake_sound (P:=P) hs hd (hs.eval l) (hs.eval c) h
  unfold Oper.wp
  simp only [execOp,hop,Sem.run_bind,hrun,Result.andThen_ok,Sem.run_pure,Oper.upon]
  exact hcm
 |range T x =>
  rw [hop] at h
  obtain ⟨u,w',hrun,hc⟩:=aRange_sound hs hd (hs.eval x) h
  unfold Oper.wp
  simp only [execOp,hop,Sem.run_bind,hrun,Result.andThen_ok,Sem.run_pure,Oper.upon]
  exact hc
 |next it str =>
  rw [hop] at h
  obtain ⟨u,w',hrun,hc⟩:=aNext_sound (P:=P) (ty:=o.type) hs hd (hs.eval it) h
  unfold Oper.wp
  simp only [execOp,hop,Sem.run_bind,hrun,Result.andThen_ok,Sem.run_pure,Oper.upon]
  exact hc
 |entry it =>
  rw [hop] at h
  obtain ⟨u,w',hrun,hc⟩:=aEntry_sound (P:=P) hs hd (hs.eval it) h
  unfold Oper.wp
  simp only [execOp,hop,Sem.run_bind,hrun,Result.andThen_ok,Sem.run_pure,Oper.upon]
  exact hc
 |binOp op T x y T2 =>
  rw [hop] at h
  have hrx:=hs.eval x
  have hry:=hs.eval y
  simp only at h
  unfold stepBin at h
  have two : ∀ {emp : Prop} {p : Option Addr} {n c m c' : Nat},a.eval x = .slice p n c → a.eval y = .slice none m c' → (¬ emp → p ≠ none) → aSlNil P op T emp s o.dst K →
   o.wp P a w (fun a' w'=>∃ s' H' ρ',K s' ∧ Sim E H' ρ' s'.slot s'.box a' w') Q:=by
   intro emp p n c m c' e1 e2 hp h
   obtain ⟨u,hg,hb,hc⟩:=slNil_sound (P:=P) (ox:=x) (oy:=y) (n:=n) (c:=c) (m:=m) (c':=c') hs hd hp h
   unfold Oper.wp
   simp only [execOp,hop,e1,e2,Sem.run_bind,hg,hb,Result.andThen_ok,Sem.run_pure,Oper.upon]
   exact hc
  split at h
  ·rename_i k xs m c' hx hy
   unfold AState.eval at hx hy
   rw [hx] at hrx
   rw [hy] at hry
   obtain ⟨p,n,c,hv,hp⟩:=sl_val hrx
   exact two hv hry.v_inv hp h
  ·rename_i id k off n m c' hx hy
   unfold AState.eval at hx hy
   rw [hx] at hrx
   rw [hy] at hry
   obtain ⟨p,n',c,hv,hp⟩:=own_val hrx
   exact two hv hry.v_inv hp h
  ·rename_i t k m t' k' m' hx hy
   unfold AState.eval at hx hy
   rw [hx] at hrx
   rw [hy] at hry
   obtain ⟨u,hg,hb,hc⟩:=aIfcEq_sound (P:=P) (ox:=x) (oy:=y) hs hd h
   have e1:=ifc_val hrx
   have e2:=ifc_val hry
   unfold Oper.wp
   simp only [execOp,hop,e1,e2,Sem.run_bind,hg,hb,Result.andThen_ok,Sem.run_pure,Oper.upon]
   exact hc
  ·exact qstep_sound hs hd h
 |unOp op T x =>
  rw [hop] at h
  have hrx:=hs.eval x
  simp only at h
  unfold stepNeg at h
  split at h
  ·rename_i n hx
   by_cases hn : n = -9223372036854775808
   ·unfold AState.eval at hx
    rw [hx] at hrx
    have hk:=h.1 hn
    subst hn
    have hrun : (execOp a.eval o).run P w = .ok (.value (.int .i64 (-9223372036854775808))) w:=by
     simp only [execOp,hop,hrx.v_inv]
     rfl
    unfold Oper.wp
    rw [hrun]
    simp only [Oper.upon]
    exact Came.put hs hd (.v rfl) hk
   ·exact qstep_sound hs hd (h.2 hn)
  ·rename_i n hx
   obtain ⟨⟨h0,h1⟩,hk⟩:=h
   unfold AState.eval at hx
   rw [hx] at hrx
   have hrun : (execOp a.eval o).run P w = .ok (.value (.int .u64 ((18446744073709551616 - n) % 18446744073709551616))) w:=by
    have e : IntKind.u64.wrap (0 - n) = (18446744073709551616 - n) % 18446744073709551616:=by
     simp only [IntKind.wrap,IntKind.bits,IntKind.signed]
     simp
    rw [← e]
    simp only [execOp,hop,hrx.v_inv]
    rfl
   unfold Oper.wp
   rw [hrun]
   simp only [Oper.upon]
   exact Came.put hs hd (.v rfl) hk
  ·exact qstep_sound hs hd h
 |convert S T x =>
  rw [hop] at h
  have hrx:=hs.eval x
  simp only at h
  unfold stepConv at h
  split at h
  ·rename_i b e hx hT
   unfold AState.eval at hx
   rw [hx] at hrx
   obtain ⟨u,w',hrun,hc⟩:=aConvS_sound hs hd h
   unfold Oper.wp
   simp only [execOp,hop,hrx.v_inv,Sem.run_bind,hrun,Result.andThen_ok,Sem.run_pure,Oper.upon]
   exact hc
  ·rename_i xs hx hT
   unfold AState.eval at hx
   rw [hx] at hrx
   obtain ⟨u,w',hrun,hc⟩:=aConvL_sound hs hd hrx h
   unfold Oper.wp
   simp only [execOp,hop,Sem.run_bind,hrun,Result.andThen_ok,Sem.run_pure,Oper.upon]
   exact hc
  ·rename_i id off n hx hT
   unfold AState.eval at hx
   rw [hx] at hrx
   obtain ⟨u,w',hrun,hc⟩:=aConvB_sound hs hd hrx h
   unfold Oper.wp
   simp only [execOp,hop,Sem.run_bind,hrun,Result.andThen_ok,Sem.run_pure,Oper.upon]
   exact hc
  ·exact qstep_sound hs hd h
 |slice T x lo hi mx =>
  rw [hop] at h
  cases mx with
  |some m =>
   cases lo with
   |none=>exact qstep_sound hs hd h
   |some lo =>
    cases hi with
    |none=>exact qstep_sound hs hd h
    |some hi =>
     simp only at h
     unfold stepSlice3 at h
     split at h
     ·rename_i e b oo n c k1 l k2 hh k3 mm hT hx hl hh' hm
      obtain ⟨⟨hok,h0,h1,h2,h3,h4⟩,hK⟩:=h
      have hrx:=hs.eval x
      have hrl:=hs.eval lo
      have hrh:=hs.eval hi
      have hrm:=hs.eval m
      unfold AState.eval at hx hl hh' hm
      rw [hx] at hrx
      rw [hl] at hrl
      rw [hh'] at hrh
      rw [hm] at hrm
      have hrun : (Instr.sliceAt T (.slice (some ⟨b,oo,none⟩) n c) (some (.int k1 l)) (some (.int k2 hh)) (some (.int k3 mm))).run P w = .ok (.slice (some ⟨b,oo + l.toNat * P.cellsOf e,none⟩) (hh - l).toNat (mm - l).toNat) w:=by
       have r1 : ∀ code,(Instr.sliceBound (.int k3 mm) c code).run P w = .ok mm.toNat w:=fun code=>run_sliceBound (by omega) (by omega)
       have r2 : ∀ code,(Instr.sliceBound (.int k2 hh) mm.toNat code).run P w = .ok hh.toNat w:=fun code=>run_sliceBound (by omega) (by omega)
       have r3 : ∀ code,(Instr.sliceBound (.int k1 l) hh.toNat code).run P w = .ok l.toNat w:=fun code=>run_sliceBound (by omega) (by omega)
       have e1 : hh.toNat - l.toNat = (hh - l).toNat:=by omega
       have e2 : mm.toNat - l.toNat = (mm - l).toNat:=by omega
       have e3 : ¬ mm.toNat = l.toNat:=by omega
       simp [Instr.sliceAt,Instr.slice,Instr.sliceBounds,run_underlying hT,r1,r2,r3,run_sizeOf' hok,e1,e2,e3,Addr.add_mk]
      unfold Oper.wp
      simp only [execOp,hop,Option.map_some,hrx.v_inv,hrl.v_inv,hrh.v_inv,hrm.v_inv,Sem.run_bind,hrun,Result.andThen_ok,Sem.run_pure,Oper.upon]
      exact Came.put hs hd (.v rfl) hK
     ·rename_i e k xs k1 l k2 hh k3 mm hT hx hl hh' hm
      obtain ⟨⟨hok,hk,h0,h1,h2,h3⟩,hK⟩:=h
      have hrx:=hs.eval x
      have hrl:=hs.eval lo
      have hrh:=hs.eval hi
      have hrm:=hs.eval m
      unfold AState.eval at hx hl hh' hm
      rw [hx] at hrx
      rw [hl] at hrl
      rw [hh'] at hrh
      rw [hm] at hrm
      generalize hvx : a.eval x = vx at hrx
      cases hrx with
      |slNil=>simp at h3;omega
      |sl cell hcap hmax hkk hone hH hrep =>
       rename_i b o cap
       have hrun : ∀ n : Nat,(Instr.sliceAt T (.slice (some ⟨b,o,none⟩) n cap) (some (.int k1 l)) (some (.int k2 hh)) (some (.int k3 mm))).run P w = .ok (.slice (some ⟨b,o + l.toNat * P.cellsOf e,none⟩) (hh - l).toNat (mm - l).toNat) w:=by
        intro n
        have r1 : ∀ code,(Instr.sliceBound (.int k3 mm) cap code).run P w = .ok mm.toNat w:=fun code=>run_sliceBound (by omega) (by omega)
        have r2 : ∀ code,(Instr.sliceBound (.int k2 hh) mm.toNat code).run P w = .ok hh.toNat w:=fun code=>run_sliceBound (by omega) (by omega)
        have r3 : ∀ code,(Instr.sliceBound (.int k1 l) hh.toNat code).run P w = .ok l.toNat w:=fun code=>run_sliceBound (by omega) (by omega)
        have e1 : hh.toNat - l.toNat = (hh - l).toNat:=by omega
        have e2 : mm.toNat - l.toNat = (mm - l).toNat:=by omega
        have e3 : ¬ mm.toNat = l.toNat:=by omega
        have hb : (Instr.sliceBounds true n cap (some (Value.int k1 l)) (some (Value.int k2 hh)) (some (Value.int k3 mm))).run P w = .ok (l.toNat,hh.toNat,mm.toNat) w:=by
         unfold Instr.sliceBounds
         simp [r1,r2,r3]
        simp [Instr.sliceAt,Instr.slice,run_underlying hT,hb,run_sizeOf' hok,e1,e2,e3,Addr.add_mk]
       have hlen : ((xs.take hh.toNat).drop l.toNat).length = (hh - l).toNat:=by simp;omega
       unfold Oper.wp
       simp only [execOp,hop,Option.map_some,hvx,hrl.v_inv,hrh.v_inv,hrm.v_inv,Sem.run_bind,hrun,Result.andThen_ok,Sem.run_pure,Oper.upon]
       refine Came.put hs hd ?_ hK
       rw [← hlen]
       refine Rep.sl (fun i j=>cell (l.toNat + i) j) (by rw [hlen];omega) (by omega) (fun y hy=>hkk y (List.mem_of_mem_take (List.mem_of_mem_drop hy))) (fun y hy=>hone y (List.mem_of_mem_take (List.mem_of_mem_drop hy))) ?_ ?_
       ·intro i j y c hy hc'
        have:=hH _ j y c (take_drop_get hy) hc'
        rw [hk,Nat.add_assoc o,← Nat.add_mul]
        exact this
       ·intro i j y c hy hc'
        exact hrep _ j y c (take_drop_get hy) hc'
     ·exact h.elim
  |none =>
   simp only at h
   unfold stepSlice at h
   split at h
   ·rename_i kk hx hlo hhi
    obtain ⟨⟨e,hT,hok⟩,hK⟩:=h
    cases lo with
    |some l=>cases hlo
    |none =>
     cases hi with
     |none=>cases hhi
     |some hh =>
      simp only [Option.map_some,Option.some.injEq] at hhi
      have hrx:=hs.eval x
      have hrh:=hs.eval hh
      unfold AState.eval at hx hhi
      rw [hx] at hrx
      rw [hhi] at hrh
      have hrun:=run_slice_nil (P:=P) (w:=w) (k:=kk) hT hok
      unfold Oper.wp
      simp only [execOp,hop,Option.map_some,Option.map_none,hrx.v_inv,hrh.v_inv,Sem.run_bind,hrun,Result.andThen_ok,Sem.run_pure,Oper.upon]
      exact Came.put hs hd (.v rfl) hK
   ·exact qstep_sound hs hd h
 |call c =>
  rw [hop] at h
  simp only at h
  unfold stepCall at h
  split at h
  ·rename_i hc
   split at h
   ·rename_i v x T T' hargs htys
    have e1 : c.args.map a.eval = #[a.eval v,a.eval x]:=by
     apply Array.toList_inj.1
     rw [Array.toList_map,hargs]
     rfl
    have e2 : c.argTypes = #[T,T']:=Array.toList_inj.1 htys
    split at h
    ·rename_i hTT
     subst hTT
     obtain ⟨u,w',s',ρ',hk,hs',hrun⟩:=aAppend_sound (P:=P) (ty:=o.type) (hs.forget (s.eval v)) hd (hs.eval v) (hs.eval x) h
     unfold Oper.wp
     simp only [execOp,hop,resolve,hc,invoke,builtin,Sem.run_bind,Sem.run_pure,Result.andThen_ok,e1,e2,hrun,Oper.upon]
     exact ⟨s',H,ρ',hk,hs'⟩
    ·unfold aAppendO at h
     split at h
     ·obtain ⟨u,w',s',ρ',hk,hs',hrun⟩:=aAppendS_sound (P:=P) (ty:=o.type) (hs.forget (s.eval v)) hd (hs.eval v) (hs.eval x) h
      unfold Oper.wp
      simp only [execOp,hop,resolve,hc,invoke,builtin,Sem.run_bind,Sem.run_pure,Result.andThen_ok,e1,e2,hrun,Oper.upon]
      exact ⟨s',H,ρ',hk,hs'⟩
     ·obtain ⟨u,w',hrun,hcm⟩:=aAppendN_sound (P:=P) (ty:=o.type) hs hd (hs.eval v) (hs.eval x) h
      unfold Oper.wp
      simp only [execOp,hop,resolve,hc,invoke,builtin,Sem.run_bind,Sem.run_pure,Result.andThen_ok,e1,e2,hrun,Oper.upon]
      exact hcm
   ·exact h.elim
  ·rename_i hc
   split at h
   ·rename_i x T hargs htys
    have e1 : c.args.map a.eval = #[a.eval x]:=by
     apply Array.toList_inj.1
     rw [Array.toList_map,hargs]
     rfl
    have e2 : c.argTypes = #[T]:=Array.toList_inj.1 htys
    obtain ⟨u,w',hrun,hcm⟩:=aClear_sound (P:=P) (ty:=o.type) hs hd (hs.eval x) h
    unfold Oper.wp
    simp only [execOp,hop,resolve,hc,invoke,builtin,Sem.run_bind,Sem.run_pure,Result.andThen_ok,e1,e2,hrun,Oper.upon]
    exact hcm
   ·exact h.elim
  ·rename_i hc
   split at h
   ·rename_i x T hargs htys
    have e1 : c.args.map a.eval = #[a.eval x]:=by
     apply Array.toList_inj.1
     rw [Array.toList_map,hargs]
     rfl
    have e2 : c.argTypes = #[T]:=Array.toList_inj.1 htys
    unfold stepCap at h
    split at h
    ·rename_i n cc hx
     obtain ⟨⟨e,hT⟩,hK⟩:=h
     have hrx:=hs.eval x
     unfold AState.eval at hx
     rw [hx] at hrx
     have hrun:=run_cap_nil (P:=P) (w:=w) (ty:=o.type) (n:=n) (c:=cc) hT
     unfold Oper.wp
     simp only [execOp,hop,resolve,hc,invoke,builtin,Sem.run_bind,Sem.run_pure,Result.andThen_ok,e1,e2,hrx.v_inv,hrun,Oper.upon]
     exact Came.put hs hd (.v rfl) hK
    ·exact h.elim
   ·exact h.elim
  ·rename_i hc
   split at h
   ·rename_i p n pt nt hargs htys
    have e1 : c.args.map a.eval = #[a.eval p,a.eval n]:=by
     apply Array.toList_inj.1
     rw [Array.toList_map,hargs]
     rfl
    have e2 : c.argTypes = #[pt,nt]:=Array.toList_inj.1 htys
    obtain ⟨u,w',hrun,hcm⟩:=aUStr_sound (P:=P) (nt:=nt) (ty:=o.type) hs hd (hs.eval p) (hs.eval n) h
    unfold Oper.wp
    simp only [execOp,hop,resolve,hc,invoke,builtin,Sem.run_bind,Sem.run_pure,Result.andThen_ok,e1,e2,hrun,Oper.upon]
    exact hcm
   ·exact h.elim
  ·rename_i f hc
   unfold aCall at h
   split at h
   ·rename_i g first caps hf
    have hfr:=hs.eval f
    unfold AState.eval at hf
    rw [hf] at hfr
    obtain ⟨us,vs,hv,hus,hvs⟩:=fn_inv hfr
    have hargs:=RepL.mapOps (H:=H) (ρ:=ρ) (av:=s.eval) (ev:=a.eval) (xs:=c.args.toList) (fun x _=>hs.eval x)
    have hrun : ∀ w,(execOp a.eval o).run P w = (callFunc g (us ++ c.args.toList.map a.eval ++ vs).toArray).run P w:=by
     intro w
     have:=resolve_fun (P:=P) (w:=w) (ty:=o.type) hc hv
     simp only [execOp,hop]
     rw [this]
     congr 1
     congr 1
     apply Array.toList_inj.1
     simp
    unfold Oper.wp
    rw [hrun]
    rcases h with h|h
    ·rw [h.ent]
     simp only [Oper.upon]
     refine Calls.mono (h.run H ρ a w _ hs ((hus.append hargs).append hvs) hd) ?_
     rintro e w' ⟨v,rfl,s',H',ρ',hk,hs'⟩
     exact ⟨s',H',ρ',hk,hs'⟩
    ·obtain ⟨v,w',h1,s',H',ρ',hk,hs'⟩:=h H ρ a w _ hs ((hus.append hargs).append hvs) hd
     rw [h1]
     simp only [Oper.upon]
     exact ⟨s',H',ρ',hk,hs'⟩
   ·exact h.elim
  ·rename_i r m hc
   split at h
   ·rename_i t x hf
    split at h
    ·rename_i f hmeth
     have hfr:=hs.eval r
     unfold AState.eval at hf
     rw [hf] at hfr
     generalize hrv : a.eval r = rv at hfr
     cases hfr with
     |ifc hfr =>
      rename_i v
      have hargs:=RepL.mapOps (H:=H) (ρ:=ρ) (av:=s.eval) (ev:=a.eval) (xs:=c.args.toList) (fun x _=>hs.eval x)
      have hrun : ∀ w,(execOp a.eval o).run P w = (callFunc f (v :: c.args.toList.map a.eval).toArray).run P w:=by
       intro w
       have e : #[v] ++ c.args.map a.eval = (v :: c.args.toList.map a.eval).toArray:=by
        apply Array.toList_inj.1
        simp
       rw [← e,← run_callMethod (P:=P) (w:=w) (v:=v) (args:=c.args.map a.eval) hmeth]
       have e2 : (#[Value.iface t v] ++ c.args.map a.eval)[0]? = some (.iface t v):=by rw [Array.getElem?_append_left (by simp)];rfl
       have e3 : (#[Value.iface t v] ++ c.args.map a.eval).extract 1 (#[Value.iface t v] ++ c.args.map a.eval).size = c.args.map a.eval:=by
        apply Array.toList_inj.1
        simp
        exact List.take_of_length_le (by simp)
       simp only [execOp,hop,resolve,hc,invoke,hrv,Sem.run_bind,Sem.run_pure,Result.andThen_ok,e2,e3]
      unfold Oper.wp
      rw [hrun]
      rcases h with h|h
      ·rw [h.ent]
       simp only [Oper.upon]
       refine Calls.mono (h.run H ρ a w _ hs (RepL.cons hfr hargs) hd) ?_
       rintro e w' ⟨v,rfl,s',H',ρ',hk,hs'⟩
       exact ⟨s',H',ρ',hk,hs'⟩
      ·obtain ⟨v,w',h1,s',H',ρ',hk,hs'⟩:=h H ρ a w _ hs (RepL.cons hfr hargs) hd
       rw [h1]
       simp only [Oper.upon]
       exact ⟨s',H',ρ',hk,hs'⟩
    ·exact h.elim
   ·exact h.elim
  ·exact qstep_sound hs hd h
 |_=>rw [hop] at h;exact qstep_sound hs hd h
theorem undef_slot {H : Heap} {ρ : Rho} {s : AState} {a : Act} {w : World} {t : Nat} (hs : Sim E H ρ s.slot s.box a w) (h : s.slot t = .tup []) : a.tmps.getD t undef = undef:=by
 have:=hs.slots t
 rw [h] at this
 generalize a.tmps.getD t undef = u at this
 cases this with
 |tup hl hh =>
  rename_i vs
  have : vs = []:=by cases vs with|nil=>rfl|cons=>simp at hl
  subst this
  rfl
theorem bool_slot {H : Heap} {ρ : Rho} {s : AState} {a : Act} {w : World} {t : Nat} {b : Bool} (hs : Sim E H ρ s.slot s.box a w) (h : s.slot t = .v (.bool b)) : a.tmps.getD t undef = .bool b:=by
 have:=hs.slots t
 rw [h] at this
 exact this.v_inv
theorem Sim.setSlot {H : Heap} {ρ : Rho} {s : AState} {a : Act} {w : World} {t : Nat} {x : AV} (hs : Sim E H ρ s.slot s.box a w) (hr : Rep H ρ x (a.tmps.getD t undef)) : Sim E H ρ (s.put (some t) x).slot (s.put (some t) x).box a w:=by
 rw [AState.slot_put,AState.box_put]
 refine ⟨hs.ext,fun i=>?_,hs.size,hs.defers,hs.boxes,hs.h0,hs.new,hs.frame,hs.keep,hs.nle⟩
 simp only [putF]
 split
 ·rename_i e;subst e;exact hr
 ·exact hs.slots i
theorem yielded_of {ops : Array Oper} {a : Act} {j t : Nat} (hg : (ops[j]?).bind (·.dst) = some t) : (∀ b,a.tmps.getD t undef = .bool b → yielded ops a.tmps j = some b) ∧ (a.tmps.getD t undef = undef → yielded ops a.tmps j = none):=by
 unfold yielded
 rw [hg]
 simp only [Option.bind_some]
 constructor
 ·intro b hb
  cases h : a.tmps[t]? with
  |none=>simp [h,undef] at hb
  |some v=>simp [h] at hb;subst hb;rfl
 ·intro hu
  cases h : a.tmps[t]? with
  |none=>rfl
  |some v=>simp [h,undef] at hu;subst hu;rfl
theorem yieldOp_sound {H : Heap} {ρ : Rho} {a : Act} {w : World} {o : Oper} {s : AState} {K : AState → Prop} {Q : Exit → Act → World → Prop} (hs : Sim E H ρ s.slot s.box a w) (hd : ∀ t,o.dst = some t → t < E.n) (h : yieldOp P E o s K) :
 o.wpIn E.fence 0 P a w (fun a' w'=>∃ s' H' ρ',K s' ∧ Sim E H' ρ' s'.slot s'.box a' w') Q:=by
 unfold yieldOp at h
 split at h
 ·rename_i c hop
  split at h
  ·rename_i f hc
   split at h
   ·rename_i l hf
    have hfr:=hs.eval f
    unfold AState.eval at hf
    rw [hf] at hfr
    obtain ⟨us,vs,hv,hus,hvs⟩:=fn_inv hfr
    have hus:=hus.nil_inv
    have hvs:=hvs.nil_inv
    subst hus
    subst hvs
    have hargs:=RepL.mapOps (H:=H) (ρ:=ρ) (av:=s.eval) (ev:=a.eval) (xs:=c.args.toList) (fun x _=>hs.eval x)
    obtain ⟨fn,tmps,assign,body,hy,hR⟩:=h.run H ρ a w _ hs hargs hd
    refine ⟨fun _ _=>trivial,?_⟩
    have he : Oper.semAt E.fence.round a.eval o = execOp a.eval o:=Oper.semAt_eq _ _ _ (fun c' e=>by rw [hop] at e;cases e)
    rw [he]
    have hrun : (execOp a.eval o).run P w = .ok (.round l fn tmps assign body) w:=by
     have hya : (Instr.yield l (c.args.map a.eval)).run P w = .ok (.round l fn tmps assign body) w:=by
      rw [← hy]
      congr 2
      apply Array.toList_inj.1
      simp
     simp only [execOp,hop,resolve,hc,hv,Sem.run_bind,Sem.run_pure,Result.andThen_ok]
     simp [Deferred.ofValue,invoke,hya]
    rw [hrun]
    simp only [Oper.uponIn]
    refine ⟨fun h=>by simp [Env.fence,fenceR,Fence.wide] at h,?_⟩
    refine RoundIn.mono (show RoundIn E.fence 0 P l fn tmps assign body w _ from hR) ?_
    rintro e w' ⟨v,rfl,s',H',ρ',hk,hs'⟩
    exact ⟨s',H',ρ',hk,hs'⟩
   ·exact h.elim
  ·exact h.elim
 ·exact h.elim
theorem RK_sound {ops : Array Oper} {Q : Exit → Act → World → Prop} (hdst : ∀ o ∈ ops.toList,∀ t,o.dst = some t → t < E.n) : ∀ (l : List Oper) (s : AState) (K : AState → Prop),(∀ o ∈ l,o ∈ ops.toList) → RK P E ops l s K → ∀ {H : Heap} {ρ : Rho} {a : Act} {w : World},Sim E H ρ s.slot s.box a w →
 (∀ s' H' ρ' a' w',K s' → Sim E H' ρ' s'.slot s'.box a' w' → Q .normal a' w') → wpList P ops Q l a w
 |[],s,K,_,h,H,ρ,a,w,hs,hQ=>hQ s H ρ a w h hs
 |o :: rest,s,K,hl,h,H,ρ,a,w,hs,hQ=>by
  have hd:=hdst o (hl o (by simp))
  have hrest : ∀ o ∈ rest,o ∈ ops.toList:=fun o ho=>hl o (List.mem_cons_of_mem _ ho)
  simp only [RK] at h
  have take : ∀ {s1 : AState},Sim E H ρ s1.slot s1.box a w → stepOp P E o s1 (fun s'=>RK P E ops rest s' K) → o.wp P a w (wpList P ops Q rest) Q:=by
   intro s1 hs1 h1
   refine Oper.wp_mono ?_ (stepOp_sound (Q:=Q) hs1 hd h1)
   rintro a' w' ⟨s',H',ρ',hk,hs'⟩
   exact RK_sound hdst rest s' K hrest hk hs' hQ
  have skip : ∀ {s1 : AState},Sim E H ρ s1.slot s1.box a w → RK P E ops rest (s1.put o.dst (.tup [])) K → wpList P ops Q rest (a.put o.dst undef) w:=by
   intro s1 hs1 h1
   refine RK_sound hdst rest _ K hrest h1 (H:=H) (ρ:=ρ) ?_ hQ
   rw [AState.slot_put,AState.box_put]
   exact hs1.put hd Rep.undef
  unfold wpList
  split at h
  ·rename_i hg
   rw [if_pos (by simp [Region.wanted,hg])]
   exact .inl (take hs h)
  ·rename_i j want hg
   split at h
   ·rename_i t ht
    have hy:=yielded_of (a:=a) ht
    split at h
    ·rename_i b hb
     have hbv:=bool_slot hs hb
     have hyb:=hy.1 b hbv
     by_cases hbw : b = want
     ·rw [if_pos (by simp [Region.wanted,hg,hyb,hbw])]
      refine .inl (take (hs.setSlot (t:=t) (x:=.v (.bool want)) ?_) (h.1 hbw))
      rw [hbv,hbw]
      exact .v rfl
     ·rw [if_neg (by simp [Region.wanted,hg,hyb,hbw])]
      have hbn : b = !want:=by cases b <;> cases want <;> simp_all
      refine skip (hs.setSlot (t:=t) (x:=.v (.bool (!want))) ?_) (h.2 hbn)
      rw [hbv,hbn]
      exact .v rfl
    ·rename_i hb
     have hyn:=hy.2 (undef_slot hs hb)
     rw [if_neg (by simp [Region.wanted,hg,hyn])]
     exact skip hs h
    ·exact h.elim
   ·rename_i ht
    have hyn : yielded ops a.tmps j = none:=by unfold yielded;rw [ht];rfl
    rw [if_neg (by simp [Region.wanted,hg,hyn])]
    exact skip hs h
theorem RK_soundIn {ops : Array Oper} {Q : Exit → Act → World → Prop} {l2 : List Oper} (hdst : ∀ o ∈ ops.toList,∀ t,o.dst = some t → t < E.n) (hnd : ∀ o ∈ ops.toList,noDef o = true) : ∀ (l : List Oper) (s : AState) (K : AState → Prop),(∀ o ∈ l,o ∈ ops.toList) → RK P E ops l s K → ∀ {H : Heap} {ρ : Rho} {a : Act} {w : World},Sim E H ρ s.slot s.box a w →
 (∀ s' H' ρ' a' w',K s' → Sim E H' ρ' s'.slot s'.box a' w' → wpListIn E.fence 0 P ops Q l2 a' w') → wpListIn E.fence 0 P ops Q (l ++ l2) a w
 |[],s,K,_,h,H,ρ,a,w,hs,hQ=>hQ s H ρ a w h hs
 |o :: rest,s,K,hl,h,H,ρ,a,w,hs,hQ=>by
  have hd:=hdst o (hl o (by simp))
  have hrest : ∀ o ∈ rest,o ∈ ops.toList:=fun o ho=>hl o (List.mem_cons_of_mem _ ho)
  simp only [RK] at h
  have take : ∀ {s1 : AState},Sim E H ρ s1.slot s1.box a w → stepOp P E o s1 (fun s'=>RK P E ops rest s' K) → o.wpIn E.fence 0 P a w (wpListIn E.fence 0 P ops Q (rest ++ l2)) Q:=by
   intro s1 hs1 h1
   refine Oper.wpIn_mono ?_ (Oper.wp_in (hnd o (hl o (by simp))) (stepOp_sound (Q:=Q) hs1 hd h1))
   rintro a' w' ⟨s',H',ρ',hk,hs'⟩
   exact RK_soundIn hdst hnd rest s' K hrest hk hs' hQ
  have skip : ∀ {s1 : AState},Sim E H ρ s1.slot s1.box a w → RK P E ops rest (s1.put o.dst (.tup [])) K → (∀ f,o.about P w a.eval = some f → E.fence.fn f) ∧ wpListIn E.fence 0 P ops Q (rest ++ l2) (a.put o.dst undef) w:=by
   intro s1 hs1 h1
   refine ⟨fun _ _=>trivial,?_⟩
   refine RK_soundIn hdst hnd rest _ K hrest h1 (H:=H) (ρ:=ρ) ?_ hQ
   rw [AState.slot_put,AState.box_put]
   exact hs1.put hd Rep.undef
  rw [List.cons_append]
  unfold wpListIn
  split at h
  ·rename_i hg
   rw [if_pos (by simp [Region.wanted,hg])]
   exact take hs h
  ·rename_i j want hg
   split at h
   ·rename_i t ht
    have hy:=yielded_of (a:=a) ht
    split at h
    ·rename_i b hb
     have hbv:=bool_slot hs hb
     have hyb:=hy.1 b hbv
     by_cases hbw : b = want
     ·rw [if_pos (by simp [Region.wanted,hg,hyb,hbw])]
      refine (take (hs.setSlot (t:=t) (x:=.v (.bool want)) ?_) (h.1 hbw))
      rw [hbv,hbw]
      exact .v rfl
     ·rw [if_neg (by simp [Region.wanted,hg,hyb,hbw])]
      have hbn : b = !want:=by cases b <;> cases want <;> simp_all
      refine skip (hs.setSlot (t:=t) (x:=.v (.bool (!want))) ?_) (h.2 hbn)
      rw [hbv,hbn]
      exact .v rfl
    ·rename_i hb
     have hyn:=hy.2 (undef_slot hs hb)
     rw [if_neg (by simp [Region.wanted,hg,hyn])]
     exact skip hs h
    ·exact h.elim
   ·rename_i ht
    have hyn : yielded ops a.tmps j = none:=by unfold yielded;rw [ht];rfl
    rw [if_neg (by simp [Region.wanted,hg,hyn])]
    exact skip hs h
def dstOK (n : Nat) (ops : List Oper) : Bool:=ops.all fun o=>(match o.dst with|some t=>decide (t < n)|none=>true) && noDef o
theorem dstOK_spec {n : Nat} {ops : List Oper} (h : dstOK n ops = true) : ∀ o ∈ ops,∀ t,o.dst = some t → t < n:=by
 intro o ho t ht
 have:=List.all_eq_true.1 h o ho
 rw [ht] at this
 simp at this
 exact this.1
theorem dstOK_nd {n : Nat} {ops : List Oper} (h : dstOK n ops = true) : ∀ o ∈ ops,noDef o = true:=by
 intro o ho
 have:=List.all_eq_true.1 h o ho
 simp only [Bool.and_eq_true] at this
 exact this.2
theorem dstOK_ndA {n : Nat} {ops : List Oper} (h : dstOK n ops = true) : ops.toArray.toList.all noDef = true:=by
 simpa using dstOK_nd h
theorem AW_region {s : AState} {Q : AExit → AState → Prop} {id : Nat} {l : List Oper} (hd : dstOK E.n l = true) (h : RK P E l.toArray l s (Q .normal)) : AW P E (.region id l.toArray false) s Q:=by
 intro H ρ a w hs
 refine wpIn_region_lit ?_
 have:=RK_soundIn (P:=P) (E:=E) (Q:=post E Q) (l2:=[]) (ops:=l.toArray) (fun o ho=>dstOK_spec hd o (by simpa using ho)) (fun o ho=>dstOK_nd hd o (by simpa using ho)) l s _ (fun o ho=>by simpa using ho) h hs (fun s' H' ρ' a' w' hk hs'=>⟨s',H',ρ',hk,hs'⟩)
 simpa using this
theorem AW_regionY {s : AState} {Q : AExit → AState → Prop} {id : Nat} {l : List Oper} (n : Nat) {o : Oper} (ho : l[n]? = some o) (hg : o.guard = none) (hd : dstOK E.n l = true)
 (h : RK P E l.toArray (l.take n) s (fun s1=>yieldOp P E o s1 (fun s2=>RK P E l.toArray (l.drop (n + 1)) s2 (Q .normal)))) : AW P E (.region id l.toArray false) s Q:=by
 intro H ρ a w hs
 refine wpIn_region_lit ?_
 have hdst : ∀ o ∈ l.toArray.toList,∀ t,o.dst = some t → t < E.n:=fun o ho=>dstOK_spec hd o (by simpa using ho)
 have hnd : ∀ o ∈ l.toArray.toList,noDef o = true:=fun o ho=>dstOK_nd hd o (by simpa using ho)
 have hsplit : l = l.take n ++ (o :: l.drop (n + 1)):=by
  conv=>lhs;rw [← List.take_append_drop n l]
  congr 1
  rw [List.drop_eq_getElem_cons (List.getElem?_eq_some_iff.1 ho).1,(List.getElem?_eq_some_iff.1 ho).2]
 have hol : o ∈ l:=List.mem_of_getElem? ho
 have key : wpListIn E.fence 0 P l.toArray (post E Q) (l.take n ++ (o :: l.drop (n + 1))) a w:=by
  refine RK_soundIn (P:=P) (E:=E) (Q:=post E Q) (ops:=l.toArray) hdst hnd (l.take n) s _ (fun o ho=>by simpa using List.mem_of_mem_take ho) h hs ?_
  intro s' H' ρ' a' w' hy hs'
  unfold wpListIn
  rw [if_pos (by simp [Region.wanted,hg])]
  refine Oper.wpIn_mono ?_ (yieldOp_sound (Q:=post E Q) hs' (hdst o (by simpa using hol)) hy)
  rintro a2 w2 ⟨s2,H2,ρ2,hk,hs2⟩
  have:=RK_soundIn (P:=P) (E:=E) (Q:=post E Q) (l2:=[]) (ops:=l.toArray) hdst hnd (l.drop (n + 1)) s2 _ (fun o ho=>by simpa using List.mem_of_mem_drop ho) hk hs2 (fun s' H' ρ' a' w' hk hs'=>⟨s',H',ρ',hk,hs'⟩)
  simpa using this
 rw [← hsplit] at key
 exact key
end
end Go.Am
end
