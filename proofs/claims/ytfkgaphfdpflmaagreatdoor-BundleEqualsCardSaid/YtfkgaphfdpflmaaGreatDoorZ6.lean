/- The abstract machine: iterators (ranges over functions) -/
import Derived.Test.YtfkgaphfdpflmaaGreatDoorZD
import Derived.Test.YtfkgaphfdpflmaaGreatDoorZ3
import Derived.RangeFuncNested
import Derived.OrdersHeld
set_option maxRecDepth 100000
set_option linter.unusedSimpArgs false
set_option linter.unusedVariables false
section
namespace Go.Am
open Go.RowKit
abbrev GL:=List (Nat × Obj)
def bls (G : GL) : List Nat:=G.map (·.1)
structure GOk (G : GL) : Prop where
 nodup : (bls G).Nodup
 nd : ∀ p ∈ G,notDef p.2
def holds (G : GL) (w : World) : Prop:=∀ p ∈ G,w.heap[p.1]? = some p.2
def apartG (G : GL) (H : Heap) : Prop:=∀ b ∈ bls G,∀ o,H b o = none
structure GNext (G : GL) (w : World) (G' : GL) (w' : World) : Prop where
 ok : GOk G'
 hold : holds G' w'
 new : ∀ b ∈ bls G',w.heap.size ≤ b ∨ b ∈ bls G
 frame : FrameBut (fun b=>b ∈ bls G) w w'
theorem holds_lt {G : GL} {w : World} (h : holds G w) {b : Nat} (hb : b ∈ bls G) : b < w.heap.size:=by
 obtain ⟨p,hp,rfl⟩:=List.mem_map.1 hb
 exact (Array.getElem?_eq_some_iff.1 (h p hp)).1
def YSpec (P : Program) (l : Nat) (args : List AV) (Pre Post : Heap → GL → Prop) : Prop :=
 ∀ (G : GL) (Hx H : Heap) (w : World) (vs : List Value),Pre Hx G → GOk G → Hx.le H → Ext H w → holds G w → apartG G H → RepL H rho0 args vs →
   ∃ fn tmps assign body,(Instr.yield l vs.toArray).run P w = .ok (.round l fn tmps assign body) w ∧
     RoundIn (fenceR none) 0 P l fn tmps assign body w fun e w'=>e = .returned (.bool true) ∧ ∃ G',Post H G' ∧ GNext G w G' w'
def ISpec (P : Program) (f : FuncId) (caps : List AV) (ok : List (List AV) → List AV → Prop) (S : List (List AV) → Prop) : Prop :=
 Ent P f ∧ ∀ (l : Nat) (J : List (List AV) → Heap → GL → Prop),(∀ pre x,ok pre x → YSpec P l x (J pre) (J (pre ++ [x]))) →
  ∀ (G : GL) (H : Heap) (w : World) (vs : List Value),J [] H G → GOk G → Ext H w → holds G w → apartG G H → RepL H rho0 (.fn (.yield l) [] [] :: caps) vs →
    Calls P f vs.toArray w fun e w'=>(∃ v,e = .returned v) ∧ ∃ G' xs Hx,S xs ∧ J xs Hx G' ∧ Ext Hx w' ∧ (∀ b o v,Hx b o = some v → H b o = none → w.heap.size ≤ b ∨ b ∈ bls G) ∧ GNext G w G' w'
def ISpecG (P : Program) (f : FuncId) (GP : GL) (caps : List AV) (ok : List (List AV) → List AV → Prop) (S : List (List AV) → Prop) : Prop :=
 Ent P f ∧ ∀ (l : Nat) (J : List (List AV) → Heap → GL → Prop),(∀ pre Hx G,J pre Hx G → ∀ p ∈ GP,p ∈ G) → (∀ pre x,ok pre x → YSpec P l x (J pre) (J (pre ++ [x]))) →
  ∀ (G : GL) (H : Heap) (w : World) (vs : List Value),J [] H G → GOk G → Ext H w → holds G w → apartG G H → RepL H rho0 (.fn (.yield l) [] [] :: caps) vs →
    Calls P f vs.toArray w fun e w'=>(∃ v,e = .returned v) ∧ ∃ G' xs Hx,S xs ∧ J xs Hx G' ∧ Ext Hx w' ∧ (∀ b o v,Hx b o = some v → H b o = none → w.heap.size ≤ b ∨ b ∈ bls G) ∧ GNext G w G' w'
theorem ISpec.toG {P : Program} {f : FuncId} {caps : List AV} {ok : List (List AV) → List AV → Prop} {S : List (List AV) → Prop} (h : ISpec P f caps ok S) : ISpecG P f [] caps ok S:=⟨h.1,fun l J _=>h.2 l J⟩
def gbox (G : GL) : List (Nat × Ct):=G.map fun p=>(2000000 + p.1,.pin p.1 p.2)
theorem lk_gbox {G : GL} {i : Nat} {c : Ct} (h : lk (gbox G) i = some c) : ∃ p ∈ G,i = 2000000 + p.1 ∧ c = .pin p.1 p.2:=by
 obtain ⟨p,hp,he⟩:=List.mem_map.1 (lk_mem h)
 cases he
 exact ⟨p,hp,rfl,rfl⟩
theorem lk_gbox_mem : ∀ {G : GL},(bls G).Nodup → ∀ {p : Nat × Obj},p ∈ G → lk (gbox G) (2000000 + p.1) = some (.pin p.1 p.2)
 |[],_,p,h=>by cases h
 |q :: G,hn,p,h=>by
  simp only [bls,List.map_cons,List.nodup_cons] at hn
  simp only [gbox,List.map_cons,lk]
  rcases List.mem_cons.1 h with rfl|h
  ·rw [if_pos rfl]
  ·rw [if_neg (fun e=>hn.1 (by rw [show q.1 = p.1 by omega];exact List.mem_map_of_mem h))]
   exact lk_gbox_mem hn.2 h
def lowB (L : List (Nat × Ct)) : Prop:=∀ p ∈ L,p.1 < 2000000
theorem lk_own {L : List (Nat × Ct)} {G : GL} {i : Nat} {c : Ct} (h : lk (L ++ gbox G) i = some c) : lk L i = some c ∨ (∃ p ∈ G,i = 2000000 + p.1 ∧ c = .pin p.1 p.2):=by
 rw [lk_append] at h
 split at h
 ·rename_i e;cases h;exact .inl e
 ·exact .inr (lk_gbox h)
theorem lk_own_low {L : List (Nat × Ct)} {G : GL} {i : Nat} {c : Ct} (h : lk L i = some c) : lk (L ++ gbox G) i = some c:=by
 rw [lk_append,h]
theorem lk_own_pin {L : List (Nat × Ct)} {G : GL} (hL : lowB L) (hn : (bls G).Nodup) {p : Nat × Obj} (hp : p ∈ G) : lk (L ++ gbox G) (2000000 + p.1) = some (.pin p.1 p.2):=by
 rw [lk_append]
 cases hl : lk L (2000000 + p.1) with
 |some c=>have:=hL _ (lk_mem hl);simp at this;omega
 |none=>exact lk_gbox_mem hn hp
section
variable {P : Program} {E : Env}
theorem mentS_slot {l : List (Nat × AV)} {b : List (Nat × Ct)} {d i : Nat} (h : mentS d l = false) : ((AState.mk l b).slot i).ment d = false:=by
 unfold AState.slot
 cases hl : lk l i with
 |none=>simp [AV.ment]
 |some x=>simpa using mentS_lk hl h
theorem AYield_of {l : Nat} {args : List AV} {s : AState} {d : Option Tmp} {K : AState → Prop} {G : GL} {Hx : Heap} {Pre Post : Heap → GL → Prop} {L : List (Nat × Ct)} (hY : YSpec P l args Pre Post) (hx : s.box 1999999 = some (.hp Hx))
 (hb : s.b = L ++ gbox G) (hL : lowB L) (hG : GOk G) (hp : Pre Hx G) (hi : idfL args = true) (hm : ∀ i,1999999 ≤ i → mentS i s.s = false ∧ mentB i L = false)
 (hk : ∀ Hx' G',Post Hx' G' → GOk G' → K ((AState.mk s.s ((1999999,.hp Hx') :: L ++ gbox G')).put d (.v (.bool true)))) : AYield P E l args s d K:=by
 refine ⟨fun H ρ a w vs hs hr hd=>?_⟩
 have hbx : s.box = lk (L ++ gbox G):=by unfold AState.box;rw [hb]
 have hpin : ∀ p ∈ G,s.box (2000000 + p.1) = some (.pin p.1 p.2):=fun p hp=>by rw [hbx];exact lk_own_pin hL hG.nodup hp
 have hpr : ∀ p ∈ G,ρ (2000000 + p.1) = .at p.1 0 ∧ w.heap[p.1]? = some p.2:=fun p hp=>by
  obtain ⟨h1,h2,_⟩:=hs.boxes.rep _ _ (hpin p hp)
  exact ⟨h1,h2⟩
 have hhold : holds G w:=fun p hp=>(hpr p hp).2
 have hap : apartG G H:=by
  intro b hb o
  obtain ⟨p,hp,rfl⟩:=List.mem_map.1 hb
  exact (hs.boxes.apart _ _ _ _ (hpin p hp) (hpr p hp).1).1 o
 have hmine : ∀ b ∈ bls G,E.mine b:=by
  intro b hb
  obtain ⟨p,hp,rfl⟩:=List.mem_map.1 hb
  exact (hs.boxes.apart _ _ _ _ (hpin p hp) (hpr p hp).1).2.2
 obtain ⟨fn,tmps,assign,body,hy,hR⟩:=hY G Hx H w vs hp hG (hs.boxes.rep _ _ hx).2 hs.ext hhold hap (hr.idf hi)
 refine ⟨fn,tmps,assign,body,hy,RoundIn.mono hR ?_⟩
 rintro e w' ⟨rfl,G',hpost,hn⟩
 refine ⟨_,rfl,(AState.mk s.s ((1999999,.hp H) :: L ++ gbox G')).put d (.v (.bool true)),H,fun i=>if 2000000 ≤ i ∧ i - 2000000 ∈ bls G' then .at (i - 2000000) 0 else ρ i,hk H G' hpost hn.ok,?_⟩
 rw [AState.slot_put,AState.box_put]
 refine Sim.put ?_ hd (.v rfl)
 have hlow : ∀ i c,lk L i = some c → i < 2000000:=fun i c hc=>hL _ (lk_mem hc)
 have hnotG : ∀ i c b cap,lk L i = some c → ρ i = .at b cap → b ∉ bls G:=by
  intro i c b cap hc hb hmem
  obtain ⟨p,hp,rfl⟩:=List.mem_map.1 hmem
  have:=hs.boxes.inj i (2000000 + p.1) c _ p.1 cap 0 (by rw [hbx];exact lk_own_low hc) (hpin p hp) hb (hpr p hp).1
  have:=hlow i c hc
  omega
 have hblk : ∀ i c b cap,lk L i = some c → ρ i = .at b cap → b < w.heap.size ∧ w'.heap[b]? = w.heap[b]?:=by
  intro i c b cap hc hb
  have h1:=(hs.boxes.apart i c b cap (by rw [hbx];exact lk_own_low hc) hb).2.1
  exact ⟨h1,hn.frame.block b h1 (hnotG i c b cap hc hb)⟩
 have hlowρ : ∀ i,i < 2000000 → (if 2000000 ≤ i ∧ i - 2000000 ∈ bls G' then Bd.at (i - 2000000) 0 else ρ i) = ρ i:=fun i hi=>by rw [if_neg (fun h=>by omega)]
 have hsz:=hn.frame.size
 have hρx:=(hs.boxes.rep _ _ hx).1
 have hL1 : lowB ((1999999,Ct.hp H) :: L):=by
  intro p hp
  rcases List.mem_cons.1 hp with rfl|hp
  ·exact (by decide : (1999999 : Nat) < 2000000)
  ·exact hL p hp
 have own1 : ∀ {i c},lk ((1999999,Ct.hp H) :: L ++ gbox G') i = some c → (i = 1999999 ∧ c = .hp H) ∨ lk L i = some c ∨ (∃ p ∈ G',i = 2000000 + p.1 ∧ c = .pin p.1 p.2):=by
  intro i c hc
  rcases lk_own hc with h|h
  ·simp only [lk] at h
   split at h
   ·rename_i e;cases h;exact .inl ⟨e.symm,rfl⟩
   ·exact .inr (.inl h)
  ·exact .inr (.inr h)
 have hρ9 : (if 2000000 ≤ 1999999 ∧ 1999999 - 2000000 ∈ bls G' then Bd.at (1999999 - 2000000) 0 else ρ 1999999) = .no:=by rw [if_neg (fun h=>absurd h.1 (by decide))];exact hρx
 refine ⟨fun b o v hv=>?_,fun i=>?_,hs.size,hs.defers.frame hn.frame (fun D hD hmem=>?_),⟨fun i c hc=>?_,fun i c b cap hc hb=>?_,fun i i' c c' b cap cap' hc hc' hb hb'=>?_⟩,hs.h0,hs.new,?_,fun i hi hi2=>?_,hs.nle⟩
 ·have h0:=hs.ext b o v hv
  have hlt:=World.block_lt_of_cell? w _ h0
  simp only at hlt
  rw [World.cell?_of_block (w:=w) (a:=⟨b,o,none⟩) (hn.frame.block b hlt (fun hmem=>by rw [hap b hmem o] at hv;cases hv))]
  exact h0
 ·refine (hs.slots i).rho (fun x hx=>hlowρ x ?_)
  by_cases h : 2000000 ≤ x
  ·have h1:=(hm x (by omega)).1
   have h2:=mentS_slot (b:=s.b) (i:=i) h1
   rw [show s.slot i = (AState.mk s.s s.b).slot i from rfl,h2] at hx
   cases hx
  ·omega
 ·obtain ⟨p,hp,rfl⟩:=List.mem_map.1 hmem
  rw [hhold p hp] at hD
  cases p with
  |mk b o=>cases hD;exact hG.nd _ hp _ rfl
 ·rcases own1 hc with ⟨rfl,rfl⟩|h|⟨p,hp,rfl,rfl⟩
  ·exact ⟨hρ9,H.le_refl⟩
  ·rw [hlowρ i (hlow i c h)]
   refine (hs.boxes.rep i c (by rw [hbx];exact lk_own_low h)).mono H.le_refl (fun x hx=>hlowρ x ?_) (fun b cap hb=>(hblk i c b cap h hb).2)
   by_cases hx2 : 2000000 ≤ x
   ·rw [mentB_lk h (hm x (by omega)).2] at hx
    cases hx
   ·omega
  ·rw [if_pos ⟨by omega,by rw [Nat.add_sub_cancel_left];exact List.mem_map_of_mem hp⟩,Nat.add_sub_cancel_left]
   exact ⟨rfl,hn.hold p hp,hn.ok.nd p hp⟩
 ·rcases own1 hc with ⟨rfl,rfl⟩|h|⟨p,hp,rfl,rfl⟩
  ·rw [hρ9] at hb;cases hb
  ·rw [hlowρ i (hlow i c h)] at hb
   obtain ⟨h1,h2,h3⟩:=hs.boxes.apart i c b cap (by rw [hbx];exact lk_own_low h) hb
   exact ⟨h1,by omega,h3⟩
  ·rw [if_pos ⟨by omega,by rw [Nat.add_sub_cancel_left];exact List.mem_map_of_mem hp⟩,Nat.add_sub_cancel_left] at hb
   cases hb
   refine ⟨fun o=>?_,holds_lt hn.hold (List.mem_map_of_mem hp),?_⟩
   ·rcases hn.new p.1 (List.mem_map_of_mem hp) with h|h
    ·cases hh : H p.1 o with
     |none=>rfl
     |some v=>have:=World.block_lt_of_cell? w _ (hs.ext _ _ _ hh);simp at this;omega
    ·exact hap _ h o
   ·rcases hn.new p.1 (List.mem_map_of_mem hp) with h|h
    ·exact .inl (Nat.le_trans hs.frame.size h)
    ·exact hmine _ h
 ·have pin : ∀ p ∈ G',(if 2000000 ≤ 2000000 + p.1 ∧ 2000000 + p.1 - 2000000 ∈ bls G' then Bd.at (2000000 + p.1 - 2000000) 0 else ρ (2000000 + p.1)) = .at p.1 0:=fun p hp=>by
   rw [if_pos ⟨by omega,by rw [Nat.add_sub_cancel_left];exact List.mem_map_of_mem hp⟩,Nat.add_sub_cancel_left]
  have cross : ∀ i c p cap,lk L i = some c → p ∈ G' → ρ i = .at p.1 cap → False:=by
   intro i c p cap hc hp hb
   rcases hn.new p.1 (List.mem_map_of_mem hp) with h|h
   ·have:=(hblk i c _ _ hc hb).1;omega
   ·exact hnotG i c _ _ hc hb h
  rcases own1 hc with ⟨rfl,rfl⟩|h|⟨p,hp,rfl,rfl⟩
  ·rw [hρ9] at hb;cases hb
  all_goals rcases own1 hc' with ⟨rfl,rfl⟩|h'|⟨q,hq,rfl,rfl⟩
  ·rw [hρ9] at hb';cases hb'
  ·rw [hlowρ i (hlow i c h)] at hb
   rw [hlowρ i' (hlow i' c' h')] at hb'
   exact hs.boxes.inj i i' c c' b cap cap' (by rw [hbx];exact lk_own_low h) (by rw [hbx];exact lk_own_low h') hb hb'
  ·rw [hlowρ i (hlow i c h)] at hb
   rw [pin q hq] at hb'
   cases hb'
   exact (cross i c q cap h hq hb).elim
  ·rw [hρ9] at hb';cases hb'
  ·rw [hlowρ i' (hlow i' c' h')] at hb'
   rw [pin p hp] at hb
   cases hb
   exact (cross i' c' p cap' h' hp hb').elim
  ·rw [pin p hp] at hb
   rw [pin q hq] at hb'
   have:=(Bd.at.inj (hb.trans rfl)).1
   have:=(Bd.at.inj (hb'.trans rfl)).1
   omega
 ·refine hs.frame.trans hn.frame (fun k hk hown=>?_)
  rcases hmine k hown with h|h
  ·omega
  ·exact h
 ·show (if 2000000 ≤ i ∧ i - 2000000 ∈ bls G' then Bd.at (i - 2000000) 0 else ρ i) = E.r0 i
  rw [hlowρ i hi2]
  exact hs.keep i hi hi2
theorem ISpecG_of {f : FuncId} {fn : Func} {c : Code} {GP : GL} {caps : List AV} {ok : List (List AV) → List AV → Prop} {S : List (List AV) → Prop} (hf : P.funcs[f]? = some fn) (hb : fn.body = some c) (hname : (fn.name == "runtime.NumGoroutine") = false)
 (hn : caps.length + 1 ≤ fn.ntmps) (hnl : fn.ntmps ≤ 1000000) (hc : idfL caps = true)
 (h : ∀ (l : Nat) (J : List (List AV) → Heap → GL → Prop) (E : Env),E.n = fn.ntmps → (∀ pre Hx G,J pre Hx G → ∀ p ∈ GP,p ∈ G) → (∀ pre x,ok pre x → YSpec P l x (J pre) (J (pre ++ [x]))) → ∀ Hx G,J [] Hx G → GOk G →
   AW P E c ⟨argSlots 0 (.fn (.yield l) [] [] :: caps),(1999999,.hp Hx) :: gbox G⟩ (retQ P fn (fun _ s=>∃ L Hx' G' xs,s.box 1999999 = some (.hp Hx') ∧ s.b = L ++ gbox G' ∧ lowB L ∧ GOk G' ∧ S xs ∧ J xs Hx' G'))) : ISpecG P f GP caps ok S:=by
 refine ⟨ent_of hf hname hb,fun l J hJP hY G H w vs hJ hG he hh hap hr=>?_⟩
 let ρ : Rho:=fun i=>if i = 1999999 then .no else .at (i - 2000000) 0
 have hlk : ∀ id c,lk ((1999999,Ct.hp H) :: gbox G) id = some c → (id = 1999999 ∧ c = .hp H) ∨ ∃ p ∈ G,id = 2000000 + p.1 ∧ c = .pin p.1 p.2:=fun id c hc=>by
  simp only [lk] at hc
  split at hc
  ·rename_i e;cases hc;exact .inl ⟨e.symm,rfl⟩
  ·exact .inr (lk_gbox hc)
 have hρ9 : ρ 1999999 = .no:=rfl
 have hρp : ∀ b,ρ (2000000 + b) = .at b 0:=fun b=>by simp only [ρ];rw [if_neg (by omega),Nat.add_sub_cancel_left]
 have hOwn : ∀ b,OwnB ρ (lk ((1999999,Ct.hp H) :: gbox G)) b → b ∈ bls G:=by
  rintro b ⟨id,c,cap,hc,hb⟩
  rcases hlk id c hc with ⟨rfl,rfl⟩|⟨p,hp,rfl,rfl⟩
  ·rw [hρ9] at hb;cases hb
  ·rw [hρp] at hb
   cases hb
   exact List.mem_map_of_mem hp
 refine entry (P:=P) (bx:=(1999999,.hp H) :: gbox G) (ρ:=ρ) hf hb he ⟨fun id c hc=>?_,fun id c b cap hc hb=>?_,fun id id' c c' b cap cap' hc hc' hb hb'=>?_⟩ (hr.idf (ρ':=ρ) (by simpa [idfL,AV.idf] using hc)) (by simpa using hn) hnl _ (h l J _ rfl hJP hY H G hJ hG) ?_
 ·rcases hlk id c hc with ⟨rfl,rfl⟩|⟨p,hp,rfl,rfl⟩
  ·exact ⟨hρ9,H.le_refl⟩
  ·exact ⟨hρp _,hh p hp,hG.nd p hp⟩
 ·rcases hlk id c hc with ⟨rfl,rfl⟩|⟨p,hp,rfl,rfl⟩
  ·rw [hρ9] at hb;cases hb
  ·rw [hρp] at hb
   cases hb
   exact ⟨hap _ (List.mem_map_of_mem hp),holds_lt hh (List.mem_map_of_mem hp),trivial⟩
 ·rcases hlk id c hc with ⟨rfl,rfl⟩|⟨p,hp,rfl,rfl⟩
  ·rw [hρ9] at hb;cases hb
  ·rcases hlk id' c' hc' with ⟨rfl,rfl⟩|⟨q,hq,rfl,rfl⟩
   ·rw [hρ9] at hb';cases hb'
   ·rw [hρp] at hb hb'
    have:=(Bd.at.inj (hb.trans rfl)).1
    have:=(Bd.at.inj (hb'.trans rfl)).1
    omega
 ·rintro x s H' ρ' a' w' v ⟨L,Hx',G',xs,hsx,hsb,hL,hG',hS,hJ'⟩ hs hrx
  refine ⟨⟨v,rfl⟩,G',xs,Hx',hS,hJ',fun b o v hv=>hs.ext b o v ((hs.boxes.rep _ _ hsx).2 b o v hv),fun b o v hv h0=>?_,hG',fun p hp=>?_,fun b hb=>?_,?_⟩
  ·rcases hs.new b o v ((hs.boxes.rep _ _ hsx).2 b o v hv) h0 with h|h
   ·exact .inl h
   ·exact .inr (hOwn _ h)
  ·have h1 : s.box (2000000 + p.1) = some (.pin p.1 p.2):=by unfold AState.box;rw [hsb];exact lk_own_pin hL hG'.nodup hp
   exact (hs.boxes.rep _ _ h1).2.1
  ·obtain ⟨p,hp,rfl⟩:=List.mem_map.1 hb
   have h1 : s.box (2000000 + p.1) = some (.pin p.1 p.2):=by unfold AState.box;rw [hsb];exact lk_own_pin hL hG'.nodup hp
   rcases (hs.boxes.apart _ _ p.1 0 h1 (hs.boxes.rep _ _ h1).1).2.2 with h|h
   ·exact .inl h
   ·exact .inr (hOwn _ h)
  ·exact ⟨hs.frame.os,hs.frame.tape,hs.frame.output,hs.frame.size,fun k hk hm=>hs.frame.block k hk (fun ho=>hm (hOwn k ho))⟩
theorem ISpec_of {f : FuncId} {fn : Func} {c : Code} {caps : List AV} {ok : List (List AV) → List AV → Prop} {S : List (List AV) → Prop} (hf : P.funcs[f]? = some fn) (hb : fn.body = some c) (hname : (fn.name == "runtime.NumGoroutine") = false)
 (hn : caps.length + 1 ≤ fn.ntmps) (hnl : fn.ntmps ≤ 1000000) (hc : idfL caps = true)
 (h : ∀ (l : Nat) (J : List (List AV) → Heap → GL → Prop) (E : Env),E.n = fn.ntmps → (∀ pre x,ok pre x → YSpec P l x (J pre) (J (pre ++ [x]))) → ∀ Hx G,J [] Hx G → GOk G →
   AW P E c ⟨argSlots 0 (.fn (.yield l) [] [] :: caps),(1999999,.hp Hx) :: gbox G⟩ (retQ P fn (fun _ s=>∃ L Hx' G' xs,s.box 1999999 = some (.hp Hx') ∧ s.b = L ++ gbox G' ∧ lowB L ∧ GOk G' ∧ S xs ∧ J xs Hx' G'))) : ISpec P f caps ok S :=
 let r:=ISpecG_of (GP:=[]) hf hb hname hn hnl hc (fun l J E hE _ hY=>h l J E hE hY)
 ⟨r.1,fun l J=>r.2 l J (fun _ _ _ _ p hp=>by cases hp)⟩
end
theorem leB_all {s : AState} : ∀ {l : List (Nat × Ct)},(∀ p ∈ l,s.box p.1 = some p.2) → leB s l
 |[],_=>trivial
 |(i,c) :: l,h=>⟨.inl (h (i,c) (by simp)),leB_all (fun p hp=>h p (List.mem_cons_of_mem _ hp))⟩
theorem leB_g {ss : List (Nat × AV)} {L : List (Nat × Ct)} {G : GL} (hL : lowB L) (hG : GOk G) : leB ⟨ss,L ++ gbox G⟩ (gbox G):=by
 refine leB_all fun p hp=>?_
 obtain ⟨q,hq,rfl⟩:=List.mem_map.1 hp
 exact lk_own_pin hL hG.nodup hq
end Go.Am
end
section
namespace Go.Am
open Go.RowKit
open Classical in
noncomputable def pinAll (w : World) (cond : Nat → Prop) : GL :=
 (List.range w.heap.size).filterMap fun b=>match w.heap[b]? with
   |some o=>if cond b ∧ notDef o then some (b,o) else none
   |none=>none
theorem mem_pinAll {w : World} {cond : Nat → Prop} {p : Nat × Obj} : p ∈ pinAll w cond ↔ cond p.1 ∧ w.heap[p.1]? = some p.2 ∧ notDef p.2:=by
 classical
 simp only [pinAll,List.mem_filterMap,List.mem_range]
 constructor
 ·rintro ⟨b,_,h⟩
  split at h
  ·rename_i o ho
   split at h
   ·rename_i hc;cases h;exact ⟨hc.1,ho,hc.2⟩
   ·cases h
  ·cases h
 ·rintro ⟨h1,h2,h3⟩
  refine ⟨p.1,(Array.getElem?_eq_some_iff.1 h2).1,?_⟩
  rw [h2]
  simp [h1,h3]
theorem pinAll_ok {w : World} {cond : Nat → Prop} : GOk (pinAll w cond):=by
 refine ⟨?_,fun p hp=>(mem_pinAll.1 hp).2.2⟩
 classical
 unfold bls pinAll List.Nodup
 rw [List.pairwise_map,List.pairwise_filterMap]
 refine List.Pairwise.imp ?_ (List.nodup_range (n:=w.heap.size))
 intro a a' hne b hb b' hb'
 have key : ∀ {a : Nat} {b : Nat × Obj},(match w.heap[a]? with|some o=>if cond a ∧ notDef o then some (a,o) else none|none=>none) = some b → b.1 = a:=by
  intro a b h
  split at h
  ·split at h
   ·cases h;rfl
   ·cases h
  ·cases h
 rw [key hb,key hb']
 exact hne
theorem mem_bls_pinAll {w : World} {cond : Nat → Prop} {b : Nat} : b ∈ bls (pinAll w cond) ↔ cond b ∧ ∃ o,w.heap[b]? = some o ∧ notDef o:=by
 constructor
 ·intro h
  obtain ⟨p,hp,rfl⟩:=List.mem_map.1 h
  obtain ⟨h1,h2,h3⟩:=mem_pinAll.1 hp
  exact ⟨h1,_,h2,h3⟩
 ·rintro ⟨h1,o,h2,h3⟩
  exact List.mem_map.2 ⟨(b,o),mem_pinAll.2 ⟨h1,h2,h3⟩,rfl⟩
def RoundOK (E : Env) : Prop:=match E.round with
 |none=>True
 |some l=>(∃ r,E.w0.heap[l]? = some (.loop r)) ∧ ¬ E.may l
structure St (Hx Hc : Heap) (re ρr : Rho) (bx : List (Nat × Ct)) (G : GL) (l : Nat) (w : World) : Prop where
 le : Hx.le Hc
 new : ∀ b o v,Hc b o = some v → Hx b o = none → b ∈ bls G ∧ b ≠ l
 ext : Ext Hc w
 boxes : Boxes Hc ρr (lk bx) w (fun b=>b ∈ bls G ∧ b ≠ l)
 keep : ∀ i,1000000 ≤ i → i < 2000000 → ρr i = re i
theorem holds_same {G : GL} {w w' : World} (h : holds G w) (h' : holds G w') {b : Nat} (hb : b ∈ bls G) : w'.heap[b]? = w.heap[b]?:=by
 obtain ⟨p,hp,rfl⟩:=List.mem_map.1 hb
 rw [h p hp,h' p hp]
theorem St.move {Hx Hc : Heap} {re ρr : Rho} {bx : List (Nat × Ct)} {G : GL} {l : Nat} {w w' : World} (h : St Hx Hc re ρr bx G l w) (hw : holds G w) (hw' : holds G w') (he : Ext Hx w') : St Hx Hc re ρr bx G l w':=by
 refine ⟨h.le,h.new,fun b o v hv=>?_,⟨fun id c hc=>?_,fun id c b cap hc hb=>?_,h.boxes.inj⟩,h.keep⟩
 ·cases hx : Hx b o with
  |some v' =>
   have:=h.le _ _ _ hx
   rw [hv] at this
   cases this
   exact he b o v hx
  |none =>
   rw [World.cell?_of_block (w:=w) (a:=⟨b,o,none⟩) (holds_same hw hw' (h.new b o v hv hx).1)]
   exact h.ext b o v hv
 ·exact (h.boxes.rep id c hc).mono Hc.le_refl (fun _ _=>rfl) (fun b cap hb=>holds_same hw hw' (h.boxes.apart id c b cap hc hb).2.2.1)
 ·obtain ⟨h1,_,h3⟩:=h.boxes.apart id c b cap hc hb
  exact ⟨h1,holds_lt hw' h3.1,h3⟩
def pslots : List Tmp → List AV → List (Nat × AV) → List (Nat × AV)
 |p :: ps,x :: xs,l=>pslots ps xs ((p,x) :: l)
 |_,_,l=>l
theorem pslots_rep {H : Heap} {ρ : Rho} : ∀ (ps : List Tmp) (xs : List AV) (us : List Value) (l : List (Nat × AV)) (t : Array Value),(∀ p ∈ ps,p < t.size) → RepL H ρ xs us → xs.length = ps.length →
 (∀ i,Rep H ρ ((AState.mk l []).slot i) (t.getD i undef)) → ∀ i,Rep H ρ ((AState.mk (pslots ps xs l) []).slot i) (((ps.zip us).foldl (fun t (p,v)=>t.setIfInBounds p v) t).getD i undef)
 |[],xs,us,l,t,_,_,hl,h,i=>by
  have : xs = []:=List.length_eq_zero_iff.1 (by simpa using hl)
  subst this
  simpa [pslots] using h i
 |p :: ps,[],us,l,t,_,_,hl,h,i=>by simp at hl
 |p :: ps,x :: xs,us,l,t,hp,hr,hl,h,i=>by
  obtain ⟨u,us',rfl,hu,hus⟩:=hr.cons_inv
  simp only [pslots,List.zip_cons_cons,List.foldl_cons]
  refine pslots_rep ps xs us' _ _ (fun q hq=>by rw [Array.size_setIfInBounds];exact hp q (List.mem_cons_of_mem _ hq)) hus (by simpa using hl) ?_ i
  intro j
  unfold AState.slot
  simp only [lk]
  rw [Array.getD_eq_getD_getElem?,Array.getElem?_setIfInBounds]
  split
  ·rename_i e
   subst e
   simp only [hp p (by simp),if_true,Option.getD_some]
   exact hu
  ·have:=h j
   unfold AState.slot at this
   rw [Array.getD_eq_getD_getElem?] at this
   exact this
theorem lk_renI {σ : Nat → Nat} (hσ : ∀ i,σ (σ i) = i) : ∀ {L : List (Nat × Ct)} {i : Nat},lk (L.map fun p=>(σ p.1,p.2.ren σ)) i = (lk L (σ i)).map (Ct.ren σ)
 |[],i=>rfl
 |p :: L,i=>by
  simp only [List.map_cons,lk]
  by_cases h : σ p.1 = i
  ·rw [if_pos h,if_pos (by rw [← h,hσ])];rfl
  ·rw [if_neg h,if_neg (fun e=>h (by rw [e,hσ])),lk_renI hσ]
theorem slot_renI {σ : Nat → Nat} {b b' : List (Nat × Ct)} : ∀ {L : List (Nat × AV)} {i : Nat},(AState.mk (L.map fun p=>(p.1,p.2.ren σ)) b).slot i = ((AState.mk L b').slot i).ren σ
 |[],i=>rfl
 |p :: L,i=>by
  have:=slot_renI (σ:=σ) (b:=b) (b':=b') (L:=L) (i:=i)
  unfold AState.slot at this ⊢
  simp only [List.map_cons,lk]
  split
  ·rfl
  ·exact this
section
variable {P : Program} {E : Env}
theorem enterLoop_ok {H : Heap} {ρ : Rho} {sf : Nat → AV} {bf : Nat → Option Ct} {a : Act} {w : World} (hs : Sim E H ρ sf bf a w) (hRO : RoundOK E) (fn : FuncId) (ps : Array Tmp) (assign body : Code) :
 ∃ l mark W1 r,(Instr.enterLoop fn a.tmps ps assign body E.round).run P w = .ok (l,mark) W1 ∧ (r.state = .ready ∧ r.pending = none ∧ r.tmps = a.tmps ∧ r.params = ps ∧ r.assign = assign ∧ r.body = body) ∧
   W1.heap[l]? = some (.loop r) ∧ w.heap.size ≤ l ∧ Bel w.heap.size w W1 ∧ DefOK E.w0.heap.size (mark ++ a.defers) W1:=by
 unfold RoundOK at hRO
 cases hr : E.round with
 |none =>
  refine ⟨_,_,_,{ state:=.ready,pending:=none,fn,tmps:=a.tmps,params:=ps,assign,body,defers:=w.heap.size },run_enterLoop_outer fn a.tmps ps assign body,⟨rfl,rfl,rfl,rfl,rfl,rfl⟩,?_,by omega,((Bel.refl _ w).alloc (Nat.le_refl _) _).alloc (by simp) _,?_⟩
  ·have:=World.alloc_heap_new (w.alloc (.deferred (some []))) (.loop { state:=.ready,pending:=none,fn,tmps:=a.tmps,params:=ps,assign,body,defers:=w.heap.size })
   rwa [World.size_alloc] at this
  ·have hb : Bel w.heap.size w ((w.alloc (.deferred (some []))).alloc (.loop { state:=.ready,pending:=none,fn,tmps:=a.tmps,params:=ps,assign,body,defers:=w.heap.size })):=((Bel.refl _ w).alloc (Nat.le_refl _) _).alloc (by simp) _
   obtain ⟨Ds,h1,h2,h3⟩:=hs.defers
   refine ⟨w.heap.size :: Ds,by rw [h1];rfl,?_,?_⟩
   ·rw [List.nodup_cons]
    refine ⟨fun hm=>?_,h2⟩
    have:=(Array.getElem?_eq_some_iff.1 (h3 _ hm).2).1
    omega
   ·intro D hD
    rcases List.mem_cons.1 hD with rfl|hD
    ·exact ⟨hs.frame.size,(Below.heap_alloc _ _ _ (by simp)).trans (World.alloc_heap_new w _)⟩
    ·obtain ⟨h4,h5⟩:=h3 D hD
     exact ⟨h4,(hb.block D (Array.getElem?_eq_some_iff.1 h5).1).trans h5⟩
 |some l₀ =>
  rw [hr] at hRO
  obtain ⟨⟨r₀,h0⟩,hm⟩:=hRO
  have hl : w.heap[l₀]? = some (.loop r₀):=(hs.frame.block l₀ (Array.getElem?_eq_some_iff.1 h0).1 hm).trans h0
  have hb : Bel w.heap.size w (w.alloc (.loop { state:=.ready,pending:=none,fn,tmps:=a.tmps,params:=ps,assign,body,defers:=r₀.defers })):=(Bel.refl _ w).alloc (Nat.le_refl _) _
  exact ⟨_,_,_,{ state:=.ready,pending:=none,fn,tmps:=a.tmps,params:=ps,assign,body,defers:=r₀.defers },run_enterLoop_inner hl fn a.tmps ps assign body,⟨rfl,rfl,rfl,rfl,rfl,rfl⟩,World.alloc_heap_new w _,Nat.le_refl _,hb,by simpa using hs.defers.bel hb⟩
theorem Ext.not_loop {H : Heap} {w : World} (he : Ext H w) {l : Nat} {r : Loop} (hl : w.heap[l]? = some (.loop r)) (o : Nat) : H l o = none:=by
 cases h : H l o with
 |none=>rfl
 |some v =>
  have:=he _ _ _ h
  simp [World.cell?,hl] at this
theorem Ext.put_loop {H : Heap} {w : World} (he : Ext H w) {l : Nat} {r : Loop} (hl : w.heap[l]? = some (.loop r)) (o : Obj) : Ext H (w.putObj l o):=by
 intro b k v hv
 have hne : b ≠ l:=by
  rintro rfl
  rw [he.not_loop hl] at hv
  cases hv
 rw [World.cell?_of_block (w:=w) (a:=⟨b,k,none⟩) (World.putObj_heap_other hne)]
 exact he b k v hv
structure Inner (E E' : Env) : Prop where
 n : E'.n = E.n
 ok : RoundOK E'
 r0 : ∀ i,1000000 ≤ i → i < 1500000 → E'.r0 i = E.r0 i
theorem AW_rangeFuncG {GP : GL} {g : Operand} {ps : Array Tmp} {assign body : Code} {s : AState} {Q : AExit → AState → Prop} {gf : FuncId} {caps : List AV} {ok : List (List AV) → List AV → Prop} {S : List (List AV) → Prop}
 {Γ : Type} (σ : Nat → Nat) (S0 : List (Nat × AV)) (B : Γ → List (Nat × Ct)) (R : List (List AV) → Γ → Prop) (g0 : Γ) (hR0 : R [] g0) (hRO : RoundOK E) (hI : ISpecG P gf GP caps ok S) (hGP : ∀ xs γ,R xs γ → ∀ p ∈ GP,lk (B γ) (2000000 + p.1) = some (.pin p.1 p.2)) (hg : s.eval g = .fn (.func gf) [] caps) (hc : idfL caps = true)
 (hps : ∀ pre x,ok pre x → x.length = ps.size ∧ idfL x = true) (hpn : ∀ p ∈ ps.toList,p < E.n)
 (hσ : ∀ i,σ (σ i) = i) (hσ2 : ∀ i,i < 2000000 → σ i < 2000000) (hσk : ∀ i,1000000 ≤ i → i < 1500000 → σ i = i)
 (hS : ∀ i,(AState.mk S0 []).slot i = .u ∨ (AState.mk S0 []).slot i = (s.slot i).ren σ)
 (hB0 : ∀ id c,lk (B g0) id = some c → ∃ c0,s.box (σ id) = some c0 ∧ c = c0.ren σ)
 (hSm : ∀ d,mentS d S0 = true → 1000000 ≤ d ∧ d < 2000000)
 (hBk : ∀ xs γ,S xs → R xs γ → ∀ d,d < 1000000 → σ d ≠ d → mentB d (B γ) = false ∧ lk (B γ) d = none)
 (hround : ∀ E',Inner E E' → ∀ pre x γ,ok pre x → R pre γ → AW P E' assign ⟨pslots ps.toList x S0,B γ⟩ (thenK (fun s1=>∀ E'',Inner E E'' → AW P E'' body s1 (thenK (fun s2=>∃ γ',R (pre ++ [x]) γ' ∧ s2.le ⟨[],B γ'⟩) (fun _ _=>False))) (fun _ _=>False)))
 (hdone : ∀ xs γ,S xs → R xs γ → Q .normal ⟨S0.map fun p=>(p.1,p.2.ren σ),(B γ).map fun p=>(σ p.1,p.2.ren σ)⟩) : AW P E (.rangeFunc g ps assign body) s Q:=by
 intro H ρ a w hs
 refine wpIn_rangeFunc ?_
 intro fn _
 have hge:=hs.eval g
 unfold AState.eval at hg
 rw [hg] at hge
 obtain ⟨us,lb,hav,hus,hlb⟩:=fn_inv hge
 rw [hus.nil_inv] at hav
 obtain ⟨l,mark,W1,r,hrun,⟨hr1,hr2,hr3,hr4,hr5,hr6⟩,hl,hwl,hbel,hdef⟩:=enterLoop_ok (P:=P) hs hRO fn ps assign body
 have hlW:=(Array.getElem?_eq_some_iff.1 hl).1
 have hext1 : Ext H W1:=fun b o v hv=>by
  have h0:=hs.ext b o v hv
  have hlt:=World.block_lt_of_cell? w _ h0
  rw [World.cell?_of_block (w:=w) (a:=⟨b,o,none⟩) (hbel.block b hlt)]
  exact h0
 let re : Rho:=fun i=>ρ (σ i)
 obtain ⟨G0,hG0⟩ : ∃ G0,G0 = pinAll W1 (fun b=>b = l ∨ ∃ id c cap,lk (B g0) id = some c ∧ re id = .at b cap):=⟨_,rfl⟩
 have hbox0 : ∀ id c,lk (B g0) id = some c → CtRep H re W1 (re id) c ∧ ∀ b cap,re id = .at b cap → (∀ o,H b o = none) ∧ b < w.heap.size ∧ E.mine b:=by
  intro id c hcc
  obtain ⟨c0,h1,rfl⟩:=hB0 id c hcc
  refine ⟨?_,fun b cap hb=>?_⟩
  ·refine CtRep.ren ((hs.boxes.rep _ _ h1).mono H.le_refl (fun _ _=>rfl) (fun b cap hb=>hbel.block b (hs.boxes.apart _ _ b cap h1 hb).2.1)) (fun d _=>?_)
   simp only [re,hσ]
  ·exact hs.boxes.apart _ _ b cap h1 hb
 have hG0mem : ∀ b ∈ bls G0,b = l ∨ ∃ id c cap,lk (B g0) id = some c ∧ re id = .at b cap:=fun b hb=>by
  rw [hG0] at hb
  exact (mem_bls_pinAll.1 hb).1
 have hap0 : apartG G0 H:=by
  intro b hb o
  rcases hG0mem b hb with rfl|⟨id,c,cap,h1,h2⟩
  ·exact hext1.not_loop hl o
  ·exact ((hbox0 id c h1).2 b cap h2).1 o
 have hmine0 : ∀ b ∈ bls G0,b ≠ l → E.mine b:=by
  intro b hb hne
  rcases hG0mem b hb with h|⟨id,c,cap,h1,h2⟩
  ·exact absurd h hne
  ·exact ((hbox0 id c h1).2 b cap h2).2.2
 have hhold0 : holds G0 W1:=fun p hp=>by
  rw [hG0] at hp
  exact (mem_pinAll.1 hp).2.1
 have hok0 : GOk G0:=by rw [hG0];exact pinAll_ok
 have hmem0 : (l,Obj.loop r) ∈ G0:=by
  rw [hG0]
  exact mem_pinAll.2 ⟨.inl rfl,hl,fun x e=>by cases e⟩
 let J : List (List AV) → Heap → GL → Prop:=fun pre Hx G=>(l,Obj.loop r) ∈ G ∧ H.le Hx ∧ ∃ w3 Hc ρr γ,R pre γ ∧ holds G w3 ∧ Ext Hx w3 ∧ St Hx Hc re ρr (B γ) G l w3
 have hslot0 : ∀ i,Rep H re ((AState.mk S0 []).slot i) (a.tmps.getD i undef):=by
  intro i
  rcases hS i with e|e
  ·rw [e];exact .u
  ·rw [e];exact (hs.slots i).ren (fun d _=>by simp only [re,hσ])
 have hmentS : ∀ i d,((AState.mk S0 []).slot i).ment d = true → 1000000 ≤ d ∧ d < 2000000:=by
  intro i d hd
  by_cases h : mentS d S0 = true
  ·exact hSm d h
  ·rw [mentS_slot (b:=[]) (i:=i) (by simpa using h)] at hd;cases hd
 have hY : ∀ pre x,ok pre x → YSpec P l x (J pre) (J (pre ++ [x])):=by
  rintro pre x hox G Hx H2 w2 vs ⟨hmem,hle,w3,Hc,ρr,γ,hRg,hh3,he3,hSt⟩ hGok hxle hext hh hap hrep
  have hextx : Ext Hx w2:=fun b o v hv=>hext b o v (hxle b o v hv)
  have hSt:=hSt.move hh3 hh hextx
  have hl2 : w2.heap[l]? = some (.loop r):=hh _ hmem
  have hlG : l ∈ bls G:=List.mem_map_of_mem hmem
  have hll:=(Array.getElem?_eq_some_iff.1 hl2).1
  obtain ⟨hxl,hxi⟩:=hps pre x hox
  have hvl : vs.length = ps.size:=by rw [← hrep.1];exact hxl
  refine ⟨r.fn,_,r.assign,r.body,run_yield hl2 (by rw [hr4];simpa using hvl),roundIn_of_wpIn trivial ?_⟩
  rw [hr3,hr4,hr5,hr6]
  let Hm : Heap:=fun b o=>match H2 b o with|some v=>some v|none=>Hc b o
  have hHm1 : H2.le Hm:=fun b o v hv=>by simp only [Hm,hv]
  have hHm2 : Hc.le Hm:=fun b o v hv=>by
   simp only [Hm]
   cases h2 : H2 b o with
   |none=>exact hv
   |some v' =>
    have h3:=hext _ _ _ h2
    rw [hSt.ext _ _ _ hv] at h3
    rw [h3]
  have hHm3 : Ext Hm w2:=fun b o v hv=>by
   simp only [Hm] at hv
   split at hv
   ·rename_i v' h2;cases hv;exact hext _ _ _ h2
   ·exact hSt.ext _ _ _ hv
  have hHmn : ∀ b,b ∈ bls G → (∀ o,Hc b o = none) → ∀ o,Hm b o = none:=fun b hb h o=>by simp only [Hm,hap b hb o,h o]
  let Ea : Env:=⟨w2,Hm,fun b=>b ∈ bls G ∧ b ≠ l,E.n,ρr,some l⟩
  have hEa : Inner E Ea:=⟨rfl,⟨⟨r,hl2⟩,fun h=>h.2 rfl⟩,fun i h1 h2=>by
   show ρr i = E.r0 i
   rw [hSt.keep i h1 (by omega)]
   show ρ (σ i) = E.r0 i
   rw [hσk i h1 h2]
   exact hs.keep i h1 (by omega)⟩
  have hsa : Sim Ea Hm ρr (AState.mk (pslots ps.toList x S0) (B γ)).slot (AState.mk (pslots ps.toList x S0) (B γ)).box { tmps:=(ps.zip vs.toArray).foldl (fun t (p,v)=>t.setIfInBounds p v) a.tmps,defers:=[] } w2:=by
   have hfold : (ps.zip vs.toArray).foldl (fun t (p,v)=>t.setIfInBounds p v) a.tmps = (ps.toList.zip vs).foldl (fun t (p,v)=>t.setIfInBounds p v) a.tmps:=by
    rw [← Array.foldl_toList,Array.toList_zip]
   have hsize : ∀ (l : List (Nat × Value)) (t : Array Value),(l.foldl (fun t (p,v)=>t.setIfInBounds p v) t).size = t.size:=by
    intro l
    induction l with
    |nil=>intro t;rfl
    |cons p l ih=>intro t;simp only [List.foldl_cons];rw [ih];simp
   refine ⟨hHm3,fun i=>?_,?_,DefOK.nil,⟨fun id c h=>?_,fun id c b cap h hb=>?_,hSt.boxes.inj⟩,Hm.le_refl,fun b o v hv h0=>?_,FrameBut.refl _ _,fun _ _ _=>rfl,hs.nle⟩
   ·rw [hfold]
    refine pslots_rep ps.toList x vs S0 a.tmps (fun p hp=>by rw [hs.size];exact hpn p hp) ((hrep.mono hHm1).idf hxi) (by simpa using hxl) (fun j=>?_) i
    refine ((hslot0 j).mono (Heap.le_trans hle (Heap.le_trans hxle hHm1))).rho (fun d hd=>?_)
    obtain ⟨h1,h2⟩:=hmentS j d hd
    exact hSt.keep d h1 h2
   ·rw [hfold,hsize];exact hs.size
   ·exact (hSt.boxes.rep id c h).mono hHm2 (fun _ _=>rfl) (fun _ _ _=>rfl)
   ·obtain ⟨h1,h2,h3⟩:=hSt.boxes.apart id c b cap h hb
    exact ⟨hHmn b h3.1 h1,h2,.inr h3⟩
   ·rw [show Hm b o = none from h0] at hv;cases hv
  refine wpIn_mono (hround Ea hEa pre x γ hox hRg Hm ρr _ w2 hsa) ?_
  intro e a1 w3' hp
  cases e <;> simp only [post,thenK,Exit.then] at hp ⊢
  ·obtain ⟨s1,H1,ρ1,hk1,hs1⟩:=hp
   have hl3 : w3'.heap[l]? = some (.loop r):=(hs1.frame.block l hll (fun h=>h.2 rfl)).trans hl2
   have hl3l:=(Array.getElem?_eq_some_iff.1 hl3).1
   refine ⟨_,run_beginRound hl3 hr1,?_⟩
   let Eb : Env:=⟨w2.putObj l (.loop { r with state:=.busy }),Hm,fun b=>b ∈ bls G ∧ b ≠ l,E.n,ρr,some l⟩
   have hEb : Inner E Eb:=⟨rfl,⟨⟨_,World.putObj_heap_same hll⟩,fun h=>h.2 rfl⟩,hEa.r0⟩
   have hnel : ∀ id c b cap,s1.box id = some c → ρ1 id = .at b cap → b ≠ l:=by
    rintro id c b cap hc hb rfl
    rcases (hs1.boxes.apart id c _ cap hc hb).2.2 with h|h
    ·exact absurd hll (Nat.not_lt.2 h)
    ·exact h.2 rfl
   have hoth : ∀ (w : World) (o : Obj) (k : Nat),k ≠ l → (w.putObj l o).heap[k]? = w.heap[k]?:=fun w o k hk=>World.putObj_heap_other hk
   have hsb : Sim Eb H1 ρ1 s1.slot s1.box a1 (w3'.putObj l (.loop { r with state:=.busy })):=by
    refine ⟨hs1.ext.put_loop hl3 _,hs1.slots,hs1.size,?_,⟨fun id c h=>?_,fun id c b cap h hb=>?_,hs1.boxes.inj⟩,hs1.h0,fun b o v hv h0=>?_,?_,hs1.keep,hs1.nle⟩
    ·have:=hs1.defers.of_same (w':=w3'.putObj l (.loop { r with state:=.busy })) (fun D hD=>hoth _ _ D (by rintro rfl;rw [hl3] at hD;cases hD))
     simpa [Eb] using this
    ·exact (hs1.boxes.rep id c h).mono H1.le_refl (fun _ _=>rfl) (fun b cap hb=>hoth _ _ b (hnel id c b cap h hb))
    ·obtain ⟨g1,g2,g3⟩:=hs1.boxes.apart id c b cap h hb
     exact ⟨g1,by simpa using g2,by simpa [Eb,Env.mine] using g3⟩
    ·have:=hs1.new b o v hv h0
     simpa [Eb,Env.mine] using this
    ·refine ⟨hs1.frame.os,hs1.frame.tape,hs1.frame.output,by simpa [Eb] using hs1.frame.size,fun k hk hm=>?_⟩
     by_cases hkl : k = l
     ·subst hkl
      show _ = (w2.putObj k _).heap[k]?
      rw [World.putObj_heap_same hll,World.putObj_heap_same hl3l]
     ·show _ = (w2.putObj l _).heap[k]?
      rw [hoth _ _ k hkl,hoth _ _ k hkl]
      exact hs1.frame.block k (by simpa [Eb] using hk) hm
   refine wpIn_mono (hk1 Eb hEb H1 ρ1 a1 _ hsb) ?_
   intro e a2 w4 hp
   cases e <;> simp only [post,thenK,roundPost] at hp ⊢
   ·obtain ⟨s2,H4,ρ4,⟨γ',hRg',hle2⟩,hs2⟩:=hp
    have hs3:=hs2.le hle2
    have hl4 : w4.heap[l]? = some (.loop { r with state:=.busy }):=(hs2.frame.block l (by simpa [Eb] using hll) (fun h=>h.2 rfl)).trans (World.putObj_heap_same hll)
    have hl4l:=(Array.getElem?_eq_some_iff.1 hl4).1
    have hrr : ({ ({ r with state:=LoopState.busy } : Loop) with state:=if (none : Option Code).isNone then .ready else .done,pending:=none } : Loop) = r:=by
     cases r
     simp only at hr1 hr2
     subst hr1 hr2
     rfl
    have hend:=run_endRound (P:=P) none hl4
    rw [hrr] at hend
    refine ⟨_,_,hend,rfl,pinAll (w4.putObj l (.loop r)) (fun b=>b ∈ bls G ∨ w2.heap.size ≤ b),?_,?_⟩
    ·
     have hmine : ∀ b,Eb.mine b → b ∈ bls G ∧ b ≠ l ∨ w2.heap.size ≤ b:=fun b h=>by
      rcases h with h|h
      ·exact .inr (by simpa [Eb] using h)
      ·exact .inl h
     have hne4 : ∀ b,Eb.mine b → b ≠ l:=by
      rintro b h rfl
      rcases hmine _ h with h|h
      ·exact h.2 rfl
      ·omega
     refine ⟨mem_pinAll.2 ⟨.inl hlG,World.putObj_heap_same hl4l,fun x e=>by cases e⟩,Heap.le_trans hle hxle,w4.putObj l (.loop r),H4,ρ4,γ',hRg',fun p hp=>(mem_pinAll.1 hp).2.1,?_,⟨?_,fun b o v hv h0=>?_,hs2.ext.put_loop hl4 _,⟨fun id c h=>?_,fun id c b cap h hb=>?_,hs3.boxes.inj⟩,fun i h1 h2=>?_⟩⟩
     ·exact Ext.put_loop (fun b o v hv=>hs2.ext b o v (hs2.h0 _ _ _ (hHm1 _ _ _ hv))) hl4 _
     ·exact Heap.le_trans hHm1 hs2.h0
     ·have hcell:=hs2.ext b o v hv
      have hobj : ∃ ob,w4.heap[b]? = some ob ∧ notDef ob:=by
       cases hob : w4.heap[b]? with
       |none=>simp [World.cell?,hob] at hcell
       |some ob=>exact ⟨ob,rfl,by rintro x rfl;simp [World.cell?,hob] at hcell⟩
      have hbl : b ≠ l:=by
       rintro rfl
       rw [hs2.ext.not_loop hl4] at hv
       cases hv
      refine ⟨mem_bls_pinAll.2 ⟨?_,by rw [hoth _ _ b hbl];exact hobj⟩,hbl⟩
      cases hm : Hm b o with
      |some v' =>
       simp only [Hm,h0] at hm
       left
       cases hx : Hx b o with
       |some v''=>rw [hxle _ _ _ hx] at h0;cases h0
       |none=>exact (hSt.new b o v' hm hx).1
      |none =>
       rcases hmine b (hs2.new b o v hv hm) with h|h
       ·exact .inl h.1
       ·exact .inr h
     ·exact (hs3.boxes.rep id c h).mono H4.le_refl (fun _ _=>rfl) (fun b cap hb=>hoth _ _ b (hne4 b (hs3.boxes.apart id c b cap h hb).2.2))
     ·obtain ⟨g1,g2,g3⟩:=hs3.boxes.apart id c b cap h hb
      have hbl:=hne4 b g3
      refine ⟨g1,by simpa using g2,mem_bls_pinAll.2 ⟨?_,?_⟩,hbl⟩
      ·rcases hmine b g3 with h|h
       ·exact .inl h.1
       ·exact .inr h
      ·rw [hoth _ _ b hbl]
       have:=hs3.boxes.rep id c h
       rw [hb] at this
       exact this.obj
     ·rw [hs3.keep i h1 h2]
      exact hSt.keep i h1 h2
    ·refine ⟨pinAll_ok,fun p hp=>(mem_pinAll.1 hp).2.1,fun b hb=>?_,hs2.frame.os,hs2.frame.tape,hs2.frame.output,by simpa [Eb] using hs2.frame.size,fun k hk hm=>?_⟩
     ·exact (mem_bls_pinAll.1 hb).1.symm
     ·have hkl : k ≠ l:=by rintro rfl;exact hm hlG
      rw [hoth _ _ k hkl]
      have:=hs2.frame.block k (by simpa [Eb] using hk) (fun h=>hm h.1)
      rw [this]
      exact hoth _ _ k hkl
   ·obtain ⟨s2,H4,ρ4,hf,_⟩:=hp;exact hf.elim
   ·obtain ⟨s2,H4,ρ4,hf,_⟩:=hp;exact hf.elim
  ·obtain ⟨s1,H1,ρ1,hf,_⟩:=hp;exact hf.elim
  ·obtain ⟨s1,H1,ρ1,hf,_⟩:=hp;exact hf.elim
 have hJP : ∀ pre Hx G,J pre Hx G → ∀ p ∈ GP,p ∈ G:=by
  rintro pre Hx G ⟨_,_,w3,Hc,ρr,γ,hRg,hh3,_,hSt⟩ p hp
  have hlk:=hGP pre γ hRg p hp
  obtain ⟨h1,h2,_⟩:=hSt.boxes.rep _ _ hlk
  obtain ⟨q,hq,e⟩:=List.mem_map.1 (hSt.boxes.apart _ _ _ _ hlk h1).2.2.1
  have h3:=hh3 q hq
  rw [e,h2] at h3
  have h4 : q = p:=Prod.ext e (by first|exact Option.some.inj h3|exact (Option.some.inj h3).symm)
  rw [← h4]
  exact hq
 have hcall:=hI.2 l J hJP hY G0 H W1 (.func (.yield l) #[] #[] :: lb) ⟨hmem0,H.le_refl,W1,H,re,g0,hR0,hhold0,hext1,⟨H.le_refl,fun b o v h1 h2=>(by rw [h1] at h2;cases h2),hext1,⟨fun id c h=>(hbox0 id c h).1,fun id c b cap h hb=>?_,fun id id' c c' b cap cap' h h' hb hb'=>?_⟩,fun _ _ _=>rfl⟩⟩ hok0 hext1 hhold0 hap0
  (RepL.cons (Rep.fn (us:=[]) (vs:=[]) rfl rfl (by simp) (by simp)) (hlb.idf hc))
 ·refine ⟨l,mark,W1,{ target:=.fn (.func gf) lb.toArray,args:=#[.func (.yield l) #[] #[]] },W1,gf,#[.func (.yield l) #[] #[]] ++ lb.toArray,W1,hrun,?_,fun _ _=>trivial,?_,fun h=>by simp [Env.fence,fenceR,Fence.wide] at h,?_⟩
  ·simp only [resolve,rangeCall,hav]
   simp [go_sem,Deferred.ofValue]
  ·simp only [invoke];rw [hI.1]
  ·rw [show #[Value.func (.yield l) #[] #[]] ++ lb.toArray = (Value.func (.yield l) #[] #[] :: lb).toArray by simp]
   refine callsIn_R.2 (Calls.mono hcall ?_)
   rintro e w' ⟨⟨v,rfl⟩,G',xs,Hx,hSx,⟨hmem,hle,w3,Hc,ρr,γ,hRg,hh3,he3,hSt⟩,hextx,hnewx,hnext⟩
   have hSt:=hSt.move hh3 hnext.hold hextx
   have hl' : w'.heap[l]? = some (.loop r):=hnext.hold _ hmem
   have hll:=(Array.getElem?_eq_some_iff.1 hl').1
   have hend:=run_endLoop (P:=P) hl' (by rw [hr1];simp)
   rw [hr2] at hend
   have hoth : ∀ (w : World) (o : Obj) (k : Nat),k ≠ l → (w.putObj l o).heap[k]? = w.heap[k]?:=fun w o k hk=>World.putObj_heap_other hk
   refine ⟨none,_,hend,?_⟩
   let ρf : Rho:=fun i=>if 1000000 ≤ i ∧ i < 2000000 then ρ i else ρr (σ i)
   have hused : ∀ d,(d < 1000000 → σ d = d) → ρf (σ d) = ρr d:=by
    intro d hd
    simp only [ρf]
    split
    ·rename_i h
     have hd1 : 1000000 ≤ d:=by
      by_cases h1 : d < 1000000
      ·rw [hd h1] at h;omega
      ·omega
     have hd2 : d < 2000000:=by
      have:=hσ2 (σ d) h.2
      rwa [hσ] at this
     rw [hSt.keep d hd1 hd2]
    ·rw [hσ]
   have hment : ∀ d,mentB d (B γ) = true → ρf (σ d) = ρr d:=fun d hm=>hused d (fun h=>by
    by_cases e : σ d = d
    ·exact e
    ·rw [(hBk xs γ hSx hRg d h e).1] at hm;cases hm)
   have hid : ∀ i c,lk (B γ) i = some c → ρf (σ i) = ρr i:=fun i c hc=>hused i (fun h=>by
    by_cases e : σ i = i
    ·exact e
    ·rw [(hBk xs γ hSx hRg i h e).2] at hc;cases hc)
   have hbx : ∀ i c',lk ((B γ).map fun p=>(σ p.1,p.2.ren σ)) i = some c' → ∃ c,lk (B γ) (σ i) = some c ∧ c' = c.ren σ ∧ ρf i = ρr (σ i):=by
    intro i c' h
    rw [lk_renI hσ,Option.map_eq_some_iff] at h
    obtain ⟨c,h1,rfl⟩:=h
    have:=hid _ _ h1
    rw [hσ] at this
    exact ⟨c,h1,rfl,this⟩
   have hmineG : ∀ b,b ∈ bls G' → b ≠ l → E.mine b:=by
    intro b hb hne
    rcases hnext.new b hb with h|h
    ·exact .inl (Nat.le_trans hs.frame.size (Nat.le_trans hbel.size h))
    ·exact hmine0 b h hne
   refine ⟨_,Hc,ρf,hdone xs γ hSx hRg,hSt.ext.put_loop hl' _,fun i=>?_,hs.size,?_,⟨fun id c h=>?_,fun id c b cap h hb=>?_,fun id id' c c' b cap cap' h h' hb hb'=>?_⟩,Heap.le_trans hs.h0 (Heap.le_trans hle hSt.le),fun b o v hv h0=>?_,?_,fun i h1 h2=>?_,hs.nle⟩
   ·rw [slot_renI (b':=[])]
    rcases hS i with e|e
    ·rw [e];exact .u
    ·have hrep:=((hslot0 i).mono (Heap.le_trans hle hSt.le)).ren (σ:=σ) (ρ':=ρf) (fun d hd=>?_)
     ·exact hrep
     ·obtain ⟨h1,h2⟩:=hmentS i d (ids_ment d _ hd)
      rw [hused d (fun h=>by omega)]
      exact hSt.keep d h1 h2
   ·refine (hdef.frame hnext.frame (fun D hD hmem=>?_)).of_same (fun D hD=>hoth _ _ D (by rintro rfl;rw [hl'] at hD;cases hD))
    obtain ⟨p,hp,rfl⟩:=List.mem_map.1 hmem
    rw [hhold0 p hp] at hD
    cases p with
    |mk b o=>cases hD;exact hok0.nd _ hp _ rfl
   ·obtain ⟨c0,h1,rfl,h2⟩:=hbx id c h
    rw [h2]
    refine ((hSt.boxes.rep _ _ h1).mono Hc.le_refl (fun _ _=>rfl) (fun b cap hb=>hoth _ _ b (hSt.boxes.apart _ _ b cap h1 hb).2.2.2)).ren (fun d hd=>?_)
    have hm:=ids_mentC d hd
    refine hment d ?_
    by_cases hmb : mentB d (B γ) = true
    ·exact hmb
    ·rw [mentB_lk h1 (by simpa using hmb)] at hm;cases hm
   ·obtain ⟨c0,h1,rfl,h2⟩:=hbx id c h
    rw [h2] at hb
    obtain ⟨g1,g2,g3⟩:=hSt.boxes.apart _ _ b cap h1 hb
    exact ⟨g1,by simpa using g2,hmineG b g3.1 g3.2⟩
   ·obtain ⟨c0,h1,rfl,h2⟩:=hbx id c h
    obtain ⟨c1,h3,rfl,h4⟩:=hbx id' c' h'
    rw [h2] at hb
    rw [h4] at hb'
    have:=hSt.boxes.inj _ _ _ _ b cap cap' h1 h3 hb hb'
    rw [← hσ id,this,hσ]
   ·cases hx : Hx b o with
    |none =>
     obtain ⟨g1,g2⟩:=hSt.new b o v hv hx
     exact hmineG b g1 g2
    |some v' =>
     cases hH : H b o with
     |some v''=>exact hs.new b o v'' hH h0
     |none =>
      rcases hnewx b o v' hx hH with h|h
      ·exact .inl (Nat.le_trans hs.frame.size (Nat.le_trans hbel.size h))
      ·refine hmine0 b h ?_
       rintro rfl
       rw [hextx.not_loop hl'] at hx
       cases hx
   ·have hf1 : FrameBut E.may E.w0 W1:=hs.frame.trans (may':=fun _=>False) (.of_below hbel) (fun _ _ x=>x.elim)
    have hwl0 : E.w0.heap.size ≤ l:=Nat.le_trans hs.frame.size hwl
    refine ⟨hnext.frame.os.trans hf1.os,hnext.frame.tape.trans hf1.tape,⟨hnext.frame.output.1.trans hf1.output.1,Nat.le_trans hf1.output.2 hnext.frame.output.2⟩,by simpa using Nat.le_trans hf1.size hnext.frame.size,fun k hk hm=>?_⟩
    rw [hoth _ _ k (by omega),hnext.frame.block k (Nat.lt_of_lt_of_le hk hf1.size) (fun hmem=>?_)]
    ·exact hf1.block k hk hm
    ·rcases hmine0 k hmem (by omega) with h|h
     ·omega
     ·exact hm h
   ·show (if 1000000 ≤ i ∧ i < 2000000 then ρ i else ρr (σ i)) = E.r0 i
    rw [if_pos ⟨h1,h2⟩]
    exact hs.keep i h1 h2
 ·obtain ⟨g1,g2,g3⟩:=(hbox0 id c h).2 b cap hb
  refine ⟨g1,Nat.lt_of_lt_of_le g2 hbel.size,?_,by omega⟩
  rw [hG0]
  refine mem_bls_pinAll.2 ⟨.inr ⟨id,c,cap,h,hb⟩,?_⟩
  have:=(hbox0 id c h).1
  rw [hb] at this
  exact this.obj
 ·obtain ⟨c0,h1,_⟩:=hB0 id c h
  obtain ⟨c1,h2,_⟩:=hB0 id' c' h'
  have:=hs.boxes.inj _ _ _ _ b cap cap' h1 h2 hb hb'
  rw [← hσ id,this,hσ]
theorem AW_rangeFunc {g : Operand} {ps : Array Tmp} {assign body : Code} {s : AState} {Q : AExit → AState → Prop} {gf : FuncId} {caps : List AV} {ok : List (List AV) → List AV → Prop} {S : List (List AV) → Prop}
 {Γ : Type} (σ : Nat → Nat) (S0 : List (Nat × AV)) (B : Γ → List (Nat × Ct)) (R : List (List AV) → Γ → Prop) (g0 : Γ) (hR0 : R [] g0) (hRO : RoundOK E) (hI : ISpec P gf caps ok S) (hg : s.eval g = .fn (.func gf) [] caps) (hc : idfL caps = true)
 (hps : ∀ pre x,ok pre x → x.length = ps.size ∧ idfL x = true) (hpn : ∀ p ∈ ps.toList,p < E.n)
 (hσ : ∀ i,σ (σ i) = i) (hσ2 : ∀ i,i < 2000000 → σ i < 2000000) (hσk : ∀ i,1000000 ≤ i → i < 1500000 → σ i = i)
 (hS : ∀ i,(AState.mk S0 []).slot i = .u ∨ (AState.mk S0 []).slot i = (s.slot i).ren σ)
 (hB0 : ∀ id c,lk (B g0) id = some c → ∃ c0,s.box (σ id) = some c0 ∧ c = c0.ren σ)
 (hSm : ∀ d,mentS d S0 = true → 1000000 ≤ d ∧ d < 2000000)
 (hBk : ∀ xs γ,S xs → R xs γ → ∀ d,d < 1000000 → σ d ≠ d → mentB d (B γ) = false ∧ lk (B γ) d = none)
 (hround : ∀ E',Inner E E' → ∀ pre x γ,ok pre x → R pre γ → AW P E' assign ⟨pslots ps.toList x S0,B γ⟩ (thenK (fun s1=>∀ E'',Inner E E'' → AW P E'' body s1 (thenK (fun s2=>∃ γ',R (pre ++ [x]) γ' ∧ s2.le ⟨[],B γ'⟩) (fun _ _=>False))) (fun _ _=>False)))
 (hdone : ∀ xs γ,S xs → R xs γ → Q .normal ⟨S0.map fun p=>(p.1,p.2.ren σ),(B γ).map fun p=>(σ p.1,p.2.ren σ)⟩) : AW P E (.rangeFunc g ps assign body) s Q :=
 AW_rangeFuncG σ S0 B R g0 hR0 hRO hI.toG (fun _ _ _ p hp=>by cases hp) hg hc hps hpn hσ hσ2 hσk hS hB0 hSm hBk hround hdone
theorem PSpec_ofR {f : FuncId} {fn : Func} {c : Code} {args : List AV} {res : AV} (hf : P.funcs[f]? = some fn) (hb : fn.body = some c) (hname : (fn.name == "runtime.NumGoroutine") = false) (hn : args.length ≤ fn.ntmps) (hnl : fn.ntmps ≤ 1000000)
 (h : ∀ E : Env,E.n = fn.ntmps → RoundOK E → AW P E c ⟨argSlots 0 args,[]⟩ (retQ P fn (fun x s=>View s.box x res))) : PSpec P f args res:=by
 refine ⟨ent_of hf hname hb,fun H w vs he hr=>?_⟩
 refine entry (P:=P) (bx:=[]) hf hb he ⟨fun id c hc=>by simp [lk] at hc,fun id c b cap hc=>by simp [lk] at hc,fun id id' c c' b cap cap' hc=>by simp [lk] at hc⟩ hr hn hnl _ (h _ rfl trivial) ?_
 intro x s H' ρ' a' w' v hv hs hrx
 have hno : ∀ b,¬ OwnB rho0 (lk ([] : List (Nat × Ct))) b:=by rintro b ⟨id,c,cap,hc,_⟩;simp [lk] at hc
 have hmine : ∀ b,(Env.mine ⟨w,H,OwnB rho0 (lk []),fn.ntmps,rho0,none⟩ b) → w.heap.size ≤ b:=by
  rintro b (h|h)
  ·exact h
  ·exact (hno b h).elim
 have hle : H'.le (thaw H' w.heap.size w'):=fun b o u hu=>by simp [thaw,hu]
 refine ⟨thaw H' w.heap.size w',v,rfl,fun b o u hu=>hle _ _ _ (hs.h0 b o u hu),?_,?_,?_,?_⟩
 ·intro b o u hu hu0
  simp only [thaw] at hu
  split at hu
  ·exact hmine b (hs.new b o u hu hu0)
  ·split at hu
   ·assumption
   ·cases hu
 ·intro b o u hu
  simp only [thaw] at hu
  split at hu
  ·exact hs.ext b o u hu
  ·split at hu
   ·exact hu
   ·cases hu
 ·refine view_rep2 hv hrx hs.boxes.rep hle ?_
  intro id c b cap hc hbd o u hu
  have h1:=hs.boxes.apart id c b cap hc hbd
  simp [thaw,h1.1 o,hmine b h1.2.2,hu]
 ·refine FrameBut.below ⟨hs.frame.os,hs.frame.tape,hs.frame.output,hs.frame.size,fun k hk _=>hs.frame.block k hk (hno k)⟩
end
end Go.Am
end
section
namespace Go.Am
open Go.RowKit
def pick : List Oper → List Bool → List Oper
 |o :: l,b :: bs=>if b then o :: pick l bs else pick l bs
 |_,_=>[]
def cntT (b : Bool) : List Bool → Nat → Nat
 |_,0=>0
 |[],_=>0
 |c :: bs,i + 1=>(if c = b then 1 else 0) + cntT b bs i
theorem cnt_le (b : Bool) : ∀ (bs : List Bool) (i : Nat),i ≤ bs.length → cntT b bs i ≤ cntT b bs bs.length
 |_,0,_=>by simp [cntT]
 |[],i + 1,h=>by simp at h
 |c :: bs,i + 1,h=>by have:=cnt_le b bs i (by simpa using h);simp only [cntT,List.length_cons];omega
section
variable {P : Program} {E : Env}
end
end Go.Am
end
section
namespace Go.Am
open Go.RowKit
inductive DView (bf : Nat → Option Ct) : AV → AV → Prop
 |base {x d : AV} (h : View bf x d) : DView bf x d
 |st {cs ds : List AV} (hl : cs.length = ds.length) (h1 : ∀ d ∈ ds,d.one = true) (h : ∀ (i : Nat) (c d : AV),cs[i]? = some c → ds[i]? = some d → DView bf c d) : DView bf (.st cs) (.st ds)
 |tup {cs ds : List AV} (hl : cs.length = ds.length) (h : ∀ (i : Nat) (c d : AV),cs[i]? = some c → ds[i]? = some d → DView bf c d) : DView bf (.tup cs) (.tup ds)
 |ep {id : Nat} {T : TypeId} {y z : AV} (hb : bf id = some (.box T y)) (hl : y.cells.length = z.cells.length) (h1 : ∀ d ∈ z.cells,d.one = true)
   (h : ∀ (i : Nat) (c d : AV),y.cells[i]? = some c → z.cells[i]? = some d → DView bf c d) : DView bf (.loc id 0) (.ep z)
def DViewL (bf : Nat → Option Ct) : List AV → List AV → Prop
 |[],[]=>True
 |x :: xs,d :: ds=>DView bf x d ∧ DViewL bf xs ds
 |_,_=>False
theorem DViewL.get {bf : Nat → Option Ct} : ∀ {xs ds : List AV},DViewL bf xs ds → xs.length = ds.length ∧ ∀ (i : Nat) (c d : AV),xs[i]? = some c → ds[i]? = some d → DView bf c d
 |[],[],_=>⟨rfl,fun i c d h=>by simp at h⟩
 |[],_ :: _,h=>h.elim
 |_ :: _,[],h=>h.elim
 |x :: xs,d :: ds,h=>by
  obtain ⟨hl,hr⟩:=h.2.get
  refine ⟨by simp [hl],fun i c e hc he=>?_⟩
  cases i with
  |zero=>simp at hc he;subst hc;subst he;exact h.1
  |succ i=>exact hr i c e (by simpa using hc) (by simpa using he)
section
variable {P : Program} {E : Env} {s : AState} {Q : AExit → AState → Prop}
def frD (s : AState) (id : Nat) (c : Ct) : List (Nat × Ct) → Prop
 |[]=>True
 |(i,.box T y) :: l=>(i ≠ id ∧ ∃ x,s.box i = some (.box T x) ∧ x.cells.length = y.cells.length ∧ (∀ d ∈ y.cells,d.one = true) ∧ ∀ (j : Nat) (a b : AV),x.cells[j]? = some a → y.cells[j]? = some b → fr1 id c a b) ∧ frD s id c l
 |(i,e) :: l=>(i ≠ id ∧ s.box i = some e ∧ e.ment id = false) ∧ frD s id c l
theorem frD_lk {id : Nat} {c : Ct} : ∀ {l : List (Nat × Ct)} {i : Nat} {x : Ct},frD s id c l → lk l i = some x → i ≠ id ∧
 ((s.box i = some x ∧ x.ment id = false) ∨ ∃ T uu y,x = .box T y ∧ s.box i = some (.box T uu) ∧ uu.cells.length = y.cells.length ∧ (∀ d ∈ y.cells,d.one = true) ∧ ∀ (j : Nat) (a b : AV),uu.cells[j]? = some a → y.cells[j]? = some b → fr1 id c a b)
 |[],_,_,_,h=>by simp [lk] at h
 |(j,y) :: l,i,x,hl,h=>by
  simp only [lk] at h
  split at h
  ·rename_i e
   subst e
   cases h
   cases y with
   |box T y =>
    obtain ⟨h1,uu,h2,h3,h4,h5⟩:=hl.1
    exact ⟨h1,.inr ⟨T,uu,y,rfl,h2,h3,h4,h5⟩⟩
   |_=>exact ⟨hl.1.1,.inl hl.1.2⟩
  ·refine frD_lk (l:=l) ?_ h
   cases y <;> exact hl.2
theorem AW_freezeD (id : Nat) {cb : Ct} {c : Code} {t : AState} (hb : s.box id = some cb) (hs : frS s id cb t.s) (hB : frD s id cb t.b) (h : AW P E c t Q) : AW P E c s Q:=by
 intro H ρ a w hS
 obtain ⟨G,hle,hG,hB1,hB2⟩ : ∃ G : Heap,H.le G ∧ (∀ b o uu,G b o = some uu → H b o = some uu ∨ ((∃ cap,ρ id = .at b cap) ∧ w.cell? ⟨b,o,none⟩ = some uu)) ∧
  (∀ b cap,ρ id = .at b cap → ∀ o uu,w.cell? ⟨b,o,none⟩ = some uu → G b o = some uu) ∧ (∀ b,(∀ cap,ρ id ≠ .at b cap) → ∀ o,G b o = H b o):=by
  rcases hρ : ρ id with _|_|⟨b,cap⟩
  ·exact ⟨H,H.le_refl,fun _ _ _ h=>.inl h,fun b cap h=>by simp at h,fun _ _ _=>rfl⟩
  ·exact ⟨H,H.le_refl,fun _ _ _ h=>.inl h,fun b cap h=>by simp at h,fun _ _ _=>rfl⟩
  ·have h0:=(hS.boxes.apart _ _ _ _ hb hρ).1
   refine ⟨fun b' o=>if b' = b then w.cell? ⟨b,o,none⟩ else H b' o,fun b' o uu hu=>?_,fun b' o uu hu=>?_,fun b' cap' h o uu hu=>?_,fun b' h o=>?_⟩
   ·have : b' ≠ b:=by rintro rfl;rw [h0] at hu;cases hu
    simp [this,hu]
   ·simp only at hu
    split at hu
    ·rename_i e;subst e;exact .inr ⟨⟨cap,rfl⟩,hu⟩
    ·exact .inl hu
   ·simp at h
    obtain ⟨rfl,rfl⟩:=h
    simp [hu]
   ·have : b' ≠ b:=by rintro rfl;exact h cap rfl
    simp [this]
 have hone : ∀ j c',oneB id cb j = some c' → j = id ∧ s.box j = some c':=by
  intro j c' h
  unfold oneB at h
  by_cases e : j = id
  ·subst e
   rw [if_pos rfl] at h
   cases h
   exact ⟨rfl,hb⟩
  ·rw [if_neg e] at h
   cases h
 have one : ∀ {x y : AV} {v : Value},fr1 id cb x y → Rep H ρ x v → Rep G ρ y v:=by
  intro x y v hf hr
  rcases hf with ⟨rfl,_⟩|hv
  ·exact hr.mono hle
  ·have:=view_rep2 (G:=G) hv hr (fun id' c' h=>hS.boxes.rep _ _ (hone _ _ h).2) hle
    (fun id' c' b cap hc hbd o uu hu=>by
      obtain ⟨rfl,_⟩:=hone _ _ hc
      exact hB1 b cap hbd o uu hu)
   exact this.idf (view_idf hv)
 have old : ∀ i x,t.box i = some x → i ≠ id ∧ ∃ x0,s.box i = some x0:=by
  intro i x h
  obtain ⟨h1,h2⟩:=frD_lk hB h
  refine ⟨h1,?_⟩
  rcases h2 with ⟨h2,_⟩|⟨T,uu,y,_,h2,_⟩
  ·exact ⟨_,h2⟩
  ·exact ⟨_,h2⟩
 refine h G ρ a w ⟨?_,?_,hS.size,hS.defers,?_,fun b o uu hu=>hle _ _ _ (hS.h0 b o uu hu),?_,hS.frame,hS.keep,hS.nle⟩
 ·intro b o uu hu
  rcases hG b o uu hu with h|⟨_,h⟩
  ·exact hS.ext b o uu h
  ·exact h
 ·intro i
  have hsl:=hS.slots i
  show Rep G ρ ((lk t.s i).getD .u) _
  cases hl : lk t.s i with
  |none=>exact .u
  |some y=>exact one (frS_lk hs hl) hsl
 ·refine ⟨fun i c hc=>?_,fun i c b cap hc hbd=>?_,fun i i' c c' b cap cap' hc hc' h1 h2=>?_⟩
  ·obtain ⟨_,h2⟩:=frD_lk hB hc
   rcases h2 with ⟨h2,_⟩|⟨T,uu,y,rfl,h2,h3,h4,h5⟩
   ·exact (hS.boxes.rep _ _ h2).mono hle (fun _ _=>rfl) (fun _ _ _=>rfl)
   ·obtain ⟨b,cap,vs,g1,g2,g3,g4,g5⟩:=hS.boxes.rep _ _ h2
    refine ⟨b,cap,vs,g1,g2,⟨h3 ▸ g3.1,fun j b' uu' hb' hu'=>?_⟩,h4,by rw [g5,h3]⟩
    have hj : j < uu.cells.length:=by have:=(List.getElem?_eq_some_iff.1 hb').1;omega
    exact one (h5 j _ b' (List.getElem?_eq_getElem hj) hb') (g3.2 j _ uu' (List.getElem?_eq_getElem hj) hu')
  ·obtain ⟨h1,x0,h2⟩:=old _ _ hc
   obtain ⟨h3,h4⟩:=hS.boxes.apart _ _ _ _ h2 hbd
   refine ⟨fun o=>?_,h4⟩
   rw [hB2 b (fun cap' hh=>h1 (hS.boxes.inj _ _ _ _ _ _ _ h2 hb hbd hh))]
   exact h3 o
  ·obtain ⟨_,x0,g1⟩:=old _ _ hc
   obtain ⟨_,x1,g2⟩:=old _ _ hc'
   exact hS.boxes.inj _ _ _ _ _ _ _ g1 g2 h1 h2
 ·intro b o uu hu h0
  rcases hG b o uu hu with h|⟨⟨cap,h⟩,_⟩
  ·exact hS.new b o uu h h0
  ·exact (hS.boxes.apart _ _ _ _ hb h).2.2
end
attribute [simp] frD DViewL
def SLe (x y : AV) : Prop:=∀ (H : Heap) (ρ : Rho) (v : Value),Rep H ρ x v → Rep H ρ y v
def SLeL : List AV → List AV → Prop
 |[],[]=>True
 |x :: xs,y :: ys=>SLe x y ∧ SLeL xs ys
 |_,_=>False
@[simp] theorem SLe_refl (x : AV) : SLe x x:=fun _ _ _ h=>h
@[simp] theorem SLe_nil (k c : Nat) : SLe (.v (.slice none 0 c)) (.sl k []):=fun _ _ _ h=>by rw [h.v_inv];exact .slNil
theorem SLeL.rep {H : Heap} {ρ : Rho} : ∀ {xs ys : List AV} {vs : List Value},SLeL xs ys → RepL H ρ xs vs → RepL H ρ ys vs
 |[],[],_,_,h=>h
 |[],_ :: _,_,h,_=>h.elim
 |_ :: _,[],_,h,_=>h.elim
 |x :: xs,y :: ys,vs,h,hr=>by
  obtain ⟨uu,us,rfl,h1,h2⟩:=hr.cons_inv
  exact RepL.cons (h.1 _ _ _ h1) (SLeL.rep h.2 h2)
theorem SLe.st {cs ds : List AV} (h : SLeL cs ds) (h1 : ∀ d ∈ ds,d.one = true) : SLe (.st cs) (.st ds):=fun H ρ v hr=>by
 cases hr with
 |st hl _ hr =>
  have:=SLeL.rep (H:=H) (ρ:=ρ) h ⟨hl,hr⟩
  exact .st this.1 h1 this.2
theorem PSpec.args {P : Program} {f : FuncId} {xs ds : List AV} {res : AV} (h : PSpec P f ds res) (hle : SLeL xs ds) : PSpec P f xs res:=⟨h.1,fun H w vs he hr=>h.2 H w vs he (hle.rep hr)⟩
theorem MSpec.args {P : Program} {f : FuncId} {xs ds : List AV} {bx : List (Nat × Ct)} {R : AV → (Nat → Option Ct) → Prop} (h : MSpec P f ds bx R) (hle : SLeL xs ds) : MSpec P f xs bx R:=⟨h.1,fun H ρ w vs he hb hr=>h.2 H ρ w vs he hb (hle.rep hr)⟩
theorem PSpec.res {P : Program} {f : FuncId} {xs : List AV} {x y : AV} (h : PSpec P f xs x) (hle : SLe x y) : PSpec P f xs y :=
 ⟨h.1,fun H w vs he hr=>Calls.mono (h.2 H w vs he hr) (by
   rintro e w' ⟨H',v,h1,h2,h3,h4,h5,h6⟩
   exact ⟨H',v,h1,h2,h3,h4,hle _ _ _ h5,h6⟩)⟩
attribute [simp] SLeL
section
variable {P : Program} {T : TypeId} {z : AV} {i o : Nat} {v : Value} {xc yc : Bool} {cont : AV → Prop}
@[simp] theorem qbin_nil1 : qbin P .eql T (.ep z) (.v v) xc yc cont ↔ nilCmp P T (.ep z) (.v v) xc yc (fun r=>cont (.v (.bool (r)))):=Iff.rfl
@[simp] theorem qbin_nil2 : qbin P .neq T (.ep z) (.v v) xc yc cont ↔ nilCmp P T (.ep z) (.v v) xc yc (fun r=>cont (.v (.bool (!r)))):=Iff.rfl
@[simp] theorem qbin_nil3 : qbin P .eql T (.loc i o) (.v v) xc yc cont ↔ nilCmp P T (.loc i o) (.v v) xc yc (fun r=>cont (.v (.bool (r)))):=Iff.rfl
@[simp] theorem qbin_nil4 : qbin P .neq T (.loc i o) (.v v) xc yc cont ↔ nilCmp P T (.loc i o) (.v v) xc yc (fun r=>cont (.v (.bool (!r)))):=Iff.rfl
@[simp] theorem qbin_nil5 : qbin P .eql T (.v (.pointer none)) (.v (.pointer none)) xc yc cont ↔ nilCmp P T (.v (.pointer none)) (.v (.pointer none)) xc yc (fun r=>cont (.v (.bool (r)))):=Iff.rfl
@[simp] theorem qbin_nil6 : qbin P .neq T (.v (.pointer none)) (.v (.pointer none)) xc yc cont ↔ nilCmp P T (.v (.pointer none)) (.v (.pointer none)) xc yc (fun r=>cont (.v (.bool (!r)))):=Iff.rfl
end
attribute [simp] nilCmp
end Go.Am
end
section
namespace Go.Am
section
variable {P : Program} {E : Env} {s : AState} {Q : AExit → AState → Prop}
theorem Sim_freezeD (id : Nat) {cb : Ct} {t : AState} (hb : s.box id = some cb) (hs : frS s id cb t.s) (hB : frD s id cb t.b) {H : Heap} {ρ : Rho} {a : Act} {w : World} (hS : Sim E H ρ s.slot s.box a w) :
 ∃ G : Heap,H.le G ∧ (∀ {x y : AV} {v : Value},fr1 id cb x y → Rep H ρ x v → Rep G ρ y v) ∧ Sim E G ρ t.slot t.box a w:=by
 obtain ⟨G,hle,hG,hB1,hB2⟩ : ∃ G : Heap,H.le G ∧ (∀ b o uu,G b o = some uu → H b o = some uu ∨ ((∃ cap,ρ id = .at b cap) ∧ w.cell? ⟨b,o,none⟩ = some uu)) ∧
  (∀ b cap,ρ id = .at b cap → ∀ o uu,w.cell? ⟨b,o,none⟩ = some uu → G b o = some uu) ∧ (∀ b,(∀ cap,ρ id ≠ .at b cap) → ∀ o,G b o = H b o):=by
  rcases hρ : ρ id with _|_|⟨b,cap⟩
  ·exact ⟨H,H.le_refl,fun _ _ _ h=>.inl h,fun b cap h=>by simp at h,fun _ _ _=>rfl⟩
  ·exact ⟨H,H.le_refl,fun _ _ _ h=>.inl h,fun b cap h=>by simp at h,fun _ _ _=>rfl⟩
  ·have h0:=(hS.boxes.apart _ _ _ _ hb hρ).1
   refine ⟨fun b' o=>if b' = b then w.cell? ⟨b,o,none⟩ else H b' o,fun b' o uu hu=>?_,fun b' o uu hu=>?_,fun b' cap' h o uu hu=>?_,fun b' h o=>?_⟩
   ·have : b' ≠ b:=by rintro rfl;rw [h0] at hu;cases hu
    simp [this,hu]
   ·simp only at hu
    split at hu
    ·rename_i e;subst e;exact .inr ⟨⟨cap,rfl⟩,hu⟩
    ·exact .inl hu
   ·simp at h
    obtain ⟨rfl,rfl⟩:=h
    simp [hu]
   ·have : b' ≠ b:=by rintro rfl;exact h cap rfl
    simp [this]
 have hone : ∀ j c',oneB id cb j = some c' → j = id ∧ s.box j = some c':=by
  intro j c' h
  unfold oneB at h
  by_cases e : j = id
  ·subst e
   rw [if_pos rfl] at h
   cases h
   exact ⟨rfl,hb⟩
  ·rw [if_neg e] at h
   cases h
 have one : ∀ {x y : AV} {v : Value},fr1 id cb x y → Rep H ρ x v → Rep G ρ y v:=by
  intro x y v hf hr
  rcases hf with ⟨rfl,_⟩|hv
  ·exact hr.mono hle
  ·have:=view_rep2 (G:=G) hv hr (fun id' c' h=>hS.boxes.rep _ _ (hone _ _ h).2) hle
    (fun id' c' b cap hc hbd o uu hu=>by
      obtain ⟨rfl,_⟩:=hone _ _ hc
      exact hB1 b cap hbd o uu hu)
   exact this.idf (view_idf hv)
 have old : ∀ i x,t.box i = some x → i ≠ id ∧ ∃ x0,s.box i = some x0:=by
  intro i x h
  obtain ⟨h1,h2⟩:=frD_lk hB h
  refine ⟨h1,?_⟩
  rcases h2 with ⟨h2,_⟩|⟨T,uu,y,_,h2,_⟩
  ·exact ⟨_,h2⟩
  ·exact ⟨_,h2⟩
 refine ⟨G,hle,fun hf hr=>one hf hr,⟨?_,?_,hS.size,hS.defers,?_,fun b o uu hu=>hle _ _ _ (hS.h0 b o uu hu),?_,hS.frame,hS.keep,hS.nle⟩⟩
 ·intro b o uu hu
  rcases hG b o uu hu with h|⟨_,h⟩
  ·exact hS.ext b o uu h
  ·exact h
 ·intro i
  have hsl:=hS.slots i
  show Rep G ρ ((lk t.s i).getD .u) _
  cases hl : lk t.s i with
  |none=>exact .u
  |some y=>exact one (frS_lk hs hl) hsl
 ·refine ⟨fun i c hc=>?_,fun i c b cap hc hbd=>?_,fun i i' c c' b cap cap' hc hc' h1 h2=>?_⟩
  ·obtain ⟨_,h2⟩:=frD_lk hB hc
   rcases h2 with ⟨h2,_⟩|⟨T,uu,y,rfl,h2,h3,h4,h5⟩
   ·exact (hS.boxes.rep _ _ h2).mono hle (fun _ _=>rfl) (fun _ _ _=>rfl)
   ·obtain ⟨b,cap,vs,g1,g2,g3,g4,g5⟩:=hS.boxes.rep _ _ h2
    refine ⟨b,cap,vs,g1,g2,⟨h3 ▸ g3.1,fun j b' uu' hb' hu'=>?_⟩,h4,by rw [g5,h3]⟩
    have hj : j < uu.cells.length:=by have:=(List.getElem?_eq_some_iff.1 hb').1;omega
    exact one (h5 j _ b' (List.getElem?_eq_getElem hj) hb') (g3.2 j _ uu' (List.getElem?_eq_getElem hj) hu')
  ·obtain ⟨h1,x0,h2⟩:=old _ _ hc
   obtain ⟨h3,h4⟩:=hS.boxes.apart _ _ _ _ h2 hbd
   refine ⟨fun o=>?_,h4⟩
   rw [hB2 b (fun cap' hh=>h1 (hS.boxes.inj _ _ _ _ _ _ _ h2 hb hbd hh))]
   exact h3 o
  ·obtain ⟨_,x0,g1⟩:=old _ _ hc
   obtain ⟨_,x1,g2⟩:=old _ _ hc'
   exact hS.boxes.inj _ _ _ _ _ _ _ g1 g2 h1 h2
 ·intro b o uu hu h0
  rcases hG b o uu hu with h|⟨⟨cap,h⟩,_⟩
  ·exact hS.new b o uu h h0
  ·exact (hS.boxes.apart _ _ _ _ hb h).2.2
def frC (id : Nat) (cb : Ct) : List AV → List AV → Prop
 |[],[]=>True
 |x :: xs,y :: ys=>fr1 id cb x y ∧ frC id cb xs ys
 |_,_=>False
def fr2 (id : Nat) (cb : Ct) (x y : AV) : Prop:=fr1 id cb x y ∨ ∃ cs ds,x = .st cs ∧ y = .st ds ∧ (ds.all fun d=>d.one) = true ∧ frC id cb cs ds
def frL (id : Nat) (cb : Ct) : List AV → List AV → Prop
 |[],[]=>True
 |x :: xs,y :: ys=>fr2 id cb x y ∧ frL id cb xs ys
 |_,_=>False
theorem frC_rep {id : Nat} {cb : Ct} {H G : Heap} {ρ : Rho} (one : ∀ {x y : AV} {v : Value},fr1 id cb x y → Rep H ρ x v → Rep G ρ y v) : ∀ {xs ys : List AV} {vs : List Value},frC id cb xs ys → RepL H ρ xs vs → RepL G ρ ys vs
 |[],[],vs,_,hr=>by rw [hr.nil_inv];exact RepL.nil
 |[],_ :: _,_,h,_=>h.elim
 |_ :: _,[],_,h,_=>h.elim
 |x :: xs,d :: ds,vs,h,hr=>by
  obtain ⟨uu,us,rfl,h1,h2⟩:=hr.cons_inv
  exact RepL.cons (one h.1 h1) (frC_rep one h.2 h2)
theorem fr2_rep {id : Nat} {cb : Ct} {H G : Heap} {ρ : Rho} (one : ∀ {x y : AV} {v : Value},fr1 id cb x y → Rep H ρ x v → Rep G ρ y v) {x y : AV} {v : Value} (h : fr2 id cb x y) (hr : Rep H ρ x v) : Rep G ρ y v:=by
 rcases h with h|⟨cs,ds,rfl,rfl,h1,h2⟩
 ·exact one h hr
 ·cases hr with
  |st hl _ hr =>
   have:=frC_rep one h2 ⟨hl,hr⟩
   exact .st this.1 (fun d hd=>List.all_eq_true.1 h1 d hd) this.2
theorem frL_rep {id : Nat} {cb : Ct} {H G : Heap} {ρ : Rho} (one : ∀ {x y : AV} {v : Value},fr1 id cb x y → Rep H ρ x v → Rep G ρ y v) : ∀ {xs ys : List AV} {vs : List Value},frL id cb xs ys → RepL H ρ xs vs → RepL G ρ ys vs
 |[],[],vs,_,hr=>by rw [hr.nil_inv];exact RepL.nil
 |[],_ :: _,_,h,_=>h.elim
 |_ :: _,[],_,h,_=>h.elim
 |x :: xs,d :: ds,vs,h,hr=>by
  obtain ⟨uu,us,rfl,h1,h2⟩:=hr.cons_inv
  exact RepL.cons (fr2_rep one h.1 h1) (frL_rep one h.2 h2)
theorem ACall_freezeD (id : Nat) {cb : Ct} {g : FuncId} {args args' : List AV} {d : Option Tmp} {K : AState → Prop} {t : AState} (hb : s.box id = some cb) (hs : frS s id cb t.s) (hB : frD s id cb t.b) (ha : frL id cb args args') (h : ACall P E g args' t d K) : ACall P E g args s d K:=by
 rcases h with h|h
 ·refine .inl ⟨h.1,fun H ρ a w vs hS hr hd=>?_⟩
  obtain ⟨G,hle,one,hS'⟩:=Sim_freezeD id hb hs hB hS
  exact h.2 G ρ a w vs hS' (frL_rep one ha hr) hd
 ·refine .inr fun H ρ a w vs hS hr hd=>?_
  obtain ⟨G,hle,one,hS'⟩:=Sim_freezeD id hb hs hB hS
  exact h G ρ a w vs hS' (frL_rep one ha hr) hd
end
attribute [simp] frL frC
end Go.Am
end
section
namespace Go.Am
open Go.RowKit
section
variable {P : Program} {H : Heap} {ρ : Rho}
def _root_.Go.Am.AV.kn : AV → Bool
 |.u=>false
 |_=>true
def qheld (P : Program) (o : Oper) (av : Operand → AV) (k : AV → Prop) : Prop :=
 match o.op with
 |.move x=>(av x).kn = true ∧ k (av x)
 |.assign x=>(av x).kn = true ∧ k (av x)
 |.nilCheck x=>aThr P (av x) = true ∧ k (av x)
 |.pick c a b=>(match av c with
  |.v (.bool t)=>(t = true → (av a).kn = true ∧ k (av a)) ∧ (t = false → (av b).kn = true ∧ k (av b))
  |_=>False)
 |.unOp op _ x=>qun op (av x) k
 |.convert sT dT x=>qconv P sT dT (av x) k
 |.extract t i=>(match av t with
  |.tup xs=>(match xs[i]? with
   |some x=>k x
   |none=>False)
  |_=>False)
 |.fieldAddr T x f=>qfaddr P T (av x) f k
 |.indexAddr T x i=>qiaddr P T (av x) (av i) k
 |.slice T x lo hi none=>(match av x with
  |.sl kk xs=>qslice P T (.sl kk xs) (lo.map av) (hi.map av) none k
  |_=>False)
 |.load T p=>(match av p with
  |.ep y=>qload P T (.ep y) none k
  |_=>False)
 |.binOp op T x y _=>(match av x,av y with
  |.v (.int ka a),.v (.int kb b)=>if op == .shl || op == .shr then False else qbin P op T (.v (.int ka a)) (.v (.int kb b)) (isConst x) (isConst y) k
  |_,_=>False)
 |.call c=>(match c.callee,c.args.toList.map av with
  |.builtin .len,[x]=>(match c.argTypes[0]? with
   |some T=>(match P.underlying T,x with
    |some (.slice _),.sl _ xs=>k (.v (.int .i64 xs.length))
    |some (.slice _),.own _ _ _ n=>k (.v (.int .i64 n))
    |_,_=>False)
   |none=>False)
  |_,_=>False)
 |_=>False
theorem qfaddr_all {T : TypeId} {x : AV} {v : Value} {f : Nat} {cont : AV → Prop} (hr : Rep H ρ x v) (h : qfaddr P T x f cont) :
 ∃ y u,cont y ∧ Rep H ρ y u ∧ ∀ w : World,(Instr.fieldAt T v f).run P w = .ok u w:=by
 unfold qfaddr at h
 split at h
 ·rename_i fs hT
  split at h
  ·rename_i fld hf
   obtain ⟨⟨hok,hs⟩,h⟩:=h
   split at h
   ·cases hr with
    |loc hρ=>exact ⟨_,_,h,.loc hρ,fun w=>run_fieldAt hT hf hok hs⟩
   ·cases hr with
    |eloc hρ =>
     refine ⟨_,_,h,.eloc hρ,fun w=>?_⟩
     rw [run_fieldAt hT hf hok hs,Nat.add_assoc]
   ·rename_i y
    obtain ⟨⟨hn,ha⟩,hk⟩:=h
    obtain ⟨b,o,rfl,hrep⟩:=ep_part hr hn ha
    exact ⟨_,_,hk,hrep,fun w=>run_fieldAt hT hf hok hs⟩
   ·exact h.elim
  ·exact h.elim
 ·exact h.elim
theorem qiaddr_all {T : TypeId} {x i : AV} {v u : Value} {cont : AV → Prop} (hr : Rep H ρ x v) (hi : Rep H ρ i u) (h : qiaddr P T x i cont) :
 ∃ y r,cont y ∧ Rep H ρ y r ∧ ∀ w : World,(Instr.indexAt T v u).run P w = .ok r w:=by
 unfold qiaddr at h
 split at h
 ·rename_i e ik n hT
  rw [hi.v_inv]
  obtain ⟨hok,h⟩:=h
  split at h
  ·rename_i k xs
   obtain ⟨hk,⟨h0,h1⟩,hc⟩:=h
   have hlt : n.toNat < xs.length:=by omega
   cases hr with
   |slNil=>simp at hlt
   |sl cell hcap hmax hkk hone hH hrep =>
    rename_i b o cap
    refine ⟨_,_,hc,?_,fun w=>run_indexAt_slice hT hok h0 h1⟩
    have hx : xs[n.toNat]? = some (xs.getD n.toNat .u):=by simp [hlt]
    rw [hk]
    exact .ep (fun j=>cell n.toNat j) (hone _ (List.mem_of_getElem? hx)) (fun j c hj=>by rw [Nat.add_assoc];have:=hH _ j _ c hx hj;rw [Nat.add_assoc] at this;exact this) (fun j c hj=>hrep _ j _ c hx hj)
  ·rename_i id k off m
   obtain ⟨hk,⟨h0,h1⟩,hc⟩:=h
   cases hr with
   |ownNil=>omega
   |own hρ hn hm =>
    refine ⟨_,_,hc,?_,fun w=>run_indexAt_slice hT hok h0 h1⟩
    have:=Rep.eloc (H:=H) (ρ:=ρ) (k:=k) (i:=off + n.toNat) (off:=0) hρ
    rw [hk,← Nat.add_mul]
    exact this
  ·exact h.elim
 ·rename_i len e ik n hT
  rw [hi.v_inv]
  obtain ⟨hok,h⟩:=h
  split at h
  ·obtain ⟨⟨h0,h1⟩,hc⟩:=h
   cases hr with
   |loc hρ=>exact ⟨_,_,hc,.loc hρ,fun w=>run_indexAt_array hT hok h0 h1⟩
  ·obtain ⟨⟨h0,h1⟩,⟨hn,ha⟩,hc⟩:=h
   obtain ⟨b,o,rfl,hrep⟩:=ep_part hr hn ha
   exact ⟨_,_,hc,hrep,fun w=>run_indexAt_array hT hok h0 h1⟩
  ·exact h.elim
 ·exact h.elim
theorem qslice_all {T : TypeId} {k : Nat} {xs : List AV} {lo hi : Option AV} {v : Value} {vlo vhi : Option Value} {cont : AV → Prop} (hr : Rep H ρ (.sl k xs) v) (hlo : OptRep H ρ lo vlo) (hhi : OptRep H ρ hi vhi)
 (h : qslice P T (.sl k xs) lo hi none cont) : ∃ y u,cont y ∧ Rep H ρ y u ∧ ∀ w : World,(Instr.sliceAt T v vlo vhi none).run P w = .ok u w:=by
 unfold qslice at h
 split at h
 ·rename_i e k' xs' hT heq
  cases heq
  obtain ⟨⟨hok,hk⟩,h⟩:=h
  split at h
  ·rename_i l hh hl1 hh1
   obtain ⟨⟨h0,h1,h2⟩,hc⟩:=h
   have b1:=slBound_inv hlo hl1
   have b2:=slBound_inv hhi hh1
   cases hr with
   |slNil =>
    rename_i a cap
    have hl0 : l = 0:=by simp at h2;omega
    have hh0 : hh = 0:=by simp at h2;omega
    refine ⟨_,.slice (if cap = 0 then a else a.map (·.add 0)) 0 (cap - 0),hc,by simpa using Rep.slNil,fun w=>?_⟩
    have hs:=run_sliceBounds (P:=P) (w:=w) (isS:=true) (cap:=cap) b1 (by simpa using b2) h0 h1 (by simpa using h2) (Nat.zero_le _)
    simp [Instr.sliceAt,Instr.slice,run_underlying hT,hs,run_sizeOf' hok,hl0,hh0]
   |sl cell hcap hmax hkk hone hH hrep =>
    rename_i b o cap
    have hs:=fun w=>run_sliceBounds (P:=P) (w:=w) (isS:=true) (cap:=cap) b1 b2 h0 h1 h2 hcap
    have hlen : ((xs.take hh.toNat).drop l.toNat).length = hh.toNat - l.toNat:=by simp;omega
    refine ⟨_,.slice (some (if cap = l.toNat then ⟨b,o,none⟩ else ⟨b,o + l.toNat * P.cellsOf e,none⟩)) (hh.toNat - l.toNat) (cap - l.toNat),hc,?_,fun w=>?_⟩
    ·by_cases he : (xs.take hh.toNat).drop l.toNat = []
     ·rw [he] at hlen ⊢
      rw [← hlen]
      exact Rep.slNil
     ·have hne : cap ≠ l.toNat:=by
       intro e
       apply he
       apply List.eq_nil_of_length_eq_zero
       rw [hlen];omega
      rw [if_neg hne,← hlen]
      refine Rep.sl (fun i j=>cell (l.toNat + i) j) (by rw [hlen];omega) (by omega) (fun y hy=>hkk y (List.mem_of_mem_take (List.mem_of_mem_drop hy))) (fun y hy=>hone y (List.mem_of_mem_take (List.mem_of_mem_drop hy))) ?_ ?_
      ·intro i j y c hy hc'
       have:=hH _ j y c (take_drop_get hy) hc'
       rw [hk,Nat.add_assoc o,← Nat.add_mul]
       exact this
      ·intro i j y c hy hc'
       exact hrep _ j y c (take_drop_get hy) hc'
    ·simp only [Instr.sliceAt,Instr.slice,run_underlying hT,hs,run_sizeOf' hok,Sem.run_bind,Result.andThen_ok,Sem.run_pure,Option.map_some,Addr.add_mk]
     split <;> rfl
  ·exact h.elim
 all_goals first|(rename_i heq;cases heq;done)|(rename_i heq _;cases heq;done)|exact h.elim
theorem qload_all {T : TypeId} {y : AV} {v : Value} {cont : AV → Prop} (hr : Rep H ρ (.ep y) v) (h : qload P T (.ep y) none cont) : ∃ x u,cont x ∧ Rep H ρ x u ∧ ∀ w : World,Ext H w → (Instr.loadAt T v).run P w = .ok u w:=by
 obtain ⟨hT,⟨hlen,hst,h1⟩,hk⟩:=h
 cases hr with
 |ep cell hone hH hrep =>
  rename_i blk off
  have hrl : RepL H ρ y.cells ((List.range y.cells.length).map cell):=by
   refine ⟨by simp,fun i c u hc hu=>?_⟩
   have hi : i < y.cells.length:=(List.getElem?_eq_some_iff.1 hc).1
   have hu' : u = cell i:=by
    rw [List.getElem?_map,List.getElem?_range hi] at hu
    simpa using hu.symm
   rw [hu']
   exact (hrep i c hc).any (fun _=>rfl) ρ
  refine ⟨y,_,hk,?_,fun w he=>run_loadAt (vs:=(List.range y.cells.length).map cell) hT (by simp [hlen]) h1 ?_⟩
  ·have:=aload_rep (off:=0) (n:=P.cellsOf T) (agg:=aggB P T) hrl hone (by omega) h1
   have hfull : ((List.range y.cells.length).map cell).take (P.cellsOf T) = (List.range y.cells.length).map cell:=List.take_of_length_le (by simp [hlen])
   have ha : aload y 0 (P.cellsOf T) (aggB P T) = y:=by simp [aload,hlen,hst]
   rw [List.drop_zero,hfull,ha] at this
   exact this
  ·intro j v hj
   have hjl : j < y.cells.length:=by
    have:=(List.getElem?_eq_some_iff.1 hj).1
    simpa using this
   rw [List.getElem?_map,List.getElem?_range hjl] at hj
   simp at hj
   subst hj
   exact he _ _ _ (hH j _ (List.getElem?_eq_getElem hjl))
theorem binInt_all {op : BinOp} {k : IntKind} {T : TypeId} {a b : Int} {cont : AV → Prop} (h : binInt op k a b cont) : ∃ u,cont (.v u) ∧ okV u = true ∧ ∀ w : World,(binOp op T (.int k a) (.int k b)).run P w = .ok u w:=by
 unfold binInt at h
 cases op <;> simp only at h
 case add=>exact ⟨_,arith_sound h,rfl,fun w=>by simp [binOp,Op.intArith]⟩
 case sub=>exact ⟨_,arith_sound h,rfl,fun w=>by simp [binOp,Op.intArith]⟩
 case mul=>exact ⟨_,arith_sound h,rfl,fun w=>by simp [binOp,Op.intArith]⟩
 case quo=>exact ⟨_,arith_sound h.2,rfl,fun w=>by simp [binOp,Op.intDiv,h.1]⟩
 case rem=>exact ⟨_,h.2,rfl,fun w=>by simp [binOp,Op.intDiv,h.1]⟩
 case and=>exact ⟨_,h,rfl,fun w=>by simp [binOp,Op.intBits,bitsV]⟩
 case or=>exact ⟨_,h,rfl,fun w=>by simp [binOp,Op.intBits,bitsV]⟩
 case xor=>exact ⟨_,h,rfl,fun w=>by simp [binOp,Op.intBits,bitsV]⟩
 case andNot=>exact ⟨_,h,rfl,fun w=>by simp [binOp,Op.intBits,bitsV]⟩
 case eql=>exact ⟨_,h,rfl,fun w=>by simp [binOp,Op.intCmp];rfl⟩
 case neq=>exact ⟨_,h,rfl,fun w=>by simp [binOp,Op.intCmp,bne];rfl⟩
 case lss=>exact ⟨_,h,rfl,fun w=>by simp [binOp,Op.intCmp]⟩
 case leq=>exact ⟨_,h,rfl,fun w=>by simp [binOp,Op.intCmp]⟩
 case gtr=>exact ⟨_,h,rfl,fun w=>by simp [binOp,Op.intCmp]⟩
 case geq=>exact ⟨_,h,rfl,fun w=>by simp [binOp,Op.intCmp]⟩
theorem qun_all {op : UnOp} {x : AV} {v : Value} {cont : AV → Prop} (hr : Rep H ρ x v) (h : qun op x cont) : ∃ y u,cont y ∧ Rep H ρ y u ∧ ∀ w : World,(Op.unary op v).run P w = .ok u w:=by
 unfold qun at h
 split at h
 ·rw [hr.v_inv];exact ⟨_,_,h,.v rfl,fun _=>rfl⟩
 ·rw [hr.v_inv];exact ⟨_,_,arith_sound h,.v rfl,fun _=>rfl⟩
 ·exact h.elim
theorem qconv_all {src dst : TypeId} {x : AV} {v : Value} {cont : AV → Prop} (hr : Rep H ρ x v) (h : qconv P src dst x cont) : ∃ y u,cont y ∧ Rep H ρ y u ∧ ∀ w : World,(convert src dst v).run P w = .ok u w:=by
 obtain ⟨hs,h⟩:=h
 unfold okT at hs
 obtain ⟨ds,hs⟩:=Option.isSome_iff_exists.1 hs
 split at h
 ·rename_i k k' n hd
  rw [hr.v_inv]
  refine ⟨_,_,h,.v rfl,fun w=>?_⟩
  simp only [convert,Sem.run_bind,run_underlying hs,run_underlying hd,Result.andThen_ok]
  cases ds <;> rfl
 ·rename_i s hd
  rw [hr.v_inv]
  refine ⟨_,_,h,.v rfl,fun w=>?_⟩
  simp only [convert,Sem.run_bind,run_underlying hs,run_underlying hd,Result.andThen_ok]
  cases ds <;> rfl
 ·exact h.elim
def isLoad : Op → Bool
 |.load _ _=>true
 |_=>false
theorem qheld_sound {o : Oper} {a : Act} {av : Operand → AV} {k : AV → Prop} (hav : ∀ x,Rep H ρ (av x) (a.eval x)) (h : qheld P o av k) :
 ∃ x u,k x ∧ Rep H ρ x u ∧ ∀ w : World,(isLoad o.op = true → Ext H w) → (execOp a.eval o).run P w = .ok (.value u) w:=by
 unfold qheld at h
 cases hop : o.op with
 |move x =>
  rw [hop] at h
  exact ⟨_,_,h.2,hav x,fun w _=>by simp [execOp,hop]⟩
 |assign x =>
  rw [hop] at h
  exact ⟨_,_,h.2,hav x,fun w _=>by simp [execOp,hop]⟩
 |nilCheck x =>
  rw [hop] at h
  obtain ⟨ht,h⟩:=h
  have hr:=hav x
  exact ⟨_,a.eval x,h,hr,fun w _=>run_nilCheck hop hr ht⟩
 |pick c x y =>
  rw [hop] at h
  have hc:=hav c
  simp only at h
  split at h
  ·rename_i t ht
   rw [ht] at hc
   cases t with
   |true=>exact ⟨_,a.eval x,(h.1 rfl).2,hav x,fun w _=>by simp [execOp,hop,hc.v_inv,asBool]⟩
   |false=>exact ⟨_,a.eval y,(h.2 rfl).2,hav y,fun w _=>by simp [execOp,hop,hc.v_inv,asBool]⟩
  ·exact h.elim
 |unOp op T x =>
  rw [hop] at h
  obtain ⟨y,u,hk,hr,hrun⟩:=qun_all (P:=P) (hav x) h
  exact ⟨y,u,hk,hr,fun w _=>by simp [execOp,hop,hrun w]⟩
 |convert sT dT x =>
  rw [hop] at h
  obtain ⟨y,u,hk,hr,hrun⟩:=qconv_all (P:=P) (hav x) h
  exact ⟨y,u,hk,hr,fun w _=>by simp [execOp,hop,hrun w]⟩
 |extract t i =>
  rw [hop] at h
  have ht:=hav t
  simp only at h
  split at h
  ·rename_i xs hx
   rw [hx] at ht
   split at h
   ·rename_i x hxi
    cases hv : a.eval t with
    |tuple vs =>
     rw [hv] at ht
     cases ht with
     |tup hl hh =>
      rename_i vs
      obtain ⟨u,hu,hr⟩:=RepL.get ⟨hl,hh⟩ hxi
      exact ⟨_,u,h,hr,fun w _=>by simp [execOp,hop,Instr.extract,hv,hu]⟩
    |_=>rw [hv] at ht;cases ht
   ·exact h.elim
  ·exact h.elim
 |fieldAddr T x f =>
  rw [hop] at h
  obtain ⟨y,u,hk,hr,hrun⟩:=qfaddr_all (hav x) h
  exact ⟨y,u,hk,hr,fun w _=>by simp [execOp,hop,hrun w]⟩
 |indexAddr T x i =>
  rw [hop] at h
  obtain ⟨y,u,hk,hr,hrun⟩:=qiaddr_all (hav x) (hav i) h
  exact ⟨y,u,hk,hr,fun w _=>by simp [execOp,hop,hrun w]⟩
 |slice T x lo hi mx =>
  cases mx with
  |some m=>rw [hop] at h;exact h.elim
  |none =>
   rw [hop] at h
   simp only at h
   split at h
   ·rename_i kk xs hx
    have hx':=hav x
    rw [hx] at hx'
    obtain ⟨y,u,hk,hr,hrun⟩:=qslice_all hx' (opt_rep (x:=lo) (fun y hy=>hav y)) (opt_rep (x:=hi) (fun y hy=>hav y)) h
    exact ⟨y,u,hk,hr,fun w _=>by simp [execOp,hop,hrun w]⟩
   ·exact h.elim
 |load T p =>
  rw [hop] at h
  simp only at h
  split at h
  ·rename_i y hy
   have hp:=hav p
   rw [hy] at hp
   obtain ⟨x,u,hk,hr,hrun⟩:=qload_all hp h
   exact ⟨x,u,hk,hr,fun w he=>by simp [execOp,hop,hrun w (he rfl)]⟩
  ·exact h.elim
 |binOp op T x y ty =>
  rw [hop] at h
  simp only at h
  split at h
  ·rename_i ka a' kb b' hx hy
   have h1:=hav x
   have h2:=hav y
   rw [hx] at h1
   rw [hy] at h2
   split at h
   ·exact h.elim
   ·rename_i hns
    unfold qbin at h
    simp only at h
    split at h
    ·rename_i hsh;cases op <;> simp_all
    ·obtain ⟨rfl,h⟩:=h
     obtain ⟨r,hk,hok,hrun⟩:=binInt_all (P:=P) (T:=T) h
     refine ⟨.v r,r,hk,.v hok,fun w _=>?_⟩
     have hg:=run_eqGuard_other (P:=P) (w:=w) (op:=op) (T:=T) (x:=x) (y:=y) (a:=.int ka a') (b:=.int ka b') (by simp) (by simp)
     simp [execOp,hop,h1.v_inv,h2.v_inv,hg,hrun w]
  ·exact h.elim
 |call c =>
  rw [hop] at h
  have hargs:=RepL.mapOps (H:=H) (ρ:=ρ) (av:=av) (ev:=a.eval) (xs:=c.args.toList) (fun x _=>hav x)
  simp only at h
  split at h
  ·rename_i x hc hx
   rw [hx] at hargs
   obtain ⟨v,vs',hvs,hr,hnil⟩:=hargs.cons_inv
   rw [hnil.nil_inv] at hvs
   have hva : c.args.map a.eval = #[v]:=by
    apply Array.toList_inj.1
    rw [Array.toList_map]
    exact hvs
   split at h
   ·rename_i T hT
    have key : ∃ n : Nat,k (.v (.int .i64 n)) ∧ ∀ w : World,(Builtin.len_ c.argTypes o.type #[v]).run P w = .ok (.int .i64 n) w:=by
     split at h
     ·rename_i e hU
      refine ⟨_,h,fun w=>?_⟩
      unfold Builtin.len_
      cases hr with
      |slNil=>simp [hT,run_underlying hU,goInt]
      |sl=>simp [hT,run_underlying hU,goInt]
     ·rename_i e hU
      refine ⟨_,h,fun w=>?_⟩
      unfold Builtin.len_
      cases hr with
      |ownNil=>simp [hT,run_underlying hU,goInt]
      |own=>simp [hT,run_underlying hU,goInt]
     ·exact h.elim
    obtain ⟨n,hk,hrun⟩:=key
    exact ⟨_,_,hk,.v rfl,fun w _=>by simp [execOp,hop,resolve,hc,invoke,builtin,hva,hrun w]⟩
   ·exact h.elim
  ·exact h.elim
 |_=>rw [hop] at h;exact h.elim
variable {E : Env}
theorem Oper.wp_put {o : Oper} {a : Act} {w : World} {K : Act → World → Prop} {Q : Exit → Act → World → Prop} (h : o.wp P a w K Q) : o.wp P a w (fun a' w'=>K a' w' ∧ ∀ i,o.dst ≠ some i → a'.tmps.getD i undef = a.tmps.getD i undef) Q:=by
 have put : ∀ (a a2 : Act) (d : Option Tmp) (v : Value),a2.tmps = a.tmps → ∀ i,d ≠ some i → (a2.put d v).tmps.getD i undef = a.tmps.getD i undef:=by
  intro a a2 d v he i hi
  cases d with
  |none=>simp [Act.put,he]
  |some d =>
   have hne : d ≠ i:=fun e=>hi (by rw [e])
   simp [Act.put,he,Array.getD_eq_getD_getElem?,Array.getElem?_setIfInBounds_ne hne]
 unfold Oper.wp at *
 generalize (execOp a.eval o).run P w = r at *
 cases r with
 |ok n w' =>
  cases n <;> simp only [Oper.upon] at h ⊢
  case value u=>exact ⟨h,put _ _ _ _ rfl⟩
  case skip=>exact ⟨h,put _ _ _ _ rfl⟩
  case defer d=>exact ⟨h,put _ _ _ _ rfl⟩
  case enter f args =>
   refine Calls.mono h fun e w'' he=>?_
   cases e with
   |returned u=>exact ⟨he,put _ _ _ _ rfl⟩
   |panicked c=>exact he
   |outgrown=>exact he
  case row row args=>exact Rows.mono h fun u w'' he=>⟨he,put _ _ _ _ rfl⟩
 |halt x w' =>
  cases x <;> simp only [Oper.upon] at h ⊢
  case panic u=>exact h
def Held (E : Env) (hs : AState) (a : Act) : Prop:=∀ i,Rep E.H0 rho0 (hs.slot i) (a.tmps.getD i undef)
theorem Held.eval {hs : AState} {a : Act} (h : Held E hs a) (x : Operand) : Rep E.H0 rho0 (hs.eval x) (a.eval x):=by
 cases x with
 |tmp t=>exact h t
 |const v=>exact Rep.ofVal v
 |global g=>exact .v rfl
 |func f=>exact Rep.fn (us:=[]) (vs:=[]) rfl rfl (by simp) (by simp)
def DH (P : Program) (E : Env) (ops : Array Oper) (Q : AExit → AState → Prop) (fuel : Nat) (listed : Array Bool) (hs s : AState) : Prop :=
 ∀ H ρ a w,Sim E H ρ s.slot s.box a w → Held E hs a → wpAnyH P .any ops (post E Q) (fun w=>Ext E.H0 w) fuel listed a w
def dropS (hs : AState) (d : Option Tmp) : AState:=⟨hs.s.filter fun p=>decide (d ≠ some p.1),[]⟩
theorem lk_filter (d : Option Tmp) : ∀ (l : List (Nat × AV)) (i : Nat),d ≠ some i → lk (l.filter fun p=>decide (d ≠ some p.1)) i = lk l i
 |[],_,_=>rfl
 |(j,x) :: l,i,h=>by
  by_cases hj : d = some j
  ·have : j ≠ i:=by rintro rfl;exact h hj
   simp [hj,lk,this]
   have:=lk_filter d l i h
   simpa [hj] using this
  ·simp only [List.filter_cons,ne_eq,hj,not_false_eq_true,decide_true,if_true,lk]
   split
   ·rfl
   ·exact lk_filter d l i h
theorem lk_filter0 (d : Option Tmp) : ∀ (l : List (Nat × AV)) (i : Nat),d = some i → lk (l.filter fun p=>decide (d ≠ some p.1)) i = none
 |[],_,_=>rfl
 |(j,x) :: l,i,h=>by
  by_cases hj : d = some j
  ·have:=lk_filter0 d l i h
   simp [hj]
   simpa [hj] using this
  ·have hji : j ≠ i:=by rintro rfl;exact hj h
   simp only [List.filter_cons,ne_eq,hj,not_false_eq_true,decide_true,if_true,lk,if_neg hji]
   exact lk_filter0 d l i h
theorem Held.drop {hs : AState} {a a' : Act} {d : Option Tmp} (h : Held E hs a) (he : ∀ i,d ≠ some i → a'.tmps.getD i undef = a.tmps.getD i undef) : Held E (dropS hs d) a':=by
 intro i
 unfold dropS AState.slot
 by_cases hi : d = some i
 ·simp only [lk_filter0 d hs.s i hi];exact .u
 ·simp only [lk_filter d hs.s i hi]
  rw [he i hi]
  exact h i
theorem Sim.held {H : Heap} {ρ : Rho} {sf : Nat → AV} {bf : Nat → Option Ct} {a : Act} {w : World} (h : Sim E H ρ sf bf a w) : Ext E.H0 w:=fun b o u hu=>h.ext b o u (h.h0 b o u hu)
theorem rep_rho0 {H : Heap} {x : AV} {v : Value} (h : Rep H rho0 x v) (ρ : Rho) : Rep H ρ x v:=h.any (fun _=>rfl) ρ
theorem DH_take {ops : Array Oper} {Q : AExit → AState → Prop} {fuel : Nat} {listed : Array Bool} {hs s : AState} (i : Nat) (oi : Oper) (d : Tmp) (hi : ops[i]? = some oi) (hsel : Region.noSelect ops = true) (hf : Region.free .any ops listed i = true) (hr : (Region.ready .any ops listed).contains i = true)
 (hg : oi.guard = none) (hd : oi.dst = some d) (hdn : d < E.n) (hq : qheld P oi hs.eval (fun x=>DH P E ops Q fuel (listed.setIfInBounds i true) ⟨(d,x) :: hs.s,[]⟩ (s.put (some d) x))) : DH P E ops Q (fuel + 1) listed hs s:=by
 intro H ρ a w hsim hheld
 obtain ⟨x,u,hk,hrep,hrun⟩:=qheld_sound (H:=E.H0) (ρ:=rho0) (fun x=>hheld.eval x) hq
 have hy : YieldsIf P ops (fun w=>Ext E.H0 w) oi u a:=.inl ⟨by simp [Region.wanted,hg],fun w' hw'=>hrun w' (fun _=>hw')⟩
 refine wpAnyH_take hi hsel hf hr (fun c a w h=>h) hy hsim.held ?_
 have hlt : d < a.tmps.size:=by rw [hsim.size];exact hdn
 rw [hd]
 refine hk H ρ _ w ?_ ?_
 ·rw [AState.slot_put,AState.box_put]
  exact hsim.put (by rintro t ht;cases ht;exact hdn) ((rep_rho0 hrep ρ).mono hsim.h0)
 ·intro j
  simp only [AState.slot,lk]
  by_cases hj : d = j
  ·subst hj
   simp [Act.put,hlt,hrep]
  ·rw [if_neg hj]
   have:=hheld j
   simpa [Act.put,Array.getD_eq_getD_getElem?,Array.getElem?_setIfInBounds_ne hj] using this
theorem DH_takeP {ops : Array Oper} {Q : AExit → AState → Prop} {fuel : Nat} {listed : Array Bool} {hs s : AState} (i : Nat) (oi : Oper) (d : Tmp) (hi : ops[i]? = some oi) (hsel : Region.noSelect ops = true) (hf : Region.free .any ops listed i = true) (hr : (Region.ready .any ops listed).contains i = true)
 (hg : oi.guard = none) (hd : oi.dst = some d) (hdn : d < E.n) (hl : isLoad oi.op = false) (hq : qheld P oi s.eval (fun x=>DH P E ops Q fuel (listed.setIfInBounds i true) (dropS hs (some d)) (s.put (some d) x))) : DH P E ops Q (fuel + 1) listed hs s:=by
 intro H ρ a w hsim hheld
 obtain ⟨x,u,hk,hrep,hrun⟩:=qheld_sound (H:=H) (ρ:=ρ) (fun x=>hsim.eval x) hq
 have hy : YieldsIf P ops (fun w=>Ext E.H0 w) oi u a:=.inl ⟨by simp [Region.wanted,hg],fun w' _=>hrun w' (fun h=>by rw [hl] at h;cases h)⟩
 refine wpAnyH_take hi hsel hf hr (fun c a w h=>h) hy hsim.held ?_
 rw [hd]
 refine hk H ρ _ w ?_ (hheld.drop fun j hj=>?_)
 ·rw [AState.slot_put,AState.box_put]
  exact hsim.put (by rintro t ht;cases ht;exact hdn) hrep
 ·have hne : d ≠ j:=fun e=>hj (by rw [e])
  simp [Act.put,Array.getD_eq_getD_getElem?,Array.getElem?_setIfInBounds_ne hne]
def guardK (x : AV) (want : Bool) (yes no : Prop) : Prop:=match x with
 |.v (.bool b)=>(b = want → yes) ∧ (b = (!want) → no)
 |.tup []=>no
 |_=>False
@[simp] theorem guardK_b {b want : Bool} {yes no : Prop} : guardK (.v (.bool b)) want yes no = ((b = want → yes) ∧ (b = (!want) → no)):=rfl
@[simp] theorem guardK_u {want : Bool} {yes no : Prop} : guardK (.tup []) want yes no = no:=rfl
theorem guardK_spec {ops : Array Oper} {o : Oper} {H : Heap} {ρ : Rho} {s : AState} {a : Act} {w : World} {j t : Nat} {want : Bool} {yes no : Prop} (hs : Sim E H ρ s.slot s.box a w) (hg : o.guard = some (j,want)) (ht : (ops[j]?).bind (·.dst) = some t) (h : guardK (s.slot t) want yes no) :
 (Region.wanted o (yielded ops a.tmps) = true ∧ yes) ∨ (Region.wanted o (yielded ops a.tmps) = false ∧ no):=by
 obtain ⟨y1,y2⟩:=yielded_of (a:=a) ht
 unfold guardK at h
 split at h
 ·rename_i b hb
  have hy:=y1 b (bool_slot hs hb)
  by_cases e : b = want
  ·exact .inl ⟨by simp [Region.wanted,hg,hy,e],h.1 e⟩
  ·have e2 : b = !want:=by cases b <;> cases want <;> simp at e ⊢
   refine .inr ⟨?_,h.2 e2⟩
   subst e2
   simp [Region.wanted,hg,hy]
 ·rename_i hb
  exact .inr ⟨by simp [Region.wanted,hg,y2 (undef_slot hs hb)],h⟩
 ·exact h.elim
def DHall (P : Program) (E : Env) (ops : Array Oper) (Q : AExit → AState → Prop) (fuel : Nat) (listed : Array Bool) (hs s : AState) : List Nat → Prop
 |[]=>True
 |i :: is=>(match ops[i]? with
  |some o=>dstOK E.n [o] = true ∧ ((o.guard = none ∧ stepOp P E o s (fun s'=>DH P E ops Q fuel (listed.setIfInBounds i true) (dropS hs o.dst) s')) ∨
    ∃ j want t,o.guard = some (j,want) ∧ (ops[j]?).bind (·.dst) = some t ∧ guardK (s.slot t) want (stepOp P E o s (fun s'=>DH P E ops Q fuel (listed.setIfInBounds i true) (dropS hs o.dst) s'))
      (DH P E ops Q fuel (listed.setIfInBounds i true) (dropS hs o.dst) (s.put o.dst (.tup []))))
  |none=>False) ∧ DHall P E ops Q fuel listed hs s is
theorem DH_all {ops : Array Oper} {Q : AExit → AState → Prop} {fuel : Nat} {listed : Array Bool} {hs s : AState} (rs : List Nat) (hr : Region.ready .any ops listed = rs) (hne : rs ≠ []) (h : DHall P E ops Q fuel listed hs s rs) : DH P E ops Q (fuel + 1) listed hs s:=by
 intro H ρ a w hsim hheld
 refine wpAnyH_all hr hne fun i hi=>?_
 clear hr hne
 induction rs with
 |nil=>cases hi
 |cons j rs ih =>
  obtain ⟨h1,h2⟩:=h
  rcases List.mem_cons.1 hi with rfl|hi
  ·split at h1
   ·rename_i o ho
    obtain ⟨hd,h1⟩:=h1
    have go : Region.wanted o (yielded ops a.tmps) = true → stepOp P E o s (fun s'=>DH P E ops Q fuel (listed.setIfInBounds i true) (dropS hs o.dst) s') → wpOp P ops (post E Q) i (fun a' w'=>Ext E.H0 w' ∧ wpAnyH P .any ops (post E Q) (fun w=>Ext E.H0 w) fuel (listed.setIfInBounds i true) a' w') a w:=by
     intro hw hst
     unfold wpOp
     simp only [ho]
     rw [if_pos hw]
     refine .inl (Oper.wp_mono ?_ (Oper.wp_put (stepOp_sound hsim (dstOK_spec hd o (by simp)) hst)))
     rintro a' w' ⟨⟨s',H',ρ',hk,hs'⟩,hput⟩
     exact ⟨hs'.held,hk H' ρ' a' w' hs' (hheld.drop hput)⟩
    rcases h1 with ⟨hg,hst⟩|⟨j,want,t,hg,ht,hk⟩
    ·exact go (by simp [Region.wanted,hg]) hst
    ·rcases guardK_spec hsim hg ht hk with ⟨hw,hst⟩|⟨hw,hno⟩
     ·exact go hw hst
     ·unfold wpOp
      simp only [ho]
      rw [if_neg (by simp [hw])]
      refine ⟨hsim.held,hno H ρ _ w ?_ (hheld.drop fun k hk=>?_)⟩
      ·rw [AState.slot_put,AState.box_put]
       exact hsim.put (dstOK_spec hd o (by simp)) Rep.undef
      ·cases hod : o.dst with
       |none=>rfl
       |some d =>
        have hne : d ≠ k:=fun e=>hk (by rw [hod,e])
        simp [Act.put,Array.getD_eq_getD_getElem?,Array.getElem?_setIfInBounds_ne hne]
   ·exact h1.elim
  ·exact ih h2 hi
theorem DH_done {ops : Array Oper} {Q : AExit → AState → Prop} {fuel : Nat} {listed : Array Bool} {hs s : AState} (hr : (Region.ready .any ops listed).isEmpty = true) (h : Q .normal s) : DH P E ops Q fuel listed hs s:=by
 intro H ρ a w hsim _
 exact wpAnyH_done (by simpa using hr) ⟨s,H,ρ,h,hsim⟩ fuel
theorem AW_drawH {s : AState} {Q : AExit → AState → Prop} {id : Nat} {l : List Oper} (hs : AState) (hm : P.follows .mixedOrders = true) (hh : ∀ p ∈ hs.s,s.slot p.1 = p.2 ∧ p.2.idf = true)
 (h : ∀ E' : Env,E'.n = E.n → DH P E' l.toArray Q l.length (Array.replicate l.length false) hs s) (hnd : l.all noDef = true:=by rfl) : AW P E (.region id l.toArray true) s Q:=by
 intro H ρ a w hsim
 have hs' : Sim { E with H0:=H } H ρ s.slot s.box a { w with drawn:=w.drawn + 1 }:=by
  have h:=hsim.drew
  exact ⟨h.ext,h.slots,h.size,h.defers,h.boxes,H.le_refl,fun b o v hv h0=>by rw [show H b o = none from h0] at hv;simp at hv,h.frame,h.keep,h.nle⟩
 have hheld : Held { E with H0:=H } hs a:=by
  intro i
  unfold AState.slot
  cases hl : lk hs.s i with
  |none=>exact .u
  |some x =>
   have hmem : (i,x) ∈ hs.s:=lk_mem hl
   obtain ⟨h1,h2⟩:=hh _ hmem
   have:=hsim.slots i
   simp only at h1 h2
   rw [h1] at this
   exact this.idf h2
 have back : ∀ (s : AState) (H' : Heap) (ρ' : Rho) (a : Act) (w : World),Sim { E with H0:=H } H' ρ' s.slot s.box a w → Sim E H' ρ' s.slot s.box a w:=by
  intro s H' ρ' a w h
  refine ⟨h.ext,h.slots,h.size,h.defers,h.boxes,fun b o u hu=>h.h0 b o u (hsim.h0 b o u hu),fun b o v hv h0=>?_,h.frame,h.keep,h.nle⟩
  cases hH : H b o with
  |none=>exact h.new b o v hv hH
  |some u=>exact hsim.new b o u hH h0
 have key:=h { E with H0:=H } rfl H ρ a _ hs' hheld
 have key2 : wpAnyH P .any l.toArray (post { E with H0:=H } Q) (fun w=>Ext H w) l.toArray.size (Array.replicate l.toArray.size false) a { w with drawn:=w.drawn + 1 }:=by simpa using key
 refine wpIn_mono (wpR_region_any (r:=E.round) hm (by simpa using hnd) not_letsOut (wpAny_of_held _ _ _ _ key2)) ?_
 intro e a' w' hp
 cases e with
 |normal=>obtain ⟨s',H',ρ',h1,h2⟩:=hp;exact ⟨s',H',ρ',h1,back _ _ _ _ _ h2⟩
 |ret=>obtain ⟨s',H',ρ',h1,h2⟩:=hp;exact ⟨s',H',ρ',h1,back _ _ _ _ _ h2⟩
 |exit id=>obtain ⟨s',H',ρ',h1,h2⟩:=hp;exact ⟨s',H',ρ',h1,back _ _ _ _ _ h2⟩
 |_=>exact hp
def lst (n : Nat) : List Nat → Array Bool
 |[]=>Array.replicate n false
 |i :: l=>(lst n l).setIfInBounds i true
def DHd (P : Program) (E : Env) (ops : Array Oper) (Q : AExit → AState → Prop) (done : List Nat) (hs s : AState) : Prop:=DH P E ops Q (ops.size - done.length) (lst ops.size done) hs s
structure Kont3 (K A : AState → AState → Prop) : Prop where
 h : ∀ hs s,A hs s → K hs s
theorem useK3 {K A : AState → AState → Prop} {hs s : AState} (h : Kont3 K A) (ha : A hs s) : K hs s:=h.h hs s ha
def takeOK (ops : Array Oper) (done : List Nat) (i : Nat) : Bool :=
 (Region.ready .any ops (lst ops.size done)).contains i && Region.noSelect ops && Region.free .any ops (lst ops.size done) i && decide (done.length < ops.size)
theorem DHd_take {ops : Array Oper} {Q : AExit → AState → Prop} {done : List Nat} {hs s : AState} (i : Nat) {oi : Oper} {d : Tmp} (hi : ops[i]? = some oi) (ht : takeOK ops done i = true)
 (hg : oi.guard = none) (hd : oi.dst = some d) (hdn : d < E.n) (h : ∀ K : AState → AState → Prop,Kont3 K (fun hs' s'=>DHd P E ops Q (i :: done) hs' s') → qheld P oi hs.eval (fun x=>K ⟨(d,x) :: hs.s,[]⟩ (s.put (some d) x))) : DHd P E ops Q done hs s:=by
 simp only [takeOK,Bool.and_eq_true,decide_eq_true_eq] at ht
 obtain ⟨⟨⟨h1,h2⟩,h3⟩,h4⟩:=ht
 have hq:=h _ ⟨fun _ _ h=>h⟩
 unfold DHd
 rw [show ops.size - done.length = (ops.size - (i :: done).length) + 1 by simp;omega]
 exact DH_take i oi d hi h2 h3 h1 hg hd hdn hq
theorem DHd_takeP {ops : Array Oper} {Q : AExit → AState → Prop} {done : List Nat} {hs s : AState} (i : Nat) {oi : Oper} {d : Tmp} (hi : ops[i]? = some oi) (ht : takeOK ops done i = true)
 (hg : oi.guard = none) (hd : oi.dst = some d) (hdn : d < E.n) (hl : isLoad oi.op = false) (h : ∀ K : AState → AState → Prop,Kont3 K (fun hs' s'=>DHd P E ops Q (i :: done) hs' s') → qheld P oi s.eval (fun x=>K (dropS hs (some d)) (s.put (some d) x))) : DHd P E ops Q done hs s:=by
 simp only [takeOK,Bool.and_eq_true,decide_eq_true_eq] at ht
 obtain ⟨⟨⟨h1,h2⟩,h3⟩,h4⟩:=ht
 have hq:=h _ ⟨fun _ _ h=>h⟩
 unfold DHd
 rw [show ops.size - done.length = (ops.size - (i :: done).length) + 1 by simp;omega]
 exact DH_takeP i oi d hi h2 h3 h1 hg hd hdn hl hq
theorem dt {N : Nat} (hN : E.n = N) {ops : Array Oper} {Q : AExit → AState → Prop} {done : List Nat} {hs s : AState} (i : Nat) {oi : Oper} {d : Tmp} (h : ∀ K : AState → AState → Prop,Kont3 K (fun hs' s'=>DHd P E ops Q (i :: done) hs' s') → qheld P oi hs.eval (fun x=>K ⟨(d,x) :: hs.s,[]⟩ (s.put (some d) x)))
 (hi : ops[i]? = some oi:=by exact rfl) (ht : takeOK ops done i = true:=by decide +kernel) (hg : oi.guard = none:=by rfl) (hd : oi.dst = some d:=by rfl) (hdn : d < N:=by decide) : DHd P E ops Q done hs s:=DHd_take i hi ht hg hd (hN ▸ hdn) h
theorem dp {N : Nat} (hN : E.n = N) {ops : Array Oper} {Q : AExit → AState → Prop} {done : List Nat} {hs s : AState} (i : Nat) {oi : Oper} {d : Tmp} (h : ∀ K : AState → AState → Prop,Kont3 K (fun hs' s'=>DHd P E ops Q (i :: done) hs' s') → qheld P oi s.eval (fun x=>K (dropS hs (some d)) (s.put (some d) x)))
 (hi : ops[i]? = some oi:=by exact rfl) (ht : takeOK ops done i = true:=by decide +kernel) (hg : oi.guard = none:=by rfl) (hd : oi.dst = some d:=by rfl) (hdn : d < N:=by decide) (hl : isLoad oi.op = false:=by rfl) : DHd P E ops Q done hs s:=DHd_takeP i hi ht hg hd (hN ▸ hdn) hl h
def rdy (ops : Array Oper) (done : List Nat) (i : Nat) : Bool:=(Region.ready .any ops (lst ops.size done)).contains i
def DHsome (P : Program) (E : Env) (ops : Array Oper) (Q : AExit → AState → Prop) (done : List Nat) (hs s : AState) : Nat → Prop
 |0=>True
 |i + 1=>DHsome P E ops Q done hs s i ∧ (rdy ops done i = true → match ops[i]? with
  |some o=>dstOK E.n [o] = true ∧ ((o.guard = none ∧ stepOp P E o s (fun s'=>DHd P E ops Q (i :: done) (dropS hs o.dst) s')) ∨
    ∃ j want t,o.guard = some (j,want) ∧ (ops[j]?).bind (·.dst) = some t ∧ guardK (s.slot t) want (stepOp P E o s (fun s'=>DHd P E ops Q (i :: done) (dropS hs o.dst) s')) (DHd P E ops Q (i :: done) (dropS hs o.dst) (s.put o.dst (.tup []))))
  |none=>False)
theorem DHsome_nil {ops : Array Oper} {Q : AExit → AState → Prop} {done : List Nat} {hs s : AState} : DHsome P E ops Q done hs s 0:=trivial
theorem DHsome_no {ops : Array Oper} {Q : AExit → AState → Prop} {done : List Nat} {hs s : AState} {i : Nat} (h : rdy ops done i = false) (r : DHsome P E ops Q done hs s i) : DHsome P E ops Q done hs s (i + 1):=⟨r,fun h'=>by rw [h] at h';cases h'⟩
theorem DHsome_yes {ops : Array Oper} {Q : AExit → AState → Prop} {done : List Nat} {hs s : AState} {i : Nat} {oi : Oper} (hi : ops[i]? = some oi) (hg : oi.guard = none) (hd : dstOK E.n [oi] = true)
 (h : ∀ K : AState → AState → Prop,Kont3 K (fun hs' s'=>DHd P E ops Q (i :: done) hs' s') → stepOp P E oi s (fun s'=>K (dropS hs oi.dst) s')) (r : DHsome P E ops Q done hs s i) : DHsome P E ops Q done hs s (i + 1) :=
 ⟨r,fun _=>by rw [hi];exact ⟨hd,.inl ⟨hg,h _ ⟨fun _ _ h=>h⟩⟩⟩⟩
theorem DHsome_yesG {ops : Array Oper} {Q : AExit → AState → Prop} {done : List Nat} {hs s : AState} {i j t : Nat} {want : Bool} {oi : Oper} (hi : ops[i]? = some oi) (hg : oi.guard = some (j,want)) (ht : (ops[j]?).bind (·.dst) = some t) (hd : dstOK E.n [oi] = true)
 (h : ∀ K : AState → AState → Prop,Kont3 K (fun hs' s'=>DHd P E ops Q (i :: done) hs' s') → guardK (s.slot t) want (stepOp P E oi s (fun s'=>K (dropS hs oi.dst) s')) (K (dropS hs oi.dst) (s.put oi.dst (.tup [])))) (r : DHsome P E ops Q done hs s i) : DHsome P E ops Q done hs s (i + 1) :=
 ⟨r,fun _=>by rw [hi];exact ⟨hd,.inr ⟨j,want,t,hg,ht,h _ ⟨fun _ _ h=>h⟩⟩⟩⟩
theorem DHd_any {ops : Array Oper} {Q : AExit → AState → Prop} {done : List Nat} {hs s : AState} {n : Nat} (hn : ops.size = n) (h0 : (!(Region.ready .any ops (lst ops.size done)).isEmpty && decide (done.length < ops.size)) = true) (h : DHsome P E ops Q done hs s n) : DHd P E ops Q done hs s:=by
 simp only [Bool.and_eq_true,decide_eq_true_eq,Bool.not_eq_true',List.isEmpty_eq_false_iff] at h0
 unfold DHd
 rw [show ops.size - done.length = (ops.size - done.length - 1) + 1 by omega]
 refine DH_all _ rfl h0.1 ?_
 have all : ∀ i,i < n → rdy ops done i = true → ∃ o,ops[i]? = some o ∧ dstOK E.n [o] = true ∧ ((o.guard = none ∧ stepOp P E o s (fun s'=>DHd P E ops Q (i :: done) (dropS hs o.dst) s')) ∨
       ∃ j want t,o.guard = some (j,want) ∧ (ops[j]?).bind (·.dst) = some t ∧ guardK (s.slot t) want (stepOp P E o s (fun s'=>DHd P E ops Q (i :: done) (dropS hs o.dst) s')) (DHd P E ops Q (i :: done) (dropS hs o.dst) (s.put o.dst (.tup [])))):=by
  clear hn
  induction n with
  |zero=>intro i h;omega
  |succ n ih =>
   intro i hi hr
   obtain ⟨h1,h2⟩:=h
   by_cases e : i = n
   ·subst e
    have:=h2 hr
    split at this
    ·rename_i o ho;exact ⟨o,ho,this⟩
    ·exact this.elim
   ·exact ih h1 i (by omega) hr
 have key : ∀ rs : List Nat,(∀ i ∈ rs,i ∈ Region.ready .any ops (lst ops.size done)) → DHall P E ops Q (ops.size - done.length - 1) (lst ops.size done) hs s rs:=by
  intro rs
  induction rs with
  |nil=>intro _;trivial
  |cons i rs ih =>
   intro hm
   refine ⟨?_,ih fun j hj=>hm j (List.mem_cons_of_mem _ hj)⟩
   have hi:=hm i List.mem_cons_self
   obtain ⟨_,o,ho,_⟩:=mem_ready.1 hi
   have hlt:=(Array.getElem?_eq_some_iff.1 ho).1
   obtain ⟨o',ho',hst⟩:=all i (by omega) (by simpa [rdy] using hi)
   rw [ho']
   have e : ops.size - done.length - 1 = ops.size - (i :: done).length:=by simp;omega
   rw [e]
   exact hst
 exact key _ fun i hi=>hi
theorem DHd_done {ops : Array Oper} {Q : AExit → AState → Prop} {done : List Nat} {hs s : AState} (hr : (Region.ready .any ops (lst ops.size done)).isEmpty = true) (h : Q .normal s) : DHd P E ops Q done hs s:=DH_done hr h
theorem AW_drawHd {s : AState} {Q : AExit → AState → Prop} {id : Nat} {l : List Oper} (hs : AState) (hm : P.follows .mixedOrders = true) (hh : ∀ p ∈ hs.s,s.slot p.1 = p.2 ∧ p.2.idf = true)
 (h : ∀ E' : Env,E'.n = E.n → DHd P E' l.toArray Q [] hs s) (hnd : l.all noDef = true:=by rfl) : AW P E (.region id l.toArray true) s Q :=
 AW_drawH hs hm hh (fun E' hE'=>by
  have:=h E' hE'
  simpa [DHd,lst] using this) hnd
end
@[simp] theorem dropS_mk (l : List (Nat × AV)) (b : List (Nat × Ct)) (d : Option Tmp) : dropS ⟨l,b⟩ d = ⟨l.filter fun p=>decide (d ≠ some p.1),[]⟩:=rfl
attribute [simp] qheld AV.kn
end Go.Am
end
section
namespace Go.Am
open Go.RowKit
section
variable {P : Program} {E : Env} {s : AState} {Q : AExit → AState → Prop}
theorem AW_mkrowC (i d T k T' f : Nat) {cs : List AV} {c : Code} (hs : s.box i = some (.box T' (.st cs))) (hf : cs[f]? = some (.v (.slice none 0 0))) (hm : s.ment d = false) (hb : s.box d = none) (hd : d < 1000000) (h : AW P E c ⟨s.s,(i,.box T' (.st (cs.set f (.own d k 0 0)))) :: (d,.arr T k []) :: s.b⟩ Q) : AW P E c s Q:=by
 intro H ρ a w hS
 obtain ⟨hm1,hm2⟩:=fresh2 hm
 have hid : i ≠ d:=by rintro rfl;rw [hb] at hs;cases hs
 have hat : ∀ j b cap,(ρ.upd d .nil) j = .at b cap → j ≠ d ∧ ρ j = .at b cap:=by
  intro j b cap h
  simp only [Rho.upd] at h
  split at h
  ·cases h
  ·rename_i e;exact ⟨e,h⟩
 have hbx : ∀ j c',lk ((i,Ct.box T' (.st (cs.set f (.own d k 0 0)))) :: (d,Ct.arr T k []) :: s.b) j = some c' → (j = i ∧ c' = .box T' (.st (cs.set f (.own d k 0 0)))) ∨ (j = d ∧ c' = .arr T k []) ∨ (j ≠ d ∧ s.box j = some c'):=by
  intro j c' h
  simp only [lk] at h
  split at h
  ·rename_i e;cases h;exact .inl ⟨e.symm,rfl⟩
  ·split at h
   ·rename_i e;cases h;exact .inr (.inl ⟨e.symm,rfl⟩)
   ·rename_i e;exact .inr (.inr ⟨fun e'=>e e'.symm,h⟩)
 have hold : ∀ j c',lk ((i,Ct.box T' (.st (cs.set f (.own d k 0 0)))) :: (d,Ct.arr T k []) :: s.b) j = some c' → j ≠ d → ∃ c0,s.box j = some c0:=by
  intro j c' h hj
  rcases hbx j c' h with ⟨rfl,_⟩|⟨h,_⟩|⟨_,h⟩
  ·exact ⟨_,hs⟩
  ·exact absurd h hj
  ·exact ⟨_,h⟩
 refine h H (ρ.upd d .nil) a w ⟨hS.ext,fun j=>(hS.slots j).upd (hm1 j),hS.size,hS.defers,⟨fun j c' hc=>?_,fun j c' b cap hc hbd=>?_,fun j j' c' c'' b cap cap' hc hc' h1 h2=>?_⟩,hS.h0,hS.new,hS.frame,fun j hj hj2=>?_,hS.nle⟩
 ·rcases hbx j c' hc with ⟨rfl,rfl⟩|⟨rfl,rfl⟩|⟨h1,h2⟩
  ·have e : (ρ.upd d .nil) j = ρ j:=by simp [Rho.upd,hid]
   rw [e]
   obtain ⟨b,cap,vs,g1,g2,g3,g4,g5⟩:=hS.boxes.rep _ _ hs
   simp only [AV.cells] at g3 g5
   have hmL : mentL d cs = false:=by simpa using hm2 _ _ hs
   have g3':=RepL.upd (d:=d) (bd:=.nil) g3 hmL
   refine ⟨b,cap,vs,g1,g2,⟨by simp only [AV.cells,List.length_set];exact g3.1,fun q c' u hc' hu=>?_⟩,fun c' hc'=>?_,by simp only [AV.cells,List.length_set];exact g5⟩
   ·simp only [AV.cells,List.getElem?_set] at hc'
    split at hc'
    ·rename_i e2
     subst e2
     split at hc'
     ·cases hc'
      have:=g3.2 f _ u hf hu
      rw [Rep.v_inv this]
      exact .ownNil (Rho.upd_same _ _ _)
     ·cases hc'
    ·exact g3'.2 q c' u hc' hu
   ·simp only [AV.cells] at hc'
    rcases List.mem_or_eq_of_mem_set hc' with h1|rfl
    ·exact g4 c' h1
    ·rfl
  ·exact .inl ⟨Rho.upd_same _ _ _,rfl⟩
  ·have e : (ρ.upd d .nil) j = ρ j:=by simp [Rho.upd,h1]
   rw [e]
   refine (hS.boxes.rep _ _ h2).mono H.le_refl (fun x hx=>?_) (fun _ _ _=>rfl)
   have : x ≠ d:=by rintro rfl;rw [hm2 _ _ h2] at hx;cases hx
   simp [Rho.upd,this]
 ·obtain ⟨h1,h2⟩:=hat _ _ _ hbd
  obtain ⟨c0,h3⟩:=hold j c' hc h1
  exact hS.boxes.apart _ _ _ _ h3 h2
 ·obtain ⟨h3,h4⟩:=hat _ _ _ h1
  obtain ⟨h5,h6⟩:=hat _ _ _ h2
  obtain ⟨c0,h7⟩:=hold j c' hc h3
  obtain ⟨c1,h8⟩:=hold j' c'' hc' h5
  exact hS.boxes.inj _ _ _ _ _ _ _ h7 h8 h4 h6
 ·have : j ≠ d:=by omega
  simp [Rho.upd,this,hS.keep j hj (by assumption)]
end
end Go.Am
end
section
namespace Go.Am
open Go.RowKit
def pureK (P : Program) (s : AState) (o : Oper) (K : AV → Prop) : Prop :=
 o.guard = none ∧ match o.op with
 |.move x=>K (s.eval x)
 |.assign x=>K (s.eval x)
 |.binOp op _ x y _=>(match op,s.eval x,s.eval y with
  |.add,.v (.int .i64 a),.v (.int .i64 b)=>(-9223372036854775808 ≤ a + b ∧ a + b ≤ 9223372036854775807) ∧ K (.v (.int .i64 (a + b)))
  |.sub,.v (.int .i64 a),.v (.int .i64 b)=>(-9223372036854775808 ≤ a - b ∧ a - b ≤ 9223372036854775807) ∧ K (.v (.int .i64 (a - b)))
  |_,_,_=>False)
 |.indexAddr T x i=>(match s.eval x,P.underlying T,s.eval i with
  |.own id k off m,some (.slice e),.v (.int _ n)=>(okT P e = true ∧ P.cellsOf e = k ∧ 0 ≤ n ∧ n < m) ∧ K (.eloc id k (off + n.toNat) 0)
  |_,_,_=>False)
 |_=>False
section
variable {P : Program} {E : Env}
theorem pure_yields {H : Heap} {ρ : Rho} {s : AState} {a : Act} {w : World} {o : Oper} {ops : Array Oper} {K : AV → Prop} (hs : Sim E H ρ s.slot s.box a w) (h : pureK P s o K) : ∃ x v,K x ∧ Rep H ρ x v ∧ Yields P ops o v a:=by
 obtain ⟨hg,h⟩:=h
 have hw : Region.wanted o (yielded ops a.tmps) = true:=by simp [Region.wanted,hg]
 cases hop : o.op <;> rw [hop] at h <;> simp only at h
 case move x=>exact ⟨_,_,h,hs.eval x,.inl ⟨hw,fun w=>by simp [execOp,hop]⟩⟩
 case assign x=>exact ⟨_,_,h,hs.eval x,.inl ⟨hw,fun w=>by simp [execOp,hop]⟩⟩
 case binOp op T x y T' =>
  have hx:=hs.eval x
  have hy:=hs.eval y
  unfold AState.eval at h
  split at h
  ·rename_i a' b' h1 h2
   rw [h1] at hx
   rw [h2] at hy
   obtain ⟨hr,hk⟩:=h
   refine ⟨_,.int .i64 (a' + b'),hk,.v rfl,.inl ⟨hw,fun w=>?_⟩⟩
   have hwr:=wrap_in .i64 (n:=a' + b') hr.1 hr.2
   have hg:=run_eqGuard_other (P:=P) (w:=w) (op:=.add) (T:=T) (x:=x) (y:=y) (a:=.int .i64 a') (b:=.int .i64 b') (by simp) (by simp)
   simp [execOp,hop,hx.v_inv,hy.v_inv,Sem.run_bind,hg,binOp,Op.intArith,hwr]
  ·rename_i a' b' h1 h2
   rw [h1] at hx
   rw [h2] at hy
   obtain ⟨hr,hk⟩:=h
   refine ⟨_,.int .i64 (a' - b'),hk,.v rfl,.inl ⟨hw,fun w=>?_⟩⟩
   have hwr:=wrap_in .i64 (n:=a' - b') hr.1 hr.2
   have hg:=run_eqGuard_other (P:=P) (w:=w) (op:=.sub) (T:=T) (x:=x) (y:=y) (a:=.int .i64 a') (b:=.int .i64 b') (by simp) (by simp)
   simp [execOp,hop,hx.v_inv,hy.v_inv,Sem.run_bind,hg,binOp,Op.intArith,hwr]
  ·exact h.elim
 case indexAddr T x i =>
  have hx:=hs.eval x
  have hi:=hs.eval i
  unfold AState.eval at h
  split at h
  ·rename_i id k off m e ik n h1 hT h3
   rw [h1] at hx
   rw [h3] at hi
   obtain ⟨⟨hok,hk,h0,h4⟩,hK⟩:=h
   generalize hv : a.eval x = v at hx
   cases hx with
   |ownNil=>omega
   |own hρ hn hm =>
    rename_i cc b cap
    have hrep:=Rep.eloc (H:=H) (ρ:=ρ) (k:=k) (i:=off + n.toNat) (off:=0) hρ
    refine ⟨_,_,hK,hrep,.inl ⟨hw,fun w=>?_⟩⟩
    have hrun:=run_indexAt_slice (P:=P) (w:=w) (ik:=ik) (b:=b) (o:=off * k) (cap:=cc) hT hok h0 h4
    rw [hk,← Nat.add_mul] at hrun
    simp [execOp,hop,hv,hi.v_inv,hrun,Sem.run_bind]
  ·exact h.elim
 all_goals exact h.elim
def DR (P : Program) (E : Env) (ops : Array Oper) (Q : AExit → AState → Prop) (fuel : Nat) (listed : Array Bool) (s : AState) : Prop :=
 ∀ H ρ a w,Sim E H ρ s.slot s.box a w → wpAny P .any ops (post E Q) fuel listed a w
theorem AW_DR {s : AState} {Q : AExit → AState → Prop} {id : Nat} {l : List Oper} (hm : P.follows .mixedOrders = true) (hd : dstOK E.n l = true) (h : DR P E l.toArray Q l.length (Array.replicate l.length false) s) : AW P E (.region id l.toArray true) s Q:=by
 intro H ρ a w hs
 refine wpR_region_any hm (dstOK_ndA hd) not_letsOut ?_
 have:=h H ρ a _ hs.drew
 simpa using this
variable {ops : Array Oper} {Q : AExit → AState → Prop} {fuel : Nat} {listed : Array Bool} {s : AState}
theorem DR_take {N : Nat} (i : Nat) {o : Oper} (hE : E.n = N) (hi : ops[i]? = some o) (hs : Region.noSelect ops = true) (hf : Region.free .any ops listed i = true) (hr : (Region.ready .any ops listed).contains i = true) (hd : dstOK N [o] = true)
 (h : pureK P s o (fun x=>DR P E ops Q fuel (listed.setIfInBounds i true) (s.put o.dst x))) : DR P E ops Q (fuel + 1) listed s:=by
 intro H ρ a w hsim
 obtain ⟨x,v,hk,hrep,hy⟩:=pure_yields (ops:=ops) hsim h
 refine wpAny_take hi hs hf hr (fun c a w h=>h.elim) hy (hk H ρ _ w ?_)
 rw [AState.slot_put,AState.box_put]
 exact hsim.put (fun t ht=>hE ▸ dstOK_spec hd o (by simp) t ht) hrep
theorem DR_one {N : Nat} (i : Nat) {o : Oper} (hE : E.n = N) (hi : ops[i]? = some o) (hg : o.guard = none) (hd : dstOK N [o] = true) (h : stepOp P E o s (fun s'=>DR P E ops Q fuel (listed.setIfInBounds i true) s')) {H : Heap} {ρ : Rho} {a : Act} {w : World}
 (hsim : Sim E H ρ s.slot s.box a w) : wpOp P ops (post E Q) i (wpAny P .any ops (post E Q) fuel (listed.setIfInBounds i true)) a w:=by
 unfold wpOp
 rw [hi]
 simp only
 rw [if_pos (by simp [Region.wanted,hg])]
 left
 refine Oper.wp_mono ?_ (stepOp_sound (Q:=post E Q) hsim (fun t ht=>hE ▸ dstOK_spec hd o (by simp) t ht) h)
 rintro a' w' ⟨s',H',ρ',hk,hs'⟩
 exact hk H' ρ' a' w' hs'
theorem DR_done (hr : Region.ready .any ops listed = []) (h : Q .normal s) : DR P E ops Q fuel listed s:=by
 intro H ρ a w hsim
 exact wpAny_done hr ⟨s,H,ρ,h,hsim⟩ fuel
theorem dT {N : Nat} (i : Nat) {o : Oper} (hE : E.n = N) (h : ∀ K : AState → Prop,Kont K (fun s'=>DR P E ops Q fuel (listed.setIfInBounds i true) s') → pureK P s o (fun x=>K (s.put o.dst x)))
 (hi : ops[i]? = some o:=by rfl) (hs : Region.noSelect ops = true:=by decide +kernel) (hf : Region.free .any ops listed i = true:=by decide +kernel) (hr : (Region.ready .any ops listed).contains i = true:=by decide +kernel) (hd : dstOK N [o] = true:=by decide +kernel) : DR P E ops Q (fuel + 1) listed s :=
 DR_take i hE hi hs hf hr hd (h _ ⟨fun _ h=>h⟩)
end
attribute [simp ↓] pureK
theorem AW_seqE {P : Program} {E : Env} {G : Type} (I : G → AState) (ok : G → Prop) {x y : Code} {s : AState} {Q : AExit → AState → Prop} (h2 : ∀ g,ok g → AW P E y (I g) Q)
 (h1 : ∀ K : AState → Prop,Kont K (fun s'=>∃ g,ok g ∧ s'.le (I g)) → AW P E x s (thenK K Q)) : AW P E (.seq x y) s Q :=
 AW_seq fun K hK=>h1 K ⟨fun s' ⟨g,hg,hl⟩=>hK s' (AW_le hl (h2 g hg))⟩
end Go.Am
end
section
namespace Go.Am
open Go.RowKit
inductive Cell : Ct → AV → (AV → Ct) → Prop
 |var {T : TypeId} {x : AV} (h : x.one = true) : Cell (.box T x) x (fun y=>.box T y)
 |box {T : TypeId} {cs : List AV} {f : Nat} {x : AV} (h : cs[f]? = some x) : Cell (.box T (.st cs)) x (fun y=>.box T (.st (cs.set f y)))
 |arr {T k : Nat} {xs : List AV} {e f : Nat} {cs : List AV} {x : AV} (he : xs[e]? = some (.st cs)) (h : cs[f]? = some x) : Cell (.arr T k xs) x (fun y=>.arr T k (xs.set e (.st (cs.set f y))))
theorem RepL.setSame {H : Heap} {ρ ρ' : Rho} {cs : List AV} {vs : List Value} (h : RepL H ρ cs vs) {f : Nat} {y : AV} {u : Value} (hu : vs[f]? = some u) (hr : ∀ d,mentL d cs = true → ρ' d = ρ d) (hy : Rep H ρ' y u) : RepL H ρ' (cs.set f y) vs:=by
 refine ⟨by simp [h.1],fun i c v hc hv=>?_⟩
 rw [List.getElem?_set] at hc
 split at hc
 ·rename_i e;subst e
  split at hc
  ·cases hc
   rw [hu] at hv
   cases hv
   exact hy
  ·cases hc
 ·exact (h.2 i c v hc hv).rho (fun d hd=>hr d (ment_of_mem hc hd))
theorem cell_get {k : Nat} {cs : List AV} {f : Nat} {x : AV} (h : cs[f]? = some x) : ∀ (xs : List AV) (e : Nat),(∀ x ∈ xs,x.cells.length = k) → xs[e]? = some (.st cs) → (xs.flatMap AV.cells)[e * k + f]? = some x
 |[],e,_,he=>by simp at he
 |a :: xs,0,hk,he=>by
  simp only [List.getElem?_cons_zero,Option.some.injEq] at he
  subst he
  have hf:=(List.getElem?_eq_some_iff.1 h).1
  rw [List.flatMap_cons,Nat.zero_mul,Nat.zero_add,List.getElem?_append_left (by simpa [AV.cells] using hf)]
  simpa [AV.cells] using h
 |a :: xs,e + 1,hk,he=>by
  have ha:=hk a (by simp)
  rw [List.flatMap_cons,List.getElem?_append_right (by rw [ha,Nat.add_mul];omega),ha]
  have : (e + 1) * k + f - k = e * k + f:=by rw [Nat.add_mul];omega
  rw [this]
  exact cell_get h xs e (fun x hx=>hk x (by simp [hx])) (by simpa using he)
theorem cell_set {k : Nat} {cs : List AV} {f : Nat} {y : AV} (hf : f < cs.length) : ∀ (xs : List AV) (e : Nat),(∀ x ∈ xs,x.cells.length = k) → xs[e]? = some (.st cs) → (xs.set e (.st (cs.set f y))).flatMap AV.cells = (xs.flatMap AV.cells).set (e * k + f) y
 |[],e,_,he=>by simp at he
 |a :: xs,0,hk,he=>by
  simp only [List.getElem?_cons_zero,Option.some.injEq] at he
  subst he
  rw [List.set_cons_zero,List.flatMap_cons,List.flatMap_cons,Nat.zero_mul,Nat.zero_add,List.set_append,if_pos (by simpa [AV.cells] using hf)]
  rfl
 |a :: xs,e + 1,hk,he=>by
  have ha:=hk a (by simp)
  rw [List.set_cons_succ,List.flatMap_cons,List.flatMap_cons,List.set_append,if_neg (by rw [ha,Nat.add_mul];omega),ha]
  have : (e + 1) * k + f - k = e * k + f:=by rw [Nat.add_mul];omega
  rw [this,cell_set hf xs e (fun x hx=>hk x (by simp [hx])) (by simpa using he)]
theorem Cell.repG {c : Ct} {x : AV} {f : AV → Ct} (h : Cell c x f) {H : Heap} {ρ : Rho} {w : World} {bd : Bd} (hr : CtRep H ρ w bd c) :
 ∃ u,Rep H ρ x u ∧ ∀ G ρ' y,H.le G → (∀ d,c.ment d = true → ρ' d = ρ d) → Rep G ρ' y u → y.one = true → CtRep G ρ' w bd (f y):=by
 cases h with
 |var h =>
  rename_i T
  obtain ⟨b,cap,vs,g1,g2,g3,g4,g5⟩:=hr
  rw [AV.one_cells h] at g3 g5
  obtain ⟨u,us,rfl,hx,hn⟩:=g3.cons_inv
  rw [hn.nil_inv] at g2
  refine ⟨u,hx,fun G ρ' y hle hρ hy h1=>⟨b,cap,[u],g1,g2,?_,?_,?_⟩⟩
  ·rw [AV.one_cells h1];exact RepL.cons hy RepL.nil
  ·intro c hc
   rw [AV.one_cells h1] at hc
   simp at hc
   rw [hc];exact h1
  ·rw [AV.one_cells h1];exact g5
 |box h =>
  rename_i T cs p
  obtain ⟨b,cap,vs,g1,g2,g3,g4,g5⟩:=hr
  obtain ⟨u,hu,hx⟩:=g3.get (by simpa [AV.cells] using h)
  refine ⟨u,hx,fun G ρ' y hle hρ hy h1=>⟨b,cap,vs,g1,g2,?_,?_,by simpa [AV.cells] using g5⟩⟩
  ·exact (g3.mono hle).setSame hu (fun d hd=>hρ d (by simpa [Ct.ment,AV.ment,AV.cells] using hd)) hy
  ·intro c' hc'
   simp only [AV.cells] at hc'
   rcases List.mem_or_eq_of_mem_set hc' with h2|rfl
   ·exact g4 c' h2
   ·exact h1
 |arr he h =>
  rename_i T k xs e p cs
  rcases hr with ⟨_,rfl⟩|⟨b,cap,cur,g1,g2,g3,g4,g5,g6,g7⟩
  ·simp at he
  ·have hf:=(List.getElem?_eq_some_iff.1 h).1
   have hk : ∀ x ∈ xs,x.cells.length = k:=fun x hx=>(g7 x hx).1
   obtain ⟨u,hu,hx⟩:=g6.get (cell_get h xs e hk he)
   refine ⟨u,hx,fun G ρ' y hle hρ hy h1=>.inr ⟨b,cap,cur,g1,g2,g3,by simpa using g4,g5,?_,?_⟩⟩
   ·rw [cell_set hf xs e hk he,List.length_set]
    exact (g6.mono hle).setSame hu (fun d hd=>hρ d (by simpa [Ct.ment] using mentL_flat hd)) hy
   ·intro x' hx'
    rcases List.mem_or_eq_of_mem_set hx' with h2|rfl
    ·exact g7 x' h2
    ·have h3:=g7 _ (List.mem_of_getElem? he)
     refine ⟨by simpa [AV.cells] using h3.1,fun c' hc'=>?_⟩
     simp only [AV.cells] at hc'
     rcases List.mem_or_eq_of_mem_set hc' with h4|rfl
     ·exact h3.2 c' h4
     ·exact h1
theorem Cell.rep {c : Ct} {x : AV} {f : AV → Ct} (h : Cell c x f) {H : Heap} {ρ : Rho} {w : World} {bd : Bd} (hr : CtRep H ρ w bd c) :
 ∃ u,Rep H ρ x u ∧ ∀ ρ' y,(∀ d,c.ment d = true → ρ' d = ρ d) → Rep H ρ' y u → y.one = true → CtRep H ρ' w bd (f y) :=
 let ⟨u,h1,h2⟩:=h.repG hr;⟨u,h1,fun ρ' y h3=>h2 H ρ' y H.le_refl h3⟩
theorem upd_ne {c : Ct} {d : Nat} {ρ : Rho} {bd : Bd} (h : c.ment d = false) : ∀ x,c.ment x = true → (ρ.upd d bd) x = ρ x:=by
 intro x hx
 have : x ≠ d:=by
  intro e
  rw [e,h] at hx
  cases hx
 simp [Rho.upd,this]
section
variable {P : Program} {E : Env} {s : AState} {Q : AExit → AState → Prop}
theorem Sim.recell {H : Heap} {ρ : Rho} {a : Act} {w : World} (hS : Sim E H ρ s.slot s.box a w) {i d del : Nat} {bd : Bd} {c0 c1 cd : Ct} {bf : Nat → Option Ct}
 (hi : s.box i = some c0) (hc1 : CtRep H (ρ.upd d bd) w (ρ i) c1) (hm : s.ment d = false) (hb : s.box d = none) (hd : d < 1000000 ∨ 2000000 ≤ d) (hcd : CtRep H (ρ.upd d bd) w bd cd)
 (hat : ∀ b cap,bd = .at b cap → ∃ cap' c',s.box del = some c' ∧ ρ del = .at b cap') (hidel : i ≠ del)
 (hbf : ∀ j c',bf j = some c' → (j = i ∧ c' = c1) ∨ (j = d ∧ c' = cd) ∨ (j ≠ d ∧ j ≠ i ∧ j ≠ del ∧ s.box j = some c')) : Sim E H (ρ.upd d bd) s.slot bf a w:=by
 obtain ⟨hm1,hm2⟩:=fresh2 hm
 have hid : i ≠ d:=by rintro rfl;rw [hb] at hi;cases hi
 have e0 : ∀ j,j ≠ d → (ρ.upd d bd) j = ρ j:=fun j hj=>by simp [Rho.upd,hj]
 have ed : (ρ.upd d bd) d = bd:=Rho.upd_same _ _ _
 have hwas : ∀ j c' b cap,bf j = some c' → (ρ.upd d bd) j = .at b cap → ∃ j0 c0 cap0,s.box j0 = some c0 ∧ ρ j0 = .at b cap0 ∧ ((j ≠ d ∧ j0 = j ∧ j ≠ del) ∨ (j = d ∧ j0 = del)):=by
  intro j c' b cap hc hbd
  rcases hbf j c' hc with ⟨rfl,_⟩|⟨rfl,_⟩|⟨h1,h2,h3,h4⟩
  ·rw [e0 _ hid] at hbd
   exact ⟨_,_,cap,hi,hbd,.inl ⟨hid,rfl,hidel⟩⟩
  ·rw [ed] at hbd
   obtain ⟨cap',c2,h1,h2⟩:=hat b cap hbd
   exact ⟨_,_,cap',h1,h2,.inr ⟨rfl,rfl⟩⟩
  ·rw [e0 _ h1] at hbd
   exact ⟨_,_,cap,h4,hbd,.inl ⟨h1,rfl,h3⟩⟩
 refine ⟨hS.ext,fun j=>(hS.slots j).upd (hm1 j),hS.size,hS.defers,⟨fun j c' hc=>?_,fun j c' b cap hc hbd=>?_,fun j j' c' c'' b cap cap' hc hc' h1 h2=>?_⟩,hS.h0,hS.new,hS.frame,fun j hj hj2=>?_,hS.nle⟩
 ·rcases hbf j c' hc with ⟨rfl,rfl⟩|⟨rfl,rfl⟩|⟨h1,_,_,h4⟩
  ·rw [e0 _ hid];exact hc1
  ·rw [ed];exact hcd
  ·rw [e0 _ h1]
   refine (hS.boxes.rep _ _ h4).mono H.le_refl (fun x hx=>?_) (fun _ _ _=>rfl)
   have : x ≠ d:=by rintro rfl;rw [hm2 _ _ h4] at hx;cases hx
   simp [Rho.upd,this]
 ·obtain ⟨j0,c2,cap0,h1,h2,_⟩:=hwas j c' b cap hc hbd
  exact hS.boxes.apart _ _ _ _ h1 h2
 ·obtain ⟨j0,c2,cap0,h3,h4,h5⟩:=hwas j c' b cap hc h1
  obtain ⟨j1,c3,cap1,h6,h7,h8⟩:=hwas j' c'' b cap' hc' h2
  have:=hS.boxes.inj _ _ _ _ _ _ _ h3 h6 h4 h7
  rcases h5 with ⟨g1,g2,g3⟩|⟨g1,g2⟩ <;> rcases h8 with ⟨k1,k2,k3⟩|⟨k1,k2⟩
  ·omega
  ·omega
  ·omega
  ·omega
 ·have : j ≠ d:=by omega
  rw [e0 _ this]
  exact hS.keep j hj hj2
theorem AW_mkrowG (i d T k : Nat) {c0 : Ct} {f : AV → Ct} {c : Code} {t : AState} (hi : s.box i = some c0) (hc : Cell c0 (.v (.slice none 0 0)) f) (hm : s.ment d = false) (hb : s.box d = none) (hd : d < 1000000)
 (hts : t.s = s.s) (htb : ∀ j c',t.box j = some c' → (j = i ∧ c' = f (.own d k 0 0)) ∨ (j = d ∧ c' = .arr T k []) ∨ (j ≠ d ∧ j ≠ i ∧ s.box j = some c')) (h : AW P E c t Q) : AW P E c s Q:=by
 intro H ρ a w hS
 have hm2:=(fresh2 hm).2
 obtain ⟨u,hu,hback⟩:=hc.rep (hS.boxes.rep _ _ hi)
 have hc1:=hback (ρ.upd d .nil) (.own d k 0 0) (upd_ne (hm2 _ _ hi)) (by rw [Rep.v_inv hu];exact .ownNil (Rho.upd_same _ _ _)) rfl
 refine h H (ρ.upd d .nil) a w ?_
 have : t.slot = s.slot:=by funext j;simp [AState.slot,hts]
 rw [this]
 refine hS.recell (del:=d) hi hc1 hm hb (.inl hd) (show CtRep _ _ _ _ (.arr T k []) from Or.inl ⟨rfl,rfl⟩) (fun b cap h=>by cases h) (by rintro rfl;rw [hb] at hi;cases hi) (fun j c' hj=>?_)
 rcases htb j c' hj with h|h|⟨h1,h2,h3⟩
 ·exact .inl h
 ·exact .inr (.inl h)
 ·exact .inr (.inr ⟨h1,h2,h1,h3⟩)
def STo (E : Env) (s t : AState) : Prop:=∀ H ρ a w,Sim E H ρ s.slot s.box a w → ∃ H' ρ',Sim E H' ρ' t.slot t.box a w
theorem STo.trans {s t u : AState} (h : STo E s t) (k : STo E t u) : STo E s u:=fun H ρ a w hs =>
 let ⟨_,_,h1⟩:=h H ρ a w hs;k _ _ a w h1
theorem STo.le {s t : AState} (h : s.le t) : STo E s t:=fun H ρ _ _ hs=>⟨H,ρ,hs.le h⟩
theorem AW_sto {c : Code} {t : AState} (h : STo E s t) (k : AW P E c t Q) : AW P E c s Q:=fun H ρ a w hs =>
 let ⟨_,_,h1⟩:=h H ρ a w hs;k _ _ a w h1
theorem sto_freezeF (id k : Nat) {cb c0 : Ct} {x0 y0 : AV} {f : AV → Ct} {t : AState} (hb : s.box id = some cb) (hk : s.box k = some c0) (hcell : Cell c0 x0 f) (hfr : fr1 id cb x0 y0) (hone1 : y0.one = true) (hs : frS s id cb t.s) (hki : k ≠ id)
 (hB : ∀ i c',t.box i = some c' → (i = k ∧ c' = f y0) ∨ (i ≠ id ∧ s.box i = some c' ∧ c'.ment id = false)) : STo E s t:=by
 intro H ρ a w hS
 obtain ⟨G,hle,hG,hB1,hB2⟩ : ∃ G : Heap,H.le G ∧ (∀ b o uu,G b o = some uu → H b o = some uu ∨ ((∃ cap,ρ id = .at b cap) ∧ w.cell? ⟨b,o,none⟩ = some uu)) ∧
  (∀ b cap,ρ id = .at b cap → ∀ o uu,w.cell? ⟨b,o,none⟩ = some uu → G b o = some uu) ∧ (∀ b,(∀ cap,ρ id ≠ .at b cap) → ∀ o,G b o = H b o):=by
  rcases hρ : ρ id with _|_|⟨b,cap⟩
  ·exact ⟨H,H.le_refl,fun _ _ _ h=>.inl h,fun b cap h=>by simp at h,fun _ _ _=>rfl⟩
  ·exact ⟨H,H.le_refl,fun _ _ _ h=>.inl h,fun b cap h=>by simp at h,fun _ _ _=>rfl⟩
  ·have h0:=(hS.boxes.apart _ _ _ _ hb hρ).1
   refine ⟨fun b' o=>if b' = b then w.cell? ⟨b,o,none⟩ else H b' o,fun b' o uu hu=>?_,fun b' o uu hu=>?_,fun b' cap' h o uu hu=>?_,fun b' h o=>?_⟩
   ·have : b' ≠ b:=by rintro rfl;rw [h0] at hu;cases hu
    simp [this,hu]
   ·simp only at hu
    split at hu
    ·rename_i e;subst e;exact .inr ⟨⟨cap,rfl⟩,hu⟩
    ·exact .inl hu
   ·simp at h
    obtain ⟨rfl,rfl⟩:=h
    simp [hu]
   ·have : b' ≠ b:=by rintro rfl;exact h cap rfl
    simp [this]
 have hone : ∀ j c',oneB id cb j = some c' → j = id ∧ s.box j = some c':=by
  intro j c' h
  unfold oneB at h
  by_cases e : j = id
  ·subst e
   rw [if_pos rfl] at h
   cases h
   exact ⟨rfl,hb⟩
  ·rw [if_neg e] at h
   cases h
 have one : ∀ {x y : AV} {v : Value},fr1 id cb x y → Rep H ρ x v → Rep G ρ y v:=by
  intro x y v hf hr
  rcases hf with ⟨rfl,_⟩|hv
  ·exact hr.mono hle
  ·have:=view_rep2 (G:=G) hv hr (fun id' c' h=>hS.boxes.rep _ _ (hone _ _ h).2) hle
    (fun id' c' b cap hc hbd o uu hu=>by
      obtain ⟨rfl,_⟩:=hone _ _ hc
      exact hB1 b cap hbd o uu hu)
   exact this.idf (view_idf hv)
 have old : ∀ i x,t.box i = some x → i ≠ id ∧ ∃ x0,s.box i = some x0:=by
  intro i x h
  rcases hB _ _ h with ⟨rfl,_⟩|⟨h1,h2,_⟩
  ·exact ⟨hki,_,hk⟩
  ·exact ⟨h1,_,h2⟩
 refine ⟨G,ρ,?_,?_,hS.size,hS.defers,?_,fun b o uu hu=>hle _ _ _ (hS.h0 b o uu hu),?_,hS.frame,hS.keep,hS.nle⟩
 ·intro b o uu hu
  rcases hG b o uu hu with h|⟨_,h⟩
  ·exact hS.ext b o uu h
  ·exact h
 ·intro i
  have hsl:=hS.slots i
  show Rep G ρ ((lk t.s i).getD .u) _
  cases hl : lk t.s i with
  |none=>exact .u
  |some y=>exact one (frS_lk hs hl) hsl
 ·refine ⟨fun i c hc=>?_,fun i c b cap hc hbd=>?_,fun i i' c c' b cap cap' hc hc' h1 h2=>?_⟩
  ·rcases hB _ _ hc with ⟨rfl,rfl⟩|⟨_,h2,_⟩
   ·obtain ⟨u,hu,hback⟩:=hcell.repG (hS.boxes.rep _ _ hk)
    exact hback G ρ y0 hle (fun _ _=>rfl) (one hfr hu) hone1
   ·exact (hS.boxes.rep _ _ h2).mono hle (fun _ _=>rfl) (fun _ _ _=>rfl)
  ·obtain ⟨h1,x0,h2⟩:=old _ _ hc
   obtain ⟨h3,h4⟩:=hS.boxes.apart _ _ _ _ h2 hbd
   refine ⟨fun o=>?_,h4⟩
   rw [hB2 b (fun cap' hh=>h1 (hS.boxes.inj _ _ _ _ _ _ _ h2 hb hbd hh))]
   exact h3 o
  ·obtain ⟨_,x0,g1⟩:=old _ _ hc
   obtain ⟨_,x1,g2⟩:=old _ _ hc'
   exact hS.boxes.inj _ _ _ _ _ _ _ g1 g2 h1 h2
 ·intro b o uu hu h0
  rcases hG b o uu hu with h|⟨⟨cap,h⟩,_⟩
  ·exact hS.new b o uu h h0
  ·exact (hS.boxes.apart _ _ _ _ hb h).2.2
theorem AW_freezeF (id k : Nat) {cb c0 : Ct} {x0 y0 : AV} {f : AV → Ct} {c : Code} {t : AState} (hb : s.box id = some cb) (hk : s.box k = some c0) (hcell : Cell c0 x0 f) (hfr : fr1 id cb x0 y0) (hone1 : y0.one = true) (hs : frS s id cb t.s) (hki : k ≠ id)
 (hB : ∀ i c',t.box i = some c' → (i = k ∧ c' = f y0) ∨ (i ≠ id ∧ s.box i = some c' ∧ c'.ment id = false)) (h : AW P E c t Q) : AW P E c s Q:=AW_sto (sto_freezeF id k hb hk hcell hfr hone1 hs hki hB) h
theorem fr_row {id k n T : Nat} {xs : List AV} (h : xs.length = n) (hi : idfL xs = true) : fr1 id (.arr T k xs) (.own id k 0 n) (.sl k xs):=by
 refine .inr (.inr (.inl ⟨id,k,0,n,T,xs,rfl,by simp [oneB],by omega,?_,?_⟩))
 ·rw [List.drop_zero,List.take_of_length_le (by omega)]
 ·rw [List.drop_zero,List.take_of_length_le (by omega)];exact hi
end
end Go.Am
end
section
namespace Go.Am
open Go.RowKit
section
variable {P : Program} {E : Env}
def unl (n : Nat) (listed : Array Bool) : Nat:=((List.range n).filter fun i=>!listed.getD i true).length
theorem unl_set {n : Nat} {listed : Array Bool} {i : Nat} (hi : i < n) (hn : listed.size = n) (h : listed.getD i true = false) : unl n listed = unl n (listed.setIfInBounds i true) + 1:=by
 have key : ∀ (L : List Nat),L.Nodup → i ∈ L → (L.filter fun j=>!listed.getD j true).length = (L.filter fun j=>!(listed.setIfInBounds i true).getD j true).length + 1:=by
  intro L
  induction L with
  |nil=>intro _ h;cases h
  |cons a L ih =>
   intro hnd hm
   rw [List.nodup_cons] at hnd
   have hg : ∀ j,j ≠ i → (listed.setIfInBounds i true).getD j true = listed.getD j true:=fun j hj=>by
    rw [Array.getD_eq_getD_getElem?,Array.getD_eq_getD_getElem?,Array.getElem?_setIfInBounds_ne (Ne.symm hj)]
   by_cases ha : a = i
   ·subst ha
    have h1 : (listed.setIfInBounds a true).getD a true = true:=by
     rw [Array.getD_eq_getD_getElem?,Array.getElem?_setIfInBounds_self]
     rw [if_pos (by omega)]
     rfl
    have h2 : L.filter (fun j=>!listed.getD j true) = L.filter (fun j=>!(listed.setIfInBounds a true).getD j true):=by
     refine List.filter_congr fun j hj=>?_
     rw [hg j (by rintro rfl;exact hnd.1 hj)]
    simp only [List.filter_cons,h,h1,h2,Bool.not_false,Bool.not_true,if_true,List.length_cons]
    simp
   ·have:=ih hnd.2 (by rcases List.mem_cons.1 hm with h|h;exact absurd h.symm ha;exact h)
    simp only [List.filter_cons,hg a ha]
    split
    ·simp only [List.length_cons,this]
    ·exact this
 exact key _ List.nodup_range (List.mem_range.2 hi)
theorem ready_ne {l : List Oper} (hb : backOK l = true) {listed : Array Bool} (hn : listed.size = l.length) (h : unl l.length listed ≠ 0) : Region.ready .any l.toArray listed ≠ []:=by
 have hex : ∃ i,i < l.length ∧ listed.getD i true = false:=by
  unfold unl at h
  have hne : (List.range l.length).filter (fun i=>!listed.getD i true) ≠ []:=fun e=>h (by rw [e];rfl)
  obtain ⟨i,hi⟩:=List.exists_mem_of_ne_nil _ hne
  rw [List.mem_filter,List.mem_range] at hi
  exact ⟨i,hi.1,by simpa only [Bool.not_eq_true'] using hi.2⟩
 obtain ⟨i,hi,hmin⟩ : ∃ i,(i < l.length ∧ listed.getD i true = false) ∧ ∀ j,j < i → ¬ (j < l.length ∧ listed.getD j true = false):=by
  have : ∀ k,(∃ i,i ≤ k ∧ i < l.length ∧ listed.getD i true = false) → ∃ i,(i < l.length ∧ listed.getD i true = false) ∧ ∀ j,j < i → ¬ (j < l.length ∧ listed.getD j true = false):=by
   intro k
   induction k with
   |zero =>
    rintro ⟨i,hi,h⟩
    exact ⟨i,h,fun j hj=>by omega⟩
   |succ k ih =>
    rintro ⟨i,hi,h⟩
    by_cases hk : ∃ j,j ≤ k ∧ j < l.length ∧ listed.getD j true = false
    ·exact ih hk
    ·exact ⟨i,h,fun j hj hc=>hk ⟨j,by omega,hc⟩⟩
  obtain ⟨i,h1,h2⟩:=hex
  exact this i ⟨i,Nat.le_refl _,h1,h2⟩
 intro he
 have : i ∈ Region.ready .any l.toArray listed:=by
  rw [mem_ready]
  refine ⟨hi.2,l[i],by simp [hi.1],fun e hee hbi=>?_⟩
  have h2 : e.on < i:=by
   unfold backOK at hb
   have h1 : (l[i],i) ∈ l.zipIdx:=List.mem_zipIdx_iff_getElem?.2 (by simp [hi.1])
   have h3:=List.all_eq_true.1 hb (l[i],i) h1
   have h4:=List.all_eq_true.1 h3 e (by simpa using hee)
   simp only [hbi,Bool.not_true,Bool.false_or,decide_eq_true_eq] at h4
   exact h4
  have h3:=hmin e.on h2
  have hlt : e.on < listed.size:=by omega
  rw [Array.getD_eq_getD_getElem?,Array.getElem?_eq_getElem hlt] at h3 ⊢
  cases hv : listed[e.on] with
  |true=>simp
  |false=>exact absurd ⟨by omega,by simp [hv]⟩ h3
 rw [he] at this
 cases this
theorem DR_le {ops : Array Oper} {Q : AExit → AState → Prop} {fuel : Nat} {listed : Array Bool} {s t : AState} (hl : s.le t) (h : DR P E ops Q fuel listed t) : DR P E ops Q fuel listed s:=fun H ρ a w hs=>h H ρ a w (hs.le hl)
def clo (l : List Oper) (f : Nat → Bool) : Prop:=∀ (j : Nat) (o : Oper),l[j]? = some o → f j = true → ∀ e ∈ o.after.toList,Region.binds .any e = true → f e.on = true
theorem AW_drawI {s : AState} {Q : AExit → AState → Prop} {id : Nat} {l : List Oper} (S : Array Bool → AState) (hm : P.follows .mixedOrders = true) (hd : dstOK E.n l = true) (hb : backOK l = true) (hg : l.all (fun o=>o.guard.isNone) = true)
 (h0 : s.le (S (Array.replicate l.length false)))
 (hstep : ∀ (listed : Array Bool) (i : Nat) (o : Oper),listed.size = l.length → l[i]? = some o → (∀ e ∈ o.after,Region.binds .any e = true → listed.getD e.on false = true) → listed.getD i false = false → clo l (fun j=>listed.getD j false) → ∀ K : AState → Prop,Kont K (fun s'=>s'.le (S (listed.setIfInBounds i true))) → stepOp P E o (S listed) K)
 (hend : ∀ listed : Array Bool,listed.size = l.length → (∀ i,i < l.length → listed.getD i false = true) → Q .normal (S listed)) : AW P E (.region id l.toArray true) s Q:=by
 refine AW_DR hm hd ?_
 refine DR_le h0 ?_
 have key : ∀ (fuel : Nat) (listed : Array Bool),listed.size = l.length → unl l.length listed = fuel → clo l (fun j=>listed.getD j false) → DR P E l.toArray Q fuel listed (S listed):=by
  intro fuel
  induction fuel with
  |zero =>
   intro listed hn hu hcl
   have hall : ∀ i,i < l.length → listed.getD i false = true:=by
    intro i hi
    unfold unl at hu
    have:=List.length_eq_zero_iff.1 hu
    rw [List.filter_eq_nil_iff] at this
    have:=this i (List.mem_range.2 hi)
    rw [Array.getD_eq_getD_getElem?,Array.getElem?_eq_getElem (by omega)] at this ⊢
    simpa using this
   refine DR_done ?_ (hend listed hn hall)
   rw [List.eq_nil_iff_forall_not_mem]
   intro j hj
   rw [mem_ready] at hj
   obtain ⟨h1,o,h2,_⟩:=hj
   have hjl : j < l.length:=by
    have:=(Array.getElem?_eq_some_iff.1 h2).1
    simpa using this
   have:=hall j hjl
   rw [Array.getD_eq_getD_getElem?,Array.getElem?_eq_getElem (by omega)] at this h1
   simp at this h1
   rw [this] at h1
   cases h1
  |succ fuel ih =>
   intro listed hn hu hcl H ρ a w hsim
   refine wpAny_all rfl (ready_ne hb hn (by omega)) (fun j hj=>?_)
   rw [mem_ready] at hj
   obtain ⟨h1,o,h2,h3⟩:=hj
   have h2' : l[j]? = some o:=by simpa using h2
   have hjl:=(List.getElem?_eq_some_iff.1 h2').1
   have hu2 : unl l.length (listed.setIfInBounds j true) = fuel:=by
    have:=unl_set hjl hn h1
    omega
   have hn2 : (listed.setIfInBounds j true).size = l.length:=by simpa using hn
   have hjf : listed.getD j false = false:=by
    rw [Array.getD_eq_getD_getElem?,Array.getElem?_eq_getElem (by omega)] at h1 ⊢
    simpa using h1
   have hcl2 : clo l (fun i=>(listed.setIfInBounds j true).getD i false):=by
    have hset : ∀ i,(listed.setIfInBounds j true).getD i false = if i = j then true else listed.getD i false:=fun i=>by
     rw [Array.getD_eq_getD_getElem?,Array.getElem?_setIfInBounds]
     by_cases h : j = i
     ·subst h;rw [if_pos rfl,if_pos rfl,if_pos (by omega)];rfl
     ·rw [if_neg h,if_neg (Ne.symm h),Array.getD_eq_getD_getElem?]
    intro i o' ho' hf e he hbi
    simp only [hset] at hf ⊢
    by_cases hij : i = j
    ·subst hij
     rw [ho'] at h2'
     injection h2' with h2'
     subst h2'
     split
     ·rfl
     ·exact h3 e (by simpa using he) hbi
    ·rw [if_neg hij] at hf
     split
     ·rfl
     ·exact hcl i o' ho' hf e he hbi
   refine DR_one j (N:=E.n) rfl h2 ?_ ?_ (hstep listed j o hn h2' h3 hjf hcl _ ⟨fun s' hs'=>DR_le hs' (ih _ hn2 hu2 hcl2)⟩) hsim
   ·have:=List.all_eq_true.1 hg o (List.mem_of_getElem? h2')
    simpa using this
   ·unfold dstOK at hd ⊢
    simp only [List.all_cons,List.all_nil,Bool.and_true]
    exact List.all_eq_true.1 hd o (List.mem_of_getElem? h2')
 have hrep : unl l.length (Array.replicate l.length false) = l.length:=by
  unfold unl
  rw [List.filter_eq_self.2 (fun i hi=>?_),List.length_range]
  have:=List.mem_range.1 hi
  rw [Array.getD_eq_getD_getElem?,Array.getElem?_replicate,if_pos this]
  rfl
 refine key l.length _ (by simp) hrep fun j o _ hf=>?_
 simp only at hf
 rw [Array.getD_eq_getD_getElem?,Array.getElem?_replicate] at hf
 split at hf <;> simp at hf
theorem AW_drawF {s : AState} {Q : AExit → AState → Prop} {id : Nat} {l : List Oper} (S : (Nat → Bool) → AState) (hm : P.follows .mixedOrders = true) (hd : dstOK E.n l = true) (hb : backOK l = true) (hg : l.all (fun o=>o.guard.isNone) = true)
 (h0 : s.le (S fun _=>false))
 (hstep : ∀ (f : Nat → Bool) (i : Nat) (o : Oper),l[i]? = some o → (∀ e ∈ o.after.toList,Region.binds .any e = true → f e.on = true) → f i = false → clo l f → ∀ K : AState → Prop,Kont K (fun s'=>s'.le (S fun j=>if j = i then true else f j)) → stepOp P E o (S f) K)
 (hend : ∀ f : Nat → Bool,(∀ i,i < l.length → f i = true) → Q .normal (S f)) : AW P E (.region id l.toArray true) s Q:=by
 have e0 : (fun i=>(Array.replicate l.length false).getD i false) = fun _=>false:=by
  funext i
  rw [Array.getD_eq_getD_getElem?,Array.getElem?_replicate]
  split <;> rfl
 refine AW_drawI (fun listed=>S fun i=>listed.getD i false) hm hd hb hg (by simpa only [e0] using h0) (fun listed i o hn hi hdep hnot hcl K hK=>?_) (fun listed _ h=>hend _ h)
 have hil:=(List.getElem?_eq_some_iff.1 hi).1
 have e1 : (fun j=>(listed.setIfInBounds i true).getD j false) = fun j=>if j = i then true else listed.getD j false:=by
  funext j
  rw [Array.getD_eq_getD_getElem?,Array.getElem?_setIfInBounds]
  by_cases h : i = j
  ·subst h
   rw [if_pos rfl,if_pos rfl,if_pos (by omega)]
   rfl
  ·rw [if_neg h,if_neg (Ne.symm h),Array.getD_eq_getD_getElem?]
 simp only [e1] at hK
 exact hstep _ i o hi (fun e he=>hdep e (by simpa using he)) hnot hcl K hK
end
end Go.Am
end
section
namespace Go.Am
theorem lk_ite {α : Type} (c : Prop) [Decidable c] (l b : List (Nat × α)) (i : Nat) : lk ((if c then l else []) ++ b) i = if c then lk (l ++ b) i else lk b i:=by split <;> simp
theorem lk_ite0 {α : Type} (c : Prop) [Decidable c] (l : List (Nat × α)) (i : Nat) : lk (if c then l else []) i = if c then lk l i else none:=by split <;> simp [lk]
theorem mentB_app (d : Nat) : ∀ a b : List (Nat × Ct),mentB d (a ++ b) = (mentB d a || mentB d b)
 |[],b=>rfl
 |(i,c) :: a,b=>by simp [mentB,mentB_app d a b,Bool.or_assoc]
theorem mentB_ite (d : Nat) (c : Prop) [Decidable c] (a b : List (Nat × Ct)) : mentB d (if c then a else b) = if c then mentB d a else mentB d b:=by split <;> rfl
theorem killB_app (d : Nat) : ∀ a b : List (Nat × Ct),killB d (a ++ b) = killB d a ++ killB d b
 |[],b=>rfl
 |(i,c) :: a,b=>by cases c <;> simp [killB,killB_app d a b]
theorem killB_ite (d : Nat) (c : Prop) [Decidable c] (a : List (Nat × Ct)) : killB d (if c then a else []) = if c then killB d a else []:=by split <;> rfl
theorem leB_app (s : AState) : ∀ a b : List (Nat × Ct),leB s (a ++ b) ↔ leB s a ∧ leB s b
 |[],b=>by simp [leB]
 |(i,c) :: a,b=>by simp [leB,leB_app s a b,and_assoc]
theorem leB_ite (s : AState) (c : Prop) [Decidable c] (a : List (Nat × Ct)) : leB s (if c then a else []) ↔ (c → leB s a):=by split <;> simp_all [leB]
theorem forg_ite (d : Nat) (c : Prop) [Decidable c] (a b : AV) : AV.forg d (if c then a else b) = if c then AV.forg d a else AV.forg d b:=by split <;> rfl
end Go.Am
end
section
namespace Go.Am
open Go.RowKit
section
variable {P : Program} {E : Env}
def gstep (P : Program) (E : Env) (ops : Array Oper) (o : Oper) (s : AState) (K : AState → Prop) : Prop:=match o.guard with
 |none=>stepOp P E o s K
 |some (j,want)=>∃ t,(ops[j]?).bind (·.dst) = some t ∧ guardK (s.slot t) want (stepOp P E o s K) (K (s.put o.dst (.tup [])))
theorem DR_oneG {ops : Array Oper} {Q : AExit → AState → Prop} {fuel : Nat} {listed : Array Bool} {s : AState} {N : Nat} (i : Nat) {o : Oper} (hE : E.n = N) (hi : ops[i]? = some o) (hd : dstOK N [o] = true) (h : gstep P E ops o s (fun s'=>DR P E ops Q fuel (listed.setIfInBounds i true) s')) {H : Heap} {ρ : Rho} {a : Act} {w : World}
 (hsim : Sim E H ρ s.slot s.box a w) : wpOp P ops (post E Q) i (wpAny P .any ops (post E Q) fuel (listed.setIfInBounds i true)) a w:=by
 have go : Region.wanted o (yielded ops a.tmps) = true → stepOp P E o s (fun s'=>DR P E ops Q fuel (listed.setIfInBounds i true) s') → wpOp P ops (post E Q) i (wpAny P .any ops (post E Q) fuel (listed.setIfInBounds i true)) a w:=by
  intro hw hst
  unfold wpOp
  rw [hi]
  simp only
  rw [if_pos hw]
  left
  refine Oper.wp_mono ?_ (stepOp_sound (Q:=post E Q) hsim (fun t ht=>hE ▸ dstOK_spec hd o (by simp) t ht) hst)
  rintro a' w' ⟨s',H',ρ',hk,hs'⟩
  exact hk H' ρ' a' w' hs'
 unfold gstep at h
 split at h
 ·rename_i hg
  exact go (by simp [Region.wanted,hg]) h
 ·rename_i j want hg
  obtain ⟨t,ht,hk⟩:=h
  rcases guardK_spec hsim hg ht hk with ⟨hw,hst⟩|⟨hw,hno⟩
  ·exact go hw hst
  ·unfold wpOp
   rw [hi]
   simp only
   rw [if_neg (by simp [hw])]
   refine hno H ρ _ w ?_
   rw [AState.slot_put,AState.box_put]
   exact hsim.put (fun t ht=>hE ▸ dstOK_spec hd o (by simp) t ht) Rep.undef
theorem AW_drawIW {s : AState} {Q : AExit → AState → Prop} {id : Nat} {l : List Oper} (S : Array Bool → AState) (hm : P.follows .mixedOrders = true) (hd : dstOK E.n l = true) (hb : backOK l = true)
 (h0 : s.le (S (Array.replicate l.length false)))
 (hstep : ∀ (listed : Array Bool) (i : Nat) (o : Oper),listed.size = l.length → l[i]? = some o → (∀ e ∈ o.after,Region.binds .any e = true → listed.getD e.on false = true) → listed.getD i false = false → clo l (fun j=>listed.getD j false) → ∀ K : AState → Prop,Kont K (fun s'=>s'.le (S (listed.setIfInBounds i true))) → gstep P E l.toArray o (S listed) K)
 (hend : ∀ listed : Array Bool,listed.size = l.length → (∀ i,i < l.length → listed.getD i false = true) → Q .normal (S listed)) : AW P E (.region id l.toArray true) s Q:=by
 refine AW_DR hm hd ?_
 refine DR_le h0 ?_
 have key : ∀ (fuel : Nat) (listed : Array Bool),listed.size = l.length → unl l.length listed = fuel → clo l (fun j=>listed.getD j false) → DR P E l.toArray Q fuel listed (S listed):=by
  intro fuel
  induction fuel with
  |zero =>
   intro listed hn hu hcl
   have hall : ∀ i,i < l.length → listed.getD i false = true:=by
    intro i hi
    unfold unl at hu
    have:=List.length_eq_zero_iff.1 hu
    rw [List.filter_eq_nil_iff] at this
    have:=this i (List.mem_range.2 hi)
    rw [Array.getD_eq_getD_getElem?,Array.getElem?_eq_getElem (by omega)] at this ⊢
    simpa using this
   refine DR_done ?_ (hend listed hn hall)
   rw [List.eq_nil_iff_forall_not_mem]
   intro j hj
   rw [mem_ready] at hj
   obtain ⟨h1,o,h2,_⟩:=hj
   have hjl : j < l.length:=by
    have:=(Array.getElem?_eq_some_iff.1 h2).1
    simpa using this
   have:=hall j hjl
   rw [Array.getD_eq_getD_getElem?,Array.getElem?_eq_getElem (by omega)] at this h1
   simp at this h1
   rw [this] at h1
   cases h1
  |succ fuel ih =>
   intro listed hn hu hcl H ρ a w hsim
   refine wpAny_all rfl (ready_ne hb hn (by omega)) (fun j hj=>?_)
   rw [mem_ready] at hj
   obtain ⟨h1,o,h2,h3⟩:=hj
   have h2' : l[j]? = some o:=by simpa using h2
   have hjl:=(List.getElem?_eq_some_iff.1 h2').1
   have hu2 : unl l.length (listed.setIfInBounds j true) = fuel:=by
    have:=unl_set hjl hn h1
    omega
   have hn2 : (listed.setIfInBounds j true).size = l.length:=by simpa using hn
   have hjf : listed.getD j false = false:=by
    rw [Array.getD_eq_getD_getElem?,Array.getElem?_eq_getElem (by omega)] at h1 ⊢
    simpa using h1
   have hcl2 : clo l (fun i=>(listed.setIfInBounds j true).getD i false):=by
    have hset : ∀ i,(listed.setIfInBounds j true).getD i false = if i = j then true else listed.getD i false:=fun i=>by
     rw [Array.getD_eq_getD_getElem?,Array.getElem?_setIfInBounds]
     by_cases h : j = i
     ·subst h;rw [if_pos rfl,if_pos rfl,if_pos (by omega)];rfl
     ·rw [if_neg h,if_neg (Ne.symm h),Array.getD_eq_getD_getElem?]
    intro i o' ho' hf e he hbi
    simp only [hset] at hf ⊢
    by_cases hij : i = j
    ·subst hij
     rw [ho'] at h2'
     injection h2' with h2'
     subst h2'
     split
     ·rfl
     ·exact h3 e (by simpa using he) hbi
    ·rw [if_neg hij] at hf
     split
     ·rfl
     ·exact hcl i o' ho' hf e he hbi
   refine DR_oneG j (N:=E.n) rfl h2 ?_ (hstep listed j o hn h2' h3 hjf hcl _ ⟨fun s' hs'=>DR_le hs' (ih _ hn2 hu2 hcl2)⟩) hsim
   unfold dstOK at hd ⊢
   simp only [List.all_cons,List.all_nil,Bool.and_true]
   exact List.all_eq_true.1 hd o (List.mem_of_getElem? h2')
 have hrep : unl l.length (Array.replicate l.length false) = l.length:=by
  unfold unl
  rw [List.filter_eq_self.2 (fun i hi=>?_),List.length_range]
  have:=List.mem_range.1 hi
  rw [Array.getD_eq_getD_getElem?,Array.getElem?_replicate,if_pos this]
  rfl
 refine key l.length _ (by simp) hrep fun j o _ hf=>?_
 simp only at hf
 rw [Array.getD_eq_getD_getElem?,Array.getElem?_replicate] at hf
 split at hf <;> simp at hf
theorem AW_drawFW {s : AState} {Q : AExit → AState → Prop} {id : Nat} {l : List Oper} (S : (Nat → Bool) → AState) (hm : P.follows .mixedOrders = true) (hd : dstOK E.n l = true) (hb : backOK l = true)
 (h0 : s.le (S fun _=>false))
 (hstep : ∀ (f : Nat → Bool) (i : Nat) (o : Oper),l[i]? = some o → (∀ e ∈ o.after.toList,Region.binds .any e = true → f e.on = true) → f i = false → clo l f → ∀ K : AState → Prop,Kont K (fun s'=>s'.le (S fun j=>if j = i then true else f j)) → gstep P E l.toArray o (S f) K)
 (hend : ∀ f : Nat → Bool,(∀ i,i < l.length → f i = true) → Q .normal (S f)) : AW P E (.region id l.toArray true) s Q:=by
 have e0 : (fun i=>(Array.replicate l.length false).getD i false) = fun _=>false:=by
  funext i
  rw [Array.getD_eq_getD_getElem?,Array.getElem?_replicate]
  split <;> rfl
 refine AW_drawIW (fun listed=>S fun i=>listed.getD i false) hm hd hb (by simpa only [e0] using h0) (fun listed i o hn hi hdep hnot hcl K hK=>?_) (fun listed _ h=>hend _ h)
 have hil:=(List.getElem?_eq_some_iff.1 hi).1
 have e1 : (fun j=>(listed.setIfInBounds i true).getD j false) = fun j=>if j = i then true else listed.getD j false:=by
  funext j
  rw [Array.getD_eq_getD_getElem?,Array.getElem?_setIfInBounds]
  by_cases h : i = j
  ·subst h
   rw [if_pos rfl,if_pos rfl,if_pos (by omega)]
   rfl
  ·rw [if_neg h,if_neg (Ne.symm h),Array.getD_eq_getD_getElem?]
 simp only [e1] at hK
 exact hstep _ i o hi (fun e he=>hdep e (by simpa using he)) hnot hcl K hK
end
end Go.Am
end
section
namespace Go.Am
open Go.RowKit
theorem ga0 {p : Prop} (h : p:=by (repeat' (first|(with_reducible first|refine uK ?_|refine uX ?_|refine jq fun K hK=>?_|refine jb ?_)|((with_reducible first|refine rS hE ?_|refine jn ?_|refine js fun K' hK'=>?_|refine ji fun X Y hX hY=>?_|refine jr ?_|refine jk ?_|refine jx ?_);simp [*])|with_reducible refine rL hE ?_|with_reducible refine And.intro ?_ ?_|omega|(refine imp1 fun h=>?_)));all_goals (first|(simp;done)|(simp [*];done))) : p:=h
theorem ga1 {p : Prop} (h : p:=by (repeat' (first|(with_reducible first|refine uK ?_|refine uX ?_|refine jq fun K hK=>?_|refine jb ?_)|((with_reducible first|refine rS hE ?_|refine jn ?_|refine js fun K' hK'=>?_|refine ji fun X Y hX hY=>?_|refine jr ?_|refine jk ?_|refine jx ?_);simp [*])|with_reducible refine rL hE ?_|(refine jC k'1.out ?_ ?_ ?_;(iterate 2 focus (simp [*] <;> fail));simp [*])|with_reducible refine And.intro ?_ ?_|omega|(refine imp1 fun h=>?_)));all_goals (first|(simp;done)|(simp [*];done))) : p:=h
theorem ga2 {p : Prop} (h : p:=by (repeat' (first|(with_reducible first|refine uK ?_|refine uX ?_|refine jq fun K hK=>?_|refine jb ?_)|((with_reducible first|refine rS hE ?_|refine jn ?_|refine js fun K' hK'=>?_|refine ji fun X Y hX hY=>?_|refine jr ?_|refine jk ?_|refine jx ?_);simp [*])|with_reducible refine rL hE ?_|(refine jC k'1.out ?_ ?_ ?_;(iterate 2 focus (simp [*] <;> fail));simp [*])|(refine jC k'2.out ?_ ?_ ?_;(iterate 2 focus (simp [*] <;> fail));simp [*])|with_reducible refine And.intro ?_ ?_|omega|(refine imp1 fun h=>?_)));all_goals (first|(simp;done)|(simp [*];done))) : p:=h
theorem ga3 {p : Prop} (h : p:=by (repeat' (first|(with_reducible first|refine uK ?_|refine uX ?_|refine jq fun K hK=>?_|refine jb ?_)|((with_reducible first|refine rS hE ?_|refine jn ?_|refine js fun K' hK'=>?_|refine ji fun X Y hX hY=>?_|refine jr ?_|refine jk ?_|refine jx ?_);simp [*])|with_reducible refine rL hE ?_|(refine jC k'1.out ?_ ?_ ?_;(iterate 2 focus (simp [*] <;> fail));simp [*])|(refine jC k'2.out ?_ ?_ ?_;(iterate 2 focus (simp [*] <;> fail));simp [*])|(refine jC k'3.out ?_ ?_ ?_;(iterate 2 focus (simp [*] <;> fail));simp [*])|with_reducible refine And.intro ?_ ?_|omega|(refine imp1 fun h=>?_)));all_goals (first|(simp;done)|(simp [*];done))) : p:=h
theorem ga4 {p : Prop} (h : p:=by (repeat' (first|(with_reducible first|refine uK ?_|refine uX ?_|refine jq fun K hK=>?_|refine jb ?_)|((with_reducible first|refine rS hE ?_|refine jn ?_|refine js fun K' hK'=>?_|refine ji fun X Y hX hY=>?_|refine jr ?_|refine jk ?_|refine jx ?_);simp [*])|with_reducible refine rL hE ?_|(refine jC k'1.out ?_ ?_ ?_;(iterate 2 focus (simp [*] <;> fail));simp [*])|(refine jC k'2.out ?_ ?_ ?_;(iterate 2 focus (simp [*] <;> fail));simp [*])|(refine jC k'3.out ?_ ?_ ?_;(iterate 2 focus (simp [*] <;> fail));simp [*])|(refine jC k'4.out ?_ ?_ ?_;(iterate 2 focus (simp [*] <;> fail));simp [*])|with_reducible refine And.intro ?_ ?_|omega|(refine imp1 fun h=>?_)));all_goals (first|(simp;done)|(simp [*];done))) : p:=h
theorem sq {P : Program} {E : Env} {s : AState} {Q : AExit → AState → Prop} (t : AState) {x y : Code} (h2 : AW P E y t Q) (h1 : ∀ K : AState → Prop,Kont K (fun s'=>s'.le t) → AW P E x s (thenK K Q):=by (intro K hK;(repeat' (first|(with_reducible first|refine uK ?_|refine uX ?_|refine jq fun K hK=>?_|refine jb ?_)|((with_reducible first|refine rS hE ?_|refine jn ?_|refine js fun K' hK'=>?_|refine ji fun X Y hX hY=>?_|refine jr ?_|refine jk ?_|refine jx ?_);simp [*])|with_reducible refine rL hE ?_|with_reducible refine And.intro ?_ ?_|omega|(refine imp1 fun h=>?_)));all_goals (first|(simp;done)|(simp [*];done)))) : AW P E (.seq x y) s Q:=AW_seqt t h2 h1
theorem gli {p : Prop} (h : p:=by (repeat' (first|(with_reducible first|refine uK ?_|refine uX ?_|refine jq fun K hK=>?_|refine jb ?_)|((with_reducible first|refine rS hE ?_|refine jn ?_|refine js fun K' hK'=>?_|refine ji fun X Y hX hY=>?_|refine jr ?_|refine jk ?_|refine jx ?_);simp [*])|with_reducible refine rL hE ?_|with_reducible refine And.intro ?_ ?_|omega|(refine imp1 fun h=>?_)));exact ⟨i + 1,by omega,by omega,by first|(simp;done)|simp [*]⟩) : p:=h
theorem glj {p : Prop} (h : p:=by (repeat' (first|(with_reducible first|refine uK ?_|refine uX ?_|refine jq fun K hK=>?_|refine jb ?_)|((with_reducible first|refine rS hE ?_|refine jn ?_|refine js fun K' hK'=>?_|refine ji fun X Y hX hY=>?_|refine jr ?_|refine jk ?_|refine jx ?_);simp [*])|with_reducible refine rL hE ?_|with_reducible refine And.intro ?_ ?_|omega|(refine imp1 fun h=>?_)));exact ⟨j + 1,by omega,by omega,by first|(simp;done)|simp [*]⟩) : p:=h
theorem glk {p : Prop} (h : p:=by (repeat' (first|(with_reducible first|refine uK ?_|refine uX ?_|refine jq fun K hK=>?_|refine jb ?_)|((with_reducible first|refine rS hE ?_|refine jn ?_|refine js fun K' hK'=>?_|refine ji fun X Y hX hY=>?_|refine jr ?_|refine jk ?_|refine jx ?_);simp [*])|with_reducible refine rL hE ?_|with_reducible refine And.intro ?_ ?_|omega|(refine imp1 fun h=>?_)));exact ⟨k + 1,by omega,by omega,by first|(simp;done)|simp [*]⟩) : p:=h
theorem AW_loop0 {P : Program} {E : Env} {Q : AExit → AState → Prop} {G : Type} {c : Code} (I : G → AState) (ok : G → Prop) (μ : G → Nat) (g0 : G) (h0 : ok g0)
 (round : ∀ g,ok g → AW P E c (I g) (thenK (fun s'=>∃ g',ok g' ∧ μ g' < μ g ∧ s'.le (I g')) Q)) : AW P E (.loop c) (I g0) Q:=by
 intro H ρ a w hs
 refine wpIn_loop_g (fun n a w=>∃ g H ρ,μ g = n ∧ ok g ∧ Sim E H ρ (I g).slot (I g).box a w) (μ g0) ⟨g0,H,ρ,rfl,h0,hs⟩ ?_
 rintro n a w ⟨g,H,ρ,rfl,hg,hs⟩
 refine wpIn_mono (round g hg H ρ a w hs) ?_
 intro e a' w' hp
 cases e <;> simp only [post,Exit.then] at hp ⊢
 ·obtain ⟨s',H',ρ',⟨g',hg',hlt,hle⟩,hs'⟩:=hp
  exact ⟨μ g',hlt,g',H',ρ',rfl,hg',hs'.le hle⟩
 all_goals exact hp
theorem lpk {P : Program} {E : Env} {s : AState} {Q : AExit → AState → Prop} {G : Type} {id : Nat} {x c : Code} (I : G → AState) (ok : G → Prop) (μ : G → Nat) (g0 : G) (h0 : ok g0) (round : ∀ g,ok g → ∀ K : AState → Prop,Kont K (fun s'=>∃ g',ok g' ∧ μ g' < μ g ∧ s'.le (I g')) → AW P E c (I g) (thenK K (inBlk id Q))) (h1 : ∀ K : AState → Prop,Kont K (fun s'=>s'.le (I g0)) → AW P E x s (thenK K Q):=by (intro K hK;(repeat' (first|(with_reducible first|refine uK ?_|refine uX ?_|refine jq fun K hK=>?_|refine jb ?_)|((with_reducible first|refine rS hE ?_|refine jn ?_|refine js fun K' hK'=>?_|refine ji fun X Y hX hY=>?_|refine jr ?_|refine jk ?_|refine jx ?_);simp [*])|with_reducible refine rL hE ?_|with_reducible refine And.intro ?_ ?_|omega|(refine imp1 fun h=>?_)));all_goals (first|(simp;done)|(simp [*];done)))) : AW P E (.seq x (.block id (.loop c))) s Q:=AW_seqt (I g0) (AW_block (AW_loop0 I ok μ g0 h0 (fun g hg=>round g hg _ ⟨fun _ h=>h⟩))) h1
theorem pS {P : Program} {f : FuncId} {fn : Func} {c : Code} {args : List AV} {res : AV} (hf : P.funcs[f]? = some fn) (h : ∀ E : Env,E.n = fn.ntmps → AW P E c ⟨argSlots 0 args,[]⟩ (retQ P fn (fun x s=>View s.box x res))) (hb : fn.body = some c:=by exact rfl) (hname : (fn.name == "runtime.NumGoroutine") = false:=by exact rfl) (hn : args.length ≤ fn.ntmps:=by exact Nat.le_of_ble_eq_true rfl) (hnl : fn.ntmps ≤ 1000000:=by exact Nat.le_of_ble_eq_true rfl) : PSpec P f args res:=PSpec_of hf hb hname hn hnl h
theorem gw {p q : Prop} (h : p → q:=by (intro h;have h1:=hcl _ _ (by exact rfl) h;simp [Region.binds] at h1;simp [h1])) : p → q:=h
theorem gd0 {p : Prop} (h : p:=by (simp [*];(repeat' (first|with_reducible refine And.intro ?_ ?_|omega));first|(refine hK2.h _ ?_;simp [*];done))) : p:=h
theorem gd1 {p : Prop} (h : p:=by (simp [*];(repeat' (first|with_reducible refine And.intro ?_ ?_|omega));first|(refine hK2.h _ ?_;simp [*];done)|(refine acall_same k'1.out ?_ ?_ ?_;(iterate 2 (focus (simp [*] <;> fail)));simp [*];refine hK2.h _ ?_;simp [*];done)|(refine acall_view k'1.out ?_ ?_ ?_;(iterate 2 (focus (simp [*] <;> fail)));simp [*];refine hK2.h _ ?_;simp [*];done))) : p:=h
theorem gd2 {p : Prop} (h : p:=by (simp [*];(repeat' (first|with_reducible refine And.intro ?_ ?_|omega));first|(refine hK2.h _ ?_;simp [*];done)|(refine acall_same k'1.out ?_ ?_ ?_;(iterate 2 (focus (simp [*] <;> fail)));simp [*];refine hK2.h _ ?_;simp [*];done)|(refine acall_view k'1.out ?_ ?_ ?_;(iterate 2 (focus (simp [*] <;> fail)));simp [*];refine hK2.h _ ?_;simp [*];done)|(refine acall_same k'2.out ?_ ?_ ?_;(iterate 2 (focus (simp [*] <;> fail)));simp [*];refine hK2.h _ ?_;simp [*];done)|(refine acall_view k'2.out ?_ ?_ ?_;(iterate 2 (focus (simp [*] <;> fail)));simp [*];refine hK2.h _ ?_;simp [*];done))) : p:=h
theorem gd3 {p : Prop} (h : p:=by (simp [*];(repeat' (first|with_reducible refine And.intro ?_ ?_|omega));first|(refine hK2.h _ ?_;simp [*];done)|(refine acall_same k'1.out ?_ ?_ ?_;(iterate 2 (focus (simp [*] <;> fail)));simp [*];refine hK2.h _ ?_;simp [*];done)|(refine acall_view k'1.out ?_ ?_ ?_;(iterate 2 (focus (simp [*] <;> fail)));simp [*];refine hK2.h _ ?_;simp [*];done)|(refine acall_same k'2.out ?_ ?_ ?_;(iterate 2 (focus (simp [*] <;> fail)));simp [*];refine hK2.h _ ?_;simp [*];done)|(refine acall_view k'2.out ?_ ?_ ?_;(iterate 2 (focus (simp [*] <;> fail)));simp [*];refine hK2.h _ ?_;simp [*];done)|(refine acall_same k'3.out ?_ ?_ ?_;(iterate 2 (focus (simp [*] <;> fail)));simp [*];refine hK2.h _ ?_;simp [*];done)|(refine acall_view k'3.out ?_ ?_ ?_;(iterate 2 (focus (simp [*] <;> fail)));simp [*];refine hK2.h _ ?_;simp [*];done))) : p:=h
theorem gd4 {p : Prop} (h : p:=by (simp [*];(repeat' (first|with_reducible refine And.intro ?_ ?_|omega));first|(refine hK2.h _ ?_;simp [*];done)|(refine acall_same k'1.out ?_ ?_ ?_;(iterate 2 (focus (simp [*] <;> fail)));simp [*];refine hK2.h _ ?_;simp [*];done)|(refine acall_view k'1.out ?_ ?_ ?_;(iterate 2 (focus (simp [*] <;> fail)));simp [*];refine hK2.h _ ?_;simp [*];done)|(refine acall_same k'2.out ?_ ?_ ?_;(iterate 2 (focus (simp [*] <;> fail)));simp [*];refine hK2.h _ ?_;simp [*];done)|(refine acall_view k'2.out ?_ ?_ ?_;(iterate 2 (focus (simp [*] <;> fail)));simp [*];refine hK2.h _ ?_;simp [*];done)|(refine acall_same k'3.out ?_ ?_ ?_;(iterate 2 (focus (simp [*] <;> fail)));simp [*];refine hK2.h _ ?_;simp [*];done)|(refine acall_view k'3.out ?_ ?_ ?_;(iterate 2 (focus (simp [*] <;> fail)));simp [*];refine hK2.h _ ?_;simp [*];done)|(refine acall_same k'4.out ?_ ?_ ?_;(iterate 2 (focus (simp [*] <;> fail)));simp [*];refine hK2.h _ ?_;simp [*];done)|(refine acall_view k'4.out ?_ ?_ ?_;(iterate 2 (focus (simp [*] <;> fail)));simp [*];refine hK2.h _ ?_;simp [*];done))) : p:=h
end Go.Am
end
