/- Names of variables in rounds (as in layer 38) -/
import Derived.Test.YtfkgaphfdpflmaaGreatDoorZ5
import Derived.Test.YtfkgaphfdpflmaaGreatDoorZ6
import Derived.Test.YtfkgaphfdpflmaaGreatDoorZC
import Derived.Test.YtfkgaphfdpflmaaGreatDoorZB
import Derived.Test.YtfkgaphfdpflmaaGreatDoorZ3
import Derived.Test.YtfkgaphfdpflmaaGreatDoorTie
import Derived.Test.YtfkgaphfdpflmaaGreatDoorCards
import Derived.LaidMore
import Derived.Stop.Joined
set_option maxRecDepth 100000
set_option linter.unusedSimpArgs false
set_option linter.unusedVariables false
namespace Go.Proofs.YtfkgaphfdpflmaaGreatDoor
open Go.Am
theorem slots_of {σ : Nat → Nat} {s : AState} {S0 : List (Nat × AV)} (h : ∀ p ∈ S0,p.2 = (s.slot p.1).ren σ) : ∀ i,(AState.mk S0 []).slot i = .u ∨ (AState.mk S0 []).slot i = (s.slot i).ren σ:=by
 intro i
 unfold AState.slot
 cases hl : lk S0 i with
 |none=>exact .inl rfl
 |some x=>exact .inr (h _ (lk_mem hl))
theorem boxes_of {σ : Nat → Nat} {s : AState} {B : List (Nat × Ct)} (h : ∀ p ∈ B,∃ c0,s.box (σ p.1) = some c0 ∧ p.2 = c0.ren σ) : ∀ id c,lk B id = some c → ∃ c0,s.box (σ id) = some c0 ∧ c = c0.ren σ :=
 fun id c hc=>h _ (lk_mem hc)
def kpA (i : Nat) : Nat:=if i < 40 then i + 1500000 else if 1500000 ≤ i ∧ i < 1500040 then i - 1500000 else i
theorem kpA_kpA (i : Nat) : kpA (kpA i) = i:=by unfold kpA;(repeat' split) <;> omega
theorem kpA_lt (i : Nat) (h : i < 2000000) : kpA i < 2000000:=by unfold kpA;(repeat' split) <;> omega
theorem kpA_mid (i : Nat) (h1 : 1000000 ≤ i) (h2 : i < 1500000) : kpA i = i:=by unfold kpA;(repeat' split) <;> omega
theorem kpA_ne {d : Nat} (h1 : d < 1000000) (h2 : kpA d ≠ d) : d < 40:=by
 unfold kpA at h2
 (repeat' split at h2) <;> omega
@[simp] theorem kpA_2 : kpA 2 = 1500002:=by decide
@[simp] theorem kpA_r2 : kpA 1500002 = 2:=by decide
@[simp] theorem kpA_4 : kpA 4 = 1500004:=by decide
@[simp] theorem kpA_r4 : kpA 1500004 = 4:=by decide
@[simp] theorem kpA_13 : kpA 13 = 1500013:=by decide
@[simp] theorem kpA_r13 : kpA 1500013 = 13:=by decide
@[simp] theorem kpA_40 : kpA 40 = 40:=by decide
@[simp] theorem kpA_41 : kpA 41 = 41:=by decide
@[simp] theorem kpA_42 : kpA 42 = 42:=by decide
@[simp] theorem kpA_m : kpA 1000001 = 1000001:=by decide
@[simp] theorem kpA_7 : kpA 7 = 1500007:=by decide
@[simp] theorem kpA_r7 : kpA 1500007 = 7:=by decide
@[simp] theorem kpA_10 : kpA 10 = 1500010:=by decide
@[simp] theorem kpA_r10 : kpA 1500010 = 10:=by decide
@[simp] theorem kpA_20 : kpA 20 = 1500020:=by decide
@[simp] theorem kpA_r20 : kpA 1500020 = 20:=by decide
@[simp] theorem kpA_21 : kpA 21 = 1500021:=by decide
@[simp] theorem kpA_r21 : kpA 1500021 = 21:=by decide
@[simp] theorem kpA_22 : kpA 22 = 1500022:=by decide
@[simp] theorem kpA_r22 : kpA 1500022 = 22:=by decide
@[simp] theorem kpA_800 : kpA 800 = 800:=by decide
@[simp] theorem kpA_801 : kpA 801 = 801:=by decide
@[simp] theorem kpA_802 : kpA 802 = 802:=by decide
@[simp] theorem kpA_803 : kpA 803 = 803:=by decide
@[simp] theorem kpA_804 : kpA 804 = 804:=by decide
abbrev zBx : Bx:=⟨0,0,0,0,0,0⟩
def stB (B : Un → Bx) (a : Option Bx) (u : Un) : Option Bx:=some (joiX (a.getD (B u)) (B u))
def lbF (B : Un → Bx) (us : List Un) (k : Nat) : Option Bx:=(us.take k).foldl (stB B) none
def lbx (B : Un → Bx) (us : List Un) : Bx:=(us.foldl (stB B) none).getD zBx
theorem lbF_succ (B : Un → Bx) (us : List Un) (k : Nat) (h : k < us.length) : lbF B us (k + 1) = some (joiX ((lbF B us k).getD (B us[k])) (B us[k])):=by
 unfold lbF
 rw [List.take_succ_eq_append_getElem h,List.foldl_append]
 rfl
def chU (m : Nat) (us : List Un) (j : Nat) : List Un:=(us.drop (j * m)).take m
def lfF (B : Un → Bx) (o : Ob) (m j : Nat) : Lf:=⟨o.id,((j * m : Nat) : Int),chU m o.us j,lbx B (chU m o.us j)⟩
def lvF (B : Un → Bx) (o : Ob) (m j : Nat) : List Lf:=(List.range j).map (lfF B o m)
def cnt (m n : Nat) : Nat:=(n + m - 1) / m
def lvO (B : Un → Bx) (m : Nat) (o : Ob) : List Lf:=lvF B o m (cnt m o.us.length)
def lvA (B : Un → Bx) (m : Nat) (l : List Ob) : List Lf:=l.flatMap (lvO B m)
theorem lvF_succ (B : Un → Bx) (o : Ob) (m j : Nat) : lvF B o m (j + 1) = lvF B o m j ++ [lfF B o m j]:=by simp [lvF,List.range_succ]
theorem lvF_len (B : Un → Bx) (o : Ob) (m j : Nat) : (lvF B o m j).length = j:=by simp [lvF]
theorem cnt_eq {m n j : Nat} (hm : 0 < m) (h1 : n ≤ j * m) (h2 : j = 0 ∨ (j - 1) * m < n) : j = cnt m n:=by
 unfold cnt
 refine (Nat.div_eq_of_lt_le ?_ ?_).symm
 ·rcases j with _|j
  ·omega
  ·rcases h2 with h2|h2
   ·omega
   ·rw [Nat.add_sub_cancel] at h2
    rw [Nat.add_mul]
    omega
 ·rw [Nat.add_mul]
  omega
abbrev trB (m n : Nat) : Ct:=.box 34 (.st [iA m,.own 800 9 0 n,.v (.slice none 0 0)])
abbrev zT : Ct:=.box 34 (.st [iA 0,.v (.slice none 0 0),.v (.slice none 0 0)])
abbrev rwF (l : List Lf) : Ct:=.arr 52 9 (l.map encF)
noncomputable def cChunk : Code:=nav [1,1,1,1,0,1,0,0,1,1,0,0,1,1,1] (Tryz.f33.body.getD .skip)
theorem bld_obj {E : Env} (hE : E.n = Tryz.f33.ntmps) (hRO : RoundOK E) {m : Nat} {B : Un → Bx} {o : Ob} {l : List Ob} {i : Nat} {L : List Lf} (hm : 0 < m) (hm2 : m ≤ 32) (hu : o.us.length ≤ 1000) (hB : ∀ u ∈ o.us,BxOK u (B u)) (hL : L.length ≤ 1000000) {Q : AExit → AState → Prop}
 (h : ∀ s' : AState,s'.le ⟨[(7,.loc 7 0),(42,iA i),(41,iA l.length),(40,obL l),(1,iA m),(4,.loc 4 0)],[(7,trB m (L ++ lvO B m o).length),(800,rwF (L ++ lvO B m o)),(4,zT)]⟩ → Q .normal s') :
 AW Tryz.prog E cChunk ⟨[(49,.fn (.func 97) [] [.ep (unL o.us),.ep (iA m)]),(10,.loc 10 0),(9,.ep (encO o)),(7,.loc 7 0),(42,iA i),(41,iA l.length),(40,obL l),(1,iA m),(4,.loc 4 0)],[(10,.box 3 (iA 0)),(7,trB m L.length),(800,rwF L),(4,zT)]⟩ Q:=by
 have hK:=Kont.mk h
 clear h
 have hlv0 : L ++ lvF B o m 0 = L:=by simp [lvF]
 refine AW_block ?_
 refine AW_rangeFunc kpA [(10,.loc 1500010 0),(9,.ep (encO o)),(7,.loc 1500007 0),(42,iA i),(41,iA l.length),(40,obL l),(1,iA m),(4,.loc 1500004 0)] (fun j : Nat=>[(1500010,.box 3 (iA (min (j * m) o.us.length : Nat))),(1500007,trB m (L ++ lvF B o m j).length),(800,rwF (L ++ lvF B o m j)),(1500004,zT)]) (fun pre j=>j = pre.length ∧ (j = 0 ∨ (j - 1) * m < o.us.length)) 0 ⟨rfl,.inl rfl⟩ hRO (i_chunkU o.us o.us.length m rfl hm (by omega) (by omega)) (by simp) (by simp [idfL,AV.idf]) (fun pre x h=>by rw [h.2];simp [chunkU,idfL,AV.idf]) (by rw [hE];decide) kpA_kpA kpA_lt kpA_mid
  (slots_of (by simp [AV.ren])) (boxes_of (by simp [Ct.ren,AV.ren,hlv0])) (by intro d h;simp [mentS,AV.ment] at h;omega) (fun xs j _ _ d h1 h2=>by
    have h3:=kpA_ne h1 h2
    have h4 : ¬ 800 = d ∧ ¬ 1500007 = d ∧ ¬ 1500010 = d ∧ ¬ 1500004 = d:=by omega
    simp [mentB,Ct.ment,AV.ment,mentL,lk,h4,mentL_append]) ?_ ?_
 ·intro E' hE' pre x j hok hj
  obtain ⟨hj1,hj2⟩:=hj
  have hlt : j * m < o.us.length:=by rw [hj1];exact hok.1
  have hx : x = [unL (chU m o.us j)]:=by rw [hok.2,← hj1];rfl
  have hlf : lfF B o m j = ⟨o.id,((j * m : Nat) : Int),chU m o.us j,lbx B (chU m o.us j)⟩:=rfl
  have hmin : min (j * m) o.us.length = j * m:=by omega
  have hgl : (L ++ lvF B o m j).length ≤ 2000000:=by
   rw [List.length_append,lvF_len]
   have : j ≤ j * m:=Nat.le_mul_of_pos_right _ hm
   omega
  have hs : L ++ lvF B o m (j + 1) = (L ++ lvF B o m j) ++ [lfF B o m j]:=by rw [lvF_succ,List.append_assoc]
  have hcl : (chU m o.us j).length = min m (o.us.length - j * m):=by simp [chU]
  have hcB : Hld (∀ u ∈ chU m o.us j,BxOK u (B u)):=⟨fun u hu=>hB u (List.mem_of_mem_drop (List.mem_of_mem_take hu))⟩
  have hmin2 : min ((j + 1) * m) o.us.length = j * m + (chU m o.us j).length:=by rw [hcl,Nat.add_mul];omega
  rw [hmin]
  obtain ⟨c,hc⟩ : ∃ c,chU m o.us j = c:=⟨_,rfl⟩
  obtain ⟨G,hG⟩ : ∃ G,L ++ lvF B o m j = G:=⟨_,rfl⟩
  obtain ⟨G2,hG2⟩ : ∃ G,L ++ lvF B o m (j + 1) = G:=⟨_,rfl⟩
  obtain ⟨a,ha⟩ : ∃ a,j * m = a:=⟨_,rfl⟩
  rw [hlf,hc,ha,hG,hG2] at hs
  rw [hc,ha] at hcl hmin2
  rw [hc] at hcB hx
  rw [hG] at hgl
  rw [ha] at hlt ⊢
  rw [hG]
  have hc1 : 1 ≤ c.length:=by omega
  have hc2 : c.length ≤ 32:=by omega
  have ha2 : a ≤ 1000:=by omega
  have hE0:=hE
  clear hE
  have hE:=hE'.n.trans hE0
  replace hs:=Hld.mk hs
  replace hmin2:=Hld.mk hmin2
  replace hG2:=Hld.mk hG2
  replace hj1:=Hld.mk hj1
  have hlt':=Hld.mk (show (j + 1 - 1) * m < o.us.length by rw [Nat.add_sub_cancel,ha];exact hlt)
  clear hok hlf hmin hcl hc hG ha hlt hj2 hB
  rw [hx]
  simp only [pslots]
  repeat' (first
   |(with_reducible first|refine uK ?_|refine uX ?_|refine jq fun K hK=>?_|refine jb ?_)|((with_reducible first|refine rS hE ?_|refine jn ?_|refine js fun K' hK'=>?_|refine ji fun X Y hX hY=>?_|refine jr ?_|refine jk ?_|refine jx ?_);simp [*])|with_reducible refine rL hE ?_|with_reducible refine And.intro ?_ ?_|omega|(refine imp1 fun h=>?_))
  intro E2 hE2
  clear hE
  have hE:=hE2.n.trans hE0
  have hcn:=Hld.mk (s_cloneP c (by omega))
  refine AW_block ?_
  refine AW_seqt ⟨[(11,unL c),(12,.loc 12 0),(10,.loc 1500010 0),(7,.loc 1500007 0)],(12,.box 52 (encF ⟨o.id,(a : Int),c,zBx⟩)) :: [(1500010,.box 3 (iA a)),(1500007,trB m G.length),(800,rwF G),(1500004,zT)]⟩ ?_ (by
   intro K hK
   refine AW_drawF (fun f=>⟨[(51,if f 0 then .ep (iA o.id) else .u),(52,if f 1 then iA o.id else .u),(53,if f 2 then iA a else .u),(54,if f 3 then unL c else .u),(55,if f 4 then unL c else .u),(56,if f 5 then encF ⟨o.id,(a : Int),c,zBx⟩ else .u),(12,if f 6 then .loc 12 0 else .u),(11,unL c),(10,.loc 1500010 0),(9,.ep (encO o)),(7,.loc 1500007 0)],
    (if f 6 then [(12,.box 52 (if f 7 then encF ⟨o.id,(a : Int),c,zBx⟩ else .st [iA 0,iA 0,.v (.slice none 0 0),iA 0,iA 0,iA 0,iA 0,iA 0,iA 0]))] else []) ++ [(1500010,.box 3 (iA a)),(1500007,trB m G.length),(800,rwF G),(1500004,zT)]⟩) mixed (by rw [hE];decide) (by decide +kernel) (by decide +kernel) (by simp) ?_ ?_
   ·intro f i o hi hdep hnot hcl K2 hK2
    have w7_6 : f 7 = true → f 6 = true:=gw
    clear hcl
    iterate 8 (rcases i with _|i;rotate_left)
    ·simp at hi
    all_goals (simp only [List.getElem?_cons_succ,List.getElem?_cons_zero,Option.some.injEq] at hi;subst hi)
    all_goals simp [Region.binds] at hdep
    all_goals (rcases a6 : f 6)
    all_goals try (exfalso;revert hdep hnot w7_6;simp [a6];done)
    all_goals (try simp [a6,hnot] at w7_6)
    all_goals (have k'1:=hcn;have z'1:=@encF.eq_1;have z'2:=@encO.eq_1;exact gd1)
   ·intro f hf
    have e7:=hf 7 (by simp)
    have e6:=hf 6 (by simp)
    refine hK.h _ ?_
    simp [e7,e6,encF,encO]
   all_goals simp)
  refine AW_seqt ⟨[(11,unL c),(12,.loc 12 0),(10,.loc 1500010 0),(7,.loc 1500007 0)],(12,.box 52 (encF ⟨o.id,(a : Int),c,lbx B c⟩)) :: [(1500010,.box 3 (iA a)),(1500007,trB m G.length),(800,rwF G),(1500004,zT)]⟩ ?_ (by
   intro K hK
   obtain ⟨F,hF⟩ : ∃ F,lbF B c = F:=⟨_,rfl⟩
   have hF0 : F 0 = none:=by rw [← hF];rfl
   have hFs : Hld (∀ k (h : k < c.length),F (k + 1) = some (joiX ((F k).getD (B c[k])) (B c[k]))):=⟨by rw [← hF];exact lbF_succ B c⟩
   have hFn : (F c.length).getD zBx = lbx B c:=by rw [← hF];unfold lbF lbx;rw [List.take_length]
   rw [← hFn] at hK
   clear hF hFn
   refine lpk (G:=Nat) (fun k=>⟨[(59,iA k),(58,iA c.length),(57,unL c),(11,unL c),(12,.loc 12 0),(10,.loc 1500010 0),(7,.loc 1500007 0)],(12,.box 52 (encF ⟨o.id,(a : Int),c,(F k).getD zBx⟩)) :: [(1500010,.box 3 (iA a)),(1500007,trB m G.length),(800,rwF G),(1500004,zT)]⟩) (fun k=>k ≤ c.length) (fun k=>c.length - k) 0 (Nat.zero_le _) ?_
   intro k hk K hK
   by_cases hkl : k < c.length
   ·have hklI : (k : Int) < c.length:=by omega
    have hfs:=hFs.out k hkl
    have hb:=hcB.out c[k] (List.getElem_mem hkl)
    obtain ⟨u,hu⟩ : ∃ u,c[k] = u:=⟨_,rfl⟩
    rw [hu] at hfs hb
    have hb2 : Hld (PSpec Tryz.prog 52 [encU u] (.tup [encX (B u),iA 0])):=⟨hb⟩
    have hug : ∀ h : k < c.length,c[k] = u:=fun _=>hu
    clear hb
    replace hu:=()
    obtain ⟨y,hy⟩ : ∃ y,(F k).getD zBx = y:=⟨_,rfl⟩
    obtain ⟨z,hz⟩ : ∃ z,(F k).getD (B u) = z:=⟨_,rfl⟩
    have hyz : k ≠ 0 → y = z:=fun h0=>by
     obtain ⟨q,rfl⟩ : ∃ q,k = q + 1:=⟨k - 1,by omega⟩
     have:=hFs.out q (by omega)
     rw [this] at hy hz
     rw [← hy,← hz];rfl
    have hz0 : k = 0 → z = B u:=fun h0=>by rw [← hz,h0,hF0];rfl
    rw [hz] at hfs
    have hF1 : Hld ((F (k + 1)).getD zBx = joiX z (B u)):=⟨by rw [hfs];rfl⟩
    have hjn:=Hld.mk (s_join z (B u))
    refine AW_le (t:=⟨[(59,iA k),(58,iA c.length),(57,unL c),(11,unL c),(12,.loc 12 0),(10,.loc 1500010 0),(7,.loc 1500007 0)],(12,.box 52 (encF ⟨o.id,(a : Int),c,y⟩)) :: [(1500010,.box 3 (iA a)),(1500007,trB m G.length),(800,rwF G),(1500004,zT)]⟩) (by simp [hy]) ?_
    clear hfs
    replace hy:=Hld.mk hy
    replace hz:=Hld.mk hz
    replace hyz:=Hld.mk hyz
    replace hz0:=Hld.mk hz0
    refine sq ⟨[(60,bA true),(59,iA k),(58,iA c.length),(57,unL c),(11,unL c),(12,.loc 12 0),(10,.loc 1500010 0),(7,.loc 1500007 0)],(12,.box 52 (encF ⟨o.id,(a : Int),c,y⟩)) :: [(1500010,.box 3 (iA a)),(1500007,trB m G.length),(800,rwF G),(1500004,zT)]⟩ ?_
    refine sq ⟨[(59,iA k),(58,iA c.length),(57,unL c),(11,unL c),(12,.loc 12 0),(10,.loc 1500010 0),(7,.loc 1500007 0)],(12,.box 52 (encF ⟨o.id,(a : Int),c,y⟩)) :: [(1500010,.box 3 (iA a)),(1500007,trB m G.length),(800,rwF G),(1500004,zT)]⟩ ?_
    refine AW_seqt ⟨[(59,iA k),(58,iA c.length),(57,unL c),(11,unL c),(12,.loc 12 0),(10,.loc 1500010 0),(7,.loc 1500007 0)],(12,.box 52 (encF ⟨o.id,(a : Int),c,joiX z (B u)⟩)) :: [(1500010,.box 3 (iA a)),(1500007,trB m G.length),(800,rwF G),(1500004,zT)]⟩ ?_ (by
     intro K hK
     refine AW_block ?_
     refine sq ⟨[(14,.loc 14 0),(13,iA k),(59,iA k),(58,iA c.length),(57,unL c),(11,unL c),(12,.loc 12 0),(10,.loc 1500010 0),(7,.loc 1500007 0)],(14,.box 111 (encU u)) :: (12,.box 52 (encF ⟨o.id,(a : Int),c,y⟩)) :: [(1500010,.box 3 (iA a)),(1500007,trB m G.length),(800,rwF G),(1500004,zT)]⟩ ?_
     refine AW_seqt ⟨[(15,.loc 15 0),(13,iA k),(59,iA k),(58,iA c.length),(57,unL c),(11,unL c),(12,.loc 12 0),(10,.loc 1500010 0),(7,.loc 1500007 0)],(15,.box 28 (encX (B u))) :: (12,.box 52 (encF ⟨o.id,(a : Int),c,y⟩)) :: [(1500010,.box 3 (iA a)),(1500007,trB m G.length),(800,rwF G),(1500004,zT)]⟩ ?_ (by
      intro K hK
      have k'1:=hb2;exact ga1)
     refine AW_seqt ⟨[(15,.loc 15 0),(59,iA k),(58,iA c.length),(57,unL c),(11,unL c),(12,.loc 12 0),(10,.loc 1500010 0),(7,.loc 1500007 0)],(15,.box 28 (encX (B u))) :: (12,.box 52 (encF ⟨o.id,(a : Int),c,z⟩)) :: [(1500010,.box 3 (iA a)),(1500007,trB m G.length),(800,rwF G),(1500004,zT)]⟩ ?_ (by
      intro K hK
      rcases k with _|q
      ·have e:=hz0.out rfl
       have z'1:=@encF.eq_1;have z'2:=@encX.eq_1;exact ga0
      ·have e:=hyz.out (by omega)
       have z'1:=@encF.eq_1;have z'2:=@encX.eq_1;exact ga0)
     have k'1:=hjn;have z'1:=@encF.eq_1;have z'2:=@encX.eq_1;exact ga1)
    have z'1:=hF1.out;exact glk
   ·have : k = c.length:=by omega
    subst this
    exact ga0)
  refine AW.mono (Q:=thenK (fun s2=>s2.le ⟨[],[(1500010,.box 3 (iA ((a + c.length : Nat) : Int))),(1500007,trB m (G.length + 1)),(800,.arr 52 9 (G.map encF ++ [encF ⟨o.id,(a : Int),c,lbx B c⟩])),(1500004,zT)]⟩) (fun _ _=>False)) ?_ ?_
  ·have hK : Kont (fun s2=>s2.le ⟨[],[(1500010,.box 3 (iA ((a + c.length : Nat) : Int))),(1500007,trB m (G.length + 1)),(800,.arr 52 9 (G.map encF ++ [encF ⟨o.id,(a : Int),c,lbx B c⟩])),(1500004,zT)]⟩) (fun s2=>s2.le ⟨[],[(1500010,.box 3 (iA ((a + c.length : Nat) : Int))),(1500007,trB m (G.length + 1)),(800,.arr 52 9 (G.map encF ++ [encF ⟨o.id,(a : Int),c,lbx B c⟩])),(1500004,zT)]⟩):=⟨fun _ h=>h⟩
   have hGt : (G.map encF).take G.length = G.map encF:=List.take_of_length_le (by simp)
   obtain ⟨y,hy⟩ : ∃ y,lbx B c = y:=⟨_,rfl⟩
   rw [hy] at hK ⊢
   clear hE0 hy
   refine AW_drawF (fun f=>⟨[(79,if f 0 then .loc 1500007 1 else .u),(80,if f 1 && !f 4 then .own 800 9 0 G.length else .u),(81,if f 2 then encF ⟨o.id,(a : Int),c,y⟩ else .u),(82,if f 3 then .own 82 9 0 1 else .u),(83,if f 4 then .own 800 9 0 (G.length + 1) else .u),(84,if f 5 then iA a else .u),(85,if f 6 then unL c else .u),(86,if f 7 then iA c.length else .u),(87,if f 8 then iA (a + c.length) else .u),(88,if f 9 then .loc 1500007 1 else .u),(11,unL c),(12,.loc 12 0),(10,.loc 1500010 0),(7,.loc 1500007 0)],
    (if f 3 then [(82,.arr 52 9 [encF ⟨o.id,(a : Int),c,y⟩])] else []) ++ [(12,.box 52 (encF ⟨o.id,(a : Int),c,y⟩)),(1500010,.box 3 (iA (if f 11 then (a : Int) + c.length else a))),(1500007,.box 34 (.st [iA m,if f 4 then (if f 10 then .own 800 9 0 (G.length + 1) else .w) else .own 800 9 0 G.length,.v (.slice none 0 0)])),(800,.arr 52 9 (if f 4 then G.map encF ++ [encF ⟨o.id,(a : Int),c,y⟩] else G.map encF)),(1500004,zT)]⟩) mixed (by rw [hE];decide) (by decide +kernel) (by decide +kernel) (by simp) ?_ ?_
   ·intro f i o hi hdep hnot hcl K2 hK2
    have w4_3 : f 4 = true → f 3 = true:=gw
    have w4_1 : f 4 = true → f 1 = true:=gw
    have w10_4 : f 10 = true → f 4 = true:=gw
    have w11_5 : f 11 = true → f 5 = true:=gw
    have w11_8 : f 11 = true → f 8 = true:=gw
    clear hcl
    iterate 12 (rcases i with _|i;rotate_left)
    ·simp at hi
    all_goals (simp only [List.getElem?_cons_succ,List.getElem?_cons_zero,Option.some.injEq] at hi;subst hi)
    all_goals simp [Region.binds] at hdep
    all_goals (rcases a3 : f 3 <;> rcases a4 : f 4)
    all_goals try (exfalso;revert hdep hnot w4_3 w4_1 w10_4 w11_5 w11_8;simp [a3,a4];done)
    all_goals (try simp [a3,a4,hnot] at w4_3)
    all_goals (try simp [a3,a4,hnot] at w4_1)
    all_goals (try simp [a3,a4,hnot] at w10_4)
    all_goals (try simp [a3,a4,hnot] at w11_5)
    all_goals (try simp [a3,a4,hnot] at w11_8)
    all_goals (have z'1:=@encF.eq_1;have z'2:=@mentL_append;exact gd0)
   ·intro f hf
    have e10:=hf 10 (by simp)
    have e11:=hf 11 (by simp)
    have e3:=hf 3 (by simp)
    have e4:=hf 4 (by simp)
    refine hK.h _ ?_
    simp [e10,e11,e3,e4,encF,mentL_append]
  ·intro e s2 hle
   cases e <;> simp only [thenK] at hle
   refine ⟨j + 1,⟨by simp [hj1.out],.inr hlt'.out⟩,?_⟩
   have hG3:=hG2.out
   have hln : L.length + (lvF B o m (j + 1)).length = G.length + 1:=by rw [← List.length_append,hG3,hs.out];simp
   have hrw : G2.map encF = G.map encF ++ [encF ⟨o.id,(a : Int),c,lbx B c⟩]:=by rw [hs.out,List.map_append];rfl
   rw [hG3,hmin2.out]
   simp only [List.length_append,hln,hrw]
   have h3 : rwF G2 = .arr 52 9 (G.map encF ++ [encF ⟨o.id,(a : Int),c,lbx B c⟩]):=by show Ct.arr _ 9 (G2.map encF) = _;rw [hrw]
   rw [h3]
   simpa using hle
 ·intro xs j hxs hj
  obtain ⟨hj1,hj2⟩:=hj
  have hjc : j = cnt m o.us.length:=cnt_eq hm (by rw [hj1];exact hxs) hj2
  have hfin : L ++ lvF B o m j = L ++ lvO B m o:=by rw [hjc];rfl
  rw [hfin]
  obtain ⟨Z,hZ⟩ : ∃ Z,L ++ lvO B m o = Z:=⟨_,rfl⟩
  rw [hZ] at hK ⊢
  refine hK.h _ ?_
  simp [Ct.ren,AV.ren]
def jnX (l : List Bx) : Bx:=match l with
 |[]=>zBx
 |b :: r=>jonX b r
def chX (bs : List Bx) (j : Nat) : List Bx:=(bs.drop (j * 4)).take 4
def ndF (bs : List Bx) (j : Nat) : Nd:=⟨((j * 4 : Nat) : Int),(chX bs j).length,jnX (chX bs j)⟩
def ndsF (bs : List Bx) (j : Nat) : List Nd:=(List.range j).map (ndF bs)
def nds (bs : List Bx) : List Nd:=ndsF bs (cnt 4 bs.length)
theorem ndsF_succ (bs : List Bx) (j : Nat) : ndsF bs (j + 1) = ndsF bs j ++ [ndF bs j]:=by simp [ndsF,List.range_succ]
theorem ndsF_len (bs : List Bx) (j : Nat) : (ndsF bs j).length = j:=by simp [ndsF]
abbrev rwN (l : List Nd) : Ct:=.arr 66 8 (l.map encN)
def nbA (l : List Nd) : List AV:=l.map fun n=>encX n.b
@[simp] theorem nbA_nil : nbA [] = []:=rfl
@[simp] theorem nbA_len (l : List Nd) : (nbA l).length = l.length:=by simp [nbA]
@[simp] theorem nbA_ment (d : Nat) (l : List Nd) : mentL d (nbA l) = false:=by induction l with|nil=>rfl|cons a l ih=>simp [nbA] at ih ⊢;simp [ih]
@[simp] theorem nbA_ren (σ : Nat → Nat) (l : List Nd) : renL σ (nbA l) = nbA l:=by induction l with|nil=>rfl|cons a l ih=>simp [nbA] at ih ⊢;simp [ih]
@[simp] theorem nbA_idf (l : List Nd) : idfL (nbA l) = true:=by induction l with|nil=>rfl|cons a l ih=>simp [nbA] at ih ⊢;simp [ih]
theorem nbA_eq (l : List Nd) : nbA l = (l.map Nd.b).map encX:=by simp [nbA]
theorem nbA_app (l : List Nd) (n : Nd) : nbA (l ++ [n]) = nbA l ++ [encX n.b]:=by simp [nbA]
abbrev rwB (l : List Nd) : Ct:=.arr 28 6 (nbA l)
noncomputable def cLvl : Code:=nav [1,1,1,1,1,1,1,0,0,0,1,0,1,1,1,0,1] (Tryz.f33.body.getD .skip)
set_option maxHeartbeats 8000000 in
theorem bld_lvl {E : Env} (hE : E.n = Tryz.f33.ntmps) (hRO : RoundOK E) {bs : List Bx} {m k : Nat} {lv : List Lf} {LS : List (List Nd)} (hu : bs.length ≤ 100000) {Q : AExit → AState → Prop}
 (h : ∀ s' : AState,s'.le ⟨[(20,.loc 20 0),(21,.loc 21 0),(7,.loc 7 0),(4,.loc 4 0)],[(4,zT),(20,.box 67 (.own 802 8 0 (nds bs).length)),(802,rwN (nds bs)),(21,.box 106 (.own 803 6 0 (nds bs).length)),(803,rwB (nds bs)),(7,.box 34 (.st [iA m,.sl 9 (lv.map encF),.own 801 1 0 k])),(801,.arr 67 1 (LS.map ndL))]⟩ → Q .normal s') :
 AW Tryz.prog E cLvl ⟨[(107,.fn (.func 98) [] [.ep (bxL bs),.ep (iA 4)]),(20,.loc 20 0),(21,.loc 21 0),(22,.loc 22 0),(7,.loc 7 0),(4,.loc 4 0)],[(4,zT),(20,.box 67 (.own 802 8 0 0)),(802,rwN []),(21,.box 106 (.own 803 6 0 0)),(803,rwB []),(22,.box 3 (iA 0)),(7,.box 34 (.st [iA m,.sl 9 (lv.map encF),.own 801 1 0 k])),(801,.arr 67 1 (LS.map ndL))]⟩ Q:=by
 have hK:=Kont.mk h
 clear h
 have hl0 : ndsF bs 0 = []:=rfl
 have m4 : ∀ d : Nat,mentL d (LS.map ndL) = false:=fun d=>by simp
 obtain ⟨LV,hLV⟩ : ∃ LV,lv.map encF = LV:=⟨_,rfl⟩
 have n1 : ∀ d,mentL d LV = false:=fun d=>by rw [← hLV];simp
 have n2 : ∀ σ,renL σ LV = LV:=fun d=>by rw [← hLV];simp
 have n3 : idfL LV = true:=by rw [← hLV];simp
 obtain ⟨LZ,hLZ⟩ : ∃ LZ,LS.map ndL = LZ:=⟨_,rfl⟩
 have p1 : ∀ d,mentL d LZ = false:=fun d=>by rw [← hLZ];simp
 have p2 : ∀ σ,renL σ LZ = LZ:=fun d=>by rw [← hLZ];simp
 rw [hLV,hLZ] at hK ⊢
 clear hLV hLZ m4
 refine AW_block ?_
 refine AW_rangeFunc kpA [(20,.loc 1500020 0),(21,.loc 1500021 0),(22,.loc 1500022 0),(7,.loc 1500007 0),(4,.loc 1500004 0)] (fun j : Nat=>[(1500004,zT),(1500020,.box 67 (.own 802 8 0 j)),(802,rwN (ndsF bs j)),(1500021,.box 106 (.own 803 6 0 j)),(803,rwB (ndsF bs j)),(1500022,.box 3 (iA (min (j * 4) bs.length : Nat))),(1500007,.box 34 (.st [iA m,.sl 9 LV,.own 801 1 0 k])),(801,.arr 67 1 LZ)]) (fun pre j=>j = pre.length ∧ (j = 0 ∨ (j - 1) * 4 < bs.length)) 0 ⟨rfl,.inl rfl⟩ hRO (i_chunkX bs bs.length 4 rfl (by omega) (by omega) (by omega)) (by simp) (by simp [idfL,AV.idf]) (fun pre x h=>by rw [h.2];simp [chunkX,idfL,AV.idf]) (by rw [hE];decide) kpA_kpA kpA_lt kpA_mid
  (slots_of (by simp [AV.ren])) (boxes_of (by simp [Ct.ren,AV.ren,hl0,n2,p2,renL])) (by intro d h;simp [mentS,AV.ment] at h;omega) (fun xs j _ _ d h1 h2=>by
    have h3:=kpA_ne h1 h2
    have h4 : ¬ 1500004 = d ∧ ¬ 802 = d ∧ ¬ 803 = d ∧ ¬ 801 = d ∧ ¬ 1500020 = d ∧ ¬ 1500021 = d ∧ ¬ 1500022 = d ∧ ¬ 1500007 = d:=by omega
    simp [mentB,Ct.ment,AV.ment,mentL,lk,h4,n1,p1,mentL_append]) ?_ ?_
 ·intro E' hE' pre x j hok hj
  obtain ⟨hj1,hj2⟩:=hj
  have hlt : j * 4 < bs.length:=by rw [hj1];exact hok.1
  have hx : x = [bxL (chX bs j)]:=by rw [hok.2,← hj1];rfl
  have hnd : ndF bs j = ⟨((j * 4 : Nat) : Int),(chX bs j).length,jnX (chX bs j)⟩:=rfl
  have hmin : min (j * 4) bs.length = j * 4:=by omega
  have hjb : j ≤ 100000:=by omega
  have hs : ndsF bs (j + 1) = ndsF bs j ++ [ndF bs j]:=ndsF_succ bs j
  have hgl:=ndsF_len bs j
  have hcl : (chX bs j).length = min 4 (bs.length - j * 4):=by simp [chX]
  have hmin2 : min ((j + 1) * 4) bs.length = j * 4 + (chX bs j).length:=by rw [hcl];omega
  rw [hmin]
  obtain ⟨c,hc⟩ : ∃ c,chX bs j = c:=⟨_,rfl⟩
  obtain ⟨G,hG⟩ : ∃ G,ndsF bs j = G:=⟨_,rfl⟩
  obtain ⟨G2,hG2⟩ : ∃ G,ndsF bs (j + 1) = G:=⟨_,rfl⟩
  obtain ⟨a,ha⟩ : ∃ a,j * 4 = a:=⟨_,rfl⟩
  rw [hnd,hc,ha,hG,hG2] at hs
  rw [hc,ha] at hcl hmin2
  rw [hc] at hx
  rw [hG] at hgl
  rw [ha] at hlt ⊢
  rw [hG]
  obtain ⟨b,r,hbr⟩ : ∃ b r,c = b :: r:=by
   rcases c with _|⟨b,r⟩
   ·simp at hcl;omega
   ·exact ⟨b,r,rfl⟩
  have hjn:=s_joined b r (by rw [hbr] at hcl;simp at hcl;omega)
  rw [← hbr] at hjn
  have hjx : jnX c = jonX b r:=by rw [hbr];rfl
  rw [← hjx] at hjn
  have hc2 : c.length ≤ 4:=by omega
  have ha2 : a ≤ 100000:=by omega
  have hE0:=hE
  clear hE
  have hE:=hE'.n.trans hE0
  obtain ⟨y,hy⟩ : ∃ y,jnX c = y:=⟨_,rfl⟩
  rw [hy] at hjn hs
  replace hjn:=Hld.mk hjn
  replace hs:=Hld.mk hs
  replace hmin2:=Hld.mk hmin2
  replace hG2:=Hld.mk hG2
  replace hj1:=Hld.mk hj1
  have hlt':=Hld.mk (show (j + 1 - 1) * 4 < bs.length by rw [Nat.add_sub_cancel,ha];exact hlt)
  clear hok hnd hmin hcl hc hG ha hlt hj2 hbr hjx hy
  rw [hx]
  simp only [pslots]
  repeat' (first
   |(with_reducible first|refine uK ?_|refine uX ?_|refine jq fun K hK=>?_|refine jb ?_)|((with_reducible first|refine rS hE ?_|refine jn ?_|refine js fun K' hK'=>?_|refine ji fun X Y hX hY=>?_|refine jr ?_|refine jk ?_|refine jx ?_);simp [*])|with_reducible refine rL hE ?_|with_reducible refine And.intro ?_ ?_|omega|(refine imp1 fun h=>?_))
  intro E2 hE2
  clear hE
  have hE:=hE2.n.trans hE0
  refine AW_block ?_
  refine AW_seqt ⟨[(24,.loc 24 0),(23,bxL c),(20,.loc 1500020 0),(21,.loc 1500021 0),(22,.loc 1500022 0),(7,.loc 1500007 0)],(24,.box 28 (encX y)) :: [(1500020,.box 67 (.own 802 8 0 j)),(802,rwN G),(1500021,.box 106 (.own 803 6 0 j)),(803,rwB G),(1500022,.box 3 (iA a)),(1500007,.box 34 (.st [iA m,.sl 9 LV,.own 801 1 0 k])),(801,.arr 67 1 LZ),(1500004,zT)]⟩ ?_ (by
   intro K hK
   have k'1:=hjn;exact ga1)
  have hGt : (G.map encN).take j = G.map encN:=List.take_of_length_le (by simp [hgl])
  have hNt : (nbA G).take j = nbA G:=List.take_of_length_le (by simp [hgl])
  have hjl : j ≤ G.length:=by omega
  refine AW_seqt ⟨[(24,.loc 24 0),(23,bxL c),(20,.loc 1500020 0),(21,.loc 1500021 0),(22,.loc 1500022 0),(7,.loc 1500007 0)],(24,.box 28 (encX y)) :: [(1500020,.box 67 (.own 802 8 0 (j + 1))),(802,.arr 66 8 (G.map encN ++ [encN ⟨(a : Int),(c.length : Int),y⟩])),(1500021,.box 106 (.own 803 6 0 (j + 1))),(803,.arr 28 6 (nbA G ++ [encX y])),(1500022,.box 3 (iA a)),(1500007,.box 34 (.st [iA m,.sl 9 LV,.own 801 1 0 k])),(801,.arr 67 1 LZ),(1500004,zT)]⟩ ?_ (by
   intro K hK
   clear hgl hE0
   refine AW_drawF (fun f=>⟨[(111,if f 0 && !f 7 then .own 802 8 0 j else .u),(112,if f 1 then iA a else .u),(113,if f 2 then bxL c else .u),(114,if f 3 then iA c.length else .u),(115,if f 4 then encX y else .u),(116,if f 5 then encN ⟨(a : Int),(c.length : Int),y⟩ else .u),(117,if f 6 then .own 117 8 0 1 else .u),(118,if f 7 then .own 802 8 0 (j + 1) else .u),(119,if f 8 && !f 11 then .own 803 6 0 j else .u),(120,if f 9 then encX y else .u),(121,if f 10 then .own 121 6 0 1 else .u),(122,if f 11 then .own 803 6 0 (j + 1) else .u),(24,.loc 24 0),(23,bxL c),(20,.loc 1500020 0),(21,.loc 1500021 0),(22,.loc 1500022 0),(7,.loc 1500007 0)],
    (if f 6 then [(117,.arr 66 8 [encN ⟨(a : Int),(c.length : Int),y⟩])] else []) ++ (if f 10 then [(121,.arr 28 6 [encX y])] else []) ++ [(24,.box 28 (encX y)),(1500020,.box 67 (if f 7 then (if f 12 then .own 802 8 0 (j + 1) else .w) else .own 802 8 0 j)),(802,.arr 66 8 (if f 7 then G.map encN ++ [encN ⟨(a : Int),(c.length : Int),y⟩] else G.map encN)),(1500021,.box 106 (if f 11 then (if f 13 then .own 803 6 0 (j + 1) else .w) else .own 803 6 0 j)),(803,.arr 28 6 (if f 11 then nbA G ++ [encX y] else nbA G)),(1500022,.box 3 (iA a)),(1500007,.box 34 (.st [iA m,.sl 9 LV,.own 801 1 0 k])),(801,.arr 67 1 LZ),(1500004,zT)]⟩) mixed (by rw [hE];decide) (by decide +kernel) (by decide +kernel) (by simp) ?_ ?_
   ·intro f i o hi hdep hnot hcl K2 hK2
    have w7_6 : f 7 = true → f 6 = true:=gw
    have w7_0 : f 7 = true → f 0 = true:=gw
    have w11_10 : f 11 = true → f 10 = true:=gw
    have w11_8 : f 11 = true → f 8 = true:=gw
    have w12_7 : f 12 = true → f 7 = true:=gw
    have w13_11 : f 13 = true → f 11 = true:=gw
    clear hcl
    iterate 14 (rcases i with _|i;rotate_left)
    ·simp at hi
    all_goals (simp only [List.getElem?_cons_succ,List.getElem?_cons_zero,Option.some.injEq] at hi;subst hi)
    all_goals simp [Region.binds] at hdep
    all_goals (rcases a6 : f 6 <;> rcases a7 : f 7 <;> rcases a10 : f 10 <;> rcases a11 : f 11)
    all_goals try (exfalso;revert hdep hnot w7_6 w7_0 w11_10 w11_8 w12_7 w13_11;simp [a6,a7,a10,a11];done)
    all_goals (try simp [a6,a7,a10,a11,hnot] at w7_6)
    all_goals (try simp [a6,a7,a10,a11,hnot] at w7_0)
    all_goals (try simp [a6,a7,a10,a11,hnot] at w11_10)
    all_goals (try simp [a6,a7,a10,a11,hnot] at w11_8)
    all_goals (try simp [a6,a7,a10,a11,hnot] at w12_7)
    all_goals (try simp [a6,a7,a10,a11,hnot] at w13_11)
    all_goals (have z'1:=@encN.eq_1;have z'2:=@encX.eq_1;have z'3:=@mentL_append;exact gd0)
   ·intro f hf
    have e12:=hf 12 (by simp)
    have e13:=hf 13 (by simp)
    have e6:=hf 6 (by simp)
    have e7:=hf 7 (by simp)
    have e10:=hf 10 (by simp)
    have e11:=hf 11 (by simp)
    refine hK.h _ ?_
    simp [e12,e13,e6,e7,e10,e11,encN,encX,mentL_append]
   all_goals simp)
  repeat' (first
   |(with_reducible first|refine uK ?_|refine uX ?_|refine jq fun K hK=>?_|refine jb ?_)|((with_reducible first|refine rS hE ?_|refine jn ?_|refine js fun K' hK'=>?_|refine ji fun X Y hX hY=>?_|refine jr ?_|refine jk ?_|refine jx ?_);simp [*])|with_reducible refine rL hE ?_|with_reducible refine And.intro ?_ ?_|omega|(refine imp1 fun h=>?_))
  refine ⟨j + 1,⟨by simp [hj1.out],.inr hlt'.out⟩,?_⟩
  have e1 : G.map encN ++ [encN ⟨(a : Int),(c.length : Int),y⟩] = G2.map encN:=by rw [hs.out,List.map_append];rfl
  have e2 : nbA G ++ [encX y] = nbA G2:=by rw [hs.out,nbA_app]
  rw [hG2.out,hmin2.out]
  exact ⟨rfl,e1,rfl,e2,by simp⟩
 ·intro xs j hxs hj
  obtain ⟨hj1,hj2⟩:=hj
  have hjc : j = cnt 4 bs.length:=cnt_eq (by omega) (by rw [hj1];exact hxs) hj2
  have hfin : ndsF bs j = nds bs:=by rw [hjc];rfl
  have hln : (nds bs).length = j:=by rw [← hfin,ndsF_len]
  rw [hln] at hK
  rw [hfin]
  obtain ⟨Z,hZ⟩ : ∃ Z,nds bs = Z:=⟨_,rfl⟩
  rw [hZ] at hK ⊢
  refine hK.h _ ?_
  simp [Ct.ren,AV.ren,n2,p2,renL]
def lvW : Nat → List Bx → List (List Nd)
 |0,_=>[]
 |f + 1,bs=>if bs.length = 0 then [] else nds bs :: (if (nds bs).length = 1 then [] else lvW f ((nds bs).map Nd.b))
def bldT (B : Un → Bx) (m : Nat) (l : List Ob) : Tr:=⟨m,lvA B m l,lvW (lvA B m l).length ((lvA B m l).map Lf.b)⟩
theorem lvA_succ (B : Un → Bx) (m : Nat) (l : List Ob) (i : Nat) (h : i < l.length) : lvA B m (l.take (i + 1)) = lvA B m (l.take i) ++ lvO B m l[i]:=by
 unfold lvA
 rw [List.take_succ_eq_append_getElem h,List.flatMap_append]
 simp
theorem lvO_len (B : Un → Bx) (m : Nat) (o : Ob) (hm : 0 < m) : (lvO B m o).length ≤ o.us.length:=by
 unfold lvO
 rw [lvF_len]
 unfold cnt
 rcases Nat.eq_zero_or_pos o.us.length with h|h
 ·rw [h,Nat.div_eq_of_lt (by omega)]
  omega
 ·refine Nat.div_le_of_le_mul ?_
  have : m * o.us.length = m * (o.us.length - 1) + m:=by rw [← Nat.mul_succ];congr 1;omega
  have h2 : o.us.length - 1 ≤ m * (o.us.length - 1):=Nat.le_mul_of_pos_left _ hm
  omega
def lbA (l : List Lf) : List AV:=l.map fun f=>encX f.b
@[simp] theorem lbA_nil : lbA [] = []:=rfl
@[simp] theorem lbA_len (l : List Lf) : (lbA l).length = l.length:=by simp [lbA]
@[simp] theorem lbA_ment (d : Nat) (l : List Lf) : mentL d (lbA l) = false:=by induction l with|nil=>rfl|cons a l ih=>simp [lbA] at ih ⊢;simp [ih]
@[simp] theorem lbA_idf (l : List Lf) : idfL (lbA l) = true:=by induction l with|nil=>rfl|cons a l ih=>simp [lbA] at ih ⊢;simp [ih]
theorem lbA_eq (l : List Lf) : lbA l = (l.map Lf.b).map encX:=by simp [lbA]
theorem lbA_take (l : List Lf) (i : Nat) (h : i < l.length) : lbA (l.take (i + 1)) = lbA (l.take i) ++ [encX l[i].b]:=by
 unfold lbA
 rw [List.take_succ_eq_append_getElem h,List.map_append]
 rfl
set_option maxHeartbeats 8000000 in
theorem s_build {l : List Ob} {B : Un → Bx} {m : Nat} (hl : l.length ≤ 64) (hO : ∀ o ∈ l,OkO o B) (hi : l.Pairwise (fun a b=>a.id < b.id)) (hm : 0 < m) (hm2 : m ≤ 32) : PSpec Tryz.prog 33 [obL l,iA m] (.tup [encT (bldT B m l),iA 0]):=by
 have hck:=Hld.mk (s_bcheck hl hO hi)
 have hok : Hld (∀ o ∈ l,OkO o B):=⟨hO⟩
 obtain ⟨F,hF⟩ : ∃ F : Nat → List Lf,∀ i,F i = lvA B m (l.take i):=⟨_,fun _=>rfl⟩
 have hF0 : F 0 = []:=by rw [hF];rfl
 have hFn : F l.length = lvA B m l:=by rw [hF,List.take_length]
 have hFs : Hld (∀ i (h : i < l.length),F (i + 1) = F i ++ lvO B m l[i]):=⟨fun i h=>by rw [hF,hF,lvA_succ B m l i h]⟩
 have hFl : Hld (∀ i,i ≤ l.length → (F i).length ≤ 256 * i):=⟨fun i=>by
  induction i with
  |zero=>intro _;rw [hF0];simp
  |succ i ih =>
   intro h
   rw [hFs.out i (by omega),List.length_append]
   have:=ih (by omega)
   have h2:=lvO_len B m l[i] hm
   have h3:=(hO l[i] (List.getElem_mem (by omega))).nrm.len
   omega⟩
 unfold bldT
 obtain ⟨LV,hLV⟩ : ∃ LV,lvA B m l = LV:=⟨_,rfl⟩
 rw [hLV] at hFn ⊢
 have hLVl : LV.length ≤ 20000:=by have:=hFl.out l.length (Nat.le_refl _);rw [hFn] at this;omega
 obtain ⟨W,hW⟩ : ∃ W,lvW LV.length (LV.map Lf.b) = W:=⟨_,rfl⟩
 rw [hW]
 replace hW:=Hld.mk hW
 replace hFn:=Hld.mk hFn
 clear hLV hF hO hi
 have hm1 : ¬ (m : Int) < 1:=by omega
 have hm32 : ¬ (32 : Int) < m:=by omega
 refine PSpec_ofR Tryz.func33 rfl rfl (Nat.le_of_ble_eq_true rfl) (Nat.le_of_ble_eq_true rfl) ?_
 intro E hE hRO
 replace hRO:=Hld.mk hRO
 refine sq ⟨[(4,.loc 4 0),(0,obL l),(1,iA m)],[(4,zT)]⟩ ?_
 refine sq ⟨[(4,.loc 4 0),(0,obL l),(1,iA m)],[(4,zT)]⟩ ?_
 refine AW_seqt ⟨[(4,.loc 4 0),(0,obL l),(1,iA m)],[(4,zT)]⟩ ?_ (by
  intro K hK
  have k'1:=hck;exact ga1)
 refine sq ⟨[(7,.loc 7 0),(4,.loc 4 0),(0,obL l),(1,iA m)],[(7,.box 34 (.st [iA m,.v (.slice none 0 0),.v (.slice none 0 0)])),(4,zT)]⟩ ?_
 refine AW_mkrowC 7 800 52 9 34 1 (cs:=[iA m,.v (.slice none 0 0),.v (.slice none 0 0)]) (by simp) (by simp) (by simp) (by simp) (by omega) ?_
 refine AW_seqt ⟨[(7,.loc 7 0),(4,.loc 4 0)],[(7,trB m LV.length),(800,rwF LV),(4,zT)]⟩ ?_ (by
  intro K hK
  refine lpk (G:=Nat) (fun i=>⟨[(7,.loc 7 0),(42,iA i),(41,iA l.length),(40,obL l),(1,iA m),(4,.loc 4 0)],[(7,trB m (F i).length),(800,rwF (F i)),(4,zT)]⟩) (fun i=>i ≤ l.length) (fun i=>l.length - i) 0 (Nat.zero_le _) ?_
  intro i hi K hK
  by_cases hlt : i < l.length
  ·have hltI : (i : Int) < l.length:=by omega
   have hs:=hFs.out i hlt
   have hfl:=hFl.out i hi
   have ho:=hok.out l[i] (List.getElem_mem hlt)
   obtain ⟨o,hoe⟩ : ∃ o,l[i] = o:=⟨_,rfl⟩
   obtain ⟨M,hM⟩ : ∃ M,F i = M:=⟨_,rfl⟩
   obtain ⟨M2,hM2⟩ : ∃ M,F (i + 1) = M:=⟨_,rfl⟩
   rw [hoe,hM,hM2] at hs
   rw [hM] at hfl
   rw [hoe] at ho
   have hch:=Hld.mk (s_chunkU o.us m hm)
   have hog : ∀ h : i < l.length,l[i] = o:=fun _=>hoe
   refine AW_le (t:=⟨[(7,.loc 7 0),(42,iA i),(41,iA l.length),(40,obL l),(1,iA m),(4,.loc 4 0)],[(7,trB m M.length),(800,rwF M),(4,zT)]⟩) (by simp [hM]) ?_
   replace hs:=Hld.mk hs
   replace hM:=Hld.mk hM
   replace hM2:=Hld.mk hM2
   replace hoe:=()
   have hol:=ho.nrm.len
   have hob:=Hld.mk ho.box
   clear ho
   refine sq ⟨[(43,bA true),(7,.loc 7 0),(42,iA i),(41,iA l.length),(40,obL l),(1,iA m),(4,.loc 4 0)],[(7,trB m M.length),(800,rwF M),(4,zT)]⟩ ?_
   refine sq ⟨[(7,.loc 7 0),(42,iA i),(41,iA l.length),(40,obL l),(1,iA m),(4,.loc 4 0)],[(7,trB m M.length),(800,rwF M),(4,zT)]⟩ ?_
   refine AW_seqt ⟨[(7,.loc 7 0),(42,iA i),(41,iA l.length),(40,obL l),(1,iA m),(4,.loc 4 0)],[(7,trB m M2.length),(800,rwF M2),(4,zT)]⟩ ?_ (by
    intro K hK
    refine AW_block ?_
    refine sq ⟨[(9,.loc 9 0),(7,.loc 7 0),(42,iA i),(41,iA l.length),(40,obL l),(1,iA m),(4,.loc 4 0)],[(9,.box 76 (encO o)),(7,trB m M.length),(800,rwF M),(4,zT)]⟩ ?_
    refine AW_freeze 9 (cb:=.box 76 (encO o)) (t:=⟨[(9,.ep (encO o)),(7,.loc 7 0),(42,iA i),(41,iA l.length),(40,obL l),(1,iA m),(4,.loc 4 0)],[(7,trB m M.length),(800,rwF M),(4,zT)]⟩) (by simp) (by simp) (by simp) ?_
    refine sq ⟨[(10,.loc 10 0),(9,.ep (encO o)),(7,.loc 7 0),(42,iA i),(41,iA l.length),(40,obL l),(1,iA m),(4,.loc 4 0)],[(10,.box 3 (iA 0)),(7,trB m M.length),(800,rwF M),(4,zT)]⟩ ?_
    refine AW_seqt ⟨[(49,.fn (.func 97) [] [.ep (unL o.us),.ep (iA m)]),(10,.loc 10 0),(9,.ep (encO o)),(7,.loc 7 0),(42,iA i),(41,iA l.length),(40,obL l),(1,iA m),(4,.loc 4 0)],[(10,.box 3 (iA 0)),(7,trB m M.length),(800,rwF M),(4,zT)]⟩ ?_ (by
     intro K hK
     have k'1:=hch;have z'1:=@encO.eq_1;exact ga1)
    refine bld_obj hE hRO.out hm hm2 (by omega) hob.out (by omega) fun s' hs'=>?_
    rw [← hs.out] at hs'
    exact hK.h s' hs')
   have z'1:=hM2.out;exact gli
  ·have : i = l.length:=by omega
   subst this
   have z'1:=hFn.out;exact ga0)
 have hLt : (LV.map encF).take LV.length = LV.map encF:=List.take_of_length_le (by simp)
 refine AW_freezeD 800 (cb:=rwF LV) (t:=⟨[(7,.loc 7 0),(4,.loc 4 0)],[(7,.box 34 (.st [iA m,.sl 9 (LV.map encF),.v (.slice none 0 0)])),(4,zT)]⟩) (by simp) (by simp) (by
  simp
  refine ⟨?_,?_⟩
  ·intro j a b ha hb
   rcases j with _|_|_|j <;> simp at ha hb <;> subst ha <;> subst hb <;> simp [hLt]
  ·intro j a b ha hb
   rcases j with _|_|_|j <;> simp at ha hb <;> subst ha <;> subst hb <;> simp) ?_
 refine sq ⟨[(17,.v (.slice none 0 0)),(7,.loc 7 0),(4,.loc 4 0)],[(7,.box 34 (.st [iA m,.sl 9 (LV.map encF),.v (.slice none 0 0)])),(4,zT)]⟩ ?_
 refine AW_mkrow 17 810 28 6 (by simp) (by simp) (by simp) (by omega) ?_
 refine AW_seqt ⟨[(17,.own 810 6 0 LV.length),(7,.loc 7 0),(4,.loc 4 0)],[(810,.arr 28 6 (lbA LV)),(7,.box 34 (.st [iA m,.sl 9 (LV.map encF),.v (.slice none 0 0)])),(4,zT)]⟩ ?_ (by
  intro K hK
  refine lpk (G:=Nat) (fun i=>⟨[(93,iA i),(92,iA LV.length),(91,.sl 9 (LV.map encF)),(17,.own 810 6 0 i),(7,.loc 7 0),(4,.loc 4 0)],[(810,.arr 28 6 (lbA (LV.take i))),(7,.box 34 (.st [iA m,.sl 9 (LV.map encF),.v (.slice none 0 0)])),(4,zT)]⟩) (fun i=>i ≤ LV.length) (fun i=>LV.length - i) 0 (Nat.zero_le _) ?_
  intro i hi K hK
  by_cases hlt : i < LV.length
  ·have hltI : (i : Int) < LV.length:=by omega
   have htk:=Hld.mk (lbA_take LV i hlt)
   have hNl : (lbA (LV.take i)).length = i:=by rw [lbA_len,List.length_take];omega
   obtain ⟨lf,hlf⟩ : ∃ f,LV[i] = f:=⟨_,rfl⟩
   have hlg : ∀ h : i < LV.length,LV[i] = lf:=fun _=>hlf
   have hNm : ∀ d,mentL d (lbA (LV.take i)) = false:=fun d=>lbA_ment d _
   obtain ⟨N,hN⟩ : ∃ N,lbA (LV.take i) = N:=⟨_,rfl⟩
   rw [hlf,hN] at htk
   rw [hN] at hNl hNm
   have hNt : N.take i = N:=List.take_of_length_le (by omega)
   have hNi : i ≤ N.length:=by omega
   refine AW_le (t:=⟨[(93,iA i),(92,iA LV.length),(91,.sl 9 (LV.map encF)),(17,.own 810 6 0 i),(7,.loc 7 0),(4,.loc 4 0)],[(810,.arr 28 6 N),(7,.box 34 (.st [iA m,.sl 9 (LV.map encF),.v (.slice none 0 0)])),(4,zT)]⟩) (by simp [hN]) ?_
   replace hN:=()
   replace hlf:=()
   replace hNl:=Hld.mk hNl
   refine sq ⟨[(94,bA true),(93,iA i),(92,iA LV.length),(91,.sl 9 (LV.map encF)),(17,.own 810 6 0 i),(7,.loc 7 0),(4,.loc 4 0)],[(810,.arr 28 6 N),(7,.box 34 (.st [iA m,.sl 9 (LV.map encF),.v (.slice none 0 0)])),(4,zT)]⟩ ?_
   refine sq ⟨[(93,iA i),(92,iA LV.length),(91,.sl 9 (LV.map encF)),(17,.own 810 6 0 i),(7,.loc 7 0),(4,.loc 4 0)],[(810,.arr 28 6 N),(7,.box 34 (.st [iA m,.sl 9 (LV.map encF),.v (.slice none 0 0)])),(4,zT)]⟩ ?_
   refine AW_seqt ⟨[(93,iA i),(92,iA LV.length),(91,.sl 9 (LV.map encF)),(17,.own 810 6 0 (i + 1)),(7,.loc 7 0),(4,.loc 4 0)],[(810,.arr 28 6 (N ++ [encX lf.b])),(7,.box 34 (.st [iA m,.sl 9 (LV.map encF),.v (.slice none 0 0)])),(4,zT)]⟩ ?_ (by
    intro K hK
    refine AW_block ?_
    refine sq ⟨[(19,.loc 19 0),(93,iA i),(92,iA LV.length),(91,.sl 9 (LV.map encF)),(17,.own 810 6 0 i),(7,.loc 7 0),(4,.loc 4 0)],(19,.box 52 (encF lf)) :: [(810,.arr 28 6 N),(7,.box 34 (.st [iA m,.sl 9 (LV.map encF),.v (.slice none 0 0)])),(4,zT)]⟩ ?_
    have z'1:=@encF.eq_1;have z'2:=@encX.eq_1;exact ga0)
   have z'1:=htk.out;exact gli
  ·have : i = LV.length:=by omega
   subst this
   exact ga0)
 have hBl : (lbA LV).take LV.length = lbA LV:=List.take_of_length_le (by simp)
 have hBe:=lbA_eq LV
 refine AW_freeze 810 (cb:=.arr 28 6 (lbA LV)) (t:=⟨[(17,.sl 6 (lbA LV)),(7,.loc 7 0),(4,.loc 4 0)],[(7,.box 34 (.st [iA m,.sl 9 (LV.map encF),.v (.slice none 0 0)])),(4,zT)]⟩) (by simp) (by simp [hBl]) (by simp) ?_
 rw [hBe]
 clear hBe hBl
 refine AW_mkrowC 7 801 67 1 34 2 (cs:=[iA m,.sl 9 (LV.map encF),.v (.slice none 0 0)]) (by simp) (by simp) (by simp) (by simp) (by omega) ?_
 refine AW_seqt ⟨[(7,.loc 7 0),(4,.loc 4 0)],[(7,.box 34 (.st [iA m,.sl 9 (LV.map encF),.own 801 1 0 W.length])),(801,.arr 67 1 (W.map ndL)),(4,zT)]⟩ ?_ (by
  intro K hK
  refine AW_block ?_
  refine AW_loopk (G:=Nat × List Bx × List (List Nd)) (fun g=>⟨[(17,bxL g.2.1),(7,.loc 7 0),(4,.loc 4 0)],[(7,.box 34 (.st [iA m,.sl 9 (LV.map encF),.own 801 1 0 g.2.2.length])),(801,.arr 67 1 (g.2.2.map ndL)),(4,zT)]⟩) (fun g=>Hld (g.2.2 ++ lvW g.1 g.2.1 = W) ∧ g.2.1.length ≤ g.1 ∧ g.1 + g.2.2.length ≤ LV.length) (fun g=>g.1) (LV.length,LV.map Lf.b,[]) ⟨⟨by simpa using hW.out⟩,by simp,by simp⟩ (by simp) ?_
  rintro ⟨f,bs,LS⟩ ⟨hw,hf1,hf2⟩ K hK
  replace hw : Hld (LS ++ lvW f bs = W):=hw
  replace hf1 : bs.length ≤ f:=hf1
  replace hf2 : f + LS.length ≤ LV.length:=hf2
  by_cases hb0 : bs.length = 0
  ·have hWe : LS = W:=by
    have:=hw.out
    rcases f with _|f
    ·simpa [lvW] using this
    ·simpa [lvW,hb0] using this
   have hb1 : bs = []:=List.length_eq_zero_iff.1 hb0
   subst hb1
   subst hWe
   exact ga0
  ·obtain ⟨f',rfl⟩ : ∃ f',f = f' + 1:=⟨f - 1,by omega⟩
   have hbpI : (0 : Int) < bs.length:=by omega
   have hwv : lvW (f' + 1) bs = nds bs :: (if (nds bs).length = 1 then [] else lvW f' ((nds bs).map Nd.b)):=by rw [lvW,if_neg hb0]
   rw [hwv] at hw
   have hnl : (nds bs).length = cnt 4 bs.length:=by unfold nds;rw [ndsF_len]
   have hch:=Hld.mk (s_chunkX bs 4 (by omega))
   refine AW_le (t:=⟨[(17,bxL bs),(7,.loc 7 0),(4,.loc 4 0)],[(7,.box 34 (.st [iA m,.sl 9 (LV.map encF),.own 801 1 0 LS.length])),(801,.arr 67 1 (LS.map ndL)),(4,zT)]⟩) (by simp) ?_
   refine sq ⟨[(17,bxL bs),(7,.loc 7 0),(4,.loc 4 0)],[(7,.box 34 (.st [iA m,.sl 9 (LV.map encF),.own 801 1 0 LS.length])),(801,.arr 67 1 (LS.map ndL)),(4,zT)]⟩ ?_
   refine AW_block ?_
   refine sq ⟨[(20,.loc 20 0),(17,bxL bs),(7,.loc 7 0),(4,.loc 4 0)],[(20,.box 67 (.v (.slice none 0 0))),(7,.box 34 (.st [iA m,.sl 9 (LV.map encF),.own 801 1 0 LS.length])),(801,.arr 67 1 (LS.map ndL)),(4,zT)]⟩ ?_
   refine sq ⟨[(21,.loc 21 0),(20,.loc 20 0),(17,bxL bs),(7,.loc 7 0),(4,.loc 4 0)],[(21,.box 106 (.v (.slice none 0 0))),(20,.box 67 (.v (.slice none 0 0))),(7,.box 34 (.st [iA m,.sl 9 (LV.map encF),.own 801 1 0 LS.length])),(801,.arr 67 1 (LS.map ndL)),(4,zT)]⟩ ?_
   refine sq ⟨[(22,.loc 22 0),(21,.loc 21 0),(20,.loc 20 0),(17,bxL bs),(7,.loc 7 0),(4,.loc 4 0)],[(22,.box 3 (iA 0)),(21,.box 106 (.v (.slice none 0 0))),(20,.box 67 (.v (.slice none 0 0))),(7,.box 34 (.st [iA m,.sl 9 (LV.map encF),.own 801 1 0 LS.length])),(801,.arr 67 1 (LS.map ndL)),(4,zT)]⟩ ?_
   refine AW_mkrowB 20 802 66 8 67 (by simp) (by simp) (by simp) (by omega) ?_
   refine AW_mkrowB 21 803 28 6 106 (by simp) (by simp) (by simp) (by omega) ?_
   obtain ⟨n,hn⟩ : ∃ n,nds bs = n:=⟨_,rfl⟩
   rw [hn] at hw hnl
   have hcle : 2 ≤ bs.length → n.length + 1 ≤ bs.length:=fun h=>by rw [hnl];unfold cnt;omega
   have hc1 : bs.length = 1 → n.length = 1:=fun h=>by rw [hnl,h];rfl
   refine AW_seqt ⟨[(20,.loc 20 0),(21,.loc 21 0),(7,.loc 7 0),(4,.loc 4 0)],[(4,zT),(20,.box 67 (.own 802 8 0 n.length)),(802,rwN n),(21,.box 106 (.own 803 6 0 n.length)),(803,rwB n),(7,.box 34 (.st [iA m,.sl 9 (LV.map encF),.own 801 1 0 LS.length])),(801,.arr 67 1 (LS.map ndL))]⟩ ?_ (by
    intro K hK
    refine AW_seqt ⟨[(107,.fn (.func 98) [] [.ep (bxL bs),.ep (iA 4)]),(20,.loc 20 0),(21,.loc 21 0),(22,.loc 22 0),(7,.loc 7 0),(4,.loc 4 0)],[(4,zT),(20,.box 67 (.own 802 8 0 0)),(802,rwN []),(21,.box 106 (.own 803 6 0 0)),(803,rwB []),(22,.box 3 (iA 0)),(7,.box 34 (.st [iA m,.sl 9 (LV.map encF),.own 801 1 0 LS.length])),(801,.arr 67 1 (LS.map ndL))]⟩ ?_ (by
     intro K hK
     have k'1:=hch;exact ga1)
    refine bld_lvl hE hRO.out (by omega) fun s' hs'=>?_
    rw [hn] at hs'
    exact hK.h s' hs')
   have hNt : (n.map encN).take n.length = n.map encN:=List.take_of_length_le (by simp)
   have hBt : (nbA n).take n.length = nbA n:=List.take_of_length_le (by simp)
   refine AW_freezeD 802 (cb:=rwN n) (t:=⟨[(20,.loc 20 0),(21,.loc 21 0),(7,.loc 7 0),(4,.loc 4 0)],[(4,zT),(20,.box 67 (ndL n)),(21,.box 106 (.own 803 6 0 n.length)),(803,rwB n),(7,.box 34 (.st [iA m,.sl 9 (LV.map encF),.own 801 1 0 LS.length])),(801,.arr 67 1 (LS.map ndL))]⟩) (by simp) (by simp) (by
    simp
    refine ⟨?_,?_,?_,?_⟩ <;> (intro j a b ha hb;rcases j with _|_|_|j <;> simp at ha hb <;> subst ha <;> subst hb <;> simp [hNt,hBt])) ?_
   refine AW_freezeD 803 (cb:=rwB n) (t:=⟨[(20,.loc 20 0),(21,.loc 21 0),(7,.loc 7 0),(4,.loc 4 0)],[(4,zT),(20,.box 67 (ndL n)),(21,.box 106 (.sl 6 (nbA n))),(7,.box 34 (.st [iA m,.sl 9 (LV.map encF),.own 801 1 0 LS.length])),(801,.arr 67 1 (LS.map ndL))]⟩) (by simp) (by simp) (by
    simp
    refine ⟨?_,?_,?_,?_⟩ <;> (intro j a b ha hb;rcases j with _|_|_|j <;> simp at ha hb <;> subst ha <;> subst hb <;> simp [hNt,hBt])) ?_
   obtain ⟨LZ,hLZ⟩ : ∃ LZ,LS.map ndL = LZ:=⟨_,rfl⟩
   have p1 : ∀ d,mentL d LZ = false:=fun d=>by rw [← hLZ];simp
   have p2 : LZ.length = LS.length:=by rw [← hLZ];simp
   have p3 : LZ.take LS.length = LZ:=List.take_of_length_le (by omega)
   obtain ⟨NB,hNB⟩ : ∃ NB,nbA n = NB:=⟨_,rfl⟩
   have q1 : ∀ d,mentL d NB = false:=fun d=>by rw [← hNB];simp
   have q2 : idfL NB = true:=by rw [← hNB];simp
   rw [hLZ,hNB]
   obtain ⟨kk,hkk⟩ : ∃ kk,LS.length = kk:=⟨_,rfl⟩
   rw [hkk] at p2 p3 hf2 ⊢
   have p4 : kk ≤ LZ.length:=by omega
   replace hLZ:=Hld.mk hLZ
   replace hNB:=Hld.mk hNB
   replace hkk:=Hld.mk hkk
   replace p2:=Hld.mk p2
   clear hNt hBt
   have p5 : kk ≤ 20000:=by omega
   refine AW_seqt ⟨[(20,.loc 20 0),(17,.sl 6 NB),(7,.loc 7 0),(4,.loc 4 0)],[(20,.box 67 (ndL n)),(7,.box 34 (.st [iA m,.sl 9 (LV.map encF),.own 801 1 0 (kk + 1)])),(801,.arr 67 1 (LZ ++ [ndL n])),(4,zT)]⟩ ?_ (by
    intro K hK
    clear hw hwv hnl hn hcle hc1 hb0 hbpI hf1
    refine AW_drawF (fun f=>⟨[(127,if f 0 then .loc 7 2 else .u),(128,if f 1 && !f 4 then .own 801 1 0 kk else .u),(129,if f 2 then ndL n else .u),(130,if f 3 then .own 130 1 0 1 else .u),(131,if f 4 then .own 801 1 0 (kk + 1) else .u),(132,if f 5 then .sl 6 NB else .u),(133,if f 6 then .loc 7 2 else .u),(17,if f 8 then .sl 6 NB else .u),(20,.loc 20 0),(21,.loc 21 0),(7,.loc 7 0),(4,.loc 4 0)],
     (if f 3 then [(130,.arr 67 1 [ndL n])] else []) ++ [(7,.box 34 (.st [iA m,.sl 9 (LV.map encF),if f 4 then (if f 7 then .own 801 1 0 (kk + 1) else .w) else .own 801 1 0 kk])),(801,.arr 67 1 (if f 4 then LZ ++ [ndL n] else LZ)),(20,.box 67 (ndL n)),(21,.box 106 (.sl 6 NB)),(4,zT)]⟩) mixed (by rw [hE];decide) (by decide +kernel) (by decide +kernel) (by simp) ?_ ?_
    ·intro f i o hi hdep hnot hcl K2 hK2
     have w4_3 : f 4 = true → f 3 = true:=gw
     have w4_1 : f 4 = true → f 1 = true:=gw
     have w7_4 : f 7 = true → f 4 = true:=gw
     have w8_5 : f 8 = true → f 5 = true:=gw
     clear hcl
     iterate 9 (rcases i with _|i;rotate_left)
     ·simp at hi
     all_goals (simp only [List.getElem?_cons_succ,List.getElem?_cons_zero,Option.some.injEq] at hi;subst hi)
     all_goals simp [Region.binds] at hdep
     all_goals (rcases a3 : f 3 <;> rcases a4 : f 4)
     all_goals try (exfalso;revert hdep hnot w4_3 w4_1 w7_4 w8_5;simp [a3,a4];done)
     all_goals (try simp [a3,a4,hnot] at w4_3)
     all_goals (try simp [a3,a4,hnot] at w4_1)
     all_goals (try simp [a3,a4,hnot] at w7_4)
     all_goals (try simp [a3,a4,hnot] at w8_5)
     all_goals (have z'1:=@mentL_append;exact gd0)
    ·intro f hf
     have e7:=hf 7 (by simp)
     have e8:=hf 8 (by simp)
     have e3:=hf 3 (by simp)
     have e4:=hf 4 (by simp)
     refine hK.h _ ?_
     simp [e7,e8,e3,e4,mentL_append]
    all_goals simp)
   by_cases hn1 : n.length = 1
   ·have hWe : W = LS ++ [n]:=by have:=hw.out;rw [if_pos hn1] at this;exact this.symm
    subst hWe
    repeat' (first
     |(with_reducible first|refine uK ?_|refine uX ?_|refine jq fun K hK=>?_|refine jb ?_)|((with_reducible first|refine rS hE ?_|refine jn ?_|refine js fun K' hK'=>?_|refine ji fun X Y hX hY=>?_|refine jr ?_|refine jk ?_|refine jx ?_);simp [*])|with_reducible refine rL hE ?_|with_reducible refine And.intro ?_ ?_|omega|(refine imp1 fun h=>?_))
    simp [hkk.out,← hLZ.out]
   ·have hWe : Hld ((LS ++ [n]) ++ lvW f' (n.map Nd.b) = W):=⟨by have:=hw.out;rw [if_neg hn1] at this;rw [List.append_assoc];exact this⟩
    have hn1I : ¬ (n.length : Int) = 1:=by omega
    repeat' (first
     |(with_reducible first|refine uK ?_|refine uX ?_|refine jq fun K hK=>?_|refine jb ?_)|((with_reducible first|refine rS hE ?_|refine jn ?_|refine js fun K' hK'=>?_|refine ji fun X Y hX hY=>?_|refine jr ?_|refine jk ?_|refine jx ?_);simp [*])|with_reducible refine rL hE ?_|with_reducible refine And.intro ?_ ?_|omega|(refine imp1 fun h=>?_))
    refine ⟨(f',n.map Nd.b,LS ++ [n]),⟨hWe,by simp;omega,by simp [hkk.out];omega⟩,by simp,?_⟩
    have e : .sl 6 NB = bxL (n.map Nd.b):=by rw [← hNB.out,nbA_eq]
    rw [e]
    simp [hkk.out,← hLZ.out])
 have hWt : (W.map ndL).take W.length = W.map ndL:=List.take_of_length_le (by simp)
 refine AW_freezeD 801 (cb:=.arr 67 1 (W.map ndL)) (t:=⟨[(7,.loc 7 0),(4,.loc 4 0)],[(7,.box 34 (.st [iA m,.sl 9 (LV.map encF),.sl 1 (W.map ndL)])),(4,zT)]⟩) (by simp) (by simp) (by
  simp
  refine ⟨?_,?_⟩ <;> (intro j a b ha hb;rcases j with _|_|_|j <;> simp at ha hb <;> subst ha <;> subst hb <;> simp [hWt])) ?_
 have z'1:=@encT.eq_1;exact ga0
theorem s_bxok {u : Un} (h : OkU u) (k : bokU u) : BxOK u (boxU u):=by
 have:=s_bbox h
 unfold boxR at this
 rw [if_pos k] at this
 exact this
def bdB (n d : Nat) (q : Rat) : Bool:=decide (q.num.natAbs ≤ n) && decide (q.den ≤ d)
theorem bd_of {n d : Nat} {q : Rat} (h : bdB n d q = true) : Bd n d q:=by
 simp [bdB] at h
 exact ⟨h.1,h.2⟩
def okUB (u : Un) : Bool:=bdB 512 4 u.f && bdB 512 4 u.t && bdB 35184372088832 8 u.x0 && bdB 1024 8 u.x1 && bdB 35184372088832 8 u.y0 && bdB 1024 8 u.y1
theorem okU_of {u : Un} (h : okUB u = true) : OkU u:=by
 simp [okUB] at h
 obtain ⟨⟨⟨⟨⟨h1,h2⟩,h3⟩,h4⟩,h5⟩,h6⟩:=h
 exact ⟨⟨bd_of h1⟩,⟨bd_of h2⟩,⟨bd_of h3,bd_of h4,bd_of h5,bd_of h6⟩⟩
def nrmB (l : List Un) : Bool:=decide (l.length ≤ 256) && l.all okUB && l.all (fun u=>okIv u.i) && decide (l.Pairwise (fun a b=>a.f < b.f)) && (List.range (l.length - 1)).all (fun i=>aptU (l.getD i ⟨0,0,false,false,0,0,0,0⟩).i (l.getD (i + 1) ⟨0,0,false,false,0,0,0,0⟩).i) && decide (nrmA (atms l) = l)
theorem nrm_of {l : List Un} (h : nrmB l = true) : NrmU l:=by
 simp only [nrmB,Bool.and_eq_true,decide_eq_true_eq,List.all_eq_true] at h
 obtain ⟨⟨⟨⟨⟨h1,h2⟩,h3⟩,h4⟩,h5⟩,h6⟩:=h
 refine ⟨h1,fun u hu=>okU_of (h2 u hu),h3,h4,fun i hi=>?_,h6⟩
 have:=h5 i (List.mem_range.2 (by omega))
 simpa [List.getD,List.getElem?_eq_getElem hi,List.getElem?_eq_getElem (show i < l.length by omega)] using this
theorem sta5_nrm : nrmB (staU 5) = true:=by decide +kernel
theorem sta5_box : (staU 5).all (fun u=>decide (bokU u)) = true:=by decide +kernel
noncomputable def kT : Tr:=bldT boxU 2 [⟨3,staU 5⟩]
abbrev kB : Bx:=⟨31,39,0,1,3,3⟩
theorem kT_lv : kT.lv.length = 3:=by unfold kT;decide +kernel
theorem kT_ns : ∃ nd,kT.ns = [[nd]] ∧ nd.count = 3 ∧ nd.first = 0:=by
 have h : (bldT boxU 2 [⟨3,staU 5⟩]).ns = [[⟨0,3,⟨0,50,0,1,0,5⟩⟩]]:=by decide +kernel
 exact ⟨_,h,rfl,rfl⟩
theorem kT_src : srcF kT boxU kB = ([⟨3,3⟩],4):=by unfold kT;decide +kernel
theorem kT_lvs : kT.lv.all (fun f=>decide (f.us.length ≤ 100000) && decide (0 ≤ f.first ∧ f.first ≤ 1000000) && f.us.all (fun u=>okUB u && decide (bokU u))) = true:=by unfold kT;decide +kernel
theorem kT_val : ValT kT boxU kT.ns.length 0:=by
 obtain ⟨nd,hn,hc,hf⟩:=kT_ns
 have hl : kT.ns.length = 1:=by rw [hn];rfl
 rw [hl]
 refine ⟨[nd],nd,by rw [hn];rfl,rfl,by omega,fun j hj=>?_⟩
 rw [hc] at hj
 have h3 : (3 : Int).toNat = 3:=rfl
 rw [h3] at hj
 have hjl : j < kT.lv.length:=by rw [kT_lv];exact hj
 have hf0 : nd.first.toNat + j = j:=by rw [hf];simp
 rw [hf0]
 have h:=List.all_eq_true.1 kT_lvs kT.lv[j] (List.getElem_mem hjl)
 simp only [Bool.and_eq_true,decide_eq_true_eq,List.all_eq_true] at h
 obtain ⟨⟨h1,h2⟩,h3⟩:=h
 exact ⟨kT.lv[j],List.getElem?_eq_getElem hjl,h1,h2,fun u hu=>s_bxok (okU_of (h3 u hu).1) (h3 u hu).2⟩
theorem sta5_ok : OkO ⟨3,staU 5⟩ boxU:=by
 have hn:=nrm_of sta5_nrm
 refine ⟨(show (1 : Int) ≤ 3 by decide),(show (3 : Int) ≤ 1073741824 by decide),hn,fun u hu=>?_⟩
 have:=List.all_eq_true.1 sta5_box u hu
 exact s_bxok (hn.ok u hu) (of_decide_eq_true this)
set_option maxHeartbeats 4000000 in
theorem s_known : PSpec Tryz.prog 12 [] (bA true):=by
 have h1:=s_stairs (n:=5) (by decide) (by decide)
 have h2:=s_build (l:=[⟨3,staU 5⟩]) (B:=boxU) (m:=2) (by decide) (fun o ho=>by rw [List.mem_singleton.1 ho];exact sta5_ok) (by simp) (by decide) (by decide)
 have hns : kT.ns.length ≤ 1000000:=by obtain ⟨nd,hn,_⟩:=kT_ns;rw [hn];simp
 have h3:=s_search (t:=kT) (B:=boxU) (b:=kB) (by decide) hns (fun _=>kT_val) (by rw [kT_src];decide) (by rw [kT_src];decide)
 rw [kT_src] at h3
 obtain ⟨nd,hn,hc,hf⟩:=kT_ns
 have hlv:=kT_lv
 have hkT : bldT boxU 2 [⟨3,staU 5⟩] = kT:=rfl
 rw [hkT] at h2
 obtain ⟨T,hT⟩ : ∃ T,kT = T:=⟨_,rfl⟩
 obtain ⟨U,hU⟩ : ∃ U,staU 5 = U:=⟨_,rfl⟩
 rw [hT] at h2 h3 hn hlv
 rw [hU] at h1 h2
 replace h1 : Hld (PSpec Tryz.prog 46 [iA 5] (unL U)):=⟨h1⟩
 replace h2 : Hld (PSpec Tryz.prog 33 [.sl 2 [.st [iA 3,unL U]],iA 2] (.tup [encT T,iA 0])):=⟨h2⟩
 replace h3 : Hld (PSpec Tryz.prog 17 [encT T,.st [iA 31,iA 39,iA 0,iA 1,iA 3,iA 3]] (.tup [.sl 2 [.st [iA 3,iA 3]],iA 4])):=⟨h3⟩
 have hlvI : (T.lv.length : Int) = 3:=by omega
 clear hT hU hkT hns hlv
 refine pS Tryz.func12 ?_
 intro E hE
 refine sq ⟨[],[]⟩ ?_
 refine AW_seqt ⟨[(1,.loc 1 0),(2,iA 0)],[(1,.box 34 (encT T))]⟩ ?_ (by
  intro K hK
  repeat' (first
   |(with_reducible first|refine uK ?_|refine uX ?_|refine jq fun K hK=>?_|refine jb ?_)|((with_reducible first|refine rS hE ?_|refine jn ?_|refine js fun K' hK'=>?_|refine ji fun X Y hX hY=>?_|refine jr ?_|refine jk ?_|refine jx ?_);simp [*])|with_reducible refine rL hE ?_|(refine jC (h1.out) ?_ ?_ ?_;(iterate 2 focus (simp [*] <;> fail));simp [*])|with_reducible refine And.intro ?_ ?_|omega|(refine imp1 fun h=>?_))
  refine ACall_freezeD 8 (cb:=.arr 76 2 [.st [iA 3,unL U]]) (args':=[.sl 2 [.st [iA 3,unL U]],iA 2]) (t:=⟨[(8,.sl 2 [.st [iA 3,unL U]])],[]⟩) (by simp) (by simp) (by simp) (by simp [fr2]) ?_
  refine acall_same h2.out (by simp) (by simp) ?_
  simp
  exact ga0)
 refine AW_freeze 1 (cb:=.box 34 (encT T)) (t:=⟨[(1,.ep (encT T)),(2,iA 0)],[]⟩) (by simp) (by simp) (by simp) ?_
 refine AW_seqt ⟨[(3,.sl 2 [.st [iA 3,iA 3]]),(4,iA 4),(1,.ep (encT T)),(2,iA 0)],[]⟩ ?_ (by
  intro K hK
  have k'1:=h3;exact ga1)
 repeat' (first
  |(with_reducible first|refine uK ?_|refine uX ?_|refine jq fun K hK=>?_|refine jb ?_)|((with_reducible first|refine rS hE ?_|refine jn ?_|refine js fun K' hK'=>?_|refine ji fun X Y hX hY=>?_|refine jr ?_|refine jk ?_|refine jx ?_);simp [*,encT,hn,hlvI,ndL,encN,hc])|with_reducible refine rL hE ?_|with_reducible refine And.intro ?_ ?_|omega|(refine imp1 fun h=>?_))
end Go.Proofs.YtfkgaphfdpflmaaGreatDoor
section
namespace Go.Proofs.YtfkgaphfdpflmaaGreatDoor
open Go.Am Go.RowKit Go.ChangeShapes Go.WideShapes Go.ChangeAt
def laid3 : List (String × DataW Unit):=[("unicode/utf8.acceptRanges",Rows.laid_unicode_utf8_acceptRanges),("unicode/utf8.first",Rows.laid_unicode_utf8_first)]
theorem ownK : ownKnob Tryz.prog.godebug = none:=by kernel_rfl
theorem laidK : laidOutB Tryz.prog = true:=by kernel_rfl
def firstC : Array Value:=(Go.Pinned.utf8FirstZ.map fun (n : Nat)=>Value.int .u8 (n : Int)).toArray
noncomputable def doorP (os : Os) : World :=
 { World.doorLaid Tryz.prog 400 os with heap:=match (World.doorLaid Tryz.prog 400 os).heap.toList with
   |a :: .cells _ e fr :: l=>(a :: .cells firstC e fr :: l).toArray
   |l=>l.toArray }
theorem door_met (os : Os) (args : Array Value) : laidMetH Tryz.prog laid3 ((doorP os).forCall (fun _ _=>0) ⟨#[],args,[]⟩).memory :=
 laidMetH_of_parts3 (fuel:=8) (laidMet_of_run' 8 (by kernel_rfl) (by kernel_rfl)) (by kernel_rfl) (by kernel_rfl)
end Go.Proofs.YtfkgaphfdpflmaaGreatDoor
end
