/- movingpoint -/
import Derived.Test.YtfkgaphfdpflmaaGreatDoorZA
import Derived.Test.YtfkgaphfdpflmaaGreatDoorZ6
import Derived.Test.YtfkgaphfdpflmaaGreatDoorZ5
import Derived.Test.YtfkgaphfdpflmaaGreatDoorZ7
import Derived.Test.YtfkgaphfdpflmaaGreatDoorZB
set_option maxRecDepth 100000
set_option linter.unusedSimpArgs false
set_option linter.unusedVariables false
namespace Go.Proofs.YtfkgaphfdpflmaaGreatDoor
open Go.Am
structure OkS (s : Sm) : Prop where
 t : Bd 512 1 s.t
 x : Bd 512 1 s.x
 y : Bd 512 1 s.y
abbrev saL (l : List Sm) : AV:=.sl 12 (l.map encS)
abbrev zS : AV:=.st [bA false,eA,bA false,eA,bA false,eA,bA false,eA,bA false,eA,bA false,eA]
abbrev zV : AV:=.st [bA false,eA,bA false,eA,bA false,eA,bA false,eA,bA false,bA false,eA,bA false,eA,bA false,eA,bA false,eA,bA false,bA false,bA false]
def thr (a b : Sm) : Ln:=⟨a.x - (b.x - a.x) / (b.t - a.t) * a.t,(b.x - a.x) / (b.t - a.t),a.y - (b.y - a.y) / (b.t - a.t) * a.t,(b.y - a.y) / (b.t - a.t)⟩
def sgU (fo : Bool) (a b : Sm) : Un:=⟨a.t,b.t,fo,false,(thr a b).x0,(thr a b).x1,(thr a b).y0,(thr a b).y1⟩
def sgF (l : List Sm) (i : Nat) : List Un:=(List.range i).map fun j=>sgU (decide (0 < j)) (l.getD j ⟨0,0,0⟩) (l.getD (j + 1) ⟨0,0,0⟩)
theorem sgF_len (l : List Sm) (i : Nat) : (sgF l i).length = i:=by simp [sgF]
theorem sgF_succ (l : List Sm) (i : Nat) : sgF l (i + 1) = sgF l i ++ [sgU (decide (0 < i)) (l.getD i ⟨0,0,0⟩) (l.getD (i + 1) ⟨0,0,0⟩)]:=by simp [sgF,List.range_succ]
theorem sgF_get (l : List Sm) (n i : Nat) (h : i < (sgF l n).length) : (sgF l n)[i] = sgU (decide (0 < i)) (l.getD i ⟨0,0,0⟩) (l.getD (i + 1) ⟨0,0,0⟩):=by simp [sgF]
theorem sub_ne {a b : Rat} (h : a < b) : b - a ≠ 0:=fun e=>by
 have h2 : b - a + a = b:=by rw [Rat.sub_eq_add_neg,Rat.add_assoc,Rat.neg_add_cancel,Rat.add_zero]
 rw [e,Rat.zero_add] at h2
 rw [h2] at h
 exact Rat.lt_irrefl h
theorem s_thrx {a b : Sm} (ha : OkS a) (hb : OkS b) (h : a.t < b.t) : PSpec Tryz.prog 139 [encQ a.t,encQ a.x,encQ b.t,encQ b.x] (.tup [encD ⟨(thr a b).x0,(thr a b).x1,0⟩,iA 0]) :=
 s_between ha.t ha.x hb.t hb.x (sub_ne h) _ _ (hb.t.sub ha.t) (by decide) (by decide) (by decide) (by decide) (by decide) (by decide) (by decide) (by decide) (by decide) (by decide) (by decide) (by decide)
theorem s_thry {a b : Sm} (ha : OkS a) (hb : OkS b) (h : a.t < b.t) : PSpec Tryz.prog 139 [encQ a.t,encQ a.y,encQ b.t,encQ b.y] (.tup [encD ⟨(thr a b).y0,(thr a b).y1,0⟩,iA 0]) :=
 s_between ha.t ha.y hb.t hb.y (sub_ne h) _ _ (hb.t.sub ha.t) (by decide) (by decide) (by decide) (by decide) (by decide) (by decide) (by decide) (by decide) (by decide) (by decide) (by decide) (by decide)
theorem sg_inc {l : List Sm} (hi : l.Pairwise (fun a b=>a.t < b.t)) {n : Nat} (hn : n < l.length) : (sgF l n).Pairwise (fun a b=>a.f < b.f):=by
 rw [List.pairwise_iff_getElem]
 intro i j h1 h2 hij
 rw [sgF_len] at h1 h2
 rw [sgF_get,sgF_get]
 have a1 : l.getD i ⟨0,0,0⟩ = l[i]:=by simp [List.getD,List.getElem?_eq_getElem (show i < l.length by omega)]
 have a2 : l.getD j ⟨0,0,0⟩ = l[j]:=by simp [List.getD,List.getElem?_eq_getElem (show j < l.length by omega)]
 show (l.getD i ⟨0,0,0⟩).t < (l.getD j ⟨0,0,0⟩).t
 rw [a1,a2]
 exact List.pairwise_iff_getElem.1 hi i j (by omega) (by omega) hij
theorem sg_apt (l : List Sm) (n i : Nat) (h : i + 1 < (sgF l n).length) : aptU (sgF l n)[i].i (sgF l n)[i + 1].i = true:=by
 rw [sgF_get,sgF_get]
 simp [aptU,sgU,Un.i]
set_option maxHeartbeats 8000000 in
theorem s_fromS {l : List Sm} (h2 : 2 ≤ l.length) (hl : l.length ≤ 256) (hO : ∀ s ∈ l,OkS s) (hi : l.Pairwise (fun a b=>a.t < b.t)) (hU : ∀ u ∈ sgF l (l.length - 1),OkU u) :
 PSpec Tryz.prog 95 [saL l] (.tup [unL (nrmA (atms (sgF l (l.length - 1)))),iA 0]):=by
 have hN:=Hld.mk (s_mpNormal (sgF l (l.length - 1)) (by rw [sgF_len];omega) hU (sg_inc hi (by omega)) (sg_apt l _))
 obtain ⟨A,hA⟩ : ∃ A,nrmA (atms (sgF l (l.length - 1))) = A:=⟨_,rfl⟩
 rw [hA] at hN ⊢
 clear hA hU
 have hck : Hld (∀ s ∈ l,OkS s):=⟨hO⟩
 have hlt2 : Hld (∀ i (h : i + 1 < l.length),l[i].t < l[i + 1].t):=⟨fun i h=>List.pairwise_iff_getElem.1 hi i (i + 1) (by omega) h (by omega)⟩
 obtain ⟨F,hF⟩ : ∃ F,sgF l = F:=⟨_,rfl⟩
 have hF0 : F 0 = []:=by rw [← hF];rfl
 have hFl : ∀ i,(F i).length = i:=by rw [← hF];exact sgF_len l
 have hFs : Hld (∀ i,F (i + 1) = F i ++ [sgU (decide (0 < i)) (l.getD i ⟨0,0,0⟩) (l.getD (i + 1) ⟨0,0,0⟩)]):=⟨by rw [← hF];exact sgF_succ l⟩
 rw [hF] at hN
 clear hF hO hi
 refine pS Tryz.func95 ?_
 intro E hE
 refine sq ⟨[(0,saL l)],[]⟩ ?_
 refine sq ⟨[(0,saL l)],[]⟩ ?_
 refine AW_seqt ⟨[(0,saL l)],[]⟩ ?_ (by
  intro K hK
  refine lpk (G:=Nat) (fun i=>⟨[(22,iA i),(21,iA l.length),(20,saL l),(0,saL l)],[]⟩) (fun i=>i ≤ l.length) (fun i=>l.length - i) 0 (Nat.zero_le _) ?_
  intro i hi K hK
  by_cases hlt : i < l.length
  ·have hltI : (i : Int) < l.length:=by omega
   have hs:=hck.out l[i] (List.getElem_mem hlt)
   obtain ⟨s,hse⟩ : ∃ s,l[i] = s:=⟨_,rfl⟩
   rw [hse] at hs
   have c1:=Hld.mk (s_checkQ hs.t (by decide))
   have c2:=Hld.mk (s_checkQ hs.x (by decide))
   have c3:=Hld.mk (s_checkQ hs.y (by decide))
   clear hs
   refine sq ⟨[(23,bA true),(22,iA i),(21,iA l.length),(20,saL l),(0,saL l)],[]⟩ ?_
   refine sq ⟨[(22,iA i),(21,iA l.length),(20,saL l),(0,saL l)],[]⟩ ?_
   refine AW_seqt ⟨[(22,iA i),(21,iA l.length),(20,saL l),(0,saL l)],[]⟩ ?_ (by
    intro K hK
    refine AW_block ?_
    refine sq ⟨[(5,.loc 5 0),(22,iA i),(21,iA l.length),(20,saL l),(0,saL l)],[(5,.box 169 (encS s))]⟩ ?_
    repeat' (first
     |(with_reducible first|refine uK ?_|refine uQ ?_|refine uX ?_|refine jq fun K hK=>?_|refine jb ?_)|(with_reducible refine rS hE ?_;simp [*,encQ,encS])|with_reducible refine rL hE ?_|(((with_reducible show RK _ _ _ _ _ _);first|refine jn ?_|refine js fun K' hK'=>?_);simp [*,encQ,encS])|with_reducible refine rD mixed hE ?_|((with_reducible show RKQ _ _ _ _ _ _);first|refine RKQ_nilk ⟨by decide,?_⟩|(refine jv fun K' hK'=>?_;simp [*,encQ,encS]))|((with_reducible first|refine ji fun X Y hX hY=>?_|refine jr ?_|refine jk ?_|refine jx ?_);simp [*,encQ,encS])|((first|refine jC (c1.out) ?_ ?_ ?_|refine jQ (c1.out) ?_ ?_ ?_);(iterate 2 focus (simp [*,encQ,encS] <;> fail));simp [*,encQ,encS])|((first|refine jC (c2.out) ?_ ?_ ?_|refine jQ (c2.out) ?_ ?_ ?_);(iterate 2 focus (simp [*,encQ,encS] <;> fail));simp [*,encQ,encS])|((first|refine jC (c3.out) ?_ ?_ ?_|refine jQ (c3.out) ?_ ?_ ?_);(iterate 2 focus (simp [*,encQ,encS] <;> fail));simp [*,encQ,encS])|with_reducible refine And.intro ?_ ?_|omega|(refine imp1 fun h=>?_))
    all_goals simp)
   exact gli
  ·have : i = l.length:=by omega
   subst this
   exact ga0)
 refine AW_seqt ⟨[(0,saL l)],[]⟩ ?_ (by
  intro K hK
  refine lpk (G:=Nat) (fun i=>⟨[(47,iA i),(46,iA l.length),(45,saL l),(0,saL l)],[]⟩) (fun i=>i ≤ l.length) (fun i=>l.length - i) 0 (Nat.zero_le _) ?_
  intro i hi K hK
  by_cases hlt : i < l.length
  ·have hltI : (i : Int) < l.length:=by omega
   refine sq ⟨[(48,bA true),(47,iA i),(46,iA l.length),(45,saL l),(0,saL l)],[]⟩ ?_
   refine sq ⟨[(47,iA i),(46,iA l.length),(45,saL l),(0,saL l)],[]⟩ ?_
   refine AW_seqt ⟨[(47,iA i),(46,iA l.length),(45,saL l),(0,saL l)],[]⟩ ?_ (by
    intro K hK
    refine AW_block ?_
    refine sq ⟨[(6,iA i),(47,iA i),(46,iA l.length),(45,saL l),(0,saL l)],[]⟩ ?_
    rcases i with _|j
    ·repeat' (first
      |(with_reducible first|refine uK ?_|refine uQ ?_|refine uX ?_|refine jq fun K hK=>?_|refine jb ?_)|(with_reducible refine rS hE ?_;simp [*])|with_reducible refine rL hE ?_|(((with_reducible show RK _ _ _ _ _ _);first|refine jn ?_|refine js fun K' hK'=>?_);simp [*])|with_reducible refine rD mixed hE ?_|((with_reducible show RKQ _ _ _ _ _ _);first|refine RKQ_nilk ⟨by decide,?_⟩|(refine jv fun K' hK'=>?_;simp [*]))|((with_reducible first|refine ji fun X Y hX hY=>?_|refine jr ?_|refine jk ?_|refine jx ?_);simp [*])|with_reducible refine And.intro ?_ ?_|omega|(refine imp1 fun h=>?_))
     all_goals simp
    ·have hj:=hlt2.out j hlt
     have c0:=s_cmpQ (hck.out l[j + 1] (List.getElem_mem hlt)).t (hck.out l[j] (List.getElem_mem (by omega))).t (by decide) (by decide) (by decide) (by decide)
     have e1 : cmpQ l[j + 1].t l[j].t = 1:=by unfold cmpQ;rw [if_neg (Rat.not_lt.2 (Rat.le_of_lt hj)),if_pos hj]
     rw [e1] at c0
     obtain ⟨a,hae⟩ : ∃ s,l[j] = s:=⟨_,rfl⟩
     obtain ⟨b,hbe⟩ : ∃ s,l[j + 1] = s:=⟨_,rfl⟩
     rw [hae,hbe] at c0
     have hq:=Hld.mk c0
     have hyq : l[j]? = some a:=by rw [List.getElem?_eq_getElem (by omega),hae]
     clear c0 e1 hj
     repeat' (first
      |(with_reducible first|refine uK ?_|refine uQ ?_|refine uX ?_|refine jq fun K hK=>?_|refine jb ?_)|(with_reducible refine rS hE ?_;simp [*,encQ,encS])|with_reducible refine rL hE ?_|(((with_reducible show RK _ _ _ _ _ _);first|refine jn ?_|refine js fun K' hK'=>?_);simp [*,encQ,encS])|with_reducible refine rD mixed hE ?_|((with_reducible show RKQ _ _ _ _ _ _);first|refine RKQ_nilk ⟨by decide,?_⟩|(refine jv fun K' hK'=>?_;simp [*,encQ,encS]))|((with_reducible first|refine ji fun X Y hX hY=>?_|refine jr ?_|refine jk ?_|refine jx ?_);simp [*,encQ,encS])|((first|refine jC (hq.out) ?_ ?_ ?_|refine jQ (hq.out) ?_ ?_ ?_);(iterate 2 focus (simp [*,encQ,encS] <;> fail));simp [*,encQ,encS])|with_reducible refine And.intro ?_ ?_|omega|(refine imp1 fun h=>?_))
     all_goals simp)
   exact gli
  ·have : i = l.length:=by omega
   subst this
   exact ga0)
 have hne1 : ¬ (l.length : Int) = 1:=by omega
 refine sq ⟨[(0,saL l)],[]⟩ ?_
 refine sq ⟨[(8,.v (.slice none 0 0)),(0,saL l)],[]⟩ ?_
 refine AW_mkrow 8 800 111 36 (by simp) (by simp) (by simp) (by omega) ?_
 refine AW_seqt ⟨[(8,.own 800 36 0 (l.length - 1))],[(800,.arr 111 36 ((F (l.length - 1)).map encU))]⟩ ?_ (by
  intro K hK
  refine lpk (G:=Nat) (fun i=>⟨[(9,iA (i + 1)),(8,.own 800 36 0 i),(0,saL l)],[(800,.arr 111 36 ((F i).map encU))]⟩) (fun i=>i + 1 ≤ l.length) (fun i=>l.length - i) 0 (by omega) ?_
  intro i hi K hK
  by_cases hlt : i + 1 < l.length
  ·have hltI : (i : Int) + 1 < l.length:=by omega
   have hs:=hFs.out i
   have hMl:=hFl i
   obtain ⟨a,hae⟩ : ∃ s,l[i] = s:=⟨_,rfl⟩
   obtain ⟨b,hbe⟩ : ∃ s,l[i + 1] = s:=⟨_,rfl⟩
   have oa : OkS a:=hae ▸ hck.out _ (List.getElem_mem (by omega))
   have ob : OkS b:=hbe ▸ hck.out _ (List.getElem_mem hlt)
   have hab : a.t < b.t:=by rw [← hae,← hbe];exact hlt2.out i hlt
   have g1 : l.getD i ⟨0,0,0⟩ = a:=by simp [List.getD,List.getElem?_eq_getElem (show i < l.length by omega),hae]
   have g2 : l.getD (i + 1) ⟨0,0,0⟩ = b:=by simp [List.getD,List.getElem?_eq_getElem hlt,hbe]
   rw [g1,g2] at hs
   have hx:=Hld.mk (s_thrx oa ob hab)
   have hy:=Hld.mk (s_thry oa ob hab)
   have r1:=Hld.mk (s_fromRat a.t)
   have r2:=Hld.mk (s_fromRat b.t)
   have hya : l[i]? = some a:=by rw [List.getElem?_eq_getElem (by omega),hae]
   have hyb : l[i + 1]? = some b:=by rw [List.getElem?_eq_getElem hlt,hbe]
   obtain ⟨L,hL⟩ : ∃ L,thr a b = L:=⟨_,rfl⟩
   obtain ⟨fo,hfo⟩ : ∃ fo,decide (0 < i) = fo:=⟨_,rfl⟩
   have hsg : sgU fo a b = ⟨a.t,b.t,fo,false,L.x0,L.x1,L.y0,L.y1⟩:=by rw [← hL];rfl
   rw [hfo,hsg] at hs
   rw [hL] at hx hy
   obtain ⟨M,hM⟩ : ∃ M,F i = M:=⟨_,rfl⟩
   obtain ⟨M2,hM2⟩ : ∃ M,F (i + 1) = M:=⟨_,rfl⟩
   rw [hM,hM2] at hs
   rw [hM] at hMl
   have hMt : (M.map encU).take i = M.map encU:=List.take_of_length_le (by simp [hMl])
   refine AW_le (t:=⟨[(9,iA (i + 1)),(8,.own 800 36 0 i),(0,saL l)],[(800,.arr 111 36 (M.map encU))]⟩) (by simp [hM]) ?_
   replace hs:=Hld.mk hs
   replace hM:=Hld.mk hM
   replace hM2:=Hld.mk hM2
   replace hfo:=Hld.mk hfo
   clear oa ob hab g1 g2 hL hsg
   refine sq ⟨[(95,bA true),(9,iA (i + 1)),(8,.own 800 36 0 i),(0,saL l)],[(800,.arr 111 36 (M.map encU))]⟩ ?_
   refine AW_seqt ⟨[(9,iA (i + 1)),(8,.own 800 36 0 (i + 1)),(0,saL l)],[(800,.arr 111 36 (M2.map encU))]⟩ ?_ (by
    intro K hK
    refine AW_block ?_
    refine AW_seqt ⟨[(11,.loc 11 0),(10,.loc 10 0),(9,iA (i + 1)),(8,.own 800 36 0 i),(0,saL l)],[(11,.box 169 (encS b)),(10,.box 169 (encS a)),(800,.arr 111 36 (M.map encU))]⟩ ?_ (by
     intro K hK
     refine AW_drawF (fun f=>⟨[(98,if f 0 then saL l else .u),(99,if f 1 then iA (i + 1) else .u),(100,if f 2 then iA i else .u),(101,if f 3 then .ep (encS a) else .u),(102,if f 4 then encS a else .u),(103,if f 5 then saL l else .u),(104,if f 6 then iA (i + 1) else .u),(105,if f 7 then .ep (encS b) else .u),(106,if f 8 then encS b else .u),(10,if f 9 then .loc 10 0 else .u),(11,if f 10 then .loc 11 0 else .u),(9,iA (i + 1)),(8,.own 800 36 0 i),(0,saL l)],
      (if f 9 then [(10,.box 169 (if f 11 then encS a else zS))] else []) ++ (if f 10 then [(11,.box 169 (if f 12 then encS b else zS))] else []) ++ [(800,.arr 111 36 (M.map encU))]⟩) mixed (by rw [hE];decide) (by decide +kernel) (by decide +kernel) (by simp) ?_ ?_
     ·intro f i o hi hdep hnot hcl K2 hK2
      have w11_9 : f 11 = true → f 9 = true:=fun h=>by have h1:=hcl 11 _ rfl h;simp [Region.binds] at h1;simp [h1]
      have w12_10 : f 12 = true → f 10 = true:=fun h=>by have h1:=hcl 12 _ rfl h;simp [Region.binds] at h1;simp [h1]
      clear hcl
      iterate 13 (rcases i with _|i;rotate_left)
      ·simp at hi
      all_goals (simp only [List.getElem?_cons_succ,List.getElem?_cons_zero,Option.some.injEq] at hi;subst hi)
      all_goals simp [Region.binds] at hdep
      all_goals (try simp [hnot] at w11_9)
      all_goals (try simp [hnot] at w12_10)
      all_goals (simp +contextual [*,encS,lk_ite,lk_ite0,mentB_app,mentB_ite,killB_app,killB_ite,leB_app,leB_ite,forg_ite,mentL_append];(repeat' (first|with_reducible refine And.intro ?_ ?_|omega));first|(refine hK2.h _ ?_;simp +contextual [*,encS,lk_ite,lk_ite0,mentB_app,mentB_ite,killB_app,killB_ite,leB_app,leB_ite,forg_ite,mentL_append];done))
     ·intro f hf
      have e9:=hf 9 (by simp)
      have e10:=hf 10 (by simp)
      have e11:=hf 11 (by simp)
      have e12:=hf 12 (by simp)
      refine hK.h _ ?_
      simp [e9,e10,e11,e12,encS]
     all_goals simp)
    refine AW_seqt ⟨[(12,.loc 12 0),(11,.loc 11 0),(10,.loc 10 0),(9,iA (i + 1)),(8,.own 800 36 0 i),(0,saL l)],[(12,.box 146 (encD ⟨L.x0,L.x1,0⟩)),(11,.box 169 (encS b)),(10,.box 169 (encS a)),(800,.arr 111 36 (M.map encU))]⟩ ?_ (by
     intro K hK
     have k'1:=hx;have z'1:=@encQ.eq_1;have z'2:=@encS.eq_1;have z'3:=@encD.eq_1;exact ga1)
    refine AW_seqt ⟨[(14,.loc 14 0),(12,.loc 12 0),(11,.loc 11 0),(10,.loc 10 0),(9,iA (i + 1)),(8,.own 800 36 0 i),(0,saL l)],[(14,.box 146 (encD ⟨L.y0,L.y1,0⟩)),(12,.box 146 (encD ⟨L.x0,L.x1,0⟩)),(11,.box 169 (encS b)),(10,.box 169 (encS a)),(800,.arr 111 36 (M.map encU))]⟩ ?_ (by
     intro K hK
     have k'1:=hy;have z'1:=@encQ.eq_1;have z'2:=@encS.eq_1;have z'3:=@encD.eq_1;exact ga1)
    refine AW_seqt ⟨[(16,.loc 16 0),(14,.loc 14 0),(12,.loc 12 0),(9,iA (i + 1)),(8,.own 800 36 0 i),(0,saL l)],[(16,.box 95 (encV ⟨a.t,b.t,fo,false⟩)),(14,.box 146 (encD ⟨L.y0,L.y1,0⟩)),(12,.box 146 (encD ⟨L.x0,L.x1,0⟩)),(800,.arr 111 36 (M.map encU))]⟩ ?_ (by
     intro K hK
     obtain ⟨z,hz⟩ : ∃ z : Int,(i : Int) + 1 = z:=⟨_,rfl⟩
     have hfo2 : decide ((1 : Int) < z) = fo:=by rw [← hfo.out];exact decide_eq_decide.2 (by omega)
     refine AW_le (t:=⟨[(14,.loc 14 0),(12,.loc 12 0),(11,.loc 11 0),(10,.loc 10 0),(9,iA z),(8,.own 800 36 0 i),(0,saL l)],[(14,.box 146 (encD ⟨L.y0,L.y1,0⟩)),(12,.box 146 (encD ⟨L.x0,L.x1,0⟩)),(11,.box 169 (encS b)),(10,.box 169 (encS a)),(800,.arr 111 36 (M.map encU))]⟩) (by simp [hz]) ?_
     replace hz:=Hld.mk hz
     refine AW_drawF (fun f=>⟨[(135,if f 0 then .loc 10 0 else .u),(136,if f 1 then encQ a.t else .u),(137,if f 2 then encR a.t else .u),(138,if f 3 then .loc 11 0 else .u),(139,if f 4 then encQ b.t else .u),(140,if f 5 then encR b.t else .u),(141,if f 6 then iA z else .u),(142,if f 7 then bA fo else .u),(143,if f 8 then encV ⟨a.t,b.t,fo,false⟩ else .u),(16,if f 9 then .loc 16 0 else .u),(14,.loc 14 0),(12,.loc 12 0),(11,.loc 11 0),(10,.loc 10 0),(9,iA z),(8,.own 800 36 0 i),(0,saL l)],
      (if f 9 then [(16,.box 95 (if f 10 then encV ⟨a.t,b.t,fo,false⟩ else zV))] else []) ++ [(14,.box 146 (encD ⟨L.y0,L.y1,0⟩)),(12,.box 146 (encD ⟨L.x0,L.x1,0⟩)),(11,.box 169 (encS b)),(10,.box 169 (encS a)),(800,.arr 111 36 (M.map encU))]⟩) mixed (by rw [hE];decide) (by decide +kernel) (by decide +kernel) (by simp) ?_ ?_
     ·intro f i o hi hdep hnot hcl K2 hK2
      have w10_9 : f 10 = true → f 9 = true:=gw
      clear hcl
      iterate 11 (rcases i with _|i;rotate_left)
      ·simp at hi
      all_goals (simp only [List.getElem?_cons_succ,List.getElem?_cons_zero,Option.some.injEq] at hi;subst hi)
      all_goals simp [Region.binds] at hdep
      all_goals (rcases a9 : f 9)
      all_goals try (exfalso;revert hdep hnot w10_9;simp [a9];done)
      all_goals (try simp [a9,hnot] at w10_9)
      all_goals (have k'1:=r1;have k'2:=r2;have z'1:=@encQ.eq_1;have z'2:=@encR.eq_1;have z'3:=@encS.eq_1;have z'4:=@encV.eq_1;have z'5:=hz.out;exact gd2)
     ·intro f hf
      have e10:=hf 10 (by simp)
      have e9:=hf 9 (by simp)
      refine hK.h _ ?_
      simp [e10,e9,encQ,encR,encS,encV,hz.out]
     all_goals simp)
    repeat' (first
     |(with_reducible first|refine uK ?_|refine uX ?_|refine jq fun K hK=>?_|refine jb ?_)|((with_reducible first|refine rS hE ?_|refine jn ?_|refine js fun K' hK'=>?_|refine ji fun X Y hX hY=>?_|refine jr ?_|refine jk ?_|refine jx ?_);simp [*,encQ,encV,encD,encU])|with_reducible refine rL hE ?_|with_reducible refine And.intro ?_ ?_|omega|(refine imp1 fun h=>?_))
    all_goals simp (maxSteps:=1000000) [hs.out,hMl,encQ,encV,encD,encU])
   have z'1:=hM2.out;exact gli
  ·have : l.length = i + 1:=by omega
   have hle : l.length - 1 = i:=by omega
   exact ga0)
 have hFt : ((F (l.length - 1)).map encU).take (l.length - 1) = (F (l.length - 1)).map encU:=List.take_of_length_le (by simp [hFl])
 refine AW_freeze 800 (cb:=.arr 111 36 ((F (l.length - 1)).map encU)) (t:=⟨[(8,unL (F (l.length - 1)))],[]⟩) (by simp) (by simp [hFt,hFl]) (by simp) ?_
 have k'1:=hN;exact ga1
def joiX (a b : Bx) : Bx:=⟨min a.x0 b.x0,max a.x1 b.x1,min a.y0 b.y0,max a.y1 b.y1,min a.t0 b.t0,max a.t1 b.t1⟩
theorem s_join (a b : Bx) : PSpec Tryz.prog 22 [encX a,encX b] (encX (joiX a b)):=by
 refine pS Tryz.func22 ?_
 intro E hE
 have z'1:=@encX.eq_1;have z'2:=@joiX.eq_1;exact ga0
theorem s_wjoin (a b : Bx) : PSpec Tryz.prog 25 [encX a,encX b] (encX (joiX a b)):=by
 refine pS Tryz.func25 ?_
 intro E hE
 have z'1:=@encX.eq_1;have z'2:=@joiX.eq_1;exact ga0
abbrev sidA (a : Bx) : AV:=.st [iA a.x0,iA a.x1,iA a.y0,iA a.y1,iA a.t0,iA a.t1]
theorem s_sides (a : Bx) : PSpec Tryz.prog 54 [encX a] (sidA a):=by
 refine pS Tryz.func54 ?_
 intro E hE
 have z'1:=@encX.eq_1;exact ga0
def fulX (a : Bx) : Bool:=decide (a.x0 ≤ a.x1) && (decide (a.y0 ≤ a.y1) && decide (a.t0 ≤ a.t1))
def meeX (a b : Bx) : Bool:=decide ((a.x0 ≤ b.x1 ∧ b.x0 ≤ a.x1) ∧ (a.y0 ≤ b.y1 ∧ b.y0 ≤ a.y1) ∧ (a.t0 ≤ b.t1 ∧ b.t0 ≤ a.t1))
abbrev zSd : AV:=.st [iA 0,iA 0,iA 0,iA 0,iA 0,iA 0]
set_option maxHeartbeats 4000000 in
theorem s_meets (a b : Bx) : PSpec Tryz.prog 23 [encX a,encX b] (bA (meeX a b)):=by
 have hA:=Hld.mk (s_sides a)
 have hB:=Hld.mk (s_sides b)
 obtain ⟨r,hr⟩ : ∃ r,meeX a b = r:=⟨_,rfl⟩
 have f0 : Hld (¬ (a.x0 ≤ b.x1 ∧ b.x0 ≤ a.x1) → r = false):=⟨fun h=>by rw [← hr];exact decide_eq_false fun k=>h k.1⟩
 have f1 : Hld (¬ (a.y0 ≤ b.y1 ∧ b.y0 ≤ a.y1) → r = false):=⟨fun h=>by rw [← hr];exact decide_eq_false fun k=>h k.2.1⟩
 have f2 : Hld (¬ (a.t0 ≤ b.t1 ∧ b.t0 ≤ a.t1) → r = false):=⟨fun h=>by rw [← hr];exact decide_eq_false fun k=>h k.2.2⟩
 have f3 : Hld ((a.x0 ≤ b.x1 ∧ b.x0 ≤ a.x1) → (a.y0 ≤ b.y1 ∧ b.y0 ≤ a.y1) → (a.t0 ≤ b.t1 ∧ b.t0 ≤ a.t1) → r = true):=⟨fun h1 h2 h3=>by rw [← hr];exact decide_eq_true ⟨h1,h2,h3⟩⟩
 rw [hr]
 clear hr
 refine pS Tryz.func23 ?_
 intro E hE
 refine sq ⟨[(3,.loc 3 0),(2,.loc 2 0)],[(3,.box 28 (encX b)),(2,.box 28 (encX a))]⟩ ?_
 refine AW_seqt ⟨[(6,.loc 6 0),(5,.loc 5 0)],[(6,.box 117 (sidA b)),(5,.box 117 (sidA a))]⟩ ?_ (by
  intro K hK
  refine AW_drawF (fun f=>⟨[(8,if f 0 then encX a else .u),(9,if f 1 then sidA a else .u),(10,if f 2 then encX b else .u),(11,if f 3 then sidA b else .u),(5,if f 4 then .loc 5 0 else .u),(6,if f 5 then .loc 6 0 else .u),(3,.loc 3 0),(2,.loc 2 0)],
   (if f 4 then [(5,.box 117 (if f 6 then sidA a else zSd))] else []) ++ (if f 5 then [(6,.box 117 (if f 7 then sidA b else zSd))] else []) ++ [(3,.box 28 (encX b)),(2,.box 28 (encX a))]⟩) mixed (by rw [hE];decide) (by decide +kernel) (by decide +kernel) (by simp) ?_ ?_
  ·intro f i o hi hdep hnot hcl K2 hK2
   have w6_4 : f 6 = true → f 4 = true:=gw
   have w7_5 : f 7 = true → f 5 = true:=gw
   clear hcl
   iterate 8 (rcases i with _|i;rotate_left)
   ·simp at hi
   all_goals (simp only [List.getElem?_cons_succ,List.getElem?_cons_zero,Option.some.injEq] at hi;subst hi)
   all_goals simp [Region.binds] at hdep
   all_goals (rcases a4 : f 4 <;> rcases a5 : f 5)
   all_goals try (exfalso;revert hdep hnot w6_4 w7_5;simp [a4,a5];done)
   all_goals (try simp [a4,a5,hnot] at w6_4)
   all_goals (try simp [a4,a5,hnot] at w7_5)
   all_goals (have k'1:=hA;have k'2:=hB;have z'1:=@encX.eq_1;exact gd2)
  ·intro f hf
   have e6:=hf 6 (by simp)
   have e7:=hf 7 (by simp)
   have e4:=hf 4 (by simp)
   have e5:=hf 5 (by simp)
   refine hK.h _ ?_
   simp [e6,e7,e4,e5,encX]
  all_goals simp)
 refine AW_seqE (G:=Unit) (fun _=>⟨[],[]⟩) (fun _=>r = true) ?_ ?_
 ·intro _ hr
  exact ga0
 ·intro K hK
  refine lpk (G:=Nat) (fun i=>⟨[(12,iA i),(6,.loc 6 0),(5,.loc 5 0)],[(6,.box 117 (sidA b)),(5,.box 117 (sidA a))]⟩) (fun i=>i ≤ 3 ∧ Hld ((0 < i → (a.x0 ≤ b.x1 ∧ b.x0 ≤ a.x1)) ∧ (1 < i → (a.y0 ≤ b.y1 ∧ b.y0 ≤ a.y1)) ∧ (2 < i → (a.t0 ≤ b.t1 ∧ b.t0 ≤ a.t1)))) (fun i=>3 - i) 0 ⟨by omega,⟨by omega,by omega,by omega⟩⟩ ?_
  rintro i ⟨hi,hh⟩ K hK
  rcases i with _|_|_|_|i
  ·by_cases c1 : b.x1 < a.x0
   ·have hr:=f0.out (by omega)
    repeat' (first
     |(with_reducible first|refine uK ?_|refine uQ ?_|refine uX ?_|refine jq fun K hK=>?_|refine jb ?_)|(with_reducible refine rS hE ?_;simp [*])|with_reducible refine rL hE ?_|(((with_reducible show RK _ _ _ _ _ _);first|refine jn ?_|refine js fun K' hK'=>?_);simp [*])|with_reducible refine rD mixed hE ?_|((with_reducible show RKQ _ _ _ _ _ _);first|refine RKQ_nilk ⟨by decide,?_⟩|(refine jv fun K' hK'=>?_;simp [*]))|((with_reducible first|refine ji fun X Y hX hY=>?_|refine jr ?_|refine jk ?_|refine jx ?_);simp [*])|with_reducible refine And.intro ?_ ?_|omega|(refine imp1 fun h=>?_))
   ·by_cases c2 : a.x1 < b.x0
    ·have hr:=f0.out (by omega)
     repeat' (first
      |(with_reducible first|refine uK ?_|refine uQ ?_|refine uX ?_|refine jq fun K hK=>?_|refine jb ?_)|(with_reducible refine rS hE ?_;simp [*])|with_reducible refine rL hE ?_|(((with_reducible show RK _ _ _ _ _ _);first|refine jn ?_|refine js fun K' hK'=>?_);simp [*])|with_reducible refine rD mixed hE ?_|((with_reducible show RKQ _ _ _ _ _ _);first|refine RKQ_nilk ⟨by decide,?_⟩|(refine jv fun K' hK'=>?_;simp [*]))|((with_reducible first|refine ji fun X Y hX hY=>?_|refine jr ?_|refine jk ?_|refine jx ?_);simp [*])|with_reducible refine And.intro ?_ ?_|omega|(refine imp1 fun h=>?_))
    ·repeat' (first
      |(with_reducible first|refine uK ?_|refine uQ ?_|refine uX ?_|refine jq fun K hK=>?_|refine jb ?_)|(with_reducible refine rS hE ?_;simp [*])|with_reducible refine rL hE ?_|(((with_reducible show RK _ _ _ _ _ _);first|refine jn ?_|refine js fun K' hK'=>?_);simp [*])|with_reducible refine rD mixed hE ?_|((with_reducible show RKQ _ _ _ _ _ _);first|refine RKQ_nilk ⟨by decide,?_⟩|(refine jv fun K' hK'=>?_;simp [*]))|((with_reducible first|refine ji fun X Y hX hY=>?_|refine jr ?_|refine jk ?_|refine jx ?_);simp [*])|with_reducible refine And.intro ?_ ?_|omega|(refine imp1 fun h=>?_))
     exact ⟨1,⟨by omega,⟨by omega,by omega,by omega⟩⟩,by omega,by simp⟩
  ·obtain ⟨g0,g1,g2⟩:=hh.out
   by_cases c1 : b.y1 < a.y0
   ·have hr:=f1.out (by omega)
    repeat' (first
     |(with_reducible first|refine uK ?_|refine uQ ?_|refine uX ?_|refine jq fun K hK=>?_|refine jb ?_)|(with_reducible refine rS hE ?_;simp [*])|with_reducible refine rL hE ?_|(((with_reducible show RK _ _ _ _ _ _);first|refine jn ?_|refine js fun K' hK'=>?_);simp [*])|with_reducible refine rD mixed hE ?_|((with_reducible show RKQ _ _ _ _ _ _);first|refine RKQ_nilk ⟨by decide,?_⟩|(refine jv fun K' hK'=>?_;simp [*]))|((with_reducible first|refine ji fun X Y hX hY=>?_|refine jr ?_|refine jk ?_|refine jx ?_);simp [*])|with_reducible refine And.intro ?_ ?_|omega|(refine imp1 fun h=>?_))
   ·by_cases c2 : a.y1 < b.y0
    ·have hr:=f1.out (by omega)
     repeat' (first
      |(with_reducible first|refine uK ?_|refine uQ ?_|refine uX ?_|refine jq fun K hK=>?_|refine jb ?_)|(with_reducible refine rS hE ?_;simp [*])|with_reducible refine rL hE ?_|(((with_reducible show RK _ _ _ _ _ _);first|refine jn ?_|refine js fun K' hK'=>?_);simp [*])|with_reducible refine rD mixed hE ?_|((with_reducible show RKQ _ _ _ _ _ _);first|refine RKQ_nilk ⟨by decide,?_⟩|(refine jv fun K' hK'=>?_;simp [*]))|((with_reducible first|refine ji fun X Y hX hY=>?_|refine jr ?_|refine jk ?_|refine jx ?_);simp [*])|with_reducible refine And.intro ?_ ?_|omega|(refine imp1 fun h=>?_))
    ·repeat' (first
      |(with_reducible first|refine uK ?_|refine uQ ?_|refine uX ?_|refine jq fun K hK=>?_|refine jb ?_)|(with_reducible refine rS hE ?_;simp [*])|with_reducible refine rL hE ?_|(((with_reducible show RK _ _ _ _ _ _);first|refine jn ?_|refine js fun K' hK'=>?_);simp [*])|with_reducible refine rD mixed hE ?_|((with_reducible show RKQ _ _ _ _ _ _);first|refine RKQ_nilk ⟨by decide,?_⟩|(refine jv fun K' hK'=>?_;simp [*]))|((with_reducible first|refine ji fun X Y hX hY=>?_|refine jr ?_|refine jk ?_|refine jx ?_);simp [*])|with_reducible refine And.intro ?_ ?_|omega|(refine imp1 fun h=>?_))
     exact ⟨2,⟨by omega,⟨by omega,by omega,by omega⟩⟩,by omega,by simp⟩
  ·obtain ⟨g0,g1,g2⟩:=hh.out
   by_cases c1 : b.t1 < a.t0
   ·have hr:=f2.out (by omega)
    repeat' (first
     |(with_reducible first|refine uK ?_|refine uQ ?_|refine uX ?_|refine jq fun K hK=>?_|refine jb ?_)|(with_reducible refine rS hE ?_;simp [*])|with_reducible refine rL hE ?_|(((with_reducible show RK _ _ _ _ _ _);first|refine jn ?_|refine js fun K' hK'=>?_);simp [*])|with_reducible refine rD mixed hE ?_|((with_reducible show RKQ _ _ _ _ _ _);first|refine RKQ_nilk ⟨by decide,?_⟩|(refine jv fun K' hK'=>?_;simp [*]))|((with_reducible first|refine ji fun X Y hX hY=>?_|refine jr ?_|refine jk ?_|refine jx ?_);simp [*])|with_reducible refine And.intro ?_ ?_|omega|(refine imp1 fun h=>?_))
   ·by_cases c2 : a.t1 < b.t0
    ·have hr:=f2.out (by omega)
     repeat' (first
      |(with_reducible first|refine uK ?_|refine uQ ?_|refine uX ?_|refine jq fun K hK=>?_|refine jb ?_)|(with_reducible refine rS hE ?_;simp [*])|with_reducible refine rL hE ?_|(((with_reducible show RK _ _ _ _ _ _);first|refine jn ?_|refine js fun K' hK'=>?_);simp [*])|with_reducible refine rD mixed hE ?_|((with_reducible show RKQ _ _ _ _ _ _);first|refine RKQ_nilk ⟨by decide,?_⟩|(refine jv fun K' hK'=>?_;simp [*]))|((with_reducible first|refine ji fun X Y hX hY=>?_|refine jr ?_|refine jk ?_|refine jx ?_);simp [*])|with_reducible refine And.intro ?_ ?_|omega|(refine imp1 fun h=>?_))
    ·repeat' (first
      |(with_reducible first|refine uK ?_|refine uQ ?_|refine uX ?_|refine jq fun K hK=>?_|refine jb ?_)|(with_reducible refine rS hE ?_;simp [*])|with_reducible refine rL hE ?_|(((with_reducible show RK _ _ _ _ _ _);first|refine jn ?_|refine js fun K' hK'=>?_);simp [*])|with_reducible refine rD mixed hE ?_|((with_reducible show RKQ _ _ _ _ _ _);first|refine RKQ_nilk ⟨by decide,?_⟩|(refine jv fun K' hK'=>?_;simp [*]))|((with_reducible first|refine ji fun X Y hX hY=>?_|refine jr ?_|refine jk ?_|refine jx ?_);simp [*])|with_reducible refine And.intro ?_ ?_|omega|(refine imp1 fun h=>?_))
     exact ⟨3,⟨by omega,⟨by omega,by omega,by omega⟩⟩,by omega,by simp⟩
  ·obtain ⟨g0,g1,g2⟩:=hh.out
   have hr:=f3.out (g0 (by omega)) (g1 (by omega)) (g2 (by omega))
   clear g0 g1 g2
   repeat' (first
    |(with_reducible first|refine uK ?_|refine uX ?_|refine jq fun K hK=>?_|refine jb ?_)|((with_reducible first|refine rS hE ?_|refine jn ?_|refine js fun K' hK'=>?_|refine ji fun X Y hX hY=>?_|refine jr ?_|refine jk ?_|refine jx ?_);simp [*])|with_reducible refine rL hE ?_|with_reducible refine And.intro ?_ ?_|omega|(refine imp1 fun h=>?_))
   all_goals exact ⟨(),hr,by simp⟩
  ·omega
theorem s_bbox {u : Un} (h : OkU u) : PSpec Tryz.prog 52 [encU u] (boxR u):=by
 have hb:=Hld.mk (s_box1 h)
 unfold boxR at hb ⊢
 by_cases hk : bokU u
 ·simp only [if_pos hk] at hb ⊢
  clear hk h
  refine pS Tryz.func52 ?_
  intro E hE
  have k'1:=hb;have z'1:=@encX.eq_1;exact ga1
 ·simp only [if_neg hk] at hb ⊢
  clear hk h
  refine pS Tryz.func52 ?_
  intro E hE
  have k'1:=hb;have z'1:=@encX.eq_1;exact ga1
theorem s_wbox {u : Un} (h : OkU u) : PSpec Tryz.prog 48 [encU u] (boxR u):=by
 have hb:=Hld.mk (s_box1 h)
 unfold boxR at hb ⊢
 by_cases hk : bokU u
 ·simp only [if_pos hk] at hb ⊢
  clear hk h
  refine pS Tryz.func48 ?_
  intro E hE
  have k'1:=hb;have z'1:=@encX.eq_1;exact ga1
 ·simp only [if_neg hk] at hb ⊢
  clear hk h
  refine pS Tryz.func48 ?_
  intro E hE
  have k'1:=hb;have z'1:=@encX.eq_1;exact ga1
theorem s_sample (t x y : Int) (ht : t.natAbs < 9223372036854775808) (hx : x.natAbs < 9223372036854775808) (hy : y.natAbs < 9223372036854775808) : PSpec Tryz.prog 141 [iA t,iA x,iA y] (encS ⟨t,x,y⟩):=by
 have h1:=Hld.mk (s_fromIntQ t ht)
 have h2:=Hld.mk (s_fromIntQ x hx)
 have h3:=Hld.mk (s_fromIntQ y hy)
 obtain ⟨a,ha⟩ : ∃ a : Rat,(t : Rat) = a:=⟨_,rfl⟩
 obtain ⟨b,hb⟩ : ∃ a : Rat,(x : Rat) = a:=⟨_,rfl⟩
 obtain ⟨c,hc⟩ : ∃ a : Rat,(y : Rat) = a:=⟨_,rfl⟩
 rw [ha] at h1
 rw [hb] at h2
 rw [hc] at h3
 rw [ha,hb,hc]
 clear ha hb hc ht hx hy
 refine pS Tryz.func141 ?_
 intro E hE
 have k'1:=h1;have k'2:=h2;have k'3:=h3;have z'1:=@encQ.eq_1;have z'2:=@encS.eq_1;exact ga3
theorem s_through {a b : Sm} (ha : OkS a) (hb : OkS b) (h : a.t < b.t) : PSpec Tryz.prog 142 [encS a,encS b] (encL (thr a b)):=by
 have h1:=Hld.mk (s_thrx ha hb h)
 have h2:=Hld.mk (s_thry ha hb h)
 obtain ⟨L,hL⟩ : ∃ L,thr a b = L:=⟨_,rfl⟩
 rw [hL] at h1 h2 ⊢
 clear hL ha hb h
 refine pS Tryz.func142 ?_
 intro E hE
 have k'1:=h1;have k'2:=h2;have z'1:=@encQ.eq_1;have z'2:=@encS.eq_1;have z'3:=@encD.eq_1;have z'4:=@encL.eq_1;exact ga2
theorem s_still (x y : Rat) : PSpec Tryz.prog 143 [encP ⟨x,y⟩] (encL ⟨x,0,y,0⟩):=by
 refine pS Tryz.func143 ?_
 intro E hE
 have z'1:=@encQ.eq_1;have z'2:=@encP.eq_1;have z'3:=@encL.eq_1;exact ga0
set_option maxHeartbeats 4000000 in
theorem s_units (l : List Un) (hl : l.length ≤ 100000) : PSpec Tryz.prog 166 [unL l] (unL l):=by
 refine pS Tryz.func166 ?_
 intro E hE
 refine sq ⟨[(0,unL l)],[]⟩ ?_
 refine sq ⟨[(3,.v (.slice none 0 0)),(0,unL l)],[]⟩ ?_
 refine AW_mkrow 3 800 189 36 (by simp) (by simp) (by simp) (by omega) ?_
 refine AW_seqt ⟨[(3,.own 800 36 0 l.length)],[(800,.arr 189 36 (l.map encU))]⟩ ?_ (by
  intro K hK
  refine lpk (G:=Nat) (fun i=>⟨[(4,iA i),(3,.own 800 36 0 i),(0,unL l)],[(800,.arr 189 36 ((l.take i).map encU))]⟩) (fun i=>i ≤ l.length) (fun i=>l.length - i) 0 (Nat.zero_le _) ?_
  intro i hi K hK
  by_cases hlt : i < l.length
  ·have hltI : (i : Int) < l.length:=by omega
   have htk:=Hld.mk (takeU hlt)
   obtain ⟨M,hM⟩ : ∃ M,l.take i = M:=⟨_,rfl⟩
   have hMl : M.length = i:=by rw [← hM,List.length_take];omega
   have hMt : (M.map encU).take i = M.map encU:=List.take_of_length_le (by simp [hMl])
   obtain ⟨u,hu⟩ : ∃ u,l[i] = u:=⟨_,rfl⟩
   have hug : ∀ h : i < l.length,l[i] = u:=fun _=>hu
   have hmi : i ≤ M.length:=by omega
   rw [hM,hu] at htk
   refine AW_le (t:=⟨[(4,iA i),(3,.own 800 36 0 i),(0,unL l)],[(800,.arr 189 36 (M.map encU))]⟩) (by simp [hM]) ?_
   replace hM:=()
   replace hMl:=Hld.mk hMl
   refine sq ⟨[(4,iA i),(3,.own 800 36 0 i),(0,unL l)],[(800,.arr 189 36 (M.map encU))]⟩ ?_
   refine AW_seqt ⟨[(4,iA i),(3,.own 800 36 0 (i + 1)),(0,unL l)],[(800,.arr 189 36 (M.map encU ++ [encU u]))]⟩ ?_ (by
    intro K hK
    refine AW_block ?_
    refine AW_drawF (fun f=>⟨[(11,if f 0 && !f 13 then .own 800 36 0 i else .u),(12,if f 1 then unL l else .u),(13,if f 2 then iA i else .u),(14,if f 3 then .ep (encU u) else .u),(15,if f 4 then .ep (encV ⟨u.f,u.t,u.fo,u.to⟩) else .u),(16,if f 5 then encV ⟨u.f,u.t,u.fo,u.to⟩ else .u),(17,if f 6 then unL l else .u),(18,if f 7 then iA i else .u),(19,if f 8 then .ep (encU u) else .u),(20,if f 9 then .ep (encL ⟨u.x0,u.x1,u.y0,u.y1⟩) else .u),(21,if f 10 then encL ⟨u.x0,u.x1,u.y0,u.y1⟩ else .u),(22,if f 11 then encU u else .u),(23,if f 12 then .own 23 36 0 1 else .u),(24,if f 13 then .own 800 36 0 (i + 1) else .u),(4,iA i),(3,if f 14 then .own 800 36 0 (i + 1) else if f 13 then .u else .own 800 36 0 i),(0,unL l)],
     (if f 12 then [(23,.arr 189 36 [encU u])] else []) ++ [(800,.arr 189 36 (if f 13 then M.map encU ++ [encU u] else M.map encU))]⟩) mixed (by rw [hE];decide) (by decide +kernel) (by decide +kernel) (by simp) ?_ ?_
    ·intro f i o hi hdep hnot hcl K2 hK2
     have w13_12 : f 13 = true → f 12 = true:=gw
     have w13_0 : f 13 = true → f 0 = true:=gw
     have w14_13 : f 14 = true → f 13 = true:=gw
     clear hcl
     iterate 15 (rcases i with _|i;rotate_left)
     ·simp at hi
     all_goals (simp only [List.getElem?_cons_succ,List.getElem?_cons_zero,Option.some.injEq] at hi;subst hi)
     all_goals simp [Region.binds] at hdep
     all_goals (rcases a12 : f 12 <;> rcases a13 : f 13)
     all_goals try (exfalso;revert hdep hnot w13_12 w13_0 w14_13;simp [a12,a13];done)
     all_goals (try simp [a12,a13,hnot] at w13_12)
     all_goals (try simp [a12,a13,hnot] at w13_0)
     all_goals (try simp [a12,a13,hnot] at w14_13)
     all_goals (have z'1:=@encU.eq_1;have z'2:=@encV.eq_1;have z'3:=@encL.eq_1;have z'4:=@mentL_append;exact gd0)
    ·intro f hf
     have e14:=hf 14 (by simp)
     have e12:=hf 12 (by simp)
     have e13:=hf 13 (by simp)
     refine hK.h _ ?_
     simp [e14,e12,e13,encU,encV,encL,mentL_append]
    all_goals simp)
   have z'1:=htk.out;exact gli
  ·have hie : i = l.length:=by omega
   subst hie
   exact ga0)
 repeat' (first
  |(with_reducible first|refine uK ?_|refine uX ?_|refine jq fun K hK=>?_|refine jb ?_)|((with_reducible first|refine rS hE ?_|refine jn ?_|refine js fun K' hK'=>?_|refine ji fun X Y hX hY=>?_|refine jr ?_|refine jk ?_|refine jx ?_);simp [*])|with_reducible refine rL hE ?_|with_reducible refine And.intro ?_ ?_|omega|(refine imp1 fun h=>?_))
 all_goals (try rw [List.take_of_length_le (by simp)])
 all_goals simp
set_option maxHeartbeats 4000000 in
theorem s_points (l : List Un) (hl : l.length ≤ 100000) : PSpec Tryz.prog 167 [unL l] (unL l):=by
 refine pS Tryz.func167 ?_
 intro E hE
 refine sq ⟨[(0,unL l)],[]⟩ ?_
 refine sq ⟨[(3,.v (.slice none 0 0)),(0,unL l)],[]⟩ ?_
 refine AW_mkrow 3 800 111 36 (by simp) (by simp) (by simp) (by omega) ?_
 refine AW_seqt ⟨[(3,.own 800 36 0 l.length)],[(800,.arr 111 36 (l.map encU))]⟩ ?_ (by
  intro K hK
  refine lpk (G:=Nat) (fun i=>⟨[(4,iA i),(3,.own 800 36 0 i),(0,unL l)],[(800,.arr 111 36 ((l.take i).map encU))]⟩) (fun i=>i ≤ l.length) (fun i=>l.length - i) 0 (Nat.zero_le _) ?_
  intro i hi K hK
  by_cases hlt : i < l.length
  ·have hltI : (i : Int) < l.length:=by omega
   have htk:=Hld.mk (takeU hlt)
   obtain ⟨M,hM⟩ : ∃ M,l.take i = M:=⟨_,rfl⟩
   have hMl : M.length = i:=by rw [← hM,List.length_take];omega
   have hMt : (M.map encU).take i = M.map encU:=List.take_of_length_le (by simp [hMl])
   obtain ⟨u,hu⟩ : ∃ u,l[i] = u:=⟨_,rfl⟩
   have hug : ∀ h : i < l.length,l[i] = u:=fun _=>hu
   have hmi : i ≤ M.length:=by omega
   rw [hM,hu] at htk
   refine AW_le (t:=⟨[(4,iA i),(3,.own 800 36 0 i),(0,unL l)],[(800,.arr 111 36 (M.map encU))]⟩) (by simp [hM]) ?_
   replace hM:=()
   replace hMl:=Hld.mk hMl
   refine sq ⟨[(4,iA i),(3,.own 800 36 0 i),(0,unL l)],[(800,.arr 111 36 (M.map encU))]⟩ ?_
   refine AW_seqt ⟨[(4,iA i),(3,.own 800 36 0 (i + 1)),(0,unL l)],[(800,.arr 111 36 (M.map encU ++ [encU u]))]⟩ ?_ (by
    intro K hK
    refine AW_block ?_
    refine AW_drawF (fun f=>⟨[(11,if f 0 && !f 13 then .own 800 36 0 i else .u),(12,if f 1 then unL l else .u),(13,if f 2 then iA i else .u),(14,if f 3 then .ep (encU u) else .u),(15,if f 4 then .ep (encV ⟨u.f,u.t,u.fo,u.to⟩) else .u),(16,if f 5 then encV ⟨u.f,u.t,u.fo,u.to⟩ else .u),(17,if f 6 then unL l else .u),(18,if f 7 then iA i else .u),(19,if f 8 then .ep (encU u) else .u),(20,if f 9 then .ep (encL ⟨u.x0,u.x1,u.y0,u.y1⟩) else .u),(21,if f 10 then encL ⟨u.x0,u.x1,u.y0,u.y1⟩ else .u),(22,if f 11 then encU u else .u),(23,if f 12 then .own 23 36 0 1 else .u),(24,if f 13 then .own 800 36 0 (i + 1) else .u),(4,iA i),(3,if f 14 then .own 800 36 0 (i + 1) else if f 13 then .u else .own 800 36 0 i),(0,unL l)],
     (if f 12 then [(23,.arr 111 36 [encU u])] else []) ++ [(800,.arr 111 36 (if f 13 then M.map encU ++ [encU u] else M.map encU))]⟩) mixed (by rw [hE];decide) (by decide +kernel) (by decide +kernel) (by simp) ?_ ?_
    ·intro f i o hi hdep hnot hcl K2 hK2
     have w13_12 : f 13 = true → f 12 = true:=gw
     have w13_0 : f 13 = true → f 0 = true:=gw
     have w14_13 : f 14 = true → f 13 = true:=gw
     clear hcl
     iterate 15 (rcases i with _|i;rotate_left)
     ·simp at hi
     all_goals (simp only [List.getElem?_cons_succ,List.getElem?_cons_zero,Option.some.injEq] at hi;subst hi)
     all_goals simp [Region.binds] at hdep
     all_goals (rcases a12 : f 12 <;> rcases a13 : f 13)
     all_goals try (exfalso;revert hdep hnot w13_12 w13_0 w14_13;simp [a12,a13];done)
     all_goals (try simp [a12,a13,hnot] at w13_12)
     all_goals (try simp [a12,a13,hnot] at w13_0)
     all_goals (try simp [a12,a13,hnot] at w14_13)
     all_goals (have z'1:=@encU.eq_1;have z'2:=@encV.eq_1;have z'3:=@encL.eq_1;have z'4:=@mentL_append;exact gd0)
    ·intro f hf
     have e14:=hf 14 (by simp)
     have e12:=hf 12 (by simp)
     have e13:=hf 13 (by simp)
     refine hK.h _ ?_
     simp [e14,e12,e13,encU,encV,encL,mentL_append]
    all_goals simp)
   have z'1:=htk.out;exact gli
  ·have hie : i = l.length:=by omega
   subst hie
   exact ga0)
 repeat' (first
  |(with_reducible first|refine uK ?_|refine uX ?_|refine jq fun K hK=>?_|refine jb ?_)|((with_reducible first|refine rS hE ?_|refine jn ?_|refine js fun K' hK'=>?_|refine ji fun X Y hX hY=>?_|refine jr ?_|refine jk ?_|refine jx ?_);simp [*])|with_reducible refine rL hE ?_|with_reducible refine And.intro ?_ ?_|omega|(refine imp1 fun h=>?_))
 all_goals (try rw [List.take_of_length_le (by simp)])
 all_goals simp
theorem s_normal15 (l : List Un) (hl : l.length ≤ 30000) (hO : ∀ u ∈ l,OkU u) (hs : l.Pairwise (fun a b=>a.f < b.f)) (hap : ∀ i (h : i + 1 < l.length),aptU l[i].i l[i + 1].i = true) :
 PSpec Tryz.prog 144 [unL l] (.tup [unL (nrmA (atms l)),iA 0]):=by
 have h1:=Hld.mk (s_units l (by omega))
 have h2:=Hld.mk (m_Normal l hl hO hs hap)
 have hA : (nrmA (atms l)).length ≤ 100000:=by
  have:=nrF_len (atms l) _ (Nat.le_refl _)
  have:=atms_len l
  show (nrF (atms l) (atms l).length).length ≤ _
  omega
 have h3:=Hld.mk (s_points _ hA)
 obtain ⟨A,hAe⟩ : ∃ A,nrmA (atms l) = A:=⟨_,rfl⟩
 rw [hAe] at h2 h3 ⊢
 clear hAe hA hO hs hap
 have hAt : (A.map encU).take A.length = A.map encU:=List.take_of_length_le (by simp)
 refine pS Tryz.func144 ?_
 intro E hE
 refine sq ⟨[(0,unL l)],[]⟩ ?_
 refine AW_seqt ⟨[(4,.own 700 36 0 A.length),(5,iA 0)],[(700,rwU A)]⟩ ?_ (by
  intro K hK
  repeat' (first
   |(with_reducible first|refine uK ?_|refine uX ?_|refine jq fun K hK=>?_|refine jb ?_)|((with_reducible first|refine rS hE ?_|refine jn ?_|refine js fun K' hK'=>?_|refine ji fun X Y hX hY=>?_|refine jr ?_|refine jk ?_|refine jx ?_);simp [*])|with_reducible refine rL hE ?_|(refine jC (h1.out) ?_ ?_ ?_;(iterate 2 focus (simp [*] <;> fail));simp [*])|with_reducible refine And.intro ?_ ?_|omega|(refine imp1 fun h=>?_))
  refine acall_boxes h2.out (nm []) (nm [(700,700)]) [(700,rwU A)] (.tup [.own 700 36 0 A.length,iA 0]) (by rintro res bf ⟨rfl,h1⟩;simp;exact h1) (by simp) (by simp) (by simp) (by simp) (by simp) (by simp) (by simp) ?_
  simp
  exact ga0)
 refine AW_freeze 700 (cb:=rwU A) (t:=⟨[(4,unL A),(5,iA 0)],[]⟩) (by simp) (by simp [hAt]) (by simp) ?_
 have k'1:=h3;exact ga1
theorem okL_thr {a b : Sm} (ha : OkS a) (hb : OkS b) (hd : Bd 8 1 (b.t - a.t)) : OkL (thr a b):=by
 have x1:=((hb.x.sub ha.x).div hd (by decide)).mono (n':=1024) (d':=8) (by decide) (by decide)
 have y1:=((hb.y.sub ha.y).div hd (by decide)).mono (n':=1024) (d':=8) (by decide) (by decide)
 exact ⟨(ha.x.sub (x1.mul ha.t)).mono (by decide) (by decide),x1,(ha.y.sub (y1.mul ha.t)).mono (by decide) (by decide),y1⟩
def staS (i : Nat) : Sm:=⟨((i : Int) : Rat),((10 * (i : Int) : Int) : Rat),(((i % 2 : Nat) : Int) : Rat)⟩
def stS (n : Nat) : List Sm:=(List.range n).map staS
def staU (n : Nat) : List Un:=nrmA (atms (sgF (stS (n + 1)) n))
theorem stS_len (n : Nat) : (stS n).length = n:=by simp [stS]
theorem stS_succ (n : Nat) : stS (n + 1) = stS n ++ [staS n]:=by simp [stS,List.range_succ]
theorem stS_getD (n i : Nat) (h : i < n) : (stS n).getD i ⟨0,0,0⟩ = staS i:=by simp [stS,List.getD,h]
theorem stS_ok {n : Nat} (hn : n ≤ 41) : ∀ s ∈ stS n,OkS s:=by
 intro s hs
 obtain ⟨i,hi,rfl⟩:=List.mem_map.1 hs
 have hi2:=List.mem_range.1 hi
 exact ⟨Bd.int (by omega),Bd.int (by omega),Bd.int (by omega)⟩
theorem stS_inc (n : Nat) : (stS n).Pairwise (fun a b=>a.t < b.t):=by
 rw [List.pairwise_iff_getElem]
 intro i j h1 h2 hij
 simp [stS,staS]
 exact_mod_cast hij
theorem stU_ok {n : Nat} (hn : n ≤ 40) : ∀ u ∈ sgF (stS (n + 1)) n,OkU u:=by
 intro u hu
 obtain ⟨i,hi,rfl⟩:=List.mem_map.1 hu
 have hi2:=List.mem_range.1 hi
 rw [stS_getD _ _ (by omega),stS_getD _ _ (by omega)]
 have o1 : OkS (staS i):=⟨Bd.int (by omega),Bd.int (by omega),Bd.int (by omega)⟩
 have o2 : OkS (staS (i + 1)):=⟨Bd.int (by omega),Bd.int (by omega),Bd.int (by omega)⟩
 have hd : Bd 8 1 ((staS (i + 1)).t - (staS i).t):=by
  have e : (staS (i + 1)).t - (staS i).t = ((1 : Int) : Rat):=by
   show (((i + 1 : Nat) : Int) : Rat) - ((i : Int) : Rat) = _
   rw [← Rat.intCast_sub]
   congr 1
   omega
  rw [e]
  exact Bd.int (by decide)
 exact ⟨⟨o1.t.mono (by decide) (by decide)⟩,⟨o2.t.mono (by decide) (by decide)⟩,okL_thr o1 o2 hd⟩
theorem s_stairsG {n : Nat} {A : List Un} (hn : n ≤ 40) (hF : PSpec Tryz.prog 95 [saL (stS (n + 1))] (.tup [unL A,iA 0])) : PSpec Tryz.prog 46 [iA n] (unL A):=by
 replace hF:=Hld.mk hF
 have hlen:=stS_len
 have hsucc:=Hld.mk stS_succ
 obtain ⟨F,hFe⟩ : ∃ F,stS = F:=⟨_,rfl⟩
 have hF0 : F 0 = []:=by rw [← hFe];rfl
 rw [hFe] at hF hlen hsucc
 clear hFe
 refine pS Tryz.func46 ?_
 intro E hE
 refine sq ⟨[(0,iA n)],[]⟩ ?_
 refine sq ⟨[(3,.v (.slice none 0 0)),(0,iA n)],[]⟩ ?_
 refine AW_mkrow 3 800 169 12 (by simp) (by simp) (by simp) (by omega) ?_
 refine AW_seqt ⟨[(3,.own 800 12 0 (n + 1))],[(800,.arr 169 12 ((F (n + 1)).map encS))]⟩ ?_ (by
  intro K hK
  refine lpk (G:=Nat) (fun i=>⟨[(4,iA i),(3,.own 800 12 0 i),(0,iA n)],[(800,.arr 169 12 ((F i).map encS))]⟩) (fun i=>i ≤ n + 1) (fun i=>n + 1 - i) 0 (Nat.zero_le _) ?_
  intro i hi K hK
  by_cases hlt : i ≤ n
  ·have hltI : (i : Int) ≤ n:=by omega
   have hs:=hsucc.out i
   have hMl:=hlen i
   obtain ⟨M,hM⟩ : ∃ M,F i = M:=⟨_,rfl⟩
   obtain ⟨M2,hM2⟩ : ∃ M,F (i + 1) = M:=⟨_,rfl⟩
   rw [hM,hM2] at hs
   rw [hM] at hMl
   have hMt : (M.map encS).take i = M.map encS:=List.take_of_length_le (by simp [hMl])
   have q1:=Hld.mk (s_fromIntQ (i : Int) (by omega))
   have q2:=Hld.mk (s_fromIntQ (10 * (i : Int)) (by omega))
   have q3:=Hld.mk (s_fromIntQ ((i % 2 : Nat) : Int) (by omega))
   have hr : (i : Int).tmod 2 = ((i % 2 : Nat) : Int):=rfl
   have hstd : staS i = ⟨((i : Int) : Rat),((10 * (i : Int) : Int) : Rat),(((i % 2 : Nat) : Int) : Rat)⟩:=rfl
   rw [hstd] at hs
   obtain ⟨a,ha⟩ : ∃ a : Rat,((i : Int) : Rat) = a:=⟨_,rfl⟩
   obtain ⟨b,hb⟩ : ∃ a : Rat,((10 * (i : Int) : Int) : Rat) = a:=⟨_,rfl⟩
   obtain ⟨c,hc⟩ : ∃ a : Rat,(((i % 2 : Nat) : Int) : Rat) = a:=⟨_,rfl⟩
   rw [ha] at q1 hs
   rw [hb] at q2 hs
   rw [hc] at q3 hs
   rw [← hr] at q3
   clear ha hb hc hr hstd
   refine AW_le (t:=⟨[(4,iA i),(3,.own 800 12 0 i),(0,iA n)],[(800,.arr 169 12 (M.map encS))]⟩) (by simp [hM]) ?_
   replace hs:=Hld.mk hs
   replace hM:=Hld.mk hM
   replace hM2:=Hld.mk hM2
   refine sq ⟨[(4,iA i),(3,.own 800 12 0 i),(0,iA n)],[(800,.arr 169 12 (M.map encS))]⟩ ?_
   refine AW_seqt ⟨[(4,iA i),(3,.own 800 12 0 (i + 1)),(0,iA n)],[(800,.arr 169 12 (M2.map encS))]⟩ ?_ (by
    intro K hK
    refine AW_block ?_
    have k'1:=q1;have k'2:=q2;have k'3:=q3;have z'1:=@encQ.eq_1;have z'2:=@encS.eq_1;have z'3:=hs.out;exact ga3)
   have z'1:=hM2.out;exact gli
  ·have : i = n + 1:=by omega
   subst this
   exact ga0)
 have hFt : ((F (n + 1)).map encS).take (n + 1) = (F (n + 1)).map encS:=List.take_of_length_le (by simp [hlen])
 refine AW_freeze 800 (cb:=.arr 169 12 ((F (n + 1)).map encS)) (t:=⟨[(3,saL (F (n + 1)))],[]⟩) (by simp) (by simp [hFt,hlen]) (by simp) ?_
 have k'1:=hF;exact ga1
theorem s_stairs {n : Nat} (h1 : 1 ≤ n) (hn : n ≤ 40) : PSpec Tryz.prog 46 [iA n] (unL (staU n)):=by
 have hF:=s_fromS (l:=stS (n + 1)) (by rw [stS_len];omega) (by rw [stS_len];omega) (stS_ok (by omega)) (stS_inc _) (by rw [stS_len];exact stU_ok hn)
 rw [stS_len,Nat.add_sub_cancel] at hF
 exact s_stairsG hn hF
def BxOK (u : Un) (b : Bx) : Prop:=PSpec Tryz.prog 52 [encU u] (.tup [encX b,iA 0])
abbrev obL (l : List Ob) : AV:=.sl 2 (l.map encO)
structure OkO (o : Ob) (B : Un → Bx) : Prop where
 id1 : 1 ≤ o.id
 id2 : o.id ≤ 1073741824
 nrm : NrmU o.us
 box : ∀ u ∈ o.us,BxOK u (B u)
set_option maxHeartbeats 4000000 in
theorem s_bcheck {l : List Ob} {B : Un → Bx} (hl : l.length ≤ 64) (hO : ∀ o ∈ l,OkO o B) (hi : l.Pairwise (fun a b=>a.id < b.id)) : PSpec Tryz.prog 65 [obL l] (iA 0):=by
 have hok : Hld (∀ o ∈ l,OkO o B):=⟨hO⟩
 have hinc : Hld (∀ i (h : i + 1 < l.length),l[i].id < l[i + 1].id):=⟨fun i h=>List.pairwise_iff_getElem.1 hi i (i + 1) (by omega) h (by omega)⟩
 have hl64 : ¬ (64 : Int) < l.length:=by omega
 clear hO hi
 refine pS Tryz.func65 ?_
 intro E hE
 refine sq ⟨[(0,obL l)],[]⟩ ?_
 refine sq ⟨[(0,obL l)],[]⟩ ?_
 refine AW_seqt ⟨[],[]⟩ ?_ (by
  intro K hK
  refine lpk (G:=Nat) (fun i=>⟨[(15,iA i),(14,iA l.length),(13,obL l),(0,obL l)],[]⟩) (fun i=>i ≤ l.length) (fun i=>l.length - i) 0 (Nat.zero_le _) ?_
  intro i hi K hK
  by_cases hlt : i < l.length
  ·have hltI : (i : Int) < l.length:=by omega
   have ho:=hok.out l[i] (List.getElem_mem hlt)
   obtain ⟨o,hoe⟩ : ∃ o,l[i] = o:=⟨_,rfl⟩
   rw [hoe] at ho
   have d1 : ¬ o.id < 1:=by have:=ho.id1;omega
   have d2 : ¬ 1073741824 < o.id:=by have:=ho.id2;omega
   have hC:=Hld.mk (s_mpCheck ho.nrm)
   have hBx : Hld (∀ u ∈ o.us,BxOK u (B u)):=⟨ho.box⟩
   have hul:=ho.nrm.len
   clear ho
   refine sq ⟨[(16,bA true),(15,iA i),(14,iA l.length),(13,obL l),(0,obL l)],[]⟩ ?_
   refine sq ⟨[(15,iA i),(14,iA l.length),(13,obL l),(0,obL l)],[]⟩ ?_
   refine AW_seqt ⟨[(15,iA i),(14,iA l.length),(13,obL l),(0,obL l)],[]⟩ ?_ (by
    intro K hK
    refine AW_block ?_
    refine sq ⟨[(4,.loc 4 0),(3,iA i),(15,iA i),(14,iA l.length),(13,obL l),(0,obL l)],[(4,.box 76 (encO o))]⟩ ?_
    refine AW_seqt ⟨[(4,.loc 4 0),(15,iA i),(14,iA l.length),(13,obL l),(0,obL l)],[(4,.box 76 (encO o))]⟩ ?_ (by
     intro K hK
     rcases i with _|j
     ·repeat' (first
       |(with_reducible first|refine uK ?_|refine uQ ?_|refine uX ?_|refine jq fun K hK=>?_|refine jb ?_)|(with_reducible refine rS hE ?_;simp [*,encO])|with_reducible refine rL hE ?_|(((with_reducible show RK _ _ _ _ _ _);first|refine jn ?_|refine js fun K' hK'=>?_);simp [*,encO])|with_reducible refine rD mixed hE ?_|((with_reducible show RKQ _ _ _ _ _ _);first|refine RKQ_nilk ⟨by decide,?_⟩|(refine jv fun K' hK'=>?_;simp [*,encO]))|((with_reducible first|refine ji fun X Y hX hY=>?_|refine jr ?_|refine jk ?_|refine jx ?_);simp [*,encO])|with_reducible refine And.intro ?_ ?_|omega|(refine imp1 fun h=>?_))
      all_goals simp [encO]
     ·have hj:=hinc.out j hlt
      obtain ⟨p,hp⟩ : ∃ p,l[j] = p:=⟨_,rfl⟩
      rw [hoe,hp] at hj
      have hyp : l[j]? = some p:=by rw [List.getElem?_eq_getElem (by omega),hp]
      have hnle : ¬ o.id ≤ p.id:=by omega
      repeat' (first
       |(with_reducible first|refine uK ?_|refine uQ ?_|refine uX ?_|refine jq fun K hK=>?_|refine jb ?_)|(with_reducible refine rS hE ?_;simp [*,encO])|with_reducible refine rL hE ?_|(((with_reducible show RK _ _ _ _ _ _);first|refine jn ?_|refine js fun K' hK'=>?_);simp [*,encO])|with_reducible refine rD mixed hE ?_|((with_reducible show RKQ _ _ _ _ _ _);first|refine RKQ_nilk ⟨by decide,?_⟩|(refine jv fun K' hK'=>?_;simp [*,encO]))|((with_reducible first|refine ji fun X Y hX hY=>?_|refine jr ?_|refine jk ?_|refine jx ?_);simp [*,encO])|with_reducible refine And.intro ?_ ?_|omega|(refine imp1 fun h=>?_))
      all_goals simp [encO])
    refine AW_seqt ⟨[(4,.loc 4 0),(15,iA i),(14,iA l.length),(13,obL l),(0,obL l)],[(4,.box 76 (encO o))]⟩ ?_ (by
     intro K hK
     have k'1:=hC;have z'1:=@encO.eq_1;exact ga1)
    repeat' (first
     |(with_reducible first|refine uK ?_|refine uX ?_|refine jq fun K hK=>?_|refine jb ?_)|((with_reducible first|refine rS hE ?_|refine jn ?_|refine js fun K' hK'=>?_|refine ji fun X Y hX hY=>?_|refine jr ?_|refine jk ?_|refine jx ?_);simp [*,encO])|with_reducible refine rL hE ?_|with_reducible refine And.intro ?_ ?_|omega|(refine imp1 fun h=>?_))
    refine AW_loopk (G:=Nat) (fun k=>⟨[(52,iA k),(51,iA o.us.length),(50,unL o.us),(4,.loc 4 0),(15,iA i),(14,iA l.length),(13,obL l),(0,obL l)],[(4,.box 76 (encO o))]⟩) (fun k=>k ≤ o.us.length) (fun k=>o.us.length - k) 0 (Nat.zero_le _) (by simp [encO]) ?_
    intro k hk K hK
    by_cases hkt : k < o.us.length
    ·have hktI : (k : Int) < o.us.length:=by omega
     have hb:=hBx.out o.us[k] (List.getElem_mem hkt)
     obtain ⟨u,hu⟩ : ∃ u,o.us[k] = u:=⟨_,rfl⟩
     rw [hu] at hb
     replace hb:=Hld.mk hb
     have hb2 : Hld (PSpec Tryz.prog 52 [encU u] (.tup [encX (B u),iA 0])):=⟨hb.out⟩
     refine sq ⟨[(53,bA true),(52,iA k),(51,iA o.us.length),(50,unL o.us),(4,.loc 4 0),(15,iA i),(14,iA l.length),(13,obL l),(0,obL l)],[(4,.box 76 (encO o))]⟩ ?_
     refine sq ⟨[(52,iA k),(51,iA o.us.length),(50,unL o.us),(4,.loc 4 0),(15,iA i),(14,iA l.length),(13,obL l),(0,obL l)],[(4,.box 76 (encO o))]⟩ ?_
     refine AW_seqt ⟨[(52,iA k),(51,iA o.us.length),(50,unL o.us),(4,.loc 4 0),(15,iA i),(14,iA l.length),(13,obL l),(0,obL l)],[(4,.box 76 (encO o))]⟩ ?_ (by
      intro K hK
      refine AW_block ?_
      refine sq ⟨[(7,.loc 7 0),(52,iA k),(51,iA o.us.length),(50,unL o.us),(4,.loc 4 0),(15,iA i),(14,iA l.length),(13,obL l),(0,obL l)],[(7,.box 111 (encU u)),(4,.box 76 (encO o))]⟩ ?_
      have k'1:=hb2;exact ga1)
     exact glk
    ·have : k = o.us.length:=by omega
     subst this
     exact ga0)
   exact gli
  ·have : i = l.length:=by omega
   subst this
   exact ga0)
 exact ga0
def jonX (b : Bx) (l : List Bx) : Bx:=l.foldl joiX b
abbrev bxL (l : List Bx) : AV:=.sl 6 (l.map encX)
theorem s_joined (b : Bx) (l : List Bx) (hl : l.length ≤ 100000) : PSpec Tryz.prog 69 [bxL (b :: l)] (encX (jonX b l)):=by
 obtain ⟨F,hF⟩ : ∃ F : Nat → Bx,∀ i,F i = jonX b (l.take i):=⟨_,fun _=>rfl⟩
 have hF0 : F 0 = b:=by rw [hF];rfl
 have hFn : F l.length = jonX b l:=by rw [hF,List.take_length]
 have hFs : Hld (∀ i (h : i < l.length),F (i + 1) = joiX (F i) l[i]):=⟨fun i h=>by
  rw [hF,hF];unfold jonX;rw [List.take_succ_eq_append_getElem h,List.foldl_append];rfl⟩
 rw [← hFn]
 clear hF hFn
 have hlt0 : (l.map encX).take l.length = l.map encX:=List.take_of_length_le (by simp)
 refine pS Tryz.func69 ?_
 intro E hE
 refine sq ⟨[(2,.loc 2 0),(0,bxL (b :: l))],[(2,.box 28 (.st [iA 0,iA 0,iA 0,iA 0,iA 0,iA 0]))]⟩ ?_
 refine sq ⟨[(3,.loc 3 0),(2,.loc 2 0),(0,bxL (b :: l))],[(3,.box 28 (encX b)),(2,.box 28 (.st [iA 0,iA 0,iA 0,iA 0,iA 0,iA 0]))]⟩ ?_
 refine AW_seqt ⟨[(3,.loc 3 0),(2,.loc 2 0)],[(3,.box 28 (encX (F l.length))),(2,.box 28 (.st [iA 0,iA 0,iA 0,iA 0,iA 0,iA 0]))]⟩ ?_ (by
  intro K hK
  refine lpk (G:=Nat) (fun i=>⟨[(12,iA i),(11,iA l.length),(10,bxL l),(3,.loc 3 0),(2,.loc 2 0)],[(3,.box 28 (encX (F i))),(2,.box 28 (.st [iA 0,iA 0,iA 0,iA 0,iA 0,iA 0]))]⟩) (fun i=>i ≤ l.length) (fun i=>l.length - i) 0 (Nat.zero_le _) ?_
  intro i hi K hK
  by_cases hlt : i < l.length
  ·have hltI : (i : Int) < l.length:=by omega
   have hs:=hFs.out i hlt
   obtain ⟨c,hc⟩ : ∃ c,l[i] = c:=⟨_,rfl⟩
   obtain ⟨d,hd⟩ : ∃ d,F i = d:=⟨_,rfl⟩
   rw [hc,hd] at hs
   have hj:=Hld.mk (s_join d c)
   rw [← hs] at hj
   obtain ⟨e,he⟩ : ∃ d,F (i + 1) = d:=⟨_,rfl⟩
   rw [he] at hj
   refine AW_le (t:=⟨[(12,iA i),(11,iA l.length),(10,bxL l),(3,.loc 3 0),(2,.loc 2 0)],[(3,.box 28 (encX d)),(2,.box 28 (.st [iA 0,iA 0,iA 0,iA 0,iA 0,iA 0]))]⟩) (by simp [hd]) ?_
   clear hs
   replace hd:=Hld.mk hd
   replace he:=Hld.mk he
   have hcg : ∀ h : i < l.length,l[i] = c:=fun _=>hc
   replace hc:=()
   repeat' (first
    |(with_reducible first|refine uK ?_|refine uX ?_|refine jq fun K hK=>?_|refine jb ?_)|((with_reducible first|refine rS hE ?_|refine jn ?_|refine js fun K' hK'=>?_|refine ji fun X Y hX hY=>?_|refine jr ?_|refine jk ?_|refine jx ?_);simp [*])|with_reducible refine rL hE ?_|(refine jC (hj.out) ?_ ?_ ?_;(iterate 2 focus (simp [*] <;> fail));simp [*])|with_reducible refine And.intro ?_ ?_|omega|(refine imp1 fun h=>?_))
   exact ⟨i + 1,by omega,by omega,by simp [he.out]⟩
  ·have : i = l.length:=by omega
   subst this
   exact ga0)
 exact ga0
def chunkU (L : List Un) (m j : Nat) : List AV:=[.sl 36 (((L.drop (j * m)).take m).map encU)]
def okCU (L : List Un) (m : Nat) (pre : List (List AV)) (x : List AV) : Prop:=pre.length * m < L.length ∧ x = chunkU L m pre.length
theorem s_chunkU (L : List Un) (m : Nat) (hm : 1 ≤ m) : PSpec Tryz.prog 66 [.sl 36 (L.map encU),iA m] (.fn (.func 97) [] [.ep (.sl 36 (L.map encU)),.ep (iA m)]):=by
 have hmI : ¬ (m : Int) < 1:=by omega
 refine pS Tryz.func66 ?_
 intro E hE
 refine sq ⟨[(4,.v .nilFunc),(3,.loc 3 0),(2,.loc 2 0)],[(3,.box 3 (iA m)),(2,.box 50 (.sl 36 (L.map encU)))]⟩ ?_
 refine AW_freeze 2 (cb:=.box 50 (.sl 36 (L.map encU))) (t:=⟨[(4,.v .nilFunc),(3,.loc 3 0),(2,.ep (.sl 36 (L.map encU)))],[(3,.box 3 (iA m))]⟩) (by simp) (by simp) (by simp) ?_
 refine AW_freeze 3 (cb:=.box 3 (iA m)) (t:=⟨[(4,.v .nilFunc),(3,.ep (iA m)),(2,.ep (.sl 36 (L.map encU)))],[]⟩) (by simp) (by simp) (by simp) ?_
 exact ga0
theorem i_chunkU (L : List Un) (n m : Nat) (hnL : n = L.length) (hm : 0 < m) (hm2 : m < 1000000) (hn : n < 1152921504606846976) :
 ISpec Tryz.prog 97 [.ep (.sl 36 (L.map encU)),.ep (iA m)] (okCU L m) (fun xs=>L.length ≤ xs.length * m):=by
 refine ISpec_of Tryz.func97 rfl rfl (Nat.le_of_ble_eq_true rfl) (Nat.le_of_ble_eq_true rfl) (by simp [idfL,AV.idf]) ?_
 intro l J E hE hY Hx G hJ hG
 replace hY:=Hld.mk hY
 replace hJ:=Hld.mk hJ
 replace hG:=Hld.mk hG
 have hLn : L.length = n:=hnL.symm
 clear hnL
 obtain ⟨R,hR⟩ : ∃ R,R = L.map encU:=⟨_,rfl⟩
 have hRl : R.length = n:=by rw [hR];simpa using hLn
 have hRi : idfL R = true:=by rw [hR];simp
 have hRr : ∀ σ,renL σ R = R:=by rw [hR];simp
 have hRm : ∀ d,mentL d R = false:=by rw [hR];simp
 rw [← hR]
 have hR':=Hld.mk hR
 clear hR
 refine AW_seqt ⟨[(4,iA 0),(0,.fn (.yield l) [] []),(1,.ep (.sl 36 R)),(2,.ep (iA m))],(1999999,.hp Hx) :: gbox G⟩ ?_ (by
  intro K hK
  repeat' (first
   |(with_reducible first|refine uK ?_|refine uX ?_|refine jq fun K hK=>?_|refine jb ?_)|((with_reducible first|refine rS hE ?_|refine jn ?_|refine js fun K' hK'=>?_|refine ji fun X Y hX hY=>?_|refine jr ?_|refine jk ?_|refine jx ?_);simp [*])|with_reducible refine rL hE ?_|with_reducible refine And.intro ?_ ?_|omega|(refine imp1 fun h=>?_))
  refine ⟨by simp,by simp,?_⟩
  exact leB_g (L:=[(1999999,.hp Hx)]) (by simp [lowB]) hG.out)
 refine AW_block ?_
 refine AW_loopk (G:=List (List AV) × Heap × GL) (fun g=>⟨[(4,iA ((g.1.length * m : Nat) : Int)),(0,.fn (.yield l) [] []),(1,.ep (.sl 36 R)),(2,.ep (iA m))],(1999999,.hp g.2.1) :: gbox g.2.2⟩)
  (fun g=>(g.1.length * m < n + m) ∧ Hld (J g.1 g.2.1 g.2.2) ∧ Hld (GOk g.2.2)) (fun g=>n + m - g.1.length * m) ([],Hx,G) ⟨(show 0 * m < n + m by omega),hJ,hG⟩ ?_ ?_
 ·refine ⟨by simp,by simp,?_⟩
  exact leB_g (L:=[(1999999,.hp Hx)]) (by simp [lowB]) hG.out
 clear hJ hG
 rintro ⟨pre,Hy,D⟩ ⟨hlt,hJ,hG⟩ K hK
 replace hlt : pre.length * m < n + m:=hlt
 replace hJ : Hld (J pre Hy D):=hJ
 replace hG : Hld (GOk D):=hG
 obtain ⟨i,hi⟩ : ∃ i,i = pre.length * m:=⟨_,rfl⟩
 have hiI : ((pre.length * m : Nat) : Int) = i:=by omega
 simp only [hiI]
 have hlt2 : i < n + m:=by omega
 by_cases hin : i < n
 ·obtain ⟨e,he,he1⟩ : ∃ e : Nat,e = min m (n - i) ∧ 0 < e:=⟨_,rfl,by omega⟩
  have hen : min (m : Int) ((n - i : Nat) : Int) = e:=by omega
  have hin1 : (n : Int).toNat = n:=by omega
  have hx : chunkU L m pre.length = [.sl 36 ((R.take (((i : Int) + e).toNat)).drop i)]:=by
   simp only [chunkU,← hi]
   rw [hR'.out,show ((i : Int) + e).toNat = i + e by omega,← List.map_take,← List.map_drop,List.drop_take,show i + e - i = e by omega]
   rw [show e = min m (L.drop i).length by rw [List.length_drop,he];omega,List.take_eq_take_min]
  have hpl : pre.length * m < L.length:=by omega
  have hi':=Hld.mk hi
  have he':=Hld.mk he
  have hen1 : i + e ≤ n:=by omega
  clear hi he
  have hle : ∀ (ss : List (Nat × AV)) (H' : Heap) (G' : GL) (_ : GOk G'),leB ⟨ss,(1999999,.hp H') :: gbox G'⟩ (gbox G'):=fun ss H' G' h=>leB_g (L:=[(1999999,.hp H')]) (by simp [lowB]) h
  replace hle:=Hld.mk hle
  refine AW_seqt ⟨[(4,iA i),(0,.fn (.yield l) [] []),(1,.ep (.sl 36 R)),(2,.ep (iA m))],(1999999,.hp Hy) :: gbox D⟩ ?_ (by
   intro K hK
   repeat' (first
    |(with_reducible first|refine uK ?_|refine uX ?_|refine jq fun K hK=>?_|refine jb ?_)|((with_reducible first|refine rS hE ?_|refine jn ?_|refine js fun K' hK'=>?_|refine ji fun X Y hX hY=>?_|refine jr ?_|refine jk ?_|refine jx ?_);simp [*])|with_reducible refine rL hE ?_|with_reducible refine And.intro ?_ ?_|omega|(refine imp1 fun h=>?_))
   exact ⟨by simp,by simp,hle.out _ _ _ hG.out⟩)
  refine AW_seqE (G:=Heap × GL) (fun g=>⟨[(4,iA i),(0,.fn (.yield l) [] []),(1,.ep (.sl 36 R)),(2,.ep (iA m))],(1999999,.hp g.1) :: gbox g.2⟩) (fun g=>J (pre ++ [chunkU L m pre.length]) g.1 g.2 ∧ GOk g.2) ?_ ?_
  ·rintro ⟨Hz,F⟩ ⟨hJ2,hG2⟩
   replace hJ2:=Hld.mk hJ2
   replace hG2:=Hld.mk hG2
   repeat' (first
    |(with_reducible first|refine uK ?_|refine uX ?_|refine jq fun K hK=>?_|refine jb ?_)|((with_reducible first|refine rS hE ?_|refine jn ?_|refine js fun K' hK'=>?_|refine ji fun X Y hX hY=>?_|refine jr ?_|refine jk ?_|refine jx ?_);simp [*])|with_reducible refine rL hE ?_|with_reducible refine And.intro ?_ ?_|omega|(refine imp1 fun h=>?_))
   have h0 : (pre ++ [chunkU L m pre.length]).length * m = i + m:=by
    rw [List.length_append,List.length_singleton,Nat.add_mul,Nat.one_mul,← hi'.out]
   exact ⟨(pre ++ [chunkU L m pre.length],Hz,F),⟨(show (pre ++ [chunkU L m pre.length]).length * m < n + m by omega),hJ2,hG2⟩,(show n + m - (pre ++ [chunkU L m pre.length]).length * m < n + m - pre.length * m by rw [h0,← hi'.out];omega),by simp only [h0];exact ⟨by simp,by simp,hle.out _ _ _ hG2.out⟩⟩
  ·intro K hK
   refine AW_block ?_
   refine AW_seqt ⟨[(5,iA e),(4,iA i),(0,.fn (.yield l) [] []),(1,.ep (.sl 36 R)),(2,.ep (iA m))],(1999999,.hp Hy) :: gbox D⟩ ?_ (by
    intro K hK
    repeat' (first
     |(with_reducible first|refine uK ?_|refine uQ ?_|refine uX ?_|refine jq fun K hK=>?_|refine jb ?_)|(with_reducible refine rS hE ?_;simp [*])|with_reducible refine rL hE ?_|(((with_reducible show RK _ _ _ _ _ _);first|refine jn ?_|refine js fun K' hK'=>?_);simp [*])|with_reducible refine rD mixed hE ?_|((with_reducible show RKQ _ _ _ _ _ _);first|refine RKQ_nilk ⟨by decide,?_⟩|(refine jv fun K' hK'=>?_;simp [*]))|((with_reducible first|refine ji fun X Y hX hY=>?_|refine jr ?_|refine jk ?_|refine jx ?_);simp [*])|with_reducible refine And.intro ?_ ?_|omega|(refine imp1 fun h=>?_))
    exact ⟨by simp [hen],by simp,hle.out _ _ _ hG.out⟩)
   refine AW_seqE (G:=Heap × GL) (fun g=>⟨[(30,bA false),(4,iA i),(0,.fn (.yield l) [] []),(1,.ep (.sl 36 R)),(2,.ep (iA m))],(1999999,.hp g.1) :: gbox g.2⟩) (fun g=>J (pre ++ [chunkU L m pre.length]) g.1 g.2 ∧ GOk g.2) ?_ ?_
   ·rintro ⟨Hz,F⟩ ⟨hJ2,hG2⟩
    replace hJ2:=Hld.mk hJ2
    replace hG2:=Hld.mk hG2
    repeat' (first
     |(with_reducible first|refine uK ?_|refine uX ?_|refine jq fun K hK=>?_|refine jb ?_)|((with_reducible first|refine rS hE ?_|refine jn ?_|refine js fun K' hK'=>?_|refine ji fun X Y hX hY=>?_|refine jr ?_|refine jk ?_|refine jx ?_);simp [*])|with_reducible refine rL hE ?_|with_reducible refine And.intro ?_ ?_|omega|(refine imp1 fun h=>?_))
    exact ⟨(Hz,F),⟨hJ2.out,hG2.out⟩,by simp,by simp,hle.out _ _ _ hG2.out⟩
   ·intro K hK
    refine AW_regionY 10 rfl rfl (by rw [hE];decide) ?_
    change RK _ _ _ [_,_,_,_,_,_,_,_,_,_] _ _
    repeat' (first
     |(with_reducible first|refine uK ?_|refine uX ?_|refine jq fun K hK=>?_|refine jb ?_)|((with_reducible first|refine rS hE ?_|refine jn ?_|refine js fun K' hK'=>?_|refine ji fun X Y hX hY=>?_|refine jr ?_|refine jk ?_|refine jx ?_);simp [*])|with_reducible refine rL hE ?_|with_reducible refine And.intro ?_ ?_|omega|(refine imp1 fun h=>?_))
    rw [← hx]
    refine AYield_of (L:=[(1999999,.hp Hy)]) (hY.out pre _ ⟨hpl,rfl⟩) (by simp) rfl (by simp [lowB]) hG.out hJ.out (by simp [chunkU,idfL,AV.idf]) ?_ ?_
    ·intro i hi
     simp [mentS,mentB,AV.ment,mentL,Ct.ment,chunkU]
    ·intro Hz F hJ2 hG2
     simp
     refine hK.h _ ⟨(Hz,F),⟨hJ2,hG2⟩,by simp,by simp,?_⟩
     exact leB_g (L:=[(1999999,.hp Hz),(1999999,.hp Hy)]) (by simp [lowB]) hG2
 ·have hnm : n ≤ pre.length * m:=by omega
  have hi':=Hld.mk hi
  clear hi
  repeat' (first
   |(with_reducible first|refine uK ?_|refine uX ?_|refine jq fun K hK=>?_|refine jb ?_)|((with_reducible first|refine rS hE ?_|refine jn ?_|refine js fun K' hK'=>?_|refine ji fun X Y hX hY=>?_|refine jr ?_|refine jk ?_|refine jx ?_);simp [*])|with_reducible refine rL hE ?_|with_reducible refine And.intro ?_ ?_|omega|(refine imp1 fun h=>?_))
  exact ⟨[(1999999,.hp Hy)],D,rfl,by simp [lowB],hG.out,pre,hnm,hJ.out⟩
def chunkX (L : List Bx) (m j : Nat) : List AV:=[.sl 6 (((L.drop (j * m)).take m).map encX)]
def okCX (L : List Bx) (m : Nat) (pre : List (List AV)) (x : List AV) : Prop:=pre.length * m < L.length ∧ x = chunkX L m pre.length
theorem s_chunkX (L : List Bx) (m : Nat) (hm : 1 ≤ m) : PSpec Tryz.prog 68 [.sl 6 (L.map encX),iA m] (.fn (.func 98) [] [.ep (.sl 6 (L.map encX)),.ep (iA m)]):=by
 have hmI : ¬ (m : Int) < 1:=by omega
 refine pS Tryz.func68 ?_
 intro E hE
 refine sq ⟨[(4,.v .nilFunc),(3,.loc 3 0),(2,.loc 2 0)],[(3,.box 3 (iA m)),(2,.box 106 (.sl 6 (L.map encX)))]⟩ ?_
 refine AW_freeze 2 (cb:=.box 106 (.sl 6 (L.map encX))) (t:=⟨[(4,.v .nilFunc),(3,.loc 3 0),(2,.ep (.sl 6 (L.map encX)))],[(3,.box 3 (iA m))]⟩) (by simp) (by simp) (by simp) ?_
 refine AW_freeze 3 (cb:=.box 3 (iA m)) (t:=⟨[(4,.v .nilFunc),(3,.ep (iA m)),(2,.ep (.sl 6 (L.map encX)))],[]⟩) (by simp) (by simp) (by simp) ?_
 exact ga0
theorem i_chunkX (L : List Bx) (n m : Nat) (hnL : n = L.length) (hm : 0 < m) (hm2 : m < 1000000) (hn : n < 1152921504606846976) :
 ISpec Tryz.prog 98 [.ep (.sl 6 (L.map encX)),.ep (iA m)] (okCX L m) (fun xs=>L.length ≤ xs.length * m):=by
 refine ISpec_of Tryz.func98 rfl rfl (Nat.le_of_ble_eq_true rfl) (Nat.le_of_ble_eq_true rfl) (by simp [idfL,AV.idf]) ?_
 intro l J E hE hY Hx G hJ hG
 replace hY:=Hld.mk hY
 replace hJ:=Hld.mk hJ
 replace hG:=Hld.mk hG
 have hLn : L.length = n:=hnL.symm
 clear hnL
 obtain ⟨R,hR⟩ : ∃ R,R = L.map encX:=⟨_,rfl⟩
 have hRl : R.length = n:=by rw [hR];simpa using hLn
 have hRi : idfL R = true:=by rw [hR];simp
 have hRr : ∀ σ,renL σ R = R:=by rw [hR];simp
 have hRm : ∀ d,mentL d R = false:=by rw [hR];simp
 rw [← hR]
 have hR':=Hld.mk hR
 clear hR
 refine AW_seqt ⟨[(4,iA 0),(0,.fn (.yield l) [] []),(1,.ep (.sl 6 R)),(2,.ep (iA m))],(1999999,.hp Hx) :: gbox G⟩ ?_ (by
  intro K hK
  repeat' (first
   |(with_reducible first|refine uK ?_|refine uX ?_|refine jq fun K hK=>?_|refine jb ?_)|((with_reducible first|refine rS hE ?_|refine jn ?_|refine js fun K' hK'=>?_|refine ji fun X Y hX hY=>?_|refine jr ?_|refine jk ?_|refine jx ?_);simp [*])|with_reducible refine rL hE ?_|with_reducible refine And.intro ?_ ?_|omega|(refine imp1 fun h=>?_))
  refine ⟨by simp,by simp,?_⟩
  exact leB_g (L:=[(1999999,.hp Hx)]) (by simp [lowB]) hG.out)
 refine AW_block ?_
 refine AW_loopk (G:=List (List AV) × Heap × GL) (fun g=>⟨[(4,iA ((g.1.length * m : Nat) : Int)),(0,.fn (.yield l) [] []),(1,.ep (.sl 6 R)),(2,.ep (iA m))],(1999999,.hp g.2.1) :: gbox g.2.2⟩)
  (fun g=>(g.1.length * m < n + m) ∧ Hld (J g.1 g.2.1 g.2.2) ∧ Hld (GOk g.2.2)) (fun g=>n + m - g.1.length * m) ([],Hx,G) ⟨(show 0 * m < n + m by omega),hJ,hG⟩ ?_ ?_
 ·refine ⟨by simp,by simp,?_⟩
  exact leB_g (L:=[(1999999,.hp Hx)]) (by simp [lowB]) hG.out
 clear hJ hG
 rintro ⟨pre,Hy,D⟩ ⟨hlt,hJ,hG⟩ K hK
 replace hlt : pre.length * m < n + m:=hlt
 replace hJ : Hld (J pre Hy D):=hJ
 replace hG : Hld (GOk D):=hG
 obtain ⟨i,hi⟩ : ∃ i,i = pre.length * m:=⟨_,rfl⟩
 have hiI : ((pre.length * m : Nat) : Int) = i:=by omega
 simp only [hiI]
 have hlt2 : i < n + m:=by omega
 by_cases hin : i < n
 ·obtain ⟨e,he,he1⟩ : ∃ e : Nat,e = min m (n - i) ∧ 0 < e:=⟨_,rfl,by omega⟩
  have hen : min (m : Int) ((n - i : Nat) : Int) = e:=by omega
  have hin1 : (n : Int).toNat = n:=by omega
  have hx : chunkX L m pre.length = [.sl 6 ((R.take (((i : Int) + e).toNat)).drop i)]:=by
   simp only [chunkX,← hi]
   rw [hR'.out,show ((i : Int) + e).toNat = i + e by omega,← List.map_take,← List.map_drop,List.drop_take,show i + e - i = e by omega]
   rw [show e = min m (L.drop i).length by rw [List.length_drop,he];omega,List.take_eq_take_min]
  have hpl : pre.length * m < L.length:=by omega
  have hi':=Hld.mk hi
  have he':=Hld.mk he
  have hen1 : i + e ≤ n:=by omega
  clear hi he
  have hle : ∀ (ss : List (Nat × AV)) (H' : Heap) (G' : GL) (_ : GOk G'),leB ⟨ss,(1999999,.hp H') :: gbox G'⟩ (gbox G'):=fun ss H' G' h=>leB_g (L:=[(1999999,.hp H')]) (by simp [lowB]) h
  replace hle:=Hld.mk hle
  refine AW_seqt ⟨[(4,iA i),(0,.fn (.yield l) [] []),(1,.ep (.sl 6 R)),(2,.ep (iA m))],(1999999,.hp Hy) :: gbox D⟩ ?_ (by
   intro K hK
   repeat' (first
    |(with_reducible first|refine uK ?_|refine uX ?_|refine jq fun K hK=>?_|refine jb ?_)|((with_reducible first|refine rS hE ?_|refine jn ?_|refine js fun K' hK'=>?_|refine ji fun X Y hX hY=>?_|refine jr ?_|refine jk ?_|refine jx ?_);simp [*])|with_reducible refine rL hE ?_|with_reducible refine And.intro ?_ ?_|omega|(refine imp1 fun h=>?_))
   exact ⟨by simp,by simp,hle.out _ _ _ hG.out⟩)
  refine AW_seqE (G:=Heap × GL) (fun g=>⟨[(4,iA i),(0,.fn (.yield l) [] []),(1,.ep (.sl 6 R)),(2,.ep (iA m))],(1999999,.hp g.1) :: gbox g.2⟩) (fun g=>J (pre ++ [chunkX L m pre.length]) g.1 g.2 ∧ GOk g.2) ?_ ?_
  ·rintro ⟨Hz,F⟩ ⟨hJ2,hG2⟩
   replace hJ2:=Hld.mk hJ2
   replace hG2:=Hld.mk hG2
   repeat' (first
    |(with_reducible first|refine uK ?_|refine uX ?_|refine jq fun K hK=>?_|refine jb ?_)|((with_reducible first|refine rS hE ?_|refine jn ?_|refine js fun K' hK'=>?_|refine ji fun X Y hX hY=>?_|refine jr ?_|refine jk ?_|refine jx ?_);simp [*])|with_reducible refine rL hE ?_|with_reducible refine And.intro ?_ ?_|omega|(refine imp1 fun h=>?_))
   have h0 : (pre ++ [chunkX L m pre.length]).length * m = i + m:=by
    rw [List.length_append,List.length_singleton,Nat.add_mul,Nat.one_mul,← hi'.out]
   exact ⟨(pre ++ [chunkX L m pre.length],Hz,F),⟨(show (pre ++ [chunkX L m pre.length]).length * m < n + m by omega),hJ2,hG2⟩,(show n + m - (pre ++ [chunkX L m pre.length]).length * m < n + m - pre.length * m by rw [h0,← hi'.out];omega),by simp only [h0];exact ⟨by simp,by simp,hle.out _ _ _ hG2.out⟩⟩
  ·intro K hK
   refine AW_block ?_
   refine AW_seqt ⟨[(5,iA e),(4,iA i),(0,.fn (.yield l) [] []),(1,.ep (.sl 6 R)),(2,.ep (iA m))],(1999999,.hp Hy) :: gbox D⟩ ?_ (by
    intro K hK
    repeat' (first
     |(with_reducible first|refine uK ?_|refine uQ ?_|refine uX ?_|refine jq fun K hK=>?_|refine jb ?_)|(with_reducible refine rS hE ?_;simp [*])|with_reducible refine rL hE ?_|(((with_reducible show RK _ _ _ _ _ _);first|refine jn ?_|refine js fun K' hK'=>?_);simp [*])|with_reducible refine rD mixed hE ?_|((with_reducible show RKQ _ _ _ _ _ _);first|refine RKQ_nilk ⟨by decide,?_⟩|(refine jv fun K' hK'=>?_;simp [*]))|((with_reducible first|refine ji fun X Y hX hY=>?_|refine jr ?_|refine jk ?_|refine jx ?_);simp [*])|with_reducible refine And.intro ?_ ?_|omega|(refine imp1 fun h=>?_))
    exact ⟨by simp [hen],by simp,hle.out _ _ _ hG.out⟩)
   refine AW_seqE (G:=Heap × GL) (fun g=>⟨[(30,bA false),(4,iA i),(0,.fn (.yield l) [] []),(1,.ep (.sl 6 R)),(2,.ep (iA m))],(1999999,.hp g.1) :: gbox g.2⟩) (fun g=>J (pre ++ [chunkX L m pre.length]) g.1 g.2 ∧ GOk g.2) ?_ ?_
   ·rintro ⟨Hz,F⟩ ⟨hJ2,hG2⟩
    replace hJ2:=Hld.mk hJ2
    replace hG2:=Hld.mk hG2
    repeat' (first
     |(with_reducible first|refine uK ?_|refine uX ?_|refine jq fun K hK=>?_|refine jb ?_)|((with_reducible first|refine rS hE ?_|refine jn ?_|refine js fun K' hK'=>?_|refine ji fun X Y hX hY=>?_|refine jr ?_|refine jk ?_|refine jx ?_);simp [*])|with_reducible refine rL hE ?_|with_reducible refine And.intro ?_ ?_|omega|(refine imp1 fun h=>?_))
    exact ⟨(Hz,F),⟨hJ2.out,hG2.out⟩,by simp,by simp,hle.out _ _ _ hG2.out⟩
   ·intro K hK
    refine AW_regionY 10 rfl rfl (by rw [hE];decide) ?_
    change RK _ _ _ [_,_,_,_,_,_,_,_,_,_] _ _
    repeat' (first
     |(with_reducible first|refine uK ?_|refine uX ?_|refine jq fun K hK=>?_|refine jb ?_)|((with_reducible first|refine rS hE ?_|refine jn ?_|refine js fun K' hK'=>?_|refine ji fun X Y hX hY=>?_|refine jr ?_|refine jk ?_|refine jx ?_);simp [*])|with_reducible refine rL hE ?_|with_reducible refine And.intro ?_ ?_|omega|(refine imp1 fun h=>?_))
    rw [← hx]
    refine AYield_of (L:=[(1999999,.hp Hy)]) (hY.out pre _ ⟨hpl,rfl⟩) (by simp) rfl (by simp [lowB]) hG.out hJ.out (by simp [chunkX,idfL,AV.idf]) ?_ ?_
    ·intro i hi
     simp [mentS,mentB,AV.ment,mentL,Ct.ment,chunkX]
    ·intro Hz F hJ2 hG2
     simp
     refine hK.h _ ⟨(Hz,F),⟨hJ2,hG2⟩,by simp,by simp,?_⟩
     exact leB_g (L:=[(1999999,.hp Hz),(1999999,.hp Hy)]) (by simp [lowB]) hG2
 ·have hnm : n ≤ pre.length * m:=by omega
  have hi':=Hld.mk hi
  clear hi
  repeat' (first
   |(with_reducible first|refine uK ?_|refine uX ?_|refine jq fun K hK=>?_|refine jb ?_)|((with_reducible first|refine rS hE ?_|refine jn ?_|refine js fun K' hK'=>?_|refine ji fun X Y hX hY=>?_|refine jr ?_|refine jk ?_|refine jx ?_);simp [*])|with_reducible refine rL hE ?_|with_reducible refine And.intro ?_ ?_|omega|(refine imp1 fun h=>?_))
  exact ⟨[(1999999,.hp Hy)],D,rfl,by simp [lowB],hG.out,pre,hnm,hJ.out⟩
theorem m_cloneP (l : List Un) (hl : l.length ≤ 1000000) : MSpec Tryz.prog 67 [.sl 36 (l.map encU)] [] (fun res bf=>(res = .own 5 36 0 l.length ∧ bf 5 = some (.arr 111 36 (l.map encU))) ∨ (l = [] ∧ res = .v (.slice none 0 0))):=by
 refine MSpec_of Tryz.func67 rfl rfl (Nat.le_of_ble_eq_true rfl) (Nat.le_of_ble_eq_true rfl) ?_
 intro E hE
 refine AW_seq fun K hK=>?_
 refine AW_region (by rw [hE];decide) ?_
 simp
 refine hK _ ?_
 clear hK
 refine AW_seq fun K0 hK0=>?_
 refine AW_seq fun K1 hK1=>?_
 refine AW_region (by rw [hE];decide) ?_
 simp
 have fin1 : ∀ s',s'.le ⟨[(4,bA true),(0,.sl 36 (l.map encU))],[]⟩ → l = [] → K1 s':=by
  intro s' hs' hl0
  refine hK1 _ ?_
  refine AW_le hs' ?_
  refine AW_cond (t:=true) (by simp) ?_ ?_
  ·intro _
   refine AW_seq fun K hK=>?_
   refine AW_region (by rw [hE];decide) ?_
   simp
   refine hK _ ?_
   clear hK
   refine AW_ret ?_
   simp [hl0]
  ·intro h;cases h
 have fin2 : ∀ s',s'.le ⟨[(4,bA false),(0,.sl 36 (l.map encU))],[]⟩ → K1 s':=by
  intro s' hs'
  refine hK1 _ ?_
  refine AW_le hs' ?_
  refine AW_cond (t:=false) (by simp) ?_ ?_
  ·intro h;cases h
  intro _
  refine AW_skip ?_
  simp
  refine hK0 _ ?_
  refine AW_seq fun K hK=>?_
  refine AW_region (by rw [hE];decide) ?_
  simp
  repeat' apply And.intro
  all_goals try omega
  all_goals try decide
  refine hK _ ?_
  clear hK
  refine AW_ret ?_
  simp
 constructor
 ·intro h
  exact fin2 _ (by simp)
 ·intro h
  refine ⟨?_,?_⟩
  ·exact fin2 _ (by simp)
  ·exact fin1 _ (by simp) h
theorem r_cloneP (l : List Un) (hl : l.length ≤ 1000000) : RSpec Tryz.prog 67 [.sl 36 (l.map encU)] 111 36 (l.map encU) :=
 MSpec.mono (m_cloneP l hl) (by
  rintro res bf (⟨rfl,h⟩|⟨rfl,rfl⟩)
  ·exact .inl ⟨5,_,by simp,h,List.take_of_length_le (by simp)⟩
  ·exact .inr ⟨rfl,rfl⟩)
theorem s_cloneP (l : List Un) (hl : l.length ≤ 1000000) : PSpec Tryz.prog 67 [.sl 36 (l.map encU)] (.sl 36 (l.map encU)):=(r_cloneP l hl).toP (by simp)
abbrev rwH (l : List Ht) : Ct:=.arr 101 2 (l.map encH)
abbrev vrH (id n : Nat) : Ct:=.box 39 (.own id 2 0 n)
def hitsF (B : Un → Bx) (b : Bx) (lf : Lf) (n : Nat) : List Ht:=(List.range n).flatMap fun (k : Nat)=>match lf.us[k]? with
 |some u=>if meeX (B u) b then [⟨lf.o,lf.first + (k : Int)⟩] else []
 |none=>[]
def visF (t : Tr) (B : Un → Bx) (b : Bx) : Nat → Nat → List Ht × Nat
 |0,i=>match t.lv[i]? with
  |some lf=>if meeX lf.b b then (hitsF B b lf lf.us.length,1) else ([],1)
  |none=>([],1)
 |k + 1,i=>match t.ns[k]? with
  |some l=>match l[i]? with
   |some nd=>if meeX nd.b b then (List.range nd.count.toNat).foldl (fun a j=>(a.1 ++ (visF t B b k (nd.first.toNat + j)).1,a.2 + (visF t B b k (nd.first.toNat + j)).2)) ([],1) else ([],1)
   |none=>([],1)
  |none=>([],1)
def nodF (t : Tr) (B : Un → Bx) (b : Bx) (k first n : Nat) : List Ht × Nat:=(List.range n).foldl (fun a j=>(a.1 ++ (visF t B b k (first + j)).1,a.2 + (visF t B b k (first + j)).2)) ([],1)
theorem nodF_succ (t : Tr) (B : Un → Bx) (b : Bx) (k first n : Nat) : nodF t B b k first (n + 1) = ((nodF t B b k first n).1 ++ (visF t B b k (first + n)).1,(nodF t B b k first n).2 + (visF t B b k (first + n)).2):=by
 unfold nodF
 rw [List.range_succ,List.foldl_append]
 rfl
theorem nodF_mono (t : Tr) (B : Un → Bx) (b : Bx) (k first : Nat) {m n : Nat} (h : m ≤ n) : (nodF t B b k first m).1.length ≤ (nodF t B b k first n).1.length ∧ (nodF t B b k first m).2 ≤ (nodF t B b k first n).2:=by
 induction n with
 |zero=>have : m = 0:=by omega
        subst this;simp
 |succ n ih =>
  by_cases he : m = n + 1
  ·subst he;simp
  ·have:=ih (by omega)
   rw [nodF_succ]
   simp
   omega
theorem hitsF_succ (B : Un → Bx) (b : Bx) (lf : Lf) (n : Nat) (h : n < lf.us.length) : hitsF B b lf (n + 1) = hitsF B b lf n ++ (if meeX (B lf.us[n]) b then [⟨lf.o,lf.first + n⟩] else []):=by
 unfold hitsF
 rw [List.range_succ,List.flatMap_append]
 simp [h]
theorem hitsF_len (B : Un → Bx) (b : Bx) (lf : Lf) : ∀ n,(hitsF B b lf n).length ≤ n
 |0=>by simp [hitsF]
 |n + 1=>by
  have:=hitsF_len B b lf n
  have e : hitsF B b lf (n + 1) = hitsF B b lf n ++ (match lf.us[n]? with
   |some u=>if meeX (B u) b then [⟨lf.o,lf.first + n⟩] else []
   |none=>[]):=by unfold hitsF;rw [List.range_succ,List.flatMap_append];simp
  rw [e,List.length_append]
  have : (match lf.us[n]? with
   |some u=>if meeX (B u) b then [(⟨lf.o,lf.first + n⟩ : Ht)] else []
   |none=>[]).length ≤ 1:=by
   split
   ·split <;> simp
   ·simp
  omega
def ValT (t : Tr) (B : Un → Bx) : Nat → Nat → Prop
 |0,i=>∃ lf,t.lv[i]? = some lf ∧ lf.us.length ≤ 100000 ∧ (0 ≤ lf.first ∧ lf.first ≤ 1000000) ∧ ∀ u ∈ lf.us,BxOK u (B u)
 |k + 1,i=>∃ l nd,t.ns[k]? = some l ∧ l[i]? = some nd ∧ (0 ≤ nd.first ∧ 0 ≤ nd.count ∧ nd.first + nd.count ≤ 1000000) ∧ ∀ j,j < nd.count.toNat → ValT t B k (nd.first.toNat + j)
abbrev visV (t : Tr) (b : Bx) : AV:=.fn (.func 51) [] [.loc 1000000 0,.ep (encT t),.ep (encX b),.loc 1000001 0,.loc 1000002 0]
abbrev visS (t : Tr) (b : Bx) (v : Int) (id n : Nat) (H : List Ht) : List (Nat × Ct):=[(1000000,.box 3 (iA v)),(1000001,vrH id n),(id,rwH H),(1000002,.box 114 (visV t b))]
set_option maxHeartbeats 8000000 in
theorem m_visit0 (t : Tr) (B : Un → Bx) (b : Bx) (i : Nat) (H : List Ht) (v : Nat) (hV : ValT t B 0 i) (hH : H.length + (visF t B b 0 i).1.length ≤ 1000000) (hv : v ≤ 1000000000) (hi : i ≤ 1000000) :
 MSpec Tryz.prog 51 [iA (-1),iA i,.loc 1000000 0,.ep (encT t),.ep (encX b),.loc 1000001 0,.loc 1000002 0] (visS t b v 1000003 H.length H)
  (fun res bf=>res = .tup [] ∧ bf 1000000 = some (.box 3 (iA (v + (visF t B b 0 i).2 : Nat))) ∧ bf 1000001 = some (vrH 900 (H ++ (visF t B b 0 i).1).length) ∧ bf 900 = some (rwH (H ++ (visF t B b 0 i).1)) ∧ bf 1000002 = some (.box 114 (visV t b))):=by
 obtain ⟨lf,hlf,hul,⟨hf1,hf2⟩,hB⟩:=hV
 have hit : i < t.lv.length:=(List.getElem?_eq_some_iff.1 hlf).1
 have hlfg : ∀ h : i < t.lv.length,t.lv[i] = lf:=fun _=>(List.getElem?_eq_some_iff.1 hlf).2
 have hm:=Hld.mk (s_meets ⟨lf.b.x0,lf.b.x1,lf.b.y0,lf.b.y1,lf.b.t0,lf.b.t1⟩ b)
 have hmb : meeX ⟨lf.b.x0,lf.b.x1,lf.b.y0,lf.b.y1,lf.b.t0,lf.b.t1⟩ b = meeX lf.b b:=rfl
 rw [hmb] at hm
 clear hmb
 rcases hmv : meeX lf.b b with _|_
 ·have e : visF t B b 0 i = ([],1):=by simp [visF,hlf,hmv]
  rw [e] at hH ⊢
  rw [hmv] at hm
  clear hB hmv e
  refine MSpec_of Tryz.func51 rfl rfl (Nat.le_of_ble_eq_true rfl) (Nat.le_of_ble_eq_true rfl) ?_
  intro E hE
  refine AW_ren 1000003 900 (cb:=rwH H) (t:=⟨[(0,iA (-1)),(1,iA i),(2,.loc 1000000 0),(3,.ep (encT t)),(4,.ep (encX b)),(5,.loc 1000001 0),(6,.loc 1000002 0)],visS t b v 900 H.length H⟩) (by simp) (by simp) (by simp) (by simp [sw]) (by simp [sw]) ?_
  refine sq ⟨[(0,iA (-1)),(1,iA i),(2,.loc 1000000 0),(3,.ep (encT t)),(4,.ep (encX b)),(5,.loc 1000001 0),(6,.loc 1000002 0)],visS t b (v + 1) 900 H.length H⟩ ?_
  have k'1:=hm;have z'1:=@encF.eq_1;have z'2:=@encX.eq_1;exact ga1
 ·have e : visF t B b 0 i = (hitsF B b lf lf.us.length,1):=by simp [visF,hlf,hmv]
  rw [e] at hH ⊢
  rw [hmv] at hm
  have hB' : Hld (∀ u ∈ lf.us,BxOK u (B u)):=⟨hB⟩
  obtain ⟨F,hF⟩ : ∃ F : Nat → List Ht,∀ j,F j = H ++ hitsF B b lf j:=⟨_,fun _=>rfl⟩
  have hF0 : F 0 = H:=by rw [hF];simp [hitsF]
  have hFs : Hld (∀ j (h : j < lf.us.length),F (j + 1) = F j ++ (if meeX (B lf.us[j]) b then [⟨lf.o,lf.first + (j : Int)⟩] else [])):=⟨fun j h=>by rw [hF,hF,hitsF_succ _ _ _ _ h,List.append_assoc]⟩
  have hFl : Hld (∀ j,(F j).length ≤ 1000000 + j):=⟨fun j=>by rw [hF,List.length_append];have:=hitsF_len B b lf j;omega⟩
  have hFn : H ++ hitsF B b lf lf.us.length = F lf.us.length:=(hF _).symm
  rw [hFn]
  clear hB hmv e hF hFn hH
  refine MSpec_of Tryz.func51 rfl rfl (Nat.le_of_ble_eq_true rfl) (Nat.le_of_ble_eq_true rfl) ?_
  intro E hE
  refine AW_ren 1000003 900 (cb:=rwH H) (t:=⟨[(0,iA (-1)),(1,iA i),(2,.loc 1000000 0),(3,.ep (encT t)),(4,.ep (encX b)),(5,.loc 1000001 0),(6,.loc 1000002 0)],visS t b v 900 H.length H⟩) (by simp) (by simp) (by simp) (by simp [sw]) (by simp [sw]) ?_
  refine sq ⟨[(0,iA (-1)),(1,iA i),(2,.loc 1000000 0),(3,.ep (encT t)),(4,.ep (encX b)),(5,.loc 1000001 0),(6,.loc 1000002 0)],visS t b (v + 1) 900 H.length H⟩ ?_
  repeat' (first
   |(with_reducible first|refine uK ?_|refine uX ?_|refine jq fun K hK=>?_|refine jb ?_)|((with_reducible first|refine rS hE ?_|refine jn ?_|refine js fun K' hK'=>?_|refine ji fun X Y hX hY=>?_|refine jr ?_|refine jk ?_|refine jx ?_);simp [*,encF,encX])|with_reducible refine rL hE ?_|(refine jC (hm.out) ?_ ?_ ?_;(iterate 2 focus (simp [*,encF,encX] <;> fail));simp [*,encF,encX])|with_reducible refine And.intro ?_ ?_|omega|(refine imp1 fun h=>?_))
  refine AW_loopk (G:=Nat) (fun j=>⟨[(33,iA j),(32,iA lf.us.length),(31,unL lf.us),(9,.loc 9 0),(2,.loc 1000000 0),(3,.ep (encT t)),(4,.ep (encX b)),(5,.loc 1000001 0),(6,.loc 1000002 0)],(9,.box 52 (encF lf)) :: visS t b (v + 1) 900 (F j).length (F j)⟩) (fun j=>j ≤ lf.us.length) (fun j=>lf.us.length - j) 0 (Nat.zero_le _) (by simp [hF0,encF,encX]) ?_
  intro j hj K hK
  by_cases hlt : j < lf.us.length
  ·have hltI : (j : Int) < lf.us.length:=by omega
   have hs:=hFs.out j hlt
   have hl:=hFl.out j
   have hb:=hB'.out lf.us[j] (List.getElem_mem hlt)
   obtain ⟨u,hu⟩ : ∃ u,lf.us[j] = u:=⟨_,rfl⟩
   obtain ⟨M,hM⟩ : ∃ M,F j = M:=⟨_,rfl⟩
   obtain ⟨M2,hM2⟩ : ∃ M,F (j + 1) = M:=⟨_,rfl⟩
   rw [hu,hM,hM2] at hs
   rw [hM] at hl
   rw [hu] at hb
   have hb2 : Hld (PSpec Tryz.prog 52 [encU u] (.tup [encX (B u),iA 0])):=⟨hb⟩
   have hm2:=Hld.mk (s_meets (B u) b)
   have hug : ∀ h : j < lf.us.length,lf.us[j] = u:=fun _=>hu
   have hMt : (M.map encH).take M.length = M.map encH:=List.take_of_length_le (by simp)
   refine AW_le (t:=⟨[(33,iA j),(32,iA lf.us.length),(31,unL lf.us),(9,.loc 9 0),(2,.loc 1000000 0),(3,.ep (encT t)),(4,.ep (encX b)),(5,.loc 1000001 0),(6,.loc 1000002 0)],(9,.box 52 (encF lf)) :: visS t b (v + 1) 900 M.length M⟩) (by simp [hM]) ?_
   replace hM:=Hld.mk hM
   replace hM2:=Hld.mk hM2
   replace hu:=()
   replace hs:=Hld.mk hs
   clear hb
   refine sq ⟨[(34,bA true),(33,iA j),(32,iA lf.us.length),(31,unL lf.us),(9,.loc 9 0),(2,.loc 1000000 0),(3,.ep (encT t)),(4,.ep (encX b)),(5,.loc 1000001 0),(6,.loc 1000002 0)],(9,.box 52 (encF lf)) :: visS t b (v + 1) 900 M.length M⟩ ?_
   refine sq ⟨[(33,iA j),(32,iA lf.us.length),(31,unL lf.us),(9,.loc 9 0),(2,.loc 1000000 0),(3,.ep (encT t)),(4,.ep (encX b)),(5,.loc 1000001 0),(6,.loc 1000002 0)],(9,.box 52 (encF lf)) :: visS t b (v + 1) 900 M.length M⟩ ?_
   refine AW_seqt ⟨[(33,iA j),(32,iA lf.us.length),(31,unL lf.us),(9,.loc 9 0),(2,.loc 1000000 0),(3,.ep (encT t)),(4,.ep (encX b)),(5,.loc 1000001 0),(6,.loc 1000002 0)],(9,.box 52 (encF lf)) :: visS t b (v + 1) 900 M2.length M2⟩ ?_ (by
    intro K hK
    refine AW_block ?_
    refine sq ⟨[(11,.loc 11 0),(10,iA j),(33,iA j),(32,iA lf.us.length),(31,unL lf.us),(9,.loc 9 0),(2,.loc 1000000 0),(3,.ep (encT t)),(4,.ep (encX b)),(5,.loc 1000001 0),(6,.loc 1000002 0)],(11,.box 111 (encU u)) :: (9,.box 52 (encF lf)) :: visS t b (v + 1) 900 M.length M⟩ ?_
    refine AW_seqt ⟨[(13,iA 0),(12,.loc 12 0),(10,iA j),(33,iA j),(32,iA lf.us.length),(31,unL lf.us),(9,.loc 9 0),(2,.loc 1000000 0),(3,.ep (encT t)),(4,.ep (encX b)),(5,.loc 1000001 0),(6,.loc 1000002 0)],(12,.box 28 (encX (B u))) :: (9,.box 52 (encF lf)) :: visS t b (v + 1) 900 M.length M⟩ ?_ (by
     intro K hK
     have k'1:=hb2;exact ga1)
    rcases hmu : meeX (B u) b with _|_
    ·have hs2 : Hld (M2 = M):=⟨by have:=hs.out;rw [hmu] at this;simpa using this⟩
     rw [hmu] at hm2
     clear hs hmu
     have k'1:=hm2;have z'1:=hs2.out;exact ga1
    ·have hs2 : Hld (M2 = M ++ [⟨lf.o,lf.first + (j : Int)⟩]):=⟨by have:=hs.out;rw [hmu] at this;simpa using this⟩
     rw [hmu] at hm2
     clear hs hmu
     have k'1:=hm2;have z'1:=@encF.eq_1;have z'2:=@encH.eq_1;have z'3:=hs2.out;exact ga1)
   have z'1:=hM2.out;exact glj
  ·have : j = lf.us.length:=by omega
   subst this
   exact ga0
set_option maxHeartbeats 8000000 in
theorem m_visit (t : Tr) (B : Un → Bx) (b : Bx) (hns : t.ns.length ≤ 1000000) : ∀ (k i : Nat) (H : List Ht) (v : Nat),ValT t B k i → H.length + (visF t B b k i).1.length ≤ 1000000 → v + (visF t B b k i).2 ≤ 1000000000 → i ≤ 1000000 →
 MSpec Tryz.prog 51 [iA ((k : Int) - 1),iA i,.loc 1000000 0,.ep (encT t),.ep (encX b),.loc 1000001 0,.loc 1000002 0] (visS t b v 1000003 H.length H)
  (fun res bf=>res = .tup [] ∧ bf 1000000 = some (.box 3 (iA (v + (visF t B b k i).2 : Nat))) ∧ bf 1000001 = some (vrH 900 (H ++ (visF t B b k i).1).length) ∧ bf 900 = some (rwH (H ++ (visF t B b k i).1)) ∧ bf 1000002 = some (.box 114 (visV t b)))
 |0,i,H,v,hV,hH,hv,hi=>m_visit0 t B b i H v hV hH (by omega) hi
 |k + 1,i,H,v,hV,hH,hv,hi=>by
  have hkI : (((k + 1 : Nat) : Int) - 1) = k:=by omega
  rw [hkI]
  clear hkI
  obtain ⟨l,nd,hl,hnd,⟨hn1,hn2,hn3⟩,hch⟩:=hV
  have hkt : k < t.ns.length:=(List.getElem?_eq_some_iff.1 hl).1
  have hktg : ∀ h : k < t.ns.length,t.ns[k] = l:=fun _=>(List.getElem?_eq_some_iff.1 hl).2
  have hit : i < l.length:=(List.getElem?_eq_some_iff.1 hnd).1
  have hitg : ∀ h : i < l.length,l[i] = nd:=fun _=>(List.getElem?_eq_some_iff.1 hnd).2
  have hm:=Hld.mk (s_meets ⟨nd.b.x0,nd.b.x1,nd.b.y0,nd.b.y1,nd.b.t0,nd.b.t1⟩ b)
  have hmb : meeX ⟨nd.b.x0,nd.b.x1,nd.b.y0,nd.b.y1,nd.b.t0,nd.b.t1⟩ b = meeX nd.b b:=rfl
  rw [hmb] at hm
  clear hmb
  have hkn : ¬ (k : Int) < 0:=by omega
  rcases hmv : meeX nd.b b with _|_
  ·have e : visF t B b (k + 1) i = ([],1):=by simp [visF,hl,hnd,hmv]
   rw [e] at hH hv ⊢
   rw [hmv] at hm
   clear hch hmv e
   refine MSpec_of Tryz.func51 rfl rfl (Nat.le_of_ble_eq_true rfl) (Nat.le_of_ble_eq_true rfl) ?_
   intro E hE
   refine AW_ren 1000003 900 (cb:=rwH H) (t:=⟨[(0,iA k),(1,iA i),(2,.loc 1000000 0),(3,.ep (encT t)),(4,.ep (encX b)),(5,.loc 1000001 0),(6,.loc 1000002 0)],visS t b v 900 H.length H⟩) (by simp) (by simp) (by simp) (by simp [sw]) (by simp [sw]) ?_
   refine sq ⟨[(0,iA k),(1,iA i),(2,.loc 1000000 0),(3,.ep (encT t)),(4,.ep (encX b)),(5,.loc 1000001 0),(6,.loc 1000002 0)],visS t b (v + 1) 900 H.length H⟩ ?_
   have k'1:=hm;have z'1:=@encN.eq_1;have z'2:=@encX.eq_1;exact ga1
  ·have e : visF t B b (k + 1) i = nodF t B b k nd.first.toNat nd.count.toNat:=by simp [visF,nodF,hl,hnd,hmv]
   rw [e] at hH hv ⊢
   rw [hmv] at hm
   obtain ⟨c,hc⟩ : ∃ c : Nat,nd.count.toNat = c:=⟨_,rfl⟩
   have hcI : nd.count = (c : Int):=by omega
   obtain ⟨f,hf⟩ : ∃ c : Nat,nd.first.toNat = c:=⟨_,rfl⟩
   have hfI : nd.first = (f : Int):=by omega
   rw [hc,hf] at hH hv ⊢
   rw [hc,hf] at hch
   have hstep : Hld (∀ j,j < c → ∀ (H2 : List Ht) (v2 : Nat),H2 = H ++ (nodF t B b k f j).1 → v2 = v + (nodF t B b k f j).2 → MSpec Tryz.prog 51 [iA ((k : Int) - 1),iA (f + j : Nat),.loc 1000000 0,.ep (encT t),.ep (encX b),.loc 1000001 0,.loc 1000002 0] (visS t b v2 1000003 H2.length H2)
    (fun res bf=>res = .tup [] ∧ bf 1000000 = some (.box 3 (iA (v + (nodF t B b k f (j + 1)).2 : Nat))) ∧ bf 1000001 = some (vrH 900 (H ++ (nodF t B b k f (j + 1)).1).length) ∧ bf 900 = some (rwH (H ++ (nodF t B b k f (j + 1)).1)) ∧ bf 1000002 = some (.box 114 (visV t b)))):=⟨by
    intro j hj H2 v2 h1 h2
    have hmo:=nodF_mono t B b k f (show j + 1 ≤ c by omega)
    rw [nodF_succ] at hmo
    rw [List.length_append] at hmo
    have:=m_visit t B b hns k (f + j) H2 v2 (hch j hj) (by rw [h1,List.length_append];simp at hmo hH;omega) (by rw [h2];simp at hmo hv;omega) (by omega)
    rw [h1,h2] at this ⊢
    rw [nodF_succ]
    simpa [List.append_assoc,Nat.add_assoc] using this⟩
   obtain ⟨F,hF⟩ : ∃ F : Nat → List Ht,∀ j,F j = H ++ (nodF t B b k f j).1:=⟨_,fun _=>rfl⟩
   obtain ⟨V,hVe⟩ : ∃ V : Nat → Nat,∀ j,V j = v + (nodF t B b k f j).2:=⟨_,fun _=>rfl⟩
   have hF0 : F 0 = H:=by rw [hF];simp [nodF]
   have hV0 : V 0 = v + 1:=by rw [hVe];simp [nodF]
   have hst : Hld (∀ j,j < c → MSpec Tryz.prog 51 [iA ((k : Int) - 1),iA (f + j : Nat),.loc 1000000 0,.ep (encT t),.ep (encX b),.loc 1000001 0,.loc 1000002 0] (visS t b (V j : Nat) 1000003 (F j).length (F j))
    (fun res bf=>res = .tup [] ∧ bf 1000000 = some (.box 3 (iA (V (j + 1) : Nat))) ∧ bf 1000001 = some (vrH 900 (F (j + 1)).length) ∧ bf 900 = some (rwH (F (j + 1))) ∧ bf 1000002 = some (.box 114 (visV t b)))):=⟨fun j hj=>by
    have:=hstep.out j hj (F j) (V j) (hF j) (hVe j)
    rw [hF (j + 1),hVe (j + 1)]
    exact this⟩
   have hFc : H ++ (nodF t B b k f c).1 = F c:=(hF c).symm
   have hVc : v + (nodF t B b k f c).2 = V c:=(hVe c).symm
   rw [hFc,hVc]
   have hc2 : c ≤ 1000000:=by omega
   have hvb : v ≤ 1000000000:=by omega
   have hf2 : f + c ≤ 1000000:=by omega
   clear hstep hF hVe hFc hVc hH hv hch hmv e hc hf
   replace hcI:=Hld.mk hcI
   replace hF0:=Hld.mk hF0
   replace hV0:=Hld.mk hV0
   replace hfI:=Hld.mk hfI
   refine MSpec_of Tryz.func51 rfl rfl (Nat.le_of_ble_eq_true rfl) (Nat.le_of_ble_eq_true rfl) ?_
   intro E hE
   refine AW_ren 1000003 900 (cb:=rwH H) (t:=⟨[(0,iA k),(1,iA i),(2,.loc 1000000 0),(3,.ep (encT t)),(4,.ep (encX b)),(5,.loc 1000001 0),(6,.loc 1000002 0)],visS t b v 900 H.length H⟩) (by simp) (by simp) (by simp) (by simp [sw]) (by simp [sw]) ?_
   refine sq ⟨[(0,iA k),(1,iA i),(2,.loc 1000000 0),(3,.ep (encT t)),(4,.ep (encX b)),(5,.loc 1000001 0),(6,.loc 1000002 0)],visS t b (v + 1) 900 H.length H⟩ ?_
   repeat' (first
    |(with_reducible first|refine uK ?_|refine uX ?_|refine jq fun K hK=>?_|refine jb ?_)|((with_reducible first|refine rS hE ?_|refine jn ?_|refine js fun K' hK'=>?_|refine ji fun X Y hX hY=>?_|refine jr ?_|refine jk ?_|refine jx ?_);simp [*,encN,encX,hcI.out,hfI.out])|with_reducible refine rL hE ?_|(refine jC (hm.out) ?_ ?_ ?_;(iterate 2 focus (simp [*,encN,encX,hcI.out,hfI.out] <;> fail));simp [*,encN,encX,hcI.out,hfI.out])|with_reducible refine And.intro ?_ ?_|omega|(refine imp1 fun h=>?_))
   refine AW_loopk (G:=Nat) (fun j=>⟨[(76,iA j),(75,iA c),(14,.loc 14 0),(0,iA k),(1,iA i),(2,.loc 1000000 0),(3,.ep (encT t)),(4,.ep (encX b)),(5,.loc 1000001 0),(6,.loc 1000002 0)],(14,.box 66 (encN nd)) :: visS t b (V j : Nat) 900 (F j).length (F j)⟩) (fun j=>j ≤ c) (fun j=>c - j) 0 (Nat.zero_le _) (by simp [hF0.out,hV0.out,encN,encX,hcI.out,hfI.out]) ?_
   intro j hj K hK
   by_cases hlt : j < c
   ·have hltI : (j : Int) < c:=by omega
    have hsp:=hst.out j hlt
    obtain ⟨M,hM⟩ : ∃ M,F j = M:=⟨_,rfl⟩
    obtain ⟨M2,hM2⟩ : ∃ M,F (j + 1) = M:=⟨_,rfl⟩
    obtain ⟨w,hw⟩ : ∃ w,V j = w:=⟨_,rfl⟩
    obtain ⟨w2,hw2⟩ : ∃ w,V (j + 1) = w:=⟨_,rfl⟩
    rw [hM,hw] at hsp
    rw [hM2,hw2] at hsp
    refine AW_le (t:=⟨[(76,iA j),(75,iA c),(14,.loc 14 0),(0,iA k),(1,iA i),(2,.loc 1000000 0),(3,.ep (encT t)),(4,.ep (encX b)),(5,.loc 1000001 0),(6,.loc 1000002 0)],(14,.box 66 (encN nd)) :: visS t b (w : Nat) 900 M.length M⟩) (by simp [hM,hw]) ?_
    replace hM:=Hld.mk hM
    replace hM2:=Hld.mk hM2
    replace hw:=Hld.mk hw
    replace hw2:=Hld.mk hw2
    replace hsp:=Hld.mk hsp
    refine sq ⟨[(77,bA true),(76,iA j),(75,iA c),(14,.loc 14 0),(0,iA k),(1,iA i),(2,.loc 1000000 0),(3,.ep (encT t)),(4,.ep (encX b)),(5,.loc 1000001 0),(6,.loc 1000002 0)],(14,.box 66 (encN nd)) :: visS t b (w : Nat) 900 M.length M⟩ ?_
    refine sq ⟨[(76,iA j),(75,iA c),(14,.loc 14 0),(0,iA k),(1,iA i),(2,.loc 1000000 0),(3,.ep (encT t)),(4,.ep (encX b)),(5,.loc 1000001 0),(6,.loc 1000002 0)],(14,.box 66 (encN nd)) :: visS t b (w : Nat) 900 M.length M⟩ ?_
    refine AW_seqt ⟨[(76,iA j),(75,iA c),(14,.loc 14 0),(0,iA k),(1,iA i),(2,.loc 1000000 0),(3,.ep (encT t)),(4,.ep (encX b)),(5,.loc 1000001 0),(6,.loc 1000002 0)],(14,.box 66 (encN nd)) :: visS t b (w2 : Nat) 901 M2.length M2⟩ ?_ (by
     intro K hK
     refine AW_block ?_
     refine sq ⟨[(15,iA j),(76,iA j),(75,iA c),(14,.loc 14 0),(0,iA k),(1,iA i),(2,.loc 1000000 0),(3,.ep (encT t)),(4,.ep (encX b)),(5,.loc 1000001 0),(6,.loc 1000002 0)],(14,.box 66 (encN nd)) :: visS t b (w : Nat) 900 M.length M⟩ ?_
     repeat' (first
      |(with_reducible first|refine uK ?_|refine uX ?_|refine jq fun K hK=>?_|refine jb ?_)|((with_reducible first|refine rS hE ?_|refine jn ?_|refine js fun K' hK'=>?_|refine ji fun X Y hX hY=>?_|refine jr ?_|refine jk ?_|refine jx ?_);simp [*,encN,hfI.out])|with_reducible refine rL hE ?_|with_reducible refine And.intro ?_ ?_|omega|(refine imp1 fun h=>?_))
     refine acall_boxes hsp.out (nm [(1000003,900)]) (nm [(900,901)]) [(1000000,.box 3 (iA w2)),(1000001,vrH 900 M2.length),(900,rwH M2),(1000002,.box 114 (visV t b))] (.tup []) (by rintro res bf ⟨rfl,h1,h2,h3,h4⟩;simp;exact ⟨h1,h2,h3,h4⟩) (by simp) (by simp) (by simp) (by simp) (by simp) (by simp) (by simp) ?_
     simp
     have z'1:=@encN.eq_1;have z'2:=hfI.out;exact ga0)
    refine AW_ren 901 900 (cb:=rwH M2) (t:=⟨[(76,iA j),(75,iA c),(14,.loc 14 0),(0,iA k),(1,iA i),(2,.loc 1000000 0),(3,.ep (encT t)),(4,.ep (encX b)),(5,.loc 1000001 0),(6,.loc 1000002 0)],(14,.box 66 (encN nd)) :: visS t b (w2 : Nat) 900 M2.length M2⟩) (by simp) (by simp) (by simp) (by simp [sw]) (by simp [sw]) ?_
    have z'1:=hM2.out;have z'2:=hw2.out;exact glj
   ·have : j = c:=by omega
    subst this
    exact ga0
def srcF (t : Tr) (B : Un → Bx) (b : Bx) : List Ht × Nat:=if t.ns.length = 0 then ([],0) else visF t B b t.ns.length 0
set_option maxHeartbeats 8000000 in
theorem s_search {t : Tr} {B : Un → Bx} {b : Bx} (hf : fulX b = true) (hns : t.ns.length ≤ 1000000) (hV : t.ns.length ≠ 0 → ValT t B t.ns.length 0) (hH : (srcF t B b).1.length ≤ 1000000) (hv : (srcF t B b).2 ≤ 1000000000) :
 PSpec Tryz.prog 17 [encT t,encX b] (.tup [.sl 2 ((srcF t B b).1.map encH),iA ((srcF t B b).2 : Nat)]):=by
 have hx : ¬ b.x1 < b.x0 ∧ ¬ b.y1 < b.y0 ∧ ¬ b.t1 < b.t0:=by
  simp [fulX] at hf
  omega
 obtain ⟨hx0,hx1,hx2⟩:=hx
 clear hf
 by_cases h0 : t.ns.length = 0
 ·have e : srcF t B b = ([],0):=by simp [srcF,h0]
  rw [e]
  clear hV hH hv e
  refine pS Tryz.func17 ?_
  intro E hE
  refine sq ⟨[(2,.loc 2 0),(3,.loc 3 0),(4,.loc 4 0),(5,.loc 5 0)],[(2,.box 34 (encT t)),(3,.box 28 (encX b)),(4,.box 39 (.v (.slice none 0 0))),(5,.box 3 (iA 0))]⟩ ?_
  refine AW_freeze 2 (cb:=.box 34 (encT t)) (t:=⟨[(2,.ep (encT t)),(3,.loc 3 0),(4,.loc 4 0),(5,.loc 5 0)],[(3,.box 28 (encX b)),(4,.box 39 (.v (.slice none 0 0))),(5,.box 3 (iA 0))]⟩) (by simp) (by simp) (by simp) ?_
  refine AW_freeze 3 (cb:=.box 28 (encX b)) (t:=⟨[(2,.ep (encT t)),(3,.ep (encX b)),(4,.loc 4 0),(5,.loc 5 0)],[(4,.box 39 (.v (.slice none 0 0))),(5,.box 3 (iA 0))]⟩) (by simp) (by simp) (by simp) ?_
  refine AW_mkrowB 4 800 101 2 39 (by simp) (by simp) (by simp) (by omega) ?_
  refine AW_seqt ⟨[(2,.ep (encT t)),(3,.ep (encX b)),(4,.loc 4 0),(5,.loc 5 0)],[(4,vrH 800 0),(800,rwH []),(5,.box 3 (iA 0))]⟩ ?_ (by
   intro K hK
   have z'1:=@encX.eq_1;exact ga0)
  refine sq ⟨[(6,.loc 6 0),(2,.ep (encT t)),(3,.ep (encX b)),(4,.loc 4 0),(5,.loc 5 0)],[(6,.box 114 (.v .nilFunc)),(4,vrH 800 0),(800,rwH []),(5,.box 3 (iA 0))]⟩ ?_
  refine sq ⟨[(6,.loc 6 0),(2,.ep (encT t)),(3,.ep (encX b)),(4,.loc 4 0),(5,.loc 5 0)],[(6,.box 114 (.fn (.func 51) [] [.loc 5 0,.ep (encT t),.ep (encX b),.loc 4 0,.loc 6 0])),(4,vrH 800 0),(800,rwH []),(5,.box 3 (iA 0))]⟩ ?_
  refine AW_seqt ⟨[(4,.loc 4 0),(5,.loc 5 0)],[(4,vrH 800 0),(800,rwH []),(5,.box 3 (iA 0))]⟩ ?_ (by
   intro K hK
   repeat' (first
    |(with_reducible first|refine uK ?_|refine uX ?_|refine jq fun K hK=>?_|refine jb ?_)|((with_reducible first|refine rS hE ?_|refine jn ?_|refine js fun K' hK'=>?_|refine ji fun X Y hX hY=>?_|refine jr ?_|refine jk ?_|refine jx ?_);simp [*,encT,h0])|with_reducible refine rL hE ?_|with_reducible refine And.intro ?_ ?_|omega|(refine imp1 fun h=>?_))
   all_goals simp)
  refine AW_seqt ⟨[(4,.loc 4 0),(5,.loc 5 0)],[(4,vrH 800 0),(800,rwH []),(5,.box 3 (iA 0))]⟩ ?_ (by
   intro K hK
   refine AW_drawF (fun f=>⟨[(37,if f 0 then .own 800 2 0 0 else .u),(38,if f 1 then iA 0 else .u),(4,.loc 4 0),(5,.loc 5 0)],[(4,vrH 800 0),(800,rwH []),(5,.box 3 (iA 0))]⟩) mixed (by rw [hE];decide) (by decide +kernel) (by decide +kernel) (by simp) ?_ ?_
   ·intro f i o hi hdep hnot hcl K2 hK2
    clear hcl
    iterate 4 (rcases i with _|i;rotate_left)
    ·simp at hi
    all_goals (simp only [List.getElem?_cons_succ,List.getElem?_cons_zero,Option.some.injEq] at hi;subst hi)
    all_goals simp [Region.binds] at hdep
    all_goals exact gd0
   ·intro f hf
    have e2:=hf 2 (by simp)
    have e3:=hf 3 (by simp)
    refine hK.h _ ?_
    simp [e2,e3]
   all_goals simp)
  refine AW_freezeD 800 (cb:=rwH ([] : List Ht)) (t:=⟨[(4,.loc 4 0),(5,.loc 5 0)],[(4,.box 39 (.sl 2 (([] : List Ht).map encH))),(5,.box 3 (iA 0))]⟩) (by simp) (by simp) (by
   simp
   refine ⟨?_,?_⟩ <;> (intro j a b ha hb;rcases j with _|j <;> simp at ha hb <;> subst ha <;> subst hb <;> simp)) ?_
  exact ga0
 ·have e : srcF t B b = visF t B b t.ns.length 0:=by simp [srcF,h0]
  rw [e] at hH hv ⊢
  have hvis:=m_visit t B b hns t.ns.length 0 [] 0 (hV h0) (by simpa using hH) (by omega) (by omega)
  obtain ⟨⟨W,c⟩,hW⟩ : ∃ p,visF t B b t.ns.length 0 = p:=⟨_,rfl⟩
  rw [hW] at hvis hH ⊢
  replace hvis:=Hld.mk hvis
  obtain ⟨n,hn⟩ : ∃ n,t.ns.length = n:=⟨_,rfl⟩
  have hn0 : 0 < n:=by omega
  have hn1 : (0 : Int) < n:=by omega
  rw [hn] at hvis
  clear hV hv e hW
  refine pS Tryz.func17 ?_
  intro E hE
  refine sq ⟨[(2,.loc 2 0),(3,.loc 3 0),(4,.loc 4 0),(5,.loc 5 0)],[(2,.box 34 (encT t)),(3,.box 28 (encX b)),(4,.box 39 (.v (.slice none 0 0))),(5,.box 3 (iA 0))]⟩ ?_
  refine AW_freeze 2 (cb:=.box 34 (encT t)) (t:=⟨[(2,.ep (encT t)),(3,.loc 3 0),(4,.loc 4 0),(5,.loc 5 0)],[(3,.box 28 (encX b)),(4,.box 39 (.v (.slice none 0 0))),(5,.box 3 (iA 0))]⟩) (by simp) (by simp) (by simp) ?_
  refine AW_freeze 3 (cb:=.box 28 (encX b)) (t:=⟨[(2,.ep (encT t)),(3,.ep (encX b)),(4,.loc 4 0),(5,.loc 5 0)],[(4,.box 39 (.v (.slice none 0 0))),(5,.box 3 (iA 0))]⟩) (by simp) (by simp) (by simp) ?_
  refine AW_mkrowB 4 800 101 2 39 (by simp) (by simp) (by simp) (by omega) ?_
  refine AW_seqt ⟨[(2,.ep (encT t)),(3,.ep (encX b)),(4,.loc 4 0),(5,.loc 5 0)],[(4,vrH 800 0),(800,rwH []),(5,.box 3 (iA 0))]⟩ ?_ (by
   intro K hK
   have z'1:=@encX.eq_1;exact ga0)
  refine sq ⟨[(6,.loc 6 0),(2,.ep (encT t)),(3,.ep (encX b)),(4,.loc 4 0),(5,.loc 5 0)],[(6,.box 114 (.v .nilFunc)),(4,vrH 800 0),(800,rwH []),(5,.box 3 (iA 0))]⟩ ?_
  refine sq ⟨[(6,.loc 6 0),(2,.ep (encT t)),(3,.ep (encX b)),(4,.loc 4 0),(5,.loc 5 0)],[(6,.box 114 (.fn (.func 51) [] [.loc 5 0,.ep (encT t),.ep (encX b),.loc 4 0,.loc 6 0])),(4,vrH 800 0),(800,rwH []),(5,.box 3 (iA 0))]⟩ ?_
  refine AW_seqt ⟨[(4,.loc 4 0),(5,.loc 5 0)],[(4,vrH 900 W.length),(900,rwH W),(5,.box 3 (iA c))]⟩ ?_ (by
   intro K hK
   repeat' (first
    |(with_reducible first|refine uK ?_|refine uX ?_|refine jq fun K hK=>?_|refine jb ?_)|((with_reducible first|refine rS hE ?_|refine jn ?_|refine js fun K' hK'=>?_|refine ji fun X Y hX hY=>?_|refine jr ?_|refine jk ?_|refine jx ?_);simp [*,encT,hn])|with_reducible refine rL hE ?_|with_reducible refine And.intro ?_ ?_|omega|(refine imp1 fun h=>?_))
   refine acall_boxes hvis.out (nm [(1000000,5),(1000001,4),(1000002,6),(1000003,800)]) (nm [(1000000,5),(1000001,4),(1000002,6)]) [(1000000,.box 3 (iA c)),(1000001,vrH 900 W.length),(900,rwH W),(1000002,.box 114 (visV t b))] (.tup []) (by rintro res bf ⟨rfl,h1,h2,h3,h4⟩;simp at h1 h2 h3 h4;simp;exact ⟨h1,h2,h3,h4⟩) (by simp [encT]) (by simp [encT]) (by simp) (by simp) (by simp) (by simp) (by simp) ?_
   simp
   exact ga0)
  have hWt : (W.map encH).take W.length = W.map encH:=List.take_of_length_le (by simp)
  refine AW_seqt ⟨[(4,.loc 4 0),(5,.loc 5 0)],[(4,vrH 900 W.length),(900,rwH W),(5,.box 3 (iA c))]⟩ ?_ (by
   intro K hK
   refine AW_drawF (fun f=>⟨[(37,if f 0 then .own 900 2 0 W.length else .u),(38,if f 1 then iA c else .u),(4,.loc 4 0),(5,.loc 5 0)],[(4,vrH 900 W.length),(900,rwH W),(5,.box 3 (iA c))]⟩) mixed (by rw [hE];decide) (by decide +kernel) (by decide +kernel) (by simp) ?_ ?_
   ·intro f i o hi hdep hnot hcl K2 hK2
    clear hcl
    iterate 4 (rcases i with _|i;rotate_left)
    ·simp at hi
    all_goals (simp only [List.getElem?_cons_succ,List.getElem?_cons_zero,Option.some.injEq] at hi;subst hi)
    all_goals simp [Region.binds] at hdep
    all_goals exact gd0
   ·intro f hf
    have e2:=hf 2 (by simp)
    have e3:=hf 3 (by simp)
    refine hK.h _ ?_
    simp [e2,e3]
   all_goals simp)
  refine AW_freezeD 900 (cb:=rwH W) (t:=⟨[(4,.loc 4 0),(5,.loc 5 0)],[(4,.box 39 (.sl 2 (W.map encH))),(5,.box 3 (iA c))]⟩) (by simp) (by simp) (by
   simp [hWt]
   refine ⟨?_,?_⟩ <;> (intro j a b ha hb;rcases j with _|j <;> simp at ha hb <;> subst ha <;> subst hb <;> simp [hWt])) ?_
  exact ga0
end Go.Proofs.YtfkgaphfdpflmaaGreatDoor
