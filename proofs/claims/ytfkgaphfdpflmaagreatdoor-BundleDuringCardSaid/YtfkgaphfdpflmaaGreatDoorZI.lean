/- Layer 39: the leaves of a fleet's tree (plain) -/
import Derived.Test.YtfkgaphfdpflmaaGreatDoorZG
import Derived.Test.YtfkgaphfdpflmaaGreatDoorZE
import Derived.Test.YtfkgaphfdpflmaaGreatDoorZF
set_option maxRecDepth 100000
set_option linter.unusedSimpArgs false
set_option linter.unusedVariables false
namespace Go.Proofs.YtfkgaphfdpflmaaGreatDoor
open Go.Am
structure LfS (lf : Lf) : Prop where
 len : lf.us.length ≤ 120
 first : 0 ≤ lf.first ∧ lf.first ≤ 1000000
 sm : ∀ u ∈ lf.us,SmU 19000 u
 ne : lf.us ≠ []
theorem lvA_lfs {l : List Ob} {m : Nat} (hm : 0 < m) (hl : ∀ o ∈ l,ObS o) : ∀ lf ∈ lvA boxU m l,LfS lf:=by
 intro lf hlf
 obtain ⟨o,ho,hlf⟩:=List.mem_flatMap.1 hlf
 obtain ⟨j,hj,rfl⟩:=List.mem_map.1 hlf
 have hj:=List.mem_range.1 hj
 have hs:=hl o ho
 have hlen:=hs.len
 have hjm : j * m ≤ 200:=by
  unfold cnt at hj
  have h1 : j ≤ (o.us.length + m - 1) / m - 1:=by omega
  have h2 : (j + 1) * m ≤ o.us.length + m - 1:=by
   have:=Nat.mul_le_mul_right m (show j + 1 ≤ (o.us.length + m - 1) / m from hj)
   exact Nat.le_trans this (Nat.div_mul_le_self _ _)
  rw [Nat.add_mul] at h2
  omega
 refine ⟨?_,?_,?_,?_⟩
 ·show (chU m o.us j).length ≤ 120
  unfold chU
  rw [List.length_take,List.length_drop]
  omega
 ·show (0 : Int) ≤ ((j * m : Nat) : Int) ∧ ((j * m : Nat) : Int) ≤ 1000000
  omega
 ·intro u hu
  exact hs.sm u (List.mem_of_mem_drop (List.mem_of_mem_take hu))
 ·intro e
  have e:=congrArg List.length e
  have hjm2 : j * m < o.us.length:=by
   unfold cnt at hj
   have h2:=Nat.mul_le_mul_right m (show j + 1 ≤ (o.us.length + m - 1) / m from hj)
   have h3:=Nat.le_trans h2 (Nat.div_mul_le_self _ _)
   rw [Nat.add_mul] at h3
   omega
  change (chU m o.us j).length = 0 at e
  unfold chU at e
  rw [List.length_take,List.length_drop] at e
  omega
theorem lvA_len {l : List Ob} {m : Nat} (hm : 0 < m) (hl : ∀ o ∈ l,ObS o) : (lvA boxU m l).length ≤ 120 * l.length:=by
 induction l with
 |nil=>simp [lvA]
 |cons o l ih =>
  have h1:=ih (fun o ho=>hl o (by simp [ho]))
  have h2:=lvO_len boxU m o hm
  have h3:=(hl o (by simp)).len
  have e : lvA boxU m (o :: l) = lvO boxU m o ++ lvA boxU m l:=by unfold lvA;rw [List.flatMap_cons]
  rw [e,List.length_append,List.length_cons]
  omega
theorem s_sameUn (l : List Un) (hl : l.length ≤ 9223372036854775807) : PSpec Tryz.prog 30 [unL l,unL l] (bA true):=by
 refine pS Tryz.func30 ?_
 intro E hE
 repeat' (first
  |(with_reducible first|refine uK ?_|refine uX ?_|refine jq fun K hK=>?_|refine jb ?_)|((with_reducible first|refine rS hE ?_|refine jn ?_|refine js fun K' hK'=>?_|refine ji fun X Y hX hY=>?_|refine jr ?_|refine jk ?_|refine jx ?_);simp [*])|with_reducible refine rL hE ?_|with_reducible refine And.intro ?_ ?_|omega|(refine imp1 fun h=>?_))
 refine AW_loopk (G:=Nat) (fun i=>⟨[(5,iA i),(0,unL l),(1,unL l)],[]⟩) (fun i=>i ≤ l.length) (fun i=>l.length - i) 0 (Nat.zero_le _) (by simp) ?_
 intro i hi K hK
 by_cases hlt : i < l.length
 ·have hltI : (i : Int) < l.length:=by omega
  obtain ⟨h,hh⟩ : ∃ h,l[i] = h:=⟨_,rfl⟩
  have hhg : ∀ k : i < l.length,l[i] = h:=fun _=>hh
  replace hh:=()
  repeat' (first
   |(with_reducible first|refine uK ?_|refine uQ ?_|refine uX ?_|refine jq fun K hK=>?_|refine jb ?_)|(with_reducible refine rS hE ?_;simp [*,encU])|with_reducible refine rL hE ?_|(((with_reducible show RK _ _ _ _ _ _);first|refine jn ?_|refine js fun K' hK'=>?_);simp [*,encU])|with_reducible refine rD mixed hE ?_|((with_reducible show RKQ _ _ _ _ _ _);first|refine RKQ_nilk ⟨by decide,?_⟩|(refine jv fun K' hK'=>?_;simp [*,encU]))|((with_reducible first|refine ji fun X Y hX hY=>?_|refine jr ?_|refine jk ?_|refine jx ?_);simp [*,encU])|with_reducible refine And.intro ?_ ?_|omega|(refine imp1 fun h=>?_))
  exact ⟨i + 1,by omega,by omega,by simp⟩
 ·have : i = l.length:=by omega
  subst this
  exact ga0
def trO (t : Tr) (o : Int) (i : Nat) : List Un:=(t.lv.take i).flatMap fun f=>if f.o = o then f.us else []
theorem trO_succ (t : Tr) (o : Int) (i : Nat) (h : i < t.lv.length) : trO t o (i + 1) = trO t o i ++ (if t.lv[i].o = o then t.lv[i].us else []):=by
 unfold trO
 rw [List.take_succ_eq_append_getElem h,List.flatMap_append]
 simp
set_option maxHeartbeats 4000000 in
theorem s_Traj (t : Tr) (o : Int) (hl : t.lv.length ≤ 1000000) (hu : ∀ i,i ≤ t.lv.length → (trO t o i).length ≤ 1000000000) : PSpec Tryz.prog 35 [encT t,iA o] (.tup [unL (trO t o t.lv.length),bA (decide (0 < (trO t o t.lv.length).length))]):=by
 have hFs:=Hld.mk (trO_succ t o)
 have hF0 : trO t o 0 = []:=rfl
 obtain ⟨F,hF⟩ : ∃ F,trO t o = F:=⟨_,rfl⟩
 rw [hF] at hFs hF0 hu ⊢
 replace hu:=Hld.mk hu
 clear hF
 refine pS Tryz.func35 ?_
 intro E hE
 refine sq ⟨[(2,.loc 2 0),(1,iA o)],[(2,.box 34 (encT t))]⟩ ?_
 refine AW_freeze 2 (cb:=.box 34 (encT t)) (t:=⟨[(2,.ep (encT t)),(1,iA o)],[]⟩) (by simp) (by simp) (by simp) ?_
 refine sq ⟨[(6,.v (.slice none 0 0)),(2,.ep (encT t)),(1,iA o)],[]⟩ ?_
 refine AW_mkrow 6 800 111 36 (by simp) (by simp) (by simp) (by omega) ?_
 refine AW_seqt ⟨[(6,.own 800 36 0 (F t.lv.length).length)],[(800,.arr 111 36 ((F t.lv.length).map encU))]⟩ ?_ (by
  intro K hK
  repeat' (first
   |(with_reducible first|refine uK ?_|refine uX ?_|refine jq fun K hK=>?_|refine jb ?_)|((with_reducible first|refine rS hE ?_|refine jn ?_|refine js fun K' hK'=>?_|refine ji fun X Y hX hY=>?_|refine jr ?_|refine jk ?_|refine jx ?_);simp [*,encT])|with_reducible refine rL hE ?_|with_reducible refine And.intro ?_ ?_|omega|(refine imp1 fun h=>?_))
  refine AW_loopk (G:=Nat) (fun i=>⟨[(12,iA i),(11,iA t.lv.length),(10,.sl 9 (t.lv.map encF)),(6,.own 800 36 0 (F i).length),(1,iA o)],[(800,.arr 111 36 ((F i).map encU))]⟩) (fun i=>i ≤ t.lv.length) (fun i=>t.lv.length - i) 0 (Nat.zero_le _) (by simp [hF0,encT]) ?_
  intro i hi K hK
  by_cases hlt : i < t.lv.length
  ·have hltI : (i : Int) < t.lv.length:=by omega
   have hs:=hFs.out i hlt
   have hul:=hu.out (i + 1) (by omega)
   obtain ⟨lf,hlf⟩ : ∃ f,t.lv[i] = f:=⟨_,rfl⟩
   have hlg : ∀ h : i < t.lv.length,t.lv[i] = lf:=fun _=>hlf
   obtain ⟨M,hM⟩ : ∃ M,F i = M:=⟨_,rfl⟩
   obtain ⟨M2,hM2⟩ : ∃ M,F (i + 1) = M:=⟨_,rfl⟩
   rw [hlf,hM,hM2] at hs
   rw [hM2] at hul
   have hMt : (M.map encU).take M.length = M.map encU:=List.take_of_length_le (by simp)
   refine AW_le (t:=⟨[(12,iA i),(11,iA t.lv.length),(10,.sl 9 (t.lv.map encF)),(6,.own 800 36 0 M.length),(1,iA o)],[(800,.arr 111 36 (M.map encU))]⟩) (by simp [hM]) ?_
   replace hs:=Hld.mk hs
   replace hM:=()
   replace hM2:=Hld.mk hM2
   replace hlf:=()
   refine AW_seqt ⟨[(13,bA true),(12,iA i),(11,iA t.lv.length),(10,.sl 9 (t.lv.map encF)),(6,.own 800 36 0 M.length),(1,iA o)],[(800,.arr 111 36 (M.map encU))]⟩ ?_ (by
    intro K hK
    clear hul
    exact ga0)
   refine AW_seqt ⟨[(12,iA i),(11,iA t.lv.length),(10,.sl 9 (t.lv.map encF)),(6,.own 800 36 0 M.length),(1,iA o)],[(800,.arr 111 36 (M.map encU))]⟩ ?_ (by
    intro K hK
    clear hul
    exact ga0)
   refine AW_seqt ⟨[(12,iA i),(11,iA t.lv.length),(10,.sl 9 (t.lv.map encF)),(6,.own 800 36 0 M2.length),(1,iA o)],[(800,.arr 111 36 (M2.map encU))]⟩ ?_ (by
    intro K hK
    have e:=hs.out
    by_cases ho : lf.o = o
    ·rw [if_pos ho] at e
     subst e
     have hul2 : M.length + lf.us.length ≤ 1000000000:=by simpa using hul
     clear hul hs
     refine AW_block ?_
     repeat' (first
      |(with_reducible first|refine uK ?_|refine uX ?_|refine jq fun K hK=>?_|refine jb ?_)|((with_reducible first|refine rS hE ?_|refine jn ?_|refine js fun K' hK'=>?_|refine ji fun X Y hX hY=>?_|refine jr ?_|refine jk ?_|refine jx ?_);simp [*,encF])|with_reducible refine rL hE ?_|with_reducible refine And.intro ?_ ?_|omega|(refine imp1 fun h=>?_))
     all_goals simp [encF]
     all_goals trace_state
    ·rw [if_neg ho,List.append_nil] at e
     subst e
     clear hul hs
     refine AW_block ?_
     have z'1:=@encF.eq_1;exact ga0)
   clear hul
   have z'1:=hM2.out;exact gli
  ·have : i = t.lv.length:=by omega
   subst this
   exact ga0)
 obtain ⟨A,hA⟩ : ∃ A,F t.lv.length = A:=⟨_,rfl⟩
 rw [hA]
 have hAt : (A.map encU).take A.length = A.map encU:=List.take_of_length_le (by simp)
 refine AW_freeze 800 (cb:=.arr 111 36 (A.map encU)) (t:=⟨[(6,unL A)],[]⟩) (by simp) (by simp [hAt]) (by simp) ?_
 exact ga0
theorem SLe_tup' {xs ys : List AV} (h : SLeL xs ys) : SLe (.tup xs) (.tup ys):=fun H ρ v hr=>by
 cases hr with
 |tup hl hr=>exact let q:=SLeL.rep h ⟨hl,hr⟩;.tup q.1 q.2
def dCond (lf : Lf) (o a b : Int) : Bool:=decide (lf.o = o) && (decide (lf.b.t0 ≤ b) && decide (a ≤ lf.b.t1))
def drStep (lf : Lf) (o a b : Int) (s : List Un × Int) : List Un × Int:=if dCond lf o a b then (s.1 ++ lf.us,if s.1.length = 0 then lf.first else s.2) else s
def drF (t : Tr) (o a b : Int) (i : Nat) : List Un × Int:=(t.lv.take i).foldl (fun s lf=>drStep lf o a b s) ([],0)
theorem drF_succ (t : Tr) (o a b : Int) (i : Nat) (h : i < t.lv.length) : drF t o a b (i + 1) = drStep t.lv[i] o a b (drF t o a b i):=by
 unfold drF
 rw [List.take_succ_eq_append_getElem h,List.foldl_append]
 rfl
def hasF (t : Tr) (o : Int) (i : Nat) : Bool:=(t.lv.take i).any fun f=>decide (f.o = o)
theorem hasF_succ (t : Tr) (o : Int) (i : Nat) (h : i < t.lv.length) : hasF t o (i + 1) = (hasF t o i || decide (t.lv[i].o = o)):=by
 unfold hasF
 rw [List.take_succ_eq_append_getElem h,List.any_append]
 simp
set_option maxHeartbeats 4000000 in
theorem s_wduring (t : Tr) (o a b : Int) (hl : t.lv.length ≤ 1000000) (hu : ∀ i,i ≤ t.lv.length → (drF t o a b i).1.length ≤ 1000000000) : PSpec Tryz.prog 29 [encT t,iA o,iA a,iA b] (.tup [unL (drF t o a b t.lv.length).1,iA (drF t o a b t.lv.length).2,bA (hasF t o t.lv.length)]):=by
 have hFs:=Hld.mk (drF_succ t o a b)
 have hF0 : drF t o a b 0 = ([],0):=rfl
 have hHs:=Hld.mk (hasF_succ t o)
 have hH0 : hasF t o 0 = false:=rfl
 obtain ⟨F,hF⟩ : ∃ F,drF t o a b = F:=⟨_,rfl⟩
 obtain ⟨H,hH⟩ : ∃ F,hasF t o = F:=⟨_,rfl⟩
 rw [hF] at hFs hF0 hu ⊢
 rw [hH] at hHs hH0 ⊢
 replace hu:=Hld.mk hu
 clear hF hH
 refine pS Tryz.func29 ?_
 intro E hE
 refine sq ⟨[(4,.loc 4 0),(1,iA o),(2,iA a),(3,iA b)],[(4,.box 34 (encT t))]⟩ ?_
 refine AW_freeze 4 (cb:=.box 34 (encT t)) (t:=⟨[(4,.ep (encT t)),(1,iA o),(2,iA a),(3,iA b)],[]⟩) (by simp) (by simp) (by simp) ?_
 refine sq ⟨[(11,.v (.slice none 0 0)),(4,.ep (encT t)),(1,iA o),(2,iA a),(3,iA b)],[]⟩ ?_
 refine AW_mkrow 11 800 111 36 (by simp) (by simp) (by simp) (by omega) ?_
 refine sq ⟨[(13,bA false),(12,iA 0),(11,.own 800 36 0 0),(4,.ep (encT t)),(1,iA o),(2,iA a),(3,iA b)],[(800,.arr 111 36 [])]⟩ ?_
 refine AW_seqt ⟨[(13,bA (H t.lv.length)),(12,iA (F t.lv.length).2),(11,.own 800 36 0 (F t.lv.length).1.length)],[(800,.arr 111 36 ((F t.lv.length).1.map encU))]⟩ ?_ (by
  intro K hK
  refine lpk (G:=Nat) (fun i=>⟨[(14,iA i),(13,bA (H i)),(12,iA (F i).2),(11,.own 800 36 0 (F i).1.length),(4,.ep (encT t)),(1,iA o),(2,iA a),(3,iA b)],[(800,.arr 111 36 ((F i).1.map encU))]⟩) (fun i=>i ≤ t.lv.length) (fun i=>t.lv.length - i) 0 (Nat.zero_le _) ?_
  intro i hi K hK
  by_cases hlt : i < t.lv.length
  ·have hltI : (i : Int) < t.lv.length:=by omega
   have hs:=hFs.out i hlt
   have hh:=hHs.out i hlt
   have hul:=hu.out (i + 1) (by omega)
   obtain ⟨lf,hlf⟩ : ∃ f,t.lv[i] = f:=⟨_,rfl⟩
   have hlg : ∀ h : i < t.lv.length,t.lv[i] = lf:=fun _=>hlf
   obtain ⟨⟨M,x⟩,hM⟩ : ∃ M,F i = M:=⟨_,rfl⟩
   obtain ⟨⟨M2,x2⟩,hM2⟩ : ∃ M,F (i + 1) = M:=⟨_,rfl⟩
   obtain ⟨p,hp⟩ : ∃ p,H i = p:=⟨_,rfl⟩
   obtain ⟨q,hq⟩ : ∃ p,H (i + 1) = p:=⟨_,rfl⟩
   rw [hlf,hM,hM2] at hs
   rw [hlf,hp,hq] at hh
   rw [hM2] at hul
   replace hul : M2.length ≤ 1000000000:=hul
   have hMt : (M.map encU).take M.length = M.map encU:=List.take_of_length_le (by simp)
   refine AW_le (t:=⟨[(14,iA i),(13,bA p),(12,iA x),(11,.own 800 36 0 M.length),(4,.ep (encT t)),(1,iA o),(2,iA a),(3,iA b)],[(800,.arr 111 36 (M.map encU))]⟩) (by simp [hM,hp]) ?_
   replace hs:=Hld.mk hs
   replace hh:=Hld.mk hh
   replace hM:=()
   replace hp:=()
   replace hq:=Hld.mk hq
   replace hM2:=Hld.mk hM2
   replace hlf:=()
   refine AW_seqt ⟨[(14,iA i),(13,bA p),(12,iA x),(11,.own 800 36 0 M.length),(4,.ep (encT t)),(1,iA o),(2,iA a),(3,iA b)],[(800,.arr 111 36 (M.map encU))]⟩ ?_ (by
    intro K hK
    clear hul
    have z'1:=@encT.eq_1;exact ga0)
   refine AW_seqt ⟨[(14,iA i),(13,bA q),(12,iA x2),(11,.own 800 36 0 M2.length),(4,.ep (encT t)),(1,iA o),(2,iA a),(3,iA b)],[(800,.arr 111 36 (M2.map encU))]⟩ ?_ (by
    intro K hK
    refine AW_block ?_
    refine AW_seqt ⟨[(15,.loc 15 0),(14,iA i),(13,bA p),(12,iA x),(11,.own 800 36 0 M.length),(4,.ep (encT t)),(1,iA o),(2,iA a),(3,iA b)],[(15,.box 52 (encF lf)),(800,.arr 111 36 (M.map encU))]⟩ ?_ (by
     intro K hK
     clear hul
     have z'1:=@encT.eq_1;exact ga0)
    refine AW_freeze 15 (cb:=.box 52 (encF lf)) (t:=⟨[(15,.ep (encF lf)),(14,iA i),(13,bA p),(12,iA x),(11,.own 800 36 0 M.length),(4,.ep (encT t)),(1,iA o),(2,iA a),(3,iA b)],[(800,.arr 111 36 (M.map encU))]⟩) (by simp) (by simp) (by simp) ?_
    have e:=hs.out
    have eh:=hh.out
    unfold drStep dCond at e
    by_cases ho : lf.o = o
    ·have eq1 : q = true:=by rw [eh];simp [ho]
     subst eq1
     by_cases h1 : lf.b.t0 ≤ b
     ·by_cases h2 : a ≤ lf.b.t1
      ·rw [if_pos (by simp [ho,h1,h2])] at e
       obtain ⟨e1,e2⟩:=Prod.mk.inj e
       replace e1 : M2 = M ++ lf.us:=e1
       subst e1
       have hul2 : M.length + lf.us.length ≤ 1000000000:=by simpa using hul
       by_cases h0 : M.length = 0
       ·have h0I : (M.length : Int) = 0:=by omega
        replace e2 : x2 = lf.first:=by rw [e2];exact if_pos h0
        subst e2
        clear hul hs e eh hh
        replace h0:=Hld.mk h0
        have z'1:=@encF.eq_1;exact ga0
       ·have h0I : ¬ (M.length : Int) = 0:=by omega
        have h0L : ¬ M = []:=fun e=>h0 (by rw [e];rfl)
        replace e2 : x2 = x:=by rw [e2];exact if_neg h0
        subst e2
        clear hul hs e eh hh
        replace h0:=Hld.mk h0
        have z'1:=@encF.eq_1;exact ga0
      ·rw [if_neg (by simp [ho,h1,h2])] at e
       obtain ⟨e1,e2⟩:=Prod.mk.inj e
       subst e1 e2
       clear hul hs e eh hh
       have z'1:=@encF.eq_1;exact ga0
     ·rw [if_neg (by simp [ho,h1])] at e
      obtain ⟨e1,e2⟩:=Prod.mk.inj e
      subst e1 e2
      clear hul hs e eh hh
      have z'1:=@encF.eq_1;exact ga0
    ·have eq1 : q = p:=by rw [eh];simp [ho]
     subst eq1
     rw [if_neg (by simp [ho])] at e
     obtain ⟨e1,e2⟩:=Prod.mk.inj e
     subst e1 e2
     clear hul hs e eh hh
     have z'1:=@encF.eq_1;exact ga0)
   clear hul
   have z'1:=hM2.out;have z'2:=hq.out;exact gli
  ·have : i = t.lv.length:=by omega
   subst this
   have z'1:=@encT.eq_1;exact ga0)
 obtain ⟨⟨A,x⟩,hA⟩ : ∃ A,F t.lv.length = A:=⟨_,rfl⟩
 rw [hA]
 have hAt : (A.map encU).take A.length = A.map encU:=List.take_of_length_le (by simp)
 refine AW_freeze 800 (cb:=.arr 111 36 (A.map encU)) (t:=⟨[(11,unL A),(12,iA x),(13,bA (H t.lv.length))],[]⟩) (by simp) (by simp [hAt]) (by simp) ?_
 exact ga0
def trN (t : Tr) (o : Int) : Bool:=decide (0 < (trO t o t.lv.length).length)
def dduF (t : Tr) (o a b : Int) : List Un × Int × Int:=if trN t o = false then ([],0,9) else if b < a then ([],0,2) else ((drF t o a b t.lv.length).1,(drF t o a b t.lv.length).2,0)
set_option maxHeartbeats 4000000 in
theorem s_during (t : Tr) (o a b : Int) (hl : t.lv.length ≤ 1000000) (hu : ∀ i,i ≤ t.lv.length → (drF t o a b i).1.length ≤ 1000000000) (hv : ∀ i,i ≤ t.lv.length → (trO t o i).length ≤ 1000000000) : PSpec Tryz.prog 28 [encT t,iA o,iA a,iA b] (.tup [unL (dduF t o a b).1,iA (dduF t o a b).2.1,iA (dduF t o a b).2.2]):=by
 have htr:=Hld.mk (s_Traj t o hl hv)
 obtain ⟨U,hU⟩ : ∃ U,trO t o t.lv.length = U:=⟨_,rfl⟩
 have hn : trN t o = decide (0 < U.length):=by unfold trN;rw [hU]
 rw [hU] at htr
 obtain ⟨p,hp⟩ : ∃ p,decide (0 < U.length) = p:=⟨_,rfl⟩
 rw [hp] at htr hn
 unfold dduF
 rw [hn]
 clear hU hp hn hv
 rcases p with _|_
 ·rw [if_pos rfl]
  refine PSpec.res (x:=.tup [.v (.slice none 0 0),iA 0,iA 9]) ?_ (SLe_tup' ⟨SLe_nil 36 0,SLe_refl _,SLe_refl _,trivial⟩)
  clear hu
  refine pS Tryz.func28 ?_
  intro E hE
  have k'1:=htr;exact ga1
 ·rw [if_neg (by simp)]
  by_cases hab : b < a
  ·rw [if_pos hab]
   refine PSpec.res (x:=.tup [.v (.slice none 0 0),iA 0,iA 2]) ?_ (SLe_tup' ⟨SLe_nil 36 0,SLe_refl _,SLe_refl _,trivial⟩)
   clear hu
   refine pS Tryz.func28 ?_
   intro E hE
   have k'1:=htr;exact ga1
  ·rw [if_neg hab]
   show PSpec _ _ _ (.tup [unL (drF t o a b t.lv.length).1,iA (drF t o a b t.lv.length).2,iA 0])
   have hFs:=Hld.mk (drF_succ t o a b)
   have hF0 : drF t o a b 0 = ([],0):=rfl
   obtain ⟨F,hF⟩ : ∃ F,drF t o a b = F:=⟨_,rfl⟩
   rw [hF] at hFs hF0 hu ⊢
   replace hu:=Hld.mk hu
   clear hF
   refine pS Tryz.func28 ?_
   intro E hE
   refine sq ⟨[(8,.v (.slice none 0 0)),(9,iA 0),(4,.loc 4 0),(1,iA o),(2,iA a),(3,iA b)],[(4,.box 34 (encT t))]⟩ ?_
   refine AW_freeze 4 (cb:=.box 34 (encT t)) (t:=⟨[(8,.v (.slice none 0 0)),(9,iA 0),(4,.ep (encT t)),(1,iA o),(2,iA a),(3,iA b)],[]⟩) (by simp) (by simp) (by simp) ?_
   refine AW_seqt ⟨[(8,.v (.slice none 0 0)),(9,iA 0),(4,.ep (encT t)),(1,iA o),(2,iA a),(3,iA b)],[]⟩ ?_ (by
    intro K hK
    have k'1:=htr;exact ga1)
   refine sq ⟨[(8,.v (.slice none 0 0)),(9,iA 0),(4,.ep (encT t)),(1,iA o),(2,iA a),(3,iA b)],[]⟩ ?_
   refine AW_mkrow 8 800 111 36 (by simp) (by simp) (by simp) (by omega) ?_
   refine AW_seqt ⟨[(9,iA (F t.lv.length).2),(8,.own 800 36 0 (F t.lv.length).1.length)],[(800,.arr 111 36 ((F t.lv.length).1.map encU))]⟩ ?_ (by
    intro K hK
    repeat' (first
     |(with_reducible first|refine uK ?_|refine uX ?_|refine jq fun K hK=>?_|refine jb ?_)|((with_reducible first|refine rS hE ?_|refine jn ?_|refine js fun K' hK'=>?_|refine ji fun X Y hX hY=>?_|refine jr ?_|refine jk ?_|refine jx ?_);simp [*,encT])|with_reducible refine rL hE ?_|with_reducible refine And.intro ?_ ?_|omega|(refine imp1 fun h=>?_))
    refine AW_loopk (G:=Nat) (fun i=>⟨[(29,iA i),(28,iA t.lv.length),(27,.sl 9 (t.lv.map encF)),(9,iA (F i).2),(8,.own 800 36 0 (F i).1.length),(1,iA o),(2,iA a),(3,iA b)],[(800,.arr 111 36 ((F i).1.map encU))]⟩) (fun i=>i ≤ t.lv.length) (fun i=>t.lv.length - i) 0 (Nat.zero_le _) (by simp [hF0,encT]) ?_
    intro i hi K hK
    by_cases hlt : i < t.lv.length
    ·have hltI : (i : Int) < t.lv.length:=by omega
     have hs:=hFs.out i hlt
     have hul:=hu.out (i + 1) (by omega)
     obtain ⟨lf,hlf⟩ : ∃ f,t.lv[i] = f:=⟨_,rfl⟩
     have hlg : ∀ h : i < t.lv.length,t.lv[i] = lf:=fun _=>hlf
     obtain ⟨⟨M,x⟩,hM⟩ : ∃ M,F i = M:=⟨_,rfl⟩
     obtain ⟨⟨M2,x2⟩,hM2⟩ : ∃ M,F (i + 1) = M:=⟨_,rfl⟩
     rw [hlf,hM,hM2] at hs
     rw [hM2] at hul
     replace hul : M2.length ≤ 1000000000:=hul
     have hMt : (M.map encU).take M.length = M.map encU:=List.take_of_length_le (by simp)
     refine AW_le (t:=⟨[(29,iA i),(28,iA t.lv.length),(27,.sl 9 (t.lv.map encF)),(9,iA x),(8,.own 800 36 0 M.length),(1,iA o),(2,iA a),(3,iA b)],[(800,.arr 111 36 (M.map encU))]⟩) (by simp [hM]) ?_
     replace hs:=Hld.mk hs
     replace hM:=()
     replace hM2:=Hld.mk hM2
     replace hlf:=()
     refine AW_seqt ⟨[(30,bA true),(29,iA i),(28,iA t.lv.length),(27,.sl 9 (t.lv.map encF)),(9,iA x),(8,.own 800 36 0 M.length),(1,iA o),(2,iA a),(3,iA b)],[(800,.arr 111 36 (M.map encU))]⟩ ?_ (by
      intro K hK
      clear hul
      exact ga0)
     refine AW_seqt ⟨[(29,iA i),(28,iA t.lv.length),(27,.sl 9 (t.lv.map encF)),(9,iA x),(8,.own 800 36 0 M.length),(1,iA o),(2,iA a),(3,iA b)],[(800,.arr 111 36 (M.map encU))]⟩ ?_ (by
      intro K hK
      clear hul
      exact ga0)
     refine AW_seqt ⟨[(29,iA i),(28,iA t.lv.length),(27,.sl 9 (t.lv.map encF)),(9,iA x2),(8,.own 800 36 0 M2.length),(1,iA o),(2,iA a),(3,iA b)],[(800,.arr 111 36 (M2.map encU))]⟩ ?_ (by
      intro K hK
      refine AW_block ?_
      refine AW_seqt ⟨[(14,.loc 14 0),(29,iA i),(28,iA t.lv.length),(27,.sl 9 (t.lv.map encF)),(9,iA x),(8,.own 800 36 0 M.length),(1,iA o),(2,iA a),(3,iA b)],[(14,.box 52 (encF lf)),(800,.arr 111 36 (M.map encU))]⟩ ?_ (by
       intro K hK
       clear hul
       exact ga0)
      refine AW_freeze 14 (cb:=.box 52 (encF lf)) (t:=⟨[(14,.ep (encF lf)),(29,iA i),(28,iA t.lv.length),(27,.sl 9 (t.lv.map encF)),(9,iA x),(8,.own 800 36 0 M.length),(1,iA o),(2,iA a),(3,iA b)],[(800,.arr 111 36 (M.map encU))]⟩) (by simp) (by simp) (by simp) ?_
      have e:=hs.out
      unfold drStep dCond at e
      by_cases ho : lf.o = o
      ·by_cases h1 : lf.b.t0 ≤ b
       ·by_cases h2 : a ≤ lf.b.t1
        ·rw [if_pos (by simp [ho,h1,h2])] at e
         obtain ⟨e1,e2⟩:=Prod.mk.inj e
         replace e1 : M2 = M ++ lf.us:=e1
         subst e1
         have hul2 : M.length + lf.us.length ≤ 1000000000:=by simpa using hul
         by_cases h0 : M.length = 0
         ·have h0I : (M.length : Int) = 0:=by omega
          replace e2 : x2 = lf.first:=by rw [e2];exact if_pos h0
          subst e2
          clear hul hs e
          replace h0:=Hld.mk h0
          have z'1:=@encF.eq_1;exact ga0
         ·have h0I : ¬ (M.length : Int) = 0:=by omega
          have h0L : ¬ M = []:=fun e=>h0 (by rw [e];rfl)
          replace e2 : x2 = x:=by rw [e2];exact if_neg h0
          subst e2
          clear hul hs e
          replace h0:=Hld.mk h0
          have z'1:=@encF.eq_1;exact ga0
        ·rw [if_neg (by simp [ho,h1,h2])] at e
         obtain ⟨e1,e2⟩:=Prod.mk.inj e
         subst e1 e2
         clear hul hs e
         have z'1:=@encF.eq_1;exact ga0
       ·rw [if_neg (by simp [ho,h1])] at e
        obtain ⟨e1,e2⟩:=Prod.mk.inj e
        subst e1 e2
        clear hul hs e
        have z'1:=@encF.eq_1;exact ga0
      ·rw [if_neg (by simp [ho])] at e
       obtain ⟨e1,e2⟩:=Prod.mk.inj e
       subst e1 e2
       clear hul hs e
       have z'1:=@encF.eq_1;exact ga0)
     clear hul
     have z'1:=hM2.out;exact gli
    ·have : i = t.lv.length:=by omega
     subst this
     exact ga0)
   obtain ⟨⟨A,x⟩,hA⟩ : ∃ A,F t.lv.length = A:=⟨_,rfl⟩
   rw [hA]
   have hAt : (A.map encU).take A.length = A.map encU:=List.take_of_length_le (by simp)
   refine AW_freeze 800 (cb:=.arr 111 36 (A.map encU)) (t:=⟨[(8,unL A),(9,iA x)],[]⟩) (by simp) (by simp [hAt]) (by simp) ?_
   exact ga0
structure LvS (t : Tr) : Prop where
 len : t.lv.length ≤ 500
 leaf : ∀ lf ∈ t.lv,LfS lf
theorem drF_len {t : Tr} (h : LvS t) (o a b : Int) : ∀ i,i ≤ t.lv.length → (drF t o a b i).1.length ≤ 120 * i
 |0,_=>by simp [drF]
 |i + 1,hi=>by
  rw [drF_succ t o a b i (by omega)]
  have ih:=drF_len h o a b i (by omega)
  have hf:=(h.leaf t.lv[i] (List.getElem_mem (by omega))).len
  unfold drStep
  split
  ·show ((drF t o a b i).1 ++ t.lv[i].us).length ≤ _
   rw [List.length_append]
   omega
  ·omega
theorem trO_len {t : Tr} (h : LvS t) (o : Int) : ∀ i,i ≤ t.lv.length → (trO t o i).length ≤ 120 * i ∧ ((0 < (trO t o i).length) ↔ hasF t o i = true)
 |0,_=>by simp [trO,hasF]
 |i + 1,hi=>by
  rw [trO_succ t o i (by omega),hasF_succ t o i (by omega),List.length_append]
  obtain ⟨ih1,ih2⟩:=trO_len h o i (by omega)
  have hs:=h.leaf t.lv[i] (List.getElem_mem (by omega))
  have hf:=hs.len
  have hne : 0 < t.lv[i].us.length:=List.length_pos_iff.2 hs.ne
  by_cases ho : t.lv[i].o = o
  ·rw [if_pos ho]
   simp only [ho,decide_true,Bool.or_true]
   exact ⟨by omega,iff_of_true (by omega) trivial⟩
  ·rw [if_neg ho]
   simp only [ho,decide_false,Bool.or_false]
   exact ⟨by simp;omega,by simpa using ih2⟩
theorem trN_has {t : Tr} (h : LvS t) (o : Int) : trN t o = hasF t o t.lv.length:=by
 have:=(trO_len h o t.lv.length (Nat.le_refl _)).2
 unfold trN
 cases hh : hasF t o t.lv.length
 ·rw [hh] at this
  simp at this ⊢
  exact this
 ·rw [hh] at this
  simp at this ⊢
  exact this
theorem s_duringW {t : Tr} (h : LvS t) (o a b : Int) : PSpec Tryz.prog 28 [encT t,iA o,iA a,iA b] (.tup [unL (dduF t o a b).1,iA (dduF t o a b).2.1,iA (dduF t o a b).2.2]):=by
 have hl:=h.len
 exact s_during t o a b (by omega) (fun i hi=>by have:=drF_len h o a b i hi;omega) (fun i hi=>by have:=(trO_len h o i hi).1;omega)
theorem s_wduringW {t : Tr} (h : LvS t) (o a b : Int) : PSpec Tryz.prog 29 [encT t,iA o,iA a,iA b] (.tup [unL (drF t o a b t.lv.length).1,iA (drF t o a b t.lv.length).2,bA (hasF t o t.lv.length)]):=by
 have hl:=h.len
 exact s_wduring t o a b (by omega) (fun i hi=>by have:=drF_len h o a b i hi;omega)
theorem avI3 {n : Nat} {cs : List AV} (h : ShapeC Tryz.prog (n + 2) 55 cs) : ∃ a b c : Int,mkAV Tryz.prog 55 cs = .st [iA a,iA b,iA c]:=by
 simp [ShapeC,ShapeA] at h
 obtain ⟨_,_,rfl,⟨a,rfl,ha⟩, -,h⟩:=h
 obtain ⟨_,_,rfl,⟨b,rfl,hb⟩, -,h⟩:=h
 obtain ⟨_,_,rfl,⟨c,rfl,hc⟩, -,rfl⟩:=h
 exact ⟨a,b,c,by simp [mkAV]⟩
noncomputable def cDu : Code:=nav [1,1,1,1,1,0,1,0,0,1,0] (Tryz.f6.body.getD .skip)
set_option maxHeartbeats 8000000 in
theorem dur_round {E : Env} (hE : E.n = Tryz.f6.ntmps) {t : Tr} (h : LvS t) {L : List Int} {i : Nat} {o c a b : Int} (hi : i < L.length) (hL : L.length ≤ 2) (ho : L[i] = o)
 {K0 : AState → Prop} {Q0 : AExit → AState → Prop} (hK0 : Kont K0 (fun s'=>s'.le ⟨[(9,iA i),(8,.sl 1 (L.map iA)),(7,.ep (encT t)),(5,.ep (.st [iA c,iA a,iA b]))],[]⟩)) :
 AW Tryz.prog E cDu ⟨[(9,iA i),(8,.sl 1 (L.map iA)),(7,.ep (encT t)),(5,.ep (.st [iA c,iA a,iA b]))],[]⟩ (thenK K0 Q0):=by
 have hiI : (i : Int) < L.length:=by omega
 have hog : ∀ h : i < L.length,L[i] = o:=fun _=>ho
 have hoq : L[i]? = some o:=by rw [List.getElem?_eq_getElem hi,ho]
 have h1:=Hld.mk (s_duringW h o a b)
 have h2:=Hld.mk (s_wduringW h o a b)
 have hdl:=drF_len h o a b t.lv.length (Nat.le_refl _)
 have hll:=h.len
 have hth:=trN_has h o
 have hdd : dduF t o a b = if trN t o = false then ([],0,9) else if b < a then ([],0,2) else ((drF t o a b t.lv.length).1,(drF t o a b t.lv.length).2,0):=rfl
 rw [hth] at hdd
 obtain ⟨p,hp⟩ : ∃ p,hasF t o t.lv.length = p:=⟨_,rfl⟩
 obtain ⟨⟨W,x⟩,hW⟩ : ∃ W,drF t o a b t.lv.length = W:=⟨_,rfl⟩
 obtain ⟨⟨U,y,e⟩,hU⟩ : ∃ U,dduF t o a b = U:=⟨_,rfl⟩
 rw [hp,hW,hU] at hdd
 rw [hU] at h1
 rw [hp,hW] at h2
 rw [hW] at hdl
 replace h1 : Hld (PSpec Tryz.prog 28 [encT t,iA o,iA a,iA b] (.tup [unL U,iA y,iA e])):=h1
 replace h2 : Hld (PSpec Tryz.prog 29 [encT t,iA o,iA a,iA b] (.tup [unL W,iA x,bA p])):=h2
 replace hdl : W.length ≤ 120 * t.lv.length:=hdl
 have hsu:=Hld.mk (s_sameUn W (by omega))
 replace hdd:=Hld.mk hdd
 clear hth hp hW hU h ho hdl hll
 refine AW_block ?_
 refine AW_seqt ⟨[(10,unL U),(11,iA y),(12,iA e),(9,iA i),(8,.sl 1 (L.map iA)),(7,.ep (encT t)),(5,.ep (.st [iA c,iA a,iA b]))],[]⟩ ?_ (by
  intro K hK
  refine AW_drawF (fun f=>⟨[(55,if f 0 then encT t else .u),(56,if f 1 then .sl 1 (L.map iA) else .u),(57,if f 2 then iA i else .u),(58,if f 3 then .ep (iA o) else .u),(59,if f 4 then iA o else .u),(60,if f 5 then .ep (iA a) else .u),(61,if f 6 then iA a else .u),(62,if f 7 then .ep (iA b) else .u),(63,if f 8 then iA b else .u),(64,if f 9 then .tup [unL U,iA y,iA e] else .u),(54,if f 10 then .tup [unL U,iA y,iA e] else .u),(65,if f 11 then unL U else .u),(66,if f 12 then iA y else .u),(67,if f 13 then iA e else .u),(10,if f 14 then unL U else .u),(11,if f 15 then iA y else .u),(12,if f 16 then iA e else .u),(9,iA i),(8,.sl 1 (L.map iA)),(7,.ep (encT t)),(5,.ep (.st [iA c,iA a,iA b]))],[]⟩) mixed (by rw [hE];decide) (by decide +kernel) (by decide +kernel) (by simp) ?_ ?_
  ·intro f i o hi hdep hnot hcl K2 hK2
   clear hcl
   iterate 17 (rcases i with _|i;rotate_left)
   ·simp at hi
   all_goals (simp only [List.getElem?_cons_succ,List.getElem?_cons_zero,Option.some.injEq] at hi;subst hi)
   all_goals simp [Region.binds] at hdep
   all_goals (have k'1:=h1;exact gd1)
  ·intro f hf
   have e14:=hf 14 (by simp)
   have e15:=hf 15 (by simp)
   have e16:=hf 16 (by simp)
   refine hK.h _ ?_
   simp [e14,e15,e16]
  all_goals simp)
 refine AW_seqt ⟨[(13,unL W),(14,iA x),(15,bA p),(10,unL U),(11,iA y),(12,iA e),(9,iA i),(8,.sl 1 (L.map iA)),(7,.ep (encT t)),(5,.ep (.st [iA c,iA a,iA b]))],[]⟩ ?_ (by
  intro K hK
  refine AW_drawF (fun f=>⟨[(69,if f 0 then encT t else .u),(70,if f 1 then .sl 1 (L.map iA) else .u),(71,if f 2 then iA i else .u),(72,if f 3 then .ep (iA o) else .u),(73,if f 4 then iA o else .u),(74,if f 5 then .ep (iA a) else .u),(75,if f 6 then iA a else .u),(76,if f 7 then .ep (iA b) else .u),(77,if f 8 then iA b else .u),(78,if f 9 then .tup [unL W,iA x,bA p] else .u),(68,if f 10 then .tup [unL W,iA x,bA p] else .u),(79,if f 11 then unL W else .u),(80,if f 12 then iA x else .u),(81,if f 13 then bA p else .u),(13,if f 14 then unL W else .u),(14,if f 15 then iA x else .u),(15,if f 16 then bA p else .u),(10,unL U),(11,iA y),(12,iA e),(9,iA i),(8,.sl 1 (L.map iA)),(7,.ep (encT t)),(5,.ep (.st [iA c,iA a,iA b]))],[]⟩) mixed (by rw [hE];decide) (by decide +kernel) (by decide +kernel) (by simp) ?_ ?_
  ·intro f i o hi hdep hnot hcl K2 hK2
   clear hcl
   iterate 17 (rcases i with _|i;rotate_left)
   ·simp at hi
   all_goals (simp only [List.getElem?_cons_succ,List.getElem?_cons_zero,Option.some.injEq] at hi;subst hi)
   all_goals simp [Region.binds] at hdep
   all_goals (have k'1:=h2;exact gd1)
  ·intro f hf
   have e14:=hf 14 (by simp)
   have e15:=hf 15 (by simp)
   have e16:=hf 16 (by simp)
   refine hK.h _ ?_
   simp [e14,e15,e16]
  all_goals simp)
 have d:=hdd.out
 clear h1 h2 hdd
 rcases p with _|_
 ·rw [if_pos rfl] at d
  obtain ⟨d1,d2⟩:=Prod.mk.inj d
  obtain ⟨d2,d3⟩:=Prod.mk.inj d2
  subst d1 d2 d3
  clear hsu d
  exact ga0
 ·rw [if_neg (by simp)] at d
  by_cases hab : b < a
  ·rw [if_pos hab] at d
   obtain ⟨d1,d2⟩:=Prod.mk.inj d
   obtain ⟨d2,d3⟩:=Prod.mk.inj d2
   subst d1 d2 d3
   clear hsu d
   exact ga0
  ·rw [if_neg hab] at d
   obtain ⟨d1,d2⟩:=Prod.mk.inj d
   obtain ⟨d2,d3⟩:=Prod.mk.inj d2
   subst d1 d2 d3
   clear d
   have k'1:=hsu;exact ga1
namespace L6
set_option maxHeartbeats 8000000 in
theorem law (f : Flt) (hf : ∀ c ∈ f.cars,CarW c) (hl : f.cars.length ≤ 9223372036854775807) (a m : Nat) (ha : a < 256) (hm : m < 256) (x y z : Int) : PSpec Tryz.prog 6 [encW f,.st [uA a,uA m],.st [iA x,iA y,iA z]] (bA true):=by
 have hk:=Hld.mk s_known
 have hs:=Hld.mk (s_short f hl)
 rcases hsh : shtF f with _|_
 ·rw [hsh] at hs
  clear hf hsh
  refine pS Tryz.func6 ?_
  intro E hE
  have k'1:=hk;have k'2:=hs;exact ga2
 ·rw [hsh] at hs
  have hsh2:=hsh
  simp only [shtF,Bool.and_eq_true,decide_eq_true_eq,List.all_eq_true] at hsh2
  obtain ⟨h6,h4, -⟩:=hsh2
  have hc : ∀ c ∈ f.cars,CarB c:=fun c hcm=>⟨(hf c hcm).t,(hf c hcm).x,(hf c hcm).y,(hf c hcm).st,h6 c hcm⟩
  have hfl:=Hld.mk (s_fleet f a ha h4 hc)
  have hob:=fltO_obs hc a
  have hol:=fltO_len f a
  obtain ⟨O,hO⟩ : ∃ O,fltO f a = O:=⟨_,rfl⟩
  rw [hO] at hfl hob hol
  have hsz:=Hld.mk (s_size m hm)
  obtain ⟨n,hn⟩ : ∃ n,1 + m % 8 = n:=⟨_,rfl⟩
  rw [hn] at hsz
  have hn0 : 0 < n:=by omega
  have hbd:=Hld.mk (s_wbuild (l:=O) (B:=boxU) (m:=n) (by omega) (fun o ho=>by have:=(hob o ho).len;omega) (fun o ho u hu=>((hob o ho).sm u hu).wx) hn0 (by omega))
  have hT : LvS (bldT boxU n O):=⟨by have:=lvA_len hn0 hob;show (lvA boxU n O).length ≤ 500;omega,lvA_lfs hn0 hob⟩
  obtain ⟨t,ht⟩ : ∃ t,bldT boxU n O = t:=⟨_,rfl⟩
  rw [ht] at hbd hT
  have hTT:=Hld.mk hT
  clear ht hob hol hO hn hsh hc hf h6 hl hT
  refine pS Tryz.func6 ?_
  intro E hE
  refine sq ⟨[(3,.loc 3 0),(4,.loc 4 0),(5,.loc 5 0)],[(3,.box 25 (encW f)),(4,.box 26 (.st [uA a,uA m])),(5,.box 55 (.st [iA x,iA y,iA z]))]⟩ ?_
  refine AW_freeze 3 (cb:=.box 25 (encW f)) (t:=⟨[(3,.ep (encW f)),(4,.loc 4 0),(5,.loc 5 0)],[(4,.box 26 (.st [uA a,uA m])),(5,.box 55 (.st [iA x,iA y,iA z]))]⟩) (by simp) (by simp) (by simp) ?_
  refine AW_freeze 4 (cb:=.box 26 (.st [uA a,uA m])) (t:=⟨[(3,.ep (encW f)),(4,.ep (.st [uA a,uA m])),(5,.loc 5 0)],[(5,.box 55 (.st [iA x,iA y,iA z]))]⟩) (by simp) (by simp) (by simp) ?_
  refine AW_freeze 5 (cb:=.box 55 (.st [iA x,iA y,iA z])) (t:=⟨[(3,.ep (encW f)),(4,.ep (.st [uA a,uA m])),(5,.ep (.st [iA x,iA y,iA z]))],[]⟩) (by simp) (by simp) (by simp) ?_
  refine AW_seqt ⟨[(3,.ep (encW f)),(4,.ep (.st [uA a,uA m])),(5,.ep (.st [iA x,iA y,iA z]))],[]⟩ ?_ (by
   intro K hK
   have k'1:=hk;have k'2:=hs;exact ga2)
  refine AW_seqt ⟨[(7,.loc 7 0),(5,.ep (.st [iA x,iA y,iA z]))],[(7,.box 34 (encT t))]⟩ ?_ (by
   intro K hK
   refine AW_drawF (fun g=>⟨[(25,if g 0 then encW f else .u),(26,if g 1 then .ep (uA a) else .u),(27,if g 2 then uA a else .u),(28,if g 3 then obL O else .u),(29,if g 4 then .ep (uA m) else .u),(30,if g 5 then uA m else .u),(31,if g 6 then iA n else .u),(32,if g 7 then encT t else .u),(7,if g 8 then .loc 7 0 else .u),(3,.ep (encW f)),(4,.ep (.st [uA a,uA m])),(5,.ep (.st [iA x,iA y,iA z]))],
    (if g 8 then [(7,.box 34 (if g 9 then encT t else .st [iA 0,.v (.slice none 0 0),.v (.slice none 0 0)]))] else [])⟩) mixed (by rw [hE];decide) (by decide +kernel) (by decide +kernel) (by simp) ?_ ?_
   ·intro f i o hi hdep hnot hcl K2 hK2
    have w9_8 : f 9 = true → f 8 = true:=gw
    clear hcl
    iterate 10 (rcases i with _|i;rotate_left)
    ·simp at hi
    all_goals (simp only [List.getElem?_cons_succ,List.getElem?_cons_zero,Option.some.injEq] at hi;subst hi)
    all_goals simp [Region.binds] at hdep
    all_goals (rcases a8 : f 8)
    all_goals try (exfalso;revert hdep hnot w9_8;simp [a8];done)
    all_goals (try simp [a8,hnot] at w9_8)
    all_goals (have k'1:=hfl;have k'2:=hsz;have k'3:=hbd;exact gd3)
   ·intro f hf
    have e9:=hf 9 (by simp)
    have e8:=hf 8 (by simp)
    refine hK.h _ ?_
    simp [e9,e8]
   all_goals simp)
  refine AW_freeze 7 (cb:=.box 34 (encT t)) (t:=⟨[(7,.ep (encT t)),(5,.ep (.st [iA x,iA y,iA z]))],[]⟩) (by simp) (by simp) (by simp) ?_
  clear hfl hsz hbd hk hs
  refine sq ⟨[(8,.own 35 1 0 1),(7,.ep (encT t)),(5,.ep (.st [iA x,iA y,iA z]))],[(35,.arr 3 1 [iA x])]⟩ ?_
  obtain ⟨L,hL,hL0,hL2⟩ : ∃ L : List Int,(L = if 0 < t.lv.length then [x,(t.lv.getD 0 ⟨0,0,[],zBx⟩).o] else [x]) ∧ 0 < L.length ∧ L.length ≤ 2:=⟨_,rfl,by split <;> simp,by split <;> simp⟩
  refine AW_seqt ⟨[(8,.own 35 1 0 L.length),(7,.ep (encT t)),(5,.ep (.st [iA x,iA y,iA z]))],[(35,.arr 3 1 (L.map iA))]⟩ ?_ (by
   intro K hK
   by_cases h0 : 0 < t.lv.length
   ·have h0I : (0 : Int) < t.lv.length:=by omega
    rw [if_pos h0] at hL
    have hg : t.lv.getD 0 ⟨0,0,[],zBx⟩ = t.lv[0]:=by simp [List.getD,List.getElem?_eq_getElem h0]
    rw [hg] at hL
    obtain ⟨lf,hlf⟩ : ∃ lf,t.lv[0] = lf:=⟨_,rfl⟩
    have hlg : ∀ h : 0 < t.lv.length,t.lv[0] = lf:=fun _=>hlf
    rw [hlf] at hL
    subst hL
    clear hg hlf hL0 hL2
    have z'1:=@encT.eq_1;have z'2:=@encF.eq_1;exact ga0
   ·have h0I : ¬ (0 : Int) < t.lv.length:=by omega
    rw [if_neg h0] at hL
    subst hL
    have z'1:=@encT.eq_1;exact ga0)
  have hLt : (L.map iA).take L.length = L.map iA:=List.take_of_length_le (by simp)
  refine AW_freeze 35 (cb:=.arr 3 1 (L.map iA)) (t:=⟨[(8,.sl 1 (L.map iA)),(7,.ep (encT t)),(5,.ep (.st [iA x,iA y,iA z]))],[]⟩) (by simp) (by simp [hLt]) (by simp) ?_
  clear hLt hL
  refine AW_seqt ⟨[],[]⟩ ?_ (by
   intro K hK
   refine lpk (G:=Nat) (fun i=>⟨[(9,iA i),(8,.sl 1 (L.map iA)),(7,.ep (encT t)),(5,.ep (.st [iA x,iA y,iA z]))],[]⟩) (fun i=>i ≤ L.length) (fun i=>L.length - i) 0 (Nat.zero_le _) ?_
   intro i hi K hK
   by_cases hlt : i < L.length
   ·have hltI : (i : Int) < L.length:=by omega
    refine sq ⟨[(9,iA i),(8,.sl 1 (L.map iA)),(7,.ep (encT t)),(5,.ep (.st [iA x,iA y,iA z]))],[]⟩ ?_
    refine AW_seqt ⟨[(9,iA i),(8,.sl 1 (L.map iA)),(7,.ep (encT t)),(5,.ep (.st [iA x,iA y,iA z]))],[]⟩ ?_ (by
     intro K hK
     exact dur_round hE hTT.out hlt hL2 rfl hK)
    exact gli
   ·have : i = L.length:=by omega
    subst this
    exact ga0)
  exact ga0
end L6
end Go.Proofs.YtfkgaphfdpflmaaGreatDoor
