/- Layer 39: the leaves of a fleet's tree (plain) -/
import Derived.Test.YtfkgaphfdpflmaaGreatDoorZG
import Derived.Test.YtfkgaphfdpflmaaGreatDoorZE
import Derived.Test.YtfkgaphfdpflmaaGreatDoorZF
import Derived.Test.YtfkgaphfdpflmaaGreatDoorZB
import Derived.Test.YtfkgaphfdpflmaaGreatDoorZ6
set_option maxRecDepth 100000
set_option linter.unusedSimpArgs false
set_option linter.unusedVariables false
namespace Go.Proofs.YtfkgaphfdpflmaaGreatDoor
open Go.Am
structure LfS (lf : Lf) : Prop where
 len : lf.us.length ≤ 120
 first : 0 ≤ lf.first ∧ lf.first ≤ 1000000
 sm : ∀ u ∈ lf.us,SmU 19000 u
 ne : lf.us ≠ []
theorem lvA_lfs {l : List Ob} {m : Nat} (hm : 0 < m) (hl : ∀ o ∈ l,ObS o) : ∀ lf ∈ lvA boxU m l,LfS lf:=by
 intro lf hlf
 obtain ⟨o,ho,hlf⟩:=List.mem_flatMap.1 hlf
 obtain ⟨j,hj,rfl⟩:=List.mem_map.1 hlf
 have hj:=List.mem_range.1 hj
 have hs:=hl o ho
 have hlen:=hs.len
 have hjm : j * m ≤ 200:=by
  unfold cnt at hj
  have h1 : j ≤ (o.us.length + m - 1) / m - 1:=by omega
  have h2 : (j + 1) * m ≤ o.us.length + m - 1:=by
   have:=Nat.mul_le_mul_right m (show j + 1 ≤ (o.us.length + m - 1) / m from hj)
   exact Nat.le_trans this (Nat.div_mul_le_self _ _)
  rw [Nat.add_mul] at h2
  omega
 refine ⟨?_,?_,?_,?_⟩
 ·show (chU m o.us j).length ≤ 120
  unfold chU
  rw [List.length_take,List.length_drop]
  omega
 ·show (0 : Int) ≤ ((j * m : Nat) : Int) ∧ ((j * m : Nat) : Int) ≤ 1000000
  omega
 ·intro u hu
  exact hs.sm u (List.mem_of_mem_drop (List.mem_of_mem_take hu))
 ·intro e
  have e:=congrArg List.length e
  have hjm2 : j * m < o.us.length:=by
   unfold cnt at hj
   have h2:=Nat.mul_le_mul_right m (show j + 1 ≤ (o.us.length + m - 1) / m from hj)
   have h3:=Nat.le_trans h2 (Nat.div_mul_le_self _ _)
   rw [Nat.add_mul] at h3
   omega
  change (chU m o.us j).length = 0 at e
  unfold chU at e
  rw [List.length_take,List.length_drop] at e
  omega
theorem lvA_len {l : List Ob} {m : Nat} (hm : 0 < m) (hl : ∀ o ∈ l,ObS o) : (lvA boxU m l).length ≤ 120 * l.length:=by
 induction l with
 |nil=>simp [lvA]
 |cons o l ih =>
  have h1:=ih (fun o ho=>hl o (by simp [ho]))
  have h2:=lvO_len boxU m o hm
  have h3:=(hl o (by simp)).len
  have e : lvA boxU m (o :: l) = lvO boxU m o ++ lvA boxU m l:=by unfold lvA;rw [List.flatMap_cons]
  rw [e,List.length_append,List.length_cons]
  omega
set_option maxHeartbeats 16000000 in
theorem m_wbuild {l : List Ob} {B : Un → Bx} {m : Nat} (hl : l.length ≤ 64) (hU : ∀ o ∈ l,o.us.length ≤ 1000) (hB : ∀ o ∈ l,∀ u ∈ o.us,WxOK u (B u)) (hm : 0 < m) (hm2 : m ≤ 32) : MSpec Tryz.prog 14 [obL l,iA m] [] (fun res bf=>res = .st [iA m,.own 800 9 0 (bldT B m l).lv.length,.sl 1 ((bldT B m l).ns.map ndL)] ∧ bf 800 = some (rwF (bldT B m l).lv)):=by
 obtain ⟨F,hF⟩ : ∃ F : Nat → List Lf,∀ i,F i = lvA B m (l.take i):=⟨_,fun _=>rfl⟩
 have hF0 : F 0 = []:=by rw [hF];rfl
 have hFn : F l.length = lvA B m l:=by rw [hF,List.take_length]
 have hFs : Hld (∀ i (h : i < l.length),F (i + 1) = F i ++ lvO B m l[i]):=⟨fun i h=>by rw [hF,hF,lvA_succ B m l i h]⟩
 have hFl : Hld (∀ i,i ≤ l.length → (F i).length ≤ 1000 * i):=⟨fun i=>by
  induction i with
  |zero=>intro _;rw [hF0];simp
  |succ i ih =>
   intro h
   rw [hFs.out i (by omega),List.length_append]
   have:=ih (by omega)
   have h2:=lvO_len B m l[i] hm
   have h3:=hU l[i] (List.getElem_mem (by omega))
   omega⟩
 simp only [bldT]
 obtain ⟨LV,hLV⟩ : ∃ LV,lvA B m l = LV:=⟨_,rfl⟩
 rw [hLV] at hFn ⊢
 have hLVl : LV.length ≤ 64000:=by have:=hFl.out l.length (Nat.le_refl _);rw [hFn] at this;omega
 obtain ⟨W,hW⟩ : ∃ W,lvW LV.length (LV.map Lf.b) = W:=⟨_,rfl⟩
 rw [hW]
 replace hW:=Hld.mk hW
 replace hFn:=Hld.mk hFn
 replace hU:=Hld.mk hU
 replace hB:=Hld.mk hB
 clear hLV hF
 refine MSpec_of Tryz.func14 rfl rfl (Nat.le_of_ble_eq_true rfl) (Nat.le_of_ble_eq_true rfl) ?_
 intro E hE
 refine sq ⟨[(4,.loc 4 0),(0,obL l),(1,iA m)],[(4,zT)]⟩ ?_
 refine sq ⟨[(5,.loc 5 0),(4,.loc 4 0),(0,obL l),(1,iA m)],[(5,.box 34 (.st [iA m,.v (.slice none 0 0),.v (.slice none 0 0)])),(4,zT)]⟩ ?_
 refine sq ⟨[(6,.v (.slice none 0 0)),(5,.loc 5 0),(4,.loc 4 0),(0,obL l),(1,iA m)],[(5,.box 34 (.st [iA m,.v (.slice none 0 0),.v (.slice none 0 0)])),(4,zT)]⟩ ?_
 refine AW_mkrowC 5 800 52 9 34 1 (cs:=[iA m,.v (.slice none 0 0),.v (.slice none 0 0)]) (by simp) (by simp) (by simp) (by simp) (by omega) ?_
 refine AW_mkrow 6 802 28 6 (by simp) (by simp) (by simp) (by omega) ?_
 refine AW_seqt ⟨[(6,.own 802 6 0 LV.length),(5,.loc 5 0),(4,.loc 4 0)],bF m LV⟩ ?_ (by
  intro K hK
  refine lpk (G:=Nat) (fun i=>⟨[(7,iA i),(6,.own 802 6 0 (F i).length),(5,.loc 5 0),(4,.loc 4 0),(0,obL l),(1,iA m)],bF m (F i)⟩) (fun i=>i ≤ l.length) (fun i=>l.length - i) 0 (Nat.zero_le _) ?_
  intro i hi K hK
  by_cases hlt : i < l.length
  ·have hltI : (i : Int) < l.length:=by omega
   have hs:=hFs.out i hlt
   have hfl:=hFl.out i hi
   obtain ⟨o,hoe⟩ : ∃ o,l[i] = o:=⟨_,rfl⟩
   obtain ⟨M,hM⟩ : ∃ M,F i = M:=⟨_,rfl⟩
   obtain ⟨M2,hM2⟩ : ∃ M,F (i + 1) = M:=⟨_,rfl⟩
   have hul:=hU.out l[i] (List.getElem_mem hlt)
   have hbl:=Hld.mk (hB.out l[i] (List.getElem_mem hlt))
   rw [hoe,hM,hM2] at hs
   rw [hM] at hfl
   rw [hoe] at hul hbl
   have hfb : M.length ≤ 100000:=by omega
   replace hs:=Hld.mk hs
   replace hM2:=Hld.mk hM2
   refine AW_le (t:=⟨[(7,iA i),(6,.own 802 6 0 M.length),(5,.loc 5 0),(4,.loc 4 0),(0,obL l),(1,iA m)],bF m M⟩) (by simp [hM]) ?_
   replace hM:=()
   refine sq ⟨[(7,iA i),(6,.own 802 6 0 M.length),(5,.loc 5 0),(4,.loc 4 0),(0,obL l),(1,iA m)],bF m M⟩ ?_
   refine AW_seqt ⟨[(7,iA i),(6,.own 802 6 0 M2.length),(5,.loc 5 0),(4,.loc 4 0),(0,obL l),(1,iA m)],bF m M2⟩ ?_ (by
    intro K hK
    exact wb_obj hE hlt hoe hul hm hm2 hbl.out hfb (fun s' hs'=>hK.h s' (by rw [← hs.out] at hs';exact hs')))
   have z'1:=hM2.out;exact gli
  ·have : i = l.length:=by omega
   subst this
   have z'1:=hFn.out;exact ga0)
 refine AW_mkrowC 5 801 67 1 34 2 (cs:=[iA m,.own 800 9 0 LV.length,.v (.slice none 0 0)]) (by simp) (by simp) (by simp) (by simp) (by omega) ?_
 refine AW_le (t:=⟨[(6,.own 802 6 0 LV.length),(5,.loc 5 0),(4,.loc 4 0)],[(5,.box 34 (.st [iA m,.own 800 9 0 LV.length,.own 801 1 0 0])),(801,.arr 67 1 []),(800,rwF LV),(802,.arr 28 6 ((LV.map Lf.b).map encX)),(4,zT)]⟩) (by rw [← lbA_eq];simp) ?_
 clear hFs hFl hU hB hF0
 refine AW_seqt ⟨[(5,.loc 5 0),(4,.loc 4 0)],[(800,rwF LV),(5,.box 34 (.st [iA m,.own 800 9 0 LV.length,.own 801 1 0 W.length])),(801,.arr 67 1 (W.map ndL)),(4,zT)]⟩ ?_ (by
  intro K hK
  refine AW_block ?_
  refine AW_loopk (G:=Nat × List Bx × List (List Nd)) (fun g=>⟨[(6,.own 802 6 0 g.2.1.length),(5,.loc 5 0),(4,.loc 4 0)],[(802,.arr 28 6 (g.2.1.map encX)),(800,rwF LV),(5,.box 34 (.st [iA m,.own 800 9 0 LV.length,.own 801 1 0 g.2.2.length])),(801,.arr 67 1 (g.2.2.map ndL)),(4,zT)]⟩) (fun g=>Hld (g.2.2 ++ lvW g.1 g.2.1 = W) ∧ g.2.1.length ≤ g.1 ∧ g.1 + g.2.2.length ≤ LV.length) (fun g=>g.1) (LV.length,LV.map Lf.b,[]) ⟨⟨by simpa using hW.out⟩,by simp,by simp⟩ (by simp) ?_
  rintro ⟨f,bs,LS⟩ ⟨hw,hf1,hf2⟩ K hK
  replace hw : Hld (LS ++ lvW f bs = W):=hw
  replace hf1 : bs.length ≤ f:=hf1
  replace hf2 : f + LS.length ≤ LV.length:=hf2
  have hbt : (bs.map encX).take bs.length = bs.map encX:=List.take_of_length_le (by simp)
  refine AW_freeze 802 (cb:=.arr 28 6 (bs.map encX)) (t:=⟨[(6,bxL bs),(5,.loc 5 0),(4,.loc 4 0)],[(800,rwF LV),(5,.box 34 (.st [iA m,.own 800 9 0 LV.length,.own 801 1 0 LS.length])),(801,.arr 67 1 (LS.map ndL)),(4,zT)]⟩) (by simp) (by simp [hbt]) (by simp) ?_
  clear hbt
  by_cases hb0 : bs.length = 0
  ·have hWe : LS = W:=by
    have:=hw.out
    rcases f with _|f
    ·simpa [lvW] using this
    ·simpa [lvW,hb0] using this
   have hb1 : bs = []:=List.length_eq_zero_iff.1 hb0
   subst hb1
   subst hWe
   exact ga0
  ·obtain ⟨f',rfl⟩ : ∃ f',f = f' + 1:=⟨f - 1,by omega⟩
   have hbpI : (0 : Int) < bs.length:=by omega
   have hwv : lvW (f' + 1) bs = nds bs :: (if (nds bs).length = 1 then [] else lvW f' ((nds bs).map Nd.b)):=by rw [lvW,if_neg hb0]
   rw [hwv] at hw
   have hnl : (nds bs).length = cnt 4 bs.length:=by unfold nds;rw [ndsF_len]
   have hnd:=Hld.mk (s_nodes bs (by omega))
   refine AW_le (t:=⟨[(6,bxL bs),(5,.loc 5 0),(4,.loc 4 0)],[(800,rwF LV),(5,.box 34 (.st [iA m,.own 800 9 0 LV.length,.own 801 1 0 LS.length])),(801,.arr 67 1 (LS.map ndL)),(4,zT)]⟩) (by simp) ?_
   obtain ⟨n,hn⟩ : ∃ n,nds bs = n:=⟨_,rfl⟩
   rw [hn] at hw hnl hnd
   have hcle : 2 ≤ bs.length → n.length + 1 ≤ bs.length:=fun h=>by rw [hnl];unfold cnt;omega
   have hc1 : bs.length = 1 → n.length = 1:=fun h=>by rw [hnl,h];rfl
   have hnb : n.length ≤ 100000:=by rw [hnl];unfold cnt;omega
   replace hwv:=()
   replace hn:=()
   replace hnl:=Hld.mk hnl
   replace hcle:=Hld.mk hcle
   replace hc1:=Hld.mk hc1
   refine sq ⟨[(6,bxL bs),(5,.loc 5 0),(4,.loc 4 0)],[(800,rwF LV),(5,.box 34 (.st [iA m,.own 800 9 0 LV.length,.own 801 1 0 LS.length])),(801,.arr 67 1 (LS.map ndL)),(4,zT)]⟩ ?_
   refine AW_block ?_
   refine AW_seqt ⟨[(12,ndL n),(5,.loc 5 0),(4,.loc 4 0)],[(800,rwF LV),(5,.box 34 (.st [iA m,.own 800 9 0 LV.length,.own 801 1 0 LS.length])),(801,.arr 67 1 (LS.map ndL)),(4,zT)]⟩ ?_ (by
    intro K hK
    have k'1:=hnd;exact ga1)
   obtain ⟨LZ,hLZ⟩ : ∃ LZ,LS.map ndL = LZ:=⟨_,rfl⟩
   have p1 : ∀ d,mentL d LZ = false:=fun d=>by rw [← hLZ];simp
   have p2 : LZ.length = LS.length:=by rw [← hLZ];simp
   have p3 : LZ.take LS.length = LZ:=List.take_of_length_le (by omega)
   rw [hLZ]
   obtain ⟨kk,hkk⟩ : ∃ kk,LS.length = kk:=⟨_,rfl⟩
   rw [hkk] at p2 p3 hf2 ⊢
   have p4 : kk ≤ LZ.length:=by omega
   have p5 : kk ≤ 70000:=by omega
   replace hLZ:=Hld.mk hLZ
   replace hkk:=Hld.mk hkk
   replace p2:=Hld.mk p2
   refine AW_seqt ⟨[(12,ndL n),(5,.loc 5 0),(4,.loc 4 0)],[(800,rwF LV),(5,.box 34 (.st [iA m,.own 800 9 0 LV.length,.own 801 1 0 (kk + 1)])),(801,.arr 67 1 (LZ ++ [ndL n])),(4,zT)]⟩ ?_ (by
    intro K hK
    clear hf1 hb0 hbpI
    exact ga0)
   by_cases hn1 : n.length = 1
   ·have hWe : W = LS ++ [n]:=by have:=hw.out;rw [if_pos hn1] at this;exact this.symm
    subst hWe
    have z'1:=hkk.out;have z'2:=hLZ.out.symm;exact ga0
   ·have hWe : Hld ((LS ++ [n]) ++ lvW f' (n.map Nd.b) = W):=⟨by have:=hw.out;rw [if_neg hn1] at this;rw [List.append_assoc];exact this⟩
    have hn1I : ¬ (n.length : Int) = 1:=by omega
    refine sq ⟨[(12,ndL n),(5,.loc 5 0),(4,.loc 4 0)],[(800,rwF LV),(5,.box 34 (.st [iA m,.own 800 9 0 LV.length,.own 801 1 0 (kk + 1)])),(801,.arr 67 1 (LZ ++ [ndL n])),(4,zT)]⟩ ?_
    refine AW_seqt ⟨[(6,.v (.slice none 0 0)),(12,ndL n),(5,.loc 5 0),(4,.loc 4 0)],[(800,rwF LV),(5,.box 34 (.st [iA m,.own 800 9 0 LV.length,.own 801 1 0 (kk + 1)])),(801,.arr 67 1 (LZ ++ [ndL n])),(4,zT)]⟩ ?_ (by
     intro K hK
     repeat' (first
      |(with_reducible first|refine uK ?_|refine uX ?_|refine jq fun K hK=>?_|refine jb ?_)|((with_reducible first|refine rS hE ?_|refine jn ?_|refine js fun K' hK'=>?_|refine ji fun X Y hX hY=>?_|refine jr ?_|refine jk ?_|refine jx ?_);simp [*])|with_reducible refine rL hE ?_|with_reducible refine And.intro ?_ ?_|omega|(refine imp1 fun h=>?_))
     all_goals simp [p1,mentL_append])
    refine AW_mkrow 6 802 28 6 (by simp) (by simp [p1,mentL_append]) (by simp [p1,mentL_append]) (by omega) ?_
    have hnf : n.length ≤ f':=by have:=hcle.out;have:=hc1.out;omega
    clear hf1 hb0 hbpI hw hnd
    refine lpk (G:=Nat) (fun i=>⟨[(13,iA i),(6,.own 802 6 0 i),(12,ndL n),(5,.loc 5 0),(4,.loc 4 0)],[(802,.arr 28 6 ((n.take i).map fun d=>encX d.b)),(800,rwF LV),(5,.box 34 (.st [iA m,.own 800 9 0 LV.length,.own 801 1 0 (kk + 1)])),(801,.arr 67 1 (LZ ++ [ndL n])),(4,zT)]⟩) (fun i=>i ≤ n.length) (fun i=>n.length - i) 0 (Nat.zero_le _) ?_
    intro i hi K2 hK2
    by_cases hlt : i < n.length
    ·have hltI : (i : Int) < n.length:=by omega
     have htk:=Hld.mk (show (n.take (i + 1)).map (fun d=>encX d.b) = (n.take i).map (fun d=>encX d.b) ++ [encX n[i].b] by rw [List.take_succ_eq_append_getElem hlt,List.map_append];rfl)
     have hNl : ((n.take i).map fun d=>encX d.b).length = i:=by rw [List.length_map,List.length_take];omega
     have hNm : ∀ d,mentL d ((n.take i).map fun d=>encX d.b) = false:=fun d=>nbA_ment d (n.take i)
     obtain ⟨nd,hnde⟩ : ∃ f,n[i] = f:=⟨_,rfl⟩
     have hng : ∀ h : i < n.length,n[i] = nd:=fun _=>hnde
     obtain ⟨N,hN⟩ : ∃ N,(n.take i).map (fun d=>encX d.b) = N:=⟨_,rfl⟩
     rw [hnde,hN] at htk
     rw [hN] at hNl hNm
     have hNt : N.take i = N:=List.take_of_length_le (by omega)
     have hNi : i ≤ N.length:=by omega
     refine AW_le (t:=⟨[(13,iA i),(6,.own 802 6 0 i),(12,ndL n),(5,.loc 5 0),(4,.loc 4 0)],[(802,.arr 28 6 N),(800,rwF LV),(5,.box 34 (.st [iA m,.own 800 9 0 LV.length,.own 801 1 0 (kk + 1)])),(801,.arr 67 1 (LZ ++ [ndL n])),(4,zT)]⟩) (by simp [hN]) ?_
     replace hN:=()
     replace hnde:=()
     replace hNl:=Hld.mk hNl
     refine sq ⟨[(13,iA i),(6,.own 802 6 0 i),(12,ndL n),(5,.loc 5 0),(4,.loc 4 0)],[(802,.arr 28 6 N),(800,rwF LV),(5,.box 34 (.st [iA m,.own 800 9 0 LV.length,.own 801 1 0 (kk + 1)])),(801,.arr 67 1 (LZ ++ [ndL n])),(4,zT)]⟩ ?_
     refine AW_seqt ⟨[(13,iA i),(6,.own 802 6 0 (i + 1)),(12,ndL n),(5,.loc 5 0),(4,.loc 4 0)],[(802,.arr 28 6 (N ++ [encX nd.b])),(800,rwF LV),(5,.box 34 (.st [iA m,.own 800 9 0 LV.length,.own 801 1 0 (kk + 1)])),(801,.arr 67 1 (LZ ++ [ndL n])),(4,zT)]⟩ ?_ (by
      intro K hK
      refine AW_block ?_
      repeat' (first
       |(with_reducible first|refine uK ?_|refine uX ?_|refine jq fun K hK=>?_|refine jb ?_)|((with_reducible first|refine rS hE ?_|refine jn ?_|refine js fun K' hK'=>?_|refine ji fun X Y hX hY=>?_|refine jr ?_|refine jk ?_|refine jx ?_);simp [*,encN,encX])|with_reducible refine rL hE ?_|with_reducible refine And.intro ?_ ?_|omega|(refine imp1 fun h=>?_))
      all_goals simp [encX,p1,mentL_append])
     have z'1:=htk.out;exact gli
    ·have : i = n.length:=by omega
     subst this
     have hnn : (n.take n.length).map (fun d=>encX d.b) = (n.map Nd.b).map encX:=by rw [List.take_length,List.map_map];rfl
     rw [hnn]
     clear hnn
     obtain ⟨NB,hNB⟩ : ∃ NB,(n.map Nd.b).map encX = NB:=⟨_,rfl⟩
     rw [hNB]
     replace hNB:=Hld.mk hNB
     repeat' (first
      |(with_reducible first|refine uK ?_|refine uX ?_|refine jq fun K hK=>?_|refine jb ?_)|((with_reducible first|refine rS hE ?_|refine jn ?_|refine js fun K' hK'=>?_|refine ji fun X Y hX hY=>?_|refine jr ?_|refine jk ?_|refine jx ?_);simp [*])|with_reducible refine rL hE ?_|with_reducible refine And.intro ?_ ?_|omega|(refine imp1 fun h=>?_))
     refine ⟨(f',n.map Nd.b,LS ++ [n]),⟨hWe,by simp;omega,by simp [hkk.out];omega⟩,by simp,?_⟩
     simp [hkk.out,← hLZ.out,← hNB.out])
 have hWt : (W.map ndL).take W.length = W.map ndL:=List.take_of_length_le (by simp)
 refine AW_freezeD 801 (cb:=.arr 67 1 (W.map ndL)) (t:=⟨[(5,.loc 5 0),(4,.loc 4 0)],[(800,rwF LV),(5,.box 34 (.st [iA m,.own 800 9 0 LV.length,.sl 1 (W.map ndL)])),(4,zT)]⟩) (by simp) (by simp) (by
  simp
  refine ⟨?_,?_⟩ <;> (intro j a b ha hb;rcases j with _|_|_|j <;> simp at ha hb <;> subst ha <;> subst hb <;> simp [hWt])) ?_
 have z'1:=@encT.eq_1;exact ga0
end Go.Proofs.YtfkgaphfdpflmaaGreatDoor
section
namespace Go.Proofs.YtfkgaphfdpflmaaGreatDoor
open Go.Am Go.RowKit
theorem toS {P : Program} {f : FuncId} {args : List AV} {R : AV → (Nat → Option Ct) → Prop} {ds : List AV} (h : MSpec P f args [] R) (h1 : ∀ d ∈ ds,d.one = true) (hv : ∀ res bf,R res bf → ∃ cs,res = .st cs ∧ cs.length = ds.length ∧ ∀ (i : Nat) (c d : AV),cs[i]? = some c → ds[i]? = some d → View bf c d) : PSpec P f args (.st ds):=by
 refine ⟨h.1,fun H w vs he hr=>?_⟩
 refine Calls.mono (h.2 H rho0 w vs he ⟨fun id c hc=>by simp [lk] at hc,fun id c b cap hc=>by simp [lk] at hc,fun id id' c c' b cap cap' hc=>by simp [lk] at hc⟩ hr) ?_
 rintro e w' ⟨H',ρ',res,bf',v,rfl,hR,hle,hnew,hext,hB,hrep,hfr,_⟩
 have hno : ∀ b,¬ OwnB rho0 (lk ([] : List (Nat × Ct))) b:=by rintro b ⟨id,c,cap,hc,_⟩;simp [lk] at hc
 have hle' : H'.le (thaw H' w.heap.size w'):=fun b o uu hu=>by simp [thaw,hu]
 refine ⟨thaw H' w.heap.size w',v,rfl,fun b o uu hu=>hle' _ _ _ (hle b o uu hu),?_,?_,?_,?_⟩
 ·intro b o uu hu hu0
  simp only [thaw] at hu
  split at hu
  ·exact (hnew b o uu hu hu0).resolve_right (hno b)
  ·split at hu
   ·assumption
   ·cases hu
 ·intro b o uu hu
  simp only [thaw] at hu
  split at hu
  ·exact hext b o uu hu
  ·split at hu
   ·exact hu
   ·cases hu
 ·obtain ⟨cs,rfl,hl,hv⟩:=hv _ _ hR
  cases hrep with
  |st hl2 _ hr =>
   refine .st (hl ▸ hl2) h1 (fun i d uu hd hu=>?_)
   have hi : i < cs.length:=by have:=(List.getElem?_eq_some_iff.1 hd).1;omega
   refine view_rep2 (hv i cs[i] d (List.getElem?_eq_getElem hi) hd) (hr i cs[i] uu (List.getElem?_eq_getElem hi) hu) hB.rep hle' ?_
   intro id c b cap hc hbd o uu hu
   have h1:=hB.apart id c b cap hc hbd
   simp [thaw,h1.1 o,h1.2.2.resolve_right (hno b),hu]
 ·exact FrameBut.below ⟨hfr.os,hfr.tape,hfr.output,hfr.size,fun k hk _=>hfr.block k hk (hno k)⟩
theorem s_wbuild9 {l : List Ob} {B : Un → Bx} {m : Nat} (hl : l.length ≤ 64) (hU : ∀ o ∈ l,o.us.length ≤ 1000) (hB : ∀ o ∈ l,∀ u ∈ o.us,WxOK u (B u)) (hm : 0 < m) (hm2 : m ≤ 32) : PSpec Tryz.prog 14 [obL l,iA m] (encT (bldT B m l)):=by
 refine toS (m_wbuild hl hU hB hm hm2) (by simp) ?_
 rintro res bf ⟨rfl,h⟩
 refine ⟨_,rfl,rfl,fun i c d hc hd=>?_⟩
 rcases i with _|_|_|i <;> simp at hc hd <;> subst hc <;> subst hd
 ·exact .inl ⟨rfl,rfl⟩
 ·exact .inr (.inl ⟨800,9,0,_,_,_,rfl,h,by simp,by simp [List.take_of_length_le],by simp [List.take_of_length_le]⟩)
 ·exact .inl ⟨rfl,by simp⟩
end Go.Proofs.YtfkgaphfdpflmaaGreatDoor
end
namespace Go.Proofs.YtfkgaphfdpflmaaGreatDoor
open Go.Am
theorem eqA_X (a b : Bx) : eqA [.i,.i,.i,.i,.i,.i] [iA a.x0,iA a.x1,iA a.y0,iA a.y1,iA a.t0,iA a.t1] [iA b.x0,iA b.x1,iA b.y0,iA b.y1,iA b.t0,iA b.t1] = some (decide (a = b)):=by
 by_cases h : a = b
 ·subst h
  simp [eqA,eqA1]
 ·simp [eqA,eqA1,h]
  intro h1 h2 h3 h4 h5 h6
  refine h ?_
  cases a;cases b
  simp_all
theorem eqA_N (a b : Nd) : eqA [.i,.i,.i,.i,.i,.i,.i,.i] [iA a.first,iA a.count,iA a.b.x0,iA a.b.x1,iA a.b.y0,iA a.b.y1,iA a.b.t0,iA a.b.t1] [iA b.first,iA b.count,iA b.b.x0,iA b.b.x1,iA b.b.y0,iA b.b.y1,iA b.b.t0,iA b.b.t1] = some (decide (a = b)):=by
 by_cases h : a = b
 ·subst h
  simp [eqA,eqA1]
 ·simp [eqA,eqA1,h]
  intro h1 h2 h3 h4 h5 h6 h7 h8
  refine h ?_
  obtain ⟨_,_,⟨_,_,_,_,_,_⟩⟩:=a
  obtain ⟨_,_,⟨_,_,_,_,_,_⟩⟩:=b
  simp_all
theorem eqA_U (a b : Un) : eqA [.b,.s,.b,.s,.b,.s,.b,.s,.b,.b,.s,.b,.s,.b,.s,.b,.s,.b,.b,.b,.b,.s,.b,.s,.b,.s,.b,.s,.b,.s,.b,.s,.b,.s,.b,.s] [bA (decide (a.f.num < 0)),mgA a.f.num.natAbs,bA false,mgA (dn a.f),bA false,eA,bA false,eA,bA false,bA (decide (a.t.num < 0)),mgA a.t.num.natAbs,bA false,mgA (dn a.t),bA false,eA,bA false,eA,bA false,bA a.fo,bA a.to,bA (decide (a.x0.num < 0)),mgA a.x0.num.natAbs,bA false,mgA (dn a.x0),bA (decide (a.x1.num < 0)),mgA a.x1.num.natAbs,bA false,mgA (dn a.x1),bA (decide (a.y0.num < 0)),mgA a.y0.num.natAbs,bA false,mgA (dn a.y0),bA (decide (a.y1.num < 0)),mgA a.y1.num.natAbs,bA false,mgA (dn a.y1)] [bA (decide (b.f.num < 0)),mgA b.f.num.natAbs,bA false,mgA (dn b.f),bA false,eA,bA false,eA,bA false,bA (decide (b.t.num < 0)),mgA b.t.num.natAbs,bA false,mgA (dn b.t),bA false,eA,bA false,eA,bA false,bA b.fo,bA b.to,bA (decide (b.x0.num < 0)),mgA b.x0.num.natAbs,bA false,mgA (dn b.x0),bA (decide (b.x1.num < 0)),mgA b.x1.num.natAbs,bA false,mgA (dn b.x1),bA (decide (b.y0.num < 0)),mgA b.y0.num.natAbs,bA false,mgA (dn b.y0),bA (decide (b.y1.num < 0)),mgA b.y1.num.natAbs,bA false,mgA (dn b.y1)] = some (decide (a = b)):=by
 by_cases h : a = b
 ·subst h
  simp [eqA,eqA1]
 ·simp [eqA,eqA1,h]
  intro a1 a2 a3 a4 a5 a6 a7 a8 b1 b2 b3 b4 b5 b6 b7 b8 b9 c1 c2 c3
  refine h ?_
  have q1:=encQ_inj (decide_eq_decide.2 a1) a2 a3
  have q2:=encQ_inj (decide_eq_decide.2 a4) a5 a6
  have q3:=encQ_inj (decide_eq_decide.2 b1) b2 b3
  have q4:=encQ_inj (decide_eq_decide.2 b4) b5 b6
  have q5:=encQ_inj (decide_eq_decide.2 b7) b8 b9
  have q6:=encQ_inj (decide_eq_decide.2 c1) c2 c3
  cases a;cases b
  simp_all
theorem eq_facts {α : Type} [DecidableEq α] (l k : List α) : ∃ r,decide (l = k) = r ∧ Hld (l.length ≠ k.length → r = false) ∧ Hld (∀ i (h : i < l.length) (h' : i < k.length),l[i] ≠ k[i] → r = false) ∧ Hld (l.length = k.length → (∀ i (h : i < l.length) (h' : i < k.length),l[i] = k[i]) → r = true):=by
 refine ⟨_,rfl,⟨fun h=>decide_eq_false fun e=>h (by rw [e])⟩,⟨fun i h h' hn=>decide_eq_false fun e=>hn (by subst e;rfl)⟩,⟨fun h ha=>decide_eq_true (List.ext_getElem h fun i h1 h2=>ha i h1 h2)⟩⟩
set_option maxHeartbeats 4000000 in
theorem s_eqP (l k : List Un) (hl : l.length ≤ 1000000000) (hk : k.length ≤ 1000000000) : PSpec Tryz.prog 59 [unL l,unL k] (bA (decide (l = k))):=by
 obtain ⟨r,hr,hlen,hbad,hgood⟩:=eq_facts l k
 rw [hr]
 clear hr
 by_cases he : l.length = k.length
 ·have heI : (l.length : Int) = k.length:=by omega
  have hgood2:=Hld.mk (hgood.out he)
  have he2:=Hld.mk he
  clear hlen hgood
  refine pS Tryz.func59 ?_
  intro E hE
  refine AW_seqt ⟨[(0,unL l),(1,unL k)],[]⟩ ?_ (by
   intro K hK
   clear he
   exact ga0)
  refine AW_seqt ⟨[(0,unL l),(1,unL k)],[]⟩ ?_ (by
   intro K hK
   replace heI:=heI.symm
   have z'1:=he2.out;exact ga0)
  refine AW_seqE (G:=Unit) (fun _=>⟨[],[]⟩) (fun _=>∀ i (h : i < l.length) (h' : i < k.length),l[i] = k[i]) ?_ ?_
  ·intro _ hall
   have hrt : r = true:=hgood2.out hall
   subst hrt
   clear hall hgood2 hbad
   exact ga0
  ·intro K hK
   clear hgood2 he heI
   refine lpk (G:=Nat) (fun i=>⟨[(13,iA i),(12,iA l.length),(11,unL l),(0,unL l),(1,unL k)],[]⟩) (fun i=>i ≤ l.length ∧ Hld (∀ j (h : j < l.length) (h' : j < k.length),j < i → l[j] = k[j])) (fun i=>l.length - i) 0 ⟨Nat.zero_le _,⟨fun j h h' h0=>by omega⟩⟩ ?_
   rintro i ⟨hi,hh⟩ K hK
   by_cases hlt : i < l.length
   ·have hltI : (i : Int) < l.length:=by omega
    have hlt2 : i < k.length:=by have:=he2.out;omega
    have hlt2I : (i : Int) < k.length:=by omega
    have hst:=Hld.mk hh.out
    have hb:=Hld.mk (hbad.out i hlt hlt2)
    obtain ⟨u,hu⟩ : ∃ u,l[i] = u:=⟨_,rfl⟩
    obtain ⟨v,hv⟩ : ∃ v,k[i] = v:=⟨_,rfl⟩
    rw [hu,hv] at hb
    have hug : ∀ h : i < l.length,l[i] = u:=fun _=>hu
    have hvg : ∀ h : i < k.length,k[i] = v:=fun _=>hv
    by_cases huv : u = v
    ·have hnx : Hld (∀ j (h : j < l.length) (h' : j < k.length),j < i + 1 → l[j] = k[j]):=⟨fun j h h' hj=>by
      by_cases e : j = i
      ·subst e;rw [hu,hv,huv]
      ·exact hst.out j h h' (by omega)⟩
     subst huv
     replace hu:=()
     replace hv:=()
     clear hb hbad hst hh
     repeat' (first
      |(with_reducible first|refine uK ?_|refine uQ ?_|refine uX ?_|refine jq fun K hK=>?_|refine jb ?_)|(with_reducible refine rS hE ?_;simp [*,encU,↓eqA_U])|with_reducible refine rL hE ?_|(((with_reducible show RK _ _ _ _ _ _);first|refine jn ?_|refine js fun K' hK'=>?_);simp [*,encU,↓eqA_U])|with_reducible refine rD mixed hE ?_|((with_reducible show RKQ _ _ _ _ _ _);first|refine RKQ_nilk ⟨by decide,?_⟩|(refine jv fun K' hK'=>?_;simp [*,encU,↓eqA_U]))|((with_reducible first|refine ji fun X Y hX hY=>?_|refine jr ?_|refine jk ?_|refine jx ?_);simp [*,encU,↓eqA_U])|with_reducible refine And.intro ?_ ?_|omega|(refine imp1 fun h=>?_))
     exact ⟨i + 1,⟨by omega,hnx⟩,by omega,by simp⟩
    ·have hr0 : r = false:=hb.out huv
     subst hr0
     replace hu:=()
     replace hv:=()
     clear hb hbad hst hh
     repeat' (first
      |(with_reducible first|refine uK ?_|refine uQ ?_|refine uX ?_|refine jq fun K hK=>?_|refine jb ?_)|(with_reducible refine rS hE ?_;simp [*,encU,↓eqA_U])|with_reducible refine rL hE ?_|(((with_reducible show RK _ _ _ _ _ _);first|refine jn ?_|refine js fun K' hK'=>?_);simp [*,encU,↓eqA_U])|with_reducible refine rD mixed hE ?_|((with_reducible show RKQ _ _ _ _ _ _);first|refine RKQ_nilk ⟨by decide,?_⟩|(refine jv fun K' hK'=>?_;simp [*,encU,↓eqA_U]))|((with_reducible first|refine ji fun X Y hX hY=>?_|refine jr ?_|refine jk ?_|refine jx ?_);simp [*,encU,↓eqA_U])|with_reducible refine And.intro ?_ ?_|omega|(refine imp1 fun h=>?_))
   ·have hall:=fun (j : Nat) (h : j < l.length) (h' : j < k.length)=>hh.out j h h' (by omega)
    have hie : i = l.length:=by omega
    subst hie
    clear hbad hh
    replace hall:=Hld.mk hall
    repeat' (first
     |(with_reducible first|refine uK ?_|refine uX ?_|refine jq fun K hK=>?_|refine jb ?_)|((with_reducible first|refine rS hE ?_|refine jn ?_|refine js fun K' hK'=>?_|refine ji fun X Y hX hY=>?_|refine jr ?_|refine jk ?_|refine jx ?_);simp [*])|with_reducible refine rL hE ?_|with_reducible refine And.intro ?_ ?_|omega|(refine imp1 fun h=>?_))
    all_goals exact ⟨(),hall.out,by simp⟩
 ·have heI : ¬ (l.length : Int) = k.length:=by omega
  have hr0 : r = false:=hlen.out he
  subst hr0
  clear hlen hbad hgood
  refine pS Tryz.func59 ?_
  intro E hE
  exact ga0
set_option maxHeartbeats 4000000 in
theorem s_eqNd (l k : List Nd) (hl : l.length ≤ 1000000000) (hk : k.length ≤ 1000000000) : PSpec Tryz.prog 62 [ndL l,ndL k] (bA (decide (l = k))):=by
 obtain ⟨r,hr,hlen,hbad,hgood⟩:=eq_facts l k
 rw [hr]
 clear hr
 by_cases he : l.length = k.length
 ·have heI : (l.length : Int) = k.length:=by omega
  have hgood2:=Hld.mk (hgood.out he)
  have he2:=Hld.mk he
  clear hlen hgood
  refine pS Tryz.func62 ?_
  intro E hE
  refine AW_seqt ⟨[(0,ndL l),(1,ndL k)],[]⟩ ?_ (by
   intro K hK
   clear he
   exact ga0)
  refine AW_seqt ⟨[(0,ndL l),(1,ndL k)],[]⟩ ?_ (by
   intro K hK
   replace heI:=heI.symm
   have z'1:=he2.out;exact ga0)
  refine AW_seqE (G:=Unit) (fun _=>⟨[],[]⟩) (fun _=>∀ i (h : i < l.length) (h' : i < k.length),l[i] = k[i]) ?_ ?_
  ·intro _ hall
   have hrt : r = true:=hgood2.out hall
   subst hrt
   clear hall hgood2 hbad
   exact ga0
  ·intro K hK
   clear hgood2 he heI
   refine lpk (G:=Nat) (fun i=>⟨[(13,iA i),(12,iA l.length),(11,ndL l),(0,ndL l),(1,ndL k)],[]⟩) (fun i=>i ≤ l.length ∧ Hld (∀ j (h : j < l.length) (h' : j < k.length),j < i → l[j] = k[j])) (fun i=>l.length - i) 0 ⟨Nat.zero_le _,⟨fun j h h' h0=>by omega⟩⟩ ?_
   rintro i ⟨hi,hh⟩ K hK
   by_cases hlt : i < l.length
   ·have hltI : (i : Int) < l.length:=by omega
    have hlt2 : i < k.length:=by have:=he2.out;omega
    have hlt2I : (i : Int) < k.length:=by omega
    have hst:=Hld.mk hh.out
    have hb:=Hld.mk (hbad.out i hlt hlt2)
    obtain ⟨u,hu⟩ : ∃ u,l[i] = u:=⟨_,rfl⟩
    obtain ⟨v,hv⟩ : ∃ v,k[i] = v:=⟨_,rfl⟩
    rw [hu,hv] at hb
    have hug : ∀ h : i < l.length,l[i] = u:=fun _=>hu
    have hvg : ∀ h : i < k.length,k[i] = v:=fun _=>hv
    by_cases huv : u = v
    ·have hnx : Hld (∀ j (h : j < l.length) (h' : j < k.length),j < i + 1 → l[j] = k[j]):=⟨fun j h h' hj=>by
      by_cases e : j = i
      ·subst e;rw [hu,hv,huv]
      ·exact hst.out j h h' (by omega)⟩
     subst huv
     replace hu:=()
     replace hv:=()
     clear hb hbad hst hh
     repeat' (first
      |(with_reducible first|refine uK ?_|refine uQ ?_|refine uX ?_|refine jq fun K hK=>?_|refine jb ?_)|(with_reducible refine rS hE ?_;simp [*,encN,↓eqA_N])|with_reducible refine rL hE ?_|(((with_reducible show RK _ _ _ _ _ _);first|refine jn ?_|refine js fun K' hK'=>?_);simp [*,encN,↓eqA_N])|with_reducible refine rD mixed hE ?_|((with_reducible show RKQ _ _ _ _ _ _);first|refine RKQ_nilk ⟨by decide,?_⟩|(refine jv fun K' hK'=>?_;simp [*,encN,↓eqA_N]))|((with_reducible first|refine ji fun X Y hX hY=>?_|refine jr ?_|refine jk ?_|refine jx ?_);simp [*,encN,↓eqA_N])|with_reducible refine And.intro ?_ ?_|omega|(refine imp1 fun h=>?_))
     exact ⟨i + 1,⟨by omega,hnx⟩,by omega,by simp⟩
    ·have hr0 : r = false:=hb.out huv
     subst hr0
     replace hu:=()
     replace hv:=()
     clear hb hbad hst hh
     repeat' (first
      |(with_reducible first|refine uK ?_|refine uQ ?_|refine uX ?_|refine jq fun K hK=>?_|refine jb ?_)|(with_reducible refine rS hE ?_;simp [*,encN,↓eqA_N])|with_reducible refine rL hE ?_|(((with_reducible show RK _ _ _ _ _ _);first|refine jn ?_|refine js fun K' hK'=>?_);simp [*,encN,↓eqA_N])|with_reducible refine rD mixed hE ?_|((with_reducible show RKQ _ _ _ _ _ _);first|refine RKQ_nilk ⟨by decide,?_⟩|(refine jv fun K' hK'=>?_;simp [*,encN,↓eqA_N]))|((with_reducible first|refine ji fun X Y hX hY=>?_|refine jr ?_|refine jk ?_|refine jx ?_);simp [*,encN,↓eqA_N])|with_reducible refine And.intro ?_ ?_|omega|(refine imp1 fun h=>?_))
   ·have hall:=fun (j : Nat) (h : j < l.length) (h' : j < k.length)=>hh.out j h h' (by omega)
    have hie : i = l.length:=by omega
    subst hie
    clear hbad hh
    replace hall:=Hld.mk hall
    repeat' (first
     |(with_reducible first|refine uK ?_|refine uX ?_|refine jq fun K hK=>?_|refine jb ?_)|((with_reducible first|refine rS hE ?_|refine jn ?_|refine js fun K' hK'=>?_|refine ji fun X Y hX hY=>?_|refine jr ?_|refine jk ?_|refine jx ?_);simp [*])|with_reducible refine rL hE ?_|with_reducible refine And.intro ?_ ?_|omega|(refine imp1 fun h=>?_))
    all_goals exact ⟨(),hall.out,by simp⟩
 ·have heI : ¬ (l.length : Int) = k.length:=by omega
  have hr0 : r = false:=hlen.out he
  subst hr0
  clear hlen hbad hgood
  refine pS Tryz.func62 ?_
  intro E hE
  exact ga0
set_option maxHeartbeats 4000000 in
theorem s_sameUG (l k : List Un) (hl : l.length ≤ 1000000000) (hk : k.length ≤ 1000000000) : PSpec Tryz.prog 30 [unL l,unL k] (bA (decide (l = k))):=by
 obtain ⟨r,hr,hlen,hbad,hgood⟩:=eq_facts l k
 rw [hr]
 clear hr
 by_cases he : l.length = k.length
 ·have heI : (l.length : Int) = k.length:=by omega
  have hgood2:=Hld.mk (hgood.out he)
  have he2:=Hld.mk he
  clear hlen hgood
  refine pS Tryz.func30 ?_
  intro E hE
  refine AW_seqt ⟨[(0,unL l),(1,unL k)],[]⟩ ?_ (by
   intro K hK
   clear he
   exact ga0)
  refine AW_seqt ⟨[(0,unL l),(1,unL k)],[]⟩ ?_ (by
   intro K hK
   replace heI:=heI.symm
   have z'1:=he2.out;exact ga0)
  refine AW_seqE (G:=Unit) (fun _=>⟨[],[]⟩) (fun _=>∀ i (h : i < l.length) (h' : i < k.length),l[i] = k[i]) ?_ ?_
  ·intro _ hall
   have hrt : r = true:=hgood2.out hall
   subst hrt
   clear hall hgood2 hbad
   exact ga0
  ·intro K hK
   clear hgood2 he heI
   refine lpk (G:=Nat) (fun i=>⟨[(5,iA i),(0,unL l),(1,unL k)],[]⟩) (fun i=>i ≤ l.length ∧ Hld (∀ j (h : j < l.length) (h' : j < k.length),j < i → l[j] = k[j])) (fun i=>l.length - i) 0 ⟨Nat.zero_le _,⟨fun j h h' h0=>by omega⟩⟩ ?_
   rintro i ⟨hi,hh⟩ K hK
   by_cases hlt : i < l.length
   ·have hltI : (i : Int) < l.length:=by omega
    have hlt2 : i < k.length:=by have:=he2.out;omega
    have hlt2I : (i : Int) < k.length:=by omega
    have hst:=Hld.mk hh.out
    have hb:=Hld.mk (hbad.out i hlt hlt2)
    obtain ⟨u,hu⟩ : ∃ u,l[i] = u:=⟨_,rfl⟩
    obtain ⟨v,hv⟩ : ∃ v,k[i] = v:=⟨_,rfl⟩
    rw [hu,hv] at hb
    have hug : ∀ h : i < l.length,l[i] = u:=fun _=>hu
    have hvg : ∀ h : i < k.length,k[i] = v:=fun _=>hv
    by_cases huv : u = v
    ·have hnx : Hld (∀ j (h : j < l.length) (h' : j < k.length),j < i + 1 → l[j] = k[j]):=⟨fun j h h' hj=>by
      by_cases e : j = i
      ·subst e;rw [hu,hv,huv]
      ·exact hst.out j h h' (by omega)⟩
     subst huv
     replace hu:=()
     replace hv:=()
     clear hb hbad hst hh
     repeat' (first
      |(with_reducible first|refine uK ?_|refine uQ ?_|refine uX ?_|refine jq fun K hK=>?_|refine jb ?_)|(with_reducible refine rS hE ?_;simp [*,encU,↓eqA_U])|with_reducible refine rL hE ?_|(((with_reducible show RK _ _ _ _ _ _);first|refine jn ?_|refine js fun K' hK'=>?_);simp [*,encU,↓eqA_U])|with_reducible refine rD mixed hE ?_|((with_reducible show RKQ _ _ _ _ _ _);first|refine RKQ_nilk ⟨by decide,?_⟩|(refine jv fun K' hK'=>?_;simp [*,encU,↓eqA_U]))|((with_reducible first|refine ji fun X Y hX hY=>?_|refine jr ?_|refine jk ?_|refine jx ?_);simp [*,encU,↓eqA_U])|with_reducible refine And.intro ?_ ?_|omega|(refine imp1 fun h=>?_))
     exact ⟨i + 1,⟨by omega,hnx⟩,by omega,by simp⟩
    ·have hr0 : r = false:=hb.out huv
     subst hr0
     replace hu:=()
     replace hv:=()
     clear hb hbad hst hh
     repeat' (first
      |(with_reducible first|refine uK ?_|refine uQ ?_|refine uX ?_|refine jq fun K hK=>?_|refine jb ?_)|(with_reducible refine rS hE ?_;simp [*,encU,↓eqA_U])|with_reducible refine rL hE ?_|(((with_reducible show RK _ _ _ _ _ _);first|refine jn ?_|refine js fun K' hK'=>?_);simp [*,encU,↓eqA_U])|with_reducible refine rD mixed hE ?_|((with_reducible show RKQ _ _ _ _ _ _);first|refine RKQ_nilk ⟨by decide,?_⟩|(refine jv fun K' hK'=>?_;simp [*,encU,↓eqA_U]))|((with_reducible first|refine ji fun X Y hX hY=>?_|refine jr ?_|refine jk ?_|refine jx ?_);simp [*,encU,↓eqA_U])|with_reducible refine And.intro ?_ ?_|omega|(refine imp1 fun h=>?_))
   ·have hall:=fun (j : Nat) (h : j < l.length) (h' : j < k.length)=>hh.out j h h' (by omega)
    have hie : i = l.length:=by omega
    subst hie
    clear hbad hh
    replace hall:=Hld.mk hall
    repeat' (first
     |(with_reducible first|refine uK ?_|refine uX ?_|refine jq fun K hK=>?_|refine jb ?_)|((with_reducible first|refine rS hE ?_|refine jn ?_|refine js fun K' hK'=>?_|refine ji fun X Y hX hY=>?_|refine jr ?_|refine jk ?_|refine jx ?_);simp [*])|with_reducible refine rL hE ?_|with_reducible refine And.intro ?_ ?_|omega|(refine imp1 fun h=>?_))
    all_goals exact ⟨(),hall.out,by simp⟩
 ·have heI : ¬ (l.length : Int) = k.length:=by omega
  have hr0 : r = false:=hlen.out he
  subst hr0
  clear hlen hbad hgood
  refine pS Tryz.func30 ?_
  intro E hE
  exact ga0
theorem lf_eq (a b : Lf) : decide (a = b) = (decide (a.o = b.o) && (decide (a.first = b.first) && (decide (a.b = b.b) && decide (a.us = b.us)))):=by
 obtain ⟨o,f,us,x⟩:=a
 obtain ⟨o',f',us',x'⟩:=b
 by_cases h1 : o = o' <;> by_cases h2 : f = f' <;> by_cases h3 : x = x' <;> by_cases h4 : us = us' <;> simp [h1,h2,h3,h4]
set_option maxHeartbeats 4000000 in
theorem s_eqL1 (a b : Lf) (ha : a.us.length ≤ 1000000000) (hb : b.us.length ≤ 1000000000) : PSpec Tryz.prog 58 [encF a,encF b] (bA (decide (a = b))):=by
 rw [lf_eq]
 have hu:=Hld.mk (s_eqP a.us b.us ha hb)
 obtain ⟨r,hr⟩ : ∃ r,decide (a.us = b.us) = r:=⟨_,rfl⟩
 rw [hr] at hu ⊢
 clear hr ha hb
 by_cases h1 : a.o = b.o
 ·by_cases h2 : a.first = b.first
  ·by_cases h3 : a.b = b.b
   ·simp only [h1,h2,h3,decide_true,Bool.true_and]
    have x0 : a.b.x0 = b.b.x0:=by rw [h3]
    have x1 : a.b.x1 = b.b.x1:=by rw [h3]
    have y0 : a.b.y0 = b.b.y0:=by rw [h3]
    have y1 : a.b.y1 = b.b.y1:=by rw [h3]
    have t0 : a.b.t0 = b.b.t0:=by rw [h3]
    have t1 : a.b.t1 = b.b.t1:=by rw [h3]
    clear h3
    refine pS Tryz.func58 ?_
    intro E hE
    repeat' (first
     |(with_reducible first|refine uK ?_|refine uQ ?_|refine uX ?_|refine jq fun K hK=>?_|refine jb ?_)|(with_reducible refine rS hE ?_;simp [*,encF])|with_reducible refine rL hE ?_|(((with_reducible show RK _ _ _ _ _ _);first|refine jn ?_|refine js fun K' hK'=>?_);simp [*,encF])|with_reducible refine rD mixed hE ?_|((with_reducible show RKQ _ _ _ _ _ _);first|refine RKQ_nilk ⟨by decide,?_⟩|(refine jv fun K' hK'=>?_;simp [*,encF]))|((with_reducible first|refine ji fun X Y hX hY=>?_|refine jr ?_|refine jk ?_|refine jx ?_);simp [*,encF])|((first|refine jC (hu.out) ?_ ?_ ?_|refine jQ (hu.out) ?_ ?_ ?_);(iterate 2 focus (simp [*,encF] <;> fail));simp [*,encF])|with_reducible refine And.intro ?_ ?_|omega|(refine imp1 fun h=>?_))
   ·simp only [h1,h2,h3,decide_true,decide_false,Bool.true_and,Bool.false_and]
    refine pS Tryz.func58 ?_
    intro E hE
    repeat' (first
     |(with_reducible first|refine uK ?_|refine uQ ?_|refine uX ?_|refine jq fun K hK=>?_|refine jb ?_)|(with_reducible refine rS hE ?_;simp [*,encF,↓eqA_X])|with_reducible refine rL hE ?_|(((with_reducible show RK _ _ _ _ _ _);first|refine jn ?_|refine js fun K' hK'=>?_);simp [*,encF,↓eqA_X])|with_reducible refine rD mixed hE ?_|((with_reducible show RKQ _ _ _ _ _ _);first|refine RKQ_nilk ⟨by decide,?_⟩|(refine jv fun K' hK'=>?_;simp [*,encF,↓eqA_X]))|((with_reducible first|refine ji fun X Y hX hY=>?_|refine jr ?_|refine jk ?_|refine jx ?_);simp [*,encF,↓eqA_X])|((first|refine jC (hu.out) ?_ ?_ ?_|refine jQ (hu.out) ?_ ?_ ?_);(iterate 2 focus (simp [*,encF,↓eqA_X] <;> fail));simp [*,encF,↓eqA_X])|with_reducible refine And.intro ?_ ?_|omega|(refine imp1 fun h=>?_))
  ·simp only [h1,h2,decide_true,decide_false,Bool.true_and,Bool.false_and]
   refine pS Tryz.func58 ?_
   intro E hE
   repeat' (first
    |(with_reducible first|refine uK ?_|refine uQ ?_|refine uX ?_|refine jq fun K hK=>?_|refine jb ?_)|(with_reducible refine rS hE ?_;simp [*,encF])|with_reducible refine rL hE ?_|(((with_reducible show RK _ _ _ _ _ _);first|refine jn ?_|refine js fun K' hK'=>?_);simp [*,encF])|with_reducible refine rD mixed hE ?_|((with_reducible show RKQ _ _ _ _ _ _);first|refine RKQ_nilk ⟨by decide,?_⟩|(refine jv fun K' hK'=>?_;simp [*,encF]))|((with_reducible first|refine ji fun X Y hX hY=>?_|refine jr ?_|refine jk ?_|refine jx ?_);simp [*,encF])|((first|refine jC (hu.out) ?_ ?_ ?_|refine jQ (hu.out) ?_ ?_ ?_);(iterate 2 focus (simp [*,encF] <;> fail));simp [*,encF])|with_reducible refine And.intro ?_ ?_|omega|(refine imp1 fun h=>?_))
 ·simp only [h1,decide_false,Bool.false_and]
  refine pS Tryz.func58 ?_
  intro E hE
  repeat' (first
   |(with_reducible first|refine uK ?_|refine uQ ?_|refine uX ?_|refine jq fun K hK=>?_|refine jb ?_)|(with_reducible refine rS hE ?_;simp [*,encF])|with_reducible refine rL hE ?_|(((with_reducible show RK _ _ _ _ _ _);first|refine jn ?_|refine js fun K' hK'=>?_);simp [*,encF])|with_reducible refine rD mixed hE ?_|((with_reducible show RKQ _ _ _ _ _ _);first|refine RKQ_nilk ⟨by decide,?_⟩|(refine jv fun K' hK'=>?_;simp [*,encF]))|((with_reducible first|refine ji fun X Y hX hY=>?_|refine jr ?_|refine jk ?_|refine jx ?_);simp [*,encF])|((first|refine jC (hu.out) ?_ ?_ ?_|refine jQ (hu.out) ?_ ?_ ?_);(iterate 2 focus (simp [*,encF] <;> fail));simp [*,encF])|with_reducible refine And.intro ?_ ?_|omega|(refine imp1 fun h=>?_))
theorem s_eqL2 (a b : List Nd) (ha : a.length ≤ 1000000000) (hb : b.length ≤ 1000000000) : PSpec Tryz.prog 61 [ndL a,ndL b] (bA (decide (a = b))):=by
 have hu:=Hld.mk (s_eqNd a b ha hb)
 obtain ⟨r,hr⟩ : ∃ r,decide (a = b) = r:=⟨_,rfl⟩
 rw [hr] at hu ⊢
 clear hr ha hb
 refine pS Tryz.func61 ?_
 intro E hE
 have k'1:=hu;exact ga1
abbrev lfL (l : List Lf) : AV:=.sl 9 (l.map encF)
abbrev nsL (l : List (List Nd)) : AV:=.sl 1 (l.map ndL)
abbrev eq1F : AV:=.fn (.func 58) [] []
abbrev eq2F : AV:=.fn (.func 61) [] []
set_option maxHeartbeats 4000000 in
theorem s_eqFL (l k : List Lf) (h1 : ∀ f ∈ l,f.us.length ≤ 1000000000) (h2 : ∀ f ∈ k,f.us.length ≤ 1000000000) (hl : l.length ≤ 1000000000) (hk : k.length ≤ 1000000000) : PSpec Tryz.prog 57 [lfL l,lfL k,eq1F] (bA (decide (l = k))):=by
 obtain ⟨r,hr,hlen,hbad,hgood⟩:=eq_facts l k
 rw [hr]
 clear hr
 by_cases he : l.length = k.length
 ·have heI : (l.length : Int) = k.length:=by omega
  have hgood2:=Hld.mk (hgood.out he)
  have he2:=Hld.mk he
  clear hlen hgood
  refine pS Tryz.func57 ?_
  intro E hE
  refine AW_seqt ⟨[(0,lfL l),(1,lfL k),(2,eq1F)],[]⟩ ?_ (by
   intro K hK
   clear he
   exact ga0)
  refine AW_seqt ⟨[(0,lfL l),(1,lfL k),(2,eq1F)],[]⟩ ?_ (by
   intro K hK
   replace heI:=heI.symm
   have z'1:=he2.out;exact ga0)
  refine AW_seqE (G:=Unit) (fun _=>⟨[],[]⟩) (fun _=>∀ i (h : i < l.length) (h' : i < k.length),l[i] = k[i]) ?_ ?_
  ·intro _ hall
   have hrt : r = true:=hgood2.out hall
   subst hrt
   clear hall hgood2 hbad
   exact ga0
  ·intro K hK
   clear hgood2 he heI
   refine lpk (G:=Nat) (fun i=>⟨[(17,iA i),(16,iA l.length),(15,lfL l),(0,lfL l),(1,lfL k),(2,eq1F)],[]⟩) (fun i=>i ≤ l.length ∧ Hld (∀ j (h : j < l.length) (h' : j < k.length),j < i → l[j] = k[j])) (fun i=>l.length - i) 0 ⟨Nat.zero_le _,⟨fun j h h' h0=>by omega⟩⟩ ?_
   rintro i ⟨hi,hh⟩ K hK
   by_cases hlt : i < l.length
   ·have hltI : (i : Int) < l.length:=by omega
    have hlt2 : i < k.length:=by have:=he2.out;omega
    have hlt2I : (i : Int) < k.length:=by omega
    have hst:=Hld.mk hh.out
    have hb:=Hld.mk (hbad.out i hlt hlt2)
    have hc:=Hld.mk (s_eqL1 l[i] k[i] (h1 _ (List.getElem_mem hlt)) (h2 _ (List.getElem_mem hlt2)))
    obtain ⟨u,hu⟩ : ∃ u,l[i] = u:=⟨_,rfl⟩
    obtain ⟨v,hv⟩ : ∃ v,k[i] = v:=⟨_,rfl⟩
    rw [hu,hv] at hb hc
    have hug : ∀ h : i < l.length,l[i] = u:=fun _=>hu
    have hvg : ∀ h : i < k.length,k[i] = v:=fun _=>hv
    by_cases huv : u = v
    ·have hnx : Hld (∀ j (h : j < l.length) (h' : j < k.length),j < i + 1 → l[j] = k[j]):=⟨fun j h h' hj=>by
      by_cases e : j = i
      ·subst e;rw [hu,hv,huv]
      ·exact hst.out j h h' (by omega)⟩
     subst huv
     replace hu:=()
     replace hv:=()
     clear hb hbad hst hh
     have hc1 : Hld (PSpec Tryz.prog 58 [encF u,encF u] (bA true)):=⟨by have:=hc.out;simpa using this⟩
     clear hc
     repeat' (first
      |(with_reducible first|refine uK ?_|refine uX ?_|refine jq fun K hK=>?_|refine jb ?_)|((with_reducible first|refine rS hE ?_|refine jn ?_|refine js fun K' hK'=>?_|refine ji fun X Y hX hY=>?_|refine jr ?_|refine jk ?_|refine jx ?_);simp [*])|with_reducible refine rL hE ?_|(refine jC (hc1.out) ?_ ?_ ?_;(iterate 2 focus (simp [*] <;> fail));simp [*])|with_reducible refine And.intro ?_ ?_|omega|(refine imp1 fun h=>?_))
     exact ⟨i + 1,⟨by omega,hnx⟩,by omega,by simp⟩
    ·have hr0 : r = false:=hb.out huv
     subst hr0
     replace hu:=()
     replace hv:=()
     clear hb hbad hst hh
     have hc1 : Hld (PSpec Tryz.prog 58 [encF u,encF v] (bA false)):=⟨by have:=hc.out;simpa [huv] using this⟩
     clear hc
     have k'1:=hc1;exact ga1
   ·have hall:=fun (j : Nat) (h : j < l.length) (h' : j < k.length)=>hh.out j h h' (by omega)
    have hie : i = l.length:=by omega
    subst hie
    clear hbad hh
    replace hall:=Hld.mk hall
    repeat' (first
     |(with_reducible first|refine uK ?_|refine uX ?_|refine jq fun K hK=>?_|refine jb ?_)|((with_reducible first|refine rS hE ?_|refine jn ?_|refine js fun K' hK'=>?_|refine ji fun X Y hX hY=>?_|refine jr ?_|refine jk ?_|refine jx ?_);simp [*])|with_reducible refine rL hE ?_|with_reducible refine And.intro ?_ ?_|omega|(refine imp1 fun h=>?_))
    all_goals exact ⟨(),hall.out,by simp⟩
 ·have heI : ¬ (l.length : Int) = k.length:=by omega
  have hr0 : r = false:=hlen.out he
  subst hr0
  clear hlen hbad hgood
  refine pS Tryz.func57 ?_
  intro E hE
  exact ga0
set_option maxHeartbeats 4000000 in
theorem s_eqFN (l k : List (List Nd)) (h1 : ∀ f ∈ l,f.length ≤ 1000000000) (h2 : ∀ f ∈ k,f.length ≤ 1000000000) (hl : l.length ≤ 1000000000) (hk : k.length ≤ 1000000000) : PSpec Tryz.prog 60 [nsL l,nsL k,eq2F] (bA (decide (l = k))):=by
 obtain ⟨r,hr,hlen,hbad,hgood⟩:=eq_facts l k
 rw [hr]
 clear hr
 by_cases he : l.length = k.length
 ·have heI : (l.length : Int) = k.length:=by omega
  have hgood2:=Hld.mk (hgood.out he)
  have he2:=Hld.mk he
  clear hlen hgood
  refine pS Tryz.func60 ?_
  intro E hE
  refine AW_seqt ⟨[(0,nsL l),(1,nsL k),(2,eq2F)],[]⟩ ?_ (by
   intro K hK
   clear he
   exact ga0)
  refine AW_seqt ⟨[(0,nsL l),(1,nsL k),(2,eq2F)],[]⟩ ?_ (by
   intro K hK
   replace heI:=heI.symm
   have z'1:=he2.out;exact ga0)
  refine AW_seqE (G:=Unit) (fun _=>⟨[],[]⟩) (fun _=>∀ i (h : i < l.length) (h' : i < k.length),l[i] = k[i]) ?_ ?_
  ·intro _ hall
   have hrt : r = true:=hgood2.out hall
   subst hrt
   clear hall hgood2 hbad
   exact ga0
  ·intro K hK
   clear hgood2 he heI
   refine lpk (G:=Nat) (fun i=>⟨[(17,iA i),(16,iA l.length),(15,nsL l),(0,nsL l),(1,nsL k),(2,eq2F)],[]⟩) (fun i=>i ≤ l.length ∧ Hld (∀ j (h : j < l.length) (h' : j < k.length),j < i → l[j] = k[j])) (fun i=>l.length - i) 0 ⟨Nat.zero_le _,⟨fun j h h' h0=>by omega⟩⟩ ?_
   rintro i ⟨hi,hh⟩ K hK
   by_cases hlt : i < l.length
   ·have hltI : (i : Int) < l.length:=by omega
    have hlt2 : i < k.length:=by have:=he2.out;omega
    have hlt2I : (i : Int) < k.length:=by omega
    have hst:=Hld.mk hh.out
    have hb:=Hld.mk (hbad.out i hlt hlt2)
    have hc:=Hld.mk (s_eqL2 l[i] k[i] (h1 _ (List.getElem_mem hlt)) (h2 _ (List.getElem_mem hlt2)))
    obtain ⟨u,hu⟩ : ∃ u,l[i] = u:=⟨_,rfl⟩
    obtain ⟨v,hv⟩ : ∃ v,k[i] = v:=⟨_,rfl⟩
    rw [hu,hv] at hb hc
    have hug : ∀ h : i < l.length,l[i] = u:=fun _=>hu
    have hvg : ∀ h : i < k.length,k[i] = v:=fun _=>hv
    by_cases huv : u = v
    ·have hnx : Hld (∀ j (h : j < l.length) (h' : j < k.length),j < i + 1 → l[j] = k[j]):=⟨fun j h h' hj=>by
      by_cases e : j = i
      ·subst e;rw [hu,hv,huv]
      ·exact hst.out j h h' (by omega)⟩
     subst huv
     replace hu:=()
     replace hv:=()
     clear hb hbad hst hh
     have hc1 : Hld (PSpec Tryz.prog 61 [ndL u,ndL u] (bA true)):=⟨by have:=hc.out;simpa using this⟩
     clear hc
     repeat' (first
      |(with_reducible first|refine uK ?_|refine uX ?_|refine jq fun K hK=>?_|refine jb ?_)|((with_reducible first|refine rS hE ?_|refine jn ?_|refine js fun K' hK'=>?_|refine ji fun X Y hX hY=>?_|refine jr ?_|refine jk ?_|refine jx ?_);simp [*])|with_reducible refine rL hE ?_|(refine jC (hc1.out) ?_ ?_ ?_;(iterate 2 focus (simp [*] <;> fail));simp [*])|with_reducible refine And.intro ?_ ?_|omega|(refine imp1 fun h=>?_))
     exact ⟨i + 1,⟨by omega,hnx⟩,by omega,by simp⟩
    ·have hr0 : r = false:=hb.out huv
     subst hr0
     replace hu:=()
     replace hv:=()
     clear hb hbad hst hh
     have hc1 : Hld (PSpec Tryz.prog 61 [ndL u,ndL v] (bA false)):=⟨by have:=hc.out;simpa [huv] using this⟩
     clear hc
     have k'1:=hc1;exact ga1
   ·have hall:=fun (j : Nat) (h : j < l.length) (h' : j < k.length)=>hh.out j h h' (by omega)
    have hie : i = l.length:=by omega
    subst hie
    clear hbad hh
    replace hall:=Hld.mk hall
    repeat' (first
     |(with_reducible first|refine uK ?_|refine uX ?_|refine jq fun K hK=>?_|refine jb ?_)|((with_reducible first|refine rS hE ?_|refine jn ?_|refine js fun K' hK'=>?_|refine ji fun X Y hX hY=>?_|refine jr ?_|refine jk ?_|refine jx ?_);simp [*])|with_reducible refine rL hE ?_|with_reducible refine And.intro ?_ ?_|omega|(refine imp1 fun h=>?_))
    all_goals exact ⟨(),hall.out,by simp⟩
 ·have heI : ¬ (l.length : Int) = k.length:=by omega
  have hr0 : r = false:=hlen.out he
  subst hr0
  clear hlen hbad hgood
  refine pS Tryz.func60 ?_
  intro E hE
  exact ga0
theorem tr_eq (a b : Tr) : decide (a = b) = (decide (a.size = b.size) && (decide (a.lv = b.lv) && decide (a.ns = b.ns))):=by
 obtain ⟨o,f,us⟩:=a
 obtain ⟨o',f',us'⟩:=b
 by_cases h1 : o = o' <;> by_cases h2 : f = f' <;> by_cases h3 : us = us' <;> simp [h1,h2,h3]
structure TrB (t : Tr) : Prop where
 lv : t.lv.length ≤ 1000000000
 ns : t.ns.length ≤ 1000000000
 us : ∀ f ∈ t.lv,f.us.length ≤ 1000000000
 row : ∀ l ∈ t.ns,l.length ≤ 1000000000
theorem s_Equal {a b : Tr} (ha : TrB a) (hb : TrB b) : PSpec Tryz.prog 26 [encT a,encT b] (bA (decide (a = b))):=by
 rw [tr_eq]
 have h1:=Hld.mk (s_eqFL a.lv b.lv ha.us hb.us ha.lv hb.lv)
 have h2:=Hld.mk (s_eqFN a.ns b.ns ha.row hb.row ha.ns hb.ns)
 obtain ⟨p,hp⟩ : ∃ p,decide (a.lv = b.lv) = p:=⟨_,rfl⟩
 obtain ⟨q,hq⟩ : ∃ p,decide (a.ns = b.ns) = p:=⟨_,rfl⟩
 rw [hp] at h1 ⊢
 rw [hq] at h2 ⊢
 clear hp hq ha hb
 by_cases hs : a.size = b.size
 ·simp only [hs,decide_true,Bool.true_and]
  rcases p with _|_
  ·refine pS Tryz.func26 ?_
   intro E hE
   have k'1:=h1;have k'2:=h2;have z'1:=@encT.eq_1;exact ga2
  ·refine pS Tryz.func26 ?_
   intro E hE
   have k'1:=h1;have k'2:=h2;have z'1:=@encT.eq_1;exact ga2
 ·simp only [hs,decide_false,Bool.false_and]
  refine pS Tryz.func26 ?_
  intro E hE
  have k'1:=h1;have k'2:=h2;have z'1:=@encT.eq_1;exact ga2
set_option maxHeartbeats 16000000 in
theorem s_same {a b : Tr} (ha : TrB a) (hb : TrB b) : PSpec Tryz.prog 27 [encT a,encT b] (bA (decide (a = b))):=by
 obtain ⟨r,hr⟩ : ∃ r,decide (a = b) = r:=⟨_,rfl⟩
 have f0 : a.size ≠ b.size → r = false:=fun h=>by rw [← hr];exact decide_eq_false fun e=>h (by rw [e])
 have f1 : a.lv.length ≠ b.lv.length → r = false:=fun h=>by rw [← hr];exact decide_eq_false fun e=>h (by rw [e])
 have f2 : a.ns.length ≠ b.ns.length → r = false:=fun h=>by rw [← hr];exact decide_eq_false fun e=>h (by rw [e])
 have f3 : Hld (∀ i (h : i < a.lv.length) (h' : i < b.lv.length),a.lv[i] ≠ b.lv[i] → r = false):=⟨fun i h h' hn=>by rw [← hr];exact decide_eq_false fun e=>hn (by subst e;rfl)⟩
 have f4 : Hld (∀ i (h : i < a.ns.length) (h' : i < b.ns.length),a.ns[i] ≠ b.ns[i] → r = false):=⟨fun i h h' hn=>by rw [← hr];exact decide_eq_false fun e=>hn (by subst e;rfl)⟩
 have f5 : Hld (a.size = b.size → a.lv = b.lv → a.ns = b.ns → r = true):=⟨fun h1 h2 h3=>by rw [← hr,tr_eq];simp [h1,h2,h3]⟩
 rw [hr]
 clear hr
 refine pS Tryz.func27 ?_
 intro E hE
 refine sq ⟨[(2,.loc 2 0),(3,.loc 3 0)],[(2,.box 34 (encT a)),(3,.box 34 (encT b))]⟩ ?_
 refine AW_freeze 2 (cb:=.box 34 (encT a)) (t:=⟨[(2,.ep (encT a)),(3,.loc 3 0)],[(3,.box 34 (encT b))]⟩) (by simp) (by simp) (by simp) ?_
 refine AW_freeze 3 (cb:=.box 34 (encT b)) (t:=⟨[(2,.ep (encT a)),(3,.ep (encT b))],[]⟩) (by simp) (by simp) (by simp) ?_
 by_cases e0 : a.size = b.size
 ·by_cases e1 : a.lv.length = b.lv.length
  ·by_cases e2 : a.ns.length = b.ns.length
   ·have g0:=Hld.mk e0
    have g1:=Hld.mk e1
    have g2:=Hld.mk e2
    have e1I : (b.lv.length : Int) = a.lv.length:=by omega
    have e2I : (b.ns.length : Int) = a.ns.length:=by omega
    have hbl:=Hld.mk hb
    have hal:=Hld.mk ha
    have hanl:=ha.ns
    have hall0:=ha.lv
    clear f0 f1 f2 e1 e2 ha hb
    refine AW_seqt ⟨[(2,.ep (encT a)),(3,.ep (encT b))],[]⟩ ?_ (by
     intro K hK
     have z'1:=@encT.eq_1;exact ga0)
    clear e0 e1I e2I
    refine AW_seqE (G:=Unit) (fun _=>⟨[(2,.ep (encT a)),(3,.ep (encT b))],[]⟩) (fun _=>∀ i (h : i < a.lv.length) (h' : i < b.lv.length),a.lv[i] = b.lv[i]) ?_ ?_
    ·intro _ hall
     have k1 : Hld (a.lv = b.lv):=⟨List.ext_getElem g1.out fun i h1 h2=>hall i h1 h2⟩
     clear hall f3
     refine AW_seqE (G:=Unit) (fun _=>⟨[],[]⟩) (fun _=>∀ i (h : i < a.ns.length) (h' : i < b.ns.length),a.ns[i] = b.ns[i]) ?_ ?_
     ·intro _ hall
      have hrt : r = true:=f5.out g0.out k1.out (List.ext_getElem g2.out fun i h1 h2=>hall i h1 h2)
      subst hrt
      clear hall f4 f5
      exact ga0
     ·intro K hK
      clear f5
      refine lpk (G:=Nat) (fun i=>⟨[(8,iA i),(2,.ep (encT a)),(3,.ep (encT b))],[]⟩) (fun i=>i ≤ a.ns.length ∧ Hld (∀ j (h : j < a.ns.length) (h' : j < b.ns.length),j < i → a.ns[j] = b.ns[j])) (fun i=>a.ns.length - i) 0 ⟨Nat.zero_le _,⟨fun j h h' h0=>by omega⟩⟩ ?_
      rintro i ⟨hi,hh⟩ K hK
      by_cases hlt : i < a.ns.length
      ·have hltI : (i : Int) < a.ns.length:=by omega
       have hlt2 : i < b.ns.length:=by have:=g2.out;omega
       have hlt2I : (i : Int) < b.ns.length:=by omega
       have hst:=Hld.mk hh.out
       have hbd:=Hld.mk (f4.out i hlt hlt2)
       have hpl:=hal.out.row _ (List.getElem_mem hlt)
       have hql:=hbl.out.row _ (List.getElem_mem hlt2)
       obtain ⟨p,hp⟩ : ∃ u,a.ns[i] = u:=⟨_,rfl⟩
       obtain ⟨q,hq⟩ : ∃ v,b.ns[i] = v:=⟨_,rfl⟩
       rw [hp,hq] at hbd
       rw [hp] at hpl
       rw [hq] at hql
       have hpg : ∀ h : i < a.ns.length,a.ns[i] = p:=fun _=>hp
       have hqg : ∀ h : i < b.ns.length,b.ns[i] = q:=fun _=>hq
       have hnx : p = q → Hld (∀ j (h : j < a.ns.length) (h' : j < b.ns.length),j < i + 1 → a.ns[j] = b.ns[j]):=fun epq=>⟨fun j h h' hj=>by
        by_cases e : j = i
        ·subst e;rw [hp,hq,epq]
        ·exact hst.out j h h' (by omega)⟩
       replace hnx:=Hld.mk hnx
       replace hp:=()
       replace hq:=()
       clear hst hh f4
       refine AW_seqt ⟨[(8,iA i),(2,.ep (encT a)),(3,.ep (encT b))],[]⟩ ?_ (by
        intro K hK
        have z'1:=@encT.eq_1;exact ga0)
       refine AW_seqE (G:=Unit) (fun _=>⟨[(8,iA i),(2,.ep (encT a)),(3,.ep (encT b))],[]⟩) (fun _=>p = q) ?_ ?_
       ·intro _ epq
        have hn2:=hnx.out epq
        clear epq hbd hnx
        repeat' (first
         |(with_reducible first|refine uK ?_|refine uX ?_|refine jq fun K hK=>?_|refine jb ?_)|((with_reducible first|refine rS hE ?_|refine jn ?_|refine js fun K' hK'=>?_|refine ji fun X Y hX hY=>?_|refine jr ?_|refine jk ?_|refine jx ?_);simp [*])|with_reducible refine rL hE ?_|with_reducible refine And.intro ?_ ?_|omega|(refine imp1 fun h=>?_))
        exact ⟨i + 1,⟨by omega,hn2⟩,by omega,by simp⟩
       ·intro K hK
        refine AW_block ?_
        by_cases el : p.length = q.length
        ·have elI : (q.length : Int) = p.length:=by omega
         have el2:=Hld.mk el
         refine AW_seqt ⟨[(8,iA i),(2,.ep (encT a)),(3,.ep (encT b))],[]⟩ ?_ (by
          intro K hK
          clear hbd el
          repeat' (first
           |(with_reducible first|refine uK ?_|refine uQ ?_|refine uX ?_|refine jq fun K hK=>?_|refine jb ?_)|(with_reducible refine rS hE ?_;simp [*,encT])|with_reducible refine rL hE ?_|(((with_reducible show RK _ _ _ _ _ _);first|refine jn ?_|refine js fun K' hK'=>?_);simp [*,encT])|with_reducible refine rD mixed hE ?_|((with_reducible show RKQ _ _ _ _ _ _);first|refine RKQ_nilk ⟨by decide,?_⟩|(refine jv fun K' hK'=>?_;simp [*,encT]))|((with_reducible first|refine ji fun X Y hX hY=>?_|refine jr ?_|refine jk ?_|refine jx ?_);simp [*,encT])|with_reducible refine And.intro ?_ ?_|omega|(refine imp1 fun h=>?_))
          all_goals simp [encT])
         clear el elI
         refine lpk (G:=Nat) (fun j=>⟨[(9,iA j),(8,iA i),(2,.ep (encT a)),(3,.ep (encT b))],[]⟩) (fun j=>j ≤ p.length ∧ Hld (∀ k (h : k < p.length) (h' : k < q.length),k < j → p[k] = q[k])) (fun j=>p.length - j) 0 ⟨Nat.zero_le _,⟨fun j h h' h0=>by omega⟩⟩ ?_
         rintro j ⟨hj,hh⟩ K hK
         by_cases hjt : j < p.length
         ·have hjtI : (j : Int) < p.length:=by omega
          have hjt2 : j < q.length:=by have:=el2.out;omega
          have hjt2I : (j : Int) < q.length:=by omega
          have hst:=Hld.mk hh.out
          have hpq : Hld (p[j] ≠ q[j] → p ≠ q):=⟨fun h e=>h (by subst e;rfl)⟩
          obtain ⟨u,hu⟩ : ∃ u,p[j] = u:=⟨_,rfl⟩
          obtain ⟨v,hv⟩ : ∃ v,q[j] = v:=⟨_,rfl⟩
          rw [hu,hv] at hpq
          have hug : ∀ h : j < p.length,p[j] = u:=fun _=>hu
          have hvg : ∀ h : j < q.length,q[j] = v:=fun _=>hv
          have hnn : Hld (u = v → ∀ k (h : k < p.length) (h' : k < q.length),k < j + 1 → p[k] = q[k]):=⟨fun euv k h h' hk=>by
           by_cases e : k = j
           ·subst e;rw [hu,hv,euv]
           ·exact hst.out k h h' (by omega)⟩
          replace hu:=()
          replace hv:=()
          clear hst hh
          refine AW_seqt ⟨[(9,iA j),(8,iA i),(2,.ep (encT a)),(3,.ep (encT b))],[]⟩ ?_ (by
           intro K hK
           clear hbd hpq
           have z'1:=@encT.eq_1;exact ga0)
          by_cases huv : u = v
          ·have hn3:=Hld.mk (hnn.out huv)
           subst huv
           clear hbd hpq hnn
           repeat' (first
            |(with_reducible first|refine uK ?_|refine uQ ?_|refine uX ?_|refine jq fun K hK=>?_|refine jb ?_)|(with_reducible refine rS hE ?_;simp [*,encT,encN])|with_reducible refine rL hE ?_|(((with_reducible show RK _ _ _ _ _ _);first|refine jn ?_|refine js fun K' hK'=>?_);simp [*,encT,encN])|with_reducible refine rD mixed hE ?_|((with_reducible show RKQ _ _ _ _ _ _);first|refine RKQ_nilk ⟨by decide,?_⟩|(refine jv fun K' hK'=>?_;simp [*,encT,encN]))|((with_reducible first|refine ji fun X Y hX hY=>?_|refine jr ?_|refine jk ?_|refine jx ?_);simp [*,encT,encN])|with_reducible refine And.intro ?_ ?_|omega|(refine imp1 fun h=>?_))
           exact ⟨j + 1,⟨by omega,hn3⟩,by omega,by simp [encT]⟩
          ·have hr0 : r = false:=hbd.out (hpq.out huv)
           subst hr0
           clear hbd hpq hnn hnx
           repeat' (first
            |(with_reducible first|refine uK ?_|refine uQ ?_|refine uX ?_|refine jq fun K hK=>?_|refine jb ?_)|(with_reducible refine rS hE ?_;simp [*,encT,encN,↓eqA_N])|with_reducible refine rL hE ?_|(((with_reducible show RK _ _ _ _ _ _);first|refine jn ?_|refine js fun K' hK'=>?_);simp [*,encT,encN,↓eqA_N])|with_reducible refine rD mixed hE ?_|((with_reducible show RKQ _ _ _ _ _ _);first|refine RKQ_nilk ⟨by decide,?_⟩|(refine jv fun K' hK'=>?_;simp [*,encT,encN,↓eqA_N]))|((with_reducible first|refine ji fun X Y hX hY=>?_|refine jr ?_|refine jk ?_|refine jx ?_);simp [*,encT,encN,↓eqA_N])|with_reducible refine And.intro ?_ ?_|omega|(refine imp1 fun h=>?_))
         ·have hall:=fun (k : Nat) (h : k < p.length) (h' : k < q.length)=>hh.out k h h' (by omega)
          have epq:=Hld.mk (List.ext_getElem el2.out fun k h1 h2=>hall k h1 h2)
          have hje : j = p.length:=by omega
          subst hje
          clear hall hh hbd
          repeat' (first
           |(with_reducible first|refine uK ?_|refine uX ?_|refine jq fun K hK=>?_|refine jb ?_)|((with_reducible first|refine rS hE ?_|refine jn ?_|refine js fun K' hK'=>?_|refine ji fun X Y hX hY=>?_|refine jr ?_|refine jk ?_|refine jx ?_);simp [*,encT])|with_reducible refine rL hE ?_|with_reducible refine And.intro ?_ ?_|omega|(refine imp1 fun h=>?_))
          all_goals exact ⟨(),epq.out,by simp [encT]⟩
        ·have elI : ¬ (p.length : Int) = q.length:=by omega
         have hr0 : r = false:=hbd.out (fun e=>el (by rw [e]))
         subst hr0
         clear hbd hnx
         repeat' (first
          |(with_reducible first|refine uK ?_|refine uQ ?_|refine uX ?_|refine jq fun K hK=>?_|refine jb ?_)|(with_reducible refine rS hE ?_;simp [*,encT])|with_reducible refine rL hE ?_|(((with_reducible show RK _ _ _ _ _ _);first|refine jn ?_|refine js fun K' hK'=>?_);simp [*,encT])|with_reducible refine rD mixed hE ?_|((with_reducible show RKQ _ _ _ _ _ _);first|refine RKQ_nilk ⟨by decide,?_⟩|(refine jv fun K' hK'=>?_;simp [*,encT]))|((with_reducible first|refine ji fun X Y hX hY=>?_|refine jr ?_|refine jk ?_|refine jx ?_);simp [*,encT])|with_reducible refine And.intro ?_ ?_|omega|(refine imp1 fun h=>?_))
      ·have hall:=fun (j : Nat) (h : j < a.ns.length) (h' : j < b.ns.length)=>hh.out j h h' (by omega)
       have hie : i = a.ns.length:=by omega
       subst hie
       clear f4 hh
       replace hall:=Hld.mk hall
       repeat' (first
        |(with_reducible first|refine uK ?_|refine uX ?_|refine jq fun K hK=>?_|refine jb ?_)|((with_reducible first|refine rS hE ?_|refine jn ?_|refine js fun K' hK'=>?_|refine ji fun X Y hX hY=>?_|refine jr ?_|refine jk ?_|refine jx ?_);simp [*,encT])|with_reducible refine rL hE ?_|with_reducible refine And.intro ?_ ?_|omega|(refine imp1 fun h=>?_))
       all_goals exact ⟨(),hall.out,by simp⟩
    ·intro K hK
     clear f4 f5
     refine lpk (G:=Nat) (fun i=>⟨[(5,iA i),(2,.ep (encT a)),(3,.ep (encT b))],[]⟩) (fun i=>i ≤ a.lv.length ∧ Hld (∀ j (h : j < a.lv.length) (h' : j < b.lv.length),j < i → a.lv[j] = b.lv[j])) (fun i=>a.lv.length - i) 0 ⟨Nat.zero_le _,⟨fun j h h' h0=>by omega⟩⟩ ?_
     rintro i ⟨hi,hh⟩ K hK
     by_cases hlt : i < a.lv.length
     ·have hltI : (i : Int) < a.lv.length:=by omega
      have hlt2 : i < b.lv.length:=by have:=g1.out;omega
      have hlt2I : (i : Int) < b.lv.length:=by omega
      have hst:=Hld.mk hh.out
      have hbd:=Hld.mk (f3.out i hlt hlt2)
      have hpl:=hal.out.us _ (List.getElem_mem hlt)
      have hql:=hbl.out.us _ (List.getElem_mem hlt2)
      obtain ⟨x,hx⟩ : ∃ u,a.lv[i] = u:=⟨_,rfl⟩
      obtain ⟨y,hy⟩ : ∃ v,b.lv[i] = v:=⟨_,rfl⟩
      rw [hx,hy] at hbd
      rw [hx] at hpl
      rw [hy] at hql
      have hxg : ∀ h : i < a.lv.length,a.lv[i] = x:=fun _=>hx
      have hyg : ∀ h : i < b.lv.length,b.lv[i] = y:=fun _=>hy
      have hnx : x = y → Hld (∀ j (h : j < a.lv.length) (h' : j < b.lv.length),j < i + 1 → a.lv[j] = b.lv[j]):=fun epq=>⟨fun j h h' hj=>by
       by_cases e : j = i
       ·subst e;rw [hx,hy,epq]
       ·exact hst.out j h h' (by omega)⟩
      replace hnx:=Hld.mk hnx
      replace hx:=()
      replace hy:=()
      have hsu:=Hld.mk (s_sameUG x.us y.us hpl hql)
      clear hst hh f3 hpl hql
      refine AW_seqt ⟨[(5,iA i),(2,.ep (encT a)),(3,.ep (encT b))],[]⟩ ?_ (by
       intro K hK
       clear hbd
       have z'1:=@encT.eq_1;exact ga0)
      refine AW_seqE (G:=Unit) (fun _=>⟨[(5,iA i),(2,.ep (encT a)),(3,.ep (encT b))],[]⟩) (fun _=>x = y) ?_ ?_
      ·intro _ exy
       have hn2:=hnx.out exy
       clear exy hbd hnx hsu
       repeat' (first
        |(with_reducible first|refine uK ?_|refine uX ?_|refine jq fun K hK=>?_|refine jb ?_)|((with_reducible first|refine rS hE ?_|refine jn ?_|refine js fun K' hK'=>?_|refine ji fun X Y hX hY=>?_|refine jr ?_|refine jk ?_|refine jx ?_);simp [*])|with_reducible refine rL hE ?_|with_reducible refine And.intro ?_ ?_|omega|(refine imp1 fun h=>?_))
       exact ⟨i + 1,⟨by omega,hn2⟩,by omega,by simp⟩
      ·intro K hK
       refine AW_block ?_
       refine AW_seqt ⟨[(6,.loc 6 0),(7,.loc 7 0),(5,iA i),(2,.ep (encT a)),(3,.ep (encT b))],[(6,.box 52 (encF x)),(7,.box 52 (encF y))]⟩ ?_ (by
        intro K hK
        clear hbd hsu hnx
        refine AW_drawF (fun f=>⟨[(40,if f 0 then .ep (lfL a.lv) else .u),(41,if f 1 then lfL a.lv else .u),(42,if f 2 then iA i else .u),(43,if f 3 then .ep (encF x) else .u),(44,if f 4 then encF x else .u),(45,if f 5 then .ep (lfL b.lv) else .u),(46,if f 6 then lfL b.lv else .u),(47,if f 7 then iA i else .u),(48,if f 8 then .ep (encF y) else .u),(49,if f 9 then encF y else .u),(6,if f 10 then .loc 6 0 else .u),(7,if f 11 then .loc 7 0 else .u),(5,iA i),(2,.ep (encT a)),(3,.ep (encT b))],
         (if f 10 then [(6,.box 52 (if f 12 then encF x else .st [iA 0,iA 0,.v (.slice none 0 0),iA 0,iA 0,iA 0,iA 0,iA 0,iA 0]))] else []) ++ (if f 11 then [(7,.box 52 (if f 13 then encF y else .st [iA 0,iA 0,.v (.slice none 0 0),iA 0,iA 0,iA 0,iA 0,iA 0,iA 0]))] else [])⟩) mixed (by rw [hE];decide) (by decide +kernel) (by decide +kernel) (by simp) ?_ ?_
        ·intro f i o hi hdep hnot hcl K2 hK2
         have w12_10 : f 12 = true → f 10 = true:=gw
         have w13_11 : f 13 = true → f 11 = true:=gw
         have w12_4 : f 12 = true → f 4 = true:=gw
         have w13_9 : f 13 = true → f 9 = true:=gw
         clear hcl
         iterate 14 (rcases i with _|i;rotate_left)
         ·simp at hi
         all_goals (simp only [List.getElem?_cons_succ,List.getElem?_cons_zero,Option.some.injEq] at hi;subst hi)
         all_goals simp [Region.binds] at hdep
         all_goals (rcases a10 : f 10 <;> rcases a11 : f 11)
         all_goals try (exfalso;revert hdep hnot w12_10 w13_11 w12_4 w13_9;simp [a10,a11];done)
         all_goals (try simp [a10,a11,hnot] at w12_10)
         all_goals (try simp [a10,a11,hnot] at w13_11)
         all_goals (try simp [a10,a11,hnot] at w12_4)
         all_goals (try simp [a10,a11,hnot] at w13_9)
         all_goals (have z'1:=@encT.eq_1;exact gd0)
        ·intro f hf
         have e12:=hf 12 (by simp)
         have e13:=hf 13 (by simp)
         have e10:=hf 10 (by simp)
         have e11:=hf 11 (by simp)
         refine hK.h _ ?_
         simp [e12,e13,e10,e11,encT]
        all_goals simp)
       refine AW_freeze 6 (cb:=.box 52 (encF x)) (t:=⟨[(6,.ep (encF x)),(7,.loc 7 0),(5,iA i),(2,.ep (encT a)),(3,.ep (encT b))],[(7,.box 52 (encF y))]⟩) (by simp) (by simp) (by simp) ?_
       refine AW_freeze 7 (cb:=.box 52 (encF y)) (t:=⟨[(6,.ep (encF x)),(7,.ep (encF y)),(5,iA i),(2,.ep (encT a)),(3,.ep (encT b))],[]⟩) (by simp) (by simp) (by simp) ?_
       by_cases hxy : x = y
       ·subst hxy
        have hsu1 : Hld (PSpec Tryz.prog 30 [unL x.us,unL x.us] (bA true)):=⟨by have:=hsu.out;simpa using this⟩
        clear hsu hbd hnx
        repeat' (first
         |(with_reducible first|refine uK ?_|refine uQ ?_|refine uX ?_|refine jq fun K hK=>?_|refine jb ?_)|(with_reducible refine rS hE ?_;simp [*,encF])|with_reducible refine rL hE ?_|(((with_reducible show RK _ _ _ _ _ _);first|refine jn ?_|refine js fun K' hK'=>?_);simp [*,encF])|with_reducible refine rD mixed hE ?_|((with_reducible show RKQ _ _ _ _ _ _);first|refine RKQ_nilk ⟨by decide,?_⟩|(refine jv fun K' hK'=>?_;simp [*,encF]))|((with_reducible first|refine ji fun X Y hX hY=>?_|refine jr ?_|refine jk ?_|refine jx ?_);simp [*,encF])|((first|refine jC (hsu1.out) ?_ ?_ ?_|refine jQ (hsu1.out) ?_ ?_ ?_);(iterate 2 focus (simp [*,encF] <;> fail));simp [*,encF])|with_reducible refine And.intro ?_ ?_|omega|(refine imp1 fun h=>?_))
        all_goals exact ⟨(),rfl,by simp⟩
       ·have hr0 : r = false:=hbd.out hxy
        subst hr0
        have hd:=lf_eq x y
        rw [decide_eq_false hxy] at hd
        clear hbd hnx
        by_cases d1 : x.o = y.o
        ·by_cases d2 : x.first = y.first
         ·by_cases d3 : x.b = y.b
          ·have d4 : decide (x.us = y.us) = false:=by rw [d1,d2,d3] at hd;simpa using hd.symm
           rw [d4] at hsu
           have x0 : x.b.x0 = y.b.x0:=by rw [d3]
           have x1 : x.b.x1 = y.b.x1:=by rw [d3]
           have y0 : x.b.y0 = y.b.y0:=by rw [d3]
           have y1 : x.b.y1 = y.b.y1:=by rw [d3]
           have t0 : x.b.t0 = y.b.t0:=by rw [d3]
           have t1 : x.b.t1 = y.b.t1:=by rw [d3]
           clear d3 d4 hd hxy
           repeat' (first
            |(with_reducible first|refine uK ?_|refine uQ ?_|refine uX ?_|refine jq fun K hK=>?_|refine jb ?_)|(with_reducible refine rS hE ?_;simp [*,encF])|with_reducible refine rL hE ?_|(((with_reducible show RK _ _ _ _ _ _);first|refine jn ?_|refine js fun K' hK'=>?_);simp [*,encF])|with_reducible refine rD mixed hE ?_|((with_reducible show RKQ _ _ _ _ _ _);first|refine RKQ_nilk ⟨by decide,?_⟩|(refine jv fun K' hK'=>?_;simp [*,encF]))|((with_reducible first|refine ji fun X Y hX hY=>?_|refine jr ?_|refine jk ?_|refine jx ?_);simp [*,encF])|((first|refine jC (hsu.out) ?_ ?_ ?_|refine jQ (hsu.out) ?_ ?_ ?_);(iterate 2 focus (simp [*,encF] <;> fail));simp [*,encF])|with_reducible refine And.intro ?_ ?_|omega|(refine imp1 fun h=>?_))
          ·clear hd hxy hsu
           repeat' (first
            |(with_reducible first|refine uK ?_|refine uQ ?_|refine uX ?_|refine jq fun K hK=>?_|refine jb ?_)|(with_reducible refine rS hE ?_;simp [*,encF,↓eqA_X])|with_reducible refine rL hE ?_|(((with_reducible show RK _ _ _ _ _ _);first|refine jn ?_|refine js fun K' hK'=>?_);simp [*,encF,↓eqA_X])|with_reducible refine rD mixed hE ?_|((with_reducible show RKQ _ _ _ _ _ _);first|refine RKQ_nilk ⟨by decide,?_⟩|(refine jv fun K' hK'=>?_;simp [*,encF,↓eqA_X]))|((with_reducible first|refine ji fun X Y hX hY=>?_|refine jr ?_|refine jk ?_|refine jx ?_);simp [*,encF,↓eqA_X])|with_reducible refine And.intro ?_ ?_|omega|(refine imp1 fun h=>?_))
         ·clear hd hxy hsu
          repeat' (first
           |(with_reducible first|refine uK ?_|refine uQ ?_|refine uX ?_|refine jq fun K hK=>?_|refine jb ?_)|(with_reducible refine rS hE ?_;simp [*,encF])|with_reducible refine rL hE ?_|(((with_reducible show RK _ _ _ _ _ _);first|refine jn ?_|refine js fun K' hK'=>?_);simp [*,encF])|with_reducible refine rD mixed hE ?_|((with_reducible show RKQ _ _ _ _ _ _);first|refine RKQ_nilk ⟨by decide,?_⟩|(refine jv fun K' hK'=>?_;simp [*,encF]))|((with_reducible first|refine ji fun X Y hX hY=>?_|refine jr ?_|refine jk ?_|refine jx ?_);simp [*,encF])|with_reducible refine And.intro ?_ ?_|omega|(refine imp1 fun h=>?_))
        ·clear hd hxy hsu
         repeat' (first
          |(with_reducible first|refine uK ?_|refine uQ ?_|refine uX ?_|refine jq fun K hK=>?_|refine jb ?_)|(with_reducible refine rS hE ?_;simp [*,encF])|with_reducible refine rL hE ?_|(((with_reducible show RK _ _ _ _ _ _);first|refine jn ?_|refine js fun K' hK'=>?_);simp [*,encF])|with_reducible refine rD mixed hE ?_|((with_reducible show RKQ _ _ _ _ _ _);first|refine RKQ_nilk ⟨by decide,?_⟩|(refine jv fun K' hK'=>?_;simp [*,encF]))|((with_reducible first|refine ji fun X Y hX hY=>?_|refine jr ?_|refine jk ?_|refine jx ?_);simp [*,encF])|with_reducible refine And.intro ?_ ?_|omega|(refine imp1 fun h=>?_))
     ·have hall:=fun (j : Nat) (h : j < a.lv.length) (h' : j < b.lv.length)=>hh.out j h h' (by omega)
      have hie : i = a.lv.length:=by omega
      subst hie
      clear f3 hh
      replace hall:=Hld.mk hall
      repeat' (first
       |(with_reducible first|refine uK ?_|refine uX ?_|refine jq fun K hK=>?_|refine jb ?_)|((with_reducible first|refine rS hE ?_|refine jn ?_|refine js fun K' hK'=>?_|refine ji fun X Y hX hY=>?_|refine jr ?_|refine jk ?_|refine jx ?_);simp [*,encT])|with_reducible refine rL hE ?_|with_reducible refine And.intro ?_ ?_|omega|(refine imp1 fun h=>?_))
      all_goals exact ⟨(),hall.out,by simp [encT]⟩
   ·have e2I : ¬ (a.ns.length : Int) = b.ns.length:=by omega
    have e1I : (a.lv.length : Int) = b.lv.length:=by omega
    have hr0 : r = false:=f2 e2
    subst hr0
    clear f0 f1 f2 f3 f4 f5 e1 e2 ha hb
    have z'1:=@encT.eq_1;exact ga0
  ·have e1I : ¬ (a.lv.length : Int) = b.lv.length:=by omega
   have hr0 : r = false:=f1 e1
   subst hr0
   clear f0 f1 f2 f3 f4 f5 e1 ha hb
   have z'1:=@encT.eq_1;exact ga0
 ·have hr0 : r = false:=f0 e0
  subst hr0
  clear f0 f1 f2 f3 f4 f5 ha hb
  have z'1:=@encT.eq_1;exact ga0
theorem lbx_t0 {B : Un → Bx} {L U : Int} : ∀ (us : List Un) (a : Option Bx),(∀ u ∈ us,L ≤ (B u).t0 ∧ (B u).t0 ≤ U) → ((∃ x,a = some x) ∨ us ≠ []) → (∀ x,a = some x → L ≤ x.t0 ∧ x.t0 ≤ U) → L ≤ ((us.foldl (stB B) a).getD zBx).t0 ∧ ((us.foldl (stB B) a).getD zBx).t0 ≤ U
 |[],a,_,h,ha=>by
  rcases h with ⟨x,rfl⟩|h
  ·exact ha x rfl
  ·exact absurd rfl h
 |u :: us,a,hu,_,ha=>by
  have hu0:=hu u (by simp)
  have key : L ≤ (joiX (a.getD (B u)) (B u)).t0 ∧ (joiX (a.getD (B u)) (B u)).t0 ≤ U:=by
   show L ≤ min _ _ ∧ min _ _ ≤ U
   cases a with
   |none=>show L ≤ min (B u).t0 _ ∧ min (B u).t0 _ ≤ U;omega
   |some x=>have:=ha x rfl;show L ≤ min x.t0 _ ∧ min x.t0 _ ≤ U;omega
  exact lbx_t0 us (stB B a u) (fun v hv=>hu v (by simp [hv])) (.inl ⟨_,rfl⟩) (fun x hx=>by cases hx;exact key)
theorem SmU.t0 {u : Un} (h : SmU 19000 u) : -1000 ≤ (boxU u).t0 ∧ (boxU u).t0 ≤ 1000:=by
 have hl : Bd 64 1 (loQ u.f u.t):=by unfold loQ;split;exact h.t.bd;exact h.f.bd
 have:=flr_bd hl
 show (-1000 : Int) ≤ flr (loQ u.f u.t) ∧ flr (loQ u.f u.t) ≤ 1000
 omega
theorem lvA_t0 {l : List Ob} {m : Nat} (hm : 0 < m) (hl : ∀ o ∈ l,ObS o) : ∀ lf ∈ lvA boxU m l, -1000 ≤ lf.b.t0 ∧ lf.b.t0 ≤ 1000:=by
 intro lf hlf
 have hs:=lvA_lfs hm hl lf hlf
 obtain ⟨o,ho,hlf⟩:=List.mem_flatMap.1 hlf
 obtain ⟨j,hj,rfl⟩:=List.mem_map.1 hlf
 exact lbx_t0 _ none (fun u hu=>(hs.sm u hu).t0) (.inr hs.ne) (fun x hx=>by cases hx)
structure EqS (t : Tr) : Prop where
 b : TrB t
 t0 : ∀ f ∈ t.lv, -1000 ≤ f.b.t0 ∧ f.b.t0 ≤ 1000
theorem lvW_small' : ∀ (f : Nat) (bs : List Bx),(lvW f bs).length ≤ f ∧ ∀ l ∈ lvW f bs,l.length ≤ bs.length
 |0,bs=>by simp [lvW]
 |f + 1,bs=>by
  unfold lvW
  split
  ·simp
  ·rename_i h0
   have hn : (nds bs).length ≤ bs.length:=by rw [nds_len];unfold cnt;omega
   split
   ·refine ⟨by simp,fun l hl=>?_⟩
    rw [List.mem_singleton.1 hl]
    exact hn
   ·obtain ⟨a,b⟩:=lvW_small' f ((nds bs).map Nd.b)
    refine ⟨by simp;exact a,fun l hl=>?_⟩
    rcases List.mem_cons.1 hl with rfl|hl
    ·exact hn
    ·have:=b l hl
     rw [List.length_map] at this
     omega
theorem eqS {l : List Ob} {m : Nat} (hm : 0 < m) (hl : ∀ o ∈ l,ObS o) (h4 : l.length ≤ 4) : EqS (bldT boxU m l):=by
 have h1:=lvA_len hm hl
 obtain ⟨a,b⟩:=lvW_small' (lvA boxU m l).length ((lvA boxU m l).map Lf.b)
 refine ⟨⟨?_,?_,?_,?_⟩,lvA_t0 hm hl⟩
 ·show (lvA boxU m l).length ≤ _
  omega
 ·exact Nat.le_trans a (by omega)
 ·intro f hf
  have:=(lvA_lfs hm hl f hf).len
  omega
 ·intro x hx
  have:=b x hx
  rw [List.length_map] at this
  omega
theorem avM4 {n : Nat} {cs : List AV} (h : ShapeC Tryz.prog (n + 2) 49 cs) : ∃ a b c d : Nat,mkAV Tryz.prog 49 cs = .st [uA a,uA b,uA c,uA d] ∧ a < 256 ∧ b < 256 ∧ c < 256 ∧ d < 256:=by
 simp [ShapeC,ShapeA] at h
 obtain ⟨_,_,rfl,⟨a,rfl,ha⟩, -,h⟩:=h
 obtain ⟨_,_,rfl,⟨b,rfl,hb⟩, -,h⟩:=h
 obtain ⟨_,_,rfl,⟨c,rfl,hc⟩, -,h⟩:=h
 obtain ⟨_,_,rfl,⟨d,rfl,hd⟩, -,rfl⟩:=h
 exact ⟨a.toNat,b.toNat,c.toNat,d.toNat,by simp [mkAV,Int.toNat_of_nonneg ha.1,Int.toNat_of_nonneg hb.1,Int.toNat_of_nonneg hc.1,Int.toNat_of_nonneg hd.1],by omega,by omega,by omega,by omega⟩
def erl (t : Tr) (j : Nat) : Tr:=match t.lv[j]? with
 |some f=>⟨t.size,t.lv.set j ⟨f.o,f.first,f.us,⟨f.b.x0,f.b.x1,f.b.y0,f.b.y1,f.b.t0 - 1,f.b.t1⟩⟩,t.ns⟩
 |none=>t
theorem erl_b {t : Tr} (h : TrB t) (j : Nat) : TrB (erl t j):=by
 unfold erl
 split
 ·rename_i f hf
  refine ⟨by show (t.lv.set _ _).length ≤ _;rw [List.length_set];exact h.lv,h.ns,fun x hx=>?_,h.row⟩
  rcases List.mem_or_eq_of_mem_set hx with hx|rfl
  ·exact h.us x hx
  ·exact h.us f (List.mem_of_getElem? hf)
 ·exact h
def erlL (l : List Lf) (j : Nat) : List Lf:=match l[j]? with
 |some f=>l.set j ⟨f.o,f.first,f.us,⟨f.b.x0,f.b.x1,f.b.y0,f.b.y1,f.b.t0 - 1,f.b.t1⟩⟩
 |none=>l
theorem erl_mk (n : Int) (l : List Lf) (ns : List (List Nd)) (j : Nat) : erl ⟨n,l,ns⟩ j = ⟨n,erlL l j,ns⟩:=by
 unfold erl erlL
 show (match l[j]? with|some f=>_|none=>_) = _
 cases l[j]? <;> rfl
theorem erlL_len (l : List Lf) (j : Nat) : (erlL l j).length = l.length:=by
 unfold erlL
 split <;> simp
namespace L7
set_option maxHeartbeats 16000000 in
theorem law (f g : Flt) (hf : ∀ c ∈ f.cars,CarW c) (hl : f.cars.length ≤ 9223372036854775807) (hg : ∀ c ∈ g.cars,CarW c) (hgl : g.cars.length ≤ 9223372036854775807) (a m c d : Nat) (ha : a < 256) (hm : m < 256) (hc256 : c < 256) (hd256 : d < 256) : PSpec Tryz.prog 5 [encW f,encW g,.st [uA a,uA m,uA c,uA d]] (bA true):=by
 have hk:=Hld.mk s_known
 have hs:=Hld.mk (s_short f hl)
 have hs':=Hld.mk (s_short g hgl)
 rcases hsh : shtF f with _|_
 ·rw [hsh] at hs
  clear hf hsh hg
  refine pS Tryz.func5 ?_
  intro E hE
  have k'1:=hk;have k'2:=hs;have k'3:=hs';exact ga3
 rcases hsg : shtF g with _|_
 ·rw [hsh] at hs
  rw [hsg] at hs'
  clear hf hsh hg hsg
  refine pS Tryz.func5 ?_
  intro E hE
  have k'1:=hk;have k'2:=hs;have k'3:=hs';exact ga3
 rw [hsh] at hs
 rw [hsg] at hs'
 simp only [shtF,Bool.and_eq_true,decide_eq_true_eq,List.all_eq_true] at hsh hsg
 obtain ⟨h6,h4, -⟩:=hsh
 obtain ⟨h6g,h4g, -⟩:=hsg
 have hc : ∀ c ∈ f.cars,CarB c:=fun c hcm=>⟨(hf c hcm).t,(hf c hcm).x,(hf c hcm).y,(hf c hcm).st,h6 c hcm⟩
 have hcg : ∀ c ∈ g.cars,CarB c:=fun c hcm=>⟨(hg c hcm).t,(hg c hcm).x,(hg c hcm).y,(hg c hcm).st,h6g c hcm⟩
 have hfl:=Hld.mk (s_fleet f a ha h4 hc)
 have hfg:=Hld.mk (s_fleet g c hc256 h4g hcg)
 have hob:=fltO_obs hc a
 have hobg:=fltO_obs hcg c
 have hol:=fltO_len f a
 have holg:=fltO_len g c
 obtain ⟨O,hO⟩ : ∃ O,fltO f a = O:=⟨_,rfl⟩
 obtain ⟨P,hP⟩ : ∃ O,fltO g c = O:=⟨_,rfl⟩
 rw [hO] at hfl hob hol
 rw [hP] at hfg hobg holg
 have hsz:=Hld.mk (s_size m hm)
 have hsz2:=Hld.mk (s_size d hd256)
 obtain ⟨n,hn⟩ : ∃ n,1 + m % 8 = n:=⟨_,rfl⟩
 obtain ⟨n2,hn2⟩ : ∃ n,1 + d % 8 = n:=⟨_,rfl⟩
 rw [hn] at hsz
 rw [hn2] at hsz2
 have hn0 : 0 < n:=by omega
 have hn20 : 0 < n2:=by omega
 have hbd:=Hld.mk (s_wbuild9 (l:=O) (B:=boxU) (m:=n) (by omega) (fun o ho=>by have:=(hob o ho).len;omega) (fun o ho u hu=>((hob o ho).sm u hu).wx) hn0 (by omega))
 have hbm:=Hld.mk (m_wbuild (l:=O) (B:=boxU) (m:=n) (by omega) (fun o ho=>by have:=(hob o ho).len;omega) (fun o ho u hu=>((hob o ho).sm u hu).wx) hn0 (by omega))
 have hbg:=Hld.mk (s_wbuild9 (l:=P) (B:=boxU) (m:=n2) (by omega) (fun o ho=>by have:=(hobg o ho).len;omega) (fun o ho u hu=>((hobg o ho).sm u hu).wx) hn20 (by omega))
 have hT:=eqS hn0 hob (by omega)
 have hTg:=eqS hn20 hobg (by omega)
 have htsz : (bldT boxU n O).size = (n : Int):=rfl
 obtain ⟨t,ht⟩ : ∃ t,bldT boxU n O = t:=⟨_,rfl⟩
 obtain ⟨t2,ht2⟩ : ∃ t,bldT boxU n2 P = t:=⟨_,rfl⟩
 rw [ht] at hbd hT hbm htsz
 rw [ht2] at hbg hTg
 have e1:=Hld.mk (s_Equal hT.b hTg.b)
 have s1:=Hld.mk (s_same hT.b hTg.b)
 have e2:=Hld.mk (s_Equal hT.b hT.b)
 have e2' : Hld (PSpec Tryz.prog 26 [encT t,encT t] (bA true)):=⟨by have:=e2.out;simpa using this⟩
 have hTe:=erl_b hT.b
 have e3 : Hld (∀ j,PSpec Tryz.prog 26 [encT t,encT (erl t j)] (bA (decide (t = erl t j)))):=⟨fun j=>s_Equal hT.b (hTe j)⟩
 have s3 : Hld (∀ j,PSpec Tryz.prog 27 [encT t,encT (erl t j)] (bA (decide (t = erl t j)))):=⟨fun j=>s_same hT.b (hTe j)⟩
 have ht0:=Hld.mk hT.t0
 have hlvl : t.lv.length ≤ 1000000000:=hT.b.lv
 obtain ⟨p,hp⟩ : ∃ p,decide (t = t2) = p:=⟨_,rfl⟩
 rw [hp] at e1 s1
 clear ht ht2 hob hobg hol holg hO hP hn hn2 hc hcg hf hg h6 h6g hl hgl hT hTg hp e2 hTe h4 h4g
 refine pS Tryz.func5 ?_
 intro E hE
 refine sq ⟨[(3,.loc 3 0),(4,.loc 4 0),(5,.loc 5 0)],[(3,.box 25 (encW f)),(4,.box 25 (encW g)),(5,.box 49 (.st [uA a,uA m,uA c,uA d]))]⟩ ?_
 refine AW_freeze 3 (cb:=.box 25 (encW f)) (t:=⟨[(3,.ep (encW f)),(4,.loc 4 0),(5,.loc 5 0)],[(4,.box 25 (encW g)),(5,.box 49 (.st [uA a,uA m,uA c,uA d]))]⟩) (by simp) (by simp) (by simp) ?_
 refine AW_freeze 4 (cb:=.box 25 (encW g)) (t:=⟨[(3,.ep (encW f)),(4,.ep (encW g)),(5,.loc 5 0)],[(5,.box 49 (.st [uA a,uA m,uA c,uA d]))]⟩) (by simp) (by simp) (by simp) ?_
 refine AW_freeze 5 (cb:=.box 49 (.st [uA a,uA m,uA c,uA d])) (t:=⟨[(3,.ep (encW f)),(4,.ep (encW g)),(5,.ep (.st [uA a,uA m,uA c,uA d]))],[]⟩) (by simp) (by simp) (by simp) ?_
 refine AW_seqt ⟨[(3,.ep (encW f)),(4,.ep (encW g)),(5,.ep (.st [uA a,uA m,uA c,uA d]))],[]⟩ ?_ (by
  intro K hK
  have k'1:=hk;have k'2:=hs;have k'3:=hs';exact ga3)
 clear hk hs hs'
 refine AW_seqt ⟨[(7,.loc 7 0),(8,.loc 8 0),(3,.ep (encW f)),(5,.ep (.st [uA a,uA m,uA c,uA d]))],[(7,.box 34 (encT t)),(8,.box 34 (encT t2))]⟩ ?_ (by
  intro K hK
  refine AW_drawF (fun q=>⟨[(23,if q 0 then encW f else .u),(24,if q 1 then .ep (uA a) else .u),(25,if q 2 then uA a else .u),(26,if q 3 then obL O else .u),(27,if q 4 then .ep (uA m) else .u),(28,if q 5 then uA m else .u),(29,if q 6 then iA n else .u),(30,if q 7 then encT t else .u),(31,if q 8 then encW g else .u),(32,if q 9 then .ep (uA c) else .u),(33,if q 10 then uA c else .u),(34,if q 11 then obL P else .u),(35,if q 12 then .ep (uA d) else .u),(36,if q 13 then uA d else .u),(37,if q 14 then iA n2 else .u),(38,if q 15 then encT t2 else .u),(7,if q 16 then .loc 7 0 else .u),(8,if q 17 then .loc 8 0 else .u),(3,.ep (encW f)),(4,.ep (encW g)),(5,.ep (.st [uA a,uA m,uA c,uA d]))],
   (if q 16 then [(7,.box 34 (if q 18 then encT t else .st [iA 0,.v (.slice none 0 0),.v (.slice none 0 0)]))] else []) ++ (if q 17 then [(8,.box 34 (if q 19 then encT t2 else .st [iA 0,.v (.slice none 0 0),.v (.slice none 0 0)]))] else [])⟩) mixed (by rw [hE];decide) (by decide +kernel) (by decide +kernel) (by simp) ?_ ?_
  ·intro f i o hi hdep hnot hcl K2 hK2
   have w18_16 : f 18 = true → f 16 = true:=gw
   have w19_17 : f 19 = true → f 17 = true:=gw
   clear hcl
   iterate 20 (rcases i with _|i;rotate_left)
   ·simp at hi
   all_goals (simp only [List.getElem?_cons_succ,List.getElem?_cons_zero,Option.some.injEq] at hi;subst hi)
   all_goals simp [Region.binds] at hdep
   all_goals (rcases a16 : f 16 <;> rcases a17 : f 17)
   all_goals try (exfalso;revert hdep hnot w18_16 w19_17;simp [a16,a17];done)
   all_goals (try simp [a16,a17,hnot] at w18_16)
   all_goals (try simp [a16,a17,hnot] at w19_17)
   all_goals (simp [*];(repeat' (first|with_reducible refine And.intro ?_ ?_|omega));first|(refine hK2.h _ ?_;simp [*];done)|(refine acall_same (hfl.out) ?_ ?_ ?_;(iterate 2 (focus (simp [*] <;> fail)));simp [*];refine hK2.h _ ?_;simp [*])|(refine acall_view (hfl.out) ?_ ?_ ?_;(iterate 2 (focus (simp [*] <;> fail)));simp [*];refine hK2.h _ ?_;simp [*])|(refine acall_same (hsz.out) ?_ ?_ ?_;(iterate 2 (focus (simp [*] <;> fail)));simp [*];refine hK2.h _ ?_;simp [*])|(refine acall_view (hsz.out) ?_ ?_ ?_;(iterate 2 (focus (simp [*] <;> fail)));simp [*];refine hK2.h _ ?_;simp [*])|(refine acall_same (hbd.out) ?_ ?_ ?_;(iterate 2 (focus (simp [*] <;> fail)));simp [*];refine hK2.h _ ?_;simp [*])|(refine acall_view (hbd.out) ?_ ?_ ?_;(iterate 2 (focus (simp [*] <;> fail)));simp [*];refine hK2.h _ ?_;simp [*])|(refine acall_same (hfg.out) ?_ ?_ ?_;(iterate 2 (focus (simp [*] <;> fail)));simp [*];refine hK2.h _ ?_;simp [*])|(refine acall_view (hfg.out) ?_ ?_ ?_;(iterate 2 (focus (simp [*] <;> fail)));simp [*];refine hK2.h _ ?_;simp [*])|(refine acall_same (hsz2.out) ?_ ?_ ?_;(iterate 2 (focus (simp [*] <;> fail)));simp [*];refine hK2.h _ ?_;simp [*])|(refine acall_view (hsz2.out) ?_ ?_ ?_;(iterate 2 (focus (simp [*] <;> fail)));simp [*];refine hK2.h _ ?_;simp [*])|(refine acall_same (hbg.out) ?_ ?_ ?_;(iterate 2 (focus (simp [*] <;> fail)));simp [*];refine hK2.h _ ?_;simp [*])|(refine acall_view (hbg.out) ?_ ?_ ?_;(iterate 2 (focus (simp [*] <;> fail)));simp [*];refine hK2.h _ ?_;simp [*]))
  ·intro f hf
   have e18:=hf 18 (by simp)
   have e19:=hf 19 (by simp)
   have e16:=hf 16 (by simp)
   have e17:=hf 17 (by simp)
   refine hK.h _ ?_
   simp [e18,e19,e16,e17]
  all_goals simp)
 refine AW_freeze 7 (cb:=.box 34 (encT t)) (t:=⟨[(7,.ep (encT t)),(8,.loc 8 0),(3,.ep (encW f)),(5,.ep (.st [uA a,uA m,uA c,uA d]))],[(8,.box 34 (encT t2))]⟩) (by simp) (by simp) (by simp) ?_
 refine AW_freeze 8 (cb:=.box 34 (encT t2)) (t:=⟨[(7,.ep (encT t)),(8,.ep (encT t2)),(3,.ep (encW f)),(5,.ep (.st [uA a,uA m,uA c,uA d]))],[]⟩) (by simp) (by simp) (by simp) ?_
 obtain ⟨ts,tl,tn⟩:=t
 obtain rfl : ts = n:=htsz
 replace hlvl : tl.length ≤ 1000000000:=hlvl
 obtain ⟨j,hj⟩ : ∃ j,c % tl.length = j:=⟨_,rfl⟩
 obtain ⟨e,he⟩ : ∃ e,erlL tl j = e:=⟨_,rfl⟩
 obtain ⟨r,hr⟩ : ∃ r,decide ((⟨n,tl,tn⟩ : Tr) = erl ⟨n,tl,tn⟩ j) = r:=⟨_,rfl⟩
 have e3':=Hld.mk (e3.out j)
 have s3':=Hld.mk (s3.out j)
 rw [hr,erl_mk,he] at e3' s3'
 have hel : e.length = tl.length:=by rw [← he];exact erlL_len tl j
 clear e3 s3 hr hbd hbg hfg hsz2
 refine AW_seqt ⟨[(9,.loc 9 0),(7,.ep (encT ⟨n,tl,tn⟩)),(8,.ep (encT t2)),(5,.ep (.st [uA a,uA m,uA c,uA d]))],[(800,rwF tl),(9,.box 34 (.st [iA n,.own 800 9 0 tl.length,.sl 1 (tn.map ndL)]))]⟩ ?_ (by
  intro K hK
  clear e1 s1 e2' e3' s3' ht0 hj he hel
  refine AW_drawF (fun q=>⟨[(39,if q 0 then encW f else .u),(40,if q 1 then .ep (uA a) else .u),(41,if q 2 then uA a else .u),(42,if q 3 then obL O else .u),(43,if q 4 then .ep (uA m) else .u),(44,if q 5 then uA m else .u),(45,if q 6 then iA n else .u),(46,if q 7 then .st [iA n,.own 800 9 0 tl.length,.sl 1 (tn.map ndL)] else .u),(9,if q 8 then .loc 9 0 else .u),(7,.ep (encT ⟨n,tl,tn⟩)),(8,.ep (encT t2)),(3,.ep (encW f)),(5,.ep (.st [uA a,uA m,uA c,uA d]))],
   (if q 7 then [(800,rwF tl)] else []) ++ (if q 8 then [(9,.box 34 (if q 9 then .st [iA n,.own 800 9 0 tl.length,.sl 1 (tn.map ndL)] else .st [iA 0,.v (.slice none 0 0),.v (.slice none 0 0)]))] else [])⟩) mixed (by rw [hE];decide) (by decide +kernel) (by decide +kernel) (by simp) ?_ ?_
  ·intro f i o hi hdep hnot hcl K2 hK2
   have w9_8 : f 9 = true → f 8 = true:=gw
   have w9_7 : f 9 = true → f 7 = true:=gw
   clear hcl
   iterate 10 (rcases i with _|i;rotate_left)
   ·simp at hi
   all_goals (simp only [List.getElem?_cons_succ,List.getElem?_cons_zero,Option.some.injEq] at hi;subst hi)
   all_goals simp [Region.binds] at hdep
   all_goals (rcases a7 : f 7 <;> rcases a8 : f 8)
   all_goals try (exfalso;revert hdep hnot w9_8 w9_7;simp [a7,a8];done)
   all_goals (try simp [a7,a8,hnot] at w9_8)
   all_goals (try simp [a7,a8,hnot] at w9_7)
   all_goals (simp [*];(repeat' (first|with_reducible refine And.intro ?_ ?_|omega));first|(refine hK2.h _ ?_;simp [*];done)|(refine acall_same (hfl.out) ?_ ?_ ?_;(iterate 2 (focus (simp [*] <;> fail)));simp [*];refine hK2.h _ ?_;simp [*])|(refine acall_view (hfl.out) ?_ ?_ ?_;(iterate 2 (focus (simp [*] <;> fail)));simp [*];refine hK2.h _ ?_;simp [*])|(refine acall_same (hsz.out) ?_ ?_ ?_;(iterate 2 (focus (simp [*] <;> fail)));simp [*];refine hK2.h _ ?_;simp [*])|(refine acall_view (hsz.out) ?_ ?_ ?_;(iterate 2 (focus (simp [*] <;> fail)));simp [*];refine hK2.h _ ?_;simp [*])|(refine acall_boxes hbm.out (nm []) (nm [(800,800)]) [(800,rwF tl)] (.st [iA n,.own 800 9 0 tl.length,.sl 1 (tn.map ndL)]) (by rintro res bf ⟨rfl,h1⟩;simp;exact h1) (by simp) (by simp) (by simp) (by simp) (by simp) (by simp) (by simp) ?_;simp [*];refine hK2.h _ ?_;simp [*]))
  ·intro f hf
   have e9:=hf 9 (by simp)
   have e7:=hf 7 (by simp)
   have e8:=hf 8 (by simp)
   refine hK.h _ ?_
   simp [e9,e7,e8]
  all_goals simp)
 clear hfl hsz hbm
 refine AW_seqt ⟨[(9,.loc 9 0),(7,.ep (encT ⟨n,tl,tn⟩)),(8,.ep (encT t2))],[(800,rwF e),(9,.box 34 (.st [iA n,.own 800 9 0 e.length,.sl 1 (tn.map ndL)]))]⟩ ?_ (by
  intro K hK
  clear e1 s1 e2' e3' s3'
  by_cases h0 : tl.length = 0
  ·have h0I : ¬ (0 : Int) < tl.length:=by omega
   have : e = tl:=by rw [← he,List.length_eq_zero_iff.1 h0];rfl
   subst this
   clear he hel ht0
   exact ga0
  ·have h0I : (0 : Int) < tl.length:=by omega
   have hjl : j < tl.length:=by rw [← hj];exact Nat.mod_lt _ (by omega)
   have hrem : (c : Int).tmod (tl.length : Int) = (j : Int):=by rw [← hj];exact (Int.ofNat_tmod c tl.length).symm
   have hjI : (j : Int) < tl.length:=by omega
   have w1 : IntKind.i64.wrap (c : Int) = (c : Int):=wi (by omega) (by omega)
   have w2 : IntKind.i64.wrap (j : Int) = (j : Int):=wi (by omega) (by omega)
   obtain ⟨lf,hlf⟩ : ∃ lf,tl[j] = lf:=⟨_,rfl⟩
   have hget : ∀ h : j < tl.length,tl[j] = lf:=fun _=>hlf
   have hb0 : -1000 ≤ lf.b.t0 ∧ lf.b.t0 ≤ 1000:=by rw [← hlf];exact ht0.out _ (List.getElem_mem hjl)
   obtain ⟨fo,ff,fu,x0,x1,y0,y1,t0,t1⟩:=lf
   have hset : (tl.map encF).set j (.st [iA fo,iA ff,unL fu,iA x0,iA x1,iA y0,iA y1,iA (t0 - 1),iA t1]) = e.map encF:=by
    rw [← he]
    unfold erlL
    rw [List.getElem?_eq_getElem hjl,hlf,List.map_set]
    rfl
   obtain ⟨b1,b2⟩ : -1000 ≤ t0 ∧ t0 ≤ 1000:=hb0
   replace hel:=Hld.mk hel
   clear he hlf ht0 hj
   refine AW_seqt ⟨[(50,bA true),(9,.loc 9 0),(7,.ep (encT ⟨n,tl,tn⟩)),(8,.ep (encT t2)),(5,.ep (.st [uA a,uA m,uA c,uA d]))],[(800,rwF tl),(9,.box 34 (.st [iA n,.own 800 9 0 tl.length,.sl 1 (tn.map ndL)]))]⟩ ?_ (by
    intro K hK
    clear hset hget
    repeat' (first
     |(with_reducible first|refine uK ?_|refine uX ?_|refine jq fun K hK=>?_|refine jb ?_)|((with_reducible first|refine rS hE ?_|refine jn ?_|refine js fun K' hK'=>?_|refine ji fun X Y hX hY=>?_|refine jr ?_|refine jk ?_|refine jx ?_);simp [*])|with_reducible refine rL hE ?_|with_reducible refine And.intro ?_ ?_|omega|(refine imp1 fun h=>?_))
    all_goals (simp <;> omega))
   repeat' (first
    |(with_reducible first|refine uK ?_|refine uX ?_|refine jq fun K hK=>?_|refine jb ?_)|((with_reducible first|refine rS hE ?_|refine jn ?_|refine js fun K' hK'=>?_|refine ji fun X Y hX hY=>?_|refine jr ?_|refine jk ?_|refine jx ?_);simp [*])|with_reducible refine rL hE ?_|with_reducible refine And.intro ?_ ?_|omega|(refine imp1 fun h=>?_))
   refine AW_drawF (fun q=>⟨[(51,if q 0 then .loc 9 1 else .u),(52,if q 1 then .own 800 9 0 tl.length else .u),(53,if q 2 then .ep (uA c) else .u),(54,if q 3 then uA c else .u),(55,if q 4 then iA c else .u),(56,if q 5 then .loc 9 1 else .u),(57,if q 6 then .own 800 9 0 tl.length else .u),(58,if q 7 then iA tl.length else .u),(59,if q 8 then iA j else .u),(60,if q 9 then .eloc 800 9 j 0 else .u),(61,if q 10 then .eloc 800 9 j 3 else .u),(62,if q 11 then .eloc 800 9 j 7 else .u),(63,if q 12 then iA t0 else .u),(64,if q 13 then iA (t0 - 1) else .u),(65,if q 14 then .eloc 800 9 j 0 else .u),(66,if q 15 then .eloc 800 9 j 3 else .u),(67,if q 16 then .eloc 800 9 j 7 else .u),(9,.loc 9 0),(7,.ep (encT ⟨n,tl,tn⟩)),(8,.ep (encT t2)),(5,.ep (.st [uA a,uA m,uA c,uA d]))],
    [(800,.arr 52 9 (if q 17 then e.map encF else tl.map encF)),(9,.box 34 (.st [iA n,.own 800 9 0 tl.length,.sl 1 (tn.map ndL)]))]⟩) mixed (by rw [hE];decide) (by decide +kernel) (by decide +kernel) (by simp) ?_ ?_
   ·intro f i o hi hdep hnot hcl K2 hK2
    have w17_13 : f 17 = true → f 13 = true:=gw
    have w13_12 : f 13 = true → f 12 = true:=gw
    clear hcl
    iterate 18 (rcases i with _|i;rotate_left)
    ·simp at hi
    all_goals (simp only [List.getElem?_cons_succ,List.getElem?_cons_zero,Option.some.injEq] at hi;subst hi)
    all_goals simp [Region.binds] at hdep
    all_goals (rcases a17 : f 17 <;> rcases a13 : f 13)
    all_goals try (exfalso;revert hdep hnot w17_13 w13_12;simp [a17,a13];done)
    all_goals (try simp [a17,a13,hnot] at w17_13)
    all_goals (try simp [a17,a13,hnot] at w13_12)
    all_goals (have z'1:=@encF.eq_1;have z'2:=@encX.eq_1;have z'3:=hel.out;exact gd0)
   ·intro f hf
    have e17:=hf 17 (by simp)
    have e13:=hf 13 (by simp)
    refine hK.h _ ?_
    simp [e17,e13,encF,encX,hel.out]
   all_goals simp)
 have het : (e.map encF).take e.length = e.map encF:=List.take_of_length_le (by simp)
 refine AW_freezeD 800 (cb:=rwF e) (t:=⟨[(9,.loc 9 0),(7,.ep (encT ⟨n,tl,tn⟩)),(8,.ep (encT t2))],[(9,.box 34 (encT ⟨n,e,tn⟩))]⟩) (by simp) (by simp) (by
  simp
  intro j a b ha hb
  rcases j with _|_|_|j <;> simp at ha hb <;> subst ha <;> subst hb <;> simp [het]) ?_
 refine AW_freeze 9 (cb:=.box 34 (encT ⟨n,e,tn⟩)) (t:=⟨[(9,.ep (encT ⟨n,e,tn⟩)),(7,.ep (encT ⟨n,tl,tn⟩)),(8,.ep (encT t2))],[]⟩) (by simp) (by simp) (by simp) ?_
 clear ht0 hj he hel het hlvl
 refine AW_seqt ⟨[(6,bA true)],[]⟩ ?_ (by
  intro K hK
  refine AW_drawFW (fun q=>⟨[(68,if q 0 then encT ⟨n,tl,tn⟩ else .u),(69,if q 1 then encT t2 else .u),(70,if q 2 then bA p else .u),(71,if q 3 then encT ⟨n,tl,tn⟩ else .u),(72,if q 4 then encT t2 else .u),(73,if q 5 then bA p else .u),(74,if q 6 then bA true else .u),(75,if q 7 then bA true else .u),(76,if q 8 then encT ⟨n,tl,tn⟩ else .u),(77,if q 9 then encT ⟨n,tl,tn⟩ else .u),(78,if q 10 then bA true else .u),(79,if q 11 then bA true else .u),(80,if q 12 then bA true else .u),(81,if q 13 then encT ⟨n,tl,tn⟩ else .u),(82,if q 14 then encT ⟨n,e,tn⟩ else .u),(83,if q 15 then bA r else .u),(84,if q 16 then encT ⟨n,tl,tn⟩ else .u),(85,if q 17 then encT ⟨n,e,tn⟩ else .u),(86,if q 18 then bA r else .u),(87,if q 19 then bA true else .u),(88,if q 20 then bA true else .u),(6,if q 21 then bA true else .u),(9,.ep (encT ⟨n,e,tn⟩)),(7,.ep (encT ⟨n,tl,tn⟩)),(8,.ep (encT t2))],[]⟩) mixed (by rw [hE];decide) (by decide +kernel) (by simp) ?_ ?_
  ·intro f i o hi hdep hnot hcl K2 hK2
   clear hcl
   iterate 22 (rcases i with _|i;rotate_left)
   ·simp at hi
   all_goals (simp only [List.getElem?_cons_succ,List.getElem?_cons_zero,Option.some.injEq] at hi;subst hi)
   all_goals simp [Region.binds] at hdep
   all_goals (simp [*,gstep];(repeat' (first|with_reducible refine And.intro ?_ ?_|omega));first|(refine hK2.h _ ?_;simp [*,gstep];done)|(refine acall_same (e1.out) ?_ ?_ ?_;(iterate 2 (focus (simp [*,gstep] <;> fail)));simp [*,gstep];refine hK2.h _ ?_;simp [*,gstep])|(refine acall_view (e1.out) ?_ ?_ ?_;(iterate 2 (focus (simp [*,gstep] <;> fail)));simp [*,gstep];refine hK2.h _ ?_;simp [*,gstep])|(refine acall_same (s1.out) ?_ ?_ ?_;(iterate 2 (focus (simp [*,gstep] <;> fail)));simp [*,gstep];refine hK2.h _ ?_;simp [*,gstep])|(refine acall_view (s1.out) ?_ ?_ ?_;(iterate 2 (focus (simp [*,gstep] <;> fail)));simp [*,gstep];refine hK2.h _ ?_;simp [*,gstep])|(refine acall_same (e2'.out) ?_ ?_ ?_;(iterate 2 (focus (simp [*,gstep] <;> fail)));simp [*,gstep];refine hK2.h _ ?_;simp [*,gstep])|(refine acall_view (e2'.out) ?_ ?_ ?_;(iterate 2 (focus (simp [*,gstep] <;> fail)));simp [*,gstep];refine hK2.h _ ?_;simp [*,gstep])|(refine acall_same (e3'.out) ?_ ?_ ?_;(iterate 2 (focus (simp [*,gstep] <;> fail)));simp [*,gstep];refine hK2.h _ ?_;simp [*,gstep])|(refine acall_view (e3'.out) ?_ ?_ ?_;(iterate 2 (focus (simp [*,gstep] <;> fail)));simp [*,gstep];refine hK2.h _ ?_;simp [*,gstep])|(refine acall_same (s3'.out) ?_ ?_ ?_;(iterate 2 (focus (simp [*,gstep] <;> fail)));simp [*,gstep];refine hK2.h _ ?_;simp [*,gstep])|(refine acall_view (s3'.out) ?_ ?_ ?_;(iterate 2 (focus (simp [*,gstep] <;> fail)));simp [*,gstep];refine hK2.h _ ?_;simp [*,gstep]))
  ·intro f hf
   have e21:=hf 21 (by simp)
   refine hK.h _ ?_
   simp [e21,gstep]
  all_goals simp)
 exact ga0
end L7
end Go.Proofs.YtfkgaphfdpflmaaGreatDoor
