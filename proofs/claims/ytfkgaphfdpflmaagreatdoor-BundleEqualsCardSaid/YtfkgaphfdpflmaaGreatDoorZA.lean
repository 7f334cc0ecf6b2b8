/- Equality of a list of units with itself -/
import Derived.Test.YtfkgaphfdpflmaaGreatDoorZ9
import Derived.Test.YtfkgaphfdpflmaaGreatDoorZ5
set_option maxRecDepth 100000
set_option linter.unusedSimpArgs false
set_option linter.unusedVariables false
namespace Go.Proofs.YtfkgaphfdpflmaaGreatDoor
open Go.Am
abbrev rvL : AV:=.ifc 161 (.st [])
abbrev eqfU : AV:=.fn (.func 177) [] [.loc 1000000 0]
theorem m_eq1 (u : Un) : MSpec Tryz.prog 177 [encU u,encU u,.loc 1000000 0] [(1000000,.box 212 rvL)] (fun res bf=>res = bA true ∧ bf 1000000 = some (.box 212 rvL)):=by
 have heq : Hld (PSpec Tryz.prog 251 [.st [],encL ⟨u.x0,u.x1,u.y0,u.y1⟩,encL ⟨u.x0,u.x1,u.y0,u.y1⟩] (bA true)):=⟨by have:=s_equalL ⟨u.x0,u.x1,u.y0,u.y1⟩ ⟨u.x0,u.x1,u.y0,u.y1⟩;simpa using this⟩
 refine MSpec_of Tryz.func177 rfl rfl (Nat.le_of_ble_eq_true rfl) (Nat.le_of_ble_eq_true rfl) ?_
 intro E hE
 repeat' (first
  |(with_reducible first|refine uK ?_|refine uQ ?_|refine uX ?_|refine jq fun K hK=>?_|refine jb ?_)|(with_reducible refine rS hE ?_;simp [*,encU,encL])|with_reducible refine rL hE ?_|(((with_reducible show RK _ _ _ _ _ _);first|refine jn ?_|refine js fun K' hK'=>?_);simp [*,encU,encL])|with_reducible refine rD mixed hE ?_|((with_reducible show RKQ _ _ _ _ _ _);first|refine RKQ_nilk ⟨by decide,?_⟩|(refine jv fun K' hK'=>?_;simp [*,encU,encL]))|((with_reducible first|refine ji fun X Y hX hY=>?_|refine jr ?_|refine jk ?_|refine jx ?_);simp [*,encU,encL])|((first|refine jC (heq.out) ?_ ?_ ?_|refine jQ (heq.out) ?_ ?_ ?_);(iterate 2 focus (simp [*,encU,encL] <;> fail));simp [*,encU,encL])|with_reducible refine And.intro ?_ ?_|omega|(refine imp1 fun h=>?_))
theorem m_eqF (l : List Un) (hl : l.length ≤ 100000) : MSpec Tryz.prog 176 [.sl 36 (l.map encU),.sl 36 (l.map encU),eqfU] [(1000000,.box 212 rvL)] (fun res bf=>res = bA true ∧ bf 1000000 = some (.box 212 rvL)):=by
 refine MSpec_of Tryz.func176 rfl rfl (Nat.le_of_ble_eq_true rfl) (Nat.le_of_ble_eq_true rfl) ?_
 intro E hE
 refine sq ⟨[(0,.sl 36 (l.map encU)),(1,.sl 36 (l.map encU)),(2,eqfU)],[(1000000,.box 212 rvL)]⟩ ?_
 refine sq ⟨[(0,.sl 36 (l.map encU)),(1,.sl 36 (l.map encU)),(2,eqfU)],[(1000000,.box 212 rvL)]⟩ ?_
 refine AW_seqt ⟨[],[(1000000,.box 212 rvL)]⟩ ?_ (by
  intro K hK
  refine lpk (G:=Nat) (fun i=>⟨[(17,iA i),(16,iA l.length),(15,.sl 36 (l.map encU)),(1,.sl 36 (l.map encU)),(2,eqfU)],[(1000000,.box 212 rvL)]⟩) (fun i=>i ≤ l.length) (fun i=>l.length - i) 0 (Nat.zero_le _) ?_
  intro i hi K hK
  by_cases hlt : i < l.length
  ·have hltI : (i : Int) < l.length:=by omega
   obtain ⟨u,hu⟩ : ∃ u,l[i] = u:=⟨_,rfl⟩
   refine sq ⟨[(18,bA true),(17,iA i),(16,iA l.length),(15,.sl 36 (l.map encU)),(1,.sl 36 (l.map encU)),(2,eqfU)],[(1000000,.box 212 rvL)]⟩ ?_
   refine sq ⟨[(17,iA i),(16,iA l.length),(15,.sl 36 (l.map encU)),(1,.sl 36 (l.map encU)),(2,eqfU)],[(1000000,.box 212 rvL)]⟩ ?_
   refine AW_seqt ⟨[(17,iA i),(16,iA l.length),(15,.sl 36 (l.map encU)),(1,.sl 36 (l.map encU)),(2,eqfU)],[(1000000,.box 212 rvL)]⟩ ?_ (by
    intro K hK
    refine AW_block ?_
    refine sq ⟨[(8,.loc 8 0),(7,iA i),(17,iA i),(16,iA l.length),(15,.sl 36 (l.map encU)),(1,.sl 36 (l.map encU)),(2,eqfU)],(8,.box 189 (encU u)) :: [(1000000,.box 212 rvL)]⟩ ?_
    refine sq ⟨[(9,.loc 9 0),(8,.loc 8 0),(17,iA i),(16,iA l.length),(15,.sl 36 (l.map encU)),(1,.sl 36 (l.map encU)),(2,eqfU)],(9,.box 189 (encU u)) :: (8,.box 189 (encU u)) :: [(1000000,.box 212 rvL)]⟩ ?_
    repeat' (first
     |(with_reducible first|refine uK ?_|refine uX ?_|refine jq fun K hK=>?_|refine jb ?_)|((with_reducible first|refine rS hE ?_|refine jn ?_|refine js fun K' hK'=>?_|refine ji fun X Y hX hY=>?_|refine jr ?_|refine jk ?_|refine jx ?_);simp [*])|with_reducible refine rL hE ?_|with_reducible refine And.intro ?_ ?_|omega|(refine imp1 fun h=>?_))
    refine acall_boxes (m_eq1 u) (nm [(1000000,1000000)]) (nm [(1000000,1000000)]) [(1000000,.box 212 rvL)] (bA true) (by rintro res bf ⟨rfl,h1⟩;simp;exact h1) (by simp) (by simp) (by simp) (by simp) (by simp) (by simp) (by simp) ?_
    simp
    exact ga0)
   exact gli
  ·have : i = l.length:=by omega
   subst this
   exact ga0)
 exact ga0
theorem s_equalUs (l : List Un) (hl : l.length ≤ 100000) : PSpec Tryz.prog 149 [rvL,.sl 36 (l.map encU),.sl 36 (l.map encU)] (bA true):=by
 refine pS Tryz.func149 ?_
 intro E hE
 repeat' (first
  |(with_reducible first|refine uK ?_|refine uX ?_|refine jq fun K hK=>?_|refine jb ?_)|((with_reducible first|refine rS hE ?_|refine jn ?_|refine js fun K' hK'=>?_|refine ji fun X Y hX hY=>?_|refine jr ?_|refine jk ?_|refine jx ?_);simp [*])|with_reducible refine rL hE ?_|with_reducible refine And.intro ?_ ?_|omega|(refine imp1 fun h=>?_))
 refine acall_boxes (m_eqF l hl) (nm [(1000000,3)]) (nm [(1000000,3)]) [(1000000,.box 212 rvL)] (bA true) (by rintro res bf ⟨rfl,h1⟩;simp;exact h1) (by simp) (by simp) (by simp) (by simp) (by simp) (by simp) (by simp) ?_
 simp
 exact ga0
@[simp] theorem view_rvL {bf : Nat → Option Ct} : View bf rvL rvL:=view_self rfl
structure NrmU (l : List Un) : Prop where
 len : l.length ≤ 256
 ok : ∀ u ∈ l,OkU u
 iv : ∀ u ∈ l,okIv u.i = true
 inc : l.Pairwise (fun a b=>a.f < b.f)
 apt : ∀ i (h : i + 1 < l.length),aptU l[i].i l[i + 1].i = true
 nrm : nrmA (atms l) = l
set_option maxHeartbeats 2000000 in
theorem s_CheckU {l : List Un} (h : NrmU l) : PSpec Tryz.prog 102 [rvL,.sl 36 (l.map encU)] (iA 0):=by
 have hl:=h.len
 have hN:=Hld.mk (m_Normal l (by omega) h.ok h.inc h.apt)
 rw [h.nrm] at hN
 have hE2:=Hld.mk (s_equalUs l (by omega))
 have hv : Hld (∀ u ∈ l,PSpec Tryz.prog 146 [encV u.i] (iA 0)):=⟨fun u hu=>by
  have:=s_checkV (v:=u.i) (h.ok u hu).f (h.ok u hu).t
  rw [h.iv u hu] at this
  exact this⟩
 have hc : Hld (∀ u ∈ l,PSpec Tryz.prog 250 [.st [],encL u.l] (iA 0)):=⟨fun u hu=>s_checkL (h.ok u hu).l⟩
 have hap2 : Hld (∀ i (h : i + 1 < l.length),PSpec Tryz.prog 147 [encV l[i].i,encV l[i + 1].i] (bA true)):=⟨fun i k=>by
  have:=s_apart (a:=l[i].i) (b:=l[i + 1].i) (h.ok _ (List.getElem_mem (by omega))).t (h.ok _ (List.getElem_mem k)).f
  rw [h.apt i k] at this
  exact this⟩
 clear h
 refine pS Tryz.func102 ?_
 intro E hE
 refine sq ⟨[(1,.sl 36 (l.map encU)),(0,rvL)],[]⟩ ?_
 refine sq ⟨[(1,.sl 36 (l.map encU)),(0,rvL)],[]⟩ ?_
 refine AW_seqt ⟨[(1,.sl 36 (l.map encU)),(0,rvL)],[]⟩ ?_ (by
  intro K hK
  refine lpk (G:=Nat) (fun i=>⟨[(16,iA i),(15,iA l.length),(14,.sl 36 (l.map encU)),(1,.sl 36 (l.map encU)),(0,rvL)],[]⟩) (fun i=>i ≤ l.length) (fun i=>l.length - i) 0 (Nat.zero_le _) ?_
  intro i hi K hK
  by_cases hlt : i < l.length
  ·have hltI : (i : Int) < l.length:=by omega
   obtain ⟨u,hu⟩ : ∃ u,l[i] = u:=⟨_,rfl⟩
   have h1 : Hld (PSpec Tryz.prog 146 [encV ⟨u.f,u.t,u.fo,u.to⟩] (iA 0)):=⟨hv.out u (hu ▸ List.getElem_mem hlt)⟩
   have h2 : Hld (PSpec Tryz.prog 250 [.st [],encL ⟨u.x0,u.x1,u.y0,u.y1⟩] (iA 0)):=⟨hc.out u (hu ▸ List.getElem_mem hlt)⟩
   refine sq ⟨[(17,bA true),(16,iA i),(15,iA l.length),(14,.sl 36 (l.map encU)),(1,.sl 36 (l.map encU)),(0,rvL)],[]⟩ ?_
   refine sq ⟨[(16,iA i),(15,iA l.length),(14,.sl 36 (l.map encU)),(1,.sl 36 (l.map encU)),(0,rvL)],[]⟩ ?_
   refine AW_seqt ⟨[(16,iA i),(15,iA l.length),(14,.sl 36 (l.map encU)),(1,.sl 36 (l.map encU)),(0,rvL)],[]⟩ ?_ (by
    intro K hK
    refine AW_block ?_
    refine sq ⟨[(6,.loc 6 0),(5,iA i),(16,iA i),(15,iA l.length),(14,.sl 36 (l.map encU)),(1,.sl 36 (l.map encU)),(0,rvL)],[(6,.box 189 (encU u))]⟩ ?_
    refine AW_seqt ⟨[(6,.loc 6 0),(5,iA i),(16,iA i),(15,iA l.length),(14,.sl 36 (l.map encU)),(1,.sl 36 (l.map encU)),(0,rvL)],[(6,.box 189 (encU u))]⟩ ?_ (by
     intro K hK
     have k'1:=h1;have z'1:=@encU.eq_1;have z'2:=@encV.eq_1;exact ga1)
    refine AW_seqt ⟨[(6,.loc 6 0),(5,iA i),(16,iA i),(15,iA l.length),(14,.sl 36 (l.map encU)),(1,.sl 36 (l.map encU)),(0,rvL)],[(6,.box 189 (encU u))]⟩ ?_ (by
     intro K hK
     have k'1:=h2;have z'1:=@encU.eq_1;have z'2:=@encL.eq_1;exact ga1)
    rcases i with _|j
    ·repeat' (first
      |(with_reducible first|refine uK ?_|refine uQ ?_|refine uX ?_|refine jq fun K hK=>?_|refine jb ?_)|(with_reducible refine rS hE ?_;simp [*])|with_reducible refine rL hE ?_|(((with_reducible show RK _ _ _ _ _ _);first|refine jn ?_|refine js fun K' hK'=>?_);simp [*])|with_reducible refine rD mixed hE ?_|((with_reducible show RKQ _ _ _ _ _ _);first|refine RKQ_nilk ⟨by decide,?_⟩|(refine jv fun K' hK'=>?_;simp [*]))|((with_reducible first|refine ji fun X Y hX hY=>?_|refine jr ?_|refine jk ?_|refine jx ?_);simp [*])|with_reducible refine And.intro ?_ ?_|omega|(refine imp1 fun h=>?_))
     all_goals simp
    ·have hq:=Hld.mk (hap2.out j hlt)
     obtain ⟨y,hy⟩ : ∃ u,l[j] = u:=⟨_,rfl⟩
     rw [hu,hy] at hq
     have hyq : l[j]? = some y:=by rw [List.getElem?_eq_getElem (by omega),hy]
     have hq2 : Hld (PSpec Tryz.prog 147 [encV ⟨y.f,y.t,y.fo,y.to⟩,encV ⟨u.f,u.t,u.fo,u.to⟩] (bA true)):=⟨hq.out⟩
     repeat' (first
      |(with_reducible first|refine uK ?_|refine uQ ?_|refine uX ?_|refine jq fun K hK=>?_|refine jb ?_)|(with_reducible refine rS hE ?_;simp [*,encU,encV])|with_reducible refine rL hE ?_|(((with_reducible show RK _ _ _ _ _ _);first|refine jn ?_|refine js fun K' hK'=>?_);simp [*,encU,encV])|with_reducible refine rD mixed hE ?_|((with_reducible show RKQ _ _ _ _ _ _);first|refine RKQ_nilk ⟨by decide,?_⟩|(refine jv fun K' hK'=>?_;simp [*,encU,encV]))|((with_reducible first|refine ji fun X Y hX hY=>?_|refine jr ?_|refine jk ?_|refine jx ?_);simp [*,encU,encV])|((first|refine jC (hq2.out) ?_ ?_ ?_|refine jQ (hq2.out) ?_ ?_ ?_);(iterate 2 focus (simp [*,encU,encV] <;> fail));simp [*,encU,encV])|with_reducible refine And.intro ?_ ?_|omega|(refine imp1 fun h=>?_))
     all_goals simp)
   exact gli
  ·have : i = l.length:=by omega
   subst this
   exact ga0)
 have hAt : (l.map encU).take l.length = l.map encU:=List.take_of_length_le (by simp)
 refine AW_seqt ⟨[],[]⟩ ?_ (by
  intro K hK
  refine AW_seqt ⟨[(10,iA 0),(9,.own 700 36 0 l.length),(1,.sl 36 (l.map encU)),(0,rvL)],[(700,rwU l)]⟩ ?_ (by
   intro K hK
   repeat' (first
    |(with_reducible first|refine uK ?_|refine uX ?_|refine jq fun K hK=>?_|refine jb ?_)|((with_reducible first|refine rS hE ?_|refine jn ?_|refine js fun K' hK'=>?_|refine ji fun X Y hX hY=>?_|refine jr ?_|refine jk ?_|refine jx ?_);simp [*])|with_reducible refine rL hE ?_|with_reducible refine And.intro ?_ ?_|omega|(refine imp1 fun h=>?_))
   refine acall_boxes hN.out (nm []) (nm [(700,700)]) [(700,rwU l)] (.tup [.own 700 36 0 l.length,iA 0]) (by rintro res bf ⟨rfl,h1⟩;simp;exact h1) (by simp) (by simp) (by simp) (by simp) (by simp) (by simp) (by simp) ?_
   simp
   exact ga0)
  repeat' (first
   |(with_reducible first|refine uK ?_|refine uQ ?_|refine uX ?_|refine jq fun K hK=>?_|refine jb ?_)|(with_reducible refine rS hE ?_;simp [*])|with_reducible refine rL hE ?_|(((with_reducible show RK _ _ _ _ _ _);first|refine jn ?_|refine js fun K' hK'=>?_);simp [*])|with_reducible refine rD mixed hE ?_|((with_reducible show RKQ _ _ _ _ _ _);first|refine RKQ_nilk ⟨by decide,?_⟩|(refine jv fun K' hK'=>?_;simp [*]))|((with_reducible first|refine ji fun X Y hX hY=>?_|refine jr ?_|refine jk ?_|refine jx ?_);simp [*])|((first|refine jC (hE2.out) ?_ ?_ ?_|refine jQ (hE2.out) ?_ ?_ ?_);(iterate 2 focus (simp [*] <;> fail));simp [*])|with_reducible refine And.intro ?_ ?_|omega|(refine imp1 fun h=>?_))
  all_goals simp)
 exact ga0
theorem takeU {l : List Un} {i : Nat} (h : i < l.length) : (l.take (i + 1)).map encU = (l.take i).map encU ++ [encU l[i]]:=by
 rw [List.take_succ_eq_append_getElem h,List.map_append]
 rfl
theorem s_To1 (u : Un) : PSpec Tryz.prog 110 [encU u] (encU u):=by
 refine pS Tryz.func110 ?_
 intro E hE
 have z'1:=@encU.eq_1;exact ga0
abbrev fnTo : AV:=.fn (.func 110) [] []
theorem s_mapTo (l : List Un) (hl : l.length ≤ 100000) : PSpec Tryz.prog 109 [unL l,fnTo] (unL l):=by
 refine pS Tryz.func109 ?_
 intro E hE
 refine sq ⟨[(0,unL l),(1,fnTo)],[]⟩ ?_
 refine sq ⟨[(5,.v (.slice none 0 0)),(0,unL l),(1,fnTo)],[]⟩ ?_
 refine AW_mkrow 5 800 189 36 (by simp) (by simp) (by simp) (by omega) ?_
 refine AW_seqt ⟨[(5,.own 800 36 0 l.length)],[(800,.arr 189 36 (l.map encU))]⟩ ?_ (by
  intro K hK
  refine lpk (G:=Nat) (fun i=>⟨[(10,iA i),(9,iA l.length),(8,unL l),(1,fnTo),(5,.own 800 36 0 i)],[(800,.arr 189 36 ((l.take i).map encU))]⟩) (fun i=>i ≤ l.length) (fun i=>l.length - i) 0 (Nat.zero_le _) ?_
  intro i hi K hK
  by_cases hlt : i < l.length
  ·have hltI : (i : Int) < l.length:=by omega
   have htk:=Hld.mk (takeU hlt)
   have h1:=Hld.mk (s_To1 l[i])
   obtain ⟨M,hM⟩ : ∃ M,l.take i = M:=⟨_,rfl⟩
   have hMl : M.length = i:=by rw [← hM,List.length_take];omega
   have hMt : (M.map encU).take i = M.map encU:=List.take_of_length_le (by simp [hMl])
   rw [hM] at htk ⊢
   replace hM:=()
   repeat' (first
    |(with_reducible first|refine uK ?_|refine uX ?_|refine jq fun K hK=>?_|refine jb ?_)|((with_reducible first|refine rS hE ?_|refine jn ?_|refine js fun K' hK'=>?_|refine ji fun X Y hX hY=>?_|refine jr ?_|refine jk ?_|refine jx ?_);simp [*])|with_reducible refine rL hE ?_|(refine jC (h1.out) ?_ ?_ ?_;(iterate 2 focus (simp [*] <;> fail));simp [*])|with_reducible refine And.intro ?_ ?_|omega|(refine imp1 fun h=>?_))
   exact ⟨i + 1,by omega,by omega,by simp [htk.out,hMl]⟩
  ·have hie : i = l.length:=by omega
   subst hie
   exact ga0)
 repeat' (first
  |(with_reducible first|refine uK ?_|refine uX ?_|refine jq fun K hK=>?_|refine jb ?_)|((with_reducible first|refine rS hE ?_|refine jn ?_|refine js fun K' hK'=>?_|refine ji fun X Y hX hY=>?_|refine jr ?_|refine jk ?_|refine jx ?_);simp [*])|with_reducible refine rL hE ?_|with_reducible refine And.intro ?_ ?_|omega|(refine imp1 fun h=>?_))
 all_goals (try rw [List.take_of_length_le (by simp)])
 all_goals simp
theorem s_to (l : List Un) (hl : l.length ≤ 100000) : PSpec Tryz.prog 77 [unL l] (unL l):=by
 have h:=Hld.mk (s_mapTo l hl)
 refine pS Tryz.func77 ?_
 intro E hE
 have k'1:=h;exact ga1
theorem s_From1 (u : Un) : PSpec Tryz.prog 130 [encU u] (encU u):=by
 refine pS Tryz.func130 ?_
 intro E hE
 have z'1:=@encU.eq_1;exact ga0
abbrev fnFrom : AV:=.fn (.func 130) [] []
theorem s_mapFrom (l : List Un) (hl : l.length ≤ 100000) : PSpec Tryz.prog 129 [unL l,fnFrom] (unL l):=by
 refine pS Tryz.func129 ?_
 intro E hE
 refine sq ⟨[(0,unL l),(1,fnFrom)],[]⟩ ?_
 refine sq ⟨[(5,.v (.slice none 0 0)),(0,unL l),(1,fnFrom)],[]⟩ ?_
 refine AW_mkrow 5 800 111 36 (by simp) (by simp) (by simp) (by omega) ?_
 refine AW_seqt ⟨[(5,.own 800 36 0 l.length)],[(800,.arr 111 36 (l.map encU))]⟩ ?_ (by
  intro K hK
  refine lpk (G:=Nat) (fun i=>⟨[(10,iA i),(9,iA l.length),(8,unL l),(1,fnFrom),(5,.own 800 36 0 i)],[(800,.arr 111 36 ((l.take i).map encU))]⟩) (fun i=>i ≤ l.length) (fun i=>l.length - i) 0 (Nat.zero_le _) ?_
  intro i hi K hK
  by_cases hlt : i < l.length
  ·have hltI : (i : Int) < l.length:=by omega
   have htk:=Hld.mk (takeU hlt)
   have h1:=Hld.mk (s_From1 l[i])
   obtain ⟨M,hM⟩ : ∃ M,l.take i = M:=⟨_,rfl⟩
   have hMl : M.length = i:=by rw [← hM,List.length_take];omega
   have hMt : (M.map encU).take i = M.map encU:=List.take_of_length_le (by simp [hMl])
   rw [hM] at htk ⊢
   replace hM:=()
   repeat' (first
    |(with_reducible first|refine uK ?_|refine uX ?_|refine jq fun K hK=>?_|refine jb ?_)|((with_reducible first|refine rS hE ?_|refine jn ?_|refine js fun K' hK'=>?_|refine ji fun X Y hX hY=>?_|refine jr ?_|refine jk ?_|refine jx ?_);simp [*])|with_reducible refine rL hE ?_|(refine jC (h1.out) ?_ ?_ ?_;(iterate 2 focus (simp [*] <;> fail));simp [*])|with_reducible refine And.intro ?_ ?_|omega|(refine imp1 fun h=>?_))
   exact ⟨i + 1,by omega,by omega,by simp [htk.out,hMl]⟩
  ·have hie : i = l.length:=by omega
   subst hie
   exact ga0)
 repeat' (first
  |(with_reducible first|refine uK ?_|refine uX ?_|refine jq fun K hK=>?_|refine jb ?_)|((with_reducible first|refine rS hE ?_|refine jn ?_|refine js fun K' hK'=>?_|refine ji fun X Y hX hY=>?_|refine jr ?_|refine jk ?_|refine jx ?_);simp [*])|with_reducible refine rL hE ?_|with_reducible refine And.intro ?_ ?_|omega|(refine imp1 fun h=>?_))
 all_goals (try rw [List.take_of_length_le (by simp)])
 all_goals simp
theorem s_from (l : List Un) (hl : l.length ≤ 100000) : PSpec Tryz.prog 88 [unL l] (unL l):=by
 have h:=Hld.mk (s_mapFrom l hl)
 refine pS Tryz.func88 ?_
 intro E hE
 have k'1:=h;exact ga1
theorem s_mpCheck {l : List Un} (h : NrmU l) : PSpec Tryz.prog 73 [unL l] (iA 0):=by
 have h1:=Hld.mk (s_to l (by have:=h.len;omega))
 have h2:=Hld.mk (s_CheckU h)
 refine pS Tryz.func73 ?_
 intro E hE
 have k'1:=h1;have k'2:=h2;exact ga2
theorem s_mpNormal (l : List Un) (hl : l.length ≤ 30000) (hO : ∀ u ∈ l,OkU u) (hs : l.Pairwise (fun a b=>a.f < b.f)) (hap : ∀ i (h : i + 1 < l.length),aptU l[i].i l[i + 1].i = true) :
 PSpec Tryz.prog 140 [unL l] (.tup [unL (nrmA (atms l)),iA 0]):=by
 have h1:=Hld.mk (s_to l (by omega))
 have h2:=Hld.mk (m_Normal l hl hO hs hap)
 have hA : (nrmA (atms l)).length ≤ 100000:=by
  have:=nrF_len (atms l) _ (Nat.le_refl _)
  have:=atms_len l
  show (nrF (atms l) (atms l).length).length ≤ _
  omega
 have h3:=Hld.mk (s_from _ hA)
 obtain ⟨A,hAe⟩ : ∃ A,nrmA (atms l) = A:=⟨_,rfl⟩
 rw [hAe] at h2 h3 ⊢
 clear hAe hA hO hs hap
 have hAt : (A.map encU).take A.length = A.map encU:=List.take_of_length_le (by simp)
 refine pS Tryz.func140 ?_
 intro E hE
 refine sq ⟨[(0,unL l)],[]⟩ ?_
 refine AW_seqt ⟨[(4,.own 700 36 0 A.length),(5,iA 0)],[(700,rwU A)]⟩ ?_ (by
  intro K hK
  repeat' (first
   |(with_reducible first|refine uK ?_|refine uX ?_|refine jq fun K hK=>?_|refine jb ?_)|((with_reducible first|refine rS hE ?_|refine jn ?_|refine js fun K' hK'=>?_|refine ji fun X Y hX hY=>?_|refine jr ?_|refine jk ?_|refine jx ?_);simp [*])|with_reducible refine rL hE ?_|(refine jC (h1.out) ?_ ?_ ?_;(iterate 2 focus (simp [*] <;> fail));simp [*])|with_reducible refine And.intro ?_ ?_|omega|(refine imp1 fun h=>?_))
  refine acall_boxes h2.out (nm []) (nm [(700,700)]) [(700,rwU A)] (.tup [.own 700 36 0 A.length,iA 0]) (by rintro res bf ⟨rfl,h1⟩;simp;exact h1) (by simp) (by simp) (by simp) (by simp) (by simp) (by simp) (by simp) ?_
  simp
  exact ga0)
 refine AW_freeze 700 (cb:=rwU A) (t:=⟨[(4,unL A),(5,iA 0)],[]⟩) (by simp) (by simp [hAt]) (by simp) ?_
 have k'1:=h3;exact ga1
end Go.Proofs.YtfkgaphfdpflmaaGreatDoor
