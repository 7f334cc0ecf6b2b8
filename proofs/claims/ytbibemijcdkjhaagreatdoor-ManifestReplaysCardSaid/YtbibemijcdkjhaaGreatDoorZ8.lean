/- Layer 40: Apply -/
import Derived.Test.YtbibemijcdkjhaaGreatDoorZ7
import Derived.Test.YtbibemijcdkjhaaGreatDoorZ6
import Derived.Test.YtbibemijcdkjhaaGreatDoorZ5
set_option maxRecDepth 100000
set_option linter.unusedSimpArgs false
set_option linter.unusedVariables false
section
namespace Go.Proofs.YtbibemijcdkjhaaGreatDoor
open Go.Am
theorem call_newI {P : Program} {f : FuncId} {args : List AV} {bf : Nat → Option Ct} {t : Tmp} {mk : Nat → AV} {c : Ct} {k : AV → Option Ct → Prop} (h : NSpec P f args mk c) (hi : idfL args = true) (hk : k (mk t) (some c)) : QCall P f args bf (some t) k :=
 ⟨.inr ⟨args,mk,c,t,viewL_same bf args hi,h,rfl,.inr ⟨rfl,hi⟩,hk⟩⟩
abbrev mboxC (f u : Int) (n j : Nat) : Ct:=.box 72 (.st [iA f,.own j 1 0 n,iA u])
abbrev mrowC (ls : List (List Seg)) : Ct:=.arr 34 1 (ls.map segL)
theorem dv_m {m : Sh} {bf : Nat → Option Ct} {id j : Nat} (hb : bf id = some (mboxC m.first m.used m.lists.length j)) (hr : bf j = some (mrowC m.lists)) : DView bf (.loc id 0) (.ep (encM m)) :=
 .epL hb (by intro d hd;simp at hd;rcases hd with rfl|rfl|rfl <;> rfl) ⟨.base (view_self rfl),.base (by simp [hr]),.base (view_self rfl),trivial⟩
def apT (e : Ed) (b : Sh) (j : Nat) : AState:=⟨[(0,.loc 1000000 0),(3,.ep (encE e)),(4,iA 0)],[(1000000,mboxC b.first b.used b.lists.length j),(j,mrowC b.lists)]⟩
set_option maxHeartbeats 4000000 in
theorem m_apply0 (m : Sh) (e : Ed) (h : WF m) (he : EdOK e) (hc : chkE m e = 0) : MSpec Tryz.prog 21 [.loc 1000000 0,encE e] [(1000000,mboxC m.first m.used m.lists.length 1000001),(1000001,mrowC m.lists)]
 (fun res bf=>res = iA 0 ∧ bf 1000000 = some (mboxC (appE m e).first (appE m e).used (appE m e).lists.length 900) ∧ bf 900 = some (mrowC (appE m e).lists)):=by
 have hk:=s_check m e h he
 rw [hc] at hk
 have hok:=chk_zero hc
 have h1:=h.first
 have h2:=h.len
 have h3:=h.ne
 replace hk:=Hld.mk hk
 refine MSpec_of Tryz.func21 rfl rfl (Nat.le_of_ble_eq_true rfl) (Nat.le_of_ble_eq_true rfl) ?_
 intro E hE
 refine AW_ren 1000001 900 (cb:=mrowC m.lists) (t:=⟨[(0,.loc 1000000 0),(1,encE e)],[(1000000,mboxC m.first m.used m.lists.length 900),(900,mrowC m.lists)]⟩) (by simp) (by simp) (by simp) (by simp [sw]) (by simp [sw]) ?_
 refine AW_seqt ⟨[(0,.loc 1000000 0),(3,.loc 3 0),(4,iA 0)],[(3,.box 36 (encE e)),(1000000,mboxC m.first m.used m.lists.length 900),(900,mrowC m.lists)]⟩ ?_ (by
  intro K hK
  repeat' (first
   |(with_reducible first|refine uK ?_|refine uQ ?_|refine uX ?_|refine jq fun K hK=>?_|refine jb ?_)|(with_reducible refine rS hE ?_;simp [*])|with_reducible refine rL hE ?_|(((with_reducible show RK _ _ _ _ _ _);first|refine jn ?_|refine js fun K' hK'=>?_);simp [*])|with_reducible refine rD mixed hE ?_|((with_reducible show RKQ _ _ _ _ _ _);first|refine RKQ_nilk ⟨by decide,?_⟩|(refine jv fun K' hK'=>?_;simp [*]))|((with_reducible first|refine ji fun X Y hX hY=>?_|refine jr ?_|refine jk ?_|refine jx ?_);simp [*])|with_reducible refine And.intro ?_ ?_|omega|(refine imp1 fun h=>?_))
  all_goals simp)
 refine AW_freeze 3 (cb:=.box 36 (encE e)) (t:=apT e m 900) (by simp) (by simp [apT]) (by simp [apT]) ?_
 refine AW_seqt (apT e m 900) ?_ (by
  intro K hK
  unfold apT
  repeat' (first
   |(with_reducible first|refine useK (by assumption) ?_|refine useK2 (by assumption) ?_|refine useX (by assumption) ?_|refine AW_seqk fun K hK=>?_|refine AW_block ?_)|(with_reducible refine AW_regionS rfl (by rw [hE];decide) ?_;simp [*])|with_reducible refine AW_region (by rw [hE];decide) ?_|((with_reducible show RK _ _ _ _ _ _);first|(refine RK_nilk ?_;simp [*])|(refine RK_stepk fun K' hK'=>?_;simp [*]))|with_reducible refine AW_drawq3 (by decide) mixed (by rw [hE];decide) (by simp [newOK]) ?_|((with_reducible show RKQ _ _ _ _ _ _);first|refine RKQ_nilk ⟨by decide,?_⟩|(refine RKQ_stepk fun K' hK'=>?_;simp [*]))|((with_reducible first|refine AW_if fun X Y hX hY=>?_|refine AW_ret ?_|refine AW_skip ?_|refine AW_exit ?_);simp [*])|with_reducible refine And.intro ?_ ?_|omega|(refine imp1 fun h=>?_))
  refine acall_dv hk.out ⟨dv_m (j:=900) (by simp) (by simp),.base (by simp),trivial⟩ rfl ?_
  simp
  repeat' (first
   |(with_reducible first|refine useK (by assumption) ?_|refine useK2 (by assumption) ?_|refine useX (by assumption) ?_|refine AW_seqk fun K hK=>?_|refine AW_block ?_)|(with_reducible refine AW_regionS rfl (by rw [hE];decide) ?_;simp [*])|with_reducible refine AW_region (by rw [hE];decide) ?_|((with_reducible show RK _ _ _ _ _ _);first|(refine RK_nilk ?_;simp [*])|(refine RK_stepk fun K' hK'=>?_;simp [*]))|with_reducible refine AW_drawq3 (by decide) mixed (by rw [hE];decide) (by simp [newOK]) ?_|((with_reducible show RKQ _ _ _ _ _ _);first|refine RKQ_nilk ⟨by decide,?_⟩|(refine RKQ_stepk fun K' hK'=>?_;simp [*]))|((with_reducible first|refine AW_if fun X Y hX hY=>?_|refine AW_ret ?_|refine AW_skip ?_|refine AW_exit ?_);simp [*])|with_reducible refine And.intro ?_ ?_|omega|(refine imp1 fun h=>?_))
  all_goals simp [apT])
 refine AW_seqx (fun t=>t = apT e (appB m e) 900 ∨ t = apT e (appB m e) 84 ∨ t = apT e (appB m e) 102) ?_ ?_
 ·intro t ht
  have ren : ∀ {c : Code} {Q : AExit → AState → Prop},AW Tryz.prog E c (apT e (appB m e) 900) Q → AW Tryz.prog E c t Q:=by
   intro c Q hc
   rcases ht with rfl|rfl|rfl
   ·exact hc
   ·exact AW_ren 84 900 (cb:=mrowC (appB m e).lists) (t:=apT e (appB m e) 900) (by simp [apT]) (by simp [apT]) (by simp) (by simp [sw,apT]) (by simp [sw,apT]) hc
   ·exact AW_ren 102 900 (cb:=mrowC (appB m e).lists) (t:=apT e (appB m e) 900) (by simp [apT]) (by simp [apT]) (by simp) (by simp [sw,apT]) (by simp [sw,apT]) hc
  refine ren ?_
  clear ren ht
  have h5:=he.add
  have hA : appE m e = ⟨(appB m e).first,maxU (appB m e).used e.add,(appB m e).lists⟩:=rfl
  rw [hA]
  generalize appB m e = b at *
  obtain ⟨U,hU⟩ : ∃ U : Nat → Int,∀ i,U i = maxU b.used (e.add.take i):=⟨_,fun _=>rfl⟩
  have u0 : U 0 = b.used:=by simp [hU,maxU]
  have us : ∀ i (hi : i < e.add.length),U (i + 1) = max (U i) e.add[i].id:=by
   intro i hi
   rw [hU,hU,List.take_succ_eq_append_getElem hi]
   unfold maxU
   rw [List.foldl_append]
   rfl
  have ue : U e.add.length = maxU b.used e.add:=by rw [hU,List.take_length]
  rw [← ue]
  clear hU ue hA hok hk hc
  replace us:=Hld.mk us
  obtain ⟨k,eb,eu,rem,add⟩:=e
  simp only at *
  unfold apT
  repeat' (first
   |(with_reducible first|refine uK ?_|refine uQ ?_|refine uX ?_|refine jq fun K hK=>?_|refine jb ?_)|(with_reducible refine rS hE ?_;simp [*])|with_reducible refine rL hE ?_|(((with_reducible show RK _ _ _ _ _ _);first|refine jn ?_|refine js fun K' hK'=>?_);simp [*])|with_reducible refine rD mixed hE ?_|((with_reducible show RKQ _ _ _ _ _ _);first|refine RKQ_nilk ⟨by decide,?_⟩|(refine jv fun K' hK'=>?_;simp [*]))|((with_reducible first|refine ji fun X Y hX hY=>?_|refine jr ?_|refine jk ?_|refine jx ?_);simp [*])|with_reducible refine And.intro ?_ ?_|omega|(refine imp1 fun h=>?_))
  refine AW_loopk (G:=Nat) (fun i=>⟨[(114,iA i),(113,iA add.length),(112,segL add),(0,.loc 1000000 0),(3,.ep (encE ⟨k,eb,eu,rem,add⟩)),(4,iA 0)],[(1000000,mboxC b.first (U i) b.lists.length 900),(900,mrowC b.lists)]⟩)
   (fun i=>i ≤ add.length) (fun i=>add.length - i) 0 (by omega) (by simp [u0]) ?_
  intro i hi K hK
  clear u0
  by_cases hlt : i < add.length
  ·have hus:=Hld.mk (us.out i hlt)
   repeat' (first
    |(with_reducible first|refine uK ?_|refine uQ ?_|refine uX ?_|refine jq fun K hK=>?_|refine jb ?_)|(with_reducible refine rS hE ?_;simp [*])|with_reducible refine rL hE ?_|(((with_reducible show RK _ _ _ _ _ _);first|refine jn ?_|refine js fun K' hK'=>?_);simp [*])|with_reducible refine rD mixed hE ?_|((with_reducible show RKQ _ _ _ _ _ _);first|refine RKQ_nilk ⟨by decide,?_⟩|(refine jv fun K' hK'=>?_;simp [*]))|((with_reducible first|refine ji fun X Y hX hY=>?_|refine jr ?_|refine jk ?_|refine jx ?_);simp [*])|with_reducible refine And.intro ?_ ?_|omega|(refine imp1 fun h=>?_))
   all_goals exact ⟨i + 1,by omega,by omega,by simp [hus.out]⟩
  ·have hil : i = add.length:=by omega
   subst hil
   repeat' (first
    |(with_reducible first|refine uK ?_|refine uQ ?_|refine uX ?_|refine jq fun K hK=>?_|refine jb ?_)|(with_reducible refine rS hE ?_;simp [*])|with_reducible refine rL hE ?_|(((with_reducible show RK _ _ _ _ _ _);first|refine jn ?_|refine js fun K' hK'=>?_);simp [*])|with_reducible refine rD mixed hE ?_|((with_reducible show RKQ _ _ _ _ _ _);first|refine RKQ_nilk ⟨by decide,?_⟩|(refine jv fun K' hK'=>?_;simp [*]))|((with_reducible first|refine ji fun X Y hX hY=>?_|refine jr ?_|refine jk ?_|refine jx ?_);simp [*])|with_reducible refine And.intro ?_ ?_|omega|(refine imp1 fun h=>?_))
   all_goals simp
 ·intro K hK
  have hle:=lastL_eq h3
  have hle' : m.lists[m.lists.length - 1]? = some (lastL m):=by rw [hle,List.getElem?_eq_getElem]
  have hlast:=h.last
  obtain ⟨k,b,u,rem,add⟩:=e
  rcases hok.kind with hkd|hkd|hkd|hkd <;> simp only at hkd <;> subst hkd
  ·have hch:=Hld.mk (s_changed (lastL m) ⟨1,b,u,rem,add⟩ (by omega) (by have:=he.rem;omega) (by have:=he.add;omega) (dist_of h hok (by rw [hle];exact List.getElem_mem _) (.inl ⟨rfl,rfl⟩)))
   have hB : appB m ⟨1,b,u,rem,add⟩ = ⟨m.first,m.used,m.lists ++ [chgM (lastL m) ⟨1,b,u,rem,add⟩]⟩:=rfl
   rw [hB] at hK
   clear hB
   generalize chgM (lastL m) ⟨1,b,u,rem,add⟩ = C at *
   generalize lastL m = L at *
   subst hle
   unfold apT
   repeat' (first
    |(with_reducible first|refine useK (by assumption) ?_|refine useK2 (by assumption) ?_|refine useX (by assumption) ?_|refine AW_seqk fun K hK=>?_|refine AW_block ?_)|(with_reducible refine AW_regionS rfl (by rw [hE];decide) ?_;simp [*])|with_reducible refine AW_region (by rw [hE];decide) ?_|((with_reducible show RK _ _ _ _ _ _);first|(refine RK_nilk ?_;simp [*])|(refine RK_stepk fun K' hK'=>?_;simp [*]))|with_reducible refine AW_drawq3 (by decide) mixed (by rw [hE];decide) (by simp [newOK]) ?_|((with_reducible show RKQ _ _ _ _ _ _);first|refine RKQ_nilk ⟨by decide,?_⟩|(refine RKQ_stepk fun K' hK'=>?_;simp [*]))|((with_reducible first|refine AW_if fun X Y hX hY=>?_|refine AW_ret ?_|refine AW_skip ?_|refine AW_exit ?_);simp [*])|((first|refine acall_same (hch.out) ?_ ?_ ?_|refine call_same (hch.out) ?_ ?_ ?_);(focus (simp [*] <;> fail));(focus (simp [*] <;> fail));simp [*])|((first|refine acall_view (hch.out) ?_ ?_ ?_|refine call_view (hch.out) ?_ ?_ ?_);(focus (simp [*] <;> fail));(focus (simp [*] <;> fail));simp [*])|with_reducible refine And.intro ?_ ?_|omega|(refine imp1 fun h=>?_))
   all_goals exact ⟨_,.inl rfl,by simp [apT]⟩
  ·have hch:=fun l hl=>s_changed l ⟨2,b,u,rem,add⟩ (h.srt l hl).2 (by have:=he.rem;omega) (by have:=he.add;omega) (dist_of h hok hl (.inr rfl))
   have hha:=fun l hl=>s_hasAll l rem (h.srt l hl).1 (by have:=(h.srt l hl).2;omega) (by have:=he.rem;simp only at this;omega)
   replace hch:=Hld.mk hch
   replace hha:=Hld.mk hha
   have hB : appB m ⟨2,b,u,rem,add⟩ = ⟨m.first,m.used,m.lists.map fun l=>if hasAllB l rem then chgM l ⟨2,b,u,rem,add⟩ else l⟩:=rfl
   rw [hB] at hK
   clear hB hle hle' hlast
   obtain ⟨F,hF⟩ : ∃ F : Nat → List (List Seg),∀ i,F i = ((m.lists.take i).map fun l=>if hasAllB l rem then chgM l ⟨2,b,u,rem,add⟩ else l) ++ m.lists.drop i:=⟨_,fun _=>rfl⟩
   have f0 : F 0 = m.lists:=by simp [hF]
   have fe : F m.lists.length = m.lists.map fun l=>if hasAllB l rem then chgM l ⟨2,b,u,rem,add⟩ else l:=by simp [hF]
   have fl : ∀ i,i ≤ m.lists.length → (F i).length = m.lists.length:=by
    intro i hi
    rw [hF];simp;omega
   have fg : ∀ i (hi : i < m.lists.length),(F i)[i]? = some m.lists[i]:=by
    intro i hi
    rw [hF,List.getElem?_append_right (by simp;omega)]
    simp
    rw [show min i m.lists.length = i by omega]
    simp [hi]
   have fs : ∀ i (hi : i < m.lists.length),F (i + 1) = (F i).set i (if hasAllB m.lists[i] rem then chgM m.lists[i] ⟨2,b,u,rem,add⟩ else m.lists[i]):=by
    intro i hi
    rw [hF,hF,List.set_append_right _ _ (by simp;omega),List.take_succ_eq_append_getElem hi,List.drop_eq_getElem_cons hi]
    have h0 : i - min i m.lists.length = 0:=by omega
    simp only [List.map_append,List.map_cons,List.map_nil,List.length_map,List.length_take,h0,List.set_cons_zero,List.append_assoc,List.cons_append,List.nil_append]
   have fk : ∀ i (hi : i < m.lists.length),(F i).set i m.lists[i] = F i:=by
    intro i hi
    have:=fg i hi
    obtain ⟨h4,h5⟩:=List.getElem?_eq_some_iff.1 this
    rw [← h5];exact List.set_getElem_self h4
   rw [← fe] at hK
   clear hF
   replace fl:=Hld.mk fl
   replace fg:=Hld.mk fg
   replace fs:=Hld.mk fs
   replace fk:=Hld.mk fk
   replace fe:=Hld.mk fe
   unfold apT
   repeat' (first
    |(with_reducible first|refine uK ?_|refine uQ ?_|refine uX ?_|refine jq fun K hK=>?_|refine jb ?_)|(with_reducible refine rS hE ?_;simp [*])|with_reducible refine rL hE ?_|(((with_reducible show RK _ _ _ _ _ _);first|refine jn ?_|refine js fun K' hK'=>?_);simp [*])|with_reducible refine rD mixed hE ?_|((with_reducible show RKQ _ _ _ _ _ _);first|refine RKQ_nilk ⟨by decide,?_⟩|(refine jv fun K' hK'=>?_;simp [*]))|((with_reducible first|refine ji fun X Y hX hY=>?_|refine jr ?_|refine jk ?_|refine jx ?_);simp [*])|with_reducible refine And.intro ?_ ?_|omega|(refine imp1 fun h=>?_))
   refine AW_loopk (G:=Nat) (fun i=>⟨[(50,iA i),(49,iA m.lists.length),(48,.own 900 1 0 m.lists.length),(0,.loc 1000000 0),(3,.ep (encE ⟨2,b,u,rem,add⟩)),(4,iA 0)],[(1000000,mboxC m.first m.used m.lists.length 900),(900,mrowC (F i))]⟩)
    (fun i=>i ≤ m.lists.length) (fun i=>m.lists.length - i) 0 (by omega) (by simp [f0]) ?_
   intro i hi K1 hK1
   clear f0
   have hli:=fl.out i hi
   by_cases hlt : i < m.lists.length
   ·have hg:=fg.out i hlt
    have h7:=Hld.mk (hha.out m.lists[i] (List.getElem_mem hlt))
    have h8:=Hld.mk (hch.out m.lists[i] (List.getElem_mem hlt))
    have h9:=fs.out i hlt
    have h6:=fk.out i hlt
    have hgi : ∀ h : i < (F i).length,(F i)[i] = m.lists[i]:=fun h=>(List.getElem?_eq_some_iff.1 hg).2
    generalize m.lists[i] = L at *
    rcases hha2 : hasAllB L rem with _|_
    ·rw [hha2] at h9
     simp only [Bool.false_eq_true,if_false] at h9
     rw [h6] at h9
     clear h6
     replace h9:=Hld.mk h9
     repeat' (first
      |(with_reducible first|refine useK (by assumption) ?_|refine useK2 (by assumption) ?_|refine useX (by assumption) ?_|refine AW_seqk fun K hK=>?_|refine AW_block ?_)|(with_reducible refine AW_regionS rfl (by rw [hE];decide) ?_;simp [*])|with_reducible refine AW_region (by rw [hE];decide) ?_|((with_reducible show RK _ _ _ _ _ _);first|(refine RK_nilk ?_;simp [*])|(refine RK_stepk fun K' hK'=>?_;simp [*]))|with_reducible refine AW_drawq3 (by decide) mixed (by rw [hE];decide) (by simp [newOK]) ?_|((with_reducible show RKQ _ _ _ _ _ _);first|refine RKQ_nilk ⟨by decide,?_⟩|(refine RKQ_stepk fun K' hK'=>?_;simp [*]))|((with_reducible first|refine AW_if fun X Y hX hY=>?_|refine AW_ret ?_|refine AW_skip ?_|refine AW_exit ?_);simp [*])|((first|refine acall_same (h7.out) ?_ ?_ ?_|refine call_same (h7.out) ?_ ?_ ?_);(focus (simp [*] <;> fail));(focus (simp [*] <;> fail));simp [*])|((first|refine acall_view (h7.out) ?_ ?_ ?_|refine call_view (h7.out) ?_ ?_ ?_);(focus (simp [*] <;> fail));(focus (simp [*] <;> fail));simp [*])|with_reducible refine And.intro ?_ ?_|omega|(refine imp1 fun h=>?_))
     all_goals exact ⟨i + 1,by omega,by omega,by simp [h9.out]⟩
    ·rw [hha2] at h9
     simp only [if_true] at h9
     clear h6
     replace h9:=Hld.mk h9
     generalize chgM L ⟨2,b,u,rem,add⟩ = C at *
     repeat' (first
      |(with_reducible first|refine useK (by assumption) ?_|refine useK2 (by assumption) ?_|refine useX (by assumption) ?_|refine AW_seqk fun K hK=>?_|refine AW_block ?_)|(with_reducible refine AW_regionS rfl (by rw [hE];decide) ?_;simp [*])|with_reducible refine AW_region (by rw [hE];decide) ?_|((with_reducible show RK _ _ _ _ _ _);first|(refine RK_nilk ?_;simp [*])|(refine RK_stepk fun K' hK'=>?_;simp [*]))|with_reducible refine AW_drawq3 (by decide) mixed (by rw [hE];decide) (by simp [newOK]) ?_|((with_reducible show RKQ _ _ _ _ _ _);first|refine RKQ_nilk ⟨by decide,?_⟩|(refine RKQ_stepk fun K' hK'=>?_;simp [*]))|((with_reducible first|refine AW_if fun X Y hX hY=>?_|refine AW_ret ?_|refine AW_skip ?_|refine AW_exit ?_);simp [*])|((first|refine acall_same (h7.out) ?_ ?_ ?_|refine call_same (h7.out) ?_ ?_ ?_);(focus (simp [*] <;> fail));(focus (simp [*] <;> fail));simp [*])|((first|refine acall_view (h7.out) ?_ ?_ ?_|refine call_view (h7.out) ?_ ?_ ?_);(focus (simp [*] <;> fail));(focus (simp [*] <;> fail));simp [*])|((first|refine acall_same (h8.out) ?_ ?_ ?_|refine call_same (h8.out) ?_ ?_ ?_);(focus (simp [*] <;> fail));(focus (simp [*] <;> fail));simp [*])|((first|refine acall_view (h8.out) ?_ ?_ ?_|refine call_view (h8.out) ?_ ?_ ?_);(focus (simp [*] <;> fail));(focus (simp [*] <;> fail));simp [*])|with_reducible refine And.intro ?_ ?_|omega|(refine imp1 fun h=>?_))
     all_goals exact ⟨i + 1,by omega,by omega,by simp [h9.out,List.map_set]⟩
   ·have hil : i = m.lists.length:=by omega
    subst hil
    repeat' (first
     |(with_reducible first|refine uK ?_|refine uQ ?_|refine uX ?_|refine jq fun K hK=>?_|refine jb ?_)|(with_reducible refine rS hE ?_;simp [*])|with_reducible refine rL hE ?_|(((with_reducible show RK _ _ _ _ _ _);first|refine jn ?_|refine js fun K' hK'=>?_);simp [*])|with_reducible refine rD mixed hE ?_|((with_reducible show RKQ _ _ _ _ _ _);first|refine RKQ_nilk ⟨by decide,?_⟩|(refine jv fun K' hK'=>?_;simp [*]))|((with_reducible first|refine ji fun X Y hX hY=>?_|refine jr ?_|refine jk ?_|refine jx ?_);simp [*])|with_reducible refine And.intro ?_ ?_|omega|(refine imp1 fun h=>?_))
    all_goals exact ⟨_,.inl rfl,by simp [apT,hli]⟩
  ·have hbe:=hok.belief
   have hfm:=hok.form
   simp [formB] at hfm
   obtain ⟨rfl,rfl,rfl⟩:=hfm
   have hb3 : inB b m.first (lastB m) = true:=by
    apply Classical.byContradiction
    intro hn
    have hn : inB b m.first (lastB m) = false:=by simpa using hn
    simp [beliefE,hn] at hbe
   have hb3 : m.first ≤ b ∧ b ≤ lastB m:=by simpa [inB] using hb3
   unfold lastB at hb3
   obtain ⟨j,hsub⟩ : ∃ j : Nat,b - m.first = (j : Int):=⟨(b - m.first).toNat,by omega⟩
   have hjl : j < m.lists.length:=by omega
   have hB : appB m ⟨3,b,0,[],[]⟩ = ⟨b,m.used,m.lists.drop j⟩:=by simp [appB,hsub]
   rw [hB] at hK
   clear hB
   obtain ⟨D,hD⟩ : ∃ D,D = m.lists.drop j:=⟨_,rfl⟩
   have hDl : D.length = m.lists.length - j:=by rw [hD];simp
   have hDm : (m.lists.map segL).drop j = D.map segL:=by rw [hD,List.map_drop]
   rw [← hD] at hK
   have hcl:=Hld.mk ((r_cloneL D (by omega)).toN (by
    intro h0
    have : D.length = 0:=by simpa using congrArg List.length h0
    omega) (by simp))
   clear hD hle hle'
   unfold apT
   refine AW_freezeD 900 (cb:=mrowC m.lists) (t:=⟨[(0,.loc 1000000 0),(3,.ep (encE ⟨3,b,0,[],[]⟩)),(4,iA 0)],[(1000000,.box 72 (encM m))]⟩) (by simp) (by simp) (by
    simp
    intro j a b ha hb
    rcases j with _|_|_|j <;> simp at ha hb <;> subst ha <;> subst hb <;> simp) ?_
   repeat' (first
    |(with_reducible first|refine useK (by assumption) ?_|refine useK2 (by assumption) ?_|refine useX (by assumption) ?_|refine AW_seqk fun K hK=>?_|refine AW_block ?_)|(with_reducible refine AW_regionS rfl (by rw [hE];decide) ?_;simp [*])|with_reducible refine AW_region (by rw [hE];decide) ?_|((with_reducible show RK _ _ _ _ _ _);first|(refine RK_nilk ?_;simp [*])|(refine RK_stepk fun K' hK'=>?_;simp [*]))|with_reducible refine AW_drawq3 (by decide) mixed (by rw [hE];decide) (by simp [newOK]) ?_|((with_reducible show RKQ _ _ _ _ _ _);first|refine RKQ_nilk ⟨by decide,?_⟩|(refine RKQ_stepk fun K' hK'=>?_;simp [*]))|((with_reducible first|refine AW_if fun X Y hX hY=>?_|refine AW_ret ?_|refine AW_skip ?_|refine AW_exit ?_);simp [*])|with_reducible refine And.intro ?_ ?_|omega|(refine imp1 fun h=>?_))
   refine call_newI hcl.out (by simp) ?_
   simp
   repeat' (first
    |(with_reducible first|refine useK (by assumption) ?_|refine useK2 (by assumption) ?_|refine useX (by assumption) ?_|refine AW_seqk fun K hK=>?_|refine AW_block ?_)|(with_reducible refine AW_regionS rfl (by rw [hE];decide) ?_;simp [*])|with_reducible refine AW_region (by rw [hE];decide) ?_|((with_reducible show RK _ _ _ _ _ _);first|(refine RK_nilk ?_;simp [*])|(refine RK_stepk fun K' hK'=>?_;simp [*]))|with_reducible refine AW_drawq3 (by decide) mixed (by rw [hE];decide) (by simp [newOK]) ?_|((with_reducible show RKQ _ _ _ _ _ _);first|refine RKQ_nilk ⟨by decide,?_⟩|(refine RKQ_stepk fun K' hK'=>?_;simp [*]))|((with_reducible first|refine AW_if fun X Y hX hY=>?_|refine AW_ret ?_|refine AW_skip ?_|refine AW_exit ?_);simp [*])|with_reducible refine And.intro ?_ ?_|omega|(refine imp1 fun h=>?_))
   all_goals exact ⟨_,.inr (.inl rfl),by simp [apT,hDl]⟩
  ·have hB : appB m ⟨4,b,u,rem,add⟩ = ⟨b,u,[add]⟩:=by simp [appB]
   rw [hB] at hK
   clear hB
   have hcl:=Hld.mk (s_cloneS add (by have:=he.add;simp only at this;omega))
   unfold apT
   repeat' (first
    |(with_reducible first|refine useK (by assumption) ?_|refine useK2 (by assumption) ?_|refine useX (by assumption) ?_|refine AW_seqk fun K hK=>?_|refine AW_block ?_)|(with_reducible refine AW_regionS rfl (by rw [hE];decide) ?_;simp [*])|with_reducible refine AW_region (by rw [hE];decide) ?_|((with_reducible show RK _ _ _ _ _ _);first|(refine RK_nilk ?_;simp [*])|(refine RK_stepk fun K' hK'=>?_;simp [*]))|with_reducible refine AW_drawq3 (by decide) mixed (by rw [hE];decide) (by simp [newOK]) ?_|((with_reducible show RKQ _ _ _ _ _ _);first|refine RKQ_nilk ⟨by decide,?_⟩|(refine RKQ_stepk fun K' hK'=>?_;simp [*]))|((with_reducible first|refine AW_if fun X Y hX hY=>?_|refine AW_ret ?_|refine AW_skip ?_|refine AW_exit ?_);simp [*])|with_reducible refine And.intro ?_ ?_|omega|(refine imp1 fun h=>?_))
   refine AW_drawHd ⟨[(3,.ep (encE ⟨4,b,u,rem,add⟩))],[]⟩ mixed (by simp) fun E' hE'=>?_
   have hEn:=hE'.trans hE
   repeat' (first
    |(with_reducible first|refine useK (by assumption) ?_|refine useK3 (by assumption) ?_)|((with_reducible show DHd _ _ _ _ _ _ _);first|(refine DHd_done (by decide +kernel) ?_;try simp only [thenK,inBlk])|(refine dt hEn 0 fun K' hK'=>?_;simp [*];fail_if_success (with_reducible show False))|(refine dt hEn 1 fun K' hK'=>?_;simp [*];fail_if_success (with_reducible show False))|(refine dt hEn 2 fun K' hK'=>?_;simp [*];fail_if_success (with_reducible show False))|(refine dt hEn 3 fun K' hK'=>?_;simp [*];fail_if_success (with_reducible show False))|(refine dt hEn 4 fun K' hK'=>?_;simp [*];fail_if_success (with_reducible show False))|(refine dt hEn 5 fun K' hK'=>?_;simp [*];fail_if_success (with_reducible show False))|(refine dt hEn 6 fun K' hK'=>?_;simp [*];fail_if_success (with_reducible show False))|(refine dt hEn 7 fun K' hK'=>?_;simp [*];fail_if_success (with_reducible show False))|(refine dt hEn 8 fun K' hK'=>?_;simp [*];fail_if_success (with_reducible show False))|(refine dt hEn 9 fun K' hK'=>?_;simp [*];fail_if_success (with_reducible show False))|(refine dt hEn 10 fun K' hK'=>?_;simp [*];fail_if_success (with_reducible show False))|(refine dt hEn 11 fun K' hK'=>?_;simp [*];fail_if_success (with_reducible show False))|(refine dt hEn 12 fun K' hK'=>?_;simp [*];fail_if_success (with_reducible show False))|(refine dt hEn 13 fun K' hK'=>?_;simp [*];fail_if_success (with_reducible show False))|(refine dt hEn 14 fun K' hK'=>?_;simp [*];fail_if_success (with_reducible show False))|(refine dt hEn 15 fun K' hK'=>?_;simp [*];fail_if_success (with_reducible show False))|(refine dt hEn 16 fun K' hK'=>?_;simp [*];fail_if_success (with_reducible show False))|(refine dt hEn 17 fun K' hK'=>?_;simp [*];fail_if_success (with_reducible show False))|(refine dt hEn 18 fun K' hK'=>?_;simp [*];fail_if_success (with_reducible show False))|(refine dt hEn 19 fun K' hK'=>?_;simp [*];fail_if_success (with_reducible show False))|(refine dp hEn 0 fun K' hK'=>?_;simp [*];fail_if_success (with_reducible show False))|(refine dp hEn 1 fun K' hK'=>?_;simp [*];fail_if_success (with_reducible show False))|(refine dp hEn 2 fun K' hK'=>?_;simp [*];fail_if_success (with_reducible show False))|(refine dp hEn 3 fun K' hK'=>?_;simp [*];fail_if_success (with_reducible show False))|(refine dp hEn 4 fun K' hK'=>?_;simp [*];fail_if_success (with_reducible show False))|(refine dp hEn 5 fun K' hK'=>?_;simp [*];fail_if_success (with_reducible show False))|(refine dp hEn 6 fun K' hK'=>?_;simp [*];fail_if_success (with_reducible show False))|(refine dp hEn 7 fun K' hK'=>?_;simp [*];fail_if_success (with_reducible show False))|(refine dp hEn 8 fun K' hK'=>?_;simp [*];fail_if_success (with_reducible show False))|(refine dp hEn 9 fun K' hK'=>?_;simp [*];fail_if_success (with_reducible show False))|(refine dp hEn 10 fun K' hK'=>?_;simp [*];fail_if_success (with_reducible show False))|(refine dp hEn 11 fun K' hK'=>?_;simp [*];fail_if_success (with_reducible show False))|(refine dp hEn 12 fun K' hK'=>?_;simp [*];fail_if_success (with_reducible show False))|(refine dp hEn 13 fun K' hK'=>?_;simp [*];fail_if_success (with_reducible show False))|(refine dp hEn 14 fun K' hK'=>?_;simp [*];fail_if_success (with_reducible show False))|(refine dp hEn 15 fun K' hK'=>?_;simp [*];fail_if_success (with_reducible show False))|(refine dp hEn 16 fun K' hK'=>?_;simp [*];fail_if_success (with_reducible show False))|(refine dp hEn 17 fun K' hK'=>?_;simp [*];fail_if_success (with_reducible show False))|(refine dp hEn 18 fun K' hK'=>?_;simp [*];fail_if_success (with_reducible show False))|(refine dp hEn 19 fun K' hK'=>?_;simp [*];fail_if_success (with_reducible show False))|refine DHd_any rfl (by decide +kernel) ?_)|exact DHsome_nil|refine DHsome_no (by decide +kernel) ?_|(refine DHsome_yes (by exact rfl) rfl (by rw [hEn];decide) (fun K' hK'=>?_) ?_;simp [*];fail_if_success (with_reducible show False))|(refine DHsome_yesG (by exact rfl) rfl (by exact rfl) (by rw [hEn];decide) (fun K' hK'=>?_) ?_;simp [*];fail_if_success (with_reducible show False))|(refine acall_same (hcl.out) ?_ ?_ ?_;(focus (simp [*] <;> fail));(focus (simp [*] <;> fail));simp [*])|(refine acall_view (hcl.out) ?_ ?_ ?_;(focus (simp [*] <;> fail));(focus (simp [*] <;> fail));simp [*])|with_reducible refine And.intro ?_ ?_|omega|(with_reducible refine imp1 fun h=>?_))
   all_goals exact ⟨_,.inr (.inr rfl),by simp [apT]⟩
def stepE (m : Sh) (e : Ed) : Sh:=if chkE m e = 0 then appE m e else m
theorem m_apply (m : Sh) (e : Ed) (h : WF m) (he : EdOK e) : MSpec Tryz.prog 21 [.loc 1000000 0,encE e] [(1000000,mboxC m.first m.used m.lists.length 1000001),(1000001,mrowC m.lists)]
 (fun res bf=>res = iA (chkE m e) ∧ bf 1000000 = some (mboxC (stepE m e).first (stepE m e).used (stepE m e).lists.length 900) ∧ bf 900 = some (mrowC (stepE m e).lists)):=by
 by_cases hc : chkE m e = 0
 ·have:=m_apply0 m e h he hc
  simp only [stepE,hc,if_true]
  exact this
 ·have hk:=Hld.mk (s_check m e h he)
  simp only [stepE,hc,if_false]
  generalize chkE m e = C at *
  refine MSpec_of Tryz.func21 rfl rfl (Nat.le_of_ble_eq_true rfl) (Nat.le_of_ble_eq_true rfl) ?_
  intro E hE
  refine AW_ren 1000001 900 (cb:=mrowC m.lists) (t:=⟨[(0,.loc 1000000 0),(1,encE e)],[(1000000,mboxC m.first m.used m.lists.length 900),(900,mrowC m.lists)]⟩) (by simp) (by simp) (by simp) (by simp [sw]) (by simp [sw]) ?_
  repeat' (first
   |(with_reducible first|refine uK ?_|refine uQ ?_|refine uX ?_|refine jq fun K hK=>?_|refine jb ?_)|(with_reducible refine rS hE ?_;simp [*])|with_reducible refine rL hE ?_|(((with_reducible show RK _ _ _ _ _ _);first|refine jn ?_|refine js fun K' hK'=>?_);simp [*])|with_reducible refine rD mixed hE ?_|((with_reducible show RKQ _ _ _ _ _ _);first|refine RKQ_nilk ⟨by decide,?_⟩|(refine jv fun K' hK'=>?_;simp [*]))|((with_reducible first|refine ji fun X Y hX hY=>?_|refine jr ?_|refine jk ?_|refine jx ?_);simp [*])|with_reducible refine And.intro ?_ ?_|omega|(refine imp1 fun h=>?_))
  refine acall_dv hk.out ⟨dv_m (j:=900) (by simp) (by simp),.base (by simp),trivial⟩ rfl ?_
  simp
  repeat' (first
   |(with_reducible first|refine uK ?_|refine uQ ?_|refine uX ?_|refine jq fun K hK=>?_|refine jb ?_)|(with_reducible refine rS hE ?_;simp [*])|with_reducible refine rL hE ?_|(((with_reducible show RK _ _ _ _ _ _);first|refine jn ?_|refine js fun K' hK'=>?_);simp [*])|with_reducible refine rD mixed hE ?_|((with_reducible show RKQ _ _ _ _ _ _);first|refine RKQ_nilk ⟨by decide,?_⟩|(refine jv fun K' hK'=>?_;simp [*]))|((with_reducible first|refine ji fun X Y hX hY=>?_|refine jr ?_|refine jk ?_|refine jx ?_);simp [*])|with_reducible refine And.intro ?_ ?_|omega|(refine imp1 fun h=>?_))
end Go.Proofs.YtbibemijcdkjhaaGreatDoor
end
section
namespace Go.Proofs.YtbibemijcdkjhaaGreatDoor
open Go.Am
theorem srtS_eq {l l' : List Seg} (hp : l'.Perm l) (hs : Srt l') : srtS l = l':=by
 unfold srtS sortL
 have hle : ∀ x y : Seg,(!(ltOf (fun a b : Seg=>cmpI a.id b.id)) y x) = decide (x.id ≤ y.id):=by
  intro x y
  have : (ltOf (fun a b : Seg=>cmpI a.id b.id)) y x = decide (y.id < x.id):=by
   show decide (cmpI y.id x.id < 0) = _
   exact decide_eq_decide.2 (cmpI_lt _ _)
  rw [this,Bool.eq_iff_iff]
  simp
 have hfun : (fun x y=>!(ltOf (fun a b : Seg=>cmpI a.id b.id)) y x) = fun x y : Seg=>decide (x.id ≤ y.id):=by funext x y;exact hle x y
 rw [hfun]
 have h1:=List.pairwise_mergeSort (le:=fun x y : Seg=>decide (x.id ≤ y.id)) (by intro a b c h1 h2;simp at *;omega) (by intro a b;simp;omega) l
 have h2:=List.mergeSort_perm l (fun x y : Seg=>decide (x.id ≤ y.id))
 refine List.Perm.eq_of_pairwise (le:=fun x y : Seg=>decide (x.id ≤ y.id)) ?_ h1 ?_ (h2.trans hp.symm)
 ·intro a b ha hb hab hba
  simp at hab hba
  exact srt_inj hs ((h2.trans hp.symm).mem_iff.1 ha) hb (by omega)
 ·exact hs.imp fun h=>by simp;omega
theorem posS_ex (out : List Seg) (x : Seg) : ∀ n,n ≤ out.length → (∀ j (hj : j < out.length),n ≤ j → x.id < out[j].id) → ∃ k,∃ hk : k ≤ out.length,(∀ j (hj : j < out.length),k ≤ j → x.id < out[j].id) ∧ ∀ h : 0 < k,¬ x.id < (out[k - 1]'(by omega)).id:=by
 intro n
 induction n with
 |zero=>intro _ h;exact ⟨0,by omega,h,by omega⟩
 |succ n ih =>
  intro hn h
  by_cases hc : x.id < out[n].id
  ·refine ih (by omega) fun j hj hnj=>?_
   rcases Nat.eq_or_lt_of_le hnj with rfl|g
   ·exact hc
   ·exact h j hj g
  ·exact ⟨n + 1,hn,h,fun _=>by simpa using hc⟩
theorem posS_spec (out : List Seg) (x : Seg) : ∃ hk : posS out x ≤ out.length,(∀ j (hj : j < out.length),posS out x ≤ j → x.id < out[j].id) ∧ ∀ h : 0 < posS out x,¬ x.id < (out[posS out x - 1]'(by omega)).id:=by
 obtain ⟨k,hk,h1,h2⟩:=posS_ex out x out.length (Nat.le_refl _) (fun j hj h=>by omega)
 have:=posS_eq hk h1 h2
 subst this
 exact ⟨hk,h1,h2⟩
theorem insS_perm (out : List Seg) (x : Seg) : (insS out x).Perm (x :: out):=by
 unfold insS
 have h : (out.take (posS out x) ++ [x] ++ out.drop (posS out x)).Perm (x :: (out.take (posS out x) ++ out.drop (posS out x))):=by
  rw [List.append_assoc]
  exact List.perm_middle
 rw [List.take_append_drop] at h
 exact h
theorem insS_srt {out : List Seg} {x : Seg} (hs : Srt out) (hx : ∀ a ∈ out,a.id ≠ x.id) : Srt (insS out x):=by
 obtain ⟨hk,h1,h2⟩:=posS_spec out x
 unfold insS
 have lo : ∀ a ∈ out.take (posS out x),a.id < x.id:=by
  intro a ha
  obtain ⟨j,hj,rfl⟩:=List.getElem_of_mem ha
  simp at hj
  have hjo : j < out.length:=by omega
  rw [List.getElem_take]
  have hne:=hx out[j] (List.getElem_mem _)
  have hp : 0 < posS out x:=by omega
  have h3:=h2 hp
  have h4 : out[j].id ≤ (out[posS out x - 1]'(by omega)).id:=by
   rcases Nat.lt_or_ge j (posS out x - 1) with g|g
   ·have:=List.pairwise_iff_getElem.1 hs j (posS out x - 1) hjo (by omega) g;omega
   ·have : j = posS out x - 1:=by omega
    simp [this]
  omega
 have hi : ∀ a ∈ out.drop (posS out x),x.id < a.id:=by
  intro a ha
  obtain ⟨j,hj,rfl⟩:=List.getElem_of_mem ha
  simp at hj ⊢
  exact h1 (posS out x + j) (by omega) (by omega)
 rw [List.append_assoc]
 refine List.pairwise_append.2 ⟨hs.sublist (List.take_sublist _ _),?_,fun a ha b hb=>?_⟩
 ·exact List.pairwise_cons.2 ⟨fun b hb=>hi b hb,hs.sublist (List.drop_sublist _ _)⟩
 ·have:=lo a ha
  rcases List.mem_cons.1 hb with rfl|hb
  ·exact this
  ·have:=hi b hb;omega
theorem foldS : ∀ (add out : List Seg),Srt out → Srt add → (∀ a ∈ out,∀ b ∈ add,a.id ≠ b.id) → Srt (add.foldl insS out) ∧ (add.foldl insS out).Perm (out ++ add)
 |[],out,hs,_,_=>⟨hs,by simp⟩
 |x :: add,out,hs,ha,hd=>by
  have ha':=List.pairwise_cons.1 ha
  have h1:=insS_srt hs (fun a ha=>hd a ha x List.mem_cons_self)
  have h2:=insS_perm out x
  obtain ⟨h3,h4⟩:=foldS add (insS out x) h1 ha'.2 (fun a hm b hb=>by
   rcases List.mem_cons.1 (h2.mem_iff.1 hm) with rfl|hm
   ·have:=ha'.1 b hb;omega
   ·exact hd a hm b (List.mem_cons_of_mem _ hb))
  refine ⟨h3,h4.trans ?_⟩
  refine (h2.append_right add).trans ?_
  exact List.perm_middle.symm
theorem chg_eq {l : List Seg} {e : Ed} (hl : Srt l) (ha : Srt e.add) (hd : ∀ a ∈ (l.filter fun s=>!inI e.rem s.id),∀ b ∈ e.add,a.id ≠ b.id) : chgS l e.rem e.add = chgM l e ∧ Srt (chgM l e):=by
 have hf : Srt (l.filter fun s=>!inI e.rem s.id):=hl.sublist List.filter_sublist
 obtain ⟨h1,h2⟩:=foldS e.add _ hf ha hd
 have:=srtS_eq h2 h1
 unfold chgM chgS
 rw [this]
 exact ⟨rfl,h1⟩
end Go.Proofs.YtbibemijcdkjhaaGreatDoor
end
section
namespace Go.Proofs.YtbibemijcdkjhaaGreatDoor
open Go.Am
theorem fr_same {id : Nat} {cb : Ct} {L : List AV} (hm : mentL id L = false) : ∀ (j : Nat) (a b : AV),L[j]? = some a → L[j]? = some b → a = b ∧ AV.ment id b = false ∨ View (oneB id cb) a b:=by
 intro j a b ha hb
 rw [ha] at hb
 cases hb
 refine .inl ⟨rfl,?_⟩
 cases h : AV.ment id a with
 |false=>rfl
 |true=>rw [ment_of_mem ha h] at hm;cases hm
namespace Kn
def e1 : Ed:=⟨1,1,0,[],[segI 1,segI 2]⟩
def e2 : Ed:=⟨1,2,0,[1],[segI 3]⟩
def e3 : Ed:=⟨2,0,0,[2,3],[segI 4]⟩
def M0 : Sh:=⟨0,0,[[]]⟩
def M1 : Sh:=⟨0,2,[[],[segI 1,segI 2]]⟩
def M2 : Sh:=⟨0,3,[[],[segI 1,segI 2],[segI 2,segI 3]]⟩
def M3 : Sh:=⟨0,4,[[],[segI 1,segI 2],[segI 4]]⟩
theorem srt1 (a : Int) : Srt [segI a]:=by simp [Srt]
theorem srt2 {a b : Int} (h : a < b) : Srt [segI a,segI b]:=by simp [Srt,segI,h]
theorem w0 : WF M0:=⟨by decide,by decide,by simp [M0,Srt],by decide,by decide⟩
theorem w1 : WF M1:=⟨by decide,by decide,by
 intro l hl
 simp [M1] at hl
 rcases hl with rfl|rfl
 ·exact ⟨by simp [Srt],by simp⟩
 ·exact ⟨srt2 (by omega),by simp⟩,by decide,by decide⟩
theorem w2 : WF M2:=⟨by decide,by decide,by
 intro l hl
 simp [M2] at hl
 rcases hl with rfl|rfl|rfl
 ·exact ⟨by simp [Srt],by simp⟩
 ·exact ⟨srt2 (by omega),by simp⟩
 ·exact ⟨srt2 (by omega),by simp⟩,by decide,by decide⟩
theorem w3 : WF M3:=⟨by decide,by decide,by
 intro l hl
 simp [M3] at hl
 rcases hl with rfl|rfl|rfl
 ·exact ⟨by simp [Srt],by simp⟩
 ·exact ⟨srt2 (by omega),by simp⟩
 ·exact ⟨srt1 _,by simp⟩,by decide,by decide⟩
theorem c1 : chkE M0 e1 = 0:=by decide +kernel
theorem c2 : chkE M1 e2 = 0:=by decide +kernel
theorem c3 : chkE M2 e3 = 0:=by decide +kernel
theorem a1 : stepE M0 e1 = M1:=by
 have h : chgM [] e1 = [segI 1,segI 2]:=srtS_eq (List.Perm.refl _) (srt2 (by omega))
 simp only [stepE,c1,if_true,appE]
 show Sh.mk 0 2 ([[]] ++ [chgM [] e1]) = M1
 rw [h];rfl
theorem a2 : stepE M1 e2 = M2:=by
 have h : chgM [segI 1,segI 2] e2 = [segI 2,segI 3]:=srtS_eq (List.Perm.refl _) (srt2 (by omega))
 simp only [stepE,c2,if_true,appE]
 show Sh.mk 0 3 ([[],[segI 1,segI 2]] ++ [chgM [segI 1,segI 2] e2]) = M2
 rw [h];rfl
theorem a3 : stepE M2 e3 = M3:=by
 have h : chgM [segI 2,segI 3] e3 = [segI 4]:=srtS_eq (List.Perm.refl _) (srt1 _)
 simp only [stepE,c3,if_true,appE]
 show Sh.mk 0 4 [[],[segI 1,segI 2],chgM [segI 2,segI 3] e3] = M3
 rw [h];rfl
theorem at1 : PSpec Tryz.prog 22 [.ep (encM M3),iA 1] (.tup [segL [segI 1,segI 2],iA 0]):=by
 have h:=s_at M3 1 w3
 have e1 : atL M3 1 = [segI 1,segI 2]:=by decide
 have e2 : atF M3 1 = 0:=by decide
 rw [e1,e2] at h
 exact h
theorem at2 : PSpec Tryz.prog 22 [.ep (encM M3),iA 2] (.tup [segL [segI 4],iA 0]):=by
 have h:=s_at M3 2 w3
 have e1 : atL M3 2 = [segI 4]:=by decide
 have e2 : atF M3 2 = 0:=by decide
 rw [e1,e2] at h
 exact h
end Kn
open Kn
abbrev nilA : AV:=.v (.slice none 0 0)
theorem sle5 (a b c : Int) (x y x' y' : AV) (h1 : SLe x x') (h2 : SLe y y') (h3 : x'.one = true) (h4 : y'.one = true) : SLe (.st [iA a,iA b,iA c,x,y]) (.st [iA a,iA b,iA c,x',y']) :=
 SLe.st ⟨SLe_refl _,SLe_refl _,SLe_refl _,h1,h2,trivial⟩ (by simp [h3,h4])
theorem b1 : MSpec Tryz.prog 21 [.loc 1000000 0,.st [iA 1,iA 1,iA 0,nilA,segL [segI 1,segI 2]]] [(1000000,mboxC 0 0 1 1000001),(1000001,mrowC M0.lists)]
 (fun res bf=>res = iA 0 ∧ bf 1000000 = some (mboxC 0 2 2 900) ∧ bf 900 = some (mrowC M1.lists)):=by
 have h:=m_apply M0 e1 w0 ⟨by decide,by decide⟩
 rw [c1,a1] at h
 exact h.args ⟨SLe_refl _,sle5 _ _ _ _ _ _ _ (SLe_nil _ _) (SLe_refl _) rfl rfl,trivial⟩
theorem b2 : MSpec Tryz.prog 21 [.loc 1000000 0,.st [iA 1,iA 2,iA 0,.sl 1 [iA 1],segL [segI 3]]] [(1000000,mboxC 0 2 2 1000001),(1000001,mrowC M1.lists)]
 (fun res bf=>res = iA 0 ∧ bf 1000000 = some (mboxC 0 3 3 900) ∧ bf 900 = some (mrowC M2.lists)):=by
 have h:=m_apply M1 e2 w1 ⟨by decide,by decide⟩
 rw [c2,a2] at h
 exact h
theorem b3 : MSpec Tryz.prog 21 [.loc 1000000 0,.st [iA 2,iA 0,iA 0,.sl 1 [iA 2,iA 3],segL [segI 4]]] [(1000000,mboxC 0 3 3 1000001),(1000001,mrowC M2.lists)]
 (fun res bf=>res = iA 0 ∧ bf 1000000 = some (mboxC 0 4 3 900) ∧ bf 900 = some (mrowC M3.lists)):=by
 have h:=m_apply M2 e3 w2 ⟨by decide,by decide⟩
 rw [c3,a3] at h
 exact h
theorem encF' : PSpec Tryz.prog 16 [.st [iA 3,iA 2,iA 0,nilA,nilA]] (.v (.string ⟨#[51,10,50,10,48,10,48,10,48,10]⟩)) :=
 s_encF.args ⟨sle5 _ _ _ _ _ _ _ (SLe_nil _ _) (SLe_nil _ _) rfl rfl,trivial⟩
theorem next3 : PSpec Tryz.prog 29 [.ep (encM M3)] (iA 5):=s_next M3 w3
set_option maxHeartbeats 4000000 in
theorem s_known : PSpec Tryz.prog 9 [] (bA true):=by
 have hseg12 : Hld (PSpec Tryz.prog 35 [.sl 1 [iA 1,iA 2]] (segL [segI 1,segI 2])):=⟨s_segments [1,2] (by simp)⟩
 have hseg3 : Hld (PSpec Tryz.prog 35 [.sl 1 [iA 3]] (segL [segI 3])):=⟨s_segments [3] (by simp)⟩
 have hseg4 : Hld (PSpec Tryz.prog 35 [.sl 1 [iA 4]] (segL [segI 4])):=⟨s_segments [4] (by simp)⟩
 have hsame1:=Hld.mk (s_same [segI 1,segI 2] [segI 1,segI 2] (by simp) (by simp))
 have hsame2:=Hld.mk (s_same [segI 4] [segI 4] (by simp) (by simp))
 have hl1 : M0.lists.length = 1:=rfl
 refine PSpec_of Tryz.func9 rfl rfl (Nat.le_of_ble_eq_true rfl) (Nat.le_of_ble_eq_true rfl) ?_
 intro E hE
 refine AW_seqt ⟨[(0,bA false)],[]⟩ ?_ (by
  intro K hK
  repeat' (first
   |(with_reducible first|refine uK ?_|refine uQ ?_|refine uX ?_|refine jq fun K hK=>?_|refine jb ?_)|(with_reducible refine rS hE ?_;simp [*])|with_reducible refine rL hE ?_|(((with_reducible show RK _ _ _ _ _ _);first|refine jn ?_|refine js fun K' hK'=>?_);simp [*])|with_reducible refine rD mixed hE ?_|((with_reducible show RKQ _ _ _ _ _ _);first|refine RKQ_nilk ⟨by decide,?_⟩|(refine jv fun K' hK'=>?_;simp [*]))|((with_reducible first|refine ji fun X Y hX hY=>?_|refine jr ?_|refine jk ?_|refine jx ?_);simp [*])|with_reducible refine And.intro ?_ ?_|omega|(refine imp1 fun h=>?_))
  all_goals simp)
 refine AW_seqt ⟨[(1,.loc 901 0)],[(901,mboxC 0 0 1 902),(902,mrowC M0.lists)]⟩ ?_ (by
  intro K hK
  repeat' (first
   |(with_reducible first|refine uK ?_|refine uQ ?_|refine uX ?_|refine jq fun K hK=>?_|refine jb ?_)|(with_reducible refine rS hE ?_;simp [*])|with_reducible refine rL hE ?_|(((with_reducible show RK _ _ _ _ _ _);first|refine jn ?_|refine js fun K' hK'=>?_);simp [*])|with_reducible refine rD mixed hE ?_|((with_reducible show RKQ _ _ _ _ _ _);first|refine RKQ_nilk ⟨by decide,?_⟩|(refine jv fun K' hK'=>?_;simp [*]))|((with_reducible first|refine ji fun X Y hX hY=>?_|refine jr ?_|refine jk ?_|refine jx ?_);simp [*])|with_reducible refine And.intro ?_ ?_|omega|(refine imp1 fun h=>?_))
  refine acall_boxes m_new (nm []) (nm [(3,901),(1,902)]) [(3,mboxC 0 0 1 1),(1,mrowC M0.lists)] (.loc 3 0) (by
   rintro res bf ⟨rfl,h1,h2⟩
   refine ⟨rfl,?_⟩
   simp
   exact ⟨h1,h2⟩) (by simp) (by simp) (by simp) (by simp) (by simp) (by simp) (by simp) ?_
  simp
  repeat' (first
   |(with_reducible first|refine uK ?_|refine uQ ?_|refine uX ?_|refine jq fun K hK=>?_|refine jb ?_)|(with_reducible refine rS hE ?_;simp [*])|with_reducible refine rL hE ?_|(((with_reducible show RK _ _ _ _ _ _);first|refine jn ?_|refine js fun K' hK'=>?_);simp [*])|with_reducible refine rD mixed hE ?_|((with_reducible show RKQ _ _ _ _ _ _);first|refine RKQ_nilk ⟨by decide,?_⟩|(refine jv fun K' hK'=>?_;simp [*]))|((with_reducible first|refine ji fun X Y hX hY=>?_|refine jr ?_|refine jk ?_|refine jx ?_);simp [*])|with_reducible refine And.intro ?_ ?_|omega|(refine imp1 fun h=>?_))
  all_goals simp)
 refine AW_seqt ⟨[(1,.loc 901 0)],[(901,mboxC 0 0 1 902),(902,mrowC M0.lists)]⟩ ?_ (by
  intro K hK
  repeat' (first
   |(with_reducible first|refine uK ?_|refine uQ ?_|refine uX ?_|refine jq fun K hK=>?_|refine jb ?_)|(with_reducible refine rS hE ?_;simp [*])|with_reducible refine rL hE ?_|(((with_reducible show RK _ _ _ _ _ _);first|refine jn ?_|refine js fun K' hK'=>?_);simp [*])|with_reducible refine rD mixed hE ?_|((with_reducible show RKQ _ _ _ _ _ _);first|refine RKQ_nilk ⟨by decide,?_⟩|(refine jv fun K' hK'=>?_;simp [*]))|((with_reducible first|refine ji fun X Y hX hY=>?_|refine jr ?_|refine jk ?_|refine jx ?_);simp [*])|with_reducible refine And.intro ?_ ?_|omega|(refine imp1 fun h=>?_))
  all_goals simp)
 refine AW_seqt ⟨[(1,.loc 901 0),(2,iA 0)],[(901,mboxC 0 2 2 903),(903,mrowC M1.lists)]⟩ ?_ (by
  intro K hK
  repeat' (first
   |(with_reducible first|refine uK ?_|refine uQ ?_|refine uX ?_|refine jq fun K hK=>?_|refine jb ?_)|(with_reducible refine rS hE ?_;simp [*])|with_reducible refine rL hE ?_|(((with_reducible show RK _ _ _ _ _ _);first|refine jn ?_|refine js fun K' hK'=>?_);simp [*])|with_reducible refine rD mixed hE ?_|((with_reducible show RKQ _ _ _ _ _ _);first|refine RKQ_nilk ⟨by decide,?_⟩|(refine jv fun K' hK'=>?_;simp [*]))|((with_reducible first|refine ji fun X Y hX hY=>?_|refine jr ?_|refine jk ?_|refine jx ?_);simp [*])|with_reducible refine And.intro ?_ ?_|omega|(refine imp1 fun h=>?_))
  refine ACall_freezeD 13 (cb:=.arr 3 1 [iA 1,iA 2]) (args':=[.sl 1 [iA 1,iA 2]]) (t:=⟨[(12,.loc 901 0),(1,.loc 901 0)],[(901,mboxC 0 0 1 902),(902,mrowC M0.lists)]⟩) (by simp) (by simp) (by simp;exact fr_same (by simp)) (by simp [fr2]) ?_
  refine acall_same hseg12.out (by simp) (by simp) ?_
  simp
  repeat' (first
   |(with_reducible first|refine uK ?_|refine uQ ?_|refine uX ?_|refine jq fun K hK=>?_|refine jb ?_)|(with_reducible refine rS hE ?_;simp [*])|with_reducible refine rL hE ?_|(((with_reducible show RK _ _ _ _ _ _);first|refine jn ?_|refine js fun K' hK'=>?_);simp [*])|with_reducible refine rD mixed hE ?_|((with_reducible show RKQ _ _ _ _ _ _);first|refine RKQ_nilk ⟨by decide,?_⟩|(refine jv fun K' hK'=>?_;simp [*]))|((with_reducible first|refine ji fun X Y hX hY=>?_|refine jr ?_|refine jk ?_|refine jx ?_);simp [*])|with_reducible refine And.intro ?_ ?_|omega|(refine imp1 fun h=>?_))
  refine acall_boxes b1 (nm [(1000000,901),(1000001,902)]) (nm [(1000000,901),(900,903)]) [(1000000,mboxC 0 2 2 900),(900,mrowC M1.lists)] (iA 0) (by
   rintro res bf ⟨rfl,h1,h2⟩
   refine ⟨rfl,?_⟩
   simp
   exact ⟨h1,h2⟩) (by simp) (by simp) (by simp) (by simp) (by simp) (by simp) (by simp) ?_
  simp
  repeat' (first
   |(with_reducible first|refine uK ?_|refine uQ ?_|refine uX ?_|refine jq fun K hK=>?_|refine jb ?_)|(with_reducible refine rS hE ?_;simp [*])|with_reducible refine rL hE ?_|(((with_reducible show RK _ _ _ _ _ _);first|refine jn ?_|refine js fun K' hK'=>?_);simp [*])|with_reducible refine rD mixed hE ?_|((with_reducible show RKQ _ _ _ _ _ _);first|refine RKQ_nilk ⟨by decide,?_⟩|(refine jv fun K' hK'=>?_;simp [*]))|((with_reducible first|refine ji fun X Y hX hY=>?_|refine jr ?_|refine jk ?_|refine jx ?_);simp [*])|with_reducible refine And.intro ?_ ?_|omega|(refine imp1 fun h=>?_))
  all_goals simp)
 refine AW_seqt ⟨[(1,.loc 901 0),(2,iA 0),(3,iA 0)],[(901,mboxC 0 3 3 904),(904,mrowC M2.lists)]⟩ ?_ (by
  intro K hK
  repeat' (first
   |(with_reducible first|refine uK ?_|refine uQ ?_|refine uX ?_|refine jq fun K hK=>?_|refine jb ?_)|(with_reducible refine rS hE ?_;simp [*])|with_reducible refine rL hE ?_|(((with_reducible show RK _ _ _ _ _ _);first|refine jn ?_|refine js fun K' hK'=>?_);simp [*])|with_reducible refine rD mixed hE ?_|((with_reducible show RKQ _ _ _ _ _ _);first|refine RKQ_nilk ⟨by decide,?_⟩|(refine jv fun K' hK'=>?_;simp [*]))|((with_reducible first|refine ji fun X Y hX hY=>?_|refine jr ?_|refine jk ?_|refine jx ?_);simp [*])|with_reducible refine And.intro ?_ ?_|omega|(refine imp1 fun h=>?_))
  refine ACall_freezeD 19 (cb:=.arr 3 1 [iA 3]) (args':=[.sl 1 [iA 3]]) (t:=⟨[(18,.own 18 1 0 1),(17,.loc 901 0),(1,.loc 901 0),(2,iA 0)],[(18,.arr 3 1 [iA 1]),(901,mboxC 0 2 2 903),(903,mrowC M1.lists)]⟩) (by simp) (by simp) (by simp;exact fr_same (by simp)) (by simp [fr2]) ?_
  refine acall_same hseg3.out (by simp) (by simp) ?_
  simp
  repeat' (first
   |(with_reducible first|refine uK ?_|refine uQ ?_|refine uX ?_|refine jq fun K hK=>?_|refine jb ?_)|(with_reducible refine rS hE ?_;simp [*])|with_reducible refine rL hE ?_|(((with_reducible show RK _ _ _ _ _ _);first|refine jn ?_|refine js fun K' hK'=>?_);simp [*])|with_reducible refine rD mixed hE ?_|((with_reducible show RKQ _ _ _ _ _ _);first|refine RKQ_nilk ⟨by decide,?_⟩|(refine jv fun K' hK'=>?_;simp [*]))|((with_reducible first|refine ji fun X Y hX hY=>?_|refine jr ?_|refine jk ?_|refine jx ?_);simp [*])|with_reducible refine And.intro ?_ ?_|omega|(refine imp1 fun h=>?_))
  refine ACall_freezeD 18 (cb:=.arr 3 1 [iA 1]) (args':=[.loc 901 0,.st [iA 1,iA 2,iA 0,.sl 1 [iA 1],segL [segI 3]]]) (t:=⟨[(1,.loc 901 0),(2,iA 0)],[(901,mboxC 0 2 2 903),(903,mrowC M1.lists)]⟩) (by simp) (by simp) (by simp;exact fr_same (by simp)) ⟨.inl (by simp),.inr ⟨_,_,rfl,rfl,by simp,by simp⟩,trivial⟩ ?_
  refine acall_boxes b2 (nm [(1000000,901),(1000001,903)]) (nm [(1000000,901),(900,904)]) [(1000000,mboxC 0 3 3 900),(900,mrowC M2.lists)] (iA 0) (by
   rintro res bf ⟨rfl,h1,h2⟩
   refine ⟨rfl,?_⟩
   simp
   exact ⟨h1,h2⟩) (by simp) (by simp) (by simp) (by simp) (by simp) (by simp) (by simp) ?_
  simp
  repeat' (first
   |(with_reducible first|refine uK ?_|refine uQ ?_|refine uX ?_|refine jq fun K hK=>?_|refine jb ?_)|(with_reducible refine rS hE ?_;simp [*])|with_reducible refine rL hE ?_|(((with_reducible show RK _ _ _ _ _ _);first|refine jn ?_|refine js fun K' hK'=>?_);simp [*])|with_reducible refine rD mixed hE ?_|((with_reducible show RKQ _ _ _ _ _ _);first|refine RKQ_nilk ⟨by decide,?_⟩|(refine jv fun K' hK'=>?_;simp [*]))|((with_reducible first|refine ji fun X Y hX hY=>?_|refine jr ?_|refine jk ?_|refine jx ?_);simp [*])|with_reducible refine And.intro ?_ ?_|omega|(refine imp1 fun h=>?_))
  all_goals simp)
 refine AW_seqt ⟨[(1,.loc 901 0),(2,iA 0),(3,iA 0),(4,iA 0)],[(901,mboxC 0 4 3 905),(905,mrowC M3.lists)]⟩ ?_ (by
  intro K hK
  repeat' (first
   |(with_reducible first|refine uK ?_|refine uQ ?_|refine uX ?_|refine jq fun K hK=>?_|refine jb ?_)|(with_reducible refine rS hE ?_;simp [*])|with_reducible refine rL hE ?_|(((with_reducible show RK _ _ _ _ _ _);first|refine jn ?_|refine js fun K' hK'=>?_);simp [*])|with_reducible refine rD mixed hE ?_|((with_reducible show RKQ _ _ _ _ _ _);first|refine RKQ_nilk ⟨by decide,?_⟩|(refine jv fun K' hK'=>?_;simp [*]))|((with_reducible first|refine ji fun X Y hX hY=>?_|refine jr ?_|refine jk ?_|refine jx ?_);simp [*])|with_reducible refine And.intro ?_ ?_|omega|(refine imp1 fun h=>?_))
  refine ACall_freezeD 25 (cb:=.arr 3 1 [iA 4]) (args':=[.sl 1 [iA 4]]) (t:=⟨[(24,.own 24 1 0 2),(23,.loc 901 0),(1,.loc 901 0),(2,iA 0),(3,iA 0)],[(24,.arr 3 1 [iA 2,iA 3]),(901,mboxC 0 3 3 904),(904,mrowC M2.lists)]⟩) (by simp) (by simp) (by simp;exact fr_same (by simp)) (by simp [fr2]) ?_
  refine acall_same hseg4.out (by simp) (by simp) ?_
  simp
  repeat' (first
   |(with_reducible first|refine uK ?_|refine uQ ?_|refine uX ?_|refine jq fun K hK=>?_|refine jb ?_)|(with_reducible refine rS hE ?_;simp [*])|with_reducible refine rL hE ?_|(((with_reducible show RK _ _ _ _ _ _);first|refine jn ?_|refine js fun K' hK'=>?_);simp [*])|with_reducible refine rD mixed hE ?_|((with_reducible show RKQ _ _ _ _ _ _);first|refine RKQ_nilk ⟨by decide,?_⟩|(refine jv fun K' hK'=>?_;simp [*]))|((with_reducible first|refine ji fun X Y hX hY=>?_|refine jr ?_|refine jk ?_|refine jx ?_);simp [*])|with_reducible refine And.intro ?_ ?_|omega|(refine imp1 fun h=>?_))
  refine ACall_freezeD 24 (cb:=.arr 3 1 [iA 2,iA 3]) (args':=[.loc 901 0,.st [iA 2,iA 0,iA 0,.sl 1 [iA 2,iA 3],segL [segI 4]]]) (t:=⟨[(1,.loc 901 0),(2,iA 0),(3,iA 0)],[(901,mboxC 0 3 3 904),(904,mrowC M2.lists)]⟩) (by simp) (by simp) (by simp;exact fr_same (by simp)) ⟨.inl (by simp),.inr ⟨_,_,rfl,rfl,by simp,by simp⟩,trivial⟩ ?_
  refine acall_boxes b3 (nm [(1000000,901),(1000001,904)]) (nm [(1000000,901),(900,905)]) [(1000000,mboxC 0 4 3 900),(900,mrowC M3.lists)] (iA 0) (by
   rintro res bf ⟨rfl,h1,h2⟩
   refine ⟨rfl,?_⟩
   simp
   exact ⟨h1,h2⟩) (by simp) (by simp) (by simp) (by simp) (by simp) (by simp) (by simp) ?_
  simp
  repeat' (first
   |(with_reducible first|refine uK ?_|refine uQ ?_|refine uX ?_|refine jq fun K hK=>?_|refine jb ?_)|(with_reducible refine rS hE ?_;simp [*])|with_reducible refine rL hE ?_|(((with_reducible show RK _ _ _ _ _ _);first|refine jn ?_|refine js fun K' hK'=>?_);simp [*])|with_reducible refine rD mixed hE ?_|((with_reducible show RKQ _ _ _ _ _ _);first|refine RKQ_nilk ⟨by decide,?_⟩|(refine jv fun K' hK'=>?_;simp [*]))|((with_reducible first|refine ji fun X Y hX hY=>?_|refine jr ?_|refine jk ?_|refine jx ?_);simp [*])|with_reducible refine And.intro ?_ ?_|omega|(refine imp1 fun h=>?_))
  all_goals simp)
 refine AW_freezeD 905 (cb:=mrowC M3.lists) (t:=⟨[(1,.loc 901 0),(2,iA 0),(3,iA 0),(4,iA 0)],[(901,.box 72 (encM M3))]⟩) (by simp) (by simp) (by
  simp
  intro j a b ha hb
  rcases j with _|_|_|j <;> simp at ha hb <;> subst ha <;> subst hb <;> simp [M3]) ?_
 refine AW_freeze 901 (cb:=.box 72 (encM M3)) (t:=⟨[(1,.ep (encM M3)),(2,iA 0),(3,iA 0),(4,iA 0)],[]⟩) (by simp) (by simp) (by simp) ?_
 have hat1:=Hld.mk at1
 have hat2:=Hld.mk at2
 have hnext:=Hld.mk next3
 have henc:=Hld.mk encF'
 generalize M3 = m3 at *
 refine AW_seqt ⟨[(1,.ep (encM m3)),(2,iA 0),(3,iA 0),(4,iA 0),(5,segL [segI 1,segI 2]),(6,iA 0)],[]⟩ ?_ (by
  intro K hK
  repeat' (first
   |(with_reducible first|refine uK ?_|refine uQ ?_|refine uX ?_|refine jq fun K hK=>?_|refine jb ?_)|(with_reducible refine rS hE ?_;simp [*])|with_reducible refine rL hE ?_|(((with_reducible show RK _ _ _ _ _ _);first|refine jn ?_|refine js fun K' hK'=>?_);simp [*])|with_reducible refine rD mixed hE ?_|((with_reducible show RKQ _ _ _ _ _ _);first|refine RKQ_nilk ⟨by decide,?_⟩|(refine jv fun K' hK'=>?_;simp [*]))|((with_reducible first|refine ji fun X Y hX hY=>?_|refine jr ?_|refine jk ?_|refine jx ?_);simp [*])|((first|refine jC (hat1.out) ?_ ?_ ?_|refine jQ (hat1.out) ?_ ?_ ?_);(iterate 2 focus (simp [*] <;> fail));simp [*])|with_reducible refine And.intro ?_ ?_|omega|(refine imp1 fun h=>?_))
  all_goals simp)
 refine AW_seqt ⟨[(1,.ep (encM m3)),(2,iA 0),(3,iA 0),(4,iA 0),(5,segL [segI 1,segI 2]),(6,iA 0),(7,segL [segI 4]),(8,iA 0)],[]⟩ ?_ (by
  intro K hK
  repeat' (first
   |(with_reducible first|refine uK ?_|refine uQ ?_|refine uX ?_|refine jq fun K hK=>?_|refine jb ?_)|(with_reducible refine rS hE ?_;simp [*])|with_reducible refine rL hE ?_|(((with_reducible show RK _ _ _ _ _ _);first|refine jn ?_|refine js fun K' hK'=>?_);simp [*])|with_reducible refine rD mixed hE ?_|((with_reducible show RKQ _ _ _ _ _ _);first|refine RKQ_nilk ⟨by decide,?_⟩|(refine jv fun K' hK'=>?_;simp [*]))|((with_reducible first|refine ji fun X Y hX hY=>?_|refine jr ?_|refine jk ?_|refine jx ?_);simp [*])|((first|refine jC (hat2.out) ?_ ?_ ?_|refine jQ (hat2.out) ?_ ?_ ?_);(iterate 2 focus (simp [*] <;> fail));simp [*])|with_reducible refine And.intro ?_ ?_|omega|(refine imp1 fun h=>?_))
  all_goals simp)
 repeat' (first
  |(with_reducible first|refine uK ?_|refine uQ ?_|refine uX ?_|refine jq fun K hK=>?_|refine jb ?_)|(with_reducible refine rS hE ?_;simp [*])|with_reducible refine rL hE ?_|(((with_reducible show RK _ _ _ _ _ _);first|refine jn ?_|refine js fun K' hK'=>?_);simp [*])|with_reducible refine rD mixed hE ?_|((with_reducible show RKQ _ _ _ _ _ _);first|refine RKQ_nilk ⟨by decide,?_⟩|(refine jv fun K' hK'=>?_;simp [*]))|((with_reducible first|refine ji fun X Y hX hY=>?_|refine jr ?_|refine jk ?_|refine jx ?_);simp [*])|with_reducible refine And.intro ?_ ?_|omega|(refine imp1 fun h=>?_))
 refine ACall_freezeD 59 (cb:=.arr 3 1 [iA 1,iA 2]) (args':=[.sl 1 [iA 1,iA 2]]) (t:=⟨[(58,segL [segI 1,segI 2]),(57,bA true),(1,.ep (encM m3)),(7,segL [segI 4])],[]⟩) (by simp) (by simp) (by simp) (by simp [fr2]) ?_
 refine acall_same hseg12.out (by simp) (by simp) ?_
 simp
 repeat' (first
  |(with_reducible first|refine uK ?_|refine uQ ?_|refine uX ?_|refine jq fun K hK=>?_|refine jb ?_)|(with_reducible refine rS hE ?_;simp [*])|with_reducible refine rL hE ?_|(((with_reducible show RK _ _ _ _ _ _);first|refine jn ?_|refine js fun K' hK'=>?_);simp [*])|with_reducible refine rD mixed hE ?_|((with_reducible show RKQ _ _ _ _ _ _);first|refine RKQ_nilk ⟨by decide,?_⟩|(refine jv fun K' hK'=>?_;simp [*]))|((with_reducible first|refine ji fun X Y hX hY=>?_|refine jr ?_|refine jk ?_|refine jx ?_);simp [*])|((first|refine jC (hsame1.out) ?_ ?_ ?_|refine jQ (hsame1.out) ?_ ?_ ?_);(iterate 2 focus (simp [*] <;> fail));simp [*])|with_reducible refine And.intro ?_ ?_|omega|(refine imp1 fun h=>?_))
 refine ACall_freezeD 65 (cb:=.arr 3 1 [iA 4]) (args':=[.sl 1 [iA 4]]) (t:=⟨[(64,segL [segI 4]),(63,bA true),(1,.ep (encM m3))],[]⟩) (by simp) (by simp) (by simp) (by simp [fr2]) ?_
 refine acall_same hseg4.out (by simp) (by simp) ?_
 simp
 repeat' (first
  |(with_reducible first|refine uK ?_|refine uQ ?_|refine uX ?_|refine jq fun K hK=>?_|refine jb ?_)|(with_reducible refine rS hE ?_;simp [*])|with_reducible refine rL hE ?_|(((with_reducible show RK _ _ _ _ _ _);first|refine jn ?_|refine js fun K' hK'=>?_);simp [*])|with_reducible refine rD mixed hE ?_|((with_reducible show RKQ _ _ _ _ _ _);first|refine RKQ_nilk ⟨by decide,?_⟩|(refine jv fun K' hK'=>?_;simp [*]))|((with_reducible first|refine ji fun X Y hX hY=>?_|refine jr ?_|refine jk ?_|refine jx ?_);simp [*])|((first|refine jC (hsame2.out) ?_ ?_ ?_|refine jQ (hsame2.out) ?_ ?_ ?_);(iterate 2 focus (simp [*] <;> fail));simp [*])|((first|refine jC (hnext.out) ?_ ?_ ?_|refine jQ (hnext.out) ?_ ?_ ?_);(iterate 2 focus (simp [*] <;> fail));simp [*])|((first|refine jC (henc.out) ?_ ?_ ?_|refine jQ (henc.out) ?_ ?_ ?_);(iterate 2 focus (simp [*] <;> fail));simp [*])|with_reducible refine And.intro ?_ ?_|omega|(refine imp1 fun h=>?_))
end Go.Proofs.YtbibemijcdkjhaaGreatDoor
end
