/- Layer 40, the model: checkAdd -/
import Derived.Test.YtbibemijcdkjhaaGreatDoorZ7
import Derived.Test.YtbibemijcdkjhaaGreatDoorZ6
import Derived.Test.YtbibemijcdkjhaaGreatDoorZ8
import Derived.Test.YtbibemijcdkjhaaGreatDoorZ5
set_option maxRecDepth 100000
set_option linter.unusedSimpArgs false
set_option linter.unusedVariables false
section
namespace Go.Proofs.YtbibemijcdkjhaaGreatDoor
open Go.Am
theorem left_has (l : List Seg) (rem : List Int) (n : Int) : hasB (l.filter fun s=>!inI rem s.id) n = (hasB l n && !inI rem n):=by
 rw [Bool.eq_iff_iff,hasB_iff,Bool.and_eq_true,hasB_iff]
 constructor
 ·rintro ⟨s,hs,rfl⟩
  rw [List.mem_filter] at hs
  exact ⟨⟨s,hs.1,rfl⟩,hs.2⟩
 ·rintro ⟨⟨s,hs,rfl⟩,h⟩
  exact ⟨s,List.mem_filter.2 ⟨hs,h⟩,rfl⟩
set_option maxHeartbeats 4000000 in
theorem s_checkAdd (m : Sh) (e : Ed) (h : WF m) (he : EdOK e) : PSpec Tryz.prog 71 [encH m,encE e,segL ((lastL m).filter fun s=>!inI e.rem s.id)] (iA (addE m e)):=by
 have h2:=h.len
 have h5:=he.add
 have hll:=h.last.2
 have hB : addGo m e.kind e.rem none e.add = addE m e:=rfl
 generalize addE m e = B at hB ⊢
 have hone : ∀ p x,addOne m e.kind e.rem p x = if chkS x ≠ 0 then chkS x else if p.any (fun y=>decide (x.id ≤ y)) then 7
  else if (e.kind = 1 ∧ hasB ((lastL m).filter fun s=>!inI e.rem s.id) x.id = true) ∨ (e.kind = 2 ∧ anyHas m x.id = true) then 8 else if e.kind = 1 ∧ othHas m x = true then 17 else 0:=by
  intro p x
  rw [left_has]
  unfold addOne
  simp
 have hfl : ((lastL m).filter fun s=>!inI e.rem s.id).length ≤ 1000000:=by
  have:=List.length_filter_le (fun s : Seg=>!inI e.rem s.id) (lastL m);omega
 generalize ((lastL m).filter fun s=>!inI e.rem s.id) = L at *
 have hleft:=fun n=>s_find L n hfl
 have hhasl:=fun n l (hl : l ∈ m.lists)=>s_find l n (by have:=(h.srt l hl).2;omega)
 obtain ⟨k,b,u,rem,add⟩:=e
 simp only at *
 replace hleft:=Hld.mk hleft
 replace hhasl:=Hld.mk hhasl
 replace hB:=Hld.mk hB
 replace hone:=Hld.mk hone
 refine PSpec_of Tryz.func71 rfl rfl (Nat.le_of_ble_eq_true rfl) (Nat.le_of_ble_eq_true rfl) ?_
 intro E hE
 refine AW_seqt ⟨[(3,.loc 3 0),(4,.loc 4 0),(2,segL L),(6,iA 0)],[(3,.box 26 (encH m)),(4,.box 36 (encE ⟨k,b,u,rem,add⟩))]⟩ ?_ (by
  intro K hK
  repeat' (first
   |(with_reducible first|refine uK ?_|refine uQ ?_|refine uX ?_|refine jq fun K hK=>?_|refine jb ?_)|(with_reducible refine rS hE ?_;simp [*])|with_reducible refine rL hE ?_|(((with_reducible show RK _ _ _ _ _ _);first|refine jn ?_|refine js fun K' hK'=>?_);simp [*])|with_reducible refine rD mixed hE ?_|((with_reducible show RKQ _ _ _ _ _ _);first|refine RKQ_nilk ⟨by decide,?_⟩|(refine jv fun K' hK'=>?_;simp [*]))|((with_reducible first|refine ji fun X Y hX hY=>?_|refine jr ?_|refine jk ?_|refine jx ?_);simp [*])|with_reducible refine And.intro ?_ ?_|omega|(refine imp1 fun h=>?_))
  all_goals simp)
 refine AW_freeze 3 (cb:=.box 26 (encH m)) (t:=⟨[(3,.ep (encH m)),(4,.loc 4 0),(2,segL L),(6,iA 0)],[(4,.box 36 (encE ⟨k,b,u,rem,add⟩))]⟩) (by simp) (by simp) (by simp) ?_
 refine AW_freeze 4 (cb:=.box 36 (encE ⟨k,b,u,rem,add⟩)) (t:=⟨[(3,.ep (encH m)),(4,.ep (encE ⟨k,b,u,rem,add⟩)),(2,segL L),(6,iA 0)],[]⟩) (by simp) (by simp) (by simp) ?_
 repeat' (first
  |(with_reducible first|refine uK ?_|refine uQ ?_|refine uX ?_|refine jq fun K hK=>?_|refine jb ?_)|(with_reducible refine rS hE ?_;simp [*])|with_reducible refine rL hE ?_|(((with_reducible show RK _ _ _ _ _ _);first|refine jn ?_|refine js fun K' hK'=>?_);simp [*])|with_reducible refine rD mixed hE ?_|((with_reducible show RKQ _ _ _ _ _ _);first|refine RKQ_nilk ⟨by decide,?_⟩|(refine jv fun K' hK'=>?_;simp [*]))|((with_reducible first|refine ji fun X Y hX hY=>?_|refine jr ?_|refine jk ?_|refine jx ?_);simp [*])|with_reducible refine And.intro ?_ ?_|omega|(refine imp1 fun h=>?_))
 refine AW_loopk (G:=Nat) (fun i=>⟨[(7,iA i),(3,.ep (encH m)),(4,.ep (encE ⟨k,b,u,rem,add⟩)),(2,segL L),(6,iA 0)],[]⟩)
  (fun i=>i ≤ add.length ∧ Hld (addGo m k rem none add = addGo m k rem (prvS add i) (add.drop i))) (fun i=>add.length - i) 0 ⟨by omega,⟨by simp [prvS]⟩⟩ (by simp) ?_
 rintro i ⟨hi,hgo⟩ K hK
 by_cases hlt : i < add.length
 ·have hd : add.drop i = add[i] :: add.drop (i + 1):=List.drop_eq_getElem_cons hlt
  have hgo2:=hgo.out
  rw [hd,hB.out] at hgo2
  simp only [addGo] at hgo2
  have hpn:=prvS_succ hlt
  have ho:=hone.out (prvS add i) add[i]
  clear hd hgo
  by_cases hc0 : chkS add[i] = 0
  ·simp only [hc0,ne_eq,not_true_eq_false,if_false] at ho
   by_cases hc7 : (prvS add i).any (fun y=>decide (add[i].id ≤ y)) = true
   ·rw [if_pos hc7] at ho
    rw [ho] at hgo2
    simp at hgo2
    cases i with
    |zero=>simp [prvS] at hc7
    |succ j =>
     have hjl : j < add.length:=by omega
     rw [prvS_succ hjl] at hc7
     simp only [Option.any_some,decide_eq_true_eq] at hc7
     clear hpn ho
     repeat' (first
      |(with_reducible first|refine uK ?_|refine uQ ?_|refine uX ?_|refine jq fun K hK=>?_|refine jb ?_)|(with_reducible refine rS hE ?_;simp [*])|with_reducible refine rL hE ?_|(((with_reducible show RK _ _ _ _ _ _);first|refine jn ?_|refine js fun K' hK'=>?_);simp [*])|with_reducible refine rD mixed hE ?_|((with_reducible show RKQ _ _ _ _ _ _);first|refine RKQ_nilk ⟨by decide,?_⟩|(refine jv fun K' hK'=>?_;simp [*]))|((with_reducible first|refine ji fun X Y hX hY=>?_|refine jr ?_|refine jk ?_|refine jx ?_);simp [*])|((first|refine acall_same (s_chkw _) ?_ ?_ ?_|refine call_same (s_chkw _) ?_ ?_ ?_);(iterate 2 focus (simp [*] <;> fail));simp [*])|((first|refine acall_view (s_chkw _) ?_ ?_ ?_|refine call_view (s_chkw _) ?_ ?_ ?_);(iterate 2 focus (simp [*] <;> fail));simp [*])|with_reducible refine And.intro ?_ ?_|omega|(refine imp1 fun h=>?_))
   ·rw [if_neg hc7] at ho
    generalize addOne m k rem (prvS add i) add[i] = X at *
    have hcase : i = 0 ∨ ∃ j,i = j + 1 ∧ 0 < i ∧ ∃ hjl : j < add.length,¬ add[i].id ≤ add[j].id:=by
     cases i with
     |zero=>exact .inl rfl
     |succ j =>
      have hjl : j < add.length:=by omega
      rw [prvS_succ hjl] at hc7
      simp only [Option.any_some,decide_eq_true_eq] at hc7
      exact .inr ⟨j,by omega,by omega,hjl,hc7⟩
    clear hc7
    have hcl : (k = 1 ∧ hasB L add[i].id = true ∧ B = 8) ∨ ((hasB L add[i].id = false ∨ (hasB L add[i].id = true ∧ ¬ k = 1)) ∧ (k = 2 → anyHas m add[i].id = true → B = 8) ∧ (k = 1 → othHas m add[i] = true → B = 17) ∧
     ((k = 2 → anyHas m add[i].id = false) → (k = 1 → othHas m add[i] = false) → addGo m k rem none add = addGo m k rem (prvS add (i + 1)) (List.drop (i + 1) add))):=by
     by_cases a : k = 1 ∧ hasB L add[i].id = true
     ·exact .inl ⟨a.1,a.2,by rw [hgo2,ho];simp [a]⟩
     ·refine .inr ⟨?_,fun hk ha=>by rw [hgo2,ho];simp [hk,ha],fun hk ha=>?_,fun ha hb=>?_⟩
      ·cases hh : hasB L add[i].id with
       |false=>exact .inl rfl
       |true=>exact .inr ⟨rfl,fun hk=>a ⟨hk,hh⟩⟩
      ·have : hasB L add[i].id = false:=by simpa [hk] using a
       rw [hgo2,ho];simp [hk,ha,this]
      ·have n1 : ¬ ((k = 1 ∧ hasB L add[i].id = true) ∨ (k = 2 ∧ anyHas m add[i].id = true)):=by
        rintro (g|⟨g1,g2⟩)
        ·exact a g
        ·simp [ha g1] at g2
       have n2 : ¬ (k = 1 ∧ othHas m add[i] = true):=by
        rintro ⟨g1,g2⟩
        simp [hb g1] at g2
       rw [hB.out,hgo2,ho,if_neg n1,if_neg n2,hpn]
       simp
    clear hgo2 ho hpn
    have hx0:=Hld.mk (s_chkw add[i])
    rw [hc0] at hx0
    have hlx:=Hld.mk (hleft.out add[i].id)
    have hhx:=Hld.mk (hhasl.out add[i].id)
    have hoth : ∀ l,othB l add[i] = (hasB l add[i].id && !decide ((findS l add[i].id).getD default = add[i])):=fun _=>rfl
    have hA : anyHas m add[i].id = m.lists.any fun l=>hasB l add[i].id:=rfl
    have hO : othHas m add[i] = m.lists.any fun l=>othB l add[i]:=rfl
    replace hoth:=Hld.mk hoth
    replace hA:=Hld.mk hA
    replace hO:=Hld.mk hO
    refine AW_seqt ⟨[(7,iA i),(3,.ep (encH m)),(4,.ep (encE ⟨k,b,u,rem,add⟩)),(2,segL L),(6,iA 0)],[]⟩ ?_ (by
     intro K2 hK2
     clear hcl hcase
     repeat' (first
      |(with_reducible first|refine uK ?_|refine uQ ?_|refine uX ?_|refine jq fun K hK=>?_|refine jb ?_)|(with_reducible refine rS hE ?_;simp [*])|with_reducible refine rL hE ?_|(((with_reducible show RK _ _ _ _ _ _);first|refine jn ?_|refine js fun K' hK'=>?_);simp [*])|with_reducible refine rD mixed hE ?_|((with_reducible show RKQ _ _ _ _ _ _);first|refine RKQ_nilk ⟨by decide,?_⟩|(refine jv fun K' hK'=>?_;simp [*]))|((with_reducible first|refine ji fun X Y hX hY=>?_|refine jr ?_|refine jk ?_|refine jx ?_);simp [*])|with_reducible refine And.intro ?_ ?_|omega|(refine imp1 fun h=>?_))
     all_goals simp)
    rcases hcl with ⟨rfl,c1,hB8⟩|⟨hl2,c2,c3,c4⟩
    ·rw [c1] at hlx
     rcases hcase with rfl|⟨j,rfl,hpos,hjl,hc7⟩
     ·repeat' (first
       |(with_reducible first|refine uK ?_|refine uQ ?_|refine uX ?_|refine jq fun K hK=>?_|refine jb ?_)|(with_reducible refine rS hE ?_;simp [*])|with_reducible refine rL hE ?_|(((with_reducible show RK _ _ _ _ _ _);first|refine jn ?_|refine js fun K' hK'=>?_);simp [*])|with_reducible refine rD mixed hE ?_|((with_reducible show RKQ _ _ _ _ _ _);first|refine RKQ_nilk ⟨by decide,?_⟩|(refine jv fun K' hK'=>?_;simp [*]))|((with_reducible first|refine ji fun X Y hX hY=>?_|refine jr ?_|refine jk ?_|refine jx ?_);simp [*])|((first|refine jC (hx0.out) ?_ ?_ ?_|refine jQ (hx0.out) ?_ ?_ ?_);(iterate 2 focus (simp [*] <;> fail));simp [*])|((first|refine jC (hlx.out) ?_ ?_ ?_|refine jQ (hlx.out) ?_ ?_ ?_);(iterate 2 focus (simp [*] <;> fail));simp [*])|with_reducible refine And.intro ?_ ?_|omega|(refine imp1 fun h=>?_))
     ·repeat' (first
       |(with_reducible first|refine uK ?_|refine uQ ?_|refine uX ?_|refine jq fun K hK=>?_|refine jb ?_)|(with_reducible refine rS hE ?_;simp [*])|with_reducible refine rL hE ?_|(((with_reducible show RK _ _ _ _ _ _);first|refine jn ?_|refine js fun K' hK'=>?_);simp [*])|with_reducible refine rD mixed hE ?_|((with_reducible show RKQ _ _ _ _ _ _);first|refine RKQ_nilk ⟨by decide,?_⟩|(refine jv fun K' hK'=>?_;simp [*]))|((with_reducible first|refine ji fun X Y hX hY=>?_|refine jr ?_|refine jk ?_|refine jx ?_);simp [*])|((first|refine jC (hx0.out) ?_ ?_ ?_|refine jQ (hx0.out) ?_ ?_ ?_);(iterate 2 focus (simp [*] <;> fail));simp [*])|((first|refine jC (hlx.out) ?_ ?_ ?_|refine jQ (hlx.out) ?_ ?_ ?_);(iterate 2 focus (simp [*] <;> fail));simp [*])|with_reducible refine And.intro ?_ ?_|omega|(refine imp1 fun h=>?_))
    replace c2:=Hld.mk c2
    replace c3:=Hld.mk c3
    replace c4:=Hld.mk c4
    refine AW_seqx (fun t=>t = ⟨[(7,iA i),(3,.ep (encH m)),(4,.ep (encE ⟨k,b,u,rem,add⟩)),(2,segL L),(6,iA 0)],[]⟩ ∧ (k = 2 → anyHas m add[i].id = false) ∧ (k = 1 → othHas m add[i] = false)) ?_ ?_
    ·rintro t ⟨rfl,d1,d2⟩
     have d3:=c4.out d1 d2
     clear d1 d2
     replace d3:=Hld.mk d3
     repeat' (first
      |(with_reducible first|refine uK ?_|refine uQ ?_|refine uX ?_|refine jq fun K hK=>?_|refine jb ?_)|(with_reducible refine rS hE ?_;simp [*])|with_reducible refine rL hE ?_|(((with_reducible show RK _ _ _ _ _ _);first|refine jn ?_|refine js fun K' hK'=>?_);simp [*])|with_reducible refine rD mixed hE ?_|((with_reducible show RKQ _ _ _ _ _ _);first|refine RKQ_nilk ⟨by decide,?_⟩|(refine jv fun K' hK'=>?_;simp [*]))|((with_reducible first|refine ji fun X Y hX hY=>?_|refine jr ?_|refine jk ?_|refine jx ?_);simp [*])|with_reducible refine And.intro ?_ ?_|omega|(refine imp1 fun h=>?_))
     all_goals exact ⟨i + 1,⟨by omega,d3⟩,by omega,by simp⟩
    intro K2 hK2
    clear c4
    refine AW_block ?_
    refine AW_seqt ⟨[(8,.loc 8 0),(7,iA i),(3,.ep (encH m)),(4,.ep (encE ⟨k,b,u,rem,add⟩)),(2,segL L),(6,iA 0)],[(8,.box 70 (encS add[i]))]⟩ ?_ (by
     intro K3 hK3
     clear hcase hl2
     repeat' (first
      |(with_reducible first|refine uK ?_|refine uQ ?_|refine uX ?_|refine jq fun K hK=>?_|refine jb ?_)|(with_reducible refine rS hE ?_;simp [*])|with_reducible refine rL hE ?_|(((with_reducible show RK _ _ _ _ _ _);first|refine jn ?_|refine js fun K' hK'=>?_);simp [*])|with_reducible refine rD mixed hE ?_|((with_reducible show RKQ _ _ _ _ _ _);first|refine RKQ_nilk ⟨by decide,?_⟩|(refine jv fun K' hK'=>?_;simp [*]))|((with_reducible first|refine ji fun X Y hX hY=>?_|refine jr ?_|refine jk ?_|refine jx ?_);simp [*])|with_reducible refine And.intro ?_ ?_|omega|(refine imp1 fun h=>?_))
     all_goals simp)
    refine AW_freeze 8 (cb:=.box 70 (encS add[i])) (t:=⟨[(8,.ep (encS add[i])),(7,iA i),(3,.ep (encH m)),(4,.ep (encE ⟨k,b,u,rem,add⟩)),(2,segL L),(6,iA 0)],[]⟩) (by simp) (by simp) (by simp) ?_
    refine AW_seqt ⟨[(8,.ep (encS add[i])),(7,iA i),(3,.ep (encH m)),(4,.ep (encE ⟨k,b,u,rem,add⟩)),(2,segL L),(6,iA 0)],[]⟩ ?_ (by
     intro K3 hK3
     clear hcase hl2
     repeat' (first
      |(with_reducible first|refine uK ?_|refine uQ ?_|refine uX ?_|refine jq fun K hK=>?_|refine jb ?_)|(with_reducible refine rS hE ?_;simp [*])|with_reducible refine rL hE ?_|(((with_reducible show RK _ _ _ _ _ _);first|refine jn ?_|refine js fun K' hK'=>?_);simp [*])|with_reducible refine rD mixed hE ?_|((with_reducible show RKQ _ _ _ _ _ _);first|refine RKQ_nilk ⟨by decide,?_⟩|(refine jv fun K' hK'=>?_;simp [*]))|((with_reducible first|refine ji fun X Y hX hY=>?_|refine jr ?_|refine jk ?_|refine jx ?_);simp [*])|((first|refine jC (hx0.out) ?_ ?_ ?_|refine jQ (hx0.out) ?_ ?_ ?_);(iterate 2 focus (simp [*] <;> fail));simp [*])|with_reducible refine And.intro ?_ ?_|omega|(refine imp1 fun h=>?_))
     all_goals simp)
    refine AW_seqt ⟨[(8,.ep (encS add[i])),(7,iA i),(3,.ep (encH m)),(4,.ep (encE ⟨k,b,u,rem,add⟩)),(2,segL L),(6,iA 0)],[]⟩ ?_ (by
     intro K3 hK3
     clear hl2
     rcases hcase with rfl|⟨j,rfl,hpos,hjl,hc7⟩
     ·repeat' (first
       |(with_reducible first|refine uK ?_|refine uQ ?_|refine uX ?_|refine jq fun K hK=>?_|refine jb ?_)|(with_reducible refine rS hE ?_;simp [*])|with_reducible refine rL hE ?_|(((with_reducible show RK _ _ _ _ _ _);first|refine jn ?_|refine js fun K' hK'=>?_);simp [*])|with_reducible refine rD mixed hE ?_|((with_reducible show RKQ _ _ _ _ _ _);first|refine RKQ_nilk ⟨by decide,?_⟩|(refine jv fun K' hK'=>?_;simp [*]))|((with_reducible first|refine ji fun X Y hX hY=>?_|refine jr ?_|refine jk ?_|refine jx ?_);simp [*])|with_reducible refine And.intro ?_ ?_|omega|(refine imp1 fun h=>?_))
      all_goals simp
     ·repeat' (first
       |(with_reducible first|refine uK ?_|refine uQ ?_|refine uX ?_|refine jq fun K hK=>?_|refine jb ?_)|(with_reducible refine rS hE ?_;simp [*])|with_reducible refine rL hE ?_|(((with_reducible show RK _ _ _ _ _ _);first|refine jn ?_|refine js fun K' hK'=>?_);simp [*])|with_reducible refine rD mixed hE ?_|((with_reducible show RKQ _ _ _ _ _ _);first|refine RKQ_nilk ⟨by decide,?_⟩|(refine jv fun K' hK'=>?_;simp [*]))|((with_reducible first|refine ji fun X Y hX hY=>?_|refine jr ?_|refine jk ?_|refine jx ?_);simp [*])|with_reducible refine And.intro ?_ ?_|omega|(refine imp1 fun h=>?_))
      all_goals simp)
    clear hcase
    refine AW_seqt ⟨[(8,.ep (encS add[i])),(7,iA i),(3,.ep (encH m)),(4,.ep (encE ⟨k,b,u,rem,add⟩)),(2,segL L),(6,iA 0)],[]⟩ ?_ (by
     intro K3 hK3
     rcases hl2 with c1|⟨c1,hk1⟩
     ·rw [c1] at hlx
      repeat' (first
       |(with_reducible first|refine uK ?_|refine uQ ?_|refine uX ?_|refine jq fun K hK=>?_|refine jb ?_)|(with_reducible refine rS hE ?_;simp [*])|with_reducible refine rL hE ?_|(((with_reducible show RK _ _ _ _ _ _);first|refine jn ?_|refine js fun K' hK'=>?_);simp [*])|with_reducible refine rD mixed hE ?_|((with_reducible show RKQ _ _ _ _ _ _);first|refine RKQ_nilk ⟨by decide,?_⟩|(refine jv fun K' hK'=>?_;simp [*]))|((with_reducible first|refine ji fun X Y hX hY=>?_|refine jr ?_|refine jk ?_|refine jx ?_);simp [*])|((first|refine jC (hlx.out) ?_ ?_ ?_|refine jQ (hlx.out) ?_ ?_ ?_);(iterate 2 focus (simp [*] <;> fail));simp [*])|with_reducible refine And.intro ?_ ?_|omega|(refine imp1 fun h=>?_))
      all_goals simp
     ·rw [c1] at hlx
      repeat' (first
       |(with_reducible first|refine uK ?_|refine uQ ?_|refine uX ?_|refine jq fun K hK=>?_|refine jb ?_)|(with_reducible refine rS hE ?_;simp [*])|with_reducible refine rL hE ?_|(((with_reducible show RK _ _ _ _ _ _);first|refine jn ?_|refine js fun K' hK'=>?_);simp [*])|with_reducible refine rD mixed hE ?_|((with_reducible show RKQ _ _ _ _ _ _);first|refine RKQ_nilk ⟨by decide,?_⟩|(refine jv fun K' hK'=>?_;simp [*]))|((with_reducible first|refine ji fun X Y hX hY=>?_|refine jr ?_|refine jk ?_|refine jx ?_);simp [*])|((first|refine jC (hlx.out) ?_ ?_ ?_|refine jQ (hlx.out) ?_ ?_ ?_);(iterate 2 focus (simp [*] <;> fail));simp [*])|with_reducible refine And.intro ?_ ?_|omega|(refine imp1 fun h=>?_))
      all_goals simp)
    clear hl2 hlx
    repeat' (first
     |(with_reducible first|refine uK ?_|refine uQ ?_|refine uX ?_|refine jq fun K hK=>?_|refine jb ?_)|(with_reducible refine rS hE ?_;simp [*])|with_reducible refine rL hE ?_|(((with_reducible show RK _ _ _ _ _ _);first|refine jn ?_|refine js fun K' hK'=>?_);simp [*])|with_reducible refine rD mixed hE ?_|((with_reducible show RKQ _ _ _ _ _ _);first|refine RKQ_nilk ⟨by decide,?_⟩|(refine jv fun K' hK'=>?_;simp [*]))|((with_reducible first|refine ji fun X Y hX hY=>?_|refine jr ?_|refine jk ?_|refine jx ?_);simp [*])|with_reducible refine And.intro ?_ ?_|omega|(refine imp1 fun h=>?_))
    refine AW_loopk (G:=Nat) (fun q=>⟨[(12,iA q),(8,.ep (encS add[i])),(7,iA i),(3,.ep (encH m)),(4,.ep (encE ⟨k,b,u,rem,add⟩)),(2,segL L),(6,iA 0)],[]⟩)
     (fun q=>q ≤ m.lists.length ∧ Hld (∀ j (hj : j < m.lists.length),j < q → (k = 2 → hasB m.lists[j] add[i].id = false) ∧ (k = 1 → othB m.lists[j] add[i] = false))) (fun q=>m.lists.length - q) 0 ⟨by omega,⟨fun j hj h=>by omega⟩⟩ (by simp) ?_
    rintro q ⟨hq,hbef⟩ K3 hK3
    by_cases hql : q < m.lists.length
    ·have hh:=Hld.mk (hhx.out m.lists[q] (List.getElem_mem hql))
     have hoq:=hoth.out m.lists[q]
     have hcs : (k = 2 ∧ hasB m.lists[q] add[i].id = true ∧ B = 8) ∨ (k = 1 ∧ hasB m.lists[q] add[i].id = true ∧ ¬ (findS m.lists[q] add[i].id).getD default = add[i] ∧ B = 17) ∨
      (Hld ((k = 2 → hasB m.lists[q] add[i].id = false) ∧ (k = 1 → othB m.lists[q] add[i] = false)) ∧ (hasB m.lists[q] add[i].id = false ∨ (hasB m.lists[q] add[i].id = true ∧ (findS m.lists[q] add[i].id).getD default = add[i] ∧ k = 1) ∨ (hasB m.lists[q] add[i].id = true ∧ ¬ k = 2 ∧ ¬ k = 1))):=by
      cases hh : hasB m.lists[q] add[i].id with
      |false=>exact .inr (.inr ⟨⟨⟨fun _=>rfl,fun _=>by rw [hoq,hh];rfl⟩⟩,.inl rfl⟩)
      |true =>
       by_cases g2 : k = 2
       ·refine .inl ⟨g2,rfl,c2.out g2 ?_⟩
        rw [hA.out,List.any_eq_true]
        exact ⟨_,List.getElem_mem hql,hh⟩
       ·by_cases g1 : k = 1
        ·by_cases g3 : (findS m.lists[q] add[i].id).getD default = add[i]
         ·exact .inr (.inr ⟨⟨⟨fun g=>absurd g g2,fun _=>by rw [hoq,hh,g3];simp⟩⟩,.inr (.inl ⟨rfl,g3,g1⟩)⟩)
         ·refine .inr (.inl ⟨g1,rfl,g3,c3.out g1 ?_⟩)
          rw [hO.out,List.any_eq_true]
          exact ⟨_,List.getElem_mem hql,by rw [hoq,hh];simp [g3]⟩
        ·exact .inr (.inr ⟨⟨⟨fun g=>absurd g g2,fun g=>absurd g g1⟩⟩,.inr (.inr ⟨rfl,g2,g1⟩)⟩)
     clear hoq
     generalize (findS m.lists[q] add[i].id).getD default = o at *
     rcases hcs with ⟨rfl,c1,hB8⟩|⟨rfl,c1,c5,hB8⟩|⟨hnew,hcs⟩
     ·rw [c1] at hh
      repeat' (first
       |(with_reducible first|refine uK ?_|refine uQ ?_|refine uX ?_|refine jq fun K hK=>?_|refine jb ?_)|(with_reducible refine rS hE ?_;simp [*])|with_reducible refine rL hE ?_|(((with_reducible show RK _ _ _ _ _ _);first|refine jn ?_|refine js fun K' hK'=>?_);simp [*])|with_reducible refine rD mixed hE ?_|((with_reducible show RKQ _ _ _ _ _ _);first|refine RKQ_nilk ⟨by decide,?_⟩|(refine jv fun K' hK'=>?_;simp [*]))|((with_reducible first|refine ji fun X Y hX hY=>?_|refine jr ?_|refine jk ?_|refine jx ?_);simp [*])|((first|refine jC (hh.out) ?_ ?_ ?_|refine jQ (hh.out) ?_ ?_ ?_);(iterate 2 focus (simp [*] <;> fail));simp [*])|with_reducible refine And.intro ?_ ?_|omega|(refine imp1 fun h=>?_))
     ·rw [c1] at hh
      repeat' (first
       |(with_reducible first|refine uK ?_|refine uQ ?_|refine uX ?_|refine jq fun K hK=>?_|refine jb ?_)|(with_reducible refine rS hE ?_;simp [*])|with_reducible refine rL hE ?_|(((with_reducible show RK _ _ _ _ _ _);first|refine jn ?_|refine js fun K' hK'=>?_);simp [*])|with_reducible refine rD mixed hE ?_|((with_reducible show RKQ _ _ _ _ _ _);first|refine RKQ_nilk ⟨by decide,?_⟩|(refine jv fun K' hK'=>?_;simp [*]))|((with_reducible first|refine ji fun X Y hX hY=>?_|refine jr ?_|refine jk ?_|refine jx ?_);simp [*])|((first|refine jC (hh.out) ?_ ?_ ?_|refine jQ (hh.out) ?_ ?_ ?_);(iterate 2 focus (simp [*] <;> fail));simp [*])|with_reducible refine And.intro ?_ ?_|omega|(refine imp1 fun h=>?_))
     ·have hnx : Hld (∀ j (hj : j < m.lists.length),j < q + 1 → (k = 2 → hasB m.lists[j] add[i].id = false) ∧ (k = 1 → othB m.lists[j] add[i] = false)):=⟨by
       intro j hj h
       rcases Nat.lt_succ_iff_lt_or_eq.1 h with h|rfl
       ·exact hbef.out j hj h
       ·exact hnew.out⟩
      clear hnew
      rcases hcs with c1|⟨c1,c5,rfl⟩|⟨c1,c5,c6⟩
      ·rw [c1] at hh
       repeat' (first
        |(with_reducible first|refine uK ?_|refine uQ ?_|refine uX ?_|refine jq fun K hK=>?_|refine jb ?_)|(with_reducible refine rS hE ?_;simp [*])|with_reducible refine rL hE ?_|(((with_reducible show RK _ _ _ _ _ _);first|refine jn ?_|refine js fun K' hK'=>?_);simp [*])|with_reducible refine rD mixed hE ?_|((with_reducible show RKQ _ _ _ _ _ _);first|refine RKQ_nilk ⟨by decide,?_⟩|(refine jv fun K' hK'=>?_;simp [*]))|((with_reducible first|refine ji fun X Y hX hY=>?_|refine jr ?_|refine jk ?_|refine jx ?_);simp [*])|((first|refine jC (hh.out) ?_ ?_ ?_|refine jQ (hh.out) ?_ ?_ ?_);(iterate 2 focus (simp [*] <;> fail));simp [*])|with_reducible refine And.intro ?_ ?_|omega|(refine imp1 fun h=>?_))
       all_goals exact ⟨q + 1,⟨by omega,hnx⟩,by omega,by simp⟩
      ·rw [c1] at hh
       subst c5
       repeat' (first
        |(with_reducible first|refine uK ?_|refine uQ ?_|refine uX ?_|refine jq fun K hK=>?_|refine jb ?_)|(with_reducible refine rS hE ?_;simp [*])|with_reducible refine rL hE ?_|(((with_reducible show RK _ _ _ _ _ _);first|refine jn ?_|refine js fun K' hK'=>?_);simp [*])|with_reducible refine rD mixed hE ?_|((with_reducible show RKQ _ _ _ _ _ _);first|refine RKQ_nilk ⟨by decide,?_⟩|(refine jv fun K' hK'=>?_;simp [*]))|((with_reducible first|refine ji fun X Y hX hY=>?_|refine jr ?_|refine jk ?_|refine jx ?_);simp [*])|((first|refine jC (hh.out) ?_ ?_ ?_|refine jQ (hh.out) ?_ ?_ ?_);(iterate 2 focus (simp [*] <;> fail));simp [*])|with_reducible refine And.intro ?_ ?_|omega|(refine imp1 fun h=>?_))
       all_goals exact ⟨q + 1,⟨by omega,hnx⟩,by omega,by simp⟩
      ·rw [c1] at hh
       repeat' (first
        |(with_reducible first|refine uK ?_|refine uQ ?_|refine uX ?_|refine jq fun K hK=>?_|refine jb ?_)|(with_reducible refine rS hE ?_;simp [*])|with_reducible refine rL hE ?_|(((with_reducible show RK _ _ _ _ _ _);first|refine jn ?_|refine js fun K' hK'=>?_);simp [*])|with_reducible refine rD mixed hE ?_|((with_reducible show RKQ _ _ _ _ _ _);first|refine RKQ_nilk ⟨by decide,?_⟩|(refine jv fun K' hK'=>?_;simp [*]))|((with_reducible first|refine ji fun X Y hX hY=>?_|refine jr ?_|refine jk ?_|refine jx ?_);simp [*])|((first|refine jC (hh.out) ?_ ?_ ?_|refine jQ (hh.out) ?_ ?_ ?_);(iterate 2 focus (simp [*] <;> fail));simp [*])|with_reducible refine And.intro ?_ ?_|omega|(refine imp1 fun h=>?_))
       all_goals exact ⟨q + 1,⟨by omega,hnx⟩,by omega,by simp⟩
    ·have hqe : q = m.lists.length:=by omega
     subst hqe
     have e1 : k = 2 → anyHas m add[i].id = false:=by
      intro hk
      rw [hA.out,List.any_eq_false]
      intro l hl
      obtain ⟨j,hj,rfl⟩:=List.getElem_of_mem hl
      simp [(hbef.out j hj hj).1 hk]
     have e2 : k = 1 → othHas m add[i] = false:=by
      intro hk
      rw [hO.out,List.any_eq_false]
      intro l hl
      obtain ⟨j,hj,rfl⟩:=List.getElem_of_mem hl
      simp [(hbef.out j hj hj).2 hk]
     replace e1:=Hld.mk e1
     replace e2:=Hld.mk e2
     clear hbef
     repeat' (first
      |(with_reducible first|refine uK ?_|refine uQ ?_|refine uX ?_|refine jq fun K hK=>?_|refine jb ?_)|(with_reducible refine rS hE ?_;simp [*])|with_reducible refine rL hE ?_|(((with_reducible show RK _ _ _ _ _ _);first|refine jn ?_|refine js fun K' hK'=>?_);simp [*])|with_reducible refine rD mixed hE ?_|((with_reducible show RKQ _ _ _ _ _ _);first|refine RKQ_nilk ⟨by decide,?_⟩|(refine jv fun K' hK'=>?_;simp [*]))|((with_reducible first|refine ji fun X Y hX hY=>?_|refine jr ?_|refine jk ?_|refine jx ?_);simp [*])|with_reducible refine And.intro ?_ ?_|omega|(refine imp1 fun h=>?_))
     all_goals exact ⟨_,⟨rfl,e1.out,e2.out⟩,by simp⟩
  ·rw [if_pos hc0] at ho
   rw [ho,if_pos hc0] at hgo2
   clear hpn ho
   repeat' (first
    |(with_reducible first|refine uK ?_|refine uQ ?_|refine uX ?_|refine jq fun K hK=>?_|refine jb ?_)|(with_reducible refine rS hE ?_;simp [*])|with_reducible refine rL hE ?_|(((with_reducible show RK _ _ _ _ _ _);first|refine jn ?_|refine js fun K' hK'=>?_);simp [*])|with_reducible refine rD mixed hE ?_|((with_reducible show RKQ _ _ _ _ _ _);first|refine RKQ_nilk ⟨by decide,?_⟩|(refine jv fun K' hK'=>?_;simp [*]))|((with_reducible first|refine ji fun X Y hX hY=>?_|refine jr ?_|refine jk ?_|refine jx ?_);simp [*])|((first|refine acall_same (s_chkw _) ?_ ?_ ?_|refine call_same (s_chkw _) ?_ ?_ ?_);(iterate 2 focus (simp [*] <;> fail));simp [*])|((first|refine acall_view (s_chkw _) ?_ ?_ ?_|refine call_view (s_chkw _) ?_ ?_ ?_);(iterate 2 focus (simp [*] <;> fail));simp [*])|with_reducible refine And.intro ?_ ?_|omega|(refine imp1 fun h=>?_))
 ·have hil : i = add.length:=by omega
  subst hil
  have hgo2:=hgo.out
  rw [List.drop_length,hB.out] at hgo2
  simp only [addGo] at hgo2
  clear hgo
  repeat' (first
   |(with_reducible first|refine uK ?_|refine uQ ?_|refine uX ?_|refine jq fun K hK=>?_|refine jb ?_)|(with_reducible refine rS hE ?_;simp [*])|with_reducible refine rL hE ?_|(((with_reducible show RK _ _ _ _ _ _);first|refine jn ?_|refine js fun K' hK'=>?_);simp [*])|with_reducible refine rD mixed hE ?_|((with_reducible show RKQ _ _ _ _ _ _);first|refine RKQ_nilk ⟨by decide,?_⟩|(refine jv fun K' hK'=>?_;simp [*]))|((with_reducible first|refine ji fun X Y hX hY=>?_|refine jr ?_|refine jk ?_|refine jx ?_);simp [*])|with_reducible refine And.intro ?_ ?_|omega|(refine imp1 fun h=>?_))
end Go.Proofs.YtbibemijcdkjhaaGreatDoor
end
section
namespace Go.Proofs.YtbibemijcdkjhaaGreatDoor
open Go.Am
def appS (m : Sh) (e : Ed) : Sh :=
 ⟨if e.kind = 3 ∨ e.kind = 4 then e.belief else m.first,maxU (max m.used e.used) e.add,
  if e.kind = 1 then m.lists ++ [chgS (lastL m) e.rem e.add]
  else if e.kind = 2 then m.lists.map fun l=>if hasAllB l e.rem then chgS l e.rem e.add else l
  else if e.kind = 3 then m.lists.drop (e.belief - m.first).toNat
  else [chgS [] [] e.add]⟩
abbrev boxO (f u : Int) (id off n : Nat) : Ct:=.box 26 (.st [iA f,iA u,.own id 1 off n])
abbrev box0 : Ct:=.box 26 (.st [iA 0,iA 0,.v (.slice none 0 0)])
abbrev rowO (ls : List (List Seg)) : Ct:=.arr 34 1 (ls.map segL)
def asT (m : Sh) (e : Ed) (f u : Int) (id off n : Nat) (ls : List (List Seg)) : AState:=⟨[(5,.loc 5 0),(2,.ep (encH m)),(3,.ep (encE e)),(4,.loc 4 0)],[(5,boxO f u id off n),(id,rowO ls),(4,box0)]⟩
set_option maxHeartbeats 4000000 in
theorem s_apply (m : Sh) (e : Ed) (h : WF m) (he : EdOK e) (hk : kindOK e) (hb : e.kind = 3 → inB e.belief m.first (lastB m) = true) : PSpec Tryz.prog 25 [encH m,encE e] (encH (appS m e)):=by
 have h1:=h.first
 have h2:=h.len
 have h3:=h.ne
 have h4:=he.rem
 have h5:=he.add
 refine MSpec.toD (R:=fun res bf=>DView bf res (encH (appS m e))) ?_ fun _ _ h=>h
 refine MSpec_of Tryz.func25 rfl rfl (Nat.le_of_ble_eq_true rfl) (Nat.le_of_ble_eq_true rfl) ?_
 intro E hE
 refine AW_seqt ⟨[(2,.loc 2 0),(3,.loc 3 0),(4,.loc 4 0)],[(2,.box 26 (encH m)),(3,.box 36 (encE e)),(4,box0)]⟩ ?_ (by
  intro K hK
  repeat' (first
   |(with_reducible first|refine uK ?_|refine uQ ?_|refine uX ?_|refine jq fun K hK=>?_|refine jb ?_)|(with_reducible refine rS hE ?_;simp [*])|with_reducible refine rL hE ?_|(((with_reducible show RK _ _ _ _ _ _);first|refine jn ?_|refine js fun K' hK'=>?_);simp [*])|with_reducible refine rD mixed hE ?_|((with_reducible show RKQ _ _ _ _ _ _);first|refine RKQ_nilk ⟨by decide,?_⟩|(refine jv fun K' hK'=>?_;simp [*]))|((with_reducible first|refine ji fun X Y hX hY=>?_|refine jr ?_|refine jk ?_|refine jx ?_);simp [*])|with_reducible refine And.intro ?_ ?_|omega|(refine imp1 fun h=>?_))
  all_goals simp)
 refine AW_freeze 2 (cb:=.box 26 (encH m)) (t:=⟨[(2,.ep (encH m)),(3,.loc 3 0),(4,.loc 4 0)],[(3,.box 36 (encE e)),(4,box0)]⟩) (by simp) (by simp) (by simp) ?_
 refine AW_freeze 3 (cb:=.box 36 (encE e)) (t:=⟨[(2,.ep (encH m)),(3,.ep (encE e)),(4,.loc 4 0)],[(4,box0)]⟩) (by simp) (by simp) (by simp) ?_
 refine AW_seqt (asT m e m.first (max m.used e.used) 15 0 m.lists.length m.lists) ?_ (by
  intro K hK
  refine AW_drawHd ⟨[(2,.ep (encH m)),(3,.ep (encE e))],[]⟩ mixed (by simp) fun E' hE'=>?_
  have hEn:=hE'.trans hE
  repeat' (first
   |(with_reducible first|refine useK (by assumption) ?_|refine useK3 (by assumption) ?_)|((with_reducible show DHd _ _ _ _ _ _ _);first|(refine DHd_done (by decide +kernel) ?_;try simp only [thenK,inBlk])|(refine dt hEn 0 fun K' hK'=>?_;simp [*];fail_if_success (with_reducible show False))|(refine dt hEn 1 fun K' hK'=>?_;simp [*];fail_if_success (with_reducible show False))|(refine dt hEn 2 fun K' hK'=>?_;simp [*];fail_if_success (with_reducible show False))|(refine dt hEn 3 fun K' hK'=>?_;simp [*];fail_if_success (with_reducible show False))|(refine dt hEn 4 fun K' hK'=>?_;simp [*];fail_if_success (with_reducible show False))|(refine dt hEn 5 fun K' hK'=>?_;simp [*];fail_if_success (with_reducible show False))|(refine dt hEn 6 fun K' hK'=>?_;simp [*];fail_if_success (with_reducible show False))|(refine dt hEn 7 fun K' hK'=>?_;simp [*];fail_if_success (with_reducible show False))|(refine dt hEn 8 fun K' hK'=>?_;simp [*];fail_if_success (with_reducible show False))|(refine dt hEn 9 fun K' hK'=>?_;simp [*];fail_if_success (with_reducible show False))|(refine dt hEn 10 fun K' hK'=>?_;simp [*];fail_if_success (with_reducible show False))|(refine dt hEn 11 fun K' hK'=>?_;simp [*];fail_if_success (with_reducible show False))|(refine dt hEn 12 fun K' hK'=>?_;simp [*];fail_if_success (with_reducible show False))|(refine dt hEn 13 fun K' hK'=>?_;simp [*];fail_if_success (with_reducible show False))|(refine dp hEn 0 fun K' hK'=>?_;simp [*];fail_if_success (with_reducible show False))|(refine dp hEn 1 fun K' hK'=>?_;simp [*];fail_if_success (with_reducible show False))|(refine dp hEn 2 fun K' hK'=>?_;simp [*];fail_if_success (with_reducible show False))|(refine dp hEn 3 fun K' hK'=>?_;simp [*];fail_if_success (with_reducible show False))|(refine dp hEn 4 fun K' hK'=>?_;simp [*];fail_if_success (with_reducible show False))|(refine dp hEn 5 fun K' hK'=>?_;simp [*];fail_if_success (with_reducible show False))|(refine dp hEn 6 fun K' hK'=>?_;simp [*];fail_if_success (with_reducible show False))|(refine dp hEn 7 fun K' hK'=>?_;simp [*];fail_if_success (with_reducible show False))|(refine dp hEn 8 fun K' hK'=>?_;simp [*];fail_if_success (with_reducible show False))|(refine dp hEn 9 fun K' hK'=>?_;simp [*];fail_if_success (with_reducible show False))|(refine dp hEn 10 fun K' hK'=>?_;simp [*];fail_if_success (with_reducible show False))|(refine dp hEn 11 fun K' hK'=>?_;simp [*];fail_if_success (with_reducible show False))|(refine dp hEn 12 fun K' hK'=>?_;simp [*];fail_if_success (with_reducible show False))|(refine dp hEn 13 fun K' hK'=>?_;simp [*];fail_if_success (with_reducible show False))|refine DHd_any rfl (by decide +kernel) ?_)|exact DHsome_nil|refine DHsome_no (by decide +kernel) ?_|(refine DHsome_yes (by exact rfl) rfl (by rw [hEn];decide) (fun K' hK'=>?_) ?_;simp [*];fail_if_success (with_reducible show False))|(refine DHsome_yesG (by exact rfl) rfl (by exact rfl) (by rw [hEn];decide) (fun K' hK'=>?_) ?_;simp [*];fail_if_success (with_reducible show False))|with_reducible refine And.intro ?_ ?_|omega|(with_reducible refine imp1 fun h=>?_))
  all_goals simp [asT])
 obtain ⟨U,hU⟩ : ∃ U : Nat → Int,∀ i,U i = maxU (max m.used e.used) (e.add.take i):=⟨_,fun _=>rfl⟩
 have u0 : U 0 = max m.used e.used:=by simp [hU,maxU]
 have us : ∀ i (hi : i < e.add.length),U (i + 1) = max (U i) e.add[i].id:=by
  intro i hi
  rw [hU,hU,List.take_succ_eq_append_getElem hi]
  unfold maxU
  rw [List.foldl_append]
  rfl
 have ue : maxU (max m.used e.used) e.add = U e.add.length:=by rw [hU,List.take_length]
 clear hU
 replace us:=Hld.mk us
 refine AW_seqt (asT m e m.first (U e.add.length) 15 0 m.lists.length m.lists) ?_ (by
  intro K hK
  clear ue
  unfold asT
  repeat' (first
   |(with_reducible first|refine uK ?_|refine uQ ?_|refine uX ?_|refine jq fun K hK=>?_|refine jb ?_)|(with_reducible refine rS hE ?_;simp [*])|with_reducible refine rL hE ?_|(((with_reducible show RK _ _ _ _ _ _);first|refine jn ?_|refine js fun K' hK'=>?_);simp [*])|with_reducible refine rD mixed hE ?_|((with_reducible show RKQ _ _ _ _ _ _);first|refine RKQ_nilk ⟨by decide,?_⟩|(refine jv fun K' hK'=>?_;simp [*]))|((with_reducible first|refine ji fun X Y hX hY=>?_|refine jr ?_|refine jk ?_|refine jx ?_);simp [*])|with_reducible refine And.intro ?_ ?_|omega|(refine imp1 fun h=>?_))
  refine AW_loopk (G:=Nat) (fun i=>⟨[(6,iA i),(5,.loc 5 0),(2,.ep (encH m)),(3,.ep (encE e)),(4,.loc 4 0)],[(5,boxO m.first (U i) 15 0 m.lists.length),(15,rowO m.lists),(4,box0)]⟩)
   (fun i=>i ≤ e.add.length) (fun i=>e.add.length - i) 0 (by omega) (by simp [u0]) ?_
  intro i hi K2 hK2
  clear u0
  by_cases hlt : i < e.add.length
  ·have hus:=us.out i hlt
   refine AW_seqt ⟨[(6,iA i),(5,.loc 5 0),(2,.ep (encH m)),(3,.ep (encE e)),(4,.loc 4 0)],[(5,boxO m.first (U i) 15 0 m.lists.length),(15,rowO m.lists),(4,box0)]⟩ ?_ (by
    intro K3 hK3
    clear hus
    repeat' (first
     |(with_reducible first|refine uK ?_|refine uQ ?_|refine uX ?_|refine jq fun K hK=>?_|refine jb ?_)|(with_reducible refine rS hE ?_;simp [*])|with_reducible refine rL hE ?_|(((with_reducible show RK _ _ _ _ _ _);first|refine jn ?_|refine js fun K' hK'=>?_);simp [*])|with_reducible refine rD mixed hE ?_|((with_reducible show RKQ _ _ _ _ _ _);first|refine RKQ_nilk ⟨by decide,?_⟩|(refine jv fun K' hK'=>?_;simp [*]))|((with_reducible first|refine ji fun X Y hX hY=>?_|refine jr ?_|refine jk ?_|refine jx ?_);simp [*])|with_reducible refine And.intro ?_ ?_|omega|(refine imp1 fun h=>?_))
    all_goals simp)
   refine AW_seqt ⟨[(6,iA i),(5,.loc 5 0),(2,.ep (encH m)),(3,.ep (encE e)),(4,.loc 4 0)],[(5,boxO m.first (U (i + 1)) 15 0 m.lists.length),(15,rowO m.lists),(4,box0)]⟩ ?_ ?_
   ·clear hus
    repeat' (first
     |(with_reducible first|refine uK ?_|refine uQ ?_|refine uX ?_|refine jq fun K hK=>?_|refine jb ?_)|(with_reducible refine rS hE ?_;simp [*])|with_reducible refine rL hE ?_|(((with_reducible show RK _ _ _ _ _ _);first|refine jn ?_|refine js fun K' hK'=>?_);simp [*])|with_reducible refine rD mixed hE ?_|((with_reducible show RKQ _ _ _ _ _ _);first|refine RKQ_nilk ⟨by decide,?_⟩|(refine jv fun K' hK'=>?_;simp [*]))|((with_reducible first|refine ji fun X Y hX hY=>?_|refine jr ?_|refine jk ?_|refine jx ?_);simp [*])|with_reducible refine And.intro ?_ ?_|omega|(refine imp1 fun h=>?_))
    all_goals exact ⟨i + 1,by omega,by omega,by simp⟩
   ·intro K3 hK3
    refine AW_block ?_
    rw [hus] at hK3
    clear hus
    refine AW_drawHd ⟨[(3,.ep (encE e)),(6,iA i)],[]⟩ mixed (by simp) fun E' hE'=>?_
    have hEn:=hE'.trans hE
    repeat' (first
     |(with_reducible first|refine useK (by assumption) ?_|refine useK3 (by assumption) ?_)|((with_reducible show DHd _ _ _ _ _ _ _);first|(refine DHd_done (by decide +kernel) ?_;try simp only [thenK,inBlk])|(refine dt hEn 0 fun K' hK'=>?_;simp [*];fail_if_success (with_reducible show False))|(refine dt hEn 1 fun K' hK'=>?_;simp [*];fail_if_success (with_reducible show False))|(refine dt hEn 2 fun K' hK'=>?_;simp [*];fail_if_success (with_reducible show False))|(refine dt hEn 3 fun K' hK'=>?_;simp [*];fail_if_success (with_reducible show False))|(refine dt hEn 4 fun K' hK'=>?_;simp [*];fail_if_success (with_reducible show False))|(refine dt hEn 5 fun K' hK'=>?_;simp [*];fail_if_success (with_reducible show False))|(refine dt hEn 6 fun K' hK'=>?_;simp [*];fail_if_success (with_reducible show False))|(refine dt hEn 7 fun K' hK'=>?_;simp [*];fail_if_success (with_reducible show False))|(refine dt hEn 8 fun K' hK'=>?_;simp [*];fail_if_success (with_reducible show False))|(refine dt hEn 9 fun K' hK'=>?_;simp [*];fail_if_success (with_reducible show False))|(refine dt hEn 10 fun K' hK'=>?_;simp [*];fail_if_success (with_reducible show False))|(refine dp hEn 0 fun K' hK'=>?_;simp [*];fail_if_success (with_reducible show False))|(refine dp hEn 1 fun K' hK'=>?_;simp [*];fail_if_success (with_reducible show False))|(refine dp hEn 2 fun K' hK'=>?_;simp [*];fail_if_success (with_reducible show False))|(refine dp hEn 3 fun K' hK'=>?_;simp [*];fail_if_success (with_reducible show False))|(refine dp hEn 4 fun K' hK'=>?_;simp [*];fail_if_success (with_reducible show False))|(refine dp hEn 5 fun K' hK'=>?_;simp [*];fail_if_success (with_reducible show False))|(refine dp hEn 6 fun K' hK'=>?_;simp [*];fail_if_success (with_reducible show False))|(refine dp hEn 7 fun K' hK'=>?_;simp [*];fail_if_success (with_reducible show False))|(refine dp hEn 8 fun K' hK'=>?_;simp [*];fail_if_success (with_reducible show False))|(refine dp hEn 9 fun K' hK'=>?_;simp [*];fail_if_success (with_reducible show False))|(refine dp hEn 10 fun K' hK'=>?_;simp [*];fail_if_success (with_reducible show False))|refine DHd_any rfl (by decide +kernel) ?_)|exact DHsome_nil|refine DHsome_no (by decide +kernel) ?_|(refine DHsome_yes (by exact rfl) rfl (by rw [hEn];decide) (fun K' hK'=>?_) ?_;simp [*];fail_if_success (with_reducible show False))|(refine DHsome_yesG (by exact rfl) rfl (by exact rfl) (by rw [hEn];decide) (fun K' hK'=>?_) ?_;simp [*];fail_if_success (with_reducible show False))|with_reducible refine And.intro ?_ ?_|omega|(with_reducible refine imp1 fun h=>?_))
    all_goals simp
  ·have hil : i = e.add.length:=by omega
   subst hil
   repeat' (first
    |(with_reducible first|refine uK ?_|refine uQ ?_|refine uX ?_|refine jq fun K hK=>?_|refine jb ?_)|(with_reducible refine rS hE ?_;simp [*])|with_reducible refine rL hE ?_|(((with_reducible show RK _ _ _ _ _ _);first|refine jn ?_|refine js fun K' hK'=>?_);simp [*])|with_reducible refine rD mixed hE ?_|((with_reducible show RKQ _ _ _ _ _ _);first|refine RKQ_nilk ⟨by decide,?_⟩|(refine jv fun K' hK'=>?_;simp [*]))|((with_reducible first|refine ji fun X Y hX hY=>?_|refine jr ?_|refine jk ?_|refine jx ?_);simp [*])|with_reducible refine And.intro ?_ ?_|omega|(refine imp1 fun h=>?_))
   all_goals simp [asT])
 clear u0
 generalize U e.add.length = UA at *
 clear us
 unfold appS
 rw [ue]
 clear ue
 obtain ⟨k,b,u,rem,add⟩:=e
 simp only at *
 rcases hk with hk|hk|hk|hk <;> simp only at hk <;> subst hk
 ·have hw:=s_wchanged (lastL m) rem add h.last.2 (by omega) (by omega)
  have hle:=lastL_eq h3
  have hle' : m.lists[m.lists.length - 1]? = some (lastL m):=by rw [hle,List.getElem?_eq_getElem]
  simp only [Int.reduceEq,or_self,if_false,if_true]
  generalize chgS (lastL m) rem add = C at *
  generalize lastL m = L at *
  clear hle
  replace hw:=Hld.mk hw
  refine AW_seqt (asT m ⟨1,b,u,rem,add⟩ m.first UA 15 0 (m.lists.length + 1) (m.lists ++ [C])) ?_ ?_
  ·unfold asT
   have htk : List.take (m.lists.length + 1) (List.map segL m.lists ++ [segL C]) = List.map segL m.lists ++ [segL C]:=List.take_of_length_le (by simp)
   repeat' (first
    |(with_reducible first|refine uK ?_|refine uQ ?_|refine uX ?_|refine jq fun K hK=>?_|refine jb ?_)|(with_reducible refine rS hE ?_;simp [*])|with_reducible refine rL hE ?_|(((with_reducible show RK _ _ _ _ _ _);first|refine jn ?_|refine js fun K' hK'=>?_);simp [*])|with_reducible refine rD mixed hE ?_|((with_reducible show RKQ _ _ _ _ _ _);first|refine RKQ_nilk ⟨by decide,?_⟩|(refine jv fun K' hK'=>?_;simp [*]))|((with_reducible first|refine ji fun X Y hX hY=>?_|refine jr ?_|refine jk ?_|refine jx ?_);simp [*])|with_reducible refine And.intro ?_ ?_|omega|(refine imp1 fun h=>?_))
   all_goals exact DView.stL (by simp) ⟨.base (by simp),.base (by simp),.base (by simp [htk]),trivial⟩
  ·intro K hK
   unfold asT at *
   refine AW_seqt ⟨[(38,iA 1),(5,.loc 5 0),(2,.ep (encH m)),(3,.ep (encE ⟨1,b,u,rem,add⟩)),(4,.loc 4 0)],[(5,boxO m.first UA 15 0 m.lists.length),(15,rowO m.lists),(4,box0)]⟩ ?_ (by
    intro K3 hK3
    repeat' (first
     |(with_reducible first|refine uK ?_|refine uQ ?_|refine uX ?_|refine jq fun K hK=>?_|refine jb ?_)|(with_reducible refine rS hE ?_;simp [*])|with_reducible refine rL hE ?_|(((with_reducible show RK _ _ _ _ _ _);first|refine jn ?_|refine js fun K' hK'=>?_);simp [*])|with_reducible refine rD mixed hE ?_|((with_reducible show RKQ _ _ _ _ _ _);first|refine RKQ_nilk ⟨by decide,?_⟩|(refine jv fun K' hK'=>?_;simp [*]))|((with_reducible first|refine ji fun X Y hX hY=>?_|refine jr ?_|refine jk ?_|refine jx ?_);simp [*])|with_reducible refine And.intro ?_ ?_|omega|(refine imp1 fun h=>?_))
    all_goals simp)
   refine AW_block ?_
   refine AW_seqt ⟨[(39,bA true),(5,.loc 5 0),(2,.ep (encH m)),(3,.ep (encE ⟨1,b,u,rem,add⟩)),(4,.loc 4 0)],[(5,boxO m.first UA 15 0 m.lists.length),(15,rowO m.lists),(4,box0)]⟩ ?_ (by
    intro K3 hK3
    repeat' (first
     |(with_reducible first|refine uK ?_|refine uQ ?_|refine uX ?_|refine jq fun K hK=>?_|refine jb ?_)|(with_reducible refine rS hE ?_;simp [*])|with_reducible refine rL hE ?_|(((with_reducible show RK _ _ _ _ _ _);first|refine jn ?_|refine js fun K' hK'=>?_);simp [*])|with_reducible refine rD mixed hE ?_|((with_reducible show RKQ _ _ _ _ _ _);first|refine RKQ_nilk ⟨by decide,?_⟩|(refine jv fun K' hK'=>?_;simp [*]))|((with_reducible first|refine ji fun X Y hX hY=>?_|refine jr ?_|refine jk ?_|refine jx ?_);simp [*])|with_reducible refine And.intro ?_ ?_|omega|(refine imp1 fun h=>?_))
    all_goals simp)
   refine AW_if fun X Y hX hY=>?_
   simp
   refine hX.h ?_
   refine AW_drawHd ⟨[(2,.ep (encH m)),(3,.ep (encE ⟨1,b,u,rem,add⟩))],[]⟩ mixed (by simp) fun E' hE'=>?_
   have hEn:=hE'.trans hE
   repeat' (first
    |(with_reducible first|refine useK (by assumption) ?_|refine useK3 (by assumption) ?_)|((with_reducible show DHd _ _ _ _ _ _ _);first|(refine DHd_done (by decide +kernel) ?_;try simp only [thenK,inBlk])|(refine dt hEn 0 fun K' hK'=>?_;simp [*];fail_if_success (with_reducible show False))|(refine dt hEn 1 fun K' hK'=>?_;simp [*];fail_if_success (with_reducible show False))|(refine dt hEn 2 fun K' hK'=>?_;simp [*];fail_if_success (with_reducible show False))|(refine dt hEn 3 fun K' hK'=>?_;simp [*];fail_if_success (with_reducible show False))|(refine dt hEn 4 fun K' hK'=>?_;simp [*];fail_if_success (with_reducible show False))|(refine dt hEn 5 fun K' hK'=>?_;simp [*];fail_if_success (with_reducible show False))|(refine dt hEn 6 fun K' hK'=>?_;simp [*];fail_if_success (with_reducible show False))|(refine dt hEn 7 fun K' hK'=>?_;simp [*];fail_if_success (with_reducible show False))|(refine dt hEn 8 fun K' hK'=>?_;simp [*];fail_if_success (with_reducible show False))|(refine dt hEn 9 fun K' hK'=>?_;simp [*];fail_if_success (with_reducible show False))|(refine dt hEn 10 fun K' hK'=>?_;simp [*];fail_if_success (with_reducible show False))|(refine dt hEn 11 fun K' hK'=>?_;simp [*];fail_if_success (with_reducible show False))|(refine dt hEn 12 fun K' hK'=>?_;simp [*];fail_if_success (with_reducible show False))|(refine dt hEn 13 fun K' hK'=>?_;simp [*];fail_if_success (with_reducible show False))|(refine dt hEn 14 fun K' hK'=>?_;simp [*];fail_if_success (with_reducible show False))|(refine dt hEn 15 fun K' hK'=>?_;simp [*];fail_if_success (with_reducible show False))|(refine dt hEn 16 fun K' hK'=>?_;simp [*];fail_if_success (with_reducible show False))|(refine dt hEn 17 fun K' hK'=>?_;simp [*];fail_if_success (with_reducible show False))|(refine dt hEn 18 fun K' hK'=>?_;simp [*];fail_if_success (with_reducible show False))|(refine dp hEn 0 fun K' hK'=>?_;simp [*];fail_if_success (with_reducible show False))|(refine dp hEn 1 fun K' hK'=>?_;simp [*];fail_if_success (with_reducible show False))|(refine dp hEn 2 fun K' hK'=>?_;simp [*];fail_if_success (with_reducible show False))|(refine dp hEn 3 fun K' hK'=>?_;simp [*];fail_if_success (with_reducible show False))|(refine dp hEn 4 fun K' hK'=>?_;simp [*];fail_if_success (with_reducible show False))|(refine dp hEn 5 fun K' hK'=>?_;simp [*];fail_if_success (with_reducible show False))|(refine dp hEn 6 fun K' hK'=>?_;simp [*];fail_if_success (with_reducible show False))|(refine dp hEn 7 fun K' hK'=>?_;simp [*];fail_if_success (with_reducible show False))|(refine dp hEn 8 fun K' hK'=>?_;simp [*];fail_if_success (with_reducible show False))|(refine dp hEn 9 fun K' hK'=>?_;simp [*];fail_if_success (with_reducible show False))|(refine dp hEn 10 fun K' hK'=>?_;simp [*];fail_if_success (with_reducible show False))|(refine dp hEn 11 fun K' hK'=>?_;simp [*];fail_if_success (with_reducible show False))|(refine dp hEn 12 fun K' hK'=>?_;simp [*];fail_if_success (with_reducible show False))|(refine dp hEn 13 fun K' hK'=>?_;simp [*];fail_if_success (with_reducible show False))|(refine dp hEn 14 fun K' hK'=>?_;simp [*];fail_if_success (with_reducible show False))|(refine dp hEn 15 fun K' hK'=>?_;simp [*];fail_if_success (with_reducible show False))|(refine dp hEn 16 fun K' hK'=>?_;simp [*];fail_if_success (with_reducible show False))|(refine dp hEn 17 fun K' hK'=>?_;simp [*];fail_if_success (with_reducible show False))|(refine dp hEn 18 fun K' hK'=>?_;simp [*];fail_if_success (with_reducible show False))|refine DHd_any rfl (by decide +kernel) ?_)|exact DHsome_nil|refine DHsome_no (by decide +kernel) ?_|(refine DHsome_yes (by exact rfl) rfl (by rw [hEn];decide) (fun K' hK'=>?_) ?_;simp [*];fail_if_success (with_reducible show False))|(refine DHsome_yesG (by exact rfl) rfl (by exact rfl) (by rw [hEn];decide) (fun K' hK'=>?_) ?_;simp [*];fail_if_success (with_reducible show False))|(refine acall_same (hw.out) ?_ ?_ ?_;(focus (simp [*] <;> fail));(focus (simp [*] <;> fail));simp [*])|(refine acall_view (hw.out) ?_ ?_ ?_;(focus (simp [*] <;> fail));(focus (simp [*] <;> fail));simp [*])|with_reducible refine And.intro ?_ ?_|omega|(with_reducible refine imp1 fun h=>?_))
   all_goals simp
 ·obtain ⟨F,hF⟩ : ∃ F : Nat → List (List Seg),∀ i,F i = ((m.lists.take i).map fun l=>if hasAllB l rem then chgS l rem add else l) ++ m.lists.drop i:=⟨_,fun _=>rfl⟩
  have f0 : F 0 = m.lists:=by simp [hF]
  have fe : F m.lists.length = m.lists.map fun l=>if hasAllB l rem then chgS l rem add else l:=by simp [hF]
  have fl : ∀ i,i ≤ m.lists.length → (F i).length = m.lists.length:=by
   intro i hi
   rw [hF];simp;omega
  have fg : ∀ i (hi : i < m.lists.length),(F i)[i]? = some m.lists[i]:=by
   intro i hi
   rw [hF,List.getElem?_append_right (by simp;omega)]
   simp
   rw [show min i m.lists.length = i by omega]
   simp [hi]
  have fs : ∀ i (hi : i < m.lists.length),F (i + 1) = (F i).set i (if hasAllB m.lists[i] rem then chgS m.lists[i] rem add else m.lists[i]):=by
   intro i hi
   rw [hF,hF,List.set_append_right _ _ (by simp;omega),List.take_succ_eq_append_getElem hi,List.drop_eq_getElem_cons hi]
   have h0 : i - min i m.lists.length = 0:=by omega
   simp only [List.map_append,List.map_cons,List.map_nil,List.length_map,List.length_take,h0,List.set_cons_zero,List.append_assoc,List.cons_append,List.nil_append]
  have fk : ∀ i (hi : i < m.lists.length),(F i).set i m.lists[i] = F i:=by
   intro i hi
   have:=fg i hi
   obtain ⟨h4,h5⟩:=List.getElem?_eq_some_iff.1 this
   rw [← h5];exact List.set_getElem_self h4
  simp only [Int.reduceEq,or_self,if_false,if_true]
  rw [← fe]
  clear hF fe
  have hFl:=fl m.lists.length (Nat.le_refl _)
  have hch:=fun l (hl : l ∈ m.lists)=>s_wchanged l rem add (h.srt l hl).2 (by omega) (by omega)
  have hha:=fun l (hl : l ∈ m.lists)=>s_whasAll l rem (by have:=(h.srt l hl).2;omega) (by omega)
  replace hch:=Hld.mk hch
  replace hha:=Hld.mk hha
  replace fl:=Hld.mk fl
  replace fg:=Hld.mk fg
  replace fs:=Hld.mk fs
  replace fk:=Hld.mk fk
  refine AW_seqt (asT m ⟨2,b,u,rem,add⟩ m.first UA 15 0 m.lists.length (F m.lists.length)) ?_ ?_
  ·unfold asT
   clear f0 fl fg fs fk
   generalize F m.lists.length = FL at *
   have htk : List.take m.lists.length (List.map segL FL) = List.map segL FL:=List.take_of_length_le (by simp [hFl])
   repeat' (first
    |(with_reducible first|refine uK ?_|refine uQ ?_|refine uX ?_|refine jq fun K hK=>?_|refine jb ?_)|(with_reducible refine rS hE ?_;simp [*])|with_reducible refine rL hE ?_|(((with_reducible show RK _ _ _ _ _ _);first|refine jn ?_|refine js fun K' hK'=>?_);simp [*])|with_reducible refine rD mixed hE ?_|((with_reducible show RKQ _ _ _ _ _ _);first|refine RKQ_nilk ⟨by decide,?_⟩|(refine jv fun K' hK'=>?_;simp [*]))|((with_reducible first|refine ji fun X Y hX hY=>?_|refine jr ?_|refine jk ?_|refine jx ?_);simp [*])|with_reducible refine And.intro ?_ ?_|omega|(refine imp1 fun h=>?_))
   all_goals exact DView.stL (by simp) ⟨.base (by simp),.base (by simp),.base (by simp [htk,hFl]),trivial⟩
  ·intro K hK
   unfold asT at *
   clear hFl
   repeat' (first
    |(with_reducible first|refine uK ?_|refine uQ ?_|refine uX ?_|refine jq fun K hK=>?_|refine jb ?_)|(with_reducible refine rS hE ?_;simp [*])|with_reducible refine rL hE ?_|(((with_reducible show RK _ _ _ _ _ _);first|refine jn ?_|refine js fun K' hK'=>?_);simp [*])|with_reducible refine rD mixed hE ?_|((with_reducible show RKQ _ _ _ _ _ _);first|refine RKQ_nilk ⟨by decide,?_⟩|(refine jv fun K' hK'=>?_;simp [*]))|((with_reducible first|refine ji fun X Y hX hY=>?_|refine jr ?_|refine jk ?_|refine jx ?_);simp [*])|with_reducible refine And.intro ?_ ?_|omega|(refine imp1 fun h=>?_))
   refine AW_loopk (G:=Nat) (fun i=>⟨[(7,iA i),(5,.loc 5 0),(2,.ep (encH m)),(3,.ep (encE ⟨2,b,u,rem,add⟩)),(4,.loc 4 0)],[(5,boxO m.first UA 15 0 m.lists.length),(15,rowO (F i)),(4,box0)]⟩)
    (fun i=>i ≤ m.lists.length) (fun i=>m.lists.length - i) 0 (by omega) (by simp [f0]) ?_
   intro i hi K1 hK1
   clear f0
   have hli:=fl.out i hi
   by_cases hlt : i < m.lists.length
   ·have hg:=fg.out i hlt
    have h7:=Hld.mk (hha.out m.lists[i] (List.getElem_mem hlt))
    have h8:=Hld.mk (hch.out m.lists[i] (List.getElem_mem hlt))
    have h9:=fs.out i hlt
    have h6:=fk.out i hlt
    have hgi : ∀ h : i < (F i).length,(F i)[i] = m.lists[i]:=fun h=>(List.getElem?_eq_some_iff.1 hg).2
    generalize m.lists[i] = L at *
    refine AW_seqt ⟨[(7,iA i),(5,.loc 5 0),(2,.ep (encH m)),(3,.ep (encE ⟨2,b,u,rem,add⟩)),(4,.loc 4 0)],[(5,boxO m.first UA 15 0 m.lists.length),(15,rowO (F i)),(4,box0)]⟩ ?_ (by
     intro K3 hK3
     repeat' (first
      |(with_reducible first|refine uK ?_|refine uQ ?_|refine uX ?_|refine jq fun K hK=>?_|refine jb ?_)|(with_reducible refine rS hE ?_;simp [*])|with_reducible refine rL hE ?_|(((with_reducible show RK _ _ _ _ _ _);first|refine jn ?_|refine js fun K' hK'=>?_);simp [*])|with_reducible refine rD mixed hE ?_|((with_reducible show RKQ _ _ _ _ _ _);first|refine RKQ_nilk ⟨by decide,?_⟩|(refine jv fun K' hK'=>?_;simp [*]))|((with_reducible first|refine ji fun X Y hX hY=>?_|refine jr ?_|refine jk ?_|refine jx ?_);simp [*])|with_reducible refine And.intro ?_ ?_|omega|(refine imp1 fun h=>?_))
     all_goals simp)
    refine AW_seqt ⟨[(7,iA i),(5,.loc 5 0),(2,.ep (encH m)),(3,.ep (encE ⟨2,b,u,rem,add⟩)),(4,.loc 4 0)],[(5,boxO m.first UA 15 0 m.lists.length),(15,rowO (F (i + 1))),(4,box0)]⟩ ?_ ?_
    ·clear h9
     repeat' (first
      |(with_reducible first|refine uK ?_|refine uQ ?_|refine uX ?_|refine jq fun K hK=>?_|refine jb ?_)|(with_reducible refine rS hE ?_;simp [*])|with_reducible refine rL hE ?_|(((with_reducible show RK _ _ _ _ _ _);first|refine jn ?_|refine js fun K' hK'=>?_);simp [*])|with_reducible refine rD mixed hE ?_|((with_reducible show RKQ _ _ _ _ _ _);first|refine RKQ_nilk ⟨by decide,?_⟩|(refine jv fun K' hK'=>?_;simp [*]))|((with_reducible first|refine ji fun X Y hX hY=>?_|refine jr ?_|refine jk ?_|refine jx ?_);simp [*])|with_reducible refine And.intro ?_ ?_|omega|(refine imp1 fun h=>?_))
     all_goals exact ⟨i + 1,by omega,by omega,by simp⟩
    ·intro K3 hK3
     refine AW_block ?_
     rcases hha2 : hasAllB L rem with _|_
     ·rw [hha2] at h9 h7
      simp only [Bool.false_eq_true,if_false] at h9
      rw [h6] at h9
      rw [h9] at hK3
      clear h6 h9
      repeat' (first
       |(with_reducible first|refine uK ?_|refine uQ ?_|refine uX ?_|refine jq fun K hK=>?_|refine jb ?_)|(with_reducible refine rS hE ?_;simp [*])|with_reducible refine rL hE ?_|(((with_reducible show RK _ _ _ _ _ _);first|refine jn ?_|refine js fun K' hK'=>?_);simp [*])|with_reducible refine rD mixed hE ?_|((with_reducible show RKQ _ _ _ _ _ _);first|refine RKQ_nilk ⟨by decide,?_⟩|(refine jv fun K' hK'=>?_;simp [*]))|((with_reducible first|refine ji fun X Y hX hY=>?_|refine jr ?_|refine jk ?_|refine jx ?_);simp [*])|((first|refine jC (h7.out) ?_ ?_ ?_|refine jQ (h7.out) ?_ ?_ ?_);(iterate 2 focus (simp [*] <;> fail));simp [*])|with_reducible refine And.intro ?_ ?_|omega|(refine imp1 fun h=>?_))
      all_goals simp
     ·rw [hha2] at h9 h7
      simp only [if_true] at h9
      rw [h9] at hK3
      clear h6 h9
      generalize chgS L rem add = C at *
      refine AW_seqt ⟨[(75,bA true),(7,iA i),(5,.loc 5 0),(2,.ep (encH m)),(3,.ep (encE ⟨2,b,u,rem,add⟩)),(4,.loc 4 0)],[(5,boxO m.first UA 15 0 m.lists.length),(15,rowO (F i)),(4,box0)]⟩ ?_ (by
       intro K4 hK4
       repeat' (first
        |(with_reducible first|refine uK ?_|refine uQ ?_|refine uX ?_|refine jq fun K hK=>?_|refine jb ?_)|(with_reducible refine rS hE ?_;simp [*])|with_reducible refine rL hE ?_|(((with_reducible show RK _ _ _ _ _ _);first|refine jn ?_|refine js fun K' hK'=>?_);simp [*])|with_reducible refine rD mixed hE ?_|((with_reducible show RKQ _ _ _ _ _ _);first|refine RKQ_nilk ⟨by decide,?_⟩|(refine jv fun K' hK'=>?_;simp [*]))|((with_reducible first|refine ji fun X Y hX hY=>?_|refine jr ?_|refine jk ?_|refine jx ?_);simp [*])|((first|refine jC (h7.out) ?_ ?_ ?_|refine jQ (h7.out) ?_ ?_ ?_);(iterate 2 focus (simp [*] <;> fail));simp [*])|with_reducible refine And.intro ?_ ?_|omega|(refine imp1 fun h=>?_))
       all_goals simp)
      refine AW_if fun X Y hX hY=>?_
      simp
      refine hX.h ?_
      refine AW_drawHd ⟨[(2,.ep (encH m)),(3,.ep (encE ⟨2,b,u,rem,add⟩)),(7,iA i)],[]⟩ mixed (by simp) fun E' hE'=>?_
      have hEn:=hE'.trans hE
      repeat' (first
       |(with_reducible first|refine useK (by assumption) ?_|refine useK3 (by assumption) ?_)|((with_reducible show DHd _ _ _ _ _ _ _);first|(refine DHd_done (by decide +kernel) ?_;try simp only [thenK,inBlk])|(refine dt hEn 0 fun K' hK'=>?_;simp [*];fail_if_success (with_reducible show False))|(refine dt hEn 1 fun K' hK'=>?_;simp [*];fail_if_success (with_reducible show False))|(refine dt hEn 2 fun K' hK'=>?_;simp [*];fail_if_success (with_reducible show False))|(refine dt hEn 3 fun K' hK'=>?_;simp [*];fail_if_success (with_reducible show False))|(refine dt hEn 4 fun K' hK'=>?_;simp [*];fail_if_success (with_reducible show False))|(refine dt hEn 5 fun K' hK'=>?_;simp [*];fail_if_success (with_reducible show False))|(refine dt hEn 6 fun K' hK'=>?_;simp [*];fail_if_success (with_reducible show False))|(refine dt hEn 7 fun K' hK'=>?_;simp [*];fail_if_success (with_reducible show False))|(refine dt hEn 8 fun K' hK'=>?_;simp [*];fail_if_success (with_reducible show False))|(refine dt hEn 9 fun K' hK'=>?_;simp [*];fail_if_success (with_reducible show False))|(refine dt hEn 10 fun K' hK'=>?_;simp [*];fail_if_success (with_reducible show False))|(refine dt hEn 11 fun K' hK'=>?_;simp [*];fail_if_success (with_reducible show False))|(refine dt hEn 12 fun K' hK'=>?_;simp [*];fail_if_success (with_reducible show False))|(refine dt hEn 13 fun K' hK'=>?_;simp [*];fail_if_success (with_reducible show False))|(refine dt hEn 14 fun K' hK'=>?_;simp [*];fail_if_success (with_reducible show False))|(refine dp hEn 0 fun K' hK'=>?_;simp [*];fail_if_success (with_reducible show False))|(refine dp hEn 1 fun K' hK'=>?_;simp [*];fail_if_success (with_reducible show False))|(refine dp hEn 2 fun K' hK'=>?_;simp [*];fail_if_success (with_reducible show False))|(refine dp hEn 3 fun K' hK'=>?_;simp [*];fail_if_success (with_reducible show False))|(refine dp hEn 4 fun K' hK'=>?_;simp [*];fail_if_success (with_reducible show False))|(refine dp hEn 5 fun K' hK'=>?_;simp [*];fail_if_success (with_reducible show False))|(refine dp hEn 6 fun K' hK'=>?_;simp [*];fail_if_success (with_reducible show False))|(refine dp hEn 7 fun K' hK'=>?_;simp [*];fail_if_success (with_reducible show False))|(refine dp hEn 8 fun K' hK'=>?_;simp [*];fail_if_success (with_reducible show False))|(refine dp hEn 9 fun K' hK'=>?_;simp [*];fail_if_success (with_reducible show False))|(refine dp hEn 10 fun K' hK'=>?_;simp [*];fail_if_success (with_reducible show False))|(refine dp hEn 11 fun K' hK'=>?_;simp [*];fail_if_success (with_reducible show False))|(refine dp hEn 12 fun K' hK'=>?_;simp [*];fail_if_success (with_reducible show False))|(refine dp hEn 13 fun K' hK'=>?_;simp [*];fail_if_success (with_reducible show False))|(refine dp hEn 14 fun K' hK'=>?_;simp [*];fail_if_success (with_reducible show False))|refine DHd_any rfl (by decide +kernel) ?_)|exact DHsome_nil|refine DHsome_no (by decide +kernel) ?_|(refine DHsome_yes (by exact rfl) rfl (by rw [hEn];decide) (fun K' hK'=>?_) ?_;simp [*];fail_if_success (with_reducible show False))|(refine DHsome_yesG (by exact rfl) rfl (by exact rfl) (by rw [hEn];decide) (fun K' hK'=>?_) ?_;simp [*];fail_if_success (with_reducible show False))|(refine acall_same (h8.out) ?_ ?_ ?_;(focus (simp [*] <;> fail));(focus (simp [*] <;> fail));simp [*])|(refine acall_view (h8.out) ?_ ?_ ?_;(focus (simp [*] <;> fail));(focus (simp [*] <;> fail));simp [*])|with_reducible refine And.intro ?_ ?_|omega|(with_reducible refine imp1 fun h=>?_))
      all_goals simp [List.map_set]
   ·have hil : i = m.lists.length:=by omega
    subst hil
    repeat' (first
     |(with_reducible first|refine uK ?_|refine uQ ?_|refine uX ?_|refine jq fun K hK=>?_|refine jb ?_)|(with_reducible refine rS hE ?_;simp [*])|with_reducible refine rL hE ?_|(((with_reducible show RK _ _ _ _ _ _);first|refine jn ?_|refine js fun K' hK'=>?_);simp [*])|with_reducible refine rD mixed hE ?_|((with_reducible show RKQ _ _ _ _ _ _);first|refine RKQ_nilk ⟨by decide,?_⟩|(refine jv fun K' hK'=>?_;simp [*]))|((with_reducible first|refine ji fun X Y hX hY=>?_|refine jr ?_|refine jk ?_|refine jx ?_);simp [*])|with_reducible refine And.intro ?_ ?_|omega|(refine imp1 fun h=>?_))
    all_goals simp
 ·have hb3 : m.first ≤ b ∧ b ≤ lastB m:=by simpa [inB] using hb rfl
  unfold lastB at hb3
  obtain ⟨j,hsub⟩ : ∃ j : Nat,b - m.first = (j : Int):=⟨(b - m.first).toNat,by omega⟩
  have hjl : j < m.lists.length:=by omega
  simp only [Int.reduceEq,true_or,if_false,if_true,hsub,Int.toNat_natCast]
  have htk : List.take (m.lists.length - j) ((List.map segL m.lists).drop j) = (List.map segL m.lists).drop j:=List.take_of_length_le (by simp)
  refine AW_seqt (asT m ⟨3,b,u,rem,add⟩ b UA 15 j (m.lists.length - j) m.lists) ?_ ?_
  ·unfold asT
   repeat' (first
    |(with_reducible first|refine uK ?_|refine uQ ?_|refine uX ?_|refine jq fun K hK=>?_|refine jb ?_)|(with_reducible refine rS hE ?_;simp [*])|with_reducible refine rL hE ?_|(((with_reducible show RK _ _ _ _ _ _);first|refine jn ?_|refine js fun K' hK'=>?_);simp [*])|with_reducible refine rD mixed hE ?_|((with_reducible show RKQ _ _ _ _ _ _);first|refine RKQ_nilk ⟨by decide,?_⟩|(refine jv fun K' hK'=>?_;simp [*]))|((with_reducible first|refine ji fun X Y hX hY=>?_|refine jr ?_|refine jk ?_|refine jx ?_);simp [*])|with_reducible refine And.intro ?_ ?_|omega|(refine imp1 fun h=>?_))
   all_goals exact DView.stL (by simp) ⟨.base (by simp),.base (by simp),.base (by simp [htk];exact ⟨by omega,by rw [← List.map_drop];exact idf_L _⟩),trivial⟩
  ·intro K hK
   unfold asT at *
   refine AW_seqt ⟨[(38,iA 3),(5,.loc 5 0),(2,.ep (encH m)),(3,.ep (encE ⟨3,b,u,rem,add⟩)),(4,.loc 4 0)],[(5,boxO m.first UA 15 0 m.lists.length),(15,rowO m.lists),(4,box0)]⟩ ?_ (by
    intro K3 hK3
    repeat' (first
     |(with_reducible first|refine uK ?_|refine uQ ?_|refine uX ?_|refine jq fun K hK=>?_|refine jb ?_)|(with_reducible refine rS hE ?_;simp [*])|with_reducible refine rL hE ?_|(((with_reducible show RK _ _ _ _ _ _);first|refine jn ?_|refine js fun K' hK'=>?_);simp [*])|with_reducible refine rD mixed hE ?_|((with_reducible show RKQ _ _ _ _ _ _);first|refine RKQ_nilk ⟨by decide,?_⟩|(refine jv fun K' hK'=>?_;simp [*]))|((with_reducible first|refine ji fun X Y hX hY=>?_|refine jr ?_|refine jk ?_|refine jx ?_);simp [*])|with_reducible refine And.intro ?_ ?_|omega|(refine imp1 fun h=>?_))
    all_goals simp)
   refine AW_block ?_
   refine AW_seqt ⟨[(38,iA 3),(39,bA false),(5,.loc 5 0),(2,.ep (encH m)),(3,.ep (encE ⟨3,b,u,rem,add⟩)),(4,.loc 4 0)],[(5,boxO m.first UA 15 0 m.lists.length),(15,rowO m.lists),(4,box0)]⟩ ?_ (by
    intro K3 hK3
    repeat' (first
     |(with_reducible first|refine uK ?_|refine uQ ?_|refine uX ?_|refine jq fun K hK=>?_|refine jb ?_)|(with_reducible refine rS hE ?_;simp [*])|with_reducible refine rL hE ?_|(((with_reducible show RK _ _ _ _ _ _);first|refine jn ?_|refine js fun K' hK'=>?_);simp [*])|with_reducible refine rD mixed hE ?_|((with_reducible show RKQ _ _ _ _ _ _);first|refine RKQ_nilk ⟨by decide,?_⟩|(refine jv fun K' hK'=>?_;simp [*]))|((with_reducible first|refine ji fun X Y hX hY=>?_|refine jr ?_|refine jk ?_|refine jx ?_);simp [*])|with_reducible refine And.intro ?_ ?_|omega|(refine imp1 fun h=>?_))
    all_goals simp)
   refine AW_if fun X Y hX hY=>?_
   simp
   refine hY.h ?_
   refine AW_seqt ⟨[(38,iA 3),(59,bA false),(5,.loc 5 0),(2,.ep (encH m)),(3,.ep (encE ⟨3,b,u,rem,add⟩)),(4,.loc 4 0)],[(5,boxO m.first UA 15 0 m.lists.length),(15,rowO m.lists),(4,box0)]⟩ ?_ (by
    intro K3 hK3
    repeat' (first
     |(with_reducible first|refine uK ?_|refine uQ ?_|refine uX ?_|refine jq fun K hK=>?_|refine jb ?_)|(with_reducible refine rS hE ?_;simp [*])|with_reducible refine rL hE ?_|(((with_reducible show RK _ _ _ _ _ _);first|refine jn ?_|refine js fun K' hK'=>?_);simp [*])|with_reducible refine rD mixed hE ?_|((with_reducible show RKQ _ _ _ _ _ _);first|refine RKQ_nilk ⟨by decide,?_⟩|(refine jv fun K' hK'=>?_;simp [*]))|((with_reducible first|refine ji fun X Y hX hY=>?_|refine jr ?_|refine jk ?_|refine jx ?_);simp [*])|with_reducible refine And.intro ?_ ?_|omega|(refine imp1 fun h=>?_))
    all_goals simp)
   refine AW_if fun X Y hX hY=>?_
   simp
   refine hY.h ?_
   refine AW_seqt ⟨[(90,bA true),(5,.loc 5 0),(2,.ep (encH m)),(3,.ep (encE ⟨3,b,u,rem,add⟩)),(4,.loc 4 0)],[(5,boxO m.first UA 15 0 m.lists.length),(15,rowO m.lists),(4,box0)]⟩ ?_ (by
    intro K3 hK3
    repeat' (first
     |(with_reducible first|refine uK ?_|refine uQ ?_|refine uX ?_|refine jq fun K hK=>?_|refine jb ?_)|(with_reducible refine rS hE ?_;simp [*])|with_reducible refine rL hE ?_|(((with_reducible show RK _ _ _ _ _ _);first|refine jn ?_|refine js fun K' hK'=>?_);simp [*])|with_reducible refine rD mixed hE ?_|((with_reducible show RKQ _ _ _ _ _ _);first|refine RKQ_nilk ⟨by decide,?_⟩|(refine jv fun K' hK'=>?_;simp [*]))|((with_reducible first|refine ji fun X Y hX hY=>?_|refine jr ?_|refine jk ?_|refine jx ?_);simp [*])|with_reducible refine And.intro ?_ ?_|omega|(refine imp1 fun h=>?_))
    all_goals simp)
   refine AW_if fun X Y hX hY=>?_
   simp
   refine hX.h ?_
   refine AW_drawHd ⟨[(2,.ep (encH m)),(3,.ep (encE ⟨3,b,u,rem,add⟩))],[]⟩ mixed (by simp) fun E' hE'=>?_
   have hEn:=hE'.trans hE
   repeat' (first
    |(with_reducible first|refine useK (by assumption) ?_|refine useK3 (by assumption) ?_)|((with_reducible show DHd _ _ _ _ _ _ _);first|(refine DHd_done (by decide +kernel) ?_;try simp only [thenK,inBlk])|(refine dt hEn 0 fun K' hK'=>?_;simp [*];fail_if_success (with_reducible show False))|(refine dt hEn 1 fun K' hK'=>?_;simp [*];fail_if_success (with_reducible show False))|(refine dt hEn 2 fun K' hK'=>?_;simp [*];fail_if_success (with_reducible show False))|(refine dt hEn 3 fun K' hK'=>?_;simp [*];fail_if_success (with_reducible show False))|(refine dt hEn 4 fun K' hK'=>?_;simp [*];fail_if_success (with_reducible show False))|(refine dt hEn 5 fun K' hK'=>?_;simp [*];fail_if_success (with_reducible show False))|(refine dt hEn 6 fun K' hK'=>?_;simp [*];fail_if_success (with_reducible show False))|(refine dt hEn 7 fun K' hK'=>?_;simp [*];fail_if_success (with_reducible show False))|(refine dt hEn 8 fun K' hK'=>?_;simp [*];fail_if_success (with_reducible show False))|(refine dt hEn 9 fun K' hK'=>?_;simp [*];fail_if_success (with_reducible show False))|(refine dt hEn 10 fun K' hK'=>?_;simp [*];fail_if_success (with_reducible show False))|(refine dt hEn 11 fun K' hK'=>?_;simp [*];fail_if_success (with_reducible show False))|(refine dt hEn 12 fun K' hK'=>?_;simp [*];fail_if_success (with_reducible show False))|(refine dt hEn 13 fun K' hK'=>?_;simp [*];fail_if_success (with_reducible show False))|(refine dp hEn 0 fun K' hK'=>?_;simp [*];fail_if_success (with_reducible show False))|(refine dp hEn 1 fun K' hK'=>?_;simp [*];fail_if_success (with_reducible show False))|(refine dp hEn 2 fun K' hK'=>?_;simp [*];fail_if_success (with_reducible show False))|(refine dp hEn 3 fun K' hK'=>?_;simp [*];fail_if_success (with_reducible show False))|(refine dp hEn 4 fun K' hK'=>?_;simp [*];fail_if_success (with_reducible show False))|(refine dp hEn 5 fun K' hK'=>?_;simp [*];fail_if_success (with_reducible show False))|(refine dp hEn 6 fun K' hK'=>?_;simp [*];fail_if_success (with_reducible show False))|(refine dp hEn 7 fun K' hK'=>?_;simp [*];fail_if_success (with_reducible show False))|(refine dp hEn 8 fun K' hK'=>?_;simp [*];fail_if_success (with_reducible show False))|(refine dp hEn 9 fun K' hK'=>?_;simp [*];fail_if_success (with_reducible show False))|(refine dp hEn 10 fun K' hK'=>?_;simp [*];fail_if_success (with_reducible show False))|(refine dp hEn 11 fun K' hK'=>?_;simp [*];fail_if_success (with_reducible show False))|(refine dp hEn 12 fun K' hK'=>?_;simp [*];fail_if_success (with_reducible show False))|(refine dp hEn 13 fun K' hK'=>?_;simp [*];fail_if_success (with_reducible show False))|refine DHd_any rfl (by decide +kernel) ?_)|exact DHsome_nil|refine DHsome_no (by decide +kernel) ?_|(refine DHsome_yes (by exact rfl) rfl (by rw [hEn];decide) (fun K' hK'=>?_) ?_;simp [*];fail_if_success (with_reducible show False))|(refine DHsome_yesG (by exact rfl) rfl (by exact rfl) (by rw [hEn];decide) (fun K' hK'=>?_) ?_;simp [*];fail_if_success (with_reducible show False))|with_reducible refine And.intro ?_ ?_|omega|(with_reducible refine imp1 fun h=>?_))
   all_goals simp
 ·have hw : PSpec Tryz.prog 61 [.v (.slice none 0 0),.v (.slice none 0 0),segL add] (segL (chgS [] [] add)):=(s_wchanged [] [] add (by simp) (by simp) (by omega)).args ⟨SLe_nil _ _,SLe_nil _ _,SLe_refl _,trivial⟩
  simp only [Int.reduceEq,or_true,if_false,if_true]
  generalize chgS [] [] add = C at *
  replace hw:=Hld.mk hw
  refine AW_seqt (asT m ⟨4,b,u,rem,add⟩ b UA 109 0 1 [C]) ?_ ?_
  ·unfold asT
   repeat' (first
    |(with_reducible first|refine uK ?_|refine uQ ?_|refine uX ?_|refine jq fun K hK=>?_|refine jb ?_)|(with_reducible refine rS hE ?_;simp [*])|with_reducible refine rL hE ?_|(((with_reducible show RK _ _ _ _ _ _);first|refine jn ?_|refine js fun K' hK'=>?_);simp [*])|with_reducible refine rD mixed hE ?_|((with_reducible show RKQ _ _ _ _ _ _);first|refine RKQ_nilk ⟨by decide,?_⟩|(refine jv fun K' hK'=>?_;simp [*]))|((with_reducible first|refine ji fun X Y hX hY=>?_|refine jr ?_|refine jk ?_|refine jx ?_);simp [*])|with_reducible refine And.intro ?_ ?_|omega|(refine imp1 fun h=>?_))
   all_goals exact DView.stL (by simp) ⟨.base (by simp),.base (by simp),.base (by simp),trivial⟩
  ·intro K hK
   unfold asT at *
   refine AW_seqt ⟨[(38,iA 4),(5,.loc 5 0),(2,.ep (encH m)),(3,.ep (encE ⟨4,b,u,rem,add⟩)),(4,.loc 4 0)],[(5,boxO m.first UA 15 0 m.lists.length),(15,rowO m.lists),(4,box0)]⟩ ?_ (by
    intro K3 hK3
    repeat' (first
     |(with_reducible first|refine uK ?_|refine uQ ?_|refine uX ?_|refine jq fun K hK=>?_|refine jb ?_)|(with_reducible refine rS hE ?_;simp [*])|with_reducible refine rL hE ?_|(((with_reducible show RK _ _ _ _ _ _);first|refine jn ?_|refine js fun K' hK'=>?_);simp [*])|with_reducible refine rD mixed hE ?_|((with_reducible show RKQ _ _ _ _ _ _);first|refine RKQ_nilk ⟨by decide,?_⟩|(refine jv fun K' hK'=>?_;simp [*]))|((with_reducible first|refine ji fun X Y hX hY=>?_|refine jr ?_|refine jk ?_|refine jx ?_);simp [*])|with_reducible refine And.intro ?_ ?_|omega|(refine imp1 fun h=>?_))
    all_goals simp)
   refine AW_block ?_
   refine AW_seqt ⟨[(38,iA 4),(39,bA false),(5,.loc 5 0),(2,.ep (encH m)),(3,.ep (encE ⟨4,b,u,rem,add⟩)),(4,.loc 4 0)],[(5,boxO m.first UA 15 0 m.lists.length),(15,rowO m.lists),(4,box0)]⟩ ?_ (by
    intro K3 hK3
    repeat' (first
     |(with_reducible first|refine uK ?_|refine uQ ?_|refine uX ?_|refine jq fun K hK=>?_|refine jb ?_)|(with_reducible refine rS hE ?_;simp [*])|with_reducible refine rL hE ?_|(((with_reducible show RK _ _ _ _ _ _);first|refine jn ?_|refine js fun K' hK'=>?_);simp [*])|with_reducible refine rD mixed hE ?_|((with_reducible show RKQ _ _ _ _ _ _);first|refine RKQ_nilk ⟨by decide,?_⟩|(refine jv fun K' hK'=>?_;simp [*]))|((with_reducible first|refine ji fun X Y hX hY=>?_|refine jr ?_|refine jk ?_|refine jx ?_);simp [*])|with_reducible refine And.intro ?_ ?_|omega|(refine imp1 fun h=>?_))
    all_goals simp)
   refine AW_if fun X Y hX hY=>?_
   simp
   refine hY.h ?_
   refine AW_seqt ⟨[(38,iA 4),(59,bA false),(5,.loc 5 0),(2,.ep (encH m)),(3,.ep (encE ⟨4,b,u,rem,add⟩)),(4,.loc 4 0)],[(5,boxO m.first UA 15 0 m.lists.length),(15,rowO m.lists),(4,box0)]⟩ ?_ (by
    intro K3 hK3
    repeat' (first
     |(with_reducible first|refine uK ?_|refine uQ ?_|refine uX ?_|refine jq fun K hK=>?_|refine jb ?_)|(with_reducible refine rS hE ?_;simp [*])|with_reducible refine rL hE ?_|(((with_reducible show RK _ _ _ _ _ _);first|refine jn ?_|refine js fun K' hK'=>?_);simp [*])|with_reducible refine rD mixed hE ?_|((with_reducible show RKQ _ _ _ _ _ _);first|refine RKQ_nilk ⟨by decide,?_⟩|(refine jv fun K' hK'=>?_;simp [*]))|((with_reducible first|refine ji fun X Y hX hY=>?_|refine jr ?_|refine jk ?_|refine jx ?_);simp [*])|with_reducible refine And.intro ?_ ?_|omega|(refine imp1 fun h=>?_))
    all_goals simp)
   refine AW_if fun X Y hX hY=>?_
   simp
   refine hY.h ?_
   refine AW_seqt ⟨[(38,iA 4),(90,bA false),(5,.loc 5 0),(2,.ep (encH m)),(3,.ep (encE ⟨4,b,u,rem,add⟩)),(4,.loc 4 0)],[(5,boxO m.first UA 15 0 m.lists.length),(15,rowO m.lists),(4,box0)]⟩ ?_ (by
    intro K3 hK3
    repeat' (first
     |(with_reducible first|refine uK ?_|refine uQ ?_|refine uX ?_|refine jq fun K hK=>?_|refine jb ?_)|(with_reducible refine rS hE ?_;simp [*])|with_reducible refine rL hE ?_|(((with_reducible show RK _ _ _ _ _ _);first|refine jn ?_|refine js fun K' hK'=>?_);simp [*])|with_reducible refine rD mixed hE ?_|((with_reducible show RKQ _ _ _ _ _ _);first|refine RKQ_nilk ⟨by decide,?_⟩|(refine jv fun K' hK'=>?_;simp [*]))|((with_reducible first|refine ji fun X Y hX hY=>?_|refine jr ?_|refine jk ?_|refine jx ?_);simp [*])|with_reducible refine And.intro ?_ ?_|omega|(refine imp1 fun h=>?_))
    all_goals simp)
   refine AW_if fun X Y hX hY=>?_
   simp
   refine hY.h ?_
   refine AW_seqt ⟨[(104,bA true),(5,.loc 5 0),(2,.ep (encH m)),(3,.ep (encE ⟨4,b,u,rem,add⟩)),(4,.loc 4 0)],[(5,boxO m.first UA 15 0 m.lists.length),(15,rowO m.lists),(4,box0)]⟩ ?_ (by
    intro K3 hK3
    repeat' (first
     |(with_reducible first|refine uK ?_|refine uQ ?_|refine uX ?_|refine jq fun K hK=>?_|refine jb ?_)|(with_reducible refine rS hE ?_;simp [*])|with_reducible refine rL hE ?_|(((with_reducible show RK _ _ _ _ _ _);first|refine jn ?_|refine js fun K' hK'=>?_);simp [*])|with_reducible refine rD mixed hE ?_|((with_reducible show RKQ _ _ _ _ _ _);first|refine RKQ_nilk ⟨by decide,?_⟩|(refine jv fun K' hK'=>?_;simp [*]))|((with_reducible first|refine ji fun X Y hX hY=>?_|refine jr ?_|refine jk ?_|refine jx ?_);simp [*])|with_reducible refine And.intro ?_ ?_|omega|(refine imp1 fun h=>?_))
    all_goals simp)
   refine AW_if fun X Y hX hY=>?_
   simp
   refine hX.h ?_
   refine AW_drawHd ⟨[(2,.ep (encH m)),(3,.ep (encE ⟨4,b,u,rem,add⟩))],[]⟩ mixed (by simp) fun E' hE'=>?_
   have hEn:=hE'.trans hE
   repeat' (first
    |(with_reducible first|refine useK (by assumption) ?_|refine useK3 (by assumption) ?_)|((with_reducible show DHd _ _ _ _ _ _ _);first|(refine DHd_done (by decide +kernel) ?_;try simp only [thenK,inBlk])|(refine dt hEn 0 fun K' hK'=>?_;simp [*];fail_if_success (with_reducible show False))|(refine dt hEn 1 fun K' hK'=>?_;simp [*];fail_if_success (with_reducible show False))|(refine dt hEn 2 fun K' hK'=>?_;simp [*];fail_if_success (with_reducible show False))|(refine dt hEn 3 fun K' hK'=>?_;simp [*];fail_if_success (with_reducible show False))|(refine dt hEn 4 fun K' hK'=>?_;simp [*];fail_if_success (with_reducible show False))|(refine dt hEn 5 fun K' hK'=>?_;simp [*];fail_if_success (with_reducible show False))|(refine dt hEn 6 fun K' hK'=>?_;simp [*];fail_if_success (with_reducible show False))|(refine dt hEn 7 fun K' hK'=>?_;simp [*];fail_if_success (with_reducible show False))|(refine dt hEn 8 fun K' hK'=>?_;simp [*];fail_if_success (with_reducible show False))|(refine dt hEn 9 fun K' hK'=>?_;simp [*];fail_if_success (with_reducible show False))|(refine dp hEn 0 fun K' hK'=>?_;simp [*];fail_if_success (with_reducible show False))|(refine dp hEn 1 fun K' hK'=>?_;simp [*];fail_if_success (with_reducible show False))|(refine dp hEn 2 fun K' hK'=>?_;simp [*];fail_if_success (with_reducible show False))|(refine dp hEn 3 fun K' hK'=>?_;simp [*];fail_if_success (with_reducible show False))|(refine dp hEn 4 fun K' hK'=>?_;simp [*];fail_if_success (with_reducible show False))|(refine dp hEn 5 fun K' hK'=>?_;simp [*];fail_if_success (with_reducible show False))|(refine dp hEn 6 fun K' hK'=>?_;simp [*];fail_if_success (with_reducible show False))|(refine dp hEn 7 fun K' hK'=>?_;simp [*];fail_if_success (with_reducible show False))|(refine dp hEn 8 fun K' hK'=>?_;simp [*];fail_if_success (with_reducible show False))|(refine dp hEn 9 fun K' hK'=>?_;simp [*];fail_if_success (with_reducible show False))|refine DHd_any rfl (by decide +kernel) ?_)|exact DHsome_nil|refine DHsome_no (by decide +kernel) ?_|(refine DHsome_yes (by exact rfl) rfl (by rw [hEn];decide) (fun K' hK'=>?_) ?_;simp [*];fail_if_success (with_reducible show False))|(refine DHsome_yesG (by exact rfl) rfl (by exact rfl) (by rw [hEn];decide) (fun K' hK'=>?_) ?_;simp [*];fail_if_success (with_reducible show False))|(refine acall_same (hw.out) ?_ ?_ ?_;(focus (simp [*] <;> fail));(focus (simp [*] <;> fail));simp [*])|(refine acall_view (hw.out) ?_ ?_ ?_;(focus (simp [*] <;> fail));(focus (simp [*] <;> fail));simp [*])|with_reducible refine And.intro ?_ ?_|omega|(with_reducible refine imp1 fun h=>?_))
   all_goals simp
end Go.Proofs.YtbibemijcdkjhaaGreatDoor
end
section
namespace Go.Proofs.YtbibemijcdkjhaaGreatDoor
open Go.Am
theorem any_cg {α : Type} {p q : α → Bool} : ∀ {l : List α},(∀ x ∈ l,p x = q x) → l.any p = l.any q
 |[],_=>rfl
 |x :: l,h=>by
  rw [List.any_cons,List.any_cons,h x List.mem_cons_self,any_cg fun y hy=>h y (List.mem_cons_of_mem _ hy)]
theorem remGo_zero {k : Int} {L : List Seg} : ∀ {l : List Int} {p : Option Int},remGo k L p l = 0 → (∀ y,p = some y → ∀ x ∈ l,y < x) ∧ l.Pairwise (· < ·) ∧ (k = 1 → ∀ x ∈ l,hasB L x = true)
 |[],p,_=>⟨by simp,List.Pairwise.nil,by simp⟩
 |x :: l,p,h=>by
  unfold remGo at h
  split at h
  ·omega
  ·rename_i h0
   split at h
   ·omega
   ·rename_i h1
    obtain ⟨h2,h3,h4⟩:=remGo_zero h
    refine ⟨fun y hy z hz=>?_,List.pairwise_cons.2 ⟨fun z hz=>h2 x rfl z hz,h3⟩,fun hk z hz=>?_⟩
    ·subst hy
     simp at h0
     rcases List.mem_cons.1 hz with rfl|hz
     ·omega
     ·have:=h2 x rfl z hz;omega
    ·rcases List.mem_cons.1 hz with rfl|hz
     ·cases hh : hasB L z with
      |true=>rfl
      |false=>exact absurd ⟨hk,hh⟩ h1
     ·exact h4 hk z hz
theorem filter_len : ∀ (l : List Seg) (rem : List Int),Srt l → rem.Pairwise (· < ·) → (∀ x ∈ rem,∃ s ∈ l,s.id = x) → (l.filter fun s=>!inI rem s.id).length + rem.length = l.length
 |[],rem,_,_,h=>by
  cases rem with
  |nil=>rfl
  |cons x rem=>obtain ⟨s,hs,_⟩:=h x List.mem_cons_self;simp at hs
 |s :: t,[],_,_,_=>by
  have : ∀ l : List Seg,(l.filter fun s=>!inI [] s.id) = l:=fun l=>List.filter_eq_self.2 (by simp [inI])
  rw [this];rfl
 |s :: t,r :: rs,hs,hr,h=>by
  have hs':=List.pairwise_cons.1 hs
  have hr':=List.pairwise_cons.1 hr
  by_cases e : s.id = r
  ·have hf : (t.filter fun s=>!inI (r :: rs) s.id) = t.filter fun s=>!inI rs s.id:=by
    refine List.filter_congr fun a ha=>?_
    have:=hs'.1 a ha
    have hne : ¬ r = a.id:=by omega
    simp [inI,hne]
   have hk : inI (r :: rs) s.id = true:=by simp [inI,e]
   have ih:=filter_len t rs hs'.2 hr'.2 (fun x hx=>by
    obtain ⟨a,ha,he⟩:=h x (List.mem_cons_of_mem _ hx)
    rcases List.mem_cons.1 ha with rfl|ha
    ·have:=hr'.1 x hx;omega
    ·exact ⟨a,ha,he⟩)
   rw [List.filter_cons]
   simp only [hk,Bool.not_true,Bool.false_eq_true,if_false,hf,List.length_cons]
   omega
  ·have hlt : ∀ x ∈ r :: rs,s.id < x:=by
    obtain ⟨a,ha,he⟩:=h r List.mem_cons_self
    have h1 : s.id < r:=by
     rcases List.mem_cons.1 ha with rfl|ha
     ·exact absurd he e
     ·have:=hs'.1 a ha;omega
    intro x hx
    rcases List.mem_cons.1 hx with rfl|hx
    ·exact h1
    ·have:=hr'.1 x hx;omega
   have hk : inI (r :: rs) s.id = false:=by
    unfold inI
    rw [List.any_eq_false]
    intro x hx
    have:=hlt x hx
    simp;omega
   have ih:=filter_len t (r :: rs) hs'.2 hr (fun x hx=>by
    obtain ⟨a,ha,he⟩:=h x hx
    rcases List.mem_cons.1 ha with rfl|ha
    ·have:=hlt x hx;omega
    ·exact ⟨a,ha,he⟩)
   rw [List.filter_cons]
   simp only [hk,Bool.not_false,if_true,List.length_cons] at ih ⊢
   omega
theorem fold_len : ∀ (add out : List Seg),(add.foldl insS out).length = out.length + add.length
 |[],out=>by simp
 |x :: add,out=>by rw [List.foldl_cons,fold_len add,insS_len,List.length_cons];omega
theorem chgS_len (l : List Seg) (rem : List Int) (add : List Seg) : (chgS l rem add).length = (l.filter fun s=>!inI rem s.id).length + add.length:=fold_len _ _
structure Inv (m : Sh) (n : Nat) : Prop where
 wf : WF m
 len : m.lists.length ≤ 256
 each : ∀ l ∈ m.lists,l.length ≤ 256
 last : lastB m ≤ 1073741824 + (n : Int)
 used : m.used ≤ 1073741824
theorem remE_zero {m : Sh} {e : Ed} (h : remE m e = 0) : e.rem.Pairwise (· < ·) ∧ (e.kind = 1 → hasAllB (lastL m) e.rem = true) ∧ (e.kind = 2 → anyAll m e.rem = true):=by
 unfold remE at h
 simp only at h
 split at h
 ·rename_i h0;exact absurd h h0
 ·rename_i h0
  have h0 : remGo e.kind (lastL m) none e.rem = 0:=by simpa using h0
  obtain ⟨-,h1,h2⟩:=remGo_zero h0
  refine ⟨h1,fun hk=>?_,fun hk=>?_⟩
  ·unfold hasAllB
   rw [List.all_eq_true]
   exact h2 hk
  ·cases ha : anyAll m e.rem with
   |true=>rfl
   |false=>rw [if_pos ⟨hk,ha⟩] at h;omega
theorem unt_of {m : Sh} (hw : WF m) (h : untB m = true) : m = ⟨0,0,[[]]⟩:=by
 unfold untB at h
 simp only [decide_eq_true_eq] at h
 obtain ⟨h1,h2,h3,h4⟩:=h
 obtain ⟨f,u,ls⟩:=m
 simp only at *
 match ls,h2,h3 with
 |[l],_,h3 =>
  simp at h3
  subst h1 h4 h3
  rfl
theorem belief_zero {m : Sh} {e : Ed} (h : beliefE m e = 0) : (e.kind = 4 → untB m = true ∧ inB e.belief 0 1073741824 = true) ∧ (e.kind = 1 → e.belief = lastB m + 1 ∧ m.lists.length < 256) ∧ (e.kind = 3 → inB e.belief m.first (lastB m) = true) ∧ (e.kind = 2 → e.rem ≠ []):=by
 unfold beliefE at h
 split at h
 ·omega
 ·rename_i h0
  split at h
  ·omega
  ·rename_i h1
   split at h
   ·omega
   ·rename_i h2
    split at h
    ·omega
    ·rename_i h3
     refine ⟨fun hk=>⟨?_,?_⟩,fun hk=>⟨?_,?_⟩,fun hk=>?_,fun hk hr=>h3 ⟨hk,hr⟩⟩
     ·cases hu : untB m with
      |true=>rfl
      |false=>exact absurd ⟨hk,hu⟩ h0
     ·cases hu : inB e.belief 0 1073741824 with
      |true=>rfl
      |false=>exact absurd (.inr (.inr ⟨hk,hu⟩)) h1
     ·rcases Classical.em (e.belief = lastB m + 1) with g|g
      ·exact g
      ·exact absurd (.inl ⟨hk,g⟩) h1
     ·rcases Nat.lt_or_ge m.lists.length 256 with g|g
      ·exact g
      ·exact absurd ⟨hk,g⟩ h2
     ·cases hu : inB e.belief m.first (lastB m) with
      |true=>rfl
      |false=>exact absurd (.inr (.inl ⟨hk,hu⟩)) h1
theorem chg_long {l : List Seg} {e : Ed} (hs : Srt l) (hr : e.rem.Pairwise (· < ·)) (ha : hasAllB l e.rem = true) : decide (256 < (l.length : Int) - e.rem.length + e.add.length) = decide (256 < (chgS l e.rem e.add).length):=by
 have:=filter_len l e.rem hs hr (fun x hx=>by
  unfold hasAllB at ha
  rw [List.all_eq_true] at ha
  exact hasB_iff.1 (ha x hx))
 rw [chgS_len]
 exact decide_eq_decide.2 (by omega)
theorem size_eq {m : Sh} {e : Ed} {n : Nat} (hi : Inv m n) (hk : kindOK e) (hf : formB e = false) (hb : beliefE m e = 0) (hr : remE m e = 0) (hu : e.kind = 4 → inB e.used 0 1073741824 = true) :
 (if e.kind = 3 then 0 else sizeE m e) = if (appS m e).lists.any (fun l=>decide (256 < l.length)) then 3 else 0:=by
 obtain ⟨r1,r2,r3⟩:=remE_zero hr
 obtain ⟨b1,b2,b3,b4⟩:=belief_zero hb
 have hall : ∀ l ∈ m.lists,decide (256 < l.length) = false:=fun l hl=>by have:=hi.each l hl;simp;omega
 have hany : m.lists.any (fun l=>decide (256 < l.length)) = false:=by
  rw [List.any_eq_false];intro l hl;simp [hall l hl]
 have hlast : lastL m ∈ m.lists:=by rw [lastL_eq hi.wf.ne];exact List.getElem_mem _
 unfold sizeE appS sizL
 rcases hk with hk|hk|hk|hk
 ·have:=chg_long (hi.wf.srt _ hlast).1 r1 (r2 hk)
  simp [hk,longB,hany,this]
 ·have h2 : m.lists.any (longB e) = m.lists.any fun l=>decide (256 < (if hasAllB l e.rem then chgS l e.rem e.add else l).length):=by
   refine any_cg fun l hl=>?_
   unfold longB
   rcases ha : hasAllB l e.rem with _|_
   ·simpa [hk] using hi.each l hl
   ·simpa [hk] using chg_long (hi.wf.srt _ hl).1 r1 ha
  have h3 : (m.lists.map fun l=>if hasAllB l e.rem then chgS l e.rem e.add else l).any (fun l=>decide (256 < l.length)) = m.lists.any (longB e):=by rw [List.any_map];exact h2.symm
  simp only [hk,h3,Int.reduceEq,if_false,if_true,false_and]
 ·have : (m.lists.drop (e.belief - m.first).toNat).any (fun l=>decide (256 < l.length)) = false:=by
   rw [List.any_eq_false];intro l hl;simp [hall l (List.mem_of_mem_drop hl)]
  simp [hk,this]
 ·have hm:=unt_of hi.wf (b1 hk).1
  have hrem : e.rem = []:=by
   unfold formB at hf
   simpa [hk] using hf
  have h1:=chg_long (l:=[]) (e:=e) List.Pairwise.nil r1 (by simp [hrem,hasAllB])
  subst hm
  rw [hrem] at h1
  simp only [List.length_nil] at h1
  simp [hk,hu hk,longB,hrem,← h1]
theorem cross_of {m : Sh} {e : Ed} (h : addE m e = 0) {l : List Seg} (hl : l ∈ m.lists) (hk : (e.kind = 1 ∧ l = lastL m) ∨ e.kind = 2) :
 ∀ a ∈ (l.filter fun s=>!inI e.rem s.id),∀ b ∈ e.add,a.id ≠ b.id:=by
 obtain ⟨h1,h2⟩:=addGo_zero h
 intro a ha b hb he
 rw [List.mem_filter] at ha
 have hh : hasB l b.id = true:=by rw [← he];exact mem_hasB ha.1
 have hx:=(h1 b hb).1
 rcases hk with ⟨hk,rfl⟩|hk
 ·have:=hx.dup1 hk hh
  rw [← he] at this
  simp [this] at ha
 ·have:=hx.dup2 hk
  unfold anyHas at this
  rw [List.any_eq_false] at this
  exact this l hl hh
theorem chg_nil {add : List Seg} (h : Srt add) : chgS [] [] add = add:=by
 obtain ⟨h1,h2⟩:=foldS add [] List.Pairwise.nil h (by simp)
 have e1:=srtS_eq (List.Perm.refl add) h
 have e2:=srtS_eq h2 h1
 unfold chgS
 simpa using e2.symm.trans e1
theorem appS_eq {m : Sh} {e : Ed} (hw : WF m) (h : ChkOK m e) : appS m e = appE m e:=by
 obtain ⟨b1,b2,b3,b4⟩:=belief_zero h.belief
 have ha:=(addGo_zero h.add).2
 have hlast : lastL m ∈ m.lists:=by rw [lastL_eq hw.ne];exact List.getElem_mem _
 have hf:=h.form
 have hu:=hw.used
 unfold formB at hf
 unfold appS appE appB
 rcases h.kind with hk|hk|hk|hk
 ·have h1:=(chg_eq (hw.srt _ hlast).1 ha (cross_of h.add hlast (.inl ⟨hk,rfl⟩))).1
  simp [hk] at hf
  have : max m.used 0 = m.used:=by omega
  simp [hk,hf,h1,this]
 ·have h1 : (m.lists.map fun l=>if hasAllB l e.rem then chgS l e.rem e.add else l) = m.lists.map fun l=>if hasAllB l e.rem then chgM l e else l:=by
   refine List.map_congr_left fun l hl=>?_
   split
   ·exact (chg_eq (hw.srt _ hl).1 ha (cross_of h.add hl (.inr hk))).1
   ·rfl
  simp [hk] at hf
  have : max m.used 0 = m.used:=by omega
  simp [hk,hf,h1,this]
 ·simp [hk] at hf
  have : max m.used 0 = m.used:=by omega
  simp [hk,hf,this]
 ·have h1:=chg_nil ha
  have hm:=unt_of hw (b1 hk).1
  have hs:=h.size (by omega)
  have hu2 : 0 ≤ e.used:=by
   unfold sizeE at hs
   split at hs
   ·omega
   ·rename_i g
    have : inB e.used 0 1073741824 = true:=by simpa [hk] using g
    simp [inB] at this
    omega
  have h0 : m.used = 0:=by rw [hm]
  have : max m.used e.used = e.used:=by omega
  simp [hk,h1,this]
theorem maxU_le {B : Int} : ∀ (l : List Seg) (u : Int),u ≤ B → (∀ s ∈ l,s.id ≤ B) → maxU u l ≤ B
 |[],u,h,_=>h
 |s :: l,u,h,hs=>by
  unfold maxU
  rw [List.foldl_cons]
  exact maxU_le l (max u s.id) (by have:=hs s List.mem_cons_self;omega) (fun x hx=>hs x (List.mem_cons_of_mem _ hx))
theorem maxU_ge : ∀ (l : List Seg) (u : Int),u ≤ maxU u l
 |[],u=>by simp [maxU]
 |s :: l,u=>by
  unfold maxU
  rw [List.foldl_cons]
  have:=maxU_ge l (max u s.id)
  unfold maxU at this
  omega
theorem size_used {m : Sh} {e : Ed} (h : ChkOK m e) (hk : e.kind = 4) : inB e.used 0 1073741824 = true:=by
 have hs:=h.size (by omega)
 unfold sizeE at hs
 split at hs
 ·omega
 ·rename_i g
  simpa [hk] using g
theorem app_inv {m : Sh} {e : Ed} {n : Nat} (hi : Inv m n) (hn : n ≤ 1000) (h : ChkOK m e) : Inv (appE m e) (n + 1):=by
 have hw:=hi.wf
 obtain ⟨b1,b2,b3,b4⟩:=belief_zero h.belief
 obtain ⟨ha1,ha⟩:=addGo_zero h.add
 have hlast : lastL m ∈ m.lists:=by rw [lastL_eq hw.ne];exact List.getElem_mem _
 have hsz:=size_eq hi h.kind h.form h.belief h.rem (fun hk=>size_used h hk)
 have hsz0 : (if e.kind = 3 then 0 else sizeE m e) = 0:=by
  split
  ·rfl
  ·rename_i g;exact h.size g
 rw [hsz0,appS_eq hw h] at hsz
 have each : ∀ l ∈ (appE m e).lists,l.length ≤ 256:=by
  cases hc : (appE m e).lists.any (fun l=>decide (256 < l.length)) with
  |true=>rw [hc] at hsz;simp at hsz
  |false =>
   rw [List.any_eq_false] at hc
   intro l hl
   have:=hc l hl
   simp at this
   exact this
 have hu:=hw.used
 have hu':=hi.used
 have hids : ∀ s ∈ e.add,s.id ≤ 1073741824:=by
  intro s hs
  have:=(ha1 s hs).1.chk
  unfold chkS at this
  split at this
  ·rename_i g
   simp [inB] at g
   omega
  ·omega
 have used : 0 ≤ (appE m e).used ∧ (appE m e).used ≤ 1073741824:=by
  have hb : 0 ≤ (appB m e).used ∧ (appB m e).used ≤ 1073741824:=by
   unfold appB
   rcases h.kind with hk|hk|hk|hk
   ·simp [hk];omega
   ·simp [hk];omega
   ·simp [hk];omega
   ·have:=size_used h hk
    simp [inB] at this
    simp [hk];omega
  have h1:=maxU_ge e.add (appB m e).used
  exact ⟨Int.le_trans hb.1 h1,maxU_le _ _ hb.2 hids⟩
 have hf:=hw.first
 have hL : lastB m = m.first + (m.lists.length : Int) - 1:=rfl
 have hln:=hw.ne
 have hlen:=hi.len
 have hla:=hi.last
 have rest : 0 < (appE m e).lists.length ∧ (appE m e).lists.length ≤ 256 ∧ (∀ l ∈ (appE m e).lists,Srt l) ∧ (0 ≤ (appE m e).first ∧ lastB (appE m e) ≤ 1073741824 + ((n + 1 : Nat) : Int)):=by
  have hE : (appE m e).lists = (appB m e).lists ∧ (appE m e).first = (appB m e).first:=⟨rfl,rfl⟩
  unfold lastB
  rw [hE.1,hE.2]
  unfold appB
  rcases h.kind with hk|hk|hk|hk
  ·have h1:=(chg_eq (hw.srt _ hlast).1 ha (cross_of h.add hlast (.inl ⟨hk,rfl⟩))).2
   have h2:=(b2 hk).2
   simp only [hk,if_true]
   refine ⟨by simp,by simp;omega,fun l hl=>?_,by omega,by simp;omega⟩
   rcases List.mem_append.1 hl with hl|hl
   ·exact (hw.srt l hl).1
   ·simp at hl;subst hl;exact h1
  ·simp only [hk,Int.reduceEq,if_false,if_true]
   refine ⟨by simpa using hln,by simpa using hlen,fun l hl=>?_,by omega,by simp;omega⟩
   obtain ⟨l',hl',rfl⟩:=List.mem_map.1 hl
   split
   ·exact (chg_eq (hw.srt _ hl').1 ha (cross_of h.add hl' (.inr hk))).2
   ·exact (hw.srt l' hl').1
  ·have h2:=b3 hk
   simp [inB] at h2
   simp only [hk,Int.reduceEq,if_false,if_true]
   refine ⟨by simp;omega,by simp;omega,fun l hl=>(hw.srt l (List.mem_of_mem_drop hl)).1,by omega,by simp;omega⟩
  ·have h2:=(b1 hk).2
   simp [inB] at h2
   simp only [hk,Int.reduceEq,if_false]
   refine ⟨by simp,by simp,fun l hl=>?_,by omega,by simp;omega⟩
   simp at hl;subst hl;exact ha
 obtain ⟨r1,r2,r3,r4,r5⟩:=rest
 refine ⟨⟨r1,by omega,fun l hl=>⟨r3 l hl,by have:=each l hl;omega⟩,⟨r4,?_⟩,⟨used.1,by omega⟩⟩,r2,each,r5,used.2⟩
 have : lastB (appE m e) = (appE m e).first + ((appE m e).lists.length : Int) - 1:=rfl
 omega
theorem step_inv {m : Sh} {e : Ed} {n : Nat} (hi : Inv m n) (hn : n ≤ 1000) : Inv (stepE m e) (n + 1):=by
 unfold stepE
 split
 ·rename_i h
  exact app_inv hi hn (chk_zero h)
 ·exact ⟨hi.wf,hi.len,hi.each,by have:=hi.last;omega,hi.used⟩
end Go.Proofs.YtbibemijcdkjhaaGreatDoor
end
section
namespace Go.Proofs.YtbibemijcdkjhaaGreatDoor
open Go.Am
abbrev ckT (m : Sh) (e : Ed) : AState:=⟨[(2,.ep (encH m)),(3,.ep (encE e)),(4,iA 0)],[]⟩
set_option maxHeartbeats 4000000 in
theorem s_scheck {n : Nat} (m : Sh) (e : Ed) (hi : Inv m n) (he : EdOK e) : PSpec Tryz.prog 32 [encH m,encE e] (iA (chkE m e)):=by
 have h:=hi.wf
 have h1:=h.first
 have h2:=h.len
 have h3:=h.ne
 have hl : lastB m = m.first + (m.lists.length : Int) - 1:=rfl
 have hl0 : 0 ≤ lastB m:=by omega
 have hl1 : lastB m ≤ 2000000000000:=by omega
 replace hl:=Hld.mk hl
 have hlast:=Hld.mk (s_wlast m h)
 have hB : chkE m e = if inB e.kind 1 4 = false then 4 else if formB e = true then 5 else if beliefE m e ≠ 0 then beliefE m e else if remE m e ≠ 0 then remE m e else if addE m e ≠ 0 then addE m e else if e.kind = 3 then 0 else sizeE m e:=rfl
 generalize chkE m e = B at hB ⊢
 refine PSpec_of Tryz.func32 rfl rfl (Nat.le_of_ble_eq_true rfl) (Nat.le_of_ble_eq_true rfl) ?_
 intro E hE
 refine AW_seqt ⟨[(2,.loc 2 0),(3,.loc 3 0),(4,iA 0)],[(2,.box 26 (encH m)),(3,.box 36 (encE e))]⟩ ?_ (by
  intro K hK
  repeat' (first
   |(with_reducible first|refine uK ?_|refine uQ ?_|refine uX ?_|refine jq fun K hK=>?_|refine jb ?_)|(with_reducible refine rS hE ?_;simp [*])|with_reducible refine rL hE ?_|(((with_reducible show RK _ _ _ _ _ _);first|refine jn ?_|refine js fun K' hK'=>?_);simp [*])|with_reducible refine rD mixed hE ?_|((with_reducible show RKQ _ _ _ _ _ _);first|refine RKQ_nilk ⟨by decide,?_⟩|(refine jv fun K' hK'=>?_;simp [*]))|((with_reducible first|refine ji fun X Y hX hY=>?_|refine jr ?_|refine jk ?_|refine jx ?_);simp [*])|with_reducible refine And.intro ?_ ?_|omega|(refine imp1 fun h=>?_))
  all_goals simp)
 refine AW_freeze 2 (cb:=.box 26 (encH m)) (t:=⟨[(2,.ep (encH m)),(3,.loc 3 0),(4,iA 0)],[(3,.box 36 (encE e))]⟩) (by simp) (by simp) (by simp) ?_
 refine AW_freeze 3 (cb:=.box 36 (encE e)) (t:=ckT m e) (by simp) (by simp) (by simp) ?_
 rcases hk : inB e.kind 1 4 with _|_
 ·rw [hk] at hB
  simp at hB
  repeat' (first
   |(with_reducible first|refine uK ?_|refine uQ ?_|refine uX ?_|refine jq fun K hK=>?_|refine jb ?_)|(with_reducible refine rS hE ?_;simp [*])|with_reducible refine rL hE ?_|(((with_reducible show RK _ _ _ _ _ _);first|refine jn ?_|refine js fun K' hK'=>?_);simp [*])|with_reducible refine rD mixed hE ?_|((with_reducible show RKQ _ _ _ _ _ _);first|refine RKQ_nilk ⟨by decide,?_⟩|(refine jv fun K' hK'=>?_;simp [*]))|((with_reducible first|refine ji fun X Y hX hY=>?_|refine jr ?_|refine jk ?_|refine jx ?_);simp [*])|((first|refine acall_same (s_in _ _ _) ?_ ?_ ?_|refine call_same (s_in _ _ _) ?_ ?_ ?_);(iterate 2 focus (simp [*] <;> fail));simp [*])|((first|refine acall_view (s_in _ _ _) ?_ ?_ ?_|refine call_view (s_in _ _ _) ?_ ?_ ?_);(iterate 2 focus (simp [*] <;> fail));simp [*])|with_reducible refine And.intro ?_ ?_|omega|(refine imp1 fun h=>?_))
 rw [hk] at hB
 simp only [Bool.true_eq_false,if_false] at hB
 have hkk:=kindOK_of hk
 rcases hf : formB e with _|_
 case true =>
  rw [hf] at hB
  simp at hB
  have hff:=Hld.mk (s_forms e)
  rw [hf] at hff
  repeat' (first
   |(with_reducible first|refine uK ?_|refine uQ ?_|refine uX ?_|refine jq fun K hK=>?_|refine jb ?_)|(with_reducible refine rS hE ?_;simp [*])|with_reducible refine rL hE ?_|(((with_reducible show RK _ _ _ _ _ _);first|refine jn ?_|refine js fun K' hK'=>?_);simp [*])|with_reducible refine rD mixed hE ?_|((with_reducible show RKQ _ _ _ _ _ _);first|refine RKQ_nilk ⟨by decide,?_⟩|(refine jv fun K' hK'=>?_;simp [*]))|((with_reducible first|refine ji fun X Y hX hY=>?_|refine jr ?_|refine jk ?_|refine jx ?_);simp [*])|((first|refine acall_same (s_in _ _ _) ?_ ?_ ?_|refine call_same (s_in _ _ _) ?_ ?_ ?_);(iterate 2 focus (simp [*] <;> fail));simp [*])|((first|refine acall_view (s_in _ _ _) ?_ ?_ ?_|refine call_view (s_in _ _ _) ?_ ?_ ?_);(iterate 2 focus (simp [*] <;> fail));simp [*])|((first|refine jC (hff.out) ?_ ?_ ?_|refine jQ (hff.out) ?_ ?_ ?_);(iterate 2 focus (simp [*] <;> fail));simp [*])|with_reducible refine And.intro ?_ ?_|omega|(refine imp1 fun h=>?_))
 rw [hf] at hB
 simp only [Bool.false_eq_true,if_false] at hB
 have hff:=Hld.mk (s_forms e)
 rw [hf] at hff
 refine AW_seqx (fun t=>t = ckT m e ∧ beliefE m e = 0) ?_ ?_
 ·rintro t ⟨rfl,hb⟩
  have hrm : remGo e.kind (lastL m) none e.rem ≠ 0 → B = remGo e.kind (lastL m) none e.rem:=by
   intro hne
   have : remE m e = remGo e.kind (lastL m) none e.rem:=by unfold remE;simp only;rw [if_pos hne]
   rw [hB,if_neg (by simp [hb]),this,if_pos hne]
  have hrs : remGo e.kind (lastL m) none e.rem = 0 → e.kind = 2 → anyAll m e.rem = false → B = 9:=by
   intro h0 h1 h2
   have : remE m e = 9:=by unfold remE;simp only;rw [if_neg (by simp [h0]),if_pos ⟨h1,h2⟩]
   rw [hB,if_neg (by simp [hb]),this];simp
  have hrn : remGo e.kind (lastL m) none e.rem = 0 → (e.kind = 2 → anyAll m e.rem = true) → remE m e = 0 ∧ B = if addE m e ≠ 0 then addE m e else if e.kind = 3 then 0 else sizeE m e:=by
   intro h0 h1
   have : remE m e = 0:=by
    unfold remE;simp only;rw [if_neg (by simp [h0]),if_neg]
    rintro ⟨g1,g2⟩
    simp [h1 g1] at g2
   refine ⟨this,?_⟩
   rw [hB,if_neg (by simp [hb]),this];simp
  have hsz : remE m e = 0 → (e.kind = 4 → inB e.used 0 1073741824 = true) → (if e.kind = 3 then 0 else sizeE m e) = if (appS m e).lists.any (fun l=>decide (256 < l.length)) then 3 else 0:=fun hr hu=>size_eq hi hkk hf hb hr hu
  have hs2 : e.kind = 4 → inB e.used 0 1073741824 = false → (if e.kind = 3 then 0 else sizeE m e) = 2:=by
   intro h1 h2
   rw [if_neg (by omega)]
   unfold sizeE
   rw [if_pos ⟨h1,h2⟩]
  clear hB
  have hap:=s_apply m e h he hkk (fun h3=>(belief_zero hb).2.2.1 h3)
  have happ : (appS m e).lists.length ≤ 1000:=by
   obtain ⟨b1,b2,b3,b4⟩:=belief_zero hb
   unfold appS
   rcases hkk with g|g|g|g
   ·simp [g];have:=(b2 g).2;omega
   ·simp [g];omega
   ·simp [g];omega
   ·simp [g]
  have hca:=s_checkAdd m e h he
  have hll:=h.last.2
  have hwc : PSpec Tryz.prog 61 [segL (lastL m),.sl 1 (e.rem.map iA),.v (.slice none 0 0)] (segL (chgS (lastL m) e.rem [])):=(s_wchanged (lastL m) e.rem [] (by omega) (by have:=he.rem;omega) (by simp)).args ⟨SLe_refl _,SLe_refl _,SLe_nil _ _,trivial⟩
  rw [show chgS (lastL m) e.rem [] = (lastL m).filter fun s=>!inI e.rem s.id from rfl] at hwc
  have hle:=lastL_eq h3
  have hle' : m.lists[m.lists.length - 1]? = some (lastL m):=by rw [hle,List.getElem?_eq_getElem]
  have hfind:=fun n=>s_find (lastL m) n (by omega)
  have hha:=fun l (hl : l ∈ m.lists)=>s_whasAll l e.rem (by have:=(h.srt l hl).2;omega) (by have:=he.rem;omega)
  have hAA : anyAll m e.rem = m.lists.any fun l=>hasAllB l e.rem:=rfl
  generalize ((lastL m).filter fun s=>!inI e.rem s.id) = LF at *
  generalize lastL m = L at *
  generalize anyAll m e.rem = AA at *
  generalize remE m e = r1 at *
  generalize addE m e = r2 at *
  generalize sizeE m e = r3 at *
  generalize appS m e = m2 at *
  clear hle hb hi hff hf hk
  have h4:=he.rem
  clear he
  obtain ⟨k,b,u,rem,add⟩:=e
  simp only at *
  have hk' : k = 1 ∨ k = 2 ∨ k = 3 ∨ k = 4:=hkk
  clear hkk
  replace hrm:=Hld.mk hrm
  replace hrs:=Hld.mk hrs
  replace hrn:=Hld.mk hrn
  replace hsz:=Hld.mk hsz
  replace hs2:=Hld.mk hs2
  replace hap:=Hld.mk hap
  replace hca:=Hld.mk hca
  replace hwc:=Hld.mk hwc
  replace hfind:=Hld.mk hfind
  replace hha:=Hld.mk hha
  replace hAA:=Hld.mk hAA
  refine AW_seqt ⟨[(5,segL L),(2,.ep (encH m)),(3,.ep (encE ⟨k,b,u,rem,add⟩)),(4,iA 0)],[]⟩ ?_ (by
   intro K hK
   repeat' (first
    |(with_reducible first|refine uK ?_|refine uQ ?_|refine uX ?_|refine jq fun K hK=>?_|refine jb ?_)|(with_reducible refine rS hE ?_;simp [*])|with_reducible refine rL hE ?_|(((with_reducible show RK _ _ _ _ _ _);first|refine jn ?_|refine js fun K' hK'=>?_);simp [*])|with_reducible refine rD mixed hE ?_|((with_reducible show RKQ _ _ _ _ _ _);first|refine RKQ_nilk ⟨by decide,?_⟩|(refine jv fun K' hK'=>?_;simp [*]))|((with_reducible first|refine ji fun X Y hX hY=>?_|refine jr ?_|refine jk ?_|refine jx ?_);simp [*])|with_reducible refine And.intro ?_ ?_|omega|(refine imp1 fun h=>?_))
   all_goals simp)
  clear hle'
  refine AW_seqx (fun t=>t = ⟨[(5,segL L),(2,.ep (encH m)),(3,.ep (encE ⟨k,b,u,rem,add⟩)),(4,iA 0)],[]⟩ ∧ remGo k L none rem = 0) ?_ ?_
  ·rintro t ⟨rfl,hg0⟩
   replace hg0:=Hld.mk hg0
   obtain ⟨A,hA⟩ : ∃ A : Nat → Bool,∀ q,A q = (m.lists.take q).any fun l=>hasAllB l rem:=⟨_,fun _=>rfl⟩
   have hA0 : A 0 = false:=by simp [hA]
   have hAs : ∀ q (hq : q < m.lists.length),A (q + 1) = (A q || hasAllB m.lists[q] rem):=fun q hq=>by rw [hA,hA,any_take hq]
   have hAe : A m.lists.length = AA:=by rw [hA,List.take_length,hAA.out]
   clear hA
   replace hAs:=Hld.mk hAs
   replace hAe:=Hld.mk hAe
   refine AW_seqt ⟨[(9,bA false),(5,segL L),(2,.ep (encH m)),(3,.ep (encE ⟨k,b,u,rem,add⟩)),(4,iA 0)],[]⟩ ?_ (by
    intro K hK
    repeat' (first
     |(with_reducible first|refine uK ?_|refine uQ ?_|refine uX ?_|refine jq fun K hK=>?_|refine jb ?_)|(with_reducible refine rS hE ?_;simp [*])|with_reducible refine rL hE ?_|(((with_reducible show RK _ _ _ _ _ _);first|refine jn ?_|refine js fun K' hK'=>?_);simp [*])|with_reducible refine rD mixed hE ?_|((with_reducible show RKQ _ _ _ _ _ _);first|refine RKQ_nilk ⟨by decide,?_⟩|(refine jv fun K' hK'=>?_;simp [*]))|((with_reducible first|refine ji fun X Y hX hY=>?_|refine jr ?_|refine jk ?_|refine jx ?_);simp [*])|with_reducible refine And.intro ?_ ?_|omega|(refine imp1 fun h=>?_))
    all_goals simp)
   refine AW_seqt ⟨[(9,bA AA),(5,segL L),(2,.ep (encH m)),(3,.ep (encE ⟨k,b,u,rem,add⟩)),(4,iA 0)],[]⟩ ?_ ?_
   rotate_left
   ·intro K hK
    repeat' (first
     |(with_reducible first|refine uK ?_|refine uQ ?_|refine uX ?_|refine jq fun K hK=>?_|refine jb ?_)|(with_reducible refine rS hE ?_;simp [*])|with_reducible refine rL hE ?_|(((with_reducible show RK _ _ _ _ _ _);first|refine jn ?_|refine js fun K' hK'=>?_);simp [*])|with_reducible refine rD mixed hE ?_|((with_reducible show RKQ _ _ _ _ _ _);first|refine RKQ_nilk ⟨by decide,?_⟩|(refine jv fun K' hK'=>?_;simp [*]))|((with_reducible first|refine ji fun X Y hX hY=>?_|refine jr ?_|refine jk ?_|refine jx ?_);simp [*])|with_reducible refine And.intro ?_ ?_|omega|(refine imp1 fun h=>?_))
    refine AW_loopk (G:=Nat) (fun q=>⟨[(10,iA q),(9,bA (A q)),(5,segL L),(2,.ep (encH m)),(3,.ep (encE ⟨k,b,u,rem,add⟩)),(4,iA 0)],[]⟩)
     (fun q=>q ≤ m.lists.length) (fun q=>m.lists.length - q) 0 (by omega) (by simp [hA0]) ?_
    intro q hq K2 hK2
    clear hA0
    by_cases hql : q < m.lists.length
    ·have hx:=Hld.mk (hha.out m.lists[q] (List.getElem_mem hql))
     have hs:=hAs.out q hql
     refine AW_seqt ⟨[(10,iA q),(9,bA (A q)),(5,segL L),(2,.ep (encH m)),(3,.ep (encE ⟨k,b,u,rem,add⟩)),(4,iA 0)],[]⟩ ?_ (by
      intro K3 hK3
      clear hs
      repeat' (first
       |(with_reducible first|refine uK ?_|refine uQ ?_|refine uX ?_|refine jq fun K hK=>?_|refine jb ?_)|(with_reducible refine rS hE ?_;simp [*])|with_reducible refine rL hE ?_|(((with_reducible show RK _ _ _ _ _ _);first|refine jn ?_|refine js fun K' hK'=>?_);simp [*])|with_reducible refine rD mixed hE ?_|((with_reducible show RKQ _ _ _ _ _ _);first|refine RKQ_nilk ⟨by decide,?_⟩|(refine jv fun K' hK'=>?_;simp [*]))|((with_reducible first|refine ji fun X Y hX hY=>?_|refine jr ?_|refine jk ?_|refine jx ?_);simp [*])|with_reducible refine And.intro ?_ ?_|omega|(refine imp1 fun h=>?_))
      all_goals simp)
     refine AW_seqt ⟨[(10,iA q),(9,bA (A (q + 1))),(5,segL L),(2,.ep (encH m)),(3,.ep (encE ⟨k,b,u,rem,add⟩)),(4,iA 0)],[]⟩ ?_ ?_
     ·clear hs
      repeat' (first
       |(with_reducible first|refine uK ?_|refine uQ ?_|refine uX ?_|refine jq fun K hK=>?_|refine jb ?_)|(with_reducible refine rS hE ?_;simp [*])|with_reducible refine rL hE ?_|(((with_reducible show RK _ _ _ _ _ _);first|refine jn ?_|refine js fun K' hK'=>?_);simp [*])|with_reducible refine rD mixed hE ?_|((with_reducible show RKQ _ _ _ _ _ _);first|refine RKQ_nilk ⟨by decide,?_⟩|(refine jv fun K' hK'=>?_;simp [*]))|((with_reducible first|refine ji fun X Y hX hY=>?_|refine jr ?_|refine jk ?_|refine jx ?_);simp [*])|with_reducible refine And.intro ?_ ?_|omega|(refine imp1 fun h=>?_))
      all_goals exact ⟨q + 1,by omega,by omega,by simp⟩
     ·intro K3 hK3
      refine AW_block ?_
      rw [hs] at hK3
      clear hs
      rcases hq1 : A q with _|_
      ·rw [hq1] at hK3
       refine AW_drawHd ⟨[(10,iA q),(9,bA false),(2,.ep (encH m)),(3,.ep (encE ⟨k,b,u,rem,add⟩))],[]⟩ mixed (by simp) fun E' hE'=>?_
       have hEn:=hE'.trans hE
       repeat' (first
        |(with_reducible first|refine useK (by assumption) ?_|refine useK3 (by assumption) ?_)|((with_reducible show DHd _ _ _ _ _ _ _);first|(refine DHd_done (by decide +kernel) ?_;try simp only [thenK,inBlk])|(refine dt hEn 0 fun K' hK'=>?_;simp [*];fail_if_success (with_reducible show False))|(refine dt hEn 1 fun K' hK'=>?_;simp [*];fail_if_success (with_reducible show False))|(refine dt hEn 2 fun K' hK'=>?_;simp [*];fail_if_success (with_reducible show False))|(refine dt hEn 3 fun K' hK'=>?_;simp [*];fail_if_success (with_reducible show False))|(refine dt hEn 4 fun K' hK'=>?_;simp [*];fail_if_success (with_reducible show False))|(refine dt hEn 5 fun K' hK'=>?_;simp [*];fail_if_success (with_reducible show False))|(refine dt hEn 6 fun K' hK'=>?_;simp [*];fail_if_success (with_reducible show False))|(refine dt hEn 7 fun K' hK'=>?_;simp [*];fail_if_success (with_reducible show False))|(refine dt hEn 8 fun K' hK'=>?_;simp [*];fail_if_success (with_reducible show False))|(refine dt hEn 9 fun K' hK'=>?_;simp [*];fail_if_success (with_reducible show False))|(refine dt hEn 10 fun K' hK'=>?_;simp [*];fail_if_success (with_reducible show False))|(refine dt hEn 11 fun K' hK'=>?_;simp [*];fail_if_success (with_reducible show False))|(refine DHd_takeG 0 (by exact rfl) (by decide +kernel) rfl (by exact rfl) rfl (by rw [hEn];decide) fun K' hK'=>?_;simp [*];fail_if_success (with_reducible show False))|(refine DHd_takeG 1 (by exact rfl) (by decide +kernel) rfl (by exact rfl) rfl (by rw [hEn];decide) fun K' hK'=>?_;simp [*];fail_if_success (with_reducible show False))|(refine DHd_takeG 2 (by exact rfl) (by decide +kernel) rfl (by exact rfl) rfl (by rw [hEn];decide) fun K' hK'=>?_;simp [*];fail_if_success (with_reducible show False))|(refine DHd_takeG 3 (by exact rfl) (by decide +kernel) rfl (by exact rfl) rfl (by rw [hEn];decide) fun K' hK'=>?_;simp [*];fail_if_success (with_reducible show False))|(refine DHd_takeG 4 (by exact rfl) (by decide +kernel) rfl (by exact rfl) rfl (by rw [hEn];decide) fun K' hK'=>?_;simp [*];fail_if_success (with_reducible show False))|(refine DHd_takeG 5 (by exact rfl) (by decide +kernel) rfl (by exact rfl) rfl (by rw [hEn];decide) fun K' hK'=>?_;simp [*];fail_if_success (with_reducible show False))|(refine DHd_takeG 6 (by exact rfl) (by decide +kernel) rfl (by exact rfl) rfl (by rw [hEn];decide) fun K' hK'=>?_;simp [*];fail_if_success (with_reducible show False))|(refine DHd_takeG 7 (by exact rfl) (by decide +kernel) rfl (by exact rfl) rfl (by rw [hEn];decide) fun K' hK'=>?_;simp [*];fail_if_success (with_reducible show False))|(refine DHd_takeG 8 (by exact rfl) (by decide +kernel) rfl (by exact rfl) rfl (by rw [hEn];decide) fun K' hK'=>?_;simp [*];fail_if_success (with_reducible show False))|(refine DHd_takeG 9 (by exact rfl) (by decide +kernel) rfl (by exact rfl) rfl (by rw [hEn];decide) fun K' hK'=>?_;simp [*];fail_if_success (with_reducible show False))|(refine DHd_takeG 10 (by exact rfl) (by decide +kernel) rfl (by exact rfl) rfl (by rw [hEn];decide) fun K' hK'=>?_;simp [*];fail_if_success (with_reducible show False))|(refine DHd_takeG 11 (by exact rfl) (by decide +kernel) rfl (by exact rfl) rfl (by rw [hEn];decide) fun K' hK'=>?_;simp [*];fail_if_success (with_reducible show False))|(refine dp hEn 0 fun K' hK'=>?_;simp [*];fail_if_success (with_reducible show False))|(refine dp hEn 1 fun K' hK'=>?_;simp [*];fail_if_success (with_reducible show False))|(refine dp hEn 2 fun K' hK'=>?_;simp [*];fail_if_success (with_reducible show False))|(refine dp hEn 3 fun K' hK'=>?_;simp [*];fail_if_success (with_reducible show False))|(refine dp hEn 4 fun K' hK'=>?_;simp [*];fail_if_success (with_reducible show False))|(refine dp hEn 5 fun K' hK'=>?_;simp [*];fail_if_success (with_reducible show False))|(refine dp hEn 6 fun K' hK'=>?_;simp [*];fail_if_success (with_reducible show False))|(refine dp hEn 7 fun K' hK'=>?_;simp [*];fail_if_success (with_reducible show False))|(refine dp hEn 8 fun K' hK'=>?_;simp [*];fail_if_success (with_reducible show False))|(refine dp hEn 9 fun K' hK'=>?_;simp [*];fail_if_success (with_reducible show False))|(refine dp hEn 10 fun K' hK'=>?_;simp [*];fail_if_success (with_reducible show False))|(refine dp hEn 11 fun K' hK'=>?_;simp [*];fail_if_success (with_reducible show False))|refine DHd_any rfl (by decide +kernel) ?_)|exact DHsome_nil|refine DHsome_no (by decide +kernel) ?_|(refine DHsome_yes (by exact rfl) rfl (by rw [hEn];decide) (fun K' hK'=>?_) ?_;simp [*];fail_if_success (with_reducible show False))|(refine DHsome_yesG (by exact rfl) rfl (by exact rfl) (by rw [hEn];decide) (fun K' hK'=>?_) ?_;simp [*];fail_if_success (with_reducible show False))|(refine acall_same (hx.out) ?_ ?_ ?_;(focus (simp [*] <;> fail));(focus (simp [*] <;> fail));simp [*])|(refine acall_view (hx.out) ?_ ?_ ?_;(focus (simp [*] <;> fail));(focus (simp [*] <;> fail));simp [*])|with_reducible refine And.intro ?_ ?_|omega|(with_reducible refine imp1 fun h=>?_))
       all_goals simp [*]
      ·rw [hq1] at hK3
       refine AW_drawHd ⟨[(10,iA q),(9,bA true),(2,.ep (encH m)),(3,.ep (encE ⟨k,b,u,rem,add⟩))],[]⟩ mixed (by simp) fun E' hE'=>?_
       have hEn:=hE'.trans hE
       repeat' (first
        |(with_reducible first|refine useK (by assumption) ?_|refine useK3 (by assumption) ?_)|((with_reducible show DHd _ _ _ _ _ _ _);first|(refine DHd_done (by decide +kernel) ?_;try simp only [thenK,inBlk])|(refine dt hEn 0 fun K' hK'=>?_;simp [*];fail_if_success (with_reducible show False))|(refine dt hEn 1 fun K' hK'=>?_;simp [*];fail_if_success (with_reducible show False))|(refine dt hEn 2 fun K' hK'=>?_;simp [*];fail_if_success (with_reducible show False))|(refine dt hEn 3 fun K' hK'=>?_;simp [*];fail_if_success (with_reducible show False))|(refine dt hEn 4 fun K' hK'=>?_;simp [*];fail_if_success (with_reducible show False))|(refine dt hEn 5 fun K' hK'=>?_;simp [*];fail_if_success (with_reducible show False))|(refine dt hEn 6 fun K' hK'=>?_;simp [*];fail_if_success (with_reducible show False))|(refine dt hEn 7 fun K' hK'=>?_;simp [*];fail_if_success (with_reducible show False))|(refine dt hEn 8 fun K' hK'=>?_;simp [*];fail_if_success (with_reducible show False))|(refine dt hEn 9 fun K' hK'=>?_;simp [*];fail_if_success (with_reducible show False))|(refine dt hEn 10 fun K' hK'=>?_;simp [*];fail_if_success (with_reducible show False))|(refine dt hEn 11 fun K' hK'=>?_;simp [*];fail_if_success (with_reducible show False))|(refine DHd_takeG 0 (by exact rfl) (by decide +kernel) rfl (by exact rfl) rfl (by rw [hEn];decide) fun K' hK'=>?_;simp [*];fail_if_success (with_reducible show False))|(refine DHd_takeG 1 (by exact rfl) (by decide +kernel) rfl (by exact rfl) rfl (by rw [hEn];decide) fun K' hK'=>?_;simp [*];fail_if_success (with_reducible show False))|(refine DHd_takeG 2 (by exact rfl) (by decide +kernel) rfl (by exact rfl) rfl (by rw [hEn];decide) fun K' hK'=>?_;simp [*];fail_if_success (with_reducible show False))|(refine DHd_takeG 3 (by exact rfl) (by decide +kernel) rfl (by exact rfl) rfl (by rw [hEn];decide) fun K' hK'=>?_;simp [*];fail_if_success (with_reducible show False))|(refine DHd_takeG 4 (by exact rfl) (by decide +kernel) rfl (by exact rfl) rfl (by rw [hEn];decide) fun K' hK'=>?_;simp [*];fail_if_success (with_reducible show False))|(refine DHd_takeG 5 (by exact rfl) (by decide +kernel) rfl (by exact rfl) rfl (by rw [hEn];decide) fun K' hK'=>?_;simp [*];fail_if_success (with_reducible show False))|(refine DHd_takeG 6 (by exact rfl) (by decide +kernel) rfl (by exact rfl) rfl (by rw [hEn];decide) fun K' hK'=>?_;simp [*];fail_if_success (with_reducible show False))|(refine DHd_takeG 7 (by exact rfl) (by decide +kernel) rfl (by exact rfl) rfl (by rw [hEn];decide) fun K' hK'=>?_;simp [*];fail_if_success (with_reducible show False))|(refine DHd_takeG 8 (by exact rfl) (by decide +kernel) rfl (by exact rfl) rfl (by rw [hEn];decide) fun K' hK'=>?_;simp [*];fail_if_success (with_reducible show False))|(refine DHd_takeG 9 (by exact rfl) (by decide +kernel) rfl (by exact rfl) rfl (by rw [hEn];decide) fun K' hK'=>?_;simp [*];fail_if_success (with_reducible show False))|(refine DHd_takeG 10 (by exact rfl) (by decide +kernel) rfl (by exact rfl) rfl (by rw [hEn];decide) fun K' hK'=>?_;simp [*];fail_if_success (with_reducible show False))|(refine DHd_takeG 11 (by exact rfl) (by decide +kernel) rfl (by exact rfl) rfl (by rw [hEn];decide) fun K' hK'=>?_;simp [*];fail_if_success (with_reducible show False))|(refine dp hEn 0 fun K' hK'=>?_;simp [*];fail_if_success (with_reducible show False))|(refine dp hEn 1 fun K' hK'=>?_;simp [*];fail_if_success (with_reducible show False))|(refine dp hEn 2 fun K' hK'=>?_;simp [*];fail_if_success (with_reducible show False))|(refine dp hEn 3 fun K' hK'=>?_;simp [*];fail_if_success (with_reducible show False))|(refine dp hEn 4 fun K' hK'=>?_;simp [*];fail_if_success (with_reducible show False))|(refine dp hEn 5 fun K' hK'=>?_;simp [*];fail_if_success (with_reducible show False))|(refine dp hEn 6 fun K' hK'=>?_;simp [*];fail_if_success (with_reducible show False))|(refine dp hEn 7 fun K' hK'=>?_;simp [*];fail_if_success (with_reducible show False))|(refine dp hEn 8 fun K' hK'=>?_;simp [*];fail_if_success (with_reducible show False))|(refine dp hEn 9 fun K' hK'=>?_;simp [*];fail_if_success (with_reducible show False))|(refine dp hEn 10 fun K' hK'=>?_;simp [*];fail_if_success (with_reducible show False))|(refine dp hEn 11 fun K' hK'=>?_;simp [*];fail_if_success (with_reducible show False))|refine DHd_any rfl (by decide +kernel) ?_)|exact DHsome_nil|refine DHsome_no (by decide +kernel) ?_|(refine DHsome_yes (by exact rfl) rfl (by rw [hEn];decide) (fun K' hK'=>?_) ?_;simp [*];fail_if_success (with_reducible show False))|(refine DHsome_yesG (by exact rfl) rfl (by exact rfl) (by rw [hEn];decide) (fun K' hK'=>?_) ?_;simp [*];fail_if_success (with_reducible show False))|(refine acall_same (hx.out) ?_ ?_ ?_;(focus (simp [*] <;> fail));(focus (simp [*] <;> fail));simp [*])|(refine acall_view (hx.out) ?_ ?_ ?_;(focus (simp [*] <;> fail));(focus (simp [*] <;> fail));simp [*])|with_reducible refine And.intro ?_ ?_|omega|(with_reducible refine imp1 fun h=>?_))
       all_goals simp [*]
    ·have hqe : q = m.lists.length:=by omega
     subst hqe
     repeat' (first
      |(with_reducible first|refine uK ?_|refine uQ ?_|refine uX ?_|refine jq fun K hK=>?_|refine jb ?_)|(with_reducible refine rS hE ?_;simp [*])|with_reducible refine rL hE ?_|(((with_reducible show RK _ _ _ _ _ _);first|refine jn ?_|refine js fun K' hK'=>?_);simp [*])|with_reducible refine rD mixed hE ?_|((with_reducible show RKQ _ _ _ _ _ _);first|refine RKQ_nilk ⟨by decide,?_⟩|(refine jv fun K' hK'=>?_;simp [*]))|((with_reducible first|refine ji fun X Y hX hY=>?_|refine jr ?_|refine jk ?_|refine jx ?_);simp [*])|with_reducible refine And.intro ?_ ?_|omega|(refine imp1 fun h=>?_))
     all_goals simp [hAe.out]
   clear hA0 hAs hAe hAA hha hrm
   by_cases g : k = 2 ∧ AA = false
   ·have hB9:=hrs.out hg0.out g.1 g.2
    obtain ⟨rfl,rfl⟩:=g
    repeat' (first
     |(with_reducible first|refine uK ?_|refine uQ ?_|refine uX ?_|refine jq fun K hK=>?_|refine jb ?_)|(with_reducible refine rS hE ?_;simp [*])|with_reducible refine rL hE ?_|(((with_reducible show RK _ _ _ _ _ _);first|refine jn ?_|refine js fun K' hK'=>?_);simp [*])|with_reducible refine rD mixed hE ?_|((with_reducible show RKQ _ _ _ _ _ _);first|refine RKQ_nilk ⟨by decide,?_⟩|(refine jv fun K' hK'=>?_;simp [*]))|((with_reducible first|refine ji fun X Y hX hY=>?_|refine jr ?_|refine jk ?_|refine jx ?_);simp [*])|with_reducible refine And.intro ?_ ?_|omega|(refine imp1 fun h=>?_))
   have g2 : k = 2 → AA = true:=fun hk=>by simpa [hk] using g
   obtain ⟨hr0,hBB⟩:=hrn.out hg0.out g2
   clear g hrn hrs hg0
   replace hBB:=Hld.mk hBB
   refine AW_seqt ⟨[(5,segL L),(2,.ep (encH m)),(3,.ep (encE ⟨k,b,u,rem,add⟩)),(4,iA 0)],[]⟩ ?_ (by
    intro K hK
    by_cases hk2 : k = 2
    ·have g3:=g2 hk2
     clear g2
     subst hk2 g3
     repeat' (first
      |(with_reducible first|refine uK ?_|refine uQ ?_|refine uX ?_|refine jq fun K hK=>?_|refine jb ?_)|(with_reducible refine rS hE ?_;simp [*])|with_reducible refine rL hE ?_|(((with_reducible show RK _ _ _ _ _ _);first|refine jn ?_|refine js fun K' hK'=>?_);simp [*])|with_reducible refine rD mixed hE ?_|((with_reducible show RKQ _ _ _ _ _ _);first|refine RKQ_nilk ⟨by decide,?_⟩|(refine jv fun K' hK'=>?_;simp [*]))|((with_reducible first|refine ji fun X Y hX hY=>?_|refine jr ?_|refine jk ?_|refine jx ?_);simp [*])|with_reducible refine And.intro ?_ ?_|omega|(refine imp1 fun h=>?_))
     all_goals simp
    ·clear g2
     repeat' (first
      |(with_reducible first|refine uK ?_|refine uQ ?_|refine uX ?_|refine jq fun K hK=>?_|refine jb ?_)|(with_reducible refine rS hE ?_;simp [*])|with_reducible refine rL hE ?_|(((with_reducible show RK _ _ _ _ _ _);first|refine jn ?_|refine js fun K' hK'=>?_);simp [*])|with_reducible refine rD mixed hE ?_|((with_reducible show RKQ _ _ _ _ _ _);first|refine RKQ_nilk ⟨by decide,?_⟩|(refine jv fun K' hK'=>?_;simp [*]))|((with_reducible first|refine ji fun X Y hX hY=>?_|refine jr ?_|refine jk ?_|refine jx ?_);simp [*])|with_reducible refine And.intro ?_ ?_|omega|(refine imp1 fun h=>?_))
     all_goals simp)
   clear g2
   refine AW_seqx (fun t=>t = ⟨[(5,segL L),(2,.ep (encH m)),(3,.ep (encE ⟨k,b,u,rem,add⟩)),(4,iA 0)],[]⟩ ∧ r2 = 0) ?_ ?_
   rotate_left
   ·intro K hK
    refine AW_seqt ⟨[(11,iA r2),(5,segL L),(2,.ep (encH m)),(3,.ep (encE ⟨k,b,u,rem,add⟩)),(4,iA 0)],[]⟩ ?_ (by
     intro K2 hK2
     refine AW_drawHd ⟨[(5,segL L),(2,.ep (encH m)),(3,.ep (encE ⟨k,b,u,rem,add⟩))],[]⟩ mixed (by simp) fun E' hE'=>?_
     have hEn:=hE'.trans hE
     repeat' (first
      |(with_reducible first|refine useK (by assumption) ?_|refine useK3 (by assumption) ?_)|((with_reducible show DHd _ _ _ _ _ _ _);first|(refine DHd_done (by decide +kernel) ?_;try simp only [thenK,inBlk])|(refine dt hEn 0 fun K' hK'=>?_;simp [*];fail_if_success (with_reducible show False))|(refine dt hEn 1 fun K' hK'=>?_;simp [*];fail_if_success (with_reducible show False))|(refine dt hEn 2 fun K' hK'=>?_;simp [*];fail_if_success (with_reducible show False))|(refine dt hEn 3 fun K' hK'=>?_;simp [*];fail_if_success (with_reducible show False))|(refine dt hEn 4 fun K' hK'=>?_;simp [*];fail_if_success (with_reducible show False))|(refine dt hEn 5 fun K' hK'=>?_;simp [*];fail_if_success (with_reducible show False))|(refine dt hEn 6 fun K' hK'=>?_;simp [*];fail_if_success (with_reducible show False))|(refine dt hEn 7 fun K' hK'=>?_;simp [*];fail_if_success (with_reducible show False))|(refine dp hEn 0 fun K' hK'=>?_;simp [*];fail_if_success (with_reducible show False))|(refine dp hEn 1 fun K' hK'=>?_;simp [*];fail_if_success (with_reducible show False))|(refine dp hEn 2 fun K' hK'=>?_;simp [*];fail_if_success (with_reducible show False))|(refine dp hEn 3 fun K' hK'=>?_;simp [*];fail_if_success (with_reducible show False))|(refine dp hEn 4 fun K' hK'=>?_;simp [*];fail_if_success (with_reducible show False))|(refine dp hEn 5 fun K' hK'=>?_;simp [*];fail_if_success (with_reducible show False))|(refine dp hEn 6 fun K' hK'=>?_;simp [*];fail_if_success (with_reducible show False))|(refine dp hEn 7 fun K' hK'=>?_;simp [*];fail_if_success (with_reducible show False))|refine DHd_any rfl (by decide +kernel) ?_)|exact DHsome_nil|refine DHsome_no (by decide +kernel) ?_|(refine DHsome_yes (by exact rfl) rfl (by rw [hEn];decide) (fun K' hK'=>?_) ?_;simp [*];fail_if_success (with_reducible show False))|(refine DHsome_yesG (by exact rfl) rfl (by exact rfl) (by rw [hEn];decide) (fun K' hK'=>?_) ?_;simp [*];fail_if_success (with_reducible show False))|(refine acall_same (hwc.out) ?_ ?_ ?_;(focus (simp [*] <;> fail));(focus (simp [*] <;> fail));simp [*])|(refine acall_view (hwc.out) ?_ ?_ ?_;(focus (simp [*] <;> fail));(focus (simp [*] <;> fail));simp [*])|(refine acall_same (hca.out) ?_ ?_ ?_;(focus (simp [*] <;> fail));(focus (simp [*] <;> fail));simp [*])|(refine acall_view (hca.out) ?_ ?_ ?_;(focus (simp [*] <;> fail));(focus (simp [*] <;> fail));simp [*])|with_reducible refine And.intro ?_ ?_|omega|(with_reducible refine imp1 fun h=>?_))
     all_goals simp)
    by_cases g : r2 = 0
    ·repeat' (first
      |(with_reducible first|refine uK ?_|refine uQ ?_|refine uX ?_|refine jq fun K hK=>?_|refine jb ?_)|(with_reducible refine rS hE ?_;simp [*])|with_reducible refine rL hE ?_|(((with_reducible show RK _ _ _ _ _ _);first|refine jn ?_|refine js fun K' hK'=>?_);simp [*])|with_reducible refine rD mixed hE ?_|((with_reducible show RKQ _ _ _ _ _ _);first|refine RKQ_nilk ⟨by decide,?_⟩|(refine jv fun K' hK'=>?_;simp [*]))|((with_reducible first|refine ji fun X Y hX hY=>?_|refine jr ?_|refine jk ?_|refine jx ?_);simp [*])|with_reducible refine And.intro ?_ ?_|omega|(refine imp1 fun h=>?_))
     all_goals exact ⟨_,⟨rfl,g⟩,by simp⟩
    ·have hB2 : B = r2:=by rw [hBB.out,if_pos g]
     repeat' (first
      |(with_reducible first|refine uK ?_|refine uQ ?_|refine uX ?_|refine jq fun K hK=>?_|refine jb ?_)|(with_reducible refine rS hE ?_;simp [*])|with_reducible refine rL hE ?_|(((with_reducible show RK _ _ _ _ _ _);first|refine jn ?_|refine js fun K' hK'=>?_);simp [*])|with_reducible refine rD mixed hE ?_|((with_reducible show RKQ _ _ _ _ _ _);first|refine RKQ_nilk ⟨by decide,?_⟩|(refine jv fun K' hK'=>?_;simp [*]))|((with_reducible first|refine ji fun X Y hX hY=>?_|refine jr ?_|refine jk ?_|refine jx ?_);simp [*])|with_reducible refine And.intro ?_ ?_|omega|(refine imp1 fun h=>?_))
   rintro t ⟨rfl,g⟩
   have hB3 : B = if k = 3 then 0 else r3:=by rw [hBB.out,if_neg (by simp [g])]
   clear hBB hca hwc g
   have hinu:=Hld.mk (s_in u 0 1073741824)
   by_cases g : k = 4 ∧ inB u 0 1073741824 = false
   ·have hB2 : B = 2:=by rw [hB3,hs2.out g.1 g.2]
    clear hB3
    rw [g.2] at hinu
    have g1:=g.1
    clear g
    repeat' (first
     |(with_reducible first|refine uK ?_|refine uQ ?_|refine uX ?_|refine jq fun K hK=>?_|refine jb ?_)|(with_reducible refine rS hE ?_;simp [*])|with_reducible refine rL hE ?_|(((with_reducible show RK _ _ _ _ _ _);first|refine jn ?_|refine js fun K' hK'=>?_);simp [*])|with_reducible refine rD mixed hE ?_|((with_reducible show RKQ _ _ _ _ _ _);first|refine RKQ_nilk ⟨by decide,?_⟩|(refine jv fun K' hK'=>?_;simp [*]))|((with_reducible first|refine ji fun X Y hX hY=>?_|refine jr ?_|refine jk ?_|refine jx ?_);simp [*])|((first|refine jC (hinu.out) ?_ ?_ ?_|refine jQ (hinu.out) ?_ ?_ ?_);(iterate 2 focus (simp [*] <;> fail));simp [*])|with_reducible refine And.intro ?_ ?_|omega|(refine imp1 fun h=>?_))
   have g2 : k = 4 → inB u 0 1073741824 = true:=fun hk=>by simpa [hk] using g
   rw [hsz.out hr0 g2] at hB3
   clear g hsz hs2 hr0
   replace hB3:=Hld.mk hB3
   refine AW_seqt ⟨[(5,segL L),(2,.ep (encH m)),(3,.ep (encE ⟨k,b,u,rem,add⟩)),(4,iA 0)],[]⟩ ?_ (by
    intro K hK
    by_cases hk4 : k = 4
    ·rw [g2 hk4] at hinu
     clear g2
     subst hk4
     repeat' (first
      |(with_reducible first|refine uK ?_|refine uQ ?_|refine uX ?_|refine jq fun K hK=>?_|refine jb ?_)|(with_reducible refine rS hE ?_;simp [*])|with_reducible refine rL hE ?_|(((with_reducible show RK _ _ _ _ _ _);first|refine jn ?_|refine js fun K' hK'=>?_);simp [*])|with_reducible refine rD mixed hE ?_|((with_reducible show RKQ _ _ _ _ _ _);first|refine RKQ_nilk ⟨by decide,?_⟩|(refine jv fun K' hK'=>?_;simp [*]))|((with_reducible first|refine ji fun X Y hX hY=>?_|refine jr ?_|refine jk ?_|refine jx ?_);simp [*])|((first|refine jC (hinu.out) ?_ ?_ ?_|refine jQ (hinu.out) ?_ ?_ ?_);(iterate 2 focus (simp [*] <;> fail));simp [*])|with_reducible refine And.intro ?_ ?_|omega|(refine imp1 fun h=>?_))
     all_goals simp
    ·clear g2
     repeat' (first
      |(with_reducible first|refine uK ?_|refine uQ ?_|refine uX ?_|refine jq fun K hK=>?_|refine jb ?_)|(with_reducible refine rS hE ?_;simp [*])|with_reducible refine rL hE ?_|(((with_reducible show RK _ _ _ _ _ _);first|refine jn ?_|refine js fun K' hK'=>?_);simp [*])|with_reducible refine rD mixed hE ?_|((with_reducible show RKQ _ _ _ _ _ _);first|refine RKQ_nilk ⟨by decide,?_⟩|(refine jv fun K' hK'=>?_;simp [*]))|((with_reducible first|refine ji fun X Y hX hY=>?_|refine jr ?_|refine jk ?_|refine jx ?_);simp [*])|((first|refine jC (hinu.out) ?_ ?_ ?_|refine jQ (hinu.out) ?_ ?_ ?_);(iterate 2 focus (simp [*] <;> fail));simp [*])|with_reducible refine And.intro ?_ ?_|omega|(refine imp1 fun h=>?_))
     all_goals simp)
   clear g2 hinu
   repeat' (first
    |(with_reducible first|refine uK ?_|refine uQ ?_|refine uX ?_|refine jq fun K hK=>?_|refine jb ?_)|(with_reducible refine rS hE ?_;simp [*])|with_reducible refine rL hE ?_|(((with_reducible show RK _ _ _ _ _ _);first|refine jn ?_|refine js fun K' hK'=>?_);simp [*])|with_reducible refine rD mixed hE ?_|((with_reducible show RKQ _ _ _ _ _ _);first|refine RKQ_nilk ⟨by decide,?_⟩|(refine jv fun K' hK'=>?_;simp [*]))|((with_reducible first|refine ji fun X Y hX hY=>?_|refine jr ?_|refine jk ?_|refine jx ?_);simp [*])|((first|refine jC (hap.out) ?_ ?_ ?_|refine jQ (hap.out) ?_ ?_ ?_);(iterate 2 focus (simp [*] <;> fail));simp [*])|with_reducible refine And.intro ?_ ?_|omega|(refine imp1 fun h=>?_))
   refine AW_loopk (G:=Nat) (fun i=>⟨[(13,iA i),(12,.loc 12 0),(4,iA 0)],[(12,.box 26 (encH m2))]⟩)
    (fun i=>i ≤ m2.lists.length ∧ Hld (∀ j (hj : j < m2.lists.length),j < i → m2.lists[j].length ≤ 256)) (fun i=>m2.lists.length - i) 0 ⟨by omega,⟨fun j hj h=>by omega⟩⟩ (by simp) ?_
   rintro i ⟨hi,hbef⟩ K hK
   by_cases hlt : i < m2.lists.length
   ·by_cases g : 256 < (m2.lists[i].length : Int)
    ·have hB2 : B = 3:=by
      rw [hB3.out,if_pos]
      rw [List.any_eq_true]
      exact ⟨_,List.getElem_mem hlt,by simp;omega⟩
     repeat' (first
      |(with_reducible first|refine uK ?_|refine uQ ?_|refine uX ?_|refine jq fun K hK=>?_|refine jb ?_)|(with_reducible refine rS hE ?_;simp [*])|with_reducible refine rL hE ?_|(((with_reducible show RK _ _ _ _ _ _);first|refine jn ?_|refine js fun K' hK'=>?_);simp [*])|with_reducible refine rD mixed hE ?_|((with_reducible show RKQ _ _ _ _ _ _);first|refine RKQ_nilk ⟨by decide,?_⟩|(refine jv fun K' hK'=>?_;simp [*]))|((with_reducible first|refine ji fun X Y hX hY=>?_|refine jr ?_|refine jk ?_|refine jx ?_);simp [*])|with_reducible refine And.intro ?_ ?_|omega|(refine imp1 fun h=>?_))
    ·have hnx : Hld (∀ j (hj : j < m2.lists.length),j < i + 1 → m2.lists[j].length ≤ 256):=⟨by
      intro j hj h
      rcases Nat.lt_succ_iff_lt_or_eq.1 h with h|rfl
      ·exact hbef.out j hj h
      ·omega⟩
     repeat' (first
      |(with_reducible first|refine uK ?_|refine uQ ?_|refine uX ?_|refine jq fun K hK=>?_|refine jb ?_)|(with_reducible refine rS hE ?_;simp [*])|with_reducible refine rL hE ?_|(((with_reducible show RK _ _ _ _ _ _);first|refine jn ?_|refine js fun K' hK'=>?_);simp [*])|with_reducible refine rD mixed hE ?_|((with_reducible show RKQ _ _ _ _ _ _);first|refine RKQ_nilk ⟨by decide,?_⟩|(refine jv fun K' hK'=>?_;simp [*]))|((with_reducible first|refine ji fun X Y hX hY=>?_|refine jr ?_|refine jk ?_|refine jx ?_);simp [*])|with_reducible refine And.intro ?_ ?_|omega|(refine imp1 fun h=>?_))
     all_goals exact ⟨i + 1,⟨by omega,hnx⟩,by omega,by simp⟩
   ·have hil : i = m2.lists.length:=by omega
    subst hil
    have hB2 : B = 0:=by
     rw [hB3.out,if_neg]
     rw [Bool.not_eq_true,List.any_eq_false]
     intro l hl
     obtain ⟨j,hj,rfl⟩:=List.getElem_of_mem hl
     have:=hbef.out j hj hj
     simp;omega
    clear hbef
    repeat' (first
     |(with_reducible first|refine uK ?_|refine uQ ?_|refine uX ?_|refine jq fun K hK=>?_|refine jb ?_)|(with_reducible refine rS hE ?_;simp [*])|with_reducible refine rL hE ?_|(((with_reducible show RK _ _ _ _ _ _);first|refine jn ?_|refine js fun K' hK'=>?_);simp [*])|with_reducible refine rD mixed hE ?_|((with_reducible show RKQ _ _ _ _ _ _);first|refine RKQ_nilk ⟨by decide,?_⟩|(refine jv fun K' hK'=>?_;simp [*]))|((with_reducible first|refine ji fun X Y hX hY=>?_|refine jr ?_|refine jk ?_|refine jx ?_);simp [*])|with_reducible refine And.intro ?_ ?_|omega|(refine imp1 fun h=>?_))
  ·intro K hK
   repeat' (first
    |(with_reducible first|refine uK ?_|refine uQ ?_|refine uX ?_|refine jq fun K hK=>?_|refine jb ?_)|(with_reducible refine rS hE ?_;simp [*])|with_reducible refine rL hE ?_|(((with_reducible show RK _ _ _ _ _ _);first|refine jn ?_|refine js fun K' hK'=>?_);simp [*])|with_reducible refine rD mixed hE ?_|((with_reducible show RKQ _ _ _ _ _ _);first|refine RKQ_nilk ⟨by decide,?_⟩|(refine jv fun K' hK'=>?_;simp [*]))|((with_reducible first|refine ji fun X Y hX hY=>?_|refine jr ?_|refine jk ?_|refine jx ?_);simp [*])|with_reducible refine And.intro ?_ ?_|omega|(refine imp1 fun h=>?_))
   refine AW_loopk (G:=Nat) (fun i=>⟨[(6,iA i),(5,segL L),(2,.ep (encH m)),(3,.ep (encE ⟨k,b,u,rem,add⟩)),(4,iA 0)],[]⟩)
    (fun i=>i ≤ rem.length ∧ Hld (remGo k L none rem = remGo k L (prv rem i) (rem.drop i))) (fun i=>rem.length - i) 0 ⟨by omega,⟨by simp [prv]⟩⟩ (by simp) ?_
   rintro i ⟨hi,hgo⟩ K2 hK2
   by_cases hlt : i < rem.length
   ·have hd : rem.drop i = rem[i] :: rem.drop (i + 1):=List.drop_eq_getElem_cons hlt
    have hgo2:=hgo.out
    rw [hd] at hgo2
    simp only [remGo] at hgo2
    clear hd hgo
    have hfi:=Hld.mk (hfind.out rem[i])
    have hcase : i = 0 ∨ ∃ j,i = j + 1 ∧ 0 < i ∧ j < rem.length:=by
     cases i with
     |zero=>exact .inl rfl
     |succ j=>exact .inr ⟨j,rfl,by omega,by omega⟩
    have hcs : (∃ j,∃ hj : j < rem.length,i = j + 1 ∧ rem[i] ≤ rem[j] ∧ B = 7) ∨ ((i = 0 ∨ ∃ j,∃ hj : j < rem.length,i = j + 1 ∧ ¬ rem[i] ≤ rem[j]) ∧ ((k = 1 ∧ hasB L rem[i] = false ∧ B = 9) ∨
     (Hld (remGo k L none rem = remGo k L (prv rem (i + 1)) (rem.drop (i + 1))) ∧ ((k = 1 ∧ hasB L rem[i] = true) ∨ ¬ k = 1)))):=by
     have step : (prv rem i).any (fun y=>decide (rem[i] ≤ y)) = false → ((k = 1 ∧ hasB L rem[i] = false ∧ B = 9) ∨
      (Hld (remGo k L none rem = remGo k L (prv rem (i + 1)) (rem.drop (i + 1))) ∧ ((k = 1 ∧ hasB L rem[i] = true) ∨ ¬ k = 1))):=by
      intro hp
      rw [hp] at hgo2
      simp only [Bool.false_eq_true,if_false] at hgo2
      by_cases g : k = 1 ∧ hasB L rem[i] = false
      ·rw [if_pos g] at hgo2
       refine .inl ⟨g.1,g.2,?_⟩
       rw [hrm.out (by rw [hgo2];omega),hgo2]
      ·rw [if_neg g] at hgo2
       refine .inr ⟨⟨by rw [hgo2,prv_succ hlt]⟩,?_⟩
       by_cases g1 : k = 1
       ·exact .inl ⟨g1,by simpa [g1] using g⟩
       ·exact .inr g1
     rcases hcase with rfl|⟨j,rfl,hp,hj⟩
     ·exact .inr ⟨.inl rfl,step (by simp [prv])⟩
     ·have hpv : prv rem (j + 1) = some rem[j]:=prv_succ hj
      by_cases g : rem[j + 1] ≤ rem[j]
      ·refine .inl ⟨j,hj,rfl,g,?_⟩
       rw [hpv] at hgo2
       simp only [Option.any_some,decide_eq_true_eq] at hgo2
       rw [if_pos g] at hgo2
       rw [hrm.out (by rw [hgo2];omega),hgo2]
      ·exact .inr ⟨.inr ⟨j,hj,rfl,g⟩,step (by rw [hpv];simpa using g)⟩
    clear hgo2 hcase
    rcases hcs with ⟨j,hj,rfl,g,hB7⟩|⟨hord,hcs⟩
    ·clear hfi
     repeat' (first
      |(with_reducible first|refine uK ?_|refine uQ ?_|refine uX ?_|refine jq fun K hK=>?_|refine jb ?_)|(with_reducible refine rS hE ?_;simp [*])|with_reducible refine rL hE ?_|(((with_reducible show RK _ _ _ _ _ _);first|refine jn ?_|refine js fun K' hK'=>?_);simp [*])|with_reducible refine rD mixed hE ?_|((with_reducible show RKQ _ _ _ _ _ _);first|refine RKQ_nilk ⟨by decide,?_⟩|(refine jv fun K' hK'=>?_;simp [*]))|((with_reducible first|refine ji fun X Y hX hY=>?_|refine jr ?_|refine jk ?_|refine jx ?_);simp [*])|with_reducible refine And.intro ?_ ?_|omega|(refine imp1 fun h=>?_))
    refine AW_seqt ⟨[(6,iA i),(5,segL L),(2,.ep (encH m)),(3,.ep (encE ⟨k,b,u,rem,add⟩)),(4,iA 0)],[]⟩ ?_ (by
     intro K3 hK3
     clear hord hcs
     repeat' (first
      |(with_reducible first|refine uK ?_|refine uQ ?_|refine uX ?_|refine jq fun K hK=>?_|refine jb ?_)|(with_reducible refine rS hE ?_;simp [*])|with_reducible refine rL hE ?_|(((with_reducible show RK _ _ _ _ _ _);first|refine jn ?_|refine js fun K' hK'=>?_);simp [*])|with_reducible refine rD mixed hE ?_|((with_reducible show RKQ _ _ _ _ _ _);first|refine RKQ_nilk ⟨by decide,?_⟩|(refine jv fun K' hK'=>?_;simp [*]))|((with_reducible first|refine ji fun X Y hX hY=>?_|refine jr ?_|refine jk ?_|refine jx ?_);simp [*])|with_reducible refine And.intro ?_ ?_|omega|(refine imp1 fun h=>?_))
     all_goals simp)
    refine AW_seqx (fun t=>t = ⟨[(6,iA i),(5,segL L),(2,.ep (encH m)),(3,.ep (encE ⟨k,b,u,rem,add⟩)),(4,iA 0)],[]⟩ ∧ Hld (remGo k L none rem = remGo k L (prv rem (i + 1)) (rem.drop (i + 1)))) ?_ ?_
    ·rintro t ⟨rfl,hnx⟩
     clear hord hcs
     repeat' (first
      |(with_reducible first|refine uK ?_|refine uQ ?_|refine uX ?_|refine jq fun K hK=>?_|refine jb ?_)|(with_reducible refine rS hE ?_;simp [*])|with_reducible refine rL hE ?_|(((with_reducible show RK _ _ _ _ _ _);first|refine jn ?_|refine js fun K' hK'=>?_);simp [*])|with_reducible refine rD mixed hE ?_|((with_reducible show RKQ _ _ _ _ _ _);first|refine RKQ_nilk ⟨by decide,?_⟩|(refine jv fun K' hK'=>?_;simp [*]))|((with_reducible first|refine ji fun X Y hX hY=>?_|refine jr ?_|refine jk ?_|refine jx ?_);simp [*])|with_reducible refine And.intro ?_ ?_|omega|(refine imp1 fun h=>?_))
     all_goals exact ⟨i + 1,⟨by omega,hnx⟩,by omega,by simp⟩
    intro K3 hK3
    refine AW_block ?_
    refine AW_seqt ⟨[(6,iA i),(5,segL L),(2,.ep (encH m)),(3,.ep (encE ⟨k,b,u,rem,add⟩)),(4,iA 0)],[]⟩ ?_ (by
     intro K4 hK4
     clear hcs
     rcases hord with rfl|⟨j,hj,rfl,g⟩
     ·repeat' (first
       |(with_reducible first|refine uK ?_|refine uQ ?_|refine uX ?_|refine jq fun K hK=>?_|refine jb ?_)|(with_reducible refine rS hE ?_;simp [*])|with_reducible refine rL hE ?_|(((with_reducible show RK _ _ _ _ _ _);first|refine jn ?_|refine js fun K' hK'=>?_);simp [*])|with_reducible refine rD mixed hE ?_|((with_reducible show RKQ _ _ _ _ _ _);first|refine RKQ_nilk ⟨by decide,?_⟩|(refine jv fun K' hK'=>?_;simp [*]))|((with_reducible first|refine ji fun X Y hX hY=>?_|refine jr ?_|refine jk ?_|refine jx ?_);simp [*])|with_reducible refine And.intro ?_ ?_|omega|(refine imp1 fun h=>?_))
      all_goals simp
     ·repeat' (first
       |(with_reducible first|refine uK ?_|refine uQ ?_|refine uX ?_|refine jq fun K hK=>?_|refine jb ?_)|(with_reducible refine rS hE ?_;simp [*])|with_reducible refine rL hE ?_|(((with_reducible show RK _ _ _ _ _ _);first|refine jn ?_|refine js fun K' hK'=>?_);simp [*])|with_reducible refine rD mixed hE ?_|((with_reducible show RKQ _ _ _ _ _ _);first|refine RKQ_nilk ⟨by decide,?_⟩|(refine jv fun K' hK'=>?_;simp [*]))|((with_reducible first|refine ji fun X Y hX hY=>?_|refine jr ?_|refine jk ?_|refine jx ?_);simp [*])|with_reducible refine And.intro ?_ ?_|omega|(refine imp1 fun h=>?_))
      all_goals simp)
    clear hord
    rcases hcs with ⟨rfl,g,hB9⟩|⟨hnx,⟨rfl,g⟩|g⟩
    ·rw [g] at hfi
     repeat' (first
      |(with_reducible first|refine uK ?_|refine uQ ?_|refine uX ?_|refine jq fun K hK=>?_|refine jb ?_)|(with_reducible refine rS hE ?_;simp [*])|with_reducible refine rL hE ?_|(((with_reducible show RK _ _ _ _ _ _);first|refine jn ?_|refine js fun K' hK'=>?_);simp [*])|with_reducible refine rD mixed hE ?_|((with_reducible show RKQ _ _ _ _ _ _);first|refine RKQ_nilk ⟨by decide,?_⟩|(refine jv fun K' hK'=>?_;simp [*]))|((with_reducible first|refine ji fun X Y hX hY=>?_|refine jr ?_|refine jk ?_|refine jx ?_);simp [*])|((first|refine jC (hfi.out) ?_ ?_ ?_|refine jQ (hfi.out) ?_ ?_ ?_);(iterate 2 focus (simp [*] <;> fail));simp [*])|with_reducible refine And.intro ?_ ?_|omega|(refine imp1 fun h=>?_))
    ·rw [g] at hfi
     repeat' (first
      |(with_reducible first|refine uK ?_|refine uQ ?_|refine uX ?_|refine jq fun K hK=>?_|refine jb ?_)|(with_reducible refine rS hE ?_;simp [*])|with_reducible refine rL hE ?_|(((with_reducible show RK _ _ _ _ _ _);first|refine jn ?_|refine js fun K' hK'=>?_);simp [*])|with_reducible refine rD mixed hE ?_|((with_reducible show RKQ _ _ _ _ _ _);first|refine RKQ_nilk ⟨by decide,?_⟩|(refine jv fun K' hK'=>?_;simp [*]))|((with_reducible first|refine ji fun X Y hX hY=>?_|refine jr ?_|refine jk ?_|refine jx ?_);simp [*])|((first|refine jC (hfi.out) ?_ ?_ ?_|refine jQ (hfi.out) ?_ ?_ ?_);(iterate 2 focus (simp [*] <;> fail));simp [*])|with_reducible refine And.intro ?_ ?_|omega|(refine imp1 fun h=>?_))
     all_goals exact ⟨_,⟨rfl,hnx⟩,by simp⟩
    ·rcases g2 : hasB L rem[i] with _|_
     ·rw [g2] at hfi
      repeat' (first
       |(with_reducible first|refine uK ?_|refine uQ ?_|refine uX ?_|refine jq fun K hK=>?_|refine jb ?_)|(with_reducible refine rS hE ?_;simp [*])|with_reducible refine rL hE ?_|(((with_reducible show RK _ _ _ _ _ _);first|refine jn ?_|refine js fun K' hK'=>?_);simp [*])|with_reducible refine rD mixed hE ?_|((with_reducible show RKQ _ _ _ _ _ _);first|refine RKQ_nilk ⟨by decide,?_⟩|(refine jv fun K' hK'=>?_;simp [*]))|((with_reducible first|refine ji fun X Y hX hY=>?_|refine jr ?_|refine jk ?_|refine jx ?_);simp [*])|((first|refine jC (hfi.out) ?_ ?_ ?_|refine jQ (hfi.out) ?_ ?_ ?_);(iterate 2 focus (simp [*] <;> fail));simp [*])|with_reducible refine And.intro ?_ ?_|omega|(refine imp1 fun h=>?_))
      all_goals exact ⟨_,⟨rfl,hnx⟩,by simp⟩
     ·rw [g2] at hfi
      repeat' (first
       |(with_reducible first|refine uK ?_|refine uQ ?_|refine uX ?_|refine jq fun K hK=>?_|refine jb ?_)|(with_reducible refine rS hE ?_;simp [*])|with_reducible refine rL hE ?_|(((with_reducible show RK _ _ _ _ _ _);first|refine jn ?_|refine js fun K' hK'=>?_);simp [*])|with_reducible refine rD mixed hE ?_|((with_reducible show RKQ _ _ _ _ _ _);first|refine RKQ_nilk ⟨by decide,?_⟩|(refine jv fun K' hK'=>?_;simp [*]))|((with_reducible first|refine ji fun X Y hX hY=>?_|refine jr ?_|refine jk ?_|refine jx ?_);simp [*])|((first|refine jC (hfi.out) ?_ ?_ ?_|refine jQ (hfi.out) ?_ ?_ ?_);(iterate 2 focus (simp [*] <;> fail));simp [*])|with_reducible refine And.intro ?_ ?_|omega|(refine imp1 fun h=>?_))
      all_goals exact ⟨_,⟨rfl,hnx⟩,by simp⟩
   ·have hil : i = rem.length:=by omega
    subst hil
    have hgo2:=hgo.out
    rw [List.drop_length] at hgo2
    simp only [remGo] at hgo2
    replace hgo2:=Hld.mk hgo2
    clear hgo
    repeat' (first
     |(with_reducible first|refine uK ?_|refine uQ ?_|refine uX ?_|refine jq fun K hK=>?_|refine jb ?_)|(with_reducible refine rS hE ?_;simp [*])|with_reducible refine rL hE ?_|(((with_reducible show RK _ _ _ _ _ _);first|refine jn ?_|refine js fun K' hK'=>?_);simp [*])|with_reducible refine rD mixed hE ?_|((with_reducible show RKQ _ _ _ _ _ _);first|refine RKQ_nilk ⟨by decide,?_⟩|(refine jv fun K' hK'=>?_;simp [*]))|((with_reducible first|refine ji fun X Y hX hY=>?_|refine jr ?_|refine jk ?_|refine jx ?_);simp [*])|with_reducible refine And.intro ?_ ?_|omega|(refine imp1 fun h=>?_))
    all_goals exact ⟨_,⟨rfl,hgo2.out⟩,by simp⟩
 ·intro K hK
  have hK0 : beliefE m e = 0 → Kont K (fun s'=>s'.le (ckT m e)):=fun hb=>⟨fun s' hs=>hK.h s' ⟨_,⟨rfl,hb⟩,hs⟩⟩
  clear hK
  have hBb : beliefE m e ≠ 0 → B = beliefE m e:=fun hb=>by rw [hB,if_pos hb]
  have hun : untB m = true → m = ⟨0,0,[[]]⟩:=unt_of h
  have hun2 : untB m = false → ¬ m.first = 0 ∨ (m.first = 0 ∧ ¬ m.used = 0) ∨ (m.first = 0 ∧ m.used = 0 ∧ ¬ (m.lists.length : Int) = 1) ∨ (m.first = 0 ∧ m.used = 0 ∧ (m.lists.length : Int) = 1 ∧ ∃ hz : 0 < m.lists.length,¬ m.lists[0] = []):=by
   intro hu
   by_cases a : m.first = 0
   ·by_cases b : m.used = 0
    ·by_cases c : m.lists.length = 1
     ·refine .inr (.inr (.inr ⟨a,b,by omega,h3,fun g=>?_⟩))
      unfold untB at hu
      rw [List.getD_eq_getElem?_getD,List.getElem?_eq_getElem h3] at hu
      simp [a,b,c,g] at hu
     ·exact .inr (.inr (.inl ⟨a,b,by omega⟩))
    ·exact .inr (.inl ⟨a,b⟩)
   ·exact .inl a
  clear hB hi
  obtain ⟨k,b,u,rem,add⟩:=e
  simp only at *
  rcases hkk with hkk|hkk|hkk|hkk <;> simp only at hkk <;> subst hkk
  ·have hb2 : beliefE m ⟨1,b,u,rem,add⟩ = if b = lastB m + 1 then (if 256 ≤ (m.lists.length : Int) then 3 else 0) else 35:=by
    have e1 : (256 ≤ (m.lists.length : Int)) ↔ 256 ≤ m.lists.length:=by omega
    simp only [beliefE,e1]
    by_cases c1 : b = lastB m + 1 <;> by_cases c2 : 256 ≤ m.lists.length <;> simp [c1,c2]
   clear hun hun2
   generalize beliefE m ⟨1,b,u,rem,add⟩ = X at *
   by_cases c1 : b = lastB m + 1
   ·rw [if_pos c1] at hb2
    by_cases c2 : 256 ≤ (m.lists.length : Int)
    ·rw [if_pos c2] at hb2
     subst hb2
     have hB2:=hBb (by omega)
     clear hBb hK0
     repeat' (first
      |(with_reducible first|refine uK ?_|refine uQ ?_|refine uX ?_|refine jq fun K hK=>?_|refine jb ?_)|(with_reducible refine rS hE ?_;simp [*])|with_reducible refine rL hE ?_|(((with_reducible show RK _ _ _ _ _ _);first|refine jn ?_|refine js fun K' hK'=>?_);simp [*])|with_reducible refine rD mixed hE ?_|((with_reducible show RKQ _ _ _ _ _ _);first|refine RKQ_nilk ⟨by decide,?_⟩|(refine jv fun K' hK'=>?_;simp [*]))|((with_reducible first|refine ji fun X Y hX hY=>?_|refine jr ?_|refine jk ?_|refine jx ?_);simp [*])|((first|refine acall_same (s_in _ _ _) ?_ ?_ ?_|refine call_same (s_in _ _ _) ?_ ?_ ?_);(iterate 2 focus (simp [*] <;> fail));simp [*])|((first|refine acall_view (s_in _ _ _) ?_ ?_ ?_|refine call_view (s_in _ _ _) ?_ ?_ ?_);(iterate 2 focus (simp [*] <;> fail));simp [*])|((first|refine jC (hff.out) ?_ ?_ ?_|refine jQ (hff.out) ?_ ?_ ?_);(iterate 2 focus (simp [*] <;> fail));simp [*])|((first|refine jC (hlast.out) ?_ ?_ ?_|refine jQ (hlast.out) ?_ ?_ ?_);(iterate 2 focus (simp [*] <;> fail));simp [*])|with_reducible refine And.intro ?_ ?_|omega|(refine imp1 fun h=>?_))
    ·rw [if_neg c2] at hb2
     have hK:=hK0 hb2
     clear hBb hK0
     subst c1
     repeat' (first
      |(with_reducible first|refine uK ?_|refine uQ ?_|refine uX ?_|refine jq fun K hK=>?_|refine jb ?_)|(with_reducible refine rS hE ?_;simp [*])|with_reducible refine rL hE ?_|(((with_reducible show RK _ _ _ _ _ _);first|refine jn ?_|refine js fun K' hK'=>?_);simp [*])|with_reducible refine rD mixed hE ?_|((with_reducible show RKQ _ _ _ _ _ _);first|refine RKQ_nilk ⟨by decide,?_⟩|(refine jv fun K' hK'=>?_;simp [*]))|((with_reducible first|refine ji fun X Y hX hY=>?_|refine jr ?_|refine jk ?_|refine jx ?_);simp [*])|((first|refine acall_same (s_in _ _ _) ?_ ?_ ?_|refine call_same (s_in _ _ _) ?_ ?_ ?_);(iterate 2 focus (simp [*] <;> fail));simp [*])|((first|refine acall_view (s_in _ _ _) ?_ ?_ ?_|refine call_view (s_in _ _ _) ?_ ?_ ?_);(iterate 2 focus (simp [*] <;> fail));simp [*])|((first|refine jC (hff.out) ?_ ?_ ?_|refine jQ (hff.out) ?_ ?_ ?_);(iterate 2 focus (simp [*] <;> fail));simp [*])|((first|refine jC (hlast.out) ?_ ?_ ?_|refine jQ (hlast.out) ?_ ?_ ?_);(iterate 2 focus (simp [*] <;> fail));simp [*])|with_reducible refine And.intro ?_ ?_|omega|(refine imp1 fun h=>?_))
     all_goals simp
   ·rw [if_neg c1] at hb2
    subst hb2
    have hB2:=hBb (by omega)
    clear hBb hK0
    repeat' (first
     |(with_reducible first|refine uK ?_|refine uQ ?_|refine uX ?_|refine jq fun K hK=>?_|refine jb ?_)|(with_reducible refine rS hE ?_;simp [*])|with_reducible refine rL hE ?_|(((with_reducible show RK _ _ _ _ _ _);first|refine jn ?_|refine js fun K' hK'=>?_);simp [*])|with_reducible refine rD mixed hE ?_|((with_reducible show RKQ _ _ _ _ _ _);first|refine RKQ_nilk ⟨by decide,?_⟩|(refine jv fun K' hK'=>?_;simp [*]))|((with_reducible first|refine ji fun X Y hX hY=>?_|refine jr ?_|refine jk ?_|refine jx ?_);simp [*])|((first|refine acall_same (s_in _ _ _) ?_ ?_ ?_|refine call_same (s_in _ _ _) ?_ ?_ ?_);(iterate 2 focus (simp [*] <;> fail));simp [*])|((first|refine acall_view (s_in _ _ _) ?_ ?_ ?_|refine call_view (s_in _ _ _) ?_ ?_ ?_);(iterate 2 focus (simp [*] <;> fail));simp [*])|((first|refine jC (hff.out) ?_ ?_ ?_|refine jQ (hff.out) ?_ ?_ ?_);(iterate 2 focus (simp [*] <;> fail));simp [*])|((first|refine jC (hlast.out) ?_ ?_ ?_|refine jQ (hlast.out) ?_ ?_ ?_);(iterate 2 focus (simp [*] <;> fail));simp [*])|with_reducible refine And.intro ?_ ?_|omega|(refine imp1 fun h=>?_))
  ·have hb2 : beliefE m ⟨2,b,u,rem,add⟩ = if rem = [] then 10 else 0:=by simp [beliefE]
   clear hun hun2
   generalize beliefE m ⟨2,b,u,rem,add⟩ = X at *
   by_cases c1 : rem = []
   ·rw [if_pos c1] at hb2
    subst hb2 c1
    have hB2:=hBb (by omega)
    clear hBb hK0
    repeat' (first
     |(with_reducible first|refine uK ?_|refine uQ ?_|refine uX ?_|refine jq fun K hK=>?_|refine jb ?_)|(with_reducible refine rS hE ?_;simp [*])|with_reducible refine rL hE ?_|(((with_reducible show RK _ _ _ _ _ _);first|refine jn ?_|refine js fun K' hK'=>?_);simp [*])|with_reducible refine rD mixed hE ?_|((with_reducible show RKQ _ _ _ _ _ _);first|refine RKQ_nilk ⟨by decide,?_⟩|(refine jv fun K' hK'=>?_;simp [*]))|((with_reducible first|refine ji fun X Y hX hY=>?_|refine jr ?_|refine jk ?_|refine jx ?_);simp [*])|((first|refine acall_same (s_in _ _ _) ?_ ?_ ?_|refine call_same (s_in _ _ _) ?_ ?_ ?_);(iterate 2 focus (simp [*] <;> fail));simp [*])|((first|refine acall_view (s_in _ _ _) ?_ ?_ ?_|refine call_view (s_in _ _ _) ?_ ?_ ?_);(iterate 2 focus (simp [*] <;> fail));simp [*])|((first|refine jC (hff.out) ?_ ?_ ?_|refine jQ (hff.out) ?_ ?_ ?_);(iterate 2 focus (simp [*] <;> fail));simp [*])|((first|refine jC (hlast.out) ?_ ?_ ?_|refine jQ (hlast.out) ?_ ?_ ?_);(iterate 2 focus (simp [*] <;> fail));simp [*])|with_reducible refine And.intro ?_ ?_|omega|(refine imp1 fun h=>?_))
   ·rw [if_neg c1] at hb2
    have hK:=hK0 hb2
    clear hBb hK0
    repeat' (first
     |(with_reducible first|refine uK ?_|refine uQ ?_|refine uX ?_|refine jq fun K hK=>?_|refine jb ?_)|(with_reducible refine rS hE ?_;simp [*])|with_reducible refine rL hE ?_|(((with_reducible show RK _ _ _ _ _ _);first|refine jn ?_|refine js fun K' hK'=>?_);simp [*])|with_reducible refine rD mixed hE ?_|((with_reducible show RKQ _ _ _ _ _ _);first|refine RKQ_nilk ⟨by decide,?_⟩|(refine jv fun K' hK'=>?_;simp [*]))|((with_reducible first|refine ji fun X Y hX hY=>?_|refine jr ?_|refine jk ?_|refine jx ?_);simp [*])|((first|refine acall_same (s_in _ _ _) ?_ ?_ ?_|refine call_same (s_in _ _ _) ?_ ?_ ?_);(iterate 2 focus (simp [*] <;> fail));simp [*])|((first|refine acall_view (s_in _ _ _) ?_ ?_ ?_|refine call_view (s_in _ _ _) ?_ ?_ ?_);(iterate 2 focus (simp [*] <;> fail));simp [*])|((first|refine jC (hff.out) ?_ ?_ ?_|refine jQ (hff.out) ?_ ?_ ?_);(iterate 2 focus (simp [*] <;> fail));simp [*])|((first|refine jC (hlast.out) ?_ ?_ ?_|refine jQ (hlast.out) ?_ ?_ ?_);(iterate 2 focus (simp [*] <;> fail));simp [*])|with_reducible refine And.intro ?_ ?_|omega|(refine imp1 fun h=>?_))
    all_goals simp
  ·have hb2 : beliefE m ⟨3,b,u,rem,add⟩ = if inB b m.first (lastB m) = true then 0 else 35:=by
    simp only [beliefE]
    rcases inB b m.first (lastB m) <;> simp
   clear hun hun2
   generalize beliefE m ⟨3,b,u,rem,add⟩ = X at *
   have hin:=Hld.mk (s_in b m.first (lastB m))
   rcases c1 : inB b m.first (lastB m) with _|_
   ·rw [c1] at hin hb2
    simp at hb2
    subst hb2
    have hB2:=hBb (by omega)
    clear hBb hK0
    repeat' (first
     |(with_reducible first|refine uK ?_|refine uQ ?_|refine uX ?_|refine jq fun K hK=>?_|refine jb ?_)|(with_reducible refine rS hE ?_;simp [*])|with_reducible refine rL hE ?_|(((with_reducible show RK _ _ _ _ _ _);first|refine jn ?_|refine js fun K' hK'=>?_);simp [*])|with_reducible refine rD mixed hE ?_|((with_reducible show RKQ _ _ _ _ _ _);first|refine RKQ_nilk ⟨by decide,?_⟩|(refine jv fun K' hK'=>?_;simp [*]))|((with_reducible first|refine ji fun X Y hX hY=>?_|refine jr ?_|refine jk ?_|refine jx ?_);simp [*])|((first|refine jC (hin.out) ?_ ?_ ?_|refine jQ (hin.out) ?_ ?_ ?_);(iterate 2 focus (simp [*] <;> fail));simp [*])|((first|refine acall_same (s_in _ _ _) ?_ ?_ ?_|refine call_same (s_in _ _ _) ?_ ?_ ?_);(iterate 2 focus (simp [*] <;> fail));simp [*])|((first|refine acall_view (s_in _ _ _) ?_ ?_ ?_|refine call_view (s_in _ _ _) ?_ ?_ ?_);(iterate 2 focus (simp [*] <;> fail));simp [*])|((first|refine jC (hff.out) ?_ ?_ ?_|refine jQ (hff.out) ?_ ?_ ?_);(iterate 2 focus (simp [*] <;> fail));simp [*])|((first|refine jC (hlast.out) ?_ ?_ ?_|refine jQ (hlast.out) ?_ ?_ ?_);(iterate 2 focus (simp [*] <;> fail));simp [*])|with_reducible refine And.intro ?_ ?_|omega|(refine imp1 fun h=>?_))
   ·rw [c1] at hin hb2
    simp at hb2
    have hK:=hK0 hb2
    clear hBb hK0
    repeat' (first
     |(with_reducible first|refine uK ?_|refine uQ ?_|refine uX ?_|refine jq fun K hK=>?_|refine jb ?_)|(with_reducible refine rS hE ?_;simp [*])|with_reducible refine rL hE ?_|(((with_reducible show RK _ _ _ _ _ _);first|refine jn ?_|refine js fun K' hK'=>?_);simp [*])|with_reducible refine rD mixed hE ?_|((with_reducible show RKQ _ _ _ _ _ _);first|refine RKQ_nilk ⟨by decide,?_⟩|(refine jv fun K' hK'=>?_;simp [*]))|((with_reducible first|refine ji fun X Y hX hY=>?_|refine jr ?_|refine jk ?_|refine jx ?_);simp [*])|((first|refine jC (hin.out) ?_ ?_ ?_|refine jQ (hin.out) ?_ ?_ ?_);(iterate 2 focus (simp [*] <;> fail));simp [*])|((first|refine acall_same (s_in _ _ _) ?_ ?_ ?_|refine call_same (s_in _ _ _) ?_ ?_ ?_);(iterate 2 focus (simp [*] <;> fail));simp [*])|((first|refine acall_view (s_in _ _ _) ?_ ?_ ?_|refine call_view (s_in _ _ _) ?_ ?_ ?_);(iterate 2 focus (simp [*] <;> fail));simp [*])|((first|refine jC (hff.out) ?_ ?_ ?_|refine jQ (hff.out) ?_ ?_ ?_);(iterate 2 focus (simp [*] <;> fail));simp [*])|((first|refine jC (hlast.out) ?_ ?_ ?_|refine jQ (hlast.out) ?_ ?_ ?_);(iterate 2 focus (simp [*] <;> fail));simp [*])|with_reducible refine And.intro ?_ ?_|omega|(refine imp1 fun h=>?_))
    all_goals simp
  ·have hb2 : beliefE m ⟨4,b,u,rem,add⟩ = if untB m = true then (if inB b 0 1073741824 = true then 0 else 35) else 18:=by
    simp only [beliefE]
    rcases untB m <;> rcases inB b 0 1073741824 <;> simp
   generalize beliefE m ⟨4,b,u,rem,add⟩ = X at *
   have hin:=Hld.mk (s_in b 0 1073741824)
   rcases c0 : untB m with _|_
   ·rw [c0] at hb2
    simp at hb2
    subst hb2
    have hB2:=hBb (by omega)
    clear hBb hK0 hun
    rcases hun2 c0 with c|⟨c,d⟩|⟨c,d,f⟩|⟨c,d,f,hz,g⟩
    all_goals clear hun2
    ·repeat' (first
      |(with_reducible first|refine uK ?_|refine uQ ?_|refine uX ?_|refine jq fun K hK=>?_|refine jb ?_)|(with_reducible refine rS hE ?_;simp [*])|with_reducible refine rL hE ?_|(((with_reducible show RK _ _ _ _ _ _);first|refine jn ?_|refine js fun K' hK'=>?_);simp [*])|with_reducible refine rD mixed hE ?_|((with_reducible show RKQ _ _ _ _ _ _);first|refine RKQ_nilk ⟨by decide,?_⟩|(refine jv fun K' hK'=>?_;simp [*]))|((with_reducible first|refine ji fun X Y hX hY=>?_|refine jr ?_|refine jk ?_|refine jx ?_);simp [*])|((first|refine acall_same (s_in _ _ _) ?_ ?_ ?_|refine call_same (s_in _ _ _) ?_ ?_ ?_);(iterate 2 focus (simp [*] <;> fail));simp [*])|((first|refine acall_view (s_in _ _ _) ?_ ?_ ?_|refine call_view (s_in _ _ _) ?_ ?_ ?_);(iterate 2 focus (simp [*] <;> fail));simp [*])|((first|refine jC (hff.out) ?_ ?_ ?_|refine jQ (hff.out) ?_ ?_ ?_);(iterate 2 focus (simp [*] <;> fail));simp [*])|((first|refine jC (hlast.out) ?_ ?_ ?_|refine jQ (hlast.out) ?_ ?_ ?_);(iterate 2 focus (simp [*] <;> fail));simp [*])|with_reducible refine And.intro ?_ ?_|omega|(refine imp1 fun h=>?_))
    ·repeat' (first
      |(with_reducible first|refine uK ?_|refine uQ ?_|refine uX ?_|refine jq fun K hK=>?_|refine jb ?_)|(with_reducible refine rS hE ?_;simp [*])|with_reducible refine rL hE ?_|(((with_reducible show RK _ _ _ _ _ _);first|refine jn ?_|refine js fun K' hK'=>?_);simp [*])|with_reducible refine rD mixed hE ?_|((with_reducible show RKQ _ _ _ _ _ _);first|refine RKQ_nilk ⟨by decide,?_⟩|(refine jv fun K' hK'=>?_;simp [*]))|((with_reducible first|refine ji fun X Y hX hY=>?_|refine jr ?_|refine jk ?_|refine jx ?_);simp [*])|((first|refine acall_same (s_in _ _ _) ?_ ?_ ?_|refine call_same (s_in _ _ _) ?_ ?_ ?_);(iterate 2 focus (simp [*] <;> fail));simp [*])|((first|refine acall_view (s_in _ _ _) ?_ ?_ ?_|refine call_view (s_in _ _ _) ?_ ?_ ?_);(iterate 2 focus (simp [*] <;> fail));simp [*])|((first|refine jC (hff.out) ?_ ?_ ?_|refine jQ (hff.out) ?_ ?_ ?_);(iterate 2 focus (simp [*] <;> fail));simp [*])|((first|refine jC (hlast.out) ?_ ?_ ?_|refine jQ (hlast.out) ?_ ?_ ?_);(iterate 2 focus (simp [*] <;> fail));simp [*])|with_reducible refine And.intro ?_ ?_|omega|(refine imp1 fun h=>?_))
    ·repeat' (first
      |(with_reducible first|refine uK ?_|refine uQ ?_|refine uX ?_|refine jq fun K hK=>?_|refine jb ?_)|(with_reducible refine rS hE ?_;simp [*])|with_reducible refine rL hE ?_|(((with_reducible show RK _ _ _ _ _ _);first|refine jn ?_|refine js fun K' hK'=>?_);simp [*])|with_reducible refine rD mixed hE ?_|((with_reducible show RKQ _ _ _ _ _ _);first|refine RKQ_nilk ⟨by decide,?_⟩|(refine jv fun K' hK'=>?_;simp [*]))|((with_reducible first|refine ji fun X Y hX hY=>?_|refine jr ?_|refine jk ?_|refine jx ?_);simp [*])|((first|refine acall_same (s_in _ _ _) ?_ ?_ ?_|refine call_same (s_in _ _ _) ?_ ?_ ?_);(iterate 2 focus (simp [*] <;> fail));simp [*])|((first|refine acall_view (s_in _ _ _) ?_ ?_ ?_|refine call_view (s_in _ _ _) ?_ ?_ ?_);(iterate 2 focus (simp [*] <;> fail));simp [*])|((first|refine jC (hff.out) ?_ ?_ ?_|refine jQ (hff.out) ?_ ?_ ?_);(iterate 2 focus (simp [*] <;> fail));simp [*])|((first|refine jC (hlast.out) ?_ ?_ ?_|refine jQ (hlast.out) ?_ ?_ ?_);(iterate 2 focus (simp [*] <;> fail));simp [*])|with_reducible refine And.intro ?_ ?_|omega|(refine imp1 fun h=>?_))
    ·repeat' (first
      |(with_reducible first|refine uK ?_|refine uQ ?_|refine uX ?_|refine jq fun K hK=>?_|refine jb ?_)|(with_reducible refine rS hE ?_;simp [*])|with_reducible refine rL hE ?_|(((with_reducible show RK _ _ _ _ _ _);first|refine jn ?_|refine js fun K' hK'=>?_);simp [*])|with_reducible refine rD mixed hE ?_|((with_reducible show RKQ _ _ _ _ _ _);first|refine RKQ_nilk ⟨by decide,?_⟩|(refine jv fun K' hK'=>?_;simp [*]))|((with_reducible first|refine ji fun X Y hX hY=>?_|refine jr ?_|refine jk ?_|refine jx ?_);simp [*])|((first|refine acall_same (s_in _ _ _) ?_ ?_ ?_|refine call_same (s_in _ _ _) ?_ ?_ ?_);(iterate 2 focus (simp [*] <;> fail));simp [*])|((first|refine acall_view (s_in _ _ _) ?_ ?_ ?_|refine call_view (s_in _ _ _) ?_ ?_ ?_);(iterate 2 focus (simp [*] <;> fail));simp [*])|((first|refine jC (hff.out) ?_ ?_ ?_|refine jQ (hff.out) ?_ ?_ ?_);(iterate 2 focus (simp [*] <;> fail));simp [*])|((first|refine jC (hlast.out) ?_ ?_ ?_|refine jQ (hlast.out) ?_ ?_ ?_);(iterate 2 focus (simp [*] <;> fail));simp [*])|with_reducible refine And.intro ?_ ?_|omega|(refine imp1 fun h=>?_))
   ·have hm:=hun c0
    clear hun hun2
    rw [c0] at hb2
    simp only [if_true] at hb2
    subst hm
    rcases c1 : inB b 0 1073741824 with _|_
    ·rw [c1] at hin hb2
     simp at hb2
     subst hb2
     have hB2:=hBb (by omega)
     clear hBb hK0
     repeat' (first
      |(with_reducible first|refine uK ?_|refine uQ ?_|refine uX ?_|refine jq fun K hK=>?_|refine jb ?_)|(with_reducible refine rS hE ?_;simp [*])|with_reducible refine rL hE ?_|(((with_reducible show RK _ _ _ _ _ _);first|refine jn ?_|refine js fun K' hK'=>?_);simp [*])|with_reducible refine rD mixed hE ?_|((with_reducible show RKQ _ _ _ _ _ _);first|refine RKQ_nilk ⟨by decide,?_⟩|(refine jv fun K' hK'=>?_;simp [*]))|((with_reducible first|refine ji fun X Y hX hY=>?_|refine jr ?_|refine jk ?_|refine jx ?_);simp [*])|((first|refine jC (hin.out) ?_ ?_ ?_|refine jQ (hin.out) ?_ ?_ ?_);(iterate 2 focus (simp [*] <;> fail));simp [*])|((first|refine acall_same (s_in _ _ _) ?_ ?_ ?_|refine call_same (s_in _ _ _) ?_ ?_ ?_);(iterate 2 focus (simp [*] <;> fail));simp [*])|((first|refine acall_view (s_in _ _ _) ?_ ?_ ?_|refine call_view (s_in _ _ _) ?_ ?_ ?_);(iterate 2 focus (simp [*] <;> fail));simp [*])|((first|refine jC (hff.out) ?_ ?_ ?_|refine jQ (hff.out) ?_ ?_ ?_);(iterate 2 focus (simp [*] <;> fail));simp [*])|((first|refine jC (hlast.out) ?_ ?_ ?_|refine jQ (hlast.out) ?_ ?_ ?_);(iterate 2 focus (simp [*] <;> fail));simp [*])|with_reducible refine And.intro ?_ ?_|omega|(refine imp1 fun h=>?_))
    ·rw [c1] at hin hb2
     simp at hb2
     have hK:=hK0 hb2
     clear hBb hK0
     repeat' (first
      |(with_reducible first|refine uK ?_|refine uQ ?_|refine uX ?_|refine jq fun K hK=>?_|refine jb ?_)|(with_reducible refine rS hE ?_;simp [*])|with_reducible refine rL hE ?_|(((with_reducible show RK _ _ _ _ _ _);first|refine jn ?_|refine js fun K' hK'=>?_);simp [*])|with_reducible refine rD mixed hE ?_|((with_reducible show RKQ _ _ _ _ _ _);first|refine RKQ_nilk ⟨by decide,?_⟩|(refine jv fun K' hK'=>?_;simp [*]))|((with_reducible first|refine ji fun X Y hX hY=>?_|refine jr ?_|refine jk ?_|refine jx ?_);simp [*])|((first|refine jC (hin.out) ?_ ?_ ?_|refine jQ (hin.out) ?_ ?_ ?_);(iterate 2 focus (simp [*] <;> fail));simp [*])|((first|refine acall_same (s_in _ _ _) ?_ ?_ ?_|refine call_same (s_in _ _ _) ?_ ?_ ?_);(iterate 2 focus (simp [*] <;> fail));simp [*])|((first|refine acall_view (s_in _ _ _) ?_ ?_ ?_|refine call_view (s_in _ _ _) ?_ ?_ ?_);(iterate 2 focus (simp [*] <;> fail));simp [*])|((first|refine jC (hff.out) ?_ ?_ ?_|refine jQ (hff.out) ?_ ?_ ?_);(iterate 2 focus (simp [*] <;> fail));simp [*])|((first|refine jC (hlast.out) ?_ ?_ ?_|refine jQ (hlast.out) ?_ ?_ ?_);(iterate 2 focus (simp [*] <;> fail));simp [*])|with_reducible refine And.intro ?_ ?_|omega|(refine imp1 fun h=>?_))
     all_goals simp
end Go.Proofs.YtbibemijcdkjhaaGreatDoor
end
section
namespace Go.Proofs.YtbibemijcdkjhaaGreatDoor
open Go.Am
theorem s_atI (m : Sh) (h : WF m) (i : Nat) (hi : i < m.lists.length) : PSpec Tryz.prog 22 [.ep (encM m),iA (m.first + i)] (.tup [segL m.lists[i],iA 0]):=by
 have hs:=s_at m (m.first + i) h
 have hin : inB (m.first + i) m.first (lastB m) = true:=by
  unfold inB lastB
  simp only [decide_eq_true_eq]
  omega
 have e1 : atL m (m.first + i) = m.lists[i]:=by
  unfold atL
  rw [if_pos hin,show m.first + (i : Int) - m.first = (i : Int) by omega]
  simp [hi]
 have e2 : atF m (m.first + i) = 0:=by unfold atF;rw [if_pos hin]
 rw [e1,e2] at hs
 exact hs
theorem s_atN (m : Sh) (h : WF m) (b : Int) (hb : inB b m.first (lastB m) = false) : PSpec Tryz.prog 22 [.ep (encM m),iA b] (.tup [segL [],iA 35]):=by
 have hs:=s_at m b h
 have e1 : atL m b = []:=by unfold atL;rw [hb];rfl
 have e2 : atF m b = 35:=by unfold atF;rw [hb];rfl
 rw [e1,e2] at hs
 exact hs
set_option maxHeartbeats 4000000 in
theorem s_agrees (m : Sh) (h : WF m) : PSpec Tryz.prog 23 [encH m,.ep (encM m)] (bA true):=by
 have h1:=h.first
 have h2:=h.len
 have h3:=h.ne
 have hu:=h.used
 have hl : lastB m = m.first + (m.lists.length : Int) - 1:=rfl
 have hl0 : 0 ≤ lastB m:=by omega
 have hl1 : lastB m ≤ 2000000000000:=by omega
 have ha1:=Hld.mk (s_atN m h (m.first - 1) (by unfold inB;simp only [decide_eq_false_iff_not];omega))
 have ha2:=Hld.mk (s_atN m h (lastB m + 1) (by unfold inB;simp only [decide_eq_false_iff_not];omega))
 have ha:=Hld.mk (s_atI m h)
 have hlast:=Hld.mk (s_last m h)
 have hnext:=Hld.mk (s_next m h)
 have hwl:=Hld.mk (s_wlast m h)
 have hsame : ∀ i (hi : i < m.lists.length),PSpec Tryz.prog 36 [segL m.lists[i],segL m.lists[i]] (bA true):=by
  intro i hi
  have hll:=(h.srt m.lists[i] (List.getElem_mem hi)).2
  have:=s_same m.lists[i] m.lists[i] hll hll
  simpa using this
 replace hsame:=Hld.mk hsame
 replace hl:=Hld.mk hl
 refine PSpec_of Tryz.func23 rfl rfl (Nat.le_of_ble_eq_true rfl) (Nat.le_of_ble_eq_true rfl) ?_
 intro E hE
 refine AW_seqt ⟨[(2,.loc 2 0),(1,.ep (encM m)),(4,bA false)],[(2,.box 26 (encH m))]⟩ ?_ (by
  intro K hK
  repeat' (first
   |(with_reducible first|refine uK ?_|refine uQ ?_|refine uX ?_|refine jq fun K hK=>?_|refine jb ?_)|(with_reducible refine rS hE ?_;simp [*])|with_reducible refine rL hE ?_|(((with_reducible show RK _ _ _ _ _ _);first|refine jn ?_|refine js fun K' hK'=>?_);simp [*])|with_reducible refine rD mixed hE ?_|((with_reducible show RKQ _ _ _ _ _ _);first|refine RKQ_nilk ⟨by decide,?_⟩|(refine jv fun K' hK'=>?_;simp [*]))|((with_reducible first|refine ji fun X Y hX hY=>?_|refine jr ?_|refine jk ?_|refine jx ?_);simp [*])|with_reducible refine And.intro ?_ ?_|omega|(refine imp1 fun h=>?_))
  all_goals simp)
 refine AW_freeze 2 (cb:=.box 26 (encH m)) (t:=⟨[(2,.ep (encH m)),(1,.ep (encM m)),(4,bA false)],[]⟩) (by simp) (by simp) (by simp) ?_
 refine AW_seqt ⟨[(2,.ep (encH m)),(1,.ep (encM m)),(4,bA false)],[]⟩ ?_ (by
  intro K hK
  repeat' (first
   |(with_reducible first|refine uK ?_|refine uQ ?_|refine uX ?_|refine jq fun K hK=>?_|refine jb ?_)|(with_reducible refine rS hE ?_;simp [*])|with_reducible refine rL hE ?_|(((with_reducible show RK _ _ _ _ _ _);first|refine jn ?_|refine js fun K' hK'=>?_);simp [*])|with_reducible refine rD mixed hE ?_|((with_reducible show RKQ _ _ _ _ _ _);first|refine RKQ_nilk ⟨by decide,?_⟩|(refine jv fun K' hK'=>?_;simp [*]))|((with_reducible first|refine ji fun X Y hX hY=>?_|refine jr ?_|refine jk ?_|refine jx ?_);simp [*])|((first|refine jC (s_first m) ?_ ?_ ?_|refine jQ (s_first m) ?_ ?_ ?_);(iterate 2 focus (simp [*] <;> fail));simp [*])|((first|refine jC (hlast.out) ?_ ?_ ?_|refine jQ (hlast.out) ?_ ?_ ?_);(iterate 2 focus (simp [*] <;> fail));simp [*])|((first|refine jC (hnext.out) ?_ ?_ ?_|refine jQ (hnext.out) ?_ ?_ ?_);(iterate 2 focus (simp [*] <;> fail));simp [*])|((first|refine jC (hwl.out) ?_ ?_ ?_|refine jQ (hwl.out) ?_ ?_ ?_);(iterate 2 focus (simp [*] <;> fail));simp [*])|with_reducible refine And.intro ?_ ?_|omega|(refine imp1 fun h=>?_))
  all_goals simp)
 repeat' (first
  |(with_reducible first|refine uK ?_|refine uQ ?_|refine uX ?_|refine jq fun K hK=>?_|refine jb ?_)|(with_reducible refine rS hE ?_;simp [*])|with_reducible refine rL hE ?_|(((with_reducible show RK _ _ _ _ _ _);first|refine jn ?_|refine js fun K' hK'=>?_);simp [*])|with_reducible refine rD mixed hE ?_|((with_reducible show RKQ _ _ _ _ _ _);first|refine RKQ_nilk ⟨by decide,?_⟩|(refine jv fun K' hK'=>?_;simp [*]))|((with_reducible first|refine ji fun X Y hX hY=>?_|refine jr ?_|refine jk ?_|refine jx ?_);simp [*])|with_reducible refine And.intro ?_ ?_|omega|(refine imp1 fun h=>?_))
 refine AW_loopk (G:=Nat) (fun i=>⟨[(5,iA i),(2,.ep (encH m)),(1,.ep (encM m)),(4,bA false)],[]⟩)
  (fun i=>i ≤ m.lists.length) (fun i=>m.lists.length - i) 0 (by omega) (by simp) ?_
 intro i hi K hK
 by_cases hlt : i < m.lists.length
 ·have hai:=Hld.mk (ha.out i hlt)
  have hsi:=Hld.mk (hsame.out i hlt)
  repeat' (first
   |(with_reducible first|refine uK ?_|refine uQ ?_|refine uX ?_|refine jq fun K hK=>?_|refine jb ?_)|(with_reducible refine rS hE ?_;simp [*])|with_reducible refine rL hE ?_|(((with_reducible show RK _ _ _ _ _ _);first|refine jn ?_|refine js fun K' hK'=>?_);simp [*])|with_reducible refine rD mixed hE ?_|((with_reducible show RKQ _ _ _ _ _ _);first|refine RKQ_nilk ⟨by decide,?_⟩|(refine jv fun K' hK'=>?_;simp [*]))|((with_reducible first|refine ji fun X Y hX hY=>?_|refine jr ?_|refine jk ?_|refine jx ?_);simp [*])|((first|refine jC (hai.out) ?_ ?_ ?_|refine jQ (hai.out) ?_ ?_ ?_);(iterate 2 focus (simp [*] <;> fail));simp [*])|((first|refine jC (hsi.out) ?_ ?_ ?_|refine jQ (hsi.out) ?_ ?_ ?_);(iterate 2 focus (simp [*] <;> fail));simp [*])|with_reducible refine And.intro ?_ ?_|omega|(refine imp1 fun h=>?_))
  all_goals exact ⟨i + 1,by omega,by omega,by simp⟩
 ·have hil : i = m.lists.length:=by omega
  subst hil
  repeat' (first
   |(with_reducible first|refine uK ?_|refine uQ ?_|refine uX ?_|refine jq fun K hK=>?_|refine jb ?_)|(with_reducible refine rS hE ?_;simp [*])|with_reducible refine rL hE ?_|(((with_reducible show RK _ _ _ _ _ _);first|refine jn ?_|refine js fun K' hK'=>?_);simp [*])|with_reducible refine rD mixed hE ?_|((with_reducible show RKQ _ _ _ _ _ _);first|refine RKQ_nilk ⟨by decide,?_⟩|(refine jv fun K' hK'=>?_;simp [*]))|((with_reducible first|refine ji fun X Y hX hY=>?_|refine jr ?_|refine jk ?_|refine jx ?_);simp [*])|((first|refine jC (ha1.out) ?_ ?_ ?_|refine jQ (ha1.out) ?_ ?_ ?_);(iterate 2 focus (simp [*] <;> fail));simp [*])|((first|refine jC (ha2.out) ?_ ?_ ?_|refine jQ (ha2.out) ?_ ?_ ?_);(iterate 2 focus (simp [*] <;> fail));simp [*])|((first|refine jC (hwl.out) ?_ ?_ ?_|refine jQ (hwl.out) ?_ ?_ ?_);(iterate 2 focus (simp [*] <;> fail));simp [*])|with_reducible refine And.intro ?_ ?_|omega|(refine imp1 fun h=>?_))
abbrev i8 (n : Int) : AV:=.v (.int .i8 n)
theorem s_box (a b c d e f : Int) (h : (-128 ≤ a ∧ a ≤ 127) ∧ (-128 ≤ b ∧ b ≤ 127) ∧ (-128 ≤ c ∧ c ≤ 127) ∧ (-128 ≤ d ∧ d ≤ 127) ∧ (-128 ≤ e ∧ e ≤ 127) ∧ (-128 ≤ f ∧ f ≤ 127)) :
 PSpec Tryz.prog 55 [.st [i8 a,i8 b,i8 c,i8 d,i8 e,i8 f]] (.st [iA (min a b),iA (max a b),iA (min c d),iA (max c d),iA (min e f),iA (max e f)]):=by
 obtain ⟨h1,h2,h3,h4,h5,h6⟩:=h
 have wr : ∀ n : Int, -128 ≤ n ∧ n ≤ 127 → IntKind.i64.wrap n = n:=fun n hn=>wrap_in .i64 (by simp only [IntKind.min,IntKind.signed,IntKind.bits];simp;omega) (by simp only [IntKind.max,IntKind.signed,IntKind.bits];simp;omega)
 have w1:=wr a h1
 have w2:=wr b h2
 have w3:=wr c h3
 have w4:=wr d h4
 have w5:=wr e h5
 have w6:=wr f h6
 clear wr
 refine PSpec_of Tryz.func55 rfl rfl (Nat.le_of_ble_eq_true rfl) (Nat.le_of_ble_eq_true rfl) ?_
 intro E hE
 repeat' (first
  |(with_reducible first|refine uK ?_|refine uX ?_|refine jq fun K hK=>?_|refine jb ?_)|((with_reducible first|refine rS hE ?_|refine jn ?_|refine js fun K' hK'=>?_|refine ji fun X Y hX hY=>?_|refine jr ?_|refine jk ?_|refine jx ?_);simp [*])|with_reducible refine rL hE ?_|with_reducible refine And.intro ?_ ?_|omega|(refine imp1 fun h=>?_))
end Go.Proofs.YtbibemijcdkjhaaGreatDoor
end
