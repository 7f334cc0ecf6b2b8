/- Layer 40: addition -/
import Derived.Test.YtbibemijcdkjhaaGreatDoorZ5
import Derived.Test.YtbibemijcdkjhaaGreatDoorZ6
set_option maxRecDepth 100000
set_option linter.unusedSimpArgs false
set_option linter.unusedVariables false
section
namespace Go.Proofs.YtbibemijcdkjhaaGreatDoor
open Go.Am
def anyHas (m : Sh) (id : Int) : Bool:=m.lists.any fun l=>hasB l id
def othB (l : List Seg) (x : Seg) : Bool:=hasB l x.id && !decide ((findS l x.id).getD default = x)
def othHas (m : Sh) (x : Seg) : Bool:=m.lists.any fun l=>othB l x
def addOne (m : Sh) (k : Int) (rem : List Int) (p : Option Int) (x : Seg) : Int :=
 if chkS x ≠ 0 then chkS x
 else if p.any (fun y=>decide (x.id ≤ y)) then 7
 else if (k = 1 ∧ hasB (lastL m) x.id = true ∧ inI rem x.id = false) ∨ (k = 2 ∧ anyHas m x.id = true) then 8
 else if k = 1 ∧ othHas m x = true then 17 else 0
def addGo (m : Sh) (k : Int) (rem : List Int) : Option Int → List Seg → Int
 |_,[]=>0
 |p,x :: xs=>if addOne m k rem p x ≠ 0 then addOne m k rem p x else addGo m k rem (some x.id) xs
def prvS (l : List Seg) (i : Nat) : Option Int:=if i = 0 then none else (l[i - 1]?).map (·.id)
theorem prvS_succ {l : List Seg} {i : Nat} (h : i < l.length) : prvS l (i + 1) = some l[i].id:=by simp [prvS,h]
theorem any_take {α : Type} {l : List α} {p : α → Bool} {i : Nat} (h : i < l.length) : (l.take (i + 1)).any p = ((l.take i).any p || p l[i]):=by
 rw [List.take_succ_eq_append_getElem h,List.any_append]
 simp
def addE (m : Sh) (e : Ed) : Int:=addGo m e.kind e.rem none e.add
set_option maxHeartbeats 4000000 in
theorem s_addition (m : Sh) (e : Ed) (h : WF m) (he : EdOK e) (hk : kindOK e) : PSpec Tryz.prog 66 [.ep (encM m),encE e] (iA (addE m e)):=by
 have h1:=h.first
 have h2:=h.len
 have h3:=h.ne
 have h4:=he.rem
 have h5:=he.add
 have hlast:=h.last
 have hle:=lastL_eq h3
 have hle' : m.lists[m.lists.length - 1]? = some (lastL m):=by rw [hle,List.getElem?_eq_getElem]
 have hhas:=fun n=>s_has (lastL m) n hlast.1 (by omega)
 have hhasl:=fun n l (hl : l ∈ m.lists)=>s_has l n (h.srt l hl).1 (by have:=(h.srt l hl).2;omega)
 have hin:=fun n=>s_contains e.rem n (by omega)
 replace hhas:=Hld.mk hhas
 replace hhasl:=Hld.mk hhasl
 replace hin:=Hld.mk hin
 have hB : addGo m e.kind e.rem none e.add = addE m e:=rfl
 generalize addE m e = B at hB ⊢
 have hone : ∀ p x,addOne m e.kind e.rem p x = if chkS x ≠ 0 then chkS x else if p.any (fun y=>decide (x.id ≤ y)) then 7
  else if (e.kind = 1 ∧ hasB (lastL m) x.id = true ∧ inI e.rem x.id = false) ∨ (e.kind = 2 ∧ anyHas m x.id = true) then 8 else if e.kind = 1 ∧ othHas m x = true then 17 else 0:=fun _ _=>rfl
 generalize lastL m = L at *
 clear hle
 obtain ⟨k,b,u,rem,add⟩:=e
 simp only at *
 have hk' : k = 1 ∨ k = 2 ∨ k = 3 ∨ k = 4:=hk
 clear hk
 replace hB:=Hld.mk hB
 replace hone:=Hld.mk hone
 refine PSpec_of Tryz.func66 rfl rfl (Nat.le_of_ble_eq_true rfl) (Nat.le_of_ble_eq_true rfl) ?_
 intro E hE
 repeat' (first
  |(with_reducible first|refine uK ?_|refine uQ ?_|refine uX ?_|refine jq fun K hK=>?_|refine jb ?_)|(with_reducible refine rS hE ?_;simp [*])|with_reducible refine rL hE ?_|(((with_reducible show RK _ _ _ _ _ _);first|refine jn ?_|refine js fun K' hK'=>?_);simp [*])|with_reducible refine rD mixed hE ?_|((with_reducible show RKQ _ _ _ _ _ _);first|refine RKQ_nilk ⟨by decide,?_⟩|(refine jv fun K' hK'=>?_;simp [*]))|((with_reducible first|refine ji fun X Y hX hY=>?_|refine jr ?_|refine jk ?_|refine jx ?_);simp [*])|with_reducible refine And.intro ?_ ?_|omega|(refine imp1 fun h=>?_))
 refine AW_loopk (G:=Nat) (fun i=>⟨[(19,iA i),(18,iA add.length),(17,segL add),(3,.loc 3 0),(0,.ep (encM m)),(4,iA 0)],[(3,.box 36 (encE ⟨k,b,u,rem,add⟩))]⟩)
  (fun i=>i ≤ add.length ∧ Hld (addGo m k rem none add = addGo m k rem (prvS add i) (add.drop i))) (fun i=>add.length - i) 0 ⟨by omega,⟨by simp [prvS]⟩⟩ (by simp) ?_
 rintro i ⟨hi,hgo⟩ K hK
 by_cases hlt : i < add.length
 ·have hd : add.drop i = add[i] :: add.drop (i + 1):=List.drop_eq_getElem_cons hlt
  have hgo2:=hgo.out
  rw [hd,hB.out] at hgo2
  simp only [addGo] at hgo2
  have hpn:=prvS_succ hlt
  have ho:=hone.out (prvS add i) add[i]
  clear hd hgo
  by_cases hc0 : chkS add[i] = 0
  ·simp only [hc0,ne_eq,not_true_eq_false,if_false] at ho
   by_cases hc7 : (prvS add i).any (fun y=>decide (add[i].id ≤ y)) = true
   ·rw [if_pos hc7] at ho
    rw [ho] at hgo2
    simp at hgo2
    cases i with
    |zero=>simp [prvS] at hc7
    |succ j =>
     have hjl : j < add.length:=by omega
     rw [prvS_succ hjl] at hc7
     simp only [Option.any_some,decide_eq_true_eq] at hc7
     clear hpn ho
     repeat' (first
      |(with_reducible first|refine uK ?_|refine uQ ?_|refine uX ?_|refine jq fun K hK=>?_|refine jb ?_)|(with_reducible refine rS hE ?_;simp [*])|with_reducible refine rL hE ?_|(((with_reducible show RK _ _ _ _ _ _);first|refine jn ?_|refine js fun K' hK'=>?_);simp [*])|with_reducible refine rD mixed hE ?_|((with_reducible show RKQ _ _ _ _ _ _);first|refine RKQ_nilk ⟨by decide,?_⟩|(refine jv fun K' hK'=>?_;simp [*]))|((with_reducible first|refine ji fun X Y hX hY=>?_|refine jr ?_|refine jk ?_|refine jx ?_);simp [*])|((first|refine acall_same (s_chk _) ?_ ?_ ?_|refine call_same (s_chk _) ?_ ?_ ?_);(iterate 2 focus (simp [*] <;> fail));simp [*])|((first|refine acall_view (s_chk _) ?_ ?_ ?_|refine call_view (s_chk _) ?_ ?_ ?_);(iterate 2 focus (simp [*] <;> fail));simp [*])|with_reducible refine And.intro ?_ ?_|omega|(refine imp1 fun h=>?_))
   ·rw [if_neg hc7] at ho
    generalize addOne m k rem (prvS add i) add[i] = X at *
    generalize hx : add[i] = x at *
    have hcase : (¬ 0 < i) ∨ (∃ j : Nat,(i : Int) - 1 = (j : Int) ∧ 0 < i ∧ ∃ hj : j < add.length,x.id ≤ add[j].id → False):=by
     cases i with
     |zero=>exact .inl (by omega)
     |succ j =>
      have hjl : j < add.length:=by omega
      rw [prvS_succ hjl] at hc7
      simp only [Option.any_some,decide_eq_true_eq] at hc7
      exact .inr ⟨j,by omega,by omega,hjl,hc7⟩
    clear hc7
    replace hgo2:=Hld.mk hgo2
    replace hpn:=Hld.mk hpn
    replace ho:=Hld.mk ho
    rcases hcase with hz|⟨j,hj,hpos,hjl,hc7⟩
    all_goals (
     obtain ⟨A,hA⟩ : ∃ A : Nat → Bool,∀ q,A q = (m.lists.take q).any fun l=>hasB l x.id:=⟨_,fun _=>rfl⟩
     obtain ⟨O,hO⟩ : ∃ O : Nat → Bool,∀ q,O q = (m.lists.take q).any fun l=>othB l x:=⟨_,fun _=>rfl⟩
     have hA0 : A 0 = false:=by simp [hA]
     have hO0 : O 0 = false:=by simp [hO]
     have hAs : ∀ q (hq : q < m.lists.length),A (q + 1) = (A q || hasB m.lists[q] x.id):=fun q hq=>by rw [hA,hA,any_take hq]
     have hOs : ∀ q (hq : q < m.lists.length),O (q + 1) = (O q || (hasB m.lists[q] x.id && !decide ((findS m.lists[q] x.id).getD default = x))):=fun q hq=>by rw [hO,hO,any_take hq];rfl
     have hAe : A m.lists.length = anyHas m x.id:=by rw [hA,List.take_length];rfl
     have hOe : O m.lists.length = othHas m x:=by rw [hO,List.take_length];rfl
     clear hA hO
     replace hAs:=Hld.mk hAs
     replace hOs:=Hld.mk hOs
     replace hAe:=Hld.mk hAe
     replace hOe:=Hld.mk hOe
     repeat' (first
      |(with_reducible first|refine uK ?_|refine uQ ?_|refine uX ?_|refine jq fun K hK=>?_|refine jb ?_)|(with_reducible refine rS hE ?_;simp [*])|with_reducible refine rL hE ?_|(((with_reducible show RK _ _ _ _ _ _);first|refine jn ?_|refine js fun K' hK'=>?_);simp [*])|with_reducible refine rD mixed hE ?_|((with_reducible show RKQ _ _ _ _ _ _);first|refine RKQ_nilk ⟨by decide,?_⟩|(refine jv fun K' hK'=>?_;simp [*]))|((with_reducible first|refine ji fun X Y hX hY=>?_|refine jr ?_|refine jk ?_|refine jx ?_);simp [*])|((first|refine acall_same (s_chk _) ?_ ?_ ?_|refine call_same (s_chk _) ?_ ?_ ?_);(iterate 2 focus (simp [*] <;> fail));simp [*])|((first|refine acall_view (s_chk _) ?_ ?_ ?_|refine call_view (s_chk _) ?_ ?_ ?_);(iterate 2 focus (simp [*] <;> fail));simp [*])|with_reducible refine And.intro ?_ ?_|omega|(refine imp1 fun h=>?_))
     refine AW_loopk (G:=Nat) (fun q=>⟨[(48,iA q),(47,iA m.lists.length),(46,.sl 1 (m.lists.map segL)),(9,bA (A q)),(8,bA (O q)),(6,.loc 6 0),(19,iA i),(18,iA add.length),(17,segL add),(3,.loc 3 0),(0,.ep (encM m)),(4,iA 0)],
      [(6,.box 70 (encS x)),(3,.box 36 (encE ⟨k,b,u,rem,add⟩))]⟩)
      (fun q=>q ≤ m.lists.length) (fun q=>m.lists.length - q) 0 (by omega) (by simp [hA0,hO0]) ?_
     intro q hq K2 hK2
     by_cases hql : q < m.lists.length
     ·have hh:=Hld.mk (hhasl.out x.id m.lists[q] (List.getElem_mem hql))
      have hAq:=hAs.out q hql
      have hOq:=hOs.out q hql
      clear hA0 hO0
      rcases hha : hasB m.lists[q] x.id with _|_
      ·rw [hha] at hAq hOq
       simp at hAq hOq
       repeat' (first
        |(with_reducible first|refine uK ?_|refine uQ ?_|refine uX ?_|refine jq fun K hK=>?_|refine jb ?_)|(with_reducible refine rS hE ?_;simp [*])|with_reducible refine rL hE ?_|(((with_reducible show RK _ _ _ _ _ _);first|refine jn ?_|refine js fun K' hK'=>?_);simp [*])|with_reducible refine rD mixed hE ?_|((with_reducible show RKQ _ _ _ _ _ _);first|refine RKQ_nilk ⟨by decide,?_⟩|(refine jv fun K' hK'=>?_;simp [*]))|((with_reducible first|refine ji fun X Y hX hY=>?_|refine jr ?_|refine jk ?_|refine jx ?_);simp [*])|((first|refine acall_same (hh.out) ?_ ?_ ?_|refine call_same (hh.out) ?_ ?_ ?_);(iterate 2 focus (simp [*] <;> fail));simp [*])|with_reducible refine And.intro ?_ ?_|omega|(refine imp1 fun h=>?_))
       all_goals exact ⟨q + 1,by omega,by omega,by simp [*]⟩
      ·rw [hha] at hAq hOq
       simp at hAq hOq
       repeat' (first
        |(with_reducible first|refine uK ?_|refine uQ ?_|refine uX ?_|refine jq fun K hK=>?_|refine jb ?_)|(with_reducible refine rS hE ?_;simp [*])|with_reducible refine rL hE ?_|(((with_reducible show RK _ _ _ _ _ _);first|refine jn ?_|refine js fun K' hK'=>?_);simp [*])|with_reducible refine rD mixed hE ?_|((with_reducible show RKQ _ _ _ _ _ _);first|refine RKQ_nilk ⟨by decide,?_⟩|(refine jv fun K' hK'=>?_;simp [*]))|((with_reducible first|refine ji fun X Y hX hY=>?_|refine jr ?_|refine jk ?_|refine jx ?_);simp [*])|((first|refine acall_same (hh.out) ?_ ?_ ?_|refine call_same (hh.out) ?_ ?_ ?_);(iterate 2 focus (simp [*] <;> fail));simp [*])|with_reducible refine And.intro ?_ ?_|omega|(refine imp1 fun h=>?_))
       all_goals exact ⟨q + 1,by omega,by omega,by simp [*]⟩
     ·have hqe : q = m.lists.length:=by omega
      subst hqe
      have hAe':=hAe.out
      have hOe':=hOe.out
      have hhL:=Hld.mk (hhas.out x.id)
      have hinx:=hin.out x.id
      rw [show (rem.any fun y=>decide (y = x.id)) = inI rem x.id from rfl] at hinx
      replace hinx:=Hld.mk hinx
      clear hA0 hO0
      have hX:=ho.out
      have hgo3:=hgo2.out
      have hcs : (k = 1 ∧ hasB L x.id = true ∧ inI rem x.id = false ∧ B = 8) ∨ (k = 2 ∧ anyHas m x.id = true ∧ B = 8) ∨ (k = 1 ∧ hasB L x.id = false ∧ othHas m x = true ∧ B = 17) ∨ (k = 1 ∧ hasB L x.id = true ∧ inI rem x.id = true ∧ othHas m x = true ∧ B = 17) ∨
       (B = addGo m k rem (some x.id) (List.drop (i + 1) add) ∧ ((k = 1 ∧ hasB L x.id = false ∧ othHas m x = false) ∨ (k = 1 ∧ hasB L x.id = true ∧ inI rem x.id = true ∧ othHas m x = false) ∨ (k = 2 ∧ anyHas m x.id = false) ∨ k = 3 ∨ k = 4)):=by
       rcases hk' with rfl|rfl|rfl|rfl
       ·rcases e1 : hasB L x.id <;> rcases e2 : inI rem x.id <;> rcases e3 : othHas m x <;> simp [e1,e2,e3] at hX <;> simp [hX] at hgo3 <;> simp [hgo3]
       ·rcases e1 : anyHas m x.id <;> simp [e1] at hX <;> simp [hX] at hgo3 <;> simp [hgo3]
       ·simp at hX;simp [hX] at hgo3;simp [hgo3]
       ·simp at hX;simp [hX] at hgo3;simp [hgo3]
      clear hX hgo3
      rcases hcs with ⟨rfl,c1,c2,hBv⟩|⟨rfl,c1,hBv⟩|⟨rfl,c1,c2,hBv⟩|⟨rfl,c1,c2,c3,hBv⟩|⟨hBv,⟨rfl,c1,c2⟩|⟨rfl,c1,c2,c3⟩|⟨rfl,c1⟩|rfl|rfl⟩
      ·repeat' (first
        |(with_reducible first|refine uK ?_|refine uQ ?_|refine uX ?_|refine jq fun K hK=>?_|refine jb ?_)|(with_reducible refine rS hE ?_;simp [*])|with_reducible refine rL hE ?_|(((with_reducible show RK _ _ _ _ _ _);first|refine jn ?_|refine js fun K' hK'=>?_);simp [*])|with_reducible refine rD mixed hE ?_|((with_reducible show RKQ _ _ _ _ _ _);first|refine RKQ_nilk ⟨by decide,?_⟩|(refine jv fun K' hK'=>?_;simp [*]))|((with_reducible first|refine ji fun X Y hX hY=>?_|refine jr ?_|refine jk ?_|refine jx ?_);simp [*])|((first|refine acall_same (hhL.out) ?_ ?_ ?_|refine call_same (hhL.out) ?_ ?_ ?_);(iterate 2 focus (simp [*] <;> fail));simp [*])|((first|refine acall_same (hinx.out) ?_ ?_ ?_|refine call_same (hinx.out) ?_ ?_ ?_);(iterate 2 focus (simp [*] <;> fail));simp [*])|with_reducible refine And.intro ?_ ?_|omega|(refine imp1 fun h=>?_))
      ·repeat' (first
        |(with_reducible first|refine uK ?_|refine uQ ?_|refine uX ?_|refine jq fun K hK=>?_|refine jb ?_)|(with_reducible refine rS hE ?_;simp [*])|with_reducible refine rL hE ?_|(((with_reducible show RK _ _ _ _ _ _);first|refine jn ?_|refine js fun K' hK'=>?_);simp [*])|with_reducible refine rD mixed hE ?_|((with_reducible show RKQ _ _ _ _ _ _);first|refine RKQ_nilk ⟨by decide,?_⟩|(refine jv fun K' hK'=>?_;simp [*]))|((with_reducible first|refine ji fun X Y hX hY=>?_|refine jr ?_|refine jk ?_|refine jx ?_);simp [*])|((first|refine acall_same (hhL.out) ?_ ?_ ?_|refine call_same (hhL.out) ?_ ?_ ?_);(iterate 2 focus (simp [*] <;> fail));simp [*])|((first|refine acall_same (hinx.out) ?_ ?_ ?_|refine call_same (hinx.out) ?_ ?_ ?_);(iterate 2 focus (simp [*] <;> fail));simp [*])|with_reducible refine And.intro ?_ ?_|omega|(refine imp1 fun h=>?_))
      ·repeat' (first
        |(with_reducible first|refine uK ?_|refine uQ ?_|refine uX ?_|refine jq fun K hK=>?_|refine jb ?_)|(with_reducible refine rS hE ?_;simp [*])|with_reducible refine rL hE ?_|(((with_reducible show RK _ _ _ _ _ _);first|refine jn ?_|refine js fun K' hK'=>?_);simp [*])|with_reducible refine rD mixed hE ?_|((with_reducible show RKQ _ _ _ _ _ _);first|refine RKQ_nilk ⟨by decide,?_⟩|(refine jv fun K' hK'=>?_;simp [*]))|((with_reducible first|refine ji fun X Y hX hY=>?_|refine jr ?_|refine jk ?_|refine jx ?_);simp [*])|((first|refine acall_same (hhL.out) ?_ ?_ ?_|refine call_same (hhL.out) ?_ ?_ ?_);(iterate 2 focus (simp [*] <;> fail));simp [*])|((first|refine acall_same (hinx.out) ?_ ?_ ?_|refine call_same (hinx.out) ?_ ?_ ?_);(iterate 2 focus (simp [*] <;> fail));simp [*])|with_reducible refine And.intro ?_ ?_|omega|(refine imp1 fun h=>?_))
      ·repeat' (first
        |(with_reducible first|refine uK ?_|refine uQ ?_|refine uX ?_|refine jq fun K hK=>?_|refine jb ?_)|(with_reducible refine rS hE ?_;simp [*])|with_reducible refine rL hE ?_|(((with_reducible show RK _ _ _ _ _ _);first|refine jn ?_|refine js fun K' hK'=>?_);simp [*])|with_reducible refine rD mixed hE ?_|((with_reducible show RKQ _ _ _ _ _ _);first|refine RKQ_nilk ⟨by decide,?_⟩|(refine jv fun K' hK'=>?_;simp [*]))|((with_reducible first|refine ji fun X Y hX hY=>?_|refine jr ?_|refine jk ?_|refine jx ?_);simp [*])|((first|refine acall_same (hhL.out) ?_ ?_ ?_|refine call_same (hhL.out) ?_ ?_ ?_);(iterate 2 focus (simp [*] <;> fail));simp [*])|((first|refine acall_same (hinx.out) ?_ ?_ ?_|refine call_same (hinx.out) ?_ ?_ ?_);(iterate 2 focus (simp [*] <;> fail));simp [*])|with_reducible refine And.intro ?_ ?_|omega|(refine imp1 fun h=>?_))
      all_goals replace hBv:=Hld.mk hBv
      all_goals (
       repeat' (first
        |(with_reducible first|refine uK ?_|refine uQ ?_|refine uX ?_|refine jq fun K hK=>?_|refine jb ?_)|(with_reducible refine rS hE ?_;simp [*])|with_reducible refine rL hE ?_|(((with_reducible show RK _ _ _ _ _ _);first|refine jn ?_|refine js fun K' hK'=>?_);simp [*])|with_reducible refine rD mixed hE ?_|((with_reducible show RKQ _ _ _ _ _ _);first|refine RKQ_nilk ⟨by decide,?_⟩|(refine jv fun K' hK'=>?_;simp [*]))|((with_reducible first|refine ji fun X Y hX hY=>?_|refine jr ?_|refine jk ?_|refine jx ?_);simp [*])|((first|refine acall_same (hhL.out) ?_ ?_ ?_|refine call_same (hhL.out) ?_ ?_ ?_);(iterate 2 focus (simp [*] <;> fail));simp [*])|((first|refine acall_same (hinx.out) ?_ ?_ ?_|refine call_same (hinx.out) ?_ ?_ ?_);(iterate 2 focus (simp [*] <;> fail));simp [*])|with_reducible refine And.intro ?_ ?_|omega|(refine imp1 fun h=>?_))
       all_goals exact ⟨i + 1,⟨by omega,⟨by rw [hB.out,hBv.out,hpn.out]⟩⟩,by omega,by simp⟩))
  ·rw [if_pos hc0] at ho
   rw [ho,if_pos hc0] at hgo2
   clear hpn ho
   repeat' (first
    |(with_reducible first|refine uK ?_|refine uQ ?_|refine uX ?_|refine jq fun K hK=>?_|refine jb ?_)|(with_reducible refine rS hE ?_;simp [*])|with_reducible refine rL hE ?_|(((with_reducible show RK _ _ _ _ _ _);first|refine jn ?_|refine js fun K' hK'=>?_);simp [*])|with_reducible refine rD mixed hE ?_|((with_reducible show RKQ _ _ _ _ _ _);first|refine RKQ_nilk ⟨by decide,?_⟩|(refine jv fun K' hK'=>?_;simp [*]))|((with_reducible first|refine ji fun X Y hX hY=>?_|refine jr ?_|refine jk ?_|refine jx ?_);simp [*])|((first|refine acall_same (s_chk _) ?_ ?_ ?_|refine call_same (s_chk _) ?_ ?_ ?_);(iterate 2 focus (simp [*] <;> fail));simp [*])|((first|refine acall_view (s_chk _) ?_ ?_ ?_|refine call_view (s_chk _) ?_ ?_ ?_);(iterate 2 focus (simp [*] <;> fail));simp [*])|with_reducible refine And.intro ?_ ?_|omega|(refine imp1 fun h=>?_))
 ·have hil : i = add.length:=by omega
  subst hil
  have hgo2:=hgo.out
  rw [List.drop_length,hB.out] at hgo2
  simp only [addGo] at hgo2
  clear hgo
  repeat' (first
   |(with_reducible first|refine uK ?_|refine uQ ?_|refine uX ?_|refine jq fun K hK=>?_|refine jb ?_)|(with_reducible refine rS hE ?_;simp [*])|with_reducible refine rL hE ?_|(((with_reducible show RK _ _ _ _ _ _);first|refine jn ?_|refine js fun K' hK'=>?_);simp [*])|with_reducible refine rD mixed hE ?_|((with_reducible show RKQ _ _ _ _ _ _);first|refine RKQ_nilk ⟨by decide,?_⟩|(refine jv fun K' hK'=>?_;simp [*]))|((with_reducible first|refine ji fun X Y hX hY=>?_|refine jr ?_|refine jk ?_|refine jx ?_);simp [*])|with_reducible refine And.intro ?_ ?_|omega|(refine imp1 fun h=>?_))
end Go.Proofs.YtbibemijcdkjhaaGreatDoor
end
section
namespace Go.Proofs.YtbibemijcdkjhaaGreatDoor
open Go.Am
def longB (e : Ed) (l : List Seg) : Bool:=(decide (e.kind ≠ 2) || hasAllB l e.rem) && decide (256 < (l.length : Int) - e.rem.length + e.add.length)
def sizL (m : Sh) (e : Ed) : List (List Seg):=if e.kind = 1 then [lastL m] else m.lists
def sizeE (m : Sh) (e : Ed) : Int :=
 if e.kind = 4 ∧ inB e.used 0 1073741824 = false then 2 else if (sizL m e).any (longB e) then 3 else 0
def chkE (m : Sh) (e : Ed) : Int :=
 if inB e.kind 1 4 = false then 4 else if formB e = true then 5 else if beliefE m e ≠ 0 then beliefE m e else if remE m e ≠ 0 then remE m e else if addE m e ≠ 0 then addE m e else if e.kind = 3 then 0 else sizeE m e
set_option maxHeartbeats 2000000 in
theorem s_size (m : Sh) (e : Ed) (h : WF m) (he : EdOK e) (hk : e.kind = 1 ∨ e.kind = 2 ∨ e.kind = 4) : PSpec Tryz.prog 67 [.ep (encM m),encE e] (iA (sizeE m e)):=by
 have h1:=h.first
 have h2:=h.len
 have h3:=h.ne
 have h4:=he.rem
 have h5:=he.add
 have hle:=lastL_eq h3
 have hall:=fun l (hl : l ∈ m.lists)=>s_hasAll l e.rem (h.srt l hl).1 (by have:=(h.srt l hl).2;omega) (by omega)
 have hlong:=fun l (hl : l ∈ m.lists)=>(h.srt l hl).2
 replace hall:=Hld.mk hall
 replace hlong:=Hld.mk hlong
 have hsub : ∀ l ∈ sizL m e,l ∈ m.lists:=by
  intro l hl
  unfold sizL at hl
  split at hl
  ·simp at hl;rw [hl,hle];exact List.getElem_mem _
  ·exact hl
 have hLl : (sizL m e).length ≤ 1000:=by
  unfold sizL;split
  ·simp
  ·exact h2
 have hLs : e.kind = 1 → (m.lists.map segL).drop (m.lists.length - 1) = (sizL m e).map segL:=by
  intro hk1
  unfold sizL
  rw [if_pos hk1,hle,List.drop_eq_getElem_cons (by simp;omega)]
  simp
  omega
 have hLs2 : e.kind ≠ 1 → sizL m e = m.lists:=fun hk1=>by unfold sizL;rw [if_neg hk1]
 have hB : sizeE m e = if e.kind = 4 ∧ inB e.used 0 1073741824 = false then 2 else if (sizL m e).any (longB e) then 3 else 0:=rfl
 generalize sizeE m e = B at hB ⊢
 have hlg : ∀ l,longB e l = ((decide (e.kind ≠ 2) || hasAllB l e.rem) && decide (256 < (l.length : Int) - e.rem.length + e.add.length)):=fun _=>rfl
 generalize longB e = lg at *
 generalize sizL m e = Ls at *
 obtain ⟨k,b,u,rem,add⟩:=e
 simp only at *
 replace hlg:=Hld.mk hlg
 replace hsub:=Hld.mk hsub
 refine PSpec_of Tryz.func67 rfl rfl (Nat.le_of_ble_eq_true rfl) (Nat.le_of_ble_eq_true rfl) ?_
 intro E hE
 refine AW_seqt ⟨[(3,.loc 3 0),(0,.ep (encM m)),(4,iA 0)],[(3,.box 36 (encE ⟨k,b,u,rem,add⟩))]⟩ ?_ (by
  intro K hK
  repeat' (first
   |(with_reducible first|refine uK ?_|refine uX ?_|refine jq fun K hK=>?_|refine jb ?_)|((with_reducible first|refine rS hE ?_|refine jn ?_|refine js fun K' hK'=>?_|refine ji fun X Y hX hY=>?_|refine jr ?_|refine jk ?_|refine jx ?_);simp [*])|with_reducible refine rL hE ?_|with_reducible refine And.intro ?_ ?_|omega|(refine imp1 fun h=>?_))
  all_goals simp)
 by_cases h44 : k = 4 ∧ inB u 0 1073741824 = false
 ·rw [if_pos h44] at hB
  obtain ⟨rfl,h44⟩:=h44
  repeat' (first
   |(with_reducible first|refine uK ?_|refine uX ?_|refine jq fun K hK=>?_|refine jb ?_)|((with_reducible first|refine rS hE ?_|refine jn ?_|refine js fun K' hK'=>?_|refine ji fun X Y hX hY=>?_|refine jr ?_|refine jk ?_|refine jx ?_);simp [*])|with_reducible refine rL hE ?_|(refine acall_same (s_within _ _ _) ?_ ?_ ?_;(iterate 2 focus (simp [*] <;> fail));simp [*])|(refine acall_view (s_within _ _ _) ?_ ?_ ?_;(iterate 2 focus (simp [*] <;> fail));simp [*])|with_reducible refine And.intro ?_ ?_|omega|(refine imp1 fun h=>?_))
 ·rw [if_neg h44] at hB
  have h45 : k = 4 → inB u 0 1073741824 = true:=fun e=>by simpa [e] using h44
  clear h44
  refine AW_seqt ⟨[(3,.loc 3 0),(0,.ep (encM m)),(4,iA 0)],[(3,.box 36 (encE ⟨k,b,u,rem,add⟩))]⟩ ?_ (by
   intro K hK
   rcases hk with rfl|rfl|rfl
   ·repeat' (first
     |(with_reducible first|refine uK ?_|refine uX ?_|refine jq fun K hK=>?_|refine jb ?_)|((with_reducible first|refine rS hE ?_|refine jn ?_|refine js fun K' hK'=>?_|refine ji fun X Y hX hY=>?_|refine jr ?_|refine jk ?_|refine jx ?_);simp [*])|with_reducible refine rL hE ?_|with_reducible refine And.intro ?_ ?_|omega|(refine imp1 fun h=>?_))
    all_goals simp
   ·repeat' (first
     |(with_reducible first|refine uK ?_|refine uX ?_|refine jq fun K hK=>?_|refine jb ?_)|((with_reducible first|refine rS hE ?_|refine jn ?_|refine js fun K' hK'=>?_|refine ji fun X Y hX hY=>?_|refine jr ?_|refine jk ?_|refine jx ?_);simp [*])|with_reducible refine rL hE ?_|with_reducible refine And.intro ?_ ?_|omega|(refine imp1 fun h=>?_))
    all_goals simp
   ·have h46:=h45 rfl
    repeat' (first
     |(with_reducible first|refine uK ?_|refine uX ?_|refine jq fun K hK=>?_|refine jb ?_)|((with_reducible first|refine rS hE ?_|refine jn ?_|refine js fun K' hK'=>?_|refine ji fun X Y hX hY=>?_|refine jr ?_|refine jk ?_|refine jx ?_);simp [*])|with_reducible refine rL hE ?_|(refine acall_same (s_within _ _ _) ?_ ?_ ?_;(iterate 2 focus (simp [*] <;> fail));simp [*])|(refine acall_view (s_within _ _ _) ?_ ?_ ?_;(iterate 2 focus (simp [*] <;> fail));simp [*])|with_reducible refine And.intro ?_ ?_|omega|(refine imp1 fun h=>?_))
    all_goals simp)
  refine AW_seqt ⟨[(5,.sl 1 (m.lists.map segL)),(3,.loc 3 0),(0,.ep (encM m)),(4,iA 0)],[(3,.box 36 (encE ⟨k,b,u,rem,add⟩))]⟩ ?_ (by
   intro K hK
   repeat' (first
    |(with_reducible first|refine uK ?_|refine uX ?_|refine jq fun K hK=>?_|refine jb ?_)|((with_reducible first|refine rS hE ?_|refine jn ?_|refine js fun K' hK'=>?_|refine ji fun X Y hX hY=>?_|refine jr ?_|refine jk ?_|refine jx ?_);simp [*])|with_reducible refine rL hE ?_|with_reducible refine And.intro ?_ ?_|omega|(refine imp1 fun h=>?_))
   all_goals simp)
  refine AW_seqt ⟨[(5,.sl 1 (Ls.map segL)),(3,.loc 3 0),(0,.ep (encM m)),(4,iA 0)],[(3,.box 36 (encE ⟨k,b,u,rem,add⟩))]⟩ ?_ (by
   intro K hK
   rcases hk with rfl|rfl|rfl
   ·have hL1:=hLs rfl
    clear hLs hLs2
    repeat' (first
     |(with_reducible first|refine uK ?_|refine uX ?_|refine jq fun K hK=>?_|refine jb ?_)|((with_reducible first|refine rS hE ?_|refine jn ?_|refine js fun K' hK'=>?_|refine ji fun X Y hX hY=>?_|refine jr ?_|refine jk ?_|refine jx ?_);simp [*])|with_reducible refine rL hE ?_|with_reducible refine And.intro ?_ ?_|omega|(refine imp1 fun h=>?_))
    all_goals simp
   ·have hL1:=hLs2 (by omega)
    subst hL1
    clear hLs hLs2
    repeat' (first
     |(with_reducible first|refine uK ?_|refine uX ?_|refine jq fun K hK=>?_|refine jb ?_)|((with_reducible first|refine rS hE ?_|refine jn ?_|refine js fun K' hK'=>?_|refine ji fun X Y hX hY=>?_|refine jr ?_|refine jk ?_|refine jx ?_);simp [*])|with_reducible refine rL hE ?_|with_reducible refine And.intro ?_ ?_|omega|(refine imp1 fun h=>?_))
    all_goals simp
   ·have hL1:=hLs2 (by omega)
    subst hL1
    clear hLs hLs2
    repeat' (first
     |(with_reducible first|refine uK ?_|refine uX ?_|refine jq fun K hK=>?_|refine jb ?_)|((with_reducible first|refine rS hE ?_|refine jn ?_|refine js fun K' hK'=>?_|refine ji fun X Y hX hY=>?_|refine jr ?_|refine jk ?_|refine jx ?_);simp [*])|with_reducible refine rL hE ?_|with_reducible refine And.intro ?_ ?_|omega|(refine imp1 fun h=>?_))
    all_goals simp)
  clear hLs hLs2
  repeat' (first
   |(with_reducible first|refine uK ?_|refine uX ?_|refine jq fun K hK=>?_|refine jb ?_)|((with_reducible first|refine rS hE ?_|refine jn ?_|refine js fun K' hK'=>?_|refine ji fun X Y hX hY=>?_|refine jr ?_|refine jk ?_|refine jx ?_);simp [*])|with_reducible refine rL hE ?_|with_reducible refine And.intro ?_ ?_|omega|(refine imp1 fun h=>?_))
  refine AW_loopk (G:=Nat) (fun i=>⟨[(31,iA i),(30,iA Ls.length),(29,.sl 1 (Ls.map segL)),(3,.loc 3 0),(0,.ep (encM m)),(4,iA 0)],[(3,.box 36 (encE ⟨k,b,u,rem,add⟩))]⟩)
   (fun i=>i ≤ Ls.length ∧ Hld (∀ j (hj : j < Ls.length),j < i → lg Ls[j] = false)) (fun i=>Ls.length - i) 0 ⟨by omega,⟨fun j hj h=>by omega⟩⟩ (by simp) ?_
  rintro i ⟨hi,hbef⟩ K hK
  by_cases hlt : i < Ls.length
  ·have hmem:=hsub.out Ls[i] (List.getElem_mem hlt)
   have hll:=hlong.out Ls[i] hmem
   have ha:=Hld.mk (hall.out Ls[i] hmem)
   have hg:=hlg.out Ls[i]
   rcases hgi : lg Ls[i] with _|_
   ·rw [hgi] at hg
    clear hmem
    have fin : ∀ j (hj : j < Ls.length),j < i + 1 → lg Ls[j] = false:=by
     intro j hj h
     rcases Nat.lt_succ_iff_lt_or_eq.1 h with h|rfl
     ·exact hbef.out j hj h
     ·exact hgi
    replace fin:=Hld.mk fin
    rcases hk with rfl|rfl|rfl
    ·simp at hg
     have hg2 : ¬ 256 < (Ls[i].length : Int) - rem.length + add.length:=by omega
     clear hg
     repeat' (first
      |(with_reducible first|refine uK ?_|refine uX ?_|refine jq fun K hK=>?_|refine jb ?_)|((with_reducible first|refine rS hE ?_|refine jn ?_|refine js fun K' hK'=>?_|refine ji fun X Y hX hY=>?_|refine jr ?_|refine jk ?_|refine jx ?_);simp [*])|with_reducible refine rL hE ?_|with_reducible refine And.intro ?_ ?_|omega|(refine imp1 fun h=>?_))
     all_goals exact ⟨i + 1,⟨by omega,fin⟩,by omega,by simp⟩
    ·rcases hh : hasAllB Ls[i] rem with _|_
     ·clear hg
      repeat' (first
       |(with_reducible first|refine uK ?_|refine uX ?_|refine jq fun K hK=>?_|refine jb ?_)|((with_reducible first|refine rS hE ?_|refine jn ?_|refine js fun K' hK'=>?_|refine ji fun X Y hX hY=>?_|refine jr ?_|refine jk ?_|refine jx ?_);simp [*])|with_reducible refine rL hE ?_|(refine jC (ha.out) ?_ ?_ ?_;(iterate 2 focus (simp [*] <;> fail));simp [*])|with_reducible refine And.intro ?_ ?_|omega|(refine imp1 fun h=>?_))
      all_goals exact ⟨i + 1,⟨by omega,fin⟩,by omega,by simp⟩
     ·rw [hh] at hg
      simp at hg
      have hg2 : ¬ 256 < (Ls[i].length : Int) - rem.length + add.length:=by omega
      clear hg
      repeat' (first
       |(with_reducible first|refine uK ?_|refine uX ?_|refine jq fun K hK=>?_|refine jb ?_)|((with_reducible first|refine rS hE ?_|refine jn ?_|refine js fun K' hK'=>?_|refine ji fun X Y hX hY=>?_|refine jr ?_|refine jk ?_|refine jx ?_);simp [*])|with_reducible refine rL hE ?_|(refine jC (ha.out) ?_ ?_ ?_;(iterate 2 focus (simp [*] <;> fail));simp [*])|with_reducible refine And.intro ?_ ?_|omega|(refine imp1 fun h=>?_))
      all_goals exact ⟨i + 1,⟨by omega,fin⟩,by omega,by simp⟩
    ·simp at hg
     have hg2 : ¬ 256 < (Ls[i].length : Int) - rem.length + add.length:=by omega
     clear hg
     repeat' (first
      |(with_reducible first|refine uK ?_|refine uX ?_|refine jq fun K hK=>?_|refine jb ?_)|((with_reducible first|refine rS hE ?_|refine jn ?_|refine js fun K' hK'=>?_|refine ji fun X Y hX hY=>?_|refine jr ?_|refine jk ?_|refine jx ?_);simp [*])|with_reducible refine rL hE ?_|with_reducible refine And.intro ?_ ?_|omega|(refine imp1 fun h=>?_))
     all_goals exact ⟨i + 1,⟨by omega,fin⟩,by omega,by simp⟩
   ·rw [hgi] at hg
    clear hmem
    have hany : Ls.any lg = true:=List.any_eq_true.2 ⟨_,List.getElem_mem hlt,hgi⟩
    rw [if_pos hany] at hB
    clear hany
    rcases hk with rfl|rfl|rfl
    ·simp at hg
     repeat' (first
      |(with_reducible first|refine uK ?_|refine uX ?_|refine jq fun K hK=>?_|refine jb ?_)|((with_reducible first|refine rS hE ?_|refine jn ?_|refine js fun K' hK'=>?_|refine ji fun X Y hX hY=>?_|refine jr ?_|refine jk ?_|refine jx ?_);simp [*])|with_reducible refine rL hE ?_|with_reducible refine And.intro ?_ ?_|omega|(refine imp1 fun h=>?_))
    ·have hh : hasAllB Ls[i] rem = true:=by simp at hg;exact hg.1
     have hg2 : 256 < (Ls[i].length : Int) - rem.length + add.length:=by simp at hg;exact hg.2
     clear hg
     repeat' (first
      |(with_reducible first|refine uK ?_|refine uX ?_|refine jq fun K hK=>?_|refine jb ?_)|((with_reducible first|refine rS hE ?_|refine jn ?_|refine js fun K' hK'=>?_|refine ji fun X Y hX hY=>?_|refine jr ?_|refine jk ?_|refine jx ?_);simp [*])|with_reducible refine rL hE ?_|(refine jC (ha.out) ?_ ?_ ?_;(iterate 2 focus (simp [*] <;> fail));simp [*])|with_reducible refine And.intro ?_ ?_|omega|(refine imp1 fun h=>?_))
    ·simp at hg
     repeat' (first
      |(with_reducible first|refine uK ?_|refine uX ?_|refine jq fun K hK=>?_|refine jb ?_)|((with_reducible first|refine rS hE ?_|refine jn ?_|refine js fun K' hK'=>?_|refine ji fun X Y hX hY=>?_|refine jr ?_|refine jk ?_|refine jx ?_);simp [*])|with_reducible refine rL hE ?_|with_reducible refine And.intro ?_ ?_|omega|(refine imp1 fun h=>?_))
  ·have hil : i = Ls.length:=by omega
   subst hil
   have hany : Ls.any lg = false:=by
    rw [List.any_eq_false]
    intro x hx
    obtain ⟨j,hj,rfl⟩:=List.getElem_of_mem hx
    simp [hbef.out j hj hj]
   rw [hany] at hB
   simp at hB
   repeat' (first
    |(with_reducible first|refine uK ?_|refine uX ?_|refine jq fun K hK=>?_|refine jb ?_)|((with_reducible first|refine rS hE ?_|refine jn ?_|refine js fun K' hK'=>?_|refine ji fun X Y hX hY=>?_|refine jr ?_|refine jk ?_|refine jx ?_);simp [*])|with_reducible refine rL hE ?_|with_reducible refine And.intro ?_ ?_|omega|(refine imp1 fun h=>?_))
theorem kindOK_of {e : Ed} (h : inB e.kind 1 4 = true) : kindOK e:=by
 simp only [inB,decide_eq_true_eq] at h
 unfold kindOK
 omega
set_option maxHeartbeats 4000000 in
theorem s_check (m : Sh) (e : Ed) (h : WF m) (he : EdOK e) : PSpec Tryz.prog 26 [.ep (encM m),encE e] (iA (chkE m e)):=by
 have hB : chkE m e = if inB e.kind 1 4 = false then 4 else if formB e = true then 5 else if beliefE m e ≠ 0 then beliefE m e else if remE m e ≠ 0 then remE m e else if addE m e ≠ 0 then addE m e else if e.kind = 3 then 0 else sizeE m e:=rfl
 generalize chkE m e = B at hB ⊢
 rcases hk : inB e.kind 1 4 with _|_
 ·rw [hk] at hB
  simp at hB
  refine PSpec_of Tryz.func26 rfl rfl (Nat.le_of_ble_eq_true rfl) (Nat.le_of_ble_eq_true rfl) ?_
  intro E hE
  repeat' (first
   |(with_reducible first|refine uK ?_|refine uX ?_|refine jq fun K hK=>?_|refine jb ?_)|((with_reducible first|refine rS hE ?_|refine jn ?_|refine js fun K' hK'=>?_|refine ji fun X Y hX hY=>?_|refine jr ?_|refine jk ?_|refine jx ?_);simp [*])|with_reducible refine rL hE ?_|(refine acall_same (s_within _ _ _) ?_ ?_ ?_;(iterate 2 focus (simp [*] <;> fail));simp [*])|(refine acall_view (s_within _ _ _) ?_ ?_ ?_;(iterate 2 focus (simp [*] <;> fail));simp [*])|with_reducible refine And.intro ?_ ?_|omega|(refine imp1 fun h=>?_))
 ·rw [hk] at hB
  simp only [Bool.true_eq_false,if_false] at hB
  have hkk:=kindOK_of hk
  rcases hf : formB e with _|_
  ·rw [hf] at hB
   simp only [Bool.false_eq_true,if_false] at hB
   have hb:=Hld.mk (s_belief m e h hkk)
   have hr:=Hld.mk (s_removal m e h he hkk)
   have ha:=Hld.mk (s_addition m e h he hkk)
   have hs : e.kind ≠ 3 → PSpec Tryz.prog 67 [.ep (encM m),encE e] (iA (sizeE m e)):=fun h3=>s_size m e h he (by unfold kindOK at hkk;omega)
   replace hs:=Hld.mk hs
   generalize beliefE m e = b1 at *
   generalize remE m e = b2 at *
   generalize addE m e = b3 at *
   generalize sizeE m e = b4 at *
   refine PSpec_of Tryz.func26 rfl rfl (Nat.le_of_ble_eq_true rfl) (Nat.le_of_ble_eq_true rfl) ?_
   intro E hE
   repeat' (first
    |(with_reducible first|refine uK ?_|refine uX ?_|refine jq fun K hK=>?_|refine jb ?_)|((with_reducible first|refine rS hE ?_|refine jn ?_|refine js fun K' hK'=>?_|refine ji fun X Y hX hY=>?_|refine jr ?_|refine jk ?_|refine jx ?_);simp [*])|with_reducible refine rL hE ?_|(refine acall_same (s_within _ _ _) ?_ ?_ ?_;(iterate 2 focus (simp [*] <;> fail));simp [*])|(refine acall_view (s_within _ _ _) ?_ ?_ ?_;(iterate 2 focus (simp [*] <;> fail));simp [*])|(refine jC (s_form e) ?_ ?_ ?_;(iterate 2 focus (simp [*] <;> fail));simp [*])|with_reducible refine And.intro ?_ ?_|omega|(refine imp1 fun h=>?_))
   refine AW_loopk (G:=Nat) (fun i=>⟨[(27,iA i),(26,iA 3),(25,.own 25 1 0 3),(3,.loc 3 0),(0,.ep (encM m)),(4,iA 0)],[(25,.arr 51 1 [.fn (.func 64) [.ep (encM m)] [],.fn (.func 65) [.ep (encM m)] [],.fn (.func 66) [.ep (encM m)] []]),(3,.box 36 (encE e))]⟩)
    (fun i=>i ≤ 3 ∧ (0 < i → b1 = 0) ∧ (1 < i → b2 = 0) ∧ (2 < i → b3 = 0)) (fun i=>3 - i) 0 ⟨by omega,by omega,by omega,by omega⟩ (by simp) ?_
   rintro i ⟨hi,g1,g2,g3⟩ K hK
   have : i = 0 ∨ i = 1 ∨ i = 2 ∨ i = 3:=by omega
   rcases this with rfl|rfl|rfl|rfl
   ·clear g1 g2 g3
    by_cases c : b1 = 0
    ·repeat' (first
      |(with_reducible first|refine uK ?_|refine uX ?_|refine jq fun K hK=>?_|refine jb ?_)|((with_reducible first|refine rS hE ?_|refine jn ?_|refine js fun K' hK'=>?_|refine ji fun X Y hX hY=>?_|refine jr ?_|refine jk ?_|refine jx ?_);simp [*])|with_reducible refine rL hE ?_|(refine jC (hb.out) ?_ ?_ ?_;(iterate 2 focus (simp [*] <;> fail));simp [*])|with_reducible refine And.intro ?_ ?_|omega|(refine imp1 fun h=>?_))
     all_goals exact ⟨1,⟨by omega,fun _=>c,by omega,by omega⟩,by omega,by simp⟩
    ·rw [if_pos c] at hB
     repeat' (first
      |(with_reducible first|refine uK ?_|refine uX ?_|refine jq fun K hK=>?_|refine jb ?_)|((with_reducible first|refine rS hE ?_|refine jn ?_|refine js fun K' hK'=>?_|refine ji fun X Y hX hY=>?_|refine jr ?_|refine jk ?_|refine jx ?_);simp [*])|with_reducible refine rL hE ?_|(refine jC (hb.out) ?_ ?_ ?_;(iterate 2 focus (simp [*] <;> fail));simp [*])|with_reducible refine And.intro ?_ ?_|omega|(refine imp1 fun h=>?_))
   ·have c1:=g1 (by omega)
    clear g1 g2 g3
    rw [if_neg (by simp [c1])] at hB
    by_cases c : b2 = 0
    ·repeat' (first
      |(with_reducible first|refine uK ?_|refine uX ?_|refine jq fun K hK=>?_|refine jb ?_)|((with_reducible first|refine rS hE ?_|refine jn ?_|refine js fun K' hK'=>?_|refine ji fun X Y hX hY=>?_|refine jr ?_|refine jk ?_|refine jx ?_);simp [*])|with_reducible refine rL hE ?_|(refine jC (hr.out) ?_ ?_ ?_;(iterate 2 focus (simp [*] <;> fail));simp [*])|with_reducible refine And.intro ?_ ?_|omega|(refine imp1 fun h=>?_))
     all_goals exact ⟨2,⟨by omega,fun _=>c1,fun _=>c,by omega⟩,by omega,by simp⟩
    ·rw [if_pos c] at hB
     repeat' (first
      |(with_reducible first|refine uK ?_|refine uX ?_|refine jq fun K hK=>?_|refine jb ?_)|((with_reducible first|refine rS hE ?_|refine jn ?_|refine js fun K' hK'=>?_|refine ji fun X Y hX hY=>?_|refine jr ?_|refine jk ?_|refine jx ?_);simp [*])|with_reducible refine rL hE ?_|(refine jC (hr.out) ?_ ?_ ?_;(iterate 2 focus (simp [*] <;> fail));simp [*])|with_reducible refine And.intro ?_ ?_|omega|(refine imp1 fun h=>?_))
   ·have c1:=g1 (by omega)
    have c2:=g2 (by omega)
    clear g1 g2 g3
    rw [if_neg (by simp [c1]),if_neg (by simp [c2])] at hB
    by_cases c : b3 = 0
    ·repeat' (first
      |(with_reducible first|refine uK ?_|refine uX ?_|refine jq fun K hK=>?_|refine jb ?_)|((with_reducible first|refine rS hE ?_|refine jn ?_|refine js fun K' hK'=>?_|refine ji fun X Y hX hY=>?_|refine jr ?_|refine jk ?_|refine jx ?_);simp [*])|with_reducible refine rL hE ?_|(refine jC (ha.out) ?_ ?_ ?_;(iterate 2 focus (simp [*] <;> fail));simp [*])|with_reducible refine And.intro ?_ ?_|omega|(refine imp1 fun h=>?_))
     all_goals exact ⟨3,⟨by omega,fun _=>c1,fun _=>c2,fun _=>c⟩,by omega,by simp⟩
    ·rw [if_pos c] at hB
     repeat' (first
      |(with_reducible first|refine uK ?_|refine uX ?_|refine jq fun K hK=>?_|refine jb ?_)|((with_reducible first|refine rS hE ?_|refine jn ?_|refine js fun K' hK'=>?_|refine ji fun X Y hX hY=>?_|refine jr ?_|refine jk ?_|refine jx ?_);simp [*])|with_reducible refine rL hE ?_|(refine jC (ha.out) ?_ ?_ ?_;(iterate 2 focus (simp [*] <;> fail));simp [*])|with_reducible refine And.intro ?_ ?_|omega|(refine imp1 fun h=>?_))
   ·have c1:=g1 (by omega)
    have c2:=g2 (by omega)
    have c3:=g3 (by omega)
    clear g1 g2 g3
    rw [if_neg (by simp [c1]),if_neg (by simp [c2]),if_neg (by simp [c3])] at hB
    by_cases c : e.kind = 3
    ·rw [if_pos c] at hB
     repeat' (first
      |(with_reducible first|refine uK ?_|refine uX ?_|refine jq fun K hK=>?_|refine jb ?_)|((with_reducible first|refine rS hE ?_|refine jn ?_|refine js fun K' hK'=>?_|refine ji fun X Y hX hY=>?_|refine jr ?_|refine jk ?_|refine jx ?_);simp [*])|with_reducible refine rL hE ?_|with_reducible refine And.intro ?_ ?_|omega|(refine imp1 fun h=>?_))
    ·rw [if_neg c] at hB
     have hs2:=Hld.mk (hs.out c)
     repeat' (first
      |(with_reducible first|refine uK ?_|refine uX ?_|refine jq fun K hK=>?_|refine jb ?_)|((with_reducible first|refine rS hE ?_|refine jn ?_|refine js fun K' hK'=>?_|refine ji fun X Y hX hY=>?_|refine jr ?_|refine jk ?_|refine jx ?_);simp [*])|with_reducible refine rL hE ?_|(refine jC (hs2.out) ?_ ?_ ?_;(iterate 2 focus (simp [*] <;> fail));simp [*])|with_reducible refine And.intro ?_ ?_|omega|(refine imp1 fun h=>?_))
  ·rw [hf] at hB
   simp at hB
   refine PSpec_of Tryz.func26 rfl rfl (Nat.le_of_ble_eq_true rfl) (Nat.le_of_ble_eq_true rfl) ?_
   intro E hE
   repeat' (first
    |(with_reducible first|refine uK ?_|refine uX ?_|refine jq fun K hK=>?_|refine jb ?_)|((with_reducible first|refine rS hE ?_|refine jn ?_|refine js fun K' hK'=>?_|refine ji fun X Y hX hY=>?_|refine jr ?_|refine jk ?_|refine jx ?_);simp [*])|with_reducible refine rL hE ?_|(refine acall_same (s_within _ _ _) ?_ ?_ ?_;(iterate 2 focus (simp [*] <;> fail));simp [*])|(refine acall_view (s_within _ _ _) ?_ ?_ ?_;(iterate 2 focus (simp [*] <;> fail));simp [*])|(refine jC (s_form e) ?_ ?_ ?_;(iterate 2 focus (simp [*] <;> fail));simp [*])|with_reducible refine And.intro ?_ ?_|omega|(refine imp1 fun h=>?_))
end Go.Proofs.YtbibemijcdkjhaaGreatDoor
end
section
namespace Go.Proofs.YtbibemijcdkjhaaGreatDoor
open Go.Am
def atL (m : Sh) (b : Int) : List Seg:=if inB b m.first (lastB m) then m.lists.getD (b - m.first).toNat [] else []
def atF (m : Sh) (b : Int) : Int:=if inB b m.first (lastB m) then 0 else 35
theorem s_at (m : Sh) (b : Int) (h : WF m) : PSpec Tryz.prog 22 [.ep (encM m),iA b] (.tup [segL (atL m b),iA (atF m b)]):=by
 have h1:=h.first
 have h2:=h.len
 have h3:=h.ne
 rcases hi : inB b m.first (lastB m) with _|_
 ·have e1 : atL m b = []:=by simp [atL,hi]
  have e2 : atF m b = 35:=by simp [atF,hi]
  rw [e1,e2]
  refine MSpec.toD (R:=fun res bf=>DView bf res (.tup [segL [],iA 35])) ?_ fun _ _ h=>h
  refine MSpec_of Tryz.func22 rfl rfl (Nat.le_of_ble_eq_true rfl) (Nat.le_of_ble_eq_true rfl) ?_
  intro E hE
  repeat' (first
   |(with_reducible first|refine uK ?_|refine uQ ?_|refine uX ?_|refine jq fun K hK=>?_|refine jb ?_)|(with_reducible refine rS hE ?_;simp [*])|with_reducible refine rL hE ?_|(((with_reducible show RK _ _ _ _ _ _);first|refine jn ?_|refine js fun K' hK'=>?_);simp [*])|with_reducible refine rD mixed hE ?_|((with_reducible show RKQ _ _ _ _ _ _);first|refine RKQ_nilk ⟨by decide,?_⟩|(refine jv fun K' hK'=>?_;simp [*]))|((with_reducible first|refine ji fun X Y hX hY=>?_|refine jr ?_|refine jk ?_|refine jx ?_);simp [*])|((first|refine jC (s_last m h) ?_ ?_ ?_|refine jQ (s_last m h) ?_ ?_ ?_);(iterate 2 focus (simp [*] <;> fail));simp [*])|((first|refine acall_same (s_within _ _ _) ?_ ?_ ?_|refine call_same (s_within _ _ _) ?_ ?_ ?_);(iterate 2 focus (simp [*] <;> fail));simp [*])|((first|refine acall_view (s_within _ _ _) ?_ ?_ ?_|refine call_view (s_within _ _ _) ?_ ?_ ?_);(iterate 2 focus (simp [*] <;> fail));simp [*])|with_reducible refine And.intro ?_ ?_|omega|(refine imp1 fun h=>?_))
  all_goals exact DView.tupL ⟨.base (by simp),.base (by simp),trivial⟩
 ·have e2 : atF m b = 0:=by simp [atF,hi]
  have hb:=hi
  simp only [inB,decide_eq_true_eq] at hb
  have hlb : lastB m = m.first + (m.lists.length : Int) - 1:=rfl
  rw [hlb] at hb
  clear hlb
  obtain ⟨i,hsub⟩ : ∃ i : Nat,b - m.first = (i : Int):=⟨(b - m.first).toNat,by omega⟩
  have hil : i < m.lists.length:=by omega
  have e1 : atL m b = m.lists[i]:=by
   simp [atL,hi,hsub,hil]
  have hlen:=(h.srt m.lists[i] (List.getElem_mem hil)).2
  have hcl:=Hld.mk (s_cloneS m.lists[i] (by omega))
  have hs1:=Hld.mk (s_last m h)
  rw [e1,e2]
  clear hb
  refine PSpec_of Tryz.func22 rfl rfl (Nat.le_of_ble_eq_true rfl) (Nat.le_of_ble_eq_true rfl) ?_
  intro E hE
  repeat' (first
   |(with_reducible first|refine uK ?_|refine uQ ?_|refine uX ?_|refine jq fun K hK=>?_|refine jb ?_)|(with_reducible refine rS hE ?_;simp [*])|with_reducible refine rL hE ?_|(((with_reducible show RK _ _ _ _ _ _);first|refine jn ?_|refine js fun K' hK'=>?_);simp [*])|with_reducible refine rD mixed hE ?_|((with_reducible show RKQ _ _ _ _ _ _);first|refine RKQ_nilk ⟨by decide,?_⟩|(refine jv fun K' hK'=>?_;simp [*]))|((with_reducible first|refine ji fun X Y hX hY=>?_|refine jr ?_|refine jk ?_|refine jx ?_);simp [*])|((first|refine jC (hs1.out) ?_ ?_ ?_|refine jQ (hs1.out) ?_ ?_ ?_);(iterate 2 focus (simp [*] <;> fail));simp [*])|((first|refine acall_same (s_within _ _ _) ?_ ?_ ?_|refine call_same (s_within _ _ _) ?_ ?_ ?_);(iterate 2 focus (simp [*] <;> fail));simp [*])|((first|refine acall_view (s_within _ _ _) ?_ ?_ ?_|refine call_view (s_within _ _ _) ?_ ?_ ?_);(iterate 2 focus (simp [*] <;> fail));simp [*])|((first|refine jC (hcl.out) ?_ ?_ ?_|refine jQ (hcl.out) ?_ ?_ ?_);(iterate 2 focus (simp [*] <;> fail));simp [*])|with_reducible refine And.intro ?_ ?_|omega|(refine imp1 fun h=>?_))
def segI (i : Int) : Seg:={ (default : Seg) with id:=i }
theorem segI_enc (i : Int) : encS (segI i) = .st [iA i,iA 0,iA 0,iA 0,iA 0,iA 0,iA 0,iA 0,iA 0]:=rfl
@[simp] theorem idf_segI (l : List Int) : idfL (l.map (encS ∘ segI)) = true:=by induction l with|nil=>rfl|cons a l ih=>simp [ih]
theorem m_new : MSpec Tryz.prog 33 [] [] (fun res bf=>res = .loc 3 0 ∧ bf 3 = some (.box 72 (.st [iA 0,.own 1 1 0 1,iA 0])) ∧ bf 1 = some (.arr 34 1 [segL []])):=by
 refine MSpec_of Tryz.func33 rfl rfl (Nat.le_of_ble_eq_true rfl) (Nat.le_of_ble_eq_true rfl) ?_
 intro E hE
 repeat' (first
  |(with_reducible first|refine uK ?_|refine uX ?_|refine jq fun K hK=>?_|refine jb ?_)|((with_reducible first|refine rS hE ?_|refine jn ?_|refine js fun K' hK'=>?_|refine ji fun X Y hX hY=>?_|refine jr ?_|refine jk ?_|refine jx ?_);simp [*])|with_reducible refine rL hE ?_|with_reducible refine And.intro ?_ ?_|omega|(refine imp1 fun h=>?_))
theorem s_segments (ids : List Int) (hl : ids.length ≤ 1000) : PSpec Tryz.prog 35 [.sl 1 (ids.map iA)] (segL (ids.map segI)):=by
 obtain ⟨F,hF⟩ : ∃ F : Nat → List Seg,∀ i,F i = (ids.take i).map segI:=⟨_,fun _=>rfl⟩
 have f0 : F 0 = []:=by simp [hF]
 have fs : ∀ i (h : i < ids.length),F (i + 1) = F i ++ [segI ids[i]]:=by
  intro i h
  rw [hF,hF,List.take_succ_eq_append_getElem h,List.map_append]
  rfl
 have fe : F ids.length = ids.map segI:=by rw [hF,List.take_length]
 have fl : ∀ i,i ≤ ids.length → (F i).length = i:=by
  intro i hi
  rw [hF];simp;omega
 clear hF
 replace fs:=Hld.mk fs
 replace fe:=Hld.mk fe
 replace fl:=Hld.mk fl
 refine PSpec_of Tryz.func35 rfl rfl (Nat.le_of_ble_eq_true rfl) (Nat.le_of_ble_eq_true rfl) ?_
 intro E hE
 refine AW_seqt ⟨[(2,.v (.slice none 0 0)),(0,.sl 1 (ids.map iA))],[]⟩ ?_ (by
  intro K hK
  repeat' (first
   |(with_reducible first|refine uK ?_|refine uX ?_|refine jq fun K hK=>?_|refine jb ?_)|((with_reducible first|refine rS hE ?_|refine jn ?_|refine js fun K' hK'=>?_|refine ji fun X Y hX hY=>?_|refine jr ?_|refine jk ?_|refine jx ?_);simp [*])|with_reducible refine rL hE ?_|with_reducible refine And.intro ?_ ?_|omega|(refine imp1 fun h=>?_))
  all_goals simp)
 refine AW_seqt ⟨[(3,.v (.slice none 0 0)),(0,.sl 1 (ids.map iA))],[]⟩ ?_ (by
  intro K hK
  repeat' (first
   |(with_reducible first|refine uK ?_|refine uX ?_|refine jq fun K hK=>?_|refine jb ?_)|((with_reducible first|refine rS hE ?_|refine jn ?_|refine js fun K' hK'=>?_|refine ji fun X Y hX hY=>?_|refine jr ?_|refine jk ?_|refine jx ?_);simp [*])|with_reducible refine rL hE ?_|with_reducible refine And.intro ?_ ?_|omega|(refine imp1 fun h=>?_))
  all_goals simp)
 refine AW_mkrow 3 900 70 9 rfl rfl rfl (by omega) ?_
 repeat' (first
  |(with_reducible first|refine uK ?_|refine uX ?_|refine jq fun K hK=>?_|refine jb ?_)|((with_reducible first|refine rS hE ?_|refine jn ?_|refine js fun K' hK'=>?_|refine ji fun X Y hX hY=>?_|refine jr ?_|refine jk ?_|refine jx ?_);simp [*])|with_reducible refine rL hE ?_|with_reducible refine And.intro ?_ ?_|omega|(refine imp1 fun h=>?_))
 refine AW_loopk (G:=Nat) (fun i=>⟨[(4,iA i),(3,.own 900 9 0 (F i).length),(0,.sl 1 (ids.map iA))],[(900,.arr 70 9 ((F i).map encS))]⟩)
  (fun i=>i ≤ ids.length) (fun i=>ids.length - i) 0 (by omega) (by simp [f0]) ?_
 intro i hi K hK
 have hli:=fl.out i hi
 clear f0
 by_cases hlt : i < ids.length
 ·have hfs:=fs.out i hlt
  replace hfs:=Hld.mk hfs
  repeat' (first
   |(with_reducible first|refine uK ?_|refine uX ?_|refine jq fun K hK=>?_|refine jb ?_)|((with_reducible first|refine rS hE ?_|refine jn ?_|refine js fun K' hK'=>?_|refine ji fun X Y hX hY=>?_|refine jr ?_|refine jk ?_|refine jx ?_);simp [*])|with_reducible refine rL hE ?_|with_reducible refine And.intro ?_ ?_|omega|(refine imp1 fun h=>?_))
  have htk : List.take i ((F i).map encS) = (F i).map encS:=List.take_of_length_le (by simp [hli])
  exact ⟨i + 1,by omega,by omega,by simp [hfs.out,segI_enc,hli,htk]⟩
 ·have hil : i = ids.length:=by omega
  subst hil
  have hfe:=fe.out
  repeat' (first
   |(with_reducible first|refine uK ?_|refine uX ?_|refine jq fun K hK=>?_|refine jb ?_)|((with_reducible first|refine rS hE ?_|refine jn ?_|refine js fun K' hK'=>?_|refine ji fun X Y hX hY=>?_|refine jr ?_|refine jk ?_|refine jx ?_);simp [*])|with_reducible refine rL hE ?_|with_reducible refine And.intro ?_ ?_|omega|(refine imp1 fun h=>?_))
theorem s_same (a b : List Seg) (ha : a.length ≤ 1000) (hb : b.length ≤ 1000) : PSpec Tryz.prog 36 [segL a,segL b] (bA (decide (a = b))):=by
 by_cases hlen : a.length = b.length
 ·refine PSpec_of Tryz.func36 rfl rfl (Nat.le_of_ble_eq_true rfl) (Nat.le_of_ble_eq_true rfl) ?_
  intro E hE
  repeat' (first
   |(with_reducible first|refine uK ?_|refine uQ ?_|refine uX ?_|refine jq fun K hK=>?_|refine jb ?_)|(with_reducible refine rS hE ?_;simp [*])|with_reducible refine rL hE ?_|(((with_reducible show RK _ _ _ _ _ _);first|refine jn ?_|refine js fun K' hK'=>?_);simp [*])|with_reducible refine rD mixed hE ?_|((with_reducible show RKQ _ _ _ _ _ _);first|refine RKQ_nilk ⟨by decide,?_⟩|(refine jv fun K' hK'=>?_;simp [*]))|((with_reducible first|refine ji fun X Y hX hY=>?_|refine jr ?_|refine jk ?_|refine jx ?_);simp [*])|with_reducible refine And.intro ?_ ?_|omega|(refine imp1 fun h=>?_))
  refine AW_loopk (G:=Nat) (fun i=>⟨[(5,iA i),(0,segL a),(1,segL b)],[]⟩)
   (fun i=>i ≤ b.length ∧ Hld (∀ j (h1 : j < a.length) (h2 : j < b.length),j < i → a[j] = b[j])) (fun i=>b.length - i) 0 ⟨by omega,⟨fun j h1 h2 h=>by omega⟩⟩ (by simp) ?_
  rintro i ⟨hi,hbef⟩ K hK
  by_cases hlt : i < b.length
  ·have hla : i < a.length:=by omega
   by_cases he : a[i] = b[i]
   ·repeat' (first
     |(with_reducible first|refine uK ?_|refine uQ ?_|refine uX ?_|refine jq fun K hK=>?_|refine jb ?_)|(with_reducible refine rS hE ?_;simp [*])|with_reducible refine rL hE ?_|(((with_reducible show RK _ _ _ _ _ _);first|refine jn ?_|refine js fun K' hK'=>?_);simp [*])|with_reducible refine rD mixed hE ?_|((with_reducible show RKQ _ _ _ _ _ _);first|refine RKQ_nilk ⟨by decide,?_⟩|(refine jv fun K' hK'=>?_;simp [*]))|((with_reducible first|refine ji fun X Y hX hY=>?_|refine jr ?_|refine jk ?_|refine jx ?_);simp [*])|with_reducible refine And.intro ?_ ?_|omega|(refine imp1 fun h=>?_))
    refine ⟨i + 1,⟨by omega,⟨fun j h1 h2 h=>?_⟩⟩,by omega,by simp⟩
    rcases Nat.lt_succ_iff_lt_or_eq.1 h with h|rfl
    ·exact hbef.out j h1 h2 h
    ·exact he
   ·have hne : decide (a = b) = false:=by
     rw [decide_eq_false_iff_not]
     rintro rfl
     exact he rfl
    repeat' (first
     |(with_reducible first|refine uK ?_|refine uQ ?_|refine uX ?_|refine jq fun K hK=>?_|refine jb ?_)|(with_reducible refine rS hE ?_;simp [*])|with_reducible refine rL hE ?_|(((with_reducible show RK _ _ _ _ _ _);first|refine jn ?_|refine js fun K' hK'=>?_);simp [*])|with_reducible refine rD mixed hE ?_|((with_reducible show RKQ _ _ _ _ _ _);first|refine RKQ_nilk ⟨by decide,?_⟩|(refine jv fun K' hK'=>?_;simp [*]))|((with_reducible first|refine ji fun X Y hX hY=>?_|refine jr ?_|refine jk ?_|refine jx ?_);simp [*])|with_reducible refine And.intro ?_ ?_|omega|(refine imp1 fun h=>?_))
  ·have heq : decide (a = b) = true:=by
    rw [decide_eq_true_eq]
    exact List.ext_getElem hlen fun j h1 h2=>hbef.out j h1 h2 (by omega)
   have hil : i = b.length:=by omega
   subst hil
   repeat' (first
    |(with_reducible first|refine uK ?_|refine uQ ?_|refine uX ?_|refine jq fun K hK=>?_|refine jb ?_)|(with_reducible refine rS hE ?_;simp [*])|with_reducible refine rL hE ?_|(((with_reducible show RK _ _ _ _ _ _);first|refine jn ?_|refine js fun K' hK'=>?_);simp [*])|with_reducible refine rD mixed hE ?_|((with_reducible show RKQ _ _ _ _ _ _);first|refine RKQ_nilk ⟨by decide,?_⟩|(refine jv fun K' hK'=>?_;simp [*]))|((with_reducible first|refine ji fun X Y hX hY=>?_|refine jr ?_|refine jk ?_|refine jx ?_);simp [*])|with_reducible refine And.intro ?_ ?_|omega|(refine imp1 fun h=>?_))
 ·have hne : decide (a = b) = false:=by
   rw [decide_eq_false_iff_not]
   rintro rfl
   exact hlen rfl
  refine PSpec_of Tryz.func36 rfl rfl (Nat.le_of_ble_eq_true rfl) (Nat.le_of_ble_eq_true rfl) ?_
  intro E hE
  repeat' (first
   |(with_reducible first|refine uK ?_|refine uQ ?_|refine uX ?_|refine jq fun K hK=>?_|refine jb ?_)|(with_reducible refine rS hE ?_;simp [*])|with_reducible refine rL hE ?_|(((with_reducible show RK _ _ _ _ _ _);first|refine jn ?_|refine js fun K' hK'=>?_);simp [*])|with_reducible refine rD mixed hE ?_|((with_reducible show RKQ _ _ _ _ _ _);first|refine RKQ_nilk ⟨by decide,?_⟩|(refine jv fun K' hK'=>?_;simp [*]))|((with_reducible first|refine ji fun X Y hX hY=>?_|refine jr ?_|refine jk ?_|refine jx ?_);simp [*])|with_reducible refine And.intro ?_ ?_|omega|(refine imp1 fun h=>?_))
end Go.Proofs.YtbibemijcdkjhaaGreatDoor
end
section
namespace Go.Proofs.YtbibemijcdkjhaaGreatDoor
open Go.Am
structure AddOK (m : Sh) (k : Int) (rem : List Int) (x : Seg) : Prop where
 chk : chkS x = 0
 dup1 : k = 1 → hasB (lastL m) x.id = true → inI rem x.id = true
 dup2 : k = 2 → anyHas m x.id = false
 oth : k = 1 → othHas m x = false
theorem addOne_zero {m : Sh} {k : Int} {rem : List Int} {p : Option Int} {x : Seg} (h : addOne m k rem p x = 0) : AddOK m k rem x ∧ ∀ y,p = some y → y < x.id:=by
 unfold addOne at h
 split at h
 ·rename_i h0;exact absurd h h0
 ·rename_i h0
  have h0 : chkS x = 0:=by simpa using h0
  split at h
  ·omega
  ·rename_i h1
   split at h
   ·omega
   ·rename_i h2
    split at h
    ·omega
    ·rename_i h3
     refine ⟨⟨h0,fun hk hh=>?_,fun hk=>?_,fun hk=>?_⟩,fun y hy=>?_⟩
     ·cases hi : inI rem x.id with
      |true=>rfl
      |false=>exact absurd (.inl ⟨hk,hh,hi⟩) h2
     ·cases hi : anyHas m x.id with
      |false=>rfl
      |true=>exact absurd (.inr ⟨hk,hi⟩) h2
     ·cases hi : othHas m x with
      |false=>rfl
      |true=>exact absurd ⟨hk,hi⟩ h3
     ·subst hy
      simp at h1
      exact h1
theorem addGo_zero {m : Sh} {k : Int} {rem : List Int} : ∀ {l : List Seg} {p : Option Int},addGo m k rem p l = 0 → (∀ x ∈ l,AddOK m k rem x ∧ ∀ y,p = some y → y < x.id) ∧ Srt l
 |[],p,_=>⟨by simp,List.Pairwise.nil⟩
 |x :: l,p,h=>by
  unfold addGo at h
  split at h
  ·rename_i h0;exact absurd h h0
  ·rename_i h0
   have h0 : addOne m k rem p x = 0:=by simpa using h0
   obtain ⟨h1,h2⟩:=addOne_zero h0
   obtain ⟨h3,h4⟩:=addGo_zero h
   refine ⟨fun y hy=>?_,List.pairwise_cons.2 ⟨fun y hy=>(h3 y hy).2 _ rfl,h4⟩⟩
   rcases List.mem_cons.1 hy with rfl|hy
   ·exact ⟨h1,h2⟩
   ·exact ⟨(h3 y hy).1,fun z hz=>by have:=(h3 y hy).2 _ rfl;have:=h2 z hz;omega⟩
structure ChkOK (m : Sh) (e : Ed) : Prop where
 kind : kindOK e
 form : formB e = false
 belief : beliefE m e = 0
 rem : remE m e = 0
 add : addE m e = 0
 size : e.kind ≠ 3 → sizeE m e = 0
theorem chk_zero {m : Sh} {e : Ed} (h : chkE m e = 0) : ChkOK m e:=by
 unfold chkE at h
 split at h
 ·omega
 ·rename_i h0
  have h0 : inB e.kind 1 4 = true:=by simpa using h0
  split at h
  ·omega
  ·rename_i h1
   split at h
   ·rename_i h2;exact absurd h h2
   ·rename_i h2
    split at h
    ·rename_i h3;exact absurd h h3
    ·rename_i h3
     split at h
     ·rename_i h4;exact absurd h h4
     ·rename_i h4
      refine ⟨kindOK_of h0,by simpa using h1,by simpa using h2,by simpa using h3,by simpa using h4,fun h5=>?_⟩
      rw [if_neg h5] at h
      exact h
theorem mem_hasB {l : List Seg} {s : Seg} (h : s ∈ l) : hasB l s.id = true:=by
 unfold hasB findS
 rw [List.find?_isSome]
 exact ⟨s,h,by simp⟩
theorem srt_inj {l : List Seg} (h : Srt l) {a b : Seg} (ha : a ∈ l) (hb : b ∈ l) (e : a.id = b.id) : a = b:=by
 obtain ⟨i,hi,rfl⟩:=List.getElem_of_mem ha
 obtain ⟨j,hj,rfl⟩:=List.getElem_of_mem hb
 rcases Nat.lt_trichotomy i j with g|g|g
 ·have:=List.pairwise_iff_getElem.1 h i j hi hj g;omega
 ·subst g;rfl
 ·have:=List.pairwise_iff_getElem.1 h j i hj hi g;omega
theorem dist_of {m : Sh} {e : Ed} (hw : WF m) (h : ChkOK m e) {l : List Seg} (hl : l ∈ m.lists) (hk : (e.kind = 1 ∧ l = lastL m) ∨ e.kind = 2) :
 ∀ a ∈ (l.filter fun s=>!inI e.rem s.id) ++ e.add,∀ b ∈ (l.filter fun s=>!inI e.rem s.id) ++ e.add,a.id = b.id → a = b:=by
 obtain ⟨h1,h2⟩:=addGo_zero h.add
 have hs:=(hw.srt l hl).1
 have cross : ∀ a ∈ (l.filter fun s=>!inI e.rem s.id),∀ b ∈ e.add,a.id = b.id → False:=by
  intro a ha b hb he
  rw [List.mem_filter] at ha
  have hh : hasB l b.id = true:=by rw [← he];exact mem_hasB ha.1
  have hx:=(h1 b hb).1
  rcases hk with ⟨hk,rfl⟩|hk
  ·have:=hx.dup1 hk hh
   rw [← he] at this
   simp [this] at ha
  ·have:=hx.dup2 hk
   unfold anyHas at this
   rw [List.any_eq_false] at this
   exact this l hl hh
 intro a ha b hb he
 rcases List.mem_append.1 ha with ha|ha <;> rcases List.mem_append.1 hb with hb|hb
 ·exact srt_inj hs (List.mem_filter.1 ha).1 (List.mem_filter.1 hb).1 he
 ·exact (cross a ha b hb he).elim
 ·exact (cross b hb a ha he.symm).elim
 ·exact srt_inj h2 ha hb he
def maxU (u : Int) (l : List Seg) : Int:=l.foldl (fun u s=>max u s.id) u
def appB (m : Sh) (e : Ed) : Sh :=
 if e.kind = 1 then ⟨m.first,m.used,m.lists ++ [chgM (lastL m) e]⟩
 else if e.kind = 2 then ⟨m.first,m.used,m.lists.map fun l=>if hasAllB l e.rem then chgM l e else l⟩
 else if e.kind = 3 then ⟨e.belief,m.used,m.lists.drop (e.belief - m.first).toNat⟩
 else ⟨e.belief,e.used,[e.add]⟩
def appE (m : Sh) (e : Ed) : Sh:=⟨(appB m e).first,maxU (appB m e).used e.add,(appB m e).lists⟩
end Go.Proofs.YtbibemijcdkjhaaGreatDoor
end
section
namespace Go.Proofs.YtbibemijcdkjhaaGreatDoor
open Go.Am
theorem find_hit {l : List Seg} {n : Int} {i : Nat} (h : i < l.length) (e : l[i].id = n) (hb : ∀ j (hj : j < l.length),j < i → l[j].id ≠ n) : findS l n = some l[i]:=by
 unfold findS
 rw [List.find?_eq_some_iff_getElem]
 refine ⟨by simpa using e,i,h,rfl,fun j hj=>?_⟩
 have:=hb j (by omega) hj
 simpa using this
theorem find_none {l : List Seg} {n : Int} (hb : ∀ j (hj : j < l.length),l[j].id ≠ n) : findS l n = none:=by
 unfold findS
 rw [List.find?_eq_none]
 intro x hx
 obtain ⟨k,hk,rfl⟩:=List.getElem_of_mem hx
 simpa using hb k hk
theorem hasB_iff {l : List Seg} {n : Int} : hasB l n = true ↔ ∃ s ∈ l,s.id = n:=by
 unfold hasB findS
 rw [List.find?_isSome]
 simp
theorem s_find (l : List Seg) (n : Int) (hl : l.length ≤ 1000000) : PSpec Tryz.prog 56 [segL l,iA n] (.tup [encS ((findS l n).getD default),bA (hasB l n)]):=by
 have h1 : ∀ i (h : i < l.length),l[i].id = n → (∀ j (hj : j < l.length),j < i → l[j].id ≠ n) → (findS l n).getD default = l[i] ∧ hasB l n = true:=by
  intro i h e hb
  have:=find_hit h e hb
  exact ⟨by rw [this];rfl,by unfold hasB;rw [this];rfl⟩
 have h2 : (∀ j (hj : j < l.length),l[j].id ≠ n) → (findS l n).getD default = default ∧ hasB l n = false:=by
  intro hb
  have:=find_none hb
  exact ⟨by rw [this];rfl,by unfold hasB;rw [this];rfl⟩
 generalize (findS l n).getD default = R at *
 generalize hasB l n = B at *
 replace h1:=Hld.mk h1
 replace h2:=Hld.mk h2
 refine PSpec_of Tryz.func56 rfl rfl (Nat.le_of_ble_eq_true rfl) (Nat.le_of_ble_eq_true rfl) ?_
 intro E hE
 repeat' (first
  |(with_reducible first|refine uK ?_|refine uX ?_|refine jq fun K hK=>?_|refine jb ?_)|((with_reducible first|refine rS hE ?_|refine jn ?_|refine js fun K' hK'=>?_|refine ji fun X Y hX hY=>?_|refine jr ?_|refine jk ?_|refine jx ?_);simp [*])|with_reducible refine rL hE ?_|with_reducible refine And.intro ?_ ?_|omega|(refine imp1 fun h=>?_))
 refine AW_loopk (G:=Nat) (fun i=>⟨[(6,iA i),(4,.loc 4 0),(5,bA false),(0,segL l),(1,iA n)],[(4,.box 70 (encS default))]⟩)
  (fun i=>i ≤ l.length ∧ Hld (∀ j (hj : j < l.length),j < i → l[j].id ≠ n)) (fun i=>l.length - i) 0 ⟨by omega,⟨fun j hj h=>by omega⟩⟩ (by simp;rfl) ?_
 rintro i ⟨hi,hb⟩ K hK
 by_cases hlt : i < l.length
 ·by_cases hpi : l[i].id = n
  ·obtain ⟨rfl,rfl⟩:=h1.out i hlt hpi hb.out
   clear h1 h2
   repeat' (first
    |(with_reducible first|refine uK ?_|refine uX ?_|refine jq fun K hK=>?_|refine jb ?_)|((with_reducible first|refine rS hE ?_|refine jn ?_|refine js fun K' hK'=>?_|refine ji fun X Y hX hY=>?_|refine jr ?_|refine jk ?_|refine jx ?_);simp [*])|with_reducible refine rL hE ?_|with_reducible refine And.intro ?_ ?_|omega|(refine imp1 fun h=>?_))
  ·repeat' (first
    |(with_reducible first|refine uK ?_|refine uX ?_|refine jq fun K hK=>?_|refine jb ?_)|((with_reducible first|refine rS hE ?_|refine jn ?_|refine js fun K' hK'=>?_|refine ji fun X Y hX hY=>?_|refine jr ?_|refine jk ?_|refine jx ?_);simp [*])|with_reducible refine rL hE ?_|with_reducible refine And.intro ?_ ?_|omega|(refine imp1 fun h=>?_))
   refine ⟨i + 1,⟨by omega,⟨fun j hj h=>?_⟩⟩,by omega,by simp⟩
   rcases Nat.lt_succ_iff_lt_or_eq.1 h with h|rfl
   ·exact hb.out j hj h
   ·exact hpi
 ·have hil : i = l.length:=by omega
  subst hil
  obtain ⟨rfl,rfl⟩:=h2.out (fun j hj=>hb.out j hj hj)
  clear h1 h2
  repeat' (first
   |(with_reducible first|refine uK ?_|refine uX ?_|refine jq fun K hK=>?_|refine jb ?_)|((with_reducible first|refine rS hE ?_|refine jn ?_|refine js fun K' hK'=>?_|refine ji fun X Y hX hY=>?_|refine jr ?_|refine jk ?_|refine jx ?_);simp [*])|with_reducible refine rL hE ?_|with_reducible refine And.intro ?_ ?_|omega|(refine imp1 fun h=>?_))
  all_goals rfl
theorem s_whasAll (l : List Seg) (ids : List Int) (hl : l.length ≤ 1000000) (hi : ids.length ≤ 1000000) : PSpec Tryz.prog 62 [segL l,.sl 1 (ids.map iA)] (bA (hasAllB l ids)):=by
 have h1 : ∀ i (h : i < ids.length),hasB l ids[i] = false → hasAllB l ids = false:=by
  intro i h e
  unfold hasAllB
  rw [List.all_eq_false]
  exact ⟨_,List.getElem_mem h,by simp [e]⟩
 have h2 : (∀ j (hj : j < ids.length),hasB l ids[j] = true) → hasAllB l ids = true:=by
  intro hb
  unfold hasAllB
  rw [List.all_eq_true]
  intro x hx
  obtain ⟨k,hk,rfl⟩:=List.getElem_of_mem hx
  exact hb k hk
 generalize hasAllB l ids = B at *
 have hf:=Hld.mk (fun n=>s_find l n hl)
 replace h1:=Hld.mk h1
 replace h2:=Hld.mk h2
 refine PSpec_of Tryz.func62 rfl rfl (Nat.le_of_ble_eq_true rfl) (Nat.le_of_ble_eq_true rfl) ?_
 intro E hE
 repeat' (first
  |(with_reducible first|refine uK ?_|refine uX ?_|refine jq fun K hK=>?_|refine jb ?_)|((with_reducible first|refine rS hE ?_|refine jn ?_|refine js fun K' hK'=>?_|refine ji fun X Y hX hY=>?_|refine jr ?_|refine jk ?_|refine jx ?_);simp [*])|with_reducible refine rL hE ?_|with_reducible refine And.intro ?_ ?_|omega|(refine imp1 fun h=>?_))
 refine AW_loopk (G:=Nat) (fun i=>⟨[(5,iA i),(4,bA false),(0,segL l),(1,.sl 1 (ids.map iA))],[]⟩)
  (fun i=>i ≤ ids.length ∧ Hld (∀ j (hj : j < ids.length),j < i → hasB l ids[j] = true)) (fun i=>ids.length - i) 0 ⟨by omega,⟨fun j hj h=>by omega⟩⟩ (by simp) ?_
 rintro i ⟨hi,hb⟩ K hK
 by_cases hlt : i < ids.length
 ·have hfi:=Hld.mk (hf.out ids[i])
  rcases hpi : hasB l ids[i] with _|_
  ·have:=h1.out i hlt hpi
   subst this
   clear h1 h2
   rw [hpi] at hfi
   repeat' (first
    |(with_reducible first|refine uK ?_|refine uX ?_|refine jq fun K hK=>?_|refine jb ?_)|((with_reducible first|refine rS hE ?_|refine jn ?_|refine js fun K' hK'=>?_|refine ji fun X Y hX hY=>?_|refine jr ?_|refine jk ?_|refine jx ?_);simp [*])|with_reducible refine rL hE ?_|(refine jC (hfi.out) ?_ ?_ ?_;(iterate 2 focus (simp [*] <;> fail));simp [*])|with_reducible refine And.intro ?_ ?_|omega|(refine imp1 fun h=>?_))
  ·rw [hpi] at hfi
   repeat' (first
    |(with_reducible first|refine uK ?_|refine uX ?_|refine jq fun K hK=>?_|refine jb ?_)|((with_reducible first|refine rS hE ?_|refine jn ?_|refine js fun K' hK'=>?_|refine ji fun X Y hX hY=>?_|refine jr ?_|refine jk ?_|refine jx ?_);simp [*])|with_reducible refine rL hE ?_|(refine jC (hfi.out) ?_ ?_ ?_;(iterate 2 focus (simp [*] <;> fail));simp [*])|with_reducible refine And.intro ?_ ?_|omega|(refine imp1 fun h=>?_))
   refine ⟨i + 1,⟨by omega,⟨fun j hj h=>?_⟩⟩,by omega,by simp⟩
   rcases Nat.lt_succ_iff_lt_or_eq.1 h with h|rfl
   ·exact hb.out j hj h
   ·exact hpi
 ·have hil : i = ids.length:=by omega
  subst hil
  have:=h2.out (fun j hj=>hb.out j hj hj)
  subst this
  clear h1 h2
  repeat' (first
   |(with_reducible first|refine uK ?_|refine uX ?_|refine jq fun K hK=>?_|refine jb ?_)|((with_reducible first|refine rS hE ?_|refine jn ?_|refine js fun K' hK'=>?_|refine ji fun X Y hX hY=>?_|refine jr ?_|refine jk ?_|refine jx ?_);simp [*])|with_reducible refine rL hE ?_|with_reducible refine And.intro ?_ ?_|omega|(refine imp1 fun h=>?_))
theorem s_forms (e : Ed) : PSpec Tryz.prog 70 [encE e] (bA (!formB e)):=by
 obtain ⟨k,b,u,rem,add⟩:=e
 by_cases h1 : k = 1
 ·by_cases h2 : u = 0
  ·have hB : (!formB ⟨k,b,u,rem,add⟩) = true:=by simp [formB,h1,h2]
   rw [hB]
   refine PSpec_of Tryz.func70 rfl rfl (Nat.le_of_ble_eq_true rfl) (Nat.le_of_ble_eq_true rfl) ?_
   intro E hE
   repeat' (first
    |(with_reducible first|refine uK ?_|refine uX ?_|refine jq fun K hK=>?_|refine jb ?_)|((with_reducible first|refine rS hE ?_|refine jn ?_|refine js fun K' hK'=>?_|refine ji fun X Y hX hY=>?_|refine jr ?_|refine jk ?_|refine jx ?_);simp [*])|with_reducible refine rL hE ?_|with_reducible refine And.intro ?_ ?_|omega|(refine imp1 fun h=>?_))
  ·have hB : (!formB ⟨k,b,u,rem,add⟩) = false:=by simp [formB,h1,h2]
   rw [hB]
   refine PSpec_of Tryz.func70 rfl rfl (Nat.le_of_ble_eq_true rfl) (Nat.le_of_ble_eq_true rfl) ?_
   intro E hE
   repeat' (first
    |(with_reducible first|refine uK ?_|refine uX ?_|refine jq fun K hK=>?_|refine jb ?_)|((with_reducible first|refine rS hE ?_|refine jn ?_|refine js fun K' hK'=>?_|refine ji fun X Y hX hY=>?_|refine jr ?_|refine jk ?_|refine jx ?_);simp [*])|with_reducible refine rL hE ?_|with_reducible refine And.intro ?_ ?_|omega|(refine imp1 fun h=>?_))
 ·by_cases h2 : k = 2
  ·have hB : (!formB ⟨k,b,u,rem,add⟩) = (decide (u = 0) && decide (b = 0)):=by simp [formB,h2,Bool.and_comm]
   rw [hB]
   refine PSpec_of Tryz.func70 rfl rfl (Nat.le_of_ble_eq_true rfl) (Nat.le_of_ble_eq_true rfl) ?_
   intro E hE
   repeat' (first
    |(with_reducible first|refine uK ?_|refine uX ?_|refine jq fun K hK=>?_|refine jb ?_)|((with_reducible first|refine rS hE ?_|refine jn ?_|refine js fun K' hK'=>?_|refine ji fun X Y hX hY=>?_|refine jr ?_|refine jk ?_|refine jx ?_);simp [*])|with_reducible refine rL hE ?_|with_reducible refine And.intro ?_ ?_|omega|(refine imp1 fun h=>?_))
  ·by_cases h3 : k = 3
   ·have hB : (!formB ⟨k,b,u,rem,add⟩) = (decide (u = 0) && decide ((rem.length : Int) = 0) && decide ((add.length : Int) = 0)):=by simp [formB,h3];rw [Bool.eq_iff_iff];simp [and_assoc]
    rw [hB]
    refine PSpec_of Tryz.func70 rfl rfl (Nat.le_of_ble_eq_true rfl) (Nat.le_of_ble_eq_true rfl) ?_
    intro E hE
    repeat' (first
     |(with_reducible first|refine uK ?_|refine uX ?_|refine jq fun K hK=>?_|refine jb ?_)|((with_reducible first|refine rS hE ?_|refine jn ?_|refine js fun K' hK'=>?_|refine ji fun X Y hX hY=>?_|refine jr ?_|refine jk ?_|refine jx ?_);simp [*])|with_reducible refine rL hE ?_|with_reducible refine And.intro ?_ ?_|omega|(refine imp1 fun h=>?_))
   ·have hB : (!formB ⟨k,b,u,rem,add⟩) = decide ((rem.length : Int) = 0):=by simp [formB,h1,h2,h3];rw [Bool.eq_iff_iff];simp [List.length_pos_iff]
    rw [hB]
    refine PSpec_of Tryz.func70 rfl rfl (Nat.le_of_ble_eq_true rfl) (Nat.le_of_ble_eq_true rfl) ?_
    intro E hE
    repeat' (first
     |(with_reducible first|refine uK ?_|refine uX ?_|refine jq fun K hK=>?_|refine jb ?_)|((with_reducible first|refine rS hE ?_|refine jn ?_|refine js fun K' hK'=>?_|refine ji fun X Y hX hY=>?_|refine jr ?_|refine jk ?_|refine jx ?_);simp [*])|with_reducible refine rL hE ?_|with_reducible refine And.intro ?_ ?_|omega|(refine imp1 fun h=>?_))
theorem s_wlast (m : Sh) (h : WF m) : PSpec Tryz.prog 54 [encH m] (iA (lastB m)):=by
 have h1:=h.first
 have h2:=h.len
 have h3:=h.ne
 have hB : lastB m = m.first + (m.lists.length : Int) - 1:=rfl
 rw [hB]
 refine PSpec_of Tryz.func54 rfl rfl (Nat.le_of_ble_eq_true rfl) (Nat.le_of_ble_eq_true rfl) ?_
 intro E hE
 repeat' (first
  |(with_reducible first|refine uK ?_|refine uX ?_|refine jq fun K hK=>?_|refine jb ?_)|((with_reducible first|refine rS hE ?_|refine jn ?_|refine js fun K' hK'=>?_|refine ji fun X Y hX hY=>?_|refine jr ?_|refine jk ?_|refine jx ?_);simp [*])|with_reducible refine rL hE ?_|with_reducible refine And.intro ?_ ?_|omega|(refine imp1 fun h=>?_))
theorem s_empty : PSpec Tryz.prog 34 [] (encH ⟨0,0,[[]]⟩):=by
 refine PSpec.res (x:=.st [iA 0,iA 0,.sl 1 [.v (.slice none 0 0)]]) ?_ (SLe.st ⟨SLe_refl _,SLe_refl _,SLe.sl1 (by simp) (by simp) ⟨SLe_nil _ _,trivial⟩,trivial⟩ (by simp))
 refine MSpec.toD (R:=fun res bf=>DView bf res (.st [iA 0,iA 0,.sl 1 [.v (.slice none 0 0)]])) ?_ fun _ _ h=>h
 refine MSpec_of Tryz.func34 rfl rfl (Nat.le_of_ble_eq_true rfl) (Nat.le_of_ble_eq_true rfl) ?_
 intro E hE
 repeat' (first
  |(with_reducible first|refine uK ?_|refine uX ?_|refine jq fun K hK=>?_|refine jb ?_)|((with_reducible first|refine rS hE ?_|refine jn ?_|refine js fun K' hK'=>?_|refine ji fun X Y hX hY=>?_|refine jr ?_|refine jk ?_|refine jx ?_);simp [*])|with_reducible refine rL hE ?_|with_reducible refine And.intro ?_ ?_|omega|(refine imp1 fun h=>?_))
 all_goals exact DView.stL (by simp) ⟨.base (by simp),.base (by simp),.base (by simp),trivial⟩
end Go.Proofs.YtbibemijcdkjhaaGreatDoor
end
section
namespace Go.Proofs.YtbibemijcdkjhaaGreatDoor
open Go.Am
def posS (out : List Seg) (x : Seg) : Nat:=out.length - (out.reverse.takeWhile fun s=>decide (x.id < s.id)).length
theorem posS_eq {out : List Seg} {x : Seg} {k : Nat} (hk : k ≤ out.length) (h1 : ∀ j (hj : j < out.length),k ≤ j → x.id < out[j].id) (h2 : ∀ h : 0 < k,¬ x.id < (out[k - 1]'(by omega)).id) : posS out x = k:=by
 unfold posS
 have e : out.reverse = (out.drop k).reverse ++ (out.take k).reverse:=by rw [← List.reverse_append,List.take_append_drop]
 have e2 : ((out.take k).reverse.takeWhile fun s=>decide (x.id < s.id)) = []:=by
  rcases Nat.eq_zero_or_pos k with rfl|hp
  ·simp
  ·have : out.take k = out.take (k - 1) ++ [out[k - 1]'(by omega)]:=by
    rw [← List.take_succ_eq_append_getElem (by omega)]
    congr 1
    omega
   rw [this,List.reverse_append]
   simp [h2 hp]
 rw [e,List.takeWhile_append_of_pos,e2]
 ·simp;omega
 ·intro s hs
  rw [List.mem_reverse] at hs
  obtain ⟨j,hj,rfl⟩:=List.getElem_of_mem hs
  simp at hj ⊢
  exact h1 (k + j) (by omega) (by omega)
def insS (out : List Seg) (x : Seg) : List Seg:=out.take (posS out x) ++ [x] ++ out.drop (posS out x)
theorem insS_len (out : List Seg) (x : Seg) : (insS out x).length = out.length + 1:=by
 unfold insS
 have : posS out x ≤ out.length:=by unfold posS;omega
 simp;omega
def chgS (l : List Seg) (rem : List Int) (add : List Seg) : List Seg:=add.foldl insS (l.filter fun s=>!inI rem s.id)
set_option maxHeartbeats 4000000 in
theorem s_wchanged (l : List Seg) (rem : List Int) (add : List Seg) (hl : l.length ≤ 1000) (hr : rem.length ≤ 1000) (ha : add.length ≤ 1000) :
 PSpec Tryz.prog 61 [segL l,.sl 1 (rem.map iA),segL add] (segL (chgS l rem add)):=by
 obtain ⟨F,hF⟩ : ∃ F : Nat → List Seg,∀ i,F i = (l.take i).filter fun s=>!inI rem s.id:=⟨_,fun _=>rfl⟩
 have f0 : F 0 = []:=by simp [hF]
 have fs : ∀ i (h : i < l.length),F (i + 1) = if inI rem l[i].id then F i else F i ++ [l[i]]:=by
  intro i h
  rw [hF,hF,List.take_succ_eq_append_getElem h,List.filter_append]
  cases h2 : inI rem l[i].id <;> simp [h2]
 have fe : F l.length = l.filter fun s=>!inI rem s.id:=by rw [hF,List.take_length]
 have fl : ∀ i,(F i).length ≤ 1000:=by
  intro i
  rw [hF]
  have:=List.length_filter_le (fun s : Seg=>!inI rem s.id) (l.take i)
  simp at this ⊢
  omega
 clear hF
 obtain ⟨V,hV⟩ : ∃ V : Nat → List Seg,∀ i,V i = (add.take i).foldl insS (F l.length):=⟨_,fun _=>rfl⟩
 have v0 : V 0 = F l.length:=by simp [hV]
 have vs : ∀ i (h : i < add.length),V (i + 1) = insS (V i) add[i]:=by
  intro i h
  rw [hV,hV,List.take_succ_eq_append_getElem h,List.foldl_append]
  rfl
 have ve : V add.length = chgS l rem add:=by rw [hV,List.take_length,fe];rfl
 have vl : ∀ i,i ≤ add.length → (V i).length ≤ 2000:=by
  have : ∀ i,i ≤ add.length → (V i).length ≤ 1000 + i:=by
   intro i
   induction i with
   |zero=>intro _;rw [v0];have:=fl l.length;omega
   |succ i ih=>intro h;rw [vs i (by omega),insS_len];have:=ih (by omega);omega
  intro i hi
  have:=this i hi
  omega
 have hB : V add.length = chgS l rem add:=ve
 generalize chgS l rem add = B at *
 clear hV fe ve
 have hin : ∀ n,inI rem n = rem.any fun x=>decide (x = n):=fun _=>rfl
 generalize inI rem = I at *
 replace hin:=Hld.mk hin
 replace fs:=Hld.mk fs
 replace fl:=Hld.mk fl
 replace vs:=Hld.mk vs
 replace vl:=Hld.mk vl
 replace hB:=Hld.mk hB
 refine PSpec_of Tryz.func61 rfl rfl (Nat.le_of_ble_eq_true rfl) (Nat.le_of_ble_eq_true rfl) ?_
 intro E hE
 refine AW_seqt ⟨[(6,.v (.slice none 0 0)),(0,segL l),(1,.sl 1 (rem.map iA)),(2,segL add)],[]⟩ ?_ (by
  intro K hK
  repeat' (first
   |(with_reducible first|refine uK ?_|refine uQ ?_|refine uX ?_|refine jq fun K hK=>?_|refine jb ?_)|(with_reducible refine rS hE ?_;simp [*])|with_reducible refine rL hE ?_|(((with_reducible show RK _ _ _ _ _ _);first|refine jn ?_|refine js fun K' hK'=>?_);simp [*])|with_reducible refine rD mixed hE ?_|((with_reducible show RKQ _ _ _ _ _ _);first|refine RKQ_nilk ⟨by decide,?_⟩|(refine jv fun K' hK'=>?_;simp [*]))|((with_reducible first|refine ji fun X Y hX hY=>?_|refine jr ?_|refine jk ?_|refine jx ?_);simp [*])|with_reducible refine And.intro ?_ ?_|omega|(refine imp1 fun h=>?_))
  all_goals simp)
 refine AW_seqt ⟨[(7,.v (.slice none 0 0)),(0,segL l),(1,.sl 1 (rem.map iA)),(2,segL add)],[]⟩ ?_ (by
  intro K hK
  repeat' (first
   |(with_reducible first|refine uK ?_|refine uQ ?_|refine uX ?_|refine jq fun K hK=>?_|refine jb ?_)|(with_reducible refine rS hE ?_;simp [*])|with_reducible refine rL hE ?_|(((with_reducible show RK _ _ _ _ _ _);first|refine jn ?_|refine js fun K' hK'=>?_);simp [*])|with_reducible refine rD mixed hE ?_|((with_reducible show RKQ _ _ _ _ _ _);first|refine RKQ_nilk ⟨by decide,?_⟩|(refine jv fun K' hK'=>?_;simp [*]))|((with_reducible first|refine ji fun X Y hX hY=>?_|refine jr ?_|refine jk ?_|refine jx ?_);simp [*])|with_reducible refine And.intro ?_ ?_|omega|(refine imp1 fun h=>?_))
  all_goals simp)
 refine AW_mkrow 7 900 70 9 rfl rfl rfl (by omega) ?_
 refine AW_seqt ⟨[(7,.own 900 9 0 (F l.length).length),(0,segL l),(1,.sl 1 (rem.map iA)),(2,segL add)],[(900,.arr 70 9 ((F l.length).map encS))]⟩ ?_ ?_
 rotate_left
 ·intro K0 hK0
  repeat' (first
   |(with_reducible first|refine uK ?_|refine uQ ?_|refine uX ?_|refine jq fun K hK=>?_|refine jb ?_)|(with_reducible refine rS hE ?_;simp [*])|with_reducible refine rL hE ?_|(((with_reducible show RK _ _ _ _ _ _);first|refine jn ?_|refine js fun K' hK'=>?_);simp [*])|with_reducible refine rD mixed hE ?_|((with_reducible show RKQ _ _ _ _ _ _);first|refine RKQ_nilk ⟨by decide,?_⟩|(refine jv fun K' hK'=>?_;simp [*]))|((with_reducible first|refine ji fun X Y hX hY=>?_|refine jr ?_|refine jk ?_|refine jx ?_);simp [*])|with_reducible refine And.intro ?_ ?_|omega|(refine imp1 fun h=>?_))
  refine AW_loopk (G:=Nat) (fun i=>⟨[(8,iA i),(7,.own 900 9 0 (F i).length),(0,segL l),(1,.sl 1 (rem.map iA)),(2,segL add)],[(900,.arr 70 9 ((F i).map encS))]⟩)
   (fun i=>i ≤ l.length) (fun i=>l.length - i) 0 (by omega) (by simp [f0]) ?_
  intro i hi K hK
  clear f0 v0
  have hli:=fl.out i
  by_cases hlt : i < l.length
  ·have hfs:=fs.out i hlt
   have hinx:=hin.out l[i].id
   obtain ⟨Gk,hG⟩ : ∃ Gk : Nat → Bool,∀ k,Gk k = (rem.take k).any fun x=>decide (x = l[i].id):=⟨_,fun _=>rfl⟩
   have g0 : Gk 0 = false:=by simp [hG]
   have gs : ∀ k (h : k < rem.length),Gk (k + 1) = (Gk k || decide (rem[k] = l[i].id)):=by
    intro k h
    rw [hG,hG,List.take_succ_eq_append_getElem h,List.any_append]
    simp
   have ge : Gk rem.length = I l[i].id:=by rw [hG,List.take_length,hinx]
   clear hG hinx
   rw [← ge] at hfs
   have htk : List.take (F i).length ((F i).map encS) = (F i).map encS:=List.take_of_length_le (by simp)
   replace hfs:=Hld.mk hfs
   replace gs:=Hld.mk gs
   clear ge
   repeat' (first
    |(with_reducible first|refine uK ?_|refine uQ ?_|refine uX ?_|refine jq fun K hK=>?_|refine jb ?_)|(with_reducible refine rS hE ?_;simp [*])|with_reducible refine rL hE ?_|(((with_reducible show RK _ _ _ _ _ _);first|refine jn ?_|refine js fun K' hK'=>?_);simp [*])|with_reducible refine rD mixed hE ?_|((with_reducible show RKQ _ _ _ _ _ _);first|refine RKQ_nilk ⟨by decide,?_⟩|(refine jv fun K' hK'=>?_;simp [*]))|((with_reducible first|refine ji fun X Y hX hY=>?_|refine jr ?_|refine jk ?_|refine jx ?_);simp [*])|with_reducible refine And.intro ?_ ?_|omega|(refine imp1 fun h=>?_))
   refine AW_loopk (G:=Nat) (fun k=>⟨[(10,iA k),(9,bA (Gk k)),(8,iA i),(7,.own 900 9 0 (F i).length),(0,segL l),(1,.sl 1 (rem.map iA)),(2,segL add)],[(900,.arr 70 9 ((F i).map encS))]⟩)
    (fun k=>k ≤ rem.length) (fun k=>rem.length - k) 0 (by omega) (by simp [g0]) ?_
   intro k hk K1 hK1
   clear g0
   by_cases hltk : k < rem.length
   ·have hgs:=Hld.mk (gs.out k hltk)
    refine AW_seqt ⟨[(10,iA k),(9,bA (Gk k)),(8,iA i),(7,.own 900 9 0 (F i).length),(0,segL l),(1,.sl 1 (rem.map iA)),(2,segL add)],[(900,.arr 70 9 ((F i).map encS))]⟩ ?_ (by
     intro K2 hK2
     repeat' (first
      |(with_reducible first|refine uK ?_|refine uQ ?_|refine uX ?_|refine jq fun K hK=>?_|refine jb ?_)|(with_reducible refine rS hE ?_;simp [*])|with_reducible refine rL hE ?_|(((with_reducible show RK _ _ _ _ _ _);first|refine jn ?_|refine js fun K' hK'=>?_);simp [*])|with_reducible refine rD mixed hE ?_|((with_reducible show RKQ _ _ _ _ _ _);first|refine RKQ_nilk ⟨by decide,?_⟩|(refine jv fun K' hK'=>?_;simp [*]))|((with_reducible first|refine ji fun X Y hX hY=>?_|refine jr ?_|refine jk ?_|refine jx ?_);simp [*])|with_reducible refine And.intro ?_ ?_|omega|(refine imp1 fun h=>?_))
     all_goals simp)
    refine AW_seqt ⟨[(10,iA k),(9,bA (Gk (k + 1))),(8,iA i),(7,.own 900 9 0 (F i).length),(0,segL l),(1,.sl 1 (rem.map iA)),(2,segL add)],[(900,.arr 70 9 ((F i).map encS))]⟩ ?_ ?_
    ·repeat' (first
      |(with_reducible first|refine uK ?_|refine uQ ?_|refine uX ?_|refine jq fun K hK=>?_|refine jb ?_)|(with_reducible refine rS hE ?_;simp [*])|with_reducible refine rL hE ?_|(((with_reducible show RK _ _ _ _ _ _);first|refine jn ?_|refine js fun K' hK'=>?_);simp [*])|with_reducible refine rD mixed hE ?_|((with_reducible show RKQ _ _ _ _ _ _);first|refine RKQ_nilk ⟨by decide,?_⟩|(refine jv fun K' hK'=>?_;simp [*]))|((with_reducible first|refine ji fun X Y hX hY=>?_|refine jr ?_|refine jk ?_|refine jx ?_);simp [*])|with_reducible refine And.intro ?_ ?_|omega|(refine imp1 fun h=>?_))
     all_goals exact ⟨k + 1,by omega,by omega,by simp⟩
    ·intro K2 hK2
     refine AW_block ?_
     rw [hgs.out] at hK2
     clear hgs
     rcases hgk : Gk k with _|_
     ·rw [hgk] at hK2
      refine AW_drawHd ⟨[(10,iA k),(9,bA false),(8,iA i),(0,segL l),(1,.sl 1 (rem.map iA))],[]⟩ mixed (by simp) fun E' hE'=>?_
      have hEn:=hE'.trans hE
      repeat' (first
       |(with_reducible first|refine useK (by assumption) ?_|refine useK3 (by assumption) ?_)|((with_reducible show DHd _ _ _ _ _ _ _);first|(refine DHd_done (by decide +kernel) ?_;try simp only [thenK,inBlk])|(refine dt hEn 0 fun K' hK'=>?_;simp [*];fail_if_success (with_reducible show False))|(refine dt hEn 1 fun K' hK'=>?_;simp [*];fail_if_success (with_reducible show False))|(refine dt hEn 2 fun K' hK'=>?_;simp [*];fail_if_success (with_reducible show False))|(refine dt hEn 3 fun K' hK'=>?_;simp [*];fail_if_success (with_reducible show False))|(refine dt hEn 4 fun K' hK'=>?_;simp [*];fail_if_success (with_reducible show False))|(refine dt hEn 5 fun K' hK'=>?_;simp [*];fail_if_success (with_reducible show False))|(refine dt hEn 6 fun K' hK'=>?_;simp [*];fail_if_success (with_reducible show False))|(refine dt hEn 7 fun K' hK'=>?_;simp [*];fail_if_success (with_reducible show False))|(refine dt hEn 8 fun K' hK'=>?_;simp [*];fail_if_success (with_reducible show False))|(refine dt hEn 9 fun K' hK'=>?_;simp [*];fail_if_success (with_reducible show False))|(refine dt hEn 10 fun K' hK'=>?_;simp [*];fail_if_success (with_reducible show False))|(refine dt hEn 11 fun K' hK'=>?_;simp [*];fail_if_success (with_reducible show False))|(refine dt hEn 12 fun K' hK'=>?_;simp [*];fail_if_success (with_reducible show False))|(refine dt hEn 13 fun K' hK'=>?_;simp [*];fail_if_success (with_reducible show False))|(refine DHd_takeG 0 (by exact rfl) (by decide +kernel) rfl (by exact rfl) rfl (by rw [hEn];decide) fun K' hK'=>?_;simp [*];fail_if_success (with_reducible show False))|(refine DHd_takeG 1 (by exact rfl) (by decide +kernel) rfl (by exact rfl) rfl (by rw [hEn];decide) fun K' hK'=>?_;simp [*];fail_if_success (with_reducible show False))|(refine DHd_takeG 2 (by exact rfl) (by decide +kernel) rfl (by exact rfl) rfl (by rw [hEn];decide) fun K' hK'=>?_;simp [*];fail_if_success (with_reducible show False))|(refine DHd_takeG 3 (by exact rfl) (by decide +kernel) rfl (by exact rfl) rfl (by rw [hEn];decide) fun K' hK'=>?_;simp [*];fail_if_success (with_reducible show False))|(refine DHd_takeG 4 (by exact rfl) (by decide +kernel) rfl (by exact rfl) rfl (by rw [hEn];decide) fun K' hK'=>?_;simp [*];fail_if_success (with_reducible show False))|(refine DHd_takeG 5 (by exact rfl) (by decide +kernel) rfl (by exact rfl) rfl (by rw [hEn];decide) fun K' hK'=>?_;simp [*];fail_if_success (with_reducible show False))|(refine DHd_takeG 6 (by exact rfl) (by decide +kernel) rfl (by exact rfl) rfl (by rw [hEn];decide) fun K' hK'=>?_;simp [*];fail_if_success (with_reducible show False))|(refine DHd_takeG 7 (by exact rfl) (by decide +kernel) rfl (by exact rfl) rfl (by rw [hEn];decide) fun K' hK'=>?_;simp [*];fail_if_success (with_reducible show False))|(refine DHd_takeG 8 (by exact rfl) (by decide +kernel) rfl (by exact rfl) rfl (by rw [hEn];decide) fun K' hK'=>?_;simp [*];fail_if_success (with_reducible show False))|(refine DHd_takeG 9 (by exact rfl) (by decide +kernel) rfl (by exact rfl) rfl (by rw [hEn];decide) fun K' hK'=>?_;simp [*];fail_if_success (with_reducible show False))|(refine DHd_takeG 10 (by exact rfl) (by decide +kernel) rfl (by exact rfl) rfl (by rw [hEn];decide) fun K' hK'=>?_;simp [*];fail_if_success (with_reducible show False))|(refine DHd_takeG 11 (by exact rfl) (by decide +kernel) rfl (by exact rfl) rfl (by rw [hEn];decide) fun K' hK'=>?_;simp [*];fail_if_success (with_reducible show False))|(refine DHd_takeG 12 (by exact rfl) (by decide +kernel) rfl (by exact rfl) rfl (by rw [hEn];decide) fun K' hK'=>?_;simp [*];fail_if_success (with_reducible show False))|(refine DHd_takeG 13 (by exact rfl) (by decide +kernel) rfl (by exact rfl) rfl (by rw [hEn];decide) fun K' hK'=>?_;simp [*];fail_if_success (with_reducible show False))|(refine dp hEn 0 fun K' hK'=>?_;simp [*];fail_if_success (with_reducible show False))|(refine dp hEn 1 fun K' hK'=>?_;simp [*];fail_if_success (with_reducible show False))|(refine dp hEn 2 fun K' hK'=>?_;simp [*];fail_if_success (with_reducible show False))|(refine dp hEn 3 fun K' hK'=>?_;simp [*];fail_if_success (with_reducible show False))|(refine dp hEn 4 fun K' hK'=>?_;simp [*];fail_if_success (with_reducible show False))|(refine dp hEn 5 fun K' hK'=>?_;simp [*];fail_if_success (with_reducible show False))|(refine dp hEn 6 fun K' hK'=>?_;simp [*];fail_if_success (with_reducible show False))|(refine dp hEn 7 fun K' hK'=>?_;simp [*];fail_if_success (with_reducible show False))|(refine dp hEn 8 fun K' hK'=>?_;simp [*];fail_if_success (with_reducible show False))|(refine dp hEn 9 fun K' hK'=>?_;simp [*];fail_if_success (with_reducible show False))|(refine dp hEn 10 fun K' hK'=>?_;simp [*];fail_if_success (with_reducible show False))|(refine dp hEn 11 fun K' hK'=>?_;simp [*];fail_if_success (with_reducible show False))|(refine dp hEn 12 fun K' hK'=>?_;simp [*];fail_if_success (with_reducible show False))|(refine dp hEn 13 fun K' hK'=>?_;simp [*];fail_if_success (with_reducible show False))|refine DHd_any rfl (by decide +kernel) ?_)|exact DHsome_nil|refine DHsome_no (by decide +kernel) ?_|(refine DHsome_yes (by exact rfl) rfl (by rw [hEn];decide) (fun K' hK'=>?_) ?_;simp [*];fail_if_success (with_reducible show False))|(refine DHsome_yesG (by exact rfl) rfl (by exact rfl) (by rw [hEn];decide) (fun K' hK'=>?_) ?_;simp [*];fail_if_success (with_reducible show False))|with_reducible refine And.intro ?_ ?_|omega|(with_reducible refine imp1 fun h=>?_))
      all_goals simp [*]
     ·rw [hgk] at hK2
      refine AW_drawHd ⟨[(10,iA k),(9,bA true),(8,iA i),(0,segL l),(1,.sl 1 (rem.map iA))],[]⟩ mixed (by simp) fun E' hE'=>?_
      have hEn:=hE'.trans hE
      repeat' (first
       |(with_reducible first|refine useK (by assumption) ?_|refine useK3 (by assumption) ?_)|((with_reducible show DHd _ _ _ _ _ _ _);first|(refine DHd_done (by decide +kernel) ?_;try simp only [thenK,inBlk])|(refine dt hEn 0 fun K' hK'=>?_;simp [*];fail_if_success (with_reducible show False))|(refine dt hEn 1 fun K' hK'=>?_;simp [*];fail_if_success (with_reducible show False))|(refine dt hEn 2 fun K' hK'=>?_;simp [*];fail_if_success (with_reducible show False))|(refine dt hEn 3 fun K' hK'=>?_;simp [*];fail_if_success (with_reducible show False))|(refine dt hEn 4 fun K' hK'=>?_;simp [*];fail_if_success (with_reducible show False))|(refine dt hEn 5 fun K' hK'=>?_;simp [*];fail_if_success (with_reducible show False))|(refine dt hEn 6 fun K' hK'=>?_;simp [*];fail_if_success (with_reducible show False))|(refine dt hEn 7 fun K' hK'=>?_;simp [*];fail_if_success (with_reducible show False))|(refine dt hEn 8 fun K' hK'=>?_;simp [*];fail_if_success (with_reducible show False))|(refine dt hEn 9 fun K' hK'=>?_;simp [*];fail_if_success (with_reducible show False))|(refine dt hEn 10 fun K' hK'=>?_;simp [*];fail_if_success (with_reducible show False))|(refine dt hEn 11 fun K' hK'=>?_;simp [*];fail_if_success (with_reducible show False))|(refine dt hEn 12 fun K' hK'=>?_;simp [*];fail_if_success (with_reducible show False))|(refine dt hEn 13 fun K' hK'=>?_;simp [*];fail_if_success (with_reducible show False))|(refine DHd_takeG 0 (by exact rfl) (by decide +kernel) rfl (by exact rfl) rfl (by rw [hEn];decide) fun K' hK'=>?_;simp [*];fail_if_success (with_reducible show False))|(refine DHd_takeG 1 (by exact rfl) (by decide +kernel) rfl (by exact rfl) rfl (by rw [hEn];decide) fun K' hK'=>?_;simp [*];fail_if_success (with_reducible show False))|(refine DHd_takeG 2 (by exact rfl) (by decide +kernel) rfl (by exact rfl) rfl (by rw [hEn];decide) fun K' hK'=>?_;simp [*];fail_if_success (with_reducible show False))|(refine DHd_takeG 3 (by exact rfl) (by decide +kernel) rfl (by exact rfl) rfl (by rw [hEn];decide) fun K' hK'=>?_;simp [*];fail_if_success (with_reducible show False))|(refine DHd_takeG 4 (by exact rfl) (by decide +kernel) rfl (by exact rfl) rfl (by rw [hEn];decide) fun K' hK'=>?_;simp [*];fail_if_success (with_reducible show False))|(refine DHd_takeG 5 (by exact rfl) (by decide +kernel) rfl (by exact rfl) rfl (by rw [hEn];decide) fun K' hK'=>?_;simp [*];fail_if_success (with_reducible show False))|(refine DHd_takeG 6 (by exact rfl) (by decide +kernel) rfl (by exact rfl) rfl (by rw [hEn];decide) fun K' hK'=>?_;simp [*];fail_if_success (with_reducible show False))|(refine DHd_takeG 7 (by exact rfl) (by decide +kernel) rfl (by exact rfl) rfl (by rw [hEn];decide) fun K' hK'=>?_;simp [*];fail_if_success (with_reducible show False))|(refine DHd_takeG 8 (by exact rfl) (by decide +kernel) rfl (by exact rfl) rfl (by rw [hEn];decide) fun K' hK'=>?_;simp [*];fail_if_success (with_reducible show False))|(refine DHd_takeG 9 (by exact rfl) (by decide +kernel) rfl (by exact rfl) rfl (by rw [hEn];decide) fun K' hK'=>?_;simp [*];fail_if_success (with_reducible show False))|(refine DHd_takeG 10 (by exact rfl) (by decide +kernel) rfl (by exact rfl) rfl (by rw [hEn];decide) fun K' hK'=>?_;simp [*];fail_if_success (with_reducible show False))|(refine DHd_takeG 11 (by exact rfl) (by decide +kernel) rfl (by exact rfl) rfl (by rw [hEn];decide) fun K' hK'=>?_;simp [*];fail_if_success (with_reducible show False))|(refine DHd_takeG 12 (by exact rfl) (by decide +kernel) rfl (by exact rfl) rfl (by rw [hEn];decide) fun K' hK'=>?_;simp [*];fail_if_success (with_reducible show False))|(refine DHd_takeG 13 (by exact rfl) (by decide +kernel) rfl (by exact rfl) rfl (by rw [hEn];decide) fun K' hK'=>?_;simp [*];fail_if_success (with_reducible show False))|(refine dp hEn 0 fun K' hK'=>?_;simp [*];fail_if_success (with_reducible show False))|(refine dp hEn 1 fun K' hK'=>?_;simp [*];fail_if_success (with_reducible show False))|(refine dp hEn 2 fun K' hK'=>?_;simp [*];fail_if_success (with_reducible show False))|(refine dp hEn 3 fun K' hK'=>?_;simp [*];fail_if_success (with_reducible show False))|(refine dp hEn 4 fun K' hK'=>?_;simp [*];fail_if_success (with_reducible show False))|(refine dp hEn 5 fun K' hK'=>?_;simp [*];fail_if_success (with_reducible show False))|(refine dp hEn 6 fun K' hK'=>?_;simp [*];fail_if_success (with_reducible show False))|(refine dp hEn 7 fun K' hK'=>?_;simp [*];fail_if_success (with_reducible show False))|(refine dp hEn 8 fun K' hK'=>?_;simp [*];fail_if_success (with_reducible show False))|(refine dp hEn 9 fun K' hK'=>?_;simp [*];fail_if_success (with_reducible show False))|(refine dp hEn 10 fun K' hK'=>?_;simp [*];fail_if_success (with_reducible show False))|(refine dp hEn 11 fun K' hK'=>?_;simp [*];fail_if_success (with_reducible show False))|(refine dp hEn 12 fun K' hK'=>?_;simp [*];fail_if_success (with_reducible show False))|(refine dp hEn 13 fun K' hK'=>?_;simp [*];fail_if_success (with_reducible show False))|refine DHd_any rfl (by decide +kernel) ?_)|exact DHsome_nil|refine DHsome_no (by decide +kernel) ?_|(refine DHsome_yes (by exact rfl) rfl (by rw [hEn];decide) (fun K' hK'=>?_) ?_;simp [*];fail_if_success (with_reducible show False))|(refine DHsome_yesG (by exact rfl) rfl (by exact rfl) (by rw [hEn];decide) (fun K' hK'=>?_) ?_;simp [*];fail_if_success (with_reducible show False))|with_reducible refine And.intro ?_ ?_|omega|(with_reducible refine imp1 fun h=>?_))
      all_goals simp [*]
   ·have hkl : k = rem.length:=by omega
    subst hkl
    have hfs:=hfs.out
    rcases hge : Gk rem.length with _|_
    ·rw [hge] at hfs
     simp only [Bool.false_eq_true,if_false] at hfs
     replace hfs:=Hld.mk hfs
     repeat' (first
      |(with_reducible first|refine uK ?_|refine uQ ?_|refine uX ?_|refine jq fun K hK=>?_|refine jb ?_)|(with_reducible refine rS hE ?_;simp [*])|with_reducible refine rL hE ?_|(((with_reducible show RK _ _ _ _ _ _);first|refine jn ?_|refine js fun K' hK'=>?_);simp [*])|with_reducible refine rD mixed hE ?_|((with_reducible show RKQ _ _ _ _ _ _);first|refine RKQ_nilk ⟨by decide,?_⟩|(refine jv fun K' hK'=>?_;simp [*]))|((with_reducible first|refine ji fun X Y hX hY=>?_|refine jr ?_|refine jk ?_|refine jx ?_);simp [*])|with_reducible refine And.intro ?_ ?_|omega|(refine imp1 fun h=>?_))
     all_goals exact ⟨i + 1,by omega,by omega,by simp [hfs.out]⟩
    ·rw [hge] at hfs
     simp only [if_true] at hfs
     replace hfs:=Hld.mk hfs
     repeat' (first
      |(with_reducible first|refine uK ?_|refine uQ ?_|refine uX ?_|refine jq fun K hK=>?_|refine jb ?_)|(with_reducible refine rS hE ?_;simp [*])|with_reducible refine rL hE ?_|(((with_reducible show RK _ _ _ _ _ _);first|refine jn ?_|refine js fun K' hK'=>?_);simp [*])|with_reducible refine rD mixed hE ?_|((with_reducible show RKQ _ _ _ _ _ _);first|refine RKQ_nilk ⟨by decide,?_⟩|(refine jv fun K' hK'=>?_;simp [*]))|((with_reducible first|refine ji fun X Y hX hY=>?_|refine jr ?_|refine jk ?_|refine jx ?_);simp [*])|with_reducible refine And.intro ?_ ?_|omega|(refine imp1 fun h=>?_))
     all_goals exact ⟨i + 1,by omega,by omega,by simp [hfs.out]⟩
  ·have hil : i = l.length:=by omega
   subst hil
   repeat' (first
    |(with_reducible first|refine uK ?_|refine uQ ?_|refine uX ?_|refine jq fun K hK=>?_|refine jb ?_)|(with_reducible refine rS hE ?_;simp [*])|with_reducible refine rL hE ?_|(((with_reducible show RK _ _ _ _ _ _);first|refine jn ?_|refine js fun K' hK'=>?_);simp [*])|with_reducible refine rD mixed hE ?_|((with_reducible show RKQ _ _ _ _ _ _);first|refine RKQ_nilk ⟨by decide,?_⟩|(refine jv fun K' hK'=>?_;simp [*]))|((with_reducible first|refine ji fun X Y hX hY=>?_|refine jr ?_|refine jk ?_|refine jx ?_);simp [*])|with_reducible refine And.intro ?_ ?_|omega|(refine imp1 fun h=>?_))
   all_goals simp
 ·refine AW_freeze 900 (cb:=.arr 70 9 ((F l.length).map encS)) (t:=⟨[(7,segL (F l.length)),(2,segL add)],[]⟩) (by simp) (by simp) (by simp) ?_
  repeat' (first
   |(with_reducible first|refine uK ?_|refine uQ ?_|refine uX ?_|refine jq fun K hK=>?_|refine jb ?_)|(with_reducible refine rS hE ?_;simp [*])|with_reducible refine rL hE ?_|(((with_reducible show RK _ _ _ _ _ _);first|refine jn ?_|refine js fun K' hK'=>?_);simp [*])|with_reducible refine rD mixed hE ?_|((with_reducible show RKQ _ _ _ _ _ _);first|refine RKQ_nilk ⟨by decide,?_⟩|(refine jv fun K' hK'=>?_;simp [*]))|((with_reducible first|refine ji fun X Y hX hY=>?_|refine jr ?_|refine jk ?_|refine jx ?_);simp [*])|with_reducible refine And.intro ?_ ?_|omega|(refine imp1 fun h=>?_))
  refine AW_loopk (G:=Nat) (fun i=>⟨[(11,iA i),(7,segL (V i)),(2,segL add)],[]⟩)
   (fun i=>i ≤ add.length) (fun i=>add.length - i) 0 (by omega) (by simp [v0]) ?_
  intro i hi K hK
  have hvi:=vl.out i hi
  clear f0 v0 fs fl
  by_cases hlt : i < add.length
  ·have hvs:=vs.out i hlt
   generalize hx : add[i] = x at *
   generalize V i = V0 at *
   refine AW_seqt ⟨[(11,iA i),(7,segL V0),(2,segL add)],[]⟩ ?_ (by
    intro K1 hK1
    repeat' (first
     |(with_reducible first|refine uK ?_|refine uQ ?_|refine uX ?_|refine jq fun K hK=>?_|refine jb ?_)|(with_reducible refine rS hE ?_;simp [*])|with_reducible refine rL hE ?_|(((with_reducible show RK _ _ _ _ _ _);first|refine jn ?_|refine js fun K' hK'=>?_);simp [*])|with_reducible refine rD mixed hE ?_|((with_reducible show RKQ _ _ _ _ _ _);first|refine RKQ_nilk ⟨by decide,?_⟩|(refine jv fun K' hK'=>?_;simp [*]))|((with_reducible first|refine ji fun X Y hX hY=>?_|refine jr ?_|refine jk ?_|refine jx ?_);simp [*])|with_reducible refine And.intro ?_ ?_|omega|(refine imp1 fun h=>?_))
    all_goals simp)
   have hins:=insS_len V0 x
   obtain ⟨R,hR⟩ : ∃ R,R = insS V0 x:=⟨_,rfl⟩
   rw [← hR] at hvs hins
   replace hR:=Hld.mk hR
   refine AW_seqt ⟨[(11,iA i),(7,.own 73 9 0 R.length),(2,segL add)],[(73,.arr 70 9 (R.map encS))]⟩ ?_ ?_
   ·refine AW_freeze 73 (cb:=.arr 70 9 (R.map encS)) (t:=⟨[(11,iA i),(7,segL R),(2,segL add)],[]⟩) (by simp) (by simp) (by simp) ?_
    repeat' (first
     |(with_reducible first|refine uK ?_|refine uQ ?_|refine uX ?_|refine jq fun K hK=>?_|refine jb ?_)|(with_reducible refine rS hE ?_;simp [*])|with_reducible refine rL hE ?_|(((with_reducible show RK _ _ _ _ _ _);first|refine jn ?_|refine js fun K' hK'=>?_);simp [*])|with_reducible refine rD mixed hE ?_|((with_reducible show RKQ _ _ _ _ _ _);first|refine RKQ_nilk ⟨by decide,?_⟩|(refine jv fun K' hK'=>?_;simp [*]))|((with_reducible first|refine ji fun X Y hX hY=>?_|refine jr ?_|refine jk ?_|refine jx ?_);simp [*])|with_reducible refine And.intro ?_ ?_|omega|(refine imp1 fun h=>?_))
    all_goals exact ⟨i + 1,by omega,by omega,by simp [hvs]⟩
   ·intro K1 hK1
    clear hvs
    have hpl : posS V0 x ≤ V0.length:=by unfold posS;omega
    refine AW_block ?_
    refine AW_seqt ⟨[(12,iA V0.length),(11,iA i),(7,segL V0),(2,segL add)],[]⟩ ?_ (by
     intro K2 hK2
     repeat' (first
      |(with_reducible first|refine uK ?_|refine uQ ?_|refine uX ?_|refine jq fun K hK=>?_|refine jb ?_)|(with_reducible refine rS hE ?_;simp [*])|with_reducible refine rL hE ?_|(((with_reducible show RK _ _ _ _ _ _);first|refine jn ?_|refine js fun K' hK'=>?_);simp [*])|with_reducible refine rD mixed hE ?_|((with_reducible show RKQ _ _ _ _ _ _);first|refine RKQ_nilk ⟨by decide,?_⟩|(refine jv fun K' hK'=>?_;simp [*]))|((with_reducible first|refine ji fun X Y hX hY=>?_|refine jr ?_|refine jk ?_|refine jx ?_);simp [*])|with_reducible refine And.intro ?_ ?_|omega|(refine imp1 fun h=>?_))
     all_goals simp)
    refine AW_seqt ⟨[(12,iA (posS V0 x : Nat)),(11,iA i),(7,segL V0),(2,segL add)],[]⟩ ?_ ?_
    ·have hR:=hR.out
     unfold insS at hR
     generalize posS V0 x = p at *
     have hR1 : R.map encS = (V0.map encS).take p ++ encS x :: (V0.map encS).drop p:=by rw [hR];simp [List.map_take,List.map_drop]
     clear hR
     have hm1 : ∀ d,mentL d (List.take p (List.map encS V0)) = false:=fun d=>by rw [← List.map_take];exact ment_S d _
     have hm2 : ∀ d,mentL d (List.drop p (List.map encS V0)) = false:=fun d=>by rw [← List.map_drop];exact ment_S d _
     have hm3 : List.take p (List.take p (List.map encS V0)) = List.take p (List.map encS V0):=by rw [List.take_take,Nat.min_self]
     have hm4 : List.take (p + 1) (List.take p (List.map encS V0) ++ [encS x]) = List.take p (List.map encS V0) ++ [encS x]:=List.take_of_length_le (by simp;omega)
     have hlen : p + 1 + (V0.length - p) = R.length:=by omega
     refine AW_drawHd ⟨[(7,segL V0),(12,iA p),(11,iA i),(2,segL add)],[]⟩ mixed (by simp) fun E' hE'=>?_
     have hEn:=hE'.trans hE
     repeat' (first
      |(with_reducible first|refine useK (by assumption) ?_|refine useK3 (by assumption) ?_)|((with_reducible show DHd _ _ _ _ _ _ _);first|(refine DHd_done (by decide +kernel) ?_;try simp only [thenK,inBlk])|(refine dt hEn 0 fun K' hK'=>?_;simp [*];fail_if_success (with_reducible show False))|(refine dt hEn 1 fun K' hK'=>?_;simp [*];fail_if_success (with_reducible show False))|(refine dt hEn 2 fun K' hK'=>?_;simp [*];fail_if_success (with_reducible show False))|(refine dt hEn 3 fun K' hK'=>?_;simp [*];fail_if_success (with_reducible show False))|(refine dt hEn 4 fun K' hK'=>?_;simp [*];fail_if_success (with_reducible show False))|(refine dt hEn 5 fun K' hK'=>?_;simp [*];fail_if_success (with_reducible show False))|(refine dt hEn 6 fun K' hK'=>?_;simp [*];fail_if_success (with_reducible show False))|(refine dt hEn 7 fun K' hK'=>?_;simp [*];fail_if_success (with_reducible show False))|(refine dt hEn 8 fun K' hK'=>?_;simp [*];fail_if_success (with_reducible show False))|(refine dt hEn 9 fun K' hK'=>?_;simp [*];fail_if_success (with_reducible show False))|(refine dt hEn 10 fun K' hK'=>?_;simp [*];fail_if_success (with_reducible show False))|(refine dt hEn 11 fun K' hK'=>?_;simp [*];fail_if_success (with_reducible show False))|(refine dt hEn 12 fun K' hK'=>?_;simp [*];fail_if_success (with_reducible show False))|(refine dt hEn 13 fun K' hK'=>?_;simp [*];fail_if_success (with_reducible show False))|(refine dt hEn 14 fun K' hK'=>?_;simp [*];fail_if_success (with_reducible show False))|(refine dt hEn 15 fun K' hK'=>?_;simp [*];fail_if_success (with_reducible show False))|(refine dp hEn 0 fun K' hK'=>?_;simp [*];fail_if_success (with_reducible show False))|(refine dp hEn 1 fun K' hK'=>?_;simp [*];fail_if_success (with_reducible show False))|(refine dp hEn 2 fun K' hK'=>?_;simp [*];fail_if_success (with_reducible show False))|(refine dp hEn 3 fun K' hK'=>?_;simp [*];fail_if_success (with_reducible show False))|(refine dp hEn 4 fun K' hK'=>?_;simp [*];fail_if_success (with_reducible show False))|(refine dp hEn 5 fun K' hK'=>?_;simp [*];fail_if_success (with_reducible show False))|(refine dp hEn 6 fun K' hK'=>?_;simp [*];fail_if_success (with_reducible show False))|(refine dp hEn 7 fun K' hK'=>?_;simp [*];fail_if_success (with_reducible show False))|(refine dp hEn 8 fun K' hK'=>?_;simp [*];fail_if_success (with_reducible show False))|(refine dp hEn 9 fun K' hK'=>?_;simp [*];fail_if_success (with_reducible show False))|(refine dp hEn 10 fun K' hK'=>?_;simp [*];fail_if_success (with_reducible show False))|(refine dp hEn 11 fun K' hK'=>?_;simp [*];fail_if_success (with_reducible show False))|(refine dp hEn 12 fun K' hK'=>?_;simp [*];fail_if_success (with_reducible show False))|(refine dp hEn 13 fun K' hK'=>?_;simp [*];fail_if_success (with_reducible show False))|(refine dp hEn 14 fun K' hK'=>?_;simp [*];fail_if_success (with_reducible show False))|(refine dp hEn 15 fun K' hK'=>?_;simp [*];fail_if_success (with_reducible show False))|refine DHd_any rfl (by decide +kernel) ?_)|exact DHsome_nil|refine DHsome_no (by decide +kernel) ?_|(refine DHsome_yes (by exact rfl) rfl (by rw [hEn];decide) (fun K' hK'=>?_) ?_;simp [*];fail_if_success (with_reducible show False))|(refine DHsome_yesG (by exact rfl) rfl (by exact rfl) (by rw [hEn];decide) (fun K' hK'=>?_) ?_;simp [*];fail_if_success (with_reducible show False))|with_reducible refine And.intro ?_ ?_|omega|(with_reducible refine imp1 fun h=>?_))
     all_goals simp [hm4,hlen,hR1,hins]
    ·intro K2 hK2
     repeat' (first
      |(with_reducible first|refine uK ?_|refine uQ ?_|refine uX ?_|refine jq fun K hK=>?_|refine jb ?_)|(with_reducible refine rS hE ?_;simp [*])|with_reducible refine rL hE ?_|(((with_reducible show RK _ _ _ _ _ _);first|refine jn ?_|refine js fun K' hK'=>?_);simp [*])|with_reducible refine rD mixed hE ?_|((with_reducible show RKQ _ _ _ _ _ _);first|refine RKQ_nilk ⟨by decide,?_⟩|(refine jv fun K' hK'=>?_;simp [*]))|((with_reducible first|refine ji fun X Y hX hY=>?_|refine jr ?_|refine jk ?_|refine jx ?_);simp [*])|with_reducible refine And.intro ?_ ?_|omega|(refine imp1 fun h=>?_))
     refine AW_loopk (G:=Nat) (fun k=>⟨[(12,iA k),(11,iA i),(7,segL V0),(2,segL add)],[]⟩)
      (fun k=>k ≤ V0.length ∧ Hld (∀ j (hj : j < V0.length),k ≤ j → x.id < V0[j].id)) (fun k=>k) V0.length ⟨by omega,⟨fun j hj h=>by omega⟩⟩ (by simp) ?_
     rintro k ⟨hk,hgt⟩ K3 hK3
     cases k with
     |zero =>
      have hpos : posS V0 x = 0:=posS_eq (by omega) hgt.out (by omega)
      rw [hpos] at hK2
      repeat' (first
       |(with_reducible first|refine uK ?_|refine uQ ?_|refine uX ?_|refine jq fun K hK=>?_|refine jb ?_)|(with_reducible refine rS hE ?_;simp [*])|with_reducible refine rL hE ?_|(((with_reducible show RK _ _ _ _ _ _);first|refine jn ?_|refine js fun K' hK'=>?_);simp [*])|with_reducible refine rD mixed hE ?_|((with_reducible show RKQ _ _ _ _ _ _);first|refine RKQ_nilk ⟨by decide,?_⟩|(refine jv fun K' hK'=>?_;simp [*]))|((with_reducible first|refine ji fun X Y hX hY=>?_|refine jr ?_|refine jk ?_|refine jx ?_);simp [*])|with_reducible refine And.intro ?_ ?_|omega|(refine imp1 fun h=>?_))
      all_goals simp
     |succ k =>
      have hkl : k < V0.length:=by omega
      have hk1 : ((k + 1 : Nat) : Int) - 1 = (k : Int):=by omega
      by_cases hc : x.id < V0[k].id
      ·repeat' (first
        |(with_reducible first|refine uK ?_|refine uQ ?_|refine uX ?_|refine jq fun K hK=>?_|refine jb ?_)|(with_reducible refine rS hE ?_;simp [*])|with_reducible refine rL hE ?_|(((with_reducible show RK _ _ _ _ _ _);first|refine jn ?_|refine js fun K' hK'=>?_);simp [*])|with_reducible refine rD mixed hE ?_|((with_reducible show RKQ _ _ _ _ _ _);first|refine RKQ_nilk ⟨by decide,?_⟩|(refine jv fun K' hK'=>?_;simp [*]))|((with_reducible first|refine ji fun X Y hX hY=>?_|refine jr ?_|refine jk ?_|refine jx ?_);simp [*])|with_reducible refine And.intro ?_ ?_|omega|(refine imp1 fun h=>?_))
       all_goals exact ⟨k,⟨by omega,⟨fun j hj h=>(by
        rcases Nat.lt_or_ge k j with g|g
        ·exact hgt.out j hj (by omega)
        ·have : j = k:=by omega
         subst this;exact hc)⟩⟩,by omega,by simp⟩
      ·have hpos : posS V0 x = k + 1:=posS_eq (by omega) hgt.out (fun _=>by simpa using hc)
       rw [hpos] at hK2
       repeat' (first
        |(with_reducible first|refine uK ?_|refine uQ ?_|refine uX ?_|refine jq fun K hK=>?_|refine jb ?_)|(with_reducible refine rS hE ?_;simp [*])|with_reducible refine rL hE ?_|(((with_reducible show RK _ _ _ _ _ _);first|refine jn ?_|refine js fun K' hK'=>?_);simp [*])|with_reducible refine rD mixed hE ?_|((with_reducible show RKQ _ _ _ _ _ _);first|refine RKQ_nilk ⟨by decide,?_⟩|(refine jv fun K' hK'=>?_;simp [*]))|((with_reducible first|refine ji fun X Y hX hY=>?_|refine jr ?_|refine jk ?_|refine jx ?_);simp [*])|with_reducible refine And.intro ?_ ?_|omega|(refine imp1 fun h=>?_))
       all_goals simp
  ·have hil : i = add.length:=by omega
   subst hil
   have hB:=hB.out
   subst hB
   repeat' (first
    |(with_reducible first|refine uK ?_|refine uQ ?_|refine uX ?_|refine jq fun K hK=>?_|refine jb ?_)|(with_reducible refine rS hE ?_;simp [*])|with_reducible refine rL hE ?_|(((with_reducible show RK _ _ _ _ _ _);first|refine jn ?_|refine js fun K' hK'=>?_);simp [*])|with_reducible refine rD mixed hE ?_|((with_reducible show RKQ _ _ _ _ _ _);first|refine RKQ_nilk ⟨by decide,?_⟩|(refine jv fun K' hK'=>?_;simp [*]))|((with_reducible first|refine ji fun X Y hX hY=>?_|refine jr ?_|refine jk ?_|refine jx ?_);simp [*])|with_reducible refine And.intro ?_ ?_|omega|(refine imp1 fun h=>?_))
   all_goals simp
end Go.Proofs.YtbibemijcdkjhaaGreatDoor
end
