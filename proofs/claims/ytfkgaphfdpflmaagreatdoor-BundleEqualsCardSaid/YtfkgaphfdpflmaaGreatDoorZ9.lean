/- Units divided into instants and open intervals -/
import Derived.Test.YtfkgaphfdpflmaaGreatDoorZ8
set_option maxRecDepth 100000
set_option linter.unusedSimpArgs false
set_option linter.unusedVariables false
namespace Go.Proofs.YtfkgaphfdpflmaaGreatDoor
open Go.Am
def ptU (t : Rat) (l : Ln) : Un:=⟨t,t,false,false,l.x0,l.x1,l.y0,l.y1⟩
def opU (u : Un) : Un:=⟨u.f,u.t,true,true,u.x0,u.x1,u.y0,u.y1⟩
def atmU (u : Un) : List Un:=(if u.fo then [] else [ptU u.f u.l]) ++ (if u.f = u.t then [] else opU u :: (if u.to then [] else [ptU u.t u.l]))
def atms (l : List Un) : List Un:=l.flatMap atmU
abbrev vrU (id n : Nat) : Ct:=.box 142 (.own id 36 0 n)
abbrev rwU (M : List Un) : Ct:=.arr 189 36 (M.map encU)
theorem m_atU (t : Rat) (l : Ln) (M : List Un) (hM : M.length ≤ 100000) : MSpec Tryz.prog 196 [encR t,encL l,.loc 1000000 0] [(1000000,vrU 1000001 M.length),(1000001,rwU M)]
 (fun res bf=>res = .tup [] ∧ bf 1000000 = some (vrU 900 (M.length + 1)) ∧ bf 900 = some (rwU (M ++ [ptU t l]))):=by
 have hMt : (M.map encU).take M.length = M.map encU:=List.take_of_length_le (by simp)
 refine MSpec_of Tryz.func196 rfl rfl (Nat.le_of_ble_eq_true rfl) (Nat.le_of_ble_eq_true rfl) ?_
 intro E hE
 refine AW_ren 1000001 900 (cb:=rwU M) (t:=⟨[(0,encR t),(1,encL l),(2,.loc 1000000 0)],[(1000000,vrU 900 M.length),(900,rwU M)]⟩) (by simp) (by simp) (by simp) (by simp [sw]) (by simp [sw]) ?_
 have z'1:=@encR.eq_1;have z'2:=@encL.eq_1;have z'3:=@encU.eq_1;have z'4:=@ptU.eq_1;exact ga0
theorem atms_len (l : List Un) : (atms l).length ≤ 3 * l.length:=by
 unfold atms
 induction l with
 |nil=>simp
 |cons u l ih =>
  simp only [List.flatMap_cons,List.length_append,List.length_cons]
  have : (atmU u).length ≤ 3:=by
   unfold atmU
   simp only [List.length_append]
   split <;> split <;> simp
   all_goals (split <;> simp)
  omega
set_option maxHeartbeats 4000000 in
theorem m_atoms (l : List Un) (hl : l.length ≤ 30000) : MSpec Tryz.prog 173 [.sl 36 (l.map encU)] [] (fun res bf=>res = .own 800 36 0 (atms l).length ∧ bf 800 = some (rwU (atms l))):=by
 have hall:=atms_len l
 obtain ⟨F,hF⟩ : ∃ F : Nat → List Un,∀ i,F i = atms (l.take i):=⟨_,fun _=>rfl⟩
 have hF0 : F 0 = []:=by rw [hF];rfl
 have hFn : F l.length = atms l:=by rw [hF,List.take_length]
 have hFs : ∀ i (h : i < l.length),F (i + 1) = F i ++ atmU l[i]:=fun i h=>by
  rw [hF,hF];unfold atms;rw [List.take_succ_eq_append_getElem h,List.flatMap_append];simp
 have hFl : ∀ i,i ≤ l.length → (F i).length ≤ 90000:=fun i h=>by
  rw [hF]
  have:=atms_len (l.take i)
  simp only [List.length_take] at this
  omega
 clear hF
 rw [← hFn]
 replace hFs:=Hld.mk hFs
 replace hFl:=Hld.mk hFl
 refine MSpec_of Tryz.func173 rfl rfl (Nat.le_of_ble_eq_true rfl) (Nat.le_of_ble_eq_true rfl) ?_
 intro E hE
 refine sq ⟨[(2,.v (.slice none 0 0)),(0,.sl 36 (l.map encU))],[]⟩ ?_
 refine sq ⟨[(3,.loc 3 0),(2,.v (.slice none 0 0)),(0,.sl 36 (l.map encU))],[(3,.box 142 (.v (.slice none 0 0)))]⟩ ?_
 refine AW_mkrowB 3 800 189 36 142 (by simp) (by simp) (by simp) (by omega) ?_
 refine sq ⟨[(4,.fn (.func 196) [] [.loc 3 0]),(3,.loc 3 0),(0,.sl 36 (l.map encU))],[(3,vrU 800 0),(800,rwU [])]⟩ ?_
 refine AW_seqt ⟨[(3,.loc 3 0)],[(3,vrU 800 (F l.length).length),(800,rwU (F l.length))]⟩ ?_ (by
  intro K hK
  refine lpk (G:=Nat) (fun i=>⟨[(10,iA i),(9,iA l.length),(8,.sl 36 (l.map encU)),(4,.fn (.func 196) [] [.loc 3 0]),(3,.loc 3 0)],[(3,vrU 800 (F i).length),(800,rwU (F i))]⟩) (fun i=>i ≤ l.length) (fun i=>l.length - i) 0 (Nat.zero_le _) ?_
  intro i hi K hK
  by_cases hlt : i < l.length
  ·have hltI : (i : Int) < l.length:=by omega
   have hs:=hFs.out i hlt
   have hm:=hFl.out i hi
   obtain ⟨M,hM⟩ : ∃ M,F i = M:=⟨_,rfl⟩
   obtain ⟨M2,hM2⟩ : ∃ M,F (i + 1) = M:=⟨_,rfl⟩
   obtain ⟨u,hu⟩ : ∃ u,l[i] = u:=⟨_,rfl⟩
   rw [hM,hM2,hu] at hs
   rw [hM] at hm
   refine AW_le (t:=⟨[(10,iA i),(9,iA l.length),(8,.sl 36 (l.map encU)),(4,.fn (.func 196) [] [.loc 3 0]),(3,.loc 3 0)],[(3,vrU 800 M.length),(800,rwU M)]⟩) (by simp [hM]) ?_
   replace hM:=Hld.mk hM
   replace hM2:=Hld.mk hM2
   replace hs:=Hld.mk hs
   have hinst : Hld (PSpec Tryz.prog 174 [encV ⟨u.f,u.t,u.fo,u.to⟩] (bA (decide (u.f = u.t)))):=⟨s_instant u.i⟩
   obtain ⟨A,hA⟩ : ∃ A,A = M ++ (if u.fo then [] else [ptU u.f u.l]):=⟨_,rfl⟩
   obtain ⟨B,hB⟩ : ∃ B,B = A ++ (if u.f = u.t then [] else opU u :: (if u.to then [] else [ptU u.t u.l])):=⟨_,rfl⟩
   have hBM : Hld (B = M2):=⟨by rw [hs.out,hB,hA];simp [atmU]⟩
   have hAl : A.length ≤ 90001:=by rw [hA];split <;> simp <;> omega
   replace hA:=Hld.mk hA
   replace hB:=Hld.mk hB
   refine sq ⟨[(11,bA true),(10,iA i),(9,iA l.length),(8,.sl 36 (l.map encU)),(4,.fn (.func 196) [] [.loc 3 0]),(3,.loc 3 0)],[(3,vrU 800 M.length),(800,rwU M)]⟩ ?_
   refine sq ⟨[(10,iA i),(9,iA l.length),(8,.sl 36 (l.map encU)),(4,.fn (.func 196) [] [.loc 3 0]),(3,.loc 3 0)],[(3,vrU 800 M.length),(800,rwU M)]⟩ ?_
   refine AW_seqt ⟨[(10,iA i),(9,iA l.length),(8,.sl 36 (l.map encU)),(4,.fn (.func 196) [] [.loc 3 0]),(3,.loc 3 0)],[(3,vrU 800 B.length),(800,rwU B)]⟩ ?_ (by
    intro K hK
    refine AW_block ?_
    refine sq ⟨[(6,.loc 6 0),(10,iA i),(9,iA l.length),(8,.sl 36 (l.map encU)),(4,.fn (.func 196) [] [.loc 3 0]),(3,.loc 3 0)],[(6,.box 189 (encU u)),(3,vrU 800 M.length),(800,rwU M)]⟩ ?_
    refine AW_seqt ⟨[(6,.loc 6 0),(10,iA i),(9,iA l.length),(8,.sl 36 (l.map encU)),(4,.fn (.func 196) [] [.loc 3 0]),(3,.loc 3 0)],[(6,.box 189 (encU u)),(3,vrU 801 A.length),(801,rwU A)]⟩ ?_ (by
     intro K hK
     rcases hfo : u.fo with _|_
     ·have hA1 : Hld (A = M ++ [ptU u.f u.l]):=⟨by rw [hA.out,hfo];rfl⟩
      have hA2 : Hld (A.length = M.length + 1):=⟨by rw [hA1.out];simp⟩
      repeat' (first
       |(with_reducible first|refine uK ?_|refine uX ?_|refine jq fun K hK=>?_|refine jb ?_)|((with_reducible first|refine rS hE ?_|refine jn ?_|refine js fun K' hK'=>?_|refine ji fun X Y hX hY=>?_|refine jr ?_|refine jk ?_|refine jx ?_);simp [*,encU,hfo])|with_reducible refine rL hE ?_|with_reducible refine And.intro ?_ ?_|omega|(refine imp1 fun h=>?_))
      refine acall_boxes (m_atU u.f u.l M (by omega)) (nm [(1000000,3),(1000001,800)]) (nm [(1000000,3),(900,801)]) [(1000000,vrU 900 A.length),(900,rwU A)] (.tup []) (by rintro res bf ⟨rfl,h1,h2⟩;rw [← hA1.out] at h2;rw [← hA2.out] at h1;simp;exact ⟨h1,h2⟩) (by simp [encU,encR,encL,Un.l];exact ⟨rfl,rfl,rfl,rfl⟩) (by simp) (by simp) (by simp) (by simp) (by simp) (by simp) ?_
      simp
      have z'1:=@encU.eq_1;exact ga0
     ·have hA1 : Hld (A = M):=⟨by rw [hA.out,hfo];simp⟩
      refine AW_ren 800 801 (cb:=rwU M) (t:=⟨[(6,.loc 6 0),(10,iA i),(9,iA l.length),(8,.sl 36 (l.map encU)),(4,.fn (.func 196) [] [.loc 3 0]),(3,.loc 3 0)],[(6,.box 189 (encU u)),(3,vrU 801 M.length),(801,rwU M)]⟩) (by simp) (by simp) (by simp) (by simp [sw]) (by simp [sw]) ?_
      repeat' (first
       |(with_reducible first|refine uK ?_|refine uX ?_|refine jq fun K hK=>?_|refine jb ?_)|((with_reducible first|refine rS hE ?_|refine jn ?_|refine js fun K' hK'=>?_|refine ji fun X Y hX hY=>?_|refine jr ?_|refine jk ?_|refine jx ?_);simp [*,encU,hfo])|with_reducible refine rL hE ?_|with_reducible refine And.intro ?_ ?_|omega|(refine imp1 fun h=>?_))
      all_goals simp [encU,hfo,hA1.out])
    have hAt : (A.map encU).take A.length = A.map encU:=List.take_of_length_le (by simp)
    by_cases hft : u.f = u.t
    ·have hB1 : Hld (B = A):=⟨by rw [hB.out];simp [hft]⟩
     refine AW_ren 801 800 (cb:=rwU A) (t:=⟨[(6,.loc 6 0),(10,iA i),(9,iA l.length),(8,.sl 36 (l.map encU)),(4,.fn (.func 196) [] [.loc 3 0]),(3,.loc 3 0)],[(6,.box 189 (encU u)),(3,vrU 800 A.length),(800,rwU A)]⟩) (by simp) (by simp) (by simp) (by simp [sw]) (by simp [sw]) ?_
     have hin : Hld (PSpec Tryz.prog 174 [encV ⟨u.t,u.t,u.fo,u.to⟩] (bA true)):=⟨by have:=s_instant ⟨u.t,u.t,u.fo,u.to⟩;simpa using this⟩
     repeat' (first
      |(with_reducible first|refine uK ?_|refine uX ?_|refine jq fun K hK=>?_|refine jb ?_)|((with_reducible first|refine rS hE ?_|refine jn ?_|refine js fun K' hK'=>?_|refine ji fun X Y hX hY=>?_|refine jr ?_|refine jk ?_|refine jx ?_);simp [*,encU,encV,hft])|with_reducible refine rL hE ?_|(refine jC (hin.out) ?_ ?_ ?_;(iterate 2 focus (simp [*,encU,encV,hft] <;> fail));simp [*,encU,encV,hft])|with_reducible refine And.intro ?_ ?_|omega|(refine imp1 fun h=>?_))
     all_goals simp [hB1.out]
    ·refine AW_seqt ⟨[(6,.loc 6 0),(10,iA i),(9,iA l.length),(8,.sl 36 (l.map encU)),(4,.fn (.func 196) [] [.loc 3 0]),(3,.loc 3 0)],[(6,.box 189 (encU u)),(3,vrU 801 A.length),(801,rwU A)]⟩ ?_ (by
      intro K hK
      repeat' (first
       |(with_reducible first|refine uK ?_|refine uX ?_|refine jq fun K hK=>?_|refine jb ?_)|((with_reducible first|refine rS hE ?_|refine jn ?_|refine js fun K' hK'=>?_|refine ji fun X Y hX hY=>?_|refine jr ?_|refine jk ?_|refine jx ?_);simp [*,encU,encV,hft])|with_reducible refine rL hE ?_|(refine jC (hinst.out) ?_ ?_ ?_;(iterate 2 focus (simp [*,encU,encV,hft] <;> fail));simp [*,encU,encV,hft])|with_reducible refine And.intro ?_ ?_|omega|(refine imp1 fun h=>?_))
      all_goals simp [encU,encV,hft])
     refine AW_seqt ⟨[(6,.loc 6 0),(10,iA i),(9,iA l.length),(8,.sl 36 (l.map encU)),(4,.fn (.func 196) [] [.loc 3 0]),(3,.loc 3 0)],[(6,.box 189 (encU u)),(3,vrU 801 (A.length + 1)),(801,rwU (A ++ [opU u]))]⟩ ?_ (by
      intro K hK
      have z'1:=@encU.eq_1;have z'2:=@encV.eq_1;have z'3:=@encR.eq_1;have z'4:=@encL.eq_1;have z'5:=@opU.eq_1;exact ga0)
     obtain ⟨N,hN⟩ : ∃ N,N = A ++ [opU u]:=⟨_,rfl⟩
     have hNl : N.length ≤ 90002:=by rw [hN];simp;omega
     replace hN:=Hld.mk hN
     refine AW_le (t:=⟨[(6,.loc 6 0),(10,iA i),(9,iA l.length),(8,.sl 36 (l.map encU)),(4,.fn (.func 196) [] [.loc 3 0]),(3,.loc 3 0)],[(6,.box 189 (encU u)),(3,vrU 801 N.length),(801,rwU N)]⟩) (by simp [hN.out]) ?_
     rcases hto : u.to with _|_
     ·have hB1 : Hld (B = N ++ [ptU u.t u.l]):=⟨by rw [hB.out,hN.out];simp [hft,hto]⟩
      have hB2 : Hld (B.length = N.length + 1):=⟨by rw [hB1.out];simp⟩
      repeat' (first
       |(with_reducible first|refine uK ?_|refine uX ?_|refine jq fun K hK=>?_|refine jb ?_)|((with_reducible first|refine rS hE ?_|refine jn ?_|refine js fun K' hK'=>?_|refine ji fun X Y hX hY=>?_|refine jr ?_|refine jk ?_|refine jx ?_);simp [*,encU,hto])|with_reducible refine rL hE ?_|with_reducible refine And.intro ?_ ?_|omega|(refine imp1 fun h=>?_))
      refine acall_boxes (m_atU u.t u.l N (by omega)) (nm [(1000000,3),(1000001,801)]) (nm [(1000000,3),(900,800)]) [(1000000,vrU 900 B.length),(900,rwU B)] (.tup []) (by rintro res bf ⟨rfl,h1,h2⟩;rw [← hB1.out] at h2;rw [← hB2.out] at h1;simp;exact ⟨h1,h2⟩) (by simp [encU,encR,encL,Un.l];exact ⟨rfl,rfl,rfl,rfl⟩) (by simp) (by simp) (by simp) (by simp) (by simp) (by simp) ?_
      simp
      have z'1:=@encU.eq_1;exact ga0
     ·have hB1 : Hld (B = N):=⟨by rw [hB.out,hN.out];simp [hft,hto]⟩
      refine AW_ren 801 800 (cb:=rwU N) (t:=⟨[(6,.loc 6 0),(10,iA i),(9,iA l.length),(8,.sl 36 (l.map encU)),(4,.fn (.func 196) [] [.loc 3 0]),(3,.loc 3 0)],[(6,.box 189 (encU u)),(3,vrU 800 N.length),(800,rwU N)]⟩) (by simp) (by simp) (by simp) (by simp [sw]) (by simp [sw]) ?_
      repeat' (first
       |(with_reducible first|refine uK ?_|refine uX ?_|refine jq fun K hK=>?_|refine jb ?_)|((with_reducible first|refine rS hE ?_|refine jn ?_|refine js fun K' hK'=>?_|refine ji fun X Y hX hY=>?_|refine jr ?_|refine jk ?_|refine jx ?_);simp [*,encU,hto])|with_reducible refine rL hE ?_|with_reducible refine And.intro ?_ ?_|omega|(refine imp1 fun h=>?_))
      all_goals simp [encU,hto,hB1.out])
   have z'1:=hM2.out;have z'2:=hBM.out;exact gli
  ·have : i = l.length:=by omega
   subst this
   exact ga0)
 exact ga0
theorem s_atoms (l : List Un) (hl : l.length ≤ 30000) : PSpec Tryz.prog 173 [.sl 36 (l.map encU)] (.sl 36 ((atms l).map encU)) :=
 RSpec.toP (MSpec.mono (m_atoms l hl) (by
  rintro res bf ⟨rfl,h⟩
  exact .inl ⟨800,_,by simp,h,List.take_of_length_le (by simp)⟩) : RSpec Tryz.prog 173 [.sl 36 (l.map encU)] 189 36 ((atms l).map encU)) (by simp)
@[simp] theorem meth_Check : methOf Tryz.prog 161 "Check" = some 250:=by kernel_rfl
@[simp] theorem meth_Equal : methOf Tryz.prog 161 "Equal" = some 251:=by kernel_rfl
@[simp] theorem meth_Reduce : methOf Tryz.prog 161 "Reduce" = some 252:=by kernel_rfl
@[simp] theorem meth_Same : methOf Tryz.prog 161 "Same" = some 253:=by kernel_rfl
theorem eqA_R (x y : Rat) : eqA [.b,.s,.b,.s,.b,.s,.b,.s,.b] [bA (decide (x.num < 0)),mgA x.num.natAbs,bA false,mgA (dn x),bA false,eA,bA false,eA,bA false] [bA (decide (y.num < 0)),mgA y.num.natAbs,bA false,mgA (dn y),bA false,eA,bA false,eA,bA false] = some (decide (x = y)):=by
 by_cases h : x = y
 ·subst h
  simp [eqA,eqA1]
 ·simp [eqA,eqA1,h]
  intro h1 h2 h3
  exact h (encQ_inj (decide_eq_decide.2 h1) h2 h3)
def hldU (M : List Un) (t : Rat) : Bool:=match M.getLast? with
 |some b=>decide (b.t = t) && !b.to
 |none=>false
theorem s_held (M : List Un) (t : Rat) (hM : M.length ≤ 100000) : PSpec Tryz.prog 175 [.sl 36 (M.map encU),encR t] (bA (hldU M t)):=by
 rcases List.eq_nil_or_concat M with rfl|⟨N,b,rfl⟩
 ·refine pS Tryz.func175 ?_
  intro E hE
  repeat' (first
   |(with_reducible first|refine uK ?_|refine uQ ?_|refine uX ?_|refine jq fun K hK=>?_|refine jb ?_)|(with_reducible refine rS hE ?_;simp [*,hldU])|with_reducible refine rL hE ?_|(((with_reducible show RK _ _ _ _ _ _);first|refine jn ?_|refine js fun K' hK'=>?_);simp [*,hldU])|with_reducible refine rD mixed hE ?_|((with_reducible show RKQ _ _ _ _ _ _);first|refine RKQ_nilk ⟨by decide,?_⟩|(refine jv fun K' hK'=>?_;simp [*,hldU]))|((with_reducible first|refine ji fun X Y hX hY=>?_|refine jr ?_|refine jk ?_|refine jx ?_);simp [*,hldU])|with_reducible refine And.intro ?_ ?_|omega|(refine imp1 fun h=>?_))
 ·have e : hldU (N ++ [b]) t = (decide (b.t = t) && !b.to):=by simp [hldU]
  rw [List.concat_eq_append] at *
  rw [e]
  have hN : N.length ≤ 100000:=by simp at hM;omega
  by_cases h : b.t = t
  ·refine pS Tryz.func175 ?_
   intro E hE
   repeat' (first
    |(with_reducible first|refine uK ?_|refine uQ ?_|refine uX ?_|refine jq fun K hK=>?_|refine jb ?_)|(with_reducible refine rS hE ?_;simp [*,encU,encR,↓eqA_R])|with_reducible refine rL hE ?_|(((with_reducible show RK _ _ _ _ _ _);first|refine jn ?_|refine js fun K' hK'=>?_);simp [*,encU,encR,↓eqA_R])|with_reducible refine rD mixed hE ?_|((with_reducible show RKQ _ _ _ _ _ _);first|refine RKQ_nilk ⟨by decide,?_⟩|(refine jv fun K' hK'=>?_;simp [*,encU,encR,↓eqA_R]))|((with_reducible first|refine ji fun X Y hX hY=>?_|refine jr ?_|refine jk ?_|refine jx ?_);simp [*,encU,encR,↓eqA_R])|with_reducible refine And.intro ?_ ?_|omega|(refine imp1 fun h=>?_))
  ·refine pS Tryz.func175 ?_
   intro E hE
   repeat' (first
    |(with_reducible first|refine uK ?_|refine uQ ?_|refine uX ?_|refine jq fun K hK=>?_|refine jb ?_)|(with_reducible refine rS hE ?_;simp [*,encU,encR,↓eqA_R])|with_reducible refine rL hE ?_|(((with_reducible show RK _ _ _ _ _ _);first|refine jn ?_|refine js fun K' hK'=>?_);simp [*,encU,encR,↓eqA_R])|with_reducible refine rD mixed hE ?_|((with_reducible show RKQ _ _ _ _ _ _);first|refine RKQ_nilk ⟨by decide,?_⟩|(refine jv fun K' hK'=>?_;simp [*,encU,encR,↓eqA_R]))|((with_reducible first|refine ji fun X Y hX hY=>?_|refine jr ?_|refine jk ?_|refine jx ?_);simp [*,encU,encR,↓eqA_R])|with_reducible refine And.intro ?_ ?_|omega|(refine imp1 fun h=>?_))
def befU (M : List Un) (t : Rat) : Option Un:=match M.getLast? with
 |some b=>if b.t = t ∧ b.f ≠ b.t then some b else none
 |none=>none
def lefU (A M : List Un) (t : Rat) (i : Nat) : Bool:=decide (0 < i) && (match A[i - 1]? with
 |some y=>decide (y.f = y.t) && (decide (y.f = t) && !hldU M t)
 |none=>false)
def nxtU (A : List Un) (x : Un) (i : Nat) : Bool:=match A[i + 1]? with
 |some y=>decide (y.f = x.f) && smL y.l x.l x.f
 |none=>false
def setL (x : Un) (l : Ln) : Un:=⟨x.f,x.t,x.fo,x.to,l.x0,l.x1,l.y0,l.y1⟩
def lngU (b : Un) (t : Rat) : Un:=⟨b.f,t,b.fo,true,b.x0,b.x1,b.y0,b.y1⟩
def clsU (b : Un) : Un:=⟨b.f,b.t,b.fo,false,b.x0,b.x1,b.y0,b.y1⟩
def opnU (x : Un) : Un:=⟨x.f,x.t,false,x.to,x.x0,x.x1,x.y0,x.y1⟩
def stpX (A M : List Un) (x : Un) (i : Nat) : List Un :=
 if x.f = x.t then
  match befU M x.f with
  |some b=>if smL b.l x.l x.f then M.dropLast ++ [clsU b] else if nxtU A x i then M else M ++ [setL x (rdL x.l x.f)]
  |none=>if nxtU A x i then M else M ++ [setL x (rdL x.l x.f)]
 else
  match befU M x.f with
  |some b=>if !b.to && decide (b.l = x.l) then M.dropLast ++ [lngU b x.t] else M ++ [if lefU A M x.f i then opnU x else x]
  |none=>M ++ [if lefU A M x.f i then opnU x else x]
def stpU (A M : List Un) (i : Nat) : List Un:=match A[i]? with
 |some x=>stpX A M x i
 |none=>M
def nrmA (A : List Un) : List Un:=(List.range A.length).foldl (stpU A) []
def nrF (A : List Un) (i : Nat) : List Un:=(List.range i).foldl (stpU A) []
theorem nrF_zero (A : List Un) : nrF A 0 = []:=rfl
theorem nrF_succ (A : List Un) (i : Nat) (h : i < A.length) : nrF A (i + 1) = stpX A (nrF A i) A[i] i:=by
 unfold nrF
 rw [List.range_succ,List.foldl_append]
 simp [stpU,h]
theorem stpX_mem {A M : List Un} {x : Un} {i : Nat} {P : Un → Prop} (hM : ∀ b ∈ M,P b) (h1 : ∀ b ∈ M,b.f ≠ b.t → ∀ t,P (lngU b t)) (h2 : ∀ b ∈ M,P (clsU b)) (h3 : P x) (h4 : P (opnU x)) (h5 : x.f = x.t → P (setL x (rdL x.l x.f))) : ∀ b ∈ stpX A M x i,P b:=by
 have hbf : ∀ t b,befU M t = some b → b ∈ M ∧ b.f ≠ b.t:=by
  intro t b h
  unfold befU at h
  split at h
  ·rename_i b' hb'
   split at h
   ·rename_i hc;cases h;exact ⟨List.mem_of_getLast? hb',hc.2⟩
   ·cases h
  ·cases h
 have hd : ∀ b ∈ M.dropLast,P b:=fun b hb=>hM b (List.dropLast_subset M hb)
 have ap : ∀ {L : List Un} {y : Un},(∀ b ∈ L,P b) → P y → ∀ b ∈ L ++ [y],P b:=by
  intro L y hL hy b hb
  rcases List.mem_append.1 hb with hb|hb
  ·exact hL b hb
  ·rw [List.mem_singleton.1 hb];exact hy
 have hxo : P (if lefU A M x.f i then opnU x else x):=by split <;> assumption
 unfold stpX
 split
 ·rename_i hf
  split
  ·rename_i b hb
   split
   ·exact ap hd (h2 b (hbf _ _ hb).1)
   ·split
    ·exact hM
    ·exact ap hM (h5 hf)
  ·split
   ·exact hM
   ·exact ap hM (h5 hf)
 ·split
  ·rename_i b hb
   split
   ·exact ap hd (h1 b (hbf _ _ hb).1 (hbf _ _ hb).2 _)
   ·exact ap hM hxo
  ·exact ap hM hxo
theorem stpX_len (A M : List Un) (x : Un) (i : Nat) : (stpX A M x i).length ≤ M.length + 1:=by
 unfold stpX
 repeat' split
 all_goals simp
 all_goals omega
theorem nrF_len (A : List Un) : ∀ i,i ≤ A.length → (nrF A i).length ≤ i
 |0,_=>by simp [nrF_zero]
 |i + 1,h=>by
  rw [nrF_succ A i h]
  have:=stpX_len A (nrF A i) A[i] i
  have:=nrF_len A i (by omega)
  omega
def LnU (b : Un) : Prop:=b.f ≠ b.t → OkL b.l
theorem nrF_ok {A : List Un} (hA : ∀ u ∈ A,OkU u) : ∀ i,i ≤ A.length → ∀ b ∈ nrF A i,LnU b
 |0,_=>by simp [nrF_zero]
 |i + 1,h=>by
  rw [nrF_succ A i h]
  have ih:=nrF_ok hA i (by omega)
  have hx:=(hA A[i] (List.getElem_mem h)).l
  exact stpX_mem ih (fun b hb hn t _=>ih b hb hn) (fun b hb=>ih b hb) (fun _=>hx) (fun _=>hx) (fun he h=>absurd he h)
theorem atmU_ok {u : Un} (h : OkU u) : ∀ x ∈ atmU u,OkU x:=by
 have h1 : OkU (ptU u.f u.l):=⟨h.f,h.f,h.l⟩
 have h2 : OkU (ptU u.t u.l):=⟨h.t,h.t,h.l⟩
 have h3 : OkU (opU u):=⟨h.f,h.t,h.l⟩
 unfold atmU
 intro x hx
 repeat' split at hx
 all_goals simp at hx
 all_goals (try rcases hx with hx|hx|hx)
 all_goals (try rcases hx with hx|hx)
 all_goals first|(subst hx;assumption)|assumption
theorem atms_ok {l : List Un} (h : ∀ u ∈ l,OkU u) : ∀ x ∈ atms l,OkU x:=by
 intro x hx
 obtain ⟨u,hu,hx⟩:=List.mem_flatMap.1 hx
 exact atmU_ok (h u hu) x hx
def bpU (M : List Un) (t : Rat) : AV:=match befU M t with
 |some _=>.eloc 700 36 (M.length - 1) 0
 |none=>.v (.pointer none)
@[simp] theorem qbin_eloc_ne {P : Program} {T : TypeId} {a b c d : Nat} {y : AV} {xc yc : Bool} {cont : AV → Prop} : qbin P .neq T (.eloc a b c d) y xc yc cont = nilCmp P T (.eloc a b c d) y xc yc (fun r=>cont (.v (.bool (!r)))):=qbin_nil_ne rfl
theorem befU_some {M : List Un} {t : Rat} {b : Un} (h : befU M t = some b) : ∃ N,M = N ++ [b] ∧ b.t = t ∧ b.f ≠ b.t:=by
 unfold befU at h
 split at h
 ·rename_i b' hb'
  split at h
  ·rename_i hc
   cases h
   obtain ⟨N,hN⟩:=List.getLast?_eq_some_iff.1 hb'
   exact ⟨N,hN,hc.1,hc.2⟩
  ·cases h
 ·cases h
set_option maxHeartbeats 8000000 in
theorem m_Normal (l : List Un) (hl : l.length ≤ 30000) (hO : ∀ u ∈ l,OkU u) (hs : l.Pairwise (fun a b=>a.f < b.f)) (hap : ∀ i (h : i + 1 < l.length),aptU l[i].i l[i + 1].i = true) :
 MSpec Tryz.prog 148 [.ifc 161 (.st []),.sl 36 (l.map encU)] [] (fun res bf=>res = .tup [.own 700 36 0 (nrmA (atms l)).length,iA 0] ∧ bf 700 = some (rwU (nrmA (atms l)))):=by
 have hsrt:=Hld.mk (s_sorted (by omega) hO hs)
 have hatm:=Hld.mk (s_atoms l hl)
 have hAl:=atms_len l
 have hAO:=Hld.mk (atms_ok hO)
 obtain ⟨A,hA⟩ : ∃ A,atms l = A:=⟨_,rfl⟩
 rw [hA] at hatm hAl hAO ⊢
 clear hA
 have hap2 : Hld (∀ i (h : i + 1 < l.length),PSpec Tryz.prog 147 [encV l[i].i,encV l[i + 1].i] (bA true)):=⟨fun i h=>by
  have:=s_apart (a:=l[i].i) (b:=l[i + 1].i) (hO _ (List.getElem_mem (by omega))).t (hO _ (List.getElem_mem h)).f
  rw [hap i h] at this
  exact this⟩
 obtain ⟨F,hF⟩ : ∃ F,nrF A = F:=⟨_,rfl⟩
 have hF0 : F 0 = []:=by rw [← hF];rfl
 have hFn : F A.length = nrmA A:=by rw [← hF];rfl
 have hFs : Hld (∀ i (h : i < A.length),F (i + 1) = stpX A (F i) A[i] i):=⟨by rw [← hF];exact nrF_succ A⟩
 have hFl : Hld (∀ i,i ≤ A.length → (F i).length ≤ i):=⟨by rw [← hF];exact nrF_len A⟩
 have hFO : Hld (∀ i,i ≤ A.length → ∀ b ∈ F i,LnU b):=⟨by rw [← hF];exact nrF_ok hAO.out⟩
 clear hF hO hs hap
 rw [← hFn]
 refine MSpec_of Tryz.func148 rfl rfl (Nat.le_of_ble_eq_true rfl) (Nat.le_of_ble_eq_true rfl) ?_
 intro E hE
 refine sq ⟨[(1,.sl 36 (l.map encU)),(0,.ifc 161 (.st []))],[]⟩ ?_
 refine AW_seqt ⟨[(1,.sl 36 (l.map encU)),(0,.ifc 161 (.st []))],[]⟩ ?_ (by
  intro K hK
  have k'1:=hsrt;exact ga1)
 refine AW_seqt ⟨[(1,.sl 36 (l.map encU)),(0,.ifc 161 (.st []))],[]⟩ ?_ (by
  intro K hK
  refine lpk (G:=Nat) (fun i=>⟨[(18,iA i),(17,iA l.length),(1,.sl 36 (l.map encU)),(0,.ifc 161 (.st []))],[]⟩) (fun i=>i ≤ l.length) (fun i=>l.length - i) 0 (Nat.zero_le _) ?_
  intro i hi K hK
  by_cases hlt : i < l.length
  ·have hltI : (i : Int) < l.length:=by omega
   refine sq ⟨[(19,bA true),(18,iA i),(17,iA l.length),(1,.sl 36 (l.map encU)),(0,.ifc 161 (.st []))],[]⟩ ?_
   rcases i with _|j
   ·repeat' (first
     |(with_reducible first|refine uK ?_|refine uQ ?_|refine uX ?_|refine jq fun K hK=>?_|refine jb ?_)|(with_reducible refine rS hE ?_;simp [*])|with_reducible refine rL hE ?_|(((with_reducible show RK _ _ _ _ _ _);first|refine jn ?_|refine js fun K' hK'=>?_);simp [*])|with_reducible refine rD mixed hE ?_|((with_reducible show RKQ _ _ _ _ _ _);first|refine RKQ_nilk ⟨by decide,?_⟩|(refine jv fun K' hK'=>?_;simp [*]))|((with_reducible first|refine ji fun X Y hX hY=>?_|refine jr ?_|refine jk ?_|refine jx ?_);simp [*])|with_reducible refine And.intro ?_ ?_|omega|(refine imp1 fun h=>?_))
    exact ⟨1,by omega,by omega,by simp⟩
   ·have hc:=hap2.out j hlt
    obtain ⟨u,hu⟩ : ∃ u,l[j] = u:=⟨_,rfl⟩
    obtain ⟨v,hv⟩ : ∃ u,l[j + 1] = u:=⟨_,rfl⟩
    rw [hu,hv] at hc
    have hu2 : l[j]? = some u:=by rw [List.getElem?_eq_getElem (by omega),hu]
    replace hc : PSpec Tryz.prog 147 [encV ⟨u.f,u.t,u.fo,u.to⟩,encV ⟨v.f,v.t,v.fo,v.to⟩] (bA true):=hc
    repeat' (first
     |(with_reducible first|refine uK ?_|refine uQ ?_|refine uX ?_|refine jq fun K hK=>?_|refine jb ?_)|(with_reducible refine rS hE ?_;simp [*,encU,encV])|with_reducible refine rL hE ?_|(((with_reducible show RK _ _ _ _ _ _);first|refine jn ?_|refine js fun K' hK'=>?_);simp [*,encU,encV])|with_reducible refine rD mixed hE ?_|((with_reducible show RKQ _ _ _ _ _ _);first|refine RKQ_nilk ⟨by decide,?_⟩|(refine jv fun K' hK'=>?_;simp [*,encU,encV]))|((with_reducible first|refine ji fun X Y hX hY=>?_|refine jr ?_|refine jk ?_|refine jx ?_);simp [*,encU,encV])|((first|refine jC (hc) ?_ ?_ ?_|refine jQ (hc) ?_ ?_ ?_);(iterate 2 focus (simp [*,encU,encV] <;> fail));simp [*,encU,encV])|with_reducible refine And.intro ?_ ?_|omega|(refine imp1 fun h=>?_))
    exact ⟨j + 2,by omega,by omega,by simp;omega⟩
  ·have : i = l.length:=by omega
   subst this
   repeat' (first
    |(with_reducible first|refine uK ?_|refine uQ ?_|refine uX ?_|refine jq fun K hK=>?_|refine jb ?_)|(with_reducible refine rS hE ?_;simp [*])|with_reducible refine rL hE ?_|(((with_reducible show RK _ _ _ _ _ _);first|refine jn ?_|refine js fun K' hK'=>?_);simp [*])|with_reducible refine rD mixed hE ?_|((with_reducible show RKQ _ _ _ _ _ _);first|refine RKQ_nilk ⟨by decide,?_⟩|(refine jv fun K' hK'=>?_;simp [*]))|((with_reducible first|refine ji fun X Y hX hY=>?_|refine jr ?_|refine jk ?_|refine jx ?_);simp [*])|with_reducible refine And.intro ?_ ?_|omega|(refine imp1 fun h=>?_))
   all_goals simp)
 refine sq ⟨[(7,.v (.slice none 0 0)),(1,.sl 36 (l.map encU)),(0,.ifc 161 (.st []))],[]⟩ ?_
 refine AW_seqt ⟨[(8,.sl 36 (A.map encU)),(7,.v (.slice none 0 0)),(0,.ifc 161 (.st []))],[]⟩ ?_ (by
  intro K hK
  have k'1:=hatm;exact ga1)
 refine AW_mkrow 7 700 189 36 (by simp) (by simp) (by simp) (by omega) ?_
 refine AW_seqt ⟨[(7,.own 700 36 0 (F A.length).length)],[(700,rwU (F A.length))]⟩ ?_ (by
  intro K hK
  refine lpk (G:=Nat) (fun i=>⟨[(7,.own 700 36 0 (F i).length),(43,iA i),(42,iA A.length),(41,.sl 36 (A.map encU)),(8,.sl 36 (A.map encU)),(0,.ifc 161 (.st []))],[(700,rwU (F i))]⟩) (fun i=>i ≤ A.length) (fun i=>A.length - i) 0 (Nat.zero_le _) ?_
  intro i hi K hK
  by_cases hlt : i < A.length
  ·have hltI : (i : Int) < A.length:=by omega
   have hs:=hFs.out i hlt
   have hm:=hFl.out i hi
   have hMO:=Hld.mk (hFO.out i hi)
   obtain ⟨M,hM⟩ : ∃ M,F i = M:=⟨_,rfl⟩
   obtain ⟨M2,hM2⟩ : ∃ M,F (i + 1) = M:=⟨_,rfl⟩
   obtain ⟨x,hx⟩ : ∃ u,A[i] = u:=⟨_,rfl⟩
   have hxO : Hld (OkU x):=⟨hx ▸ hAO.out _ (List.getElem_mem hlt)⟩
   rw [hM,hM2,hx] at hs
   rw [hM] at hm hMO
   refine AW_le (t:=⟨[(7,.own 700 36 0 M.length),(43,iA i),(42,iA A.length),(41,.sl 36 (A.map encU)),(8,.sl 36 (A.map encU)),(0,.ifc 161 (.st []))],[(700,rwU M)]⟩) (by simp [hM]) ?_
   replace hM:=Hld.mk hM
   replace hM2:=Hld.mk hM2
   replace hs:=Hld.mk hs
   have hAt : (M.map encU).take M.length = M.map encU:=List.take_of_length_le (by simp)
   refine sq ⟨[(44,bA true),(7,.own 700 36 0 M.length),(43,iA i),(42,iA A.length),(41,.sl 36 (A.map encU)),(8,.sl 36 (A.map encU)),(0,.ifc 161 (.st []))],[(700,rwU M)]⟩ ?_
   refine sq ⟨[(7,.own 700 36 0 M.length),(43,iA i),(42,iA A.length),(41,.sl 36 (A.map encU)),(8,.sl 36 (A.map encU)),(0,.ifc 161 (.st []))],[(700,rwU M)]⟩ ?_
   refine AW_seqt ⟨[(7,.own 700 36 0 M2.length),(43,iA i),(42,iA A.length),(41,.sl 36 (A.map encU)),(8,.sl 36 (A.map encU)),(0,.ifc 161 (.st []))],[(700,rwU M2)]⟩ ?_ (by
    intro K hK
    refine AW_block ?_
    refine sq ⟨[(10,.loc 10 0),(9,iA i),(7,.own 700 36 0 M.length),(43,iA i),(42,iA A.length),(41,.sl 36 (A.map encU)),(8,.sl 36 (A.map encU)),(0,.ifc 161 (.st []))],[(10,.box 189 (encU x)),(700,rwU M)]⟩ ?_
    refine AW_seqt ⟨[(11,.loc 11 0),(10,.loc 10 0),(9,iA i),(7,.own 700 36 0 M.length),(43,iA i),(42,iA A.length),(41,.sl 36 (A.map encU)),(8,.sl 36 (A.map encU)),(0,.ifc 161 (.st []))],[(11,.box 92 (encR x.f)),(10,.box 189 (encU x)),(700,rwU M)]⟩ ?_ (by
     intro K hK
     have z'1:=@encU.eq_1;have z'2:=@encR.eq_1;exact ga0)
    refine sq ⟨[(12,.v (.pointer none)),(11,.loc 11 0),(10,.loc 10 0),(9,iA i),(7,.own 700 36 0 M.length),(43,iA i),(42,iA A.length),(41,.sl 36 (A.map encU)),(8,.sl 36 (A.map encU)),(0,.ifc 161 (.st []))],[(11,.box 92 (encR x.f)),(10,.box 189 (encU x)),(700,rwU M)]⟩ ?_
    refine AW_seqt ⟨[(12,bpU M x.f),(11,.loc 11 0),(10,.loc 10 0),(9,iA i),(7,.own 700 36 0 M.length),(43,iA i),(42,iA A.length),(41,.sl 36 (A.map encU)),(8,.sl 36 (A.map encU)),(0,.ifc 161 (.st []))],[(11,.box 92 (encR x.f)),(10,.box 189 (encU x)),(700,rwU M)]⟩ ?_ (by
     intro K hK
     rcases List.eq_nil_or_concat M with hM0|⟨N,b,hM0⟩
     ·have e : bpU M x.f = .v (.pointer none):=by simp [bpU,befU,hM0]
      subst hM0
      repeat' (first
       |(with_reducible first|refine uK ?_|refine uQ ?_|refine uX ?_|refine jq fun K hK=>?_|refine jb ?_)|(with_reducible refine rS hE ?_;simp [*])|with_reducible refine rL hE ?_|(((with_reducible show RK _ _ _ _ _ _);first|refine jn ?_|refine js fun K' hK'=>?_);simp [*])|with_reducible refine rD mixed hE ?_|((with_reducible show RKQ _ _ _ _ _ _);first|refine RKQ_nilk ⟨by decide,?_⟩|(refine jv fun K' hK'=>?_;simp [*]))|((with_reducible first|refine ji fun X Y hX hY=>?_|refine jr ?_|refine jk ?_|refine jx ?_);simp [*])|with_reducible refine And.intro ?_ ?_|omega|(refine imp1 fun h=>?_))
      all_goals simp [e]
     ·rw [List.concat_eq_append] at hM0
      have hMl : M.length = N.length + 1:=by rw [hM0];simp
      have hMi : M[N.length]? = some b:=by rw [hM0];simp
      have hMj : ∀ h : N.length < M.length,M[N.length] = b:=fun h=>by rw [List.getElem?_eq_getElem h] at hMi;exact Option.some.inj hMi
      have hNl : N.length ≤ 100000:=by omega
      by_cases h1 : b.t = x.f
      ·by_cases h2 : b.f = b.t
       ·have e : bpU M x.f = .v (.pointer none):=by simp [bpU,befU,hM0,h2]
        have hin : Hld (PSpec Tryz.prog 174 [encV ⟨b.t,b.t,b.fo,b.to⟩] (bA true)):=⟨by have:=s_instant ⟨b.t,b.t,b.fo,b.to⟩;simpa using this⟩
        clear hM0
        repeat' (first
         |(with_reducible first|refine uK ?_|refine uQ ?_|refine uX ?_|refine jq fun K hK=>?_|refine jb ?_)|(with_reducible refine rS hE ?_;simp [*,encU,encV,encR,↓eqA_R])|with_reducible refine rL hE ?_|(((with_reducible show RK _ _ _ _ _ _);first|refine jn ?_|refine js fun K' hK'=>?_);simp [*,encU,encV,encR,↓eqA_R])|with_reducible refine rD mixed hE ?_|((with_reducible show RKQ _ _ _ _ _ _);first|refine RKQ_nilk ⟨by decide,?_⟩|(refine jv fun K' hK'=>?_;simp [*,encU,encV,encR,↓eqA_R]))|((with_reducible first|refine ji fun X Y hX hY=>?_|refine jr ?_|refine jk ?_|refine jx ?_);simp [*,encU,encV,encR,↓eqA_R])|((first|refine jC (hin.out) ?_ ?_ ?_|refine jQ (hin.out) ?_ ?_ ?_);(iterate 2 focus (simp [*,encU,encV,encR,↓eqA_R] <;> fail));simp [*,encU,encV,encR,↓eqA_R])|with_reducible refine And.intro ?_ ?_|omega|(refine imp1 fun h=>?_))
        all_goals simp [e,hMl,encU,encR]
       ·have h2b : ¬ b.f = x.f:=by rw [← h1];exact h2
        have e : bpU M x.f = .eloc 700 36 N.length 0:=by simp [bpU,befU,hM0,h1,h2b]
        have hin : Hld (PSpec Tryz.prog 174 [encV ⟨b.f,x.f,b.fo,b.to⟩] (bA false)):=⟨by have:=s_instant ⟨b.f,x.f,b.fo,b.to⟩;simpa [h2b] using this⟩
        clear hM0 h2
        repeat' (first
         |(with_reducible first|refine uK ?_|refine uQ ?_|refine uX ?_|refine jq fun K hK=>?_|refine jb ?_)|(with_reducible refine rS hE ?_;simp [*,encU,encV,encR,↓eqA_R])|with_reducible refine rL hE ?_|(((with_reducible show RK _ _ _ _ _ _);first|refine jn ?_|refine js fun K' hK'=>?_);simp [*,encU,encV,encR,↓eqA_R])|with_reducible refine rD mixed hE ?_|((with_reducible show RKQ _ _ _ _ _ _);first|refine RKQ_nilk ⟨by decide,?_⟩|(refine jv fun K' hK'=>?_;simp [*,encU,encV,encR,↓eqA_R]))|((with_reducible first|refine ji fun X Y hX hY=>?_|refine jr ?_|refine jk ?_|refine jx ?_);simp [*,encU,encV,encR,↓eqA_R])|((first|refine jC (hin.out) ?_ ?_ ?_|refine jQ (hin.out) ?_ ?_ ?_);(iterate 2 focus (simp [*,encU,encV,encR,↓eqA_R] <;> fail));simp [*,encU,encV,encR,↓eqA_R])|with_reducible refine And.intro ?_ ?_|omega|(refine imp1 fun h=>?_))
        all_goals simp [e,hMl,encU,encR]
      ·have e : bpU M x.f = .v (.pointer none):=by simp [bpU,befU,hM0,h1]
       clear hM0
       repeat' (first
        |(with_reducible first|refine uK ?_|refine uQ ?_|refine uX ?_|refine jq fun K hK=>?_|refine jb ?_)|(with_reducible refine rS hE ?_;simp [*,encU,encR,↓eqA_R])|with_reducible refine rL hE ?_|(((with_reducible show RK _ _ _ _ _ _);first|refine jn ?_|refine js fun K' hK'=>?_);simp [*,encU,encR,↓eqA_R])|with_reducible refine rD mixed hE ?_|((with_reducible show RKQ _ _ _ _ _ _);first|refine RKQ_nilk ⟨by decide,?_⟩|(refine jv fun K' hK'=>?_;simp [*,encU,encR,↓eqA_R]))|((with_reducible first|refine ji fun X Y hX hY=>?_|refine jr ?_|refine jk ?_|refine jx ?_);simp [*,encU,encR,↓eqA_R])|with_reducible refine And.intro ?_ ?_|omega|(refine imp1 fun h=>?_))
       all_goals simp [e,hMl,encU,encR])
    have lst : ∀ b,befU M x.f = some b → ∃ N,M.length = N.length + 1 ∧ M[N.length]? = some b ∧ (∀ h : N.length < M.length,M[N.length] = b) ∧ bpU M x.f = .eloc 700 36 N.length 0 ∧ OkL b.l ∧ (∀ y,(M.map encU).set N.length y = N.map encU ++ [y]) ∧ M.dropLast = N:=by
     intro b hb
     obtain ⟨N,hN,h1,h2⟩:=befU_some hb
     have hMl : M.length = N.length + 1:=by rw [hN];simp
     have hMi : M[N.length]? = some b:=by rw [hN];simp
     refine ⟨N,hMl,hMi,fun h=>by rw [List.getElem?_eq_getElem h] at hMi;exact Option.some.inj hMi,by simp [bpU,hb,hMl],hMO.out b (by rw [hN];simp) h2,fun y=>?_,by rw [hN];simp⟩
     rw [hN]
     simp
    replace lst:=Hld.mk lst
    by_cases hft : x.f = x.t
    ·have hin : Hld (PSpec Tryz.prog 174 [encV ⟨x.f,x.t,x.fo,x.to⟩] (bA true)):=⟨by have:=s_instant ⟨x.f,x.t,x.fo,x.to⟩;simpa [hft] using this⟩
     obtain ⟨s1,hs1⟩ : ∃ s,s = (match befU M x.f with|some b=>smL b.l x.l x.f|none=>false):=⟨_,rfl⟩
     obtain ⟨L,hL⟩ : ∃ L,rdL x.l x.f = L:=⟨_,rfl⟩
     have hrd : Hld (PSpec Tryz.prog 252 [.st [],encL ⟨x.x0,x.x1,x.y0,x.y1⟩,encR x.f] (encL L)):=⟨hL ▸ s_reduceL hxO.out.l hxO.out.f⟩
     replace hft:=Hld.mk hft
     replace hL:=Hld.mk hL
     replace hs1:=Hld.mk hs1
     refine AW_block ?_
     refine AW_seqt ⟨[(90,bA false),(12,bpU M x.f),(11,.loc 11 0),(10,.loc 10 0),(9,iA i),(7,.own 700 36 0 M.length),(43,iA i),(42,iA A.length),(41,.sl 36 (A.map encU)),(8,.sl 36 (A.map encU)),(0,.ifc 161 (.st []))],[(11,.box 92 (encR x.f)),(10,.box 189 (encU x)),(700,rwU M)]⟩ ?_ (by
      intro K hK
      have k'1:=hin;have z'1:=@encU.eq_1;have z'2:=@encV.eq_1;exact ga1)
     refine AW_cond (t:=false) (by simp) ?_ ?_
     ·intro h;cases h
     intro _
     refine AW_seqt ⟨[(163,bA s1),(12,bpU M x.f),(11,.loc 11 0),(10,.loc 10 0),(9,iA i),(7,.own 700 36 0 M.length),(43,iA i),(42,iA A.length),(41,.sl 36 (A.map encU)),(8,.sl 36 (A.map encU)),(0,.ifc 161 (.st []))],[(11,.box 92 (encR x.f)),(10,.box 189 (encU x)),(700,rwU M)]⟩ ?_ (by
      intro K hK
      rcases hbf : befU M x.f with _|b
      ·have e : bpU M x.f = .v (.pointer none):=by simp [bpU,hbf]
       have e1 : s1 = false:=by rw [hs1.out,hbf]
       clear hbf
       refine AW_le (t:=⟨[(12,.v (.pointer none)),(11,.loc 11 0),(10,.loc 10 0),(9,iA i),(7,.own 700 36 0 M.length),(43,iA i),(42,iA A.length),(41,.sl 36 (A.map encU)),(8,.sl 36 (A.map encU)),(0,.ifc 161 (.st []))],[(11,.box 92 (encR x.f)),(10,.box 189 (encU x)),(700,rwU M)]⟩) (by simp [e]) ?_
       repeat' (first
        |(with_reducible first|refine uK ?_|refine uQ ?_|refine uX ?_|refine jq fun K hK=>?_|refine jb ?_)|(with_reducible refine rS hE ?_;simp [*])|with_reducible refine rL hE ?_|(((with_reducible show RK _ _ _ _ _ _);first|refine jn ?_|refine js fun K' hK'=>?_);simp [*])|with_reducible refine rD mixed hE ?_|((with_reducible show RKQ _ _ _ _ _ _);first|refine RKQ_nilk ⟨by decide,?_⟩|(refine jv fun K' hK'=>?_;simp [*]))|((with_reducible first|refine ji fun X Y hX hY=>?_|refine jr ?_|refine jk ?_|refine jx ?_);simp [*])|with_reducible refine And.intro ?_ ?_|omega|(refine imp1 fun h=>?_))
       all_goals simp [e,e1]
      ·obtain ⟨N,hMl,hMi,hMj,e,hbO,hset,hdl⟩:=lst.out b hbf
       have hNl : N.length ≤ 100000:=by omega
       have e1 : smL b.l x.l x.f = s1:=by rw [hs1.out,hbf]
       have hsm : Hld (PSpec Tryz.prog 253 [.st [],encL ⟨b.x0,b.x1,b.y0,b.y1⟩,encL ⟨x.x0,x.x1,x.y0,x.y1⟩,encR x.f] (bA s1)):=⟨e1 ▸ s_sameL hbO hxO.out.l hxO.out.f⟩
       clear hbf e1 hset hdl
       refine AW_le (t:=⟨[(12,.eloc 700 36 N.length 0),(11,.loc 11 0),(10,.loc 10 0),(9,iA i),(7,.own 700 36 0 M.length),(43,iA i),(42,iA A.length),(41,.sl 36 (A.map encU)),(8,.sl 36 (A.map encU)),(0,.ifc 161 (.st []))],[(11,.box 92 (encR x.f)),(10,.box 189 (encU x)),(700,rwU M)]⟩) (by simp [e]) ?_
       repeat' (first
        |(with_reducible first|refine uK ?_|refine uQ ?_|refine uX ?_|refine jq fun K hK=>?_|refine jb ?_)|(with_reducible refine rS hE ?_;simp [*,encU,encL,encR])|with_reducible refine rL hE ?_|(((with_reducible show RK _ _ _ _ _ _);first|refine jn ?_|refine js fun K' hK'=>?_);simp [*,encU,encL,encR])|with_reducible refine rD mixed hE ?_|((with_reducible show RKQ _ _ _ _ _ _);first|refine RKQ_nilk ⟨by decide,?_⟩|(refine jv fun K' hK'=>?_;simp [*,encU,encL,encR]))|((with_reducible first|refine ji fun X Y hX hY=>?_|refine jr ?_|refine jk ?_|refine jx ?_);simp [*,encU,encL,encR])|((first|refine jC (hsm.out) ?_ ?_ ?_|refine jQ (hsm.out) ?_ ?_ ?_);(iterate 2 focus (simp [*,encU,encL,encR] <;> fail));simp [*,encU,encL,encR])|with_reducible refine And.intro ?_ ?_|omega|(refine imp1 fun h=>?_))
       all_goals simp [e,hMl,encU,encR])
     rcases s1 with _|_
     ·refine AW_cond (t:=false) (by simp) ?_ ?_
      ·intro h;cases h
      intro _
      obtain ⟨s2,hs2⟩ : ∃ s,s = nxtU A x i:=⟨_,rfl⟩
      have hM2e : Hld (M2 = if s2 then M else M ++ [setL x L]):=⟨by
       rw [hs.out,stpX,if_pos hft.out,hL.out,← hs2]
       have h:=hs1.out
       split
       ·rename_i b hb
        rw [hb] at h
        simp only at h
        rw [← h]
        simp
       ·rfl⟩
      refine AW_seqt ⟨[(184,bA s2),(11,.loc 11 0),(10,.loc 10 0),(9,iA i),(7,.own 700 36 0 M.length),(43,iA i),(42,iA A.length),(41,.sl 36 (A.map encU)),(8,.sl 36 (A.map encU)),(0,.ifc 161 (.st []))],[(11,.box 92 (encR x.f)),(10,.box 189 (encU x)),(700,rwU M)]⟩ ?_ (by
       intro K hK
       refine AW_le (t:=⟨[(11,.loc 11 0),(10,.loc 10 0),(9,iA i),(7,.own 700 36 0 M.length),(43,iA i),(42,iA A.length),(41,.sl 36 (A.map encU)),(8,.sl 36 (A.map encU)),(0,.ifc 161 (.st []))],[(11,.box 92 (encR x.f)),(10,.box 189 (encU x)),(700,rwU M)]⟩) (by simp) ?_
       rcases hy : A[i + 1]? with _|y
       ·have e : s2 = false:=by rw [hs2,nxtU,hy]
        have hAi : ¬ ((i : Int) + 1 < A.length):=by have:=List.getElem?_eq_none_iff.1 hy;omega
        repeat' (first
         |(with_reducible first|refine uK ?_|refine uQ ?_|refine uX ?_|refine jq fun K hK=>?_|refine jb ?_)|(with_reducible refine rS hE ?_;simp [*])|with_reducible refine rL hE ?_|(((with_reducible show RK _ _ _ _ _ _);first|refine jn ?_|refine js fun K' hK'=>?_);simp [*])|with_reducible refine rD mixed hE ?_|((with_reducible show RKQ _ _ _ _ _ _);first|refine RKQ_nilk ⟨by decide,?_⟩|(refine jv fun K' hK'=>?_;simp [*]))|((with_reducible first|refine ji fun X Y hX hY=>?_|refine jr ?_|refine jk ?_|refine jx ?_);simp [*])|with_reducible refine And.intro ?_ ?_|omega|(refine imp1 fun h=>?_))
        all_goals simp [e]
       ·have hi1 : i + 1 < A.length:=(List.getElem?_eq_some_iff.1 hy).1
        have hAi : (i : Int) + 1 < A.length:=by omega
        have hyj : ∀ h : i + 1 < A.length,A[i + 1] = y:=fun h=>by rw [List.getElem?_eq_getElem h] at hy;exact Option.some.inj hy
        have hyO : OkU y:=hyj hi1 ▸ hAO.out _ (List.getElem_mem hi1)
        have hsm : Hld (PSpec Tryz.prog 253 [.st [],encL ⟨y.x0,y.x1,y.y0,y.y1⟩,encL ⟨x.x0,x.x1,x.y0,x.y1⟩,encR x.f] (bA (smL y.l x.l x.f))):=⟨s_sameL hyO.l hxO.out.l hxO.out.f⟩
        by_cases hyf : y.f = x.f
        ·have e : s2 = smL y.l x.l x.f:=by rw [hs2,nxtU,hy];simp [hyf]
         obtain ⟨s3,hs3⟩ : ∃ s,smL y.l x.l x.f = s:=⟨_,rfl⟩
         rw [hs3] at hsm e
         clear hs3 hs2 hyO
         repeat' (first
          |(with_reducible first|refine uK ?_|refine uQ ?_|refine uX ?_|refine jq fun K hK=>?_|refine jb ?_)|(with_reducible refine rS hE ?_;simp [*,encU,encL,encR,↓eqA_R])|with_reducible refine rL hE ?_|(((with_reducible show RK _ _ _ _ _ _);first|refine jn ?_|refine js fun K' hK'=>?_);simp [*,encU,encL,encR,↓eqA_R])|with_reducible refine rD mixed hE ?_|((with_reducible show RKQ _ _ _ _ _ _);first|refine RKQ_nilk ⟨by decide,?_⟩|(refine jv fun K' hK'=>?_;simp [*,encU,encL,encR,↓eqA_R]))|((with_reducible first|refine ji fun X Y hX hY=>?_|refine jr ?_|refine jk ?_|refine jx ?_);simp [*,encU,encL,encR,↓eqA_R])|((first|refine jC (hsm.out) ?_ ?_ ?_|refine jQ (hsm.out) ?_ ?_ ?_);(iterate 2 focus (simp [*,encU,encL,encR,↓eqA_R] <;> fail));simp [*,encU,encL,encR,↓eqA_R])|with_reducible refine And.intro ?_ ?_|omega|(refine imp1 fun h=>?_))
         all_goals simp [e,encU,encR]
        ·have e : s2 = false:=by rw [hs2,nxtU,hy];simp [hyf]
         clear hs2 hyO
         repeat' (first
          |(with_reducible first|refine uK ?_|refine uQ ?_|refine uX ?_|refine jq fun K hK=>?_|refine jb ?_)|(with_reducible refine rS hE ?_;simp [*,encU,encL,encR,↓eqA_R])|with_reducible refine rL hE ?_|(((with_reducible show RK _ _ _ _ _ _);first|refine jn ?_|refine js fun K' hK'=>?_);simp [*,encU,encL,encR,↓eqA_R])|with_reducible refine rD mixed hE ?_|((with_reducible show RKQ _ _ _ _ _ _);first|refine RKQ_nilk ⟨by decide,?_⟩|(refine jv fun K' hK'=>?_;simp [*,encU,encL,encR,↓eqA_R]))|((with_reducible first|refine ji fun X Y hX hY=>?_|refine jr ?_|refine jk ?_|refine jx ?_);simp [*,encU,encL,encR,↓eqA_R])|with_reducible refine And.intro ?_ ?_|omega|(refine imp1 fun h=>?_))
         all_goals simp [e,encU,encR])
      clear hs2
      rcases s2 with _|_
      ·have hM2f : Hld (M2 = M ++ [setL x L]):=⟨by rw [hM2e.out];simp⟩
       refine AW_cond (t:=false) (by simp) ?_ ?_
       ·intro h;cases h
       intro _
       have k'1:=hrd;have z'1:=@encU.eq_1;have z'2:=@encL.eq_1;have z'3:=@encR.eq_1;have z'4:=hM2f.out;have z'5:=@setL.eq_1;exact ga1
      ·have hM2f : Hld (M2 = M):=⟨by rw [hM2e.out];simp⟩
       refine AW_cond (t:=true) (by simp) ?_ ?_
       ·intro _
        have z'1:=hM2f.out;exact ga0
       ·intro h;cases h
     ·refine AW_cond (t:=true) (by simp) ?_ ?_
      ·intro _
       rcases hbf : befU M x.f with _|b
       ·have:=hs1.out
        rw [hbf] at this
        cases this
       ·obtain ⟨N,hMl,hMi,hMj,e,hbO,hset,hdl⟩:=lst.out b hbf
        have hNl : N.length ≤ 100000:=by omega
        have e1 : smL b.l x.l x.f = true:=by rw [hs1.out,hbf]
        have hM2f : Hld (M2 = N ++ [clsU b]):=⟨by rw [hs.out,stpX,if_pos hft.out,hbf];simp [e1,hdl]⟩
        clear hbf e1 hdl
        refine AW_le (t:=⟨[(12,.eloc 700 36 N.length 0),(11,.loc 11 0),(10,.loc 10 0),(9,iA i),(7,.own 700 36 0 M.length),(43,iA i),(42,iA A.length),(41,.sl 36 (A.map encU)),(8,.sl 36 (A.map encU)),(0,.ifc 161 (.st []))],[(11,.box 92 (encR x.f)),(10,.box 189 (encU x)),(700,rwU M)]⟩) (by simp [e]) ?_
        have z'1:=@encU.eq_1;have z'2:=hM2f.out;have z'3:=@clsU.eq_1;exact ga0
      ·intro h;cases h
    ·have hin : Hld (PSpec Tryz.prog 174 [encV ⟨x.f,x.t,x.fo,x.to⟩] (bA false)):=⟨by have:=s_instant ⟨x.f,x.t,x.fo,x.to⟩;simpa [hft] using this⟩
     obtain ⟨g,hg⟩ : ∃ s,s = (match befU M x.f with|some b=>!b.to && decide (b.l = x.l)|none=>false):=⟨_,rfl⟩
     replace hft:=Hld.mk hft
     replace hg:=Hld.mk hg
     refine AW_block ?_
     refine AW_seqt ⟨[(90,bA true),(12,bpU M x.f),(11,.loc 11 0),(10,.loc 10 0),(9,iA i),(7,.own 700 36 0 M.length),(43,iA i),(42,iA A.length),(41,.sl 36 (A.map encU)),(8,.sl 36 (A.map encU)),(0,.ifc 161 (.st []))],[(11,.box 92 (encR x.f)),(10,.box 189 (encU x)),(700,rwU M)]⟩ ?_ (by
      intro K hK
      have k'1:=hin;have z'1:=@encU.eq_1;have z'2:=@encV.eq_1;exact ga1)
     refine AW_cond (t:=true) (by simp) ?_ ?_
     rotate_left
     ·intro h;cases h
     intro _
     rcases g with _|_
     ·obtain ⟨lf,hlf⟩ : ∃ s,s = lefU A M x.f i:=⟨_,rfl⟩
      obtain ⟨x2,hx2⟩ : ∃ y,y = (if lf then opnU x else x):=⟨_,rfl⟩
      have hM2f : Hld (M2 = M ++ [x2]):=⟨by
       rw [hs.out,stpX,if_neg hft.out,← hlf,← hx2]
       have h:=hg.out
       split
       ·rename_i b hb
        rw [hb] at h
        simp only at h
        rw [← h]
        simp
       ·rfl⟩
      replace hlf:=Hld.mk hlf
      replace hx2:=Hld.mk hx2
      refine AW_seqt ⟨[(11,.loc 11 0),(10,.loc 10 0),(9,iA i),(7,.own 700 36 0 M.length),(43,iA i),(42,iA A.length),(41,.sl 36 (A.map encU)),(8,.sl 36 (A.map encU)),(0,.ifc 161 (.st []))],[(11,.box 92 (encR x.f)),(10,.box 189 (encU x)),(700,rwU M)]⟩ ?_ (by
       intro K hK
       refine AW_seqt ⟨[(117,bA false),(12,bpU M x.f),(11,.loc 11 0),(10,.loc 10 0),(9,iA i),(7,.own 700 36 0 M.length),(43,iA i),(42,iA A.length),(41,.sl 36 (A.map encU)),(8,.sl 36 (A.map encU)),(0,.ifc 161 (.st []))],[(11,.box 92 (encR x.f)),(10,.box 189 (encU x)),(700,rwU M)]⟩ ?_ (by
        intro K hK
        rcases hbf : befU M x.f with _|b
        ·have e : bpU M x.f = .v (.pointer none):=by simp [bpU,hbf]
         clear hbf
         refine AW_le (t:=⟨[(12,.v (.pointer none)),(11,.loc 11 0),(10,.loc 10 0),(9,iA i),(7,.own 700 36 0 M.length),(43,iA i),(42,iA A.length),(41,.sl 36 (A.map encU)),(8,.sl 36 (A.map encU)),(0,.ifc 161 (.st []))],[(11,.box 92 (encR x.f)),(10,.box 189 (encU x)),(700,rwU M)]⟩) (by simp [e]) ?_
         repeat' (first
          |(with_reducible first|refine uK ?_|refine uQ ?_|refine uX ?_|refine jq fun K hK=>?_|refine jb ?_)|(with_reducible refine rS hE ?_;simp [*])|with_reducible refine rL hE ?_|(((with_reducible show RK _ _ _ _ _ _);first|refine jn ?_|refine js fun K' hK'=>?_);simp [*])|with_reducible refine rD mixed hE ?_|((with_reducible show RKQ _ _ _ _ _ _);first|refine RKQ_nilk ⟨by decide,?_⟩|(refine jv fun K' hK'=>?_;simp [*]))|((with_reducible first|refine ji fun X Y hX hY=>?_|refine jr ?_|refine jk ?_|refine jx ?_);simp [*])|with_reducible refine And.intro ?_ ?_|omega|(refine imp1 fun h=>?_))
         all_goals simp [e]
        ·obtain ⟨N,hMl,hMi,hMj,e,hbO,hset,hdl⟩:=lst.out b hbf
         have hNl : N.length ≤ 100000:=by omega
         have e1 : (!b.to && decide (b.l = x.l)) = false:=by rw [hg.out,hbf]
         have heq : Hld (PSpec Tryz.prog 251 [.st [],encL ⟨b.x0,b.x1,b.y0,b.y1⟩,encL ⟨x.x0,x.x1,x.y0,x.y1⟩] (bA (decide (b.l = x.l)))):=⟨s_equalL b.l x.l⟩
         obtain ⟨q,hq⟩ : ∃ q,decide (b.l = x.l) = q:=⟨_,rfl⟩
         rw [hq] at heq e1
         clear hbf hq hset hdl
         refine AW_le (t:=⟨[(12,.eloc 700 36 N.length 0),(11,.loc 11 0),(10,.loc 10 0),(9,iA i),(7,.own 700 36 0 M.length),(43,iA i),(42,iA A.length),(41,.sl 36 (A.map encU)),(8,.sl 36 (A.map encU)),(0,.ifc 161 (.st []))],[(11,.box 92 (encR x.f)),(10,.box 189 (encU x)),(700,rwU M)]⟩) (by simp [e]) ?_
         rcases hto : b.to with _|_
         ·rw [hto] at e1
          simp at e1
          subst e1
          repeat' (first
           |(with_reducible first|refine uK ?_|refine uQ ?_|refine uX ?_|refine jq fun K hK=>?_|refine jb ?_)|(with_reducible refine rS hE ?_;simp [*,encU,encL])|with_reducible refine rL hE ?_|(((with_reducible show RK _ _ _ _ _ _);first|refine jn ?_|refine js fun K' hK'=>?_);simp [*,encU,encL])|with_reducible refine rD mixed hE ?_|((with_reducible show RKQ _ _ _ _ _ _);first|refine RKQ_nilk ⟨by decide,?_⟩|(refine jv fun K' hK'=>?_;simp [*,encU,encL]))|((with_reducible first|refine ji fun X Y hX hY=>?_|refine jr ?_|refine jk ?_|refine jx ?_);simp [*,encU,encL])|((first|refine jC (heq.out) ?_ ?_ ?_|refine jQ (heq.out) ?_ ?_ ?_);(iterate 2 focus (simp [*,encU,encL] <;> fail));simp [*,encU,encL])|with_reducible refine And.intro ?_ ?_|omega|(refine imp1 fun h=>?_))
          all_goals simp [e,hMl,encU,encL]
         ·rw [hto] at e1
          repeat' (first
           |(with_reducible first|refine uK ?_|refine uQ ?_|refine uX ?_|refine jq fun K hK=>?_|refine jb ?_)|(with_reducible refine rS hE ?_;simp [*,encU,encL])|with_reducible refine rL hE ?_|(((with_reducible show RK _ _ _ _ _ _);first|refine jn ?_|refine js fun K' hK'=>?_);simp [*,encU,encL])|with_reducible refine rD mixed hE ?_|((with_reducible show RKQ _ _ _ _ _ _);first|refine RKQ_nilk ⟨by decide,?_⟩|(refine jv fun K' hK'=>?_;simp [*,encU,encL]))|((with_reducible first|refine ji fun X Y hX hY=>?_|refine jr ?_|refine jk ?_|refine jx ?_);simp [*,encU,encL])|((first|refine jC (heq.out) ?_ ?_ ?_|refine jQ (heq.out) ?_ ?_ ?_);(iterate 2 focus (simp [*,encU,encL] <;> fail));simp [*,encU,encL])|with_reducible refine And.intro ?_ ?_|omega|(refine imp1 fun h=>?_))
          all_goals simp [e,hMl,encU,encL])
       exact ga0)
      refine AW_seqt ⟨[(11,.loc 11 0),(10,.loc 10 0),(9,iA i),(7,.own 700 36 0 M.length),(43,iA i),(42,iA A.length),(41,.sl 36 (A.map encU)),(8,.sl 36 (A.map encU)),(0,.ifc 161 (.st []))],[(11,.box 92 (encR x.f)),(10,.box 189 (encU x2)),(700,rwU M)]⟩ ?_ (by
       intro K hK
       refine AW_seqt ⟨[(156,bA lf),(11,.loc 11 0),(10,.loc 10 0),(9,iA i),(7,.own 700 36 0 M.length),(43,iA i),(42,iA A.length),(41,.sl 36 (A.map encU)),(8,.sl 36 (A.map encU)),(0,.ifc 161 (.st []))],[(11,.box 92 (encR x.f)),(10,.box 189 (encU x)),(700,rwU M)]⟩ ?_ (by
        intro K hK
        have hhd : Hld (PSpec Tryz.prog 175 [.sl 36 (M.map encU),encR x.f] (bA (hldU M x.f))):=⟨s_held M x.f (by omega)⟩
        rcases i with _|j
        ·have e : lf = false:=by rw [hlf.out];simp [lefU]
         repeat' (first
          |(with_reducible first|refine uK ?_|refine uQ ?_|refine uX ?_|refine jq fun K hK=>?_|refine jb ?_)|(with_reducible refine rS hE ?_;simp [*])|with_reducible refine rL hE ?_|(((with_reducible show RK _ _ _ _ _ _);first|refine jn ?_|refine js fun K' hK'=>?_);simp [*])|with_reducible refine rD mixed hE ?_|((with_reducible show RKQ _ _ _ _ _ _);first|refine RKQ_nilk ⟨by decide,?_⟩|(refine jv fun K' hK'=>?_;simp [*]))|((with_reducible first|refine ji fun X Y hX hY=>?_|refine jr ?_|refine jk ?_|refine jx ?_);simp [*])|with_reducible refine And.intro ?_ ?_|omega|(refine imp1 fun h=>?_))
         all_goals simp [e]
        ·have hj : j < A.length:=by omega
         obtain ⟨y,hy⟩ : ∃ y,A[j] = y:=⟨_,rfl⟩
         have hyq : A[j]? = some y:=by rw [List.getElem?_eq_getElem hj,hy]
         obtain ⟨hh,hhh⟩ : ∃ s,hldU M x.f = s:=⟨_,rfl⟩
         by_cases h1 : y.f = y.t
         ·have hin2 : Hld (PSpec Tryz.prog 174 [encV ⟨y.t,y.t,y.fo,y.to⟩] (bA true)):=⟨by have:=s_instant ⟨y.t,y.t,y.fo,y.to⟩;simpa using this⟩
          by_cases h2 : y.t = x.f
          ·have e : lf = !hh:=by rw [hlf.out,← hhh];simp [lefU,hyq,h1,h2]
           rw [hhh] at hhd
           clear hhh
           repeat' (first
            |(with_reducible first|refine uK ?_|refine uQ ?_|refine uX ?_|refine jq fun K hK=>?_|refine jb ?_)|(with_reducible refine rS hE ?_;simp [*,encU,encV,encR,↓eqA_R])|with_reducible refine rL hE ?_|(((with_reducible show RK _ _ _ _ _ _);first|refine jn ?_|refine js fun K' hK'=>?_);simp [*,encU,encV,encR,↓eqA_R])|with_reducible refine rD mixed hE ?_|((with_reducible show RKQ _ _ _ _ _ _);first|refine RKQ_nilk ⟨by decide,?_⟩|(refine jv fun K' hK'=>?_;simp [*,encU,encV,encR,↓eqA_R]))|((with_reducible first|refine ji fun X Y hX hY=>?_|refine jr ?_|refine jk ?_|refine jx ?_);simp [*,encU,encV,encR,↓eqA_R])|((first|refine jC (hin2.out) ?_ ?_ ?_|refine jQ (hin2.out) ?_ ?_ ?_);(iterate 2 focus (simp [*,encU,encV,encR,↓eqA_R] <;> fail));simp [*,encU,encV,encR,↓eqA_R])|((first|refine jC (hhd.out) ?_ ?_ ?_|refine jQ (hhd.out) ?_ ?_ ?_);(iterate 2 focus (simp [*,encU,encV,encR,↓eqA_R] <;> fail));simp [*,encU,encV,encR,↓eqA_R])|with_reducible refine And.intro ?_ ?_|omega|(refine imp1 fun h=>?_))
           all_goals simp [e,encU,encR]
          ·have e : lf = false:=by rw [hlf.out];simp [lefU,hyq,h1,h2]
           clear hhh
           repeat' (first
            |(with_reducible first|refine uK ?_|refine uQ ?_|refine uX ?_|refine jq fun K hK=>?_|refine jb ?_)|(with_reducible refine rS hE ?_;simp [*,encU,encV,encR,↓eqA_R])|with_reducible refine rL hE ?_|(((with_reducible show RK _ _ _ _ _ _);first|refine jn ?_|refine js fun K' hK'=>?_);simp [*,encU,encV,encR,↓eqA_R])|with_reducible refine rD mixed hE ?_|((with_reducible show RKQ _ _ _ _ _ _);first|refine RKQ_nilk ⟨by decide,?_⟩|(refine jv fun K' hK'=>?_;simp [*,encU,encV,encR,↓eqA_R]))|((with_reducible first|refine ji fun X Y hX hY=>?_|refine jr ?_|refine jk ?_|refine jx ?_);simp [*,encU,encV,encR,↓eqA_R])|((first|refine jC (hin2.out) ?_ ?_ ?_|refine jQ (hin2.out) ?_ ?_ ?_);(iterate 2 focus (simp [*,encU,encV,encR,↓eqA_R] <;> fail));simp [*,encU,encV,encR,↓eqA_R])|with_reducible refine And.intro ?_ ?_|omega|(refine imp1 fun h=>?_))
           all_goals simp [e,encU,encR]
         ·have hin2 : Hld (PSpec Tryz.prog 174 [encV ⟨y.f,y.t,y.fo,y.to⟩] (bA false)):=⟨by have:=s_instant ⟨y.f,y.t,y.fo,y.to⟩;simpa [h1] using this⟩
          have e : lf = false:=by rw [hlf.out];simp [lefU,hyq,h1]
          clear hhh
          repeat' (first
           |(with_reducible first|refine uK ?_|refine uQ ?_|refine uX ?_|refine jq fun K hK=>?_|refine jb ?_)|(with_reducible refine rS hE ?_;simp [*,encU,encV,encR,↓eqA_R])|with_reducible refine rL hE ?_|(((with_reducible show RK _ _ _ _ _ _);first|refine jn ?_|refine js fun K' hK'=>?_);simp [*,encU,encV,encR,↓eqA_R])|with_reducible refine rD mixed hE ?_|((with_reducible show RKQ _ _ _ _ _ _);first|refine RKQ_nilk ⟨by decide,?_⟩|(refine jv fun K' hK'=>?_;simp [*,encU,encV,encR,↓eqA_R]))|((with_reducible first|refine ji fun X Y hX hY=>?_|refine jr ?_|refine jk ?_|refine jx ?_);simp [*,encU,encV,encR,↓eqA_R])|((first|refine jC (hin2.out) ?_ ?_ ?_|refine jQ (hin2.out) ?_ ?_ ?_);(iterate 2 focus (simp [*,encU,encV,encR,↓eqA_R] <;> fail));simp [*,encU,encV,encR,↓eqA_R])|with_reducible refine And.intro ?_ ?_|omega|(refine imp1 fun h=>?_))
          all_goals simp [e,encU,encR])
       rcases lf with _|_
       ·have hx3 : Hld (x2 = x):=⟨by rw [hx2.out];rfl⟩
        clear hx2 hlf
        have z'1:=hx3.out;exact ga0
       ·have hx3 : Hld (x2 = opnU x):=⟨by rw [hx2.out];rfl⟩
        clear hx2 hlf
        have z'1:=@encU.eq_1;have z'2:=hx3.out;have z'3:=@opnU.eq_1;exact ga0)
      clear hx2 hlf
      have z'1:=@encU.eq_1;have z'2:=hM2f.out;exact ga0
     ·refine AW_seq fun K0 hK0=>?_
      clear hK0
      refine AW_seqt ⟨[(117,bA true),(12,bpU M x.f),(11,.loc 11 0),(10,.loc 10 0),(9,iA i),(7,.own 700 36 0 M.length),(43,iA i),(42,iA A.length),(41,.sl 36 (A.map encU)),(8,.sl 36 (A.map encU)),(0,.ifc 161 (.st []))],[(11,.box 92 (encR x.f)),(10,.box 189 (encU x)),(700,rwU M)]⟩ ?_ (by
       intro K hK
       rcases hbf : befU M x.f with _|b
       ·have e : bpU M x.f = .v (.pointer none):=by simp [bpU,hbf]
        have:=hg.out
        rw [hbf] at this
        cases this
       ·obtain ⟨N,hMl,hMi,hMj,e,hbO,hset,hdl⟩:=lst.out b hbf
        have hNl : N.length ≤ 100000:=by omega
        have e1 : (!b.to && decide (b.l = x.l)) = true:=by rw [hg.out,hbf]
        have heq : Hld (PSpec Tryz.prog 251 [.st [],encL ⟨b.x0,b.x1,b.y0,b.y1⟩,encL ⟨x.x0,x.x1,x.y0,x.y1⟩] (bA (decide (b.l = x.l)))):=⟨s_equalL b.l x.l⟩
        obtain ⟨q,hq⟩ : ∃ q,decide (b.l = x.l) = q:=⟨_,rfl⟩
        rw [hq] at heq e1
        clear hbf hq hset hdl
        refine AW_le (t:=⟨[(12,.eloc 700 36 N.length 0),(11,.loc 11 0),(10,.loc 10 0),(9,iA i),(7,.own 700 36 0 M.length),(43,iA i),(42,iA A.length),(41,.sl 36 (A.map encU)),(8,.sl 36 (A.map encU)),(0,.ifc 161 (.st []))],[(11,.box 92 (encR x.f)),(10,.box 189 (encU x)),(700,rwU M)]⟩) (by simp [e]) ?_
        rcases hto : b.to with _|_
        ·rw [hto] at e1
         simp at e1
         subst e1
         repeat' (first
          |(with_reducible first|refine uK ?_|refine uQ ?_|refine uX ?_|refine jq fun K hK=>?_|refine jb ?_)|(with_reducible refine rS hE ?_;simp [*,encU,encL])|with_reducible refine rL hE ?_|(((with_reducible show RK _ _ _ _ _ _);first|refine jn ?_|refine js fun K' hK'=>?_);simp [*,encU,encL])|with_reducible refine rD mixed hE ?_|((with_reducible show RKQ _ _ _ _ _ _);first|refine RKQ_nilk ⟨by decide,?_⟩|(refine jv fun K' hK'=>?_;simp [*,encU,encL]))|((with_reducible first|refine ji fun X Y hX hY=>?_|refine jr ?_|refine jk ?_|refine jx ?_);simp [*,encU,encL])|((first|refine jC (heq.out) ?_ ?_ ?_|refine jQ (heq.out) ?_ ?_ ?_);(iterate 2 focus (simp [*,encU,encL] <;> fail));simp [*,encU,encL])|with_reducible refine And.intro ?_ ?_|omega|(refine imp1 fun h=>?_))
         all_goals simp [e,hMl,encU,encL]
        ·rw [hto] at e1
         simp at e1)
      rcases hbf : befU M x.f with _|b
      ·have:=hg.out
       rw [hbf] at this
       cases this
      ·obtain ⟨N,hMl,hMi,hMj,e,hbO,hset,hdl⟩:=lst.out b hbf
       have hNl : N.length ≤ 100000:=by omega
       have e1 : (!b.to && decide (b.l = x.l)) = true:=by rw [hg.out,hbf]
       have hM2f : Hld (M2 = N ++ [lngU b x.t]):=⟨by rw [hs.out,stpX,if_neg hft.out,hbf];simp only [e1,hdl,if_true]⟩
       clear hbf e1 hdl
       refine AW_le (t:=⟨[(117,bA true),(12,.eloc 700 36 N.length 0),(11,.loc 11 0),(10,.loc 10 0),(9,iA i),(7,.own 700 36 0 M.length),(43,iA i),(42,iA A.length),(41,.sl 36 (A.map encU)),(8,.sl 36 (A.map encU)),(0,.ifc 161 (.st []))],[(11,.box 92 (encR x.f)),(10,.box 189 (encU x)),(700,rwU M)]⟩) (by simp [e]) ?_
       refine AW_cond (t:=true) (by simp) ?_ ?_
       rotate_left
       ·intro h;cases h
       intro _
       have z'1:=@encU.eq_1;have z'2:=hM2f.out;have z'3:=@lngU.eq_1;exact ga0)
   have z'1:=hM2.out;exact gli
  ·have : i = A.length:=by omega
   subst this
   exact ga0)
 exact ga0
end Go.Proofs.YtfkgaphfdpflmaaGreatDoor
