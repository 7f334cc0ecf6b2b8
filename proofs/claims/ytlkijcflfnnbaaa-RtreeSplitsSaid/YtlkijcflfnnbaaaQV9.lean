/- RtreeSplits: for any entries and any number the law hands back true -/
import Derived.Test.YtlkijcflfnnbaaaZG
set_option maxRecDepth 1000000
set_option linter.unusedSimpArgs false
set_option linter.unusedVariables false
namespace Go.Proofs.Ytlkijcflfnnbaaa
open Go.Am Go.RowKit Go.ChangeShapes Go.WideShapes Go.ChangeAt
namespace L7
noncomputable def c11 : Code:=nav [1,1,1,1,0,1,0,0,1,0,0,1,1] (Try.f10.body.getD .skip)
set_option maxHeartbeats 2000000 in
theorem reg11 {E : Env} (hE : E.n = Try.f10.ntmps) {l : List En} {mo : Int} {i : Nat} {O : List Int} {k : Int} {p : Nat} (hi : i < l.length) (hk : l[i].t0 = k) (hp : p ≤ O.length) (hO : O.length ≤ 1000000) {Q : AExit → AState → Prop}
 (h : ∀ s' : AState,s'.le ⟨[(8,iA i),(7,.v (.slice none 0 0)),(6,.own 44 1 0 (O.length + 1)),(5,.sl 7 (l.map encE)),(1,iA mo)],[(44,.arr 3 1 ((O.take p ++ k :: O.drop p).map iA))]⟩ → Q .normal s') :
 AW Try.prog E c11 ⟨[(9,iA p),(8,iA i),(7,.v (.slice none 0 0)),(6,.sl 1 (O.map iA)),(5,.sl 7 (l.map encE)),(1,iA mo)],[]⟩ Q:=by
 replace h:=Kont.mk h
 refine AW_drawF (fun f=>⟨[(44,if f 0 && !f 4 then .own 44 1 0 0 else .u),(45,if f 1 then .sl 1 (O.map iA) else .u),(46,if f 2 then iA p else .u),(47,if f 3 then .sl 1 ((O.take p).map iA) else .u),(48,if f 4 && !f 12 then .own 44 1 0 p else .u),(49,if f 5 then .sl 7 (l.map encE) else .u),(50,if f 6 then iA i else .u),(51,if f 7 then .ep (encE l[i]) else .u),(52,if f 8 then .ep (.st [iA l[i].x0,iA l[i].x1,iA l[i].y0,iA l[i].y1,iA l[i].t0,iA l[i].t1]) else .u),(53,if f 9 then .ep (iA k) else .u),(54,if f 10 then iA k else .u),
  (55,if f 11 then .own 55 1 0 1 else .u),(56,if f 12 && !f 16 then .own 44 1 0 (p + 1) else .u),(57,if f 13 then .sl 1 (O.map iA) else .u),(58,if f 14 then iA p else .u),(59,if f 15 then .sl 1 ((O.drop p).map iA) else .u),(60,if f 16 then .own 44 1 0 (O.length + 1) else .u),
  (9,iA p),(8,iA i),(7,.v (.slice none 0 0)),(6,if f 17 then .own 44 1 0 (O.length + 1) else .sl 1 (O.map iA)),(5,.sl 7 (l.map encE)),(1,iA mo)],
  (if f 0 then [(44,.arr 3 1 ((if f 16 then O.take p ++ k :: O.drop p else if f 12 then O.take p ++ [k] else if f 4 then O.take p else []).map iA))] else []) ++ (if f 11 then [(55,.arr 3 1 [iA k])] else [])⟩) mixed (by rw [hE];decide) (by decide +kernel) (by decide +kernel) (by simp) ?_ ?_
 ·intro f n o hn hdep hnot hcl K2 hK2
  have hn17:=(List.getElem?_eq_some_iff.1 hn).1
  simp only [List.length_cons,List.length_nil] at hn17
  have e4 : f 4 = true → f 0 = true:=fun h=>by have:=hcl 4 _ rfl h;simp [Region.binds] at this;exact this.1
  have e11 : f 12 = true → f 4 = true ∧ f 11 = true:=fun h=>by have:=hcl 12 _ rfl h;simp [Region.binds] at this;exact ⟨this.1,this.2.1⟩
  have e15 : f 16 = true → f 12 = true ∧ f 15 = true:=fun h=>by have:=hcl 16 _ rfl h;simp [Region.binds] at this;exact ⟨this.1,this.2.1⟩
  have e16 : f 17 = true → f 16 = true ∧ f 1 = true ∧ f 13 = true:=fun h=>by have:=hcl 17 _ rfl h;simp [Region.binds] at this;obtain ⟨a,b,c,rest⟩:=this;exact ⟨a,c,by simp [rest]⟩
  have m1 : ∀ d,mentL d (List.take p (List.map iA O)) = false:=fun d=>by rw [← List.map_take];exact ment_ints _ _
  have m2 : ∀ d,mentL d (List.drop p (List.map iA O)) = false:=fun d=>by rw [← List.map_drop];exact ment_ints _ _
  have m3 : List.take O.length (List.map iA O) = List.map iA O:=List.take_of_length_le (by simp)
  have m4 : p + 1 + (O.length - p) = O.length + 1:=by omega
  have m5 : List.take (p + 1) (List.take p (List.map iA O) ++ [iA k]) = List.take p (List.map iA O) ++ [iA k]:=List.take_of_length_le (by simp;omega)
  clear hcl h
  iterate 18 (rcases n with _|n;rotate_left)
  ·simp at hn
  all_goals (simp only [List.getElem?_cons_succ,List.getElem?_cons_zero,Option.some.injEq] at hn;subst hn)
  all_goals simp [Region.binds] at hdep
  all_goals clear hn17
  all_goals (rcases h4 : f 4 <;> rcases h0 : f 0 <;> rcases h10 : f 11)
  all_goals try (exfalso;revert hdep hnot e4 e11;simp [h0,h10,h4];done)
  all_goals clear e4
  all_goals (try simp [h0,h10,h4,hnot,hdep] at e11)
  all_goals (try simp [*] at e15)
  all_goals (try simp [*] at e16)
  all_goals (simp [*,mit,List.take_take];(repeat' (first|with_reducible refine And.intro ?_ ?_|omega));refine hK2.h _ ?_;simp [*,List.take_take])
 ·intro f hf
  have h0:=hf 0 (by simp)
  have h4:=hf 4 (by simp)
  have h11:=hf 12 (by simp)
  have h15:=hf 16 (by simp)
  have h16:=hf 17 (by simp)
  refine h.h _ ?_
  simp [h0,h4,h11,h15,h16]
def zN : Value:=.slice none 0 0
def zI : Value:=.int .i64 0
structure Ins (L : List En) (G : Nat → List Int) : Prop where
 zero : G 0 = []
 len : ∀ i,i ≤ L.length → (G i).length = i
 sort : ∀ i,(G i).Pairwise (· ≤ ·)
 step : ∀ i (h : i < L.length) p,p ≤ i → (∀ j (h' : j < (G i).length),j < p → (G i)[j] ≤ L[i].t0) → (∀ j (h' : j < (G i).length),p ≤ j → L[i].t0 ≤ (G i)[j]) → G (i + 1) = (G i).take p ++ L[i].t0 :: (G i).drop p
set_option maxHeartbeats 4000000 in
theorem walk (l : List It) (mo : Int) (L : List En) (G : Nat → List Int) (W : Nat → List Int) (S Z : List Int) (hmo : mo ≤ 9223372036854775807) (hL : L.length ≤ 200) (hSl : S.length ≤ 200) (hG : Ins L G) (hS : G L.length = S)
 (h1 : Hld (PSpec Try.prog 18 [.sl 7 (l.map encI)] (.sl 7 (L.map encE)))) (hsp : Hld (PSpec Try.prog 34 [.sl 7 (L.map encE),iA mo] (.sl 1 (Z.map iA)))) (hsm : Hld (PSpec Try.prog 22 [.sl 1 (Z.map iA),.sl 1 (Z.map iA)] (bA true)))
 (hW0 : W 0 = []) (hW1 : ∀ k,k < 2 → W k = []) (hWl : ∀ k,(W k).length ≤ k) (hWn : ¬ mo < 1 → W S.length = Z) (hZ : mo < 1 → Z = [])
 (hWs : ∀ (m k : Nat) (_ : mo = m) (h : k < S.length) (h0 : 0 < S.length),W (k + 1) = if k % m = 0 ∧ S[0] < S[k] ∧ (∀ y,(W k).getLast? = some y → y < S[k]) then W k ++ [S[k]] else W k)
 (hbt : ∀ {E : Env} {s : AState} {d : Option Tmp} {K : AState → Prop},(∀ tr,K (s.put d (.tup [.ep (encT tr),iA 0]))) → ACall Try.prog E 20 [.sl 7 (L.map encE),.sl 1 (Z.map iA)] s d K) :
 PSpec Try.prog 10 [.sl 7 (l.map encI),iA mo] (bA true):=by
 have hk:=Hld.mk s_known
 replace hG:=Hld.mk hG
 replace hW1:=Hld.mk hW1
 replace hWs:=Hld.mk hWs
 replace hWl:=Hld.mk hWl
 replace hWn:=Hld.mk hWn
 replace hZ:=Hld.mk hZ
 refine PSpec_of Try.func10 rfl rfl (Nat.le_of_ble_eq_true rfl) (Nat.le_of_ble_eq_true rfl) ?_
 intro E hE
 refine AW_seqt ⟨[(1,iA mo),(0,.sl 7 (l.map encI))],[]⟩ ?_ (by
  intro K hK
  repeat' (first
   |(with_reducible first|refine uK ?_|refine uX ?_|refine AW_seqk fun K hK=>?_|refine AW_block ?_)|((with_reducible first|refine rS hE ?_|refine RK_nilk ?_|refine RK_stepk fun K' hK'=>?_|refine AW_if fun X Y hX hY=>?_|refine AW_ret ?_|refine AW_skip ?_|refine AW_exit ?_);simp [*])|with_reducible refine rL hE ?_|with_reducible refine And.intro ?_ ?_|omega|(refine imp1 fun h=>?_))
  all_goals simp)
 refine AW_seqt ⟨[(1,iA mo),(0,.sl 7 (l.map encI))],[]⟩ ?_ (by
  intro K hK
  repeat' (first
   |(with_reducible first|refine uK ?_|refine uX ?_|refine AW_seqk fun K hK=>?_|refine AW_block ?_)|((with_reducible first|refine rS hE ?_|refine RK_nilk ?_|refine RK_stepk fun K' hK'=>?_|refine AW_if fun X Y hX hY=>?_|refine AW_ret ?_|refine AW_skip ?_|refine AW_exit ?_);simp [*])|with_reducible refine rL hE ?_|(refine acall_same (hk.out) ?_ ?_ ?_;(iterate 2 (focus (simp [*] <;> fail)));simp [*])|(refine acall_view (hk.out) ?_ ?_ ?_;(iterate 2 (focus (simp [*] <;> fail)));simp [*])|with_reducible refine And.intro ?_ ?_|omega|(refine imp1 fun h=>?_))
  all_goals simp)
 refine AW_seqt ⟨[(5,.sl 7 (L.map encE)),(1,iA mo)],[]⟩ ?_ (by
  intro K hK
  repeat' (first
   |(with_reducible first|refine uK ?_|refine uX ?_|refine AW_seqk fun K hK=>?_|refine AW_block ?_)|((with_reducible first|refine rS hE ?_|refine RK_nilk ?_|refine RK_stepk fun K' hK'=>?_|refine AW_if fun X Y hX hY=>?_|refine AW_ret ?_|refine AW_skip ?_|refine AW_exit ?_);simp [*])|with_reducible refine rL hE ?_|(refine acall_same (h1.out) ?_ ?_ ?_;(iterate 2 (focus (simp [*] <;> fail)));simp [*])|(refine acall_view (h1.out) ?_ ?_ ?_;(iterate 2 (focus (simp [*] <;> fail)));simp [*])|with_reducible refine And.intro ?_ ?_|omega|(refine imp1 fun h=>?_))
  all_goals simp)
 refine AW_seqt ⟨[(7,.v (.slice none 0 0)),(6,.v (.slice none 0 0)),(5,.sl 7 (L.map encE)),(1,iA mo)],[]⟩ ?_ (by
  intro K hK
  repeat' (first
   |(with_reducible first|refine uK ?_|refine uX ?_|refine AW_seqk fun K hK=>?_|refine AW_block ?_)|((with_reducible first|refine rS hE ?_|refine RK_nilk ?_|refine RK_stepk fun K' hK'=>?_|refine AW_if fun X Y hX hY=>?_|refine AW_ret ?_|refine AW_skip ?_|refine AW_exit ?_);simp [*])|with_reducible refine rL hE ?_|with_reducible refine And.intro ?_ ?_|omega|(refine imp1 fun h=>?_))
  all_goals simp)
 refine AW_sle (s:=⟨[(7,.v (.slice none 0 0)),(6,.v (.slice none 0 0)),(5,.sl 7 (L.map encE)),(1,iA mo)],[]⟩) (t:=⟨[(7,.v (.slice none 0 0)),(6,.sl 1 ((G 0).map iA)),(5,.sl 7 (L.map encE)),(1,iA mo)],[]⟩) ?_ (fun j c' h=>h) ?_
 ·intro i
  have h0:=hG.out.zero
  simp only [AState.slot,lk]
  (repeat' split) <;> first|exact SLe_refl _|(rw [h0];exact SLe_nil _ _)
 refine AW_seqt ⟨[(7,.v (.slice none 0 0)),(6,.sl 1 (S.map iA)),(5,.sl 7 (L.map encE)),(1,iA mo)],[]⟩ ?_ (by
  intro K hK
  repeat' (first
   |(with_reducible first|refine uK ?_|refine uX ?_|refine AW_seqk fun K hK=>?_|refine AW_block ?_)|((with_reducible first|refine rS hE ?_|refine RK_nilk ?_|refine RK_stepk fun K' hK'=>?_|refine AW_if fun X Y hX hY=>?_|refine AW_ret ?_|refine AW_skip ?_|refine AW_exit ?_);simp [*])|with_reducible refine rL hE ?_|with_reducible refine And.intro ?_ ?_|omega|(refine imp1 fun h=>?_))
  refine AW_loopk (G:=Nat) (fun i=>⟨[(8,iA i),(7,.v (.slice none 0 0)),(6,.sl 1 ((G i).map iA)),(5,.sl 7 (L.map encE)),(1,iA mo)],[]⟩) (fun i=>i ≤ L.length) (fun i=>L.length - i) 0 (Nat.zero_le _) (by simp) ?_
  intro i hi K hK
  by_cases hlt : i < L.length
  ·have hltI : (i : Int) < L.length:=by omega
   have hst:=hG.out.step i hlt
   have hln:=hG.out.len i hi
   have hso:=hG.out.sort i
   obtain ⟨O,hO⟩ : ∃ O,G i = O:=⟨_,rfl⟩
   obtain ⟨M,hM⟩ : ∃ M,G (i + 1) = M:=⟨_,rfl⟩
   obtain ⟨x,hx⟩ : ∃ x,L[i].t0 = x:=⟨_,rfl⟩
   have hst' : Hld (∀ p,p ≤ i → (∀ j (h' : j < O.length),j < p → O[j] ≤ x) → (∀ j (h' : j < O.length),p ≤ j → x ≤ O[j]) → M = O.take p ++ x :: O.drop p):=⟨by subst hO hM hx;exact hst⟩
   replace hst:=hst'
   clear hst'
   rw [hO] at hln hso
   refine AW_le (t:=⟨[(8,iA i),(7,.v (.slice none 0 0)),(6,.sl 1 (O.map iA)),(5,.sl 7 (L.map encE)),(1,iA mo)],[]⟩) (by simp [hO]) ?_
   clear hO
   replace hso:=Hld.mk hso
   refine AW_seqt ⟨[(8,iA i),(7,.v (.slice none 0 0)),(6,.sl 1 (O.map iA)),(5,.sl 7 (L.map encE)),(1,iA mo)],[]⟩ ?_ (by
    intro K hK
    repeat' (first
     |(with_reducible first|refine uK ?_|refine uX ?_|refine AW_seqk fun K hK=>?_|refine AW_block ?_)|((with_reducible first|refine rS hE ?_|refine RK_nilk ?_|refine RK_stepk fun K' hK'=>?_|refine AW_if fun X Y hX hY=>?_|refine AW_ret ?_|refine AW_skip ?_|refine AW_exit ?_);simp [*])|with_reducible refine rL hE ?_|with_reducible refine And.intro ?_ ?_|omega|(refine imp1 fun h=>?_))
    all_goals simp)
   refine AW_seqt ⟨[(8,iA i),(7,.v (.slice none 0 0)),(6,.own 44 1 0 M.length),(5,.sl 7 (L.map encE)),(1,iA mo)],[(44,.arr 3 1 (M.map iA))]⟩ ?_ (by
    intro K hK
    refine AW_block ?_
    refine AW_seqt ⟨[(9,iA O.length),(8,iA i),(7,.v (.slice none 0 0)),(6,.sl 1 (O.map iA)),(5,.sl 7 (L.map encE)),(1,iA mo)],[]⟩ ?_ (by
     intro K hK
     repeat' (first
      |(with_reducible first|refine uK ?_|refine uX ?_|refine AW_seqk fun K hK=>?_|refine AW_block ?_)|((with_reducible first|refine rS hE ?_|refine RK_nilk ?_|refine RK_stepk fun K' hK'=>?_|refine AW_if fun X Y hX hY=>?_|refine AW_ret ?_|refine AW_skip ?_|refine AW_exit ?_);simp [*])|with_reducible refine rL hE ?_|with_reducible refine And.intro ?_ ?_|omega|(refine imp1 fun h=>?_))
     all_goals simp [hln])
    refine AW_seqE (G:=Nat) (fun p=>⟨[(9,iA p),(8,iA i),(7,.v (.slice none 0 0)),(6,.sl 1 (O.map iA)),(5,.sl 7 (L.map encE)),(1,iA mo)],[]⟩) (fun p=>p ≤ O.length ∧ (∀ j (h' : j < O.length),j < p → O[j] ≤ x) ∧ (∀ j (h' : j < O.length),p ≤ j → x ≤ O[j])) ?_ ?_
    ·rintro p ⟨hp1,hp2,hp3⟩
     have hMe:=hst.out p (by omega) hp2 hp3
     clear hst hso
     refine reg11 hE hlt hx hp1 (by omega) fun s' hs'=>hK.h s' ?_
     have hMl : M.length = O.length + 1:=by rw [hMe];simp;omega
     have hMm:=congrArg (List.map iA) hMe
     simpa [hMl,hMm] using hs'
    ·intro K3 hK3
     refine AW_block ?_
     refine AW_loopk (G:=Nat) (fun p=>⟨[(9,iA p),(8,iA i),(7,.v (.slice none 0 0)),(6,.sl 1 (O.map iA)),(5,.sl 7 (L.map encE)),(1,iA mo)],[]⟩) (fun p=>p ≤ O.length ∧ Hld (∀ j (h : j < O.length),p ≤ j → x ≤ O[j])) (fun p=>p) O.length ⟨Nat.le_refl _,⟨fun j h hj=>by omega⟩⟩ (by simp) ?_
     rintro p ⟨hp1,hp2⟩ K hK
     rcases p with _|q
     ·repeat' (first
       |(with_reducible first|refine useK (by assumption) ?_|refine useK2 (by assumption) ?_|refine useX (by assumption) ?_|refine AW_seqk fun K hK=>?_|refine AW_block ?_)|(with_reducible refine AW_regionS rfl (by rw [hE];decide) ?_;simp [*])|with_reducible refine AW_region (by rw [hE];decide) ?_|((with_reducible show RK _ _ _ _ _ _);first|(refine RK_nilk ?_;simp [*])|(refine RK_stepk fun K' hK'=>?_;simp [*]))|with_reducible refine AW_drawq mixed (by rw [hE];decide) (by simp [newOK]) ?_|((with_reducible show RKQ _ _ _ _ _ _);first|refine RKQ_nilk ⟨by decide,?_⟩|(refine RKQ_stepk fun K' hK'=>?_;simp [*]))|((with_reducible first|refine AW_if fun X Y hX hY=>?_|refine AW_ret ?_|refine AW_skip ?_|refine AW_exit ?_);simp [*])|with_reducible refine And.intro ?_ ?_|omega|(refine imp1 fun h=>?_))
      exact ⟨0,⟨Nat.zero_le _,fun j h hj=>by omega,hp2.out⟩,by simp⟩
     ·have hql : q < O.length:=by omega
      obtain ⟨v,hv⟩ : ∃ v,O[q] = v:=⟨_,rfl⟩
      have hvq : O[q]? = some v:=by rw [List.getElem?_eq_getElem hql,hv]
      have hqI : ((q + 1 : Nat) : Int) - 1 = q:=by omega
      have hqp : (0 : Int) < ((q + 1 : Nat) : Int):=by omega
      by_cases hvx : x < v
      ·have hp2' : Hld (∀ j (h : j < O.length),q ≤ j → x ≤ O[j]):=⟨fun j h hj=>by
        by_cases e : j = q
        ·subst e;rw [hv];omega
        ·exact hp2.out j h (by omega)⟩
       repeat' (first
        |(with_reducible first|refine useK (by assumption) ?_|refine useK2 (by assumption) ?_|refine useX (by assumption) ?_|refine AW_seqk fun K hK=>?_|refine AW_block ?_)|(with_reducible refine AW_regionS rfl (by rw [hE];decide) ?_;simp [*])|with_reducible refine AW_region (by rw [hE];decide) ?_|((with_reducible show RK _ _ _ _ _ _);first|(refine RK_nilk ?_;simp [*])|(refine RK_stepk fun K' hK'=>?_;simp [*]))|with_reducible refine AW_drawq mixed (by rw [hE];decide) (by simp [newOK]) ?_|((with_reducible show RKQ _ _ _ _ _ _);first|refine RKQ_nilk ⟨by decide,?_⟩|(refine RKQ_stepk fun K' hK'=>?_;simp [*]))|((with_reducible first|refine AW_if fun X Y hX hY=>?_|refine AW_ret ?_|refine AW_skip ?_|refine AW_exit ?_);simp [*])|with_reducible refine And.intro ?_ ?_|omega|(refine imp1 fun h=>?_))
       exact ⟨q,⟨by omega,hp2'⟩,by omega,by simp⟩
      ·have hp3 : Hld (∀ j (h : j < O.length),j < q + 1 → O[j] ≤ x):=⟨fun j h hj=>by
        by_cases e : j = q
        ·subst e;rw [hv];omega
        ·have:=List.pairwise_iff_getElem.1 hso.out j q h hql (by omega)
         omega⟩
       repeat' (first
        |(with_reducible first|refine useK (by assumption) ?_|refine useK2 (by assumption) ?_|refine useX (by assumption) ?_|refine AW_seqk fun K hK=>?_|refine AW_block ?_)|(with_reducible refine AW_regionS rfl (by rw [hE];decide) ?_;simp [*])|with_reducible refine AW_region (by rw [hE];decide) ?_|((with_reducible show RK _ _ _ _ _ _);first|(refine RK_nilk ?_;simp [*])|(refine RK_stepk fun K' hK'=>?_;simp [*]))|with_reducible refine AW_drawq mixed (by rw [hE];decide) (by simp [newOK]) ?_|((with_reducible show RKQ _ _ _ _ _ _);first|refine RKQ_nilk ⟨by decide,?_⟩|(refine RKQ_stepk fun K' hK'=>?_;simp [*]))|((with_reducible first|refine AW_if fun X Y hX hY=>?_|refine AW_ret ?_|refine AW_skip ?_|refine AW_exit ?_);simp [*])|with_reducible refine And.intro ?_ ?_|omega|(refine imp1 fun h=>?_))
       exact ⟨q + 1,⟨hp1,hp3.out,hp2.out⟩,by simp⟩)
   refine AW_freeze 44 (cb:=.arr 3 1 (M.map iA)) (t:=⟨[(8,iA i),(7,.v (.slice none 0 0)),(6,.sl 1 (M.map iA)),(5,.sl 7 (L.map encE)),(1,iA mo)],[]⟩) (by simp) (by simp [List.take_of_length_le]) (by simp) ?_
   repeat' (first
    |(with_reducible first|refine uK ?_|refine uX ?_|refine AW_seqk fun K hK=>?_|refine AW_block ?_)|((with_reducible first|refine rS hE ?_|refine RK_nilk ?_|refine RK_stepk fun K' hK'=>?_|refine AW_if fun X Y hX hY=>?_|refine AW_ret ?_|refine AW_skip ?_|refine AW_exit ?_);simp [*])|with_reducible refine rL hE ?_|with_reducible refine And.intro ?_ ?_|omega|(refine imp1 fun h=>?_))
   exact ⟨i + 1,by omega,by omega,by simp [hM]⟩
  ·have hie : i = L.length:=by omega
   subst hie
   repeat' (first
    |(with_reducible first|refine uK ?_|refine uX ?_|refine AW_seqk fun K hK=>?_|refine AW_block ?_)|((with_reducible first|refine rS hE ?_|refine RK_nilk ?_|refine RK_stepk fun K' hK'=>?_|refine AW_if fun X Y hX hY=>?_|refine AW_ret ?_|refine AW_skip ?_|refine AW_exit ?_);simp [*])|with_reducible refine rL hE ?_|with_reducible refine And.intro ?_ ?_|omega|(refine imp1 fun h=>?_))
   all_goals simp)
 clear hG hS h1
 refine AW_mkrow 7 109 3 1 (by simp) (by simp) (by simp) (by omega) ?_
 refine AW_seqt ⟨[(7,.own 109 1 0 Z.length),(6,.sl 1 (S.map iA)),(5,.sl 7 (L.map encE)),(1,iA mo)],[(109,.arr 3 1 (Z.map iA))]⟩ ?_ (by
  intro K hK
  have hw1:=hW1.out 1 (by omega)
  by_cases hm1 : mo < 1
  ·have hm2 : ¬ 1 ≤ mo:=by omega
   have hz:=hZ.out hm1
   subst hz
   clear hWs hWl hWn hZ hW1 hsp hsm
   repeat' (first
    |(with_reducible first|refine uK ?_|refine uX ?_|refine AW_seqk fun K hK=>?_|refine AW_block ?_)|((with_reducible first|refine rS hE ?_|refine RK_nilk ?_|refine RK_stepk fun K' hK'=>?_|refine AW_if fun X Y hX hY=>?_|refine AW_ret ?_|refine AW_skip ?_|refine AW_exit ?_);simp [*])|with_reducible refine rL hE ?_|with_reducible refine And.intro ?_ ?_|omega|(refine imp1 fun h=>?_))
   refine AW_loopk (G:=Unit) (fun _=>⟨[(10,iA 1),(7,.own 109 1 0 0),(6,.sl 1 (S.map iA)),(5,.sl 7 (L.map encE)),(1,iA mo)],[(109,.arr 3 1 [])]⟩) (fun _=>True) (fun _=>0) () trivial (by simp) ?_
   intro _ _ K hK
   by_cases hlt : (1 : Int) < S.length
   ·repeat' (first
     |(with_reducible first|refine uK ?_|refine uX ?_|refine AW_seqk fun K hK=>?_|refine AW_block ?_)|((with_reducible first|refine rS hE ?_|refine RK_nilk ?_|refine RK_stepk fun K' hK'=>?_|refine AW_if fun X Y hX hY=>?_|refine AW_ret ?_|refine AW_skip ?_|refine AW_exit ?_);simp [*])|with_reducible refine rL hE ?_|with_reducible refine And.intro ?_ ?_|omega|(refine imp1 fun h=>?_))
    all_goals simp
   ·repeat' (first
     |(with_reducible first|refine uK ?_|refine uX ?_|refine AW_seqk fun K hK=>?_|refine AW_block ?_)|((with_reducible first|refine rS hE ?_|refine RK_nilk ?_|refine RK_stepk fun K' hK'=>?_|refine AW_if fun X Y hX hY=>?_|refine AW_ret ?_|refine AW_skip ?_|refine AW_exit ?_);simp [*])|with_reducible refine rL hE ?_|with_reducible refine And.intro ?_ ?_|omega|(refine imp1 fun h=>?_))
    all_goals simp
  ·obtain ⟨m,rfl⟩ : ∃ m : Nat,mo = m:=⟨mo.toNat,by omega⟩
   have hm2 : (1 : Int) ≤ m:=by omega
   have hm3 : ¬ (m : Int) = 0:=by omega
   have hm4 : ¬ m = 0:=by omega
   have hwn:=Hld.mk (hWn.out hm1)
   clear hWn hZ hsp hsm
   repeat' (first
    |(with_reducible first|refine uK ?_|refine uX ?_|refine AW_seqk fun K hK=>?_|refine AW_block ?_)|((with_reducible first|refine rS hE ?_|refine RK_nilk ?_|refine RK_stepk fun K' hK'=>?_|refine AW_if fun X Y hX hY=>?_|refine AW_ret ?_|refine AW_skip ?_|refine AW_exit ?_);simp [*])|with_reducible refine rL hE ?_|with_reducible refine And.intro ?_ ?_|omega|(refine imp1 fun h=>?_))
   refine AW_loopk (G:=Nat) (fun k=>⟨[(10,iA k),(7,.own 109 1 0 (W k).length),(6,.sl 1 (S.map iA)),(5,.sl 7 (L.map encE)),(1,iA m)],[(109,.arr 3 1 ((W k).map iA))]⟩) (fun k=>1 ≤ k ∧ (k ≤ S.length ∨ k = 1)) (fun k=>S.length - k) 1 ⟨Nat.le_refl _,.inr rfl⟩ (by simp [hw1]) ?_
   rintro k ⟨hk1,hk2⟩ K hK
   by_cases hlt : k < S.length
   ·have hltI : (k : Int) < S.length:=by omega
    have h0S : 0 < S.length:=by omega
    have hws:=hWs.out m k rfl hlt h0S
    obtain ⟨x,hx⟩ : ∃ x,S[k] = x:=⟨_,rfl⟩
    obtain ⟨y,hy⟩ : ∃ y,S[0] = y:=⟨_,rfl⟩
    have hxq : S[k]? = some x:=by rw [List.getElem?_eq_getElem hlt,hx]
    have hyq : S[0]? = some y:=by rw [List.getElem?_eq_getElem h0S,hy]
    have hwl:=hWl.out k
    obtain ⟨D,hD⟩ : ∃ D,W k = D:=⟨_,rfl⟩
    obtain ⟨D2,hD2⟩ : ∃ D2,W (k + 1) = D2:=⟨_,rfl⟩
    rw [hD,hD2,hx,hy] at hws
    rw [hD] at hwl
    have hDt : (D.map iA).take D.length = D.map iA:=List.take_of_length_le (by simp)
    have htm : (k : Int).tmod (m : Int) = ((k % m : Nat) : Int):=by
     rw [Int.tmod_eq_emod_of_nonneg (by omega)]
     rfl
    refine AW_le (t:=⟨[(10,iA k),(7,.own 109 1 0 D.length),(6,.sl 1 (S.map iA)),(5,.sl 7 (L.map encE)),(1,iA m)],[(109,.arr 3 1 (D.map iA))]⟩) (by simp [hD]) ?_
    clear hD
    refine AW_seqt ⟨[(10,iA k),(7,.own 109 1 0 D.length),(6,.sl 1 (S.map iA)),(5,.sl 7 (L.map encE)),(1,iA m)],[(109,.arr 3 1 (D.map iA))]⟩ ?_ (by
     intro K hK
     clear hws
     repeat' (first
      |(with_reducible first|refine uK ?_|refine uX ?_|refine AW_seqk fun K hK=>?_|refine AW_block ?_)|((with_reducible first|refine rS hE ?_|refine RK_nilk ?_|refine RK_stepk fun K' hK'=>?_|refine AW_if fun X Y hX hY=>?_|refine AW_ret ?_|refine AW_skip ?_|refine AW_exit ?_);simp [*])|with_reducible refine rL hE ?_|with_reducible refine And.intro ?_ ?_|omega|(refine imp1 fun h=>?_))
     all_goals simp)
    refine AW_seqt ⟨[(10,iA k),(7,.own 109 1 0 D2.length),(6,.sl 1 (S.map iA)),(5,.sl 7 (L.map encE)),(1,iA m)],[(109,.arr 3 1 (D2.map iA))]⟩ ?_ (by
     intro K hK
     refine AW_block ?_
     by_cases hmod : k % m = 0
     ·have htm0 : (k : Int).tmod (m : Int) = 0:=by rw [htm,hmod];rfl
      by_cases hyx : y < x
      ·rcases hDe : D.getLast? with _|z
       ·have hD0 : D = []:=by simpa using hDe
        subst hD0
        rw [if_pos ⟨hmod,hyx,by simp⟩] at hws
        replace hws:=Hld.mk hws
        clear hDe hDt htm
        repeat' (first
         |(with_reducible first|refine useK (by assumption) ?_|refine useK2 (by assumption) ?_|refine useX (by assumption) ?_|refine AW_seqk fun K hK=>?_|refine AW_block ?_)|(with_reducible refine AW_regionS rfl (by rw [hE];decide) ?_;simp [*])|with_reducible refine AW_region (by rw [hE];decide) ?_|((with_reducible show RK _ _ _ _ _ _);first|(refine RK_nilk ?_;simp [*])|(refine RK_stepk fun K' hK'=>?_;simp [*]))|with_reducible refine AW_drawq mixed (by rw [hE];decide) (by simp [newOK]) ?_|((with_reducible show RKQ _ _ _ _ _ _);first|refine RKQ_nilk ⟨by decide,?_⟩|(refine RKQ_stepk fun K' hK'=>?_;simp [*]))|((with_reducible first|refine AW_if fun X Y hX hY=>?_|refine AW_ret ?_|refine AW_skip ?_|refine AW_exit ?_);simp [*])|with_reducible refine And.intro ?_ ?_|omega|(refine imp1 fun h=>?_))
        all_goals simp [hws.out]
       ·have hDne : D ≠ []:=fun e=>by simp [e] at hDe
        have hDl : 0 < D.length:=List.length_pos_iff.2 hDne
        obtain ⟨n,hn⟩ : ∃ n,D.length = n + 1:=⟨D.length - 1,by omega⟩
        have hzq : D[n]? = some z:=by rw [← hDe,List.getLast?_eq_getElem?,hn];rfl
        have hzn : D[n]'(by omega) = z:=(List.getElem?_eq_some_iff.1 hzq).2
        have hDn0 : ¬ D.length = 0:=by omega
        have hnI : ((n + 1 : Nat) : Int) - 1 = n:=by omega
        by_cases hzx : z < x
        ·rw [if_pos ⟨hmod,hyx,fun w hw=>by rw [hDe] at hw;injection hw with hw;omega⟩] at hws
         replace hws:=Hld.mk hws
         clear hDe htm
         have hDt2 : List.take (n + 1) (List.map iA D) = List.map iA D:=by rw [← hn];exact hDt
         repeat' (first
          |(with_reducible first|refine useK (by assumption) ?_|refine useK2 (by assumption) ?_|refine useX (by assumption) ?_|refine AW_seqk fun K hK=>?_|refine AW_block ?_)|(with_reducible refine AW_regionS rfl (by rw [hE];decide) ?_;simp [*])|with_reducible refine AW_region (by rw [hE];decide) ?_|((with_reducible show RK _ _ _ _ _ _);first|(refine RK_nilk ?_;simp [*])|(refine RK_stepk fun K' hK'=>?_;simp [*]))|with_reducible refine AW_drawq mixed (by rw [hE];decide) (by simp [newOK]) ?_|((with_reducible show RKQ _ _ _ _ _ _);first|refine RKQ_nilk ⟨by decide,?_⟩|(refine RKQ_stepk fun K' hK'=>?_;simp [*]))|((with_reducible first|refine AW_if fun X Y hX hY=>?_|refine AW_ret ?_|refine AW_skip ?_|refine AW_exit ?_);simp [*])|with_reducible refine And.intro ?_ ?_|omega|(refine imp1 fun h=>?_))
         all_goals simp [hws.out,hn,hDt2]
        ·rw [if_neg (fun hh=>hzx (hh.2.2 z hDe))] at hws
         replace hws:=Hld.mk hws
         clear hDe htm
         repeat' (first
          |(with_reducible first|refine useK (by assumption) ?_|refine useK2 (by assumption) ?_|refine useX (by assumption) ?_|refine AW_seqk fun K hK=>?_|refine AW_block ?_)|(with_reducible refine AW_regionS rfl (by rw [hE];decide) ?_;simp [*])|with_reducible refine AW_region (by rw [hE];decide) ?_|((with_reducible show RK _ _ _ _ _ _);first|(refine RK_nilk ?_;simp [*])|(refine RK_stepk fun K' hK'=>?_;simp [*]))|with_reducible refine AW_drawq mixed (by rw [hE];decide) (by simp [newOK]) ?_|((with_reducible show RKQ _ _ _ _ _ _);first|refine RKQ_nilk ⟨by decide,?_⟩|(refine RKQ_stepk fun K' hK'=>?_;simp [*]))|((with_reducible first|refine AW_if fun X Y hX hY=>?_|refine AW_ret ?_|refine AW_skip ?_|refine AW_exit ?_);simp [*])|with_reducible refine And.intro ?_ ?_|omega|(refine imp1 fun h=>?_))
         all_goals simp [hws.out,hn]
      ·rw [if_neg (fun hh=>hyx hh.2.1)] at hws
       replace hws:=Hld.mk hws
       clear htm
       repeat' (first
        |(with_reducible first|refine useK (by assumption) ?_|refine useK2 (by assumption) ?_|refine useX (by assumption) ?_|refine AW_seqk fun K hK=>?_|refine AW_block ?_)|(with_reducible refine AW_regionS rfl (by rw [hE];decide) ?_;simp [*])|with_reducible refine AW_region (by rw [hE];decide) ?_|((with_reducible show RK _ _ _ _ _ _);first|(refine RK_nilk ?_;simp [*])|(refine RK_stepk fun K' hK'=>?_;simp [*]))|with_reducible refine AW_drawq mixed (by rw [hE];decide) (by simp [newOK]) ?_|((with_reducible show RKQ _ _ _ _ _ _);first|refine RKQ_nilk ⟨by decide,?_⟩|(refine RKQ_stepk fun K' hK'=>?_;simp [*]))|((with_reducible first|refine AW_if fun X Y hX hY=>?_|refine AW_ret ?_|refine AW_skip ?_|refine AW_exit ?_);simp [*])|with_reducible refine And.intro ?_ ?_|omega|(refine imp1 fun h=>?_))
       all_goals simp [hws.out]
     ·have htm0 : ¬ (k : Int).tmod (m : Int) = 0:=by rw [htm];omega
      rw [if_neg (fun hh=>hmod hh.1)] at hws
      replace hws:=Hld.mk hws
      clear htm
      repeat' (first
       |(with_reducible first|refine useK (by assumption) ?_|refine useK2 (by assumption) ?_|refine useX (by assumption) ?_|refine AW_seqk fun K hK=>?_|refine AW_block ?_)|(with_reducible refine AW_regionS rfl (by rw [hE];decide) ?_;simp [*])|with_reducible refine AW_region (by rw [hE];decide) ?_|((with_reducible show RK _ _ _ _ _ _);first|(refine RK_nilk ?_;simp [*])|(refine RK_stepk fun K' hK'=>?_;simp [*]))|with_reducible refine AW_drawq mixed (by rw [hE];decide) (by simp [newOK]) ?_|((with_reducible show RKQ _ _ _ _ _ _);first|refine RKQ_nilk ⟨by decide,?_⟩|(refine RKQ_stepk fun K' hK'=>?_;simp [*]))|((with_reducible first|refine AW_if fun X Y hX hY=>?_|refine AW_ret ?_|refine AW_skip ?_|refine AW_exit ?_);simp [*])|with_reducible refine And.intro ?_ ?_|omega|(refine imp1 fun h=>?_))
      all_goals simp [hws.out])
    clear hws
    repeat' (first
     |(with_reducible first|refine uK ?_|refine uX ?_|refine AW_seqk fun K hK=>?_|refine AW_block ?_)|((with_reducible first|refine rS hE ?_|refine RK_nilk ?_|refine RK_stepk fun K' hK'=>?_|refine AW_if fun X Y hX hY=>?_|refine AW_ret ?_|refine AW_skip ?_|refine AW_exit ?_);simp [*])|with_reducible refine rL hE ?_|with_reducible refine And.intro ?_ ?_|omega|(refine imp1 fun h=>?_))
    exact ⟨k + 1,⟨by omega,.inl (by omega)⟩,by omega,by simp [hD2]⟩
   ·have hltI : ¬ (k : Int) < S.length:=by omega
    have he : W k = Z:=by
     rcases hk2 with h|h
     ·have : k = S.length:=by omega
      rw [this];exact hwn.out
     ·rw [← hwn.out,hW1.out k (by omega),hW1.out S.length (by omega)]
    rw [he]
    repeat' (first
     |(with_reducible first|refine uK ?_|refine uX ?_|refine AW_seqk fun K hK=>?_|refine AW_block ?_)|((with_reducible first|refine rS hE ?_|refine RK_nilk ?_|refine RK_stepk fun K' hK'=>?_|refine AW_if fun X Y hX hY=>?_|refine AW_ret ?_|refine AW_skip ?_|refine AW_exit ?_);simp [*])|with_reducible refine rL hE ?_|with_reducible refine And.intro ?_ ?_|omega|(refine imp1 fun h=>?_))
    all_goals simp)
 clear hWs hWl hWn hZ hW1
 refine AW_freeze 109 (cb:=.arr 3 1 (Z.map iA)) (t:=⟨[(7,.sl 1 (Z.map iA)),(5,.sl 7 (L.map encE)),(1,iA mo)],[]⟩) (by simp) (by simp [List.take_of_length_le]) (by simp) ?_
 refine AW_seqt ⟨[(11,.sl 1 (Z.map iA)),(7,.sl 1 (Z.map iA)),(5,.sl 7 (L.map encE))],[]⟩ ?_ (by
  intro K hK
  repeat' (first
   |(with_reducible first|refine uK ?_|refine uX ?_|refine AW_seqk fun K hK=>?_|refine AW_block ?_)|((with_reducible first|refine rS hE ?_|refine RK_nilk ?_|refine RK_stepk fun K' hK'=>?_|refine AW_if fun X Y hX hY=>?_|refine AW_ret ?_|refine AW_skip ?_|refine AW_exit ?_);simp [*])|with_reducible refine rL hE ?_|(refine acall_same (hsp.out) ?_ ?_ ?_;(iterate 2 (focus (simp [*] <;> fail)));simp [*])|(refine acall_view (hsp.out) ?_ ?_ ?_;(iterate 2 (focus (simp [*] <;> fail)));simp [*])|with_reducible refine And.intro ?_ ?_|omega|(refine imp1 fun h=>?_))
  all_goals simp)
 refine AW_seqt ⟨[(13,iA 0),(11,.sl 1 (Z.map iA)),(7,.sl 1 (Z.map iA))],[]⟩ ?_ (by
  intro K hK
  repeat' (first
   |(with_reducible first|refine uK ?_|refine uX ?_|refine AW_seqk fun K hK=>?_|refine AW_block ?_)|((with_reducible first|refine rS hE ?_|refine RK_nilk ?_|refine RK_stepk fun K' hK'=>?_|refine AW_if fun X Y hX hY=>?_|refine AW_ret ?_|refine AW_skip ?_|refine AW_exit ?_);simp [*])|with_reducible refine rL hE ?_|with_reducible refine And.intro ?_ ?_|omega|(refine imp1 fun h=>?_))
  refine hbt fun tr=>?_
  simp
  repeat' (first
   |(with_reducible first|refine uK ?_|refine uX ?_|refine AW_seqk fun K hK=>?_|refine AW_block ?_)|((with_reducible first|refine rS hE ?_|refine RK_nilk ?_|refine RK_stepk fun K' hK'=>?_|refine AW_if fun X Y hX hY=>?_|refine AW_ret ?_|refine AW_skip ?_|refine AW_exit ?_);simp [*])|with_reducible refine rL hE ?_|with_reducible refine And.intro ?_ ?_|omega|(refine imp1 fun h=>?_))
  all_goals simp)
 repeat' (first
  |(with_reducible first|refine uK ?_|refine uX ?_|refine AW_seqk fun K hK=>?_|refine AW_block ?_)|((with_reducible first|refine rS hE ?_|refine RK_nilk ?_|refine RK_stepk fun K' hK'=>?_|refine AW_if fun X Y hX hY=>?_|refine AW_ret ?_|refine AW_skip ?_|refine AW_exit ?_);simp [*])|with_reducible refine rL hE ?_|(refine acall_same (hsm.out) ?_ ?_ ?_;(iterate 2 (focus (simp [*] <;> fail)));simp [*])|(refine acall_view (hsm.out) ?_ ?_ ?_;(iterate 2 (focus (simp [*] <;> fail)));simp [*])|with_reducible refine And.intro ?_ ?_|omega|(refine imp1 fun h=>?_))
theorem ins_G (L : List En) : Ins L fun i=>sortZ ((L.take i).map En.t0):=by
 refine ⟨by simp [sortZ],fun i hi=>by rw [sortZ_len];simp;omega,fun i=>sortZ_le _,fun i h p hp h1 h2=>?_⟩
 have e : (L.take (i + 1)).map En.t0 = (L.take i).map En.t0 ++ [L[i].t0]:=by rw [List.take_succ_eq_append_getElem h,List.map_append];rfl
 simp only [e]
 exact sort_ins (by rw [sortZ_len];simp;omega) h1 h2
theorem law (l : List It) (mo : Int) (hl : l.length ≤ maxLen) (hmo : mo ≤ 9223372036854775807) : PSpec Try.prog 10 [.sl 7 (l.map encI),iA mo] (bA true):=by
 have hEl:=ents_len l
 obtain ⟨L,hL⟩ : ∃ L,entS l = L:=⟨_,rfl⟩
 have h1:=s_entries l (by unfold maxLen at hl;omega)
 have hck : ∀ x ∈ L,chkX x.b = 0:=hL ▸ ents_chk l
 rw [hL] at h1 hEl
 clear hL
 have hS : sortZ ((L.take L.length).map En.t0) = t0S L:=by rw [List.take_length];rfl
 have hSl:=t0S_len L
 have hso : (t0S L).Pairwise (· ≤ ·):=sortZ_le _
 have hZe : ¬ mo < 1 → wanS (t0S L) mo.toNat (t0S L).length = splS L mo:=fun h=>by
  rw [wan_raw _ hso _ _ (Nat.le_refl _),splS,if_neg h,hSl]
 have hinc : incB (splS L mo) = true:=by
  by_cases h : mo < 1
  ·simp [splS,h,incB]
  ·rw [← hZe h];exact pw_incB (wanS_lt _ _ _)
 have hZl : (splS L mo).length ≤ 200:=by
  by_cases h : mo < 1
  ·simp [splS,h]
  ·rw [← hZe h]
   have:=wanS_len (t0S L) mo.toNat (t0S L).length
   omega
 have hsm:=s_same (splS L mo) (splS L mo) (by omega) (by omega)
 have hpl : (partsL L (splS L mo)).length ≤ 50000:=by
  have h1:=partsL_len L (splS L mo)
  have h2 : L.length * ((splS L mo).length + 1) ≤ 200 * 201:=Nat.mul_le_mul hEl (by omega)
  omega
 have hm:=m_build L (splS L mo) (by omega) (by omega) (by omega)
 refine walk l mo L (fun i=>sortZ ((L.take i).map En.t0)) (wanS (t0S L) mo.toNat) (t0S L) (splS L mo) hmo hEl (by omega) (ins_G L) hS ⟨h1⟩ ⟨s_splits L mo (by omega) hmo⟩ ⟨by simpa using hsm⟩ rfl (fun k hk=>?_) (wanS_len _ _) hZe (fun h=>by simp [splS,h]) (fun m k hm h h0=>?_) (fun {E s d K} hk=>?_)
 ·rcases k with _|_|k
  ·rfl
  ·rw [wanS,cnd_zero]
   rfl
  ·omega
 ·subst hm
  have e1 : (t0S L).getD k 0 = (t0S L)[k]:=by simp [List.getD_eq_getElem?_getD,List.getElem?_eq_getElem h]
  have e0 : (t0S L).getD 0 0 = (t0S L)[0]:=by simp [List.getD_eq_getElem?_getD,List.getElem?_eq_getElem h0]
  rw [wanS,cnd,e1,e0,Int.toNat_natCast]
  simp only [Bool.and_eq_true,beq_iff_eq,decide_eq_true_eq]
  by_cases c1 : k % m = 0 ∧ (t0S L)[0] < (t0S L)[k]
  ·rw [if_pos c1]
   cases hg : (wanS (t0S L) m k).getLast? with
   |none=>simp [c1]
   |some y=>by_cases hy : y < (t0S L)[k] <;> simp [c1,hy]
  ·rw [if_neg c1,if_neg (fun hh=>c1 ⟨hh.1,hh.2.1⟩)]
 ·refine acall_rel hm (by simp) (fun r h=>h.idf) fun r hr=>?_
  obtain ⟨tr,rfl,ht⟩:=hr.ok (errL_of fun b hb=>by
   obtain ⟨x,hx,rfl⟩:=List.mem_map.1 hb
   exact hck x hx) hinc
  exact hk tr
theorem spec (avs : List AV) (h : ShapeL Try.prog 6 Try.f10.params.toList avs) : PSpec Try.prog 10 avs (.v (.bool true)):=by
 rw [Try.params10] at h
 obtain ⟨c1,r1,rfl,h1,c2,r2,rfl,h2,rfl⟩:=h
 obtain ⟨l,hl,hl2⟩:=avIts h1
 obtain ⟨t,ht,ht2⟩:=avI h2
 rw [hl,ht]
 exact law l t hl2 ht2.2
theorem contract (H : Type) (enc : TypeId × Value → H) (W : World) (base : Nat) (args : Array Value) (ds gs : List (DataW H)) (before : List MemPlace)
 (hval : ∀ (j : Nat) t v,Try.f10.params[j]? = some t → args[j]? = some v → Value.okWide Try.prog W .any base t v)
 (hW : DataW.Whole enc Try.prog Try.f10.params.toList Rows.rtreeSplitsSpec.vars false W args.toList ds gs before) :
 Calls Try.prog 10 args W fun e W'=>∃ v,e = .returned v ∧ Rows.rtreeSplitsSpec.post enc Try.prog Try.f10 false true false false W args v W' :=
 law_contract (m:=6) (tb:=4) spec (by rw [Try.params10];intro t ht;simp at ht;rcases ht with rfl|rfl <;> kernel_rfl) rfl laidK
  (by rw [Try.params10];intro t ht;simp at ht;rcases ht with rfl|rfl <;> exact ⟨by kernel_rfl,by decide +kernel⟩)
  (fun ds hd=>by
    rw [Try.params10] at hd
    match ds,hd with
    |[d1,d2],_=>rfl) (by kernel_rfl) Try.underlying4 hval hW
theorem lifted (os : Os) (started : os.Started) (H : Type) (enc : TypeId × Value → H) :
 ReturnsInHanded {} Try.checked os 10 .any (Rows.rtreeSplitsSpec.pre6 enc Try.prog Try.f10 Rows.rtreeSplitsRow.domain false) (Rows.rtreeSplitsSpec.post enc Try.prog Try.f10 false true false false):=by
 refine returnsInHanded_of_change (C:=Try.checked) ownK started (by kernel_rfl) Try.func10
  (ChangeSpec.witness6 (enc:=enc) (C:=Try.checked) false ⟨#[],#[zN,zI],[]⟩ 8 (by kernel_rfl) (by kernel_rfl) (by kernel_rfl) (by kernel_rfl)) ?_
 intro W base args ds gs before hval hW hcnd _
 exact contract H enc W base args ds gs before hval hW
theorem said : Rows.RtreeSplitsSaid :=
 OpenClaim.holds_of_wide 10 Try.f10 rfl rfl rfl rfl rfl rfl rfl ⟨rfl,rfl,rfl,rfl,rfl⟩ rfl rfl rfl rfl rfl (by kernel_rfl) Try.func10 (by kernel_rfl)
  (of_decide_eq_true (by kernel_rfl)) (by unfold Func.isWrapper;first|(rw [if_pos (by decide +kernel)];kernel_rfl)|(rw [if_neg (by decide +kernel)];exact ⟨rfl,rfl⟩))
  (fun os started H enc _=>lifted os started H enc)
end L7
end Go.Proofs.Ytlkijcflfnnbaaa
