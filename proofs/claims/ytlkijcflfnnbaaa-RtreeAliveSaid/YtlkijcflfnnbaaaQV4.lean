/- RtreeAlive: for any entries, splits and instant the law hands back true -/
import Derived.Test.YtlkijcflfnnbaaaZE
set_option maxRecDepth 100000
set_option linter.unusedSimpArgs false
set_option linter.unusedVariables false
namespace Go.Proofs.Ytlkijcflfnnbaaa
open Go.Am Go.RowKit Go.ChangeShapes Go.WideShapes Go.ChangeAt
namespace L3
def zN : Value:=.slice none 0 0
def zI : Value:=.int .i64 0
abbrev uL (T : List UInt8) : List AV:=T.map fun u=>uA u.toNat
set_option maxHeartbeats 1000000 in
theorem walk0 (l : List It) (T : List UInt8) (t : Int) (U : List Int) (p : Tr → Prop)
 (hbt : ∀ {E : Env} {s : AState} {d : Option Tmp} {K : AState → Prop},(∀ tr,Hld (p tr) → K (s.put d (.tup [.ep (encT tr),iA 0]))) → ACall Try.prog E 20 [.sl 7 (([] : List En).map encE),.sl 1 (U.map iA)] s d K)
 (h1 : Hld (PSpec Try.prog 18 [.sl 7 (l.map encI)] (.sl 7 (([] : List En).map encE)))) (h3 : Hld (PSpec Try.prog 21 [.sl 1 (uL T)] (.sl 1 (U.map iA))))
 (hbx : ∀ tr,p tr → PSpec Try.prog 28 [.ep (encT tr)] (.tup [encX zX,bA false])) (hal : ∀ tr,p tr → PSpec Try.prog 29 [.ep (encT tr),iA t] (.sl 1 [])) :
 PSpec Try.prog 5 [.sl 7 (l.map encI),.sl 1 (uL T),iA t] (bA true):=by
 have hk:=Hld.mk s_known
 refine PSpec_of Try.func5 rfl rfl (Nat.le_of_ble_eq_true rfl) (Nat.le_of_ble_eq_true rfl) ?_
 intro E hE
 refine AW_seqt ⟨[(2,iA t),(1,.sl 1 (uL T)),(0,.sl 7 (l.map encI))],[]⟩ ?_ (by
  intro K hK
  repeat' (first
   |(with_reducible first|refine uK ?_|refine uX ?_|refine jq fun K hK=>?_|refine jb ?_)|((with_reducible first|refine rS hE ?_|refine jn ?_|refine js fun K' hK'=>?_|refine ji fun X Y hX hY=>?_|refine jr ?_|refine jk ?_|refine jx ?_);simp [*])|with_reducible refine rL hE ?_|with_reducible refine And.intro ?_ ?_|omega|(refine imp1 fun h=>?_))
  all_goals simp)
 refine AW_seqt ⟨[(2,iA t),(1,.sl 1 (uL T)),(0,.sl 7 (l.map encI))],[]⟩ ?_ (by
  intro K hK
  repeat' (first
   |(with_reducible first|refine uK ?_|refine uX ?_|refine jq fun K hK=>?_|refine jb ?_)|((with_reducible first|refine rS hE ?_|refine jn ?_|refine js fun K' hK'=>?_|refine ji fun X Y hX hY=>?_|refine jr ?_|refine jk ?_|refine jx ?_);simp [*])|with_reducible refine rL hE ?_|(refine jC (hk.out) ?_ ?_ ?_;(iterate 2 focus (simp [*] <;> fail));simp [*])|with_reducible refine And.intro ?_ ?_|omega|(refine imp1 fun h=>?_))
  all_goals simp)
 refine AW_seqt ⟨[(7,.sl 7 []),(2,iA t),(1,.sl 1 (uL T))],[]⟩ ?_ (by
  intro K hK
  repeat' (first
   |(with_reducible first|refine uK ?_|refine uX ?_|refine jq fun K hK=>?_|refine jb ?_)|((with_reducible first|refine rS hE ?_|refine jn ?_|refine js fun K' hK'=>?_|refine ji fun X Y hX hY=>?_|refine jr ?_|refine jk ?_|refine jx ?_);simp [*])|with_reducible refine rL hE ?_|(refine jC (h1.out) ?_ ?_ ?_;(iterate 2 focus (simp [*] <;> fail));simp [*])|with_reducible refine And.intro ?_ ?_|omega|(refine imp1 fun h=>?_))
  all_goals simp)
 refine AW_seqE (G:=Tr) (fun tr=>⟨[(9,iA 0),(8,.ep (encT tr)),(7,.sl 7 []),(2,iA t)],[]⟩) p ?_ (by
  intro K hK
  repeat' (first
   |(with_reducible first|refine uK ?_|refine uX ?_|refine jq fun K hK=>?_|refine jb ?_)|((with_reducible first|refine rS hE ?_|refine jn ?_|refine js fun K' hK'=>?_|refine ji fun X Y hX hY=>?_|refine jr ?_|refine jk ?_|refine jx ?_);simp [*])|with_reducible refine rL hE ?_|(refine jC (h3.out) ?_ ?_ ?_;(iterate 2 focus (simp [*] <;> fail));simp [*])|with_reducible refine And.intro ?_ ?_|omega|(refine imp1 fun h=>?_))
  refine hbt fun tr htr=>?_
  simp
  repeat' (first
   |(with_reducible first|refine uK ?_|refine uX ?_|refine jq fun K hK=>?_|refine jb ?_)|((with_reducible first|refine rS hE ?_|refine jn ?_|refine js fun K' hK'=>?_|refine ji fun X Y hX hY=>?_|refine jr ?_|refine jk ?_|refine jx ?_);simp [*])|with_reducible refine rL hE ?_|with_reducible refine And.intro ?_ ?_|omega|(refine imp1 fun h=>?_))
  exact ⟨tr,htr.out,by simp⟩)
 intro tr htr
 have g1:=Hld.mk (hbx tr htr)
 have g2:=Hld.mk (hal tr htr)
 clear hbx hal hbt
 refine AW_seqt ⟨[(8,.ep (encT tr)),(7,.sl 7 []),(2,iA t)],[]⟩ ?_ (by
  intro K hK
  repeat' (first
   |(with_reducible first|refine uK ?_|refine uX ?_|refine jq fun K hK=>?_|refine jb ?_)|((with_reducible first|refine rS hE ?_|refine jn ?_|refine js fun K' hK'=>?_|refine ji fun X Y hX hY=>?_|refine jr ?_|refine jk ?_|refine jx ?_);simp [*])|with_reducible refine rL hE ?_|with_reducible refine And.intro ?_ ?_|omega|(refine imp1 fun h=>?_))
  all_goals simp)
 refine AW_seqt ⟨[(11,bA false),(10,.loc 10 0),(8,.ep (encT tr)),(7,.sl 7 []),(2,iA t)],[(10,.box 23 (encX zX))]⟩ ?_ (by
  intro K hK
  repeat' (first
   |(with_reducible first|refine uK ?_|refine uX ?_|refine jq fun K hK=>?_|refine jb ?_)|((with_reducible first|refine rS hE ?_|refine jn ?_|refine js fun K' hK'=>?_|refine ji fun X Y hX hY=>?_|refine jr ?_|refine jk ?_|refine jx ?_);simp [*,encX,zX])|with_reducible refine rL hE ?_|(refine jC (g1.out) ?_ ?_ ?_;(iterate 2 focus (simp [*,encX,zX] <;> fail));simp [*,encX,zX])|with_reducible refine And.intro ?_ ?_|omega|(refine imp1 fun h=>?_))
  all_goals simp [encX,zX])
 repeat' (first
  |(with_reducible first|refine uK ?_|refine uX ?_|refine jq fun K hK=>?_|refine jb ?_)|((with_reducible first|refine rS hE ?_|refine jn ?_|refine js fun K' hK'=>?_|refine ji fun X Y hX hY=>?_|refine jr ?_|refine jk ?_|refine jx ?_);simp [*,encX,zX])|with_reducible refine rL hE ?_|(refine jC (g2.out) ?_ ?_ ?_;(iterate 2 focus (simp [*,encX,zX] <;> fail));simp [*,encX,zX])|with_reducible refine And.intro ?_ ?_|omega|(refine imp1 fun h=>?_))
set_option maxHeartbeats 2000000 in
theorem walk1 (l : List It) (T : List UInt8) (t : Int) (L : List En) (U : List Int) (p : Tr → Prop) (B : Bx) (A : Nat → Bx) (S : List Int) (hne : 0 < L.length) (hL : L.length ≤ 200) (hA0 : ∀ h : 0 < L.length,L[0].b = A 0) (hAs : ∀ i (h : i < L.length),arX (A i) L[i].b = A (i + 1)) (hAn : A L.length = B)
 (hbt : ∀ {E : Env} {s : AState} {d : Option Tmp} {K : AState → Prop},(∀ tr,Hld (p tr) → K (s.put d (.tup [.ep (encT tr),iA 0]))) → ACall Try.prog E 20 [.sl 7 (L.map encE),.sl 1 (U.map iA)] s d K)
 (h1 : Hld (PSpec Try.prog 18 [.sl 7 (l.map encI)] (.sl 7 (L.map encE)))) (h3 : Hld (PSpec Try.prog 21 [.sl 1 (uL T)] (.sl 1 (U.map iA))))
 (hsc : Hld (PSpec Try.prog 24 [.sl 7 (L.map encE),encX (lineX B t)] (.sl 1 (S.map iA)))) (hsm : Hld (PSpec Try.prog 22 [.sl 1 (S.map iA),.sl 1 (S.map iA)] (bA true)))
 (hbx : ∀ tr,p tr → PSpec Try.prog 28 [.ep (encT tr)] (.tup [encX B,bA true])) (hal : ∀ tr,p tr → PSpec Try.prog 29 [.ep (encT tr),iA t] (.sl 1 (S.map iA))) :
 PSpec Try.prog 5 [.sl 7 (l.map encI),.sl 1 (uL T),iA t] (bA true):=by
 have hk:=Hld.mk s_known
 replace hAs:=Hld.mk hAs
 replace hA0:=Hld.mk (hA0 hne)
 refine PSpec_of Try.func5 rfl rfl (Nat.le_of_ble_eq_true rfl) (Nat.le_of_ble_eq_true rfl) ?_
 intro E hE
 refine AW_seqt ⟨[(2,iA t),(1,.sl 1 (uL T)),(0,.sl 7 (l.map encI))],[]⟩ ?_ (by
  intro K hK
  repeat' (first
   |(with_reducible first|refine uK ?_|refine uX ?_|refine jq fun K hK=>?_|refine jb ?_)|((with_reducible first|refine rS hE ?_|refine jn ?_|refine js fun K' hK'=>?_|refine ji fun X Y hX hY=>?_|refine jr ?_|refine jk ?_|refine jx ?_);simp [*])|with_reducible refine rL hE ?_|with_reducible refine And.intro ?_ ?_|omega|(refine imp1 fun h=>?_))
  all_goals simp)
 refine AW_seqt ⟨[(2,iA t),(1,.sl 1 (uL T)),(0,.sl 7 (l.map encI))],[]⟩ ?_ (by
  intro K hK
  repeat' (first
   |(with_reducible first|refine uK ?_|refine uX ?_|refine jq fun K hK=>?_|refine jb ?_)|((with_reducible first|refine rS hE ?_|refine jn ?_|refine js fun K' hK'=>?_|refine ji fun X Y hX hY=>?_|refine jr ?_|refine jk ?_|refine jx ?_);simp [*])|with_reducible refine rL hE ?_|(refine jC (hk.out) ?_ ?_ ?_;(iterate 2 focus (simp [*] <;> fail));simp [*])|with_reducible refine And.intro ?_ ?_|omega|(refine imp1 fun h=>?_))
  all_goals simp)
 refine AW_seqt ⟨[(7,.sl 7 (L.map encE)),(2,iA t),(1,.sl 1 (uL T))],[]⟩ ?_ (by
  intro K hK
  repeat' (first
   |(with_reducible first|refine uK ?_|refine uX ?_|refine jq fun K hK=>?_|refine jb ?_)|((with_reducible first|refine rS hE ?_|refine jn ?_|refine js fun K' hK'=>?_|refine ji fun X Y hX hY=>?_|refine jr ?_|refine jk ?_|refine jx ?_);simp [*])|with_reducible refine rL hE ?_|(refine jC (h1.out) ?_ ?_ ?_;(iterate 2 focus (simp [*] <;> fail));simp [*])|with_reducible refine And.intro ?_ ?_|omega|(refine imp1 fun h=>?_))
  all_goals simp)
 refine AW_seqE (G:=Tr) (fun tr=>⟨[(9,iA 0),(8,.ep (encT tr)),(7,.sl 7 (L.map encE)),(2,iA t)],[]⟩) p ?_ (by
  intro K hK
  repeat' (first
   |(with_reducible first|refine uK ?_|refine uX ?_|refine jq fun K hK=>?_|refine jb ?_)|((with_reducible first|refine rS hE ?_|refine jn ?_|refine js fun K' hK'=>?_|refine ji fun X Y hX hY=>?_|refine jr ?_|refine jk ?_|refine jx ?_);simp [*])|with_reducible refine rL hE ?_|(refine jC (h3.out) ?_ ?_ ?_;(iterate 2 focus (simp [*] <;> fail));simp [*])|with_reducible refine And.intro ?_ ?_|omega|(refine imp1 fun h=>?_))
  refine hbt fun tr htr=>?_
  simp
  repeat' (first
   |(with_reducible first|refine uK ?_|refine uX ?_|refine jq fun K hK=>?_|refine jb ?_)|((with_reducible first|refine rS hE ?_|refine jn ?_|refine js fun K' hK'=>?_|refine ji fun X Y hX hY=>?_|refine jr ?_|refine jk ?_|refine jx ?_);simp [*])|with_reducible refine rL hE ?_|with_reducible refine And.intro ?_ ?_|omega|(refine imp1 fun h=>?_))
  exact ⟨tr,htr.out,by simp⟩)
 intro tr htr
 have g1:=Hld.mk (hbx tr htr)
 have g2:=Hld.mk (hal tr htr)
 clear hbx hal hbt
 refine AW_seqt ⟨[(8,.ep (encT tr)),(7,.sl 7 (L.map encE)),(2,iA t)],[]⟩ ?_ (by
  intro K hK
  repeat' (first
   |(with_reducible first|refine uK ?_|refine uX ?_|refine jq fun K hK=>?_|refine jb ?_)|((with_reducible first|refine rS hE ?_|refine jn ?_|refine js fun K' hK'=>?_|refine ji fun X Y hX hY=>?_|refine jr ?_|refine jk ?_|refine jx ?_);simp [*])|with_reducible refine rL hE ?_|with_reducible refine And.intro ?_ ?_|omega|(refine imp1 fun h=>?_))
  all_goals simp)
 refine AW_seqt ⟨[(11,bA true),(10,.loc 10 0),(8,.ep (encT tr)),(7,.sl 7 (L.map encE)),(2,iA t)],[(10,.box 23 (encX B))]⟩ ?_ (by
  intro K hK
  repeat' (first
   |(with_reducible first|refine uK ?_|refine uX ?_|refine jq fun K hK=>?_|refine jb ?_)|((with_reducible first|refine rS hE ?_|refine jn ?_|refine js fun K' hK'=>?_|refine ji fun X Y hX hY=>?_|refine jr ?_|refine jk ?_|refine jx ?_);simp [*,encX])|with_reducible refine rL hE ?_|(refine jC (g1.out) ?_ ?_ ?_;(iterate 2 focus (simp [*,encX] <;> fail));simp [*,encX])|with_reducible refine And.intro ?_ ?_|omega|(refine imp1 fun h=>?_))
  all_goals simp [encX])
 refine AW_freeze 10 (cb:=.box 23 (encX B)) (t:=⟨[(11,bA true),(10,.ep (encX B)),(8,.ep (encT tr)),(7,.sl 7 (L.map encE)),(2,iA t)],[]⟩) (by simp) (by simp) (by simp) ?_
 refine AW_seqt ⟨[(11,bA true),(10,.ep (encX B)),(8,.ep (encT tr)),(7,.sl 7 (L.map encE)),(2,iA t)],[]⟩ ?_ (by
  intro K hK
  have h0 : ¬ L.length = 0:=by omega
  have h0' : ¬ L = []:=fun e=>by simp [e] at hne
  repeat' (first
   |(with_reducible first|refine uK ?_|refine uX ?_|refine jq fun K hK=>?_|refine jb ?_)|((with_reducible first|refine rS hE ?_|refine jn ?_|refine js fun K' hK'=>?_|refine ji fun X Y hX hY=>?_|refine jr ?_|refine jk ?_|refine jx ?_);simp [*])|with_reducible refine rL hE ?_|with_reducible refine And.intro ?_ ?_|omega|(refine imp1 fun h=>?_))
  all_goals simp)
 refine AW_seqt ⟨[(12,.loc 12 0),(11,bA true),(10,.ep (encX B)),(8,.ep (encT tr)),(7,.sl 7 (L.map encE)),(2,iA t)],[(12,.box 23 (encX (A 0)))]⟩ ?_ (by
  intro K hK
  repeat' (first
   |(with_reducible first|refine uK ?_|refine uX ?_|refine jq fun K hK=>?_|refine jb ?_)|((with_reducible first|refine rS hE ?_|refine jn ?_|refine js fun K' hK'=>?_|refine ji fun X Y hX hY=>?_|refine jr ?_|refine jk ?_|refine jx ?_);simp [*,encX,En.b])|with_reducible refine rL hE ?_|with_reducible refine And.intro ?_ ?_|omega|(refine imp1 fun h=>?_))
  all_goals simp [encX,← hA0.out,En.b])
 clear hA0
 refine AW_seqt ⟨[(12,.loc 12 0),(11,bA true),(10,.ep (encX B)),(8,.ep (encT tr)),(7,.sl 7 (L.map encE)),(2,iA t)],[(12,.box 23 (encX B))]⟩ ?_ (by
  intro K hK
  repeat' (first
   |(with_reducible first|refine uK ?_|refine uX ?_|refine jq fun K hK=>?_|refine jb ?_)|((with_reducible first|refine rS hE ?_|refine jn ?_|refine js fun K' hK'=>?_|refine ji fun X Y hX hY=>?_|refine jr ?_|refine jk ?_|refine jx ?_);simp [*])|with_reducible refine rL hE ?_|with_reducible refine And.intro ?_ ?_|omega|(refine imp1 fun h=>?_))
  refine AW_loopk (G:=Nat) (fun i=>⟨[(13,iA i),(12,.loc 12 0),(11,bA true),(10,.ep (encX B)),(8,.ep (encT tr)),(7,.sl 7 (L.map encE)),(2,iA t)],[(12,.box 23 (encX (A i)))]⟩) (fun i=>i ≤ L.length) (fun i=>L.length - i) 0 (Nat.zero_le _) (by simp) ?_
  intro i hi K hK
  by_cases hlt : i < L.length
  ·have hltI : (i : Int) < L.length:=by omega
   have hs:=hAs.out i hlt
   have har:=s_around2 (A i) L[i].b
   rw [hs] at har
   replace har:=Hld.mk har
   clear hs
   refine AW_seqt ⟨[(13,iA i),(12,.loc 12 0),(11,bA true),(10,.ep (encX B)),(8,.ep (encT tr)),(7,.sl 7 (L.map encE)),(2,iA t)],[(12,.box 23 (encX (A i)))]⟩ ?_ (by
    intro K hK
    repeat' (first
     |(with_reducible first|refine uK ?_|refine uX ?_|refine jq fun K hK=>?_|refine jb ?_)|((with_reducible first|refine rS hE ?_|refine jn ?_|refine js fun K' hK'=>?_|refine ji fun X Y hX hY=>?_|refine jr ?_|refine jk ?_|refine jx ?_);simp [*])|with_reducible refine rL hE ?_|with_reducible refine And.intro ?_ ?_|omega|(refine imp1 fun h=>?_))
    all_goals simp)
   refine AW_seqt ⟨[(13,iA i),(12,.loc 12 0),(11,bA true),(10,.ep (encX B)),(8,.ep (encT tr)),(7,.sl 7 (L.map encE)),(2,iA t)],[(12,.box 23 (encX (A (i + 1))))]⟩ ?_ (by
    intro K hK
    refine AW_block ?_
    refine AW_drawHd ⟨[],[]⟩ mixed (by simp) fun E' hE'=>?_
    have hEn:=hE'.trans hE
    repeat' (first
     |(with_reducible first|refine useK (by assumption) ?_|refine useK3 (by assumption) ?_)|((with_reducible show DHd _ _ _ _ _ _ _);first|(refine DHd_done (by decide +kernel) ?_;try simp only [thenK,inBlk])|(refine dt hEn 0 fun K' hK'=>?_;simp [*,encX,En.b];fail_if_success (with_reducible show False))|(refine dt hEn 1 fun K' hK'=>?_;simp [*,encX,En.b];fail_if_success (with_reducible show False))|(refine dt hEn 2 fun K' hK'=>?_;simp [*,encX,En.b];fail_if_success (with_reducible show False))|(refine dt hEn 3 fun K' hK'=>?_;simp [*,encX,En.b];fail_if_success (with_reducible show False))|(refine dt hEn 4 fun K' hK'=>?_;simp [*,encX,En.b];fail_if_success (with_reducible show False))|(refine dt hEn 5 fun K' hK'=>?_;simp [*,encX,En.b];fail_if_success (with_reducible show False))|(refine dt hEn 6 fun K' hK'=>?_;simp [*,encX,En.b];fail_if_success (with_reducible show False))|(refine dt hEn 7 fun K' hK'=>?_;simp [*,encX,En.b];fail_if_success (with_reducible show False))|(refine dp hEn 0 fun K' hK'=>?_;simp [*,encX,En.b];fail_if_success (with_reducible show False))|(refine dp hEn 1 fun K' hK'=>?_;simp [*,encX,En.b];fail_if_success (with_reducible show False))|(refine dp hEn 2 fun K' hK'=>?_;simp [*,encX,En.b];fail_if_success (with_reducible show False))|(refine dp hEn 3 fun K' hK'=>?_;simp [*,encX,En.b];fail_if_success (with_reducible show False))|(refine dp hEn 4 fun K' hK'=>?_;simp [*,encX,En.b];fail_if_success (with_reducible show False))|(refine dp hEn 5 fun K' hK'=>?_;simp [*,encX,En.b];fail_if_success (with_reducible show False))|(refine dp hEn 6 fun K' hK'=>?_;simp [*,encX,En.b];fail_if_success (with_reducible show False))|(refine dp hEn 7 fun K' hK'=>?_;simp [*,encX,En.b];fail_if_success (with_reducible show False))|refine DHd_any rfl (by decide +kernel) ?_)|exact DHsome_nil|refine DHsome_no (by decide +kernel) ?_|(refine DHsome_yes (by exact rfl) rfl (by rw [hEn];decide) (fun K' hK'=>?_) ?_;simp [*,encX,En.b];fail_if_success (with_reducible show False))|(refine DHsome_yesG (by exact rfl) rfl (by exact rfl) (by rw [hEn];decide) (fun K' hK'=>?_) ?_;simp [*,encX,En.b];fail_if_success (with_reducible show False))|(refine acall_same (har.out) ?_ ?_ ?_;(focus (simp [*,encX,En.b] <;> fail));(focus (simp [*,encX,En.b] <;> fail));simp [*,encX,En.b])|(refine acall_view (har.out) ?_ ?_ ?_;(focus (simp [*,encX,En.b] <;> fail));(focus (simp [*,encX,En.b] <;> fail));simp [*,encX,En.b])|with_reducible refine And.intro ?_ ?_|omega|(with_reducible refine imp1 fun h=>?_))
    all_goals simp [encX])
   repeat' (first
    |(with_reducible first|refine uK ?_|refine uX ?_|refine jq fun K hK=>?_|refine jb ?_)|((with_reducible first|refine rS hE ?_|refine jn ?_|refine js fun K' hK'=>?_|refine ji fun X Y hX hY=>?_|refine jr ?_|refine jk ?_|refine jx ?_);simp [*])|with_reducible refine rL hE ?_|with_reducible refine And.intro ?_ ?_|omega|(refine imp1 fun h=>?_))
   exact ⟨i + 1,by omega,by omega,by simp⟩
  ·have hie : i = L.length:=by omega
   subst hie
   repeat' (first
    |(with_reducible first|refine uK ?_|refine uX ?_|refine jq fun K hK=>?_|refine jb ?_)|((with_reducible first|refine rS hE ?_|refine jn ?_|refine js fun K' hK'=>?_|refine ji fun X Y hX hY=>?_|refine jr ?_|refine jk ?_|refine jx ?_);simp [*])|with_reducible refine rL hE ?_|with_reducible refine And.intro ?_ ?_|omega|(refine imp1 fun h=>?_))
   all_goals simp)
 clear hAs
 refine AW_freeze 12 (cb:=.box 23 (encX B)) (t:=⟨[(12,.ep (encX B)),(11,bA true),(10,.ep (encX B)),(8,.ep (encT tr)),(7,.sl 7 (L.map encE)),(2,iA t)],[]⟩) (by simp) (by simp) (by simp) ?_
 refine AW_seqt ⟨[(14,.loc 14 0),(12,.ep (encX B)),(11,bA true),(10,.ep (encX B)),(8,.ep (encT tr)),(7,.sl 7 (L.map encE)),(2,iA t)],[(14,.box 23 (encX B))]⟩ ?_ (by
  intro K hK
  repeat' (first
   |(with_reducible first|refine uK ?_|refine uX ?_|refine jq fun K hK=>?_|refine jb ?_)|((with_reducible first|refine rS hE ?_|refine jn ?_|refine js fun K' hK'=>?_|refine ji fun X Y hX hY=>?_|refine jr ?_|refine jk ?_|refine jx ?_);simp [*,encX])|with_reducible refine rL hE ?_|with_reducible refine And.intro ?_ ?_|omega|(refine imp1 fun h=>?_))
  all_goals simp [encX])
 refine AW_seqt ⟨[(14,.loc 14 0),(12,.ep (encX B)),(11,bA true),(10,.ep (encX B)),(8,.ep (encT tr)),(7,.sl 7 (L.map encE)),(2,iA t)],[(14,.box 23 (encX (lineX B t)))]⟩ ?_ (by
  intro K hK
  repeat' (first
   |(with_reducible first|refine uK ?_|refine uX ?_|refine jq fun K hK=>?_|refine jb ?_)|((with_reducible first|refine rS hE ?_|refine jn ?_|refine js fun K' hK'=>?_|refine ji fun X Y hX hY=>?_|refine jr ?_|refine jk ?_|refine jx ?_);simp [*,encX,lineX])|with_reducible refine rL hE ?_|with_reducible refine And.intro ?_ ?_|omega|(refine imp1 fun h=>?_))
  all_goals simp [encX,lineX])
 refine AW_freeze 14 (cb:=.box 23 (encX (lineX B t))) (t:=⟨[(14,.ep (encX (lineX B t))),(12,.ep (encX B)),(11,bA true),(10,.ep (encX B)),(8,.ep (encT tr)),(7,.sl 7 (L.map encE)),(2,iA t)],[]⟩) (by simp) (by simp) (by simp) ?_
 repeat' (first
  |(with_reducible first|refine uK ?_|refine uQ ?_|refine uX ?_|refine jq fun K hK=>?_|refine jb ?_)|(with_reducible refine rS hE ?_;simp [*,encX,lineX])|with_reducible refine rL hE ?_|(((with_reducible show RK _ _ _ _ _ _);first|refine jn ?_|refine js fun K' hK'=>?_);simp [*,encX,lineX])|with_reducible refine rD mixed hE ?_|((with_reducible show RKQ _ _ _ _ _ _);first|refine RKQ_nilk ⟨by decide,?_⟩|(refine jv fun K' hK'=>?_;simp [*,encX,lineX]))|((with_reducible first|refine ji fun X Y hX hY=>?_|refine jr ?_|refine jk ?_|refine jx ?_);simp [*,encX,lineX])|((first|refine jC (g2.out) ?_ ?_ ?_|refine jQ (g2.out) ?_ ?_ ?_);(iterate 2 focus (simp [*,encX,lineX] <;> fail));simp [*,encX,lineX])|((first|refine jC (hsc.out) ?_ ?_ ?_|refine jQ (hsc.out) ?_ ?_ ?_);(iterate 2 focus (simp [*,encX,lineX] <;> fail));simp [*,encX,lineX])|((first|refine jC (hsm.out) ?_ ?_ ?_|refine jQ (hsm.out) ?_ ?_ ?_);(iterate 2 focus (simp [*,encX,lineX] <;> fail));simp [*,encX,lineX])|with_reducible refine And.intro ?_ ?_|omega|(refine imp1 fun h=>?_))
theorem srch_out {l : List It} {B : Bx} {t : Int} (h : inL t ≠ true) : srch (entS l) (lineX B t) = []:=by
 refine List.eq_nil_iff_forall_not_mem.2 fun k hk=>?_
 obtain ⟨x,hx,hm,_⟩:=mem_srch.1 hk
 obtain ⟨y,_,rfl⟩:=List.mem_map.1 hx
 rw [meetX_iff] at hm
 have h1:=bxC_in y.c
 have h2 : (enI y).b = bxC y.c:=rfl
 rw [h2] at hm
 simp only [lineX] at hm
 apply h
 simp only [inL,Bool.and_eq_true,decide_eq_true_eq]
 omega
theorem law (l : List It) (T : List UInt8) (t : Int) (hl : l.length ≤ maxLen) (hT : T.length ≤ maxLen) : PSpec Try.prog 5 [.sl 7 (l.map encI),.sl 1 (uL T),iA t] (bA true):=by
 have hEl:=ents_len l
 have hTl:=timesS_len T
 have hpl:=parts_len l T
 have he:=s_entries l (by unfold maxLen at hl;omega)
 have ht:=s_times T (by unfold maxLen at hT;omega)
 by_cases hne : entS l = []
 ·have hN : ∀ tr,TreeB (entS l) (timesS T) tr → tr.nd = []:=fun tr h=>(TreeB.none (hne ▸ h)).1
  refine walk0 l T t (timesS T) (TreeB (entS l) (timesS T)) (fun {E s d K} h=>?_) ⟨?_⟩ ⟨ht⟩ (fun tr h=>?_) (fun tr h=>?_)
  ·have:=acall_bt (E:=E) (s:=s) (d:=d) (K:=K) h
   rwa [hne] at this
  ·rwa [hne] at he
  ·have:=s_box tr
   have hb : boxT tr = zX:=by simp [boxT,hN tr h]
   rw [hb,hN tr h] at this
   exact this
  ·have:=s_alive tr t [] (fun h1 _=>absurd (hN tr h) h1)
   rw [if_neg (fun hh=>hh.1 (hN tr h))] at this
   exact this
 ·have hpos : 0 < (entS l).length:=List.length_pos_iff.2 hne
  have hH : Hull (accB (hdB (entS l)) (entS l)) ((entS l).map En.b):=hull_acc hne
  have hsl : (srch (entS l) (lineX (accB (hdB (entS l)) (entS l)) t)).length ≤ 200:=by have:=srch_len (entS l) (lineX (accB (hdB (entS l)) (entS l)) t);omega
  have hsm : PSpec Try.prog 22 _ _:=s_same (srch (entS l) (lineX (accB (hdB (entS l)) (entS l)) t)) (srch (entS l) (lineX (accB (hdB (entS l)) (entS l)) t)) (by omega) (by omega)
  refine walk1 l T t (entS l) (timesS T) (TreeB (entS l) (timesS T)) (accB (hdB (entS l)) (entS l)) (fun i=>accB (hdB (entS l)) ((entS l).take i)) (srch (entS l) (lineX (accB (hdB (entS l)) (entS l)) t)) hpos hEl (fun h=>?_) (fun i h=>?_) (by simp) acall_bt ⟨he⟩ ⟨ht⟩ ⟨s_scan _ _ (by omega)⟩ ⟨by simpa using hsm⟩ (fun tr h=>?_) (fun tr h=>?_)
  ·have key : ∀ (M : List En) (h : 0 < M.length),M[0].b = accB (hdB M) (M.take 0)
    |x :: M,_=>by simp [accB,hdB]
   exact key _ h
  ·simp only [List.take_succ_eq_append_getElem h,accB,List.foldl_append,List.foldl_cons,List.foldl_nil]
  ·obtain ⟨h3,h4⟩:=h.hull (errL_ents l) (by omega) hne
   have:=s_box tr
   rw [h4 _ hH] at this
   have h5 : (!tr.nd.isEmpty) = true:=by cases hn : tr.nd;exact absurd hn h3;rfl
   rw [h5] at this
   exact this
  ·have:=h.alive (errL_ents l) (timesS_inc T) (by omega) hH hne t
   by_cases hi : inL t = true
   ·rwa [if_pos hi] at this
   ·rw [if_neg hi] at this
    rw [srch_out hi]
    exact this
theorem spec (avs : List AV) (h : ShapeL Try.prog 6 Try.f5.params.toList avs) : PSpec Try.prog 5 avs (.v (.bool true)):=by
 rw [Try.params5] at h
 obtain ⟨c1,r1,rfl,h1,c2,r2,rfl,h2,c3,r3,rfl,h3,rfl⟩:=h
 obtain ⟨l,hl,hl2⟩:=avIts h1
 obtain ⟨T,hT,hT2⟩:=avUs h2
 obtain ⟨t,ht, -⟩:=avI h3
 rw [hl,hT,ht]
 exact law l T t hl2 hT2
theorem contract (H : Type) (enc : TypeId × Value → H) (W : World) (base : Nat) (args : Array Value) (ds gs : List (DataW H)) (before : List MemPlace)
 (hval : ∀ (j : Nat) t v,Try.f5.params[j]? = some t → args[j]? = some v → Value.okWide Try.prog W .any base t v)
 (hW : DataW.Whole enc Try.prog Try.f5.params.toList Rows.rtreeAliveSpec.vars false W args.toList ds gs before) :
 Calls Try.prog 5 args W fun e W'=>∃ v,e = .returned v ∧ Rows.rtreeAliveSpec.post enc Try.prog Try.f5 false true false false W args v W' :=
 law_contract (m:=6) (tb:=4) spec (by rw [Try.params5];intro t ht;simp at ht;rcases ht with rfl|rfl|rfl <;> kernel_rfl) rfl laidK
  (by rw [Try.params5];intro t ht;simp at ht;rcases ht with rfl|rfl|rfl <;> exact ⟨by kernel_rfl,by decide +kernel⟩)
  (fun ds hd=>by
    rw [Try.params5] at hd
    match ds,hd with
    |[d1,d2,d3],_=>rfl) (by kernel_rfl) Try.underlying4 hval hW
theorem lifted (os : Os) (started : os.Started) (H : Type) (enc : TypeId × Value → H) :
 ReturnsInHanded {} Try.checked os 5 .any (Rows.rtreeAliveSpec.pre6 enc Try.prog Try.f5 Rows.rtreeAliveRow.domain false) (Rows.rtreeAliveSpec.post enc Try.prog Try.f5 false true false false):=by
 refine returnsInHanded_of_change (C:=Try.checked) ownK started (by kernel_rfl) Try.func5
  (ChangeSpec.witness6 (enc:=enc) (C:=Try.checked) false ⟨#[],#[zN,zN,zI],[]⟩ 8 (by kernel_rfl) (by kernel_rfl) (by kernel_rfl) (by kernel_rfl)) ?_
 intro W base args ds gs before hval hW hcnd _
 exact contract H enc W base args ds gs before hval hW
theorem said : Rows.RtreeAliveSaid :=
 OpenClaim.holds_of_wide 5 Try.f5 rfl rfl rfl rfl rfl rfl rfl ⟨rfl,rfl,rfl,rfl,rfl⟩ rfl rfl rfl rfl rfl (by kernel_rfl) Try.func5 (by kernel_rfl)
  (of_decide_eq_true (by kernel_rfl)) (by unfold Func.isWrapper;first|(rw [if_pos (by decide +kernel)];kernel_rfl)|(rw [if_neg (by decide +kernel)];exact ⟨rfl,rfl⟩))
  (fun os started H enc _=>lifted os started H enc)
end L3
end Go.Proofs.Ytlkijcflfnnbaaa
