/- RtreeVisits: for any entries, splits and box the law hands back true -/
import Derived.Test.YtlkijcflfnnbaaaZF
set_option maxRecDepth 100000
set_option linter.unusedSimpArgs false
set_option linter.unusedVariables false
namespace Go.Proofs.Ytlkijcflfnnbaaa
open Go.Am Go.RowKit Go.ChangeShapes Go.WideShapes Go.ChangeAt
namespace L5
def zN : Value:=.slice none 0 0
def zC : Value:=.agg #[.int .u8 0,.int .u8 0,.int .u8 0,.int .u8 0,.int .u8 0,.int .u8 0]
abbrev uL (T : List UInt8) : List AV:=T.map fun u=>uA u.toNat
def oneX : Bx:=⟨1,0,0,0,0,0⟩
set_option maxHeartbeats 2000000 in
theorem walk (l : List It) (T : List UInt8) (c : Cu) (L : List En) (U : List Int) (B : Bx) (p : Tr → Prop)
 (hbt : ∀ {E : Env} {s : AState} {d : Option Tmp} {K : AState → Prop},(∀ tr,Hld (p tr) → K (s.put d (.tup [.ep (encT tr),iA 0]))) → ACall Try.prog E 20 [.sl 7 (L.map encE),.sl 1 (U.map iA)] s d K)
 (h1 : Hld (PSpec Try.prog 18 [.sl 7 (l.map encI)] (.sl 7 (L.map encE)))) (h2 : Hld (PSpec Try.prog 19 [encC c] (encX B))) (h3 : Hld (PSpec Try.prog 21 [.sl 1 (uL T)] (.sl 1 (U.map iA))))
 (hnd : ∀ tr,p tr → PSpec Try.prog 30 [.ep (encT tr)] (.sl 8 (tr.nd.map encN))) (hle : ∀ tr,p tr → tr.nd.length ≤ 10000 ∧ (∀ n ∈ tr.nd,n.ch.length ≤ 8) ∧ ∀ k,k ≤ tr.nd.length → cntN tr.nd B k ≤ 100000)
 (hv : ∀ tr,p tr → PSpec Try.prog 33 [.ep (encT tr),encX B] (iA (cntN tr.nd B tr.nd.length))) (hv0 : ∀ tr,p tr → PSpec Try.prog 33 [.ep (encT tr),encX oneX] (iA 0)) :
 PSpec Try.prog 8 [.sl 7 (l.map encI),.sl 1 (uL T),encC c] (bA true):=by
 have hk:=Hld.mk s_known
 refine PSpec_of Try.func8 rfl rfl (Nat.le_of_ble_eq_true rfl) (Nat.le_of_ble_eq_true rfl) ?_
 intro E hE
 refine AW_seqt ⟨[(5,.loc 5 0),(1,.sl 1 (uL T)),(0,.sl 7 (l.map encI))],[(5,.box 32 (encC c))]⟩ ?_ (by
  intro K hK
  repeat' (first
   |(with_reducible first|refine uK ?_|refine uX ?_|refine AW_seqk fun K hK=>?_|refine AW_block ?_)|((with_reducible first|refine rS hE ?_|refine RK_nilk ?_|refine RK_stepk fun K' hK'=>?_|refine AW_if fun X Y hX hY=>?_|refine AW_ret ?_|refine AW_skip ?_|refine AW_exit ?_);simp [*])|with_reducible refine rL hE ?_|with_reducible refine And.intro ?_ ?_|omega|(refine imp1 fun h=>?_))
  all_goals simp)
 refine AW_freeze 5 (cb:=.box 32 (encC c)) (t:=⟨[(5,.ep (encC c)),(1,.sl 1 (uL T)),(0,.sl 7 (l.map encI))],[]⟩) (by simp) (by simp) (by simp) ?_
 refine AW_seqt ⟨[(5,.ep (encC c)),(1,.sl 1 (uL T)),(0,.sl 7 (l.map encI))],[]⟩ ?_ (by
  intro K hK
  repeat' (first
   |(with_reducible first|refine uK ?_|refine uX ?_|refine AW_seqk fun K hK=>?_|refine AW_block ?_)|((with_reducible first|refine rS hE ?_|refine RK_nilk ?_|refine RK_stepk fun K' hK'=>?_|refine AW_if fun X Y hX hY=>?_|refine AW_ret ?_|refine AW_skip ?_|refine AW_exit ?_);simp [*])|with_reducible refine rL hE ?_|(refine acall_same (hk.out) ?_ ?_ ?_;(iterate 2 (focus (simp [*] <;> fail)));simp [*])|(refine acall_view (hk.out) ?_ ?_ ?_;(iterate 2 (focus (simp [*] <;> fail)));simp [*])|with_reducible refine And.intro ?_ ?_|omega|(refine imp1 fun h=>?_))
  all_goals simp)
 refine AW_seqt ⟨[(7,.loc 7 0),(1,.sl 1 (uL T)),(0,.sl 7 (l.map encI))],[(7,.box 23 (encX B))]⟩ ?_ (by
  intro K hK
  repeat' (first
   |(with_reducible first|refine uK ?_|refine uX ?_|refine AW_seqk fun K hK=>?_|refine AW_block ?_)|((with_reducible first|refine rS hE ?_|refine RK_nilk ?_|refine RK_stepk fun K' hK'=>?_|refine AW_if fun X Y hX hY=>?_|refine AW_ret ?_|refine AW_skip ?_|refine AW_exit ?_);simp [*,encC,encX])|with_reducible refine rL hE ?_|(refine acall_same (h2.out) ?_ ?_ ?_;(iterate 2 (focus (simp [*,encC,encX] <;> fail)));simp [*,encC,encX])|(refine acall_view (h2.out) ?_ ?_ ?_;(iterate 2 (focus (simp [*,encC,encX] <;> fail)));simp [*,encC,encX])|with_reducible refine And.intro ?_ ?_|omega|(refine imp1 fun h=>?_))
  all_goals simp [encX])
 refine AW_freeze 7 (cb:=.box 23 (encX B)) (t:=⟨[(7,.ep (encX B)),(1,.sl 1 (uL T)),(0,.sl 7 (l.map encI))],[]⟩) (by simp) (by simp) (by simp) ?_
 refine AW_seqE (G:=Tr) (fun tr=>⟨[(9,iA 0),(8,.ep (encT tr)),(7,.ep (encX B))],[]⟩) p ?_ (by
  intro K hK
  repeat' (first
   |(with_reducible first|refine uK ?_|refine uX ?_|refine AW_seqk fun K hK=>?_|refine AW_block ?_)|((with_reducible first|refine rS hE ?_|refine RK_nilk ?_|refine RK_stepk fun K' hK'=>?_|refine AW_if fun X Y hX hY=>?_|refine AW_ret ?_|refine AW_skip ?_|refine AW_exit ?_);simp [*])|with_reducible refine rL hE ?_|(refine acall_same (h1.out) ?_ ?_ ?_;(iterate 2 (focus (simp [*] <;> fail)));simp [*])|(refine acall_view (h1.out) ?_ ?_ ?_;(iterate 2 (focus (simp [*] <;> fail)));simp [*])|(refine acall_same (h3.out) ?_ ?_ ?_;(iterate 2 (focus (simp [*] <;> fail)));simp [*])|(refine acall_view (h3.out) ?_ ?_ ?_;(iterate 2 (focus (simp [*] <;> fail)));simp [*])|with_reducible refine And.intro ?_ ?_|omega|(refine imp1 fun h=>?_))
  refine hbt fun tr htr=>?_
  simp
  repeat' (first
   |(with_reducible first|refine uK ?_|refine uX ?_|refine AW_seqk fun K hK=>?_|refine AW_block ?_)|((with_reducible first|refine rS hE ?_|refine RK_nilk ?_|refine RK_stepk fun K' hK'=>?_|refine AW_if fun X Y hX hY=>?_|refine AW_ret ?_|refine AW_skip ?_|refine AW_exit ?_);simp [*])|with_reducible refine rL hE ?_|with_reducible refine And.intro ?_ ?_|omega|(refine imp1 fun h=>?_))
  exact ⟨tr,htr.out,by simp⟩)
 intro tr htr
 have g1:=Hld.mk (hnd tr htr)
 have g2:=Hld.mk (hv tr htr)
 have g3:=Hld.mk (hv0 tr htr)
 obtain ⟨hN,hch,hcb⟩:=hle tr htr
 clear hnd hv hv0 hle hbt
 obtain ⟨C,hC⟩ : ∃ C : Nat → Nat,∀ k,cntN tr.nd B k = C k:=⟨_,fun _=>rfl⟩
 have hC0 : C 0 = if tr.nd = [] then 0 else 1:=by rw [← hC];simp [cntN]
 have hCs : ∀ k,C (k + 1) = C k + chM tr.nd B k:=fun k=>by rw [← hC,← hC];exact cntN_succ _ _ _
 have hCb : ∀ k,k ≤ tr.nd.length → C k ≤ 100000:=fun k hk=>by rw [← hC];exact hcb k hk
 rw [hC] at g2
 replace hch:=Hld.mk hch
 replace hCs:=Hld.mk hCs
 replace hCb:=Hld.mk hCb
 replace hC0:=Hld.mk hC0
 clear hC hcb
 obtain ⟨nd,hndE⟩ : ∃ nd,tr.nd = nd:=⟨_,rfl⟩
 obtain ⟨t,ht⟩ : ∃ t,encT tr = t:=⟨_,rfl⟩
 have t1 : t.idf = true:=by rw [← ht];simp
 have t2 : ∀ d,t.ment d = false:=fun d=>by rw [← ht];simp
 rw [hndE] at g1 g2 hN hch hCs hCb hC0
 rw [ht] at g1 g2 g3 ⊢
 clear ht hndE
 refine AW_seqt ⟨[(8,.ep t),(7,.ep (encX B))],[]⟩ ?_ (by
  intro K hK
  repeat' (first
   |(with_reducible first|refine uK ?_|refine uX ?_|refine AW_seqk fun K hK=>?_|refine AW_block ?_)|((with_reducible first|refine rS hE ?_|refine RK_nilk ?_|refine RK_stepk fun K' hK'=>?_|refine AW_if fun X Y hX hY=>?_|refine AW_ret ?_|refine AW_skip ?_|refine AW_exit ?_);simp [*])|with_reducible refine rL hE ?_|with_reducible refine And.intro ?_ ?_|omega|(refine imp1 fun h=>?_))
  all_goals simp)
 refine AW_seqt ⟨[(10,.sl 8 (nd.map encN)),(8,.ep t),(7,.ep (encX B))],[]⟩ ?_ (by
  intro K hK
  repeat' (first
   |(with_reducible first|refine uK ?_|refine uX ?_|refine AW_seqk fun K hK=>?_|refine AW_block ?_)|((with_reducible first|refine rS hE ?_|refine RK_nilk ?_|refine RK_stepk fun K' hK'=>?_|refine AW_if fun X Y hX hY=>?_|refine AW_ret ?_|refine AW_skip ?_|refine AW_exit ?_);simp [*])|with_reducible refine rL hE ?_|(refine acall_same (g1.out) ?_ ?_ ?_;(iterate 2 (focus (simp [*] <;> fail)));simp [*])|(refine acall_view (g1.out) ?_ ?_ ?_;(iterate 2 (focus (simp [*] <;> fail)));simp [*])|with_reducible refine And.intro ?_ ?_|omega|(refine imp1 fun h=>?_))
  all_goals simp)
 refine AW_seqt ⟨[(11,iA 0),(10,.sl 8 (nd.map encN)),(8,.ep t),(7,.ep (encX B))],[]⟩ ?_ (by
  intro K hK
  repeat' (first
   |(with_reducible first|refine uK ?_|refine uX ?_|refine AW_seqk fun K hK=>?_|refine AW_block ?_)|((with_reducible first|refine rS hE ?_|refine RK_nilk ?_|refine RK_stepk fun K' hK'=>?_|refine AW_if fun X Y hX hY=>?_|refine AW_ret ?_|refine AW_skip ?_|refine AW_exit ?_);simp [*])|with_reducible refine rL hE ?_|with_reducible refine And.intro ?_ ?_|omega|(refine imp1 fun h=>?_))
  all_goals simp)
 refine AW_seqt ⟨[(11,iA (C 0)),(10,.sl 8 (nd.map encN)),(8,.ep t),(7,.ep (encX B))],[]⟩ ?_ (by
  intro K hK
  by_cases hne : nd = []
  ·have h0:=hC0.out
   rw [if_pos hne] at h0
   have hl : nd.length = 0:=by simp [hne]
   clear hC0
   repeat' (first
    |(with_reducible first|refine uK ?_|refine uX ?_|refine AW_seqk fun K hK=>?_|refine AW_block ?_)|((with_reducible first|refine rS hE ?_|refine RK_nilk ?_|refine RK_stepk fun K' hK'=>?_|refine AW_if fun X Y hX hY=>?_|refine AW_ret ?_|refine AW_skip ?_|refine AW_exit ?_);simp [*])|with_reducible refine rL hE ?_|with_reducible refine And.intro ?_ ?_|omega|(refine imp1 fun h=>?_))
   all_goals simp [h0,hne]
  ·have h0:=hC0.out
   rw [if_neg hne] at h0
   have hl : 0 < nd.length:=List.length_pos_iff.2 hne
   have hlI : (0 : Int) < nd.length:=by omega
   clear hC0
   repeat' (first
    |(with_reducible first|refine uK ?_|refine uX ?_|refine AW_seqk fun K hK=>?_|refine AW_block ?_)|((with_reducible first|refine rS hE ?_|refine RK_nilk ?_|refine RK_stepk fun K' hK'=>?_|refine AW_if fun X Y hX hY=>?_|refine AW_ret ?_|refine AW_skip ?_|refine AW_exit ?_);simp [*])|with_reducible refine rL hE ?_|with_reducible refine And.intro ?_ ?_|omega|(refine imp1 fun h=>?_))
   all_goals simp [h0])
 refine AW_seqt ⟨[(11,iA (C nd.length)),(8,.ep t),(7,.ep (encX B))],[]⟩ ?_ (by
  intro K hK
  repeat' (first
   |(with_reducible first|refine uK ?_|refine uX ?_|refine AW_seqk fun K hK=>?_|refine AW_block ?_)|((with_reducible first|refine rS hE ?_|refine RK_nilk ?_|refine RK_stepk fun K' hK'=>?_|refine AW_if fun X Y hX hY=>?_|refine AW_ret ?_|refine AW_skip ?_|refine AW_exit ?_);simp [*])|with_reducible refine rL hE ?_|with_reducible refine And.intro ?_ ?_|omega|(refine imp1 fun h=>?_))
  refine AW_loopk (G:=Nat) (fun i=>⟨[(12,iA i),(11,iA (C i)),(10,.sl 8 (nd.map encN)),(8,.ep t),(7,.ep (encX B))],[]⟩) (fun i=>i ≤ nd.length) (fun i=>nd.length - i) 0 (Nat.zero_le _) (by simp) ?_
  intro i hi K hK
  by_cases hlt : i < nd.length
  ·have hltI : (i : Int) < nd.length:=by omega
   have hs:=hCs.out i
   have hb:=hCb.out i (by omega)
   have hn : nodeAt nd i = nd[i]:=by unfold nodeAt;rw [List.getD_eq_getElem?_getD,List.getElem?_eq_getElem hlt];rfl
   have hc8:=hch.out nd[i] (List.getElem_mem hlt)
   unfold chM at hs
   rw [hn] at hs
   obtain ⟨x,hx⟩ : ∃ x,C i = x:=⟨_,rfl⟩
   obtain ⟨y,hy⟩ : ∃ y,C (i + 1) = y:=⟨_,rfl⟩
   rw [hx] at hs hb
   rw [hy] at hs
   have hme:=s_meets2 nd[i].b B
   rcases hm : meetX nd[i].b B with _|_
   ·rw [hm] at hs hme
    simp only [Bool.false_eq_true,if_false] at hs
    replace hme:=Hld.mk hme
    clear hm hn
    repeat' (first
     |(with_reducible first|refine useK (by assumption) ?_|refine useK2 (by assumption) ?_|refine useX (by assumption) ?_|refine AW_seqk fun K hK=>?_|refine AW_block ?_)|(with_reducible refine AW_regionS rfl (by rw [hE];decide) ?_;simp [*,encX,encN,Nd.b])|with_reducible refine AW_region (by rw [hE];decide) ?_|((with_reducible show RK _ _ _ _ _ _);first|(refine RK_nilk ?_;simp [*,encX,encN,Nd.b])|(refine RK_stepk fun K' hK'=>?_;simp [*,encX,encN,Nd.b]))|with_reducible refine AW_drawq mixed (by rw [hE];decide) (by simp [newOK]) ?_|((with_reducible show RKQ _ _ _ _ _ _);first|refine RKQ_nilk ⟨by decide,?_⟩|(refine RKQ_stepk fun K' hK'=>?_;simp [*,encX,encN,Nd.b]))|((with_reducible first|refine AW_if fun X Y hX hY=>?_|refine AW_ret ?_|refine AW_skip ?_|refine AW_exit ?_);simp [*,encX,encN,Nd.b])|((first|refine acall_same (hme.out) ?_ ?_ ?_|refine call_same (hme.out) ?_ ?_ ?_);(focus (simp [*,encX,encN,Nd.b] <;> fail));(focus (simp [*,encX,encN,Nd.b] <;> fail));simp [*,encX,encN,Nd.b])|((first|refine acall_view (hme.out) ?_ ?_ ?_|refine call_view (hme.out) ?_ ?_ ?_);(focus (simp [*,encX,encN,Nd.b] <;> fail));(focus (simp [*,encX,encN,Nd.b] <;> fail));simp [*,encX,encN,Nd.b])|with_reducible refine And.intro ?_ ?_|omega|(refine imp1 fun h=>?_))
    exact ⟨i + 1,by omega,by omega,by simp [hy,hs,encX]⟩
   ·rw [hm] at hs hme
    simp only [if_true] at hs
    replace hme:=Hld.mk hme
    clear hm hn
    repeat' (first
     |(with_reducible first|refine useK (by assumption) ?_|refine useK2 (by assumption) ?_|refine useX (by assumption) ?_|refine AW_seqk fun K hK=>?_|refine AW_block ?_)|(with_reducible refine AW_regionS rfl (by rw [hE];decide) ?_;simp [*,encX,encN,Nd.b])|with_reducible refine AW_region (by rw [hE];decide) ?_|((with_reducible show RK _ _ _ _ _ _);first|(refine RK_nilk ?_;simp [*,encX,encN,Nd.b])|(refine RK_stepk fun K' hK'=>?_;simp [*,encX,encN,Nd.b]))|with_reducible refine AW_drawq mixed (by rw [hE];decide) (by simp [newOK]) ?_|((with_reducible show RKQ _ _ _ _ _ _);first|refine RKQ_nilk ⟨by decide,?_⟩|(refine RKQ_stepk fun K' hK'=>?_;simp [*,encX,encN,Nd.b]))|((with_reducible first|refine AW_if fun X Y hX hY=>?_|refine AW_ret ?_|refine AW_skip ?_|refine AW_exit ?_);simp [*,encX,encN,Nd.b])|((first|refine acall_same (hme.out) ?_ ?_ ?_|refine call_same (hme.out) ?_ ?_ ?_);(focus (simp [*,encX,encN,Nd.b] <;> fail));(focus (simp [*,encX,encN,Nd.b] <;> fail));simp [*,encX,encN,Nd.b])|((first|refine acall_view (hme.out) ?_ ?_ ?_|refine call_view (hme.out) ?_ ?_ ?_);(focus (simp [*,encX,encN,Nd.b] <;> fail));(focus (simp [*,encX,encN,Nd.b] <;> fail));simp [*,encX,encN,Nd.b])|with_reducible refine And.intro ?_ ?_|omega|(refine imp1 fun h=>?_))
    exact ⟨i + 1,by omega,by omega,by simp [hy,hs,encX]⟩
  ·have hie : i = nd.length:=by omega
   subst hie
   repeat' (first
    |(with_reducible first|refine uK ?_|refine uX ?_|refine AW_seqk fun K hK=>?_|refine AW_block ?_)|((with_reducible first|refine rS hE ?_|refine RK_nilk ?_|refine RK_stepk fun K' hK'=>?_|refine AW_if fun X Y hX hY=>?_|refine AW_ret ?_|refine AW_skip ?_|refine AW_exit ?_);simp [*])|with_reducible refine rL hE ?_|with_reducible refine And.intro ?_ ?_|omega|(refine imp1 fun h=>?_))
   all_goals simp)
 repeat' (first
  |(with_reducible first|refine useK (by assumption) ?_|refine useK2 (by assumption) ?_|refine useX (by assumption) ?_|refine AW_seqk fun K hK=>?_|refine AW_block ?_)|(with_reducible refine AW_regionS rfl (by rw [hE];decide) ?_;simp [*,encX,oneX])|with_reducible refine AW_region (by rw [hE];decide) ?_|((with_reducible show RK _ _ _ _ _ _);first|(refine RK_nilk ?_;simp [*,encX,oneX])|(refine RK_stepk fun K' hK'=>?_;simp [*,encX,oneX]))|with_reducible refine AW_drawq mixed (by rw [hE];decide) (by simp [newOK]) ?_|((with_reducible show RKQ _ _ _ _ _ _);first|refine RKQ_nilk ⟨by decide,?_⟩|(refine RKQ_stepk fun K' hK'=>?_;simp [*,encX,oneX]))|((with_reducible first|refine AW_if fun X Y hX hY=>?_|refine AW_ret ?_|refine AW_skip ?_|refine AW_exit ?_);simp [*,encX,oneX])|((first|refine acall_same (g2.out) ?_ ?_ ?_|refine call_same (g2.out) ?_ ?_ ?_);(focus (simp [*,encX,oneX] <;> fail));(focus (simp [*,encX,oneX] <;> fail));simp [*,encX,oneX])|((first|refine acall_view (g2.out) ?_ ?_ ?_|refine call_view (g2.out) ?_ ?_ ?_);(focus (simp [*,encX,oneX] <;> fail));(focus (simp [*,encX,oneX] <;> fail));simp [*,encX,oneX])|((first|refine acall_same (g3.out) ?_ ?_ ?_|refine call_same (g3.out) ?_ ?_ ?_);(focus (simp [*,encX,oneX] <;> fail));(focus (simp [*,encX,oneX] <;> fail));simp [*,encX,oneX])|((first|refine acall_view (g3.out) ?_ ?_ ?_|refine call_view (g3.out) ?_ ?_ ?_);(focus (simp [*,encX,oneX] <;> fail));(focus (simp [*,encX,oneX] <;> fail));simp [*,encX,oneX])|with_reducible refine And.intro ?_ ?_|omega|(refine imp1 fun h=>?_))
theorem law (l : List It) (T : List UInt8) (c : Cu) (hl : l.length ≤ maxLen) (hT : T.length ≤ maxLen) : PSpec Try.prog 8 [.sl 7 (l.map encI),.sl 1 (uL T),encC c] (bA true):=by
 have hpl:=parts_len l T
 refine walk l T c (entS l) (timesS T) (bxC c) (TreeB (entS l) (timesS T)) acall_bt ⟨s_entries l (by unfold maxLen at hl;omega)⟩ ⟨s_bx c⟩ ⟨s_times T (by unfold maxLen at hT;omega)⟩ (fun tr h=>?_) (fun tr h=>?_) (fun tr h=>?_) (fun tr h=>?_)
 ·obtain ⟨h1,h2⟩:=h.small (by omega)
  exact s_nodes tr (by omega) fun n hn=>by
   have:=h2 n hn
   omega
 ·obtain ⟨h1,h2⟩:=h.small (by omega)
  refine ⟨by omega,fun n hn=>(h2 n hn).1,fun k hk=>?_⟩
  have:=cntN_le (fun n hn=>(h2 n hn).1) (bxC c) k hk
  omega
 ·have:=h.visited (by omega) (bxC c)
  rwa [if_pos (chk_bxC c)] at this
 ·have:=h.visited (by omega) oneX
  rwa [if_neg (by decide)] at this
theorem spec (avs : List AV) (h : ShapeL Try.prog 6 Try.f8.params.toList avs) : PSpec Try.prog 8 avs (.v (.bool true)):=by
 rw [Try.params8] at h
 obtain ⟨c1,r1,rfl,h1,c2,r2,rfl,h2,c3,r3,rfl,h3,rfl⟩:=h
 obtain ⟨l,hl,hl2⟩:=avIts h1
 obtain ⟨T,hT,hT2⟩:=avUs h2
 obtain ⟨c,hc, -⟩:=avC h3
 rw [hl,hT,hc]
 exact law l T c hl2 hT2
theorem contract (H : Type) (enc : TypeId × Value → H) (W : World) (base : Nat) (args : Array Value) (ds gs : List (DataW H)) (before : List MemPlace)
 (hval : ∀ (j : Nat) t v,Try.f8.params[j]? = some t → args[j]? = some v → Value.okWide Try.prog W .any base t v)
 (hW : DataW.Whole enc Try.prog Try.f8.params.toList Rows.rtreeVisitsSpec.vars false W args.toList ds gs before) :
 Calls Try.prog 8 args W fun e W'=>∃ v,e = .returned v ∧ Rows.rtreeVisitsSpec.post enc Try.prog Try.f8 false true false false W args v W' :=
 law_contract (m:=6) (tb:=4) spec (by rw [Try.params8];intro t ht;simp at ht;rcases ht with rfl|rfl|rfl <;> kernel_rfl) rfl laidK
  (by rw [Try.params8];intro t ht;simp at ht;rcases ht with rfl|rfl|rfl <;> exact ⟨by kernel_rfl,by decide +kernel⟩)
  (fun ds hd=>by
    rw [Try.params8] at hd
    match ds,hd with
    |[d1,d2,d3],_=>rfl) (by kernel_rfl) Try.underlying4 hval hW
theorem lifted (os : Os) (started : os.Started) (H : Type) (enc : TypeId × Value → H) :
 ReturnsInHanded {} Try.checked os 8 .any (Rows.rtreeVisitsSpec.pre6 enc Try.prog Try.f8 Rows.rtreeVisitsRow.domain false) (Rows.rtreeVisitsSpec.post enc Try.prog Try.f8 false true false false):=by
 refine returnsInHanded_of_change (C:=Try.checked) ownK started (by kernel_rfl) Try.func8
  (ChangeSpec.witness6 (enc:=enc) (C:=Try.checked) false ⟨#[],#[zN,zN,zC],[]⟩ 8 (by kernel_rfl) (by kernel_rfl) (by kernel_rfl) (by kernel_rfl)) ?_
 intro W base args ds gs before hval hW hcnd _
 exact contract H enc W base args ds gs before hval hW
theorem said : Rows.RtreeVisitsSaid :=
 OpenClaim.holds_of_wide 8 Try.f8 rfl rfl rfl rfl rfl rfl rfl ⟨rfl,rfl,rfl,rfl,rfl⟩ rfl rfl rfl rfl rfl (by kernel_rfl) Try.func8 (by kernel_rfl)
  (of_decide_eq_true (by kernel_rfl)) (by unfold Func.isWrapper;first|(rw [if_pos (by decide +kernel)];kernel_rfl)|(rw [if_neg (by decide +kernel)];exact ⟨rfl,rfl⟩))
  (fun os started H enc _=>lifted os started H enc)
end L5
end Go.Proofs.Ytlkijcflfnnbaaa
