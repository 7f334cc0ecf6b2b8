/- Layer 38: what the loops over iterators share -/
import Derived.Test.YtlkijcflfnnbaaaZ5
import Derived.Test.YtlkijcflfnnbaaaZ6
set_option maxRecDepth 100000
set_option linter.unusedSimpArgs false
set_option linter.unusedVariables false
section
namespace Go.Proofs.Ytlkijcflfnnbaaa
open Go.Am
theorem slots_of {σ : Nat → Nat} {s : AState} {S0 : List (Nat × AV)} (h : ∀ p ∈ S0,p.2 = (s.slot p.1).ren σ) : ∀ i,(AState.mk S0 []).slot i = .u ∨ (AState.mk S0 []).slot i = (s.slot i).ren σ:=by
 intro i
 unfold AState.slot
 cases hl : lk S0 i with
 |none=>exact .inl rfl
 |some x=>exact .inr (h _ (lk_mem hl))
theorem boxes_of {σ : Nat → Nat} {s : AState} {B : List (Nat × Ct)} (h : ∀ p ∈ B,∃ c0,s.box (σ p.1) = some c0 ∧ p.2 = c0.ren σ) : ∀ id c,lk B id = some c → ∃ c0,s.box (σ id) = some c0 ∧ c = c0.ren σ :=
 fun id c hc=>h _ (lk_mem hc)
def kp (k i : Nat) : Nat:=if i = k then k + 1500000 else if i = k + 1500000 then k else i
@[simp] theorem kp_l (k : Nat) : kp k k = k + 1500000:=by simp [kp]
@[simp] theorem kp_r (k : Nat) : kp k (k + 1500000) = k:=by simp [kp]
theorem kp_kp (k i : Nat) : kp k (kp k i) = i:=by
 unfold kp
 by_cases h1 : i = k
 ·rw [if_pos h1,if_neg (by omega),if_pos rfl];exact h1.symm
 ·rw [if_neg h1]
  by_cases h2 : i = k + 1500000
  ·rw [if_pos h2,if_pos rfl];exact h2.symm
  ·rw [if_neg h2,if_neg h1,if_neg h2]
theorem kp_lt {k : Nat} (hk : k < 500000) (i : Nat) (h : i < 2000000) : kp k i < 2000000:=by
 unfold kp
 split
 ·omega
 ·split <;> omega
theorem kp_mid {k : Nat} (hk : k < 500000) (i : Nat) (h1 : 1000000 ≤ i) (h2 : i < 1500000) : kp k i = i:=by
 unfold kp
 rw [if_neg (by omega),if_neg (by omega)]
theorem kp_ne {k i : Nat} (h1 : i < 1000000) (h : kp k i ≠ i) : i = k:=by
 unfold kp at h
 split at h
 ·assumption
 ·split at h
  ·omega
  ·exact absurd rfl h
end Go.Proofs.Ytlkijcflfnnbaaa
end
section
namespace Go.Proofs.Ytlkijcflfnnbaaa
open Go.Am
abbrev slV (b o n c : Nat) : AV:=.v (.slice (some ⟨b,o,none⟩) n c)
def chunkV (b o n m j : Nat) : List AV:=[slV b (o + j * m * 7) (min m (n - j * m)) (min m (n - j * m))]
def okC (b o n m : Nat) (pre : List (List AV)) (x : List AV) : Prop:=pre.length * m < n ∧ x = chunkV b o n m pre.length
theorem i_chunk (b o n c m : Nat) (hm : 0 < m) (hm2 : m < 1000000) (hc : n ≤ c) (hn : n < 1152921504606846976) :
 ISpec Try.prog 61 [.ep (slV b o n c),.ep (iA m)] (okC b o n m) (fun xs=>n ≤ xs.length * m):=by
 refine ISpec_of Try.func61 rfl rfl (Nat.le_of_ble_eq_true rfl) (Nat.le_of_ble_eq_true rfl) (by simp [idfL,AV.idf]) ?_
 intro l J E hE hY Hx G hJ hG
 replace hY:=Hld.mk hY
 replace hJ:=Hld.mk hJ
 replace hG:=Hld.mk hG
 refine AW_seqt ⟨[(4,iA 0),(0,.fn (.yield l) [] []),(1,.ep (slV b o n c)),(2,.ep (iA m))],(1999999,.hp Hx) :: gbox G⟩ ?_ (by
  intro K hK
  repeat' (first
   |(with_reducible first|refine uK ?_|refine uX ?_|refine AW_seqk fun K hK=>?_|refine AW_block ?_)|((with_reducible first|refine rS hE ?_|refine RK_nilk ?_|refine RK_stepk fun K' hK'=>?_|refine AW_if fun X Y hX hY=>?_|refine AW_ret ?_|refine AW_skip ?_|refine AW_exit ?_);simp [*])|with_reducible refine rL hE ?_|with_reducible refine And.intro ?_ ?_|omega|(refine imp1 fun h=>?_))
  refine ⟨by simp,by simp,?_⟩
  exact leB_g (L:=[(1999999,.hp Hx)]) (by simp [lowB]) hG.out)
 refine AW_block ?_
 refine AW_loopk (G:=List (List AV) × Heap × GL) (fun g=>⟨[(4,iA ((g.1.length * m : Nat) : Int)),(0,.fn (.yield l) [] []),(1,.ep (slV b o n c)),(2,.ep (iA m))],(1999999,.hp g.2.1) :: gbox g.2.2⟩)
  (fun g=>(g.1.length * m < n + m) ∧ Hld (J g.1 g.2.1 g.2.2) ∧ Hld (GOk g.2.2)) (fun g=>n + m - g.1.length * m) ([],Hx,G) ⟨(show 0 * m < n + m by omega),hJ,hG⟩ ?_ ?_
 ·refine ⟨by simp,by simp,?_⟩
  exact leB_g (L:=[(1999999,.hp Hx)]) (by simp [lowB]) hG.out
 clear hJ hG
 rintro ⟨pre,Hy,D⟩ ⟨hlt,hJ,hG⟩ K hK
 replace hlt : pre.length * m < n + m:=hlt
 replace hJ : Hld (J pre Hy D):=hJ
 replace hG : Hld (GOk D):=hG
 obtain ⟨i,hi⟩ : ∃ i,i = pre.length * m:=⟨_,rfl⟩
 have hiI : ((pre.length * m : Nat) : Int) = i:=by omega
 simp only [hiI]
 have hlt2 : i < n + m:=by omega
 by_cases hin : i < n
 ·obtain ⟨e,he,he1⟩ : ∃ e : Nat,e = min m (n - i) ∧ 0 < e:=⟨_,rfl,by omega⟩
  have hen : min (m : Int) ((n - i : Nat) : Int) = e:=by omega
  have hie : ((i : Int) + e).toNat - i = e:=by omega
  have hx : chunkV b o n m pre.length = [slV b (o + i * 7) e e]:=by simp only [chunkV,← hi,← he]
  have hpl : pre.length * m < n:=by omega
  have hi':=Hld.mk hi
  have he':=Hld.mk he
  have hen1 : i + e ≤ n:=by omega
  clear hi he
  have hle : ∀ (ss : List (Nat × AV)) (H' : Heap) (G' : GL) (_ : GOk G'),leB ⟨ss,(1999999,.hp H') :: gbox G'⟩ (gbox G'):=fun ss H' G' h=>leB_g (L:=[(1999999,.hp H')]) (by simp [lowB]) h
  replace hle:=Hld.mk hle
  refine AW_seqt ⟨[(4,iA i),(0,.fn (.yield l) [] []),(1,.ep (slV b o n c)),(2,.ep (iA m))],(1999999,.hp Hy) :: gbox D⟩ ?_ (by
   intro K hK
   repeat' (first
    |(with_reducible first|refine uK ?_|refine uX ?_|refine AW_seqk fun K hK=>?_|refine AW_block ?_)|((with_reducible first|refine rS hE ?_|refine RK_nilk ?_|refine RK_stepk fun K' hK'=>?_|refine AW_if fun X Y hX hY=>?_|refine AW_ret ?_|refine AW_skip ?_|refine AW_exit ?_);simp [*])|with_reducible refine rL hE ?_|with_reducible refine And.intro ?_ ?_|omega|(refine imp1 fun h=>?_))
   exact ⟨by simp,by simp,hle.out _ _ _ hG.out⟩)
  refine AW_seqE (G:=Heap × GL) (fun g=>⟨[(4,iA i),(0,.fn (.yield l) [] []),(1,.ep (slV b o n c)),(2,.ep (iA m))],(1999999,.hp g.1) :: gbox g.2⟩) (fun g=>J (pre ++ [chunkV b o n m pre.length]) g.1 g.2 ∧ GOk g.2) ?_ ?_
  ·rintro ⟨Hz,F⟩ ⟨hJ2,hG2⟩
   replace hJ2:=Hld.mk hJ2
   replace hG2:=Hld.mk hG2
   repeat' (first
    |(with_reducible first|refine uK ?_|refine uX ?_|refine AW_seqk fun K hK=>?_|refine AW_block ?_)|((with_reducible first|refine rS hE ?_|refine RK_nilk ?_|refine RK_stepk fun K' hK'=>?_|refine AW_if fun X Y hX hY=>?_|refine AW_ret ?_|refine AW_skip ?_|refine AW_exit ?_);simp [*])|with_reducible refine rL hE ?_|with_reducible refine And.intro ?_ ?_|omega|(refine imp1 fun h=>?_))
   have h0 : (pre ++ [chunkV b o n m pre.length]).length * m = i + m:=by
    rw [List.length_append,List.length_singleton,Nat.add_mul,Nat.one_mul,← hi'.out]
   exact ⟨(pre ++ [chunkV b o n m pre.length],Hz,F),⟨(show (pre ++ [chunkV b o n m pre.length]).length * m < n + m by omega),hJ2,hG2⟩,(show n + m - (pre ++ [chunkV b o n m pre.length]).length * m < n + m - pre.length * m by rw [h0,← hi'.out];omega),by simp only [h0];exact ⟨by simp,by simp,hle.out _ _ _ hG2.out⟩⟩
  ·intro K hK
   refine AW_block ?_
   refine AW_seqt ⟨[(5,iA e),(4,iA i),(0,.fn (.yield l) [] []),(1,.ep (slV b o n c)),(2,.ep (iA m))],(1999999,.hp Hy) :: gbox D⟩ ?_ (by
    intro K hK
    repeat' (first
     |(with_reducible first|refine useK (by assumption) ?_|refine useK2 (by assumption) ?_|refine useX (by assumption) ?_|refine AW_seqk fun K hK=>?_|refine AW_block ?_)|(with_reducible refine AW_regionS rfl (by rw [hE];decide) ?_;simp [*])|with_reducible refine AW_region (by rw [hE];decide) ?_|((with_reducible show RK _ _ _ _ _ _);first|(refine RK_nilk ?_;simp [*])|(refine RK_stepk fun K' hK'=>?_;simp [*]))|with_reducible refine AW_drawq mixed (by rw [hE];decide) (by simp [newOK]) ?_|((with_reducible show RKQ _ _ _ _ _ _);first|refine RKQ_nilk ⟨by decide,?_⟩|(refine RKQ_stepk fun K' hK'=>?_;simp [*]))|((with_reducible first|refine AW_if fun X Y hX hY=>?_|refine AW_ret ?_|refine AW_skip ?_|refine AW_exit ?_);simp [*])|with_reducible refine And.intro ?_ ?_|omega|(refine imp1 fun h=>?_))
    exact ⟨by simp [hen],by simp,hle.out _ _ _ hG.out⟩)
   refine AW_seqE (G:=Heap × GL) (fun g=>⟨[(30,bA false),(4,iA i),(0,.fn (.yield l) [] []),(1,.ep (slV b o n c)),(2,.ep (iA m))],(1999999,.hp g.1) :: gbox g.2⟩) (fun g=>J (pre ++ [chunkV b o n m pre.length]) g.1 g.2 ∧ GOk g.2) ?_ ?_
   ·rintro ⟨Hz,F⟩ ⟨hJ2,hG2⟩
    replace hJ2:=Hld.mk hJ2
    replace hG2:=Hld.mk hG2
    repeat' (first
     |(with_reducible first|refine uK ?_|refine uX ?_|refine AW_seqk fun K hK=>?_|refine AW_block ?_)|((with_reducible first|refine rS hE ?_|refine RK_nilk ?_|refine RK_stepk fun K' hK'=>?_|refine AW_if fun X Y hX hY=>?_|refine AW_ret ?_|refine AW_skip ?_|refine AW_exit ?_);simp [*])|with_reducible refine rL hE ?_|with_reducible refine And.intro ?_ ?_|omega|(refine imp1 fun h=>?_))
    exact ⟨(Hz,F),⟨hJ2.out,hG2.out⟩,by simp,by simp,hle.out _ _ _ hG2.out⟩
   ·intro K hK
    refine AW_regionY 10 rfl rfl (by rw [hE];decide) ?_
    change RK _ _ _ [_,_,_,_,_,_,_,_,_,_] _ _
    repeat' (first
     |(with_reducible first|refine uK ?_|refine uX ?_|refine AW_seqk fun K hK=>?_|refine AW_block ?_)|((with_reducible first|refine rS hE ?_|refine RK_nilk ?_|refine RK_stepk fun K' hK'=>?_|refine AW_if fun X Y hX hY=>?_|refine AW_ret ?_|refine AW_skip ?_|refine AW_exit ?_);simp [*])|with_reducible refine rL hE ?_|with_reducible refine And.intro ?_ ?_|omega|(refine imp1 fun h=>?_))
    rw [← hx]
    refine AYield_of (L:=[(1999999,.hp Hy)]) (hY.out pre _ ⟨hpl,rfl⟩) (by simp) rfl (by simp [lowB]) hG.out hJ.out (by simp [chunkV,idfL,AV.idf]) ?_ ?_
    ·intro i hi
     simp [mentS,mentB,AV.ment,mentL,Ct.ment,chunkV]
    ·intro Hz F hJ2 hG2
     simp
     refine hK.h _ ⟨(Hz,F),⟨hJ2,hG2⟩,by simp,by simp,?_⟩
     exact leB_g (L:=[(1999999,.hp Hz),(1999999,.hp Hy)]) (by simp [lowB]) hG2
 ·have hnm : n ≤ pre.length * m:=by omega
  have hi':=Hld.mk hi
  clear hi
  repeat' (first
   |(with_reducible first|refine uK ?_|refine uX ?_|refine AW_seqk fun K hK=>?_|refine AW_block ?_)|((with_reducible first|refine rS hE ?_|refine RK_nilk ?_|refine RK_stepk fun K' hK'=>?_|refine AW_if fun X Y hX hY=>?_|refine AW_ret ?_|refine AW_skip ?_|refine AW_exit ?_);simp [*])|with_reducible refine rL hE ?_|with_reducible refine And.intro ?_ ?_|omega|(refine imp1 fun h=>?_))
  exact ⟨[(1999999,.hp Hy)],D,rfl,by simp [lowB],hG.out,pre,hnm,hJ.out⟩
end Go.Proofs.Ytlkijcflfnnbaaa
end
section
namespace Go.Proofs.Ytlkijcflfnnbaaa
open Go.Am
theorem s_chunk (b o n c m : Nat) (hm : 1 ≤ m) : PSpec Try.prog 47 [slV b o n c,iA m] (.fn (.func 61) [] [.ep (slV b o n c),.ep (iA m)]):=by
 have hmI : ¬ (m : Int) < 1:=by omega
 refine PSpec_of Try.func47 rfl rfl (Nat.le_of_ble_eq_true rfl) (Nat.le_of_ble_eq_true rfl) ?_
 intro E hE
 refine AW_seqt ⟨[(4,.v .nilFunc),(3,.loc 3 0),(2,.loc 2 0)],[(3,.box 3 (iA m)),(2,.box 33 (slV b o n c))]⟩ ?_ (by
  intro K hK
  repeat' (first
   |(with_reducible first|refine uK ?_|refine uX ?_|refine AW_seqk fun K hK=>?_|refine AW_block ?_)|((with_reducible first|refine rS hE ?_|refine RK_nilk ?_|refine RK_stepk fun K' hK'=>?_|refine AW_if fun X Y hX hY=>?_|refine AW_ret ?_|refine AW_skip ?_|refine AW_exit ?_);simp [*])|with_reducible refine rL hE ?_|with_reducible refine And.intro ?_ ?_|omega|(refine imp1 fun h=>?_))
  all_goals simp)
 refine AW_freeze 2 (cb:=.box 33 (slV b o n c)) (t:=⟨[(4,.v .nilFunc),(3,.loc 3 0),(2,.ep (slV b o n c))],[(3,.box 3 (iA m))]⟩) (by simp) (by simp) (by simp) ?_
 refine AW_freeze 3 (cb:=.box 3 (iA m)) (t:=⟨[(4,.v .nilFunc),(3,.ep (iA m)),(2,.ep (slV b o n c))],[]⟩) (by simp) (by simp) (by simp) ?_
 repeat' (first
  |(with_reducible first|refine uK ?_|refine uX ?_|refine AW_seqk fun K hK=>?_|refine AW_block ?_)|((with_reducible first|refine rS hE ?_|refine RK_nilk ?_|refine RK_stepk fun K' hK'=>?_|refine AW_if fun X Y hX hY=>?_|refine AW_ret ?_|refine AW_skip ?_|refine AW_exit ?_);simp [*])|with_reducible refine rL hE ?_|with_reducible refine And.intro ?_ ?_|omega|(refine imp1 fun h=>?_))
theorem s_chunk0 (m : Nat) (hm : 1 ≤ m) : PSpec Try.prog 47 [.v (.slice none 0 0),iA m] (.fn (.func 61) [] [.ep (.v (.slice none 0 0)),.ep (iA m)]):=by
 have hmI : ¬ (m : Int) < 1:=by omega
 refine PSpec_of Try.func47 rfl rfl (Nat.le_of_ble_eq_true rfl) (Nat.le_of_ble_eq_true rfl) ?_
 intro E hE
 refine AW_seqt ⟨[(4,.v .nilFunc),(3,.loc 3 0),(2,.loc 2 0)],[(3,.box 3 (iA m)),(2,.box 33 (.v (.slice none 0 0)))]⟩ ?_ (by
  intro K hK
  repeat' (first
   |(with_reducible first|refine uK ?_|refine uX ?_|refine AW_seqk fun K hK=>?_|refine AW_block ?_)|((with_reducible first|refine rS hE ?_|refine RK_nilk ?_|refine RK_stepk fun K' hK'=>?_|refine AW_if fun X Y hX hY=>?_|refine AW_ret ?_|refine AW_skip ?_|refine AW_exit ?_);simp [*])|with_reducible refine rL hE ?_|with_reducible refine And.intro ?_ ?_|omega|(refine imp1 fun h=>?_))
  all_goals simp)
 refine AW_freeze 2 (cb:=.box 33 (.v (.slice none 0 0))) (t:=⟨[(4,.v .nilFunc),(3,.loc 3 0),(2,.ep (.v (.slice none 0 0)))],[(3,.box 3 (iA m))]⟩) (by simp) (by simp) (by simp) ?_
 refine AW_freeze 3 (cb:=.box 3 (iA m)) (t:=⟨[(4,.v .nilFunc),(3,.ep (iA m)),(2,.ep (.v (.slice none 0 0)))],[]⟩) (by simp) (by simp) (by simp) ?_
 repeat' (first
  |(with_reducible first|refine uK ?_|refine uX ?_|refine AW_seqk fun K hK=>?_|refine AW_block ?_)|((with_reducible first|refine rS hE ?_|refine RK_nilk ?_|refine RK_stepk fun K' hK'=>?_|refine AW_if fun X Y hX hY=>?_|refine AW_ret ?_|refine AW_skip ?_|refine AW_exit ?_);simp [*])|with_reducible refine rL hE ?_|with_reducible refine And.intro ?_ ?_|omega|(refine imp1 fun h=>?_))
theorem i_chunk0 (m : Nat) : ISpec Try.prog 61 [.ep (.v (.slice none 0 0)),.ep (iA m)] (fun _ _=>False) (fun xs=>xs = []):=by
 refine ISpec_of Try.func61 rfl rfl (Nat.le_of_ble_eq_true rfl) (Nat.le_of_ble_eq_true rfl) (by simp [idfL,AV.idf]) ?_
 intro l J E hE hY Hx G hJ hG
 replace hJ:=Hld.mk hJ
 replace hG:=Hld.mk hG
 clear hY
 refine AW_seqt ⟨[(4,iA 0),(0,.fn (.yield l) [] []),(1,.ep (.v (.slice none 0 0))),(2,.ep (iA m))],(1999999,.hp Hx) :: gbox G⟩ ?_ (by
  intro K hK
  repeat' (first
   |(with_reducible first|refine uK ?_|refine uX ?_|refine AW_seqk fun K hK=>?_|refine AW_block ?_)|((with_reducible first|refine rS hE ?_|refine RK_nilk ?_|refine RK_stepk fun K' hK'=>?_|refine AW_if fun X Y hX hY=>?_|refine AW_ret ?_|refine AW_skip ?_|refine AW_exit ?_);simp [*])|with_reducible refine rL hE ?_|with_reducible refine And.intro ?_ ?_|omega|(refine imp1 fun h=>?_))
  refine ⟨by simp,by simp,?_⟩
  exact leB_g (L:=[(1999999,.hp Hx)]) (by simp [lowB]) hG.out)
 refine AW_block ?_
 refine AW_loopk (G:=Unit) (fun _=>⟨[(4,iA 0),(0,.fn (.yield l) [] []),(1,.ep (.v (.slice none 0 0))),(2,.ep (iA m))],(1999999,.hp Hx) :: gbox G⟩) (fun _=>True) (fun _=>0) () trivial ?_ ?_
 ·refine ⟨by simp,by simp,?_⟩
  exact leB_g (L:=[(1999999,.hp Hx)]) (by simp [lowB]) hG.out
 intro _ _ K hK
 repeat' (first
  |(with_reducible first|refine uK ?_|refine uX ?_|refine AW_seqk fun K hK=>?_|refine AW_block ?_)|((with_reducible first|refine rS hE ?_|refine RK_nilk ?_|refine RK_stepk fun K' hK'=>?_|refine AW_if fun X Y hX hY=>?_|refine AW_ret ?_|refine AW_skip ?_|refine AW_exit ?_);simp [*])|with_reducible refine rL hE ?_|with_reducible refine And.intro ?_ ?_|omega|(refine imp1 fun h=>?_))
 exact ⟨[(1999999,.hp Hx)],G,rfl,by simp [lowB],hG.out,hJ.out⟩
end Go.Proofs.Ytlkijcflfnnbaaa
end
section
namespace Go.Proofs.Ytlkijcflfnnbaaa
open Go.Am
def RgL (L : List En) : Prop:=∀ x ∈ L,Rg x.b
theorem RgL.perm {L M : List En} (h : RgL L) (hp : M.Perm L) : RgL M:=fun x hx=>h x (hp.mem_iff.1 hx)
theorem RgL.c1 {L : List En} (h : RgL L) : CmpL 58 L:=fun x hx y hy=>⟨_,s_by1 58 x y _ _ (s_side1 _ (h x hx)) (s_side1 _ (h y hy))⟩
theorem RgL.c2 {L : List En} (h : RgL L) : CmpL 59 L:=fun x hx y hy=>⟨_,s_by1 59 x y _ _ (s_side2 _ (h x hx)) (s_side2 _ (h y hy))⟩
theorem RgL.c3 {L : List En} (h : RgL L) : CmpL 60 L:=fun x hx y hy=>⟨_,s_by1 60 x y _ _ (s_side3 _ (h x hx)) (s_side3 _ (h y hy))⟩
abbrev byF : AV:=.fn (.func 54) [] [.ep (fnA 46)]
abbrev rowB (M : List En) : List (Nat × Ct):=[(1000000,.arr 51 7 (M.map encE))]
theorem m_strips (L : List En) (hR : RgL L) (hn : L.length < 1000000000) : MSpec Try.prog 45 [.own 1000000 7 0 L.length,fnA 46] [(1000000,.arr 51 7 (L.map encE))] (PermS L):=by
 replace hR:=Hld.mk hR
 obtain ⟨n,hnL⟩ : ∃ n,n = L.length:=⟨_,rfl⟩
 rw [← hnL] at hn ⊢
 have hnL':=Hld.mk hnL
 clear hnL
 refine MSpec_ofR Try.func45 rfl rfl (Nat.le_of_ble_eq_true rfl) (Nat.le_of_ble_eq_true rfl) ?_
 intro E hE hRO
 replace hRO:=Hld.mk hRO
 refine AW_seqt ⟨[(3,.loc 3 0),(0,.own 1000000 7 0 n)],[(3,.box 85 (fnA 46)),(1000000,.arr 51 7 (L.map encE))]⟩ ?_ (by
  intro K hK
  repeat' (first
   |(with_reducible first|refine uK ?_|refine uX ?_|refine AW_seqk fun K hK=>?_|refine AW_block ?_)|((with_reducible first|refine rS hE ?_|refine RK_nilk ?_|refine RK_stepk fun K' hK'=>?_|refine AW_if fun X Y hX hY=>?_|refine AW_ret ?_|refine AW_skip ?_|refine AW_exit ?_);simp [*])|with_reducible refine rL hE ?_|with_reducible refine And.intro ?_ ?_|omega|(refine imp1 fun h=>?_))
  all_goals simp)
 refine AW_freeze 3 (cb:=.box 85 (fnA 46)) (t:=⟨[(3,.ep (fnA 46)),(0,.own 1000000 7 0 n)],[(1000000,.arr 51 7 (L.map encE))]⟩) (by simp) (by simp) (by simp) ?_
 refine AW_seqt ⟨[(4,.loc 4 0),(0,.own 1000000 7 0 n)],[(4,.box 101 byF),(1000000,.arr 51 7 (L.map encE))]⟩ ?_ (by
  intro K hK
  repeat' (first
   |(with_reducible first|refine uK ?_|refine uX ?_|refine AW_seqk fun K hK=>?_|refine AW_block ?_)|((with_reducible first|refine rS hE ?_|refine RK_nilk ?_|refine RK_stepk fun K' hK'=>?_|refine AW_if fun X Y hX hY=>?_|refine AW_ret ?_|refine AW_skip ?_|refine AW_exit ?_);simp [*])|with_reducible refine rL hE ?_|with_reducible refine And.intro ?_ ?_|omega|(refine imp1 fun h=>?_))
  all_goals simp)
 refine AW_freeze 4 (cb:=.box 101 byF) (t:=⟨[(4,.ep byF),(0,.own 1000000 7 0 n)],[(1000000,.arr 51 7 (L.map encE))]⟩) (by simp) (by simp) (by simp) ?_
 refine AW_seqE (G:=List En) (fun M=>⟨[(4,.ep byF),(0,.own 1000000 7 0 n)],rowB M⟩) (fun M=>M.Perm L) ?_ (by
  intro K hK
  have hms:=Hld.mk (m_sorts 0 n 58 L hR.out.c1 (by have:=hnL'.out;omega) (by have:=hnL'.out;omega))
  repeat' (first
   |(with_reducible first|refine uK ?_|refine uX ?_|refine AW_seqk fun K hK=>?_|refine AW_block ?_)|((with_reducible first|refine rS hE ?_|refine RK_nilk ?_|refine RK_stepk fun K' hK'=>?_|refine AW_if fun X Y hX hY=>?_|refine AW_ret ?_|refine AW_skip ?_|refine AW_exit ?_);simp [*])|with_reducible refine rL hE ?_|(refine acall_same (s_by 58) ?_ ?_ ?_;(iterate 2 (focus (simp [*] <;> fail)));simp [*])|(refine acall_view (s_by 58) ?_ ?_ ?_;(iterate 2 (focus (simp [*] <;> fail)));simp [*])|with_reducible refine And.intro ?_ ?_|omega|(refine imp1 fun h=>?_))
  refine acall_perm hms.out (by simp) (by simp) fun N' hN'=>?_
  simp
  replace hN':=Hld.mk hN'
  repeat' (first
   |(with_reducible first|refine uK ?_|refine uX ?_|refine AW_seqk fun K hK=>?_|refine AW_block ?_)|((with_reducible first|refine rS hE ?_|refine RK_nilk ?_|refine RK_stepk fun K' hK'=>?_|refine AW_if fun X Y hX hY=>?_|refine AW_ret ?_|refine AW_skip ?_|refine AW_exit ?_);simp [*])|with_reducible refine rL hE ?_|with_reducible refine And.intro ?_ ?_|omega|(refine imp1 fun h=>?_))
  exact ⟨N',hN'.out,by simp⟩)
 intro M hM
 replace hM:=Hld.mk hM
 refine AW_bind 0 (id:=1000000) (k:=7) (off:=0) (n:=n) (by simp) (by decide) ?_ ?_
 ·intro hr0 hn0
  simp
  refine AW_seqt ⟨[(13,.fn (.func 61) [] [.ep (.v (.slice none 0 0)),.ep (iA 512)])],rowB M⟩ ?_ (by
   intro K hK
   repeat' (first
    |(with_reducible first|refine uK ?_|refine uX ?_|refine AW_seqk fun K hK=>?_|refine AW_block ?_)|((with_reducible first|refine rS hE ?_|refine RK_nilk ?_|refine RK_stepk fun K' hK'=>?_|refine AW_if fun X Y hX hY=>?_|refine AW_ret ?_|refine AW_skip ?_|refine AW_exit ?_);simp [*])|with_reducible refine rL hE ?_|(refine acall_same (s_chunk0 512 (by omega)) ?_ ?_ ?_;(iterate 2 (focus (simp [*] <;> fail)));simp [*])|(refine acall_view (s_chunk0 512 (by omega)) ?_ ?_ ?_;(iterate 2 (focus (simp [*] <;> fail)));simp [*])|with_reducible refine And.intro ?_ ?_|omega|(refine imp1 fun h=>?_))
   all_goals simp)
  refine AW_block ?_
  refine AW_rangeFunc (fun i=>i) [] (fun N : List En=>rowB N) (fun _ N=>N.Perm L) M hM.out hRO.out (i_chunk0 512) (by simp) (by simp [idfL,AV.idf]) (fun _ _ h=>h.elim) (by rw [hE];decide) (fun _=>rfl) (fun _ h=>h) (fun _ _ _=>rfl)
   (slots_of (by simp)) (boxes_of (by simp [Ct.ren])) (by simp [mentS]) (fun _ _ _ _ d _ h=>absurd rfl h) (fun _ _ _ _ _ h=>h.elim) ?_
  intro xs N _ hN
  replace hN:=Hld.mk hN
  simp [Ct.ren]
  repeat' (first
   |(with_reducible first|refine uK ?_|refine uX ?_|refine AW_seqk fun K hK=>?_|refine AW_block ?_)|((with_reducible first|refine rS hE ?_|refine RK_nilk ?_|refine RK_stepk fun K' hK'=>?_|refine AW_if fun X Y hX hY=>?_|refine AW_ret ?_|refine AW_skip ?_|refine AW_exit ?_);simp [*])|with_reducible refine rL hE ?_|with_reducible refine And.intro ?_ ?_|omega|(refine imp1 fun h=>?_))
  exact ⟨rfl,N,hN.out,rfl⟩
 ·intro b cap cc hr0 hncc hcc hmax
  simp
  refine AW_seqt ⟨[(13,.fn (.func 61) [] [.ep (slV b 0 n cc),.ep (iA 512)]),(4,.ep byF)],rowB M⟩ ?_ (by
   intro K hK
   repeat' (first
    |(with_reducible first|refine uK ?_|refine uX ?_|refine AW_seqk fun K hK=>?_|refine AW_block ?_)|((with_reducible first|refine rS hE ?_|refine RK_nilk ?_|refine RK_stepk fun K' hK'=>?_|refine AW_if fun X Y hX hY=>?_|refine AW_ret ?_|refine AW_skip ?_|refine AW_exit ?_);simp [*])|with_reducible refine rL hE ?_|(refine acall_same (s_chunk b 0 n cc 512 (by omega)) ?_ ?_ ?_;(iterate 2 (focus (simp [*] <;> fail)));simp [*])|(refine acall_view (s_chunk b 0 n cc 512 (by omega)) ?_ ?_ ?_;(iterate 2 (focus (simp [*] <;> fail)));simp [*])|with_reducible refine And.intro ?_ ?_|omega|(refine imp1 fun h=>?_))
   all_goals simp)
  refine AW_block ?_
  refine AW_rangeFunc (fun i=>i) [(4,.ep byF)] (fun N : List En=>rowB N) (fun _ N=>N.Perm L) M hM.out hRO.out (i_chunk b 0 n cc 512 (by omega) (by omega) hncc (by omega)) (by simp) (by simp [idfL,AV.idf]) (fun _ _ h=>by rw [h.2];simp [chunkV,idfL,AV.idf]) (by rw [hE];decide) (fun _=>rfl) (fun _ h=>h) (fun _ _ _=>rfl)
   (slots_of (by simp)) (boxes_of (by simp [Ct.ren])) (by simp [mentS,AV.ment,mentL]) (fun _ _ _ _ d _ h=>absurd rfl h) ?_ ?_
  ·intro E' hE' pre x N hok hN
   obtain ⟨hp1,rfl⟩:=hok
   obtain ⟨i,hi⟩ : ∃ i,i = pre.length * 512:=⟨_,rfl⟩
   obtain ⟨e,he,he1⟩ : ∃ e : Nat,e = min 512 (n - i) ∧ 0 < e:=⟨_,rfl,by omega⟩
   have hx : chunkV b 0 n 512 pre.length = [slV b (i * 7) e e]:=by simp only [chunkV,← hi,← he,Nat.zero_add]
   have hie : i + e ≤ n:=by omega
   rw [hx]
   clear hx he hi hp1
   have hE0:=hE
   replace hE:=hE'.n.trans hE0
   replace hN:=Hld.mk hN
   simp only [pslots]
   repeat' (first
    |(with_reducible first|refine uK ?_|refine uX ?_|refine AW_seqk fun K hK=>?_|refine AW_block ?_)|((with_reducible first|refine rS hE ?_|refine RK_nilk ?_|refine RK_stepk fun K' hK'=>?_|refine AW_if fun X Y hX hY=>?_|refine AW_ret ?_|refine AW_skip ?_|refine AW_exit ?_);simp [*])|with_reducible refine rL hE ?_|with_reducible refine And.intro ?_ ?_|omega|(refine imp1 fun h=>?_))
   intro E2 hE2
   clear hE
   have hE:=hE2.n.trans hE0
   have hr2:=(hE2.r0 1000000 (by omega) (by omega)).trans hr0
   refine AW_unbind 5 1000000 7 i (n:=e) (cc:=e) (by simp) (by decide) hr2 rfl (Nat.le_refl _) (by omega) hmax ?_
   simp
   refine AW_block ?_
   refine AW_seqE (G:=List En) (fun N=>⟨[(5,.own 1000000 7 i e),(4,.ep byF)],rowB N⟩) (fun N=>N.Perm L) ?_ (by
    intro K hK
    have hnl:=hN.out.length_eq
    have hms:=Hld.mk (m_sorts i e 59 N ((hR.out.perm hN.out).c2) (by have:=hnL'.out;omega) (by have:=hnL'.out;omega))
    clear hnl
    repeat' (first
     |(with_reducible first|refine uK ?_|refine uX ?_|refine AW_seqk fun K hK=>?_|refine AW_block ?_)|((with_reducible first|refine rS hE ?_|refine RK_nilk ?_|refine RK_stepk fun K' hK'=>?_|refine AW_if fun X Y hX hY=>?_|refine AW_ret ?_|refine AW_skip ?_|refine AW_exit ?_);simp [*])|with_reducible refine rL hE ?_|(refine acall_same (s_by 59) ?_ ?_ ?_;(iterate 2 (focus (simp [*] <;> fail)));simp [*])|(refine acall_view (s_by 59) ?_ ?_ ?_;(iterate 2 (focus (simp [*] <;> fail)));simp [*])|with_reducible refine And.intro ?_ ?_|omega|(refine imp1 fun h=>?_))
    refine acall_perm hms.out (by simp) (by simp) fun N' hN'=>?_
    simp
    replace hN':=Hld.mk (hN'.trans hN.out)
    repeat' (first
     |(with_reducible first|refine uK ?_|refine uX ?_|refine AW_seqk fun K hK=>?_|refine AW_block ?_)|((with_reducible first|refine rS hE ?_|refine RK_nilk ?_|refine RK_stepk fun K' hK'=>?_|refine AW_if fun X Y hX hY=>?_|refine AW_ret ?_|refine AW_skip ?_|refine AW_exit ?_);simp [*])|with_reducible refine rL hE ?_|with_reducible refine And.intro ?_ ?_|omega|(refine imp1 fun h=>?_))
    exact ⟨N',hN'.out,by simp⟩)
   clear hN
   intro N hN
   replace hN:=Hld.mk hN
   refine AW_bind 5 (id:=1000000) (k:=7) (off:=i) (n:=e) (by simp) (by decide) (fun h=>by rw [hr2] at h;cases h) ?_
   intro b1 cap1 cc1 hr1 hec hcc1 _
   rw [hr2] at hr1
   cases hr1
   simp
   refine AW_seqt ⟨[(20,.fn (.func 61) [] [.ep (slV b (i * 7) e cc1),.ep (iA 64)]),(4,.ep byF)],rowB N⟩ ?_ (by
    intro K hK
    repeat' (first
     |(with_reducible first|refine uK ?_|refine uX ?_|refine AW_seqk fun K hK=>?_|refine AW_block ?_)|((with_reducible first|refine rS hE ?_|refine RK_nilk ?_|refine RK_stepk fun K' hK'=>?_|refine AW_if fun X Y hX hY=>?_|refine AW_ret ?_|refine AW_skip ?_|refine AW_exit ?_);simp [*])|with_reducible refine rL hE ?_|(refine acall_same (s_chunk b (i * 7) e cc1 64 (by omega)) ?_ ?_ ?_;(iterate 2 (focus (simp [*] <;> fail)));simp [*])|(refine acall_view (s_chunk b (i * 7) e cc1 64 (by omega)) ?_ ?_ ?_;(iterate 2 (focus (simp [*] <;> fail)));simp [*])|with_reducible refine And.intro ?_ ?_|omega|(refine imp1 fun h=>?_))
    all_goals simp)
   refine AW_block ?_
   refine AW_rangeFunc (fun i=>i) [(4,.ep byF)] (fun N : List En=>rowB N) (fun _ N=>N.Perm L) N hN.out hE2.ok (i_chunk b (i * 7) e cc1 64 (by omega) (by omega) hec (by omega)) (by simp) (by simp [idfL,AV.idf]) (fun _ _ h=>by rw [h.2];simp [chunkV,idfL,AV.idf]) (by rw [hE];decide) (fun _=>rfl) (fun _ h=>h) (fun _ _ _=>rfl)
    (slots_of (by simp)) (boxes_of (by simp [Ct.ren])) (by simp [mentS,AV.ment,mentL]) (fun _ _ _ _ d _ h=>absurd rfl h) ?_ ?_
   ·clear hN
    clear N
    intro E3 hE3 pre x N hok hN
    obtain ⟨hp1,rfl⟩:=hok
    obtain ⟨j,hj⟩ : ∃ j,j = pre.length * 64:=⟨_,rfl⟩
    obtain ⟨f,hf,hf1⟩ : ∃ f : Nat,f = min 64 (e - j) ∧ 0 < f:=⟨_,rfl,by omega⟩
    have hx : chunkV b (i * 7) e 64 pre.length = [slV b (i * 7 + j * 7) f f]:=by simp only [chunkV,← hj,← hf]
    have hjf : j + f ≤ e:=by omega
    rw [hx]
    clear hx hf hj hp1
    clear hE
    have hE:=hE3.n.trans (hE2.n.trans hE0)
    replace hN:=Hld.mk hN
    simp only [pslots]
    repeat' (first
     |(with_reducible first|refine uK ?_|refine uX ?_|refine AW_seqk fun K hK=>?_|refine AW_block ?_)|((with_reducible first|refine rS hE ?_|refine RK_nilk ?_|refine RK_stepk fun K' hK'=>?_|refine AW_if fun X Y hX hY=>?_|refine AW_ret ?_|refine AW_skip ?_|refine AW_exit ?_);simp [*])|with_reducible refine rL hE ?_|with_reducible refine And.intro ?_ ?_|omega|(refine imp1 fun h=>?_))
    intro E4 hE4
    clear hE
    have hE:=hE4.n.trans (hE2.n.trans hE0)
    have hr4:=(hE4.r0 1000000 (by omega) (by omega)).trans hr2
    refine AW_unbind 6 1000000 7 (i + j) (oo:=i * 7 + j * 7) (n:=f) (cc:=f) (by simp) (by decide) hr4 (by omega) (Nat.le_refl _) (by omega) hmax ?_
    simp
    refine AW_block ?_
    have hnl:=hN.out.length_eq
    have hms:=Hld.mk (m_sorts (i + j) f 60 N ((hR.out.perm hN.out).c3) (by have:=hnL'.out;omega) (by have:=hnL'.out;omega))
    clear hnl
    repeat' (first
     |(with_reducible first|refine uK ?_|refine uX ?_|refine AW_seqk fun K hK=>?_|refine AW_block ?_)|((with_reducible first|refine rS hE ?_|refine RK_nilk ?_|refine RK_stepk fun K' hK'=>?_|refine AW_if fun X Y hX hY=>?_|refine AW_ret ?_|refine AW_skip ?_|refine AW_exit ?_);simp [*])|with_reducible refine rL hE ?_|(refine acall_same (s_by 60) ?_ ?_ ?_;(iterate 2 (focus (simp [*] <;> fail)));simp [*])|(refine acall_view (s_by 60) ?_ ?_ ?_;(iterate 2 (focus (simp [*] <;> fail)));simp [*])|with_reducible refine And.intro ?_ ?_|omega|(refine imp1 fun h=>?_))
    refine acall_perm hms.out (by simp) (by simp) fun N' hN'=>?_
    simp
    replace hN':=Hld.mk (hN'.trans hN.out)
    repeat' (first
     |(with_reducible first|refine uK ?_|refine uX ?_|refine AW_seqk fun K hK=>?_|refine AW_block ?_)|((with_reducible first|refine rS hE ?_|refine RK_nilk ?_|refine RK_stepk fun K' hK'=>?_|refine AW_if fun X Y hX hY=>?_|refine AW_ret ?_|refine AW_skip ?_|refine AW_exit ?_);simp [*])|with_reducible refine rL hE ?_|with_reducible refine And.intro ?_ ?_|omega|(refine imp1 fun h=>?_))
    exact ⟨N',hN'.out,by simp⟩
   ·intro xs N _ hN
    simp [Ct.ren]
    exact ⟨N,hN,rfl⟩
  ·intro xs N _ hN
   replace hN:=Hld.mk hN
   simp [Ct.ren]
   repeat' (first
    |(with_reducible first|refine uK ?_|refine uX ?_|refine AW_seqk fun K hK=>?_|refine AW_block ?_)|((with_reducible first|refine rS hE ?_|refine RK_nilk ?_|refine RK_stepk fun K' hK'=>?_|refine AW_if fun X Y hX hY=>?_|refine AW_ret ?_|refine AW_skip ?_|refine AW_exit ?_);simp [*])|with_reducible refine rL hE ?_|with_reducible refine And.intro ?_ ?_|omega|(refine imp1 fun h=>?_))
   exact ⟨rfl,N,hN.out,rfl⟩
end Go.Proofs.Ytlkijcflfnnbaaa
end
section
namespace Go.Proofs.Ytlkijcflfnnbaaa
open Go.Am
inductive Vis (nd : List Nd) (b : Bx) : List Int → List Nd → Prop
 |nil : Vis nd b [] []
 |cons {k : Nat} {st : List Int} {x : Nd} {vs : List Nd} (hk : nd[k]? = some x) (h : Vis nd b ((if meetX x.b b then x.ch.reverse else []) ++ st) vs) : Vis nd b ((k : Int) :: st) (x :: vs)
theorem Vis.len {nd : List Nd} {b : Bx} : ∀ {st : List Int} {vs : List Nd},Vis nd b st vs → st.length ≤ vs.length
 |_,_,.nil=>Nat.le_refl _
 |_,_,.cons hk h=>by
  have:=h.len
  simp at this ⊢
  omega
attribute [simp] lk_gbox_low mentB_gbox
@[simp] theorem killB_gbox (d : Nat) : ∀ G : GL,killB d (gbox G) = gbox G
  |[]=>rfl
  |p :: G=>by
   have:=killB_gbox d G
   simp only [gbox,List.map_cons,killB,Ct.ment] at this ⊢
   simp [this]
def okV' (V : List Nd) (pre : List (List AV)) (x : List AV) : Prop:=∃ i,∃ h : i < V.length,pre = (V.take i).map (fun n=>[encN n]) ∧ x = [encN V[i]]
theorem i_looked (tr : Tr) (b : Bx) (V : List Nd) (hV : Vis tr.nd b [0] V) (h0 : tr.nd ≠ []) (hb : chkX b = 0) (hlen : V.length < 1000000000) :
 ISpec Try.prog 49 [.ep (.ep (encT tr)),.ep (encX b)] (okV' V) (fun xs=>xs = V.map (fun n=>[encN n])):=by
 refine ISpec_of Try.func49 rfl rfl (Nat.le_of_ble_eq_true rfl) (Nat.le_of_ble_eq_true rfl) (by simp [idfL,AV.idf]) ?_
 intro l J E hE hY Hx G hJ hG
 replace hY:=Hld.mk hY
 replace hJ:=Hld.mk hJ
 replace hG:=Hld.mk hG
 replace hV:=Hld.mk hV
 have hle : ∀ (L : List (Nat × Ct)) (ss : List (Nat × AV)) (G' : GL) (_ : GOk G'),lowB L → leB ⟨ss,L ++ gbox G'⟩ (gbox G'):=fun L ss G' h hL=>leB_g hL h
 replace hle:=Hld.mk hle
 have hn0 : ¬ ((tr.nd.length : Int) = 0):=by
  intro h
  exact h0 (List.length_eq_zero_iff.1 (by omega))
 refine AW_seqt ⟨[(0,.fn (.yield l) [] []),(1,.ep (.ep (encT tr))),(2,.ep (encX b))],(1999999,.hp Hx) :: gbox G⟩ ?_ (by
  intro K hK
  have hs:=s_chk1 b
  rw [hb] at hs
  replace hs:=Hld.mk hs
  repeat' (first
   |(with_reducible first|refine uK ?_|refine uX ?_|refine AW_seqk fun K hK=>?_|refine AW_block ?_)|((with_reducible first|refine rS hE ?_|refine RK_nilk ?_|refine RK_stepk fun K' hK'=>?_|refine AW_if fun X Y hX hY=>?_|refine AW_ret ?_|refine AW_skip ?_|refine AW_exit ?_);simp [*])|with_reducible refine rL hE ?_|(refine acall_same (hs.out) ?_ ?_ ?_;(iterate 2 (focus (simp [*] <;> fail)));simp [*])|(refine acall_view (hs.out) ?_ ?_ ?_;(iterate 2 (focus (simp [*] <;> fail)));simp [*])|with_reducible refine And.intro ?_ ?_|omega|(refine imp1 fun h=>?_))
  exact ⟨by simp,by simp,hle.out [(1999999,.hp Hx)] _ _ hG.out (by simp [lowB])⟩)
 refine AW_seqt ⟨[(4,.own 21 1 0 1),(0,.fn (.yield l) [] []),(1,.ep (.ep (encT tr))),(2,.ep (encX b))],(21,.arr 3 1 [iA 0]) :: (1999999,.hp Hx) :: gbox G⟩ ?_ (by
  intro K hK
  repeat' (first
   |(with_reducible first|refine uK ?_|refine uX ?_|refine AW_seqk fun K hK=>?_|refine AW_block ?_)|((with_reducible first|refine rS hE ?_|refine RK_nilk ?_|refine RK_stepk fun K' hK'=>?_|refine AW_if fun X Y hX hY=>?_|refine AW_ret ?_|refine AW_skip ?_|refine AW_exit ?_);simp [*])|with_reducible refine rL hE ?_|with_reducible refine And.intro ?_ ?_|omega|(refine imp1 fun h=>?_))
  exact ⟨by simp,by simp,by simp,hle.out [(21,.arr 3 1 [iA 0]),(1999999,.hp Hx)] _ _ hG.out (by simp [lowB])⟩)
 refine AW_block ?_
 refine AW_loopk (G:=Nat × List Int × List Int × Heap × GL) (fun g=>⟨[(4,.own 21 1 0 g.2.1.length),(0,.fn (.yield l) [] []),(1,.ep (.ep (encT tr))),(2,.ep (encX b))],(21,.arr 3 1 (g.2.2.1.map iA)) :: (1999999,.hp g.2.2.2.1) :: gbox g.2.2.2.2⟩)
  (fun g=>(g.1 ≤ V.length ∧ Vis tr.nd b g.2.1 (V.drop g.1)) ∧ (g.2.1.length ≤ g.2.2.1.length ∧ g.2.2.1.take g.2.1.length = g.2.1.reverse) ∧ Hld (J ((V.take g.1).map (fun n=>[encN n])) g.2.2.2.1 g.2.2.2.2) ∧ Hld (GOk g.2.2.2.2)) (fun g=>V.length - g.1) (0,[0],[0],Hx,G)
  ⟨⟨(show 0 ≤ V.length by omega),hV.out⟩,⟨Nat.le_refl _,rfl⟩,hJ,hG⟩ ?_ ?_
 ·exact ⟨by simp,by simp,by simp,hle.out [(21,.arr 3 1 [iA 0]),(1999999,.hp Hx)] _ _ hG.out (by simp [lowB])⟩
 clear hJ hG
 rintro ⟨i,st,R,Hy,D⟩ ⟨⟨hi,hvis⟩,⟨hR1,hR2⟩,hJ,hG⟩ K hK
 replace hi : i ≤ V.length:=hi
 replace hvis : Vis tr.nd b st (V.drop i):=hvis
 replace hR1 : st.length ≤ R.length:=hR1
 replace hR2 : R.take st.length = st.reverse:=hR2
 replace hJ : Hld (J ((V.take i).map (fun n=>[encN n])) Hy D):=hJ
 replace hG : Hld (GOk D):=hG
 generalize hvs : V.drop i = vs at hvis
 cases hvis with
 |nil =>
  have hiV : i = V.length:=by
   have:=congrArg List.length hvs
   simp at this
   omega
  clear hvs hR2
  rw [hiV,List.take_length] at hJ
  repeat' (first
   |(with_reducible first|refine uK ?_|refine uX ?_|refine AW_seqk fun K hK=>?_|refine AW_block ?_)|((with_reducible first|refine rS hE ?_|refine RK_nilk ?_|refine RK_stepk fun K' hK'=>?_|refine AW_if fun X Y hX hY=>?_|refine AW_ret ?_|refine AW_skip ?_|refine AW_exit ?_);simp [*])|with_reducible refine rL hE ?_|with_reducible refine And.intro ?_ ?_|omega|(refine imp1 fun h=>?_))
  exact ⟨[(21,.arr 3 1 (R.map iA)),(1999999,.hp Hy)],D,rfl,by simp [lowB],hG.out,hJ.out⟩
 |cons hk hnext =>
  rename_i k st' x vs'
  have hlen2:=hnext.len
  have hilt : i < V.length:=by
   have:=congrArg List.length hvs
   simp at this
   omega
  have hxV : V[i] = x ∧ V.drop (i + 1) = vs':=by
   rw [List.drop_eq_getElem_cons hilt] at hvs
   exact List.cons.inj hvs
  have hvl : vs'.length ≤ V.length:=by rw [← hxV.2];simp
  have hm : R[st'.length]? = some (k : Int):=by
   have h1 : (R.take (st'.length + 1))[st'.length]? = some (k : Int):=by
    have : R.take (st'.length + 1) = st'.reverse ++ [(k : Int)]:=by simpa using hR2
    rw [this]
    simp
   rw [List.getElem?_take] at h1
   simpa using h1
  have hR3 : R.take st'.length = st'.reverse:=by
   have : R.take (st'.length + 1) = st'.reverse ++ [(k : Int)]:=by simpa using hR2
   have h2:=congrArg (List.take st'.length) this
   rw [List.take_take] at h2
   simpa using h2
  obtain ⟨m,hme⟩ : ∃ m,m = st'.length:=⟨_,rfl⟩
  have hml : ((k : Int) :: st').length = m + 1:=by simp [hme]
  simp only [hml] at hR1 ⊢
  rw [← hme] at hm hR3
  have hRm:=Hld.mk hR3
  have hmR:=Hld.mk hme
  have hnx:=Hld.mk hnext
  have hxv:=Hld.mk hxV
  have hmV : m + (if meetX x.b b then x.ch.length else 0) ≤ V.length:=by
   have : ((if meetX x.b b then x.ch.reverse else []) ++ st').length = m + (if meetX x.b b then x.ch.length else 0):=by
    rw [List.length_append,← hme]
    split <;> simp <;> omega
   omega
  clear hR2 hR3 hme hnext hxV hvs hlen2 hvl hml
  have hkI : ((k : Int)).toNat = k:=by omega
  have hklt : k < tr.nd.length:=(List.getElem?_eq_some_iff.1 hk).1
  have hkx : tr.nd[k] = x:=(List.getElem?_eq_some_iff.1 hk).2
  clear hk
  refine AW_seqt ⟨[(4,.own 21 1 0 (m + 1)),(0,.fn (.yield l) [] []),(1,.ep (.ep (encT tr))),(2,.ep (encX b))],(21,.arr 3 1 (R.map iA)) :: (1999999,.hp Hy) :: gbox D⟩ ?_ (by
   intro K hK
   repeat' (first
    |(with_reducible first|refine uK ?_|refine uX ?_|refine AW_seqk fun K hK=>?_|refine AW_block ?_)|((with_reducible first|refine rS hE ?_|refine RK_nilk ?_|refine RK_stepk fun K' hK'=>?_|refine AW_if fun X Y hX hY=>?_|refine AW_ret ?_|refine AW_skip ?_|refine AW_exit ?_);simp [*])|with_reducible refine rL hE ?_|with_reducible refine And.intro ?_ ?_|omega|(refine imp1 fun h=>?_))
   exact ⟨by simp,by simp,by simp,hle.out [(21,.arr 3 1 (R.map iA)),(1999999,.hp Hy)] _ _ hG.out (by simp [lowB])⟩)
  refine AW_block ?_
  refine AW_seqt ⟨[(5,.loc 5 0),(4,.own 21 1 0 (m + 1)),(0,.fn (.yield l) [] []),(1,.ep (.ep (encT tr))),(2,.ep (encX b))],(5,.box 60 (encN x)) :: (21,.arr 3 1 (R.map iA)) :: (1999999,.hp Hy) :: gbox D⟩ ?_ (by
   intro K hK
   repeat' (first
    |(with_reducible first|refine useK (by assumption) ?_|refine useK2 (by assumption) ?_|refine useX (by assumption) ?_|refine AW_seqk fun K hK=>?_|refine AW_block ?_)|(with_reducible refine AW_regionS rfl (by rw [hE];decide) ?_;simp [*])|with_reducible refine AW_region (by rw [hE];decide) ?_|((with_reducible show RK _ _ _ _ _ _);first|(refine RK_nilk ?_;simp [*])|(refine RK_stepk fun K' hK'=>?_;simp [*]))|with_reducible refine AW_drawq mixed (by rw [hE];decide) (by simp [newOK]) ?_|((with_reducible show RKQ _ _ _ _ _ _);first|refine RKQ_nilk ⟨by decide,?_⟩|(refine RKQ_stepk fun K' hK'=>?_;simp [*]))|((with_reducible first|refine AW_if fun X Y hX hY=>?_|refine AW_ret ?_|refine AW_skip ?_|refine AW_exit ?_);simp [*])|with_reducible refine And.intro ?_ ?_|omega|(refine imp1 fun h=>?_))
   exact ⟨by simp,by simp,by simp,by simp,hle.out [(5,.box 60 (encN x)),(5,.box 60 (.st [iA 0,iA 0,iA 0,iA 0,iA 0,iA 0,.v (.slice none 0 0),.v (.slice none 0 0)])),(21,.arr 3 1 (R.map iA)),(1999999,.hp Hy)] _ _ hG.out (by simp [lowB])⟩)
  refine AW_seqt ⟨[(5,.loc 5 0),(4,.own 21 1 0 m),(0,.fn (.yield l) [] []),(1,.ep (.ep (encT tr))),(2,.ep (encX b))],(5,.box 60 (encN x)) :: (21,.arr 3 1 (R.map iA)) :: (1999999,.hp Hy) :: gbox D⟩ ?_ (by
   intro K hK
   repeat' (first
    |(with_reducible first|refine uK ?_|refine uX ?_|refine AW_seqk fun K hK=>?_|refine AW_block ?_)|((with_reducible first|refine rS hE ?_|refine RK_nilk ?_|refine RK_stepk fun K' hK'=>?_|refine AW_if fun X Y hX hY=>?_|refine AW_ret ?_|refine AW_skip ?_|refine AW_exit ?_);simp [*])|with_reducible refine rL hE ?_|with_reducible refine And.intro ?_ ?_|omega|(refine imp1 fun h=>?_))
   exact ⟨by simp,by simp,by simp,by simp,hle.out [(5,.box 60 (encN x)),(21,.arr 3 1 (R.map iA)),(1999999,.hp Hy)] _ _ hG.out (by simp [lowB])⟩)
  refine AW_seqE (G:=Heap × GL) (fun g=>⟨[(5,.loc 5 0),(4,.own 21 1 0 m),(0,.fn (.yield l) [] []),(1,.ep (.ep (encT tr))),(2,.ep (encX b))],(5,.box 60 (encN x)) :: (21,.arr 3 1 (R.map iA)) :: (1999999,.hp g.1) :: gbox g.2⟩)
   (fun g=>J ((V.take (i + 1)).map (fun n=>[encN n])) g.1 g.2 ∧ GOk g.2) ?_ ?_
  ·rintro ⟨Hz,F⟩ ⟨hJ2,hG2⟩
   replace hJ2:=Hld.mk hJ2
   replace hG2:=Hld.mk hG2
   have hsm:=Hld.mk (s_meets x.b b)
   clear hJ hG
   by_cases hme : meetX x.b b = true
   ·rw [if_pos hme] at hmV
    have hnx2:=hnx.out
    rw [if_pos hme] at hnx2
    replace hnx2:=Hld.mk hnx2
    repeat' (first
     |(with_reducible first|refine uK ?_|refine uX ?_|refine AW_seqk fun K hK=>?_|refine AW_block ?_)|((with_reducible first|refine rS hE ?_|refine RK_nilk ?_|refine RK_stepk fun K' hK'=>?_|refine AW_if fun X Y hX hY=>?_|refine AW_ret ?_|refine AW_skip ?_|refine AW_exit ?_);simp [*])|with_reducible refine rL hE ?_|(refine acall_same (hsm.out) ?_ ?_ ?_;(iterate 2 (focus (simp [*] <;> fail)));simp [*])|(refine acall_view (hsm.out) ?_ ?_ ?_;(iterate 2 (focus (simp [*] <;> fail)));simp [*])|with_reducible refine And.intro ?_ ?_|omega|(refine imp1 fun h=>?_))
    have e1 : (x.ch.reverse ++ st').length = m + x.ch.length:=by rw [List.length_append,← hmR.out,List.length_reverse];omega
    have hRl : (R.take m).length = m:=by rw [hRm.out,List.length_reverse,← hmR.out]
    have e2 : (R.take m ++ x.ch).take (x.ch.reverse ++ st').length = (x.ch.reverse ++ st').reverse:=by
     rw [e1,List.reverse_append,List.reverse_reverse,← hRm.out]
     rw [List.take_of_length_le (by rw [List.length_append,hRl];exact Nat.le_refl _)]
    refine ⟨(i + 1,x.ch.reverse ++ st',R.take m ++ x.ch,Hz,F),⟨⟨(show i + 1 ≤ V.length by omega),(show Vis tr.nd b (x.ch.reverse ++ st') (V.drop (i + 1)) by rw [hxv.out.2];exact hnx2.out)⟩,⟨(show (x.ch.reverse ++ st').length ≤ (R.take m ++ x.ch).length by rw [e1,List.length_append,hRl];exact Nat.le_refl _),e2⟩,hJ2,hG2⟩,(show V.length - (i + 1) < V.length - i by omega),?_⟩
    simp only [e1]
    exact ⟨by simp,by simp [List.map_take],by simp,hle.out [(21,.arr 3 1 ((R.map iA).take m ++ x.ch.map iA)),(5,.box 60 (encN x)),(21,.arr 3 1 (R.map iA)),(1999999,.hp Hz)] _ _ hG2.out (by simp [lowB])⟩
   ·rw [Bool.not_eq_true] at hme
    have hnx2:=hnx.out
    rw [hme,if_neg (by simp),List.nil_append] at hnx2
    replace hnx2:=Hld.mk hnx2
    clear hmV
    repeat' (first
     |(with_reducible first|refine uK ?_|refine uX ?_|refine AW_seqk fun K hK=>?_|refine AW_block ?_)|((with_reducible first|refine rS hE ?_|refine RK_nilk ?_|refine RK_stepk fun K' hK'=>?_|refine AW_if fun X Y hX hY=>?_|refine AW_ret ?_|refine AW_skip ?_|refine AW_exit ?_);simp [*])|with_reducible refine rL hE ?_|(refine acall_same (hsm.out) ?_ ?_ ?_;(iterate 2 (focus (simp [*] <;> fail)));simp [*])|(refine acall_view (hsm.out) ?_ ?_ ?_;(iterate 2 (focus (simp [*] <;> fail)));simp [*])|with_reducible refine And.intro ?_ ?_|omega|(refine imp1 fun h=>?_))
    refine ⟨(i + 1,st',R,Hz,F),⟨⟨(show i + 1 ≤ V.length by omega),(show Vis tr.nd b st' (V.drop (i + 1)) by rw [hxv.out.2];exact hnx2.out)⟩,⟨(show st'.length ≤ R.length by rw [← hmR.out];omega),(show R.take st'.length = st'.reverse by rw [← hmR.out];exact hRm.out)⟩,hJ2,hG2⟩,(show V.length - (i + 1) < V.length - i by omega),by simp [hmR.out],by simp,by simp,hle.out [(5,.box 60 (encN x)),(21,.arr 3 1 (R.map iA)),(1999999,.hp Hz)] _ _ hG2.out (by simp [lowB])⟩
  ·intro K hK
   refine AW_seqE (G:=Heap × GL) (fun g=>⟨[(45,bA false),(5,.loc 5 0),(4,.own 21 1 0 m),(0,.fn (.yield l) [] []),(1,.ep (.ep (encT tr))),(2,.ep (encX b))],(5,.box 60 (encN x)) :: (21,.arr 3 1 (R.map iA)) :: (1999999,.hp g.1) :: gbox g.2⟩)
    (fun g=>J ((V.take (i + 1)).map (fun n=>[encN n])) g.1 g.2 ∧ GOk g.2) ?_ ?_
   ·rintro ⟨Hz,F⟩ ⟨hJ2,hG2⟩
    replace hJ2:=Hld.mk hJ2
    replace hG2:=Hld.mk hG2
    repeat' (first
     |(with_reducible first|refine uK ?_|refine uX ?_|refine AW_seqk fun K hK=>?_|refine AW_block ?_)|((with_reducible first|refine rS hE ?_|refine RK_nilk ?_|refine RK_stepk fun K' hK'=>?_|refine AW_if fun X Y hX hY=>?_|refine AW_ret ?_|refine AW_skip ?_|refine AW_exit ?_);simp [*])|with_reducible refine rL hE ?_|with_reducible refine And.intro ?_ ?_|omega|(refine imp1 fun h=>?_))
    exact ⟨(Hz,F),⟨hJ2.out,hG2.out⟩,by simp,by simp,by simp,by simp,hle.out [(5,.box 60 (encN x)),(21,.arr 3 1 (R.map iA)),(1999999,.hp Hz)] _ _ hG2.out (by simp [lowB])⟩
   ·intro K hK
    refine AW_regionY 2 rfl rfl (by rw [hE];decide) ?_
    change RK _ _ _ [_,_] _ _
    have htk : (V.take (i + 1)).map (fun n=>[encN n]) = (V.take i).map (fun n=>[encN n]) ++ [[encN x]]:=by
     rw [List.take_succ_eq_append_getElem hilt,List.map_append,hxv.out.1]
     rfl
    replace htk:=Hld.mk htk
    repeat' (first
     |(with_reducible first|refine uK ?_|refine uX ?_|refine AW_seqk fun K hK=>?_|refine AW_block ?_)|((with_reducible first|refine rS hE ?_|refine RK_nilk ?_|refine RK_stepk fun K' hK'=>?_|refine AW_if fun X Y hX hY=>?_|refine AW_ret ?_|refine AW_skip ?_|refine AW_exit ?_);simp [*])|with_reducible refine rL hE ?_|with_reducible refine And.intro ?_ ?_|omega|(refine imp1 fun h=>?_))
    refine AYield_of (L:=[(5,.box 60 (encN x)),(21,.arr 3 1 (R.map iA)),(1999999,.hp Hy)]) (hY.out _ [encN x] ⟨i,hilt,rfl,by rw [hxv.out.1]⟩) (by simp) rfl (by simp [lowB]) hG.out hJ.out (by simp [idfL]) ?_ ?_
    ·intro d hd
     simp [mentS,mentB,AV.ment,mentL,Ct.ment]
     omega
    ·intro Hz F hJ2 hG2
     simp
     refine hK.h _ ⟨(Hz,F),⟨by rw [htk.out];exact hJ2,hG2⟩,by simp,by simp,by simp,by simp,?_⟩
     exact hle.out [(1999999,.hp Hz),(5,.box 60 (encN x)),(21,.arr 3 1 (R.map iA)),(1999999,.hp Hy)] _ _ hG2 (by simp [lowB])
end Go.Proofs.Ytlkijcflfnnbaaa
end
section
namespace Go.Proofs.Ytlkijcflfnnbaaa
open Go.Am
theorem s_looked (tr : Tr) (b : Bx) : PSpec Try.prog 39 [.ep (encT tr),encX b] (.fn (.func 49) [] [.ep (.ep (encT tr)),.ep (encX b)]):=by
 refine PSpec_of Try.func39 rfl rfl (Nat.le_of_ble_eq_true rfl) (Nat.le_of_ble_eq_true rfl) ?_
 intro E hE
 refine AW_seqt ⟨[(4,.v .nilFunc),(3,.loc 3 0),(2,.loc 2 0)],[(3,.box 23 (encX b)),(2,.box 36 (.ep (encT tr)))]⟩ ?_ (by
  intro K hK
  repeat' (first
   |(with_reducible first|refine uK ?_|refine uX ?_|refine AW_seqk fun K hK=>?_|refine AW_block ?_)|((with_reducible first|refine rS hE ?_|refine RK_nilk ?_|refine RK_stepk fun K' hK'=>?_|refine AW_if fun X Y hX hY=>?_|refine AW_ret ?_|refine AW_skip ?_|refine AW_exit ?_);simp [*])|with_reducible refine rL hE ?_|with_reducible refine And.intro ?_ ?_|omega|(refine imp1 fun h=>?_))
  all_goals simp)
 refine AW_freeze 2 (cb:=.box 36 (.ep (encT tr))) (t:=⟨[(4,.v .nilFunc),(3,.loc 3 0),(2,.ep (.ep (encT tr)))],[(3,.box 23 (encX b))]⟩) (by simp) (by simp) (by simp) ?_
 refine AW_freeze 3 (cb:=.box 23 (encX b)) (t:=⟨[(4,.v .nilFunc),(3,.ep (encX b)),(2,.ep (.ep (encT tr)))],[]⟩) (by simp) (by simp) (by simp) ?_
 repeat' (first
  |(with_reducible first|refine uK ?_|refine uX ?_|refine AW_seqk fun K hK=>?_|refine AW_block ?_)|((with_reducible first|refine rS hE ?_|refine RK_nilk ?_|refine RK_stepk fun K' hK'=>?_|refine AW_if fun X Y hX hY=>?_|refine AW_ret ?_|refine AW_skip ?_|refine AW_exit ?_);simp [*])|with_reducible refine rL hE ?_|with_reducible refine And.intro ?_ ?_|omega|(refine imp1 fun h=>?_))
theorem s_looked0 (b : Bx) : PSpec Try.prog 39 [.v (.pointer none),encX b] (.fn (.func 49) [] [.ep (.v (.pointer none)),.ep (encX b)]):=by
 refine PSpec_of Try.func39 rfl rfl (Nat.le_of_ble_eq_true rfl) (Nat.le_of_ble_eq_true rfl) ?_
 intro E hE
 refine AW_seqt ⟨[(4,.v .nilFunc),(3,.loc 3 0),(2,.loc 2 0)],[(3,.box 23 (encX b)),(2,.box 36 (.v (.pointer none)))]⟩ ?_ (by
  intro K hK
  repeat' (first
   |(with_reducible first|refine uK ?_|refine uX ?_|refine AW_seqk fun K hK=>?_|refine AW_block ?_)|((with_reducible first|refine rS hE ?_|refine RK_nilk ?_|refine RK_stepk fun K' hK'=>?_|refine AW_if fun X Y hX hY=>?_|refine AW_ret ?_|refine AW_skip ?_|refine AW_exit ?_);simp [*])|with_reducible refine rL hE ?_|with_reducible refine And.intro ?_ ?_|omega|(refine imp1 fun h=>?_))
  all_goals simp)
 refine AW_freeze 2 (cb:=.box 36 (.v (.pointer none))) (t:=⟨[(4,.v .nilFunc),(3,.loc 3 0),(2,.ep (.v (.pointer none)))],[(3,.box 23 (encX b))]⟩) (by simp) (by simp) (by simp) ?_
 refine AW_freeze 3 (cb:=.box 23 (encX b)) (t:=⟨[(4,.v .nilFunc),(3,.ep (encX b)),(2,.ep (.v (.pointer none)))],[]⟩) (by simp) (by simp) (by simp) ?_
 repeat' (first
  |(with_reducible first|refine uK ?_|refine uX ?_|refine AW_seqk fun K hK=>?_|refine AW_block ?_)|((with_reducible first|refine rS hE ?_|refine RK_nilk ?_|refine RK_stepk fun K' hK'=>?_|refine AW_if fun X Y hX hY=>?_|refine AW_ret ?_|refine AW_skip ?_|refine AW_exit ?_);simp [*])|with_reducible refine rL hE ?_|with_reducible refine And.intro ?_ ?_|omega|(refine imp1 fun h=>?_))
theorem i_looked0 (b : Bx) : ISpec Try.prog 49 [.ep (.v (.pointer none)),.ep (encX b)] (fun _ _=>False) (fun xs=>xs = []):=by
 refine ISpec_of Try.func49 rfl rfl (Nat.le_of_ble_eq_true rfl) (Nat.le_of_ble_eq_true rfl) (by simp [idfL,AV.idf]) ?_
 intro l J E hE hY Hx G hJ hG
 replace hJ:=Hld.mk hJ
 replace hG:=Hld.mk hG
 clear hY
 repeat' (first
  |(with_reducible first|refine uK ?_|refine uX ?_|refine AW_seqk fun K hK=>?_|refine AW_block ?_)|((with_reducible first|refine rS hE ?_|refine RK_nilk ?_|refine RK_stepk fun K' hK'=>?_|refine AW_if fun X Y hX hY=>?_|refine AW_ret ?_|refine AW_skip ?_|refine AW_exit ?_);simp [*])|with_reducible refine rL hE ?_|with_reducible refine And.intro ?_ ?_|omega|(refine imp1 fun h=>?_))
 exact ⟨[(1999999,.hp Hx)],G,rfl,by simp [lowB],hG.out,hJ.out⟩
theorem i_looked1 (tr : Tr) (b : Bx) (h : tr.nd = [] ∨ chkX b ≠ 0) : ISpec Try.prog 49 [.ep (.ep (encT tr)),.ep (encX b)] (fun _ _=>False) (fun xs=>xs = []):=by
 refine ISpec_of Try.func49 rfl rfl (Nat.le_of_ble_eq_true rfl) (Nat.le_of_ble_eq_true rfl) (by simp [idfL,AV.idf]) ?_
 intro l J E hE hY Hx G hJ hG
 replace hJ:=Hld.mk hJ
 replace hG:=Hld.mk hG
 clear hY
 have hs:=Hld.mk (s_chk1 b)
 by_cases h0 : tr.nd = []
 ·have hl : (tr.nd.length : Int) = 0:=by rw [h0];rfl
  clear h h0
  repeat' (first
   |(with_reducible first|refine uK ?_|refine uX ?_|refine AW_seqk fun K hK=>?_|refine AW_block ?_)|((with_reducible first|refine rS hE ?_|refine RK_nilk ?_|refine RK_stepk fun K' hK'=>?_|refine AW_if fun X Y hX hY=>?_|refine AW_ret ?_|refine AW_skip ?_|refine AW_exit ?_);simp [*])|with_reducible refine rL hE ?_|with_reducible refine And.intro ?_ ?_|omega|(refine imp1 fun h=>?_))
  exact ⟨[(1999999,.hp Hx)],G,rfl,by simp [lowB],hG.out,hJ.out⟩
 ·have hl : ¬ (tr.nd.length : Int) = 0:=by
   intro h
   exact h0 (List.length_eq_zero_iff.1 (by omega))
  have hb : ¬ chkX b = 0:=h.resolve_left h0
  clear h h0
  repeat' (first
   |(with_reducible first|refine uK ?_|refine uX ?_|refine AW_seqk fun K hK=>?_|refine AW_block ?_)|((with_reducible first|refine rS hE ?_|refine RK_nilk ?_|refine RK_stepk fun K' hK'=>?_|refine AW_if fun X Y hX hY=>?_|refine AW_ret ?_|refine AW_skip ?_|refine AW_exit ?_);simp [*])|with_reducible refine rL hE ?_|(refine acall_same (hs.out) ?_ ?_ ?_;(iterate 2 (focus (simp [*] <;> fail)));simp [*])|(refine acall_view (hs.out) ?_ ?_ ?_;(iterate 2 (focus (simp [*] <;> fail)));simp [*])|with_reducible refine And.intro ?_ ?_|omega|(refine imp1 fun h=>?_))
  all_goals exact ⟨[(1999999,.hp Hx)],G,rfl,by simp [lowB],hG.out,hJ.out⟩
theorem s_visited (tr : Tr) (b : Bx) (V : List Nd) (hV : Vis tr.nd b [0] V) (h0 : tr.nd ≠ []) (hb : chkX b = 0) (hlen : V.length < 1000000000) : PSpec Try.prog 33 [.ep (encT tr),encX b] (iA V.length):=by
 have hI:=Hld.mk (i_looked tr b V hV h0 hb hlen)
 have hL:=Hld.mk (s_looked tr b)
 clear hV h0 hb
 refine PSpec_ofR Try.func33 rfl rfl (Nat.le_of_ble_eq_true rfl) (Nat.le_of_ble_eq_true rfl) ?_
 intro E hE hRO
 replace hRO:=Hld.mk hRO
 refine AW_seqt ⟨[(3,.loc 3 0),(0,.ep (encT tr))],[(3,.box 23 (encX b))]⟩ ?_ (by
  intro K hK
  repeat' (first
   |(with_reducible first|refine uK ?_|refine uX ?_|refine AW_seqk fun K hK=>?_|refine AW_block ?_)|((with_reducible first|refine rS hE ?_|refine RK_nilk ?_|refine RK_stepk fun K' hK'=>?_|refine AW_if fun X Y hX hY=>?_|refine AW_ret ?_|refine AW_skip ?_|refine AW_exit ?_);simp [*])|with_reducible refine rL hE ?_|with_reducible refine And.intro ?_ ?_|omega|(refine imp1 fun h=>?_))
  all_goals simp)
 refine AW_freeze 3 (cb:=.box 23 (encX b)) (t:=⟨[(3,.ep (encX b)),(0,.ep (encT tr))],[]⟩) (by simp) (by simp) (by simp) ?_
 refine AW_seqt ⟨[(5,.loc 5 0),(3,.ep (encX b)),(0,.ep (encT tr))],[(5,.box 3 (iA 0))]⟩ ?_ (by
  intro K hK
  repeat' (first
   |(with_reducible first|refine uK ?_|refine uX ?_|refine AW_seqk fun K hK=>?_|refine AW_block ?_)|((with_reducible first|refine rS hE ?_|refine RK_nilk ?_|refine RK_stepk fun K' hK'=>?_|refine AW_if fun X Y hX hY=>?_|refine AW_ret ?_|refine AW_skip ?_|refine AW_exit ?_);simp [*])|with_reducible refine rL hE ?_|with_reducible refine And.intro ?_ ?_|omega|(refine imp1 fun h=>?_))
  all_goals simp)
 refine AW_seqt ⟨[(5,.loc 5 0)],[(5,.box 3 (iA V.length))]⟩ ?_ (by
  intro K hK
  refine AW_seqt ⟨[(8,.fn (.func 49) [] [.ep (.ep (encT tr)),.ep (encX b)]),(5,.loc 5 0)],[(5,.box 3 (iA 0))]⟩ ?_ (by
   intro K hK
   repeat' (first
    |(with_reducible first|refine uK ?_|refine uX ?_|refine AW_seqk fun K hK=>?_|refine AW_block ?_)|((with_reducible first|refine rS hE ?_|refine RK_nilk ?_|refine RK_stepk fun K' hK'=>?_|refine AW_if fun X Y hX hY=>?_|refine AW_ret ?_|refine AW_skip ?_|refine AW_exit ?_);simp [*])|with_reducible refine rL hE ?_|(refine acall_same (hL.out) ?_ ?_ ?_;(iterate 2 (focus (simp [*] <;> fail)));simp [*])|(refine acall_view (hL.out) ?_ ?_ ?_;(iterate 2 (focus (simp [*] <;> fail)));simp [*])|with_reducible refine And.intro ?_ ?_|omega|(refine imp1 fun h=>?_))
   all_goals simp)
  refine AW_block ?_
  refine AW_rangeFunc (kp 5) [(5,.loc 1500005 0)] (fun c : Nat=>[(1500005,.box 3 (iA c))]) (fun pre c=>c = pre.length ∧ c ≤ V.length) 0 ⟨rfl,Nat.zero_le _⟩ hRO.out hI.out (by simp) (by simp [idfL,AV.idf]) (fun pre x h=>by obtain ⟨_,_,_,rfl⟩:=h;simp [idfL]) (by rw [hE];decide) (kp_kp 5) (kp_lt (by omega)) (kp_mid (by omega))
   (slots_of (by simp [AV.ren])) (boxes_of (by simp [Ct.ren,AV.ren])) (by intro d h;simp [mentS,AV.ment] at h;omega) (fun xs c _ _ d h1 h2=>by have:=kp_ne h1 h2;subst this;simp [mentB,Ct.ment,AV.ment,lk]) ?_ ?_
  ·intro E' hE' pre x c hok hc
   obtain ⟨hc,hcV⟩:=hc
   obtain ⟨i,hi,hpre,rfl⟩:=hok
   have hpl : pre.length = i:=by rw [hpre];simp;omega
   have hE0:=hE
   clear hE
   have hE:=hE'.n.trans hE0
   have hi' : c < V.length:=by omega
   clear hpre
   simp only [pslots]
   repeat' (first
    |(with_reducible first|refine uK ?_|refine uX ?_|refine AW_seqk fun K hK=>?_|refine AW_block ?_)|((with_reducible first|refine rS hE ?_|refine RK_nilk ?_|refine RK_stepk fun K' hK'=>?_|refine AW_if fun X Y hX hY=>?_|refine AW_ret ?_|refine AW_skip ?_|refine AW_exit ?_);simp [*])|with_reducible refine rL hE ?_|with_reducible refine And.intro ?_ ?_|omega|(refine imp1 fun h=>?_))
   intro E2 hE2
   clear hE
   have hE:=hE2.n.trans hE0
   refine AW_block ?_
   repeat' (first
    |(with_reducible first|refine uK ?_|refine uX ?_|refine AW_seqk fun K hK=>?_|refine AW_block ?_)|((with_reducible first|refine rS hE ?_|refine RK_nilk ?_|refine RK_stepk fun K' hK'=>?_|refine AW_if fun X Y hX hY=>?_|refine AW_ret ?_|refine AW_skip ?_|refine AW_exit ?_);simp [*])|with_reducible refine rL hE ?_|with_reducible refine And.intro ?_ ?_|omega|(refine imp1 fun h=>?_))
   exact ⟨i + 1,⟨rfl,by omega⟩,by omega⟩
  ·intro xs c hxs hc
   have hcV : c = V.length:=by rw [hc.1,hxs];simp
   clear hc hxs
   subst hcV
   simp [Ct.ren,AV.ren]
   repeat' (first
    |(with_reducible first|refine uK ?_|refine uX ?_|refine AW_seqk fun K hK=>?_|refine AW_block ?_)|((with_reducible first|refine rS hE ?_|refine RK_nilk ?_|refine RK_stepk fun K' hK'=>?_|refine AW_if fun X Y hX hY=>?_|refine AW_ret ?_|refine AW_skip ?_|refine AW_exit ?_);simp [*])|with_reducible refine rL hE ?_|with_reducible refine And.intro ?_ ?_|omega|(refine imp1 fun h=>?_))
   all_goals simp)
 repeat' (first
  |(with_reducible first|refine uK ?_|refine uX ?_|refine AW_seqk fun K hK=>?_|refine AW_block ?_)|((with_reducible first|refine rS hE ?_|refine RK_nilk ?_|refine RK_stepk fun K' hK'=>?_|refine AW_if fun X Y hX hY=>?_|refine AW_ret ?_|refine AW_skip ?_|refine AW_exit ?_);simp [*])|with_reducible refine rL hE ?_|with_reducible refine And.intro ?_ ?_|omega|(refine imp1 fun h=>?_))
end Go.Proofs.Ytlkijcflfnnbaaa
end
