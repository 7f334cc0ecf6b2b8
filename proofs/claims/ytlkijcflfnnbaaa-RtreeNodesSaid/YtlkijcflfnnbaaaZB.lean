/- Layer 38: the tree's small methods -/
import Derived.Test.YtlkijcflfnnbaaaZA
import Derived.Test.YtlkijcflfnnbaaaZ9
set_option maxRecDepth 1000000
set_option linter.unusedSimpArgs false
set_option linter.unusedVariables false
section
namespace Go.Proofs.Ytlkijcflfnnbaaa
open Go.Am
theorem s_len (tr : Tr) : PSpec Try.prog 25 [.ep (encT tr)] (iA tr.en.length):=by
 refine PSpec_of Try.func25 rfl rfl (Nat.le_of_ble_eq_true rfl) (Nat.le_of_ble_eq_true rfl) ?_
 intro E hE
 repeat' (first
  |(with_reducible first|refine uK ?_|refine uX ?_|refine AW_seqk fun K hK=>?_|refine AW_block ?_)|((with_reducible first|refine rS hE ?_|refine RK_nilk ?_|refine RK_stepk fun K' hK'=>?_|refine AW_if fun X Y hX hY=>?_|refine AW_ret ?_|refine AW_skip ?_|refine AW_exit ?_);simp [*])|with_reducible refine rL hE ?_|with_reducible refine And.intro ?_ ?_|omega|(refine imp1 fun h=>?_))
theorem s_len0 : PSpec Try.prog 25 [.v (.pointer none)] (iA 0):=by
 refine PSpec_of Try.func25 rfl rfl (Nat.le_of_ble_eq_true rfl) (Nat.le_of_ble_eq_true rfl) ?_
 intro E hE
 repeat' (first
  |(with_reducible first|refine uK ?_|refine uX ?_|refine AW_seqk fun K hK=>?_|refine AW_block ?_)|((with_reducible first|refine rS hE ?_|refine RK_nilk ?_|refine RK_stepk fun K' hK'=>?_|refine AW_if fun X Y hX hY=>?_|refine AW_ret ?_|refine AW_skip ?_|refine AW_exit ?_);simp [*])|with_reducible refine rL hE ?_|with_reducible refine And.intro ?_ ?_|omega|(refine imp1 fun h=>?_))
theorem s_parts (tr : Tr) : PSpec Try.prog 26 [.ep (encT tr)] (iA tr.parts):=by
 refine PSpec_of Try.func26 rfl rfl (Nat.le_of_ble_eq_true rfl) (Nat.le_of_ble_eq_true rfl) ?_
 intro E hE
 repeat' (first
  |(with_reducible first|refine uK ?_|refine uX ?_|refine AW_seqk fun K hK=>?_|refine AW_block ?_)|((with_reducible first|refine rS hE ?_|refine RK_nilk ?_|refine RK_stepk fun K' hK'=>?_|refine AW_if fun X Y hX hY=>?_|refine AW_ret ?_|refine AW_skip ?_|refine AW_exit ?_);simp [*])|with_reducible refine rL hE ?_|with_reducible refine And.intro ?_ ?_|omega|(refine imp1 fun h=>?_))
theorem s_parts0 : PSpec Try.prog 26 [.v (.pointer none)] (iA 0):=by
 refine PSpec_of Try.func26 rfl rfl (Nat.le_of_ble_eq_true rfl) (Nat.le_of_ble_eq_true rfl) ?_
 intro E hE
 repeat' (first
  |(with_reducible first|refine uK ?_|refine uX ?_|refine AW_seqk fun K hK=>?_|refine AW_block ?_)|((with_reducible first|refine rS hE ?_|refine RK_nilk ?_|refine RK_stepk fun K' hK'=>?_|refine AW_if fun X Y hX hY=>?_|refine AW_ret ?_|refine AW_skip ?_|refine AW_exit ?_);simp [*])|with_reducible refine rL hE ?_|with_reducible refine And.intro ?_ ?_|omega|(refine imp1 fun h=>?_))
theorem s_depth (tr : Tr) : PSpec Try.prog 31 [.ep (encT tr)] (iA tr.depth):=by
 refine PSpec_of Try.func31 rfl rfl (Nat.le_of_ble_eq_true rfl) (Nat.le_of_ble_eq_true rfl) ?_
 intro E hE
 repeat' (first
  |(with_reducible first|refine uK ?_|refine uX ?_|refine AW_seqk fun K hK=>?_|refine AW_block ?_)|((with_reducible first|refine rS hE ?_|refine RK_nilk ?_|refine RK_stepk fun K' hK'=>?_|refine AW_if fun X Y hX hY=>?_|refine AW_ret ?_|refine AW_skip ?_|refine AW_exit ?_);simp [*])|with_reducible refine rL hE ?_|with_reducible refine And.intro ?_ ?_|omega|(refine imp1 fun h=>?_))
theorem s_depth0 : PSpec Try.prog 31 [.v (.pointer none)] (iA 0):=by
 refine PSpec_of Try.func31 rfl rfl (Nat.le_of_ble_eq_true rfl) (Nat.le_of_ble_eq_true rfl) ?_
 intro E hE
 repeat' (first
  |(with_reducible first|refine uK ?_|refine uX ?_|refine AW_seqk fun K hK=>?_|refine AW_block ?_)|((with_reducible first|refine rS hE ?_|refine RK_nilk ?_|refine RK_stepk fun K' hK'=>?_|refine AW_if fun X Y hX hY=>?_|refine AW_ret ?_|refine AW_skip ?_|refine AW_exit ?_);simp [*])|with_reducible refine rL hE ?_|with_reducible refine And.intro ?_ ?_|omega|(refine imp1 fun h=>?_))
def zX : Bx:=⟨0,0,0,0,0,0⟩
def boxT (tr : Tr) : Bx:=match tr.nd with|[]=>zX|n :: _=>n.b
theorem s_box (tr : Tr) : PSpec Try.prog 28 [.ep (encT tr)] (.tup [encX (boxT tr),bA (!tr.nd.isEmpty)]):=by
 obtain ⟨en,nd,p,d⟩:=tr
 cases nd with
 |nil =>
  have hl : ((([] : List Nd).length : Nat) : Int) = 0:=rfl
  refine PSpec_of Try.func28 rfl rfl (Nat.le_of_ble_eq_true rfl) (Nat.le_of_ble_eq_true rfl) ?_
  intro E hE
  repeat' (first
   |(with_reducible first|refine uK ?_|refine uX ?_|refine AW_seqk fun K hK=>?_|refine AW_block ?_)|((with_reducible first|refine rS hE ?_|refine RK_nilk ?_|refine RK_stepk fun K' hK'=>?_|refine AW_if fun X Y hX hY=>?_|refine AW_ret ?_|refine AW_skip ?_|refine AW_exit ?_);simp [*])|with_reducible refine rL hE ?_|with_reducible refine And.intro ?_ ?_|omega|(refine imp1 fun h=>?_))
  all_goals rfl
 |cons n nd =>
  have hl : ¬ (((n :: nd).length : Nat) : Int) = 0:=by simp;omega
  have h0 : (n :: nd)[0] = n:=rfl
  have hn : 0 < (n :: nd).length:=by simp
  obtain ⟨L,hL⟩ : ∃ L,L = n :: nd:=⟨_,rfl⟩
  have hr : boxT ⟨en,n :: nd,p,d⟩ = n.b:=rfl
  have he : (!(Tr.nd ⟨en,n :: nd,p,d⟩).isEmpty) = true:=rfl
  rw [hr,he]
  refine PSpec_of Try.func28 rfl rfl (Nat.le_of_ble_eq_true rfl) (Nat.le_of_ble_eq_true rfl) ?_
  intro E hE
  repeat' (first
   |(with_reducible first|refine uK ?_|refine uX ?_|refine AW_seqk fun K hK=>?_|refine AW_block ?_)|((with_reducible first|refine rS hE ?_|refine RK_nilk ?_|refine RK_stepk fun K' hK'=>?_|refine AW_if fun X Y hX hY=>?_|refine AW_ret ?_|refine AW_skip ?_|refine AW_exit ?_);simp [*])|with_reducible refine rL hE ?_|with_reducible refine And.intro ?_ ?_|omega|(refine imp1 fun h=>?_))
  all_goals simp [encX,Nd.b]
theorem s_box0 : PSpec Try.prog 28 [.v (.pointer none)] (.tup [encX zX,bA false]):=by
 refine PSpec_of Try.func28 rfl rfl (Nat.le_of_ble_eq_true rfl) (Nat.le_of_ble_eq_true rfl) ?_
 intro E hE
 repeat' (first
  |(with_reducible first|refine uK ?_|refine uX ?_|refine AW_seqk fun K hK=>?_|refine AW_block ?_)|((with_reducible first|refine rS hE ?_|refine RK_nilk ?_|refine RK_stepk fun K' hK'=>?_|refine AW_if fun X Y hX hY=>?_|refine AW_ret ?_|refine AW_skip ?_|refine AW_exit ?_);simp [*])|with_reducible refine rL hE ?_|with_reducible refine And.intro ?_ ?_|omega|(refine imp1 fun h=>?_))
 all_goals rfl
def lineX (b : Bx) (t : Int) : Bx:=⟨b.x0,b.x1,b.y0,b.y1,t,t⟩
theorem s_alive (tr : Tr) (t : Int) (S : List Int) (h : tr.nd ≠ [] → inL t = true → PSpec Try.prog 23 [.ep (encT tr),encX (lineX (boxT tr) t)] (.sl 1 (S.map iA))) :
 PSpec Try.prog 29 [.ep (encT tr),iA t] (.sl 1 ((if tr.nd ≠ [] ∧ inL t = true then S else []).map iA)):=by
 have hb:=s_box tr
 by_cases h0 : tr.nd = []
 ·rw [if_neg (fun hh=>hh.1 h0)]
  rw [h0] at hb
  replace hb:=Hld.mk hb
  clear h h0
  refine PSpec_of Try.func29 rfl rfl (Nat.le_of_ble_eq_true rfl) (Nat.le_of_ble_eq_true rfl) ?_
  intro E hE
  repeat' (first
   |(with_reducible first|refine uK ?_|refine uX ?_|refine AW_seqk fun K hK=>?_|refine AW_block ?_)|((with_reducible first|refine rS hE ?_|refine RK_nilk ?_|refine RK_stepk fun K' hK'=>?_|refine AW_if fun X Y hX hY=>?_|refine AW_ret ?_|refine AW_skip ?_|refine AW_exit ?_);simp [*])|with_reducible refine rL hE ?_|(refine acall_same (hb.out) ?_ ?_ ?_;(iterate 2 (focus (simp [*] <;> fail)));simp [*])|(refine acall_view (hb.out) ?_ ?_ ?_;(iterate 2 (focus (simp [*] <;> fail)));simp [*])|with_reducible refine And.intro ?_ ?_|omega|(refine imp1 fun h=>?_))
 ·by_cases h1 : inL t = true
  ·have hs:=h h0 h1
   rw [if_pos ⟨h0,h1⟩]
   simp only [inL,Bool.and_eq_true,decide_eq_true_eq] at h1
   obtain ⟨h2,h3⟩:=h1
   have he : tr.nd.isEmpty = false:=by simpa using h0
   rw [he] at hb
   replace hb:=Hld.mk hb
   replace hs:=Hld.mk hs
   clear h h0 he
   refine PSpec_of Try.func29 rfl rfl (Nat.le_of_ble_eq_true rfl) (Nat.le_of_ble_eq_true rfl) ?_
   intro E hE
   repeat' (first
    |(with_reducible first|refine uK ?_|refine uX ?_|refine AW_seqk fun K hK=>?_|refine AW_block ?_)|((with_reducible first|refine rS hE ?_|refine RK_nilk ?_|refine RK_stepk fun K' hK'=>?_|refine AW_if fun X Y hX hY=>?_|refine AW_ret ?_|refine AW_skip ?_|refine AW_exit ?_);simp [*,lineX])|with_reducible refine rL hE ?_|(refine acall_same (hb.out) ?_ ?_ ?_;(iterate 2 (focus (simp [*,lineX] <;> fail)));simp [*,lineX])|(refine acall_view (hb.out) ?_ ?_ ?_;(iterate 2 (focus (simp [*,lineX] <;> fail)));simp [*,lineX])|(refine acall_same (hs.out) ?_ ?_ ?_;(iterate 2 (focus (simp [*,lineX] <;> fail)));simp [*,lineX])|(refine acall_view (hs.out) ?_ ?_ ?_;(iterate 2 (focus (simp [*,lineX] <;> fail)));simp [*,lineX])|with_reducible refine And.intro ?_ ?_|omega|(refine imp1 fun h=>?_))
  ·rw [if_neg (fun hh=>h1 hh.2)]
   have he : tr.nd.isEmpty = false:=by simpa using h0
   rw [he] at hb
   replace hb:=Hld.mk hb
   have h2 : t < -2199023255552 ∨ ¬ t < -2199023255552 ∧ 2199023255552 < t:=by
    simp only [inL,Bool.and_eq_true,decide_eq_true_eq] at h1
    omega
   clear h h0 h1 he
   rcases h2 with h2|⟨h2,h3⟩
   ·refine PSpec_of Try.func29 rfl rfl (Nat.le_of_ble_eq_true rfl) (Nat.le_of_ble_eq_true rfl) ?_
    intro E hE
    repeat' (first
     |(with_reducible first|refine uK ?_|refine uX ?_|refine AW_seqk fun K hK=>?_|refine AW_block ?_)|((with_reducible first|refine rS hE ?_|refine RK_nilk ?_|refine RK_stepk fun K' hK'=>?_|refine AW_if fun X Y hX hY=>?_|refine AW_ret ?_|refine AW_skip ?_|refine AW_exit ?_);simp [*])|with_reducible refine rL hE ?_|(refine acall_same (hb.out) ?_ ?_ ?_;(iterate 2 (focus (simp [*] <;> fail)));simp [*])|(refine acall_view (hb.out) ?_ ?_ ?_;(iterate 2 (focus (simp [*] <;> fail)));simp [*])|with_reducible refine And.intro ?_ ?_|omega|(refine imp1 fun h=>?_))
   ·refine PSpec_of Try.func29 rfl rfl (Nat.le_of_ble_eq_true rfl) (Nat.le_of_ble_eq_true rfl) ?_
    intro E hE
    repeat' (first
     |(with_reducible first|refine uK ?_|refine uX ?_|refine AW_seqk fun K hK=>?_|refine AW_block ?_)|((with_reducible first|refine rS hE ?_|refine RK_nilk ?_|refine RK_stepk fun K' hK'=>?_|refine AW_if fun X Y hX hY=>?_|refine AW_ret ?_|refine AW_skip ?_|refine AW_exit ?_);simp [*])|with_reducible refine rL hE ?_|(refine acall_same (hb.out) ?_ ?_ ?_;(iterate 2 (focus (simp [*] <;> fail)));simp [*])|(refine acall_view (hb.out) ?_ ?_ ?_;(iterate 2 (focus (simp [*] <;> fail)));simp [*])|with_reducible refine And.intro ?_ ?_|omega|(refine imp1 fun h=>?_))
end Go.Proofs.Ytlkijcflfnnbaaa
end
section
namespace Go.Proofs.Ytlkijcflfnnbaaa
open Go.Am
def cutR (a b : Int) (r : En) : List Int → List En
 |[]=>[r]
 |s :: ss=>if a < s ∧ s < b then { r with t1:=s } :: cutR a b { r with t0:=s } ss else cutR a b r ss
def cutE (x : En) (ss : List Int) : List En:=cutR x.t0 x.t1 x ss
def cutA (a b : Int) : List En → En → List Int → List En × En
 |l,r,[]=>(l,r)
 |l,r,s :: ss=>if a < s ∧ s < b then cutA a b (l ++ [{ r with t1:=s }]) { r with t0:=s } ss else cutA a b l r ss
theorem cutA_eq (a b : Int) : ∀ (ss : List Int) (l : List En) (r : En),(cutA a b l r ss).1 ++ [(cutA a b l r ss).2] = l ++ cutR a b r ss
 |[],l,r=>rfl
 |s :: ss,l,r=>by
  unfold cutA cutR
  split
  ·rw [cutA_eq a b ss];simp
  ·exact cutA_eq a b ss l r
theorem cutA_snoc (a b : Int) (s : Int) : ∀ (ss : List Int) (l : List En) (r : En),cutA a b l r (ss ++ [s]) = if a < s ∧ s < b then ((cutA a b l r ss).1 ++ [{ (cutA a b l r ss).2 with t1:=s }],{ (cutA a b l r ss).2 with t0:=s }) else cutA a b l r ss
 |[],l,r=>by simp only [List.nil_append,cutA]
 |q :: ss,l,r=>by
  rw [List.cons_append]
  unfold cutA
  split
  ·exact cutA_snoc a b s ss _ _
  ·exact cutA_snoc a b s ss _ _
theorem cutA_len (a b : Int) : ∀ (ss : List Int) (l : List En) (r : En),(cutA a b l r ss).1.length ≤ l.length + ss.length
 |[],l,r=>by simp [cutA]
 |q :: ss,l,r=>by
  unfold cutA
  split
  ·have:=cutA_len a b ss (l ++ [{ r with t1:=q }]) { r with t0:=q }
   simp at this ⊢
   omega
  ·have:=cutA_len a b ss l r
   simp
   omega
theorem r_cut (x : En) (ss : List Int) (hs : ss.length < 1000000) : RSpec Try.prog 36 [encE x,.sl 1 (ss.map iA)] 51 7 ((cutE x ss).map encE):=by
 obtain ⟨st,hst⟩ : ∃ st : Nat → List En × En,∀ i,st i = cutA x.t0 x.t1 [] x (ss.take i):=⟨_,fun _=>rfl⟩
 have hs0 : st 0 = ([],x):=by rw [hst];rfl
 have hsl : ∀ i,(st i).1.length ≤ i:=fun i=>by
  rw [hst]
  have:=cutA_len x.t0 x.t1 (ss.take i) [] x
  simp at this
  omega
 have hss : ∀ i (h : i < ss.length),st (i + 1) = if x.t0 < ss[i] ∧ ss[i] < x.t1 then ((st i).1 ++ [{ (st i).2 with t1:=ss[i] }],{ (st i).2 with t0:=ss[i] }) else st i:=fun i h=>by
  rw [hst,hst,List.take_succ_eq_append_getElem h,cutA_snoc]
 have hse : (st ss.length).1 ++ [(st ss.length).2] = cutE x ss:=by
  rw [hst,List.take_length,cutA_eq]
  rfl
 replace hst:=()
 replace hss:=Hld.mk hss
 replace hsl:=Hld.mk hsl
 replace hse:=Hld.mk hse
 refine MSpec_of Try.func36 rfl rfl (Nat.le_of_ble_eq_true rfl) (Nat.le_of_ble_eq_true rfl) ?_
 intro E hE
 refine AW_seqt ⟨[(2,.loc 2 0),(1,.sl 1 (ss.map iA))],[(2,.box 51 (encE x))]⟩ ?_ (by
  intro K hK
  repeat' (first
   |(with_reducible first|refine uK ?_|refine uX ?_|refine AW_seqk fun K hK=>?_|refine AW_block ?_)|((with_reducible first|refine rS hE ?_|refine RK_nilk ?_|refine RK_stepk fun K' hK'=>?_|refine AW_if fun X Y hX hY=>?_|refine AW_ret ?_|refine AW_skip ?_|refine AW_exit ?_);simp [*])|with_reducible refine rL hE ?_|with_reducible refine And.intro ?_ ?_|omega|(refine imp1 fun h=>?_))
  all_goals simp)
 refine AW_freeze 2 (cb:=.box 51 (encE x)) (t:=⟨[(2,.ep (encE x)),(1,.sl 1 (ss.map iA))],[]⟩) (by simp) (by simp) (by simp) ?_
 refine AW_seqt ⟨[(5,.v (.slice none 0 0)),(2,.ep (encE x)),(1,.sl 1 (ss.map iA))],[]⟩ ?_ (by
  intro K hK
  repeat' (first
   |(with_reducible first|refine uK ?_|refine uX ?_|refine AW_seqk fun K hK=>?_|refine AW_block ?_)|((with_reducible first|refine rS hE ?_|refine RK_nilk ?_|refine RK_stepk fun K' hK'=>?_|refine AW_if fun X Y hX hY=>?_|refine AW_ret ?_|refine AW_skip ?_|refine AW_exit ?_);simp [*])|with_reducible refine rL hE ?_|with_reducible refine And.intro ?_ ?_|omega|(refine imp1 fun h=>?_))
  all_goals simp)
 refine AW_mkrow 5 40 51 7 (by simp) (by simp) (by simp) (by omega) ?_
 refine AW_seqt ⟨[(6,.loc 6 0),(5,.own 40 7 0 0),(2,.ep (encE x)),(1,.sl 1 (ss.map iA))],[(6,.box 51 (encE x)),(40,.arr 51 7 [])]⟩ ?_ (by
  intro K hK
  repeat' (first
   |(with_reducible first|refine uK ?_|refine uX ?_|refine AW_seqk fun K hK=>?_|refine AW_block ?_)|((with_reducible first|refine rS hE ?_|refine RK_nilk ?_|refine RK_stepk fun K' hK'=>?_|refine AW_if fun X Y hX hY=>?_|refine AW_ret ?_|refine AW_skip ?_|refine AW_exit ?_);simp [*])|with_reducible refine rL hE ?_|with_reducible refine And.intro ?_ ?_|omega|(refine imp1 fun h=>?_))
  all_goals simp)
 refine AW_seqt ⟨[(6,.loc 6 0),(5,.own 40 7 0 (st ss.length).1.length),(2,.ep (encE x)),(1,.sl 1 (ss.map iA))],[(6,.box 51 (encE (st ss.length).2)),(40,.arr 51 7 ((st ss.length).1.map encE))]⟩ ?_ (by
  intro K hK
  repeat' (first
   |(with_reducible first|refine uK ?_|refine uX ?_|refine AW_seqk fun K hK=>?_|refine AW_block ?_)|((with_reducible first|refine rS hE ?_|refine RK_nilk ?_|refine RK_stepk fun K' hK'=>?_|refine AW_if fun X Y hX hY=>?_|refine AW_ret ?_|refine AW_skip ?_|refine AW_exit ?_);simp [*])|with_reducible refine rL hE ?_|with_reducible refine And.intro ?_ ?_|omega|(refine imp1 fun h=>?_))
  refine AW_loopk (G:=Nat) (fun i=>⟨[(13,iA i),(12,iA ss.length),(11,.sl 1 (ss.map iA)),(6,.loc 6 0),(5,.own 40 7 0 (st i).1.length),(2,.ep (encE x)),(1,.sl 1 (ss.map iA))],[(6,.box 51 (encE (st i).2)),(40,.arr 51 7 ((st i).1.map encE))]⟩) (fun i=>i ≤ ss.length) (fun i=>ss.length - i) 0 (Nat.zero_le _) (by simp [hs0]) ?_
  intro i hi K hK
  by_cases hlt : i < ss.length
  ·have h1:=hss.out i hlt
   have h2:=hsl.out i
   obtain ⟨s,hse⟩ : ∃ s,ss[i] = s:=⟨_,rfl⟩
   rw [hse] at h1
   obtain ⟨L,hL⟩ : ∃ L,(st i).1 = L:=⟨_,rfl⟩
   obtain ⟨r,hr⟩ : ∃ r,(st i).2 = r:=⟨_,rfl⟩
   rw [hL] at h1 h2
   rw [hr] at h1
   have hLt : (L.map encE).take L.length = L.map encE:=List.take_of_length_le (by simp)
   by_cases ha : x.t0 < s
   ·by_cases hb : s < x.t1
    ·rw [if_pos ⟨ha,hb⟩] at h1
     replace h1:=Hld.mk h1
     repeat' (first
      |(with_reducible first|refine uK ?_|refine uX ?_|refine AW_seqk fun K hK=>?_|refine AW_block ?_)|((with_reducible first|refine rS hE ?_|refine RK_nilk ?_|refine RK_stepk fun K' hK'=>?_|refine AW_if fun X Y hX hY=>?_|refine AW_ret ?_|refine AW_skip ?_|refine AW_exit ?_);simp [*,encE])|with_reducible refine rL hE ?_|with_reducible refine And.intro ?_ ?_|omega|(refine imp1 fun h=>?_))
     exact ⟨i + 1,by omega,by omega,by simp [h1.out,encE]⟩
    ·rw [if_neg (fun h=>hb h.2)] at h1
     replace h1:=Hld.mk h1
     repeat' (first
      |(with_reducible first|refine uK ?_|refine uX ?_|refine AW_seqk fun K hK=>?_|refine AW_block ?_)|((with_reducible first|refine rS hE ?_|refine RK_nilk ?_|refine RK_stepk fun K' hK'=>?_|refine AW_if fun X Y hX hY=>?_|refine AW_ret ?_|refine AW_skip ?_|refine AW_exit ?_);simp [*,encE])|with_reducible refine rL hE ?_|with_reducible refine And.intro ?_ ?_|omega|(refine imp1 fun h=>?_))
     exact ⟨i + 1,by omega,by omega,by simp [h1.out,hL,hr,encE]⟩
   ·rw [if_neg (fun h=>ha h.1)] at h1
    replace h1:=Hld.mk h1
    repeat' (first
     |(with_reducible first|refine uK ?_|refine uX ?_|refine AW_seqk fun K hK=>?_|refine AW_block ?_)|((with_reducible first|refine rS hE ?_|refine RK_nilk ?_|refine RK_stepk fun K' hK'=>?_|refine AW_if fun X Y hX hY=>?_|refine AW_ret ?_|refine AW_skip ?_|refine AW_exit ?_);simp [*,encE])|with_reducible refine rL hE ?_|with_reducible refine And.intro ?_ ?_|omega|(refine imp1 fun h=>?_))
    exact ⟨i + 1,by omega,by omega,by simp [h1.out,hL,hr,encE]⟩
  ·have hie : i = ss.length:=by omega
   subst hie
   repeat' (first
    |(with_reducible first|refine uK ?_|refine uX ?_|refine AW_seqk fun K hK=>?_|refine AW_block ?_)|((with_reducible first|refine rS hE ?_|refine RK_nilk ?_|refine RK_stepk fun K' hK'=>?_|refine AW_if fun X Y hX hY=>?_|refine AW_ret ?_|refine AW_skip ?_|refine AW_exit ?_);simp [*])|with_reducible refine rL hE ?_|with_reducible refine And.intro ?_ ?_|omega|(refine imp1 fun h=>?_))
   simp)
 have h2:=hsl.out ss.length
 obtain ⟨L,hL⟩ : ∃ L,(st ss.length).1 = L:=⟨_,rfl⟩
 obtain ⟨r,hr⟩ : ∃ r,(st ss.length).2 = r:=⟨_,rfl⟩
 rw [hL] at h2 hse
 rw [hr] at hse
 rw [hL,hr]
 have hLt : (L.map encE).take L.length = L.map encE:=List.take_of_length_le (by simp)
 have hf:=hse.out
 clear hse
 rw [← hf]
 replace hf:=()
 repeat' (first
  |(with_reducible first|refine uK ?_|refine uX ?_|refine AW_seqk fun K hK=>?_|refine AW_block ?_)|((with_reducible first|refine rS hE ?_|refine RK_nilk ?_|refine RK_stepk fun K' hK'=>?_|refine AW_if fun X Y hX hY=>?_|refine AW_ret ?_|refine AW_skip ?_|refine AW_exit ?_);simp [*])|with_reducible refine rL hE ?_|with_reducible refine And.intro ?_ ?_|omega|(refine imp1 fun h=>?_))
 exact List.take_of_length_le (by simp)
end Go.Proofs.Ytlkijcflfnnbaaa
end
section
namespace Go.Proofs.Ytlkijcflfnnbaaa
open Go.Am
theorem m_cloneI (l : List Int) (hl : l.length ≤ 1000000) : MSpec Try.prog 42 [.sl 1 (l.map iA)] [] (fun res bf=>(res = .own 5 1 0 l.length ∧ bf 5 = some (.arr 3 1 (l.map iA))) ∨ (l = [] ∧ res = .v (.slice none 0 0))):=by
 refine MSpec_of Try.func42 rfl rfl (Nat.le_of_ble_eq_true rfl) (Nat.le_of_ble_eq_true rfl) ?_
 intro E hE
 refine AW_seq fun K hK=>?_
 refine AW_region (by rw [hE];decide) ?_
 simp
 refine hK _ ?_
 clear hK
 refine AW_seq fun K0 hK0=>?_
 refine AW_seq fun K1 hK1=>?_
 refine AW_region (by rw [hE];decide) ?_
 simp
 have fin1 : ∀ s',s'.le ⟨[(4,bA true),(0,.sl 1 (l.map iA))],[]⟩ → l = [] → K1 s':=by
  intro s' hs' hl0
  refine hK1 _ ?_
  refine AW_le hs' ?_
  refine AW_cond (t:=true) (by simp) ?_ ?_
  ·intro _
   refine AW_seq fun K hK=>?_
   refine AW_region (by rw [hE];decide) ?_
   simp
   refine hK _ ?_
   clear hK
   refine AW_ret ?_
   simp [hl0]
  ·intro h;cases h
 have fin2 : ∀ s',s'.le ⟨[(4,bA false),(0,.sl 1 (l.map iA))],[]⟩ → K1 s':=by
  intro s' hs'
  refine hK1 _ ?_
  refine AW_le hs' ?_
  refine AW_cond (t:=false) (by simp) ?_ ?_
  ·intro h;cases h
  intro _
  refine AW_skip ?_
  simp
  refine hK0 _ ?_
  refine AW_seq fun K hK=>?_
  refine AW_region (by rw [hE];decide) ?_
  simp
  repeat' apply And.intro
  all_goals try omega
  all_goals try decide
  refine hK _ ?_
  clear hK
  refine AW_ret ?_
  simp
 constructor
 ·intro h
  exact fin2 _ (by simp)
 ·intro h
  refine ⟨?_,?_⟩
  ·exact fin2 _ (by simp)
  ·exact fin1 _ (by simp) h
theorem r_cloneI (l : List Int) (hl : l.length ≤ 1000000) : RSpec Try.prog 42 [.sl 1 (l.map iA)] 3 1 (l.map iA) :=
 MSpec.mono (m_cloneI l hl) (by
  rintro res bf (⟨rfl,h⟩|⟨rfl,rfl⟩)
  ·exact .inl ⟨5,_,by simp,h,List.take_of_length_le (by simp)⟩
  ·exact .inr ⟨rfl,rfl⟩)
theorem s_cloneI (l : List Int) (hl : l.length ≤ 1000000) : PSpec Try.prog 42 [.sl 1 (l.map iA)] (.sl 1 (l.map iA)):=(r_cloneI l hl).toP (by simp)
theorem s_nodes0 : PSpec Try.prog 30 [.v (.pointer none)] (.sl 8 []):=by
 refine PSpec_of Try.func30 rfl rfl (Nat.le_of_ble_eq_true rfl) (Nat.le_of_ble_eq_true rfl) ?_
 intro E hE
 repeat' (first
  |(with_reducible first|refine uK ?_|refine uX ?_|refine AW_seqk fun K hK=>?_|refine AW_block ?_)|((with_reducible first|refine rS hE ?_|refine RK_nilk ?_|refine RK_stepk fun K' hK'=>?_|refine AW_if fun X Y hX hY=>?_|refine AW_ret ?_|refine AW_skip ?_|refine AW_exit ?_);simp [*])|with_reducible refine rL hE ?_|with_reducible refine And.intro ?_ ?_|omega|(refine imp1 fun h=>?_))
theorem s_nodes (tr : Tr) (hn : tr.nd.length < 1000000) (hl : ∀ n ∈ tr.nd,n.ch.length ≤ 1000000 ∧ n.pa.length ≤ 1000000) : PSpec Try.prog 30 [.ep (encT tr)] (.sl 8 (tr.nd.map encN)):=by
 replace hl:=Hld.mk hl
 refine PSpec_of Try.func30 rfl rfl (Nat.le_of_ble_eq_true rfl) (Nat.le_of_ble_eq_true rfl) ?_
 intro E hE
 refine AW_seqt ⟨[(0,.ep (encT tr))],[]⟩ ?_ (by
  intro K hK
  repeat' (first
   |(with_reducible first|refine uK ?_|refine uX ?_|refine AW_seqk fun K hK=>?_|refine AW_block ?_)|((with_reducible first|refine rS hE ?_|refine RK_nilk ?_|refine RK_stepk fun K' hK'=>?_|refine AW_if fun X Y hX hY=>?_|refine AW_ret ?_|refine AW_skip ?_|refine AW_exit ?_);simp [*])|with_reducible refine rL hE ?_|with_reducible refine And.intro ?_ ?_|omega|(refine imp1 fun h=>?_))
  all_goals simp)
 refine AW_seqt ⟨[(0,.ep (encT tr))],[]⟩ ?_ (by
  intro K hK
  repeat' (first
   |(with_reducible first|refine uK ?_|refine uX ?_|refine AW_seqk fun K hK=>?_|refine AW_block ?_)|((with_reducible first|refine rS hE ?_|refine RK_nilk ?_|refine RK_stepk fun K' hK'=>?_|refine AW_if fun X Y hX hY=>?_|refine AW_ret ?_|refine AW_skip ?_|refine AW_exit ?_);simp [*])|with_reducible refine rL hE ?_|with_reducible refine And.intro ?_ ?_|omega|(refine imp1 fun h=>?_))
  all_goals simp)
 refine AW_seqt ⟨[(3,.v (.slice none 0 0)),(0,.ep (encT tr))],[]⟩ ?_ (by
  intro K hK
  repeat' (first
   |(with_reducible first|refine uK ?_|refine uX ?_|refine AW_seqk fun K hK=>?_|refine AW_block ?_)|((with_reducible first|refine rS hE ?_|refine RK_nilk ?_|refine RK_stepk fun K' hK'=>?_|refine AW_if fun X Y hX hY=>?_|refine AW_ret ?_|refine AW_skip ?_|refine AW_exit ?_);simp [*])|with_reducible refine rL hE ?_|with_reducible refine And.intro ?_ ?_|omega|(refine imp1 fun h=>?_))
  all_goals simp)
 refine AW_mkrow 3 40 60 8 (by simp) (by simp) (by simp) (by omega) ?_
 refine AW_seqt ⟨[(3,.own 40 8 0 tr.nd.length)],[(40,.arr 60 8 (tr.nd.map encN))]⟩ ?_ (by
  intro K hK
  repeat' (first
   |(with_reducible first|refine uK ?_|refine uX ?_|refine AW_seqk fun K hK=>?_|refine AW_block ?_)|((with_reducible first|refine rS hE ?_|refine RK_nilk ?_|refine RK_stepk fun K' hK'=>?_|refine AW_if fun X Y hX hY=>?_|refine AW_ret ?_|refine AW_skip ?_|refine AW_exit ?_);simp [*])|with_reducible refine rL hE ?_|with_reducible refine And.intro ?_ ?_|omega|(refine imp1 fun h=>?_))
  refine AW_loopk (G:=Nat) (fun i=>⟨[(13,iA i),(12,iA tr.nd.length),(11,.sl 8 (tr.nd.map encN)),(3,.own 40 8 0 i)],[(40,.arr 60 8 ((tr.nd.take i).map encN))]⟩) (fun i=>i ≤ tr.nd.length) (fun i=>tr.nd.length - i) 0 (Nat.zero_le _) (by simp) ?_
  intro i hi K hK
  by_cases hlt : i < tr.nd.length
  ·have hli:=hl.out tr.nd[i] (List.getElem_mem hlt)
   have hc1:=Hld.mk (s_cloneI tr.nd[i].ch hli.1)
   have hc2:=Hld.mk (s_cloneE tr.nd[i].pa hli.2)
   have htk : (tr.nd.take (i + 1)).map encN = (tr.nd.take i).map encN ++ [encN tr.nd[i]]:=by
    rw [List.take_succ_eq_append_getElem hlt,List.map_append]
    rfl
   obtain ⟨L,hL⟩ : ∃ L,L = tr.nd.take i:=⟨_,rfl⟩
   have hLl : L.length = i:=by rw [hL,List.length_take];omega
   have hLt : (L.map encN).take i = L.map encN:=List.take_of_length_le (by simp [hLl])
   rw [← hL] at htk ⊢
   replace htk:=Hld.mk htk
   replace hL:=()
   clear hli
   repeat' (first
    |(with_reducible first|refine useK (by assumption) ?_|refine useK2 (by assumption) ?_|refine useX (by assumption) ?_|refine AW_seqk fun K hK=>?_|refine AW_block ?_)|(with_reducible refine AW_regionS rfl (by rw [hE];decide) ?_;simp [*,encN])|with_reducible refine AW_region (by rw [hE];decide) ?_|((with_reducible show RK _ _ _ _ _ _);first|(refine RK_nilk ?_;simp [*,encN])|(refine RK_stepk fun K' hK'=>?_;simp [*,encN]))|with_reducible refine AW_drawq mixed (by rw [hE];decide) (by simp [newOK]) ?_|((with_reducible show RKQ _ _ _ _ _ _);first|refine RKQ_nilk ⟨by decide,?_⟩|(refine RKQ_stepk fun K' hK'=>?_;simp [*,encN]))|((with_reducible first|refine AW_if fun X Y hX hY=>?_|refine AW_ret ?_|refine AW_skip ?_|refine AW_exit ?_);simp [*,encN])|((first|refine acall_same (hc1.out) ?_ ?_ ?_|refine call_same (hc1.out) ?_ ?_ ?_);(focus (simp [*,encN] <;> fail));(focus (simp [*,encN] <;> fail));simp [*,encN])|((first|refine acall_view (hc1.out) ?_ ?_ ?_|refine call_view (hc1.out) ?_ ?_ ?_);(focus (simp [*,encN] <;> fail));(focus (simp [*,encN] <;> fail));simp [*,encN])|((first|refine acall_same (hc2.out) ?_ ?_ ?_|refine call_same (hc2.out) ?_ ?_ ?_);(focus (simp [*,encN] <;> fail));(focus (simp [*,encN] <;> fail));simp [*,encN])|((first|refine acall_view (hc2.out) ?_ ?_ ?_|refine call_view (hc2.out) ?_ ?_ ?_);(focus (simp [*,encN] <;> fail));(focus (simp [*,encN] <;> fail));simp [*,encN])|with_reducible refine And.intro ?_ ?_|omega|(refine imp1 fun h=>?_))
   exact ⟨i + 1,by omega,by omega,by simp [htk.out,encN,hLl]⟩
  ·have hie : i = tr.nd.length:=by omega
   subst hie
   repeat' (first
    |(with_reducible first|refine uK ?_|refine uX ?_|refine AW_seqk fun K hK=>?_|refine AW_block ?_)|((with_reducible first|refine rS hE ?_|refine RK_nilk ?_|refine RK_stepk fun K' hK'=>?_|refine AW_if fun X Y hX hY=>?_|refine AW_ret ?_|refine AW_skip ?_|refine AW_exit ?_);simp [*])|with_reducible refine rL hE ?_|with_reducible refine And.intro ?_ ?_|omega|(refine imp1 fun h=>?_))
   simp)
 repeat' (first
  |(with_reducible first|refine uK ?_|refine uX ?_|refine AW_seqk fun K hK=>?_|refine AW_block ?_)|((with_reducible first|refine rS hE ?_|refine RK_nilk ?_|refine RK_stepk fun K' hK'=>?_|refine AW_if fun X Y hX hY=>?_|refine AW_ret ?_|refine AW_skip ?_|refine AW_exit ?_);simp [*])|with_reducible refine rL hE ?_|with_reducible refine And.intro ?_ ?_|omega|(refine imp1 fun h=>?_))
 all_goals rw [List.take_of_length_le (by simp)]
 simp
end Go.Proofs.Ytlkijcflfnnbaaa
end
section
namespace Go.Proofs.Ytlkijcflfnnbaaa
open Go.Am
def errL : List Bx → Int
 |[]=>0
 |b :: l=>if chkX b = 0 then errL l else chkX b
def incB : List Int → Bool
 |a :: b :: l=>decide (a < b) && incB (b :: l)
 |_=>true
def partsL (l : List En) (ss : List Int) : List En:=l.flatMap fun x=>cutE x ss
theorem errL_take {l : List Bx} : ∀ {i : Nat},errL (l.take i) = 0 → (h : i < l.length) → (chkX l[i] = 0 → errL (l.take (i + 1)) = 0) ∧ (chkX l[i] ≠ 0 → errL l = chkX l[i]):=by
 induction l with
 |nil=>intro i _ h;simp at h
 |cons b l ih =>
  intro i h hi
  cases i with
  |zero =>
   simp only [List.getElem_cons_zero,List.take_succ_cons,List.take_zero,errL]
   exact ⟨fun h=>by rw [if_pos h],fun h=>by rw [if_neg h]⟩
  |succ i =>
   simp only [List.take_succ_cons,errL] at h
   have hb : chkX b = 0:=by
    by_cases hb : chkX b = 0
    ·exact hb
    ·rw [if_neg hb] at h;exact h
   rw [if_pos hb] at h
   have:=ih h (by simpa using hi)
   simp only [List.getElem_cons_succ,List.take_succ_cons,errL,if_pos hb]
   exact this
theorem incB_take {l : List Int} : ∀ {i : Nat},incB (l.take i) = true → (h : i < l.length) → (i = 0 ∨ ∃ h' : i - 1 < l.length,l[i - 1] < l[i]) → incB (l.take (i + 1)) = true:=by
 induction l with
 |nil=>intro i _ h;simp at h
 |cons b l ih =>
  intro i h hi hc
  cases i with
  |zero=>simp [incB]
  |succ i =>
   cases i with
   |zero =>
    cases l with
    |nil=>simp at hi
    |cons c l =>
     simp at hc
     simp [incB,hc]
   |succ i =>
    cases l with
    |nil=>simp at hi
    |cons c l =>
     simp only [List.take_succ_cons,incB,Bool.and_eq_true,decide_eq_true_eq] at h ⊢
     refine ⟨h.1,?_⟩
     have:=ih (i:=i + 1) (by simpa using h.2) (by simpa using hi) (.inr ⟨by simp at hi ⊢;omega,by
      rcases hc with hc|⟨h',hc⟩
      ·omega
      ·simpa using hc⟩)
     simpa using this
theorem incB_not {l : List Int} {i : Nat} (h1 : 0 < i) (h : i < l.length) (hc : ¬ l[i - 1] < l[i]) : incB l = false:=by
 induction l generalizing i with
 |nil=>simp at h
 |cons b l ih =>
  cases i with
  |zero=>omega
  |succ i =>
   cases l with
   |nil=>simp at h
   |cons c l =>
    cases i with
    |zero=>simp at hc;simp [incB];intro h;omega
    |succ i =>
     simp only [incB,Bool.and_eq_false_iff]
     right
     exact ih (i:=i + 1) (by omega) (by simpa using h) (by simpa using hc)
def BuildR (l : List En) (ss : List Int) (res : AV) : Prop :=
 (¬ (errL (l.map En.b) = 0 ∧ incB ss = true) ∧ res = .tup [.v (.pointer none),iA (if errL (l.map En.b) = 0 then 7 else errL (l.map En.b))]) ∨
   (errL (l.map En.b) = 0 ∧ incB ss = true ∧ ∃ nd dep,TreeOf (partsL l ss) nd dep ∧ res = .tup [.ep (encT ⟨l,nd,(partsL l ss).length,dep⟩),iA 0])
end Go.Proofs.Ytlkijcflfnnbaaa
end
section
namespace Go.Proofs.Ytlkijcflfnnbaaa
open Go.Am
theorem acall_load {E : Env} {s : AState} {d : Option Tmp} {K : AState → Prop} {i j : Nat} {L en : List En} {p : Int} (hR : RgL L) (hn : L.length < 400000) (hij : i ≠ j) (hi : s.box i = some (.box 72 (tr0 en p))) (hj : s.box j = some (.arr 51 7 (L.map encE)))
 (hk : ∀ nd dep,TreeOf L nd dep → K ((AState.mk s.s ((i,.box 72 (encT ⟨en,nd,p,dep⟩)) :: dropB [j,i] s.b)).put d (.tup []))) : ACall Try.prog E 38 [.loc i 0,.own j 7 0 L.length] s d K:=by
 have h0 : ∀ (σ : Nat → Nat),renL σ (L.map encE) = L.map encE:=fun σ=>ren_LE σ L
 refine ACall_mut (m_load L en p hR hn) (fun x=>if x = 1000001 then i else j) ?_ ?_ ?_ ?_
 ·simp [AV.ren]
 ·intro x c hc
  simp only [lk] at hc
  split at hc
  ·rename_i e;cases hc;subst e;simpa [Ct.ren] using hj
  ·split at hc
   ·rename_i e;cases hc;subst e;simpa [Ct.ren,AV.ren] using hi
   ·cases hc
 ·intro x y h1 h2 e
  have hx : x = 1000000 ∨ x = 1000001:=by
   obtain ⟨c,hc⟩:=Option.isSome_iff_exists.1 h1
   simp only [lk] at hc
   split at hc
   ·rename_i e;exact .inl e.symm
   ·split at hc
    ·rename_i e;exact .inr e.symm
    ·cases hc
  have hy : y = 1000000 ∨ y = 1000001:=by
   obtain ⟨c,hc⟩:=Option.isSome_iff_exists.1 h2
   simp only [lk] at hc
   split at hc
   ·rename_i e;exact .inl e.symm
   ·split at hc
    ·rename_i e;exact .inr e.symm
    ·cases hc
  rcases hx with rfl|rfl <;> rcases hy with rfl|rfl
  ·rfl
  ·simp at e;exact absurd e.symm hij
  ·simp at e;exact absurd e hij
  ·rfl
 ·rintro res bf ⟨rfl,nd,dep,ht,hbf⟩
  refine ⟨[(1000001,.box 72 (encT ⟨en,nd,p,dep⟩))],fun x=>if x = 1000001 then i else j,⟨?_,?_,?_,?_,?_⟩,?_⟩
  ·intro q hq
   simp only [List.mem_singleton] at hq
   subst hq
   exact hbf
  ·intro q hq
   simp only [List.mem_singleton] at hq
   subst hq
   exact .inl ⟨by simp,by simp [lk],rfl⟩
  ·intro q hq r hr _
   simp only [List.mem_singleton] at hq hr
   rw [hq,hr]
  ·intro x hx
   simp at hx
  ·intro q hq x hx
   simp only [List.mem_singleton] at hq
   subst hq
   simp [Ct.ids] at hx
  ·have:=hk nd dep ht
   simpa [Ct.ren] using this
theorem acall_rel {E : Env} {s : AState} {d : Option Tmp} {K : AState → Prop} {g : FuncId} {args : List AV} {ok : AV → Prop} (h : MSpec Try.prog g args [] (fun res _=>ok res)) (hi : idfL args = true) (hok : ∀ r,ok r → r.idf = true) (hk : ∀ r,ok r → K (s.put d r)) : ACall Try.prog E g args s d K:=by
 refine ACall_mut h (fun x=>x) ?_ ?_ ?_ ?_
 ·rw [← renL_map,idfL_ren _ _ hi]
 ·intro i c hc;cases hc
 ·intro i i' h1;cases h1
 ·intro res bf hr
  have hri:=hok res hr
  have h1 : res.ids = []:=by
   have:=idfL_ids [res] (by simp [idfL,hri])
   simpa [idsA] using this
  have h2 : res.ren (fun x=>x) = res:=by
   have:=idfL_ren (fun x=>x) [res] (by simp [idfL,hri])
   simpa [renL] using this
  refine ⟨[],fun x=>x,⟨fun p hp=>(by cases hp),fun p hp=>(by cases hp),fun p hp=>(by cases hp),fun i hi=>(by rw [h1] at hi;cases hi),fun p hp=>(by cases hp)⟩,?_⟩
  rw [h2]
  have e : ∀ l : List (Nat × Ct),dropB [] l = l:=by
   intro l
   induction l with
   |nil=>rfl
   |cons q l ih=>simp [dropB,ih]
  have hq : (AState.mk s.s (([] : List (Nat × Ct)).map (fun p=>(p.1,p.2.ren fun x=>x)) ++ dropB (([] : List (Nat × Ct)).map fun p=>p.1) s.b)) = s:=by
   simp [e]
  rw [hq]
  exact hk res hr
theorem partsL_take (l : List En) (ss : List Int) {i : Nat} (h : i < l.length) : partsL (l.take (i + 1)) ss = partsL (l.take i) ss ++ cutE l[i] ss:=by
 unfold partsL
 rw [List.take_succ_eq_append_getElem h,List.flatMap_append]
 simp
theorem partsL_le (l : List En) (ss : List Int) (i : Nat) : (partsL (l.take i) ss).length ≤ (partsL l ss).length:=by
 unfold partsL
 conv=>rhs;rw [← List.take_append_drop i l]
 rw [List.flatMap_append,List.length_append]
 omega
theorem cutR_rg (a b : Int) : ∀ (ss : List Int) (r : En),(∀ p ∈ cutR a b r ss,(p.x0 = r.x0 ∧ p.x1 = r.x1 ∧ p.y0 = r.y0 ∧ p.y1 = r.y1 ∧ p.ref = r.ref) ∧ (p.t0 = r.t0 ∨ (a < p.t0 ∧ p.t0 < b)) ∧ (p.t1 = r.t1 ∨ (a < p.t1 ∧ p.t1 < b)))
 |[],r,p,hp=>by
  simp [cutR] at hp
  subst hp
  simp
 |s :: ss,r,p,hp=>by
  unfold cutR at hp
  split at hp
  ·rename_i hs
   rcases List.mem_cons.1 hp with rfl|hp
   ·exact ⟨⟨rfl,rfl,rfl,rfl,rfl⟩,.inl rfl,.inr hs⟩
   ·obtain ⟨h1,h2,h3⟩:=cutR_rg a b ss _ p hp
    refine ⟨h1,?_,h3⟩
    rcases h2 with h2|h2
    ·right;rw [h2];exact hs
    ·exact .inr h2
  ·exact cutR_rg a b ss r p hp
theorem chkX_rg {b : Bx} (h : chkX b = 0) : Rg b ∧ b.x0 ≤ b.x1 ∧ b.y0 ≤ b.y1 ∧ b.t0 ≤ b.t1:=by
 unfold chkX at h
 split at h
 ·rename_i h1
  split at h
  ·rename_i h2
   simp [lstX,inL] at h1
   simp [ordX] at h2
   unfold Rg
   omega
  ·cases h
 ·cases h
theorem rg_parts {l : List En} {ss : List Int} (h : errL (l.map En.b) = 0) : RgL (partsL l ss):=by
 intro p hp
 obtain ⟨x,hx,hpx⟩:=List.mem_flatMap.1 hp
 have hc : ∀ (l : List En),errL (l.map En.b) = 0 → ∀ x ∈ l,chkX x.b = 0:=by
  intro l
  induction l with
  |nil=>intro _ x hx;cases hx
  |cons y l ih =>
   intro h x hx
   simp only [List.map_cons,errL] at h
   have hy : chkX y.b = 0:=by
    by_cases hb : chkX y.b = 0
    ·exact hb
    ·rw [if_neg hb] at h;exact h
   rw [if_pos hy] at h
   rcases List.mem_cons.1 hx with rfl|hx
   ·exact hy
   ·exact ih h x hx
 obtain ⟨h1,_,_,h4⟩:=chkX_rg (hc l h x hx)
 obtain ⟨⟨e1,e2,e3,e4,_⟩,e5,e6⟩:=cutR_rg _ _ ss x p hpx
 unfold Rg at h1 ⊢
 simp only [En.b] at h1 h4 ⊢
 rcases e5 with e5|e5 <;> rcases e6 with e6|e6 <;> omega
end Go.Proofs.Ytlkijcflfnnbaaa
end
section
namespace Go.Proofs.Ytlkijcflfnnbaaa
open Go.Am
theorem m_build (l : List En) (ss : List Int) (hl : l.length ≤ 1000) (hs : ss.length ≤ 1000) (hp : (partsL l ss).length ≤ 262144) :
 MSpec Try.prog 20 [.sl 7 (l.map encE),.sl 1 (ss.map iA)] [] (fun res _=>BuildR l ss res):=by
 obtain ⟨B,hB⟩ : ∃ B : AV → Prop,B = BuildR l ss:=⟨_,rfl⟩
 have hB1 : ¬ (errL (l.map En.b) = 0 ∧ incB ss = true) → B (.tup [.v (.pointer none),iA (if errL (l.map En.b) = 0 then 7 else errL (l.map En.b))]):=fun h=>by rw [hB];exact .inl ⟨h,rfl⟩
 have hB2 : ∀ nd dep,errL (l.map En.b) = 0 → incB ss = true → TreeOf (partsL l ss) nd dep → B (.tup [.ep (encT ⟨l,nd,(partsL l ss).length,dep⟩),iA 0]):=fun nd dep h1 h2 h3=>by rw [hB];exact .inr ⟨h1,h2,nd,dep,h3,rfl⟩
 rw [← hB]
 replace hB:=()
 replace hB1:=Hld.mk hB1
 replace hB2:=Hld.mk hB2
 have hll : (l.length : Int) ≤ 1000:=by omega
 refine MSpec_of Try.func20 rfl rfl (Nat.le_of_ble_eq_true rfl) (Nat.le_of_ble_eq_true rfl) ?_
 intro E hE
 refine AW_seqt ⟨[(1,.sl 1 (ss.map iA)),(0,.sl 7 (l.map encE))],[]⟩ ?_ (by
  intro K hK
  repeat' (first
   |(with_reducible first|refine uK ?_|refine uX ?_|refine AW_seqk fun K hK=>?_|refine AW_block ?_)|((with_reducible first|refine rS hE ?_|refine RK_nilk ?_|refine RK_stepk fun K' hK'=>?_|refine AW_if fun X Y hX hY=>?_|refine AW_ret ?_|refine AW_skip ?_|refine AW_exit ?_);simp [*])|with_reducible refine rL hE ?_|with_reducible refine And.intro ?_ ?_|omega|(refine imp1 fun h=>?_))
  all_goals simp)
 refine AW_seqt ⟨[(1,.sl 1 (ss.map iA)),(0,.sl 7 (l.map encE))],[]⟩ ?_ (by
  intro K hK
  repeat' (first
   |(with_reducible first|refine uK ?_|refine uX ?_|refine AW_seqk fun K hK=>?_|refine AW_block ?_)|((with_reducible first|refine rS hE ?_|refine RK_nilk ?_|refine RK_stepk fun K' hK'=>?_|refine AW_if fun X Y hX hY=>?_|refine AW_ret ?_|refine AW_skip ?_|refine AW_exit ?_);simp [*])|with_reducible refine rL hE ?_|with_reducible refine And.intro ?_ ?_|omega|(refine imp1 fun h=>?_))
  all_goals simp)
 refine AW_seqE (G:=Unit) (fun _=>⟨[(1,.sl 1 (ss.map iA)),(0,.sl 7 (l.map encE))],[]⟩) (fun _=>errL (l.map En.b) = 0) ?_ (by
  intro K hK
  repeat' (first
   |(with_reducible first|refine uK ?_|refine uX ?_|refine AW_seqk fun K hK=>?_|refine AW_block ?_)|((with_reducible first|refine rS hE ?_|refine RK_nilk ?_|refine RK_stepk fun K' hK'=>?_|refine AW_if fun X Y hX hY=>?_|refine AW_ret ?_|refine AW_skip ?_|refine AW_exit ?_);simp [*])|with_reducible refine rL hE ?_|with_reducible refine And.intro ?_ ?_|omega|(refine imp1 fun h=>?_))
  refine AW_loopk (G:=Nat) (fun i=>⟨[(19,iA i),(18,iA l.length),(17,.sl 7 (l.map encE)),(1,.sl 1 (ss.map iA)),(0,.sl 7 (l.map encE))],[]⟩) (fun i=>i ≤ l.length ∧ Hld (errL ((l.map En.b).take i) = 0)) (fun i=>l.length - i) 0 ⟨Nat.zero_le _,⟨rfl⟩⟩ (by simp) ?_
  rintro i ⟨hi,he⟩ K hK
  by_cases hlt : i < l.length
  ·obtain ⟨h1,h2⟩:=errL_take he.out (by simpa using hlt : i < (l.map En.b).length)
   rw [List.getElem_map] at h1 h2
   have hc:=s_chk1 l[i].b
   obtain ⟨v,hv⟩ : ∃ v,chkX l[i].b = v:=⟨_,rfl⟩
   rw [hv] at hc h1 h2
   replace hc:=Hld.mk hc
   clear hv
   by_cases hv0 : v = 0
   ·subst hv0
    replace h1:=Hld.mk (h1 rfl)
    clear h2
    repeat' (first
     |(with_reducible first|refine uK ?_|refine uX ?_|refine AW_seqk fun K hK=>?_|refine AW_block ?_)|((with_reducible first|refine rS hE ?_|refine RK_nilk ?_|refine RK_stepk fun K' hK'=>?_|refine AW_if fun X Y hX hY=>?_|refine AW_ret ?_|refine AW_skip ?_|refine AW_exit ?_);simp [*,encX,En.b])|with_reducible refine rL hE ?_|(refine acall_same (hc.out) ?_ ?_ ?_;(iterate 2 (focus (simp [*,encX,En.b] <;> fail)));simp [*,encX,En.b])|(refine acall_view (hc.out) ?_ ?_ ?_;(iterate 2 (focus (simp [*,encX,En.b] <;> fail)));simp [*,encX,En.b])|with_reducible refine And.intro ?_ ?_|omega|(refine imp1 fun h=>?_))
    exact ⟨i + 1,⟨by omega,h1⟩,by omega,by simp⟩
   ·have h3:=h2 hv0
    have hb:=hB1.out (fun h=>hv0 (by rw [← h3];exact h.1))
    rw [h3,if_neg hv0] at hb
    replace hb:=Hld.mk hb
    clear h1 h2 h3
    repeat' (first
     |(with_reducible first|refine uK ?_|refine uX ?_|refine AW_seqk fun K hK=>?_|refine AW_block ?_)|((with_reducible first|refine rS hE ?_|refine RK_nilk ?_|refine RK_stepk fun K' hK'=>?_|refine AW_if fun X Y hX hY=>?_|refine AW_ret ?_|refine AW_skip ?_|refine AW_exit ?_);simp [*,encX,En.b])|with_reducible refine rL hE ?_|(refine acall_same (hc.out) ?_ ?_ ?_;(iterate 2 (focus (simp [*,encX,En.b] <;> fail)));simp [*,encX,En.b])|(refine acall_view (hc.out) ?_ ?_ ?_;(iterate 2 (focus (simp [*,encX,En.b] <;> fail)));simp [*,encX,En.b])|with_reducible refine And.intro ?_ ?_|omega|(refine imp1 fun h=>?_))
    exact hb.out
  ·have hie : i = l.length:=by omega
   subst hie
   have h1 : errL (l.map En.b) = 0:=by
    have:=he.out
    rwa [List.take_of_length_le (by simp)] at this
   replace h1:=Hld.mk h1
   repeat' (first
    |(with_reducible first|refine uK ?_|refine uX ?_|refine AW_seqk fun K hK=>?_|refine AW_block ?_)|((with_reducible first|refine rS hE ?_|refine RK_nilk ?_|refine RK_stepk fun K' hK'=>?_|refine AW_if fun X Y hX hY=>?_|refine AW_ret ?_|refine AW_skip ?_|refine AW_exit ?_);simp [*])|with_reducible refine rL hE ?_|with_reducible refine And.intro ?_ ?_|omega|(refine imp1 fun h=>?_))
   exact ⟨(),h1.out,by simp⟩)
 intro _ he
 replace he:=Hld.mk he
 refine AW_seqE (G:=Unit) (fun _=>⟨[(1,.sl 1 (ss.map iA)),(0,.sl 7 (l.map encE))],[]⟩) (fun _=>incB ss = true) ?_ (by
  intro K hK
  repeat' (first
   |(with_reducible first|refine uK ?_|refine uX ?_|refine AW_seqk fun K hK=>?_|refine AW_block ?_)|((with_reducible first|refine rS hE ?_|refine RK_nilk ?_|refine RK_stepk fun K' hK'=>?_|refine AW_if fun X Y hX hY=>?_|refine AW_ret ?_|refine AW_skip ?_|refine AW_exit ?_);simp [*])|with_reducible refine rL hE ?_|with_reducible refine And.intro ?_ ?_|omega|(refine imp1 fun h=>?_))
  refine AW_loopk (G:=Nat) (fun i=>⟨[(32,iA i),(31,iA ss.length),(1,.sl 1 (ss.map iA)),(0,.sl 7 (l.map encE))],[]⟩) (fun i=>i ≤ ss.length ∧ Hld (incB (ss.take i) = true)) (fun i=>ss.length - i) 0 ⟨Nat.zero_le _,⟨rfl⟩⟩ (by simp) ?_
  rintro i ⟨hi,hin⟩ K hK
  by_cases hlt : i < ss.length
  ·by_cases hi0 : i = 0
   ·subst hi0
    have h1:=Hld.mk (incB_take hin.out hlt (.inl rfl))
    repeat' (first
     |(with_reducible first|refine useK (by assumption) ?_|refine useK2 (by assumption) ?_|refine useX (by assumption) ?_|refine AW_seqk fun K hK=>?_|refine AW_block ?_)|(with_reducible refine AW_regionS rfl (by rw [hE];decide) ?_;simp [*])|with_reducible refine AW_region (by rw [hE];decide) ?_|((with_reducible show RK _ _ _ _ _ _);first|(refine RK_nilk ?_;simp [*])|(refine RK_stepk fun K' hK'=>?_;simp [*]))|with_reducible refine AW_drawq mixed (by rw [hE];decide) (by simp [newOK]) ?_|((with_reducible show RKQ _ _ _ _ _ _);first|refine RKQ_nilk ⟨by decide,?_⟩|(refine RKQ_stepk fun K' hK'=>?_;simp [*]))|((with_reducible first|refine AW_if fun X Y hX hY=>?_|refine AW_ret ?_|refine AW_skip ?_|refine AW_exit ?_);simp [*])|with_reducible refine And.intro ?_ ?_|omega|(refine imp1 fun h=>?_))
    exact ⟨1,⟨by omega,h1⟩,by omega,by simp⟩
   ·have hlt1 : i - 1 < ss.length:=by omega
    obtain ⟨a,ha⟩ : ∃ a,ss[i - 1] = a:=⟨_,rfl⟩
    obtain ⟨b,hb⟩ : ∃ b,ss[i] = b:=⟨_,rfl⟩
    have hi1 : 0 < i:=by omega
    have hiI : (i : Int) - 1 = ((i - 1 : Nat) : Int):=by omega
    have hi2 : ((i : Int) - 1).toNat = i - 1:=by omega
    by_cases hab : a < b
    ·have h1:=Hld.mk (incB_take hin.out hlt (.inr ⟨hlt1,by rw [ha,hb];exact hab⟩))
     have hnab : ¬ b ≤ a:=by omega
     repeat' (first
      |(with_reducible first|refine useK (by assumption) ?_|refine useK2 (by assumption) ?_|refine useX (by assumption) ?_|refine AW_seqk fun K hK=>?_|refine AW_block ?_)|(with_reducible refine AW_regionS rfl (by rw [hE];decide) ?_;simp [*])|with_reducible refine AW_region (by rw [hE];decide) ?_|((with_reducible show RK _ _ _ _ _ _);first|(refine RK_nilk ?_;simp [*])|(refine RK_stepk fun K' hK'=>?_;simp [*]))|with_reducible refine AW_drawq mixed (by rw [hE];decide) (by simp [newOK]) ?_|((with_reducible show RKQ _ _ _ _ _ _);first|refine RKQ_nilk ⟨by decide,?_⟩|(refine RKQ_stepk fun K' hK'=>?_;simp [*]))|((with_reducible first|refine AW_if fun X Y hX hY=>?_|refine AW_ret ?_|refine AW_skip ?_|refine AW_exit ?_);simp [*])|with_reducible refine And.intro ?_ ?_|omega|(refine imp1 fun h=>?_))
     exact ⟨i + 1,⟨by omega,h1⟩,by omega,by simp⟩
    ·have h1:=incB_not hi1 hlt (by rw [ha,hb];exact hab)
     have hbb:=hB1.out (fun h=>by rw [h1] at h;exact absurd h.2 (by simp))
     rw [if_pos he.out] at hbb
     replace hbb:=Hld.mk hbb
     have hba : b ≤ a:=by omega
     clear h1
     repeat' (first
      |(with_reducible first|refine useK (by assumption) ?_|refine useK2 (by assumption) ?_|refine useX (by assumption) ?_|refine AW_seqk fun K hK=>?_|refine AW_block ?_)|(with_reducible refine AW_regionS rfl (by rw [hE];decide) ?_;simp [*])|with_reducible refine AW_region (by rw [hE];decide) ?_|((with_reducible show RK _ _ _ _ _ _);first|(refine RK_nilk ?_;simp [*])|(refine RK_stepk fun K' hK'=>?_;simp [*]))|with_reducible refine AW_drawq mixed (by rw [hE];decide) (by simp [newOK]) ?_|((with_reducible show RKQ _ _ _ _ _ _);first|refine RKQ_nilk ⟨by decide,?_⟩|(refine RKQ_stepk fun K' hK'=>?_;simp [*]))|((with_reducible first|refine AW_if fun X Y hX hY=>?_|refine AW_ret ?_|refine AW_skip ?_|refine AW_exit ?_);simp [*])|with_reducible refine And.intro ?_ ?_|omega|(refine imp1 fun h=>?_))
     exact hbb.out
  ·have hie : i = ss.length:=by omega
   subst hie
   have h1 : incB ss = true:=by
    have:=hin.out
    rwa [List.take_length] at this
   replace h1:=Hld.mk h1
   repeat' (first
    |(with_reducible first|refine uK ?_|refine uX ?_|refine AW_seqk fun K hK=>?_|refine AW_block ?_)|((with_reducible first|refine rS hE ?_|refine RK_nilk ?_|refine RK_stepk fun K' hK'=>?_|refine AW_if fun X Y hX hY=>?_|refine AW_ret ?_|refine AW_skip ?_|refine AW_exit ?_);simp [*])|with_reducible refine rL hE ?_|with_reducible refine And.intro ?_ ?_|omega|(refine imp1 fun h=>?_))
   exact ⟨(),h1.out,by simp⟩)
 intro _ hin
 replace hin:=Hld.mk hin
 refine AW_seqt ⟨[(10,.v (.slice none 0 0)),(1,.sl 1 (ss.map iA)),(0,.sl 7 (l.map encE))],[]⟩ ?_ (by
  intro K hK
  repeat' (first
   |(with_reducible first|refine uK ?_|refine uX ?_|refine AW_seqk fun K hK=>?_|refine AW_block ?_)|((with_reducible first|refine rS hE ?_|refine RK_nilk ?_|refine RK_stepk fun K' hK'=>?_|refine AW_if fun X Y hX hY=>?_|refine AW_ret ?_|refine AW_skip ?_|refine AW_exit ?_);simp [*])|with_reducible refine rL hE ?_|with_reducible refine And.intro ?_ ?_|omega|(refine imp1 fun h=>?_))
  all_goals simp)
 refine AW_mkrow 10 40 51 7 (by simp) (by simp) (by simp) (by omega) ?_
 obtain ⟨F,hF⟩ : ∃ F : Nat → List En,∀ i,F i = partsL (l.take i) ss:=⟨_,fun _=>rfl⟩
 have hF0 : F 0 = []:=by rw [hF];rfl
 have hFe : F l.length = partsL l ss:=by rw [hF,List.take_length]
 have hFs : ∀ i (h : i < l.length),F (i + 1) = F i ++ cutE l[i] ss:=fun i h=>by rw [hF,hF];exact partsL_take l ss h
 have hFl : ∀ i,(F i).length ≤ 262144:=fun i=>by rw [hF];exact Nat.le_trans (partsL_le l ss i) hp
 have hrg:=Hld.mk (rg_parts (ss:=ss) he.out)
 replace hF:=()
 replace hFs:=Hld.mk hFs
 replace hFl:=Hld.mk hFl
 replace hFe:=Hld.mk hFe
 refine AW_seqt ⟨[(10,.own 40 7 0 (F l.length).length),(1,.sl 1 (ss.map iA)),(0,.sl 7 (l.map encE))],[(40,.arr 51 7 ((F l.length).map encE))]⟩ ?_ (by
  intro K hK
  repeat' (first
   |(with_reducible first|refine uK ?_|refine uX ?_|refine AW_seqk fun K hK=>?_|refine AW_block ?_)|((with_reducible first|refine rS hE ?_|refine RK_nilk ?_|refine RK_stepk fun K' hK'=>?_|refine AW_if fun X Y hX hY=>?_|refine AW_ret ?_|refine AW_skip ?_|refine AW_exit ?_);simp [*])|with_reducible refine rL hE ?_|with_reducible refine And.intro ?_ ?_|omega|(refine imp1 fun h=>?_))
  refine AW_loopk (G:=Nat) (fun i=>⟨[(52,iA i),(51,iA l.length),(50,.sl 7 (l.map encE)),(10,.own 40 7 0 (F i).length),(1,.sl 1 (ss.map iA)),(0,.sl 7 (l.map encE))],[(40,.arr 51 7 ((F i).map encE))]⟩) (fun i=>i ≤ l.length) (fun i=>l.length - i) 0 (Nat.zero_le _) (by simp [hF0]) ?_
  intro i hi K hK
  by_cases hlt : i < l.length
  ·have h1:=hFs.out i hlt
   have h2:=hFl.out (i + 1)
   rw [h1,List.length_append] at h2
   obtain ⟨L,hL⟩ : ∃ L,F i = L:=⟨_,rfl⟩
   have hc:=r_cut l[i] ss (by omega)
   obtain ⟨M,hM⟩ : ∃ M,cutE l[i] ss = M:=⟨_,rfl⟩
   rw [hM] at hc h1 h2
   rw [hL] at h1 h2
   replace hc:=Hld.mk hc
   have hLt : (L.map encE).take L.length = L.map encE:=List.take_of_length_le (by simp)
   have hMt : (M.map encE).take M.length = M.map encE:=List.take_of_length_le (by simp)
   have h2I : ¬ (262144 : Int) < (L.length : Int) + (M.length : Int):=by omega
   replace h1:=Hld.mk h1
   clear hM
   repeat' (first
    |(with_reducible first|refine uK ?_|refine uX ?_|refine AW_seqk fun K hK=>?_|refine AW_block ?_)|((with_reducible first|refine rS hE ?_|refine RK_nilk ?_|refine RK_stepk fun K' hK'=>?_|refine AW_if fun X Y hX hY=>?_|refine AW_ret ?_|refine AW_skip ?_|refine AW_exit ?_);simp [*])|with_reducible refine rL hE ?_|(refine acall_row (hc.out) ?_ (.inl ?_) ?_ ?_;(iterate 3 (focus (simp [*] <;> fail)));simp [*])|with_reducible refine And.intro ?_ ?_|omega|(refine imp1 fun h=>?_))
   exact ⟨i + 1,by omega,by omega,by simp [h1.out]⟩
  ·have hie : i = l.length:=by omega
   subst hie
   repeat' (first
    |(with_reducible first|refine uK ?_|refine uX ?_|refine AW_seqk fun K hK=>?_|refine AW_block ?_)|((with_reducible first|refine rS hE ?_|refine RK_nilk ?_|refine RK_stepk fun K' hK'=>?_|refine AW_if fun X Y hX hY=>?_|refine AW_ret ?_|refine AW_skip ?_|refine AW_exit ?_);simp [*])|with_reducible refine rL hE ?_|with_reducible refine And.intro ?_ ?_|omega|(refine imp1 fun h=>?_))
   simp)
 rw [hFe.out]
 have hpl:=hFl.out l.length
 rw [hFe.out] at hpl
 obtain ⟨N,hN⟩ : ∃ N,N = partsL l ss:=⟨_,rfl⟩
 rw [← hN] at hrg hpl ⊢
 have hB3 : ∀ nd dep,TreeOf N nd dep → B (.tup [.ep (encT ⟨l,nd,N.length,dep⟩),iA 0]):=fun nd dep h=>by rw [hN] at h ⊢;exact hB2.out nd dep he.out hin.out h
 replace hB3:=Hld.mk hB3
 replace hN:=()
 replace hFe:=()
 replace hFl:=()
 replace hFs:=()
 clear hB1 hB2
 have hcl:=Hld.mk (s_cloneE l (by omega))
 refine AW_seqt ⟨[(13,.loc 70 0),(10,.own 40 7 0 N.length)],[(70,.box 72 (tr0 l N.length)),(40,.arr 51 7 (N.map encE))]⟩ ?_ (by
  intro K hK
  repeat' (first
   |(with_reducible first|refine uK ?_|refine uX ?_|refine AW_seqk fun K hK=>?_|refine AW_block ?_)|((with_reducible first|refine rS hE ?_|refine RK_nilk ?_|refine RK_stepk fun K' hK'=>?_|refine AW_if fun X Y hX hY=>?_|refine AW_ret ?_|refine AW_skip ?_|refine AW_exit ?_);simp [*])|with_reducible refine rL hE ?_|(refine acall_same (hcl.out) ?_ ?_ ?_;(iterate 2 (focus (simp [*] <;> fail)));simp [*])|(refine acall_view (hcl.out) ?_ ?_ ?_;(iterate 2 (focus (simp [*] <;> fail)));simp [*])|with_reducible refine And.intro ?_ ?_|omega|(refine imp1 fun h=>?_))
  simp)
 refine AW_seqE (G:=List Nd × Nat) (fun g=>⟨[(13,.loc 70 0)],[(70,.box 72 (encT ⟨l,g.1,N.length,g.2⟩))]⟩) (fun g=>TreeOf N g.1 g.2) ?_ (by
  intro K hK
  repeat' (first
   |(with_reducible first|refine uK ?_|refine uX ?_|refine AW_seqk fun K hK=>?_|refine AW_block ?_)|((with_reducible first|refine rS hE ?_|refine RK_nilk ?_|refine RK_stepk fun K' hK'=>?_|refine AW_if fun X Y hX hY=>?_|refine AW_ret ?_|refine AW_skip ?_|refine AW_exit ?_);simp [*])|with_reducible refine rL hE ?_|with_reducible refine And.intro ?_ ?_|omega|(refine imp1 fun h=>?_))
  refine acall_load (i:=70) (j:=40) (L:=N) (en:=l) (p:=N.length) hrg.out (by omega) (by omega) (by simp) (by simp) fun nd dep ht=>?_
  simp
  replace ht:=Hld.mk ht
  repeat' (first
   |(with_reducible first|refine uK ?_|refine uX ?_|refine AW_seqk fun K hK=>?_|refine AW_block ?_)|((with_reducible first|refine rS hE ?_|refine RK_nilk ?_|refine RK_stepk fun K' hK'=>?_|refine AW_if fun X Y hX hY=>?_|refine AW_ret ?_|refine AW_skip ?_|refine AW_exit ?_);simp [*])|with_reducible refine rL hE ?_|with_reducible refine And.intro ?_ ?_|omega|(refine imp1 fun h=>?_))
  exact ⟨(nd,dep),ht.out,by simp⟩)
 rintro ⟨nd,dep⟩ ht
 have hbb:=Hld.mk (hB3.out nd dep ht)
 clear ht
 refine AW_freeze 70 (cb:=.box 72 (encT ⟨l,nd,N.length,dep⟩)) (t:=⟨[(13,.ep (encT ⟨l,nd,N.length,dep⟩))],[]⟩) (by simp) (by simp) (by simp) ?_
 repeat' (first
  |(with_reducible first|refine uK ?_|refine uX ?_|refine AW_seqk fun K hK=>?_|refine AW_block ?_)|((with_reducible first|refine rS hE ?_|refine RK_nilk ?_|refine RK_stepk fun K' hK'=>?_|refine AW_if fun X Y hX hY=>?_|refine AW_ret ?_|refine AW_skip ?_|refine AW_exit ?_);simp [*])|with_reducible refine rL hE ?_|with_reducible refine And.intro ?_ ?_|omega|(refine imp1 fun h=>?_))
 exact hbb.out
end Go.Proofs.Ytlkijcflfnnbaaa
end
