/- RtreeErrors: for any boxes, splits and box the law hands back true -/
import Derived.Test.YtlkijcflfnnbaaaZF
set_option maxRecDepth 100000
set_option linter.unusedSimpArgs false
set_option linter.unusedVariables false
namespace Go.Proofs.Ytlkijcflfnnbaaa
open Go.Am Go.RowKit Go.ChangeShapes Go.WideShapes Go.ChangeAt
theorem s_search0 (q : Bx) : PSpec Try.prog 23 [.v (.pointer none),encX q] (.sl 1 []):=by
 have:=s_search_of (.v (.pointer none)) rfl rfl q [] (ISpec.mono (i_looked0 q) (fun _ _ h=>h.elim) (fun xs h=>by rw [h];rfl)) (s_looked0 q) (by simp [fndN]) (fun n hn=>by cases hn)
 simpa [fndN,sortZ] using this
theorem s_visited0 (q : Bx) : PSpec Try.prog 33 [.v (.pointer none),encX q] (iA 0) :=
 s_visited_of (.v (.pointer none)) rfl rfl q [] (by simp) (ISpec.mono (i_looked0 q) (fun _ _ h=>h.elim) (fun xs h=>by rw [h];rfl)) (s_looked0 q)
theorem s_alive0 (t : Int) : PSpec Try.prog 29 [.v (.pointer none),iA t] (.sl 1 []):=by
 have hb:=Hld.mk s_box0
 refine PSpec_of Try.func29 rfl rfl (Nat.le_of_ble_eq_true rfl) (Nat.le_of_ble_eq_true rfl) ?_
 intro E hE
 repeat' (first
  |(with_reducible first|refine uK ?_|refine uX ?_|refine AW_seqk fun K hK=>?_|refine AW_block ?_)|((with_reducible first|refine rS hE ?_|refine RK_nilk ?_|refine RK_stepk fun K' hK'=>?_|refine AW_if fun X Y hX hY=>?_|refine AW_ret ?_|refine AW_skip ?_|refine AW_exit ?_);simp [*])|with_reducible refine rL hE ?_|(refine acall_same (hb.out) ?_ ?_ ?_;(iterate 2 (focus (simp [*] <;> fail)));simp [*])|(refine acall_view (hb.out) ?_ ?_ ?_;(iterate 2 (focus (simp [*] <;> fail)));simp [*])|with_reducible refine And.intro ?_ ?_|omega|(refine imp1 fun h=>?_))
theorem errL_step (l : List Bx) (i : Nat) (h : i < l.length) : errL (l.take (i + 1)) = if errL (l.take i) = 0 then chkX l[i] else errL (l.take i):=by
 induction l generalizing i with
 |nil=>simp at h
 |cons b l ih =>
  cases i with
  |zero =>
   simp only [List.take_succ_cons,List.take_zero,errL,List.getElem_cons_zero]
   by_cases hb : chkX b = 0 <;> simp [hb]
  |succ i =>
   simp only [List.take_succ_cons,errL,List.getElem_cons_succ]
   by_cases hb : chkX b = 0
   ·rw [if_pos hb,if_pos hb]
    exact ih i (by simpa using h)
   ·simp [hb]
def allE (l : List Bx) (i : Nat) : List En:=(List.range i).map fun j=>let b:=l.getD j default;⟨b.x0,b.x1,b.y0,b.y1,b.t0,b.t1,(j : Int)⟩
theorem allE_len (l : List Bx) (i : Nat) : (allE l i).length = i:=by simp [allE]
theorem allE_succ (l : List Bx) (i : Nat) (h : i < l.length) : allE l (i + 1) = allE l i ++ [⟨l[i].x0,l[i].x1,l[i].y0,l[i].y1,l[i].t0,l[i].t1,(i : Int)⟩]:=by
 simp [allE,List.range_succ,List.getD_eq_getElem?_getD,h]
theorem allE_b (l : List Bx) : (allE l l.length).map En.b = l:=by
 refine List.ext_getElem (by simp [allE]) fun i h1 h2=>?_
 simp [allE,En.b,List.getD_eq_getElem?_getD,h2]
namespace L6
def zN : Value:=.slice none 0 0
def zX : Value:=.agg #[.int .i64 0,.int .i64 0,.int .i64 0,.int .i64 0,.int .i64 0,.int .i64 0]
theorem walkBig (l : List Bx) (ss : List Int) (b : Bx) (h : 20 < l.length ∨ 20 < ss.length) (hl : l.length ≤ 9223372036854775807) (hs : ss.length ≤ 9223372036854775807) :
 PSpec Try.prog 9 [.sl 6 (l.map encX),.sl 1 (ss.map iA),encX b] (bA true):=by
 have hk:=Hld.mk s_known
 refine PSpec_of Try.func9 rfl rfl (Nat.le_of_ble_eq_true rfl) (Nat.le_of_ble_eq_true rfl) ?_
 intro E hE
 by_cases h1 : 20 < l.length
 ·have h1I : (20 : Int) < l.length:=by omega
  clear h
  repeat' (first
   |(with_reducible first|refine uK ?_|refine uX ?_|refine AW_seqk fun K hK=>?_|refine AW_block ?_)|((with_reducible first|refine rS hE ?_|refine RK_nilk ?_|refine RK_stepk fun K' hK'=>?_|refine AW_if fun X Y hX hY=>?_|refine AW_ret ?_|refine AW_skip ?_|refine AW_exit ?_);simp [*])|with_reducible refine rL hE ?_|(refine acall_same (hk.out) ?_ ?_ ?_;(iterate 2 (focus (simp [*] <;> fail)));simp [*])|(refine acall_view (hk.out) ?_ ?_ ?_;(iterate 2 (focus (simp [*] <;> fail)));simp [*])|with_reducible refine And.intro ?_ ?_|omega|(refine imp1 fun h=>?_))
 ·have h1I : ¬ (20 : Int) < l.length:=by omega
  have h2 : 20 < ss.length:=h.resolve_left h1
  have h2I : (20 : Int) < ss.length:=by omega
  clear h
  repeat' (first
   |(with_reducible first|refine uK ?_|refine uX ?_|refine AW_seqk fun K hK=>?_|refine AW_block ?_)|((with_reducible first|refine rS hE ?_|refine RK_nilk ?_|refine RK_stepk fun K' hK'=>?_|refine AW_if fun X Y hX hY=>?_|refine AW_ret ?_|refine AW_skip ?_|refine AW_exit ?_);simp [*])|with_reducible refine rL hE ?_|(refine acall_same (hk.out) ?_ ?_ ?_;(iterate 2 (focus (simp [*] <;> fail)));simp [*])|(refine acall_view (hk.out) ?_ ?_ ?_;(iterate 2 (focus (simp [*] <;> fail)));simp [*])|with_reducible refine And.intro ?_ ?_|omega|(refine imp1 fun h=>?_))
@[simp] def oA : Option Tr → AV
  |none=>.v (.pointer none)
  |some tr=>.ep (encT tr)
set_option maxHeartbeats 4000000 in
theorem walk (l : List Bx) (ss : List Int) (b : Bx) (hl : l.length ≤ 20) (hs : ss.length ≤ 20) : PSpec Try.prog 9 [.sl 6 (l.map encX),.sl 1 (ss.map iA),encX b] (bA true):=by
 have hk:=Hld.mk s_known
 obtain ⟨W,hW⟩ : ∃ W : Nat → Int,∀ i,errL (l.take i) = W i:=⟨_,fun _=>rfl⟩
 have hW0 : W 0 = 0:=by rw [← hW];simp [errL]
 have hWs : ∀ i (h : i < l.length),W (i + 1) = if W i = 0 then chkX l[i] else W i:=fun i h=>by rw [← hW,← hW];exact errL_step l i h
 have hWn : W l.length = errL l:=by rw [← hW,List.take_length]
 obtain ⟨F,hF⟩ : ∃ F : Nat → List En,∀ i,allE l i = F i:=⟨_,fun _=>rfl⟩
 have hF0 : F 0 = []:=by rw [← hF];rfl
 have hFs : ∀ i (h : i < l.length),F (i + 1) = F i ++ [⟨l[i].x0,l[i].x1,l[i].y0,l[i].y1,l[i].t0,l[i].t1,(i : Int)⟩]:=fun i h=>by rw [← hF,← hF];exact allE_succ l i h
 have hFl : ∀ i,(F i).length = i:=fun i=>by rw [← hF];exact allE_len l i
 have hFb : (F l.length).map En.b = l:=by rw [← hF];exact allE_b l
 clear hW hF
 obtain ⟨e,he⟩ : ∃ e,(if errL l = 0 then (if incB ss = true then (0 : Int) else 7) else errL l) = e:=⟨_,rfl⟩
 have hpt : (partsL (F l.length) ss).length ≤ 1000:=by
  have h1:=partsL_len (F l.length) ss
  rw [hFl] at h1
  have : l.length * (ss.length + 1) ≤ 20 * 21:=Nat.mul_le_mul hl (by omega)
  omega
 have hbd:=m_build (F l.length) ss (by rw [hFl];omega) (by omega) (by omega)
 have hbr : ∀ r,BuildR (F l.length) ss r → (e ≠ 0 ∧ r = .tup [.v (.pointer none),iA e]) ∨ (e = 0 ∧ ∃ tr,r = .tup [.ep (encT tr),iA 0] ∧ TreeB (F l.length) ss tr):=fun r hr=>by
  rcases hr with ⟨h1,rfl⟩|⟨h1,h2,h3⟩
  ·left
   rw [hFb] at h1 ⊢
   by_cases h4 : errL l = 0
   ·have h5 : ¬ incB ss = true:=fun h5=>h1 ⟨h4,h5⟩
    rw [← he,if_pos h4,if_pos h4,if_neg h5]
    exact ⟨by decide,rfl⟩
   ·rw [← he,if_neg h4,if_neg h4]
    exact ⟨h4,rfl⟩
  ·right
   have hr : BuildR (F l.length) ss r:=.inr ⟨h1,h2,h3⟩
   obtain ⟨tr,h6,h7⟩:=hr.ok h1 h2
   rw [hFb] at h1
   exact ⟨by rw [← he,if_pos h1,if_pos h2],tr,h6,h7⟩
 have hbe : e = 0 → errL ((F l.length).map En.b) = 0 ∧ incB ss = true:=fun h=>by
  rw [hFb]
  rw [← he] at h
  by_cases h1 : errL l = 0
  ·rw [if_pos h1] at h
   by_cases h2 : incB ss = true
   ·exact ⟨h1,h2⟩
   ·rw [if_neg h2] at h;cases h
  ·rw [if_neg h1] at h;exact absurd h h1
 have hck:=Hld.mk (s_chk2 b)
 replace hWs:=Hld.mk hWs
 replace hFs:=Hld.mk hFs
 replace hFl:=Hld.mk hFl
 replace he:=Hld.mk he
 replace hbd:=Hld.mk hbd
 replace hbr:=Hld.mk hbr
 clear hFb
 refine PSpec_of Try.func9 rfl rfl (Nat.le_of_ble_eq_true rfl) (Nat.le_of_ble_eq_true rfl) ?_
 intro E hE
 refine AW_seqt ⟨[(5,.loc 5 0),(1,.sl 1 (ss.map iA)),(0,.sl 6 (l.map encX))],[(5,.box 23 (encX b))]⟩ ?_ (by
  intro K hK
  repeat' (first
   |(with_reducible first|refine uK ?_|refine uX ?_|refine AW_seqk fun K hK=>?_|refine AW_block ?_)|((with_reducible first|refine rS hE ?_|refine RK_nilk ?_|refine RK_stepk fun K' hK'=>?_|refine AW_if fun X Y hX hY=>?_|refine AW_ret ?_|refine AW_skip ?_|refine AW_exit ?_);simp [*])|with_reducible refine rL hE ?_|with_reducible refine And.intro ?_ ?_|omega|(refine imp1 fun h=>?_))
  all_goals simp)
 refine AW_freeze 5 (cb:=.box 23 (encX b)) (t:=⟨[(5,.ep (encX b)),(1,.sl 1 (ss.map iA)),(0,.sl 6 (l.map encX))],[]⟩) (by simp) (by simp) (by simp) ?_
 refine AW_seqt ⟨[(5,.ep (encX b)),(1,.sl 1 (ss.map iA)),(0,.sl 6 (l.map encX))],[]⟩ ?_ (by
  intro K hK
  have h1I : ¬ (20 : Int) < l.length:=by omega
  have h2I : ¬ (20 : Int) < ss.length:=by omega
  repeat' (first
   |(with_reducible first|refine uK ?_|refine uX ?_|refine AW_seqk fun K hK=>?_|refine AW_block ?_)|((with_reducible first|refine rS hE ?_|refine RK_nilk ?_|refine RK_stepk fun K' hK'=>?_|refine AW_if fun X Y hX hY=>?_|refine AW_ret ?_|refine AW_skip ?_|refine AW_exit ?_);simp [*])|with_reducible refine rL hE ?_|(refine acall_same (hk.out) ?_ ?_ ?_;(iterate 2 (focus (simp [*] <;> fail)));simp [*])|(refine acall_view (hk.out) ?_ ?_ ?_;(iterate 2 (focus (simp [*] <;> fail)));simp [*])|with_reducible refine And.intro ?_ ?_|omega|(refine imp1 fun h=>?_))
  all_goals simp)
 refine AW_seqt ⟨[(7,.v (.slice none 0 0)),(5,.ep (encX b)),(1,.sl 1 (ss.map iA)),(0,.sl 6 (l.map encX))],[]⟩ ?_ (by
  intro K hK
  repeat' (first
   |(with_reducible first|refine uK ?_|refine uX ?_|refine AW_seqk fun K hK=>?_|refine AW_block ?_)|((with_reducible first|refine rS hE ?_|refine RK_nilk ?_|refine RK_stepk fun K' hK'=>?_|refine AW_if fun X Y hX hY=>?_|refine AW_ret ?_|refine AW_skip ?_|refine AW_exit ?_);simp [*])|with_reducible refine rL hE ?_|with_reducible refine And.intro ?_ ?_|omega|(refine imp1 fun h=>?_))
  all_goals simp)
 refine AW_mkrow 7 43 51 7 (by simp) (by simp) (by simp) (by omega) ?_
 refine AW_seqt ⟨[(8,iA 0),(7,.own 43 7 0 0),(5,.ep (encX b)),(1,.sl 1 (ss.map iA)),(0,.sl 6 (l.map encX))],[(43,.arr 51 7 [])]⟩ ?_ (by
  intro K hK
  repeat' (first
   |(with_reducible first|refine uK ?_|refine uX ?_|refine AW_seqk fun K hK=>?_|refine AW_block ?_)|((with_reducible first|refine rS hE ?_|refine RK_nilk ?_|refine RK_stepk fun K' hK'=>?_|refine AW_if fun X Y hX hY=>?_|refine AW_ret ?_|refine AW_skip ?_|refine AW_exit ?_);simp [*])|with_reducible refine rL hE ?_|with_reducible refine And.intro ?_ ?_|omega|(refine imp1 fun h=>?_))
  all_goals simp)
 refine AW_seqt ⟨[(8,iA (W l.length)),(7,.own 43 7 0 l.length),(5,.ep (encX b)),(1,.sl 1 (ss.map iA))],[(43,.arr 51 7 ((F l.length).map encE))]⟩ ?_ (by
  intro K hK
  repeat' (first
   |(with_reducible first|refine uK ?_|refine uX ?_|refine AW_seqk fun K hK=>?_|refine AW_block ?_)|((with_reducible first|refine rS hE ?_|refine RK_nilk ?_|refine RK_stepk fun K' hK'=>?_|refine AW_if fun X Y hX hY=>?_|refine AW_ret ?_|refine AW_skip ?_|refine AW_exit ?_);simp [*])|with_reducible refine rL hE ?_|with_reducible refine And.intro ?_ ?_|omega|(refine imp1 fun h=>?_))
  refine AW_loopk (G:=Nat) (fun i=>⟨[(9,iA i),(8,iA (W i)),(7,.own 43 7 0 i),(5,.ep (encX b)),(1,.sl 1 (ss.map iA)),(0,.sl 6 (l.map encX))],[(43,.arr 51 7 ((F i).map encE))]⟩) (fun i=>i ≤ l.length) (fun i=>l.length - i) 0 (Nat.zero_le _) (by simp [hW0,hF0]) ?_
  intro i hi K hK
  by_cases hlt : i < l.length
  ·have hltI : (i : Int) < l.length:=by omega
   have hs:=hWs.out i hlt
   have hfs:=hFs.out i hlt
   have hfl:=hFl.out i
   have hc:=Hld.mk (s_chk2 l[i])
   obtain ⟨w,hw⟩ : ∃ w,W i = w:=⟨_,rfl⟩
   obtain ⟨w2,hw2⟩ : ∃ w2,W (i + 1) = w2:=⟨_,rfl⟩
   obtain ⟨M,hM⟩ : ∃ M,F i = M:=⟨_,rfl⟩
   rw [hw,hw2] at hs
   rw [hM] at hfs hfl
   have hMt : (M.map encE).take i = M.map encE:=List.take_of_length_le (by simp [hfl])
   replace hfs:=Hld.mk hfs
   refine AW_le (t:=⟨[(9,iA i),(8,iA w),(7,.own 43 7 0 i),(5,.ep (encX b)),(1,.sl 1 (ss.map iA)),(0,.sl 6 (l.map encX))],[(43,.arr 51 7 (M.map encE))]⟩) (by simp [hw,hM]) ?_
   refine AW_seqt ⟨[(9,iA i),(8,iA w),(7,.own 43 7 0 i),(5,.ep (encX b)),(1,.sl 1 (ss.map iA)),(0,.sl 6 (l.map encX))],[(43,.arr 51 7 (M.map encE))]⟩ ?_ (by
    intro K hK
    repeat' (first
     |(with_reducible first|refine uK ?_|refine uX ?_|refine AW_seqk fun K hK=>?_|refine AW_block ?_)|((with_reducible first|refine rS hE ?_|refine RK_nilk ?_|refine RK_stepk fun K' hK'=>?_|refine AW_if fun X Y hX hY=>?_|refine AW_ret ?_|refine AW_skip ?_|refine AW_exit ?_);simp [*])|with_reducible refine rL hE ?_|with_reducible refine And.intro ?_ ?_|omega|(refine imp1 fun h=>?_))
    all_goals simp)
   obtain ⟨M2,hM2⟩ : ∃ M2,F (i + 1) = M2:=⟨_,rfl⟩
   replace hfs : Hld (M2 = M ++ [⟨l[i].x0,l[i].x1,l[i].y0,l[i].y1,l[i].t0,l[i].t1,(i : Int)⟩]):=⟨by rw [← hM2];exact hfs.out⟩
   refine AW_seqt ⟨[(9,iA i),(8,iA w2),(7,.own 43 7 0 (i + 1)),(5,.ep (encX b)),(1,.sl 1 (ss.map iA)),(0,.sl 6 (l.map encX))],[(43,.arr 51 7 (M2.map encE))]⟩ ?_ (by
    intro K hK
    clear hM hw hw2 hM2
    refine AW_block ?_
    refine AW_seqt ⟨[(9,iA i),(8,iA w),(7,.own 43 7 0 (i + 1)),(5,.ep (encX b)),(1,.sl 1 (ss.map iA)),(0,.sl 6 (l.map encX))],[(43,.arr 51 7 (M2.map encE))]⟩ ?_ (by
     intro K hK
     repeat' (first
      |(with_reducible first|refine uK ?_|refine uX ?_|refine AW_seqk fun K hK=>?_|refine AW_block ?_)|((with_reducible first|refine rS hE ?_|refine RK_nilk ?_|refine RK_stepk fun K' hK'=>?_|refine AW_if fun X Y hX hY=>?_|refine AW_ret ?_|refine AW_skip ?_|refine AW_exit ?_);simp [*,encX])|with_reducible refine rL hE ?_|with_reducible refine And.intro ?_ ?_|omega|(refine imp1 fun h=>?_))
     all_goals simp [hfs.out,hfl,encE,encX])
    by_cases h0 : w = 0
    ·rw [if_pos h0] at hs
     repeat' (first
      |(with_reducible first|refine uK ?_|refine uX ?_|refine AW_seqk fun K hK=>?_|refine AW_block ?_)|((with_reducible first|refine rS hE ?_|refine RK_nilk ?_|refine RK_stepk fun K' hK'=>?_|refine AW_if fun X Y hX hY=>?_|refine AW_ret ?_|refine AW_skip ?_|refine AW_exit ?_);simp [*,encX])|with_reducible refine rL hE ?_|(refine acall_same (hc.out) ?_ ?_ ?_;(iterate 2 (focus (simp [*,encX] <;> fail)));simp [*,encX])|(refine acall_view (hc.out) ?_ ?_ ?_;(iterate 2 (focus (simp [*,encX] <;> fail)));simp [*,encX])|with_reducible refine And.intro ?_ ?_|omega|(refine imp1 fun h=>?_))
     all_goals simp [hs,encX]
    ·rw [if_neg h0] at hs
     repeat' (first
      |(with_reducible first|refine uK ?_|refine uX ?_|refine AW_seqk fun K hK=>?_|refine AW_block ?_)|((with_reducible first|refine rS hE ?_|refine RK_nilk ?_|refine RK_stepk fun K' hK'=>?_|refine AW_if fun X Y hX hY=>?_|refine AW_ret ?_|refine AW_skip ?_|refine AW_exit ?_);simp [*,encX])|with_reducible refine rL hE ?_|with_reducible refine And.intro ?_ ?_|omega|(refine imp1 fun h=>?_))
     all_goals simp [hs,encX])
   clear hs
   repeat' (first
    |(with_reducible first|refine uK ?_|refine uX ?_|refine AW_seqk fun K hK=>?_|refine AW_block ?_)|((with_reducible first|refine rS hE ?_|refine RK_nilk ?_|refine RK_stepk fun K' hK'=>?_|refine AW_if fun X Y hX hY=>?_|refine AW_ret ?_|refine AW_skip ?_|refine AW_exit ?_);simp [*])|with_reducible refine rL hE ?_|with_reducible refine And.intro ?_ ?_|omega|(refine imp1 fun h=>?_))
   exact ⟨i + 1,by omega,by omega,by simp [hw2,hM2]⟩
  ·have hie : i = l.length:=by omega
   subst hie
   clear hWn
   repeat' (first
    |(with_reducible first|refine uK ?_|refine uX ?_|refine AW_seqk fun K hK=>?_|refine AW_block ?_)|((with_reducible first|refine rS hE ?_|refine RK_nilk ?_|refine RK_stepk fun K' hK'=>?_|refine AW_if fun X Y hX hY=>?_|refine AW_ret ?_|refine AW_skip ?_|refine AW_exit ?_);simp [*])|with_reducible refine rL hE ?_|with_reducible refine And.intro ?_ ?_|omega|(refine imp1 fun h=>?_))
   all_goals simp)
 clear hWs hFs hF0 hW0
 rw [hWn]
 clear hWn
 refine AW_freeze 43 (cb:=.arr 51 7 ((F l.length).map encE)) (t:=⟨[(8,iA (errL l)),(7,.sl 7 ((F l.length).map encE)),(5,.ep (encX b)),(1,.sl 1 (ss.map iA))],[]⟩) (by simp) (by simp [List.take_of_length_le,hFl.out]) (by simp) ?_
 obtain ⟨L,hL⟩ : ∃ L,F l.length = L:=⟨_,rfl⟩
 rw [hL] at hbd hbr hpt hbe ⊢
 clear hL hFl
 obtain ⟨w,hw⟩ : ∃ w,errL l = w:=⟨_,rfl⟩
 rw [hw] at he ⊢
 clear hw
 refine AW_seqt ⟨[(8,iA e),(7,.sl 7 (L.map encE)),(5,.ep (encX b)),(1,.sl 1 (ss.map iA))],[]⟩ ?_ (by
  intro K hK
  by_cases h0 : w = 0
  ·have he0:=he.out
   rw [if_pos h0] at he0
   clear he
   subst h0
   repeat' (first
    |(with_reducible first|refine uK ?_|refine uX ?_|refine AW_seqk fun K hK=>?_|refine AW_block ?_)|((with_reducible first|refine rS hE ?_|refine RK_nilk ?_|refine RK_stepk fun K' hK'=>?_|refine AW_if fun X Y hX hY=>?_|refine AW_ret ?_|refine AW_skip ?_|refine AW_exit ?_);simp [*])|with_reducible refine rL hE ?_|with_reducible refine And.intro ?_ ?_|omega|(refine imp1 fun h=>?_))
   refine AW_loopk (G:=Nat × Int) (fun g=>⟨[(10,iA ((g.1 : Int) + 1)),(8,iA g.2),(7,.sl 7 (L.map encE)),(5,.ep (encX b)),(1,.sl 1 (ss.map iA))],[]⟩) (fun g=>(g.2 = 0 ∧ (g.1 ≤ ss.length ∧ incB (ss.take (g.1 + 1)) = true)) ∨ (g.2 = 7 ∧ (g.1 ≤ ss.length ∧ incB ss = false))) (fun g=>ss.length + 1 - g.1) (0,0) (.inl ⟨rfl,Nat.zero_le _,?_⟩) (by simp) ?_
   ·cases ss <;> simp [incB]
   rintro ⟨j,v⟩ hI K hK
   simp only at hI
   rcases hI with ⟨rfl,hj,hinc⟩|⟨rfl,hj,hinc⟩
   ·by_cases hlt : j + 1 < ss.length
    ·have hltI : (j : Int) + 1 < ss.length:=by omega
     have hjI : ((j : Int) + 1).toNat = j + 1:=by omega
     obtain ⟨x,hx⟩ : ∃ x,ss[j]'(by omega) = x:=⟨_,rfl⟩
     obtain ⟨y,hy⟩ : ∃ y,ss[j + 1] = y:=⟨_,rfl⟩
     have hxq : ss[j]? = some x:=by rw [List.getElem?_eq_getElem (by omega),hx]
     by_cases hxy : y ≤ x
     ·have hno : incB ss = false:=incB_not (i:=j + 1) (by omega) hlt (by simp only [Nat.add_sub_cancel];rw [hx,hy];omega)
      replace hno:=Hld.mk hno
      clear hinc he0
      repeat' (first
       |(with_reducible first|refine useK (by assumption) ?_|refine useK2 (by assumption) ?_|refine useX (by assumption) ?_|refine AW_seqk fun K hK=>?_|refine AW_block ?_)|(with_reducible refine AW_regionS rfl (by rw [hE];decide) ?_;simp [*])|with_reducible refine AW_region (by rw [hE];decide) ?_|((with_reducible show RK _ _ _ _ _ _);first|(refine RK_nilk ?_;simp [*])|(refine RK_stepk fun K' hK'=>?_;simp [*]))|with_reducible refine AW_drawq mixed (by rw [hE];decide) (by simp [newOK]) ?_|((with_reducible show RKQ _ _ _ _ _ _);first|refine RKQ_nilk ⟨by decide,?_⟩|(refine RKQ_stepk fun K' hK'=>?_;simp [*]))|((with_reducible first|refine AW_if fun X Y hX hY=>?_|refine AW_ret ?_|refine AW_skip ?_|refine AW_exit ?_);simp [*])|with_reducible refine And.intro ?_ ?_|omega|(refine imp1 fun h=>?_))
      exact ⟨(j + 1,7),.inr ⟨rfl,(show j + 1 ≤ ss.length by omega),hno.out⟩,(show ss.length + 1 - (j + 1) < ss.length + 1 - j by omega),by simp⟩
     ·have hyes:=incB_take hinc hlt (.inr ⟨by omega,by simp only [Nat.add_sub_cancel];rw [hx,hy];omega⟩)
      replace hyes:=Hld.mk hyes
      clear hinc he0
      repeat' (first
       |(with_reducible first|refine useK (by assumption) ?_|refine useK2 (by assumption) ?_|refine useX (by assumption) ?_|refine AW_seqk fun K hK=>?_|refine AW_block ?_)|(with_reducible refine AW_regionS rfl (by rw [hE];decide) ?_;simp [*])|with_reducible refine AW_region (by rw [hE];decide) ?_|((with_reducible show RK _ _ _ _ _ _);first|(refine RK_nilk ?_;simp [*])|(refine RK_stepk fun K' hK'=>?_;simp [*]))|with_reducible refine AW_drawq mixed (by rw [hE];decide) (by simp [newOK]) ?_|((with_reducible show RKQ _ _ _ _ _ _);first|refine RKQ_nilk ⟨by decide,?_⟩|(refine RKQ_stepk fun K' hK'=>?_;simp [*]))|((with_reducible first|refine AW_if fun X Y hX hY=>?_|refine AW_ret ?_|refine AW_skip ?_|refine AW_exit ?_);simp [*])|with_reducible refine And.intro ?_ ?_|omega|(refine imp1 fun h=>?_))
      exact ⟨(j + 1,0),.inl ⟨rfl,(show j + 1 ≤ ss.length by omega),hyes.out⟩,(show ss.length + 1 - (j + 1) < ss.length + 1 - j by omega),by simp⟩
    ·have hltI : ¬ (j : Int) + 1 < ss.length:=by omega
     rw [List.take_of_length_le (by omega)] at hinc
     rw [if_pos hinc] at he0
     subst he0
     clear hinc
     repeat' (first
      |(with_reducible first|refine uK ?_|refine uX ?_|refine AW_seqk fun K hK=>?_|refine AW_block ?_)|((with_reducible first|refine rS hE ?_|refine RK_nilk ?_|refine RK_stepk fun K' hK'=>?_|refine AW_if fun X Y hX hY=>?_|refine AW_ret ?_|refine AW_skip ?_|refine AW_exit ?_);simp [*])|with_reducible refine rL hE ?_|with_reducible refine And.intro ?_ ?_|omega|(refine imp1 fun h=>?_))
     all_goals simp
   ·rw [if_neg (by rw [hinc];simp)] at he0
    subst he0
    clear hinc
    by_cases hlt : (j : Int) + 1 < ss.length
    ·repeat' (first
      |(with_reducible first|refine uK ?_|refine uX ?_|refine AW_seqk fun K hK=>?_|refine AW_block ?_)|((with_reducible first|refine rS hE ?_|refine RK_nilk ?_|refine RK_stepk fun K' hK'=>?_|refine AW_if fun X Y hX hY=>?_|refine AW_ret ?_|refine AW_skip ?_|refine AW_exit ?_);simp [*])|with_reducible refine rL hE ?_|with_reducible refine And.intro ?_ ?_|omega|(refine imp1 fun h=>?_))
     all_goals simp
    ·repeat' (first
      |(with_reducible first|refine uK ?_|refine uX ?_|refine AW_seqk fun K hK=>?_|refine AW_block ?_)|((with_reducible first|refine rS hE ?_|refine RK_nilk ?_|refine RK_stepk fun K' hK'=>?_|refine AW_if fun X Y hX hY=>?_|refine AW_ret ?_|refine AW_skip ?_|refine AW_exit ?_);simp [*])|with_reducible refine rL hE ?_|with_reducible refine And.intro ?_ ?_|omega|(refine imp1 fun h=>?_))
     all_goals simp
  ·have he0:=he.out
   rw [if_neg h0] at he0
   clear he
   subst he0
   repeat' (first
    |(with_reducible first|refine uK ?_|refine uX ?_|refine AW_seqk fun K hK=>?_|refine AW_block ?_)|((with_reducible first|refine rS hE ?_|refine RK_nilk ?_|refine RK_stepk fun K' hK'=>?_|refine AW_if fun X Y hX hY=>?_|refine AW_ret ?_|refine AW_skip ?_|refine AW_exit ?_);simp [*])|with_reducible refine rL hE ?_|with_reducible refine And.intro ?_ ?_|omega|(refine imp1 fun h=>?_))
   refine AW_loopk (G:=Unit) (fun _=>⟨[(10,iA 1),(8,iA w),(7,.sl 7 (L.map encE)),(5,.ep (encX b)),(1,.sl 1 (ss.map iA))],[]⟩) (fun _=>True) (fun _=>0) () trivial (by simp) ?_
   intro _ _ K hK
   by_cases hlt : (1 : Int) < ss.length
   ·repeat' (first
     |(with_reducible first|refine uK ?_|refine uX ?_|refine AW_seqk fun K hK=>?_|refine AW_block ?_)|((with_reducible first|refine rS hE ?_|refine RK_nilk ?_|refine RK_stepk fun K' hK'=>?_|refine AW_if fun X Y hX hY=>?_|refine AW_ret ?_|refine AW_skip ?_|refine AW_exit ?_);simp [*])|with_reducible refine rL hE ?_|with_reducible refine And.intro ?_ ?_|omega|(refine imp1 fun h=>?_))
    all_goals simp
   ·repeat' (first
     |(with_reducible first|refine uK ?_|refine uX ?_|refine AW_seqk fun K hK=>?_|refine AW_block ?_)|((with_reducible first|refine rS hE ?_|refine RK_nilk ?_|refine RK_stepk fun K' hK'=>?_|refine AW_if fun X Y hX hY=>?_|refine AW_ret ?_|refine AW_skip ?_|refine AW_exit ?_);simp [*])|with_reducible refine rL hE ?_|with_reducible refine And.intro ?_ ?_|omega|(refine imp1 fun h=>?_))
    all_goals simp)
 clear he
 refine AW_seqE (G:=Option Tr) (fun o=>⟨[(12,iA e),(11,oA o),(8,iA e),(5,.ep (encX b))],[]⟩) (fun o=>match o with|none=>e ≠ 0|some tr=>e = 0 ∧ TreeB L ss tr) ?_ (by
  intro K hK
  repeat' (first
   |(with_reducible first|refine uK ?_|refine uX ?_|refine AW_seqk fun K hK=>?_|refine AW_block ?_)|((with_reducible first|refine rS hE ?_|refine RK_nilk ?_|refine RK_stepk fun K' hK'=>?_|refine AW_if fun X Y hX hY=>?_|refine AW_ret ?_|refine AW_skip ?_|refine AW_exit ?_);simp [*])|with_reducible refine rL hE ?_|with_reducible refine And.intro ?_ ?_|omega|(refine imp1 fun h=>?_))
  refine acall_rel hbd.out (by simp) (fun r h=>h.idf) fun r hr=>?_
  rcases hbr.out r hr with ⟨h1,rfl⟩|⟨h1,tr,rfl,h2⟩
  ·replace h1:=Hld.mk h1
   clear hbr hr
   simp
   repeat' (first
    |(with_reducible first|refine uK ?_|refine uX ?_|refine AW_seqk fun K hK=>?_|refine AW_block ?_)|((with_reducible first|refine rS hE ?_|refine RK_nilk ?_|refine RK_stepk fun K' hK'=>?_|refine AW_if fun X Y hX hY=>?_|refine AW_ret ?_|refine AW_skip ?_|refine AW_exit ?_);simp [*])|with_reducible refine rL hE ?_|with_reducible refine And.intro ?_ ?_|omega|(refine imp1 fun h=>?_))
   exact ⟨none,h1.out,by simp⟩
  ·replace h2:=Hld.mk h2
   replace h1:=Hld.mk h1
   clear hbr hr
   simp
   repeat' (first
    |(with_reducible first|refine uK ?_|refine uX ?_|refine AW_seqk fun K hK=>?_|refine AW_block ?_)|((with_reducible first|refine rS hE ?_|refine RK_nilk ?_|refine RK_stepk fun K' hK'=>?_|refine AW_if fun X Y hX hY=>?_|refine AW_ret ?_|refine AW_skip ?_|refine AW_exit ?_);simp [*])|with_reducible refine rL hE ?_|with_reducible refine And.intro ?_ ?_|omega|(refine imp1 fun h=>?_))
   exact ⟨some tr,⟨h1.out,h2.out⟩,by simp [h1.out]⟩)
 intro o ho
 refine AW_seqt ⟨[(12,iA e),(11,oA o),(8,iA e),(5,.ep (encX b))],[]⟩ ?_ (by
  intro K hK
  rcases o with _|tr
  ·replace ho : e ≠ 0:=ho
   simp only [oA]
   repeat' (first
    |(with_reducible first|refine uK ?_|refine uX ?_|refine AW_seqk fun K hK=>?_|refine AW_block ?_)|((with_reducible first|refine rS hE ?_|refine RK_nilk ?_|refine RK_stepk fun K' hK'=>?_|refine AW_if fun X Y hX hY=>?_|refine AW_ret ?_|refine AW_skip ?_|refine AW_exit ?_);simp [*])|with_reducible refine rL hE ?_|with_reducible refine And.intro ?_ ?_|omega|(refine imp1 fun h=>?_))
   all_goals simp
  ·obtain ⟨ho,_⟩ : e = 0 ∧ TreeB L ss tr:=ho
   subst ho
   simp only [oA]
   repeat' (first
    |(with_reducible first|refine uK ?_|refine uX ?_|refine AW_seqk fun K hK=>?_|refine AW_block ?_)|((with_reducible first|refine rS hE ?_|refine RK_nilk ?_|refine RK_stepk fun K' hK'=>?_|refine AW_if fun X Y hX hY=>?_|refine AW_ret ?_|refine AW_skip ?_|refine AW_exit ?_);simp [*])|with_reducible refine rL hE ?_|with_reducible refine And.intro ?_ ?_|omega|(refine imp1 fun h=>?_))
   all_goals simp)
 refine AW_seqt ⟨[(5,.ep (encX b))],[]⟩ ?_ (by
  intro K hK
  rcases o with _|tr
  ·simp only [oA]
   repeat' (first
    |(with_reducible first|refine uK ?_|refine uX ?_|refine AW_seqk fun K hK=>?_|refine AW_block ?_)|((with_reducible first|refine rS hE ?_|refine RK_nilk ?_|refine RK_stepk fun K' hK'=>?_|refine AW_if fun X Y hX hY=>?_|refine AW_ret ?_|refine AW_skip ?_|refine AW_exit ?_);simp [*])|with_reducible refine rL hE ?_|with_reducible refine And.intro ?_ ?_|omega|(refine imp1 fun h=>?_))
   all_goals simp
  ·obtain ⟨ho,ht⟩ : e = 0 ∧ TreeB L ss tr:=ho
   have hsr:=ht.search (hbe ho).1 (hbe ho).2 (by omega) b
   have hvi:=ht.visited (by omega) b
   clear ht
   simp only [oA]
   by_cases hc : chkX b = 0
   ·clear hsr hvi
    repeat' (first
     |(with_reducible first|refine uK ?_|refine uX ?_|refine AW_seqk fun K hK=>?_|refine AW_block ?_)|((with_reducible first|refine rS hE ?_|refine RK_nilk ?_|refine RK_stepk fun K' hK'=>?_|refine AW_if fun X Y hX hY=>?_|refine AW_ret ?_|refine AW_skip ?_|refine AW_exit ?_);simp [*])|with_reducible refine rL hE ?_|(refine acall_same (hck.out) ?_ ?_ ?_;(iterate 2 (focus (simp [*] <;> fail)));simp [*])|(refine acall_view (hck.out) ?_ ?_ ?_;(iterate 2 (focus (simp [*] <;> fail)));simp [*])|with_reducible refine And.intro ?_ ?_|omega|(refine imp1 fun h=>?_))
    all_goals simp
   ·rw [if_neg hc] at hsr hvi
    replace hsr:=Hld.mk hsr
    replace hvi:=Hld.mk hvi
    repeat' (first
     |(with_reducible first|refine uK ?_|refine uX ?_|refine AW_seqk fun K hK=>?_|refine AW_block ?_)|((with_reducible first|refine rS hE ?_|refine RK_nilk ?_|refine RK_stepk fun K' hK'=>?_|refine AW_if fun X Y hX hY=>?_|refine AW_ret ?_|refine AW_skip ?_|refine AW_exit ?_);simp [*])|with_reducible refine rL hE ?_|(refine acall_same (hck.out) ?_ ?_ ?_;(iterate 2 (focus (simp [*] <;> fail)));simp [*])|(refine acall_view (hck.out) ?_ ?_ ?_;(iterate 2 (focus (simp [*] <;> fail)));simp [*])|(refine acall_same (hsr.out) ?_ ?_ ?_;(iterate 2 (focus (simp [*] <;> fail)));simp [*])|(refine acall_view (hsr.out) ?_ ?_ ?_;(iterate 2 (focus (simp [*] <;> fail)));simp [*])|(refine acall_same (hvi.out) ?_ ?_ ?_;(iterate 2 (focus (simp [*] <;> fail)));simp [*])|(refine acall_view (hvi.out) ?_ ?_ ?_;(iterate 2 (focus (simp [*] <;> fail)));simp [*])|with_reducible refine And.intro ?_ ?_|omega|(refine imp1 fun h=>?_))
    all_goals simp)
 clear ho
 have n1:=Hld.mk s_box0
 have n2:=Hld.mk s_len0
 have n3:=Hld.mk s_parts0
 have n4:=Hld.mk s_depth0
 have n5:=Hld.mk s_nodes0
 have n6:=Hld.mk (s_search0 b)
 have n7:=Hld.mk (s_alive0 1)
 have n8:=Hld.mk (s_visited0 b)
 refine AW_seqt ⟨[(13,.v (.pointer none)),(5,.ep (encX b))],[]⟩ ?_ (by
  intro K hK
  repeat' (first
   |(with_reducible first|refine uK ?_|refine uX ?_|refine AW_seqk fun K hK=>?_|refine AW_block ?_)|((with_reducible first|refine rS hE ?_|refine RK_nilk ?_|refine RK_stepk fun K' hK'=>?_|refine AW_if fun X Y hX hY=>?_|refine AW_ret ?_|refine AW_skip ?_|refine AW_exit ?_);simp [*])|with_reducible refine rL hE ?_|with_reducible refine And.intro ?_ ?_|omega|(refine imp1 fun h=>?_))
  all_goals simp)
 refine AW_seqt ⟨[(15,bA false),(13,.v (.pointer none)),(5,.ep (encX b))],[]⟩ ?_ (by
  intro K hK
  repeat' (first
   |(with_reducible first|refine uK ?_|refine uX ?_|refine AW_seqk fun K hK=>?_|refine AW_block ?_)|((with_reducible first|refine rS hE ?_|refine RK_nilk ?_|refine RK_stepk fun K' hK'=>?_|refine AW_if fun X Y hX hY=>?_|refine AW_ret ?_|refine AW_skip ?_|refine AW_exit ?_);simp [*,encX,zX])|with_reducible refine rL hE ?_|(refine acall_same (n1.out) ?_ ?_ ?_;(iterate 2 (focus (simp [*,encX,zX] <;> fail)));simp [*,encX,zX])|(refine acall_view (n1.out) ?_ ?_ ?_;(iterate 2 (focus (simp [*,encX,zX] <;> fail)));simp [*,encX,zX])|with_reducible refine And.intro ?_ ?_|omega|(refine imp1 fun h=>?_))
  all_goals simp [encX])
 repeat' (first
  |(with_reducible first|refine useK (by assumption) ?_|refine useK2 (by assumption) ?_|refine useX (by assumption) ?_|refine AW_seqk fun K hK=>?_|refine AW_block ?_)|(with_reducible refine AW_regionS rfl (by rw [hE];decide) ?_;simp [*])|with_reducible refine AW_region (by rw [hE];decide) ?_|((with_reducible show RK _ _ _ _ _ _);first|(refine RK_nilk ?_;simp [*])|(refine RK_stepk fun K' hK'=>?_;simp [*]))|with_reducible refine AW_drawq mixed (by rw [hE];decide) (by simp [newOK]) ?_|((with_reducible show RKQ _ _ _ _ _ _);first|refine RKQ_nilk ⟨by decide,?_⟩|(refine RKQ_stepk fun K' hK'=>?_;simp [*]))|((with_reducible first|refine AW_if fun X Y hX hY=>?_|refine AW_ret ?_|refine AW_skip ?_|refine AW_exit ?_);simp [*])|((first|refine acall_same (n2.out) ?_ ?_ ?_|refine call_same (n2.out) ?_ ?_ ?_);(focus (simp [*] <;> fail));(focus (simp [*] <;> fail));simp [*])|((first|refine acall_view (n2.out) ?_ ?_ ?_|refine call_view (n2.out) ?_ ?_ ?_);(focus (simp [*] <;> fail));(focus (simp [*] <;> fail));simp [*])|((first|refine acall_same (n3.out) ?_ ?_ ?_|refine call_same (n3.out) ?_ ?_ ?_);(focus (simp [*] <;> fail));(focus (simp [*] <;> fail));simp [*])|((first|refine acall_view (n3.out) ?_ ?_ ?_|refine call_view (n3.out) ?_ ?_ ?_);(focus (simp [*] <;> fail));(focus (simp [*] <;> fail));simp [*])|((first|refine acall_same (n4.out) ?_ ?_ ?_|refine call_same (n4.out) ?_ ?_ ?_);(focus (simp [*] <;> fail));(focus (simp [*] <;> fail));simp [*])|((first|refine acall_view (n4.out) ?_ ?_ ?_|refine call_view (n4.out) ?_ ?_ ?_);(focus (simp [*] <;> fail));(focus (simp [*] <;> fail));simp [*])|((first|refine acall_same (n5.out) ?_ ?_ ?_|refine call_same (n5.out) ?_ ?_ ?_);(focus (simp [*] <;> fail));(focus (simp [*] <;> fail));simp [*])|((first|refine acall_view (n5.out) ?_ ?_ ?_|refine call_view (n5.out) ?_ ?_ ?_);(focus (simp [*] <;> fail));(focus (simp [*] <;> fail));simp [*])|((first|refine acall_same (n6.out) ?_ ?_ ?_|refine call_same (n6.out) ?_ ?_ ?_);(focus (simp [*] <;> fail));(focus (simp [*] <;> fail));simp [*])|((first|refine acall_view (n6.out) ?_ ?_ ?_|refine call_view (n6.out) ?_ ?_ ?_);(focus (simp [*] <;> fail));(focus (simp [*] <;> fail));simp [*])|((first|refine acall_same (n7.out) ?_ ?_ ?_|refine call_same (n7.out) ?_ ?_ ?_);(focus (simp [*] <;> fail));(focus (simp [*] <;> fail));simp [*])|((first|refine acall_view (n7.out) ?_ ?_ ?_|refine call_view (n7.out) ?_ ?_ ?_);(focus (simp [*] <;> fail));(focus (simp [*] <;> fail));simp [*])|((first|refine acall_same (n8.out) ?_ ?_ ?_|refine call_same (n8.out) ?_ ?_ ?_);(focus (simp [*] <;> fail));(focus (simp [*] <;> fail));simp [*])|((first|refine acall_view (n8.out) ?_ ?_ ?_|refine call_view (n8.out) ?_ ?_ ?_);(focus (simp [*] <;> fail));(focus (simp [*] <;> fail));simp [*])|with_reducible refine And.intro ?_ ?_|omega|(refine imp1 fun h=>?_))
theorem law (l : List Bx) (ss : List Int) (b : Bx) (hl : l.length ≤ maxLen) (hs : ss.length ≤ maxLen) : PSpec Try.prog 9 [.sl 6 (l.map encX),.sl 1 (ss.map iA),encX b] (bA true):=by
 unfold maxLen at hl hs
 by_cases h : 20 < l.length ∨ 20 < ss.length
 ·exact walkBig l ss b h (by omega) (by omega)
 ·exact walk l ss b (by omega) (by omega)
theorem spec (avs : List AV) (h : ShapeL Try.prog 6 Try.f9.params.toList avs) : PSpec Try.prog 9 avs (.v (.bool true)):=by
 rw [Try.params9] at h
 obtain ⟨c1,r1,rfl,h1,c2,r2,rfl,h2,c3,r3,rfl,h3,rfl⟩:=h
 obtain ⟨l,hl, -,hl2⟩:=avXs h1
 obtain ⟨T,hT, -,hT2⟩:=avIs h2
 obtain ⟨c,hc, -⟩:=avX h3
 rw [hl,hT,hc]
 exact law l T c hl2 hT2
theorem contract (H : Type) (enc : TypeId × Value → H) (W : World) (base : Nat) (args : Array Value) (ds gs : List (DataW H)) (before : List MemPlace)
 (hval : ∀ (j : Nat) t v,Try.f9.params[j]? = some t → args[j]? = some v → Value.okWide Try.prog W .any base t v)
 (hW : DataW.Whole enc Try.prog Try.f9.params.toList Rows.rtreeErrorsSpec.vars false W args.toList ds gs before) :
 Calls Try.prog 9 args W fun e W'=>∃ v,e = .returned v ∧ Rows.rtreeErrorsSpec.post enc Try.prog Try.f9 false true false false W args v W' :=
 law_contract (m:=6) (tb:=4) spec (by rw [Try.params9];intro t ht;simp at ht;rcases ht with rfl|rfl|rfl <;> kernel_rfl) rfl laidK
  (by rw [Try.params9];intro t ht;simp at ht;rcases ht with rfl|rfl|rfl <;> exact ⟨by kernel_rfl,by decide +kernel⟩)
  (fun ds hd=>by
    rw [Try.params9] at hd
    match ds,hd with
    |[d1,d2,d3],_=>rfl) (by kernel_rfl) Try.underlying4 hval hW
theorem lifted (os : Os) (started : os.Started) (H : Type) (enc : TypeId × Value → H) :
 ReturnsInHanded {} Try.checked os 9 .any (Rows.rtreeErrorsSpec.pre6 enc Try.prog Try.f9 Rows.rtreeErrorsRow.domain false) (Rows.rtreeErrorsSpec.post enc Try.prog Try.f9 false true false false):=by
 refine returnsInHanded_of_change (C:=Try.checked) ownK started (by kernel_rfl) Try.func9
  (ChangeSpec.witness6 (enc:=enc) (C:=Try.checked) false ⟨#[],#[zN,zN,zX],[]⟩ 8 (by kernel_rfl) (by kernel_rfl) (by kernel_rfl) (by kernel_rfl)) ?_
 intro W base args ds gs before hval hW hcnd _
 exact contract H enc W base args ds gs before hval hW
theorem said : Rows.RtreeErrorsSaid :=
 OpenClaim.holds_of_wide 9 Try.f9 rfl rfl rfl rfl rfl rfl rfl ⟨rfl,rfl,rfl,rfl,rfl⟩ rfl rfl rfl rfl rfl (by kernel_rfl) Try.func9 (by kernel_rfl)
  (of_decide_eq_true (by kernel_rfl)) (by unfold Func.isWrapper;first|(rw [if_pos (by decide +kernel)];kernel_rfl)|(rw [if_neg (by decide +kernel)];exact ⟨rfl,rfl⟩))
  (fun os started H enc _=>lifted os started H enc)
end L6
end Go.Proofs.Ytlkijcflfnnbaaa
