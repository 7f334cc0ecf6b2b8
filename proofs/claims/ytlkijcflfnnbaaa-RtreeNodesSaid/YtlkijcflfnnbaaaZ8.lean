/- Layer 38: slices -/
import Derived.Test.YtlkijcflfnnbaaaZ7
import Derived.Test.YtlkijcflfnnbaaaZ6
set_option maxRecDepth 100000
set_option maxRecDepth 1000000
set_option linter.unusedSimpArgs false
set_option linter.unusedVariables false
section
namespace Go.Proofs.Ytlkijcflfnnbaaa
open Go.Am
def chunkC (L : List En) (m j : Nat) : List AV:=[.sl 7 (((L.drop (j * m)).take m).map encE)]
def okCC (L : List En) (m : Nat) (pre : List (List AV)) (x : List AV) : Prop:=pre.length * m < L.length ∧ x = chunkC L m pre.length
theorem s_chunkC (L : List En) (m : Nat) (hm : 1 ≤ m) : PSpec Try.prog 47 [.sl 7 (L.map encE),iA m] (.fn (.func 61) [] [.ep (.sl 7 (L.map encE)),.ep (iA m)]):=by
 have hmI : ¬ (m : Int) < 1:=by omega
 refine PSpec_of Try.func47 rfl rfl (Nat.le_of_ble_eq_true rfl) (Nat.le_of_ble_eq_true rfl) ?_
 intro E hE
 refine AW_seqt ⟨[(4,.v .nilFunc),(3,.loc 3 0),(2,.loc 2 0)],[(3,.box 3 (iA m)),(2,.box 33 (.sl 7 (L.map encE)))]⟩ ?_ (by
  intro K hK
  repeat' (first
   |(with_reducible first|refine uK ?_|refine uX ?_|refine AW_seqk fun K hK=>?_|refine AW_block ?_)|((with_reducible first|refine rS hE ?_|refine RK_nilk ?_|refine RK_stepk fun K' hK'=>?_|refine AW_if fun X Y hX hY=>?_|refine AW_ret ?_|refine AW_skip ?_|refine AW_exit ?_);simp [*])|with_reducible refine rL hE ?_|with_reducible refine And.intro ?_ ?_|omega|(refine imp1 fun h=>?_))
  all_goals simp)
 refine AW_freeze 2 (cb:=.box 33 (.sl 7 (L.map encE))) (t:=⟨[(4,.v .nilFunc),(3,.loc 3 0),(2,.ep (.sl 7 (L.map encE)))],[(3,.box 3 (iA m))]⟩) (by simp) (by simp) (by simp) ?_
 refine AW_freeze 3 (cb:=.box 3 (iA m)) (t:=⟨[(4,.v .nilFunc),(3,.ep (iA m)),(2,.ep (.sl 7 (L.map encE)))],[]⟩) (by simp) (by simp) (by simp) ?_
 repeat' (first
  |(with_reducible first|refine uK ?_|refine uX ?_|refine AW_seqk fun K hK=>?_|refine AW_block ?_)|((with_reducible first|refine rS hE ?_|refine RK_nilk ?_|refine RK_stepk fun K' hK'=>?_|refine AW_if fun X Y hX hY=>?_|refine AW_ret ?_|refine AW_skip ?_|refine AW_exit ?_);simp [*])|with_reducible refine rL hE ?_|with_reducible refine And.intro ?_ ?_|omega|(refine imp1 fun h=>?_))
theorem i_chunkC (L : List En) (n m : Nat) (hnL : n = L.length) (hm : 0 < m) (hm2 : m < 1000000) (hn : n < 1152921504606846976) :
 ISpec Try.prog 61 [.ep (.sl 7 (L.map encE)),.ep (iA m)] (okCC L m) (fun xs=>L.length ≤ xs.length * m):=by
 refine ISpec_of Try.func61 rfl rfl (Nat.le_of_ble_eq_true rfl) (Nat.le_of_ble_eq_true rfl) (by simp [idfL,AV.idf]) ?_
 intro l J E hE hY Hx G hJ hG
 replace hY:=Hld.mk hY
 replace hJ:=Hld.mk hJ
 replace hG:=Hld.mk hG
 have hLn : L.length = n:=hnL.symm
 clear hnL
 obtain ⟨R,hR⟩ : ∃ R,R = L.map encE:=⟨_,rfl⟩
 have hRl : R.length = n:=by rw [hR];simpa using hLn
 have hRi : idfL R = true:=by rw [hR];simp
 have hRr : ∀ σ,renL σ R = R:=by rw [hR];simp
 have hRm : ∀ d,mentL d R = false:=by rw [hR];simp
 rw [← hR]
 have hR':=Hld.mk hR
 clear hR
 refine AW_seqt ⟨[(4,iA 0),(0,.fn (.yield l) [] []),(1,.ep (.sl 7 R)),(2,.ep (iA m))],(1999999,.hp Hx) :: gbox G⟩ ?_ (by
  intro K hK
  repeat' (first
   |(with_reducible first|refine uK ?_|refine uX ?_|refine AW_seqk fun K hK=>?_|refine AW_block ?_)|((with_reducible first|refine rS hE ?_|refine RK_nilk ?_|refine RK_stepk fun K' hK'=>?_|refine AW_if fun X Y hX hY=>?_|refine AW_ret ?_|refine AW_skip ?_|refine AW_exit ?_);simp [*])|with_reducible refine rL hE ?_|with_reducible refine And.intro ?_ ?_|omega|(refine imp1 fun h=>?_))
  refine ⟨by simp,by simp,?_⟩
  exact leB_g (L:=[(1999999,.hp Hx)]) (by simp [lowB]) hG.out)
 refine AW_block ?_
 refine AW_loopk (G:=List (List AV) × Heap × GL) (fun g=>⟨[(4,iA ((g.1.length * m : Nat) : Int)),(0,.fn (.yield l) [] []),(1,.ep (.sl 7 R)),(2,.ep (iA m))],(1999999,.hp g.2.1) :: gbox g.2.2⟩)
  (fun g=>(g.1.length * m < n + m) ∧ Hld (J g.1 g.2.1 g.2.2) ∧ Hld (GOk g.2.2)) (fun g=>n + m - g.1.length * m) ([],Hx,G) ⟨(show 0 * m < n + m by omega),hJ,hG⟩ ?_ ?_
 ·refine ⟨by simp,by simp,?_⟩
  exact leB_g (L:=[(1999999,.hp Hx)]) (by simp [lowB]) hG.out
 clear hJ hG
 rintro ⟨pre,Hy,D⟩ ⟨hlt,hJ,hG⟩ K hK
 replace hlt : pre.length * m < n + m:=hlt
 replace hJ : Hld (J pre Hy D):=hJ
 replace hG : Hld (GOk D):=hG
 obtain ⟨i,hi⟩ : ∃ i,i = pre.length * m:=⟨_,rfl⟩
 have hiI : ((pre.length * m : Nat) : Int) = i:=by omega
 simp only [hiI]
 have hlt2 : i < n + m:=by omega
 by_cases hin : i < n
 ·obtain ⟨e,he,he1⟩ : ∃ e : Nat,e = min m (n - i) ∧ 0 < e:=⟨_,rfl,by omega⟩
  have hen : min (m : Int) ((n - i : Nat) : Int) = e:=by omega
  have hin1 : (n : Int).toNat = n:=by omega
  have hx : chunkC L m pre.length = [.sl 7 ((R.take (((i : Int) + e).toNat)).drop i)]:=by
   simp only [chunkC,← hi]
   rw [hR'.out,show ((i : Int) + e).toNat = i + e by omega,← List.map_take,← List.map_drop,List.drop_take,show i + e - i = e by omega]
   rw [show e = min m (L.drop i).length by rw [List.length_drop,he];omega,List.take_eq_take_min]
  have hpl : pre.length * m < L.length:=by omega
  have hi':=Hld.mk hi
  have he':=Hld.mk he
  have hen1 : i + e ≤ n:=by omega
  clear hi he
  have hle : ∀ (ss : List (Nat × AV)) (H' : Heap) (G' : GL) (_ : GOk G'),leB ⟨ss,(1999999,.hp H') :: gbox G'⟩ (gbox G'):=fun ss H' G' h=>leB_g (L:=[(1999999,.hp H')]) (by simp [lowB]) h
  replace hle:=Hld.mk hle
  refine AW_seqt ⟨[(4,iA i),(0,.fn (.yield l) [] []),(1,.ep (.sl 7 R)),(2,.ep (iA m))],(1999999,.hp Hy) :: gbox D⟩ ?_ (by
   intro K hK
   repeat' (first
    |(with_reducible first|refine uK ?_|refine uX ?_|refine AW_seqk fun K hK=>?_|refine AW_block ?_)|((with_reducible first|refine rS hE ?_|refine RK_nilk ?_|refine RK_stepk fun K' hK'=>?_|refine AW_if fun X Y hX hY=>?_|refine AW_ret ?_|refine AW_skip ?_|refine AW_exit ?_);simp [*])|with_reducible refine rL hE ?_|with_reducible refine And.intro ?_ ?_|omega|(refine imp1 fun h=>?_))
   exact ⟨by simp,by simp,hle.out _ _ _ hG.out⟩)
  refine AW_seqE (G:=Heap × GL) (fun g=>⟨[(4,iA i),(0,.fn (.yield l) [] []),(1,.ep (.sl 7 R)),(2,.ep (iA m))],(1999999,.hp g.1) :: gbox g.2⟩) (fun g=>J (pre ++ [chunkC L m pre.length]) g.1 g.2 ∧ GOk g.2) ?_ ?_
  ·rintro ⟨Hz,F⟩ ⟨hJ2,hG2⟩
   replace hJ2:=Hld.mk hJ2
   replace hG2:=Hld.mk hG2
   repeat' (first
    |(with_reducible first|refine uK ?_|refine uX ?_|refine AW_seqk fun K hK=>?_|refine AW_block ?_)|((with_reducible first|refine rS hE ?_|refine RK_nilk ?_|refine RK_stepk fun K' hK'=>?_|refine AW_if fun X Y hX hY=>?_|refine AW_ret ?_|refine AW_skip ?_|refine AW_exit ?_);simp [*])|with_reducible refine rL hE ?_|with_reducible refine And.intro ?_ ?_|omega|(refine imp1 fun h=>?_))
   have h0 : (pre ++ [chunkC L m pre.length]).length * m = i + m:=by
    rw [List.length_append,List.length_singleton,Nat.add_mul,Nat.one_mul,← hi'.out]
   exact ⟨(pre ++ [chunkC L m pre.length],Hz,F),⟨(show (pre ++ [chunkC L m pre.length]).length * m < n + m by omega),hJ2,hG2⟩,(show n + m - (pre ++ [chunkC L m pre.length]).length * m < n + m - pre.length * m by rw [h0,← hi'.out];omega),by simp only [h0];exact ⟨by simp,by simp,hle.out _ _ _ hG2.out⟩⟩
  ·intro K hK
   refine AW_block ?_
   refine AW_seqt ⟨[(5,iA e),(4,iA i),(0,.fn (.yield l) [] []),(1,.ep (.sl 7 R)),(2,.ep (iA m))],(1999999,.hp Hy) :: gbox D⟩ ?_ (by
    intro K hK
    repeat' (first
     |(with_reducible first|refine useK (by assumption) ?_|refine useK2 (by assumption) ?_|refine useX (by assumption) ?_|refine AW_seqk fun K hK=>?_|refine AW_block ?_)|(with_reducible refine AW_regionS rfl (by rw [hE];decide) ?_;simp [*])|with_reducible refine AW_region (by rw [hE];decide) ?_|((with_reducible show RK _ _ _ _ _ _);first|(refine RK_nilk ?_;simp [*])|(refine RK_stepk fun K' hK'=>?_;simp [*]))|with_reducible refine AW_drawq mixed (by rw [hE];decide) (by simp [newOK]) ?_|((with_reducible show RKQ _ _ _ _ _ _);first|refine RKQ_nilk ⟨by decide,?_⟩|(refine RKQ_stepk fun K' hK'=>?_;simp [*]))|((with_reducible first|refine AW_if fun X Y hX hY=>?_|refine AW_ret ?_|refine AW_skip ?_|refine AW_exit ?_);simp [*])|with_reducible refine And.intro ?_ ?_|omega|(refine imp1 fun h=>?_))
    exact ⟨by simp [hen],by simp,hle.out _ _ _ hG.out⟩)
   refine AW_seqE (G:=Heap × GL) (fun g=>⟨[(30,bA false),(4,iA i),(0,.fn (.yield l) [] []),(1,.ep (.sl 7 R)),(2,.ep (iA m))],(1999999,.hp g.1) :: gbox g.2⟩) (fun g=>J (pre ++ [chunkC L m pre.length]) g.1 g.2 ∧ GOk g.2) ?_ ?_
   ·rintro ⟨Hz,F⟩ ⟨hJ2,hG2⟩
    replace hJ2:=Hld.mk hJ2
    replace hG2:=Hld.mk hG2
    repeat' (first
     |(with_reducible first|refine uK ?_|refine uX ?_|refine AW_seqk fun K hK=>?_|refine AW_block ?_)|((with_reducible first|refine rS hE ?_|refine RK_nilk ?_|refine RK_stepk fun K' hK'=>?_|refine AW_if fun X Y hX hY=>?_|refine AW_ret ?_|refine AW_skip ?_|refine AW_exit ?_);simp [*])|with_reducible refine rL hE ?_|with_reducible refine And.intro ?_ ?_|omega|(refine imp1 fun h=>?_))
    exact ⟨(Hz,F),⟨hJ2.out,hG2.out⟩,by simp,by simp,hle.out _ _ _ hG2.out⟩
   ·intro K hK
    refine AW_regionY 10 rfl rfl (by rw [hE];decide) ?_
    change RK _ _ _ [_,_,_,_,_,_,_,_,_,_] _ _
    repeat' (first
     |(with_reducible first|refine uK ?_|refine uX ?_|refine AW_seqk fun K hK=>?_|refine AW_block ?_)|((with_reducible first|refine rS hE ?_|refine RK_nilk ?_|refine RK_stepk fun K' hK'=>?_|refine AW_if fun X Y hX hY=>?_|refine AW_ret ?_|refine AW_skip ?_|refine AW_exit ?_);simp [*])|with_reducible refine rL hE ?_|with_reducible refine And.intro ?_ ?_|omega|(refine imp1 fun h=>?_))
    rw [← hx]
    refine AYield_of (L:=[(1999999,.hp Hy)]) (hY.out pre _ ⟨hpl,rfl⟩) (by simp) rfl (by simp [lowB]) hG.out hJ.out (by simp [chunkC,idfL,AV.idf]) ?_ ?_
    ·intro i hi
     simp [mentS,mentB,AV.ment,mentL,Ct.ment,chunkC]
    ·intro Hz F hJ2 hG2
     simp
     refine hK.h _ ⟨(Hz,F),⟨hJ2,hG2⟩,by simp,by simp,?_⟩
     exact leB_g (L:=[(1999999,.hp Hz),(1999999,.hp Hy)]) (by simp [lowB]) hG2
 ·have hnm : n ≤ pre.length * m:=by omega
  have hi':=Hld.mk hi
  clear hi
  repeat' (first
   |(with_reducible first|refine uK ?_|refine uX ?_|refine AW_seqk fun K hK=>?_|refine AW_block ?_)|((with_reducible first|refine rS hE ?_|refine RK_nilk ?_|refine RK_stepk fun K' hK'=>?_|refine AW_if fun X Y hX hY=>?_|refine AW_ret ?_|refine AW_skip ?_|refine AW_exit ?_);simp [*])|with_reducible refine rL hE ?_|with_reducible refine And.intro ?_ ?_|omega|(refine imp1 fun h=>?_))
  exact ⟨[(1999999,.hp Hy)],D,rfl,by simp [lowB],hG.out,pre,hnm,hJ.out⟩
theorem m_cloneE (l : List En) (hl : l.length ≤ 1000000) : MSpec Try.prog 37 [.sl 7 (l.map encE)] [] (fun res bf=>(res = .own 5 7 0 l.length ∧ bf 5 = some (.arr 51 7 (l.map encE))) ∨ (l = [] ∧ res = .v (.slice none 0 0))):=by
 refine MSpec_of Try.func37 rfl rfl (Nat.le_of_ble_eq_true rfl) (Nat.le_of_ble_eq_true rfl) ?_
 intro E hE
 refine AW_seq fun K hK=>?_
 refine AW_region (by rw [hE];decide) ?_
 simp
 refine hK _ ?_
 clear hK
 refine AW_seq fun K0 hK0=>?_
 refine AW_seq fun K1 hK1=>?_
 refine AW_region (by rw [hE];decide) ?_
 simp
 have fin1 : ∀ s',s'.le ⟨[(4,bA true),(0,.sl 7 (l.map encE))],[]⟩ → l = [] → K1 s':=by
  intro s' hs' hl0
  refine hK1 _ ?_
  refine AW_le hs' ?_
  refine AW_cond (t:=true) (by simp) ?_ ?_
  ·intro _
   refine AW_seq fun K hK=>?_
   refine AW_region (by rw [hE];decide) ?_
   simp
   refine hK _ ?_
   clear hK
   refine AW_ret ?_
   simp [hl0]
  ·intro h;cases h
 have fin2 : ∀ s',s'.le ⟨[(4,bA false),(0,.sl 7 (l.map encE))],[]⟩ → K1 s':=by
  intro s' hs'
  refine hK1 _ ?_
  refine AW_le hs' ?_
  refine AW_cond (t:=false) (by simp) ?_ ?_
  ·intro h;cases h
  intro _
  refine AW_skip ?_
  simp
  refine hK0 _ ?_
  refine AW_seq fun K hK=>?_
  refine AW_region (by rw [hE];decide) ?_
  simp
  repeat' apply And.intro
  all_goals try omega
  all_goals try decide
  refine hK _ ?_
  clear hK
  refine AW_ret ?_
  simp
 constructor
 ·intro h
  exact fin2 _ (by simp)
 ·intro h
  refine ⟨?_,?_⟩
  ·exact fin2 _ (by simp)
  ·exact fin1 _ (by simp) h
theorem r_cloneE (l : List En) (hl : l.length ≤ 1000000) : RSpec Try.prog 37 [.sl 7 (l.map encE)] 51 7 (l.map encE) :=
 MSpec.mono (m_cloneE l hl) (by
  rintro res bf (⟨rfl,h⟩|⟨rfl,rfl⟩)
  ·exact .inl ⟨5,_,by simp,h,List.take_of_length_le (by simp)⟩
  ·exact .inr ⟨rfl,rfl⟩)
theorem s_cloneE (l : List En) (hl : l.length ≤ 1000000) : PSpec Try.prog 37 [.sl 7 (l.map encE)] (.sl 7 (l.map encE)):=(r_cloneE l hl).toP (by simp)
end Go.Proofs.Ytlkijcflfnnbaaa
end
section
namespace Go.Proofs.Ytlkijcflfnnbaaa
open Go.Am
inductive Ch where
 |nil
 |pl (b n cc : Nat)
 deriving DecidableEq,Inhabited
def Ch.av : Ch → AV
 |.nil=>.v (.slice none 0 0)
 |.pl b n cc=>.v (.slice (some ⟨b,0,none⟩) n cc)
inductive Pa where
 |nil
 |row (l : List En)
 deriving DecidableEq,Inhabited
def Pa.av : Pa → AV
 |.nil=>.v (.slice none 0 0)
 |.row l=>.sl 7 (l.map encE)
structure Mx where
 (b : Bx)
 (ch : Ch)
 (pa : Pa)
 deriving DecidableEq,Inhabited
@[simp] theorem cha_isSt (e : Ch) : e.av.isSt = false:=by cases e <;> rfl
@[simp] theorem cha_sto (e : Ch) : e.av.sto = true:=by cases e <;> rfl
@[simp] theorem cha_one (e : Ch) : e.av.one = true:=by cases e <;> rfl
@[simp] theorem cha_cells (e : Ch) : e.av.cells = [e.av]:=by cases e <;> rfl
@[simp] theorem cha_idf (e : Ch) : e.av.idf = true:=by cases e <;> rfl
@[simp] theorem cha_kn (e : Ch) : e.av.kn = true:=by cases e <;> rfl
@[simp] theorem cha_ment (d : Nat) (e : Ch) : e.av.ment d = false:=by cases e <;> rfl
@[simp] theorem cha_ren (σ : Nat → Nat) (e : Ch) : e.av.ren σ = e.av:=by cases e <;> rfl
@[simp] theorem cha_ids (e : Ch) : e.av.ids = []:=by cases e <;> rfl
@[simp] theorem cha_idsOf (e : Ch) : idsOf e.av = []:=by cases e <;> rfl
@[simp] theorem cha_flat (e : Ch) : e.av.flat = true:=by cases e <;> rfl
@[simp] theorem paa_isSt (e : Pa) : e.av.isSt = false:=by cases e <;> rfl
@[simp] theorem paa_sto (e : Pa) : e.av.sto = true:=by cases e <;> rfl
@[simp] theorem paa_one (e : Pa) : e.av.one = true:=by cases e <;> rfl
@[simp] theorem paa_cells (e : Pa) : e.av.cells = [e.av]:=by cases e <;> rfl
@[simp] theorem paa_idf (e : Pa) : e.av.idf = true:=by cases e <;> rfl
@[simp] theorem paa_kn (e : Pa) : e.av.kn = true:=by cases e <;> rfl
@[simp] theorem paa_ment (d : Nat) (e : Pa) : e.av.ment d = false:=by cases e <;> rfl
@[simp] theorem paa_ren (σ : Nat → Nat) (e : Pa) : e.av.ren σ = e.av:=by cases e <;> rfl
@[simp] theorem paa_ids (e : Pa) : e.av.ids = []:=by cases e <;> rfl
@[simp] theorem paa_idsOf (e : Pa) : idsOf e.av = []:=by cases e <;> rfl
def encM (e : Mx) : AV:=.st [iA e.b.x0,iA e.b.x1,iA e.b.y0,iA e.b.y1,iA e.b.t0,iA e.b.t1,e.ch.av,e.pa.av]
@[simp] theorem encM_cells (e : Mx) : (encM e).cells = [iA e.b.x0,iA e.b.x1,iA e.b.y0,iA e.b.y1,iA e.b.t0,iA e.b.t1,e.ch.av,e.pa.av]:=rfl
@[simp] theorem encM_isSt (e : Mx) : (encM e).isSt = true:=rfl
@[simp] theorem encM_sto (e : Mx) : (encM e).sto = true:=rfl
@[simp] theorem encM_one (e : Mx) : (encM e).one = false:=rfl
@[simp] theorem encM_idf (e : Mx) : (encM e).idf = true:=by simp [encM,AV.idf]
@[simp] theorem encM_kn (e : Mx) : (encM e).kn = true:=rfl
@[simp] theorem encM_ment (d : Nat) (e : Mx) : (encM e).ment d = false:=by simp [encM]
@[simp] theorem encM_ren (σ : Nat → Nat) (e : Mx) : (encM e).ren σ = encM e:=by simp [encM]
@[simp] theorem encM_ids (e : Mx) : (encM e).ids = []:=by simp [encM]
@[simp] theorem encM_idsOf (e : Mx) : idsOf (encM e) = []:=by simp [encM]
@[simp] theorem view_encM {bf : Nat → Option Ct} {e : Mx} : View bf (encM e) (encM e):=view_self (by simp)
@[simp] theorem idf_LM (l : List Mx) : idfL (l.map encM) = true:=by induction l with|nil=>rfl|cons a l ih=>simp [ih]
@[simp] theorem ment_LM (d : Nat) (l : List Mx) : mentL d (l.map encM) = false:=by induction l with|nil=>rfl|cons a l ih=>simp [ih]
@[simp] theorem ids_LM (l : List Mx) : idsA (l.map encM) = []:=by induction l with|nil=>rfl|cons a l ih=>simp [ih]
@[simp] theorem ren_LM (σ : Nat → Nat) (l : List Mx) : renL σ (l.map encM) = l.map encM:=by induction l with|nil=>rfl|cons a l ih=>simp [ih]
def kpA (i : Nat) : Nat:=if i < 40 then i + 1500000 else if 1500000 ≤ i ∧ i < 1500040 then i - 1500000 else i
theorem kpA_kpA (i : Nat) : kpA (kpA i) = i:=by unfold kpA;(repeat' split) <;> omega
theorem kpA_lt (i : Nat) (h : i < 2000000) : kpA i < 2000000:=by unfold kpA;(repeat' split) <;> omega
theorem kpA_mid (i : Nat) (h1 : 1000000 ≤ i) (h2 : i < 1500000) : kpA i = i:=by unfold kpA;(repeat' split) <;> omega
theorem kpA_ne {d : Nat} (h1 : d < 1000000) (h2 : kpA d ≠ d) : d < 40:=by
 unfold kpA at h2
 (repeat' split at h2) <;> omega
@[simp] theorem kpA_2 : kpA 2 = 1500002:=by decide
@[simp] theorem kpA_r2 : kpA 1500002 = 2:=by decide
@[simp] theorem kpA_4 : kpA 4 = 1500004:=by decide
@[simp] theorem kpA_r4 : kpA 1500004 = 4:=by decide
@[simp] theorem kpA_13 : kpA 13 = 1500013:=by decide
@[simp] theorem kpA_r13 : kpA 1500013 = 13:=by decide
@[simp] theorem kpA_40 : kpA 40 = 40:=by decide
@[simp] theorem kpA_41 : kpA 41 = 41:=by decide
@[simp] theorem kpA_42 : kpA 42 = 42:=by decide
@[simp] theorem kpA_m : kpA 1000001 = 1000001:=by decide
theorem kpA_hi (i : Nat) (h : 2000000 ≤ i) : kpA i = i:=by unfold kpA;(repeat' split) <;> omega
def accB (b : Bx) (l : List En) : Bx:=l.foldl (fun b x=>arX b x.b) b
def hdB (l : List En) : Bx:=match l with|[]=>⟨0,0,0,0,0,0⟩|x :: _=>x.b
def leafM (l : List En) : Mx:=⟨accB (hdB l) l,.nil,.row l⟩
def runE (L : List En) (j : Nat) : List En:=(L.drop (j * 8)).take 8
def leafsM (L : List En) (k : Nat) : List Mx:=(List.range k).map fun j=>leafM (runE L j)
theorem accB_succ (b : Bx) (l : List En) (i : Nat) (h : i < l.length) : accB b (l.take (i + 1)) = arX (accB b (l.take i)) l[i].b:=by
 unfold accB
 rw [List.take_succ_eq_append_getElem h,List.foldl_append]
 rfl
end Go.Proofs.Ytlkijcflfnnbaaa
end
section
namespace Go.Proofs.Ytlkijcflfnnbaaa
open Go.Am
abbrev tr0 (en : List En) (p : Int) : AV:=.st [.sl 7 (en.map encE),.v (.slice none 0 0),iA p,iA 0]
abbrev stL (en : List En) (p : Int) (m : Nat) (F : List Mx) : AState:=⟨[(4,.loc 4 0),(2,.loc 2 0)],[(4,.box 53 (.own 40 8 0 m)),(40,.arr 60 8 (F.map encM)),(2,.box 36 (.loc 1000001 0)),(1000001,.box 72 (tr0 en p))]⟩
theorem load_1 (L : List En) (en : List En) (p : Int) (hR : RgL L) (hn : L.length < 1000000) (R : AV → (Nat → Option Ct) → Prop)
 (h : ∀ (E : Env) (c0 c1 c2 c3 rest : Code),E.n = Try.f38.ntmps → RoundOK E → Try.f38.body = some (.seq c0 (.seq c1 (.seq c2 (.seq c3 rest)))) → ∀ (N : List En) (m : Nat),N.Perm L → L.length ≤ m * 8 → (m ≠ 0 → (m - 1) * 8 < L.length) →
   AW Try.prog E rest (stL en p m (leafsM N m)) (MOut Try.prog Try.f38 R)) :
 MSpec Try.prog 38 [.loc 1000001 0,.own 1000000 7 0 L.length] [(1000000,.arr 51 7 (L.map encE)),(1000001,.box 72 (tr0 en p))] R:=by
 have hms:=Hld.mk (m_strips L hR (by omega))
 replace h:=Hld.mk h
 obtain ⟨n,hnL⟩ : ∃ n,n = L.length:=⟨_,rfl⟩
 rw [← hnL] at hn hms ⊢
 have hnL':=Hld.mk hnL
 clear hnL hR
 refine MSpec_ofR Try.func38 rfl rfl (Nat.le_of_ble_eq_true rfl) (Nat.le_of_ble_eq_true rfl) ?_
 intro E hE hRO
 replace hRO:=Hld.mk hRO
 refine AW_seqE (G:=List En) (fun M=>⟨[(2,.loc 2 0),(1,.own 1000000 7 0 n)],[(2,.box 36 (.loc 1000001 0)),(1000000,.arr 51 7 (M.map encE)),(1000001,.box 72 (tr0 en p))]⟩) (fun M=>M = L) ?_ (by
  intro K hK
  repeat' (first
   |(with_reducible first|refine uK ?_|refine uX ?_|refine AW_seqk fun K hK=>?_|refine AW_block ?_)|((with_reducible first|refine rS hE ?_|refine RK_nilk ?_|refine RK_stepk fun K' hK'=>?_|refine AW_if fun X Y hX hY=>?_|refine AW_ret ?_|refine AW_skip ?_|refine AW_exit ?_);simp [*])|with_reducible refine rL hE ?_|with_reducible refine And.intro ?_ ?_|omega|(refine imp1 fun h=>?_))
  exact ⟨L,rfl,by simp⟩)
 rintro M rfl
 refine AW_seqE (G:=List En) (fun N=>⟨[(2,.loc 2 0),(1,.own 1000000 7 0 n)],[(2,.box 36 (.loc 1000001 0)),(1000000,.arr 51 7 (N.map encE)),(1000001,.box 72 (tr0 en p))]⟩) (fun N=>N.Perm M) ?_ (by
  intro K hK
  repeat' (first
   |(with_reducible first|refine uK ?_|refine uX ?_|refine AW_seqk fun K hK=>?_|refine AW_block ?_)|((with_reducible first|refine rS hE ?_|refine RK_nilk ?_|refine RK_stepk fun K' hK'=>?_|refine AW_if fun X Y hX hY=>?_|refine AW_ret ?_|refine AW_skip ?_|refine AW_exit ?_);simp [*])|with_reducible refine rL hE ?_|with_reducible refine And.intro ?_ ?_|omega|(refine imp1 fun h=>?_))
  refine acall_perm hms.out (by simp) (by simp) fun N' hN'=>?_
  simp
  replace hN':=Hld.mk hN'
  repeat' (first
   |(with_reducible first|refine uK ?_|refine uX ?_|refine AW_seqk fun K hK=>?_|refine AW_block ?_)|((with_reducible first|refine rS hE ?_|refine RK_nilk ?_|refine RK_stepk fun K' hK'=>?_|refine AW_if fun X Y hX hY=>?_|refine AW_ret ?_|refine AW_skip ?_|refine AW_exit ?_);simp [*])|with_reducible refine rL hE ?_|with_reducible refine And.intro ?_ ?_|omega|(refine imp1 fun h=>?_))
  exact ⟨N',hN'.out,by simp⟩)
 intro N hN
 have hNl : N.length = n:=by rw [hN.length_eq];exact hnL'.out.symm
 replace hN:=Hld.mk hN
 clear hms
 have hNt : (N.map encE).take n = N.map encE:=List.take_of_length_le (by simp;omega)
 refine AW_freeze 1000000 (cb:=.arr 51 7 (N.map encE)) (t:=⟨[(2,.loc 2 0),(1,.sl 7 (N.map encE))],[(2,.box 36 (.loc 1000001 0)),(1000001,.box 72 (tr0 en p))]⟩) (by simp) (by simp [hNt,hNl]) (by simp) ?_
 clear hNt
 refine AW_seqt ⟨[(4,.loc 4 0),(2,.loc 2 0),(1,.sl 7 (N.map encE))],[(4,.box 53 (.v (.slice none 0 0))),(2,.box 36 (.loc 1000001 0)),(1000001,.box 72 (tr0 en p))]⟩ ?_ (by
  intro K hK
  repeat' (first
   |(with_reducible first|refine uK ?_|refine uX ?_|refine AW_seqk fun K hK=>?_|refine AW_block ?_)|((with_reducible first|refine rS hE ?_|refine RK_nilk ?_|refine RK_stepk fun K' hK'=>?_|refine AW_if fun X Y hX hY=>?_|refine AW_ret ?_|refine AW_skip ?_|refine AW_exit ?_);simp [*])|with_reducible refine rL hE ?_|with_reducible refine And.intro ?_ ?_|omega|(refine imp1 fun h=>?_))
  all_goals simp)
 refine AW_mkrowB 4 40 60 8 53 (by simp) (by simp) (by simp) (by omega) ?_
 simp
 obtain ⟨F,hF⟩ : ∃ F : Nat → List Mx,∀ i,F i = leafsM N i:=⟨_,fun _=>rfl⟩
 have hFl : ∀ i,(F i).length = i:=fun i=>by rw [hF];simp [leafsM]
 have hF0 : F 0 = []:=by rw [hF];rfl
 have hFs:=Hld.mk (fun i=>show F (i + 1) = F i ++ [leafM (runE N i)] by rw [hF,hF];simp [leafsM,List.range_succ])
 replace hF:=Hld.mk hF
 refine AW_seqE (G:=Nat) (fun m=>⟨[(4,.loc 4 0),(2,.loc 2 0)],[(4,.box 53 (.own 40 8 0 m)),(40,.arr 60 8 ((F m).map encM)),(2,.box 36 (.loc 1000001 0)),(1000001,.box 72 (tr0 en p))]⟩) (fun m=>n ≤ m * 8 ∧ (m ≠ 0 → (m - 1) * 8 < n)) ?_ (by
  intro K hK
  refine AW_seqt ⟨[(22,.fn (.func 61) [] [.ep (.sl 7 (N.map encE)),.ep (iA (8 : Nat))]),(4,.loc 4 0),(2,.loc 2 0)],[(4,.box 53 (.own 40 8 0 0)),(40,.arr 60 8 []),(2,.box 36 (.loc 1000001 0)),(1000001,.box 72 (tr0 en p))]⟩ ?_ (by
   intro K hK
   repeat' (first
    |(with_reducible first|refine uK ?_|refine uX ?_|refine AW_seqk fun K hK=>?_|refine AW_block ?_)|((with_reducible first|refine rS hE ?_|refine RK_nilk ?_|refine RK_stepk fun K' hK'=>?_|refine AW_if fun X Y hX hY=>?_|refine AW_ret ?_|refine AW_skip ?_|refine AW_exit ?_);simp [*])|with_reducible refine rL hE ?_|(refine acall_same (s_chunkC N 8 (by omega)) ?_ ?_ ?_;(iterate 2 (focus (simp [*] <;> fail)));simp [*])|(refine acall_view (s_chunkC N 8 (by omega)) ?_ ?_ ?_;(iterate 2 (focus (simp [*] <;> fail)));simp [*])|with_reducible refine And.intro ?_ ?_|omega|(refine imp1 fun h=>?_))
   all_goals simp)
  refine AW_block ?_
  refine AW_rangeFunc kpA [(4,.loc 1500004 0),(2,.loc 1500002 0)] (fun m : Nat=>[(1500004,.box 53 (.own 40 8 0 m)),(40,.arr 60 8 ((F m).map encM)),(1500002,.box 36 (.loc 1000001 0)),(1000001,.box 72 (tr0 en p))]) (fun pre m=>m = pre.length ∧ (m ≠ 0 → (m - 1) * 8 < n)) 0 ⟨rfl,fun h=>absurd rfl h⟩ hRO.out (i_chunkC N n 8 hNl.symm (by omega) (by omega) (by omega)) (by simp) (by simp [idfL,AV.idf]) (fun pre x h=>by rw [h.2];simp [chunkC,idfL,AV.idf]) (by rw [hE];decide) kpA_kpA kpA_lt kpA_mid
   (slots_of (by simp [AV.ren])) (boxes_of (by simp [Ct.ren,AV.ren,hF0])) (by intro d h;simp [mentS,AV.ment] at h;omega) (fun xs m _ _ d h1 h2=>by
     have h3:=kpA_ne h1 h2
     have h4 : ¬ 40 = d ∧ ¬ 1500004 = d ∧ ¬ 1500002 = d ∧ ¬ 1000001 = d:=by omega
     simp [mentB,Ct.ment,AV.ment,mentL,lk,h4]) ?_ ?_
  ·intro E' hE' pre x j hok hj
   obtain ⟨hp1,rfl⟩:=hok
   obtain ⟨hj,hj2⟩:=hj
   subst hj
   obtain ⟨run,hrun⟩ : ∃ run,run = runE N pre.length:=⟨_,rfl⟩
   have hx : chunkC N 8 pre.length = [.sl 7 (run.map encE)]:=by rw [hrun];rfl
   have hrl : run.length = min 8 (n - pre.length * 8):=by rw [hrun];simp [runE,hNl]
   have hr0 : 0 < run.length:=by omega
   have hr8 : run.length ≤ 8:=by omega
   have hpn : pre.length < n:=by omega
   have hpn2 : pre.length * 8 < n:=by omega
   rw [hx]
   clear hx hrl hp1
   replace hrun:=Hld.mk hrun
   have hE0:=hE
   clear hE
   have hE:=hE'.n.trans hE0
   have hFp:=hFl pre.length
   obtain ⟨fin,hfin⟩ : ∃ fin,fin = leafM run:=⟨_,rfl⟩
   obtain ⟨g,hg⟩ : ∃ g : Nat → Bx,∀ i,g i = accB (hdB run) (run.take i):=⟨_,fun _=>rfl⟩
   have hg0 : g 0 = run[0].b:=by
    rw [hg]
    cases run with
    |nil=>simp at hr0
    |cons a l=>rfl
   have hgs : ∀ i (h : i < run.length),g (i + 1) = arX (g i) run[i].b:=fun i h=>by rw [hg,hg];exact accB_succ _ _ _ h
   have hge : ⟨g run.length,.nil,.row run⟩ = leafM run:=by rw [hg,List.take_length];rfl
   replace hg:=()
   replace hgs:=Hld.mk hgs
   replace hge:=Hld.mk hge
   simp only [pslots]
   repeat' (first
    |(with_reducible first|refine uK ?_|refine uX ?_|refine AW_seqk fun K hK=>?_|refine AW_block ?_)|((with_reducible first|refine rS hE ?_|refine RK_nilk ?_|refine RK_stepk fun K' hK'=>?_|refine AW_if fun X Y hX hY=>?_|refine AW_ret ?_|refine AW_skip ?_|refine AW_exit ?_);simp [*])|with_reducible refine rL hE ?_|with_reducible refine And.intro ?_ ?_|omega|(refine imp1 fun h=>?_))
   intro E2 hE2
   clear hE
   have hE:=hE2.n.trans hE0
   refine AW_block ?_
   refine AW_seqt ⟨[(6,.loc 6 0),(5,.sl 7 (run.map encE)),(4,.loc 1500004 0)],[(6,.box 60 (encM ⟨g 0,.nil,.row run⟩)),(1500004,.box 53 (.own 40 8 0 pre.length)),(40,.arr 60 8 ((F pre.length).map encM)),(1500002,.box 36 (.loc 1000001 0)),(1000001,.box 72 (tr0 en p))]⟩ ?_ (by
    intro K hK
    repeat' (first
     |(with_reducible first|refine useK (by assumption) ?_|refine useK2 (by assumption) ?_|refine useX (by assumption) ?_|refine AW_seqk fun K hK=>?_|refine AW_block ?_)|(with_reducible refine AW_regionS rfl (by rw [hE];decide) ?_;simp [*])|with_reducible refine AW_region (by rw [hE];decide) ?_|((with_reducible show RK _ _ _ _ _ _);first|(refine RK_nilk ?_;simp [*])|(refine RK_stepk fun K' hK'=>?_;simp [*]))|with_reducible refine AW_drawq mixed (by rw [hE];decide) (by simp [newOK]) ?_|((with_reducible show RKQ _ _ _ _ _ _);first|refine RKQ_nilk ⟨by decide,?_⟩|(refine RKQ_stepk fun K' hK'=>?_;simp [*]))|((with_reducible first|refine AW_if fun X Y hX hY=>?_|refine AW_ret ?_|refine AW_skip ?_|refine AW_exit ?_);simp [*])|((first|refine acall_same (s_cloneE run (by omega)) ?_ ?_ ?_|refine call_same (s_cloneE run (by omega)) ?_ ?_ ?_);(focus (simp [*] <;> fail));(focus (simp [*] <;> fail));simp [*])|((first|refine acall_view (s_cloneE run (by omega)) ?_ ?_ ?_|refine call_view (s_cloneE run (by omega)) ?_ ?_ ?_);(focus (simp [*] <;> fail));(focus (simp [*] <;> fail));simp [*])|with_reducible refine And.intro ?_ ?_|omega|(refine imp1 fun h=>?_))
    all_goals simp [encM,Ch.av,Pa.av,hg0,En.b])
   have hrs : run.length < 1000000:=by omega
   repeat' (first
    |(with_reducible first|refine uK ?_|refine uX ?_|refine AW_seqk fun K hK=>?_|refine AW_block ?_)|((with_reducible first|refine rS hE ?_|refine RK_nilk ?_|refine RK_stepk fun K' hK'=>?_|refine AW_if fun X Y hX hY=>?_|refine AW_ret ?_|refine AW_skip ?_|refine AW_exit ?_);simp [*])|with_reducible refine rL hE ?_|with_reducible refine And.intro ?_ ?_|omega|(refine imp1 fun h=>?_))
   refine AW_loopk (G:=Nat) (fun i=>⟨[(33,iA i),(32,iA run.length),(31,.sl 7 (run.map encE)),(6,.loc 6 0),(5,.sl 7 (run.map encE)),(4,.loc 1500004 0)],[(6,.box 60 (encM ⟨g i,.nil,.row run⟩)),(1500004,.box 53 (.own 40 8 0 pre.length)),(40,.arr 60 8 ((F pre.length).map encM)),(1500002,.box 36 (.loc 1000001 0)),(1000001,.box 72 (tr0 en p))]⟩) (fun i=>i ≤ run.length) (fun i=>run.length - i) 0 (by omega) (by simp [hg0]) ?_
   intro i hi K hK
   by_cases hlt : i < run.length
   ·repeat' (first
     |(with_reducible first|refine uK ?_|refine uX ?_|refine AW_seqk fun K hK=>?_|refine AW_block ?_)|((with_reducible first|refine rS hE ?_|refine RK_nilk ?_|refine RK_stepk fun K' hK'=>?_|refine AW_if fun X Y hX hY=>?_|refine AW_ret ?_|refine AW_skip ?_|refine AW_exit ?_);simp [*,encX,En.b])|with_reducible refine rL hE ?_|(refine acall_same (s_around (g i) run[i].b) ?_ ?_ ?_;(iterate 2 (focus (simp [*,encX,En.b] <;> fail)));simp [*,encX,En.b])|(refine acall_view (s_around (g i) run[i].b) ?_ ?_ ?_;(iterate 2 (focus (simp [*,encX,En.b] <;> fail)));simp [*,encX,En.b])|with_reducible refine And.intro ?_ ?_|omega|(refine imp1 fun h=>?_))
    exact ⟨i + 1,by omega,by omega,by simp [encM,hgs.out i hlt];exact ⟨rfl,rfl,rfl,rfl,rfl,rfl⟩⟩
   ·have hil : i = run.length:=by omega
    subst hil
    rw [hge.out]
    repeat' (first
     |(with_reducible first|refine uK ?_|refine uX ?_|refine AW_seqk fun K hK=>?_|refine AW_block ?_)|((with_reducible first|refine rS hE ?_|refine RK_nilk ?_|refine RK_stepk fun K' hK'=>?_|refine AW_if fun X Y hX hY=>?_|refine AW_ret ?_|refine AW_skip ?_|refine AW_exit ?_);simp [*])|with_reducible refine rL hE ?_|with_reducible refine And.intro ?_ ?_|omega|(refine imp1 fun h=>?_))
    exact ⟨pre.length + 1,⟨rfl,fun _=>by omega⟩,by simp,by simp [hFs.out,hrun.out,List.take_of_length_le (show ((F pre.length).map encM).length ≤ pre.length by simp [hFp])]⟩
  ·intro xs m hxs hm
   obtain ⟨hm,hm2⟩:=hm
   have hm1 : n ≤ m * 8:=by rw [hm,← hNl];exact hxs
   clear hxs hm
   simp [Ct.ren,AV.ren]
   repeat' (first
    |(with_reducible first|refine uK ?_|refine uX ?_|refine AW_seqk fun K hK=>?_|refine AW_block ?_)|((with_reducible first|refine rS hE ?_|refine RK_nilk ?_|refine RK_stepk fun K' hK'=>?_|refine AW_if fun X Y hX hY=>?_|refine AW_ret ?_|refine AW_skip ?_|refine AW_exit ?_);simp [*])|with_reducible refine rL hE ?_|with_reducible refine And.intro ?_ ?_|omega|(refine imp1 fun h=>?_))
   exact ⟨m,⟨hm1,hm2⟩,by simp⟩)
 rintro m ⟨hm1,hm2⟩
 have:=h.out E _ _ _ _ _ hE hRO.out rfl N m hN.out (by rw [← hnL'.out];exact hm1) (fun h=>by rw [← hnL'.out];exact hm2 h)
 rw [← hF.out] at this
 exact this
end Go.Proofs.Ytlkijcflfnnbaaa
end
section
namespace Go.Proofs.Ytlkijcflfnnbaaa
open Go.Am
theorem AW_pre {P : Program} {E : Env} {G : Type} (I : G → AState) (ok : G → Prop) {c : Code} {s : AState} {Q : AExit → AState → Prop} (h1 : ∀ g,ok g → AW P E c (I g) Q) (h2 : (∀ t g,ok g → t.le (I g) → AW P E c t Q) → AW P E c s Q) : AW P E c s Q :=
 h2 fun t g hg hl=>AW_le hl (h1 g hg)
theorem leB_skipA {i : Nat} {c : Ct} {ss : List (Nat × AV)} {l : List (Nat × Ct)} (hi : i < 2000000) : ∀ {T : List (Nat × Ct)},(∀ p ∈ T,2000000 ≤ p.1) → (leB ⟨ss,(i,c) :: l⟩ T ↔ leB ⟨ss,l⟩ T)
 |[],_=>Iff.rfl
 |p :: T,h=>by
  have h1:=h p (by simp)
  have ih:=leB_skipA (i:=i) (c:=c) (ss:=ss) (l:=l) hi (T:=T) (fun q hq=>h q (by simp [hq]))
  have hbx : (AState.mk ss ((i,c) :: l)).box p.1 = (AState.mk ss l).box p.1:=by
   simp only [AState.box,lk]
   rw [if_neg (by omega)]
  simp only [leB,hbx,ih]
@[simp] theorem leB_gskip {i : Nat} {c : Ct} {ss : List (Nat × AV)} {l : List (Nat × Ct)} {G : GL} (hi : i < 2000000) : leB ⟨ss,(i,c) :: l⟩ (gbox G) ↔ leB ⟨ss,l⟩ (gbox G) :=
  leB_skipA hi fun p hp=>by
   obtain ⟨q,_,rfl⟩:=List.mem_map.1 hp
   exact Nat.le_add_right _ _
@[simp] theorem leB_gself {ss : List (Nat × AV)} {G : GL} (h : GOk G) : leB ⟨ss,gbox G⟩ (gbox G):=leB_g (L:=[]) (fun p hp=>by cases hp) h
attribute [simp] mentL_append
@[simp] theorem idf_LL (l : List (List Mx)) : idfL (l.map fun l=>AV.sl 8 (l.map encM)) = true:=by induction l with|nil=>rfl|cons a l ih=>simp [ih,AV.idf]
@[simp] theorem ment_LL (d : Nat) (l : List (List Mx)) : mentL d (l.map fun l=>AV.sl 8 (l.map encM)) = false:=by induction l with|nil=>rfl|cons a l ih=>simp [ih]
@[simp] theorem ids_LL (l : List (List Mx)) : idsA (l.map fun l=>AV.sl 8 (l.map encM)) = []:=by induction l with|nil=>rfl|cons a l ih=>simp [ih]
@[simp] theorem ren_LL (σ : Nat → Nat) (l : List (List Mx)) : renL σ (l.map fun l=>AV.sl 8 (l.map encM)) = l.map fun l=>AV.sl 8 (l.map encM):=by induction l with|nil=>rfl|cons a l ih=>simp [ih]
def mkN (b : Bx) (ch : List Int) (pa : List En) : Nd:=⟨b.x0,b.x1,b.y0,b.y1,b.t0,b.t1,ch,pa⟩
@[simp] theorem mkN_b (b : Bx) (ch : List Int) (pa : List En) : (mkN b ch pa).b = b:=rfl
@[simp] theorem mkN_ch (b : Bx) (ch : List Int) (pa : List En) : (mkN b ch pa).ch = ch:=rfl
@[simp] theorem mkN_pa (b : Bx) (ch : List Int) (pa : List En) : (mkN b ch pa).pa = pa:=rfl
structure RealN (G : GL) (x : Mx) (n : Nd) : Prop where
 b : x.b = n.b
 pa : (x.pa = .nil ∧ n.pa = []) ∨ (x.pa = .row n.pa ∧ n.pa ≠ [])
 ch : (x.ch = .nil ∧ n.ch = []) ∨ ∃ b cc o,x.ch = .pl b n.ch.length cc ∧ n.ch ≠ [] ∧ lk (gbox G) (2000000 + b) = some (.pin b o) ∧ rowO 3 1 cc (n.ch.map iA) o
def Real (G : GL) : List Mx → List Nd → Prop
 |[],[]=>True
 |x :: xs,n :: ns=>RealN G x n ∧ Real G xs ns
 |_,_=>False
theorem Real.len {G : GL} : ∀ {A : List Mx} {N : List Nd},Real G A N → A.length = N.length
 |[],[],_=>rfl
 |_ :: _,_ :: _,h=>by simp [h.2.len]
theorem Real.app {G : GL} : ∀ {A B : List Mx} {N M : List Nd},Real G A N → Real G B M → Real G (A ++ B) (N ++ M)
 |[],_,[],_,_,h=>h
 |_ :: _,_,_ :: _,_,h,h2=>⟨h.1,h.2.app h2⟩
theorem Real.split {G : GL} : ∀ {N M : List Nd} {A : List Mx},Real G A (N ++ M) → ∃ A1 A2,A = A1 ++ A2 ∧ Real G A1 N ∧ Real G A2 M
 |[],_,A,h=>⟨[],A,rfl,trivial,h⟩
 |_ :: N,M,x :: A,h=>by
  obtain ⟨A1,A2,rfl,h1,h2⟩:=Real.split (N:=N) (M:=M) h.2
  exact ⟨x :: A1,A2,rfl,⟨h.1,h1⟩,h2⟩
def blks : List Mx → List Nat
 |[]=>[]
 |⟨_,.nil,_⟩ :: l=>blks l
 |⟨_,.pl b _ _,_⟩ :: l=>b :: blks l
theorem blks_app : ∀ A B : List Mx,blks (A ++ B) = blks A ++ blks B
 |[],B=>rfl
 |⟨_,.nil,_⟩ :: l,B=>by simpa [blks] using blks_app l B
 |⟨_,.pl b _ _,_⟩ :: l,B=>by simpa [blks] using blks_app l B
theorem Real.pins {G G' : GL} : ∀ {A : List Mx} {N : List Nd},Real G A N → (∀ b ∈ blks A,∀ o,lk (gbox G) (2000000 + b) = some (.pin b o) → lk (gbox G') (2000000 + b) = some (.pin b o)) → Real G' A N
 |[],[],_,_=>trivial
 |⟨xb,xc,xp⟩ :: A,n :: N,h,hg=>by
  refine ⟨⟨h.1.b,h.1.pa,?_⟩,h.2.pins (fun b hb=>hg b (by cases xc <;> simp [blks,hb]))⟩
  rcases h.1.ch with h1|⟨b,cc,o,h1,h2,h3,h4⟩
  ·exact .inl h1
  ·simp only at h1
   subst h1
   exact .inr ⟨b,cc,o,rfl,h2,hg b (by simp [blks]) o h3,h4⟩
def upsA (bs : List Bx) : Nat → List Nd
 |0=>[]
 |i + 1=>if i % 8 = 0 then upsA bs i ++ [mkN (arX (bs.getD i default) (bs.getD i default)) [(i : Int)] []]
  else (upsA bs i).dropLast ++ [mkN (arX ((upsA bs i).getLastD default).b (bs.getD i default)) (((upsA bs i).getLastD default).ch ++ [(i : Int)]) []]
theorem upsA_ne (bs : List Bx) : ∀ i,i ≠ 0 → upsA bs i ≠ []:=by
 intro i hi
 cases i with
 |zero=>exact absurd rfl hi
 |succ i=>unfold upsA;split <;> simp
theorem upsA_ch (bs : List Bx) : ∀ i,∀ n ∈ upsA bs i,n.ch ≠ [] ∧ n.pa = []:=by
 intro i
 induction i with
 |zero=>intro n hn;simp [upsA] at hn
 |succ i ih =>
  intro n hn
  unfold upsA at hn
  split at hn
  ·rcases List.mem_append.1 hn with h|h
   ·exact ih n h
   ·simp at h;subst h;exact ⟨by simp,rfl⟩
  ·rcases List.mem_append.1 hn with h|h
   ·exact ih n ((List.dropLast_sublist _).subset h)
   ·simp at h;subst h;exact ⟨by simp,rfl⟩
theorem upsA_step (bs : List Bx) (i : Nat) (h : i % 8 ≠ 0) : ∃ N0 n,upsA bs i = N0 ++ [n] ∧ upsA bs (i + 1) = N0 ++ [mkN (arX n.b (bs.getD i default)) (n.ch ++ [(i : Int)]) []]:=by
 have h0 : upsA bs i ≠ []:=upsA_ne bs i (by omega)
 refine ⟨(upsA bs i).dropLast,(upsA bs i).getLast h0,(List.dropLast_concat_getLast h0).symm,?_⟩
 have e : (upsA bs i).getLastD default = (upsA bs i).getLast h0:=by rw [List.getLastD_eq_getLast?,List.getLast?_eq_some_getLast h0];rfl
 rw [upsA,if_neg h,e]
theorem upsA_step0 (bs : List Bx) (i : Nat) (h : i % 8 = 0) : upsA bs (i + 1) = upsA bs i ++ [mkN (arX (bs.getD i default) (bs.getD i default)) [(i : Int)] []]:=by
 rw [upsA,if_pos h]
def opN (b : Bx) (y : AV) : AV:=.st [iA b.x0,iA b.x1,iA b.y0,iA b.y1,iA b.t0,iA b.t1,y,.v (.slice none 0 0)]
@[simp] theorem opN_cells (b : Bx) (y : AV) : (opN b y).cells = [iA b.x0,iA b.x1,iA b.y0,iA b.y1,iA b.t0,iA b.t1,y,.v (.slice none 0 0)]:=rfl
@[simp] theorem opN_isSt (b : Bx) (y : AV) : (opN b y).isSt = true:=rfl
@[simp] theorem opN_sto (b : Bx) (y : AV) : (opN b y).sto = true:=rfl
@[simp] theorem opN_one (b : Bx) (y : AV) : (opN b y).one = false:=rfl
@[simp] theorem opN_idf (b : Bx) (y : AV) : (opN b y).idf = y.idf:=by simp [opN]
@[simp] theorem opN_ment (d : Nat) (b : Bx) (y : AV) : (opN b y).ment d = y.ment d:=by simp [opN]
@[simp high] theorem opN_forg (d : Nat) (b : Bx) (y : AV) : (opN b y).forg d = opN b (if y.ment d then .w else y):=by simp [AV.forg,opN]
@[simp high] theorem forg_LM (d : Nat) (l : List Mx) : (l.map encM).map (AV.forg d) = l.map encM:=by
  rw [List.map_map]
  refine List.map_congr_left fun x _=>?_
  simp [AV.forg,encM]
theorem cellN (A : List Mx) (b : Bx) (x : AV) : Cell (.arr 60 8 (A.map encM ++ [opN b x])) x (fun y=>.arr 60 8 (A.map encM ++ [opN b y])):=by
 have e : (fun y=>Ct.arr 60 8 ((A.map encM ++ [opN b x]).set A.length (.st ([iA b.x0,iA b.x1,iA b.y0,iA b.y1,iA b.t0,iA b.t1,x,.v (.slice none 0 0)].set 6 y)))) = fun y=>Ct.arr 60 8 (A.map encM ++ [opN b y]):=by
  funext y
  simp [opN]
 rw [← e]
 exact Cell.arr (by simp [opN]) (by simp)
def dropG (D : GL) (b : Nat) : GL:=D.filter fun p=>p.1 != b
theorem lk_dropG (D : GL) (b j : Nat) : lk (gbox (dropG D b)) j = if j = 2000000 + b then none else lk (gbox D) j:=by
 induction D with
 |nil=>simp [dropG,gbox,lk]
 |cons p D ih =>
  unfold dropG at ih ⊢
  rw [List.filter_cons]
  by_cases h : p.1 = b
  ·rw [if_neg (by simp [h]),ih]
   split
   ·rfl
   ·rename_i h2
    simp only [gbox,List.map_cons,lk]
    rw [if_neg (by omega)]
  ·rw [if_pos (by simpa using h)]
   simp only [gbox,List.map_cons,lk] at ih ⊢
   by_cases h2 : 2000000 + p.1 = j
   ·rw [if_pos h2,if_neg (by omega),if_pos h2]
   ·rw [if_neg h2,if_neg h2];exact ih
theorem dropG_ok {D : GL} {b : Nat} (h : GOk D) : GOk (dropG D b):=by
 refine ⟨?_,fun p hp=>h.nd p (List.mem_filter.1 hp).1⟩
 exact h.nodup.sublist (List.Sublist.map _ List.filter_sublist)
theorem consG_ok {D : GL} {b : Nat} {o : Obj} (h : GOk D) (hn : lk (gbox D) (2000000 + b) = none) (ho : notDef o) : GOk ((b,o) :: D):=by
 refine ⟨?_,fun p hp=>?_⟩
 ·simp only [bls,List.map_cons,List.nodup_cons]
  refine ⟨fun hm=>?_,h.nodup⟩
  obtain ⟨p,hp,hpb⟩:=List.mem_map.1 hm
  have:=lk_gbox_mem h.nodup hp
  rw [show p.1 = b from hpb,hn] at this
  cases this
 ·rcases List.mem_cons.1 hp with rfl|hp
  ·exact ho
  ·exact h.nd p hp
theorem rowO_nd {T k cc : Nat} {xs : List AV} {o : Obj} (h : rowO T k cc xs o) : notDef o:=by
 obtain ⟨_,_,rfl,_⟩:=h
 intro x e
 cases e
theorem Real.blk {G : GL} : ∀ {A : List Mx} {N : List Nd},Real G A N → ∀ b ∈ blks A,∃ o,lk (gbox G) (2000000 + b) = some (.pin b o)
 |[],[],_,b,hb=>by cases hb
 |⟨xb,xc,xp⟩ :: A,n :: N,h,b,hb=>by
  cases xc with
  |nil=>exact h.2.blk b (by simpa [blks] using hb)
  |pl b2 n2 cc =>
   simp only [blks,List.mem_cons] at hb
   rcases hb with rfl|hb
   ·rcases h.1.ch with h1|⟨b',cc',o,h1,_,h3,_⟩
    ·cases h1.1
    ·cases h1;exact ⟨o,h3⟩
   ·exact h.2.blk b hb
structure Pins (D : GL) (X : List Mx) (N : List Nd) : Prop where
 ok : GOk D
 real : Real D X N
 nodup : (blks X).Nodup
theorem Real.last {D : GL} {X : List Mx} {x : Mx} : ∀ {N : List Nd} {n : Nd},Real D (X ++ [x]) (N ++ [n]) → Real D X N ∧ RealN D x n:=by
 intro N n h
 obtain ⟨A1,A2,e,h1,h2⟩:=h.split
 have hl:=h1.len
 have hl2:=h2.len
 have : A1.length = X.length:=by
  have:=congrArg List.length e
  simp at this hl2
  omega
 obtain ⟨rfl,rfl⟩:=List.append_inj e this.symm
 exact ⟨h1,h2.1⟩
theorem Pins.pop {D : GL} {X : List Mx} {x : Mx} {N : List Nd} {n : Nd} (h : Pins D (X ++ [x]) (N ++ [n])) (hc : n.ch ≠ []) (hp : n.pa = []) :
 ∃ b cc o,x = ⟨n.b,.pl b n.ch.length cc,.nil⟩ ∧ lk (gbox D) (2000000 + b) = some (.pin b o) ∧ rowO 3 1 cc (n.ch.map iA) o ∧ Pins (dropG D b) X N:=by
 obtain ⟨h1,h2⟩:=h.real.last
 rcases h2.ch with h3|⟨b,cc,o,h3,h4,h5,h6⟩
 ·exact absurd h3.2 hc
 ·have hpa : x.pa = .nil:=by
   rcases h2.pa with h7|h7
   ·exact h7.1
   ·exact absurd hp h7.2
  have hx : x = ⟨n.b,.pl b n.ch.length cc,.nil⟩:=by
   cases x
   simp only at h3 hpa
   simp only [Mx.mk.injEq]
   exact ⟨h2.b,h3,hpa⟩
  have hnd:=h.nodup
  rw [blks_app,hx] at hnd
  simp only [blks,List.nodup_append] at hnd
  refine ⟨b,cc,o,hx,h5,h6,dropG_ok h.ok,h1.pins fun b' hb' o' ho'=>?_,hnd.1⟩
  rw [lk_dropG,if_neg,ho']
  intro e
  exact hnd.2.2 b' hb' b (by simp) (by omega)
theorem Pins.push {D : GL} {X : List Mx} {N : List Nd} (h : Pins D X N) {b cc : Nat} {o : Obj} {c : List Int} (bx : Bx) (hn : lk (gbox D) (2000000 + b) = none) (hr : rowO 3 1 cc (c.map iA) o) (hc : c ≠ []) :
 Pins ((b,o) :: D) (X ++ [⟨bx,.pl b c.length cc,.nil⟩]) (N ++ [mkN bx c []]):=by
 have hkeep : ∀ b',b' ∈ blks X → ∀ o',lk (gbox D) (2000000 + b') = some (.pin b' o') → lk (gbox ((b,o) :: D)) (2000000 + b') = some (.pin b' o'):=by
  intro b' _ o' h'
  simp only [gbox,List.map_cons,lk]
  rw [if_neg (fun e=>by rw [show b' = b by omega,hn] at h';cases h')]
  exact h'
 refine ⟨consG_ok h.ok hn (rowO_nd hr),(h.real.pins hkeep).app ⟨⟨rfl,.inl ⟨rfl,rfl⟩,.inr ⟨b,cc,o,rfl,hc,?_,hr⟩⟩,trivial⟩,?_⟩
 ·simp [gbox,lk]
 ·rw [blks_app]
  simp only [blks]
  rw [List.nodup_append]
  refine ⟨h.nodup,by simp,fun a ha b' hb' e=>?_⟩
  simp at hb'
  obtain ⟨o',ho'⟩:=h.real.blk a ha
  rw [e,hb',hn] at ho'
  cases ho'
theorem upsA_len (bs : List Bx) : ∀ i,(upsA bs i).length = (i + 7) / 8
 |0=>rfl
 |i + 1=>by
  have ih:=upsA_len bs i
  unfold upsA
  split
  ·rw [List.length_append,ih,List.length_singleton];omega
  ·rw [List.length_append,List.length_dropLast,ih,List.length_singleton];omega
theorem upsA_chl (bs : List Bx) : ∀ i,(∀ n ∈ upsA bs i,n.ch.length ≤ 8) ∧ (i ≠ 0 → ((upsA bs i).getLastD default).ch.length = (i - 1) % 8 + 1):=by
 intro i
 induction i with
 |zero=>exact ⟨fun n hn=>by simp [upsA] at hn,fun h=>absurd rfl h⟩
 |succ i ih =>
  unfold upsA
  split
  ·rename_i h
   refine ⟨fun n hn=>?_,fun _=>?_⟩
   ·rcases List.mem_append.1 hn with h|h
    ·exact ih.1 n h
    ·simp at h;subst h;simp
   ·simp;omega
  ·rename_i h
   have h1:=ih.2 (by omega)
   refine ⟨fun n hn=>?_,fun _=>?_⟩
   ·rcases List.mem_append.1 hn with h2|h2
    ·exact ih.1 n ((List.dropLast_sublist _).subset h2)
    ·simp only [List.mem_singleton] at h2;subst h2;rw [mkN_ch,List.length_append,h1,List.length_singleton];omega
   ·rw [List.getLastD_concat,mkN_ch,List.length_append,h1,List.length_singleton];omega
theorem upsA_chl8 {bs : List Bx} {i : Nat} {N : List Nd} {n : Nd} (h8 : i % 8 ≠ 0) (h : upsA bs i = N ++ [n]) : n.ch.length < 8:=by
 have:=(upsA_chl bs i).2 (by omega)
 rw [h,List.getLastD_concat] at this
 omega
inductive Lev (N0 : List Nd) : List (List Nd) → List Nd → Prop
 |nil : Lev N0 [] N0
 |step {Ls : List (List Nd)} {cur : List Nd} (h : Lev N0 Ls cur) (h2 : 2 ≤ cur.length) : Lev N0 (Ls ++ [cur]) (upsA (cur.map Nd.b) cur.length)
theorem Lev.lens {N0 : List Nd} {Ls : List (List Nd)} {cur : List Nd} (h : Lev N0 Ls cur) : Ls.length + cur.length ≤ N0.length ∧ (N0 ≠ [] → cur ≠ []):=by
 induction h with
 |nil=>exact ⟨by simp,fun h=>h⟩
 |step h h2 ih =>
  refine ⟨?_,fun _=>upsA_ne _ _ (by omega)⟩
  rw [List.length_append,List.length_singleton,upsA_len]
  omega
theorem Real.bs {G : GL} : ∀ {A : List Mx} {N : List Nd},Real G A N → A.map Mx.b = N.map Nd.b
 |[],[],_=>rfl
 |_ :: _,_ :: _,h=>by simp [h.1.b,h.2.bs]
end Go.Proofs.Ytlkijcflfnnbaaa
end
section
namespace Go.Proofs.Ytlkijcflfnnbaaa
open Go.Am
abbrev stO (en : List En) (p : Int) (Ls : List (List Mx)) (cur : List Mx) (i : Nat) (A : List Mx) (b : Bx) (c : List Int) (G : GL) : AState :=
 ⟨[(11,iA i),(60,iA i),(59,iA cur.length),(10,.own 50 8 0 (A.length + 1)),(9,.own 90 1 0 Ls.length),(4,.loc 4 0),(2,.loc 2 0)],
   [(4,.box 53 (.sl 8 (cur.map encM))),(50,.arr 60 8 (A.map encM ++ [opN b (.own 60 1 0 c.length)])),(60,.arr 3 1 (c.map iA)),(90,.arr 53 1 (Ls.map fun l=>.sl 8 (l.map encM))),(2,.box 36 (.loc 1000001 0)),(1000001,.box 72 (tr0 en p))] ++ gbox G⟩
abbrev stI (en : List En) (p : Int) (Ls : List (List Mx)) (cur : List Mx) (i : Nat) (A : List Mx) (G : GL) : AState :=
 ⟨[(60,iA i),(59,iA cur.length),(10,.own 50 8 0 A.length),(9,.own 90 1 0 Ls.length),(4,.loc 4 0),(2,.loc 2 0)],
   [(4,.box 53 (.sl 8 (cur.map encM))),(50,.arr 60 8 (A.map encM)),(90,.arr 53 1 (Ls.map fun l=>.sl 8 (l.map encM))),(2,.box 36 (.loc 1000001 0)),(1000001,.box 72 (tr0 en p))] ++ gbox G⟩
abbrev stJ (en : List En) (p : Int) (Ls : List (List Mx)) (cur : List Mx) (i : Nat) (A : List Mx) (G : GL) : AState :=
 ⟨[(11,iA i),(60,iA i),(59,iA cur.length),(10,.own 50 8 0 A.length),(9,.own 90 1 0 Ls.length),(4,.loc 4 0),(2,.loc 2 0)],
   [(4,.box 53 (.sl 8 (cur.map encM))),(50,.arr 60 8 (A.map encM)),(90,.arr 53 1 (Ls.map fun l=>.sl 8 (l.map encM))),(2,.box 36 (.loc 1000001 0)),(1000001,.box 72 (tr0 en p))] ++ gbox G⟩
section
variable {E : Env} {c : Code} {Q : AExit → AState → Prop} {en : List En} {p : Int} {Ls : List (List Mx)} {cur : List Mx} {i : Nat}
theorem open_new {A : List Mx} {b : Bx} {D : GL} (h : AW Try.prog E c (stO en p Ls cur i A b [] D) Q) : AW Try.prog E c (stJ en p Ls cur i (A ++ [⟨b,.nil,.nil⟩]) D) Q:=by
 refine AW_mkrowG 50 60 3 1 (t:=stO en p Ls cur i A b [] D) (c0:=.arr 60 8 (A.map encM ++ [opN b (.v (.slice none 0 0))])) ?_ (cellN A b _) ?_ ?_ (by omega) ?_ ?_ h
 ·simp [stJ,encM,opN,Ch.av,Pa.av]
 ·simp [AState.ment,mentS,mentB,AV.ment,Ct.ment]
 ·simp [stJ]
 ·simp [stJ]
 ·intro j c' hj
  simp only [stO,AState.box,lk,List.cons_append,List.nil_append] at hj
  simp only [stJ,AState.box,lk,List.cons_append,List.nil_append]
  (repeat' split at hj) <;> first
    |(cases hj;rename_i e;subst e;first|exact .inl ⟨rfl,rfl⟩|exact .inr (.inl ⟨rfl,rfl⟩)|exact .inr (.inr ⟨by decide,by decide,by simp⟩))
    |(obtain ⟨q,hq,rfl,rfl⟩:=lk_gbox hj
      refine .inr (.inr ⟨by omega,by omega,?_⟩)
      repeat rw [if_neg (by omega)]
      exact hj)
theorem open_old {A : List Mx} {b : Bx} {D : GL} {blk cc : Nat} {o : Obj} {l : List Int} (hp : lk (gbox D) (2000000 + blk) = some (.pin blk o)) (hr : rowO 3 1 cc (l.map iA) o)
 (h : AW Try.prog E c (stO en p Ls cur i A b l (dropG D blk)) Q) : AW Try.prog E c (stJ en p Ls cur i (A ++ [⟨b,.pl blk l.length cc,.nil⟩]) D) Q:=by
 refine AW_unbindG 50 60 (T:=3) (k:=1) (b:=blk) (n:=l.length) (cc:=cc) (o:=o) (xs:=l.map iA) (t:=stO en p Ls cur i A b l (dropG D blk)) (c0:=.arr 60 8 (A.map encM ++ [opN b (.v (.slice (some ⟨blk,0,none⟩) l.length cc))])) ?_ (cellN A b _) ?_ (by omega) hr (by simp) ?_ ?_ (by omega) ?_ ?_ h
 ·simp [stJ,encM,opN,Ch.av,Pa.av]
 ·simp only [stJ,AState.box,lk,List.cons_append,List.nil_append]
  repeat rw [if_neg (by omega)]
  exact hp
 ·simp [AState.ment,mentS,mentB,AV.ment,Ct.ment]
 ·simp [stJ]
 ·simp [stJ]
 ·intro j c' hj
  simp only [stO,AState.box,lk,List.cons_append,List.nil_append] at hj
  simp only [stJ,AState.box,lk,List.cons_append,List.nil_append]
  (repeat' split at hj) <;> first
    |(cases hj;rename_i e;subst e;first|exact .inl ⟨rfl,rfl⟩|exact .inr (.inl ⟨rfl,rfl⟩)|exact .inr (.inr ⟨by omega,by omega,by omega,by simp⟩))
    |(rw [lk_dropG] at hj
      split at hj
      ·cases hj
      ·rename_i hne
       obtain ⟨q,hq,rfl,rfl⟩:=lk_gbox hj
       refine .inr (.inr ⟨by omega,by omega,hne,?_⟩)
       repeat rw [if_neg (by omega)]
       exact hj)
theorem close_node {A : List Mx} {b : Bx} {D : GL} {l : List Int} (hl : l ≠ []) (h : ∀ blk cc o,lk (gbox D) (2000000 + blk) = none → rowO 3 1 cc (l.map iA) o → AW Try.prog E c (stJ en p Ls cur i (A ++ [⟨b,.pl blk l.length cc,.nil⟩]) ((blk,o) :: D)) Q) :
 AW Try.prog E c (stO en p Ls cur i A b l D) Q:=by
 refine AW_bindG 50 60 (T:=3) (k:=1) (xs:=l.map iA) (c0:=.arr 60 8 (A.map encM ++ [opN b (.own 60 1 0 l.length)])) (fun blk cc o=>stJ en p Ls cur i (A ++ [⟨b,.pl blk l.length cc,.nil⟩]) ((blk,o) :: D)) ?_ ?_ (by omega) (by omega) (by simpa using cellN A b (.own 60 1 0 l.length)) (by simpa using hl) ?_ ?_ ?_ ?_ ?_ ?_
 ·simp [stO]
 ·simp [stO]
 ·simp
 ·intro j hj
  simp [AState.ment,mentS,mentB,AV.ment,Ct.ment]
  omega
 ·intro j c' hj hc
  simp only [stO,AState.box,lk,List.cons_append,List.nil_append] at hc
  (repeat' split at hc) <;> first
    |omega
    |(obtain ⟨q,hq,e1,e2⟩:=lk_gbox hc
      exact ⟨_,_,e2,e1⟩)
 ·intro b' cc o
  simp [stJ,stO]
 ·intro b' cc o j c' hn hc
  simp only [stJ,AState.box,lk,List.cons_append,List.nil_append,gbox,List.map_cons] at hc
  simp only [stO,AState.box,lk,List.cons_append,List.nil_append] at hn ⊢
  (repeat' split at hc) <;> first
    |(cases hc;rename_i e;subst e;first|exact .inl ⟨rfl,by simp [encM,opN,Ch.av,Pa.av]⟩|exact .inr (.inl ⟨rfl,rfl⟩)|exact .inr (.inr ⟨by omega,by omega,by omega,by simp⟩))
    |(have hc2 : lk (gbox D) j = some c':=hc
      obtain ⟨q,hq,rfl,rfl⟩:=lk_gbox hc2
      refine .inr (.inr ⟨by omega,by omega,by omega,?_⟩)
      repeat rw [if_neg (by omega)]
      exact hc2)
 ·intro blk cc o hn hr
  refine h blk cc o ?_ hr
  simp only [stO,AState.box,lk,List.cons_append,List.nil_append] at hn
  repeat rw [if_neg (by omega)] at hn
  exact hn
end
end Go.Proofs.Ytlkijcflfnnbaaa
end
section
namespace Go.Proofs.Ytlkijcflfnnbaaa
open Go.Am
structure LvI (N0 : List Nd) (Ls : List (List Mx)) (cur : List Mx) (G : GL) (LsN : List (List Nd)) (curN : List Nd) : Prop where
 pins : Pins G (Ls.flatten ++ cur) (LsN.flatten ++ curN)
 lens : Ls.map List.length = LsN.map List.length
 len : cur.length = curN.length
 lev : Lev N0 LsN curN
abbrev stV (en : List En) (p : Int) (Ls : List (List Mx)) (G : GL) : AState :=
 ⟨[(9,.own 90 1 0 Ls.length),(2,.loc 2 0)],[(90,.arr 53 1 (Ls.map fun l=>.sl 8 (l.map encM))),(2,.box 36 (.loc 1000001 0)),(1000001,.box 72 (tr0 en p))] ++ gbox G⟩
abbrev stW (en : List En) (p : Int) (Ls : List (List Mx)) (cur : List Mx) (G : GL) : AState :=
 ⟨[(9,.own 90 1 0 Ls.length),(4,.loc 4 0),(2,.loc 2 0)],[(4,.box 53 (.sl 8 (cur.map encM))),(90,.arr 53 1 (Ls.map fun l=>.sl 8 (l.map encM))),(2,.box 36 (.loc 1000001 0)),(1000001,.box 72 (tr0 en p))] ++ gbox G⟩
theorem load_2 (en : List En) (p : Int) (E : Env) {c0 c1 c2 c3 r12 loop rest : Code} (hE : E.n = Try.f38.ntmps) (hb : Try.f38.body = some (.seq c0 (.seq c1 (.seq c2 (.seq c3 (.seq r12 (.seq loop rest)))))))
 (m : Nat) (F : List Mx) (N0 : List Nd) (hF : F.length = m) (hm : m < 1000000) (hF0 : Pins [] F N0) (Q : AExit → AState → Prop)
 (hrest : ∀ (Ls : List (List Mx)) (G : GL) (LsN : List (List Nd)),Pins G Ls.flatten LsN.flatten → Ls.map List.length = LsN.map List.length → ((N0 = [] ∧ LsN = []) ∨ ∃ L0 x,LsN = L0 ++ [[x]] ∧ Lev N0 L0 [x]) → AW Try.prog E rest (stV en p Ls G) Q) :
 AW Try.prog E (.seq r12 (.seq loop rest)) (stL en p m F) Q:=by
 have e1:=(Code.seq.inj (Option.some.inj hb)).2
 have e2:=(Code.seq.inj e1).2
 have e3:=(Code.seq.inj e2).2
 have e4:=(Code.seq.inj e3).2
 have e5:=(Code.seq.inj e4).2
 have e6:=(Code.seq.inj e5).2
 rw [← e6] at hrest
 rw [← e4]
 clear e1 e2 e3 e4 e5 e6 hb
 replace hrest:=Hld.mk hrest
 have hFt : (F.map encM).take m = F.map encM:=List.take_of_length_le (by simp [hF])
 refine AW_freezeF 40 4 (cb:=.arr 60 8 (F.map encM)) (c0:=.box 53 (.own 40 8 0 m)) (y0:=.sl 8 (F.map encM)) (t:=⟨[(4,.loc 4 0),(2,.loc 2 0)],[(4,.box 53 (.sl 8 (F.map encM))),(2,.box 36 (.loc 1000001 0)),(1000001,.box 72 (tr0 en p))]⟩) (by simp) (by simp) (.var rfl) (fr_row (by simp [hF]) (by simp)) rfl (by simp) (by omega) (by
  intro i c' h
  simp only [AState.box,lk] at h
  (repeat' split at h) <;> first|(cases h;rename_i e;subst e;first|exact .inl ⟨rfl,rfl⟩|exact .inr ⟨by decide,by simp,by simp⟩)|cases h) ?_
 clear hFt
 refine AW_seqt ⟨[(9,.v (.slice none 0 0)),(4,.loc 4 0),(2,.loc 2 0)],[(4,.box 53 (.sl 8 (F.map encM))),(2,.box 36 (.loc 1000001 0)),(1000001,.box 72 (tr0 en p))]⟩ ?_ (by
  intro K hK
  repeat' (first
   |(with_reducible first|refine uK ?_|refine uX ?_|refine AW_seqk fun K hK=>?_|refine AW_block ?_)|((with_reducible first|refine rS hE ?_|refine RK_nilk ?_|refine RK_stepk fun K' hK'=>?_|refine AW_if fun X Y hX hY=>?_|refine AW_ret ?_|refine AW_skip ?_|refine AW_exit ?_);simp [*])|with_reducible refine rL hE ?_|with_reducible refine And.intro ?_ ?_|omega|(refine imp1 fun h=>?_))
  all_goals simp)
 refine AW_mkrow 9 90 53 1 (by simp) (by simp) (by simp) (by omega) ?_
 simp
 refine AW_seqE (G:=List (List Mx) × GL × List (List Nd)) (fun g=>stV en p g.1 g.2.1) (fun g=>Pins g.2.1 g.1.flatten g.2.2.flatten ∧ g.1.map List.length = g.2.2.map List.length ∧ ((N0 = [] ∧ g.2.2 = []) ∨ ∃ L0 x,g.2.2 = L0 ++ [[x]] ∧ Lev N0 L0 [x])) ?_ ?_
 ·rintro ⟨Ls,G,LsN⟩ ⟨h1,h2,h3⟩
  exact hrest.out Ls G LsN h1 h2 h3
 clear hrest
 intro K hK
 refine AW_block ?_
 refine AW_loopk (G:=List (List Mx) × List Mx × GL × List (List Nd) × List Nd) (fun g=>stW en p g.1 g.2.1 g.2.2.1)
  (fun g=>LvI N0 g.1 g.2.1 g.2.2.1 g.2.2.2.1 g.2.2.2.2) (fun g=>g.2.1.length) ([],F,[],[],N0) ⟨by simpa using hF0,rfl,hF0.real.len,.nil⟩ ?_ ?_
 ·simp [stW,gbox]
 have hN0l : N0.length < 1000000:=by rw [← hF0.real.len,hF];exact hm
 clear hF0
 rintro ⟨Ls,cur,G,LsN,curN⟩ hinv K1 hK1
 replace hinv : LvI N0 Ls cur G LsN curN:=hinv
 simp only
 have hlv:=hinv.lev.lens
 have hcl : cur.length < 1000000:=by have:=hinv.len;omega
 have hLl : Ls.length < 1000000:=by
  have:=congrArg List.length hinv.lens
  simp at this
  omega
 have hlv2:=hlv.2
 clear hlv
 have hG : GOk G:=hinv.pins.ok
 by_cases hc0 : cur.length = 0
 ·have hce : cur = []:=List.length_eq_zero_iff.1 hc0
  subst hce
  have hN : curN = []:=List.length_eq_zero_iff.1 (by rw [← hinv.len];rfl)
  subst hN
  have hN00 : N0 = []:=by
   by_cases h : N0 = []
   ·exact h
   ·exact absurd rfl (hlv2 h)
  have hLs0 : LsN = []:=by
   have h1:=hinv.lev
   generalize hq : ([] : List Nd) = q at h1
   cases h1 with
   |nil=>rfl
   |step h h2=>exact absurd hq.symm (upsA_ne _ _ (by omega))
  have hp:=hinv.pins
  have hl:=hinv.lens
  rw [List.append_nil,List.append_nil] at hp
  replace hp:=Hld.mk hp
  replace hl:=Hld.mk hl
  clear hinv hlv2 hc0
  replace hN00:=Hld.mk hN00
  replace hLs0:=Hld.mk hLs0
  repeat' (first
   |(with_reducible first|refine uK ?_|refine uX ?_|refine AW_seqk fun K hK=>?_|refine AW_block ?_)|((with_reducible first|refine rS hE ?_|refine RK_nilk ?_|refine RK_stepk fun K' hK'=>?_|refine AW_if fun X Y hX hY=>?_|refine AW_ret ?_|refine AW_skip ?_|refine AW_exit ?_);simp [*])|with_reducible refine rL hE ?_|with_reducible refine And.intro ?_ ?_|omega|(refine imp1 fun h=>?_))
  exact ⟨(Ls,G,LsN),⟨hp.out,hl.out,.inl ⟨hN00.out,hLs0.out⟩⟩,by simp [stV,hG]⟩
 have hc2 : 0 < cur.length:=by omega
 replace hinv:=Hld.mk hinv
 clear hlv2
 refine AW_seqt ⟨[(50,bA true),(9,.own 90 1 0 Ls.length),(4,.loc 4 0),(2,.loc 2 0)],(stW en p Ls cur G).b⟩ ?_ (by
  intro K hK
  repeat' (first
   |(with_reducible first|refine uK ?_|refine uX ?_|refine AW_seqk fun K hK=>?_|refine AW_block ?_)|((with_reducible first|refine rS hE ?_|refine RK_nilk ?_|refine RK_stepk fun K' hK'=>?_|refine AW_if fun X Y hX hY=>?_|refine AW_ret ?_|refine AW_skip ?_|refine AW_exit ?_);simp [*])|with_reducible refine rL hE ?_|with_reducible refine And.intro ?_ ?_|omega|(refine imp1 fun h=>?_))
  all_goals simp [hG])
 refine AW_block ?_
 refine AW_seqt ⟨[(9,.own 90 1 0 (Ls.length + 1)),(4,.loc 4 0),(2,.loc 2 0)],[(4,.box 53 (.sl 8 (cur.map encM))),(90,.arr 53 1 ((Ls ++ [cur]).map fun l=>.sl 8 (l.map encM))),(2,.box 36 (.loc 1000001 0)),(1000001,.box 72 (tr0 en p))] ++ gbox G⟩ ?_ (by
  intro K hK
  repeat' (first
   |(with_reducible first|refine uK ?_|refine uX ?_|refine AW_seqk fun K hK=>?_|refine AW_block ?_)|((with_reducible first|refine rS hE ?_|refine RK_nilk ?_|refine RK_stepk fun K' hK'=>?_|refine AW_if fun X Y hX hY=>?_|refine AW_ret ?_|refine AW_skip ?_|refine AW_exit ?_);simp [*])|with_reducible refine rL hE ?_|with_reducible refine And.intro ?_ ?_|omega|(refine imp1 fun h=>?_))
  all_goals simp [hG,List.take_of_length_le (show (Ls.map fun l=>AV.sl 8 (l.map encM)).length ≤ Ls.length by simp)])
 obtain ⟨Lt,hLt⟩ : ∃ Lt,Lt = Ls ++ [cur]:=⟨_,rfl⟩
 have hLtl : Ls.length + 1 = Lt.length:=by rw [hLt];simp
 rw [hLtl,← hLt]
 have hLtl2 : Lt.length < 1000001:=by omega
 clear hLtl
 replace hLt:=Hld.mk hLt
 by_cases hc1 : cur.length = 1
 ·have hfin : Pins G Lt.flatten (LsN ++ [curN]).flatten ∧ Lt.map List.length = (LsN ++ [curN]).map List.length ∧ ∃ L0 x,LsN ++ [curN] = L0 ++ [[x]] ∧ Lev N0 L0 [x]:=by
   have h1:=hinv.out.pins
   have h2:=hinv.out.len
   rw [hc1] at h2
   obtain ⟨x,rfl⟩:=List.length_eq_one_iff.1 h2.symm
   refine ⟨by rw [hLt.out];simpa using h1,by rw [hLt.out];simp [hinv.out.lens,hinv.out.len],LsN,x,rfl,hinv.out.lev⟩
  replace hfin:=Hld.mk hfin
  clear hinv
  repeat' (first
   |(with_reducible first|refine uK ?_|refine uX ?_|refine AW_seqk fun K hK=>?_|refine AW_block ?_)|((with_reducible first|refine rS hE ?_|refine RK_nilk ?_|refine RK_stepk fun K' hK'=>?_|refine AW_if fun X Y hX hY=>?_|refine AW_ret ?_|refine AW_skip ?_|refine AW_exit ?_);simp [*])|with_reducible refine rL hE ?_|with_reducible refine And.intro ?_ ?_|omega|(refine imp1 fun h=>?_))
  exact ⟨(Lt,G,LsN ++ [curN]),⟨hfin.out.1,hfin.out.2.1,.inr hfin.out.2.2⟩,by simp [stV,hG]⟩
 refine AW_seqt ⟨[(9,.own 90 1 0 Lt.length),(4,.loc 4 0),(2,.loc 2 0)],(stW en p Lt cur G).b⟩ ?_ (by
  intro K hK
  repeat' (first
   |(with_reducible first|refine uK ?_|refine uX ?_|refine AW_seqk fun K hK=>?_|refine AW_block ?_)|((with_reducible first|refine rS hE ?_|refine RK_nilk ?_|refine RK_stepk fun K' hK'=>?_|refine AW_if fun X Y hX hY=>?_|refine AW_ret ?_|refine AW_skip ?_|refine AW_exit ?_);simp [*])|with_reducible refine rL hE ?_|with_reducible refine And.intro ?_ ?_|omega|(refine imp1 fun h=>?_))
  all_goals simp [hG])
 refine AW_seqt ⟨[(10,.v (.slice none 0 0)),(9,.own 90 1 0 Lt.length),(4,.loc 4 0),(2,.loc 2 0)],(stW en p Lt cur G).b⟩ ?_ (by
  intro K hK
  repeat' (first
   |(with_reducible first|refine uK ?_|refine uX ?_|refine AW_seqk fun K hK=>?_|refine AW_block ?_)|((with_reducible first|refine rS hE ?_|refine RK_nilk ?_|refine RK_stepk fun K' hK'=>?_|refine AW_if fun X Y hX hY=>?_|refine AW_ret ?_|refine AW_skip ?_|refine AW_exit ?_);simp [*])|with_reducible refine rL hE ?_|with_reducible refine And.intro ?_ ?_|omega|(refine imp1 fun h=>?_))
  all_goals simp [hG])
 refine AW_mkrow 10 50 60 8 (by simp) (by simp) (by simp) (by omega) ?_
 have hbs : cur.map Mx.b = curN.map Nd.b:=by
  have h:=hinv.out.pins.real
  obtain ⟨A1,A2,e,h1,h2⟩:=h.split
  have hl2:=h2.len
  have : A2.length = cur.length:=by rw [hl2,hinv.out.len]
  have hl1 : A1.length = Ls.flatten.length:=by
   have:=congrArg List.length e
   simp only [List.length_append] at this
   omega
  obtain ⟨rfl,rfl⟩:=List.append_inj e hl1.symm
  exact h2.bs
 obtain ⟨U,hU⟩ : ∃ U : Nat → List Nd,∀ i,U i = upsA (cur.map Mx.b) i:=⟨_,fun _=>rfl⟩
 have hUl : ∀ i,(U i).length = (i + 7) / 8:=fun i=>by rw [hU,upsA_len]
 have hnext : ∀ A D,Pins D (Lt.flatten ++ A) ((LsN.flatten ++ curN) ++ U cur.length) → LvI N0 Lt A D (LsN ++ [curN]) (U cur.length):=by
  intro A D h
  refine ⟨by rw [hLt.out] at h ⊢;simpa using h,by rw [hLt.out];simp [hinv.out.lens,hinv.out.len],?_,?_⟩
  ·have:=h.real.len
   have h3:=hinv.out.pins.real.len
   rw [hLt.out] at this
   simp only [List.length_append,List.flatten_append,List.flatten_cons,List.flatten_nil,List.append_nil] at this h3
   omega
  ·rw [hU,hbs,hinv.out.len]
   exact .step hinv.out.lev (by rw [← hinv.out.len];omega)
 have hX0 : Pins G (Lt.flatten ++ []) ((LsN.flatten ++ curN) ++ U 0):=by
  have:=hinv.out.pins
  rw [hLt.out,hU]
  simpa [upsA] using this
 obtain ⟨X,hX⟩ : ∃ X,X = Lt.flatten:=⟨_,rfl⟩
 obtain ⟨Y,hY⟩ : ∃ Y,Y = LsN.flatten ++ curN:=⟨_,rfl⟩
 have hXY : X.length = Y.length:=by
  have:=hX0.real.len
  simp only [hU,upsA,List.append_nil] at this
  rw [hX,hY];exact this
 rw [← hX,← hY] at hX0 hnext
 clear hX hY hLt hinv
 replace hbs:=()
 replace hnext:=Hld.mk hnext
 replace hX0:=Hld.mk hX0
 replace hU:=Hld.mk hU
 replace hUl:=Hld.mk hUl
 replace hXY:=Hld.mk hXY
 refine AW_seqE (G:=List Mx × GL) (fun g=>stI en p Lt cur cur.length g.1 g.2) (fun g=>Pins g.2 (X ++ g.1) (Y ++ U cur.length)) ?_ ?_
 ·rintro ⟨A,D⟩ hA
  replace hA : Pins D (X ++ A) (Y ++ U cur.length):=hA
  have hD : GOk D:=hA.ok
  have hAl : A.length = (cur.length + 7) / 8:=by
   have:=hA.real.len
   have h2:=hUl.out cur.length
   have h3:=hXY.out
   simp only [List.length_append] at this
   omega
  have hAl2 : A.length < cur.length:=by omega
  have hAl3 : A.length < 1000000:=by omega
  have hn:=hnext.out A D hA
  clear hnext hX0 hA hAl hG
  replace hn:=Hld.mk hn
  refine AW_freezeF 50 4 (cb:=.arr 60 8 (A.map encM)) (c0:=.box 53 (.sl 8 (cur.map encM))) (x0:=.sl 8 (cur.map encM)) (y0:=.sl 8 (cur.map encM)) (t:=⟨[(10,.sl 8 (A.map encM)),(9,.own 90 1 0 Lt.length),(4,.loc 4 0),(2,.loc 2 0)],(stW en p Lt cur D).b⟩) (by simp) (by simp) (.var rfl) (.inl ⟨rfl,by simp [AV.idf]⟩) rfl ?_ (by omega) ?_ ?_
  ·simp [stW,stI,List.take_of_length_le]
  ·intro i c' h
   simp only [AState.box,lk,stW,List.cons_append,List.nil_append] at h
   simp only [stI,AState.box,lk,List.cons_append,List.nil_append]
   (repeat' split at h) <;> first
     |(cases h;rename_i e;subst e;first|exact .inl ⟨rfl,rfl⟩|exact .inr ⟨by decide,by simp,by simp [Ct.ment,AV.ment]⟩)
     |(obtain ⟨q,hq,rfl,rfl⟩:=lk_gbox h
       refine .inr ⟨by omega,?_,rfl⟩
       repeat rw [if_neg (by omega)]
       exact h)
  repeat' (first
   |(with_reducible first|refine uK ?_|refine uX ?_|refine AW_seqk fun K hK=>?_|refine AW_block ?_)|((with_reducible first|refine rS hE ?_|refine RK_nilk ?_|refine RK_stepk fun K' hK'=>?_|refine AW_if fun X Y hX hY=>?_|refine AW_ret ?_|refine AW_skip ?_|refine AW_exit ?_);simp [*])|with_reducible refine rL hE ?_|with_reducible refine And.intro ?_ ?_|omega|(refine imp1 fun h=>?_))
  exact ⟨(Lt,A,D,LsN ++ [curN],U cur.length),hn.out,hAl2,by simp [stW,hD]⟩
 intro K2 hK2
 refine AW_seqt (stI en p Lt cur 0 [] G) ?_ (by
  intro K hK
  repeat' (first
   |(with_reducible first|refine uK ?_|refine uX ?_|refine AW_seqk fun K hK=>?_|refine AW_block ?_)|((with_reducible first|refine rS hE ?_|refine RK_nilk ?_|refine RK_stepk fun K' hK'=>?_|refine AW_if fun X Y hX hY=>?_|refine AW_ret ?_|refine AW_skip ?_|refine AW_exit ?_);simp [*])|with_reducible refine rL hE ?_|with_reducible refine And.intro ?_ ?_|omega|(refine imp1 fun h=>?_))
  all_goals simp [stI,hG])
 refine AW_block ?_
 refine AW_loopk (G:=Nat × List Mx × GL) (fun g=>stI en p Lt cur g.1 g.2.1 g.2.2)
  (fun g=>g.1 ≤ cur.length ∧ Pins g.2.2 (X ++ g.2.1) (Y ++ U g.1)) (fun g=>cur.length - g.1) (0,[],G) ⟨Nat.zero_le _,hX0.out⟩ ?_ ?_
 ·simp [stI,hG]
 clear hX0 hG hnext
 rintro ⟨i,A,D⟩ hinv K3 hK3
 obtain ⟨hi,hA⟩:=hinv
 replace hi : i ≤ cur.length:=hi
 replace hA : Pins D (X ++ A) (Y ++ U i):=hA
 have hD : GOk D:=hA.ok
 have hAl : A.length ≤ cur.length:=by
  have:=hA.real.len
  have h2:=hUl.out i
  have h3:=hXY.out
  simp only [List.length_append] at this
  omega
 replace hA:=Hld.mk hA
 simp only
 by_cases hlt : i < cur.length
 ·refine AW_seqt ⟨(61,bA true) :: (stI en p Lt cur i A D).s,(stI en p Lt cur i A D).b⟩ ?_ (by
   intro K hK
   repeat' (first
    |(with_reducible first|refine uK ?_|refine uX ?_|refine AW_seqk fun K hK=>?_|refine AW_block ?_)|((with_reducible first|refine rS hE ?_|refine RK_nilk ?_|refine RK_stepk fun K' hK'=>?_|refine AW_if fun X Y hX hY=>?_|refine AW_ret ?_|refine AW_skip ?_|refine AW_exit ?_);simp [*])|with_reducible refine rL hE ?_|with_reducible refine And.intro ?_ ?_|omega|(refine imp1 fun h=>?_))
   all_goals simp [stI,hD])
  refine AW_seq fun K4 hK4=>?_
  refine AW_cond (t:=true) (by simp) ?_ ?_
  ·intro _
   refine AW_skip ?_
   simp
   refine hK4 _ ?_
   clear hK4 K4
   have hb0 : (cur.map Mx.b).getD i default = cur[i].b:=by simp [List.getD_eq_getElem?_getD,hlt]
   have hUs : ∀ b c N0' (n : Nd),(i % 8 = 0 ∧ N0' = U i ∧ b = cur[i].b ∧ c = []) ∨ (i % 8 ≠ 0 ∧ U i = N0' ++ [n] ∧ b = n.b ∧ c = n.ch) → U (i + 1) = N0' ++ [mkN (arX b cur[i].b) (c ++ [(i : Int)]) []]:=by
    rintro b c N0' n (⟨h1,rfl,rfl,rfl⟩|⟨h1,h2,rfl,rfl⟩)
    ·rw [hU.out,hU.out,upsA_step0 _ _ h1,hb0];rfl
    ·obtain ⟨N1,n1,e1,e2⟩:=upsA_step (cur.map Mx.b) i h1
     rw [hU.out] at h2
     rw [h2] at e1
     obtain ⟨rfl,e3⟩:=List.append_inj' e1 rfl
     cases e3
     rw [hU.out,e2,hb0]
   have hch : ∀ N0' n,U i = N0' ++ [n] → n.ch ≠ [] ∧ n.pa = []:=fun N0' n h=>upsA_ch (cur.map Mx.b) i n (by rw [← hU.out,h];simp)
   have hne : i % 8 ≠ 0 → ∃ N0' n,U i = N0' ++ [n]:=fun h=>by
    obtain ⟨N1,n1,e1,_⟩:=upsA_step (cur.map Mx.b) i h
    exact ⟨N1,n1,by rw [hU.out];exact e1⟩
   replace hUs:=Hld.mk hUs
   replace hch:=Hld.mk hch
   replace hne:=Hld.mk hne
   clear hb0
   refine AW_seqE (G:=List Mx × Bx × List Int × GL × List Nd) (fun g=>stO en p Lt cur i g.1 g.2.1 g.2.2.1 g.2.2.2.1) (fun g=>Pins g.2.2.2.1 (X ++ g.1) (Y ++ g.2.2.2.2) ∧ g.2.2.1 ≠ [] ∧ U (i + 1) = g.2.2.2.2 ++ [mkN g.2.1 g.2.2.1 []]) ?_ ?_
   ·rintro ⟨A0,b0,c,D0,N1⟩ ⟨hp,hc,hUe⟩
    replace hp : Pins D0 (X ++ A0) (Y ++ N1):=hp
    replace hc : c ≠ []:=hc
    replace hUe : U (i + 1) = N1 ++ [mkN b0 c []]:=hUe
    refine close_node hc ?_
    intro blk cc o hnone hro
    have hp2:=hp.push b0 hnone hro hc
    rw [List.append_assoc,List.append_assoc,← hUe] at hp2
    have hD2:=hp2.ok
    replace hp2:=Hld.mk hp2
    clear hp hc hUe hro hnone hA hD
    repeat' (first
     |(with_reducible first|refine uK ?_|refine uX ?_|refine AW_seqk fun K hK=>?_|refine AW_block ?_)|((with_reducible first|refine rS hE ?_|refine RK_nilk ?_|refine RK_stepk fun K' hK'=>?_|refine AW_if fun X Y hX hY=>?_|refine AW_ret ?_|refine AW_skip ?_|refine AW_exit ?_);simp [*])|with_reducible refine rL hE ?_|with_reducible refine And.intro ?_ ?_|omega|(refine imp1 fun h=>?_))
    exact ⟨(i + 1,A0 ++ [⟨b0,.pl blk c.length cc,.nil⟩],(blk,o) :: D0),⟨(show i + 1 ≤ cur.length by omega),hp2.out⟩,(show cur.length - (i + 1) < cur.length - i by omega),by simp [stI,hD2]⟩
   intro K4 hK4
   refine AW_block ?_
   refine AW_seqt (stJ en p Lt cur i A D) ?_ (by
    intro K hK
    repeat' (first
     |(with_reducible first|refine uK ?_|refine uX ?_|refine AW_seqk fun K hK=>?_|refine AW_block ?_)|((with_reducible first|refine rS hE ?_|refine RK_nilk ?_|refine RK_stepk fun K' hK'=>?_|refine AW_if fun X Y hX hY=>?_|refine AW_ret ?_|refine AW_skip ?_|refine AW_exit ?_);simp [*])|with_reducible refine rL hE ?_|with_reducible refine And.intro ?_ ?_|omega|(refine imp1 fun h=>?_))
    all_goals simp [stI,hD])
   refine AW_seqE (G:=List Mx) (fun B=>stJ en p Lt cur i B D) (fun B=>(i % 8 = 0 ∧ B = A ++ [⟨cur[i].b,.nil,.nil⟩]) ∨ (i % 8 ≠ 0 ∧ B = A)) ?_ ?_
   ·intro B hB
    refine AW_pre (G:=List Mx × Bx × List Int × GL × List Nd) (fun g=>stO en p Lt cur i g.1 g.2.1 g.2.2.1 g.2.2.2.1) (fun g=>Pins g.2.2.2.1 (X ++ g.1) (Y ++ g.2.2.2.2) ∧ (g.1.length ≤ cur.length ∧ g.2.2.1.length < 8) ∧ U (i + 1) = g.2.2.2.2 ++ [mkN (arX g.2.1 cur[i].b) (g.2.2.1 ++ [(i : Int)]) []]) ?_ ?_
    ·rintro ⟨A0,b0,c,D0,N1⟩ ⟨hp,⟨hA0,hc9⟩,hUe⟩
     replace hp : Pins D0 (X ++ A0) (Y ++ N1):=hp
     replace hA0 : A0.length ≤ cur.length:=hA0
     replace hUe : U (i + 1) = N1 ++ [mkN (arX b0 cur[i].b) (c ++ [(i : Int)]) []]:=hUe
     have hD0:=hp.ok
     replace hc9 : c.length < 8:=hc9
     replace hp:=Hld.mk hp
     replace hUe:=Hld.mk hUe
     clear hA hB hUs hch hne hD
     simp only [stO]
     refine AW_seqt ⟨[(12,.eloc 50 8 A0.length 0),(11,iA i),(60,iA i),(59,iA cur.length),(10,.own 50 8 0 (A0.length + 1)),(9,.own 90 1 0 Lt.length),(4,.loc 4 0),(2,.loc 2 0)],
      [(4,.box 53 (.sl 8 (cur.map encM))),(50,.arr 60 8 (A0.map encM ++ [opN b0 (.own 60 1 0 c.length)])),(60,.arr 3 1 (c.map iA)),(90,.arr 53 1 (Lt.map fun l=>.sl 8 (l.map encM))),(2,.box 36 (.loc 1000001 0)),(1000001,.box 72 (tr0 en p))] ++ gbox D0⟩ ?_ (by
      intro K hK
      repeat' (first
       |(with_reducible first|refine uK ?_|refine uX ?_|refine AW_seqk fun K hK=>?_|refine AW_block ?_)|((with_reducible first|refine rS hE ?_|refine RK_nilk ?_|refine RK_stepk fun K' hK'=>?_|refine AW_if fun X Y hX hY=>?_|refine AW_ret ?_|refine AW_skip ?_|refine AW_exit ?_);simp [*])|with_reducible refine rL hE ?_|with_reducible refine And.intro ?_ ?_|omega|(refine imp1 fun h=>?_))
      all_goals simp [hD0])
     refine AW_draw 18 mixed (by rw [hE];decide) (by simp [newOK]) ?_
     repeat' (first
      |(with_reducible first|refine useK (by assumption) ?_|refine useK2 (by assumption) ?_|refine useX (by assumption) ?_|refine AW_seqk fun K hK=>?_|refine AW_block ?_)|(with_reducible refine AW_regionS rfl (by rw [hE];decide) ?_;simp [*,encX])|with_reducible refine AW_region (by rw [hE];decide) ?_|((with_reducible show RK _ _ _ _ _ _);first|(refine RK_nilk ?_;simp [*,encX])|(refine RK_stepk fun K' hK'=>?_;simp [*,encX]))|with_reducible refine AW_drawq mixed (by rw [hE];decide) (by simp [newOK]) ?_|((with_reducible show RKQ _ _ _ _ _ _);first|refine RKQ_nilk ⟨by decide,?_⟩|(refine RKQ_stepk fun K' hK'=>?_;simp [*,encX]))|((with_reducible first|refine AW_if fun X Y hX hY=>?_|refine AW_ret ?_|refine AW_skip ?_|refine AW_exit ?_);simp [*,encX])|((first|refine acall_same (s_around b0 cur[i].b) ?_ ?_ ?_|refine call_same (s_around b0 cur[i].b) ?_ ?_ ?_);(focus (simp [*,encX] <;> fail));(focus (simp [*,encX] <;> fail));simp [*,encX])|((first|refine acall_view (s_around b0 cur[i].b) ?_ ?_ ?_|refine call_view (s_around b0 cur[i].b) ?_ ?_ ?_);(focus (simp [*,encX] <;> fail));(focus (simp [*,encX] <;> fail));simp [*,encX])|with_reducible refine And.intro ?_ ?_|omega|(refine imp1 fun h=>?_))
     exact ⟨(A0,arX b0 cur[i].b,c ++ [(i : Int)],D0,N1),⟨hp.out,by simp,hUe.out⟩,by simp [stO,hD0,opN,List.take_of_length_le]⟩
    ·intro hpre
     rcases hB with ⟨h8,rfl⟩|⟨h8,rfl⟩
     ·refine open_new ?_
      exact hpre (stO en p Lt cur i A cur[i].b [] D) (A,cur[i].b,[],D,U i) ⟨hA.out,⟨hAl,(show 0 < 8 by decide)⟩,hUs.out _ _ _ default (.inl ⟨h8,rfl,rfl,rfl⟩)⟩ (by simp [stO,hD])
     ·obtain ⟨N1,n,hn⟩:=hne.out h8
      obtain ⟨h1,h2⟩:=hch.out N1 n hn
      have hA1:=hA.out
      rw [hn,← List.append_assoc] at hA1
      have hBne : B ≠ []:=by
       intro e
       have:=hA.out.real.len
       rw [hn] at this
       have h3:=hXY.out
       simp [e] at this
       omega
      obtain ⟨B0,x,rfl⟩ : ∃ B0 x,B = B0 ++ [x]:=⟨B.dropLast,B.getLast hBne,(List.dropLast_concat_getLast hBne).symm⟩
      rw [← List.append_assoc] at hA1
      obtain ⟨blk,cc,o,rfl,h3,h4,h5⟩:=hA1.pop h1 h2
      refine open_old h3 h4 ?_
      have hD1:=h5.ok
      exact hpre (stO en p Lt cur i B0 n.b n.ch (dropG D blk)) (B0,n.b,n.ch,dropG D blk,N1) ⟨h5,⟨by simp at hAl;show B0.length ≤ cur.length;omega,upsA_chl8 h8 ((hU.out i).symm.trans hn)⟩,hUs.out _ _ _ n (.inr ⟨h8,hn,rfl,rfl⟩)⟩ (by simp [stO,hD1])
   ·intro K hK
    by_cases h8 : i % 8 = 0
    ·have h8I : (i : Int).tmod 8 = 0:=by show ((i % 8 : Nat) : Int) = 0;omega
     have hAt : (A.map encM).take A.length = A.map encM:=List.take_of_length_le (by simp)
     repeat' (first
      |(with_reducible first|refine uK ?_|refine uX ?_|refine AW_seqk fun K hK=>?_|refine AW_block ?_)|((with_reducible first|refine rS hE ?_|refine RK_nilk ?_|refine RK_stepk fun K' hK'=>?_|refine AW_if fun X Y hX hY=>?_|refine AW_ret ?_|refine AW_skip ?_|refine AW_exit ?_);simp [*])|with_reducible refine rL hE ?_|with_reducible refine And.intro ?_ ?_|omega|(refine imp1 fun h=>?_))
     exact ⟨A ++ [⟨cur[i].b,.nil,.nil⟩],.inl ⟨h8,rfl⟩,by simp [stJ,hD,encM,Ch.av,Pa.av]⟩
    ·have h8I : ¬ (i : Int).tmod 8 = 0:=by
      show ¬ ((i % 8 : Nat) : Int) = 0
      omega
     repeat' (first
      |(with_reducible first|refine uK ?_|refine uX ?_|refine AW_seqk fun K hK=>?_|refine AW_block ?_)|((with_reducible first|refine rS hE ?_|refine RK_nilk ?_|refine RK_stepk fun K' hK'=>?_|refine AW_if fun X Y hX hY=>?_|refine AW_ret ?_|refine AW_skip ?_|refine AW_exit ?_);simp [*])|with_reducible refine rL hE ?_|with_reducible refine And.intro ?_ ?_|omega|(refine imp1 fun h=>?_))
     exact ⟨A,.inr ⟨h8,rfl⟩,by simp [stJ,hD]⟩
  ·intro h
   cases h
 ·have hie : i = cur.length:=by omega
  subst hie
  repeat' (first
   |(with_reducible first|refine uK ?_|refine uX ?_|refine AW_seqk fun K hK=>?_|refine AW_block ?_)|((with_reducible first|refine rS hE ?_|refine RK_nilk ?_|refine RK_stepk fun K' hK'=>?_|refine AW_if fun X Y hX hY=>?_|refine AW_ret ?_|refine AW_skip ?_|refine AW_exit ?_);simp [*])|with_reducible refine rL hE ?_|with_reducible refine And.intro ?_ ?_|omega|(refine imp1 fun h=>?_))
  exact ⟨(A,D),hA.out,by simp [stI,hD]⟩
end Go.Proofs.Ytlkijcflfnnbaaa
end
section
namespace Go.Proofs.Ytlkijcflfnnbaaa
open Go.Am
theorem s_backward (R : List AV) (hRi : idfL R = true) : PSpec Try.prog 48 [.sl 1 R] (.fn (.func 62) [] [.ep (.sl 1 R)]):=by
 have hRr : ∀ σ,renL σ R = R:=fun σ=>idfL_ren σ R hRi
 have hRm : ∀ d,mentL d R = false:=fun d=>idfL_ment d R hRi
 refine PSpec_of Try.func48 rfl rfl (Nat.le_of_ble_eq_true rfl) (Nat.le_of_ble_eq_true rfl) ?_
 intro E hE
 refine AW_seqt ⟨[(2,.v .nilFunc),(1,.loc 1 0)],[(1,.box 89 (.sl 1 R))]⟩ ?_ (by
  intro K hK
  repeat' (first
   |(with_reducible first|refine uK ?_|refine uX ?_|refine AW_seqk fun K hK=>?_|refine AW_block ?_)|((with_reducible first|refine rS hE ?_|refine RK_nilk ?_|refine RK_stepk fun K' hK'=>?_|refine AW_if fun X Y hX hY=>?_|refine AW_ret ?_|refine AW_skip ?_|refine AW_exit ?_);simp [*])|with_reducible refine rL hE ?_|with_reducible refine And.intro ?_ ?_|omega|(refine imp1 fun h=>?_))
  all_goals simp)
 refine AW_freeze 1 (cb:=.box 89 (.sl 1 R)) (t:=⟨[(2,.v .nilFunc),(1,.ep (.sl 1 R))],[]⟩) (by simp) (by simp [AV.idf,hRi]) (by simp) ?_
 repeat' (first
  |(with_reducible first|refine uK ?_|refine uX ?_|refine AW_seqk fun K hK=>?_|refine AW_block ?_)|((with_reducible first|refine rS hE ?_|refine RK_nilk ?_|refine RK_stepk fun K' hK'=>?_|refine AW_if fun X Y hX hY=>?_|refine AW_ret ?_|refine AW_skip ?_|refine AW_exit ?_);simp [*])|with_reducible refine rL hE ?_|with_reducible refine And.intro ?_ ?_|omega|(refine imp1 fun h=>?_))
def okBk (R : List AV) (pre : List (List AV)) (x : List AV) : Prop:=∃ i,i + 1 + pre.length = R.length ∧ x = [iA i,R.getD i .u]
theorem i_backward (R : List AV) (hRi : idfL R = true) (hR1 : ∀ x ∈ R,x.one = true) (hn : R.length < 1152921504606846976) :
 ISpec Try.prog 62 [.ep (.sl 1 R)] (okBk R) (fun xs=>xs.length = R.length):=by
 refine ISpec_of Try.func62 rfl rfl (Nat.le_of_ble_eq_true rfl) (Nat.le_of_ble_eq_true rfl) (by simp [idfL,AV.idf]) ?_
 intro l J E hE hY Hx G hJ hG
 replace hY:=Hld.mk hY
 replace hJ:=Hld.mk hJ
 replace hG:=Hld.mk hG
 have hRr : ∀ σ,renL σ R = R:=fun σ=>idfL_ren σ R hRi
 have hRm : ∀ d,mentL d R = false:=fun d=>idfL_ment d R hRi
 obtain ⟨n,hLn⟩ : ∃ n,R.length = n:=⟨_,rfl⟩
 rw [hLn] at hn
 have hle : ∀ (ss : List (Nat × AV)) (H' : Heap) (G' : GL) (_ : GOk G'),leB ⟨ss,(1999999,.hp H') :: gbox G'⟩ (gbox G'):=fun ss H' G' h=>leB_g (L:=[(1999999,.hp H')]) (by simp [lowB]) h
 replace hle:=Hld.mk hle
 refine AW_seqt ⟨[(3,iA ((n : Int) - 1)),(0,.fn (.yield l) [] []),(1,.ep (.sl 1 R))],(1999999,.hp Hx) :: gbox G⟩ ?_ (by
  intro K hK
  repeat' (first
   |(with_reducible first|refine uK ?_|refine uX ?_|refine AW_seqk fun K hK=>?_|refine AW_block ?_)|((with_reducible first|refine rS hE ?_|refine RK_nilk ?_|refine RK_stepk fun K' hK'=>?_|refine AW_if fun X Y hX hY=>?_|refine AW_ret ?_|refine AW_skip ?_|refine AW_exit ?_);simp [*])|with_reducible refine rL hE ?_|with_reducible refine And.intro ?_ ?_|omega|(refine imp1 fun h=>?_))
  exact ⟨by simp,by simp,hle.out _ _ _ hG.out⟩)
 refine AW_block ?_
 refine AW_loopk (G:=List (List AV) × Heap × GL) (fun g=>⟨[(3,iA ((n : Int) - 1 - (g.1.length : Int))),(0,.fn (.yield l) [] []),(1,.ep (.sl 1 R))],(1999999,.hp g.2.1) :: gbox g.2.2⟩)
  (fun g=>(g.1.length ≤ n) ∧ Hld (J g.1 g.2.1 g.2.2) ∧ Hld (GOk g.2.2)) (fun g=>n - g.1.length) ([],Hx,G) ⟨Nat.zero_le _,hJ,hG⟩ ?_ ?_
 ·exact ⟨by simp,by simp,hle.out _ _ _ hG.out⟩
 clear hJ hG
 rintro ⟨pre,Hy,D⟩ ⟨hlt,hJ,hG⟩ K hK
 replace hlt : pre.length ≤ n:=hlt
 replace hJ : Hld (J pre Hy D):=hJ
 replace hG : Hld (GOk D):=hG
 by_cases hin : pre.length < n
 ·obtain ⟨i,hi⟩ : ∃ i,i + 1 + pre.length = n:=⟨n - 1 - pre.length,by omega⟩
  have hiI : (n : Int) - 1 - (pre.length : Int) = i:=by omega
  simp only [hiI]
  have hiR : i < R.length:=by omega
  have hx1 : R[i].one = true:=hR1 _ (List.getElem_mem hiR)
  obtain ⟨e,he⟩ : ∃ e,R[i] = e:=⟨_,rfl⟩
  have hei : e.idf = true:=by rw [← he];exact idf_of_mem hRi (List.getElem?_eq_getElem hiR)
  have hc1 : e.cells = [e]:=AV.one_cells (by rw [← he];exact hx1)
  have heo : e.one = true:=by rw [← he];exact hx1
  have hes : e.isSt = false:=by
   cases e <;> first|rfl|(simp [AV.one] at heo)
  have hest : e.sto = true:=by
   cases e <;> first|rfl|(simp [AV.one] at heo)
  have hok : okBk R pre [iA i,e]:=⟨i,by omega,by rw [← he];simp [List.getD_eq_getElem?_getD,hiR]⟩
  have hin' : (i : Int) < n:=by omega
  have hin2 : i < n:=by omega
  replace hok:=Hld.mk hok
  clear hx1
  have hpn:=Hld.mk hi
  have hem : ∀ d,e.ment d = false:=fun d=>idf_ment d e hei
  clear hi
  refine AW_seqt ⟨[(3,iA i),(0,.fn (.yield l) [] []),(1,.ep (.sl 1 R))],(1999999,.hp Hy) :: gbox D⟩ ?_ (by
   intro K hK
   repeat' (first
    |(with_reducible first|refine uK ?_|refine uX ?_|refine AW_seqk fun K hK=>?_|refine AW_block ?_)|((with_reducible first|refine rS hE ?_|refine RK_nilk ?_|refine RK_stepk fun K' hK'=>?_|refine AW_if fun X Y hX hY=>?_|refine AW_ret ?_|refine AW_skip ?_|refine AW_exit ?_);simp [*])|with_reducible refine rL hE ?_|with_reducible refine And.intro ?_ ?_|omega|(refine imp1 fun h=>?_))
   exact ⟨by simp,by simp,hle.out _ _ _ hG.out⟩)
  refine AW_seqE (G:=Heap × GL) (fun g=>⟨[(3,iA i),(0,.fn (.yield l) [] []),(1,.ep (.sl 1 R))],(1999999,.hp g.1) :: gbox g.2⟩) (fun g=>J (pre ++ [[iA i,e]]) g.1 g.2 ∧ GOk g.2) ?_ ?_
  ·rintro ⟨Hz,F⟩ ⟨hJ2,hG2⟩
   replace hJ2:=Hld.mk hJ2
   replace hG2:=Hld.mk hG2
   have hpo:=hpn.out
   repeat' (first
    |(with_reducible first|refine uK ?_|refine uX ?_|refine AW_seqk fun K hK=>?_|refine AW_block ?_)|((with_reducible first|refine rS hE ?_|refine RK_nilk ?_|refine RK_stepk fun K' hK'=>?_|refine AW_if fun X Y hX hY=>?_|refine AW_ret ?_|refine AW_skip ?_|refine AW_exit ?_);simp [*])|with_reducible refine rL hE ?_|with_reducible refine And.intro ?_ ?_|omega|(refine imp1 fun h=>?_))
   exact ⟨(pre ++ [[iA i,e]],Hz,F),⟨(show (pre ++ [[iA i,e]]).length ≤ n by simp;omega),hJ2,hG2⟩,(show n - (pre ++ [[iA i,e]]).length < n - pre.length by simp;omega),by simp;omega,by simp,hle.out _ _ _ hG2.out⟩
  ·intro K hK
   refine AW_block ?_
   refine AW_seqE (G:=Heap × GL) (fun g=>⟨[(18,bA false),(3,iA i),(0,.fn (.yield l) [] []),(1,.ep (.sl 1 R))],(1999999,.hp g.1) :: gbox g.2⟩) (fun g=>J (pre ++ [[iA i,e]]) g.1 g.2 ∧ GOk g.2) ?_ ?_
   ·rintro ⟨Hz,F⟩ ⟨hJ2,hG2⟩
    replace hJ2:=Hld.mk hJ2
    replace hG2:=Hld.mk hG2
    repeat' (first
     |(with_reducible first|refine uK ?_|refine uX ?_|refine AW_seqk fun K hK=>?_|refine AW_block ?_)|((with_reducible first|refine rS hE ?_|refine RK_nilk ?_|refine RK_stepk fun K' hK'=>?_|refine AW_if fun X Y hX hY=>?_|refine AW_ret ?_|refine AW_skip ?_|refine AW_exit ?_);simp [*])|with_reducible refine rL hE ?_|with_reducible refine And.intro ?_ ?_|omega|(refine imp1 fun h=>?_))
    exact ⟨(Hz,F),⟨hJ2.out,hG2.out⟩,by simp,by simp,hle.out _ _ _ hG2.out⟩
   ·intro K hK
    refine AW_regionY 6 rfl rfl (by rw [hE];decide) ?_
    change RK _ _ _ [_,_,_,_,_,_] _ _
    repeat' (first
     |(with_reducible first|refine uK ?_|refine uX ?_|refine AW_seqk fun K hK=>?_|refine AW_block ?_)|((with_reducible first|refine rS hE ?_|refine RK_nilk ?_|refine RK_stepk fun K' hK'=>?_|refine AW_if fun X Y hX hY=>?_|refine AW_ret ?_|refine AW_skip ?_|refine AW_exit ?_);simp [*])|with_reducible refine rL hE ?_|with_reducible refine And.intro ?_ ?_|omega|(refine imp1 fun h=>?_))
    refine AYield_of (L:=[(1999999,.hp Hy)]) (hY.out pre _ hok.out) (by simp) rfl (by simp [lowB]) hG.out hJ.out (by simp [idfL,AV.idf,hei]) ?_ ?_
    ·intro i hi
     simp [mentS,mentB,AV.ment,mentL,Ct.ment,hem]
    ·intro Hz F hJ2 hG2
     simp
     refine hK.h _ ⟨(Hz,F),⟨hJ2,hG2⟩,by simp,by simp,?_⟩
     exact leB_g (L:=[(1999999,.hp Hz),(1999999,.hp Hy)]) (by simp [lowB]) hG2
 ·have hnm : (n : Int) - 1 - (pre.length : Int) < 0:=by omega
  have hnl : pre.length = n:=by omega
  clear hlt hin
  repeat' (first
   |(with_reducible first|refine uK ?_|refine uX ?_|refine AW_seqk fun K hK=>?_|refine AW_block ?_)|((with_reducible first|refine rS hE ?_|refine RK_nilk ?_|refine RK_stepk fun K' hK'=>?_|refine AW_if fun X Y hX hY=>?_|refine AW_ret ?_|refine AW_skip ?_|refine AW_exit ?_);simp [*])|with_reducible refine rL hE ?_|with_reducible refine And.intro ?_ ?_|omega|(refine imp1 fun h=>?_))
  exact ⟨[(1999999,.hp Hy)],D,rfl,by simp [lowB],hG.out,pre,by omega,hJ.out⟩
end Go.Proofs.Ytlkijcflfnnbaaa
end
section
namespace Go.Proofs.Ytlkijcflfnnbaaa
open Go.Am
def shN (f : Nat) (n : Nd) : Nd:=mkN n.b (n.ch.map (· + (f : Int))) n.pa
def numN : Nat → List (List Nd) → List Nd
 |_,[]=>[]
 |f,l :: ls=>l.map (shN (f + l.length)) ++ numN (f + l.length) ls
theorem numN_app : ∀ (f : Nat) (P : List (List Nd)) (l : List Nd),numN f (P ++ [l]) = numN f P ++ l.map (shN (f + P.flatten.length + l.length))
 |f,[],l=>by simp [numN]
 |f,q :: P,l=>by
  simp only [List.cons_append,numN,numN_app _ P l,List.flatten_cons,List.length_append,List.append_assoc]
  congr 4
  omega
theorem numN_len : ∀ (f : Nat) (P : List (List Nd)),(numN f P).length = P.flatten.length
 |f,[]=>rfl
 |f,q :: P=>by simp [numN,numN_len _ P]
theorem Real.mid {D : GL} {x : Mx} {n : Nd} : ∀ {A B : List Mx} {AN BN : List Nd},A.length = AN.length → Real D (A ++ x :: B) (AN ++ n :: BN) → Real D A AN ∧ RealN D x n ∧ Real D B BN
 |[],_,[],_,_,h=>⟨trivial,h.1,h.2⟩
 |a :: A,B,m :: AN,BN,hl,h=>by
  obtain ⟨h1,h2,h3⟩:=Real.mid (A:=A) (B:=B) (AN:=AN) (BN:=BN) (by simpa using hl) h.2
  exact ⟨⟨h.1,h1⟩,h2,h3⟩
theorem Pins.roll {D : GL} {x : Mx} {n : Nd} {A B : List Mx} {AN BN : List Nd} (h : Pins D (A ++ x :: B) (AN ++ n :: BN)) (hl : A.length = AN.length) : Pins D (A ++ B ++ [x]) (AN ++ BN ++ [n]):=by
 obtain ⟨h1,h2,h3⟩:=h.real.mid hl
 refine ⟨h.ok,(h1.app h3).app ⟨h2,trivial⟩,?_⟩
 refine (List.Perm.nodup_iff ?_).1 h.nodup
 have e : blks (x :: B) = blks [x] ++ blks B:=by rw [← blks_app];rfl
 rw [blks_app,blks_app,blks_app,e,List.append_assoc]
 exact List.Perm.append_left _ List.perm_append_comm
def opM (b : Bx) (y : AV) (z : Pa) : AV:=.st [iA b.x0,iA b.x1,iA b.y0,iA b.y1,iA b.t0,iA b.t1,y,z.av]
@[simp] theorem opM_cells (b : Bx) (y : AV) (z : Pa) : (opM b y z).cells = [iA b.x0,iA b.x1,iA b.y0,iA b.y1,iA b.t0,iA b.t1,y,z.av]:=rfl
@[simp] theorem opM_isSt (b : Bx) (y : AV) (z : Pa) : (opM b y z).isSt = true:=rfl
@[simp] theorem opM_sto (b : Bx) (y : AV) (z : Pa) : (opM b y z).sto = true:=rfl
@[simp] theorem opM_one (b : Bx) (y : AV) (z : Pa) : (opM b y z).one = false:=rfl
@[simp] theorem opM_idf (b : Bx) (y : AV) (z : Pa) : (opM b y z).idf = y.idf:=by simp [opM]
@[simp] theorem opM_ment (d : Nat) (b : Bx) (y : AV) (z : Pa) : (opM b y z).ment d = y.ment d:=by simp [opM]
theorem Pins.popM {D : GL} {X : List Mx} {x : Mx} {N : List Nd} {n : Nd} (h : Pins D (X ++ [x]) (N ++ [n])) (hc : n.ch ≠ []) :
 ∃ b cc o,x = ⟨n.b,.pl b n.ch.length cc,x.pa⟩ ∧ lk (gbox D) (2000000 + b) = some (.pin b o) ∧ rowO 3 1 cc (n.ch.map iA) o ∧ Pins (dropG D b) X N ∧ ((x.pa = .nil ∧ n.pa = []) ∨ (x.pa = .row n.pa ∧ n.pa ≠ [])):=by
 obtain ⟨h1,h2⟩:=h.real.last
 rcases h2.ch with h3|⟨b,cc,o,h3,h4,h5,h6⟩
 ·exact absurd h3.2 hc
 ·have hx : x = ⟨n.b,.pl b n.ch.length cc,x.pa⟩:=by
   cases x
   simp only at h3
   simp only [Mx.mk.injEq,and_true]
   exact ⟨h2.b,h3⟩
  have hnd:=h.nodup
  rw [blks_app,hx] at hnd
  simp only [blks,List.nodup_append] at hnd
  refine ⟨b,cc,o,hx,h5,h6,⟨dropG_ok h.ok,h1.pins fun b' hb' o' ho'=>?_,hnd.1⟩,h2.pa⟩
  rw [lk_dropG,if_neg,ho']
  intro e
  exact hnd.2.2 b' hb' b (by simp) (by omega)
theorem Pins.pushM {D : GL} {X : List Mx} {N : List Nd} (h : Pins D X N) {b cc : Nat} {o : Obj} {c : List Int} {z : Pa} {pa : List En} (bx : Bx) (hn : lk (gbox D) (2000000 + b) = none) (hr : rowO 3 1 cc (c.map iA) o) (hc : c ≠ []) (hz : (z = .nil ∧ pa = []) ∨ (z = .row pa ∧ pa ≠ [])) :
 Pins ((b,o) :: D) (X ++ [⟨bx,.pl b c.length cc,z⟩]) (N ++ [mkN bx c pa]):=by
 have h0:=h.push bx hn hr hc
 obtain ⟨h1,h2⟩:=h0.real.last
 refine ⟨h0.ok,h1.app ⟨⟨rfl,hz,?_⟩,trivial⟩,?_⟩
 ·exact h2.ch
 ·have:=h0.nodup
  rw [blks_app] at this ⊢
  exact this
abbrev tr1 (en : List En) (p dep : Int) : AV:=.st [.sl 7 (en.map encE),.v (.slice none 0 0),iA p,iA dep]
abbrev tr2 (en : List En) (p dep : Int) (n : Nat) : AV:=.st [.sl 7 (en.map encE),.own 70 8 0 n,iA p,iA dep]
abbrev stN (en : List En) (p dep : Int) (first : Nat) (l : List Mx) (j : Nat) (T : List Mx) (D : GL) : AState :=
 ⟨[(120,iA j),(119,iA l.length),(118,.sl 8 (l.map encM)),(13,.loc 1500013 0),(2,.loc 1500002 0)],
   [(1500013,.box 3 (iA first)),(70,.arr 60 8 (T.map encM)),(1500002,.box 36 (.loc 1000001 0)),(1000001,.box 72 (tr2 en p dep T.length))] ++ gbox D⟩
abbrev stX (en : List En) (p dep : Int) (first : Nat) (l : List Mx) (j : Nat) (T : List Mx) (D : GL) (x : Mx) : AState :=
 ⟨(17,.loc 17 0) :: (stN en p dep first l j T D).s,(17,.box 60 (encM x)) :: (stN en p dep first l j T D).b⟩
abbrev stY (en : List En) (p dep : Int) (first : Nat) (l : List Mx) (j : Nat) (T : List Mx) (D : GL) (b : Bx) (c : List Int) (z : Pa) : AState :=
 ⟨(17,.loc 17 0) :: (stN en p dep first l j T D).s,(17,.box 60 (opM b (.own 61 1 0 c.length) z)) :: (61,.arr 3 1 (c.map iA)) :: (stN en p dep first l j T D).b⟩
section
variable {E : Env} {c : Code} {Q : AExit → AState → Prop} {en : List En} {p dep : Int} {first j : Nat} {l : List Mx} {T : List Mx}
theorem cellM (b : Bx) (x : AV) (z : Pa) : Cell (.box 60 (opM b x z)) x (fun y=>.box 60 (opM b y z)):=by
 have e : (fun y=>Ct.box 60 (.st ([iA b.x0,iA b.x1,iA b.y0,iA b.y1,iA b.t0,iA b.t1,x,z.av].set 6 y))) = fun y=>Ct.box 60 (opM b y z):=by
  funext y
  simp [opM]
 rw [← e]
 exact Cell.box (by simp)
theorem open_ch {b : Bx} {z : Pa} {D : GL} {blk cc : Nat} {o : Obj} {ch : List Int} (hp : lk (gbox D) (2000000 + blk) = some (.pin blk o)) (hr : rowO 3 1 cc (ch.map iA) o)
 (h : AW Try.prog E c (stY en p dep first l j T (dropG D blk) b ch z) Q) : AW Try.prog E c (stX en p dep first l j T D ⟨b,.pl blk ch.length cc,z⟩) Q:=by
 refine AW_unbindG 17 61 (T:=3) (k:=1) (b:=blk) (n:=ch.length) (cc:=cc) (o:=o) (xs:=ch.map iA) (t:=stY en p dep first l j T (dropG D blk) b ch z) (c0:=.box 60 (opM b (.v (.slice (some ⟨blk,0,none⟩) ch.length cc)) z)) ?_ (cellM b _ z) ?_ (by omega) hr (by simp) ?_ ?_ (by omega) ?_ ?_ h
 ·simp [stX,encM,opM,Ch.av]
 ·simp only [stX,stN,AState.box,lk,List.cons_append,List.nil_append]
  repeat rw [if_neg (by omega)]
  exact hp
 ·simp [AState.ment,mentS,mentB,AV.ment,Ct.ment]
 ·simp [stX,stN]
 ·simp [stX,stY]
 ·intro j c' hj
  simp only [stY,stN,AState.box,lk,List.cons_append,List.nil_append] at hj
  simp only [stX,stN,AState.box,lk,List.cons_append,List.nil_append]
  (repeat' split at hj) <;> first
    |(cases hj;rename_i e;subst e;first|exact .inl ⟨rfl,rfl⟩|exact .inr (.inl ⟨rfl,rfl⟩)|exact .inr (.inr ⟨by omega,by omega,by omega,by simp⟩))
    |(rw [lk_dropG] at hj
      split at hj
      ·cases hj
      ·rename_i hne
       obtain ⟨q,hq,rfl,rfl⟩:=lk_gbox hj
       refine .inr (.inr ⟨by omega,by omega,hne,?_⟩)
       repeat rw [if_neg (by omega)]
       exact hj)
theorem close_ch {b : Bx} {z : Pa} {D : GL} {ch : List Int} (hl : ch ≠ []) (h : ∀ blk cc o,lk (gbox D) (2000000 + blk) = none → rowO 3 1 cc (ch.map iA) o → AW Try.prog E c (stX en p dep first l j T ((blk,o) :: D) ⟨b,.pl blk ch.length cc,z⟩) Q) :
 AW Try.prog E c (stY en p dep first l j T D b ch z) Q:=by
 refine AW_bindG 17 61 (T:=3) (k:=1) (xs:=ch.map iA) (c0:=.box 60 (opM b (.own 61 1 0 ch.length) z)) (fun blk cc o=>stX en p dep first l j T ((blk,o) :: D) ⟨b,.pl blk ch.length cc,z⟩) ?_ ?_ (by omega) (by omega) (by simpa using cellM b (.own 61 1 0 ch.length) z) (by simpa using hl) ?_ ?_ ?_ ?_ ?_ ?_
 ·simp [stY]
 ·simp [stY]
 ·simp
 ·intro j hj
  simp [AState.ment,mentS,mentB,AV.ment,Ct.ment]
  omega
 ·intro j c' hj hc
  simp only [stY,stN,AState.box,lk,List.cons_append,List.nil_append] at hc
  (repeat' split at hc) <;> first
    |omega
    |(obtain ⟨q,hq,e1,e2⟩:=lk_gbox hc
      exact ⟨_,_,e2,e1⟩)
 ·intro b' cc o
  simp [stX,stY]
 ·intro b' cc o j c' hn hc
  simp only [stX,stN,AState.box,lk,List.cons_append,List.nil_append,gbox,List.map_cons] at hc
  simp only [stY,stN,AState.box,lk,List.cons_append,List.nil_append] at hn ⊢
  (repeat' split at hc) <;> first
    |(cases hc;rename_i e;subst e;first|exact .inl ⟨rfl,by simp [encM,opM,Ch.av]⟩|exact .inr (.inl ⟨rfl,rfl⟩)|exact .inr (.inr ⟨by omega,by omega,by omega,by simp⟩))
    |(have hc2 : lk (gbox D) j = some c':=hc
      obtain ⟨q,hq,rfl,rfl⟩:=lk_gbox hc2
      refine .inr (.inr ⟨by omega,by omega,by omega,?_⟩)
      repeat rw [if_neg (by omega)]
      exact hc2)
 ·intro blk cc o hn hr
  refine h blk cc o ?_ hr
  simp only [stY,stN,AState.box,lk,List.cons_append,List.nil_append] at hn
  repeat rw [if_neg (by omega)] at hn
  exact hn
end
end Go.Proofs.Ytlkijcflfnnbaaa
end
