/- RtreeNodes: for any entries and splits the law hands back true -/
import Derived.Test.YtlkijcflfnnbaaaZH
set_option maxRecDepth 1000000
set_option linter.unusedSimpArgs false
set_option linter.unusedVariables false
namespace Go.Proofs.Ytlkijcflfnnbaaa
open Go.Am Go.RowKit Go.ChangeShapes Go.WideShapes Go.ChangeAt
namespace L8
def zN : Value:=.slice none 0 0
theorem fnd_self (k : En) (v : Int) (cs : List (En × Int)) : fndC k (updC k v cs) = some v:=by rw [fnd_upd,if_pos rfl]
theorem pos_lt' (k : En) (v : Int) (cs : List (En × Int)) : posC k cs < (encQ (updC k v cs)).length:=by simpa [encQ] using posC_lt k v cs
theorem set_Q' (a : En) (v x : Int) (cs : List (En × Int)) : (encQ (updC a v cs)).set (posC a cs) (((encQ (updC a v cs))[posC a cs]?.getD default).1,iA x) = encQ (updC a x cs):=by
 rw [← List.getD_eq_getElem?_getD]
 exact set_Q a v x cs
noncomputable def c24 : Code:=nav [1,1,1,1,1,1,1,1,1,1,1,1,1,0,1,1,1,1,0,1,0] (Try.f7.body.getD .skip)
set_option maxHeartbeats 4000000 in
theorem reg24 {E : Env} (hE : E.n = Try.f7.ntmps) {W F : List En} {cs : List (En × Int)} {i : Nat} {k : En} (hi : i < W.length) (hk : W[i] = k) {v : Int} (hv : (fndC k cs).getD 0 = v) (hb1 : -1000000 ≤ v) (hb2 : v ≤ 1000000) {Q : AExit → AState → Prop}
 (h : ∀ s' : AState,s'.le ⟨[(16,iA i),(15,.mp 101),(12,.sl 7 (F.map encE)),(9,.sl 7 (W.map encE))],[(101,.map (encQ (updC k (v + 1) cs)) none)]⟩ → Q .normal s') :
 AW Try.prog E c24 ⟨[(16,iA i),(15,.mp 101),(12,.sl 7 (F.map encE)),(9,.sl 7 (W.map encE))],[(101,.map (encQ cs) none)]⟩ Q:=by
 replace h:=Kont.mk h
 have hiI : (i : Int) < W.length:=by omega
 refine AW_drawG (Gh:=List Nat × Nat) (fun f g=>⟨[(108,if f 0 then .mp 101 else .u),(109,if f 1 then .sl 7 (W.map encE) else .u),(110,if f 2 then iA i else .u),(111,if f 3 then .ep (encE k) else .u),(112,if f 4 then encE k else .u),(113,if f 5 then iA v else .u),(114,if f 6 then iA (v + 1) else .u),(115,if f 7 then .tup [iA v,iA (g.1.getD (posC k cs) 0 : Nat)] else .u),(116,if f 8 then iA (g.1.getD (posC k cs) 0 : Nat) else .u),
  (16,iA i),(15,.mp 101),(12,.sl 7 (F.map encE)),(9,.sl 7 (W.map encE))],[(101,if f 9 then .map (encQ (updC k (v + 1) cs)) none else if f 7 then .map (encQ (updC k v cs)) (some g) else .map (encQ cs) none)]⟩) ([],0) mixed (by rw [hE];decide) (by decide +kernel) (by decide +kernel) (by simp) ?_ ?_
 ·intro f g n o hn hdep hnot hcl K2 hK2
  have e9 : f 9 = true → f 5 = true ∧ f 7 = true:=fun h=>by
   have h1:=hcl 9 _ rfl h
   simp [Region.binds] at h1
   have h6:=hcl 6 _ rfl (by simp [h1])
   have h8:=hcl 8 _ rfl (by simp [h1])
   simp [Region.binds] at h6 h8
   exact ⟨by simp [h6],by simp [h8]⟩
  have e8 : f 8 = true → f 7 = true:=fun h=>by
   have h1:=hcl 8 _ rfl h
   simp [Region.binds] at h1
   simp [h1]
  clear hcl h
  iterate 10 (rcases n with _|n;rotate_left)
  ·simp at hn
  all_goals (simp only [List.getElem?_cons_succ,List.getElem?_cons_zero,Option.some.injEq] at hn;subst hn)
  all_goals simp [Region.binds] at hdep
  all_goals (try simp [hnot] at e9)
  all_goals (try simp [hnot] at e8)
  all_goals (rcases hfk : fndC k cs with _|v0 <;> simp only [hfk,Option.getD_none,Option.getD_some] at hv <;> subst hv)
  all_goals (rcases h7 : f 7)
  all_goals try (exfalso;revert hdep hnot e9;simp [h7];done)
  all_goals (simp [*,fnd_self];(repeat' (first|with_reducible refine And.intro ?_ ?_|omega)))
  all_goals try (refine hK2.h _ ⟨g,?_⟩;simp [*,fnd_self];done)
  all_goals try (intro bs ck;refine hK2.h _ ⟨(bs,ck),?_⟩;simp [*];done)
  all_goals (refine ⟨posC k cs,pos_lt' _ _ _,rfl,?_⟩;rw [set_Q'];refine hK2.h _ ⟨g,?_⟩;simp [*])
 ·intro f g hf
  have h1:=hf 9 (by simp)
  refine h.h _ ?_
  simp [h1]
noncomputable def c25 : Code:=nav [1,1,1,1,1,1,1,1,1,1,1,1,1,0,1,1,1,1,0,1,1] (Try.f7.body.getD .skip)
set_option maxHeartbeats 4000000 in
theorem reg25 {E : Env} (hE : E.n = Try.f7.ntmps) {W F : List En} {cs : List (En × Int)} {i : Nat} {k : En} (hi : i < F.length) (hk : F[i] = k) {v : Int} (hv : (fndC k cs).getD 0 = v) (hb1 : -1000000 ≤ v) (hb2 : v ≤ 1000000) {Q : AExit → AState → Prop}
 (h : ∀ s' : AState,s'.le ⟨[(16,iA i),(15,.mp 101),(12,.sl 7 (F.map encE)),(9,.sl 7 (W.map encE))],[(101,.map (encQ (updC k (v - 1) cs)) none)]⟩ → Q .normal s') :
 AW Try.prog E c25 ⟨[(16,iA i),(15,.mp 101),(12,.sl 7 (F.map encE)),(9,.sl 7 (W.map encE))],[(101,.map (encQ cs) none)]⟩ Q:=by
 replace h:=Kont.mk h
 have hiI : (i : Int) < F.length:=by omega
 refine AW_drawG (Gh:=List Nat × Nat) (fun f g=>⟨[(117,if f 0 then .mp 101 else .u),(118,if f 1 then .sl 7 (F.map encE) else .u),(119,if f 2 then iA i else .u),(120,if f 3 then .ep (encE k) else .u),(121,if f 4 then encE k else .u),(122,if f 5 then iA v else .u),(123,if f 6 then iA (v - 1) else .u),(124,if f 7 then .tup [iA v,iA (g.1.getD (posC k cs) 0 : Nat)] else .u),(125,if f 8 then iA (g.1.getD (posC k cs) 0 : Nat) else .u),
  (16,iA i),(15,.mp 101),(12,.sl 7 (F.map encE)),(9,.sl 7 (W.map encE))],[(101,if f 9 then .map (encQ (updC k (v - 1) cs)) none else if f 7 then .map (encQ (updC k v cs)) (some g) else .map (encQ cs) none)]⟩) ([],0) mixed (by rw [hE];decide) (by decide +kernel) (by decide +kernel) (by simp) ?_ ?_
 ·intro f g n o hn hdep hnot hcl K2 hK2
  have e9 : f 9 = true → f 5 = true ∧ f 7 = true:=fun h=>by
   have h1:=hcl 9 _ rfl h
   simp [Region.binds] at h1
   have h6:=hcl 6 _ rfl (by simp [h1])
   have h8:=hcl 8 _ rfl (by simp [h1])
   simp [Region.binds] at h6 h8
   exact ⟨by simp [h6],by simp [h8]⟩
  have e8 : f 8 = true → f 7 = true:=fun h=>by
   have h1:=hcl 8 _ rfl h
   simp [Region.binds] at h1
   simp [h1]
  clear hcl h
  iterate 10 (rcases n with _|n;rotate_left)
  ·simp at hn
  all_goals (simp only [List.getElem?_cons_succ,List.getElem?_cons_zero,Option.some.injEq] at hn;subst hn)
  all_goals simp [Region.binds] at hdep
  all_goals (try simp [hnot] at e9)
  all_goals (try simp [hnot] at e8)
  all_goals (rcases hfk : fndC k cs with _|v0 <;> simp only [hfk,Option.getD_none,Option.getD_some] at hv <;> subst hv)
  all_goals (rcases h7 : f 7)
  all_goals try (exfalso;revert hdep hnot e9;simp [h7];done)
  all_goals (simp [*,fnd_self];(repeat' (first|with_reducible refine And.intro ?_ ?_|omega)))
  all_goals try (refine hK2.h _ ⟨g,?_⟩;simp [*,fnd_self];done)
  all_goals try (intro bs ck;refine hK2.h _ ⟨(bs,ck),?_⟩;simp [*];done)
  all_goals (refine ⟨posC k cs,pos_lt' _ _ _,rfl,?_⟩;rw [set_Q'];refine hK2.h _ ⟨g,?_⟩;simp [*])
 ·intro f g hf
  have h1:=hf 9 (by simp)
  refine h.h _ ?_
  simp [h1]
abbrev uL (T : List UInt8) : List AV:=T.map fun u=>uA u.toNat
set_option maxHeartbeats 2000000 in
theorem walk (l : List It) (T : List UInt8) (L W : List En) (U : List Int) (p : Tr → Prop)
 (hbt : ∀ {E : Env} {s : AState} {d : Option Tmp} {K : AState → Prop},(∀ tr,Hld (p tr) → K (s.put d (.tup [.ep (encT tr),iA 0]))) → ACall Try.prog E 20 [.sl 7 (L.map encE),.sl 1 (U.map iA)] s d K)
 (h1 : Hld (PSpec Try.prog 18 [.sl 7 (l.map encI)] (.sl 7 (L.map encE)))) (h3 : Hld (PSpec Try.prog 21 [.sl 1 (uL T)] (.sl 1 (U.map iA)))) (h4 : Hld (PSpec Try.prog 27 [.sl 7 (L.map encE),.sl 1 (U.map iA)] (.sl 7 (W.map encE)))) (hW : W.length ≤ 4200)
 (hnd : ∀ tr,p tr → PSpec Try.prog 30 [.ep (encT tr)] (.sl 8 (tr.nd.map encN))) (hdp : ∀ tr,PSpec Try.prog 31 [.ep (encT tr)] (iA tr.depth)) (hpt : ∀ tr,PSpec Try.prog 26 [.ep (encT tr)] (iA tr.parts))
 (hT : ∀ tr,p tr → (L = [] ∧ tr.nd = [] ∧ tr.depth = 0 ∧ tr.parts = 0) ∨ (L ≠ [] ∧ ∃ F : List En,F.Perm W ∧ tr.nd.length ≤ 2 * W.length ∧ (∃ d : Nat,tr.depth = d ∧ (d ≤ 1 ∨ 8 ^ (d - 2) < W.length)) ∧ PSpec Try.prog 32 [.sl 8 (tr.nd.map encN),iA 0,iA tr.depth] (.tup [.sl 7 (F.map encE),iA tr.nd.length,bA true]))) :
 PSpec Try.prog 7 [.sl 7 (l.map encI),.sl 1 (uL T)] (bA true):=by
 have hk:=Hld.mk s_known
 refine PSpec_of Try.func7 rfl rfl (Nat.le_of_ble_eq_true rfl) (Nat.le_of_ble_eq_true rfl) ?_
 intro E hE
 refine AW_seqt ⟨[(1,.sl 1 (uL T)),(0,.sl 7 (l.map encI))],[]⟩ ?_ (by
  intro K hK
  repeat' (first
   |(with_reducible first|refine uK ?_|refine uX ?_|refine AW_seqk fun K hK=>?_|refine AW_block ?_)|((with_reducible first|refine rS hE ?_|refine RK_nilk ?_|refine RK_stepk fun K' hK'=>?_|refine AW_if fun X Y hX hY=>?_|refine AW_ret ?_|refine AW_skip ?_|refine AW_exit ?_);simp [*])|with_reducible refine rL hE ?_|with_reducible refine And.intro ?_ ?_|omega|(refine imp1 fun h=>?_))
  all_goals simp)
 refine AW_seqt ⟨[(1,.sl 1 (uL T)),(0,.sl 7 (l.map encI))],[]⟩ ?_ (by
  intro K hK
  repeat' (first
   |(with_reducible first|refine uK ?_|refine uX ?_|refine AW_seqk fun K hK=>?_|refine AW_block ?_)|((with_reducible first|refine rS hE ?_|refine RK_nilk ?_|refine RK_stepk fun K' hK'=>?_|refine AW_if fun X Y hX hY=>?_|refine AW_ret ?_|refine AW_skip ?_|refine AW_exit ?_);simp [*])|with_reducible refine rL hE ?_|(refine acall_same (hk.out) ?_ ?_ ?_;(iterate 2 (focus (simp [*] <;> fail)));simp [*])|(refine acall_view (hk.out) ?_ ?_ ?_;(iterate 2 (focus (simp [*] <;> fail)));simp [*])|with_reducible refine And.intro ?_ ?_|omega|(refine imp1 fun h=>?_))
  all_goals simp)
 refine AW_seqt ⟨[(5,.sl 7 (L.map encE)),(1,.sl 1 (uL T))],[]⟩ ?_ (by
  intro K hK
  repeat' (first
   |(with_reducible first|refine uK ?_|refine uX ?_|refine AW_seqk fun K hK=>?_|refine AW_block ?_)|((with_reducible first|refine rS hE ?_|refine RK_nilk ?_|refine RK_stepk fun K' hK'=>?_|refine AW_if fun X Y hX hY=>?_|refine AW_ret ?_|refine AW_skip ?_|refine AW_exit ?_);simp [*])|with_reducible refine rL hE ?_|(refine acall_same (h1.out) ?_ ?_ ?_;(iterate 2 (focus (simp [*] <;> fail)));simp [*])|(refine acall_view (h1.out) ?_ ?_ ?_;(iterate 2 (focus (simp [*] <;> fail)));simp [*])|with_reducible refine And.intro ?_ ?_|omega|(refine imp1 fun h=>?_))
  all_goals simp)
 refine AW_seqE (G:=Tr) (fun tr=>⟨[(7,iA 0),(6,.ep (encT tr)),(5,.sl 7 (L.map encE)),(1,.sl 1 (uL T))],[]⟩) p ?_ (by
  intro K hK
  repeat' (first
   |(with_reducible first|refine uK ?_|refine uX ?_|refine AW_seqk fun K hK=>?_|refine AW_block ?_)|((with_reducible first|refine rS hE ?_|refine RK_nilk ?_|refine RK_stepk fun K' hK'=>?_|refine AW_if fun X Y hX hY=>?_|refine AW_ret ?_|refine AW_skip ?_|refine AW_exit ?_);simp [*])|with_reducible refine rL hE ?_|(refine acall_same (h3.out) ?_ ?_ ?_;(iterate 2 (focus (simp [*] <;> fail)));simp [*])|(refine acall_view (h3.out) ?_ ?_ ?_;(iterate 2 (focus (simp [*] <;> fail)));simp [*])|with_reducible refine And.intro ?_ ?_|omega|(refine imp1 fun h=>?_))
  refine hbt fun tr htr=>?_
  simp
  repeat' (first
   |(with_reducible first|refine uK ?_|refine uX ?_|refine AW_seqk fun K hK=>?_|refine AW_block ?_)|((with_reducible first|refine rS hE ?_|refine RK_nilk ?_|refine RK_stepk fun K' hK'=>?_|refine AW_if fun X Y hX hY=>?_|refine AW_ret ?_|refine AW_skip ?_|refine AW_exit ?_);simp [*])|with_reducible refine rL hE ?_|with_reducible refine And.intro ?_ ?_|omega|(refine imp1 fun h=>?_))
  exact ⟨tr,htr.out,by simp⟩)
 intro tr htr
 have g1:=Hld.mk (hnd tr htr)
 have g2:=Hld.mk (hdp tr)
 have g3:=Hld.mk (hpt tr)
 have hF:=hT tr htr
 clear hnd hdp hpt hbt hT
 obtain ⟨nd,hndE⟩ : ∃ nd,tr.nd = nd:=⟨_,rfl⟩
 obtain ⟨dep,hdpE⟩ : ∃ d,tr.depth = d:=⟨_,rfl⟩
 obtain ⟨prts,hprE⟩ : ∃ d,tr.parts = d:=⟨_,rfl⟩
 obtain ⟨t,ht⟩ : ∃ t,encT tr = t:=⟨_,rfl⟩
 have t1 : t.idf = true:=by rw [← ht];simp
 have t2 : ∀ d,t.ment d = false:=fun d=>by rw [← ht];simp
 rw [hndE] at g1 hF
 rw [hdpE] at g2 hF
 rw [hprE] at g3 hF
 rw [ht] at g1 g2 g3 ⊢
 clear ht hndE hdpE hprE
 refine AW_seqt ⟨[(6,.ep t),(5,.sl 7 (L.map encE)),(1,.sl 1 (uL T))],[]⟩ ?_ (by
  intro K hK
  repeat' (first
   |(with_reducible first|refine uK ?_|refine uX ?_|refine AW_seqk fun K hK=>?_|refine AW_block ?_)|((with_reducible first|refine rS hE ?_|refine RK_nilk ?_|refine RK_stepk fun K' hK'=>?_|refine AW_if fun X Y hX hY=>?_|refine AW_ret ?_|refine AW_skip ?_|refine AW_exit ?_);simp [*])|with_reducible refine rL hE ?_|with_reducible refine And.intro ?_ ?_|omega|(refine imp1 fun h=>?_))
  all_goals simp)
 refine AW_seqt ⟨[(9,.sl 7 (W.map encE)),(8,.sl 8 (nd.map encN)),(6,.ep t),(5,.sl 7 (L.map encE))],[]⟩ ?_ (by
  intro K hK
  clear hF
  repeat' (first
   |(with_reducible first|refine uK ?_|refine uX ?_|refine AW_seqk fun K hK=>?_|refine AW_block ?_)|((with_reducible first|refine rS hE ?_|refine RK_nilk ?_|refine RK_stepk fun K' hK'=>?_|refine AW_if fun X Y hX hY=>?_|refine AW_ret ?_|refine AW_skip ?_|refine AW_exit ?_);simp [*])|with_reducible refine rL hE ?_|(refine acall_same (g1.out) ?_ ?_ ?_;(iterate 2 (focus (simp [*] <;> fail)));simp [*])|(refine acall_view (g1.out) ?_ ?_ ?_;(iterate 2 (focus (simp [*] <;> fail)));simp [*])|(refine acall_same (h3.out) ?_ ?_ ?_;(iterate 2 (focus (simp [*] <;> fail)));simp [*])|(refine acall_view (h3.out) ?_ ?_ ?_;(iterate 2 (focus (simp [*] <;> fail)));simp [*])|(refine acall_same (h4.out) ?_ ?_ ?_;(iterate 2 (focus (simp [*] <;> fail)));simp [*])|(refine acall_view (h4.out) ?_ ?_ ?_;(iterate 2 (focus (simp [*] <;> fail)));simp [*])|with_reducible refine And.intro ?_ ?_|omega|(refine imp1 fun h=>?_))
  all_goals simp)
 rcases hF with ⟨hL,hn,hd,hp⟩|⟨hL,F,hperm,hsz,⟨d,hdd,hdeep⟩,h5⟩
 ·subst hL hn hd hp
  repeat' (first
   |(with_reducible first|refine uK ?_|refine uX ?_|refine AW_seqk fun K hK=>?_|refine AW_block ?_)|((with_reducible first|refine rS hE ?_|refine RK_nilk ?_|refine RK_stepk fun K' hK'=>?_|refine AW_if fun X Y hX hY=>?_|refine AW_ret ?_|refine AW_skip ?_|refine AW_exit ?_);simp [*])|with_reducible refine rL hE ?_|(refine acall_same (g2.out) ?_ ?_ ?_;(iterate 2 (focus (simp [*] <;> fail)));simp [*])|(refine acall_view (g2.out) ?_ ?_ ?_;(iterate 2 (focus (simp [*] <;> fail)));simp [*])|(refine acall_same (g3.out) ?_ ?_ ?_;(iterate 2 (focus (simp [*] <;> fail)));simp [*])|(refine acall_view (g3.out) ?_ ?_ ?_;(iterate 2 (focus (simp [*] <;> fail)));simp [*])|with_reducible refine And.intro ?_ ?_|omega|(refine imp1 fun h=>?_))
  all_goals simp
 replace h5:=Hld.mk h5
 subst hdd
 have hLl : ¬ (L.length : Int) = 0:=by
  have:=List.length_pos_iff.2 hL
  omega
 have hLl2 : ¬ L.length = 0:=by omega
 have hlen:=hperm.length_eq
 have hz:=Hld.mk (fun x=>cnts_perm hperm x)
 have hcq:=Hld.mk (cnts_eq W F)
 replace hperm:=Hld.mk hperm
 refine AW_seqt ⟨[(9,.sl 7 (W.map encE)),(8,.sl 8 (nd.map encN)),(6,.ep t)],[]⟩ ?_ (by
  intro K hK
  repeat' (first
   |(with_reducible first|refine uK ?_|refine uX ?_|refine AW_seqk fun K hK=>?_|refine AW_block ?_)|((with_reducible first|refine rS hE ?_|refine RK_nilk ?_|refine RK_stepk fun K' hK'=>?_|refine AW_if fun X Y hX hY=>?_|refine AW_ret ?_|refine AW_skip ?_|refine AW_exit ?_);simp [*])|with_reducible refine rL hE ?_|with_reducible refine And.intro ?_ ?_|omega|(refine imp1 fun h=>?_))
  all_goals simp)
 obtain ⟨pw,hpw0,hpws,hpwd⟩ : ∃ pw : Nat → Nat,pw 0 = 1 ∧ (∀ k,pw (k + 1) = pw k * 8) ∧ ∀ k,pw k = 8 ^ k:=⟨fun k=>8 ^ k,rfl,fun k=>Nat.pow_succ _ _,fun k=>rfl⟩
 replace hpwd:=Hld.mk hpwd
 refine AW_seqt ⟨[(10,iA 0),(9,.sl 7 (W.map encE)),(8,.sl 8 (nd.map encN)),(6,.ep t)],[]⟩ ?_ (by
  intro K hK
  repeat' (first
   |(with_reducible first|refine uK ?_|refine uX ?_|refine AW_seqk fun K hK=>?_|refine AW_block ?_)|((with_reducible first|refine rS hE ?_|refine RK_nilk ?_|refine RK_stepk fun K' hK'=>?_|refine AW_if fun X Y hX hY=>?_|refine AW_ret ?_|refine AW_skip ?_|refine AW_exit ?_);simp [*])|with_reducible refine rL hE ?_|with_reducible refine And.intro ?_ ?_|omega|(refine imp1 fun h=>?_))
  all_goals simp)
 refine AW_seqE (G:=Nat) (fun k=>⟨[(10,iA k),(9,.sl 7 (W.map encE)),(8,.sl 8 (nd.map encN)),(6,.ep t)],[]⟩) (fun k=>k ≤ 20 ∧ W.length ≤ pw k) ?_ (by
  intro K hK
  repeat' (first
   |(with_reducible first|refine uK ?_|refine uX ?_|refine AW_seqk fun K hK=>?_|refine AW_block ?_)|((with_reducible first|refine rS hE ?_|refine RK_nilk ?_|refine RK_stepk fun K' hK'=>?_|refine AW_if fun X Y hX hY=>?_|refine AW_ret ?_|refine AW_skip ?_|refine AW_exit ?_);simp [*])|with_reducible refine rL hE ?_|with_reducible refine And.intro ?_ ?_|omega|(refine imp1 fun h=>?_))
  refine AW_loopk (G:=Nat) (fun k=>⟨[(11,iA (pw k)),(10,iA k),(9,.sl 7 (W.map encE)),(8,.sl 8 (nd.map encN)),(6,.ep t)],[]⟩) (fun k=>k ≤ 20 ∧ pw k ≤ 40000) (fun k=>20 - k) 0 ⟨by omega,by omega⟩ (by simp [hpw0]) ?_
  rintro k ⟨hk1,hk2⟩ K hK
  by_cases hlt : pw k < W.length
  ·have hltI : (pw k : Int) < W.length:=by omega
   have hs:=hpws k
   have hb : k < 19:=by
    by_cases h : k < 19
    ·exact h
    ·exfalso
     have:=Nat.pow_le_pow_right (show 0 < 8 by omega) (show 5 ≤ k by omega)
     rw [← hpwd.out k] at this
     omega
   have hs2 : ((pw (k + 1) : Nat) : Int) = (pw k : Int) * 8:=by omega
   obtain ⟨a,ha⟩ : ∃ a,pw k = a:=⟨_,rfl⟩
   obtain ⟨b,hb'⟩ : ∃ b,pw (k + 1) = b:=⟨_,rfl⟩
   rw [ha] at hlt hltI hk2 hs2
   rw [hb'] at hs2
   clear hs hpws
   repeat' (first
    |(with_reducible first|refine uK ?_|refine uX ?_|refine AW_seqk fun K hK=>?_|refine AW_block ?_)|((with_reducible first|refine rS hE ?_|refine RK_nilk ?_|refine RK_stepk fun K' hK'=>?_|refine AW_if fun X Y hX hY=>?_|refine AW_ret ?_|refine AW_skip ?_|refine AW_exit ?_);simp [*])|with_reducible refine rL hE ?_|with_reducible refine And.intro ?_ ?_|omega|(refine imp1 fun h=>?_))
   exact ⟨k + 1,⟨by omega,by omega⟩,by omega,by simp [hb',hs2]⟩
  ·repeat' (first
    |(with_reducible first|refine uK ?_|refine uX ?_|refine AW_seqk fun K hK=>?_|refine AW_block ?_)|((with_reducible first|refine rS hE ?_|refine RK_nilk ?_|refine RK_stepk fun K' hK'=>?_|refine AW_if fun X Y hX hY=>?_|refine AW_ret ?_|refine AW_skip ?_|refine AW_exit ?_);simp [*])|with_reducible refine rL hE ?_|with_reducible refine And.intro ?_ ?_|omega|(refine imp1 fun h=>?_))
   exact ⟨k,⟨hk1,by omega⟩,by simp⟩)
 rintro k ⟨hk1,hk2⟩
 have hdk : ¬ (k : Int) + 1 < d:=by
  rcases hdeep with h|h
  ·omega
  ·intro hc
   rw [hpwd.out] at hk2
   have:=Nat.pow_le_pow_right (show 0 < 8 by omega) (show k ≤ d - 2 by omega)
   omega
 have hszI : ¬ 2 * (W.length : Int) < nd.length:=by omega
 clear hpw0 hpws hpwd hk2 hdeep
 refine AW_seqt ⟨[(9,.sl 7 (W.map encE)),(8,.sl 8 (nd.map encN)),(6,.ep t)],[]⟩ ?_ (by
  intro K hK
  repeat' (first
   |(with_reducible first|refine uK ?_|refine uX ?_|refine AW_seqk fun K hK=>?_|refine AW_block ?_)|((with_reducible first|refine rS hE ?_|refine RK_nilk ?_|refine RK_stepk fun K' hK'=>?_|refine AW_if fun X Y hX hY=>?_|refine AW_ret ?_|refine AW_skip ?_|refine AW_exit ?_);simp [*])|with_reducible refine rL hE ?_|(refine acall_same (g2.out) ?_ ?_ ?_;(iterate 2 (focus (simp [*] <;> fail)));simp [*])|(refine acall_view (g2.out) ?_ ?_ ?_;(iterate 2 (focus (simp [*] <;> fail)));simp [*])|with_reducible refine And.intro ?_ ?_|omega|(refine imp1 fun h=>?_))
  all_goals simp)
 refine AW_seqt ⟨[(14,bA true),(13,iA nd.length),(12,.sl 7 (F.map encE)),(9,.sl 7 (W.map encE)),(8,.sl 8 (nd.map encN))],[]⟩ ?_ (by
  intro K hK
  repeat' (first
   |(with_reducible first|refine uK ?_|refine uX ?_|refine AW_seqk fun K hK=>?_|refine AW_block ?_)|((with_reducible first|refine rS hE ?_|refine RK_nilk ?_|refine RK_stepk fun K' hK'=>?_|refine AW_if fun X Y hX hY=>?_|refine AW_ret ?_|refine AW_skip ?_|refine AW_exit ?_);simp [*])|with_reducible refine rL hE ?_|(refine acall_same (g2.out) ?_ ?_ ?_;(iterate 2 (focus (simp [*] <;> fail)));simp [*])|(refine acall_view (g2.out) ?_ ?_ ?_;(iterate 2 (focus (simp [*] <;> fail)));simp [*])|(refine acall_same (h5.out) ?_ ?_ ?_;(iterate 2 (focus (simp [*] <;> fail)));simp [*])|(refine acall_view (h5.out) ?_ ?_ ?_;(iterate 2 (focus (simp [*] <;> fail)));simp [*])|with_reducible refine And.intro ?_ ?_|omega|(refine imp1 fun h=>?_))
  all_goals simp)
 refine AW_seqt ⟨[(12,.sl 7 (F.map encE)),(9,.sl 7 (W.map encE))],[]⟩ ?_ (by
  intro K hK
  repeat' (first
   |(with_reducible first|refine uK ?_|refine uX ?_|refine AW_seqk fun K hK=>?_|refine AW_block ?_)|((with_reducible first|refine rS hE ?_|refine RK_nilk ?_|refine RK_stepk fun K' hK'=>?_|refine AW_if fun X Y hX hY=>?_|refine AW_ret ?_|refine AW_skip ?_|refine AW_exit ?_);simp [*])|with_reducible refine rL hE ?_|with_reducible refine And.intro ?_ ?_|omega|(refine imp1 fun h=>?_))
  all_goals simp)
 clear g1 g2 g3 h1 h3 h4 h5 t1 t2
 refine AW_seqt ⟨[(15,.mp 101),(12,.sl 7 (F.map encE)),(9,.sl 7 (W.map encE))],[(101,.map [] none)]⟩ ?_ (by
  intro K hK
  repeat' (first
   |(with_reducible first|refine uK ?_|refine uX ?_|refine AW_seqk fun K hK=>?_|refine AW_block ?_)|((with_reducible first|refine rS hE ?_|refine RK_nilk ?_|refine RK_stepk fun K' hK'=>?_|refine AW_if fun X Y hX hY=>?_|refine AW_ret ?_|refine AW_skip ?_|refine AW_exit ?_);simp [*])|with_reducible refine rL hE ?_|with_reducible refine And.intro ?_ ?_|omega|(refine imp1 fun h=>?_))
  all_goals simp)
 refine AW_seqt ⟨[(15,.mp 101),(9,.sl 7 (W.map encE))],[(101,.map (encQ (cnts W F W.length)) none)]⟩ ?_ (by
  intro K hK
  repeat' (first
   |(with_reducible first|refine uK ?_|refine uX ?_|refine AW_seqk fun K hK=>?_|refine AW_block ?_)|((with_reducible first|refine rS hE ?_|refine RK_nilk ?_|refine RK_stepk fun K' hK'=>?_|refine AW_if fun X Y hX hY=>?_|refine AW_ret ?_|refine AW_skip ?_|refine AW_exit ?_);simp [*])|with_reducible refine rL hE ?_|with_reducible refine And.intro ?_ ?_|omega|(refine imp1 fun h=>?_))
  refine AW_loopk (G:=Nat) (fun i=>⟨[(16,iA i),(15,.mp 101),(12,.sl 7 (F.map encE)),(9,.sl 7 (W.map encE))],[(101,.map (encQ (cnts W F i)) none)]⟩) (fun i=>i ≤ W.length) (fun i=>W.length - i) 0 (Nat.zero_le _) (by simp [cnts]) ?_
  intro i hi K hK
  by_cases hlt : i < W.length
  ·have hltI : (i : Int) < W.length:=by omega
   have hltF : i < F.length:=by omega
   have hc : ∀ x, -5000 ≤ cntC (cnts W F i) x ∧ cntC (cnts W F i) x ≤ 5000:=fun x=>by
    rw [hcq.out x i (by omega) (by omega)]
    have b1:=List.count_le_length (a:=x) (l:=W.take i)
    have b2:=List.count_le_length (a:=x) (l:=F.take i)
    simp only [List.length_take] at b1 b2
    omega
   have hst : cnts W F (i + 1) = bmp F[i] (-1) (bmp W[i] 1 (cnts W F i)):=by
    rw [cnts]
    simp [List.getD_eq_getElem?_getD,List.getElem?_eq_getElem hlt,List.getElem?_eq_getElem hltF]
   obtain ⟨cs,hcs⟩ : ∃ cs,cnts W F i = cs:=⟨_,rfl⟩
   obtain ⟨cs2,hcs2⟩ : ∃ cs,cnts W F (i + 1) = cs:=⟨_,rfl⟩
   rw [hcs] at hc hst
   rw [hcs2] at hst
   have hv1:=hc W[i]
   have hv2 : -6000 ≤ cntC (bmp W[i] 1 cs) F[i] ∧ cntC (bmp W[i] 1 cs) F[i] ≤ 6000:=by
    have:=hc F[i]
    rw [cnt_bmp]
    split <;> omega
   refine AW_le (t:=⟨[(16,iA i),(15,.mp 101),(12,.sl 7 (F.map encE)),(9,.sl 7 (W.map encE))],[(101,.map (encQ cs) none)]⟩) (by simp [hcs]) ?_
   replace hcs:=Hld.mk hcs
   replace hcs2:=Hld.mk hcs2
   replace hst:=Hld.mk hst
   replace hc:=Hld.mk hc
   refine AW_seqt ⟨[(16,iA i),(15,.mp 101),(12,.sl 7 (F.map encE)),(9,.sl 7 (W.map encE))],[(101,.map (encQ cs) none)]⟩ ?_ (by
    intro K hK
    clear hv1 hv2
    repeat' (first
     |(with_reducible first|refine uK ?_|refine uX ?_|refine AW_seqk fun K hK=>?_|refine AW_block ?_)|((with_reducible first|refine rS hE ?_|refine RK_nilk ?_|refine RK_stepk fun K' hK'=>?_|refine AW_if fun X Y hX hY=>?_|refine AW_ret ?_|refine AW_skip ?_|refine AW_exit ?_);simp [*])|with_reducible refine rL hE ?_|with_reducible refine And.intro ?_ ?_|omega|(refine imp1 fun h=>?_))
    all_goals simp)
   refine AW_seqt ⟨[(16,iA i),(15,.mp 101),(12,.sl 7 (F.map encE)),(9,.sl 7 (W.map encE))],[(101,.map (encQ cs2) none)]⟩ ?_ (by
    intro K hK
    refine AW_block ?_
    refine AW_seqt ⟨[(16,iA i),(15,.mp 101),(12,.sl 7 (F.map encE)),(9,.sl 7 (W.map encE))],[(101,.map (encQ (bmp W[i] 1 cs)) none)]⟩ ?_ (by
     intro K hK
     exact reg24 hE hlt rfl (v:=cntC cs W[i]) rfl (by omega) (by omega) fun s' hs'=>hK.h s' hs')
    exact reg25 hE hltF rfl (v:=cntC (bmp W[i] 1 cs) F[i]) rfl (by omega) (by omega) fun s' hs'=>hK.h s' (by rw [hst.out];exact hs'))
   clear hv1 hv2
   repeat' (first
    |(with_reducible first|refine uK ?_|refine uX ?_|refine AW_seqk fun K hK=>?_|refine AW_block ?_)|((with_reducible first|refine rS hE ?_|refine RK_nilk ?_|refine RK_stepk fun K' hK'=>?_|refine AW_if fun X Y hX hY=>?_|refine AW_ret ?_|refine AW_skip ?_|refine AW_exit ?_);simp [*])|with_reducible refine rL hE ?_|with_reducible refine And.intro ?_ ?_|omega|(refine imp1 fun h=>?_))
   exact ⟨i + 1,by omega,by omega,by simp [hcs2.out]⟩
  ·have hie : i = W.length:=by omega
   subst hie
   repeat' (first
    |(with_reducible first|refine uK ?_|refine uX ?_|refine AW_seqk fun K hK=>?_|refine AW_block ?_)|((with_reducible first|refine rS hE ?_|refine RK_nilk ?_|refine RK_stepk fun K' hK'=>?_|refine AW_if fun X Y hX hY=>?_|refine AW_ret ?_|refine AW_skip ?_|refine AW_exit ?_);simp [*])|with_reducible refine rL hE ?_|with_reducible refine And.intro ?_ ?_|omega|(refine imp1 fun h=>?_))
   all_goals simp)
 obtain ⟨C,hC⟩ : ∃ C,cnts W F W.length = C:=⟨_,rfl⟩
 rw [hC] at hz ⊢
 clear hC hcq hperm hlen
 refine AW_seqt ⟨[],[]⟩ ?_ (by
  intro K hK
  repeat' (first
   |(with_reducible first|refine uK ?_|refine uX ?_|refine AW_seqk fun K hK=>?_|refine AW_block ?_)|((with_reducible first|refine rS hE ?_|refine RK_nilk ?_|refine RK_stepk fun K' hK'=>?_|refine AW_if fun X Y hX hY=>?_|refine AW_ret ?_|refine AW_skip ?_|refine AW_exit ?_);simp [*])|with_reducible refine rL hE ?_|with_reducible refine And.intro ?_ ?_|omega|(refine imp1 fun h=>?_))
  refine AW_loopk (G:=Nat) (fun i=>⟨[(17,iA i),(15,.mp 101),(9,.sl 7 (W.map encE))],[(101,.map (encQ C) none)]⟩) (fun i=>i ≤ W.length) (fun i=>W.length - i) 0 (Nat.zero_le _) (by simp) ?_
  intro i hi K hK
  by_cases hlt : i < W.length
  ·have hltI : (i : Int) < W.length:=by omega
   have hzi:=hz.out W[i]
   unfold cntC at hzi
   rcases hf : fndC W[i] C with _|v
   ·clear hzi
    repeat' (first
     |(with_reducible first|refine uK ?_|refine uX ?_|refine AW_seqk fun K hK=>?_|refine AW_block ?_)|((with_reducible first|refine rS hE ?_|refine RK_nilk ?_|refine RK_stepk fun K' hK'=>?_|refine AW_if fun X Y hX hY=>?_|refine AW_ret ?_|refine AW_skip ?_|refine AW_exit ?_);simp [*])|with_reducible refine rL hE ?_|with_reducible refine And.intro ?_ ?_|omega|(refine imp1 fun h=>?_))
    exact ⟨i + 1,by omega,by omega,by simp⟩
   ·rw [hf] at hzi
    simp only [Option.getD_some] at hzi
    subst hzi
    repeat' (first
     |(with_reducible first|refine uK ?_|refine uX ?_|refine AW_seqk fun K hK=>?_|refine AW_block ?_)|((with_reducible first|refine rS hE ?_|refine RK_nilk ?_|refine RK_stepk fun K' hK'=>?_|refine AW_if fun X Y hX hY=>?_|refine AW_ret ?_|refine AW_skip ?_|refine AW_exit ?_);simp [*])|with_reducible refine rL hE ?_|with_reducible refine And.intro ?_ ?_|omega|(refine imp1 fun h=>?_))
    exact ⟨i + 1,by omega,by omega,by simp⟩
  ·repeat' (first
    |(with_reducible first|refine uK ?_|refine uX ?_|refine AW_seqk fun K hK=>?_|refine AW_block ?_)|((with_reducible first|refine rS hE ?_|refine RK_nilk ?_|refine RK_stepk fun K' hK'=>?_|refine AW_if fun X Y hX hY=>?_|refine AW_ret ?_|refine AW_skip ?_|refine AW_exit ?_);simp [*])|with_reducible refine rL hE ?_|with_reducible refine And.intro ?_ ?_|omega|(refine imp1 fun h=>?_))
   all_goals simp)
 repeat' (first
  |(with_reducible first|refine uK ?_|refine uX ?_|refine AW_seqk fun K hK=>?_|refine AW_block ?_)|((with_reducible first|refine rS hE ?_|refine RK_nilk ?_|refine RK_stepk fun K' hK'=>?_|refine AW_if fun X Y hX hY=>?_|refine AW_ret ?_|refine AW_skip ?_|refine AW_exit ?_);simp [*])|with_reducible refine rL hE ?_|with_reducible refine And.intro ?_ ?_|omega|(refine imp1 fun h=>?_))
 all_goals simp
theorem law (l : List It) (T : List UInt8) (hl : l.length ≤ maxLen) (hT : T.length ≤ maxLen) : PSpec Try.prog 7 [.sl 7 (l.map encI),.sl 1 (uL T)] (bA true):=by
 have hpl:=parts_len l T
 have hel:=ents_len l
 have hinc : incB (timesS T) = true:=timesS_inc T
 have hpe : prtL (entS l) (timesS T) = partsL (entS l) (timesS T):=prtL_eq hinc
 refine walk l T (entS l) (partsL (entS l) (timesS T)) (timesS T) (TreeB (entS l) (timesS T)) acall_bt ⟨s_entries l (by unfold maxLen at hl;omega)⟩ ⟨s_times T (by unfold maxLen at hT;omega)⟩ ⟨by rw [← hpe];exact s_prt _ _ (by omega) (by have:=timesS_len T;omega)⟩ hpl (fun tr h=>?_) s_depth s_parts (fun tr h=>?_)
 ·obtain ⟨h1,h2⟩:=h.small (by omega)
  exact s_nodes tr (by omega) fun n hn=>by
   have:=h2 n hn
   omega
 ·by_cases hL : entS l = []
  ·rw [hL] at h
   obtain ⟨h1,h2,h3⟩:=h.none
   exact .inl ⟨hL,h1,h3,by rw [h2]⟩
  ·refine .inr ⟨hL,?_⟩
   obtain ⟨hne, -⟩:=h.hull (errL_ents l) (by omega) hL
   rcases h.tree.facts (by omega) with ⟨_,h2,_⟩|⟨_,_,hf⟩
   ·exact absurd h2 hne
   have hd:=Int.toNat_of_nonneg h.dep
   obtain ⟨d,hdE⟩ : ∃ d,tr.depth.toNat = d:=⟨_,rfl⟩
   rw [hdE] at hf hd
   have hd20 : d ≤ 20:=by
    rcases hf.deep with h|h
    ·omega
    ·by_cases hc : d ≤ 20
     ·exact hc
     ·exfalso
      have:=Nat.pow_le_pow_right (show 0 < 8 by omega) (show 5 ≤ d - 2 by omega)
      omega
   have hil:=hf.idx.length_eq
   have hpl2:=hf.parts.length_eq
   rw [List.length_range] at hil
   have ht:=s_tree tr.nd (by have:=hf.size;omega) d 0 hf.good hd20 (by omega) (by omega)
   unfold treeR at ht
   rw [hil] at ht
   refine ⟨partsD tr.nd d 0,hf.parts,hf.size,⟨d,hd.symm,hf.deep⟩,?_⟩
   rw [← hd]
   exact ht
theorem spec (avs : List AV) (h : ShapeL Try.prog 6 Try.f7.params.toList avs) : PSpec Try.prog 7 avs (.v (.bool true)):=by
 rw [Try.params7] at h
 obtain ⟨c1,r1,rfl,h1,c2,r2,rfl,h2,rfl⟩:=h
 obtain ⟨l,hl,hl2⟩:=avIts h1
 obtain ⟨T,hT,hT2⟩:=avUs h2
 rw [hl,hT]
 exact law l T hl2 hT2
theorem contract (H : Type) (enc : TypeId × Value → H) (W : World) (base : Nat) (args : Array Value) (ds gs : List (DataW H)) (before : List MemPlace)
 (hval : ∀ (j : Nat) t v,Try.f7.params[j]? = some t → args[j]? = some v → Value.okWide Try.prog W .any base t v)
 (hW : DataW.Whole enc Try.prog Try.f7.params.toList Rows.rtreeNodesSpec.vars false W args.toList ds gs before) :
 Calls Try.prog 7 args W fun e W'=>∃ v,e = .returned v ∧ Rows.rtreeNodesSpec.post enc Try.prog Try.f7 false true false false W args v W' :=
 law_contract (m:=6) (tb:=4) spec (by rw [Try.params7];intro t ht;simp at ht;rcases ht with rfl|rfl <;> kernel_rfl) rfl laidK
  (by rw [Try.params7];intro t ht;simp at ht;rcases ht with rfl|rfl <;> exact ⟨by kernel_rfl,by decide +kernel⟩)
  (fun ds hd=>by
    rw [Try.params7] at hd
    match ds,hd with
    |[d1,d2],_=>rfl) (by kernel_rfl) Try.underlying4 hval hW
theorem lifted (os : Os) (started : os.Started) (H : Type) (enc : TypeId × Value → H) :
 ReturnsInHanded {} Try.checked os 7 .any (Rows.rtreeNodesSpec.pre6 enc Try.prog Try.f7 Rows.rtreeNodesRow.domain false) (Rows.rtreeNodesSpec.post enc Try.prog Try.f7 false true false false):=by
 refine returnsInHanded_of_change (C:=Try.checked) ownK started (by kernel_rfl) Try.func7
  (ChangeSpec.witness6 (enc:=enc) (C:=Try.checked) false ⟨#[],#[zN,zN],[]⟩ 8 (by kernel_rfl) (by kernel_rfl) (by kernel_rfl) (by kernel_rfl)) ?_
 intro W base args ds gs before hval hW hcnd _
 exact contract H enc W base args ds gs before hval hW
theorem said : Rows.RtreeNodesSaid :=
 OpenClaim.holds_of_wide 7 Try.f7 rfl rfl rfl rfl rfl rfl rfl ⟨rfl,rfl,rfl,rfl,rfl⟩ rfl rfl rfl rfl rfl (by kernel_rfl) Try.func7 (by kernel_rfl)
  (of_decide_eq_true (by kernel_rfl)) (by unfold Func.isWrapper;first|(rw [if_pos (by decide +kernel)];kernel_rfl)|(rw [if_neg (by decide +kernel)];exact ⟨rfl,rfl⟩))
  (fun os started H enc _=>lifted os started H enc)
end L8
end Go.Proofs.Ytlkijcflfnnbaaa
