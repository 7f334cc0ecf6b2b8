/- RtreeVisits: how many nodes a search looks at -/
import Derived.Test.YtlkijcflfnnbaaaZE
import Derived.Test.YtlkijcflfnnbaaaZ7
set_option maxRecDepth 100000
set_option maxRecDepth 1000000
set_option linter.unusedSimpArgs false
set_option linter.unusedVariables false
section
namespace Go.Proofs.Ytlkijcflfnnbaaa
open Go.Am
def chM (nd : List Nd) (q : Bx) (i : Nat) : Nat:=if meetX (nodeAt nd i).b q then (nodeAt nd i).ch.length else 0
theorem sum_zero {α : Type} (l : List α) (f : α → Nat) (h : ∀ x ∈ l,f x = 0) : (l.map f).sum = 0:=by
 induction l with
 |nil=>rfl
 |cons x l ih =>
  rw [List.map_cons,List.sum_cons,h x (by simp),ih fun y hy=>h y (by simp [hy])]
theorem not_below {nd : List Nd} {q : Bx} : ∀ (d i : Nat),Good nd d i → meetX (nodeAt nd i).b q = false → ∀ j ∈ idxD nd d i,meetX (nodeAt nd j).b q = false
 |0,_,h,_,_,_=>h.elim
 |d + 1,i,h,hm,j,hj=>by
  rcases List.mem_cons.1 hj with rfl|hj
  ·exact hm
  ·obtain ⟨c,hc,hj⟩:=List.mem_flatMap.1 hj
   refine not_below d c.toNat (h.kids c hc).2 ?_ j hj
   rw [Bool.eq_false_iff] at hm ⊢
   exact fun hh=>hm ((h.inkid c hc).meet hh)
theorem vis_len {nd : List Nd} {q : Bx} : ∀ (d i : Nat),Good nd d i → (visD nd q d i).length = 1 + ((idxD nd d i).map (chM nd q)).sum
 |0,_,h=>h.elim
 |d + 1,i,h=>by
  have hk:=h.kids
  simp only [visD,idxD,List.length_cons,List.map_cons,List.sum_cons]
  by_cases hm : meetX (nodeAt nd i).b q = true
  ·have key : ∀ cs : List Int,(∀ c ∈ cs,Good nd d c.toNat) → (cs.flatMap fun c=>visD nd q d c.toNat).length = cs.length + ((cs.flatMap fun c=>idxD nd d c.toNat).map (chM nd q)).sum:=by
    intro cs
    induction cs with
    |nil=>intro _;rfl
    |cons c cs ih =>
     intro hc
     have h1:=vis_len (q:=q) d c.toNat (hc c (by simp))
     have h2:=ih fun x hx=>hc x (by simp [hx])
     rw [List.flatMap_cons,List.flatMap_cons,List.length_append,List.map_append,List.sum_append,List.length_cons]
     omega
   have hrev : ∀ cs : List Int,(cs.reverse.flatMap fun c=>visD nd q d c.toNat).length = (cs.flatMap fun c=>visD nd q d c.toNat).length:=fun cs=>by
    rw [List.length_flatMap,List.length_flatMap,List.map_reverse,List.sum_reverse]
   have h1:=key (nodeAt nd i).ch fun c hc=>(hk c hc).2
   simp only [hm,if_true,chM,hrev,h1]
   omega
  ·have hm' : meetX (nodeAt nd i).b q = false:=by simpa using hm
   have h0 : (((nodeAt nd i).ch.flatMap fun c=>idxD nd d c.toNat).map (chM nd q)).sum = 0:=sum_zero _ _ fun j hj=>by
    have:=not_below (d + 1) i h hm' j (List.mem_cons_of_mem _ hj)
    simp [chM,this]
   simp only [chM] at h0 ⊢
   simp [hm',h0]
def cntN (nd : List Nd) (q : Bx) (k : Nat) : Nat:=(if nd = [] then 0 else 1) + ((List.range k).map (chM nd q)).sum
theorem cntN_succ (nd : List Nd) (q : Bx) (k : Nat) : cntN nd q (k + 1) = cntN nd q k + chM nd q k:=by
 simp [cntN,List.range_succ]
 omega
theorem vis_cnt {L : List En} {nd : List Nd} {dep : Nat} {q : Bx} (h : TF L nd dep) (hne : nd ≠ []) : (visD nd q dep 0).length = cntN nd q nd.length:=by
 rw [vis_len dep 0 h.good,cntN,if_neg hne]
 have:=(h.idx.map (chM nd q)).sum_nat
 omega
theorem s_visited_of (trv : AV) (hti : trv.idf = true) (hto : trv.one = true) (b : Bx) (V : List Nd) (hlen : V.length < 1000000000) (hI : ISpec Try.prog 49 [.ep trv,.ep (encX b)] (okV' V) (fun xs=>xs = V.map (fun n=>[encN n])))
 (hL : PSpec Try.prog 39 [trv,encX b] (.fn (.func 49) [] [.ep trv,.ep (encX b)])) : PSpec Try.prog 33 [trv,encX b] (iA V.length):=by
 replace hI:=Hld.mk hI
 replace hL:=Hld.mk hL
 have htm : ∀ d,trv.ment d = false:=fun d=>idf_ment d trv hti
 have htr : ∀ σ,trv.ren σ = trv:=fun σ=>by have:=idfL_ren σ [trv] (by simp [idfL,hti]);simpa [renL] using this
 have htc : trv.cells = [trv]:=AV.one_cells hto
 have hts : trv.isSt = false:=by cases trv <;> first|rfl|(simp [AV.one] at hto)
 have htst : trv.sto = true:=by cases trv <;> first|rfl|(simp [AV.one] at hto)
 refine PSpec_ofR Try.func33 rfl rfl (Nat.le_of_ble_eq_true rfl) (Nat.le_of_ble_eq_true rfl) ?_
 intro E hE hRO
 replace hRO:=Hld.mk hRO
 refine AW_seqt ⟨[(3,.loc 3 0),(0,trv)],[(3,.box 23 (encX b))]⟩ ?_ (by
  intro K hK
  repeat' (first
   |(with_reducible first|refine uK ?_|refine uX ?_|refine AW_seqk fun K hK=>?_|refine AW_block ?_)|((with_reducible first|refine rS hE ?_|refine RK_nilk ?_|refine RK_stepk fun K' hK'=>?_|refine AW_if fun X Y hX hY=>?_|refine AW_ret ?_|refine AW_skip ?_|refine AW_exit ?_);simp [*])|with_reducible refine rL hE ?_|with_reducible refine And.intro ?_ ?_|omega|(refine imp1 fun h=>?_))
  all_goals simp)
 refine AW_freeze 3 (cb:=.box 23 (encX b)) (t:=⟨[(3,.ep (encX b)),(0,trv)],[]⟩) (by simp) (by simp [htm]) (by simp) ?_
 refine AW_seqt ⟨[(5,.loc 5 0),(3,.ep (encX b)),(0,trv)],[(5,.box 3 (iA 0))]⟩ ?_ (by
  intro K hK
  repeat' (first
   |(with_reducible first|refine uK ?_|refine uX ?_|refine AW_seqk fun K hK=>?_|refine AW_block ?_)|((with_reducible first|refine rS hE ?_|refine RK_nilk ?_|refine RK_stepk fun K' hK'=>?_|refine AW_if fun X Y hX hY=>?_|refine AW_ret ?_|refine AW_skip ?_|refine AW_exit ?_);simp [*])|with_reducible refine rL hE ?_|with_reducible refine And.intro ?_ ?_|omega|(refine imp1 fun h=>?_))
  all_goals simp)
 refine AW_seqt ⟨[(5,.loc 5 0)],[(5,.box 3 (iA V.length))]⟩ ?_ (by
  intro K hK
  refine AW_seqt ⟨[(8,.fn (.func 49) [] [.ep trv,.ep (encX b)]),(5,.loc 5 0)],[(5,.box 3 (iA 0))]⟩ ?_ (by
   intro K hK
   repeat' (first
    |(with_reducible first|refine uK ?_|refine uX ?_|refine AW_seqk fun K hK=>?_|refine AW_block ?_)|((with_reducible first|refine rS hE ?_|refine RK_nilk ?_|refine RK_stepk fun K' hK'=>?_|refine AW_if fun X Y hX hY=>?_|refine AW_ret ?_|refine AW_skip ?_|refine AW_exit ?_);simp [*])|with_reducible refine rL hE ?_|(refine acall_same (hL.out) ?_ ?_ ?_;(iterate 2 (focus (simp [*] <;> fail)));simp [*])|(refine acall_view (hL.out) ?_ ?_ ?_;(iterate 2 (focus (simp [*] <;> fail)));simp [*])|with_reducible refine And.intro ?_ ?_|omega|(refine imp1 fun h=>?_))
   all_goals simp)
  refine AW_block ?_
  refine AW_rangeFunc (kp 5) [(5,.loc 1500005 0)] (fun c : Nat=>[(1500005,.box 3 (iA c))]) (fun pre c=>c = pre.length ∧ c ≤ V.length) 0 ⟨rfl,Nat.zero_le _⟩ hRO.out hI.out (by simp) (by simp [idfL,AV.idf,hti]) (fun pre x h=>by obtain ⟨_,_,_,rfl⟩:=h;simp [idfL]) (by rw [hE];decide) (kp_kp 5) (kp_lt (by omega)) (kp_mid (by omega))
   (slots_of (by simp [AV.ren])) (boxes_of (by simp [Ct.ren,AV.ren])) (by intro d h;simp [mentS,AV.ment] at h;omega) (fun xs c _ _ d h1 h2=>by have:=kp_ne h1 h2;subst this;simp [mentB,Ct.ment,AV.ment,lk]) ?_ ?_
  ·intro E' hE' pre x c hok hc
   obtain ⟨hc,hcV⟩:=hc
   obtain ⟨i,hi,hpre,rfl⟩:=hok
   have hpl : pre.length = i:=by rw [hpre];simp;omega
   have hE0:=hE
   clear hE
   have hE:=hE'.n.trans hE0
   have hi' : c < V.length:=by omega
   clear hpre
   simp only [pslots]
   repeat' (first
    |(with_reducible first|refine uK ?_|refine uX ?_|refine AW_seqk fun K hK=>?_|refine AW_block ?_)|((with_reducible first|refine rS hE ?_|refine RK_nilk ?_|refine RK_stepk fun K' hK'=>?_|refine AW_if fun X Y hX hY=>?_|refine AW_ret ?_|refine AW_skip ?_|refine AW_exit ?_);simp [*])|with_reducible refine rL hE ?_|with_reducible refine And.intro ?_ ?_|omega|(refine imp1 fun h=>?_))
   intro E2 hE2
   clear hE
   have hE:=hE2.n.trans hE0
   refine AW_block ?_
   repeat' (first
    |(with_reducible first|refine uK ?_|refine uX ?_|refine AW_seqk fun K hK=>?_|refine AW_block ?_)|((with_reducible first|refine rS hE ?_|refine RK_nilk ?_|refine RK_stepk fun K' hK'=>?_|refine AW_if fun X Y hX hY=>?_|refine AW_ret ?_|refine AW_skip ?_|refine AW_exit ?_);simp [*])|with_reducible refine rL hE ?_|with_reducible refine And.intro ?_ ?_|omega|(refine imp1 fun h=>?_))
   exact ⟨i + 1,⟨rfl,by omega⟩,by omega⟩
  ·intro xs c hxs hc
   have hcV : c = V.length:=by rw [hc.1,hxs];simp
   clear hc hxs
   subst hcV
   simp [Ct.ren,AV.ren]
   repeat' (first
    |(with_reducible first|refine uK ?_|refine uX ?_|refine AW_seqk fun K hK=>?_|refine AW_block ?_)|((with_reducible first|refine rS hE ?_|refine RK_nilk ?_|refine RK_stepk fun K' hK'=>?_|refine AW_if fun X Y hX hY=>?_|refine AW_ret ?_|refine AW_skip ?_|refine AW_exit ?_);simp [*])|with_reducible refine rL hE ?_|with_reducible refine And.intro ?_ ?_|omega|(refine imp1 fun h=>?_))
   all_goals simp)
 repeat' (first
  |(with_reducible first|refine uK ?_|refine uX ?_|refine AW_seqk fun K hK=>?_|refine AW_block ?_)|((with_reducible first|refine rS hE ?_|refine RK_nilk ?_|refine RK_stepk fun K' hK'=>?_|refine AW_if fun X Y hX hY=>?_|refine AW_ret ?_|refine AW_skip ?_|refine AW_exit ?_);simp [*])|with_reducible refine rL hE ?_|with_reducible refine And.intro ?_ ?_|omega|(refine imp1 fun h=>?_))
theorem TreeB.visited {l : List En} {ss : List Int} {tr : Tr} (h : TreeB l ss tr) (hp : (partsL l ss).length ≤ 262144) (q : Bx) : PSpec Try.prog 33 [.ep (encT tr),encX q] (iA (if chkX q = 0 then cntN tr.nd q tr.nd.length else 0 : Nat)):=by
 have hnone : tr.nd = [] ∨ chkX q ≠ 0 → PSpec Try.prog 33 [.ep (encT tr),encX q] (iA (0 : Nat)):=fun h0 =>
  s_visited_of (.ep (encT tr)) rfl rfl q [] (by simp) (ISpec.mono (i_looked1 tr q h0) (fun _ _ h=>h.elim) (fun xs h=>by rw [h];rfl)) (s_looked _ q)
 by_cases hc : chkX q = 0
 ·rw [if_pos hc]
  rcases h.tree.facts (by omega) with ⟨_,h2,_⟩|⟨_,h2,hf⟩
  ·have:=hnone (.inl h2)
   rw [h2]
   exact this
  ·have hl : (visD tr.nd q tr.depth.toNat 0).length < 1000000000:=by
    have h3:=idx_vis (nd:=tr.nd) (q:=q) tr.depth.toNat 0
    have h4:=hf.idx.length_eq
    have h5:=hf.size
    simp at h4
    omega
   have:=s_visited_of (.ep (encT tr)) rfl rfl q (visD tr.nd q tr.depth.toNat 0) hl (i_looked tr q _ (vis_root hf.good) h2 hc hl) (s_looked _ q)
   rwa [vis_cnt hf h2] at this
 ·rw [if_neg hc]
  exact hnone (.inr hc)
theorem TreeB.small {l : List En} {ss : List Int} {tr : Tr} (h : TreeB l ss tr) (hp : (partsL l ss).length ≤ 262144) : tr.nd.length ≤ 2 * (partsL l ss).length ∧ ∀ n ∈ tr.nd,n.ch.length ≤ 8 ∧ n.pa.length ≤ 8:=by
 rcases h.tree.facts (by omega) with ⟨_,h2,_⟩|⟨_,h2,hf⟩
 ·rw [h2]
  exact ⟨by simp,fun n hn=>by cases hn⟩
 ·exact ⟨hf.size,hf.small⟩
theorem cntN_le {nd : List Nd} (h : ∀ n ∈ nd,n.ch.length ≤ 8) (q : Bx) : ∀ k,k ≤ nd.length → cntN nd q k ≤ 1 + 8 * k
 |0,_=>by simp [cntN];split <;> omega
 |k + 1,hk=>by
  rw [cntN_succ]
  have h1:=cntN_le h q k (by omega)
  have h2 : chM nd q k ≤ 8:=by
   unfold chM
   split
   ·exact h _ (by unfold nodeAt;rw [List.getD_eq_getElem?_getD,List.getElem?_eq_getElem (by omega)];exact List.getElem_mem _)
   ·omega
  omega
end Go.Proofs.Ytlkijcflfnnbaaa
end
section
namespace Go.Proofs.Ytlkijcflfnnbaaa
open Go.Am
abbrev treeR (nd : List Nd) (d i : Nat) : AV:=.tup [.sl 7 ((partsD nd d i).map encE),iA (idxD nd d i).length,bA true]
theorem s_tree1 (nd : List Nd) (i : Nat) (h : Good nd 1 i) (hl : nd.length ≤ 1000000) : PSpec Try.prog 32 [.sl 8 (nd.map encN),iA i,iA 1] (treeR nd 1 i):=by
 obtain ⟨hi,h⟩:=h
 rcases h with ⟨-,h1,h2,h3,h4⟩|⟨h0,_⟩
 rotate_left
 ·exact absurd rfl h0
 have hn : nodeAt nd i = nd[i]:=by unfold nodeAt;rw [List.getD_eq_getElem?_getD,List.getElem?_eq_getElem hi];rfl
 have hp : partsD nd 1 i = (nodeAt nd i).pa:=by simp [partsD,h1]
 have hx : (idxD nd 1 i).length = 1:=by simp [idxD,h1]
 simp only [treeR,hp,hx]
 rw [hn] at h1 h2 h3 h4 ⊢
 obtain ⟨n,hne⟩ : ∃ n,nd[i] = n:=⟨_,rfl⟩
 have hq : nd[i]? = some n:=by rw [List.getElem?_eq_getElem hi,hne]
 rw [hne] at h1 h2 h3 h4 ⊢
 obtain ⟨x0,x1,y0,y1,t0,t1,ch,pa⟩:=n
 simp only at h1 h2 h3 h4 ⊢
 subst h1
 have hpl : 0 < pa.length:=List.length_pos_iff.2 h2
 have hiI : (i : Int) < nd.length:=by omega
 have hp8 : ¬ (8 : Int) < pa.length:=by omega
 have hp1 : ¬ (pa.length : Int) < 1:=by omega
 obtain ⟨A,hA⟩ : ∃ A : Nat → Bx,∀ j,accB (hdB pa) (pa.take j) = A j:=⟨_,fun _=>rfl⟩
 have hA0 : pa[0].b = A 0:=by rw [← hA];cases pa with|nil=>exact absurd rfl h2|cons x pa=>simp [accB,hdB]
 have hAs : ∀ j (h : j < pa.length),arX (A j) pa[j].b = A (j + 1):=fun j h=>by rw [← hA,← hA];simp only [List.take_succ_eq_append_getElem h,accB,List.foldl_append,List.foldl_cons,List.foldl_nil]
 have hAn : A pa.length = ⟨x0,x1,y0,y1,t0,t1⟩:=by rw [← hA,List.take_length];exact h4.symm
 replace hA0:=Hld.mk hA0
 replace hAs:=Hld.mk hAs
 replace hAn:=Hld.mk hAn
 clear h4 hA hn hp hx
 obtain ⟨n,hnn⟩ : ∃ n : Nd,n = ⟨x0,x1,y0,y1,t0,t1,[],pa⟩:=⟨_,rfl⟩
 refine PSpec_of Try.func32 rfl rfl (Nat.le_of_ble_eq_true rfl) (Nat.le_of_ble_eq_true rfl) ?_
 intro E hE
 refine AW_seqt ⟨[(2,iA 1),(1,iA i),(0,.sl 8 (nd.map encN))],[]⟩ ?_ (by
  intro K hK
  repeat' (first
   |(with_reducible first|refine uK ?_|refine uX ?_|refine AW_seqk fun K hK=>?_|refine AW_block ?_)|((with_reducible first|refine rS hE ?_|refine RK_nilk ?_|refine RK_stepk fun K' hK'=>?_|refine AW_if fun X Y hX hY=>?_|refine AW_ret ?_|refine AW_skip ?_|refine AW_exit ?_);simp [*])|with_reducible refine rL hE ?_|with_reducible refine And.intro ?_ ?_|omega|(refine imp1 fun h=>?_))
  all_goals simp)
 refine AW_seqt ⟨[(2,iA 1),(1,iA i),(0,.sl 8 (nd.map encN))],[]⟩ ?_ (by
  intro K hK
  repeat' (first
   |(with_reducible first|refine uK ?_|refine uX ?_|refine AW_seqk fun K hK=>?_|refine AW_block ?_)|((with_reducible first|refine rS hE ?_|refine RK_nilk ?_|refine RK_stepk fun K' hK'=>?_|refine AW_if fun X Y hX hY=>?_|refine AW_ret ?_|refine AW_skip ?_|refine AW_exit ?_);simp [*])|with_reducible refine rL hE ?_|with_reducible refine And.intro ?_ ?_|omega|(refine imp1 fun h=>?_))
  all_goals simp)
 refine AW_seqt ⟨[(9,.loc 9 0),(2,iA 1),(0,.sl 8 (nd.map encN))],[(9,.box 60 (encN ⟨x0,x1,y0,y1,t0,t1,[],pa⟩))]⟩ ?_ (by
  intro K hK
  repeat' (first
   |(with_reducible first|refine uK ?_|refine uX ?_|refine AW_seqk fun K hK=>?_|refine AW_block ?_)|((with_reducible first|refine rS hE ?_|refine RK_nilk ?_|refine RK_stepk fun K' hK'=>?_|refine AW_if fun X Y hX hY=>?_|refine AW_ret ?_|refine AW_skip ?_|refine AW_exit ?_);simp [*])|with_reducible refine rL hE ?_|with_reducible refine And.intro ?_ ?_|omega|(refine imp1 fun h=>?_))
  all_goals simp)
 refine AW_freeze 9 (cb:=.box 60 (encN ⟨x0,x1,y0,y1,t0,t1,[],pa⟩)) (t:=⟨[(9,.ep (encN ⟨x0,x1,y0,y1,t0,t1,[],pa⟩)),(2,iA 1),(0,.sl 8 (nd.map encN))],[]⟩) (by simp) (by simp) (by simp) ?_
 refine AW_seqk fun K0 hK0=>?_
 refine AW_seqt ⟨[(38,bA true),(9,.ep (encN ⟨x0,x1,y0,y1,t0,t1,[],pa⟩)),(0,.sl 8 (nd.map encN))],[]⟩ ?_ (by
  intro K hK
  repeat' (first
   |(with_reducible first|refine uK ?_|refine uX ?_|refine AW_seqk fun K hK=>?_|refine AW_block ?_)|((with_reducible first|refine rS hE ?_|refine RK_nilk ?_|refine RK_stepk fun K' hK'=>?_|refine AW_if fun X Y hX hY=>?_|refine AW_ret ?_|refine AW_skip ?_|refine AW_exit ?_);simp [*])|with_reducible refine rL hE ?_|with_reducible refine And.intro ?_ ?_|omega|(refine imp1 fun h=>?_))
  all_goals simp)
 refine AW_if fun X Y hX hY=>?_
 simp
 refine uX ?_
 refine AW_seqt ⟨[(9,.ep (encN ⟨x0,x1,y0,y1,t0,t1,[],pa⟩))],[]⟩ ?_ (by
  intro K hK
  repeat' (first
   |(with_reducible first|refine uK ?_|refine uX ?_|refine AW_seqk fun K hK=>?_|refine AW_block ?_)|((with_reducible first|refine rS hE ?_|refine RK_nilk ?_|refine RK_stepk fun K' hK'=>?_|refine AW_if fun X Y hX hY=>?_|refine AW_ret ?_|refine AW_skip ?_|refine AW_exit ?_);simp [*,encN])|with_reducible refine rL hE ?_|with_reducible refine And.intro ?_ ?_|omega|(refine imp1 fun h=>?_))
  all_goals simp [encN])
 refine AW_seqt ⟨[(10,.loc 10 0),(9,.ep (encN ⟨x0,x1,y0,y1,t0,t1,[],pa⟩))],[(10,.box 23 (encX (A 0)))]⟩ ?_ (by
  intro K hK
  repeat' (first
   |(with_reducible first|refine uK ?_|refine uX ?_|refine AW_seqk fun K hK=>?_|refine AW_block ?_)|((with_reducible first|refine rS hE ?_|refine RK_nilk ?_|refine RK_stepk fun K' hK'=>?_|refine AW_if fun X Y hX hY=>?_|refine AW_ret ?_|refine AW_skip ?_|refine AW_exit ?_);simp [*,encN,encX,En.b])|with_reducible refine rL hE ?_|with_reducible refine And.intro ?_ ?_|omega|(refine imp1 fun h=>?_))
  all_goals simp [encN,encX,← hA0.out,En.b])
 refine AW_seqt ⟨[(10,.loc 10 0),(9,.ep (encN ⟨x0,x1,y0,y1,t0,t1,[],pa⟩))],[(10,.box 23 (encX (A pa.length)))]⟩ ?_ (by
  intro K hK
  repeat' (first
   |(with_reducible first|refine uK ?_|refine uX ?_|refine AW_seqk fun K hK=>?_|refine AW_block ?_)|((with_reducible first|refine rS hE ?_|refine RK_nilk ?_|refine RK_stepk fun K' hK'=>?_|refine AW_if fun X Y hX hY=>?_|refine AW_ret ?_|refine AW_skip ?_|refine AW_exit ?_);simp [*])|with_reducible refine rL hE ?_|with_reducible refine And.intro ?_ ?_|omega|(refine imp1 fun h=>?_))
  refine AW_loopk (G:=Nat) (fun j=>⟨[(11,iA j),(10,.loc 10 0),(9,.ep (encN ⟨x0,x1,y0,y1,t0,t1,[],pa⟩))],[(10,.box 23 (encX (A j)))]⟩) (fun j=>j ≤ pa.length) (fun j=>pa.length - j) 0 (Nat.zero_le _) (by simp) ?_
  intro j hj K hK
  by_cases hlt : j < pa.length
  ·have hltI : (j : Int) < pa.length:=by omega
   have har:=s_around2 (A j) pa[j].b
   rw [hAs.out j hlt] at har
   replace har:=Hld.mk har
   refine AW_seqt ⟨[(11,iA j),(10,.loc 10 0),(9,.ep (encN ⟨x0,x1,y0,y1,t0,t1,[],pa⟩))],[(10,.box 23 (encX (A j)))]⟩ ?_ (by
    intro K hK
    repeat' (first
     |(with_reducible first|refine uK ?_|refine uX ?_|refine AW_seqk fun K hK=>?_|refine AW_block ?_)|((with_reducible first|refine rS hE ?_|refine RK_nilk ?_|refine RK_stepk fun K' hK'=>?_|refine AW_if fun X Y hX hY=>?_|refine AW_ret ?_|refine AW_skip ?_|refine AW_exit ?_);simp [*,encN])|with_reducible refine rL hE ?_|with_reducible refine And.intro ?_ ?_|omega|(refine imp1 fun h=>?_))
    all_goals simp [encN])
   refine AW_seqt ⟨[(11,iA j),(10,.loc 10 0),(9,.ep (encN ⟨x0,x1,y0,y1,t0,t1,[],pa⟩))],[(10,.box 23 (encX (A (j + 1))))]⟩ ?_ (by
    intro K hK
    refine AW_block ?_
    refine AW_drawHd ⟨[],[]⟩ mixed (by simp) fun E' hE'=>?_
    have hEn:=hE'.trans hE
    repeat' (first
     |(with_reducible first|refine useK (by assumption) ?_|refine useK3 (by assumption) ?_)|((with_reducible show DHd _ _ _ _ _ _ _);first|(refine DHd_done (by decide +kernel) ?_;try simp only [thenK,inBlk])|(refine dt hEn 0 fun K' hK'=>?_;simp [*,encN,encX,En.b];fail_if_success (with_reducible show False))|(refine dt hEn 1 fun K' hK'=>?_;simp [*,encN,encX,En.b];fail_if_success (with_reducible show False))|(refine dt hEn 2 fun K' hK'=>?_;simp [*,encN,encX,En.b];fail_if_success (with_reducible show False))|(refine dt hEn 3 fun K' hK'=>?_;simp [*,encN,encX,En.b];fail_if_success (with_reducible show False))|(refine dt hEn 4 fun K' hK'=>?_;simp [*,encN,encX,En.b];fail_if_success (with_reducible show False))|(refine dt hEn 5 fun K' hK'=>?_;simp [*,encN,encX,En.b];fail_if_success (with_reducible show False))|(refine dt hEn 6 fun K' hK'=>?_;simp [*,encN,encX,En.b];fail_if_success (with_reducible show False))|(refine dt hEn 7 fun K' hK'=>?_;simp [*,encN,encX,En.b];fail_if_success (with_reducible show False))|(refine dt hEn 8 fun K' hK'=>?_;simp [*,encN,encX,En.b];fail_if_success (with_reducible show False))|(refine dp hEn 0 fun K' hK'=>?_;simp [*,encN,encX,En.b];fail_if_success (with_reducible show False))|(refine dp hEn 1 fun K' hK'=>?_;simp [*,encN,encX,En.b];fail_if_success (with_reducible show False))|(refine dp hEn 2 fun K' hK'=>?_;simp [*,encN,encX,En.b];fail_if_success (with_reducible show False))|(refine dp hEn 3 fun K' hK'=>?_;simp [*,encN,encX,En.b];fail_if_success (with_reducible show False))|(refine dp hEn 4 fun K' hK'=>?_;simp [*,encN,encX,En.b];fail_if_success (with_reducible show False))|(refine dp hEn 5 fun K' hK'=>?_;simp [*,encN,encX,En.b];fail_if_success (with_reducible show False))|(refine dp hEn 6 fun K' hK'=>?_;simp [*,encN,encX,En.b];fail_if_success (with_reducible show False))|(refine dp hEn 7 fun K' hK'=>?_;simp [*,encN,encX,En.b];fail_if_success (with_reducible show False))|(refine dp hEn 8 fun K' hK'=>?_;simp [*,encN,encX,En.b];fail_if_success (with_reducible show False))|refine DHd_any rfl (by decide +kernel) ?_)|exact DHsome_nil|refine DHsome_no (by decide +kernel) ?_|(refine DHsome_yes (by exact rfl) rfl (by rw [hEn];decide) (fun K' hK'=>?_) ?_;simp [*,encN,encX,En.b];fail_if_success (with_reducible show False))|(refine DHsome_yesG (by exact rfl) rfl (by exact rfl) (by rw [hEn];decide) (fun K' hK'=>?_) ?_;simp [*,encN,encX,En.b];fail_if_success (with_reducible show False))|(refine acall_same (har.out) ?_ ?_ ?_;(focus (simp [*,encN,encX,En.b] <;> fail));(focus (simp [*,encN,encX,En.b] <;> fail));simp [*,encN,encX,En.b])|(refine acall_view (har.out) ?_ ?_ ?_;(focus (simp [*,encN,encX,En.b] <;> fail));(focus (simp [*,encN,encX,En.b] <;> fail));simp [*,encN,encX,En.b])|with_reducible refine And.intro ?_ ?_|omega|(with_reducible refine imp1 fun h=>?_))
    all_goals simp [encN,encX])
   repeat' (first
    |(with_reducible first|refine uK ?_|refine uX ?_|refine AW_seqk fun K hK=>?_|refine AW_block ?_)|((with_reducible first|refine rS hE ?_|refine RK_nilk ?_|refine RK_stepk fun K' hK'=>?_|refine AW_if fun X Y hX hY=>?_|refine AW_ret ?_|refine AW_skip ?_|refine AW_exit ?_);simp [*])|with_reducible refine rL hE ?_|with_reducible refine And.intro ?_ ?_|omega|(refine imp1 fun h=>?_))
   exact ⟨j + 1,by omega,by omega,by simp⟩
  ·have hie : j = pa.length:=by omega
   subst hie
   repeat' (first
    |(with_reducible first|refine uK ?_|refine uX ?_|refine AW_seqk fun K hK=>?_|refine AW_block ?_)|((with_reducible first|refine rS hE ?_|refine RK_nilk ?_|refine RK_stepk fun K' hK'=>?_|refine AW_if fun X Y hX hY=>?_|refine AW_ret ?_|refine AW_skip ?_|refine AW_exit ?_);simp [*,encN])|with_reducible refine rL hE ?_|with_reducible refine And.intro ?_ ?_|omega|(refine imp1 fun h=>?_))
   all_goals simp [encN])
 rw [hAn.out]
 refine AW_freeze 10 (cb:=.box 23 (encX ⟨x0,x1,y0,y1,t0,t1⟩)) (t:=⟨[(10,.ep (encX ⟨x0,x1,y0,y1,t0,t1⟩)),(9,.ep (encN ⟨x0,x1,y0,y1,t0,t1,[],pa⟩))],[]⟩) (by simp) (by simp) (by simp) ?_
 refine AW_seqt ⟨[(8,bA true),(7,iA 1),(6,.sl 7 (pa.map encE))],[]⟩ ?_ (by
  intro K hK
  have hB : encX ⟨x0,x1,y0,y1,t0,t1⟩ = .st [iA x0,iA x1,iA y0,iA y1,iA t0,iA t1]:=rfl
  have hNn : encN ⟨x0,x1,y0,y1,t0,t1,[],pa⟩ = .st [iA x0,iA x1,iA y0,iA y1,iA t0,iA t1,.sl 1 [],.sl 7 (pa.map encE)]:=rfl
  rw [hB,hNn]
  refine AW_drawF (fun f=>⟨[(75,if f 0 then .ep (.sl 7 (pa.map encE)) else .u),(76,if f 1 then .sl 7 (pa.map encE) else .u),(77,if f 2 then .st [iA x0,iA x1,iA y0,iA y1,iA t0,iA t1] else .u),(78,if f 3 then .ep (.st [iA x0,iA x1,iA y0,iA y1,iA t0,iA t1]) else .u),(79,if f 4 then .st [iA x0,iA x1,iA y0,iA y1,iA t0,iA t1] else .u),(80,if f 5 then bA true else .u),(6,if f 6 then .sl 7 (pa.map encE) else .u),(7,if f 7 then iA 1 else .u),(8,if f 8 then bA true else .u),(10,.ep (.st [iA x0,iA x1,iA y0,iA y1,iA t0,iA t1])),(9,.ep (.st [iA x0,iA x1,iA y0,iA y1,iA t0,iA t1,.sl 1 [],.sl 7 (pa.map encE)]))],[]⟩) mixed (by rw [hE];decide) (by decide +kernel) (by decide +kernel) (by simp) ?_ ?_
  ·intro f i o hi hdep _ _ K2 hK2
   clear hK
   iterate 9 (rcases i with _|i;rotate_left)
   ·simp at hi
   all_goals (simp only [List.getElem?_cons_succ,List.getElem?_cons_zero,Option.some.injEq] at hi;subst hi)
   all_goals simp [Region.binds] at hdep
   all_goals (simp [*];(repeat' (first|with_reducible refine And.intro ?_ ?_|omega));refine hK2.h _ ?_;simp [*])
  ·intro f hf
   have h1:=hf 6 (by simp)
   have h2:=hf 7 (by simp)
   have h3:=hf 8 (by simp)
   refine hK.h _ ?_
   simp [h1,h2,h3])
 repeat' (first
  |(with_reducible first|refine uK ?_|refine uX ?_|refine AW_seqk fun K hK=>?_|refine AW_block ?_)|((with_reducible first|refine rS hE ?_|refine RK_nilk ?_|refine RK_stepk fun K' hK'=>?_|refine AW_if fun X Y hX hY=>?_|refine AW_ret ?_|refine AW_skip ?_|refine AW_exit ?_);simp [*])|with_reducible refine rL hE ?_|with_reducible refine And.intro ?_ ?_|omega|(refine imp1 fun h=>?_))
 all_goals simp
end Go.Proofs.Ytlkijcflfnnbaaa
end
section
namespace Go.Proofs.Ytlkijcflfnnbaaa
open Go.Am
noncomputable def c28 : Code:=nav [1,1,1,1,1,1,1,0,1,0,0,1,0,0,1,1,1,1,1] (Try.f32.body.getD .skip)
set_option maxHeartbeats 2000000 in
theorem reg28 {E : Env} (hE : E.n = Try.f32.ntmps) {nd : List Nd} {n m : Nd} {j c C N : Nat} {d : Int} {X Y : Bx} {F : List AV} (hj : n.ch[j]? = some (c : Int)) (hm : nd[c]? = some m) (hY : PSpec Try.prog 17 [encX X,encX m.b] (encX Y)) {Q : AExit → AState → Prop}
 (h : ∀ s' : AState,s'.le ⟨[(13,iA j),(12,.loc 12 0),(9,.ep (encN n)),(7,iA C),(6,.own 145 7 0 N),(2,iA d),(0,.sl 8 (nd.map encN))],[(12,.box 23 (encX Y)),(145,.arr 51 7 F)]⟩ → Q .normal s') :
 AW Try.prog E c28 ⟨[(13,iA j),(12,.loc 12 0),(9,.ep (encN n)),(7,iA C),(6,.own 145 7 0 N),(2,iA d),(0,.sl 8 (nd.map encN))],[(12,.box 23 (encX X)),(145,.arr 51 7 F)]⟩ Q:=by
 replace h:=Kont.mk h
 replace hY:=Hld.mk hY
 have hjl:=(List.getElem?_eq_some_iff.1 hj).1
 have hjI : (j : Int) < n.ch.length:=by omega
 have hcl':=(List.getElem?_eq_some_iff.1 hm).1
 have hcI : (c : Int) < nd.length:=by omega
 have hjc : n.ch[j] = (c : Int):=(List.getElem?_eq_some_iff.1 hj).2
 have hmc : nd[c] = m:=(List.getElem?_eq_some_iff.1 hm).2
 refine AW_drawF (fun f=>⟨[(160,if f 0 then encX X else .u),(161,if f 1 then .sl 8 (nd.map encN) else .u),(162,if f 2 then .ep (.sl 1 (n.ch.map iA)) else .u),(163,if f 3 then .sl 1 (n.ch.map iA) else .u),(164,if f 4 then iA j else .u),(165,if f 5 then .ep (iA c) else .u),(166,if f 6 then iA c else .u),(167,if f 7 then .ep (encN m) else .u),(168,if f 8 then .ep (encX m.b) else .u),(169,if f 9 then encX m.b else .u),(170,if f 10 then encX Y else .u),
  (13,iA j),(12,.loc 12 0),(9,.ep (encN n)),(7,iA C),(6,.own 145 7 0 N),(2,iA d),(0,.sl 8 (nd.map encN))],[(12,.box 23 (encX (if f 11 then Y else X))),(145,.arr 51 7 F)]⟩) mixed (by rw [hE];decide) (by decide +kernel) (by decide +kernel) (by simp) ?_ ?_
 ·intro f i o hi hdep hnot hcl K2 hK2
  have e11 : f 11 = true → f 0 = true:=fun h=>by have:=hcl 11 _ rfl h;simp [Region.binds] at this;simp [this]
  clear hcl h
  iterate 12 (rcases i with _|i;rotate_left)
  ·simp at hi
  all_goals (simp only [List.getElem?_cons_succ,List.getElem?_cons_zero,Option.some.injEq] at hi;subst hi)
  all_goals simp [Region.binds] at hdep
  all_goals (try simp [hnot] at e11)
  all_goals (simp [*,encN,encX,Nd.b];(repeat' (first|with_reducible refine And.intro ?_ ?_|omega));first|(refine hK2.h _ ?_;simp [*,encN,encX,Nd.b];done)|(refine acall_same hY.out ?_ ?_ ?_;(focus (simp [*,encX,Nd.b] <;> fail));(focus (simp [*,encX,Nd.b] <;> fail));simp [*,encX,Nd.b];refine hK2.h _ ?_;simp [*,encN,encX,Nd.b]))
 ·intro f hf
  have h1:=hf 11 (by simp)
  refine h.h _ ?_
  simp [h1]
theorem s_treeW (nd : List Nd) (n : Nd) (i d m : Nat) (c : Nat → Nat) (xs : Nat → List En) (k : Nat → Nat) (FF : Nat → List En) (C : Nat → Nat) (A : Nat → Bx) (hi : nd[i]? = some n) (hd : 1 ≤ d) (hd2 : d ≤ 19) (hl : nd.length ≤ 1000000) (hm0 : 0 < m) (hm8 : m ≤ 8) (hml : n.ch.length = m) (hpa : n.pa = [])
 (hc : ∀ j,j < m → n.ch[j]? = some (c j : Int) ∧ 0 < c j ∧ c j < nd.length) (hF0 : FF 0 = []) (hFs : ∀ j,j < m → FF (j + 1) = FF j ++ xs j) (hFb : ∀ j,j ≤ m → (FF j).length ≤ 1000000) (hC0 : C 0 = 1) (hCs : ∀ j,j < m → C (j + 1) = C j + k j ∧ C (j + 1) ≤ nd.length)
 (hA0 : ∀ y,nd[c 0]? = some y → A 0 = y.b) (hAs : ∀ j y,j < m → nd[c j]? = some y → A (j + 1) = arX (A j) y.b) (hAn : A m = n.b)
 (ih : ∀ j,j < m → PSpec Try.prog 32 [.sl 8 (nd.map encN),iA (c j),iA d] (.tup [.sl 7 ((xs j).map encE),iA (k j),bA true])) :
 PSpec Try.prog 32 [.sl 8 (nd.map encN),iA i,iA ((d : Int) + 1)] (.tup [.sl 7 ((FF m).map encE),iA (C m),bA true]):=by
 have hil:=(List.getElem?_eq_some_iff.1 hi).1
 have hin : nd[i] = n:=(List.getElem?_eq_some_iff.1 hi).2
 have hiI : (i : Int) < nd.length:=by omega
 have hmI1 : ¬ (m : Int) < 1:=by omega
 have hmI8 : ¬ (8 : Int) < m:=by omega
 have hd20 : ¬ (20 : Int) < (d : Int) + 1:=by omega
 have hd1 : ¬ (d : Int) + 1 < 1:=by omega
 have hd0 : ¬ (d : Int) + 1 = 1:=by omega
 have hd00 : ¬ d = 0:=by omega
 replace hc:=Hld.mk hc
 replace hFs:=Hld.mk hFs
 replace hFb:=Hld.mk hFb
 replace hCs:=Hld.mk hCs
 replace hA0:=Hld.mk hA0
 replace hAs:=Hld.mk hAs
 replace hAn:=Hld.mk hAn
 replace ih:=Hld.mk ih
 refine PSpec_of Try.func32 rfl rfl (Nat.le_of_ble_eq_true rfl) (Nat.le_of_ble_eq_true rfl) ?_
 intro E hE
 refine AW_seqt ⟨[(6,.v (.slice none 0 0)),(2,iA ((d : Int) + 1)),(1,iA i),(0,.sl 8 (nd.map encN))],[]⟩ ?_ (by
  intro K hK
  repeat' (first
   |(with_reducible first|refine uK ?_|refine uX ?_|refine AW_seqk fun K hK=>?_|refine AW_block ?_)|((with_reducible first|refine rS hE ?_|refine RK_nilk ?_|refine RK_stepk fun K' hK'=>?_|refine AW_if fun X Y hX hY=>?_|refine AW_ret ?_|refine AW_skip ?_|refine AW_exit ?_);simp [*])|with_reducible refine rL hE ?_|with_reducible refine And.intro ?_ ?_|omega|(refine imp1 fun h=>?_))
  all_goals simp)
 refine AW_seqt ⟨[(6,.v (.slice none 0 0)),(2,iA ((d : Int) + 1)),(1,iA i),(0,.sl 8 (nd.map encN))],[]⟩ ?_ (by
  intro K hK
  clear hi
  repeat' (first
   |(with_reducible first|refine uK ?_|refine uX ?_|refine AW_seqk fun K hK=>?_|refine AW_block ?_)|((with_reducible first|refine rS hE ?_|refine RK_nilk ?_|refine RK_stepk fun K' hK'=>?_|refine AW_if fun X Y hX hY=>?_|refine AW_ret ?_|refine AW_skip ?_|refine AW_exit ?_);simp [*])|with_reducible refine rL hE ?_|with_reducible refine And.intro ?_ ?_|omega|(refine imp1 fun h=>?_))
  all_goals simp)
 refine AW_seqt ⟨[(9,.loc 9 0),(6,.v (.slice none 0 0)),(2,iA ((d : Int) + 1)),(0,.sl 8 (nd.map encN))],[(9,.box 60 (encN n))]⟩ ?_ (by
  intro K hK
  clear hi
  repeat' (first
   |(with_reducible first|refine uK ?_|refine uX ?_|refine AW_seqk fun K hK=>?_|refine AW_block ?_)|((with_reducible first|refine rS hE ?_|refine RK_nilk ?_|refine RK_stepk fun K' hK'=>?_|refine AW_if fun X Y hX hY=>?_|refine AW_ret ?_|refine AW_skip ?_|refine AW_exit ?_);simp [*])|with_reducible refine rL hE ?_|with_reducible refine And.intro ?_ ?_|omega|(refine imp1 fun h=>?_))
  all_goals simp)
 refine AW_freeze 9 (cb:=.box 60 (encN n)) (t:=⟨[(9,.ep (encN n)),(6,.v (.slice none 0 0)),(2,iA ((d : Int) + 1)),(0,.sl 8 (nd.map encN))],[]⟩) (by simp) (by simp) (by simp) ?_
 refine AW_seqt ⟨[(9,.ep (encN n)),(6,.v (.slice none 0 0)),(2,iA ((d : Int) + 1)),(0,.sl 8 (nd.map encN))],[]⟩ ?_ (by
  intro K hK
  clear hi hin
  repeat' (first
   |(with_reducible first|refine uK ?_|refine uX ?_|refine AW_seqk fun K hK=>?_|refine AW_block ?_)|((with_reducible first|refine rS hE ?_|refine RK_nilk ?_|refine RK_stepk fun K' hK'=>?_|refine AW_if fun X Y hX hY=>?_|refine AW_ret ?_|refine AW_skip ?_|refine AW_exit ?_);simp [*])|with_reducible refine rL hE ?_|with_reducible refine And.intro ?_ ?_|omega|(refine imp1 fun h=>?_))
  all_goals simp)
 refine AW_seqt ⟨[(9,.ep (encN n)),(6,.v (.slice none 0 0)),(2,iA ((d : Int) + 1)),(0,.sl 8 (nd.map encN))],[]⟩ ?_ (by
  intro K hK
  clear hi hin
  repeat' (first
   |(with_reducible first|refine uK ?_|refine uX ?_|refine AW_seqk fun K hK=>?_|refine AW_block ?_)|((with_reducible first|refine rS hE ?_|refine RK_nilk ?_|refine RK_stepk fun K' hK'=>?_|refine AW_if fun X Y hX hY=>?_|refine AW_ret ?_|refine AW_skip ?_|refine AW_exit ?_);simp [*,encN])|with_reducible refine rL hE ?_|with_reducible refine And.intro ?_ ?_|omega|(refine imp1 fun h=>?_))
  all_goals simp [encN,hpa])
 refine AW_seqt ⟨[(12,.loc 12 0),(9,.ep (encN n)),(6,.v (.slice none 0 0)),(2,iA ((d : Int) + 1)),(0,.sl 8 (nd.map encN))],[(12,.box 23 (encX zX))]⟩ ?_ (by
  intro K hK
  clear hi hin
  repeat' (first
   |(with_reducible first|refine uK ?_|refine uX ?_|refine AW_seqk fun K hK=>?_|refine AW_block ?_)|((with_reducible first|refine rS hE ?_|refine RK_nilk ?_|refine RK_stepk fun K' hK'=>?_|refine AW_if fun X Y hX hY=>?_|refine AW_ret ?_|refine AW_skip ?_|refine AW_exit ?_);simp [*])|with_reducible refine rL hE ?_|with_reducible refine And.intro ?_ ?_|omega|(refine imp1 fun h=>?_))
  all_goals simp [encX,zX])
 refine AW_seqt ⟨[(12,.loc 12 0),(9,.ep (encN n)),(7,iA 1),(6,.v (.slice none 0 0)),(2,iA ((d : Int) + 1)),(0,.sl 8 (nd.map encN))],[(12,.box 23 (encX zX))]⟩ ?_ (by
  intro K hK
  clear hi hin
  repeat' (first
   |(with_reducible first|refine uK ?_|refine uX ?_|refine AW_seqk fun K hK=>?_|refine AW_block ?_)|((with_reducible first|refine rS hE ?_|refine RK_nilk ?_|refine RK_stepk fun K' hK'=>?_|refine AW_if fun X Y hX hY=>?_|refine AW_ret ?_|refine AW_skip ?_|refine AW_exit ?_);simp [*])|with_reducible refine rL hE ?_|with_reducible refine And.intro ?_ ?_|omega|(refine imp1 fun h=>?_))
  all_goals simp)
 refine AW_mkrow 6 145 51 7 (by simp) (by simp) (by simp) (by omega) ?_
 clear hi hin
 refine AW_seqt ⟨[(12,.loc 12 0),(9,.ep (encN n)),(7,iA (C m)),(6,.own 145 7 0 (FF m).length)],[(12,.box 23 (encX (A m))),(145,.arr 51 7 ((FF m).map encE))]⟩ ?_ (by
  intro K hK
  repeat' (first
   |(with_reducible first|refine uK ?_|refine uX ?_|refine AW_seqk fun K hK=>?_|refine AW_block ?_)|((with_reducible first|refine rS hE ?_|refine RK_nilk ?_|refine RK_stepk fun K' hK'=>?_|refine AW_if fun X Y hX hY=>?_|refine AW_ret ?_|refine AW_skip ?_|refine AW_exit ?_);simp [*])|with_reducible refine rL hE ?_|with_reducible refine And.intro ?_ ?_|omega|(refine imp1 fun h=>?_))
  refine AW_loopk (G:=Nat) (fun j=>⟨[(13,iA j),(12,.loc 12 0),(9,.ep (encN n)),(7,iA (C j)),(6,.own 145 7 0 (FF j).length),(2,iA ((d : Int) + 1)),(0,.sl 8 (nd.map encN))],[(12,.box 23 (encX (if j = 0 then zX else A j))),(145,.arr 51 7 ((FF j).map encE))]⟩) (fun j=>j ≤ m) (fun j=>m - j) 0 (Nat.zero_le _) (by simp [hF0,hC0]) ?_
  intro j hj K hK
  by_cases hlt : j < m
  ·obtain ⟨e1,e2,e3⟩:=hc.out j hlt
   have e4:=hFs.out j hlt
   have e5:=hFb.out (j + 1) (by omega)
   obtain ⟨e6,e7⟩:=hCs.out j hlt
   have e8:=hA0.out
   have e9:=ih.out j hlt
   obtain ⟨y,hy⟩ : ∃ y,nd[c j]? = some y:=⟨_,List.getElem?_eq_getElem e3⟩
   have e10:=hAs.out j y hlt hy
   have har:=s_around2 (A j) y.b
   rw [← e10] at har
   have hz : j = 0 → A j = y.b:=fun h=>by subst h;exact e8 y hy
   obtain ⟨cc,hcc⟩ : ∃ cc,c j = cc:=⟨_,rfl⟩
   obtain ⟨M,hM⟩ : ∃ M,FF j = M:=⟨_,rfl⟩
   obtain ⟨M2,hM2⟩ : ∃ M2,FF (j + 1) = M2:=⟨_,rfl⟩
   obtain ⟨v,hv⟩ : ∃ v,C j = v:=⟨_,rfl⟩
   obtain ⟨v2,hv2⟩ : ∃ v2,C (j + 1) = v2:=⟨_,rfl⟩
   obtain ⟨B0,hB0⟩ : ∃ B,(if j = 0 then zX else A j) = B:=⟨_,rfl⟩
   rw [hcc] at e1 e2 e3 e9 hy
   rw [hM,hM2] at e4
   rw [hM2] at e5
   rw [hv,hv2] at e6
   rw [hv2] at e7
   have hyc : nd[cc] = y:=(List.getElem?_eq_some_iff.1 hy).2
   have hjl:=(List.getElem?_eq_some_iff.1 e1).1
   have hjc : n.ch[j] = (cc : Int):=(List.getElem?_eq_some_iff.1 e1).2
   have hjI : (j : Int) < m:=by omega
   have hcI : (cc : Int) < nd.length:=by omega
   have hc0 : ¬ (cc : Int) ≤ 0:=by omega
   have hMt : (M.map encE).take M.length = M.map encE:=List.take_of_length_le (by simp)
   have hML : M.length + (xs j).length ≤ 1000000:=by rw [e4] at e5;simpa using e5
   have hvk : ¬ (nd.length : Int) < (v : Int) + (k j : Int):=by omega
   replace e4:=Hld.mk e4
   replace e9:=Hld.mk e9
   refine AW_le (t:=⟨[(13,iA j),(12,.loc 12 0),(9,.ep (encN n)),(7,iA v),(6,.own 145 7 0 M.length),(2,iA ((d : Int) + 1)),(0,.sl 8 (nd.map encN))],[(12,.box 23 (encX B0)),(145,.arr 51 7 (M.map encE))]⟩) (by simp [hv,hM,hB0]) ?_
   clear hM hv e10 e8 e5 hcc
   refine AW_seqt ⟨[(13,iA j),(12,.loc 12 0),(9,.ep (encN n)),(7,iA v),(6,.own 145 7 0 M.length),(2,iA ((d : Int) + 1)),(0,.sl 8 (nd.map encN))],[(12,.box 23 (encX B0)),(145,.arr 51 7 (M.map encE))]⟩ ?_ (by
    intro K hK
    clear hB0
    repeat' (first
     |(with_reducible first|refine uK ?_|refine uX ?_|refine AW_seqk fun K hK=>?_|refine AW_block ?_)|((with_reducible first|refine rS hE ?_|refine RK_nilk ?_|refine RK_stepk fun K' hK'=>?_|refine AW_if fun X Y hX hY=>?_|refine AW_ret ?_|refine AW_skip ?_|refine AW_exit ?_);simp [*,encN])|with_reducible refine rL hE ?_|with_reducible refine And.intro ?_ ?_|omega|(refine imp1 fun h=>?_))
    all_goals simp [encN,hpa])
   refine AW_seqt ⟨[(13,iA j),(12,.loc 12 0),(9,.ep (encN n)),(7,iA v2),(6,.own 145 7 0 M2.length),(2,iA ((d : Int) + 1)),(0,.sl 8 (nd.map encN))],[(12,.box 23 (encX (A (j + 1)))),(145,.arr 51 7 (M2.map encE))]⟩ ?_ (by
    intro K hK
    refine AW_block ?_
    refine AW_seqt ⟨[(13,iA j),(12,.loc 12 0),(9,.ep (encN n)),(7,iA v),(6,.own 145 7 0 M.length),(2,iA ((d : Int) + 1)),(0,.sl 8 (nd.map encN))],[(12,.box 23 (encX B0)),(145,.arr 51 7 (M.map encE))]⟩ ?_ (by
     intro K hK
     clear hB0 hy hyc
     repeat' (first
      |(with_reducible first|refine uK ?_|refine uX ?_|refine AW_seqk fun K hK=>?_|refine AW_block ?_)|((with_reducible first|refine rS hE ?_|refine RK_nilk ?_|refine RK_stepk fun K' hK'=>?_|refine AW_if fun X Y hX hY=>?_|refine AW_ret ?_|refine AW_skip ?_|refine AW_exit ?_);simp [*,encN])|with_reducible refine rL hE ?_|with_reducible refine And.intro ?_ ?_|omega|(refine imp1 fun h=>?_))
     all_goals simp [encN,hpa])
    refine AW_seqt ⟨[(16,bA true),(15,iA (k j)),(14,.sl 7 ((xs j).map encE)),(13,iA j),(12,.loc 12 0),(9,.ep (encN n)),(7,iA v),(6,.own 145 7 0 M.length),(2,iA ((d : Int) + 1)),(0,.sl 8 (nd.map encN))],[(12,.box 23 (encX B0)),(145,.arr 51 7 (M.map encE))]⟩ ?_ (by
     intro K hK
     clear hB0 hy hyc
     repeat' (first
      |(with_reducible first|refine uK ?_|refine uX ?_|refine AW_seqk fun K hK=>?_|refine AW_block ?_)|((with_reducible first|refine rS hE ?_|refine RK_nilk ?_|refine RK_stepk fun K' hK'=>?_|refine AW_if fun X Y hX hY=>?_|refine AW_ret ?_|refine AW_skip ?_|refine AW_exit ?_);simp [*,encN])|with_reducible refine rL hE ?_|(refine acall_same (e9.out) ?_ ?_ ?_;(iterate 2 (focus (simp [*,encN] <;> fail)));simp [*,encN])|(refine acall_view (e9.out) ?_ ?_ ?_;(iterate 2 (focus (simp [*,encN] <;> fail)));simp [*,encN])|with_reducible refine And.intro ?_ ?_|omega|(refine imp1 fun h=>?_))
     all_goals simp [encN,hpa])
    refine AW_seqt ⟨[(15,iA (k j)),(14,.sl 7 ((xs j).map encE)),(13,iA j),(12,.loc 12 0),(9,.ep (encN n)),(7,iA v),(6,.own 145 7 0 M.length),(2,iA ((d : Int) + 1)),(0,.sl 8 (nd.map encN))],[(12,.box 23 (encX B0)),(145,.arr 51 7 (M.map encE))]⟩ ?_ (by
     intro K hK
     clear hB0 hy hyc
     repeat' (first
      |(with_reducible first|refine uK ?_|refine uX ?_|refine AW_seqk fun K hK=>?_|refine AW_block ?_)|((with_reducible first|refine rS hE ?_|refine RK_nilk ?_|refine RK_stepk fun K' hK'=>?_|refine AW_if fun X Y hX hY=>?_|refine AW_ret ?_|refine AW_skip ?_|refine AW_exit ?_);simp [*])|with_reducible refine rL hE ?_|with_reducible refine And.intro ?_ ?_|omega|(refine imp1 fun h=>?_))
     all_goals simp)
    refine AW_seqt ⟨[(13,iA j),(12,.loc 12 0),(9,.ep (encN n)),(7,iA v2),(6,.own 145 7 0 M2.length),(2,iA ((d : Int) + 1)),(0,.sl 8 (nd.map encN))],[(12,.box 23 (encX B0)),(145,.arr 51 7 (M2.map encE))]⟩ ?_ (by
     intro K hK
     clear hB0 hy hyc
     repeat' (first
      |(with_reducible first|refine uK ?_|refine uX ?_|refine AW_seqk fun K hK=>?_|refine AW_block ?_)|((with_reducible first|refine rS hE ?_|refine RK_nilk ?_|refine RK_stepk fun K' hK'=>?_|refine AW_if fun X Y hX hY=>?_|refine AW_ret ?_|refine AW_skip ?_|refine AW_exit ?_);simp [*])|with_reducible refine rL hE ?_|with_reducible refine And.intro ?_ ?_|omega|(refine imp1 fun h=>?_))
     all_goals simp [e4.out,e6])
    refine AW_seqt ⟨[(13,iA j),(12,.loc 12 0),(9,.ep (encN n)),(7,iA v2),(6,.own 145 7 0 M2.length),(2,iA ((d : Int) + 1)),(0,.sl 8 (nd.map encN))],[(12,.box 23 (encX (A j))),(145,.arr 51 7 (M2.map encE))]⟩ ?_ (by
     intro K hK
     by_cases hj0 : j = 0
     ·have hz':=hz hj0
      clear hB0 e6
      subst hj0
      repeat' (first
       |(with_reducible first|refine uK ?_|refine uX ?_|refine AW_seqk fun K hK=>?_|refine AW_block ?_)|((with_reducible first|refine rS hE ?_|refine RK_nilk ?_|refine RK_stepk fun K' hK'=>?_|refine AW_if fun X Y hX hY=>?_|refine AW_ret ?_|refine AW_skip ?_|refine AW_exit ?_);simp [*,encN,encX,Nd.b])|with_reducible refine rL hE ?_|with_reducible refine And.intro ?_ ?_|omega|(refine imp1 fun h=>?_))
      all_goals simp [encN,encX,hz',Nd.b,hpa]
     ·rw [if_neg hj0] at hB0
      clear hyc hy e6
      subst hB0
      repeat' (first
       |(with_reducible first|refine uK ?_|refine uX ?_|refine AW_seqk fun K hK=>?_|refine AW_block ?_)|((with_reducible first|refine rS hE ?_|refine RK_nilk ?_|refine RK_stepk fun K' hK'=>?_|refine AW_if fun X Y hX hY=>?_|refine AW_ret ?_|refine AW_skip ?_|refine AW_exit ?_);simp [*])|with_reducible refine rL hE ?_|with_reducible refine And.intro ?_ ?_|omega|(refine imp1 fun h=>?_))
      all_goals simp)
    refine reg28 hE e1 hy har fun s' hs'=>hK.h s' ?_
    exact hs')
   clear hB0 e6 hyc hy
   repeat' (first
    |(with_reducible first|refine uK ?_|refine uX ?_|refine AW_seqk fun K hK=>?_|refine AW_block ?_)|((with_reducible first|refine rS hE ?_|refine RK_nilk ?_|refine RK_stepk fun K' hK'=>?_|refine AW_if fun X Y hX hY=>?_|refine AW_ret ?_|refine AW_skip ?_|refine AW_exit ?_);simp [*])|with_reducible refine rL hE ?_|with_reducible refine And.intro ?_ ?_|omega|(refine imp1 fun h=>?_))
   exact ⟨j + 1,by omega,by omega,by simp [hv2,hM2]⟩
  ·have hie : j = m:=by omega
   subst hie
   have hj0 : ¬ j = 0:=by omega
   repeat' (first
    |(with_reducible first|refine uK ?_|refine uX ?_|refine AW_seqk fun K hK=>?_|refine AW_block ?_)|((with_reducible first|refine rS hE ?_|refine RK_nilk ?_|refine RK_stepk fun K' hK'=>?_|refine AW_if fun X Y hX hY=>?_|refine AW_ret ?_|refine AW_skip ?_|refine AW_exit ?_);simp [*,encN])|with_reducible refine rL hE ?_|with_reducible refine And.intro ?_ ?_|omega|(refine imp1 fun h=>?_))
   all_goals simp [encN,hj0,hpa])
 rw [hAn.out]
 clear hc hFs hFb hCs hA0 hAs hAn ih
 refine AW_freeze 12 (cb:=.box 23 (encX n.b)) (t:=⟨[(12,.ep (encX n.b)),(9,.ep (encN n)),(7,iA (C m)),(6,.own 145 7 0 (FF m).length)],[(145,.arr 51 7 ((FF m).map encE))]⟩) (by simp) (by simp) (by simp) ?_
 refine AW_freeze 145 (cb:=.arr 51 7 ((FF m).map encE)) (t:=⟨[(12,.ep (encX n.b)),(9,.ep (encN n)),(7,iA (C m)),(6,.sl 7 ((FF m).map encE))],[]⟩) (by simp) (by simp [List.take_of_length_le]) (by simp) ?_
 obtain ⟨Z,hZ⟩ : ∃ Z,(FF m).map encE = Z:=⟨_,rfl⟩
 rw [hZ]
 clear hZ
 refine AW_seqt ⟨[(8,bA true),(7,iA (C m)),(6,.sl 7 Z)],[]⟩ ?_ (by
  intro K hK
  have hB : encX n.b = .st [iA n.x0,iA n.x1,iA n.y0,iA n.y1,iA n.t0,iA n.t1]:=rfl
  have hNn : encN n = .st [iA n.x0,iA n.x1,iA n.y0,iA n.y1,iA n.t0,iA n.t1,.sl 1 (n.ch.map iA),.sl 7 (n.pa.map encE)]:=rfl
  rw [hB,hNn]
  clear hB hNn hpa
  refine AW_drawF (fun f=>⟨[(171,if f 0 then .sl 7 Z else .u),(172,if f 1 then iA (C m) else .u),(173,if f 2 then .st [iA n.x0,iA n.x1,iA n.y0,iA n.y1,iA n.t0,iA n.t1] else .u),(174,if f 3 then .ep (.st [iA n.x0,iA n.x1,iA n.y0,iA n.y1,iA n.t0,iA n.t1]) else .u),(175,if f 4 then .st [iA n.x0,iA n.x1,iA n.y0,iA n.y1,iA n.t0,iA n.t1] else .u),(176,if f 5 then bA true else .u),(8,if f 8 then bA true else .u),
   (12,.ep (.st [iA n.x0,iA n.x1,iA n.y0,iA n.y1,iA n.t0,iA n.t1])),(9,.ep (.st [iA n.x0,iA n.x1,iA n.y0,iA n.y1,iA n.t0,iA n.t1,.sl 1 (n.ch.map iA),.sl 7 (n.pa.map encE)])),(7,iA (C m)),(6,.sl 7 Z)],[]⟩) mixed (by rw [hE];decide) (by decide +kernel) (by decide +kernel) (by simp) ?_ ?_
  ·intro f i o hi hdep _ _ K2 hK2
   clear hK
   iterate 9 (rcases i with _|i;rotate_left)
   ·simp at hi
   all_goals (simp only [List.getElem?_cons_succ,List.getElem?_cons_zero,Option.some.injEq] at hi;subst hi)
   all_goals simp [Region.binds] at hdep
   all_goals (simp [*];(repeat' (first|with_reducible refine And.intro ?_ ?_|omega));refine hK2.h _ ?_;simp [*])
  ·intro f hf
   have h3:=hf 8 (by simp)
   refine hK.h _ ?_
   simp [h3])
 repeat' (first
  |(with_reducible first|refine uK ?_|refine uX ?_|refine AW_seqk fun K hK=>?_|refine AW_block ?_)|((with_reducible first|refine rS hE ?_|refine RK_nilk ?_|refine RK_stepk fun K' hK'=>?_|refine AW_if fun X Y hX hY=>?_|refine AW_ret ?_|refine AW_skip ?_|refine AW_exit ?_);simp [*])|with_reducible refine rL hE ?_|with_reducible refine And.intro ?_ ?_|omega|(refine imp1 fun h=>?_))
 all_goals simp
theorem flat_len_le {α β : Type} (f : α → List β) : ∀ (l : List α) (j : Nat),((l.take j).flatMap f).length ≤ (l.flatMap f).length
 |[],j=>by simp
 |x :: l,0=>by simp
 |x :: l,j + 1=>by
  have:=flat_len_le f l j
  simp only [List.take_succ_cons,List.flatMap_cons,List.length_append]
  omega
theorem flat_mem_le {α β : Type} (f : α → List β) {l : List α} {x : α} (h : x ∈ l) : (f x).length ≤ (l.flatMap f).length:=by
 obtain ⟨a,b,rfl⟩:=List.append_of_mem h
 simp only [List.flatMap_append,List.flatMap_cons,List.length_append]
 omega
theorem s_tree (nd : List Nd) (hl : nd.length ≤ 1000000) : ∀ (d i : Nat),Good nd d i → d ≤ 20 → (idxD nd d i).length ≤ nd.length → (partsD nd d i).length ≤ 1000000 → PSpec Try.prog 32 [.sl 8 (nd.map encN),iA i,iA d] (treeR nd d i)
 |0,i,h,_,_,_=>h.elim
 |1,i,h,_,_,_=>s_tree1 nd i h hl
 |d + 2,i,h,hd,hx,hp=>by
  have hi:=h.1
  have hn : nodeAt nd i = nd[i]:=by unfold nodeAt;rw [List.getD_eq_getElem?_getD,List.getElem?_eq_getElem hi];rfl
  rcases h.2 with ⟨h0,_⟩|⟨_,h1,h2,h3,h4,h5⟩
  ·omega
  have hidx : (idxD nd (d + 2) i).length = 1 + ((nodeAt nd i).ch.flatMap fun c=>idxD nd (d + 1) c.toNat).length:=by simp [idxD];omega
  have hpts : partsD nd (d + 2) i = (nodeAt nd i).ch.flatMap fun c=>partsD nd (d + 1) c.toNat:=by simp [partsD,h1]
  rw [hpts] at hp
  have hget : ∀ j,j < (nodeAt nd i).ch.length → ∃ h : j < (nodeAt nd i).ch.length,(nodeAt nd i).ch.getD j 0 = (nodeAt nd i).ch[j]:=fun j h=>⟨h,by simp [List.getD_eq_getElem?_getD,List.getElem?_eq_getElem h]⟩
  have hmem : ∀ j,j < (nodeAt nd i).ch.length → (nodeAt nd i).ch.getD j 0 ∈ (nodeAt nd i).ch:=fun j h=>by
   obtain ⟨h',e⟩:=hget j h
   rw [e]
   exact List.getElem_mem _
  have htake : ∀ j,j < (nodeAt nd i).ch.length → (nodeAt nd i).ch.take (j + 1) = (nodeAt nd i).ch.take j ++ [(nodeAt nd i).ch.getD j 0]:=fun j h=>by
   obtain ⟨h',e⟩:=hget j h
   rw [e,List.take_succ_eq_append_getElem h]
  have hw:=s_treeW nd (nodeAt nd i) i (d + 1) (nodeAt nd i).ch.length (fun j=>((nodeAt nd i).ch.getD j 0).toNat) (fun j=>partsD nd (d + 1) ((nodeAt nd i).ch.getD j 0).toNat) (fun j=>(idxD nd (d + 1) ((nodeAt nd i).ch.getD j 0).toNat).length)
   (fun j=>((nodeAt nd i).ch.take j).flatMap fun c=>partsD nd (d + 1) c.toNat) (fun j=>1 + (((nodeAt nd i).ch.take j).flatMap fun c=>idxD nd (d + 1) c.toNat).length)
   (fun j=>((nodeAt nd i).ch.take j).foldl (fun b c=>arX b (nodeAt nd c.toNat).b) (nodeAt nd ((nodeAt nd i).ch.headD 0).toNat).b)
   (nodeAt_get hi) (by omega) (by omega) hl (List.length_pos_iff.2 h2) h3 rfl h1
   (fun j hj=>by
     obtain ⟨h6,h7⟩:=h5 _ (hmem j hj)
     obtain ⟨h',e⟩:=hget j hj
     refine ⟨?_,by omega,h7.1⟩
     rw [List.getElem?_eq_getElem h',← e]
     congr 1
     omega)
   (by simp) (fun j hj=>by simp only [htake j hj,List.flatMap_append,List.flatMap_cons,List.flatMap_nil,List.append_nil])
   (fun j hj=>by
     have:=flat_len_le (fun c : Int=>partsD nd (d + 1) c.toNat) (nodeAt nd i).ch j
     omega)
   (by simp)
   (fun j hj=>by
     have h8:=flat_len_le (fun c : Int=>idxD nd (d + 1) c.toNat) (nodeAt nd i).ch (j + 1)
     refine ⟨?_,by omega⟩
     simp only [htake j hj,List.flatMap_append,List.flatMap_cons,List.flatMap_nil,List.append_nil,List.length_append]
     omega)
   (fun y hy=>by
     have e : (nodeAt nd i).ch.headD 0 = (nodeAt nd i).ch.getD 0 0:=by cases (nodeAt nd i).ch <;> rfl
     simp only [List.take_zero,List.foldl_nil,e]
     unfold nodeAt at hy ⊢
     rw [List.getD_eq_getElem?_getD (l:=nd),hy]
     rfl)
   (fun j y hj hy=>by
     simp only [htake j hj,List.foldl_append,List.foldl_cons,List.foldl_nil]
     have e : nodeAt nd ((nodeAt nd i).ch.getD j 0).toNat = y:=by
      unfold nodeAt at hy ⊢
      rw [List.getD_eq_getElem?_getD (l:=nd),hy]
      rfl
     rw [e])
   (by
     rw [List.take_length]
     exact h4.symm)
   (fun j hj=>by
     obtain ⟨h6,h7⟩:=h5 _ (hmem j hj)
     have h8:=flat_mem_le (fun c : Int=>idxD nd (d + 1) c.toNat) (hmem j hj)
     have h9:=flat_mem_le (fun c : Int=>partsD nd (d + 1) c.toNat) (hmem j hj)
     exact s_tree nd hl (d + 1) _ h7 (by omega) (by omega) (by omega))
  simp only [List.take_length] at hw
  simp only [treeR,hpts,hidx]
  exact hw
end Go.Proofs.Ytlkijcflfnnbaaa
end
section
namespace Go.Proofs.Ytlkijcflfnnbaaa
open Go.Am
abbrev ksE : List SK:=[SK.i,SK.i,SK.i,SK.i,SK.i,SK.i,SK.i]
def encQ (cs : List (En × Int)) : List (AV × AV):=cs.map fun p=>(encE p.1,iA p.2)
def fndC (k : En) : List (En × Int) → Option Int
 |[]=>none
 |(a,v) :: cs=>if k = a then some v else fndC k cs
def posC (k : En) : List (En × Int) → Nat
 |[]=>0
 |(a,_) :: cs=>if k = a then 0 else posC k cs + 1
def updC (k : En) (v : Int) : List (En × Int) → List (En × Int)
 |[]=>[(k,v)]
 |(a,w) :: cs=>if k = a then (k,v) :: cs else (a,w) :: updC k v cs
theorem encQ_cons (p : En × Int) (cs : List (En × Int)) : encQ (p :: cs) = (encE p.1,iA p.2) :: encQ cs:=rfl
@[simp] theorem encQ_nil : encQ [] = []:=rfl
theorem eqE (a b : En) : eqA ksE (encE a).cells (encE b).cells = some (decide (a = b)):=by
 obtain ⟨a1,a2,a3,a4,a5,a6,a7⟩:=a
 obtain ⟨b1,b2,b3,b4,b5,b6,b7⟩:=b
 simp [ksE]
 try rw [Bool.eq_iff_iff]
 try simp
 try constructor <;> (intro h;simp [h])
@[simp] theorem keysOK_Q (a : En) : ∀ cs : List (En × Int),keysOK ksE true (encE a) (encQ cs)
  |[]=>trivial
  |(b,v) :: cs=>by
   rw [encQ_cons]
   simp only [keysOK]
   exact ⟨⟨by rw [eqE];rfl,rfl,rfl⟩,keysOK_Q a cs⟩
@[simp] theorem findA_Q (a : En) : ∀ cs : List (En × Int),findA ksE (encE a) (encQ cs) = (fndC a cs).map iA
  |[]=>rfl
  |(b,v) :: cs=>by
   rw [encQ_cons]
   simp only [findA,fndC,eqE,Option.some.injEq,decide_eq_true_eq]
   split
   ·rfl
   ·exact findA_Q a cs
@[simp] theorem posA_Q (a : En) : ∀ cs : List (En × Int),posA ksE (encE a) (encQ cs) = posC a cs
  |[]=>rfl
  |(b,v) :: cs=>by
   rw [encQ_cons]
   simp only [posA,posC,eqE,Option.some.injEq,decide_eq_true_eq]
   split
   ·rfl
   ·rw [posA_Q a cs]
@[simp] theorem updA_Q (a : En) (x : Int) : ∀ cs : List (En × Int),updA ksE (encE a) (iA x) (encQ cs) = encQ (updC a x cs)
  |[]=>rfl
  |(b,v) :: cs=>by
   rw [encQ_cons]
   simp only [updA,updC,eqE,Option.some.injEq,decide_eq_true_eq]
   split
   ·rfl
   ·rw [updA_Q a x cs];rfl
@[simp] theorem mentP_Q (d : Nat) : ∀ cs : List (En × Int),mentP d (encQ cs) = false
  |[]=>rfl
  |p :: cs=>by rw [encQ_cons];simp [mentP_Q d cs]
theorem posC_lt (a : En) (v : Int) : ∀ cs,posC a cs < (updC a v cs).length
 |[]=>by simp [posC,updC]
 |(b,w) :: cs=>by
  have:=posC_lt a v cs
  simp only [posC,updC]
  split
  ·simp
  ·simp;omega
theorem set_Q (a : En) (v x : Int) : ∀ cs,(encQ (updC a v cs)).set (posC a cs) (((encQ (updC a v cs)).getD (posC a cs) default).1,iA x) = encQ (updC a x cs)
 |[]=>by simp [posC,updC,encQ]
 |(b,w) :: cs=>by
  have:=set_Q a v x cs
  simp only [posC,updC]
  split
  ·rfl
  ·rw [encQ_cons,encQ_cons,List.set_cons_succ,List.getD_cons_succ,this]
theorem fnd_upd (k x : En) (v : Int) : ∀ cs,fndC x (updC k v cs) = if x = k then some v else fndC x cs
 |[]=>by simp [updC,fndC]
 |(b,w) :: cs=>by
  have ih:=fnd_upd k x v cs
  simp only [updC]
  by_cases h : k = b
  ·subst h
   simp only [if_pos,fndC]
   by_cases h2 : x = k <;> simp [h2]
  ·rw [if_neg h]
   simp only [fndC,ih]
   by_cases h2 : x = b
   ·subst h2
    simp [Ne.symm h]
   ·simp [h2]
def cntC (cs : List (En × Int)) (x : En) : Int:=(fndC x cs).getD 0
def bmp (k : En) (e : Int) (cs : List (En × Int)) : List (En × Int):=updC k (cntC cs k + e) cs
theorem cnt_bmp (k x : En) (e : Int) (cs : List (En × Int)) : cntC (bmp k e cs) x = if x = k then cntC cs x + e else cntC cs x:=by
 unfold cntC bmp
 rw [fnd_upd]
 split
 ·rename_i h;subst h;rfl
 ·rfl
def cnts (W F : List En) : Nat → List (En × Int)
 |0=>[]
 |i + 1=>bmp (F.getD i default) (-1) (bmp (W.getD i default) 1 (cnts W F i))
theorem cnts_eq (W F : List En) (x : En) : ∀ i,i ≤ W.length → i ≤ F.length → cntC (cnts W F i) x = ((W.take i).count x : Int) - ((F.take i).count x : Int)
 |0,_,_=>by simp [cnts,cntC,fndC]
 |i + 1,h1,h2=>by
  have ih:=cnts_eq W F x i (by omega) (by omega)
  have e1 : W.getD i default = W[i]:=by simp [List.getD_eq_getElem?_getD,List.getElem?_eq_getElem (show i < W.length by omega)]
  have e2 : F.getD i default = F[i]:=by simp [List.getD_eq_getElem?_getD,List.getElem?_eq_getElem (show i < F.length by omega)]
  have c1 : ∀ y : En,([y] : List En).count x = if x = y then 1 else 0:=fun y=>by
   by_cases h : x = y
   ·simp [h]
   ·rw [if_neg h,List.count_eq_zero]
    simpa using h
  rw [cnts,cnt_bmp,cnt_bmp,e1,e2,List.take_succ_eq_append_getElem (show i < W.length by omega),List.take_succ_eq_append_getElem (show i < F.length by omega),List.count_append,List.count_append,c1,c1,ih]
  split <;> split <;> omega
theorem cnts_perm {W F : List En} (h : F.Perm W) (x : En) : cntC (cnts W F W.length) x = 0:=by
 have hl:=h.length_eq
 rw [cnts_eq W F x W.length (Nat.le_refl _) (by omega),List.take_length,List.take_of_length_le (by omega),h.count_eq]
 omega
end Go.Proofs.Ytlkijcflfnnbaaa
end
