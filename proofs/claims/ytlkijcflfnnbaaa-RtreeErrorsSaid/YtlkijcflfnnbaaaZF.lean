/- RtreeVisits: how many nodes a search looks at -/
import Derived.Test.YtlkijcflfnnbaaaZE
import Derived.Test.YtlkijcflfnnbaaaZ7
set_option maxRecDepth 100000
set_option linter.unusedSimpArgs false
set_option linter.unusedVariables false
namespace Go.Proofs.Ytlkijcflfnnbaaa
open Go.Am
def chM (nd : List Nd) (q : Bx) (i : Nat) : Nat:=if meetX (nodeAt nd i).b q then (nodeAt nd i).ch.length else 0
theorem sum_zero {α : Type} (l : List α) (f : α → Nat) (h : ∀ x ∈ l,f x = 0) : (l.map f).sum = 0:=by
 induction l with
 |nil=>rfl
 |cons x l ih =>
  rw [List.map_cons,List.sum_cons,h x (by simp),ih fun y hy=>h y (by simp [hy])]
theorem not_below {nd : List Nd} {q : Bx} : ∀ (d i : Nat),Good nd d i → meetX (nodeAt nd i).b q = false → ∀ j ∈ idxD nd d i,meetX (nodeAt nd j).b q = false
 |0,_,h,_,_,_=>h.elim
 |d + 1,i,h,hm,j,hj=>by
  rcases List.mem_cons.1 hj with rfl|hj
  ·exact hm
  ·obtain ⟨c,hc,hj⟩:=List.mem_flatMap.1 hj
   refine not_below d c.toNat (h.kids c hc).2 ?_ j hj
   rw [Bool.eq_false_iff] at hm ⊢
   exact fun hh=>hm ((h.inkid c hc).meet hh)
theorem vis_len {nd : List Nd} {q : Bx} : ∀ (d i : Nat),Good nd d i → (visD nd q d i).length = 1 + ((idxD nd d i).map (chM nd q)).sum
 |0,_,h=>h.elim
 |d + 1,i,h=>by
  have hk:=h.kids
  simp only [visD,idxD,List.length_cons,List.map_cons,List.sum_cons]
  by_cases hm : meetX (nodeAt nd i).b q = true
  ·have key : ∀ cs : List Int,(∀ c ∈ cs,Good nd d c.toNat) → (cs.flatMap fun c=>visD nd q d c.toNat).length = cs.length + ((cs.flatMap fun c=>idxD nd d c.toNat).map (chM nd q)).sum:=by
    intro cs
    induction cs with
    |nil=>intro _;rfl
    |cons c cs ih =>
     intro hc
     have h1:=vis_len (q:=q) d c.toNat (hc c (by simp))
     have h2:=ih fun x hx=>hc x (by simp [hx])
     rw [List.flatMap_cons,List.flatMap_cons,List.length_append,List.map_append,List.sum_append,List.length_cons]
     omega
   have hrev : ∀ cs : List Int,(cs.reverse.flatMap fun c=>visD nd q d c.toNat).length = (cs.flatMap fun c=>visD nd q d c.toNat).length:=fun cs=>by
    rw [List.length_flatMap,List.length_flatMap,List.map_reverse,List.sum_reverse]
   have h1:=key (nodeAt nd i).ch fun c hc=>(hk c hc).2
   simp only [hm,if_true,chM,hrev,h1]
   omega
  ·have hm' : meetX (nodeAt nd i).b q = false:=by simpa using hm
   have h0 : (((nodeAt nd i).ch.flatMap fun c=>idxD nd d c.toNat).map (chM nd q)).sum = 0:=sum_zero _ _ fun j hj=>by
    have:=not_below (d + 1) i h hm' j (List.mem_cons_of_mem _ hj)
    simp [chM,this]
   simp only [chM] at h0 ⊢
   simp [hm',h0]
def cntN (nd : List Nd) (q : Bx) (k : Nat) : Nat:=(if nd = [] then 0 else 1) + ((List.range k).map (chM nd q)).sum
theorem cntN_succ (nd : List Nd) (q : Bx) (k : Nat) : cntN nd q (k + 1) = cntN nd q k + chM nd q k:=by
 simp [cntN,List.range_succ]
 omega
theorem vis_cnt {L : List En} {nd : List Nd} {dep : Nat} {q : Bx} (h : TF L nd dep) (hne : nd ≠ []) : (visD nd q dep 0).length = cntN nd q nd.length:=by
 rw [vis_len dep 0 h.good,cntN,if_neg hne]
 have:=(h.idx.map (chM nd q)).sum_nat
 omega
theorem s_visited_of (trv : AV) (hti : trv.idf = true) (hto : trv.one = true) (b : Bx) (V : List Nd) (hlen : V.length < 1000000000) (hI : ISpec Try.prog 49 [.ep trv,.ep (encX b)] (okV' V) (fun xs=>xs = V.map (fun n=>[encN n])))
 (hL : PSpec Try.prog 39 [trv,encX b] (.fn (.func 49) [] [.ep trv,.ep (encX b)])) : PSpec Try.prog 33 [trv,encX b] (iA V.length):=by
 replace hI:=Hld.mk hI
 replace hL:=Hld.mk hL
 have htm : ∀ d,trv.ment d = false:=fun d=>idf_ment d trv hti
 have htr : ∀ σ,trv.ren σ = trv:=fun σ=>by have:=idfL_ren σ [trv] (by simp [idfL,hti]);simpa [renL] using this
 have htc : trv.cells = [trv]:=AV.one_cells hto
 have hts : trv.isSt = false:=by cases trv <;> first|rfl|(simp [AV.one] at hto)
 have htst : trv.sto = true:=by cases trv <;> first|rfl|(simp [AV.one] at hto)
 refine PSpec_ofR Try.func33 rfl rfl (Nat.le_of_ble_eq_true rfl) (Nat.le_of_ble_eq_true rfl) ?_
 intro E hE hRO
 replace hRO:=Hld.mk hRO
 refine AW_seqt ⟨[(3,.loc 3 0),(0,trv)],[(3,.box 23 (encX b))]⟩ ?_ (by
  intro K hK
  repeat' (first
   |(with_reducible first|refine uK ?_|refine uX ?_|refine AW_seqk fun K hK=>?_|refine AW_block ?_)|((with_reducible first|refine rS hE ?_|refine RK_nilk ?_|refine RK_stepk fun K' hK'=>?_|refine AW_if fun X Y hX hY=>?_|refine AW_ret ?_|refine AW_skip ?_|refine AW_exit ?_);simp [*])|with_reducible refine rL hE ?_|with_reducible refine And.intro ?_ ?_|omega|(refine imp1 fun h=>?_))
  all_goals simp)
 refine AW_freeze 3 (cb:=.box 23 (encX b)) (t:=⟨[(3,.ep (encX b)),(0,trv)],[]⟩) (by simp) (by simp [htm]) (by simp) ?_
 refine AW_seqt ⟨[(5,.loc 5 0),(3,.ep (encX b)),(0,trv)],[(5,.box 3 (iA 0))]⟩ ?_ (by
  intro K hK
  repeat' (first
   |(with_reducible first|refine uK ?_|refine uX ?_|refine AW_seqk fun K hK=>?_|refine AW_block ?_)|((with_reducible first|refine rS hE ?_|refine RK_nilk ?_|refine RK_stepk fun K' hK'=>?_|refine AW_if fun X Y hX hY=>?_|refine AW_ret ?_|refine AW_skip ?_|refine AW_exit ?_);simp [*])|with_reducible refine rL hE ?_|with_reducible refine And.intro ?_ ?_|omega|(refine imp1 fun h=>?_))
  all_goals simp)
 refine AW_seqt ⟨[(5,.loc 5 0)],[(5,.box 3 (iA V.length))]⟩ ?_ (by
  intro K hK
  refine AW_seqt ⟨[(8,.fn (.func 49) [] [.ep trv,.ep (encX b)]),(5,.loc 5 0)],[(5,.box 3 (iA 0))]⟩ ?_ (by
   intro K hK
   repeat' (first
    |(with_reducible first|refine uK ?_|refine uX ?_|refine AW_seqk fun K hK=>?_|refine AW_block ?_)|((with_reducible first|refine rS hE ?_|refine RK_nilk ?_|refine RK_stepk fun K' hK'=>?_|refine AW_if fun X Y hX hY=>?_|refine AW_ret ?_|refine AW_skip ?_|refine AW_exit ?_);simp [*])|with_reducible refine rL hE ?_|(refine acall_same (hL.out) ?_ ?_ ?_;(iterate 2 (focus (simp [*] <;> fail)));simp [*])|(refine acall_view (hL.out) ?_ ?_ ?_;(iterate 2 (focus (simp [*] <;> fail)));simp [*])|with_reducible refine And.intro ?_ ?_|omega|(refine imp1 fun h=>?_))
   all_goals simp)
  refine AW_block ?_
  refine AW_rangeFunc (kp 5) [(5,.loc 1500005 0)] (fun c : Nat=>[(1500005,.box 3 (iA c))]) (fun pre c=>c = pre.length ∧ c ≤ V.length) 0 ⟨rfl,Nat.zero_le _⟩ hRO.out hI.out (by simp) (by simp [idfL,AV.idf,hti]) (fun pre x h=>by obtain ⟨_,_,_,rfl⟩:=h;simp [idfL]) (by rw [hE];decide) (kp_kp 5) (kp_lt (by omega)) (kp_mid (by omega))
   (slots_of (by simp [AV.ren])) (boxes_of (by simp [Ct.ren,AV.ren])) (by intro d h;simp [mentS,AV.ment] at h;omega) (fun xs c _ _ d h1 h2=>by have:=kp_ne h1 h2;subst this;simp [mentB,Ct.ment,AV.ment,lk]) ?_ ?_
  ·intro E' hE' pre x c hok hc
   obtain ⟨hc,hcV⟩:=hc
   obtain ⟨i,hi,hpre,rfl⟩:=hok
   have hpl : pre.length = i:=by rw [hpre];simp;omega
   have hE0:=hE
   clear hE
   have hE:=hE'.n.trans hE0
   have hi' : c < V.length:=by omega
   clear hpre
   simp only [pslots]
   repeat' (first
    |(with_reducible first|refine uK ?_|refine uX ?_|refine AW_seqk fun K hK=>?_|refine AW_block ?_)|((with_reducible first|refine rS hE ?_|refine RK_nilk ?_|refine RK_stepk fun K' hK'=>?_|refine AW_if fun X Y hX hY=>?_|refine AW_ret ?_|refine AW_skip ?_|refine AW_exit ?_);simp [*])|with_reducible refine rL hE ?_|with_reducible refine And.intro ?_ ?_|omega|(refine imp1 fun h=>?_))
   intro E2 hE2
   clear hE
   have hE:=hE2.n.trans hE0
   refine AW_block ?_
   repeat' (first
    |(with_reducible first|refine uK ?_|refine uX ?_|refine AW_seqk fun K hK=>?_|refine AW_block ?_)|((with_reducible first|refine rS hE ?_|refine RK_nilk ?_|refine RK_stepk fun K' hK'=>?_|refine AW_if fun X Y hX hY=>?_|refine AW_ret ?_|refine AW_skip ?_|refine AW_exit ?_);simp [*])|with_reducible refine rL hE ?_|with_reducible refine And.intro ?_ ?_|omega|(refine imp1 fun h=>?_))
   exact ⟨i + 1,⟨rfl,by omega⟩,by omega⟩
  ·intro xs c hxs hc
   have hcV : c = V.length:=by rw [hc.1,hxs];simp
   clear hc hxs
   subst hcV
   simp [Ct.ren,AV.ren]
   repeat' (first
    |(with_reducible first|refine uK ?_|refine uX ?_|refine AW_seqk fun K hK=>?_|refine AW_block ?_)|((with_reducible first|refine rS hE ?_|refine RK_nilk ?_|refine RK_stepk fun K' hK'=>?_|refine AW_if fun X Y hX hY=>?_|refine AW_ret ?_|refine AW_skip ?_|refine AW_exit ?_);simp [*])|with_reducible refine rL hE ?_|with_reducible refine And.intro ?_ ?_|omega|(refine imp1 fun h=>?_))
   all_goals simp)
 repeat' (first
  |(with_reducible first|refine uK ?_|refine uX ?_|refine AW_seqk fun K hK=>?_|refine AW_block ?_)|((with_reducible first|refine rS hE ?_|refine RK_nilk ?_|refine RK_stepk fun K' hK'=>?_|refine AW_if fun X Y hX hY=>?_|refine AW_ret ?_|refine AW_skip ?_|refine AW_exit ?_);simp [*])|with_reducible refine rL hE ?_|with_reducible refine And.intro ?_ ?_|omega|(refine imp1 fun h=>?_))
theorem TreeB.visited {l : List En} {ss : List Int} {tr : Tr} (h : TreeB l ss tr) (hp : (partsL l ss).length ≤ 262144) (q : Bx) : PSpec Try.prog 33 [.ep (encT tr),encX q] (iA (if chkX q = 0 then cntN tr.nd q tr.nd.length else 0 : Nat)):=by
 have hnone : tr.nd = [] ∨ chkX q ≠ 0 → PSpec Try.prog 33 [.ep (encT tr),encX q] (iA (0 : Nat)):=fun h0 =>
  s_visited_of (.ep (encT tr)) rfl rfl q [] (by simp) (ISpec.mono (i_looked1 tr q h0) (fun _ _ h=>h.elim) (fun xs h=>by rw [h];rfl)) (s_looked _ q)
 by_cases hc : chkX q = 0
 ·rw [if_pos hc]
  rcases h.tree.facts (by omega) with ⟨_,h2,_⟩|⟨_,h2,hf⟩
  ·have:=hnone (.inl h2)
   rw [h2]
   exact this
  ·have hl : (visD tr.nd q tr.depth.toNat 0).length < 1000000000:=by
    have h3:=idx_vis (nd:=tr.nd) (q:=q) tr.depth.toNat 0
    have h4:=hf.idx.length_eq
    have h5:=hf.size
    simp at h4
    omega
   have:=s_visited_of (.ep (encT tr)) rfl rfl q (visD tr.nd q tr.depth.toNat 0) hl (i_looked tr q _ (vis_root hf.good) h2 hc hl) (s_looked _ q)
   rwa [vis_cnt hf h2] at this
 ·rw [if_neg hc]
  exact hnone (.inr hc)
theorem TreeB.small {l : List En} {ss : List Int} {tr : Tr} (h : TreeB l ss tr) (hp : (partsL l ss).length ≤ 262144) : tr.nd.length ≤ 2 * (partsL l ss).length ∧ ∀ n ∈ tr.nd,n.ch.length ≤ 8 ∧ n.pa.length ≤ 8:=by
 rcases h.tree.facts (by omega) with ⟨_,h2,_⟩|⟨_,h2,hf⟩
 ·rw [h2]
  exact ⟨by simp,fun n hn=>by cases hn⟩
 ·exact ⟨hf.size,hf.small⟩
theorem cntN_le {nd : List Nd} (h : ∀ n ∈ nd,n.ch.length ≤ 8) (q : Bx) : ∀ k,k ≤ nd.length → cntN nd q k ≤ 1 + 8 * k
 |0,_=>by simp [cntN];split <;> omega
 |k + 1,hk=>by
  rw [cntN_succ]
  have h1:=cntN_le h q k (by omega)
  have h2 : chM nd q k ≤ 8:=by
   unfold chM
   split
   ·exact h _ (by unfold nodeAt;rw [List.getD_eq_getElem?_getD,List.getElem?_eq_getElem (by omega)];exact List.getElem_mem _)
   ·omega
  omega
end Go.Proofs.Ytlkijcflfnnbaaa
