/- Layer 38: load, a node is appended -/
import Derived.Test.YtlkijcflfnnbaaaZ8
set_option maxRecDepth 1000000
set_option linter.unusedSimpArgs false
set_option linter.unusedVariables false
section
namespace Go.Proofs.Ytlkijcflfnnbaaa
open Go.Am
def nav : List Nat → Code → Code
 |[],c=>c
 |0 :: p,.seq a _=>nav p a
 |_ :: p,.seq _ b=>nav p b
 |_ :: p,.block _ a=>nav p a
 |_ :: p,.loop a=>nav p a
 |0 :: p,.cond _ a _=>nav p a
 |_ :: p,.cond _ _ b=>nav p b
 |0 :: p,.rangeFunc _ _ a _=>nav p a
 |_ :: p,.rangeFunc _ _ _ b=>nav p b
 |_,c=>c
noncomputable def c39 : Code:=nav [1,1,1,1,1,1,1,1,1,0,1,0,1,1,0,0,1,1,0,0,1,1] (Try.f38.body.getD .skip)
set_option maxHeartbeats 8000000 in
theorem reg39 {E : Env} (hE : E.n = Try.f38.ntmps) {en : List En} {p dep : Int} {f j : Nat} {l T : List Mx} {D : GL} {x : Mx} {Q : AExit → AState → Prop} (hD : GOk D) (hT : T.length < 2000002)
 (h : ∀ s' : AState,s'.le (stN en p dep f l j (T ++ [x]) D) → Q .normal s') : AW Try.prog E c39 (stX en p dep f l j T D x) Q:=by
 have hTt : (T.map encM).take T.length = T.map encM:=List.take_of_length_le (by simp)
 refine AW_drawHd ⟨[],[]⟩ mixed (by simp) fun E' hE'=>?_
 have hEn:=hE'.trans hE
 repeat' (first
  |(with_reducible first|refine useK (by assumption) ?_|refine useK3 (by assumption) ?_)|((with_reducible show DHd _ _ _ _ _ _ _);first|(refine DHd_done (by decide +kernel) ?_;try simp only [thenK,inBlk])|(refine dt hEn 0 fun K' hK'=>?_;simp [*];fail_if_success (with_reducible show False))|(refine dt hEn 1 fun K' hK'=>?_;simp [*];fail_if_success (with_reducible show False))|(refine dt hEn 2 fun K' hK'=>?_;simp [*];fail_if_success (with_reducible show False))|(refine dt hEn 3 fun K' hK'=>?_;simp [*];fail_if_success (with_reducible show False))|(refine dt hEn 4 fun K' hK'=>?_;simp [*];fail_if_success (with_reducible show False))|(refine dt hEn 5 fun K' hK'=>?_;simp [*];fail_if_success (with_reducible show False))|(refine dt hEn 6 fun K' hK'=>?_;simp [*];fail_if_success (with_reducible show False))|(refine dt hEn 7 fun K' hK'=>?_;simp [*];fail_if_success (with_reducible show False))|(refine dt hEn 8 fun K' hK'=>?_;simp [*];fail_if_success (with_reducible show False))|(refine dt hEn 9 fun K' hK'=>?_;simp [*];fail_if_success (with_reducible show False))|(refine dt hEn 10 fun K' hK'=>?_;simp [*];fail_if_success (with_reducible show False))|(refine dp hEn 0 fun K' hK'=>?_;simp [*];fail_if_success (with_reducible show False))|(refine dp hEn 1 fun K' hK'=>?_;simp [*];fail_if_success (with_reducible show False))|(refine dp hEn 2 fun K' hK'=>?_;simp [*];fail_if_success (with_reducible show False))|(refine dp hEn 3 fun K' hK'=>?_;simp [*];fail_if_success (with_reducible show False))|(refine dp hEn 4 fun K' hK'=>?_;simp [*];fail_if_success (with_reducible show False))|(refine dp hEn 5 fun K' hK'=>?_;simp [*];fail_if_success (with_reducible show False))|(refine dp hEn 6 fun K' hK'=>?_;simp [*];fail_if_success (with_reducible show False))|(refine dp hEn 7 fun K' hK'=>?_;simp [*];fail_if_success (with_reducible show False))|(refine dp hEn 8 fun K' hK'=>?_;simp [*];fail_if_success (with_reducible show False))|(refine dp hEn 9 fun K' hK'=>?_;simp [*];fail_if_success (with_reducible show False))|(refine dp hEn 10 fun K' hK'=>?_;simp [*];fail_if_success (with_reducible show False))|refine DHd_any rfl (by decide +kernel) ?_)|exact DHsome_nil|refine DHsome_no (by decide +kernel) ?_|(refine DHsome_yes (by exact rfl) rfl (by rw [hEn];decide) (fun K' hK'=>?_) ?_;simp [*];fail_if_success (with_reducible show False))|(refine DHsome_yesG (by exact rfl) rfl (by exact rfl) (by rw [hEn];decide) (fun K' hK'=>?_) ?_;simp [*];fail_if_success (with_reducible show False))|with_reducible refine And.intro ?_ ?_|omega|(with_reducible refine imp1 fun h=>?_))
 all_goals exact h _ (by simp [stN,hD,hTt])
end Go.Proofs.Ytlkijcflfnnbaaa
end
section
namespace Go.Proofs.Ytlkijcflfnnbaaa
open Go.Am
abbrev rowL (Ls : List (List Mx)) : List AV:=Ls.map fun l=>.sl 8 (l.map encM)
abbrev stE (en : List En) (p dep : Int) (T : List Mx) (D : GL) : AState :=
 ⟨[(2,.loc 2 0)],[(70,.arr 60 8 (T.map encM)),(2,.box 36 (.loc 1000001 0)),(1000001,.box 72 (tr2 en p dep T.length))] ++ gbox D⟩
def chS (f : Nat) (ch : List Int) (i : Nat) : List Int:=(ch.take i).map (· + (f : Int)) ++ ch.drop i
theorem chS_len (f : Nat) (ch : List Int) (i : Nat) : (chS f ch i).length = ch.length:=by simp [chS];omega
theorem chS_get (f : Nat) {ch : List Int} {i : Nat} (h : i < ch.length) : (chS f ch i)[i]? = some ch[i]:=by
 unfold chS
 rw [List.getElem?_append_right (by simp;omega),List.length_map,List.length_take,show i - min i ch.length = 0 by omega,List.getElem?_drop]
 simp [h]
theorem chS_succ (f : Nat) {ch : List Int} {i : Nat} (h : i < ch.length) : (chS f ch i).set i (ch[i] + (f : Int)) = chS f ch (i + 1):=by
 unfold chS
 rw [List.set_append_right _ _ (by simp;omega),List.length_map,List.length_take,show i - min i ch.length = 0 by omega,List.drop_eq_getElem_cons h,List.set_cons_zero,List.take_succ_eq_append_getElem h,List.map_append,List.append_assoc]
 rfl
theorem gboxMap (G : GL) : (gbox G).map (fun p=>(kpA p.1,p.2.ren kpA)) = gbox G:=by
 induction G with
 |nil=>rfl
 |cons q G ih =>
  simp only [gbox,List.map_cons] at ih ⊢
  rw [ih,kpA_hi _ (by omega)]
  rfl
@[simp] theorem kpA_70 : kpA 70 = 70:=by decide
theorem frB_skipA {i id : Nat} {c : Ct} {ss : List (Nat × AV)} {l : List (Nat × Ct)} (hi : i < 2000000) : ∀ {T : List (Nat × Ct)},(∀ p ∈ T,2000000 ≤ p.1) → (frB ⟨ss,(i,c) :: l⟩ id T ↔ frB ⟨ss,l⟩ id T)
 |[],_=>Iff.rfl
 |p :: T,h=>by
  have h1:=h p (by simp)
  have ih:=frB_skipA (i:=i) (id:=id) (c:=c) (ss:=ss) (l:=l) hi (T:=T) (fun q hq=>h q (by simp [hq]))
  have hbx : (AState.mk ss ((i,c) :: l)).box p.1 = (AState.mk ss l).box p.1:=by
   simp only [AState.box,lk]
   rw [if_neg (by omega)]
  simp only [frB,hbx,ih]
@[simp] theorem frB_gskip {i id : Nat} {c : Ct} {ss : List (Nat × AV)} {l : List (Nat × Ct)} {G : GL} (hi : i < 2000000) : frB ⟨ss,(i,c) :: l⟩ id (gbox G) ↔ frB ⟨ss,l⟩ id (gbox G) :=
  frB_skipA hi fun p hp=>by
   obtain ⟨q,_,rfl⟩:=List.mem_map.1 hp
   exact Nat.le_add_right _ _
@[simp] theorem frB_gself {id : Nat} {ss : List (Nat × AV)} {G : GL} (h : GOk G) (hi : id < 2000000) : frB ⟨ss,gbox G⟩ id (gbox G):=by
  have : ∀ T : GL,(∀ q ∈ T,q ∈ G) → frB ⟨ss,gbox G⟩ id (gbox T):=by
   intro T hT
   induction T with
   |nil=>trivial
   |cons q T ih =>
    simp only [gbox,List.map_cons]
    exact ⟨⟨by omega,lk_gbox_mem h.nodup (hT q (by simp)),rfl⟩,ih fun r hr=>hT r (by simp [hr])⟩
  exact this G fun q hq=>hq
set_option maxHeartbeats 4000000 in
theorem load_3 (en : List En) (p : Int) (E : Env) {c0 c1 c2 c3 r12 loop rest : Code} (hE : E.n = Try.f38.ntmps) (hRO : RoundOK E) (hb : Try.f38.body = some (.seq c0 (.seq c1 (.seq c2 (.seq c3 (.seq r12 (.seq loop rest)))))))
 (Ls : List (List Mx)) (G : GL) (LsN : List (List Nd)) (hp : Pins G Ls.flatten LsN.flatten) (hlens : Ls.map List.length = LsN.map List.length)
 (hbig : LsN.flatten.length < 1000000) (hLsl : LsN.length < 1000000) (hch : ∀ n ∈ LsN.flatten,∀ x ∈ n.ch,0 ≤ x ∧ x < 1000000) (hchl : ∀ n ∈ LsN.flatten,n.ch.length ≤ 8) (Q : AExit → AState → Prop)
 (hdone : ∀ (T : List Mx) (D : GL) (s' : AState),Pins D T (numN 0 LsN.reverse) → s'.le (stE en p Ls.length T D) → Q .normal s') :
 AW Try.prog E rest (stV en p Ls G) Q:=by
 have e1:=(Code.seq.inj (Option.some.inj hb)).2
 have e2:=(Code.seq.inj e1).2
 have e3:=(Code.seq.inj e2).2
 have e4:=(Code.seq.inj e3).2
 have e5:=(Code.seq.inj e4).2
 have e6:=(Code.seq.inj e5).2
 rw [← e6]
 clear e1 e2 e3 e4 e5 e6 hb
 replace hdone:=Hld.mk hdone
 replace hRO:=Hld.mk hRO
 have hG:=hp.ok
 have hLl : Ls.length = LsN.length:=by simpa using congrArg List.length hlens
 have hLl2 : Ls.length < 1000000:=by omega
 replace hLl:=Hld.mk hLl
 replace hch:=Hld.mk hch
 replace hchl:=Hld.mk hchl
 replace hbig:=Hld.mk hbig
 replace hp:=Hld.mk hp
 replace hlens:=Hld.mk hlens
 refine AW_seqt ⟨[(9,.own 90 1 0 Ls.length),(2,.loc 2 0)],[(90,.arr 53 1 (rowL Ls)),(2,.box 36 (.loc 1000001 0)),(1000001,.box 72 (tr1 en p Ls.length))] ++ gbox G⟩ ?_ (by
  intro K hK
  repeat' (first
   |(with_reducible first|refine uK ?_|refine uX ?_|refine AW_seqk fun K hK=>?_|refine AW_block ?_)|((with_reducible first|refine rS hE ?_|refine RK_nilk ?_|refine RK_stepk fun K' hK'=>?_|refine AW_if fun X Y hX hY=>?_|refine AW_ret ?_|refine AW_skip ?_|refine AW_exit ?_);simp [*])|with_reducible refine rL hE ?_|with_reducible refine And.intro ?_ ?_|omega|(refine imp1 fun h=>?_))
  all_goals simp [hG])
 refine AW_seqt ⟨[(13,.loc 13 0),(9,.own 90 1 0 Ls.length),(2,.loc 2 0)],[(13,.box 3 (iA 0)),(90,.arr 53 1 (rowL Ls)),(2,.box 36 (.loc 1000001 0)),(1000001,.box 72 (tr1 en p Ls.length))] ++ gbox G⟩ ?_ (by
  intro K hK
  repeat' (first
   |(with_reducible first|refine uK ?_|refine uX ?_|refine AW_seqk fun K hK=>?_|refine AW_block ?_)|((with_reducible first|refine rS hE ?_|refine RK_nilk ?_|refine RK_stepk fun K' hK'=>?_|refine AW_if fun X Y hX hY=>?_|refine AW_ret ?_|refine AW_skip ?_|refine AW_exit ?_);simp [*])|with_reducible refine rL hE ?_|with_reducible refine And.intro ?_ ?_|omega|(refine imp1 fun h=>?_))
  all_goals simp [hG])
 have hRi : idfL (rowL Ls) = true:=by simp [rowL]
 have hRl : (rowL Ls).length = Ls.length:=by simp [rowL]
 refine AW_freeze 90 (cb:=.arr 53 1 (rowL Ls)) (t:=⟨[(13,.loc 13 0),(9,.sl 1 (rowL Ls)),(2,.loc 2 0)],[(13,.box 3 (iA 0)),(2,.box 36 (.loc 1000001 0)),(1000001,.box 72 (tr1 en p Ls.length))] ++ gbox G⟩) (by simp) (by
  simp [List.take_of_length_le]) ?_ ?_
 ·simp [hG]
 obtain ⟨W,hW⟩ : ∃ W,W = rowL Ls:=⟨_,rfl⟩
 have hWl : W.length = Ls.length:=by rw [hW];exact hRl
 have hW1 : ∀ x ∈ W,x.one = true:=by rw [hW];simp [rowL,AV.one]
 rw [← hW] at hRi ⊢
 have hWr : ∀ σ,renL σ W = W:=fun σ=>idfL_ren σ W hRi
 have hWm : ∀ d,mentL d W = false:=fun d=>idfL_ment d W hRi
 replace hW:=Hld.mk hW
 clear hRl
 have hbw:=Hld.mk (s_backward W hRi)
 refine AW_seqt ⟨[(111,.fn (.func 62) [] [.ep (.sl 1 W)]),(13,.loc 13 0),(2,.loc 2 0)],[(13,.box 3 (iA 0)),(2,.box 36 (.loc 1000001 0)),(1000001,.box 72 (tr1 en p Ls.length))] ++ gbox G⟩ ?_ (by
  intro K hK
  repeat' (first
   |(with_reducible first|refine uK ?_|refine uX ?_|refine AW_seqk fun K hK=>?_|refine AW_block ?_)|((with_reducible first|refine rS hE ?_|refine RK_nilk ?_|refine RK_stepk fun K' hK'=>?_|refine AW_if fun X Y hX hY=>?_|refine AW_ret ?_|refine AW_skip ?_|refine AW_exit ?_);simp [*])|with_reducible refine rL hE ?_|(refine acall_same (hbw.out) ?_ ?_ ?_;(iterate 2 (focus (simp [*] <;> fail)));simp [*])|(refine acall_view (hbw.out) ?_ ?_ ?_;(iterate 2 (focus (simp [*] <;> fail)));simp [*])|with_reducible refine And.intro ?_ ?_|omega|(refine imp1 fun h=>?_))
  all_goals simp [hG])
 refine AW_mkrowG 1000001 70 60 8 (c0:=.box 72 (tr1 en p Ls.length)) (f:=fun y=>.box 72 (.st ([.sl 7 (en.map encE),.v (.slice none 0 0),iA p,iA Ls.length].set 1 y)))
  (t:=⟨[(111,.fn (.func 62) [] [.ep (.sl 1 W)]),(13,.loc 13 0),(2,.loc 2 0)],[(70,.arr 60 8 []),(13,.box 3 (iA 0)),(2,.box 36 (.loc 1000001 0)),(1000001,.box 72 (tr2 en p Ls.length 0))] ++ gbox G⟩) (by simp) (Cell.box (by simp)) (by simp [AState.ment,mentS,mentB,AV.ment,mentL,Ct.ment,hWm]) (by simp) (by omega) rfl ?_ ?_
 ·intro j c' hj
  simp only [AState.box,lk,List.cons_append,List.nil_append] at hj ⊢
  (repeat' split at hj) <;> first
    |(cases hj;rename_i e;subst e;first|exact .inl ⟨rfl,rfl⟩|exact .inr (.inl ⟨rfl,rfl⟩)|exact .inr (.inr ⟨by decide,by decide,by simp⟩))
    |(obtain ⟨q,hq,rfl,rfl⟩:=lk_gbox hj
      refine .inr (.inr ⟨by omega,by omega,?_⟩)
      repeat rw [if_neg (by omega)]
      exact hj)
 refine AW_block ?_
 refine AW_rangeFunc kpA [(13,.loc 1500013 0),(2,.loc 1500002 0)]
  (fun g : List Mx × GL × List (List Nd) × List (List Nd)=>[(1500013,.box 3 (iA g.2.2.2.flatten.length)),(70,.arr 60 8 (g.1.map encM)),(1500002,.box 36 (.loc 1000001 0)),(1000001,.box 72 (tr2 en p Ls.length g.1.length))] ++ gbox g.2.1)
  (fun pre g=>(LsN = g.2.2.1 ++ g.2.2.2.reverse ∧ g.2.2.2.length = pre.length) ∧ Pins g.2.1 ((Ls.take g.2.2.1.length).flatten ++ g.1) (g.2.2.1.flatten ++ numN 0 g.2.2.2)) ([],G,LsN,[]) ⟨⟨by simp,rfl⟩,(by have h0:=hp.out;have h1 : Ls.take LsN.length = Ls:=List.take_of_length_le (by rw [hLl.out];exact Nat.le_refl _);show Pins G ((Ls.take LsN.length).flatten ++ []) (LsN.flatten ++ numN 0 []);rw [h1,numN,List.append_nil,List.append_nil];exact h0)⟩ hRO.out (i_backward W hRi hW1 (by omega)) (by simp) (by simp [idfL,AV.idf,hRi]) (fun pre x h=>?_) (by rw [hE];decide) kpA_kpA kpA_lt kpA_mid
    (slots_of (by simp [AV.ren])) ?_ (by intro d h;simp [mentS,AV.ment] at h;omega) (fun xs g _ _ d h1 h2=>?_) ?_ ?_
 ·obtain ⟨i,_,rfl⟩:=h
  refine ⟨rfl,?_⟩
  have : (W[i]?.getD .u).idf = true:=by
   cases hx : W[i]? with
   |none=>rfl
   |some y=>exact idf_of_mem hRi hx
  simp [idfL,this]
 ·intro id c hc
  simp only [lk,List.cons_append,List.nil_append,List.flatten_nil,List.length_nil,List.map_nil] at hc
  (repeat' split at hc) <;> first
    |(cases hc;rename_i e;subst e;simp [Ct.ren,AV.ren];done)
    |(obtain ⟨q,hq,rfl,rfl⟩:=lk_gbox hc
      refine ⟨.pin q.1 q.2,?_,by simp [Ct.ren]⟩
      simp only [AState.box,lk,List.cons_append,List.nil_append]
      rw [kpA_hi _ (by omega)]
      repeat rw [if_neg (by omega)]
      exact hc)
 ·have h3:=kpA_ne h1 h2
  have h4 : ¬ 70 = d ∧ ¬ 1500013 = d ∧ ¬ 1500002 = d ∧ ¬ 1000001 = d:=by omega
  have h5 : lk (gbox g.2.1) d = none:=lk_gbox_low (by omega)
  simp [mentB,Ct.ment,AV.ment,mentL,lk,h4,h5]
 ·rintro E' hE' pre x ⟨T,D,RN,P⟩ hok ⟨⟨h1,h2⟩,h3⟩
  obtain ⟨i,hi,rfl⟩:=hok
  replace h1 : LsN = RN ++ P.reverse:=h1
  replace h2 : P.length = pre.length:=h2
  replace h3 : Pins D ((Ls.take RN.length).flatten ++ T) (RN.flatten ++ numN 0 P):=h3
  have hLo:=hLl.out
  have hRNl : RN.length = i + 1:=by
   have:=congrArg List.length h1
   simp only [List.length_append,List.length_reverse] at this
   omega
  obtain ⟨RN',ln,rfl⟩ : ∃ RN' ln,RN = RN' ++ [ln]:=by
   have hne : RN ≠ []:=by intro e;rw [e] at hRNl;simp at hRNl
   exact ⟨RN.dropLast,RN.getLast hne,(List.dropLast_concat_getLast hne).symm⟩
  have hRN2 : RN'.length = i:=by simpa using hRNl
  have hiL : i < Ls.length:=by omega
  obtain ⟨l,hl⟩ : ∃ l,Ls[i] = l:=⟨_,rfl⟩
  have hWi : W.getD i .u = .sl 8 (l.map encM):=by
   rw [hW.out,← hl]
   simp [rowL,List.getD_eq_getElem?_getD,hiL]
  have hlenI : ∀ k,k < Ls.length → ((Ls.take k).flatten.length = (LsN.take k).flatten.length):=fun k hk=>by
   rw [List.length_flatten,List.length_flatten,List.map_take,List.map_take,hlens.out]
  have hlnl : l.length = ln.length:=by
   have e1 : (Ls.map List.length)[i]? = (LsN.map List.length)[i]?:=by rw [hlens.out]
   rw [List.getElem?_map,List.getElem?_map,List.getElem?_eq_getElem hiL,hl,h1,List.append_assoc,List.getElem?_append_right (by omega),hRN2] at e1
   simpa using e1
  have hX : (Ls.take i).flatten.length = RN'.flatten.length:=by
   rw [hlenI i hiL,h1,List.append_assoc,List.take_append_of_le_length (by omega),List.take_of_length_le (by omega)]
  rw [hRNl,List.take_succ_eq_append_getElem hiL,hl] at h3
  obtain ⟨X,hXe⟩ : ∃ X,X = (Ls.take i).flatten:=⟨_,rfl⟩
  obtain ⟨Y,hYe⟩ : ∃ Y,Y = RN'.flatten:=⟨_,rfl⟩
  have hmem : ∀ n ∈ ln,n ∈ LsN.flatten:=fun n hn=>by
   rw [h1]
   simp only [List.flatten_append,List.mem_append,List.flatten_cons,List.flatten_nil,List.append_nil]
   exact .inl (.inr hn)
  have hch2 : ∀ n ∈ ln,(∀ x ∈ n.ch,0 ≤ x ∧ x < 1000000) ∧ n.ch.length ≤ 8:=fun n hn=>⟨hch.out n (hmem n hn),hchl.out n (hmem n hn)⟩
  have hf : P.flatten.length + ln.length ≤ 1000000:=by
   have:=hbig.out
   rw [h1] at this
   have e:=List.length_flatten (L:=P.reverse)
   have e2:=List.length_flatten (L:=P)
   rw [List.map_reverse,List.sum_reverse] at e
   simp only [List.flatten_append,List.length_append,List.flatten_cons,List.flatten_nil,List.append_nil] at this
   omega
  have hP0 : Pins D (X ++ (l.drop 0 ++ T)) (Y ++ (ln.drop 0 ++ (numN 0 P ++ (ln.take 0).map (shN (P.flatten.length + ln.length))))):=by
   rw [hXe,hYe]
   simpa using h3
  have hnext : ∀ T' D',Pins D' (X ++ T') (Y ++ (numN 0 P ++ ln.map (shN (P.flatten.length + ln.length)))) → (LsN = RN' ++ (P ++ [ln]).reverse ∧ (P ++ [ln]).length = pre.length + 1) ∧ Pins D' ((Ls.take RN'.length).flatten ++ T') (RN'.flatten ++ numN 0 (P ++ [ln])):=by
   intro T' D' h
   refine ⟨⟨by rw [h1];simp,by simp [h2]⟩,?_⟩
   rw [hRN2,← hXe,← hYe,numN_app,Nat.zero_add]
   exact h
  have hXY : X.length = Y.length:=by rw [hXe,hYe];exact hX
  obtain ⟨f0,hf0⟩ : ∃ f0,f0 = P.flatten.length:=⟨_,rfl⟩
  obtain ⟨f,hff⟩ : ∃ f,f = f0 + l.length:=⟨_,rfl⟩
  rw [← hf0,← hlnl,← hff] at hP0 hnext
  rw [← hf0,← hlnl] at hf
  have hT0:=h3.real.len
  have hPl : (P ++ [ln]).flatten.length = f:=by simp [hff,hf0,hlnl]
  have hTl : T.length = f0:=by
   simp only [List.length_append,List.flatten_append,List.flatten_cons,List.flatten_nil,List.append_nil,numN_len] at hT0
   omega
  clear hT0 hlenI hmem h3 h1 hRNl hX hXe hYe hLo hiL hl
  rw [hWi]
  clear hWi
  obtain ⟨NP,hNP⟩ : ∃ NP,NP = numN 0 P:=⟨_,rfl⟩
  rw [← hNP] at hP0 hnext
  have hD:=hP0.ok
  have hlnl':=Hld.mk hlnl
  have hE0:=hE
  clear hE
  have hE:=hE'.n.trans hE0
  replace hP0:=Hld.mk hP0
  have hTl3 : T.length < 1000001:=by omega
  replace hTl:=Hld.mk hTl
  replace hnext:=Hld.mk hnext
  replace hch2:=Hld.mk hch2
  replace hXY:=Hld.mk hXY
  replace hPl:=Hld.mk hPl
  replace hff:=Hld.mk hff
  replace hNP:=()
  clear hlnl
  simp only [pslots]
  rw [← hf0]
  have hf0':=Hld.mk hf0
  clear hf0
  repeat' (first
   |(with_reducible first|refine uK ?_|refine uX ?_|refine AW_seqk fun K hK=>?_|refine AW_block ?_)|((with_reducible first|refine rS hE ?_|refine RK_nilk ?_|refine RK_stepk fun K' hK'=>?_|refine AW_if fun X Y hX hY=>?_|refine AW_ret ?_|refine AW_skip ?_|refine AW_exit ?_);simp [*])|with_reducible refine rL hE ?_|with_reducible refine And.intro ?_ ?_|omega|(refine imp1 fun h=>?_))
  intro E2 hE2
  clear hE
  have hE:=hE2.n.trans hE0
  refine AW_block ?_
  have hl1 : l.length < 1000001:=by omega
  have hl0 : f0 < 1000001:=by omega
  refine AW_seqt ⟨[(15,.sl 8 (l.map encM)),(13,.loc 1500013 0),(2,.loc 1500002 0)],[(1500013,.box 3 (iA f)),(70,.arr 60 8 (T.map encM)),(1500002,.box 36 (.loc 1000001 0)),(1000001,.box 72 (tr2 en p Ls.length T.length))] ++ gbox D⟩ ?_ (by
   intro K hK
   repeat' (first
    |(with_reducible first|refine uK ?_|refine uX ?_|refine AW_seqk fun K hK=>?_|refine AW_block ?_)|((with_reducible first|refine rS hE ?_|refine RK_nilk ?_|refine RK_stepk fun K' hK'=>?_|refine AW_if fun X Y hX hY=>?_|refine AW_ret ?_|refine AW_skip ?_|refine AW_exit ?_);simp [*])|with_reducible refine rL hE ?_|with_reducible refine And.intro ?_ ?_|omega|(refine imp1 fun h=>?_))
   all_goals simp [hD,hff.out])
  refine AW_seqt (stN en p Ls.length f l 0 T D) ?_ (by
   intro K hK
   repeat' (first
    |(with_reducible first|refine uK ?_|refine uX ?_|refine AW_seqk fun K hK=>?_|refine AW_block ?_)|((with_reducible first|refine rS hE ?_|refine RK_nilk ?_|refine RK_stepk fun K' hK'=>?_|refine AW_if fun X Y hX hY=>?_|refine AW_ret ?_|refine AW_skip ?_|refine AW_exit ?_);simp [*])|with_reducible refine rL hE ?_|with_reducible refine And.intro ?_ ?_|omega|(refine imp1 fun h=>?_))
   all_goals simp [stN,hD])
  refine AW_block ?_
  refine AW_loopk (G:=Nat × List Mx × GL) (fun g=>stN en p Ls.length f l g.1 g.2.1 g.2.2)
   (fun g=>g.1 ≤ l.length ∧ g.2.1.length = f0 + g.1 ∧ Pins g.2.2 (X ++ (l.drop g.1 ++ g.2.1)) (Y ++ (ln.drop g.1 ++ (NP ++ (ln.take g.1).map (shN f))))) (fun g=>l.length - g.1) (0,T,D) ⟨Nat.zero_le _,hTl.out,hP0.out⟩ ?_ ?_
  ·simp [stN,hD]
  clear hP0 hD hTl
  rintro ⟨j,T',D'⟩ ⟨hj,hTl,hP⟩ K hK
  replace hj : j ≤ l.length:=hj
  replace hTl : T'.length = f0 + j:=hTl
  replace hP : Pins D' (X ++ (l.drop j ++ T')) (Y ++ (ln.drop j ++ (NP ++ (ln.take j).map (shN f)))):=hP
  have hD':=hP.ok
  have hTl2 : T'.length < 2000002:=by omega
  replace hTl:=Hld.mk hTl
  simp only
  by_cases hlt : j < l.length
  ·have hltn : j < ln.length:=by rw [← hlnl'.out];exact hlt
   have hP2:=hP
   rw [List.drop_eq_getElem_cons hlt,List.drop_eq_getElem_cons hltn,List.cons_append,List.cons_append] at hP2
   replace hP2:=hP2.roll hXY.out
   obtain ⟨n,hn⟩ : ∃ n,ln[j] = n:=⟨_,rfl⟩
   obtain ⟨x,hx⟩ : ∃ x,l[j] = x:=⟨_,rfl⟩
   have hnc:=hch2.out n (by rw [← hn];exact List.getElem_mem hltn)
   rw [hn,hx] at hP2
   have hstep : ∀ x' D'',Pins D'' (X ++ (l.drop (j + 1) ++ T') ++ [x']) (Y ++ (ln.drop (j + 1) ++ (NP ++ (ln.take j).map (shN f))) ++ [shN f n]) → Pins D'' (X ++ (l.drop (j + 1) ++ (T' ++ [x']))) (Y ++ (ln.drop (j + 1) ++ (NP ++ (ln.take (j + 1)).map (shN f)))):=by
    intro x' D'' h
    rw [List.take_succ_eq_append_getElem hltn,hn,List.map_append]
    simpa [List.append_assoc] using h
   replace hP2:=Hld.mk hP2
   replace hstep:=Hld.mk hstep
   replace hnc:=Hld.mk hnc
   clear hP hn hltn
   refine AW_seqt ⟨(121,bA true) :: (stN en p Ls.length f l j T' D').s,(stN en p Ls.length f l j T' D').b⟩ ?_ (by
    intro K hK
    repeat' (first
     |(with_reducible first|refine uK ?_|refine uX ?_|refine AW_seqk fun K hK=>?_|refine AW_block ?_)|((with_reducible first|refine rS hE ?_|refine RK_nilk ?_|refine RK_stepk fun K' hK'=>?_|refine AW_if fun X Y hX hY=>?_|refine AW_ret ?_|refine AW_skip ?_|refine AW_exit ?_);simp [*])|with_reducible refine rL hE ?_|with_reducible refine And.intro ?_ ?_|omega|(refine imp1 fun h=>?_))
    all_goals simp [stN,hD'])
   refine AW_seq fun K4 hK4=>?_
   refine AW_cond (t:=true) (by simp) ?_ ?_
   ·intro _
    refine AW_skip ?_
    simp
    refine hK4 _ ?_
    clear hK4 K4
    refine AW_seqE (G:=List Mx × GL) (fun g=>stN en p Ls.length f l j g.1 g.2) (fun g=>g.1.length = f0 + (j + 1) ∧ Pins g.2 (X ++ (l.drop (j + 1) ++ g.1)) (Y ++ (ln.drop (j + 1) ++ (NP ++ (ln.take (j + 1)).map (shN f))))) ?_ ?_
    ·rintro ⟨T2,D2⟩ ⟨h1,h2⟩
     have hD2:=h2.ok
     replace h1:=Hld.mk h1
     replace h2:=Hld.mk h2
     repeat' (first
      |(with_reducible first|refine uK ?_|refine uX ?_|refine AW_seqk fun K hK=>?_|refine AW_block ?_)|((with_reducible first|refine rS hE ?_|refine RK_nilk ?_|refine RK_stepk fun K' hK'=>?_|refine AW_if fun X Y hX hY=>?_|refine AW_ret ?_|refine AW_skip ?_|refine AW_exit ?_);simp [*])|with_reducible refine rL hE ?_|with_reducible refine And.intro ?_ ?_|omega|(refine imp1 fun h=>?_))
     exact ⟨(j + 1,T2,D2),⟨(show j + 1 ≤ l.length by omega),h1.out,h2.out⟩,(show l.length - (j + 1) < l.length - j by omega),by simp [stN,hD2]⟩
    intro K4 hK4
    refine AW_block ?_
    refine AW_seqt (stX en p Ls.length f l j T' D' x) ?_ (by
     intro K hK
     repeat' (first
      |(with_reducible first|refine uK ?_|refine uX ?_|refine AW_seqk fun K hK=>?_|refine AW_block ?_)|((with_reducible first|refine rS hE ?_|refine RK_nilk ?_|refine RK_stepk fun K' hK'=>?_|refine AW_if fun X Y hX hY=>?_|refine AW_ret ?_|refine AW_skip ?_|refine AW_exit ?_);simp [*,encM])|with_reducible refine rL hE ?_|with_reducible refine And.intro ?_ ?_|omega|(refine imp1 fun h=>?_))
     all_goals simp [stX,stN,hD',encM])
    refine AW_seq fun K5 hK5=>?_
    have hX39 : ∀ t0 : AState,(∀ (c : Code) Q,(∀ x' D'',Pins D'' (X ++ (l.drop (j + 1) ++ T') ++ [x']) (Y ++ (ln.drop (j + 1) ++ (NP ++ (ln.take j).map (shN f))) ++ [shN f n]) → AW Try.prog E2 c (stX en p Ls.length f l j T' D'' x') Q) → AW Try.prog E2 c t0 Q) → ∀ s' : AState,s'.le t0 → K5 s':=by
     intro t0 ht0 s' hs'
     refine hK5 s' (AW_le hs' (ht0 c39 _ fun x' D'' hg=>?_))
     replace hg:=hstep.out x' D'' hg
     have hD2:=hg.ok
     refine reg39 hE hD2 hTl2 fun s' hs'=>?_
     have hTo:=hTl.out
     exact hK4.h _ ⟨(T' ++ [x'],D''),⟨(show (T' ++ [x']).length = f0 + (j + 1) by simp;omega),hg⟩,hs'⟩
    clear hK5
    by_cases hc0 : n.ch = []
    ·have hxc : x.ch.av = .v (.slice none 0 0):=by
      rcases hP2.out.real.last.2.ch with h|⟨_,_,_,_,h,_⟩
      ·rw [h.1];rfl
      ·exact absurd hc0 h
     have hsame : shN f n = n:=by
      cases n
      simp only at hc0
      subst hc0
      rfl
     have hfin:=hP2.out
     have hK5 : Kont K5 (fun s'=>s'.le (stX en p Ls.length f l j T' D' x)):=⟨hX39 _ (fun c Q h=>h x D' (by rw [hsame];exact hfin))⟩
     replace hX39:=()
     clear hP2 hsame hstep hfin hc0
     refine AW_seqt ⟨[(127,iA 0),(126,iA 0),(17,.loc 17 0),(120,iA j),(119,iA l.length),(118,.sl 8 (l.map encM)),(13,.loc 1500013 0),(2,.loc 1500002 0)],(stX en p Ls.length f l j T' D' x).b⟩ ?_ (by
      intro K hK
      repeat' (first
       |(with_reducible first|refine uK ?_|refine uX ?_|refine AW_seqk fun K hK=>?_|refine AW_block ?_)|((with_reducible first|refine rS hE ?_|refine RK_nilk ?_|refine RK_stepk fun K' hK'=>?_|refine AW_if fun X Y hX hY=>?_|refine AW_ret ?_|refine AW_skip ?_|refine AW_exit ?_);simp [*,encM])|with_reducible refine rL hE ?_|with_reducible refine And.intro ?_ ?_|omega|(refine imp1 fun h=>?_))
      all_goals simp [stX,stN,hD',encM,hxc])
     refine AW_block ?_
     refine AW_loopk (G:=Unit) (fun _=>⟨[(127,iA 0),(126,iA 0),(17,.loc 17 0),(120,iA j),(119,iA l.length),(118,.sl 8 (l.map encM)),(13,.loc 1500013 0),(2,.loc 1500002 0)],(stX en p Ls.length f l j T' D' x).b⟩) (fun _=>True) (fun _=>0) () trivial (by simp [stX,stN,hD']) ?_
     intro _ _ K6 hK6
     repeat' (first
      |(with_reducible first|refine uK ?_|refine uX ?_|refine AW_seqk fun K hK=>?_|refine AW_block ?_)|((with_reducible first|refine rS hE ?_|refine RK_nilk ?_|refine RK_stepk fun K' hK'=>?_|refine AW_if fun X Y hX hY=>?_|refine AW_ret ?_|refine AW_skip ?_|refine AW_exit ?_);simp [*])|with_reducible refine rL hE ?_|with_reducible refine And.intro ?_ ?_|omega|(refine imp1 fun h=>?_))
     simp [stX,stN,hD']
    ·obtain ⟨blk,cc,o,hxe,h4,h5,h6,h7⟩:=hP2.out.popM hc0
     rw [hxe]
     replace hxe:=()
     refine open_ch h4 h5 ?_
     have hD1:=h6.ok
     obtain ⟨z,hz⟩ : ∃ z,z = x.pa:=⟨_,rfl⟩
     rw [← hz] at h7 ⊢
     have hnl:=hnc.out.2
     have hnx:=hnc.out.1
     obtain ⟨U,hU⟩ : ∃ U : Nat → List Int,∀ i,U i = chS f n.ch i:=⟨_,fun _=>rfl⟩
     have hU0 : n.ch = U 0:=by rw [hU];simp [chS]
     have hUl : ∀ i,(U i).length = n.ch.length:=fun i=>by rw [hU,chS_len]
     obtain ⟨m,hm⟩ : ∃ m,n.ch.length = m:=⟨_,rfl⟩
     rw [hm] at hUl hnl
     have hm0 : 0 < m:=by rw [← hm];exact List.length_pos_iff.2 hc0
     obtain ⟨v,hv⟩ : ∃ v : Nat → Int,∀ i,v i = n.ch.getD i 0:=⟨_,fun _=>rfl⟩
     have hve : ∀ i (h : i < m),n.ch[i]'(by omega) = v i:=fun i h=>by rw [hv,List.getD_eq_getElem?_getD,List.getElem?_eq_getElem (by omega)];rfl
     have hUg : ∀ i,i < m → (U i)[i]? = some (v i):=fun i h=>by rw [hU,← hve i h];exact chS_get f (by omega)
     have hUs : ∀ i,i < m → (U i).set i (v i + (f : Int)) = U (i + 1):=fun i h=>by rw [hU,hU,← hve i h];exact chS_succ f (by omega)
     have hvr : ∀ i,i < m → 0 ≤ v i ∧ v i < 1000000:=fun i h=>by rw [← hve i h];exact hnx _ (List.getElem_mem _)
     have hUe : U m = n.ch.map (· + (f : Int)):=by rw [hU,← hm];simp [chS]
     have hne : U m ≠ []:=by intro e;have:=hUl m;rw [e] at this;simp at this;omega
     have hfin : ∀ blk' cc' o',lk (gbox (dropG D' blk)) (2000000 + blk') = none → rowO 3 1 cc' ((U m).map iA) o' →
      Pins ((blk',o') :: dropG D' blk) (X ++ (l.drop (j + 1) ++ T') ++ [⟨n.b,.pl blk' (U m).length cc',z⟩]) (Y ++ (ln.drop (j + 1) ++ (NP ++ (ln.take j).map (shN f))) ++ [shN f n]):=by
      intro blk' cc' o' g1 g2
      have:=h6.pushM n.b g1 g2 hne h7
      rw [show shN f n = mkN n.b (U m) n.pa by rw [hUe];rfl]
      exact this
     have hK5 : Kont K5 (fun s'=>s'.le (stY en p Ls.length f l j T' (dropG D' blk) n.b (U m) z)):=⟨hX39 _ (fun c Q h=>close_ch hne fun blk' cc' o' g1 g2=>h _ _ (hfin blk' cc' o' g1 g2))⟩
     replace hX39:=()
     rw [hU0]
     replace hU0:=()
     replace hU:=()
     replace hv:=()
     replace hve:=()
     replace hUe:=()
     replace hm:=()
     replace hz:=()
     replace hne:=()
     replace hfin:=()
     replace hUg:=Hld.mk hUg
     replace hUs:=Hld.mk hUs
     replace hvr:=Hld.mk hvr
     clear hP2 hstep h4 h5 h6 h7 hc0 hnx
     have hm8 : m < 1000000:=by omega
     refine AW_seqt ⟨[(127,iA 0),(126,iA m),(17,.loc 17 0),(120,iA j),(119,iA l.length),(118,.sl 8 (l.map encM)),(13,.loc 1500013 0),(2,.loc 1500002 0)],(stY en p Ls.length f l j T' (dropG D' blk) n.b (U 0) z).b⟩ ?_ (by
      intro K hK
      repeat' (first
       |(with_reducible first|refine uK ?_|refine uX ?_|refine AW_seqk fun K hK=>?_|refine AW_block ?_)|((with_reducible first|refine rS hE ?_|refine RK_nilk ?_|refine RK_stepk fun K' hK'=>?_|refine AW_if fun X Y hX hY=>?_|refine AW_ret ?_|refine AW_skip ?_|refine AW_exit ?_);simp [*,opM])|with_reducible refine rL hE ?_|with_reducible refine And.intro ?_ ?_|omega|(refine imp1 fun h=>?_))
      all_goals simp [stY,stN,hD1,opM,hUl])
     refine AW_block ?_
     refine AW_loopk (G:=Nat) (fun i=>⟨[(127,iA i),(126,iA m),(17,.loc 17 0),(120,iA j),(119,iA l.length),(118,.sl 8 (l.map encM)),(13,.loc 1500013 0),(2,.loc 1500002 0)],(stY en p Ls.length f l j T' (dropG D' blk) n.b (U i) z).b⟩) (fun i=>i ≤ m) (fun i=>m - i) 0 (Nat.zero_le _) (by simp [stY,stN,hD1]) ?_
     intro i hi K6 hK6
     by_cases him : i < m
     ·have hg:=hUg.out i him
      have hs:=hUs.out i him
      obtain ⟨hr1,hr2⟩:=hvr.out i him
      obtain ⟨vi,hvi⟩ : ∃ vi,v i = vi:=⟨_,rfl⟩
      rw [hvi] at hg hs hr1 hr2
      have hg2 : (U i)[i]'(by rw [hUl];exact him) = vi:=by
       rw [List.getElem?_eq_getElem (by rw [hUl];exact him)] at hg
       exact Option.some.inj hg
      clear hg
      have himI : (i : Int) < m:=by omega
      have hfb : f ≤ 1000000:=by have:=hff.out;omega
      replace hs:=Hld.mk hs
      clear hvi
      repeat' (first
       |(with_reducible first|refine useK (by assumption) ?_|refine useK2 (by assumption) ?_|refine useX (by assumption) ?_|refine AW_seqk fun K hK=>?_|refine AW_block ?_)|(with_reducible refine AW_regionS rfl (by rw [hE];decide) ?_;simp [*,opM])|with_reducible refine AW_region (by rw [hE];decide) ?_|((with_reducible show RK _ _ _ _ _ _);first|(refine RK_nilk ?_;simp [*,opM])|(refine RK_stepk fun K' hK'=>?_;simp [*,opM]))|with_reducible refine AW_drawq mixed (by rw [hE];decide) (by simp [newOK]) ?_|((with_reducible show RKQ _ _ _ _ _ _);first|refine RKQ_nilk ⟨by decide,?_⟩|(refine RKQ_stepk fun K' hK'=>?_;simp [*,opM]))|((with_reducible first|refine AW_if fun X Y hX hY=>?_|refine AW_ret ?_|refine AW_skip ?_|refine AW_exit ?_);simp [*,opM])|with_reducible refine And.intro ?_ ?_|omega|(refine imp1 fun h=>?_))
      exact ⟨i + 1,by omega,by omega,by simp [stY,stN,hD1,opM,hUl,← hs.out,List.map_set]⟩
     ·have hie : i = m:=by omega
      subst hie
      repeat' (first
       |(with_reducible first|refine uK ?_|refine uX ?_|refine AW_seqk fun K hK=>?_|refine AW_block ?_)|((with_reducible first|refine rS hE ?_|refine RK_nilk ?_|refine RK_stepk fun K' hK'=>?_|refine AW_if fun X Y hX hY=>?_|refine AW_ret ?_|refine AW_skip ?_|refine AW_exit ?_);simp [*,opM])|with_reducible refine rL hE ?_|with_reducible refine And.intro ?_ ?_|omega|(refine imp1 fun h=>?_))
      simp [stY,stN,hD1,opM,hUl]
   ·intro h
    cases h
  ·have hje : j = l.length:=by omega
   subst hje
   have hd1 : l.drop l.length = []:=List.drop_length
   have hd2 : ln.drop l.length = []:=by rw [hlnl'.out];exact List.drop_length
   have hd3 : ln.take l.length = ln:=by rw [hlnl'.out];exact List.take_length
   have hfin:=hnext.out T' D' (by rw [hd1,hd2,hd3] at hP;simpa using hP)
   replace hfin:=Hld.mk hfin
   clear hP hd1 hd2 hd3
   repeat' (first
    |(with_reducible first|refine uK ?_|refine uX ?_|refine AW_seqk fun K hK=>?_|refine AW_block ?_)|((with_reducible first|refine rS hE ?_|refine RK_nilk ?_|refine RK_stepk fun K' hK'=>?_|refine AW_if fun X Y hX hY=>?_|refine AW_ret ?_|refine AW_skip ?_|refine AW_exit ?_);simp [*])|with_reducible refine rL hE ?_|with_reducible refine And.intro ?_ ?_|omega|(refine imp1 fun h=>?_))
   refine ⟨T',D',RN',P ++ [ln],?_⟩
   exact ⟨⟨⟨hfin.out.1.1,by simpa using hfin.out.1.2⟩,hfin.out.2⟩,by have:=hPl.out;simp at this ⊢;omega,by simp,by simp,by simp [hD']⟩
 ·rintro xs ⟨T,D,RN,P⟩ hxs ⟨⟨h1,h2⟩,h3⟩
  have h1' : LsN = RN ++ P.reverse:=h1
  have h2' : P.length = xs.length:=h2
  have hR0 : RN = []:=by
   have:=congrArg List.length h1'
   simp only [List.length_append,List.length_reverse] at this
   have h9:=hLl.out
   exact List.length_eq_zero_iff.1 (by omega)
  subst hR0
  have hD : GOk D:=h3.ok
  refine hdone.out T D _ (by rw [h1'];simpa using h3) ?_
  simp only [List.map_append,gboxMap,List.map_cons,List.map_nil]
  simp [Ct.ren,AV.ren,stE,hD]
end Go.Proofs.Ytlkijcflfnnbaaa
end
section
namespace Go.Proofs.Ytlkijcflfnnbaaa
open Go.Am
theorem rowO_rep {G : Heap} {ρ : Rho} {T cc b : Nat} {ch : List Int} {o : Obj} {w : World} (hr : rowO T 1 cc (ch.map iA) o) (ho : w.heap[b]? = some o) (hG : ∀ k v,w.cell? ⟨b,k,none⟩ = some v → G b k = some v) :
 Rep G ρ (.sl 1 (ch.map iA)) (.slice (some ⟨b,0,none⟩) ch.length cc):=by
 obtain ⟨cur,cap,rfl,h1,h2,h3,h4,h5,h6⟩:=hr
 have hfl : (ch.map iA).flatMap AV.cells = ch.map iA:=by
  clear h2 h5 h6
  induction ch with
  |nil=>rfl
  |cons x ch ih=>rw [List.map_cons,List.flatMap_cons,ih];rfl
 have hl : (ch.map iA).length = ch.length:=by simp
 have h5':=h5 (fun _ _=>none) (fun _=>Bd.no)
 rw [hfl,Nat.mul_one] at h5'
 have hcell : ∀ (i : Nat) (c : AV),(ch.map iA)[i]? = some c → ∃ u : Value,cur[i]? = some u ∧ Rep (fun _ _=>none) (fun _=>Bd.no) c u:=by
  intro i c hc
  obtain ⟨u,hu,hru⟩:=h5'.get hc
  rw [List.getElem?_take] at hu
  split at hu
  ·exact ⟨u,by simpa using hu,hru⟩
  ·cases hu
 have hone : ∀ {x c : AV} {i j : Nat},(ch.map iA)[i]? = some x → x.cells[j]? = some c → j = 0 ∧ c = x:=by
  intro x c i j hx hc
  rw [List.getElem?_map] at hx
  cases h : ch[i]? with
  |none=>rw [h] at hx;cases hx
  |some y =>
   rw [h] at hx
   cases hx
   cases j with
   |zero=>simp [AV.cells] at hc;exact ⟨rfl,hc.symm⟩
   |succ j=>simp [AV.cells] at hc
 have:=Rep.sl (H:=G) (ρ:=ρ) (k:=1) (xs:=ch.map iA) (blk:=b) (off:=0) (cap:=cc) (fun i _=>cur.getD i undef) (by simpa using h2) (by omega) (by
  intro x hx
  obtain ⟨y,_,rfl⟩:=List.mem_map.1 hx
  rfl) (by
  intro x hx c hc
  obtain ⟨y,_,rfl⟩:=List.mem_map.1 hx
  simp [AV.cells] at hc
  subst hc
  rfl) (by
  intro i j x c hx hc
  obtain ⟨rfl,rfl⟩:=hone hx hc
  obtain ⟨u,hu,_⟩:=hcell i c hx
  refine hG _ _ ?_
  rw [cell_of_row w b _ _ _ _ ho,show 0 + i * 1 + 0 = i by omega,Array.getD_eq_getD_getElem?,hu]
  rfl) (by
  intro i j x c hx hc
  obtain ⟨rfl,rfl⟩:=hone hx hc
  obtain ⟨u,hu,hru⟩:=hcell i c hx
  rw [Array.getD_eq_getD_getElem?,hu]
  obtain ⟨y,_,rfl⟩:=List.mem_map.1 (List.mem_of_getElem? hx)
  exact hru.flat rfl)
 rw [hl] at this
 exact this
theorem repL_enc1 {H : Heap} {ρ : Rho} {x : Mx} {cs : List AV} {vs : List Value} (h : RepL H ρ ((encM x).cells ++ cs) vs) : ∃ u1 u2 u3 u4 u5 u6 u7 u8 us,vs = u1 :: u2 :: u3 :: u4 :: u5 :: u6 :: u7 :: u8 :: us ∧
 Rep H ρ (iA x.b.x0) u1 ∧ Rep H ρ (iA x.b.x1) u2 ∧ Rep H ρ (iA x.b.y0) u3 ∧ Rep H ρ (iA x.b.y1) u4 ∧ Rep H ρ (iA x.b.t0) u5 ∧ Rep H ρ (iA x.b.t1) u6 ∧ Rep H ρ x.ch.av u7 ∧ Rep H ρ x.pa.av u8 ∧ RepL H ρ cs us:=by
 simp only [encM_cells,List.cons_append,List.nil_append] at h
 obtain ⟨u1,us,rfl,h1,h⟩:=h.cons_inv
 obtain ⟨u2,us,rfl,h2,h⟩:=h.cons_inv
 obtain ⟨u3,us,rfl,h3,h⟩:=h.cons_inv
 obtain ⟨u4,us,rfl,h4,h⟩:=h.cons_inv
 obtain ⟨u5,us,rfl,h5,h⟩:=h.cons_inv
 obtain ⟨u6,us,rfl,h6,h⟩:=h.cons_inv
 obtain ⟨u7,us,rfl,h7,h⟩:=h.cons_inv
 obtain ⟨u8,us,rfl,h8,h⟩:=h.cons_inv
 exact ⟨_,_,_,_,_,_,_,_,_,rfl,h1,h2,h3,h4,h5,h6,h7,h8,h⟩
theorem real_rep {H G : Heap} {ρ : Rho} {D : GL} {w : World} (hle : H.le G) (hD : ∀ b o,lk (gbox D) (2000000 + b) = some (.pin b o) → w.heap[b]? = some o ∧ ∀ k v,w.cell? ⟨b,k,none⟩ = some v → G b k = some v) :
 ∀ {T : List Mx} {N : List Nd} {vs : List Value},Real D T N → RepL H ρ ((T.map encM).flatMap AV.cells) vs → RepL G ρ ((N.map encN).flatMap AV.cells) vs
 |[],[],vs,_,h=>by rw [show vs = [] from h.nil_inv];exact RepL.nil
 |x :: T,n :: N,vs,hr,h=>by
  rw [List.map_cons,List.flatMap_cons] at h
  obtain ⟨u1,u2,u3,u4,u5,u6,u7,u8,us,rfl,h1,h2,h3,h4,h5,h6,h7,h8,h9⟩:=repL_enc1 h
  have ih:=real_rep hle hD hr.2 h9
  have hb:=hr.1.b
  have e0 : n.b = x.b:=hb.symm
  have ex : n.x0 = x.b.x0 ∧ n.x1 = x.b.x1 ∧ n.y0 = x.b.y0 ∧ n.y1 = x.b.y1 ∧ n.t0 = x.b.t0 ∧ n.t1 = x.b.t1:=by
   rw [hb];exact ⟨rfl,rfl,rfl,rfl,rfl,rfl⟩
  obtain ⟨a1,a2,a3,a4,a5,a6⟩:=ex
  rw [List.map_cons,List.flatMap_cons,encN_cells,a1,a2,a3,a4,a5,a6]
  refine RepL.cons (h1.mono hle) (RepL.cons (h2.mono hle) (RepL.cons (h3.mono hle) (RepL.cons (h4.mono hle) (RepL.cons (h5.mono hle) (RepL.cons (h6.mono hle) (RepL.cons ?_ (RepL.cons ?_ ih)))))))
  ·rcases hr.1.ch with ⟨g1,g2⟩|⟨b,cc,o,g1,g2,g3,g4⟩
   ·rw [g1] at h7
    rw [g2]
    have : u7 = .slice none 0 0:=h7.v_inv
    rw [this]
    exact .slNil
   ·rw [g1] at h7
    have : u7 = .slice (some ⟨b,0,none⟩) n.ch.length cc:=h7.v_inv
    rw [this]
    obtain ⟨g5,g6⟩:=hD b o g3
    exact rowO_rep g4 g5 g6
  ·rcases hr.1.pa with ⟨g1,g2⟩|⟨g1,_⟩
   ·rw [g1] at h8
    rw [g2]
    have : u8 = .slice none 0 0:=h8.v_inv
    rw [this]
    exact .slNil
   ·rw [g1] at h8
    exact h8.mono hle
theorem sto_pins {E : Env} {s t : AState} {i : Nat} {T : List Mx} {N : List Nd} {D : GL} (hi : s.box i = some (.arr 60 8 (T.map encM))) (hil : i < 2000000) (hD : ∀ q ∈ D,s.box (2000000 + q.1) = some (.pin q.1 q.2)) (hR : Real D T N)
 (hs : t.s = s.s) (hB : ∀ j c',t.box j = some c' → (j = i ∧ c' = .arr 60 8 (N.map encN)) ∨ (j ≠ i ∧ j < 2000000 ∧ s.box j = some c')) : STo E s t:=by
 classical
 intro H ρ a w hS
 have hpin : ∀ q ∈ D,ρ (2000000 + q.1) = .at q.1 0 ∧ w.heap[q.1]? = some q.2:=fun q hq=>by
  obtain ⟨h1,h2,_⟩:=hS.boxes.rep _ _ (hD q hq)
  exact ⟨h1,h2⟩
 have hap : ∀ b ∈ bls D,(∀ o,H b o = none) ∧ E.mine b:=fun b hb=>by
  obtain ⟨q,hq,rfl⟩:=List.mem_map.1 hb
  obtain ⟨h1,_,h2⟩:=hS.boxes.apart _ _ _ _ (hD q hq) (hpin q hq).1
  exact ⟨h1,h2⟩
 have hfar : ∀ j c' b cap,s.box j = some c' → j < 2000000 → ρ j = .at b cap → b ∉ bls D:=fun j c' b cap hc hj hb hm=>by
  obtain ⟨q,hq,rfl⟩:=List.mem_map.1 hm
  have:=hS.boxes.inj _ _ _ _ _ _ _ hc (hD q hq) hb (hpin q hq).1
  omega
 let G : Heap:=fun b o=>if b ∈ bls D then w.cell? ⟨b,o,none⟩ else H b o
 have hle : H.le G:=by
  intro b o v hv
  show (if b ∈ bls D then w.cell? ⟨b,o,none⟩ else H b o) = some v
  rw [if_neg (fun hm=>by rw [(hap b hm).1 o] at hv;cases hv)]
  exact hv
 have hGn : ∀ b,b ∉ bls D → ∀ o,G b o = H b o:=fun b hb o=>if_neg hb
 have hGd : ∀ b o,lk (gbox D) (2000000 + b) = some (.pin b o) → w.heap[b]? = some o ∧ ∀ k v,w.cell? ⟨b,k,none⟩ = some v → G b k = some v:=by
  intro b o h
  obtain ⟨q,hq,e1,e2⟩:=lk_gbox h
  cases e2
  refine ⟨(hpin q hq).2,fun k v hv=>?_⟩
  show (if q.1 ∈ bls D then w.cell? ⟨q.1,k,none⟩ else H q.1 k) = some v
  rw [if_pos (show q.1 ∈ bls D from List.mem_map_of_mem hq)]
  exact hv
 have hslot : t.slot = s.slot:=by funext j;simp [AState.slot,hs]
 have old : ∀ j c',t.box j = some c' → j < 2000000 ∧ ∃ c0,s.box j = some c0:=fun j c' hc=>by
  rcases hB j c' hc with ⟨rfl,_⟩|⟨_,h2,h3⟩
  ·exact ⟨hil,_,hi⟩
  ·exact ⟨h2,_,h3⟩
 refine ⟨G,ρ,⟨fun b o v hv=>?_,fun j=>?_,hS.size,hS.defers,⟨fun j c' hc=>?_,fun j c' b cap hc hb=>?_,fun j j' c c' b cap cap' hc hc' h1 h2=>?_⟩,fun b o v hv=>hle _ _ _ (hS.h0 b o v hv),fun b o v hv h0=>?_,hS.frame,hS.keep,hS.nle⟩⟩
 ·by_cases hm : b ∈ bls D
  ·have : G b o = w.cell? ⟨b,o,none⟩:=if_pos hm
   rw [← this];exact hv
  ·rw [hGn b hm] at hv;exact hS.ext b o v hv
 ·rw [hslot];exact (hS.slots j).mono hle
 ·rcases hB j c' hc with ⟨rfl,rfl⟩|⟨_,_,h3⟩
  ·rcases hS.boxes.rep _ _ hi with ⟨h1,h2⟩|⟨b,cap,cur,g1,g2,g3,g4,g5,g6,g7⟩
   ·have hT0 : T = []:=List.map_eq_nil_iff.1 h2
    have hN0 : N = []:=by
     have:=hR.len
     rw [hT0] at this
     exact List.length_eq_zero_iff.1 this.symm
    rw [hN0]
    exact .inl ⟨h1,rfl⟩
   ·have hl:=hR.len
    refine .inr ⟨b,cap,cur,g1,g2,g3,by simpa [← hl] using g4,g5,?_,fun y hy=>?_⟩
    ·have:=real_rep hle hGd hR g6
     simpa [← hl] using this
    ·obtain ⟨n,_,rfl⟩:=List.mem_map.1 hy
     refine ⟨rfl,fun c hc=>?_⟩
     simp only [encN_cells,List.mem_cons,List.not_mem_nil,or_false] at hc
     rcases hc with rfl|rfl|rfl|rfl|rfl|rfl|rfl|rfl <;> rfl
  ·exact (hS.boxes.rep _ _ h3).mono hle (fun _ _=>rfl) (fun _ _ _=>rfl)
 ·obtain ⟨h1,c0,h2⟩:=old j c' hc
  obtain ⟨g1,g2⟩:=hS.boxes.apart _ _ _ _ h2 hb
  refine ⟨fun o=>?_,g2⟩
  rw [hGn b (hfar j c0 b cap h2 h1 hb)]
  exact g1 o
 ·obtain ⟨_,c0,g1⟩:=old _ _ hc
  obtain ⟨_,c1,g2⟩:=old _ _ hc'
  exact hS.boxes.inj _ _ _ _ _ _ _ g1 g2 h1 h2
 ·by_cases hm : b ∈ bls D
  ·exact (hap b hm).2
  ·rw [hGn b hm] at hv;exact hS.new b o v hv h0
end Go.Proofs.Ytlkijcflfnnbaaa
end
section
namespace Go.Proofs.Ytlkijcflfnnbaaa
open Go.Am
def leafN (l : List En) : Nd:=mkN (accB (hdB l) l) [] l
def leafsN (L : List En) (m : Nat) : List Nd:=(List.range m).map fun j=>leafN (runE L j)
def TreeOf (L : List En) (nd : List Nd) (dep : Nat) : Prop :=
 ∃ (N : List En) (m : Nat) (Ls : List (List Nd)),N.Perm L ∧ (L.length ≤ m * 8 ∧ (m ≠ 0 → (m - 1) * 8 < L.length)) ∧
   ((leafsN N m = [] ∧ Ls = []) ∨ ∃ L0 x,Ls = L0 ++ [[x]] ∧ Lev (leafsN N m) L0 [x]) ∧ nd = numN 0 Ls.reverse ∧ dep = Ls.length
theorem real_leafs {N : List En} {m : Nat} (h : m ≠ 0 → (m - 1) * 8 < N.length) : Pins [] (leafsM N m) (leafsN N m):=by
 have key : ∀ (R : List Nat),(∀ j ∈ R,runE N j ≠ []) → Real [] (R.map fun j=>leafM (runE N j)) (R.map fun j=>leafN (runE N j)) ∧ blks (R.map fun j=>leafM (runE N j)) = []:=by
  intro R
  induction R with
  |nil=>intro _;exact ⟨trivial,rfl⟩
  |cons j R ih =>
   intro hj
   obtain ⟨h1,h2⟩:=ih fun i hi=>hj i (by simp [hi])
   refine ⟨⟨⟨rfl,.inr ⟨rfl,?_⟩,.inl ⟨rfl,rfl⟩⟩,h1⟩,?_⟩
   ·exact hj j (by simp)
   ·simpa [blks,leafM] using h2
 obtain ⟨h1,h2⟩:=key (List.range m) (fun j hj=>by
  have hjm:=List.mem_range.1 hj
  have:=h (by omega)
  intro e
  have:=congrArg List.length e
  simp [runE] at this
  omega)
 exact ⟨⟨List.nodup_nil,fun p hp=>by cases hp⟩,h1,by unfold leafsM;rw [h2];exact List.nodup_nil⟩
theorem Lev.size {N0 : List Nd} {Ls : List (List Nd)} {cur : List Nd} (h : Lev N0 Ls cur) : Ls.flatten.length + 2 * cur.length ≤ 2 * N0.length:=by
 induction h with
 |nil=>simp
 |step h h2 ih =>
  simp only [List.flatten_append,List.length_append,List.flatten_cons,List.flatten_nil,List.append_nil,upsA_len]
  omega
theorem upsA_in (bs : List Bx) : ∀ i,∀ n ∈ upsA bs i,∀ x ∈ n.ch,0 ≤ x ∧ x < (i : Int):=by
 intro i
 induction i with
 |zero=>intro n hn;simp [upsA] at hn
 |succ i ih =>
  have h1 : ∀ n ∈ upsA bs i,∀ x ∈ n.ch,0 ≤ x ∧ x < ((i + 1 : Nat) : Int):=fun n hn x hx=>by have:=ih n hn x hx;omega
  intro n hn
  unfold upsA at hn
  split at hn
  ·rcases List.mem_append.1 hn with h|h
   ·exact h1 n h
   ·simp only [List.mem_singleton] at h;subst h
    intro x hx
    simp at hx;omega
  ·rename_i h8
   rcases List.mem_append.1 hn with h|h
   ·exact h1 n ((List.dropLast_sublist _).subset h)
   ·simp only [List.mem_singleton] at h;subst h
    intro x hx
    rw [mkN_ch] at hx
    rcases List.mem_append.1 hx with h|h
    ·have hne:=upsA_ne bs i (by omega)
     have : (upsA bs i).getLastD default ∈ upsA bs i:=by
      rw [List.getLastD_eq_getLast?,List.getLast?_eq_some_getLast hne]
      exact List.getLast_mem hne
     exact h1 _ this x h
    ·simp at h;omega
theorem Lev.ch {N0 : List Nd} (h0 : ∀ n ∈ N0,n.ch = []) (hl : N0.length < 1000000) {Ls : List (List Nd)} {cur : List Nd} (h : Lev N0 Ls cur) : ∀ n ∈ Ls.flatten ++ cur,(∀ x ∈ n.ch,0 ≤ x ∧ x < 1000000) ∧ n.ch.length ≤ 8:=by
 induction h with
 |nil =>
  intro n hn
  have:=h0 n (by simpa using hn)
  exact ⟨fun x hx=>by (rw [this] at hx;cases hx),by rw [this];simp⟩
 |step h h2 ih =>
  rename_i Ls cur
  intro n hn
  rw [List.flatten_append,List.flatten_cons,List.flatten_nil,List.append_nil] at hn
  rcases List.mem_append.1 hn with h3|h3
  ·exact ih n h3
  ·refine ⟨fun x hx=>?_,(upsA_chl _ _).1 n h3⟩
   have:=upsA_in _ _ n h3 x hx
   have h4:=h.lens.1
   omega
theorem m_load (L : List En) (en : List En) (p : Int) (hR : RgL L) (hn : L.length < 400000) :
 MSpec Try.prog 38 [.loc 1000001 0,.own 1000000 7 0 L.length] [(1000000,.arr 51 7 (L.map encE)),(1000001,.box 72 (tr0 en p))]
  (fun res bf=>res = .tup [] ∧ ∃ nd dep,TreeOf L nd dep ∧ bf 1000001 = some (.box 72 (encT ⟨en,nd,p,dep⟩))):=by
 refine load_1 L en p hR (by omega) _ ?_
 intro E c0 c1 c2 c3 rest hE hRO hb N m hN hm1 hm2
 have hNl:=hN.length_eq
 have hN0:=real_leafs (N:=N) (m:=m) (fun h=>by rw [hNl];exact hm2 h)
 obtain ⟨r12,loop,rest',rfl⟩ : ∃ r12 loop rest',rest = .seq r12 (.seq loop rest'):=by
  have e1:=(Code.seq.inj (Option.some.inj hb)).2
  have e2:=(Code.seq.inj e1).2
  have e3:=(Code.seq.inj e2).2
  have e4:=(Code.seq.inj e3).2
  exact ⟨_,_,_,e4.symm⟩
 have hml : m < 1000000:=by omega
 have hleaf : ∀ n ∈ leafsN N m,n.ch = []:=by
  intro n hn
  obtain ⟨j,_,rfl⟩:=List.mem_map.1 hn
  rfl
 have hlfl : (leafsN N m).length = m:=by simp [leafsN]
 refine load_2 en p E hE hb m (leafsM N m) (leafsN N m) (by simp [leafsM]) hml hN0 _ ?_
 intro Ls G LsN hp hl hlev
 have hbounds : LsN.flatten.length < 1000000 ∧ LsN.length < 1000000 ∧ (∀ n ∈ LsN.flatten,(∀ x ∈ n.ch,0 ≤ x ∧ x < 1000000) ∧ n.ch.length ≤ 8):=by
  rcases hlev with ⟨_,rfl⟩|⟨L0,x,rfl,h⟩
  ·exact ⟨by simp,by simp,fun n hn=>by simp at hn⟩
  ·have h1:=h.size
   have h2:=h.lens.1
   refine ⟨?_,by simp at h2 ⊢;omega,?_⟩
   ·simp only [List.flatten_append,List.length_append,List.flatten_cons,List.flatten_nil,List.append_nil,List.length_singleton] at h1 ⊢
    have : m ≤ 50000:=by omega
    omega
   ·have:=h.ch hleaf (by omega)
    simpa using this
 refine AW_post ?_
 refine load_3 en p E hE hRO hb Ls G LsN hp hl hbounds.1 hbounds.2.1 (fun n hn=>(hbounds.2.2 n hn).1) (fun n hn=>(hbounds.2.2 n hn).2) _ ?_
 intro T D s' hT hs'
 obtain ⟨nd,hnd⟩ : ∃ nd,nd = numN 0 LsN.reverse:=⟨_,rfl⟩
 have hdl : Ls.length = LsN.length:=by simpa using congrArg List.length hl
 rw [← hnd] at hT
 have hTl:=hT.real.len
 refine ⟨⟨[(2,.loc 2 0)],[(1000001,.box 72 (encT ⟨en,nd,p,LsN.length⟩))]⟩,?_,?_⟩
 ·refine (STo.le hs').trans ((sto_pins (s:=stE en p Ls.length T D) (t:=⟨[(2,.loc 2 0)],[(70,.arr 60 8 (nd.map encN)),(2,.box 36 (.loc 1000001 0)),(1000001,.box 72 (tr2 en p Ls.length T.length))]⟩) (i:=70) (T:=T) (N:=nd) (D:=D) (by simp [stE]) (by omega) ?_ hT.real rfl ?_).trans ?_)
  ·intro q hq
   simp only [stE,AState.box,lk,List.cons_append,List.nil_append]
   repeat rw [if_neg (by omega)]
   exact lk_gbox_mem hT.ok.nodup hq
  ·intro j c' hj
   simp only [AState.box,lk] at hj
   simp only [stE,AState.box,lk,List.cons_append,List.nil_append]
   (repeat' split at hj) <;> first
     |(cases hj;rename_i e;subst e;first|exact .inl ⟨rfl,rfl⟩|exact .inr ⟨by decide,by decide,by simp⟩)
     |cases hj
  ·rw [hTl,hdl]
   refine sto_freezeF 70 1000001 (cb:=.arr 60 8 (nd.map encN)) (c0:=.box 72 (tr2 en p LsN.length nd.length)) (x0:=.own 70 8 0 nd.length) (y0:=.sl 8 (nd.map encN)) (f:=fun y=>.box 72 (.st ([.sl 7 (en.map encE),.own 70 8 0 nd.length,iA p,iA LsN.length].set 1 y))) (by simp) (by simp) (Cell.box (by simp)) (fr_row (by simp) (by simp)) rfl (by simp) (by omega) ?_
   intro i c' h
   simp only [AState.box,lk] at h
   (repeat' split at h) <;> first
     |(cases h;rename_i e;subst e;exact .inl ⟨rfl,rfl⟩)
     |cases h
 ·simp [MOut]
  exact ⟨nd,LsN.length,⟨N,m,LsN,hN,⟨hm1,hm2⟩,hlev,hnd,rfl⟩,rfl⟩
end Go.Proofs.Ytlkijcflfnnbaaa
end
