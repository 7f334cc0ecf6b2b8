/- slices -/
import Derived.Test.YtlkijcflfnnbaaaRows
import Derived.Shelf.SlSortCmp.NoneTotal
import Derived.Shelf.SortM.Plain
import Derived.Shelf.SortM.SortNone
import Derived.Shelf.SlGeneric
import Derived.Ground.SlgmProg
import Derived.Test.YtlkijcflfnnbaaaZ8
import Derived.Test.YtlkijcflfnnbaaaZ3
import Derived.Test.YtlkijcflfnnbaaaZ7
set_option maxRecDepth 1000000
set_option linter.unusedSimpArgs false
set_option linter.unusedVariables false
section
namespace Go.Proofs
open Go.Shelf
def Try.sortInts_ren : Go.Shelf.Ren:=⟨fun|5=>43|8=>53|7=>52|19=>73|20=>74|10=>64|11=>65|12=>66|13=>67|14=>68|15=>69|16=>70|17=>71|18=>72|30=>77|31=>78|32=>79|33=>80|34=>81|35=>75|40=>84|n=>n,fun|23=>39|25=>3|3=>3|32=>98|22=>39|0=>0|44=>116|46=>118|4=>4|36=>108|35=>107|41=>113|5=>5|9=>9|53=>120|57=>124|63=>128|64=>129|n=>n,fun|n=>n⟩
theorem Try.sortInts : Go.Proofs.SlLaysM.n5 Try.prog Try.sortInts_ren:={
 mixed:=by kernel_rfl
 f5:=⟨Try.f43.name,by decide,Try.func43.trans (congrArg some (by kernel_rfl))⟩
 f7:=⟨Try.f52.name,by decide,Try.func52.trans (congrArg some (by kernel_rfl))⟩
 f8:=Try.func53.trans (congrArg some (by kernel_rfl))
 f10:=⟨Try.f64.name,by decide,Try.func64.trans (congrArg some (by kernel_rfl))⟩
 f11:=⟨Try.f65.name,by decide,Try.func65.trans (congrArg some (by kernel_rfl))⟩
 f12:=⟨Try.f66.name,by decide,Try.func66.trans (congrArg some (by kernel_rfl))⟩
 f13:=⟨Try.f67.name,by decide,Try.func67.trans (congrArg some (by kernel_rfl))⟩
 f14:=⟨Try.f68.name,by decide,Try.func68.trans (congrArg some (by kernel_rfl))⟩
 f15:=⟨Try.f69.name,by decide,Try.func69.trans (congrArg some (by kernel_rfl))⟩
 f16:=⟨Try.f70.name,by decide,Try.func70.trans (congrArg some (by kernel_rfl))⟩
 f17:=⟨Try.f71.name,by decide,Try.func71.trans (congrArg some (by kernel_rfl))⟩
 f18:=⟨Try.f72.name,by decide,Try.func72.trans (congrArg some (by kernel_rfl))⟩
 f19:=Try.func73.trans (congrArg some (by kernel_rfl))
 f20:=Try.func74.trans (congrArg some (by kernel_rfl))
 f30:=⟨Try.f77.name,by decide,Try.func77.trans (congrArg some (by kernel_rfl))⟩
 f31:=Try.func78.trans (congrArg some (by kernel_rfl))
 f32:=Try.func79.trans (congrArg some (by kernel_rfl))
 f33:=⟨Try.f80.name,by decide,Try.func80.trans (congrArg some (by kernel_rfl))⟩
 f34:=⟨Try.f81.name,by decide,Try.func81.trans (congrArg some (by kernel_rfl))⟩
 f35:=⟨Try.f75.name,by decide,Try.func75.trans (congrArg some (by kernel_rfl))⟩
 f40:=⟨Try.f84.name,by decide,Try.func84.trans (congrArg some (by kernel_rfl))⟩
 t0:=Try.underlying0
 a0:=Try.isAgg0
 z0:=Try.sizeOf0
 v0:=Try.zeroValue0
 t3:=Try.underlying3
 a3:=Try.isAgg3
 z3:=Try.sizeOf3
 v3:=Try.zeroValue3
 t4:=Try.underlying4
 a4:=Try.isAgg4
 z4:=Try.sizeOf4
 v4:=Try.zeroValue4
 t5:=Try.underlying5
 a5:=Try.isAgg5
 z5:=Try.sizeOf5
 v5:=Try.zeroValue5
 t9:=Try.underlying9
 a9:=Try.isAgg9
 z9:=Try.sizeOf9
 v9:=Try.zeroValue9
 t22:=Try.underlying39
 a22:=Try.isAgg39
 z22:=Try.sizeOf39
 v22:=Try.zeroValue39
 t23:=Try.underlying39
 a23:=Try.isAgg39
 z23:=Try.sizeOf39
 v23:=Try.zeroValue39
 t25:=Try.underlying3
 a25:=Try.isAgg3
 z25:=Try.sizeOf3
 v25:=Try.zeroValue3
 t32:=Try.underlying98
 a32:=Try.isAgg98
 z32:=Try.sizeOf98
 v32:=Try.zeroValue98
 t35:=Try.underlying107
 a35:=Try.isAgg107
 z35:=Try.sizeOf107
 v35:=Try.zeroValue107
 t36:=Try.underlying108
 a36:=Try.isAgg108
 z36:=Try.sizeOf108
 v36:=Try.zeroValue108
 t41:=Try.underlying113
 a41:=Try.isAgg113
 z41:=Try.sizeOf113
 v41:=Try.zeroValue113
 t44:=Try.underlying116
 a44:=Try.isAgg116
 z44:=Try.sizeOf116
 v44:=Try.zeroValue116
 t46:=Try.underlying118
 a46:=Try.isAgg118
 z46:=Try.sizeOf118
 v46:=Try.zeroValue118
 t53:=Try.underlying120
 a53:=Try.isAgg120
 z53:=Try.sizeOf120
 v53:=Try.zeroValue120
 t57:=Try.underlying124
 a57:=Try.isAgg124
 z57:=Try.sizeOf124
 v57:=Try.zeroValue124
 t63:=Try.underlying128
 a63:=Try.isAgg128
 z63:=Try.sizeOf128
 v63:=Try.zeroValue128
 t64:=Try.underlying129
 a64:=Try.isAgg129
 z64:=Try.sizeOf129
 v64:=Try.zeroValue129 }
end Go.Proofs
end
section
namespace Go.Proofs.Ytlkijcflfnnbaaa
open Go.Am
@[simp] theorem lit_ne_pin {n b : Nat} (h : n < 2000000) : (n = 2000000 + b) = False:=eq_false (by omega)
@[simp] theorem pin_ne_lit {n b : Nat} (h : n < 2000000) : (2000000 + b = n) = False:=eq_false (by omega)
theorem s_keys (b : Nat) : PSpec Try.prog 41 [.v (.map (some b))] (.fn (.func 51) [] [.ep (.v (.map (some b)))]):=by
 refine PSpec_of Try.func41 rfl rfl (Nat.le_of_ble_eq_true rfl) (Nat.le_of_ble_eq_true rfl) ?_
 intro E hE
 refine AW_seqt ⟨[(2,.v .nilFunc),(1,.loc 1 0)],[(1,.box 74 (.v (.map (some b))))]⟩ ?_ (by
  intro K hK
  repeat' (first
   |(with_reducible first|refine uK ?_|refine uX ?_|refine AW_seqk fun K hK=>?_|refine AW_block ?_)|((with_reducible first|refine rS hE ?_|refine RK_nilk ?_|refine RK_stepk fun K' hK'=>?_|refine AW_if fun X Y hX hY=>?_|refine AW_ret ?_|refine AW_skip ?_|refine AW_exit ?_);simp [*])|with_reducible refine rL hE ?_|with_reducible refine And.intro ?_ ?_|omega|(refine imp1 fun h=>?_))
  all_goals simp)
 refine AW_freeze 1 (cb:=.box 74 (.v (.map (some b)))) (t:=⟨[(2,.v .nilFunc),(1,.ep (.v (.map (some b))))],[]⟩) (by simp) (by simp) (by simp) ?_
 repeat' (first
  |(with_reducible first|refine uK ?_|refine uX ?_|refine AW_seqk fun K hK=>?_|refine AW_block ?_)|((with_reducible first|refine rS hE ?_|refine RK_nilk ?_|refine RK_stepk fun K' hK'=>?_|refine AW_if fun X Y hX hY=>?_|refine AW_ret ?_|refine AW_skip ?_|refine AW_exit ?_);simp [*])|with_reducible refine rL hE ?_|with_reducible refine And.intro ?_ ?_|omega|(refine imp1 fun h=>?_))
structure MapI (ents : Array MapEntry) (clock : Nat) (ks : List Int) : Prop where
 born : ∀ e ∈ ents.toList,e.born < clock
 nodup : (ents.toList.map (·.born)).Nodup
 keys : ents.toList.map (·.key) = ks.map fun k=>.int .i64 k
theorem MapI.key {ents : Array MapEntry} {clock : Nat} {ks : List Int} (h : MapI ents clock ks) : ∀ e ∈ ents.toList,∃ k,e.key = .int .i64 k:=by
 intro e he
 have : e.key ∈ ents.toList.map (·.key):=List.mem_map_of_mem he
 rw [h.keys] at this
 obtain ⟨k,_,hk⟩:=List.mem_map.1 this
 exact ⟨k,hk.symm⟩
theorem nodup_of_map {α β : Type} {f : α → β} : ∀ {l : List α},(l.map f).Nodup → l.Nodup
 |[],_=>List.nodup_nil
 |a :: l,h=>by
  simp only [List.map_cons,List.nodup_cons] at h ⊢
  exact ⟨fun hm=>h.1 (List.mem_map_of_mem hm),nodup_of_map h.2⟩
theorem len_of_sub {α : Type} : ∀ {l m : List α},l.Nodup → (∀ x ∈ l,x ∈ m) → l.length ≤ m.length
 |[],_,_,_=>Nat.zero_le _
 |a :: l,m,hn,hs=>by
  classical
  rw [List.nodup_cons] at hn
  have ha:=hs a (by simp)
  have:=len_of_sub (l:=l) (m:=m.erase a) hn.2 (fun x hx=>(List.mem_erase_of_ne (by rintro rfl;exact hn.1 hx)).2 (hs x (by simp [hx])))
  rw [List.length_erase_of_mem ha] at this
  have:=List.length_pos_of_mem ha
  simp only [List.length_cons]
  omega
theorem MapI.perm {ents : Array MapEntry} {clock : Nat} {ks : List Int} (h : MapI ents clock ks) {L : List MapEntry} (hL : ∀ e ∈ L,e ∈ ents.toList) (hn : (L.map (·.born)).Nodup) (ha : ∀ e ∈ ents.toList,e.born ∈ L.map (·.born)) :
 ∃ es : List Int,(L.map fun e=>[AV.v e.key]) = es.map (fun k=>[iA k]) ∧ es.Perm ks:=by
 have hinj : ∀ (l : List MapEntry),(l.map (·.born)).Nodup → ∀ e ∈ l,∀ e' ∈ l,e.born = e'.born → e = e':=by
  intro l
  induction l with
  |nil=>intro _ e he;cases he
  |cons a l ih =>
   intro hn e he e' he' heq
   simp only [List.map_cons,List.nodup_cons] at hn
   rcases List.mem_cons.1 he with h1|h1
   ·rcases List.mem_cons.1 he' with h2|h2
    ·rw [h1,h2]
    ·refine absurd ?_ hn.1
     rw [← h1,heq]
     exact List.mem_map_of_mem h2
   ·rcases List.mem_cons.1 he' with h2|h2
    ·refine absurd ?_ hn.1
     rw [← h2,← heq]
     exact List.mem_map_of_mem h1
    ·exact ih hn.2 e h1 e' h2 heq
 have hp : L.Perm ents.toList:=by
  refine (List.perm_ext_iff_of_nodup (nodup_of_map hn) (nodup_of_map h.nodup)).2 fun e=>⟨hL e,fun he=>?_⟩
  obtain ⟨e',he',heq⟩:=List.mem_map.1 (ha e he)
  rw [← hinj _ h.nodup e' (hL e' he') e he heq]
  exact he'
 let f : MapEntry → Int:=fun e=>match e.key with|.int .i64 k=>k|_=>0
 have hf : ∀ e ∈ ents.toList,e.key = .int .i64 (f e):=by
  intro e he
  obtain ⟨k,hk⟩:=h.key e he
  simp only [f,hk]
 refine ⟨L.map f,?_,?_⟩
 ·rw [List.map_map]
  refine List.map_congr_left fun e he=>?_
  simp only [Function.comp]
  rw [hf e (hL e he)]
 ·have h1 : (ents.toList.map f) = ks:=by
   have h2:=h.keys
   have h3 : ents.toList.map (·.key) = (ents.toList.map f).map fun k=>Value.int .i64 k:=by
    rw [List.map_map]
    exact List.map_congr_left fun e he=>hf e he
   rw [h3] at h2
   exact (List.map_inj_right (fun a b hab=>by cases hab;rfl)).1 h2
  rw [← h1]
  exact hp.map f
def okK (n : Nat) (pre : List (List AV)) (x : List AV) : Prop:=pre.length < n ∧ ∃ k,x = [iA k]
theorem i_keys (b : Nat) (ents : Array MapEntry) (clock : Nat) (ks : List Int) (hm : MapI ents clock ks) :
 ISpecG Try.prog 51 [(b,.map ents clock)] [.ep (.v (.map (some b)))] (okK ks.length) (fun xs=>∃ es : List Int,xs = es.map (fun k=>[iA k]) ∧ es.Perm ks):=by
 refine ISpecG_of Try.func51 rfl rfl (Nat.le_of_ble_eq_true rfl) (Nat.le_of_ble_eq_true rfl) (by simp [idfL,AV.idf]) ?_
 intro l J E hE hJP hY Hx G hJ hG
 replace hY:=Hld.mk hY
 replace hJ:=Hld.mk hJ
 have hpin : ∀ pre Hx G,J pre Hx G → GOk G → lk (gbox G) (2000000 + b) = some (.pin b (.map ents clock)):=fun pre Hx G h hG=>lk_gbox_mem hG.nodup (p:=(b,.map ents clock)) (hJP pre Hx G h _ (by simp))
 have hp0:=hpin [] Hx G hJ.out hG
 replace hG:=Hld.mk hG
 replace hpin:=Hld.mk hpin
 clear hJP
 have hle : ∀ (L : List (Nat × Ct)) (ss : List (Nat × AV)) (G' : GL) (_ : GOk G'),lowB L → leB ⟨ss,L ++ gbox G'⟩ (gbox G'):=fun L ss G' h hL=>leB_g hL h
 replace hle:=Hld.mk hle
 refine AW_seqt ⟨[(5,.loc 5 0),(0,.fn (.yield l) [] []),(1,.ep (.v (.map (some b))))],(5,.raw (.mapIter (some b) clock #[] clock)) :: (1999999,.hp Hx) :: gbox G⟩ ?_ (by
  intro K hK
  repeat' (first
   |(with_reducible first|refine uK ?_|refine uX ?_|refine AW_seqk fun K hK=>?_|refine AW_block ?_)|((with_reducible first|refine rS hE ?_|refine RK_nilk ?_|refine RK_stepk fun K' hK'=>?_|refine AW_if fun X Y hX hY=>?_|refine AW_ret ?_|refine AW_skip ?_|refine AW_exit ?_);simp [*])|with_reducible refine rL hE ?_|with_reducible refine And.intro ?_ ?_|omega|(refine imp1 fun h=>?_))
  exact ⟨by simp,by simp,by simp,hle.out [(5,.raw (.mapIter (some b) clock #[] clock)),(1999999,.hp Hx)] _ _ hG.out (by simp [lowB])⟩)
 refine AW_block ?_
 refine AW_loopk (G:=List MapEntry × Heap × GL) (fun g=>⟨[(5,.loc 5 0),(0,.fn (.yield l) [] []),(1,.ep (.v (.map (some b))))],(5,.raw (.mapIter (some b) clock (g.1.map (·.born)).toArray clock)) :: (1999999,.hp g.2.1) :: gbox g.2.2⟩)
  (fun g=>((∀ e ∈ g.1,e ∈ ents.toList) ∧ (g.1.map (·.born)).Nodup) ∧ Hld (J (g.1.map fun e=>[AV.v e.key]) g.2.1 g.2.2) ∧ Hld (GOk g.2.2)) (fun g=>ents.size - g.1.length) ([],Hx,G) ⟨⟨fun e he=>(by cases he),List.nodup_nil⟩,hJ,hG⟩ ?_ ?_
 ·exact ⟨by simp,by simp,by simp,hle.out [(5,.raw (.mapIter (some b) clock #[] clock)),(1999999,.hp Hx)] _ _ hG.out (by simp [lowB])⟩
 clear hJ hG hp0
 rintro ⟨L,Hy,D⟩ ⟨⟨hL1,hL2⟩,hJ,hG⟩ K hK
 replace hL1 : ∀ e ∈ L,e ∈ ents.toList:=hL1
 replace hL2 : (L.map (·.born)).Nodup:=hL2
 replace hJ : Hld (J (L.map fun e=>[AV.v e.key]) Hy D):=hJ
 replace hG : Hld (GOk D):=hG
 have hp0:=hpin.out _ _ _ hJ.out hG.out
 have hsz : ∀ e ∈ ents.toList,e.born ∉ L.map (·.born) → L.length < ents.size ∧ ((L ++ [e]).map (·.born)).Nodup ∧ L.length < ks.length:=by
  intro e he hn
  have h1 : ((L ++ [e]).map (·.born)).Nodup:=by
   rw [List.map_append,List.nodup_append]
   refine ⟨hL2,by simp,fun a ha b' hb' heq=>?_⟩
   simp at hb'
   rw [heq,hb'] at ha
   exact hn ha
  have h2 : (L ++ [e]).length ≤ ents.toList.length:=len_of_sub (nodup_of_map h1) (by
   intro x hx
   rcases List.mem_append.1 hx with h|h
   ·exact hL1 x h
   ·simp at h;rw [h];exact he)
  have h3:=congrArg List.length hm.keys
  simp at h2 h3
  exact ⟨by omega,h1,by omega⟩
 have hfin : (∀ e ∈ ents.toList,e.born ∈ L.map (·.born)) → ∃ es : List Int,(L.map fun e=>[AV.v e.key]) = es.map (fun k=>[iA k]) ∧ es.Perm ks:=hm.perm hL1 hL2
 have hents : ∀ e ∈ ents.toList,e.born < clock ∧ okV e.key = true:=fun e he=>⟨hm.born e he,by obtain ⟨k,hk⟩:=hm.key e he;rw [hk];rfl⟩
 have hents':=Hld.mk hents
 have hnd:=Hld.mk hm.nodup
 replace hsz:=Hld.mk hsz
 replace hfin:=Hld.mk hfin
 replace hL1:=Hld.mk hL1
 replace hL2:=Hld.mk hL2
 clear hents
 refine AW_seqE (G:=Option MapEntry) (fun g=>match g with
  |some e=>⟨[(7,bA true),(5,.loc 5 0),(0,.fn (.yield l) [] []),(1,.ep (.v (.map (some b))))],(5,.raw (.mapIter (some b) clock ((L.map (·.born)).toArray.push e.born) clock)) :: (1999999,.hp Hy) :: gbox D⟩
  |none=>⟨[(7,bA false),(5,.loc 5 0),(0,.fn (.yield l) [] []),(1,.ep (.v (.map (some b))))],(5,.raw (.mapIter (some b) clock (L.map (·.born)).toArray clock)) :: (1999999,.hp Hy) :: gbox D⟩)
  (fun g=>match g with|some e=>e ∈ ents.toList ∧ e.born ∉ L.map (·.born)|none=>∀ e ∈ ents.toList,e.born ∈ L.map (·.born)) ?_ ?_
 ·rintro (_|e) hg
  ·replace hg : ∀ e ∈ ents.toList,e.born ∈ L.map (·.born):=hg
   have hxs:=Hld.mk (hfin.out hg)
   clear hg
   repeat' (first
    |(with_reducible first|refine uK ?_|refine uX ?_|refine AW_seqk fun K hK=>?_|refine AW_block ?_)|((with_reducible first|refine rS hE ?_|refine RK_nilk ?_|refine RK_stepk fun K' hK'=>?_|refine AW_if fun X Y hX hY=>?_|refine AW_ret ?_|refine AW_skip ?_|refine AW_exit ?_);simp [*])|with_reducible refine rL hE ?_|with_reducible refine And.intro ?_ ?_|omega|(refine imp1 fun h=>?_))
   exact ⟨[(5,.raw (.mapIter (some b) clock (L.map (·.born)).toArray clock)),(1999999,.hp Hy)],D,rfl,by simp [lowB],hG.out,_,hxs.out,hJ.out⟩
  ·replace hg : e ∈ ents.toList ∧ e.born ∉ L.map (·.born):=hg
   obtain ⟨he,hnb⟩:=hg
   obtain ⟨hs1,hs2,hs3⟩:=hsz.out e he hnb
   obtain ⟨k,hk⟩:=hm.key e he
   have hL3 : ∀ x ∈ L ++ [e],x ∈ ents.toList:=fun x hx=>by
    rcases List.mem_append.1 hx with h|h
    ·exact hL1.out x h
    ·simp at h;rw [h];exact he
   replace hL3:=Hld.mk hL3
   replace hs2:=Hld.mk hs2
   have hok : okK ks.length (L.map fun e=>[AV.v e.key]) [iA k]:=⟨by simpa using hs3,k,rfl⟩
   replace hok:=Hld.mk hok
   have he':=Hld.mk he
   obtain ⟨R,hR⟩ : ∃ R,R = ((L ++ [e]).map (·.born)).toArray:=⟨_,rfl⟩
   have hR1 : (L.map (·.born)).toArray.push e.born = R:=by rw [hR];simp
   have hR2:=Hld.mk (show ∃ sn : Array Nat,R = sn.push e.born from ⟨_,hR1.symm⟩)
   simp only [hR1]
   replace hR:=Hld.mk hR
   replace hs1:=Hld.mk hs1
   clear he hnb hR1 hs3
   refine AW_seqt ⟨[(5,.loc 5 0),(0,.fn (.yield l) [] []),(1,.ep (.v (.map (some b))))],(5,.raw (.mapIter (some b) clock R clock)) :: (1999999,.hp Hy) :: gbox D⟩ ?_ (by
    intro K hK
    repeat' (first
     |(with_reducible first|refine uK ?_|refine uX ?_|refine AW_seqk fun K hK=>?_|refine AW_block ?_)|((with_reducible first|refine rS hE ?_|refine RK_nilk ?_|refine RK_stepk fun K' hK'=>?_|refine AW_if fun X Y hX hY=>?_|refine AW_ret ?_|refine AW_skip ?_|refine AW_exit ?_);simp [*])|with_reducible refine rL hE ?_|with_reducible refine And.intro ?_ ?_|omega|(refine imp1 fun h=>?_))
    exact ⟨by simp,by simp,by simp,hle.out [(5,.raw (.mapIter (some b) clock R clock)),(1999999,.hp Hy)] _ _ hG.out (by simp [lowB])⟩)
   refine AW_block ?_
   refine AW_seqt ⟨[(3,iA k),(5,.loc 5 0),(0,.fn (.yield l) [] []),(1,.ep (.v (.map (some b))))],(5,.raw (.mapIter (some b) clock R clock)) :: (1999999,.hp Hy) :: gbox D⟩ ?_ (by
    intro K hK
    repeat' (first
     |(with_reducible first|refine uK ?_|refine uX ?_|refine AW_seqk fun K hK=>?_|refine AW_block ?_)|((with_reducible first|refine rS hE ?_|refine RK_nilk ?_|refine RK_stepk fun K' hK'=>?_|refine AW_if fun X Y hX hY=>?_|refine AW_ret ?_|refine AW_skip ?_|refine AW_exit ?_);simp [*])|with_reducible refine rL hE ?_|with_reducible refine And.intro ?_ ?_|omega|(refine imp1 fun h=>?_))
    ·exact hnd.out
    ·refine ⟨e,by simpa using he'.out,hR2.out,by rw [hk],?_⟩
     simp only [hk]
     repeat' (first
      |(with_reducible first|refine uK ?_|refine uX ?_|refine AW_seqk fun K hK=>?_|refine AW_block ?_)|((with_reducible first|refine rS hE ?_|refine RK_nilk ?_|refine RK_stepk fun K' hK'=>?_|refine AW_if fun X Y hX hY=>?_|refine AW_ret ?_|refine AW_skip ?_|refine AW_exit ?_);simp [*])|with_reducible refine rL hE ?_|with_reducible refine And.intro ?_ ?_|omega|(refine imp1 fun h=>?_))
     simp [hG.out])
   refine AW_seqE (G:=Heap × GL) (fun g=>⟨[(13,bA false),(5,.loc 5 0),(0,.fn (.yield l) [] []),(1,.ep (.v (.map (some b))))],(5,.raw (.mapIter (some b) clock R clock)) :: (1999999,.hp g.1) :: gbox g.2⟩) (fun g=>J ((L ++ [e]).map fun e=>[AV.v e.key]) g.1 g.2 ∧ GOk g.2) ?_ ?_
   ·rintro ⟨Hz,F⟩ ⟨hJ2,hG2⟩
    replace hJ2:=Hld.mk hJ2
    replace hG2:=Hld.mk hG2
    repeat' (first
     |(with_reducible first|refine uK ?_|refine uX ?_|refine AW_seqk fun K hK=>?_|refine AW_block ?_)|((with_reducible first|refine rS hE ?_|refine RK_nilk ?_|refine RK_stepk fun K' hK'=>?_|refine AW_if fun X Y hX hY=>?_|refine AW_ret ?_|refine AW_skip ?_|refine AW_exit ?_);simp [*])|with_reducible refine rL hE ?_|with_reducible refine And.intro ?_ ?_|omega|(refine imp1 fun h=>?_))
    refine ⟨(L ++ [e],Hz,F),⟨⟨hL3.out,hs2.out⟩,hJ2,hG2⟩,(show ents.size - (L ++ [e]).length < ents.size - L.length by have:=hs1.out;simp;omega),?_⟩
    simp only [← hR.out]
    exact ⟨by simp,by simp,by simp,hle.out [(5,.raw (.mapIter (some b) clock R clock)),(1999999,.hp Hz)] _ _ hG2.out (by simp [lowB])⟩
   ·intro K hK
    refine AW_regionY 2 rfl rfl (by rw [hE];decide) ?_
    change RK _ _ _ [_,_] _ _
    have htk : ((L ++ [e]).map fun e=>[AV.v e.key]) = (L.map fun e=>[AV.v e.key]) ++ [[iA k]]:=by
     rw [List.map_append,List.map_cons,List.map_nil,hk]
    replace htk:=Hld.mk htk
    repeat' (first
     |(with_reducible first|refine uK ?_|refine uX ?_|refine AW_seqk fun K hK=>?_|refine AW_block ?_)|((with_reducible first|refine rS hE ?_|refine RK_nilk ?_|refine RK_stepk fun K' hK'=>?_|refine AW_if fun X Y hX hY=>?_|refine AW_ret ?_|refine AW_skip ?_|refine AW_exit ?_);simp [*])|with_reducible refine rL hE ?_|with_reducible refine And.intro ?_ ?_|omega|(refine imp1 fun h=>?_))
    refine AYield_of (L:=[(5,.raw (.mapIter (some b) clock R clock)),(1999999,.hp Hy)]) (hY.out _ [iA k] hok.out) (by simp) rfl (by simp [lowB]) hG.out hJ.out (by simp [idfL]) ?_ ?_
    ·intro d hd
     simp [mentS,mentB,AV.ment,mentL,Ct.ment]
     omega
    ·intro Hz F hJ2 hG2
     simp
     refine hK.h _ ⟨(Hz,F),⟨by rw [htk.out];exact hJ2,hG2⟩,by simp,by simp,by simp,?_⟩
     exact hle.out [(1999999,.hp Hz),(5,.raw (.mapIter (some b) clock R clock)),(1999999,.hp Hy)] _ _ hG2 (by simp [lowB])
 ·intro K hK
  repeat' (first
   |(with_reducible first|refine uK ?_|refine uX ?_|refine AW_seqk fun K hK=>?_|refine AW_block ?_)|((with_reducible first|refine rS hE ?_|refine RK_nilk ?_|refine RK_stepk fun K' hK'=>?_|refine AW_if fun X Y hX hY=>?_|refine AW_ret ?_|refine AW_skip ?_|refine AW_exit ?_);simp [*])|with_reducible refine rL hE ?_|with_reducible refine And.intro ?_ ?_|omega|(refine imp1 fun h=>?_))
  ·intro e he
   have:=hents'.out e (by simpa using he)
   simpa [okV] using this
  ·intro e he hn
   repeat' (first
    |(with_reducible first|refine uK ?_|refine uX ?_|refine AW_seqk fun K hK=>?_|refine AW_block ?_)|((with_reducible first|refine rS hE ?_|refine RK_nilk ?_|refine RK_stepk fun K' hK'=>?_|refine AW_if fun X Y hX hY=>?_|refine AW_ret ?_|refine AW_skip ?_|refine AW_exit ?_);simp [*])|with_reducible refine rL hE ?_|with_reducible refine And.intro ?_ ?_|omega|(refine imp1 fun h=>?_))
   refine ⟨some e,⟨by simpa using he,by simpa using hn⟩,?_⟩
   simp [hG.out]
  ·refine ⟨none,fun e he=>by simpa using h e (by simpa using he),?_⟩
   exact ⟨by simp,by simp,by simp,hle.out [(5,.raw (.mapIter (some b) clock (L.map (·.born)).toArray clock)),(1999999,.hp Hy)] _ _ hG.out (by simp [lowB])⟩
end Go.Proofs.Ytlkijcflfnnbaaa
end
section
namespace Go.Proofs.Ytlkijcflfnnbaaa
open Go.Am
@[simp] theorem kpA_pin (b : Nat) : kpA (2000000 + b) = 2000000 + b:=kpA_hi _ (by omega)
theorem acall_pinrow {E : Env} {s : AState} {K : AState → Prop} {g : FuncId} {args : List AV} {b : Nat} {o : Obj} {α : Type} {ok : α → Prop} {xs : α → List AV} {T k j t : Nat}
 (h : MSpec Try.prog g args [(2000000 + b,.pin b o)] (fun res bf=>∃ x,ok x ∧ res = .own j k 0 (xs x).length ∧ bf j = some (.arr T k (xs x)))) (hb : s.box (2000000 + b) = some (.pin b o)) (hj : j < 1000000) (hi : idfL args = true) (hx : ∀ x,idfL (xs x) = true)
 (hm : s.ment t = false) (hbt : s.box t = none) (ht : t < 1000000) (hk : ∀ x,ok x → K ((AState.mk s.s ((t,.arr T k (xs x)) :: dropB [2000000 + b] s.b)).put (some t) (.own t k 0 (xs x).length))) : ACall Try.prog E g args s (some t) K:=by
 have hlk : ∀ i c,lk [(2000000 + b,Ct.pin b o)] i = some c → i = 2000000 + b ∧ c = .pin b o:=by
  intro i c h
  simp only [lk] at h
  split at h
  ·rename_i e;cases h;exact ⟨e.symm,rfl⟩
  ·cases h
 refine ACall_mut h (fun i=>i) ?_ ?_ ?_ ?_
 ·rw [← renL_map,idfL_ren _ _ hi]
 ·intro i c hc
  obtain ⟨rfl,rfl⟩:=hlk _ _ hc
  exact hb
 ·intro i i' h1 h2 _
  obtain ⟨c,hc⟩:=Option.isSome_iff_exists.1 h1
  obtain ⟨c',hc'⟩:=Option.isSome_iff_exists.1 h2
  rw [(hlk _ _ hc).1,(hlk _ _ hc').1]
 ·rintro res bf ⟨x,hok,rfl,hbf⟩
  refine ⟨[(j,.arr T k (xs x))],fun i=>if i = j then t else i,⟨?_,?_,?_,?_,?_⟩,?_⟩
  ·intro p hp
   simp only [List.mem_singleton] at hp
   subst hp
   exact hbf
  ·intro p hp
   simp only [List.mem_singleton] at hp
   subst hp
   exact .inr ⟨hj,by simpa using hm,by simpa using hbt,by simpa using ht⟩
  ·intro p hp q hq _
   simp only [List.mem_singleton] at hp hq
   rw [hp,hq]
  ·intro i hi
   simpa [AV.ids] using hi
  ·intro p hp i hi
   simp only [List.mem_singleton] at hp
   subst hp
   simp only [Ct.ids,idfL_ids _ (hx x)] at hi
   cases hi
  ·have:=hk x hok
   simpa [AV.ren,Ct.ren,idfL_ren _ _ (hx x)] using this
theorem m_appendSeq (b : Nat) (ents : Array MapEntry) (clock : Nat) (ks : List Int) (hm : MapI ents clock ks) (hn : ks.length < 1000000000) :
 MSpec Try.prog 63 [.v (.slice none 0 0),.fn (.func 51) [] [.ep (.v (.map (some b)))]] [(2000000 + b,.pin b (.map ents clock))]
  (fun res bf=>∃ es : List Int,es.Perm ks ∧ res = .own 40 1 0 (es.map iA).length ∧ bf 40 = some (.arr 3 1 (es.map iA))):=by
 have hI:=Hld.mk (i_keys b ents clock ks hm)
 clear hm
 obtain ⟨o,ho⟩ : ∃ o,o = Obj.map ents clock:=⟨_,rfl⟩
 rw [← ho] at hI ⊢
 clear ho
 refine MSpec_ofR Try.func63 rfl rfl (Nat.le_of_ble_eq_true rfl) (Nat.le_of_ble_eq_true rfl) ?_
 intro E hE hRO
 replace hRO:=Hld.mk hRO
 refine AW_seqt ⟨[(2,.loc 2 0),(1,.fn (.func 51) [] [.ep (.v (.map (some b)))])],[(2,.box 39 (.v (.slice none 0 0))),(2000000 + b,.pin b o)]⟩ ?_ (by
  intro K hK
  repeat' (first
   |(with_reducible first|refine uK ?_|refine uX ?_|refine AW_seqk fun K hK=>?_|refine AW_block ?_)|((with_reducible first|refine rS hE ?_|refine RK_nilk ?_|refine RK_stepk fun K' hK'=>?_|refine AW_if fun X Y hX hY=>?_|refine AW_ret ?_|refine AW_skip ?_|refine AW_exit ?_);simp [*])|with_reducible refine rL hE ?_|with_reducible refine And.intro ?_ ?_|omega|(refine imp1 fun h=>?_))
  all_goals simp)
 refine AW_mkrowB 2 40 3 1 39 (by simp) (by simp [AState.ment,mentS,mentB,AV.ment,mentL,Ct.ment]) (by simp) (by omega) ?_
 simp
 refine AW_seqE (G:=List Int) (fun es=>⟨[(2,.loc 2 0)],[(2,.box 39 (.own 40 1 0 es.length)),(40,.arr 3 1 (es.map iA))]⟩) (fun es=>es.Perm ks) ?_ (by
  intro K hK
  refine AW_seqt ⟨[(6,.fn (.func 51) [] [.ep (.v (.map (some b)))]),(2,.loc 2 0)],[(2,.box 39 (.own 40 1 0 0)),(40,.arr 3 1 []),(2000000 + b,.pin b o)]⟩ ?_ (by
   intro K hK
   repeat' (first
    |(with_reducible first|refine uK ?_|refine uX ?_|refine AW_seqk fun K hK=>?_|refine AW_block ?_)|((with_reducible first|refine rS hE ?_|refine RK_nilk ?_|refine RK_stepk fun K' hK'=>?_|refine AW_if fun X Y hX hY=>?_|refine AW_ret ?_|refine AW_skip ?_|refine AW_exit ?_);simp [*])|with_reducible refine rL hE ?_|with_reducible refine And.intro ?_ ?_|omega|(refine imp1 fun h=>?_))
   all_goals simp)
  refine AW_block ?_
  refine AW_rangeFuncG kpA [(2,.loc 1500002 0)] (fun es : List Int=>[(1500002,.box 39 (.own 40 1 0 es.length)),(40,.arr 3 1 (es.map iA)),(2000000 + b,.pin b o)]) (fun pre es=>pre = es.map (fun k=>[iA k])) [] rfl hRO.out hI.out (by
   intro xs γ _ p hp
   simp only [List.mem_singleton] at hp
   subst hp
   simp [lk]) (by simp) (by simp [idfL,AV.idf]) (fun pre x h=>by obtain ⟨_,k,rfl⟩:=h;simp [idfL]) (by rw [hE];decide) kpA_kpA kpA_lt kpA_mid
   (slots_of (by simp [AV.ren])) (boxes_of (by simp [Ct.ren,AV.ren])) (by intro d h;simp [mentS,AV.ment] at h;omega) (fun xs m _ _ d h1 h2=>by
     have h3:=kpA_ne h1 h2
     have h4 : ¬ 40 = d ∧ ¬ 1500002 = d ∧ ¬ 2000000 + b = d:=by omega
     simp [mentB,Ct.ment,AV.ment,mentL,lk,h4]) ?_ ?_
  ·intro E' hE' pre x es hok hes
   obtain ⟨hp1,k,rfl⟩:=hok
   replace hes : pre = es.map (fun k=>[iA k]):=hes
   have hel : es.length < 1000000000:=by
    rw [hes] at hp1
    simp at hp1
    omega
   have hE0:=hE
   clear hE
   have hE:=hE'.n.trans hE0
   replace hes:=Hld.mk hes
   clear hp1
   simp only [pslots]
   repeat' (first
    |(with_reducible first|refine uK ?_|refine uX ?_|refine AW_seqk fun K hK=>?_|refine AW_block ?_)|((with_reducible first|refine rS hE ?_|refine RK_nilk ?_|refine RK_stepk fun K' hK'=>?_|refine AW_if fun X Y hX hY=>?_|refine AW_ret ?_|refine AW_skip ?_|refine AW_exit ?_);simp [*])|with_reducible refine rL hE ?_|with_reducible refine And.intro ?_ ?_|omega|(refine imp1 fun h=>?_))
   intro E2 hE2
   clear hE
   have hE:=hE2.n.trans hE0
   refine AW_block ?_
   repeat' (first
    |(with_reducible first|refine uK ?_|refine uX ?_|refine AW_seqk fun K hK=>?_|refine AW_block ?_)|((with_reducible first|refine rS hE ?_|refine RK_nilk ?_|refine RK_stepk fun K' hK'=>?_|refine AW_if fun X Y hX hY=>?_|refine AW_ret ?_|refine AW_skip ?_|refine AW_exit ?_);simp [*])|with_reducible refine rL hE ?_|with_reducible refine And.intro ?_ ?_|omega|(refine imp1 fun h=>?_))
   exact ⟨es ++ [k],by rw [hes.out];simp,by simp,by simp [List.take_of_length_le]⟩
  ·intro xs es hxs hes
   obtain ⟨es',h1,h2⟩:=hxs
   replace hes : xs = es.map (fun k=>[iA k]):=hes
   have he : es' = es:=by
    rw [hes] at h1
    exact ((List.map_inj_right (fun a b hab=>by simpa using hab)).1 h1).symm
   rw [he] at h2
   clear h1 hes he
   replace h2:=Hld.mk h2
   simp [Ct.ren,AV.ren]
   repeat' (first
    |(with_reducible first|refine uK ?_|refine uX ?_|refine AW_seqk fun K hK=>?_|refine AW_block ?_)|((with_reducible first|refine rS hE ?_|refine RK_nilk ?_|refine RK_stepk fun K' hK'=>?_|refine AW_if fun X Y hX hY=>?_|refine AW_ret ?_|refine AW_skip ?_|refine AW_exit ?_);simp [*])|with_reducible refine rL hE ?_|with_reducible refine And.intro ?_ ?_|omega|(refine imp1 fun h=>?_))
   exact ⟨es,h2.out,by simp⟩)
 intro es hes
 replace hes:=Hld.mk hes
 repeat' (first
  |(with_reducible first|refine uK ?_|refine uX ?_|refine AW_seqk fun K hK=>?_|refine AW_block ?_)|((with_reducible first|refine rS hE ?_|refine RK_nilk ?_|refine RK_stepk fun K' hK'=>?_|refine AW_if fun X Y hX hY=>?_|refine AW_ret ?_|refine AW_skip ?_|refine AW_exit ?_);simp [*])|with_reducible refine rL hE ?_|with_reducible refine And.intro ?_ ?_|omega|(refine imp1 fun h=>?_))
 exact ⟨es,hes.out,by simp⟩
end Go.Proofs.Ytlkijcflfnnbaaa
end
section
namespace Go.Proofs.Ytlkijcflfnnbaaa
open Go.Am
theorem m_sortI (l : List Int) (hl : l.length < 1000000000) : MSpec Try.prog 43 [.own 1000000 1 0 l.length] [(1000000,.arr 3 1 (l.map iA))] (fun res bf=>res = .tup [] ∧ bf 1000000 = some (.arr 3 1 ((sortZ l).map iA))) :=
 sortInts_m Try.sortInts (f:=43) rfl (ent_of Try.func43 (by kernel_rfl) rfl) 3 l (by omega)
theorem sortZ_len (l : List Int) : (sortZ l).length = l.length:=List.length_mergeSort _
theorem m_collect (b : Nat) (ents : Array MapEntry) (clock : Nat) (ks : List Int) (hm : MapI ents clock ks) (hn : ks.length < 1000000000) :
 MSpec Try.prog 50 [.fn (.func 51) [] [.ep (.v (.map (some b)))]] [(2000000 + b,.pin b (.map ents clock))]
  (fun res bf=>∃ es : List Int,es.Perm ks ∧ res = .own 4 1 0 (es.map iA).length ∧ bf 4 = some (.arr 3 1 (es.map iA))):=by
 have hI:=Hld.mk (m_appendSeq b ents clock ks hm hn)
 clear hm
 obtain ⟨o,ho⟩ : ∃ o,o = Obj.map ents clock:=⟨_,rfl⟩
 rw [← ho] at hI ⊢
 clear ho
 refine MSpec_of Try.func50 rfl rfl (Nat.le_of_ble_eq_true rfl) (Nat.le_of_ble_eq_true rfl) ?_
 intro E hE
 repeat' (first
  |(with_reducible first|refine uK ?_|refine uX ?_|refine AW_seqk fun K hK=>?_|refine AW_block ?_)|((with_reducible first|refine rS hE ?_|refine RK_nilk ?_|refine RK_stepk fun K' hK'=>?_|refine AW_if fun X Y hX hY=>?_|refine AW_ret ?_|refine AW_skip ?_|refine AW_exit ?_);simp [*])|with_reducible refine rL hE ?_|with_reducible refine And.intro ?_ ?_|omega|(refine imp1 fun h=>?_))
 refine acall_pinrow (b:=b) (o:=o) (j:=40) (ok:=fun es : List Int=>es.Perm ks) (xs:=fun es=>es.map iA) hI.out (by simp) (by omega) (by simp [idfL,AV.idf]) (by simp) (by simp [AState.ment,mentS,mentB,AV.ment,mentL,Ct.ment]) (by simp) (by omega) fun es hes=>?_
 simp
 replace hes:=Hld.mk hes
 repeat' (first
  |(with_reducible first|refine uK ?_|refine uX ?_|refine AW_seqk fun K hK=>?_|refine AW_block ?_)|((with_reducible first|refine rS hE ?_|refine RK_nilk ?_|refine RK_stepk fun K' hK'=>?_|refine AW_if fun X Y hX hY=>?_|refine AW_ret ?_|refine AW_skip ?_|refine AW_exit ?_);simp [*])|with_reducible refine rL hE ?_|with_reducible refine And.intro ?_ ?_|omega|(refine imp1 fun h=>?_))
 exact ⟨es,hes.out,by simp⟩
theorem m_sorted (b : Nat) (ents : Array MapEntry) (clock : Nat) (ks : List Int) (hm : MapI ents clock ks) (hn : ks.length < 1000000000) :
 MSpec Try.prog 40 [.fn (.func 51) [] [.ep (.v (.map (some b)))]] [(2000000 + b,.pin b (.map ents clock))]
  (fun res bf=>∃ es : List Int,es.Perm ks ∧ res = .own 5 1 0 ((sortZ es).map iA).length ∧ bf 5 = some (.arr 3 1 ((sortZ es).map iA))):=by
 have hI:=Hld.mk (m_collect b ents clock ks hm hn)
 clear hm
 obtain ⟨o,ho⟩ : ∃ o,o = Obj.map ents clock:=⟨_,rfl⟩
 rw [← ho] at hI ⊢
 clear ho
 refine MSpec_of Try.func40 rfl rfl (Nat.le_of_ble_eq_true rfl) (Nat.le_of_ble_eq_true rfl) ?_
 intro E hE
 refine AW_seqt ⟨[(0,.fn (.func 51) [] [.ep (.v (.map (some b)))])],[(2000000 + b,.pin b o)]⟩ ?_ (by
  intro K hK
  repeat' (first
   |(with_reducible first|refine uK ?_|refine uX ?_|refine AW_seqk fun K hK=>?_|refine AW_block ?_)|((with_reducible first|refine rS hE ?_|refine RK_nilk ?_|refine RK_stepk fun K' hK'=>?_|refine AW_if fun X Y hX hY=>?_|refine AW_ret ?_|refine AW_skip ?_|refine AW_exit ?_);simp [*])|with_reducible refine rL hE ?_|with_reducible refine And.intro ?_ ?_|omega|(refine imp1 fun h=>?_))
  all_goals simp)
 refine AW_seqE (G:=List Int) (fun es=>⟨[(3,.own 5 1 0 es.length)],[(5,.arr 3 1 (es.map iA))]⟩) (fun es=>es.Perm ks) ?_ (by
  intro K hK
  repeat' (first
   |(with_reducible first|refine uK ?_|refine uX ?_|refine AW_seqk fun K hK=>?_|refine AW_block ?_)|((with_reducible first|refine rS hE ?_|refine RK_nilk ?_|refine RK_stepk fun K' hK'=>?_|refine AW_if fun X Y hX hY=>?_|refine AW_ret ?_|refine AW_skip ?_|refine AW_exit ?_);simp [*])|with_reducible refine rL hE ?_|with_reducible refine And.intro ?_ ?_|omega|(refine imp1 fun h=>?_))
  refine acall_pinrow (b:=b) (o:=o) (j:=4) (ok:=fun es : List Int=>es.Perm ks) (xs:=fun es=>es.map iA) hI.out (by simp) (by omega) (by simp [idfL,AV.idf]) (by simp) (by simp [AState.ment,mentS,mentB,AV.ment,mentL,Ct.ment]) (by simp) (by omega) fun es hes=>?_
  simp
  replace hes:=Hld.mk hes
  repeat' (first
   |(with_reducible first|refine uK ?_|refine uX ?_|refine AW_seqk fun K hK=>?_|refine AW_block ?_)|((with_reducible first|refine rS hE ?_|refine RK_nilk ?_|refine RK_stepk fun K' hK'=>?_|refine AW_if fun X Y hX hY=>?_|refine AW_ret ?_|refine AW_skip ?_|refine AW_exit ?_);simp [*])|with_reducible refine rL hE ?_|with_reducible refine And.intro ?_ ?_|omega|(refine imp1 fun h=>?_))
  exact ⟨es,hes.out,by simp⟩)
 intro es hes
 have hel : es.length < 1000000000:=by rw [hes.length_eq];exact hn
 have hst:=Hld.mk (m_sortI es hel)
 have hsl:=sortZ_len es
 replace hes:=Hld.mk hes
 repeat' (first
  |(with_reducible first|refine uK ?_|refine uX ?_|refine AW_seqk fun K hK=>?_|refine AW_block ?_)|((with_reducible first|refine rS hE ?_|refine RK_nilk ?_|refine RK_stepk fun K' hK'=>?_|refine AW_if fun X Y hX hY=>?_|refine AW_ret ?_|refine AW_skip ?_|refine AW_exit ?_);simp [*])|with_reducible refine rL hE ?_|(refine acall_mrow (hst.out) ?_ ?_ ?_ ?_ ?_ ?_;(iterate 5 (focus (simp [*] <;> fail)));simp [*])|with_reducible refine And.intro ?_ ?_|omega|(refine imp1 fun h=>?_))
 exact ⟨es,hes.out,by simp [hsl]⟩
end Go.Proofs.Ytlkijcflfnnbaaa
end
section
namespace Go.Proofs.Ytlkijcflfnnbaaa
open Go.Am
def encH (m : List Int) : List (AV × AV):=m.map fun n=>(iA n,bA true)
def updH (a : Int) : List Int → List Int
 |[]=>[a]
 |b :: m=>if a = b then a :: m else b :: updH a m
theorem encH_cons (b : Int) (m : List Int) : encH (b :: m) = (iA b,bA true) :: encH m:=rfl
@[simp] theorem encH_nil : encH [] = []:=rfl
theorem mem_updH (a b : Int) : ∀ m : List Int,b ∈ updH a m ↔ b = a ∨ b ∈ m
 |[]=>by simp [updH]
 |c :: m=>by
  simp only [updH]
  split
  ·rename_i h;subst h;simp
  ·simp [mem_updH a b m]
   constructor
   ·rintro (h|h|h) <;> simp [h]
   ·rintro (h|h|h) <;> simp [h]
theorem nodup_updH (a : Int) : ∀ m : List Int,m.Nodup → (updH a m).Nodup
 |[],_=>by simp [updH]
 |c :: m,h=>by
  rw [List.nodup_cons] at h
  simp only [updH]
  split
  ·rename_i e;subst e;rw [List.nodup_cons];exact h
  ·rename_i e
   rw [List.nodup_cons,mem_updH]
   exact ⟨fun hh=>hh.elim (fun x=>e x.symm) h.1,nodup_updH a m h.2⟩
@[simp] theorem keysOK_H (a : Int) : ∀ m : List Int,keysOK [SK.i] false (iA a) (encH m)
  |[]=>trivial
  |b :: m=>by
   rw [encH_cons]
   simp only [keysOK]
   exact ⟨⟨rfl,rfl,rfl⟩,keysOK_H a m⟩
@[simp] theorem updA_H (a : Int) : ∀ m : List Int,updA [SK.i] (iA a) (bA true) (encH m) = encH (updH a m)
  |[]=>rfl
  |b :: m=>by
   rw [encH_cons]
   simp only [updA,updH,updA_H a m]
   by_cases h : a = b
   ·simp [h,encH_cons]
   ·simp [h,encH_cons]
@[simp] theorem mentP_H (d : Nat) (m : List Int) : mentP d (encH m) = false:=by
  induction m with
  |nil=>rfl
  |cons r m ih=>rw [encH_cons];simp [ih]
@[simp] theorem renP_H (σ : Nat → Nat) (m : List Int) : (encH m).map (fun e=>(e.1.ren σ,e.2.ren σ)) = encH m:=by
  induction m with
  |nil=>rfl
  |cons r m ih=>rw [encH_cons,List.map_cons,ih];rfl
theorem AW_pinMap {E : Env} {s : AState} {Q : AExit → AState → Prop} (i id : Nat) {ks : List Int} {st : Option (List Nat × Nat)} {c0 : Ct} {f : AV → Ct} {c : Code} (t : Nat → Obj → AState) (hi : s.box i = some c0) (hid : s.box id = some (.map (encH ks) st)) (hii : i ≠ id)
 (hc : Cell c0 (.mp id) f) (hm : ∀ j,2000000 ≤ j → s.ment j = false) (hp : ∀ j,2000000 ≤ j → s.box j = none)
 (hts : ∀ b o,(t b o).s = s.s) (htb : ∀ b o j c',(t b o).box j = some c' → (j = i ∧ c' = f (.v (.map (some b)))) ∨ (j = 2000000 + b ∧ c' = .pin b o) ∨ (j ≠ 2000000 + b ∧ j ≠ i ∧ j ≠ id ∧ s.box j = some c'))
 (h : ∀ b ents clock,MapI ents clock ks → AW Try.prog E c (t b (.map ents clock)) Q) : AW Try.prog E c s Q:=by
 intro H ρ a w hS
 obtain ⟨u,hu,hback⟩:=hc.rep (hS.boxes.rep _ _ hi)
 cases hu with
 |mp hat =>
  rename_i b cap
  obtain ⟨b',cap',ents,clock,hbd,hheap,hk1,hk2,hborn,hnd,_⟩:=hS.boxes.rep _ _ hid
  obtain ⟨rfl,rfl⟩:=rho_at hat hbd
  have hmi : MapI ents clock ks:=by
   refine ⟨hborn,hnd,?_⟩
   have hg : ∀ (ks : List Int) (vs : List Value),RepL H ρ ((encH ks).map (·.1)) vs → vs = ks.map fun k=>.int .i64 k:=by
    intro ks
    induction ks with
    |nil=>intro vs h;exact h.nil_inv
    |cons k ks ih =>
     intro vs h
     rw [encH_cons,List.map_cons] at h
     obtain ⟨u,us,rfl,h1,h2⟩:=h.cons_inv
     rw [ih us h2,h1.v_inv]
     rfl
   exact hg ks _ hk1
  have hmb:=hm (2000000 + b) (by omega)
  have hm2:=(fresh2 hmb).2
  have hc1:=hback (ρ.upd (2000000 + b) (.at b 0)) (.v (.map (some b))) (upd_ne (hm2 _ _ hi)) (.v rfl) rfl
  refine h b ents clock hmi H (ρ.upd (2000000 + b) (.at b 0)) a w ?_
  have : (t b (.map ents clock)).slot = s.slot:=by funext j;simp [AState.slot,hts]
  rw [this]
  refine hS.recell (del:=id) hi hc1 hmb (hp _ (by omega)) (.inr (by omega)) (show CtRep _ _ _ _ (.pin b (.map ents clock)) from ⟨rfl,hheap,fun x e=>by cases e⟩) (fun b2 cap2 e=>?_) hii (fun j c' hj=>htb _ _ j c' hj)
  cases e
  exact ⟨cap,_,hid,hat⟩
theorem ISpec.mono {f : FuncId} {caps : List AV} {ok ok' : List (List AV) → List AV → Prop} {S S' : List (List AV) → Prop} (h : ISpec Try.prog f caps ok S) (hok : ∀ pre x,ok pre x → ok' pre x) (hS : ∀ xs,S xs → S' xs) : ISpec Try.prog f caps ok' S':=by
 refine ⟨h.1,fun l J hY G H w vs h1 h2 h3 h4 h5 h6=>?_⟩
 refine Calls.mono (h.2 l J (fun pre x hx=>hY pre x (hok pre x hx)) G H w vs h1 h2 h3 h4 h5 h6) ?_
 rintro e w' ⟨hv,G',xs,Hx,hs,hr⟩
 exact ⟨hv,G',xs,Hx,hS xs hs,hr⟩
def fndE (b : Bx) (ks : List Int) (l : List En) : List Int:=l.foldl (fun ks p=>if meetX p.b b then updH p.ref ks else ks) ks
def fndN (b : Bx) (ks : List Int) (V : List Nd) : List Int:=V.foldl (fun ks n=>fndE b ks n.pa) ks
theorem fndE_succ (b : Bx) (ks : List Int) {l : List En} {i : Nat} (h : i < l.length) : fndE b ks (l.take (i + 1)) = if meetX l[i].b b then updH l[i].ref (fndE b ks (l.take i)) else fndE b ks (l.take i):=by
 unfold fndE
 rw [List.take_succ_eq_append_getElem h,List.foldl_append]
 rfl
theorem sortZ_perm {l m : List Int} (h : l.Perm m) : sortZ l = sortZ m:=by
 have hp : (sortZ l).Perm (sortZ m):=(List.mergeSort_perm l _).trans (h.trans (List.mergeSort_perm m _).symm)
 have hs : ∀ l : List Int,(sortZ l).Pairwise (· ≤ ·):=fun l=>by
  have:=List.pairwise_mergeSort (le:=fun x y : Int=>decide (x ≤ y)) (fun a b c h1 h2=>by simp at *;omega) (fun a b=>by simp;omega) l
  exact this.imp (fun h=>by simpa using h)
 exact hp.eq_of_pairwise (fun a b _ _ h1 h2=>by omega) (hs l) (hs m)
@[simp] theorem kpA_5 : kpA 5 = 1500005:=by decide
@[simp] theorem kpA_r5 : kpA 1500005 = 5:=by decide
@[simp] theorem kpA_9 : kpA 9 = 1500009:=by decide
@[simp] theorem kpA_r9 : kpA 1500009 = 9:=by decide
theorem s_search_of (trv : AV) (hti : trv.idf = true) (hto : trv.one = true) (b : Bx) (V : List Nd) (hI : ISpec Try.prog 49 [.ep trv,.ep (encX b)] (okV' V) (fun xs=>xs = V.map (fun n=>[encN n])))
 (hL : PSpec Try.prog 39 [trv,encX b] (.fn (.func 49) [] [.ep trv,.ep (encX b)])) (hlen : (fndN b [] V).length < 1000000000) (hpl : ∀ n ∈ V,n.pa.length < 1000000000) :
 PSpec Try.prog 23 [trv,encX b] (.sl 1 ((sortZ (fndN b [] V)).map iA)):=by
 replace hI:=Hld.mk hI
 replace hL:=Hld.mk hL
 have htm : ∀ d,trv.ment d = false:=fun d=>idf_ment d trv hti
 have htr : ∀ σ,trv.ren σ = trv:=fun σ=>by have:=idfL_ren σ [trv] (by simp [idfL,hti]);simpa [renL] using this
 have htc : trv.cells = [trv]:=AV.one_cells hto
 have hts : trv.isSt = false:=by cases trv <;> first|rfl|(simp [AV.one] at hto)
 have htst : trv.sto = true:=by cases trv <;> first|rfl|(simp [AV.one] at hto)
 replace hpl:=Hld.mk hpl
 replace hlen:=Hld.mk hlen
 refine PSpec_ofR Try.func23 rfl rfl (Nat.le_of_ble_eq_true rfl) (Nat.le_of_ble_eq_true rfl) ?_
 intro E hE hRO
 replace hRO:=Hld.mk hRO
 refine AW_seqt ⟨[(3,.loc 3 0),(0,trv)],[(3,.box 23 (encX b))]⟩ ?_ (by
  intro K hK
  repeat' (first
   |(with_reducible first|refine uK ?_|refine uX ?_|refine AW_seqk fun K hK=>?_|refine AW_block ?_)|((with_reducible first|refine rS hE ?_|refine RK_nilk ?_|refine RK_stepk fun K' hK'=>?_|refine AW_if fun X Y hX hY=>?_|refine AW_ret ?_|refine AW_skip ?_|refine AW_exit ?_);simp [*])|with_reducible refine rL hE ?_|with_reducible refine And.intro ?_ ?_|omega|(refine imp1 fun h=>?_))
  all_goals simp)
 refine AW_freeze 3 (cb:=.box 23 (encX b)) (t:=⟨[(3,.ep (encX b)),(0,trv)],[]⟩) (by simp) (by simp [hti]) (by simp) ?_
 refine AW_seqt ⟨[(5,.loc 5 0),(3,.ep (encX b)),(0,trv)],[(5,.box 74 (.mp 9)),(9,.map (encH []) none)]⟩ ?_ (by
  intro K hK
  repeat' (first
   |(with_reducible first|refine uK ?_|refine uX ?_|refine AW_seqk fun K hK=>?_|refine AW_block ?_)|((with_reducible first|refine rS hE ?_|refine RK_nilk ?_|refine RK_stepk fun K' hK'=>?_|refine AW_if fun X Y hX hY=>?_|refine AW_ret ?_|refine AW_skip ?_|refine AW_exit ?_);simp [*])|with_reducible refine rL hE ?_|with_reducible refine And.intro ?_ ?_|omega|(refine imp1 fun h=>?_))
  all_goals simp)
 refine AW_seqt ⟨[(5,.loc 5 0)],[(5,.box 74 (.mp 9)),(9,.map (encH (fndN b [] V)) none)]⟩ ?_ (by
  intro K hK
  refine AW_seqt ⟨[(12,.fn (.func 49) [] [.ep trv,.ep (encX b)]),(5,.loc 5 0),(3,.ep (encX b))],[(5,.box 74 (.mp 9)),(9,.map (encH []) none)]⟩ ?_ (by
   intro K hK
   repeat' (first
    |(with_reducible first|refine uK ?_|refine uX ?_|refine AW_seqk fun K hK=>?_|refine AW_block ?_)|((with_reducible first|refine rS hE ?_|refine RK_nilk ?_|refine RK_stepk fun K' hK'=>?_|refine AW_if fun X Y hX hY=>?_|refine AW_ret ?_|refine AW_skip ?_|refine AW_exit ?_);simp [*])|with_reducible refine rL hE ?_|(refine acall_same (hL.out) ?_ ?_ ?_;(iterate 2 (focus (simp [*] <;> fail)));simp [*])|(refine acall_view (hL.out) ?_ ?_ ?_;(iterate 2 (focus (simp [*] <;> fail)));simp [*])|with_reducible refine And.intro ?_ ?_|omega|(refine imp1 fun h=>?_))
   all_goals simp)
  refine AW_block ?_
  refine AW_rangeFunc kpA [(5,.loc 1500005 0),(3,.ep (encX b))] (fun ks : List Int=>[(1500005,.box 74 (.mp 1500009)),(1500009,.map (encH ks) none)]) (fun pre ks=>∃ W,pre = W.map (fun n=>[encN n]) ∧ ks = fndN b [] W) [] ⟨[],rfl,rfl⟩ hRO.out hI.out (by simp) (by simp [idfL,AV.idf,hti])
   (fun pre x h=>by obtain ⟨_,_,_,rfl⟩:=h;simp [idfL]) (by rw [hE];decide) kpA_kpA kpA_lt kpA_mid
   (slots_of (by simp [AV.ren])) (boxes_of (by simp [Ct.ren,AV.ren])) (by intro d h;simp [mentS,AV.ment] at h;omega) (fun xs m _ _ d h1 h2=>by
     have h3:=kpA_ne h1 h2
     have h4 : ¬ 1500005 = d ∧ ¬ 1500009 = d:=by omega
     simp [mentB,Ct.ment,AV.ment,mentL,lk,h4]) ?_ ?_
  ·rintro E' hE' pre x ks hok ⟨W,hW1,hW2⟩
   obtain ⟨i,hi,hpre,rfl⟩:=hok
   have hE0:=hE
   clear hE
   have hE:=hE'.n.trans hE0
   obtain ⟨x,hx⟩ : ∃ x,V[i] = x:=⟨_,rfl⟩
   have hxp : x.pa.length < 1000000000:=hpl.out x (by rw [← hx];exact List.getElem_mem hi)
   rw [hx]
   obtain ⟨F,hF⟩ : ∃ F : Nat → List Int,∀ i,F i = fndE b ks (x.pa.take i):=⟨_,fun _=>rfl⟩
   have hF0 : F 0 = ks:=by rw [hF];rfl
   have hFs : ∀ i (h : i < x.pa.length),F (i + 1) = if meetX x.pa[i].b b then updH x.pa[i].ref (F i) else F i:=fun i h=>by rw [hF,hF];exact fndE_succ b ks h
   have hFe : F x.pa.length = fndN b [] (W ++ [x]):=by rw [hF,List.take_length,fndN,List.foldl_append,hW2];rfl
   have hpw:=Hld.mk (show pre ++ [[encN x]] = (W ++ [x]).map (fun n=>[encN n]) by rw [hW1];simp)
   clear hpre hx hi hW1 hW2
   replace hF:=()
   replace hFs:=Hld.mk hFs
   replace hFe:=Hld.mk hFe
   rw [← hF0]
   replace hF0:=()
   simp only [pslots]
   repeat' (first
    |(with_reducible first|refine uK ?_|refine uX ?_|refine AW_seqk fun K hK=>?_|refine AW_block ?_)|((with_reducible first|refine rS hE ?_|refine RK_nilk ?_|refine RK_stepk fun K' hK'=>?_|refine AW_if fun X Y hX hY=>?_|refine AW_ret ?_|refine AW_skip ?_|refine AW_exit ?_);simp [*])|with_reducible refine rL hE ?_|with_reducible refine And.intro ?_ ?_|omega|(refine imp1 fun h=>?_))
   intro E2 hE2
   clear hE
   have hE:=hE2.n.trans hE0
   refine AW_block ?_
   refine AW_seqt ⟨[(17,iA 0),(16,iA x.pa.length),(15,.sl 7 (x.pa.map encE)),(5,.loc 1500005 0),(3,.ep (encX b))],[(1500005,.box 74 (.mp 1500009)),(1500009,.map (encH (F 0)) none)]⟩ ?_ (by
    intro K hK
    repeat' (first
     |(with_reducible first|refine uK ?_|refine uX ?_|refine AW_seqk fun K hK=>?_|refine AW_block ?_)|((with_reducible first|refine rS hE ?_|refine RK_nilk ?_|refine RK_stepk fun K' hK'=>?_|refine AW_if fun X Y hX hY=>?_|refine AW_ret ?_|refine AW_skip ?_|refine AW_exit ?_);simp [*])|with_reducible refine rL hE ?_|with_reducible refine And.intro ?_ ?_|omega|(refine imp1 fun h=>?_))
    all_goals simp)
   refine AW_block ?_
   refine AW_loopk (G:=Nat) (fun i=>⟨[(17,iA i),(16,iA x.pa.length),(15,.sl 7 (x.pa.map encE)),(5,.loc 1500005 0),(3,.ep (encX b))],[(1500005,.box 74 (.mp 1500009)),(1500009,.map (encH (F i)) none)]⟩) (fun i=>i ≤ x.pa.length) (fun i=>x.pa.length - i) 0 (Nat.zero_le _) (by simp) ?_
   intro i hi K hK
   by_cases hlt : i < x.pa.length
   ·have hs:=hFs.out i hlt
    have hme:=s_meets x.pa[i].b b
    rcases hm : meetX x.pa[i].b b with _|_
    ·rw [hm,if_neg (by simp)] at hs
     rw [hm] at hme
     replace hs:=Hld.mk hs
     replace hme:=Hld.mk hme
     clear hm
     repeat' (first
      |(with_reducible first|refine uK ?_|refine uX ?_|refine AW_seqk fun K hK=>?_|refine AW_block ?_)|((with_reducible first|refine rS hE ?_|refine RK_nilk ?_|refine RK_stepk fun K' hK'=>?_|refine AW_if fun X Y hX hY=>?_|refine AW_ret ?_|refine AW_skip ?_|refine AW_exit ?_);simp [*,encX,En.b])|with_reducible refine rL hE ?_|(refine acall_same (hme.out) ?_ ?_ ?_;(iterate 2 (focus (simp [*,encX,En.b] <;> fail)));simp [*,encX,En.b])|(refine acall_view (hme.out) ?_ ?_ ?_;(iterate 2 (focus (simp [*,encX,En.b] <;> fail)));simp [*,encX,En.b])|with_reducible refine And.intro ?_ ?_|omega|(refine imp1 fun h=>?_))
     exact ⟨i + 1,by omega,by omega,by simp [encX,hs.out]⟩
    ·rw [hm,if_pos rfl] at hs
     rw [hm] at hme
     replace hs:=Hld.mk hs
     replace hme:=Hld.mk hme
     clear hm
     repeat' (first
      |(with_reducible first|refine uK ?_|refine uX ?_|refine AW_seqk fun K hK=>?_|refine AW_block ?_)|((with_reducible first|refine rS hE ?_|refine RK_nilk ?_|refine RK_stepk fun K' hK'=>?_|refine AW_if fun X Y hX hY=>?_|refine AW_ret ?_|refine AW_skip ?_|refine AW_exit ?_);simp [*,encX,En.b])|with_reducible refine rL hE ?_|(refine acall_same (hme.out) ?_ ?_ ?_;(iterate 2 (focus (simp [*,encX,En.b] <;> fail)));simp [*,encX,En.b])|(refine acall_view (hme.out) ?_ ?_ ?_;(iterate 2 (focus (simp [*,encX,En.b] <;> fail)));simp [*,encX,En.b])|with_reducible refine And.intro ?_ ?_|omega|(refine imp1 fun h=>?_))
     exact ⟨i + 1,by omega,by omega,by simp [encX,hs.out]⟩
   ·have hie : i = x.pa.length:=by omega
    subst hie
    repeat' (first
     |(with_reducible first|refine uK ?_|refine uX ?_|refine AW_seqk fun K hK=>?_|refine AW_block ?_)|((with_reducible first|refine rS hE ?_|refine RK_nilk ?_|refine RK_stepk fun K' hK'=>?_|refine AW_if fun X Y hX hY=>?_|refine AW_ret ?_|refine AW_skip ?_|refine AW_exit ?_);simp [*])|with_reducible refine rL hE ?_|with_reducible refine And.intro ?_ ?_|omega|(refine imp1 fun h=>?_))
    exact ⟨fndN b [] (W ++ [x]),⟨W ++ [x],hpw.out,rfl⟩,by simp [hFe.out]⟩
  ·rintro xs ks hxs ⟨W,hW1,hW2⟩
   have hWV : W = V:=by
    rw [hxs] at hW1
    have hinj : ∀ a b : Nd,encN a = encN b → a = b:=by
     intro a b h
     have hE : ∀ l m : List En,l.map encE = m.map encE → l = m:=fun l m h=>(List.map_inj_right (fun a b h=>by
      cases a;cases b
      simp only [encE,AV.st.injEq,List.cons.injEq,AV.v.injEq,Value.int.injEq,true_and,and_true] at h
      obtain ⟨rfl,rfl,rfl,rfl,rfl,rfl,rfl⟩:=h
      rfl)).1 h
     have hI : ∀ l m : List Int,l.map iA = m.map iA → l = m:=fun l m h=>(List.map_inj_right (fun a b h=>by simpa using h)).1 h
     cases a;cases b
     simp only [encN,AV.st.injEq,List.cons.injEq,AV.v.injEq,Value.int.injEq,true_and,and_true,AV.sl.injEq] at h
     obtain ⟨rfl,rfl,rfl,rfl,rfl,rfl,h1,h2⟩:=h
     rw [hI _ _ h1,hE _ _ h2]
    exact ((List.map_inj_right (fun a b h=>hinj a b (by simpa using h))).1 hW1).symm
   subst hWV
   subst hW2
   simp [Ct.ren,AV.ren]
   repeat' (first
    |(with_reducible first|refine uK ?_|refine uX ?_|refine AW_seqk fun K hK=>?_|refine AW_block ?_)|((with_reducible first|refine rS hE ?_|refine RK_nilk ?_|refine RK_stepk fun K' hK'=>?_|refine AW_if fun X Y hX hY=>?_|refine AW_ret ?_|refine AW_skip ?_|refine AW_exit ?_);simp [*])|with_reducible refine rL hE ?_|with_reducible refine And.intro ?_ ?_|omega|(refine imp1 fun h=>?_))
   all_goals simp)
 have hne : ∀ j,2000000 ≤ j → ¬ 5 = j ∧ ¬ 9 = j:=fun j hj=>by omega
 refine AW_pinMap 5 9 (ks:=fndN b [] V) (st:=none) (c0:=.box 74 (.mp 9)) (f:=fun y=>.box 74 y) (fun b o=>⟨[(5,.loc 5 0)],[(5,.box 74 (.v (.map (some b)))),(2000000 + b,.pin b o)]⟩) (by simp) (by simp) (by omega) (.var rfl)
  (fun j hj=>by simp [AState.ment,mentS,mentB,AV.ment,Ct.ment,hne j hj]) (fun j hj=>by simp [AState.box,lk,hne j hj]) (fun _ _=>rfl) ?_ ?_
 ·intro b' o j c' hj
  simp only [AState.box,lk] at hj
  (repeat' split at hj) <;> first
    |(cases hj;rename_i e;subst e;first|exact .inl ⟨rfl,rfl⟩|exact .inr (.inl ⟨rfl,rfl⟩))
    |cases hj
 ·intro bb ents clock hmi
  have hsrt:=Hld.mk (m_sorted bb ents clock _ hmi hlen.out)
  have hks:=Hld.mk (s_keys bb)
  have hperm : Hld (∀ es : List Int,es.Perm (fndN b [] V) → sortZ es = sortZ (fndN b [] V)):=⟨fun es h=>sortZ_perm h⟩
  clear hmi
  obtain ⟨o,ho⟩ : ∃ o,o = Obj.map ents clock:=⟨_,rfl⟩
  rw [← ho] at hsrt ⊢
  clear ho
  repeat' (first
   |(with_reducible first|refine uK ?_|refine uX ?_|refine AW_seqk fun K hK=>?_|refine AW_block ?_)|((with_reducible first|refine rS hE ?_|refine RK_nilk ?_|refine RK_stepk fun K' hK'=>?_|refine AW_if fun X Y hX hY=>?_|refine AW_ret ?_|refine AW_skip ?_|refine AW_exit ?_);simp [*])|with_reducible refine rL hE ?_|(refine acall_same (hks.out) ?_ ?_ ?_;(iterate 2 (focus (simp [*] <;> fail)));simp [*])|(refine acall_view (hks.out) ?_ ?_ ?_;(iterate 2 (focus (simp [*] <;> fail)));simp [*])|with_reducible refine And.intro ?_ ?_|omega|(refine imp1 fun h=>?_))
  refine acall_pinrow (b:=bb) (o:=o) (j:=5) (ok:=fun es : List Int=>es.Perm (fndN b [] V)) (xs:=fun es=>(sortZ es).map iA) hsrt.out (by simp) (by omega) (by simp [idfL,AV.idf]) (by simp) (by simp [AState.ment,mentS,mentB,AV.ment,mentL,Ct.ment]) (by simp) (by omega) fun es hes=>?_
  have he:=hperm.out es hes
  clear hes
  simp only [he]
  repeat' (first
   |(with_reducible first|refine uK ?_|refine uX ?_|refine AW_seqk fun K hK=>?_|refine AW_block ?_)|((with_reducible first|refine rS hE ?_|refine RK_nilk ?_|refine RK_stepk fun K' hK'=>?_|refine AW_if fun X Y hX hY=>?_|refine AW_ret ?_|refine AW_skip ?_|refine AW_exit ?_);simp [*])|with_reducible refine rL hE ?_|with_reducible refine And.intro ?_ ?_|omega|(refine imp1 fun h=>?_))
  all_goals rw [List.take_of_length_le (by simp)]
  simp
end Go.Proofs.Ytlkijcflfnnbaaa
end
