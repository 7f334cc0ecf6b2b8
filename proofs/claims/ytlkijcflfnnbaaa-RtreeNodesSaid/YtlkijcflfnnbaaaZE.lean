/- Layer 38: times, parts -/
import Derived.Test.YtlkijcflfnnbaaaZC
import Derived.Test.YtlkijcflfnnbaaaZ9
import Derived.Test.YtlkijcflfnnbaaaZ6
set_option maxRecDepth 100000
set_option maxRecDepth 1000000
set_option linter.unusedSimpArgs false
set_option linter.unusedVariables false
section
namespace Go.Proofs.Ytlkijcflfnnbaaa
open Go.Am
@[simp] theorem idf_U (l : List UInt8) : idfL (l.map fun u=>uA u.toNat) = true:=by induction l with|nil=>rfl|cons a l ih=>simp [ih]
@[simp] theorem ment_U (d : Nat) (l : List UInt8) : mentL d (l.map fun u=>uA u.toNat) = false:=by induction l with|nil=>rfl|cons a l ih=>simp [ih]
@[simp] theorem ren_U (σ : Nat → Nat) (l : List UInt8) : renL σ (l.map fun u=>uA u.toNat) = l.map fun u=>uA u.toNat:=by induction l with|nil=>rfl|cons a l ih=>simp [ih]
def tmS (l : List UInt8) (n : Nat) : List Int:=((List.range n).filter fun k=>(l.take 20).any fun u=>u.toNat == k).map fun (k : Nat)=>(k : Int)
theorem tmS_succ (l : List UInt8) (n : Nat) : tmS l (n + 1) = tmS l n ++ if (l.take 20).any (fun u=>u.toNat == n) then [(n : Int)] else []:=by
 unfold tmS
 rw [List.range_succ,List.filter_append,List.map_append]
 congr 1
 simp only [List.filter_cons,List.filter_nil]
 split <;> rfl
theorem tmS_lt (l : List UInt8) : ∀ n,(tmS l n).Pairwise (· < ·) ∧ ∀ x ∈ tmS l n,0 ≤ x ∧ x < n:=by
 intro n
 induction n with
 |zero=>exact ⟨List.Pairwise.nil,fun x hx=>by simp [tmS] at hx⟩
 |succ n ih =>
  rw [tmS_succ]
  split
  ·refine ⟨?_,?_⟩
   ·rw [List.pairwise_append]
    refine ⟨ih.1,List.pairwise_singleton _ _,fun a ha b hb=>?_⟩
    simp at hb
    rw [hb]
    exact (ih.2 a ha).2
   ·intro x hx
    rcases List.mem_append.1 hx with h|h
    ·have:=ih.2 x h;omega
    ·simp at h;omega
  ·rw [List.append_nil]
   exact ⟨ih.1,fun x hx=>by have:=ih.2 x hx;omega⟩
theorem tmS_len (l : List UInt8) (n : Nat) : (tmS l n).length ≤ 20:=by
 have h1 : ((tmS l n).map Int.toNat).Nodup:=by
  have:=(tmS_lt l n)
  have hp : ((tmS l n).map Int.toNat).Pairwise (· < ·):=by
   rw [List.pairwise_map]
   refine this.1.imp_of_mem fun ha hb h=>?_
   have:=this.2 _ ha
   omega
  exact hp.imp (fun h=>by omega)
 have h2:=len_of_sub (m:=(l.take 20).map UInt8.toNat) h1 (fun k hk=>by
  obtain ⟨x,hx,rfl⟩:=List.mem_map.1 hk
  unfold tmS at hx
  obtain ⟨k,hkf,rfl⟩:=List.mem_map.1 hx
  have:=(List.mem_filter.1 hkf).2
  obtain ⟨u,hu,he⟩:=List.any_eq_true.1 this
  simp at he
  rw [show ((k : Int)).toNat = k by omega,← he]
  exact List.mem_map_of_mem hu)
 simp at h2
 omega
theorem pw_incB : ∀ {l : List Int},l.Pairwise (· < ·) → incB l = true
 |[],_=>rfl
 |[a],_=>rfl
 |a :: b :: l,h=>by
  rw [List.pairwise_cons] at h
  simp only [incB,Bool.and_eq_true,decide_eq_true_eq]
  exact ⟨h.1 b (by simp),pw_incB h.2⟩
def timesS (l : List UInt8) : List Int:=tmS l 256
theorem timesS_inc (l : List UInt8) : incB (timesS l) = true:=pw_incB (tmS_lt l 256).1
theorem timesS_len (l : List UInt8) : (timesS l).length ≤ 20:=tmS_len l 256
theorem s_times (l : List UInt8) (hl : l.length ≤ 9223372036854775807) : PSpec Try.prog 21 [.sl 1 (l.map fun u=>uA u.toNat)] (.sl 1 ((timesS l).map iA)):=by
 have hlI : (l.length : Int) ≤ 9223372036854775807:=by omega
 obtain ⟨T,hT⟩ : ∃ T : Nat → List Int,∀ n,T n = tmS l n:=⟨_,fun _=>rfl⟩
 have hT0 : T 0 = []:=by rw [hT];rfl
 have hTn : timesS l = T 256:=by rw [hT];rfl
 have hTs : ∀ n,T (n + 1) = T n ++ if (l.take 20).any (fun u=>u.toNat == n) then [(n : Int)] else []:=fun n=>by rw [hT,hT];exact tmS_succ l n
 have hTl : ∀ n,(T n).length ≤ 20:=fun n=>by rw [hT];exact tmS_len l n
 have hany0 : ∀ n i (h : i < l.length),i < 20 → l[i].toNat = n → (l.take 20).any (fun u=>u.toNat == n) = true:=fun n i h h2 h3=>by
  rw [List.any_eq_true]
  exact ⟨l[i],by rw [List.mem_take_iff_getElem];exact ⟨i,by omega,rfl⟩,by simp [h3]⟩
 have hany1 : ∀ n i,(l.take i).any (fun u=>u.toNat == n) = false → ¬ (i < l.length ∧ i < 20) → (l.take 20).any (fun u=>u.toNat == n) = false:=fun n i h h2=>by
  rw [Bool.eq_false_iff] at h ⊢
  intro h3
  apply h
  rw [List.any_eq_true] at h3 ⊢
  obtain ⟨u,hu,he⟩:=h3
  refine ⟨u,?_,he⟩
  rw [List.mem_take_iff_getElem] at hu ⊢
  obtain ⟨j,hj,hje⟩:=hu
  exact ⟨j,by omega,hje⟩
 have hany2 : ∀ n i (h : i < l.length),(l.take i).any (fun u=>u.toNat == n) = false → l[i].toNat ≠ n → (l.take (i + 1)).any (fun u=>u.toNat == n) = false:=fun n i h h1 h2=>by
  rw [List.take_succ_eq_append_getElem h,List.any_append,h1]
  simpa using h2
 rw [hTn]
 replace hT:=()
 replace hTn:=()
 replace hTs:=Hld.mk hTs
 replace hTl:=Hld.mk hTl
 replace hany0:=Hld.mk hany0
 replace hany1:=Hld.mk hany1
 replace hany2:=Hld.mk hany2
 refine PSpec_of Try.func21 rfl rfl (Nat.le_of_ble_eq_true rfl) (Nat.le_of_ble_eq_true rfl) ?_
 intro E hE
 refine AW_seqt ⟨[(0,.sl 1 (l.map fun u=>uA u.toNat))],[]⟩ ?_ (by
  intro K hK
  repeat' (first
   |(with_reducible first|refine uK ?_|refine uX ?_|refine AW_seqk fun K hK=>?_|refine AW_block ?_)|((with_reducible first|refine rS hE ?_|refine RK_nilk ?_|refine RK_stepk fun K' hK'=>?_|refine AW_if fun X Y hX hY=>?_|refine AW_ret ?_|refine AW_skip ?_|refine AW_exit ?_);simp [*])|with_reducible refine rL hE ?_|with_reducible refine And.intro ?_ ?_|omega|(refine imp1 fun h=>?_))
  all_goals simp)
 refine AW_seqt ⟨[(3,.v (.slice none 0 0)),(0,.sl 1 (l.map fun u=>uA u.toNat))],[]⟩ ?_ (by
  intro K hK
  repeat' (first
   |(with_reducible first|refine uK ?_|refine uX ?_|refine AW_seqk fun K hK=>?_|refine AW_block ?_)|((with_reducible first|refine rS hE ?_|refine RK_nilk ?_|refine RK_stepk fun K' hK'=>?_|refine AW_if fun X Y hX hY=>?_|refine AW_ret ?_|refine AW_skip ?_|refine AW_exit ?_);simp [*])|with_reducible refine rL hE ?_|with_reducible refine And.intro ?_ ?_|omega|(refine imp1 fun h=>?_))
  all_goals simp)
 refine AW_mkrow 3 40 3 1 (by simp) (by simp) (by simp) (by omega) ?_
 refine AW_seqt ⟨[(3,.own 40 1 0 (T 256).length)],[(40,.arr 3 1 ((T 256).map iA))]⟩ ?_ (by
  intro K hK
  repeat' (first
   |(with_reducible first|refine uK ?_|refine uX ?_|refine AW_seqk fun K hK=>?_|refine AW_block ?_)|((with_reducible first|refine rS hE ?_|refine RK_nilk ?_|refine RK_stepk fun K' hK'=>?_|refine AW_if fun X Y hX hY=>?_|refine AW_ret ?_|refine AW_skip ?_|refine AW_exit ?_);simp [*])|with_reducible refine rL hE ?_|with_reducible refine And.intro ?_ ?_|omega|(refine imp1 fun h=>?_))
  refine AW_loopk (G:=Nat) (fun n=>⟨[(4,iA n),(3,.own 40 1 0 (T n).length),(0,.sl 1 (l.map fun u=>uA u.toNat))],[(40,.arr 3 1 ((T n).map iA))]⟩) (fun n=>n ≤ 256) (fun n=>256 - n) 0 (Nat.zero_le _) (by simp [hT0]) ?_
  intro n hn K hK
  by_cases hlt : n < 256
  ·have hltI : (n : Int) < 256:=by omega
   have h1:=hTs.out n
   have h2:=hTl.out n
   obtain ⟨L,hL⟩ : ∃ L,T n = L:=⟨_,rfl⟩
   obtain ⟨M,hM⟩ : ∃ M,T (n + 1) = M:=⟨_,rfl⟩
   rw [hL] at h1 h2
   rw [hM] at h1
   have hLt : (L.map iA).take L.length = L.map iA:=List.take_of_length_le (by simp)
   refine AW_seqt ⟨[(7,bA true),(4,iA n),(3,.own 40 1 0 L.length),(0,.sl 1 (l.map fun u=>uA u.toNat))],[(40,.arr 3 1 (L.map iA))]⟩ ?_ (by
    intro K hK
    repeat' (first
     |(with_reducible first|refine uK ?_|refine uX ?_|refine AW_seqk fun K hK=>?_|refine AW_block ?_)|((with_reducible first|refine rS hE ?_|refine RK_nilk ?_|refine RK_stepk fun K' hK'=>?_|refine AW_if fun X Y hX hY=>?_|refine AW_ret ?_|refine AW_skip ?_|refine AW_exit ?_);simp [*])|with_reducible refine rL hE ?_|with_reducible refine And.intro ?_ ?_|omega|(refine imp1 fun h=>?_))
    all_goals simp)
   replace h1:=Hld.mk h1
   refine AW_seqt ⟨[(4,iA n),(3,.own 40 1 0 M.length),(0,.sl 1 (l.map fun u=>uA u.toNat))],[(40,.arr 3 1 (M.map iA))]⟩ ?_ (by
    intro K hK
    refine AW_block ?_
    repeat' (first
     |(with_reducible first|refine uK ?_|refine uX ?_|refine AW_seqk fun K hK=>?_|refine AW_block ?_)|((with_reducible first|refine rS hE ?_|refine RK_nilk ?_|refine RK_stepk fun K' hK'=>?_|refine AW_if fun X Y hX hY=>?_|refine AW_ret ?_|refine AW_skip ?_|refine AW_exit ?_);simp [*])|with_reducible refine rL hE ?_|with_reducible refine And.intro ?_ ?_|omega|(refine imp1 fun h=>?_))
    refine AW_loopk (G:=Nat) (fun i=>⟨[(5,iA i),(4,iA n),(3,.own 40 1 0 L.length),(0,.sl 1 (l.map fun u=>uA u.toNat))],[(40,.arr 3 1 (L.map iA))]⟩) (fun i=>(i ≤ l.length ∧ i ≤ 20) ∧ Hld ((l.take i).any (fun u=>u.toNat == n) = false)) (fun i=>20 - i) 0 ⟨⟨Nat.zero_le _,Nat.zero_le _⟩,⟨rfl⟩⟩ (by simp) ?_
    rintro i ⟨⟨hi1,hi2⟩,hi3⟩ K hK
    by_cases hc1 : i < l.length
    ·have hc1I : (i : Int) < l.length:=by omega
     by_cases hc2 : i < 20
     ·have hc2I : (i : Int) < 20:=by omega
      have ha0:=hany0.out n i hc1 hc2
      have ha2:=hany2.out n i hc1 hi3.out
      have hr2:=l[i].toNat_lt
      obtain ⟨r,hr⟩ : ∃ r,l[i].toNat = r:=⟨_,rfl⟩
      rw [hr] at ha0 ha2 hr2
      have hw : IntKind.i64.wrap (r : Int) = r:=wrap_in .i64 (by simp only [IntKind.min,IntKind.signed,IntKind.bits];simp <;> omega) (by simp only [IntKind.max,IntKind.signed,IntKind.bits];simp <;> omega)
      by_cases hrn : r = n
      ·have hM1 : M = L ++ [(n : Int)]:=by rw [h1.out,if_pos (ha0 hrn)]
       subst hrn
       replace hM1:=Hld.mk hM1
       clear ha0 ha2
       repeat' (first
        |(with_reducible first|refine uK ?_|refine uX ?_|refine AW_seqk fun K hK=>?_|refine AW_block ?_)|((with_reducible first|refine rS hE ?_|refine RK_nilk ?_|refine RK_stepk fun K' hK'=>?_|refine AW_if fun X Y hX hY=>?_|refine AW_ret ?_|refine AW_skip ?_|refine AW_exit ?_);simp [*])|with_reducible refine rL hE ?_|with_reducible refine And.intro ?_ ?_|omega|(refine imp1 fun h=>?_))
       simp [hM1.out]
      ·have ha:=Hld.mk (ha2 hrn)
       have hrnI : ¬ (r : Int) = n:=by omega
       clear ha0 ha2
       repeat' (first
        |(with_reducible first|refine uK ?_|refine uX ?_|refine AW_seqk fun K hK=>?_|refine AW_block ?_)|((with_reducible first|refine rS hE ?_|refine RK_nilk ?_|refine RK_stepk fun K' hK'=>?_|refine AW_if fun X Y hX hY=>?_|refine AW_ret ?_|refine AW_skip ?_|refine AW_exit ?_);simp [*])|with_reducible refine rL hE ?_|with_reducible refine And.intro ?_ ?_|omega|(refine imp1 fun h=>?_))
       exact ⟨i + 1,⟨⟨by omega,by omega⟩,ha⟩,by omega,by simp⟩
     ·have hc2I : ¬ (i : Int) < 20:=by omega
      have hM1 : M = L:=by rw [h1.out,if_neg (by rw [hany1.out n i hi3.out (fun h=>hc2 h.2)];simp),List.append_nil]
      replace hM1:=Hld.mk hM1
      repeat' (first
       |(with_reducible first|refine uK ?_|refine uX ?_|refine AW_seqk fun K hK=>?_|refine AW_block ?_)|((with_reducible first|refine rS hE ?_|refine RK_nilk ?_|refine RK_stepk fun K' hK'=>?_|refine AW_if fun X Y hX hY=>?_|refine AW_ret ?_|refine AW_skip ?_|refine AW_exit ?_);simp [*])|with_reducible refine rL hE ?_|with_reducible refine And.intro ?_ ?_|omega|(refine imp1 fun h=>?_))
      simp [hM1.out]
    ·have hc1I : ¬ (i : Int) < l.length:=by omega
     have hM1 : M = L:=by rw [h1.out,if_neg (by rw [hany1.out n i hi3.out (fun h=>hc1 h.1)];simp),List.append_nil]
     replace hM1:=Hld.mk hM1
     repeat' (first
      |(with_reducible first|refine uK ?_|refine uX ?_|refine AW_seqk fun K hK=>?_|refine AW_block ?_)|((with_reducible first|refine rS hE ?_|refine RK_nilk ?_|refine RK_stepk fun K' hK'=>?_|refine AW_if fun X Y hX hY=>?_|refine AW_ret ?_|refine AW_skip ?_|refine AW_exit ?_);simp [*])|with_reducible refine rL hE ?_|with_reducible refine And.intro ?_ ?_|omega|(refine imp1 fun h=>?_))
     simp [hM1.out])
   repeat' (first
    |(with_reducible first|refine uK ?_|refine uX ?_|refine AW_seqk fun K hK=>?_|refine AW_block ?_)|((with_reducible first|refine rS hE ?_|refine RK_nilk ?_|refine RK_stepk fun K' hK'=>?_|refine AW_if fun X Y hX hY=>?_|refine AW_ret ?_|refine AW_skip ?_|refine AW_exit ?_);simp [*])|with_reducible refine rL hE ?_|with_reducible refine And.intro ?_ ?_|omega|(refine imp1 fun h=>?_))
   exact ⟨n + 1,by omega,by omega,by simp [hM]⟩
  ·have hne : n = 256:=by omega
   subst hne
   repeat' (first
    |(with_reducible first|refine uK ?_|refine uX ?_|refine AW_seqk fun K hK=>?_|refine AW_block ?_)|((with_reducible first|refine rS hE ?_|refine RK_nilk ?_|refine RK_stepk fun K' hK'=>?_|refine AW_if fun X Y hX hY=>?_|refine AW_ret ?_|refine AW_skip ?_|refine AW_exit ?_);simp [*])|with_reducible refine rL hE ?_|with_reducible refine And.intro ?_ ?_|omega|(refine imp1 fun h=>?_))
   simp)
 repeat' (first
  |(with_reducible first|refine uK ?_|refine uX ?_|refine AW_seqk fun K hK=>?_|refine AW_block ?_)|((with_reducible first|refine rS hE ?_|refine RK_nilk ?_|refine RK_stepk fun K' hK'=>?_|refine AW_if fun X Y hX hY=>?_|refine AW_ret ?_|refine AW_skip ?_|refine AW_exit ?_);simp [*])|with_reducible refine rL hE ?_|with_reducible refine And.intro ?_ ?_|omega|(refine imp1 fun h=>?_))
 all_goals rw [List.take_of_length_le (by simp)]
 simp
end Go.Proofs.Ytlkijcflfnnbaaa
end
section
namespace Go.Proofs.Ytlkijcflfnnbaaa
open Go.Am
def prtA : List En → En → List Int → List En × En
 |l,r,[]=>(l,r)
 |l,r,s :: ss=>if r.t0 < s ∧ s < r.t1 then prtA (l ++ [{ r with t1:=s }]) { r with t0:=s } ss else prtA l r ss
def prtE (x : En) (ss : List Int) : List En:=(prtA [] x ss).1 ++ [(prtA [] x ss).2]
theorem prtA_snoc (s : Int) : ∀ (ss : List Int) (l : List En) (r : En),prtA l r (ss ++ [s]) = if (prtA l r ss).2.t0 < s ∧ s < (prtA l r ss).2.t1 then ((prtA l r ss).1 ++ [{ (prtA l r ss).2 with t1:=s }],{ (prtA l r ss).2 with t0:=s }) else prtA l r ss
 |[],l,r=>by rw [List.nil_append];rfl
 |q :: ss,l,r=>by
  rw [List.cons_append]
  unfold prtA
  split
  ·exact prtA_snoc s ss _ _
  ·exact prtA_snoc s ss _ _
theorem prtA_len : ∀ (ss : List Int) (l : List En) (r : En),(prtA l r ss).1.length ≤ l.length + ss.length
 |[],l,r=>by simp [prtA]
 |q :: ss,l,r=>by
  unfold prtA
  split
  ·have:=prtA_len ss (l ++ [{ r with t1:=q }]) { r with t0:=q }
   simp at this ⊢
   omega
  ·have:=prtA_len ss l r
   simp
   omega
theorem prtA_eq (a b : Int) : ∀ (ss : List Int) (l : List En) (r : En),r.t1 = b → a ≤ r.t0 → (∀ s ∈ ss,a < s → r.t0 = a ∨ r.t0 < s) → ss.Pairwise (· < ·) → prtA l r ss = cutA a b l r ss
 |[],l,r,_,_,_,_=>rfl
 |s :: ss,l,r,h1,h2,h3,h4=>by
  rw [List.pairwise_cons] at h4
  have hs:=h3 s (by simp)
  unfold prtA cutA
  rw [h1]
  by_cases hc : a < s ∧ s < b
  ·rw [if_pos hc,if_pos (by have:=hs hc.1;omega)]
   exact prtA_eq a b ss _ _ rfl (by show a ≤ s;omega) (fun s' hs' _=>.inr (h4.1 s' hs')) h4.2
  ·rw [if_neg hc,if_neg (by omega)]
   exact prtA_eq a b ss _ _ h1 h2 (fun s' hs'=>h3 s' (by simp [hs'])) h4.2
theorem prtE_eq {x : En} {ss : List Int} (h : ss.Pairwise (· < ·)) : prtE x ss = cutE x ss:=by
 unfold prtE
 rw [prtA_eq x.t0 x.t1 ss [] x rfl (Int.le_refl _) (fun _ _ _=>.inl rfl) h,cutA_eq]
 rfl
def prtL (l : List En) (ss : List Int) : List En:=l.flatMap fun x=>prtE x ss
theorem prtL_eq {l : List En} {ss : List Int} (h : incB ss = true) : prtL l ss = partsL l ss:=by
 unfold prtL partsL
 exact flatMap_congr' fun x _=>prtE_eq (incB_pw h)
theorem s_prt (l : List En) (ss : List Int) (hl : l.length ≤ 1000) (hs : ss.length ≤ 1000) : PSpec Try.prog 27 [.sl 7 (l.map encE),.sl 1 (ss.map iA)] (.sl 7 ((prtL l ss).map encE)):=by
 obtain ⟨F,hF⟩ : ∃ F : Nat → List En,∀ i,F i = prtL (l.take i) ss:=⟨_,fun _=>rfl⟩
 have hF0 : F 0 = []:=by rw [hF];rfl
 have hFe : F l.length = prtL l ss:=by rw [hF,List.take_length]
 have hEl : ∀ x,(prtE x ss).length ≤ 1001:=fun x=>by
  have:=prtA_len ss [] x
  simp [prtE] at this ⊢
  omega
 have hFs : ∀ i (h : i < l.length),F (i + 1) = F i ++ prtE l[i] ss:=fun i h=>by
  rw [hF,hF]
  unfold prtL
  rw [List.take_succ_eq_append_getElem h,List.flatMap_append]
  simp
 have hFl : ∀ i,i ≤ l.length → (F i).length ≤ 1001 * i:=by
  intro i
  induction i with
  |zero=>intro _;rw [hF0];simp
  |succ i ih =>
   intro h
   rw [hFs i (by omega),List.length_append]
   have:=ih (by omega)
   have:=hEl l[i]
   omega
 obtain ⟨st,hst⟩ : ∃ st : En → Nat → List En × En,∀ x i,st x i = prtA [] x (ss.take i):=⟨_,fun _ _=>rfl⟩
 have hs0 : ∀ x,st x 0 = ([],x):=fun x=>by rw [hst];rfl
 have hsl : ∀ x i,(st x i).1.length ≤ i:=fun x i=>by
  rw [hst]
  have:=prtA_len (ss.take i) [] x
  simp at this
  omega
 have hss : ∀ x i (h : i < ss.length),st x (i + 1) = if (st x i).2.t0 < ss[i] ∧ ss[i] < (st x i).2.t1 then ((st x i).1 ++ [{ (st x i).2 with t1:=ss[i] }],{ (st x i).2 with t0:=ss[i] }) else st x i:=fun x i h=>by
  rw [hst,hst,List.take_succ_eq_append_getElem h,prtA_snoc]
 have hse : ∀ x,(st x ss.length).1 ++ [(st x ss.length).2] = prtE x ss:=fun x=>by
  rw [hst,List.take_length]
  rfl
 rw [← hFe]
 replace hF:=()
 replace hFe:=()
 replace hst:=()
 clear hEl
 replace hFs:=Hld.mk hFs
 replace hFl:=Hld.mk hFl
 replace hss:=Hld.mk hss
 replace hsl:=Hld.mk hsl
 replace hse:=Hld.mk hse
 replace hs0:=Hld.mk hs0
 refine PSpec_of Try.func27 rfl rfl (Nat.le_of_ble_eq_true rfl) (Nat.le_of_ble_eq_true rfl) ?_
 intro E hE
 refine AW_seqt ⟨[(1,.sl 1 (ss.map iA)),(0,.sl 7 (l.map encE))],[]⟩ ?_ (by
  intro K hK
  repeat' (first
   |(with_reducible first|refine uK ?_|refine uX ?_|refine AW_seqk fun K hK=>?_|refine AW_block ?_)|((with_reducible first|refine rS hE ?_|refine RK_nilk ?_|refine RK_stepk fun K' hK'=>?_|refine AW_if fun X Y hX hY=>?_|refine AW_ret ?_|refine AW_skip ?_|refine AW_exit ?_);simp [*])|with_reducible refine rL hE ?_|with_reducible refine And.intro ?_ ?_|omega|(refine imp1 fun h=>?_))
  all_goals simp)
 refine AW_seqt ⟨[(5,.v (.slice none 0 0)),(1,.sl 1 (ss.map iA)),(0,.sl 7 (l.map encE))],[]⟩ ?_ (by
  intro K hK
  repeat' (first
   |(with_reducible first|refine uK ?_|refine uX ?_|refine AW_seqk fun K hK=>?_|refine AW_block ?_)|((with_reducible first|refine rS hE ?_|refine RK_nilk ?_|refine RK_stepk fun K' hK'=>?_|refine AW_if fun X Y hX hY=>?_|refine AW_ret ?_|refine AW_skip ?_|refine AW_exit ?_);simp [*])|with_reducible refine rL hE ?_|with_reducible refine And.intro ?_ ?_|omega|(refine imp1 fun h=>?_))
  all_goals simp)
 refine AW_mkrow 5 40 51 7 (by simp) (by simp) (by simp) (by omega) ?_
 refine AW_seqt ⟨[(5,.own 40 7 0 (F l.length).length)],[(40,.arr 51 7 ((F l.length).map encE))]⟩ ?_ (by
  intro K hK
  repeat' (first
   |(with_reducible first|refine uK ?_|refine uX ?_|refine AW_seqk fun K hK=>?_|refine AW_block ?_)|((with_reducible first|refine rS hE ?_|refine RK_nilk ?_|refine RK_stepk fun K' hK'=>?_|refine AW_if fun X Y hX hY=>?_|refine AW_ret ?_|refine AW_skip ?_|refine AW_exit ?_);simp [*])|with_reducible refine rL hE ?_|with_reducible refine And.intro ?_ ?_|omega|(refine imp1 fun h=>?_))
  refine AW_loopk (G:=Nat) (fun i=>⟨[(6,iA i),(5,.own 40 7 0 (F i).length),(1,.sl 1 (ss.map iA)),(0,.sl 7 (l.map encE))],[(40,.arr 51 7 ((F i).map encE))]⟩) (fun i=>i ≤ l.length) (fun i=>l.length - i) 0 (Nat.zero_le _) (by simp [hF0]) ?_
  intro i hi K hK
  by_cases hlt : i < l.length
  ·have hltI : (i : Int) < l.length:=by omega
   have h1:=hFs.out i hlt
   have h2:=hFl.out i hi
   obtain ⟨x,hx⟩ : ∃ x,l[i] = x:=⟨_,rfl⟩
   rw [hx,← hse.out x] at h1
   obtain ⟨L,hL⟩ : ∃ L,F i = L:=⟨_,rfl⟩
   obtain ⟨M,hM⟩ : ∃ M,F (i + 1) = M:=⟨_,rfl⟩
   rw [hL] at h1 h2
   rw [hM] at h1
   have hb0:=hs0.out x
   have h2b : L.length ≤ 1001000:=by omega
   replace h1:=Hld.mk h1
   clear h2
   refine AW_seqt ⟨[(13,bA true),(6,iA i),(5,.own 40 7 0 L.length),(1,.sl 1 (ss.map iA)),(0,.sl 7 (l.map encE))],[(40,.arr 51 7 (L.map encE))]⟩ ?_ (by
    intro K hK
    repeat' (first
     |(with_reducible first|refine uK ?_|refine uX ?_|refine AW_seqk fun K hK=>?_|refine AW_block ?_)|((with_reducible first|refine rS hE ?_|refine RK_nilk ?_|refine RK_stepk fun K' hK'=>?_|refine AW_if fun X Y hX hY=>?_|refine AW_ret ?_|refine AW_skip ?_|refine AW_exit ?_);simp [*])|with_reducible refine rL hE ?_|with_reducible refine And.intro ?_ ?_|omega|(refine imp1 fun h=>?_))
    all_goals simp)
   refine AW_seqt ⟨[(6,iA i),(5,.own 40 7 0 M.length),(1,.sl 1 (ss.map iA)),(0,.sl 7 (l.map encE))],[(40,.arr 51 7 (M.map encE))]⟩ ?_ (by
    intro K hK
    refine AW_block ?_
    refine AW_seqt ⟨[(7,.loc 7 0),(6,iA i),(5,.own 40 7 0 L.length),(1,.sl 1 (ss.map iA)),(0,.sl 7 (l.map encE))],[(7,.box 51 (encE x)),(40,.arr 51 7 (L.map encE))]⟩ ?_ (by
     intro K hK
     repeat' (first
      |(with_reducible first|refine uK ?_|refine uX ?_|refine AW_seqk fun K hK=>?_|refine AW_block ?_)|((with_reducible first|refine rS hE ?_|refine RK_nilk ?_|refine RK_stepk fun K' hK'=>?_|refine AW_if fun X Y hX hY=>?_|refine AW_ret ?_|refine AW_skip ?_|refine AW_exit ?_);simp [*])|with_reducible refine rL hE ?_|with_reducible refine And.intro ?_ ?_|omega|(refine imp1 fun h=>?_))
     all_goals simp)
    refine AW_seqt ⟨[(7,.loc 7 0),(6,iA i),(5,.own 40 7 0 (L.length + (st x ss.length).1.length)),(1,.sl 1 (ss.map iA)),(0,.sl 7 (l.map encE))],[(7,.box 51 (encE (st x ss.length).2)),(40,.arr 51 7 (L.map encE ++ (st x ss.length).1.map encE))]⟩ ?_ (by
     intro K hK
     repeat' (first
      |(with_reducible first|refine uK ?_|refine uX ?_|refine AW_seqk fun K hK=>?_|refine AW_block ?_)|((with_reducible first|refine rS hE ?_|refine RK_nilk ?_|refine RK_stepk fun K' hK'=>?_|refine AW_if fun X Y hX hY=>?_|refine AW_ret ?_|refine AW_skip ?_|refine AW_exit ?_);simp [*])|with_reducible refine rL hE ?_|with_reducible refine And.intro ?_ ?_|omega|(refine imp1 fun h=>?_))
     refine AW_loopk (G:=Nat) (fun j=>⟨[(8,iA j),(7,.loc 7 0),(6,iA i),(5,.own 40 7 0 (L.length + (st x j).1.length)),(1,.sl 1 (ss.map iA)),(0,.sl 7 (l.map encE))],[(7,.box 51 (encE (st x j).2)),(40,.arr 51 7 (L.map encE ++ (st x j).1.map encE))]⟩) (fun j=>j ≤ ss.length) (fun j=>ss.length - j) 0 (Nat.zero_le _) (by simp [hb0]) ?_
     intro j hj K hK
     by_cases hlj : j < ss.length
     ·have hljI : (j : Int) < ss.length:=by omega
      have g1:=hss.out x j hlj
      have g2:=hsl.out x j
      obtain ⟨s,hse⟩ : ∃ s,ss[j] = s:=⟨_,rfl⟩
      rw [hse] at g1
      obtain ⟨A,hA⟩ : ∃ A,(st x j).1 = A:=⟨_,rfl⟩
      obtain ⟨r,hr⟩ : ∃ r,(st x j).2 = r:=⟨_,rfl⟩
      rw [hA] at g1 g2
      rw [hr] at g1
      have hAt : (L.map encE ++ A.map encE).take (L.length + A.length) = L.map encE ++ A.map encE:=List.take_of_length_le (by simp)
      by_cases ha : r.t0 < s
      ·by_cases hb : s < r.t1
       ·rw [if_pos ⟨ha,hb⟩] at g1
        replace g1:=Hld.mk g1
        repeat' (first
         |(with_reducible first|refine useK (by assumption) ?_|refine useK2 (by assumption) ?_|refine useX (by assumption) ?_|refine AW_seqk fun K hK=>?_|refine AW_block ?_)|(with_reducible refine AW_regionS rfl (by rw [hE];decide) ?_;simp [*,encE])|with_reducible refine AW_region (by rw [hE];decide) ?_|((with_reducible show RK _ _ _ _ _ _);first|(refine RK_nilk ?_;simp [*,encE])|(refine RK_stepk fun K' hK'=>?_;simp [*,encE]))|with_reducible refine AW_drawq mixed (by rw [hE];decide) (by simp [newOK]) ?_|((with_reducible show RKQ _ _ _ _ _ _);first|refine RKQ_nilk ⟨by decide,?_⟩|(refine RKQ_stepk fun K' hK'=>?_;simp [*,encE]))|((with_reducible first|refine AW_if fun X Y hX hY=>?_|refine AW_ret ?_|refine AW_skip ?_|refine AW_exit ?_);simp [*,encE])|with_reducible refine And.intro ?_ ?_|omega|(refine imp1 fun h=>?_))
        exact ⟨j + 1,by omega,by omega,by simp [g1.out,encE];omega⟩
       ·rw [if_neg (fun h=>hb h.2)] at g1
        replace g1:=Hld.mk g1
        repeat' (first
         |(with_reducible first|refine useK (by assumption) ?_|refine useK2 (by assumption) ?_|refine useX (by assumption) ?_|refine AW_seqk fun K hK=>?_|refine AW_block ?_)|(with_reducible refine AW_regionS rfl (by rw [hE];decide) ?_;simp [*,encE])|with_reducible refine AW_region (by rw [hE];decide) ?_|((with_reducible show RK _ _ _ _ _ _);first|(refine RK_nilk ?_;simp [*,encE])|(refine RK_stepk fun K' hK'=>?_;simp [*,encE]))|with_reducible refine AW_drawq mixed (by rw [hE];decide) (by simp [newOK]) ?_|((with_reducible show RKQ _ _ _ _ _ _);first|refine RKQ_nilk ⟨by decide,?_⟩|(refine RKQ_stepk fun K' hK'=>?_;simp [*,encE]))|((with_reducible first|refine AW_if fun X Y hX hY=>?_|refine AW_ret ?_|refine AW_skip ?_|refine AW_exit ?_);simp [*,encE])|with_reducible refine And.intro ?_ ?_|omega|(refine imp1 fun h=>?_))
        exact ⟨j + 1,by omega,by omega,by simp [g1.out,hA,hr,encE]⟩
      ·rw [if_neg (fun h=>ha h.1)] at g1
       replace g1:=Hld.mk g1
       repeat' (first
        |(with_reducible first|refine useK (by assumption) ?_|refine useK2 (by assumption) ?_|refine useX (by assumption) ?_|refine AW_seqk fun K hK=>?_|refine AW_block ?_)|(with_reducible refine AW_regionS rfl (by rw [hE];decide) ?_;simp [*,encE])|with_reducible refine AW_region (by rw [hE];decide) ?_|((with_reducible show RK _ _ _ _ _ _);first|(refine RK_nilk ?_;simp [*,encE])|(refine RK_stepk fun K' hK'=>?_;simp [*,encE]))|with_reducible refine AW_drawq mixed (by rw [hE];decide) (by simp [newOK]) ?_|((with_reducible show RKQ _ _ _ _ _ _);first|refine RKQ_nilk ⟨by decide,?_⟩|(refine RKQ_stepk fun K' hK'=>?_;simp [*,encE]))|((with_reducible first|refine AW_if fun X Y hX hY=>?_|refine AW_ret ?_|refine AW_skip ?_|refine AW_exit ?_);simp [*,encE])|with_reducible refine And.intro ?_ ?_|omega|(refine imp1 fun h=>?_))
       exact ⟨j + 1,by omega,by omega,by simp [g1.out,hA,hr,encE]⟩
     ·have hje : j = ss.length:=by omega
      subst hje
      repeat' (first
       |(with_reducible first|refine uK ?_|refine uX ?_|refine AW_seqk fun K hK=>?_|refine AW_block ?_)|((with_reducible first|refine rS hE ?_|refine RK_nilk ?_|refine RK_stepk fun K' hK'=>?_|refine AW_if fun X Y hX hY=>?_|refine AW_ret ?_|refine AW_skip ?_|refine AW_exit ?_);simp [*])|with_reducible refine rL hE ?_|with_reducible refine And.intro ?_ ?_|omega|(refine imp1 fun h=>?_))
      simp)
    have g2:=hsl.out x ss.length
    obtain ⟨A,hA⟩ : ∃ A,(st x ss.length).1 = A:=⟨_,rfl⟩
    obtain ⟨r,hr⟩ : ∃ r,(st x ss.length).2 = r:=⟨_,rfl⟩
    have hM1:=h1.out
    rw [hA,hr] at hM1
    rw [hA] at g2
    rw [hA,hr]
    have hAt : (L.map encE ++ A.map encE).take (L.length + A.length) = L.map encE ++ A.map encE:=List.take_of_length_le (by simp)
    replace hM1:=Hld.mk hM1
    repeat' (first
     |(with_reducible first|refine uK ?_|refine uX ?_|refine AW_seqk fun K hK=>?_|refine AW_block ?_)|((with_reducible first|refine rS hE ?_|refine RK_nilk ?_|refine RK_stepk fun K' hK'=>?_|refine AW_if fun X Y hX hY=>?_|refine AW_ret ?_|refine AW_skip ?_|refine AW_exit ?_);simp [*])|with_reducible refine rL hE ?_|with_reducible refine And.intro ?_ ?_|omega|(refine imp1 fun h=>?_))
    simp [hM1.out]
    omega)
   repeat' (first
    |(with_reducible first|refine uK ?_|refine uX ?_|refine AW_seqk fun K hK=>?_|refine AW_block ?_)|((with_reducible first|refine rS hE ?_|refine RK_nilk ?_|refine RK_stepk fun K' hK'=>?_|refine AW_if fun X Y hX hY=>?_|refine AW_ret ?_|refine AW_skip ?_|refine AW_exit ?_);simp [*])|with_reducible refine rL hE ?_|with_reducible refine And.intro ?_ ?_|omega|(refine imp1 fun h=>?_))
   exact ⟨i + 1,by omega,by omega,by simp [hM]⟩
  ·have hie : i = l.length:=by omega
   subst hie
   repeat' (first
    |(with_reducible first|refine uK ?_|refine uX ?_|refine AW_seqk fun K hK=>?_|refine AW_block ?_)|((with_reducible first|refine rS hE ?_|refine RK_nilk ?_|refine RK_stepk fun K' hK'=>?_|refine AW_if fun X Y hX hY=>?_|refine AW_ret ?_|refine AW_skip ?_|refine AW_exit ?_);simp [*])|with_reducible refine rL hE ?_|with_reducible refine And.intro ?_ ?_|omega|(refine imp1 fun h=>?_))
   simp)
 repeat' (first
  |(with_reducible first|refine uK ?_|refine uX ?_|refine AW_seqk fun K hK=>?_|refine AW_block ?_)|((with_reducible first|refine rS hE ?_|refine RK_nilk ?_|refine RK_stepk fun K' hK'=>?_|refine AW_if fun X Y hX hY=>?_|refine AW_ret ?_|refine AW_skip ?_|refine AW_exit ?_);simp [*])|with_reducible refine rL hE ?_|with_reducible refine And.intro ?_ ?_|omega|(refine imp1 fun h=>?_))
 all_goals rw [List.take_of_length_le (by simp)]
 simp
end Go.Proofs.Ytlkijcflfnnbaaa
end
section
namespace Go.Proofs.Ytlkijcflfnnbaaa
open Go.Am
theorem mit {d : Nat} {c : Prop} [Decidable c] {x y : AV} : AV.ment d (if c then x else y) = if c then AV.ment d x else AV.ment d y:=by split <;> rfl
theorem ment_ints (d : Nat) : ∀ l : List Int,mentL d (l.map iA) = false
 |[]=>rfl
 |x :: l=>by simp [ment_ints d l]
noncomputable def c10 : Code:=nav [1,1,0,1,0,0,1,0,0,1,1,1,1,0] (Try.f24.body.getD .skip)
set_option maxHeartbeats 2000000 in
theorem reg10 {E : Env} (hE : E.n = Try.f24.ntmps) {l : List En} {b : Bx} {i : Nat} {O : List Int} {k : Int} {p : Nat} (hi : i < l.length) (hk : l[i].ref = k) (hp : p ≤ O.length) (hO : O.length ≤ 1000000) {Q : AExit → AState → Prop}
 (h : ∀ s' : AState,s'.le ⟨[(6,iA i),(5,.own 56 1 0 (O.length + 1)),(3,.ep (encX b)),(0,.sl 7 (l.map encE))],[(56,.arr 3 1 ((O.take p ++ k :: O.drop p).map iA))]⟩ → Q .normal s') :
 AW Try.prog E c10 ⟨[(7,iA p),(6,iA i),(5,.sl 1 (O.map iA)),(3,.ep (encX b)),(0,.sl 7 (l.map encE))],[]⟩ Q:=by
 replace h:=Kont.mk h
 refine AW_drawF (fun f=>⟨[(56,if f 0 && !f 4 then .own 56 1 0 0 else .u),(57,if f 1 then .sl 1 (O.map iA) else .u),(58,if f 2 then iA p else .u),(59,if f 3 then .sl 1 ((O.take p).map iA) else .u),(60,if f 4 && !f 11 then .own 56 1 0 p else .u),(61,if f 5 then .sl 7 (l.map encE) else .u),(62,if f 6 then iA i else .u),(63,if f 7 then .ep (encE l[i]) else .u),(64,if f 8 then .ep (iA k) else .u),(65,if f 9 then iA k else .u),
  (66,if f 10 then .own 66 1 0 1 else .u),(67,if f 11 && !f 15 then .own 56 1 0 (p + 1) else .u),(68,if f 12 then .sl 1 (O.map iA) else .u),(69,if f 13 then iA p else .u),(70,if f 14 then .sl 1 ((O.drop p).map iA) else .u),(71,if f 15 then .own 56 1 0 (O.length + 1) else .u),
  (7,iA p),(6,iA i),(5,if f 16 then .own 56 1 0 (O.length + 1) else .sl 1 (O.map iA)),(3,.ep (encX b)),(0,.sl 7 (l.map encE))],
  (if f 0 then [(56,.arr 3 1 ((if f 15 then O.take p ++ k :: O.drop p else if f 11 then O.take p ++ [k] else if f 4 then O.take p else []).map iA))] else []) ++ (if f 10 then [(66,.arr 3 1 [iA k])] else [])⟩) mixed (by rw [hE];decide) (by decide +kernel) (by decide +kernel) (by simp) ?_ ?_
 ·intro f n o hn hdep hnot hcl K2 hK2
  have hn17:=(List.getElem?_eq_some_iff.1 hn).1
  simp only [List.length_cons,List.length_nil] at hn17
  have e4 : f 4 = true → f 0 = true:=fun h=>by have:=hcl 4 _ rfl h;simp [Region.binds] at this;exact this.1
  have e11 : f 11 = true → f 4 = true ∧ f 10 = true:=fun h=>by have:=hcl 11 _ rfl h;simp [Region.binds] at this;exact ⟨this.1,this.2.1⟩
  have e15 : f 15 = true → f 11 = true ∧ f 14 = true:=fun h=>by have:=hcl 15 _ rfl h;simp [Region.binds] at this;exact ⟨this.1,this.2.1⟩
  have e16 : f 16 = true → f 15 = true ∧ f 1 = true ∧ f 12 = true:=fun h=>by have:=hcl 16 _ rfl h;simp [Region.binds] at this;obtain ⟨a,b,c,rest⟩:=this;exact ⟨a,c,by simp [rest]⟩
  have m1 : ∀ d,mentL d (List.take p (List.map iA O)) = false:=fun d=>by rw [← List.map_take];exact ment_ints _ _
  have m2 : ∀ d,mentL d (List.drop p (List.map iA O)) = false:=fun d=>by rw [← List.map_drop];exact ment_ints _ _
  have m3 : List.take O.length (List.map iA O) = List.map iA O:=List.take_of_length_le (by simp)
  have m4 : p + 1 + (O.length - p) = O.length + 1:=by omega
  have m5 : List.take (p + 1) (List.take p (List.map iA O) ++ [iA k]) = List.take p (List.map iA O) ++ [iA k]:=List.take_of_length_le (by simp;omega)
  clear hcl h
  iterate 17 (rcases n with _|n;rotate_left)
  ·simp at hn
  all_goals (simp only [List.getElem?_cons_succ,List.getElem?_cons_zero,Option.some.injEq] at hn;subst hn)
  all_goals simp [Region.binds] at hdep
  all_goals clear hn17
  all_goals (rcases h4 : f 4 <;> rcases h0 : f 0 <;> rcases h10 : f 10)
  all_goals try (exfalso;revert hdep hnot e4 e11;simp [h0,h10,h4];done)
  all_goals clear e4
  all_goals (try simp [h0,h10,h4,hnot,hdep] at e11)
  all_goals (try simp [*] at e15)
  all_goals (try simp [*] at e16)
  all_goals (simp [*,mit,List.take_take];(repeat' (first|with_reducible refine And.intro ?_ ?_|omega));refine hK2.h _ ?_;simp [*,List.take_take])
 ·intro f hf
  have h0:=hf 0 (by simp)
  have h4:=hf 4 (by simp)
  have h11:=hf 11 (by simp)
  have h15:=hf 15 (by simp)
  have h16:=hf 16 (by simp)
  refine h.h _ ?_
  simp [h0,h4,h11,h15,h16]
theorem srch_take {l : List En} {b : Bx} {i : Nat} (h : i < l.length) (hm : meetX l[i].b b = false) : srch (l.take (i + 1)) b = srch (l.take i) b:=by
 refine eq_of_mem (srch_lt _ _) (srch_lt _ _) fun k=>?_
 rw [mem_srch,mem_srch,List.take_succ_eq_append_getElem h]
 constructor
 ·rintro ⟨x,hx,h1,h2⟩
  rcases List.mem_append.1 hx with hx|hx
  ·exact ⟨x,hx,h1,h2⟩
  ·simp at hx
   rw [hx,hm] at h1
   cases h1
 ·rintro ⟨x,hx,h1,h2⟩
  exact ⟨x,List.mem_append_left _ hx,h1,h2⟩
theorem srch_take1 {l : List En} {b : Bx} {i : Nat} (h : i < l.length) (hm : meetX l[i].b b = true) {M : List Int} (hs : M.Pairwise (· < ·)) (hM : ∀ k,k ∈ M ↔ k ∈ srch (l.take i) b ∨ k = l[i].ref) : srch (l.take (i + 1)) b = M:=by
 refine eq_of_mem (srch_lt _ _) hs fun k=>?_
 rw [mem_srch,hM,mem_srch,List.take_succ_eq_append_getElem h]
 constructor
 ·rintro ⟨x,hx,h1,h2⟩
  rcases List.mem_append.1 hx with hx|hx
  ·exact .inl ⟨x,hx,h1,h2⟩
  ·simp at hx
   rw [hx] at h2
   exact .inr h2.symm
 ·rintro (⟨x,hx,h1,h2⟩|h2)
  ·exact ⟨x,List.mem_append_left _ hx,h1,h2⟩
  ·exact ⟨l[i],List.mem_append_right _ (by simp),hm,h2.symm⟩
theorem ins_lt {O : List Int} (hs : O.Pairwise (· < ·)) {p : Nat} {k : Int} (hp : p ≤ O.length) (h1 : ∀ j (h : j < O.length),j < p → O[j] < k) (h2 : ∀ h : p < O.length,k < O[p]) :
 (O.take p ++ k :: O.drop p).Pairwise (· < ·):=by
 have hget:=List.pairwise_iff_getElem.1 hs
 rw [List.pairwise_append,List.pairwise_cons]
 have ht : ∀ a ∈ O.take p,a < k:=fun a ha=>by
  obtain ⟨j,hj,rfl⟩:=List.mem_take_iff_getElem.1 ha
  exact h1 j (by omega) (by omega)
 have hd : ∀ a ∈ O.drop p,k < a:=fun a ha=>by
  obtain ⟨j,hj,rfl⟩:=List.mem_drop_iff_getElem.1 ha
  have h3:=h2 (by omega)
  by_cases hj0 : j = 0
  ·subst hj0;simpa using h3
  ·have:=hget p (j + p) (by omega) (by omega) (by omega)
   have e : O[p + j]'(by omega) = O[j + p]'(by omega):=by congr 1;omega
   omega
 refine ⟨hs.sublist (List.take_sublist _ _),⟨hd,hs.sublist (List.drop_sublist _ _)⟩,fun a ha c hc=>?_⟩
 rcases List.mem_cons.1 hc with rfl|hc
 ·exact ht a ha
 ·have:=ht a ha
  have:=hd c hc
  omega
theorem ins_mem {O : List Int} {p : Nat} {k x : Int} : x ∈ O.take p ++ k :: O.drop p ↔ x ∈ O ∨ x = k:=by
 conv=>rhs;rw [← List.take_append_drop p O]
 simp only [List.mem_append,List.mem_cons]
 constructor
 ·rintro (h|h|h)
  ·exact .inl (.inl h)
  ·exact .inr h
  ·exact .inl (.inr h)
 ·rintro ((h|h)|h)
  ·exact .inl h
  ·exact .inr (.inr h)
  ·exact .inr (.inl h)
theorem srch_len (l : List En) (b : Bx) : (srch l b).length ≤ l.length:=by
 have:=len_of_sub (m:=l.map En.ref) ((srch_lt l b).imp (fun h=>by omega) : (srch l b).Nodup) (fun k hk=>by
  obtain ⟨x,hx,_,rfl⟩:=mem_srch.1 hk
  exact List.mem_map_of_mem hx)
 simpa using this
theorem s_scan (l : List En) (b : Bx) (hl : l.length ≤ 1000000) : PSpec Try.prog 24 [.sl 7 (l.map encE),encX b] (.sl 1 ((srch l b).map iA)):=by
 obtain ⟨S,hS⟩ : ∃ S : Nat → List Int,∀ i,S i = srch (l.take i) b:=⟨_,fun _=>rfl⟩
 have hS0 : S 0 = []:=by rw [hS];simp [srch,fndE,sortZ]
 have hSe : S l.length = srch l b:=by rw [hS,List.take_length]
 have hSn : ∀ i (h : i < l.length),meetX l[i].b b = false → S (i + 1) = S i:=fun i h hm=>by rw [hS,hS];exact srch_take h hm
 have hSy : ∀ i (h : i < l.length) M,meetX l[i].b b = true → M.Pairwise (· < ·) → (∀ k,k ∈ M ↔ k ∈ S i ∨ k = l[i].ref) → S (i + 1) = M:=fun i h M hm h1 h2=>by
  rw [hS] at h2 ⊢
  exact srch_take1 h hm h1 h2
 have hSp : ∀ i,(S i).Pairwise (· < ·):=fun i=>by rw [hS];exact srch_lt _ _
 have hSl : ∀ i,(S i).length ≤ 1000000:=fun i=>by
  rw [hS]
  have:=srch_len (l.take i) b
  simp at this
  omega
 rw [← hSe]
 replace hS:=()
 replace hSe:=()
 replace hSn:=Hld.mk hSn
 replace hSy:=Hld.mk hSy
 replace hSp:=Hld.mk hSp
 replace hSl:=Hld.mk hSl
 refine PSpec_of Try.func24 rfl rfl (Nat.le_of_ble_eq_true rfl) (Nat.le_of_ble_eq_true rfl) ?_
 intro E hE
 refine AW_seqt ⟨[(3,.loc 3 0),(0,.sl 7 (l.map encE))],[(3,.box 23 (encX b))]⟩ ?_ (by
  intro K hK
  repeat' (first
   |(with_reducible first|refine uK ?_|refine uX ?_|refine AW_seqk fun K hK=>?_|refine AW_block ?_)|((with_reducible first|refine rS hE ?_|refine RK_nilk ?_|refine RK_stepk fun K' hK'=>?_|refine AW_if fun X Y hX hY=>?_|refine AW_ret ?_|refine AW_skip ?_|refine AW_exit ?_);simp [*])|with_reducible refine rL hE ?_|with_reducible refine And.intro ?_ ?_|omega|(refine imp1 fun h=>?_))
  all_goals simp)
 refine AW_freeze 3 (cb:=.box 23 (encX b)) (t:=⟨[(3,.ep (encX b)),(0,.sl 7 (l.map encE))],[]⟩) (by simp) (by simp) (by simp) ?_
 refine AW_seqt ⟨[(5,.v (.slice none 0 0)),(3,.ep (encX b)),(0,.sl 7 (l.map encE))],[]⟩ ?_ (by
  intro K hK
  repeat' (first
   |(with_reducible first|refine uK ?_|refine uX ?_|refine AW_seqk fun K hK=>?_|refine AW_block ?_)|((with_reducible first|refine rS hE ?_|refine RK_nilk ?_|refine RK_stepk fun K' hK'=>?_|refine AW_if fun X Y hX hY=>?_|refine AW_ret ?_|refine AW_skip ?_|refine AW_exit ?_);simp [*])|with_reducible refine rL hE ?_|with_reducible refine And.intro ?_ ?_|omega|(refine imp1 fun h=>?_))
  all_goals simp)
 refine AW_sle (s:=⟨[(5,.v (.slice none 0 0)),(3,.ep (encX b)),(0,.sl 7 (l.map encE))],[]⟩) (t:=⟨[(5,.sl 1 ((S 0).map iA)),(3,.ep (encX b)),(0,.sl 7 (l.map encE))],[]⟩) ?_ (fun j c' h=>h) ?_
 ·intro i
  simp only [AState.slot,lk]
  (repeat' split) <;> first|exact SLe_refl _|(rw [hS0];exact SLe_nil _ _)
 clear hS0
 refine AW_seqt ⟨[(5,.sl 1 ((S l.length).map iA))],[]⟩ ?_ (by
  intro K hK
  repeat' (first
   |(with_reducible first|refine uK ?_|refine uX ?_|refine AW_seqk fun K hK=>?_|refine AW_block ?_)|((with_reducible first|refine rS hE ?_|refine RK_nilk ?_|refine RK_stepk fun K' hK'=>?_|refine AW_if fun X Y hX hY=>?_|refine AW_ret ?_|refine AW_skip ?_|refine AW_exit ?_);simp [*])|with_reducible refine rL hE ?_|with_reducible refine And.intro ?_ ?_|omega|(refine imp1 fun h=>?_))
  refine AW_loopk (G:=Nat) (fun i=>⟨[(6,iA i),(5,.sl 1 ((S i).map iA)),(3,.ep (encX b)),(0,.sl 7 (l.map encE))],[]⟩) (fun i=>i ≤ l.length) (fun i=>l.length - i) 0 (Nat.zero_le _) (by simp) ?_
  intro i hi K hK
  by_cases hlt : i < l.length
  ·have hltI : (i : Int) < l.length:=by omega
   have hn:=hSn.out i hlt
   have hy:=hSy.out i hlt
   have hp:=hSp.out i
   have hOl:=hSl.out i
   have hme:=s_meets2 l[i].b b
   obtain ⟨O,hO⟩ : ∃ O,S i = O:=⟨_,rfl⟩
   obtain ⟨M,hM⟩ : ∃ M,S (i + 1) = M:=⟨_,rfl⟩
   rw [hO,hM] at hn hy
   rw [hO] at hp hOl
   refine AW_seqt ⟨[(11,bA true),(6,iA i),(5,.sl 1 (O.map iA)),(3,.ep (encX b)),(0,.sl 7 (l.map encE))],[]⟩ ?_ (by
    intro K hK
    repeat' (first
     |(with_reducible first|refine uK ?_|refine uX ?_|refine AW_seqk fun K hK=>?_|refine AW_block ?_)|((with_reducible first|refine rS hE ?_|refine RK_nilk ?_|refine RK_stepk fun K' hK'=>?_|refine AW_if fun X Y hX hY=>?_|refine AW_ret ?_|refine AW_skip ?_|refine AW_exit ?_);simp [*])|with_reducible refine rL hE ?_|with_reducible refine And.intro ?_ ?_|omega|(refine imp1 fun h=>?_))
    all_goals simp)
   refine AW_seqE (G:=Bool) (fun g=>if g then ⟨[(6,iA i),(5,.own 56 1 0 M.length),(3,.ep (encX b)),(0,.sl 7 (l.map encE))],[(56,.arr 3 1 (M.map iA))]⟩ else ⟨[(6,iA i),(5,.sl 1 (M.map iA)),(3,.ep (encX b)),(0,.sl 7 (l.map encE))],[]⟩) (fun _=>True) ?_ ?_
   ·rintro (_|_) _
    ·simp only [Bool.false_eq_true,if_false]
     repeat' (first
      |(with_reducible first|refine uK ?_|refine uX ?_|refine AW_seqk fun K hK=>?_|refine AW_block ?_)|((with_reducible first|refine rS hE ?_|refine RK_nilk ?_|refine RK_stepk fun K' hK'=>?_|refine AW_if fun X Y hX hY=>?_|refine AW_ret ?_|refine AW_skip ?_|refine AW_exit ?_);simp [*])|with_reducible refine rL hE ?_|with_reducible refine And.intro ?_ ?_|omega|(refine imp1 fun h=>?_))
     exact ⟨i + 1,by omega,by omega,by simp [hM]⟩
    ·simp only [if_true]
     refine AW_freeze 56 (cb:=.arr 3 1 (M.map iA)) (t:=⟨[(6,iA i),(5,.sl 1 (M.map iA)),(3,.ep (encX b)),(0,.sl 7 (l.map encE))],[]⟩) (by simp) (by simp [List.take_of_length_le]) (by simp) ?_
     repeat' (first
      |(with_reducible first|refine uK ?_|refine uX ?_|refine AW_seqk fun K hK=>?_|refine AW_block ?_)|((with_reducible first|refine rS hE ?_|refine RK_nilk ?_|refine RK_stepk fun K' hK'=>?_|refine AW_if fun X Y hX hY=>?_|refine AW_ret ?_|refine AW_skip ?_|refine AW_exit ?_);simp [*])|with_reducible refine rL hE ?_|with_reducible refine And.intro ?_ ?_|omega|(refine imp1 fun h=>?_))
     exact ⟨i + 1,by omega,by omega,by simp [hM]⟩
   intro K2 hK2
   refine AW_block ?_
   rcases hm : meetX l[i].b b with _|_
   ·have hMO:=hn hm
    rw [hm] at hme
    subst hMO
    replace hme:=Hld.mk hme
    clear hn hy hm hp
    repeat' (first
     |(with_reducible first|refine useK (by assumption) ?_|refine useK2 (by assumption) ?_|refine useX (by assumption) ?_|refine AW_seqk fun K hK=>?_|refine AW_block ?_)|(with_reducible refine AW_regionS rfl (by rw [hE];decide) ?_;simp [*,encX,En.b])|with_reducible refine AW_region (by rw [hE];decide) ?_|((with_reducible show RK _ _ _ _ _ _);first|(refine RK_nilk ?_;simp [*,encX,En.b])|(refine RK_stepk fun K' hK'=>?_;simp [*,encX,En.b]))|with_reducible refine AW_drawq mixed (by rw [hE];decide) (by simp [newOK]) ?_|((with_reducible show RKQ _ _ _ _ _ _);first|refine RKQ_nilk ⟨by decide,?_⟩|(refine RKQ_stepk fun K' hK'=>?_;simp [*,encX,En.b]))|((with_reducible first|refine AW_if fun X Y hX hY=>?_|refine AW_ret ?_|refine AW_skip ?_|refine AW_exit ?_);simp [*,encX,En.b])|((first|refine acall_same (hme.out) ?_ ?_ ?_|refine call_same (hme.out) ?_ ?_ ?_);(focus (simp [*,encX,En.b] <;> fail));(focus (simp [*,encX,En.b] <;> fail));simp [*,encX,En.b])|((first|refine acall_view (hme.out) ?_ ?_ ?_|refine call_view (hme.out) ?_ ?_ ?_);(focus (simp [*,encX,En.b] <;> fail));(focus (simp [*,encX,En.b] <;> fail));simp [*,encX,En.b])|with_reducible refine And.intro ?_ ?_|omega|(refine imp1 fun h=>?_))
    exact ⟨false,by simp [encX]⟩
   ·replace hy:=fun M=>hy M hm
    rw [hm] at hme
    obtain ⟨k,hk⟩ : ∃ k,l[i].ref = k:=⟨_,rfl⟩
    rw [hk] at hy
    have hy1 : ∀ p (hp1 : p ≤ O.length),(∀ j (h : j < O.length),j < p → O[j] < k) → (∀ h : p < O.length,k < O[p]) → M = O.take p ++ k :: O.drop p:=fun p h1 h2 h3=>hy _ (ins_lt hp h1 h2 h3) fun x=>ins_mem
    have hy2 : k ∈ O → M = O:=fun h=>hy _ hp fun x=>⟨fun hx=>.inl hx,fun hx=>hx.elim id fun e=>e ▸ h⟩
    replace hy1:=Hld.mk hy1
    replace hy2:=Hld.mk hy2
    replace hme:=Hld.mk hme
    clear hn hy hm hp hM hO
    refine AW_seqt ⟨[(6,iA i),(5,.sl 1 (O.map iA)),(3,.ep (encX b)),(0,.sl 7 (l.map encE))],[]⟩ ?_ (by
     intro K hK
     repeat' (first
      |(with_reducible first|refine useK (by assumption) ?_|refine useK2 (by assumption) ?_|refine useX (by assumption) ?_|refine AW_seqk fun K hK=>?_|refine AW_block ?_)|(with_reducible refine AW_regionS rfl (by rw [hE];decide) ?_;simp [*,encX,En.b])|with_reducible refine AW_region (by rw [hE];decide) ?_|((with_reducible show RK _ _ _ _ _ _);first|(refine RK_nilk ?_;simp [*,encX,En.b])|(refine RK_stepk fun K' hK'=>?_;simp [*,encX,En.b]))|with_reducible refine AW_drawq mixed (by rw [hE];decide) (by simp [newOK]) ?_|((with_reducible show RKQ _ _ _ _ _ _);first|refine RKQ_nilk ⟨by decide,?_⟩|(refine RKQ_stepk fun K' hK'=>?_;simp [*,encX,En.b]))|((with_reducible first|refine AW_if fun X Y hX hY=>?_|refine AW_ret ?_|refine AW_skip ?_|refine AW_exit ?_);simp [*,encX,En.b])|((first|refine acall_same (hme.out) ?_ ?_ ?_|refine call_same (hme.out) ?_ ?_ ?_);(focus (simp [*,encX,En.b] <;> fail));(focus (simp [*,encX,En.b] <;> fail));simp [*,encX,En.b])|((first|refine acall_view (hme.out) ?_ ?_ ?_|refine call_view (hme.out) ?_ ?_ ?_);(focus (simp [*,encX,En.b] <;> fail));(focus (simp [*,encX,En.b] <;> fail));simp [*,encX,En.b])|with_reducible refine And.intro ?_ ?_|omega|(refine imp1 fun h=>?_))
     all_goals simp [encX])
    clear hme
    refine AW_seqt ⟨[(7,iA 0),(6,iA i),(5,.sl 1 (O.map iA)),(3,.ep (encX b)),(0,.sl 7 (l.map encE))],[]⟩ ?_ (by
     intro K hK
     repeat' (first
      |(with_reducible first|refine uK ?_|refine uX ?_|refine AW_seqk fun K hK=>?_|refine AW_block ?_)|((with_reducible first|refine rS hE ?_|refine RK_nilk ?_|refine RK_stepk fun K' hK'=>?_|refine AW_if fun X Y hX hY=>?_|refine AW_ret ?_|refine AW_skip ?_|refine AW_exit ?_);simp [*])|with_reducible refine rL hE ?_|with_reducible refine And.intro ?_ ?_|omega|(refine imp1 fun h=>?_))
     all_goals simp)
    refine AW_seqE (G:=Nat) (fun p=>⟨[(7,iA p),(6,iA i),(5,.sl 1 (O.map iA)),(3,.ep (encX b)),(0,.sl 7 (l.map encE))],[]⟩) (fun p=>p ≤ O.length ∧ (∀ j (h : j < O.length),j < p → O[j] < k) ∧ (∀ h : p < O.length,k ≤ O[p])) ?_ ?_
    ·rintro p ⟨hp1,hp2,hp3⟩
     by_cases hpe : p = O.length
     ·have hM1:=Hld.mk (hy1.out p hp1 hp2 fun h=>by omega)
      have hpeI : (O.length : Int) = p:=by omega
      clear hp2 hp3 hy1 hy2
      refine AW_seqt ⟨[(55,bA true),(7,iA p),(6,iA i),(5,.sl 1 (O.map iA)),(3,.ep (encX b)),(0,.sl 7 (l.map encE))],[]⟩ ?_ (by
       intro K hK
       repeat' (first
        |(with_reducible first|refine useK (by assumption) ?_|refine useK2 (by assumption) ?_|refine useX (by assumption) ?_|refine AW_seqk fun K hK=>?_|refine AW_block ?_)|(with_reducible refine AW_regionS rfl (by rw [hE];decide) ?_;simp [*])|with_reducible refine AW_region (by rw [hE];decide) ?_|((with_reducible show RK _ _ _ _ _ _);first|(refine RK_nilk ?_;simp [*])|(refine RK_stepk fun K' hK'=>?_;simp [*]))|with_reducible refine AW_drawq mixed (by rw [hE];decide) (by simp [newOK]) ?_|((with_reducible show RKQ _ _ _ _ _ _);first|refine RKQ_nilk ⟨by decide,?_⟩|(refine RKQ_stepk fun K' hK'=>?_;simp [*]))|((with_reducible first|refine AW_if fun X Y hX hY=>?_|refine AW_ret ?_|refine AW_skip ?_|refine AW_exit ?_);simp [*])|with_reducible refine And.intro ?_ ?_|omega|(refine imp1 fun h=>?_))
       all_goals simp)
      refine AW_if fun X Y hX hY=>?_
      simp
      refine uX ?_
      refine AW_le (t:=⟨[(7,iA p),(6,iA i),(5,.sl 1 (O.map iA)),(3,.ep (encX b)),(0,.sl 7 (l.map encE))],[]⟩) (by simp) ?_
      refine reg10 hE hlt hk hp1 hOl fun s' hs'=>?_
      have hMl : M.length = O.length + 1:=by rw [hM1.out];simp;omega
      have hMm:=congrArg (List.map iA) hM1.out
      refine hK2.h s' ⟨true,trivial,?_⟩
      simpa [hMl,hMm] using hs'
     ·have hpl : p < O.length:=by omega
      have hpeI : ¬ (p : Int) = O.length:=by omega
      obtain ⟨v,hv⟩ : ∃ v,O[p] = v:=⟨_,rfl⟩
      have hkv:=hp3 hpl
      rw [hv] at hkv
      by_cases hvk : v = k
      ·have hMO:=hy2.out (by rw [← hvk,← hv];exact List.getElem_mem hpl)
       subst hMO
       clear hp2 hp3 hy1 hy2
       repeat' (first
        |(with_reducible first|refine useK (by assumption) ?_|refine useK2 (by assumption) ?_|refine useX (by assumption) ?_|refine AW_seqk fun K hK=>?_|refine AW_block ?_)|(with_reducible refine AW_regionS rfl (by rw [hE];decide) ?_;simp [*])|with_reducible refine AW_region (by rw [hE];decide) ?_|((with_reducible show RK _ _ _ _ _ _);first|(refine RK_nilk ?_;simp [*])|(refine RK_stepk fun K' hK'=>?_;simp [*]))|with_reducible refine AW_drawq mixed (by rw [hE];decide) (by simp [newOK]) ?_|((with_reducible show RKQ _ _ _ _ _ _);first|refine RKQ_nilk ⟨by decide,?_⟩|(refine RKQ_stepk fun K' hK'=>?_;simp [*]))|((with_reducible first|refine AW_if fun X Y hX hY=>?_|refine AW_ret ?_|refine AW_skip ?_|refine AW_exit ?_);simp [*])|with_reducible refine And.intro ?_ ?_|omega|(refine imp1 fun h=>?_))
       exact ⟨false,by simp⟩
      ·have hM1:=Hld.mk (hy1.out p hp1 hp2 fun h=>by rw [hv];omega)
       clear hp2 hp3 hy1 hy2
       refine AW_seqt ⟨[(55,bA true),(7,iA p),(6,iA i),(5,.sl 1 (O.map iA)),(3,.ep (encX b)),(0,.sl 7 (l.map encE))],[]⟩ ?_ (by
        intro K hK
        repeat' (first
         |(with_reducible first|refine useK (by assumption) ?_|refine useK2 (by assumption) ?_|refine useX (by assumption) ?_|refine AW_seqk fun K hK=>?_|refine AW_block ?_)|(with_reducible refine AW_regionS rfl (by rw [hE];decide) ?_;simp [*])|with_reducible refine AW_region (by rw [hE];decide) ?_|((with_reducible show RK _ _ _ _ _ _);first|(refine RK_nilk ?_;simp [*])|(refine RK_stepk fun K' hK'=>?_;simp [*]))|with_reducible refine AW_drawq mixed (by rw [hE];decide) (by simp [newOK]) ?_|((with_reducible show RKQ _ _ _ _ _ _);first|refine RKQ_nilk ⟨by decide,?_⟩|(refine RKQ_stepk fun K' hK'=>?_;simp [*]))|((with_reducible first|refine AW_if fun X Y hX hY=>?_|refine AW_ret ?_|refine AW_skip ?_|refine AW_exit ?_);simp [*])|with_reducible refine And.intro ?_ ?_|omega|(refine imp1 fun h=>?_))
        all_goals simp)
       refine AW_if fun X Y hX hY=>?_
       simp
       refine uX ?_
       refine AW_le (t:=⟨[(7,iA p),(6,iA i),(5,.sl 1 (O.map iA)),(3,.ep (encX b)),(0,.sl 7 (l.map encE))],[]⟩) (by simp) ?_
       refine reg10 hE hlt hk hp1 hOl fun s' hs'=>?_
       have hMl : M.length = O.length + 1:=by rw [hM1.out];simp;omega
       have hMm:=congrArg (List.map iA) hM1.out
       refine hK2.h s' ⟨true,trivial,?_⟩
       simpa [hMl,hMm] using hs'
    ·intro K3 hK3
     refine AW_block ?_
     refine AW_loopk (G:=Nat) (fun p=>⟨[(7,iA p),(6,iA i),(5,.sl 1 (O.map iA)),(3,.ep (encX b)),(0,.sl 7 (l.map encE))],[]⟩) (fun p=>p ≤ O.length ∧ Hld (∀ j (h : j < O.length),j < p → O[j] < k)) (fun p=>O.length - p) 0 ⟨Nat.zero_le _,⟨fun j h hj=>by omega⟩⟩ (by simp) ?_
     rintro p ⟨hp1,hp2⟩ K hK
     by_cases hpl : p < O.length
     ·have hplI : (p : Int) < O.length:=by omega
      obtain ⟨v,hv⟩ : ∃ v,O[p] = v:=⟨_,rfl⟩
      by_cases hvk : v < k
      ·have hp2' : Hld (∀ j (h : j < O.length),j < p + 1 → O[j] < k):=⟨fun j h hj=>by
        by_cases hjp : j = p
        ·subst hjp;rw [hv];exact hvk
        ·exact hp2.out j h (by omega)⟩
       repeat' (first
        |(with_reducible first|refine useK (by assumption) ?_|refine useK2 (by assumption) ?_|refine useX (by assumption) ?_|refine AW_seqk fun K hK=>?_|refine AW_block ?_)|(with_reducible refine AW_regionS rfl (by rw [hE];decide) ?_;simp [*])|with_reducible refine AW_region (by rw [hE];decide) ?_|((with_reducible show RK _ _ _ _ _ _);first|(refine RK_nilk ?_;simp [*])|(refine RK_stepk fun K' hK'=>?_;simp [*]))|with_reducible refine AW_drawq mixed (by rw [hE];decide) (by simp [newOK]) ?_|((with_reducible show RKQ _ _ _ _ _ _);first|refine RKQ_nilk ⟨by decide,?_⟩|(refine RKQ_stepk fun K' hK'=>?_;simp [*]))|((with_reducible first|refine AW_if fun X Y hX hY=>?_|refine AW_ret ?_|refine AW_skip ?_|refine AW_exit ?_);simp [*])|with_reducible refine And.intro ?_ ?_|omega|(refine imp1 fun h=>?_))
       exact ⟨p + 1,⟨by omega,hp2'⟩,by omega,by simp⟩
      ·have hp3 : Hld (∀ h : p < O.length,k ≤ O[p]):=⟨fun h=>by rw [hv];omega⟩
       repeat' (first
        |(with_reducible first|refine useK (by assumption) ?_|refine useK2 (by assumption) ?_|refine useX (by assumption) ?_|refine AW_seqk fun K hK=>?_|refine AW_block ?_)|(with_reducible refine AW_regionS rfl (by rw [hE];decide) ?_;simp [*])|with_reducible refine AW_region (by rw [hE];decide) ?_|((with_reducible show RK _ _ _ _ _ _);first|(refine RK_nilk ?_;simp [*])|(refine RK_stepk fun K' hK'=>?_;simp [*]))|with_reducible refine AW_drawq mixed (by rw [hE];decide) (by simp [newOK]) ?_|((with_reducible show RKQ _ _ _ _ _ _);first|refine RKQ_nilk ⟨by decide,?_⟩|(refine RKQ_stepk fun K' hK'=>?_;simp [*]))|((with_reducible first|refine AW_if fun X Y hX hY=>?_|refine AW_ret ?_|refine AW_skip ?_|refine AW_exit ?_);simp [*])|with_reducible refine And.intro ?_ ?_|omega|(refine imp1 fun h=>?_))
       exact ⟨p,⟨hp1,hp2.out,hp3.out⟩,by simp⟩
     ·have hplI : ¬ (p : Int) < O.length:=by omega
      have hp3 : Hld (∀ h : p < O.length,k ≤ O[p]):=⟨fun h=>absurd h hpl⟩
      repeat' (first
       |(with_reducible first|refine useK (by assumption) ?_|refine useK2 (by assumption) ?_|refine useX (by assumption) ?_|refine AW_seqk fun K hK=>?_|refine AW_block ?_)|(with_reducible refine AW_regionS rfl (by rw [hE];decide) ?_;simp [*])|with_reducible refine AW_region (by rw [hE];decide) ?_|((with_reducible show RK _ _ _ _ _ _);first|(refine RK_nilk ?_;simp [*])|(refine RK_stepk fun K' hK'=>?_;simp [*]))|with_reducible refine AW_drawq mixed (by rw [hE];decide) (by simp [newOK]) ?_|((with_reducible show RKQ _ _ _ _ _ _);first|refine RKQ_nilk ⟨by decide,?_⟩|(refine RKQ_stepk fun K' hK'=>?_;simp [*]))|((with_reducible first|refine AW_if fun X Y hX hY=>?_|refine AW_ret ?_|refine AW_skip ?_|refine AW_exit ?_);simp [*])|with_reducible refine And.intro ?_ ?_|omega|(refine imp1 fun h=>?_))
      exact ⟨p,⟨hp1,hp2.out,hp3.out⟩,by simp⟩
  ·have hie : i = l.length:=by omega
   subst hie
   repeat' (first
    |(with_reducible first|refine uK ?_|refine uX ?_|refine AW_seqk fun K hK=>?_|refine AW_block ?_)|((with_reducible first|refine rS hE ?_|refine RK_nilk ?_|refine RK_stepk fun K' hK'=>?_|refine AW_if fun X Y hX hY=>?_|refine AW_ret ?_|refine AW_skip ?_|refine AW_exit ?_);simp [*])|with_reducible refine rL hE ?_|with_reducible refine And.intro ?_ ?_|omega|(refine imp1 fun h=>?_))
   simp)
 repeat' (first
  |(with_reducible first|refine uK ?_|refine uX ?_|refine AW_seqk fun K hK=>?_|refine AW_block ?_)|((with_reducible first|refine rS hE ?_|refine RK_nilk ?_|refine RK_stepk fun K' hK'=>?_|refine AW_if fun X Y hX hY=>?_|refine AW_ret ?_|refine AW_skip ?_|refine AW_exit ?_);simp [*])|with_reducible refine rL hE ?_|with_reducible refine And.intro ?_ ?_|omega|(refine imp1 fun h=>?_))
end Go.Proofs.Ytlkijcflfnnbaaa
end
section
namespace Go.Proofs.Ytlkijcflfnnbaaa
open Go.Am
theorem bxC_in (c : Cu) : -8 ≤ (bxC c).x0 ∧ (bxC c).x0 ≤ (bxC c).x1 ∧ (bxC c).x1 ≤ 100 ∧ 0 ≤ (bxC c).y0 ∧ (bxC c).y0 ≤ (bxC c).y1 ∧ (bxC c).y1 ≤ 100 ∧ 0 ≤ (bxC c).t0 ∧ (bxC c).t0 ≤ (bxC c).t1 ∧ (bxC c).t1 ≤ 300:=by
 unfold bxC
 simp only
 have h1:=Nat.mod_lt c.x.toNat (show 0 < 64 by omega)
 have h2:=Nat.mod_lt c.y.toNat (show 0 < 64 by omega)
 have h3:=Nat.mod_lt c.t.toNat (show 0 < 128 by omega)
 have h4:=Nat.mod_lt c.w.toNat (show 0 < 32 by omega)
 have h5:=Nat.mod_lt c.h.toNat (show 0 < 32 by omega)
 have h6:=Nat.mod_lt c.l.toNat (show 0 < 128 by omega)
 omega
theorem chk_bxC (c : Cu) : chkX (bxC c) = 0:=by
 have:=bxC_in c
 exact chk_ok (by simp only [Rg];omega) (by omega) (by omega) (by omega)
theorem errL_of : ∀ {l : List Bx},(∀ b ∈ l,chkX b = 0) → errL l = 0
 |[],_=>rfl
 |b :: l,h=>by
  have h1:=h b (by simp)
  have h2:=errL_of (l:=l) fun c hc=>h c (by simp [hc])
  simp [errL,h1,h2]
theorem ents_chk (l : List It) : ∀ x ∈ entS l,chkX x.b = 0:=fun x hx=>by
 obtain ⟨y,_,rfl⟩:=List.mem_map.1 hx
 exact chk_bxC y.c
theorem errL_ents (l : List It) : errL ((entS l).map En.b) = 0:=errL_of fun b hb=>by
 obtain ⟨x,hx,rfl⟩:=List.mem_map.1 hb
 exact ents_chk l x hx
theorem ents_len (l : List It) : (entS l).length ≤ 200:=by simp [entS];omega
theorem cutR_len (a b : Int) : ∀ (ss : List Int) (r : En),(cutR a b r ss).length ≤ ss.length + 1
 |[],r=>by simp [cutR]
 |s :: ss,r=>by
  have h1:=cutR_len a b ss r
  have h2:=cutR_len a b ss { r with t0:=s }
  unfold cutR
  split <;> simp <;> omega
theorem partsL_len (l : List En) (ss : List Int) : (partsL l ss).length ≤ l.length * (ss.length + 1):=by
 induction l with
 |nil=>simp [partsL]
 |cons x l ih =>
  have h1:=cutR_len x.t0 x.t1 ss x
  have h2 : (partsL (x :: l) ss).length = (cutE x ss).length + (partsL l ss).length:=by simp [partsL]
  have h3 : (cutE x ss).length ≤ ss.length + 1:=h1
  simp only [List.length_cons,Nat.succ_mul]
  omega
theorem parts_len (l : List It) (T : List UInt8) : (partsL (entS l) (timesS T)).length ≤ 4200:=by
 have h1:=partsL_len (entS l) (timesS T)
 have h2:=ents_len l
 have h3:=timesS_len T
 have h4 : (entS l).length * ((timesS T).length + 1) ≤ 200 * 21:=Nat.mul_le_mul h2 (by omega)
 omega
theorem m_bt (l : List It) (T : List UInt8) : MSpec Try.prog 20 [.sl 7 ((entS l).map encE),.sl 1 ((timesS T).map iA)] [] (fun res _=>BuildR (entS l) (timesS T) res) :=
 m_build (entS l) (timesS T) (by have:=ents_len l;omega) (by have:=timesS_len T;omega) (by have:=parts_len l T;omega)
theorem acall_bt {E : Env} {s : AState} {d : Option Tmp} {K : AState → Prop} {l : List It} {T : List UInt8} (hk : ∀ tr,Hld (TreeB (entS l) (timesS T) tr) → K (s.put d (.tup [.ep (encT tr),iA 0]))) :
 ACall Try.prog E 20 [.sl 7 ((entS l).map encE),.sl 1 ((timesS T).map iA)] s d K :=
 acall_rel (m_bt l T) (by simp) (fun r h=>h.idf) fun r hr=>by
  obtain ⟨tr,rfl,ht⟩:=hr.ok (errL_ents l) (timesS_inc T)
  exact hk tr ⟨ht⟩
end Go.Proofs.Ytlkijcflfnnbaaa
end
