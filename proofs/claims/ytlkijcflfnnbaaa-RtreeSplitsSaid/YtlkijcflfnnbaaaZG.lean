/- slices -/
import Derived.Test.YtlkijcflfnnbaaaZA
import Derived.Test.YtlkijcflfnnbaaaZE
set_option maxRecDepth 100000
set_option maxRecDepth 1000000
set_option linter.unusedSimpArgs false
set_option linter.unusedVariables false
section
namespace Go.Proofs.Ytlkijcflfnnbaaa
open Go.Am
def zeroI : Int:=0
theorem zeroI_eq : iA zeroI = .v (.int .i64 0):=rfl
def ddSI (D : List Int) (x : Int) : List Int:=if D.getLast? = some x then D else D ++ [x]
def ddI (l : List Int) : List Int:=l.foldl ddSI []
theorem dd_takeI {l : List Int} {i : Nat} (h : i < l.length) : ddI (l.take (i + 1)) = ddSI (ddI (l.take i)) l[i]:=by
 unfold ddI
 rw [List.take_succ_eq_append_getElem h,List.foldl_append]
 rfl
theorem ddS_lastI (D : List Int) (x : Int) : (ddSI D x).getLast? = some x:=by
 unfold ddSI
 split
 ·assumption
 ·simp
theorem dd_lastI {l : List Int} {i : Nat} (h : i < l.length) : (ddI (l.take (i + 1))).getLast? = some l[i]:=by rw [dd_takeI h,ddS_lastI]
theorem dd_lenI {l : List Int} : ∀ {i : Nat},i ≤ l.length → (ddI (l.take i)).length ≤ i
 |0,_=>by simp [ddI]
 |i + 1,h=>by
  have:=dd_lenI (l:=l) (i:=i) (by omega)
  rw [dd_takeI (by omega)]
  unfold ddSI
  split
  ·omega
  ·simp;omega
theorem m44 (l : List Int) (hl : l.length ≤ 1000000000) : MSpec Try.prog 44 [.own 1000000 1 0 l.length] [(1000000,.arr 3 1 (l.map iA))] (fun res bf=>∃ tail : List Int,res = .own 1000000 1 0 (ddI l).length ∧ bf 1000000 = some (.arr 3 1 ((ddI l ++ tail).map iA))):=by
 refine MSpec_of Try.func44 rfl rfl (Nat.le_of_ble_eq_true rfl) (Nat.le_of_ble_eq_true rfl) ?_
 intro E hE
 refine AW_seq fun K hK=>?_
 refine AW_region (by rw [hE];decide) ?_
 simp
 refine hK _ ?_
 clear hK
 refine AW_seq fun K hK=>?_
 refine AW_seq fun K hK=>?_
 refine AW_region (by rw [hE];decide) ?_
 simp
 refine hK _ ?_
 clear hK
 refine AW_cond (t:=decide ((l.length : Int) < 2)) (by simp) ?_ ?_
 ·intro h
  have h : l.length < 2:=by have:=of_decide_eq_true h;omega
  have hdd : ddI l = l:=by
   rcases l with _|⟨a,_|⟨b,l⟩⟩
   ·rfl
   ·simp [ddI,ddSI]
   ·simp at h
    omega
  refine AW_seq fun K hK=>?_
  refine AW_region (by rw [hE];decide) ?_
  simp
  refine hK _ ?_
  clear hK
  refine AW_ret ?_
  simp [hdd]
 intro h
 have h : 2 ≤ l.length:=by have:=of_decide_eq_false h;omega
 refine AW_skip ?_
 simp
 refine hK _ ?_
 clear hK
 refine AW_seq fun K0 hK0=>?_
 refine AW_seq fun K hK=>?_
 refine AW_region (by rw [hE];decide) ?_
 simp
 refine hK _ ?_
 clear hK
 refine AW_block ?_
 refine AW_loop (G:=Nat) (fun k=>⟨[(3,iA k),(0,.own 1000000 1 0 l.length)],[(1000000,.arr 3 1 (l.map iA))]⟩)
  (fun k=>1 ≤ k ∧ k ≤ l.length ∧ ddI (l.take k) = l.take k) (fun k=>l.length - k) 1 ⟨by omega,by omega,by
    match l,h with
    |a :: l,_=>simp [ddI,ddSI]⟩ (by simp) ?_
 rintro k ⟨hk1,hk,hdk⟩
 refine AW_seq fun K1 hK1=>?_
 refine AW_seq fun K2 hK2=>?_
 refine AW_region (by rw [hE];decide) ?_
 simp
 refine hK2 _ ?_
 clear hK2
 refine AW_cond (t:=decide (k < l.length)) (by simp) ?_ ?_
 ·intro hlt
  have hlt:=of_decide_eq_true hlt
  obtain ⟨j,rfl⟩ : ∃ j,k = j + 1:=⟨k - 1,by omega⟩
  have hj : j < l.length:=by omega
  have hjj : ((j + 1 : Nat) : Int) - 1 = j:=by omega
  refine AW_skip ?_
  simp
  refine hK1 _ ?_
  clear hK1
  refine AW_seq fun K1 hK1=>?_
  refine AW_block ?_
  refine AW_seq fun K hK=>?_
  refine AW_draw 10 mixed (by rw [hE];decide) (by simp [newOK]) ?_
  simp [hlt,hj]
  repeat' apply And.intro
  all_goals try omega
  all_goals try decide
  refine hK _ ?_
  clear hK
  have hdl:=dd_lastI hj
  rw [hdk] at hdl
  refine AW_cond (t:=decide (l[j + 1] = l[j])) (by simp) ?_ ?_
  ·intro heq
   have heq:=of_decide_eq_true heq
   have hD1 : ddI (l.take (j + 1 + 1)) = l.take (j + 1):=by
    rw [dd_takeI hlt,hdk]
    unfold ddSI
    rw [if_pos (by rw [hdl,heq])]
   have hD1l : (l.take (j + 1)).length = j + 1:=by rw [List.length_take];omega
   refine AW_seq fun K3 hK3=>?_
   refine AW_region (by rw [hE];decide) ?_
   simp
   have ht : ((l.length : Int) - ((j : Int) + 1)).toNat = l.length - (j + 1):=by omega
   refine ⟨by omega,fun _=>?_,fun _ h0=>absurd h0 (by omega)⟩
   rw [ht]
   refine hK3 _ ?_
   clear hK3
   refine AW_seq fun K3 hK3=>?_
   refine AW_seq fun K hK=>?_
   refine AW_region (by rw [hE];decide) ?_
   simp
   refine hK _ ?_
   clear hK
   refine AW_block ?_
   refine AW_loop (G:=Nat) (fun m=>⟨[(5,iA m),(4,.own 1000000 1 (j + 1) (l.length - (j + 1))),(3,iA (ddI (l.take (j + 1 + m))).length),(0,.own 1000000 1 0 l.length)],[(1000000,.arr 3 1 ((ddI (l.take (j + 1 + m)) ++ l.drop (ddI (l.take (j + 1 + m))).length).map iA))]⟩)
    (fun m=>1 ≤ m ∧ j + 1 + m ≤ l.length ∧ (ddI (l.take (j + 1 + m))).length ≤ j + m) (fun m=>l.length - (j + 1 + m)) 1 ⟨by omega,by omega,by rw [hD1,hD1l];omega⟩ (by
      rw [hD1,hD1l,List.take_append_drop]
      simp) ?_
   rintro m ⟨hm1,hm,hDl⟩
   generalize hD : ddI (l.take (j + 1 + m)) = D at hDl ⊢
   obtain ⟨A,hAA⟩ : ∃ A,A = D ++ l.drop D.length:=⟨_,rfl⟩
   have hA : A.length = l.length:=by rw [hAA];simp;omega
   have e1 : ∀ i,D.length ≤ i → (h1 : i < A.length) → (h2 : i < l.length) → A[i] = l[i]:=by
    subst hAA
    intro i h0 h1 h2
    rw [List.getElem_append_right h0,List.getElem_drop]
    congr 1
    omega
   rw [← hAA]
   refine AW_seq fun K1 hK1=>?_
   refine AW_seq fun K2 hK2=>?_
   refine AW_region (by rw [hE];decide) ?_
   simp
   refine hK2 _ ?_
   clear hK2
   refine AW_cond (t:=decide (m < l.length - (j + 1))) (by simp) ?_ ?_
   ·intro hlm
    have hlm : j + 1 + m < l.length:=by have:=of_decide_eq_true hlm;omega
    obtain ⟨m,rfl⟩ : ∃ m',m = m' + 1:=⟨m - 1,by omega⟩
    have i1 : j + 1 + (m + 1) < A.length:=by omega
    have i2 : j + 1 + m < A.length:=by omega
    have i3 : m + 1 < l.length - (j + 1):=by omega
    have i4 : m < l.length - (j + 1):=by omega
    have f1:=e1 (j + 1 + (m + 1)) (by omega) i1 (by omega)
    have f2:=e1 (j + 1 + m) (by omega) i2 (by omega)
    have j1 : j + 1 + (m + 1) < l.length:=by omega
    have j2 : j + 1 + m < l.length:=by omega
    have hDn : ddI (l.take (j + 1 + (m + 1 + 1))) = ddSI D l[j + 1 + (m + 1)]:=by rw [← hD];exact dd_takeI j1
    have hDlast : D.getLast? = some l[j + 1 + m]:=by rw [← hD];exact dd_lastI j2
    refine AW_skip ?_
    simp
    refine hK1 _ ?_
    clear hK1
    refine AW_seq fun K1 hK1=>?_
    refine AW_block ?_
    refine AW_seq fun K hK=>?_
    refine AW_draw 10 mixed (by rw [hE];decide) (by simp [newOK]) ?_
    simp [i1,i2,i3,i4,f1,f2]
    repeat' apply And.intro
    all_goals try omega
    all_goals try decide
    refine hK _ ?_
    clear hK
    have hDl2 : D.length < l.length:=by omega
    have hDl3 : D.length < A.length:=by omega
    refine AW_cond (t:=!decide (l[j + 1 + (m + 1)] = l[j + 1 + m])) (by simp) ?_ ?_
    ·intro hne
     have hne : l[j + 1 + (m + 1)] ≠ l[j + 1 + m]:=by simpa using hne
     have hDn2 : ddI (l.take (j + 1 + (m + 1 + 1))) = D ++ [l[j + 1 + (m + 1)]]:=by
      rw [hDn]
      unfold ddSI
      rw [if_neg (by rw [hDlast];simpa using Ne.symm hne)]
     have hset : A.set D.length l[j + 1 + (m + 1)] = (D ++ [l[j + 1 + (m + 1)]]) ++ l.drop (D ++ [l[j + 1 + (m + 1)]]).length:=by
      have e0 : (l.drop D.length).set 0 l[j + 1 + (m + 1)] = l[j + 1 + (m + 1)] :: l.drop (D.length + 1):=by
       rw [List.drop_eq_getElem_cons hDl2]
       rfl
      rw [hAA,List.set_append_right _ _ (Nat.le_refl _),Nat.sub_self,e0]
      simp
     refine AW_seq fun K hK=>?_
     refine AW_region (by rw [hE];decide) ?_
     simp [i1,f1,hDl3,hDl2]
     repeat' apply And.intro
     all_goals try omega
     all_goals try decide
     refine hK _ ?_
     refine AW_region (by rw [hE];decide) ?_
     simp
     repeat' apply And.intro
     all_goals try omega
     all_goals try decide
     refine hK1 _ ?_
     refine AW_region (by rw [hE];decide) ?_
     simp
     refine ⟨by omega,m + 2,⟨by omega,by omega,?_⟩,by omega,?_⟩
     ·rw [hDn2];simp;omega
     ·have hset2:=congrArg (List.map iA) hset
      rw [List.map_set,List.map_append,List.map_drop] at hset2
      rw [hDn2]
      exact ⟨⟨by omega,by simp⟩,hset2⟩
    ·intro he
     have he : l[j + 1 + (m + 1)] = l[j + 1 + m]:=by simpa using he
     have hDn2 : ddI (l.take (j + 1 + (m + 1 + 1))) = D:=by
      rw [hDn]
      unfold ddSI
      rw [if_pos (by rw [hDlast,he])]
     refine AW_skip ?_
     simp
     refine hK1 _ ?_
     refine AW_region (by rw [hE];decide) ?_
     simp
     refine ⟨by omega,m + 2,⟨by omega,by omega,?_⟩,by omega,?_⟩
     ·rw [hDn2];omega
     ·rw [hDn2]
      exact ⟨⟨by omega,rfl⟩,by rw [hAA,List.map_append,List.map_drop]⟩
   ·intro hlm
    have hlm : j + 1 + m = l.length:=by have:=of_decide_eq_false hlm;omega
    rw [hlm,List.take_length] at hD
    refine AW_exit ?_
    simp
    refine hK3 _ ?_
    have hc : List.take D.length (List.map iA A) ++ (List.replicate (l.length - D.length) (iA zeroI) ++ List.drop (D.length + (l.length - D.length)) (List.map iA A)) = List.map iA (D ++ List.replicate (l.length - D.length) zeroI):=by
     have h1 : List.take D.length (List.map iA A) = List.map iA D:=by rw [hAA,List.map_append,List.take_left' (by simp)]
     have h2 : List.drop (D.length + (l.length - D.length)) (List.map iA A) = []:=List.drop_eq_nil_of_le (by rw [List.length_map,hA];omega)
     rw [h1,h2,List.map_append,List.map_replicate,List.append_nil]
    rw [zeroI_eq] at hc
    refine AW_seq fun K hK=>?_
    refine AW_region (by rw [hE];decide) ?_
    simp
    refine ⟨by omega,fun _=>⟨by omega,?_⟩,fun _ h=>absurd h (by omega)⟩
    rw [hc]
    refine hK _ ?_
    clear hK
    refine AW_seq fun K hK=>?_
    refine AW_region (by rw [hE];decide) ?_
    simp
    repeat' apply And.intro
    all_goals try omega
    all_goals try decide
    refine hK _ ?_
    clear hK
    refine AW_ret ?_
    simp [hD]
    exact ⟨List.replicate (l.length - D.length) zeroI,(List.map_replicate).symm⟩
  ·intro hne
   have hne:=of_decide_eq_false hne
   refine AW_skip ?_
   simp
   refine hK1 _ ?_
   refine AW_region (by rw [hE];decide) ?_
   simp
   refine ⟨by omega,j + 2,⟨by omega,by omega,?_⟩,by omega,by simp;omega⟩
   rw [dd_takeI hlt,hdk]
   unfold ddSI
   rw [if_neg (by rw [hdl];simpa using Ne.symm hne),← List.take_succ_eq_append_getElem hlt]
 ·intro hlt
  have hlt:=of_decide_eq_false hlt
  have : k = l.length:=by omega
  subst this
  rw [List.take_length] at hdk
  refine AW_exit ?_
  simp
  refine hK0 _ ?_
  refine AW_seq fun K hK=>?_
  refine AW_region (by rw [hE];decide) ?_
  simp
  refine hK _ ?_
  clear hK
  refine AW_ret ?_
  simp [hdk]
end Go.Proofs.Ytlkijcflfnnbaaa
end
section
namespace Go.Am
theorem mcut {P : Program} {f : FuncId} {args : List AV} {bx : List (Nat × Ct)} {id T k : Nat} {ys : List AV} {r : AV}
 (h : MSpec P f args bx (fun res bf=>res = r ∧ ∃ zs m,bf id = some (.arr T k zs) ∧ zs.take m = ys)) : MSpec P f args bx (fun res bf=>res = r ∧ bf id = some (.arr T k ys)):=by
 refine ⟨h.1,fun H ρ w vs he hb hr=>Calls.mono (h.2 H ρ w vs he hb hr) ?_⟩
 rintro e w' ⟨H',ρ',res,bf',v,rfl,⟨rfl,zs,m,hz,hy⟩,h3,h4,h5,hB,h7⟩
 have hbx : ∀ i c,(fun i=>if i = id then some (Ct.arr T k ys) else none) i = some c → i = id ∧ c = .arr T k ys:=by
  intro i c hc
  have hc : (if i = id then some (Ct.arr T k ys) else none) = some c:=hc
  split at hc
  ·rename_i e;cases hc;exact ⟨e,rfl⟩
  ·cases hc
 refine ⟨H',ρ',res,fun i=>if i = id then some (Ct.arr T k ys) else none,v,rfl,⟨rfl,by simp⟩,h3,h4,h5,⟨fun i c hc=>?_,fun i c b cap hc hbd=>?_,fun i i' c c' b cap cap' hc hc' _ _=>?_⟩,h7⟩
 ·obtain ⟨rfl,rfl⟩:=hbx i c hc
  have:=(hB.rep _ _ hz).trunc m
  rw [hy] at this
  exact this
 ·obtain ⟨rfl,rfl⟩:=hbx i c hc
  exact hB.apart _ _ _ _ hz hbd
 ·rw [(hbx i c hc).1,(hbx i' c' hc').1]
end Go.Am
namespace Go.Proofs.Ytlkijcflfnnbaaa
open Go.Am
theorem ddI_le (l : List Int) : ∀ i,i ≤ l.length → (ddI (l.take i)).length ≤ i:=fun i h=>dd_lenI h
theorem w44 (l : List Int) (n : Nat) (hn : l.length = n) (hl : n ≤ 1000000000) : MSpec Try.prog 44 [.own 1000000 1 0 n] [(1000000,.arr 3 1 (l.map iA))] (fun res bf=>res = .own 1000000 1 0 (ddI l).length ∧ bf 1000000 = some (.arr 3 1 ((ddI l).map iA))) :=
 mcut (MSpec.mono (hn ▸ m44 l (hn ▸ hl)) (by
  rintro res bf ⟨tail,rfl,h⟩
  exact ⟨rfl,_,(ddI l).length,h,by rw [List.map_append,← List.length_map (f:=iA),List.take_left]⟩))
def cnd (s : List Int) (m k : Nat) : Bool:=k % m == 0 && decide (s.getD 0 0 < s.getD k 0)
def rawS (s : List Int) (m : Nat) : Nat → List Int
 |0=>[]
 |k + 1=>if cnd s m k then rawS s m k ++ [s.getD k 0] else rawS s m k
theorem rawS_gap (s : List Int) (m : Nat) (a : Nat) : ∀ b,a ≤ b → (∀ i,a ≤ i → i < b → cnd s m i = false) → rawS s m b = rawS s m a
 |0,h,_=>by have : a = 0:=by omega
            subst this;rfl
 |b + 1,h,hc=>by
  by_cases e : a = b + 1
  ·subst e;rfl
  ·rw [rawS,hc b (by omega) (by omega)]
   simp only [Bool.false_eq_true,if_false]
   exact rawS_gap s m a b (by omega) fun i h1 h2=>hc i h1 (by omega)
theorem rawS_len (s : List Int) (m : Nat) : ∀ k,(rawS s m k).length ≤ k
 |0=>by simp [rawS]
 |k + 1=>by
  have:=rawS_len s m k
  rw [rawS]
  split <;> simp <;> omega
theorem cnd_zero (s : List Int) (m : Nat) : cnd s m 0 = false:=by simp [cnd]
theorem cnd_gap {s : List Int} {m k i : Nat} (hk : k % m = 0) (h1 : k < i) (h2 : i < k + m) : cnd s m i = false:=by
 have hm : 0 < m:=by omega
 have : i % m ≠ 0:=by
  obtain ⟨q,rfl⟩ : ∃ q,k = m * q:=⟨k / m,by have:=Nat.div_add_mod k m;omega⟩
  intro h
  obtain ⟨r,rfl⟩ : ∃ r,i = m * r:=⟨i / m,by have:=Nat.div_add_mod i m;omega⟩
  have h3 : q < r:=Nat.lt_of_mul_lt_mul_left h1
  have h4 : m * (q + 1) ≤ m * r:=Nat.mul_le_mul_left m h3
  rw [Nat.mul_add,Nat.mul_one] at h4
  omega
 simp [cnd,this]
theorem rawS_first (s : List Int) (m : Nat) (hm : 0 < m) (k : Nat) (hk : k ≤ m) : rawS s m k = [] :=
 rawS_gap s m 0 k (Nat.zero_le _) fun i _ h2=>by
  by_cases h : i = 0
  ·subst h;exact cnd_zero s m
  ·exact cnd_gap (k:=0) (Nat.zero_mod m) (by omega) (by omega)
theorem rawS_next (s : List Int) (m : Nat) (hm : 0 < m) {k : Nat} (hk : k % m = 0) (b : Nat) (h1 : k + 1 ≤ b) (h2 : b ≤ k + m) : rawS s m b = rawS s m (k + 1) :=
 rawS_gap s m (k + 1) b h1 fun i h3 h4=>cnd_gap hk (by omega) (by omega)
def t0S (l : List En) : List Int:=sortZ (l.map En.t0)
def splS (l : List En) (most : Int) : List Int:=if most < 1 then [] else ddI (rawS (t0S l) most.toNat l.length)
theorem t0S_len (l : List En) : (t0S l).length = l.length:=by rw [t0S,sortZ_len,List.length_map]
set_option maxHeartbeats 1000000 in
theorem s_splits (l : List En) (most : Int) (hl : l.length ≤ 1000) (hm : most ≤ 9223372036854775807) : PSpec Try.prog 34 [.sl 7 (l.map encE),iA most] (.sl 1 ((splS l most).map iA)):=by
 by_cases h1 : most < 1
 ·have e : splS l most = []:=by simp [splS,h1]
  rw [e]
  refine PSpec_of Try.func34 rfl rfl (Nat.le_of_ble_eq_true rfl) (Nat.le_of_ble_eq_true rfl) ?_
  intro E hE
  repeat' (first
   |(with_reducible first|refine uK ?_|refine uX ?_|refine AW_seqk fun K hK=>?_|refine AW_block ?_)|((with_reducible first|refine rS hE ?_|refine RK_nilk ?_|refine RK_stepk fun K' hK'=>?_|refine AW_if fun X Y hX hY=>?_|refine AW_ret ?_|refine AW_skip ?_|refine AW_exit ?_);simp [*])|with_reducible refine rL hE ?_|with_reducible refine And.intro ?_ ?_|omega|(refine imp1 fun h=>?_))
 obtain ⟨m,rfl⟩ : ∃ m : Nat,most = m:=⟨most.toNat,by omega⟩
 have hm0 : 0 < m:=by omega
 have hm9 : m ≤ 9223372036854775807:=by omega
 obtain ⟨S,hS⟩ : ∃ S,t0S l = S:=⟨_,rfl⟩
 have hSl : S.length = l.length:=by rw [← hS];exact t0S_len l
 have hse : splS l m = ddI (rawS S m l.length):=by unfold splS;rw [if_neg h1,hS,Int.toNat_natCast]
 rw [hse]
 obtain ⟨F,hF⟩ : ∃ F : Nat → List Int,∀ i,(l.take i).map En.t0 = F i:=⟨_,fun _=>rfl⟩
 have hF0 : F 0 = []:=by rw [← hF];simp
 have hFs : ∀ i (h : i < l.length),F (i + 1) = F i ++ [l[i].t0]:=fun i h=>by rw [← hF,← hF,List.take_succ_eq_append_getElem h,List.map_append];rfl
 have hFl : ∀ i,i ≤ l.length → (F i).length = i:=fun i h=>by rw [← hF];simp;omega
 have hFn : sortZ (F l.length) = S:=by rw [← hF,List.take_length,← hS];rfl
 have hst:=m_sortI (F l.length) (by rw [hFl _ (Nat.le_refl _)];omega)
 rw [hFn,hFl _ (Nat.le_refl _)] at hst
 have hcp:=w44 (rawS S m l.length) _ rfl (by have:=rawS_len S m l.length;omega)
 have hrl:=rawS_len S m l.length
 replace hst:=Hld.mk hst
 replace hcp:=Hld.mk hcp
 replace hFs:=Hld.mk hFs
 replace hFl:=Hld.mk hFl
 clear hF hse hFn hS
 refine PSpec_of Try.func34 rfl rfl (Nat.le_of_ble_eq_true rfl) (Nat.le_of_ble_eq_true rfl) ?_
 intro E hE
 refine AW_seqt ⟨[(1,iA m),(0,.sl 7 (l.map encE))],[]⟩ ?_ (by
  intro K hK
  repeat' (first
   |(with_reducible first|refine uK ?_|refine uX ?_|refine AW_seqk fun K hK=>?_|refine AW_block ?_)|((with_reducible first|refine rS hE ?_|refine RK_nilk ?_|refine RK_stepk fun K' hK'=>?_|refine AW_if fun X Y hX hY=>?_|refine AW_ret ?_|refine AW_skip ?_|refine AW_exit ?_);simp [*])|with_reducible refine rL hE ?_|with_reducible refine And.intro ?_ ?_|omega|(refine imp1 fun h=>?_))
  all_goals simp)
 refine AW_seqt ⟨[(1,iA m),(0,.sl 7 (l.map encE))],[]⟩ ?_ (by
  intro K hK
  repeat' (first
   |(with_reducible first|refine uK ?_|refine uX ?_|refine AW_seqk fun K hK=>?_|refine AW_block ?_)|((with_reducible first|refine rS hE ?_|refine RK_nilk ?_|refine RK_stepk fun K' hK'=>?_|refine AW_if fun X Y hX hY=>?_|refine AW_ret ?_|refine AW_skip ?_|refine AW_exit ?_);simp [*])|with_reducible refine rL hE ?_|with_reducible refine And.intro ?_ ?_|omega|(refine imp1 fun h=>?_))
  all_goals simp)
 refine AW_seqt ⟨[(6,.v (.slice none 0 0)),(5,.v (.slice none 0 0)),(1,iA m),(0,.sl 7 (l.map encE))],[]⟩ ?_ (by
  intro K hK
  repeat' (first
   |(with_reducible first|refine uK ?_|refine uX ?_|refine AW_seqk fun K hK=>?_|refine AW_block ?_)|((with_reducible first|refine rS hE ?_|refine RK_nilk ?_|refine RK_stepk fun K' hK'=>?_|refine AW_if fun X Y hX hY=>?_|refine AW_ret ?_|refine AW_skip ?_|refine AW_exit ?_);simp [*])|with_reducible refine rL hE ?_|with_reducible refine And.intro ?_ ?_|omega|(refine imp1 fun h=>?_))
  all_goals simp)
 refine AW_mkrow 5 23 3 1 (by simp) (by simp) (by simp) (by omega) ?_
 refine AW_mkrow 6 49 3 1 (by simp) (by simp) (by simp) (by omega) ?_
 refine AW_seqt ⟨[(6,.own 49 1 0 0),(5,.own 23 1 0 l.length),(1,iA m)],[(23,.arr 3 1 ((F l.length).map iA)),(49,.arr 3 1 [])]⟩ ?_ (by
  intro K hK
  repeat' (first
   |(with_reducible first|refine uK ?_|refine uX ?_|refine AW_seqk fun K hK=>?_|refine AW_block ?_)|((with_reducible first|refine rS hE ?_|refine RK_nilk ?_|refine RK_stepk fun K' hK'=>?_|refine AW_if fun X Y hX hY=>?_|refine AW_ret ?_|refine AW_skip ?_|refine AW_exit ?_);simp [*])|with_reducible refine rL hE ?_|with_reducible refine And.intro ?_ ?_|omega|(refine imp1 fun h=>?_))
  refine AW_loopk (G:=Nat) (fun i=>⟨[(14,iA i),(13,iA l.length),(12,.sl 7 (l.map encE)),(6,.own 49 1 0 0),(5,.own 23 1 0 i),(1,iA m)],[(23,.arr 3 1 ((F i).map iA)),(49,.arr 3 1 [])]⟩) (fun i=>i ≤ l.length) (fun i=>l.length - i) 0 (Nat.zero_le _) (by simp [hF0]) ?_
  intro i hi K hK
  by_cases hlt : i < l.length
  ·have hltI : (i : Int) < l.length:=by omega
   have hs:=hFs.out i hlt
   have hfl:=hFl.out i hi
   obtain ⟨M,hM⟩ : ∃ M,F i = M:=⟨_,rfl⟩
   obtain ⟨M2,hM2⟩ : ∃ M2,F (i + 1) = M2:=⟨_,rfl⟩
   rw [hM,hM2] at hs
   rw [hM] at hfl
   have hMt : (M.map iA).take i = M.map iA:=List.take_of_length_le (by simp [hfl])
   replace hs:=Hld.mk hs
   refine AW_le (t:=⟨[(14,iA i),(13,iA l.length),(12,.sl 7 (l.map encE)),(6,.own 49 1 0 0),(5,.own 23 1 0 i),(1,iA m)],[(23,.arr 3 1 (M.map iA)),(49,.arr 3 1 [])]⟩) (by simp [hM]) ?_
   clear hM
   repeat' (first
    |(with_reducible first|refine uK ?_|refine uX ?_|refine AW_seqk fun K hK=>?_|refine AW_block ?_)|((with_reducible first|refine rS hE ?_|refine RK_nilk ?_|refine RK_stepk fun K' hK'=>?_|refine AW_if fun X Y hX hY=>?_|refine AW_ret ?_|refine AW_skip ?_|refine AW_exit ?_);simp [*,encE])|with_reducible refine rL hE ?_|with_reducible refine And.intro ?_ ?_|omega|(refine imp1 fun h=>?_))
   exact ⟨i + 1,by omega,by omega,by simp [hM2,hs.out,hfl]⟩
  ·have hie : i = l.length:=by omega
   subst hie
   repeat' (first
    |(with_reducible first|refine uK ?_|refine uX ?_|refine AW_seqk fun K hK=>?_|refine AW_block ?_)|((with_reducible first|refine rS hE ?_|refine RK_nilk ?_|refine RK_stepk fun K' hK'=>?_|refine AW_if fun X Y hX hY=>?_|refine AW_ret ?_|refine AW_skip ?_|refine AW_exit ?_);simp [*])|with_reducible refine rL hE ?_|with_reducible refine And.intro ?_ ?_|omega|(refine imp1 fun h=>?_))
   all_goals simp)
 have hFll:=hFl.out l.length (Nat.le_refl _)
 clear hFs hFl hF0
 refine AW_seqt ⟨[(6,.own 49 1 0 0),(5,.own 23 1 0 l.length),(1,iA m)],[(23,.arr 3 1 (S.map iA)),(49,.arr 3 1 [])]⟩ ?_ (by
  intro K hK
  repeat' (first
   |(with_reducible first|refine uK ?_|refine uX ?_|refine AW_seqk fun K hK=>?_|refine AW_block ?_)|((with_reducible first|refine rS hE ?_|refine RK_nilk ?_|refine RK_stepk fun K' hK'=>?_|refine AW_if fun X Y hX hY=>?_|refine AW_ret ?_|refine AW_skip ?_|refine AW_exit ?_);simp [*])|with_reducible refine rL hE ?_|(refine acall_mrow (hst.out) ?_ ?_ ?_ ?_ ?_ ?_;(iterate 5 (focus (simp [*] <;> fail)));simp [*])|with_reducible refine And.intro ?_ ?_|omega|(refine imp1 fun h=>?_))
  all_goals simp)
 clear hst
 refine AW_seqt ⟨[(6,.own 49 1 0 (rawS S m l.length).length)],[(49,.arr 3 1 ((rawS S m l.length).map iA))]⟩ ?_ (by
  intro K hK
  obtain ⟨R,hR⟩ : ∃ R : Nat → List Int,∀ k,rawS S m k = R k:=⟨_,fun _=>rfl⟩
  have hRc : ∀ k,R (k + 1) = if cnd S m k then R k ++ [S.getD k 0] else R k:=fun k=>by rw [← hR,← hR];rfl
  have hRf : ∀ k,k ≤ m → R k = []:=fun k hk=>by rw [← hR];exact rawS_first S m hm0 k hk
  have hRn : ∀ k,k % m = 0 → ∀ b,k + 1 ≤ b → b ≤ k + m → R b = R (k + 1):=fun k hk b h1 h2=>by rw [← hR,← hR];exact rawS_next S m hm0 hk b h1 h2
  have hRl : ∀ k,(R k).length ≤ k:=fun k=>by rw [← hR];exact rawS_len S m k
  rw [hR] at hK
  clear hR hrl hcp
  replace hRc:=Hld.mk hRc
  replace hRf:=Hld.mk hRf
  replace hRn:=Hld.mk hRn
  replace hRl:=Hld.mk hRl
  have hR0 : R m = []:=hRf.out m (Nat.le_refl _)
  repeat' (first
   |(with_reducible first|refine uK ?_|refine uX ?_|refine AW_seqk fun K hK=>?_|refine AW_block ?_)|((with_reducible first|refine rS hE ?_|refine RK_nilk ?_|refine RK_stepk fun K' hK'=>?_|refine AW_if fun X Y hX hY=>?_|refine AW_ret ?_|refine AW_skip ?_|refine AW_exit ?_);simp [*])|with_reducible refine rL hE ?_|with_reducible refine And.intro ?_ ?_|omega|(refine imp1 fun h=>?_))
  refine AW_loopk (G:=Nat) (fun k=>⟨[(9,iA k),(6,.own 49 1 0 (R k).length),(5,.own 23 1 0 l.length),(1,iA m)],[(23,.arr 3 1 (S.map iA)),(49,.arr 3 1 ((R k).map iA))]⟩) (fun k=>k % m = 0 ∧ m ≤ k ∧ (k ≤ l.length ∨ k = m)) (fun k=>l.length - k) m ⟨Nat.mod_self m,Nat.le_refl _,.inr rfl⟩ (by simp [hR0]) ?_
  rintro k ⟨hk1,hk2,hk3⟩ K hK
  by_cases hlt : k < l.length
  ·have hltI : (k : Int) < l.length:=by omega
   have hkS : k < S.length:=by omega
   have h0S : 0 < S.length:=by omega
   obtain ⟨x,hx⟩ : ∃ x,S[k] = x:=⟨_,rfl⟩
   obtain ⟨y,hy⟩ : ∃ y,S[0] = y:=⟨_,rfl⟩
   have hxq : S[k]? = some x:=by rw [List.getElem?_eq_getElem hkS,hx]
   have hyq : S[0]? = some y:=by rw [List.getElem?_eq_getElem h0S,hy]
   have hc:=hRc.out k
   have hcd : cnd S m k = decide (y < x):=by simp [cnd,hk1,List.getD_eq_getElem?_getD,hxq,hyq]
   rw [hcd,List.getD_eq_getElem?_getD,hxq] at hc
   simp only [Option.getD_some,decide_eq_true_eq] at hc
   have hrl:=hRl.out k
   obtain ⟨M,hM⟩ : ∃ M,R k = M:=⟨_,rfl⟩
   obtain ⟨M2,hM2⟩ : ∃ M2,R (k + 1) = M2:=⟨_,rfl⟩
   rw [hM,hM2] at hc
   rw [hM] at hrl
   have hMt : (M.map iA).take M.length = M.map iA:=List.take_of_length_le (by simp)
   have hend : ¬ (k : Int) ≤ (l.length : Int) - m → R l.length = M2:=fun h=>by rw [← hM2];exact hRn.out k hk1 l.length (by omega) (by omega)
   have hnxt : R (k + m) = M2:=by rw [← hM2];exact hRn.out k hk1 (k + m) (by omega) (by omega)
   have hmod : (k + m) % m = 0:=by rw [Nat.add_mod_right];exact hk1
   have hM2l : M2.length ≤ M.length + 1:=by rw [hc];split <;> simp
   refine AW_le (t:=⟨[(9,iA k),(6,.own 49 1 0 M.length),(5,.own 23 1 0 l.length),(1,iA m)],[(23,.arr 3 1 (S.map iA)),(49,.arr 3 1 (M.map iA))]⟩) (by simp [hM]) ?_
   replace hend:=Hld.mk hend
   replace hc:=Hld.mk hc
   clear hM hM2 hk3
   refine AW_seqt ⟨[(9,iA k),(6,.own 49 1 0 M.length),(5,.own 23 1 0 l.length),(1,iA m)],[(23,.arr 3 1 (S.map iA)),(49,.arr 3 1 (M.map iA))]⟩ ?_ (by
    intro K hK
    repeat' (first
     |(with_reducible first|refine uK ?_|refine uX ?_|refine AW_seqk fun K hK=>?_|refine AW_block ?_)|((with_reducible first|refine rS hE ?_|refine RK_nilk ?_|refine RK_stepk fun K' hK'=>?_|refine AW_if fun X Y hX hY=>?_|refine AW_ret ?_|refine AW_skip ?_|refine AW_exit ?_);simp [*])|with_reducible refine rL hE ?_|with_reducible refine And.intro ?_ ?_|omega|(refine imp1 fun h=>?_))
    all_goals simp)
   by_cases hxy : y < x
   ·have hc':=hc.out
    rw [if_pos hxy] at hc'
    replace hc':=Hld.mk hc'
    clear hc
    by_cases hbr : (k : Int) ≤ (l.length : Int) - m
    ·have hb2 : ¬ (l.length : Int) - m < k:=by omega
     clear hend
     repeat' (first
      |(with_reducible first|refine useK (by assumption) ?_|refine useK2 (by assumption) ?_|refine useX (by assumption) ?_|refine AW_seqk fun K hK=>?_|refine AW_block ?_)|(with_reducible refine AW_regionS rfl (by rw [hE];decide) ?_;simp [*])|with_reducible refine AW_region (by rw [hE];decide) ?_|((with_reducible show RK _ _ _ _ _ _);first|(refine RK_nilk ?_;simp [*])|(refine RK_stepk fun K' hK'=>?_;simp [*]))|with_reducible refine AW_drawq mixed (by rw [hE];decide) (by simp [newOK]) ?_|((with_reducible show RKQ _ _ _ _ _ _);first|refine RKQ_nilk ⟨by decide,?_⟩|(refine RKQ_stepk fun K' hK'=>?_;simp [*]))|((with_reducible first|refine AW_if fun X Y hX hY=>?_|refine AW_ret ?_|refine AW_skip ?_|refine AW_exit ?_);simp [*])|with_reducible refine And.intro ?_ ?_|omega|(refine imp1 fun h=>?_))
     exact ⟨k + m,⟨hmod,by omega,.inl (by omega)⟩,by omega,by simp [hnxt,hc'.out]⟩
    ·have hb2 : (l.length : Int) - m < k:=by omega
     have he:=Hld.mk (hend.out hbr)
     clear hend
     repeat' (first
      |(with_reducible first|refine useK (by assumption) ?_|refine useK2 (by assumption) ?_|refine useX (by assumption) ?_|refine AW_seqk fun K hK=>?_|refine AW_block ?_)|(with_reducible refine AW_regionS rfl (by rw [hE];decide) ?_;simp [*])|with_reducible refine AW_region (by rw [hE];decide) ?_|((with_reducible show RK _ _ _ _ _ _);first|(refine RK_nilk ?_;simp [*])|(refine RK_stepk fun K' hK'=>?_;simp [*]))|with_reducible refine AW_drawq mixed (by rw [hE];decide) (by simp [newOK]) ?_|((with_reducible show RKQ _ _ _ _ _ _);first|refine RKQ_nilk ⟨by decide,?_⟩|(refine RKQ_stepk fun K' hK'=>?_;simp [*]))|((with_reducible first|refine AW_if fun X Y hX hY=>?_|refine AW_ret ?_|refine AW_skip ?_|refine AW_exit ?_);simp [*])|with_reducible refine And.intro ?_ ?_|omega|(refine imp1 fun h=>?_))
     all_goals simp [he.out,hc'.out]
   ·have hc':=hc.out
    rw [if_neg hxy] at hc'
    replace hc':=Hld.mk hc'
    clear hc
    by_cases hbr : (k : Int) ≤ (l.length : Int) - m
    ·have hb2 : ¬ (l.length : Int) - m < k:=by omega
     clear hend
     repeat' (first
      |(with_reducible first|refine useK (by assumption) ?_|refine useK2 (by assumption) ?_|refine useX (by assumption) ?_|refine AW_seqk fun K hK=>?_|refine AW_block ?_)|(with_reducible refine AW_regionS rfl (by rw [hE];decide) ?_;simp [*])|with_reducible refine AW_region (by rw [hE];decide) ?_|((with_reducible show RK _ _ _ _ _ _);first|(refine RK_nilk ?_;simp [*])|(refine RK_stepk fun K' hK'=>?_;simp [*]))|with_reducible refine AW_drawq mixed (by rw [hE];decide) (by simp [newOK]) ?_|((with_reducible show RKQ _ _ _ _ _ _);first|refine RKQ_nilk ⟨by decide,?_⟩|(refine RKQ_stepk fun K' hK'=>?_;simp [*]))|((with_reducible first|refine AW_if fun X Y hX hY=>?_|refine AW_ret ?_|refine AW_skip ?_|refine AW_exit ?_);simp [*])|with_reducible refine And.intro ?_ ?_|omega|(refine imp1 fun h=>?_))
     exact ⟨k + m,⟨hmod,by omega,.inl (by omega)⟩,by omega,by simp [hnxt,hc'.out]⟩
    ·have hb2 : (l.length : Int) - m < k:=by omega
     have he:=Hld.mk (hend.out hbr)
     clear hend
     repeat' (first
      |(with_reducible first|refine useK (by assumption) ?_|refine useK2 (by assumption) ?_|refine useX (by assumption) ?_|refine AW_seqk fun K hK=>?_|refine AW_block ?_)|(with_reducible refine AW_regionS rfl (by rw [hE];decide) ?_;simp [*])|with_reducible refine AW_region (by rw [hE];decide) ?_|((with_reducible show RK _ _ _ _ _ _);first|(refine RK_nilk ?_;simp [*])|(refine RK_stepk fun K' hK'=>?_;simp [*]))|with_reducible refine AW_drawq mixed (by rw [hE];decide) (by simp [newOK]) ?_|((with_reducible show RKQ _ _ _ _ _ _);first|refine RKQ_nilk ⟨by decide,?_⟩|(refine RKQ_stepk fun K' hK'=>?_;simp [*]))|((with_reducible first|refine AW_if fun X Y hX hY=>?_|refine AW_ret ?_|refine AW_skip ?_|refine AW_exit ?_);simp [*])|with_reducible refine And.intro ?_ ?_|omega|(refine imp1 fun h=>?_))
     all_goals simp [he.out,hc'.out]
  ·have hltI : ¬ (k : Int) < l.length:=by omega
   have hRR : R k = R l.length:=by
    rcases hk3 with h|h
    ·have : k = l.length:=by omega
     rw [this]
    ·rw [hRf.out k (by omega),hRf.out l.length (by omega)]
   rw [hRR]
   repeat' (first
    |(with_reducible first|refine uK ?_|refine uX ?_|refine AW_seqk fun K hK=>?_|refine AW_block ?_)|((with_reducible first|refine rS hE ?_|refine RK_nilk ?_|refine RK_stepk fun K' hK'=>?_|refine AW_if fun X Y hX hY=>?_|refine AW_ret ?_|refine AW_skip ?_|refine AW_exit ?_);simp [*])|with_reducible refine rL hE ?_|with_reducible refine And.intro ?_ ?_|omega|(refine imp1 fun h=>?_))
   all_goals simp)
 repeat' (first
  |(with_reducible first|refine uK ?_|refine uX ?_|refine AW_seqk fun K hK=>?_|refine AW_block ?_)|((with_reducible first|refine rS hE ?_|refine RK_nilk ?_|refine RK_stepk fun K' hK'=>?_|refine AW_if fun X Y hX hY=>?_|refine AW_ret ?_|refine AW_skip ?_|refine AW_exit ?_);simp [*])|with_reducible refine rL hE ?_|(refine acall_mrow (hcp.out) ?_ ?_ ?_ ?_ ?_ ?_;(iterate 5 (focus (simp [*] <;> fail)));simp [*])|with_reducible refine And.intro ?_ ?_|omega|(refine imp1 fun h=>?_))
 all_goals rw [List.take_of_length_le (by simp)]
 all_goals simp
end Go.Proofs.Ytlkijcflfnnbaaa
end
section
namespace Go.Proofs.Ytlkijcflfnnbaaa
open Go.Am
theorem sortZ_le (l : List Int) : (sortZ l).Pairwise (· ≤ ·):=by
 have:=List.pairwise_mergeSort (le:=fun a b : Int=>decide (a ≤ b)) (fun a b c h1 h2=>by simp at *;omega) (fun a b=>by simp;omega) l
 exact this.imp fun h=>by simpa using h
theorem eq_of_le : ∀ {l m : List Int},l.Pairwise (· ≤ ·) → m.Pairwise (· ≤ ·) → l.Perm m → l = m:=fun h1 h2 h=>h.eq_of_pairwise (fun a b _ _ h1 h2=>by omega) h1 h2
theorem ins_le {O : List Int} (hs : O.Pairwise (· ≤ ·)) {p : Nat} {k : Int} (hp : p ≤ O.length) (h1 : ∀ j (h : j < O.length),j < p → O[j] ≤ k) (h2 : ∀ j (h : j < O.length),p ≤ j → k ≤ O[j]) :
 (O.take p ++ k :: O.drop p).Pairwise (· ≤ ·):=by
 rw [List.pairwise_append,List.pairwise_cons]
 have ht : ∀ a ∈ O.take p,a ≤ k:=fun a ha=>by
  obtain ⟨j,hj,rfl⟩:=List.mem_take_iff_getElem.1 ha
  exact h1 j (by omega) (by omega)
 have hd : ∀ a ∈ O.drop p,k ≤ a:=fun a ha=>by
  obtain ⟨j,hj,rfl⟩:=List.mem_drop_iff_getElem.1 ha
  exact h2 (p + j) (by omega) (by omega)
 refine ⟨hs.sublist (List.take_sublist _ _),⟨hd,hs.sublist (List.drop_sublist _ _)⟩,fun a ha c hc=>?_⟩
 rcases List.mem_cons.1 hc with rfl|hc
 ·exact ht a ha
 ·have:=ht a ha
  have:=hd c hc
  omega
theorem sort_ins {l : List Int} {x : Int} {p : Nat} (hp : p ≤ (sortZ l).length) (h1 : ∀ j (h : j < (sortZ l).length),j < p → (sortZ l)[j] ≤ x) (h2 : ∀ j (h : j < (sortZ l).length),p ≤ j → x ≤ (sortZ l)[j]) :
 sortZ (l ++ [x]) = (sortZ l).take p ++ x :: (sortZ l).drop p:=by
 refine eq_of_le (sortZ_le _) (ins_le (sortZ_le l) hp h1 h2) ?_
 refine (List.mergeSort_perm _ _).trans ?_
 have h3 : ((sortZ l).take p ++ x :: (sortZ l).drop p).Perm (x :: ((sortZ l).take p ++ (sortZ l).drop p)):=List.perm_middle
 rw [List.take_append_drop] at h3
 exact (List.perm_append_comm (l₁:=l) (l₂:=[x])).trans (((List.mergeSort_perm l _).symm.cons x).trans h3.symm)
def wanS (s : List Int) (m : Nat) : Nat → List Int
 |0=>[]
 |k + 1=>if cnd s m k then (if (wanS s m k).getLast?.all (fun y=>decide (y < s.getD k 0)) then wanS s m k ++ [s.getD k 0] else wanS s m k) else wanS s m k
theorem ddI_snoc (l : List Int) (x : Int) : ddI (l ++ [x]) = ddSI (ddI l) x:=by simp [ddI,List.foldl_append]
theorem wanS_last (s : List Int) (m : Nat) : ∀ k y,(wanS s m k).getLast? = some y → ∃ i,i < k ∧ y = s.getD i 0
 |0,y,h=>by simp [wanS] at h
 |k + 1,y,h=>by
  rw [wanS] at h
  have ih:=wanS_last s m k y
  split at h
  ·split at h
   ·simp at h
    exact ⟨k,by omega,by simp [← h]⟩
   ·obtain ⟨i,hi,e⟩:=ih h
    exact ⟨i,by omega,e⟩
  ·obtain ⟨i,hi,e⟩:=ih h
   exact ⟨i,by omega,e⟩
theorem wan_raw (s : List Int) (hs : s.Pairwise (· ≤ ·)) (m : Nat) : ∀ k,k ≤ s.length → wanS s m k = ddI (rawS s m k)
 |0,_=>rfl
 |k + 1,hk=>by
  have ih:=wan_raw s hs m k (by omega)
  rw [wanS,rawS]
  by_cases hc : cnd s m k = true
  ·rw [if_pos hc,if_pos hc,ddI_snoc,← ih]
   unfold ddSI
   cases hl : (wanS s m k).getLast? with
   |none=>simp
   |some y =>
    obtain ⟨i,hi,rfl⟩:=wanS_last s m k y hl
    have h1 : s.getD i 0 ≤ s.getD k 0:=by
     have:=List.pairwise_iff_getElem.1 hs i k (by omega) (by omega) hi
     simpa [List.getD_eq_getElem?_getD,List.getElem?_eq_getElem (show i < s.length by omega),List.getElem?_eq_getElem (show k < s.length by omega)] using this
    simp only [Option.all_some,decide_eq_true_eq,Option.some.injEq]
    by_cases h2 : s.getD i 0 < s.getD k 0
    ·rw [if_pos h2,if_neg (by omega)]
    ·rw [if_neg h2,if_pos (by omega)]
  ·rw [if_neg hc,if_neg hc,ih]
theorem wanS_lt (s : List Int) (m : Nat) : ∀ k,(wanS s m k).Pairwise (· < ·)
 |0=>List.Pairwise.nil
 |k + 1=>by
  have ih:=wanS_lt s m k
  rw [wanS]
  split
  ·split
   ·rename_i h
    rw [List.pairwise_append]
    refine ⟨ih,List.pairwise_singleton _ _,fun a ha c hc=>?_⟩
    simp only [List.mem_singleton] at hc
    subst hc
    rcases List.eq_nil_or_concat (wanS s m k) with h0|⟨I,y,h0⟩
    ·rw [h0] at ha;cases ha
    ·rw [h0] at h ih ha
     simp only [List.concat_eq_append] at h ih ha
     rw [List.getLast?_concat] at h
     simp only [Option.all_some,decide_eq_true_eq] at h
     rcases List.mem_append.1 ha with ha|ha
     ·have:=(List.pairwise_append.1 ih).2.2 a ha y (by simp)
      omega
     ·simp only [List.mem_singleton] at ha
      omega
   ·exact ih
  ·exact ih
theorem wanS_len (s : List Int) (m : Nat) : ∀ k,(wanS s m k).length ≤ k
 |0=>by simp [wanS]
 |k + 1=>by
  have:=wanS_len s m k
  rw [wanS]
  split
  ·split <;> simp <;> omega
  ·omega
end Go.Proofs.Ytlkijcflfnnbaaa
end
