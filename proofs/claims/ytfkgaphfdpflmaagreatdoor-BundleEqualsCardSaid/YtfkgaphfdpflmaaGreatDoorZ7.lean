/- Fractions: sums, products, quotients, comparison -/
import Derived.Test.YtfkgaphfdpflmaaGreatDoorZ5
set_option maxRecDepth 100000
set_option linter.unusedSimpArgs false
set_option linter.unusedVariables false
namespace Go.Proofs.YtfkgaphfdpflmaaGreatDoor
open Go.Am
structure Bd (n d : Nat) (q : Rat) : Prop where
 num : q.num.natAbs ≤ n
 den : q.den ≤ d
theorem Bd.mono {n d n' d' : Nat} {q : Rat} (h : Bd n d q) (hn : n ≤ n') (hd : d ≤ d') : Bd n' d' q:=⟨Nat.le_trans h.num hn,Nat.le_trans h.den hd⟩
theorem Bd.neg {n d : Nat} {q : Rat} (h : Bd n d q) : Bd n d (-q):=⟨by rw [Rat.neg_num,Int.natAbs_neg];exact h.num,h.den⟩
theorem Bd.int {n : Nat} {z : Int} (h : z.natAbs ≤ n) : Bd n 1 (z : Rat):=⟨h,Nat.le_refl _⟩
theorem bd_divInt (n d : Int) : (Rat.divInt n d).num.natAbs ≤ n.natAbs ∧ (Rat.divInt n d).den ≤ max 1 d.natAbs:=by
 have h1 : (Rat.divInt n d).num = d.sign * n / Int.gcd d n:=Rat.num_divInt n d
 have h2:=Rat.den_divInt n d
 constructor
 ·rw [h1]
  refine Nat.le_trans (Int.natAbs_ediv_le_natAbs _ _) ?_
  rw [Int.natAbs_mul]
  have : d.sign.natAbs ≤ 1:=by
   rcases Int.lt_trichotomy d 0 with h|h|h
   ·rw [Int.sign_eq_neg_one_of_neg h];decide
   ·subst h;decide
   ·rw [Int.sign_eq_one_of_pos h];decide
  exact Nat.le_trans (Nat.mul_le_mul_right _ this) (by omega)
 ·rw [h2]
  split
  ·omega
  ·have:=Nat.div_le_self d.natAbs (Int.gcd d n)
   omega
theorem Bd.add {n d n' d' : Nat} {a b : Rat} (h : Bd n d a) (k : Bd n' d' b) : Bd (n * d' + n' * d) (d * d') (a + b):=by
 have e : a + b = Rat.divInt (a.num * b.den + b.num * a.den) ((a.den * b.den : Nat) : Int):=by rw [Rat.add_def',Rat.divInt_ofNat]
 obtain ⟨h1,h2⟩:=bd_divInt (a.num * b.den + b.num * a.den) ((a.den * b.den : Nat) : Int)
 rw [← e] at h1 h2
 have p1:=Nat.mul_le_mul h.num k.den
 have p2:=Nat.mul_le_mul k.num h.den
 have p3:=Nat.mul_le_mul h.den k.den
 have p4 : 0 < a.den * b.den:=Nat.mul_pos a.den_pos b.den_pos
 have t1 : (a.num * b.den).natAbs = a.num.natAbs * b.den:=by rw [Int.natAbs_mul];rfl
 have t2 : (b.num * a.den).natAbs = b.num.natAbs * a.den:=by rw [Int.natAbs_mul];rfl
 have t3:=Int.natAbs_add_le (a.num * b.den) (b.num * a.den)
 exact ⟨by omega,by omega⟩
theorem Bd.sub {n d n' d' : Nat} {a b : Rat} (h : Bd n d a) (k : Bd n' d' b) : Bd (n * d' + n' * d) (d * d') (a - b):=by
 rw [Rat.sub_eq_add_neg]
 exact h.add k.neg
theorem Bd.mul {n d n' d' : Nat} {a b : Rat} (h : Bd n d a) (k : Bd n' d' b) : Bd (n * n') (d * d') (a * b):=by
 have e : a * b = Rat.divInt (a.num * b.num) ((a.den * b.den : Nat) : Int):=by rw [Rat.mul_def',Rat.divInt_ofNat]
 obtain ⟨h1,h2⟩:=bd_divInt (a.num * b.num) ((a.den * b.den : Nat) : Int)
 rw [← e] at h1 h2
 have p1:=Nat.mul_le_mul h.num k.num
 have p3:=Nat.mul_le_mul h.den k.den
 have p4 : 0 < a.den * b.den:=Nat.mul_pos a.den_pos b.den_pos
 rw [Int.natAbs_mul] at h1
 exact ⟨by omega,by omega⟩
theorem Bd.div {n d n' d' : Nat} {a b : Rat} (h : Bd n d a) (k : Bd n' d' b) (hn : 0 < n') : Bd (n * d') (d * n') (a / b):=by
 rw [Rat.div_def]
 refine h.mul ⟨?_,?_⟩
 ·rw [Rat.num_inv,Int.natAbs_mul]
  have : b.num.sign.natAbs ≤ 1:=by
   rcases Int.lt_trichotomy b.num 0 with h|h|h
   ·rw [Int.sign_eq_neg_one_of_neg h];decide
   ·rw [h];decide
   ·rw [Int.sign_eq_one_of_pos h];decide
  exact Nat.le_trans (Nat.mul_le_mul this k.den) (by omega)
 ·rw [Rat.den_inv]
  split
  ·omega
  ·exact k.num
theorem s_negQ (q : Rat) : PSpec Tryz.prog 116 [encQ q] (encQ (-q)):=by
 have h:=s_negate q.num
 have e2 : dn (-q) = dn q:=rfl
 unfold encQ
 rw [Rat.neg_num,e2]
 refine pS Tryz.func116 ?_
 intro E hE
 repeat' (first
  |(with_reducible first|refine uK ?_|refine uQ ?_|refine uX ?_|refine jq fun K hK=>?_|refine jb ?_)|(with_reducible refine rS hE ?_;simp [*,encZ])|with_reducible refine rL hE ?_|(((with_reducible show RK _ _ _ _ _ _);first|refine jn ?_|refine js fun K' hK'=>?_);simp [*,encZ])|with_reducible refine rD mixed hE ?_|((with_reducible show RKQ _ _ _ _ _ _);first|refine RKQ_nilk ⟨by decide,?_⟩|(refine jv fun K' hK'=>?_;simp [*,encZ]))|((with_reducible first|refine ji fun X Y hX hY=>?_|refine jr ?_|refine jk ?_|refine jx ?_);simp [*,encZ])|((first|refine jC (h) ?_ ?_ ?_|refine jQ (h) ?_ ?_ ?_);(iterate 2 focus (simp [*,encZ] <;> fail));simp [*,encZ])|with_reducible refine And.intro ?_ ?_|omega|(refine imp1 fun h=>?_))
theorem s_signQ (q : Rat) : PSpec Tryz.prog 118 [encQ q] (iA (cmpI q.num 0)):=by
 have h:=s_sign q.num
 refine pS Tryz.func118 ?_
 intro E hE
 have k'1:=Hld.mk (h);have z'1:=@encZ.eq_1;have z'2:=@encQ.eq_1;exact ga1
def crs (a b : Rat) : Int × Int × Int:=if dn a = dn b then (a.num,b.num,(a.den : Int)) else (a.num * b.den,b.num * a.den,(a.den : Int) * b.den)
theorem dn_inj {a b : Rat} (h : dn a = dn b) : a.den = b.den:=by
 unfold dn at h
 have:=a.den_nz
 have:=b.den_nz
 split at h <;> split at h <;> omega
def cmpQ (a b : Rat) : Int:=if a < b then -1 else if b < a then 1 else 0
theorem crs_pos (a b : Rat) : 0 < (crs a b).2.2:=by
 have h1 : 0 < (a.den : Int):=by have:=a.den_pos;omega
 have h2 : 0 < (b.den : Int):=by have:=b.den_pos;omega
 unfold crs
 split
 ·exact h1
 ·exact Int.mul_pos h1 h2
theorem crs_add (a b : Rat) : Rat.divInt ((crs a b).1 + (crs a b).2.1) (crs a b).2.2 = a + b:=by
 rw [Rat.add_def']
 unfold crs
 split
 ·rename_i h
  have h:=dn_inj h
  simp only
  rw [← h,← Int.add_mul,Rat.mkRat_mul_right a.den_nz,Rat.divInt_ofNat]
 ·simp only
  rw [← Rat.divInt_ofNat]
  simp
theorem crs_cmp (a b : Rat) : cmpI (crs a b).1 (crs a b).2.1 = cmpQ a b:=by
 have h1:=Rat.lt_iff a b
 have h2:=Rat.lt_iff b a
 unfold cmpI cmpQ crs
 split
 ·rename_i h
  have h:=dn_inj h
  have h3 : 0 < (b.den : Int):=by have:=b.den_pos;omega
  rw [h] at h1 h2
  rw [Int.mul_lt_mul_right h3] at h1 h2
  simp only [h1,h2]
 ·simp only [h1,h2]
theorem crs_bd {n d n' d' : Nat} {a b : Rat} (h : Bd n d a) (k : Bd n' d' b) : (crs a b).1.natAbs ≤ n * d' ∧ (crs a b).2.1.natAbs ≤ n' * d ∧ (crs a b).2.2.natAbs ≤ d * d':=by
 have p1:=Nat.mul_le_mul h.num k.den
 have p2:=Nat.mul_le_mul k.num h.den
 have p3:=Nat.mul_le_mul h.den k.den
 have a1:=a.den_pos
 have b1:=b.den_pos
 unfold crs
 split
 ·refine ⟨?_,?_,?_⟩ <;> simp only
  ·exact Nat.le_trans (Nat.le_mul_of_pos_right _ b1) p1
  ·exact Nat.le_trans (Nat.le_mul_of_pos_right _ a1) p2
  ·exact Nat.le_trans (Nat.le_mul_of_pos_right _ b1) p3
 ·refine ⟨?_,?_,?_⟩ <;> simp only <;> rw [Int.natAbs_mul]
  ·exact p1
  ·exact p2
  ·exact p3
theorem s_cross {n d n' d' : Nat} {a b : Rat} (h : Bd n d a) (k : Bd n' d' b) (h1 : n * d' < 9223372036854775808) (h2 : n' * d < 9223372036854775808) (h3 : d * d' < 9223372036854775808) (h4 : n < 9223372036854775808 ∧ d < 9223372036854775808 ∧ n' < 9223372036854775808 ∧ d' < 9223372036854775808) :
 PSpec Tryz.prog 145 [encQ a,encQ b] (.tup [encZ (crs a b).1,encZ (crs a b).2.1,encZ (crs a b).2.2]):=by
 have p1:=Nat.mul_le_mul h.num k.den
 have p2:=Nat.mul_le_mul k.num h.den
 have p3:=Nat.mul_le_mul h.den k.den
 have g1:=h.num
 have g2:=h.den
 have g3:=k.num
 have g4:=k.den
 have m1:=Hld.mk (s_mulZ a.num b.den (by omega) (by omega) (by rw [Int.natAbs_natCast];omega))
 have m2:=Hld.mk (s_mulZ b.num a.den (by omega) (by omega) (by rw [Int.natAbs_natCast];omega))
 have m3:=Hld.mk (s_mulZ a.den b.den (by omega) (by omega) (by rw [Int.natAbs_natCast,Int.natAbs_natCast];omega))
 have e1:=Hld.mk (s_den a)
 have e2:=Hld.mk (s_den b)
 clear h k p1 p2 p3 g1 g2 g3 g4 h1 h2 h3 h4
 unfold crs
 by_cases hd : dn a = dn b
 ·rw [if_pos hd]
  simp only
  refine pS Tryz.func145 ?_
  intro E hE
  refine AW_seqt ⟨[(6,.loc 6 0),(5,.loc 5 0),(4,.loc 4 0),(3,.loc 3 0),(2,.loc 2 0)],[(6,.box 82 (.st [bA false,eA])),(5,.box 82 (.st [bA false,eA])),(4,.box 82 (.st [bA false,eA])),(3,.box 84 (encQ b)),(2,.box 84 (encQ a))]⟩ ?_ (by
   intro K hK
   have z'1:=@encZ.eq_1;have z'2:=@encQ.eq_1;exact ga0)
  refine AW_seqk fun K hK=>?_
  refine AW_seqt ⟨[(11,bA true),(6,.loc 6 0),(5,.loc 5 0),(4,.loc 4 0),(3,.loc 3 0),(2,.loc 2 0)],[(6,.box 82 (.st [bA false,eA])),(5,.box 82 (.st [bA false,eA])),(4,.box 82 (.st [bA false,eA])),(3,.box 84 (encQ b)),(2,.box 84 (encQ a))]⟩ ?_ (by
   intro K hK
   have z'1:=@encZ.eq_1;have z'2:=@encQ.eq_1;exact ga0)
  clear hK
  refine AW_cond (t:=true) (by simp) ?_ ?_
  ·intro _
   refine AW_seqt ⟨[(6,.loc 6 0),(5,.loc 5 0),(4,.loc 4 0)],[(6,.box 82 (encZ a.den)),(5,.box 82 (encZ b.num)),(4,.box 82 (encZ a.num))]⟩ ?_ (by
    intro K hK
    refine AW_drawF (fun f=>⟨[(12,if f 0 then .loc 2 0 else .u),(13,if f 1 then encZ a.num else .u),(14,if f 2 then .loc 3 0 else .u),(15,if f 3 then encZ b.num else .u),(16,if f 4 then encQ a else .u),(17,if f 5 then encZ a.den else .u),(6,.loc 6 0),(5,.loc 5 0),(4,.loc 4 0),(3,.loc 3 0),(2,.loc 2 0)],
     [(6,.box 82 (if f 8 then encZ a.den else .st [bA false,eA])),(5,.box 82 (if f 7 then encZ b.num else .st [bA false,eA])),(4,.box 82 (if f 6 then encZ a.num else .st [bA false,eA])),(3,.box 84 (encQ b)),(2,.box 84 (encQ a))]⟩) mixed (by rw [hE];decide) (by decide +kernel) (by decide +kernel) (by simp) ?_ ?_
    ·intro f i o hi hdep hnot hcl K2 hK2
     clear hcl
     iterate 9 (rcases i with _|i;rotate_left)
     ·simp at hi
     all_goals (simp only [List.getElem?_cons_succ,List.getElem?_cons_zero,Option.some.injEq] at hi;subst hi)
     all_goals simp [Region.binds] at hdep
     all_goals (have k'1:=e1;have z'1:=@encZ.eq_1;have z'2:=@encQ.eq_1;exact gd1)
    ·intro f hf
     have e6:=hf 6 (by simp)
     have e7:=hf 7 (by simp)
     have e8:=hf 8 (by simp)
     refine hK.h _ ?_
     simp [e6,e7,e8,encZ,encQ]
    all_goals simp)
   have z'1:=@encZ.eq_1;exact ga0
  ·intro h;cases h
 ·rw [if_neg hd]
  simp only
  obtain ⟨x,hx⟩ : ∃ x,a.num * b.den = x:=⟨_,rfl⟩
  obtain ⟨y,hy⟩ : ∃ x,b.num * a.den = x:=⟨_,rfl⟩
  obtain ⟨z,hz⟩ : ∃ x,(a.den : Int) * b.den = x:=⟨_,rfl⟩
  rw [hx] at m1 ⊢
  rw [hy] at m2 ⊢
  rw [hz] at m3 ⊢
  clear hx hy hz
  refine pS Tryz.func145 ?_
  intro E hE
  refine AW_seqt ⟨[(6,.loc 6 0),(5,.loc 5 0),(4,.loc 4 0),(3,.loc 3 0),(2,.loc 2 0)],[(6,.box 82 (.st [bA false,eA])),(5,.box 82 (.st [bA false,eA])),(4,.box 82 (.st [bA false,eA])),(3,.box 84 (encQ b)),(2,.box 84 (encQ a))]⟩ ?_ (by
   intro K hK
   have z'1:=@encZ.eq_1;have z'2:=@encQ.eq_1;exact ga0)
  refine AW_seqt ⟨[(6,.loc 6 0),(5,.loc 5 0),(4,.loc 4 0),(3,.loc 3 0),(2,.loc 2 0)],[(6,.box 82 (.st [bA false,eA])),(5,.box 82 (.st [bA false,eA])),(4,.box 82 (.st [bA false,eA])),(3,.box 84 (encQ b)),(2,.box 84 (encQ a))]⟩ ?_ (by
   intro K hK
   have z'1:=@encZ.eq_1;have z'2:=@encQ.eq_1;exact ga0)
  refine AW_seqt ⟨[(6,.loc 6 0),(5,.loc 5 0),(4,.loc 4 0)],[(6,.box 82 (encZ z)),(5,.box 82 (encZ y)),(4,.box 82 (encZ x))]⟩ ?_ (by
   intro K hK
   refine AW_drawF (fun f=>⟨[(18,if f 0 then .loc 2 0 else .u),(19,if f 1 then encZ a.num else .u),(20,if f 2 then encQ b else .u),(21,if f 3 then encZ b.den else .u),(22,if f 4 then encZ x else .u),(23,if f 5 then .loc 3 0 else .u),(24,if f 6 then encZ b.num else .u),(25,if f 7 then encQ a else .u),(26,if f 8 then encZ a.den else .u),(27,if f 9 then encZ y else .u),
    (28,if f 10 then encQ a else .u),(29,if f 11 then encZ a.den else .u),(30,if f 12 then encQ b else .u),(31,if f 13 then encZ b.den else .u),(32,if f 14 then encZ z else .u),(6,.loc 6 0),(5,.loc 5 0),(4,.loc 4 0),(3,.loc 3 0),(2,.loc 2 0)],
    [(6,.box 82 (if f 17 then encZ z else .st [bA false,eA])),(5,.box 82 (if f 16 then encZ y else .st [bA false,eA])),(4,.box 82 (if f 15 then encZ x else .st [bA false,eA])),(3,.box 84 (encQ b)),(2,.box 84 (encQ a))]⟩) mixed (by rw [hE];decide) (by decide +kernel) (by decide +kernel) (by simp) ?_ ?_
   ·intro f i o hi hdep hnot hcl K2 hK2
    clear hcl
    iterate 18 (rcases i with _|i;rotate_left)
    ·simp at hi
    all_goals (simp only [List.getElem?_cons_succ,List.getElem?_cons_zero,Option.some.injEq] at hi;subst hi)
    all_goals simp [Region.binds] at hdep
    all_goals (simp [*,encZ,encQ];(repeat' (first|with_reducible refine And.intro ?_ ?_|omega));first|(refine hK2.h _ ?_;simp [*,encZ,encQ];done)|(refine acall_same (e1.out) ?_ ?_ ?_;(iterate 2 (focus (simp [*,encZ,encQ] <;> fail)));simp [*,encZ,encQ];refine hK2.h _ ?_;simp [*,encZ,encQ])|(refine acall_view (e1.out) ?_ ?_ ?_;(iterate 2 (focus (simp [*,encZ,encQ] <;> fail)));simp [*,encZ,encQ];refine hK2.h _ ?_;simp [*,encZ,encQ])|(refine acall_same (e2.out) ?_ ?_ ?_;(iterate 2 (focus (simp [*,encZ,encQ] <;> fail)));simp [*,encZ,encQ];refine hK2.h _ ?_;simp [*,encZ,encQ])|(refine acall_view (e2.out) ?_ ?_ ?_;(iterate 2 (focus (simp [*,encZ,encQ] <;> fail)));simp [*,encZ,encQ];refine hK2.h _ ?_;simp [*,encZ,encQ])|(refine acall_same (m1.out) ?_ ?_ ?_;(iterate 2 (focus (simp [*,encZ,encQ] <;> fail)));simp [*,encZ,encQ];refine hK2.h _ ?_;simp [*,encZ,encQ])|(refine acall_view (m1.out) ?_ ?_ ?_;(iterate 2 (focus (simp [*,encZ,encQ] <;> fail)));simp [*,encZ,encQ];refine hK2.h _ ?_;simp [*,encZ,encQ])|(refine acall_same (m2.out) ?_ ?_ ?_;(iterate 2 (focus (simp [*,encZ,encQ] <;> fail)));simp [*,encZ,encQ];refine hK2.h _ ?_;simp [*,encZ,encQ])|(refine acall_view (m2.out) ?_ ?_ ?_;(iterate 2 (focus (simp [*,encZ,encQ] <;> fail)));simp [*,encZ,encQ];refine hK2.h _ ?_;simp [*,encZ,encQ])|(refine acall_same (m3.out) ?_ ?_ ?_;(iterate 2 (focus (simp [*,encZ,encQ] <;> fail)));simp [*,encZ,encQ];refine hK2.h _ ?_;simp [*,encZ,encQ])|(refine acall_view (m3.out) ?_ ?_ ?_;(iterate 2 (focus (simp [*,encZ,encQ] <;> fail)));simp [*,encZ,encQ];refine hK2.h _ ?_;simp [*,encZ,encQ]))
   ·intro f hf
    have e15:=hf 15 (by simp)
    have e16:=hf 16 (by simp)
    have e17:=hf 17 (by simp)
    refine hK.h _ ?_
    simp [e15,e16,e17,encZ,encQ]
   all_goals simp)
  have z'1:=@encZ.eq_1;exact ga0
theorem s_addQ {n d n' d' : Nat} {a b : Rat} (h : Bd n d a) (k : Bd n' d' b) (h1 : n * d' + n' * d < 9223372036854775808) (h3 : d * d' < 9223372036854775808) (h4 : n < 9223372036854775808 ∧ d < 9223372036854775808 ∧ n' < 9223372036854775808 ∧ d' < 9223372036854775808) : PSpec Tryz.prog 101 [encQ a,encQ b] (encQ (a + b)):=by
 have hc:=s_cross h k (by omega) (by omega) h3 h4
 obtain ⟨b1,b2,b3⟩:=crs_bd h k
 have hp:=crs_pos a b
 have e:=crs_add a b
 have t3:=Int.natAbs_add_le (crs a b).1 (crs a b).2.1
 have ha:=s_addZ (crs a b).1 (crs a b).2.1 (by omega)
 have hk:=s_canon ((crs a b).1 + (crs a b).2.1) (crs a b).2.2 (by omega) (by omega) (by omega)
 rw [e] at hk
 obtain ⟨x,hx⟩ : ∃ x,(crs a b).1 = x:=⟨_,rfl⟩
 obtain ⟨y,hy⟩ : ∃ x,(crs a b).2.1 = x:=⟨_,rfl⟩
 obtain ⟨z,hz⟩ : ∃ x,(crs a b).2.2 = x:=⟨_,rfl⟩
 obtain ⟨q,hq⟩ : ∃ x,a + b = x:=⟨_,rfl⟩
 rw [hx,hy,hz] at hc hk
 rw [hx,hy] at ha
 rw [hq] at hk ⊢
 obtain ⟨w,hw⟩ : ∃ w,x + y = w:=⟨_,rfl⟩
 rw [hw] at hk ha
 replace hk:=Hld.mk hk
 replace ha:=Hld.mk ha
 clear b1 b2 b3 hp e t3 hx hy hz hq hw h1 h3 h4 h k
 refine pS Tryz.func101 ?_
 intro E hE
 repeat' (first
  |(with_reducible first|refine uK ?_|refine uQ ?_|refine uX ?_|refine jq fun K hK=>?_|refine jb ?_)|(with_reducible refine rS hE ?_;simp [*,encZ,encQ])|with_reducible refine rL hE ?_|(((with_reducible show RK _ _ _ _ _ _);first|refine jn ?_|refine js fun K' hK'=>?_);simp [*,encZ,encQ])|with_reducible refine rD mixed hE ?_|((with_reducible show RKQ _ _ _ _ _ _);first|refine RKQ_nilk ⟨by decide,?_⟩|(refine jv fun K' hK'=>?_;simp [*,encZ,encQ]))|((with_reducible first|refine ji fun X Y hX hY=>?_|refine jr ?_|refine jk ?_|refine jx ?_);simp [*,encZ,encQ])|((first|refine jC (hc) ?_ ?_ ?_|refine jQ (hc) ?_ ?_ ?_);(iterate 2 focus (simp [*,encZ,encQ] <;> fail));simp [*,encZ,encQ])|((first|refine jC (ha.out) ?_ ?_ ?_|refine jQ (ha.out) ?_ ?_ ?_);(iterate 2 focus (simp [*,encZ,encQ] <;> fail));simp [*,encZ,encQ])|((first|refine jC (hk.out) ?_ ?_ ?_|refine jQ (hk.out) ?_ ?_ ?_);(iterate 2 focus (simp [*,encZ,encQ] <;> fail));simp [*,encZ,encQ])|with_reducible refine And.intro ?_ ?_|omega|(refine imp1 fun h=>?_))
theorem s_subQ {n d n' d' : Nat} {a b : Rat} (h : Bd n d a) (k : Bd n' d' b) (h1 : n * d' + n' * d < 9223372036854775808) (h3 : d * d' < 9223372036854775808) (h4 : n < 9223372036854775808 ∧ d < 9223372036854775808 ∧ n' < 9223372036854775808 ∧ d' < 9223372036854775808) : PSpec Tryz.prog 114 [encQ a,encQ b] (encQ (a - b)):=by
 have ha:=Hld.mk (s_addQ h k.neg h1 h3 h4)
 have hn:=Hld.mk (s_negQ b)
 rw [Rat.sub_eq_add_neg]
 obtain ⟨c,hc⟩ : ∃ c, -b = c:=⟨_,rfl⟩
 rw [hc] at ha hn ⊢
 obtain ⟨q,hq⟩ : ∃ x,a + c = x:=⟨_,rfl⟩
 rw [hq] at ha ⊢
 clear hc hq h k h1 h3 h4
 refine pS Tryz.func114 ?_
 intro E hE
 repeat' (first
  |(with_reducible first|refine uK ?_|refine uQ ?_|refine uX ?_|refine jq fun K hK=>?_|refine jb ?_)|(with_reducible refine rS hE ?_;simp [*,encQ])|with_reducible refine rL hE ?_|(((with_reducible show RK _ _ _ _ _ _);first|refine jn ?_|refine js fun K' hK'=>?_);simp [*,encQ])|with_reducible refine rD mixed hE ?_|((with_reducible show RKQ _ _ _ _ _ _);first|refine RKQ_nilk ⟨by decide,?_⟩|(refine jv fun K' hK'=>?_;simp [*,encQ]))|((with_reducible first|refine ji fun X Y hX hY=>?_|refine jr ?_|refine jk ?_|refine jx ?_);simp [*,encQ])|((first|refine jC (hn.out) ?_ ?_ ?_|refine jQ (hn.out) ?_ ?_ ?_);(iterate 2 focus (simp [*,encQ] <;> fail));simp [*,encQ])|((first|refine jC (ha.out) ?_ ?_ ?_|refine jQ (ha.out) ?_ ?_ ?_);(iterate 2 focus (simp [*,encQ] <;> fail));simp [*,encQ])|with_reducible refine And.intro ?_ ?_|omega|(refine imp1 fun h=>?_))
theorem s_mulQ {n d n' d' : Nat} {a b : Rat} (h : Bd n d a) (k : Bd n' d' b) (h1 : n * n' < 9223372036854775808) (h3 : d * d' < 9223372036854775808) (h4 : n < 9223372036854775808 ∧ d < 9223372036854775808 ∧ n' < 9223372036854775808 ∧ d' < 9223372036854775808) : PSpec Tryz.prog 111 [encQ a,encQ b] (encQ (a * b)):=by
 have p1:=Nat.mul_le_mul h.num k.num
 have p3:=Nat.mul_le_mul h.den k.den
 have g1:=h.num
 have g2:=h.den
 have g3:=k.num
 have g4:=k.den
 have m1:=Hld.mk (s_mulZ a.num b.num (by omega) (by omega) (by omega))
 have m3:=Hld.mk (s_mulZ a.den b.den (by omega) (by omega) (by rw [Int.natAbs_natCast,Int.natAbs_natCast];omega))
 have e1:=Hld.mk (s_den a)
 have e2:=Hld.mk (s_den b)
 have e : a * b = Rat.divInt (a.num * b.num) ((a.den : Int) * b.den):=by rw [Rat.mul_def',← Rat.divInt_ofNat];simp
 have hz : (a.den : Int) * b.den ≠ 0:=by
  have:=Int.mul_pos (a:=(a.den : Int)) (b:=b.den) (by have:=a.den_pos;omega) (by have:=b.den_pos;omega)
  omega
 have hk:=s_canon (a.num * b.num) ((a.den : Int) * b.den) hz (by rw [Int.natAbs_mul];omega) (by rw [Int.natAbs_mul,Int.natAbs_natCast,Int.natAbs_natCast];omega)
 rw [← e] at hk
 obtain ⟨x,hx⟩ : ∃ x,a.num * b.num = x:=⟨_,rfl⟩
 obtain ⟨z,hz'⟩ : ∃ x,(a.den : Int) * b.den = x:=⟨_,rfl⟩
 obtain ⟨q,hq⟩ : ∃ x,a * b = x:=⟨_,rfl⟩
 rw [hx] at m1 hk
 rw [hz'] at m3 hk
 rw [hq] at hk ⊢
 replace hk:=Hld.mk hk
 clear p1 p3 g1 g2 g3 g4 e hz hx hz' hq h k h1 h3 h4
 refine pS Tryz.func111 ?_
 intro E hE
 repeat' (first
  |(with_reducible first|refine uK ?_|refine uQ ?_|refine uX ?_|refine jq fun K hK=>?_|refine jb ?_)|(with_reducible refine rS hE ?_;simp [*,encZ,encQ])|with_reducible refine rL hE ?_|(((with_reducible show RK _ _ _ _ _ _);first|refine jn ?_|refine js fun K' hK'=>?_);simp [*,encZ,encQ])|with_reducible refine rD mixed hE ?_|((with_reducible show RKQ _ _ _ _ _ _);first|refine RKQ_nilk ⟨by decide,?_⟩|(refine jv fun K' hK'=>?_;simp [*,encZ,encQ]))|((with_reducible first|refine ji fun X Y hX hY=>?_|refine jr ?_|refine jk ?_|refine jx ?_);simp [*,encZ,encQ])|((first|refine jC (e1.out) ?_ ?_ ?_|refine jQ (e1.out) ?_ ?_ ?_);(iterate 2 focus (simp [*,encZ,encQ] <;> fail));simp [*,encZ,encQ])|((first|refine jC (e2.out) ?_ ?_ ?_|refine jQ (e2.out) ?_ ?_ ?_);(iterate 2 focus (simp [*,encZ,encQ] <;> fail));simp [*,encZ,encQ])|((first|refine jC (m1.out) ?_ ?_ ?_|refine jQ (m1.out) ?_ ?_ ?_);(iterate 2 focus (simp [*,encZ,encQ] <;> fail));simp [*,encZ,encQ])|((first|refine jC (m3.out) ?_ ?_ ?_|refine jQ (m3.out) ?_ ?_ ?_);(iterate 2 focus (simp [*,encZ,encQ] <;> fail));simp [*,encZ,encQ])|((first|refine jC (hk.out) ?_ ?_ ?_|refine jQ (hk.out) ?_ ?_ ?_);(iterate 2 focus (simp [*,encZ,encQ] <;> fail));simp [*,encZ,encQ])|with_reducible refine And.intro ?_ ?_|omega|(refine imp1 fun h=>?_))
theorem div_eq (a b : Rat) : a / b = Rat.divInt (a.num * b.den) ((a.den : Int) * b.num):=by
 rw [Rat.div_def,Rat.inv_def]
 rw (occs:=.pos [1]) [← Rat.num_divInt_den a]
 rw [Rat.divInt_mul_divInt]
theorem s_divQ {n d n' d' : Nat} {a b : Rat} (h : Bd n d a) (k : Bd n' d' b) (hb : b ≠ 0) (h1 : n * d' < 9223372036854775808) (h3 : d * n' < 9223372036854775808) (h4 : n < 9223372036854775808 ∧ d < 9223372036854775808 ∧ n' < 9223372036854775808 ∧ d' < 9223372036854775808) : PSpec Tryz.prog 165 [encQ a,encQ b] (.tup [encQ (a / b),iA 0]):=by
 have p1:=Nat.mul_le_mul h.num k.den
 have p3:=Nat.mul_le_mul h.den k.num
 have g1:=h.num
 have g2:=h.den
 have g3:=k.num
 have g4:=k.den
 have m1:=Hld.mk (s_mulZ a.num b.den (by omega) (by omega) (by rw [Int.natAbs_natCast];omega))
 have m3:=Hld.mk (s_mulZ a.den b.num (by omega) (by omega) (by rw [Int.natAbs_natCast];omega))
 have e1:=Hld.mk (s_den a)
 have e2:=Hld.mk (s_den b)
 have hz : (a.den : Int) * b.num ≠ 0:=by
  intro e
  rcases Int.mul_eq_zero.1 e with e|e
  ·have:=a.den_pos;omega
  ·exact hb (Rat.num_eq_zero.1 e)
 have hk:=s_make (a.num * b.den) ((a.den : Int) * b.num) hz (by rw [Int.natAbs_mul,Int.natAbs_natCast];omega) (by rw [Int.natAbs_mul,Int.natAbs_natCast];omega)
 rw [← div_eq] at hk
 obtain ⟨x,hx⟩ : ∃ x,a.num * b.den = x:=⟨_,rfl⟩
 obtain ⟨z,hz'⟩ : ∃ x,(a.den : Int) * b.num = x:=⟨_,rfl⟩
 obtain ⟨q,hq⟩ : ∃ x,a / b = x:=⟨_,rfl⟩
 rw [hx] at m1 hk
 rw [hz'] at m3 hk
 rw [hq] at hk ⊢
 replace hk:=Hld.mk hk
 clear p1 p3 g1 g2 g3 g4 hz hx hz' hq h k h1 h3 h4 hb
 refine pS Tryz.func165 ?_
 intro E hE
 repeat' (first
  |(with_reducible first|refine uK ?_|refine uQ ?_|refine uX ?_|refine jq fun K hK=>?_|refine jb ?_)|(with_reducible refine rS hE ?_;simp [*,encZ,encQ])|with_reducible refine rL hE ?_|(((with_reducible show RK _ _ _ _ _ _);first|refine jn ?_|refine js fun K' hK'=>?_);simp [*,encZ,encQ])|with_reducible refine rD mixed hE ?_|((with_reducible show RKQ _ _ _ _ _ _);first|refine RKQ_nilk ⟨by decide,?_⟩|(refine jv fun K' hK'=>?_;simp [*,encZ,encQ]))|((with_reducible first|refine ji fun X Y hX hY=>?_|refine jr ?_|refine jk ?_|refine jx ?_);simp [*,encZ,encQ])|((first|refine jC (e1.out) ?_ ?_ ?_|refine jQ (e1.out) ?_ ?_ ?_);(iterate 2 focus (simp [*,encZ,encQ] <;> fail));simp [*,encZ,encQ])|((first|refine jC (e2.out) ?_ ?_ ?_|refine jQ (e2.out) ?_ ?_ ?_);(iterate 2 focus (simp [*,encZ,encQ] <;> fail));simp [*,encZ,encQ])|((first|refine jC (m1.out) ?_ ?_ ?_|refine jQ (m1.out) ?_ ?_ ?_);(iterate 2 focus (simp [*,encZ,encQ] <;> fail));simp [*,encZ,encQ])|((first|refine jC (m3.out) ?_ ?_ ?_|refine jQ (m3.out) ?_ ?_ ?_);(iterate 2 focus (simp [*,encZ,encQ] <;> fail));simp [*,encZ,encQ])|((first|refine jC (hk.out) ?_ ?_ ?_|refine jQ (hk.out) ?_ ?_ ?_);(iterate 2 focus (simp [*,encZ,encQ] <;> fail));simp [*,encZ,encQ])|with_reducible refine And.intro ?_ ?_|omega|(refine imp1 fun h=>?_))
theorem encQ_inj {a b : Rat} (h1 : decide (a.num < 0) = decide (b.num < 0)) (h2 : a.num.natAbs = b.num.natAbs) (h3 : dn a = dn b) : a = b:=by
 refine Rat.ext ?_ (dn_inj h3)
 rw [decide_eq_decide] at h1
 omega
theorem s_cmpQ {n d n' d' : Nat} {a b : Rat} (h : Bd n d a) (k : Bd n' d' b) (h1 : n * d' < 9223372036854775808) (h2 : n' * d < 9223372036854775808) (h3 : d * d' < 9223372036854775808) (h4 : n < 9223372036854775808 ∧ d < 9223372036854775808 ∧ n' < 9223372036854775808 ∧ d' < 9223372036854775808) : PSpec Tryz.prog 138 [encQ a,encQ b] (iA (cmpQ a b)):=by
 have hc:=s_cross h k h1 h2 h3 h4
 have hk:=s_compareZ (crs a b).1 (crs a b).2.1
 rw [crs_cmp] at hk
 obtain ⟨x,hx⟩ : ∃ x,(crs a b).1 = x:=⟨_,rfl⟩
 obtain ⟨y,hy⟩ : ∃ x,(crs a b).2.1 = x:=⟨_,rfl⟩
 obtain ⟨z,hz⟩ : ∃ x,(crs a b).2.2 = x:=⟨_,rfl⟩
 rw [hx,hy,hz] at hc
 rw [hx,hy] at hk
 replace hc:=Hld.mk hc
 replace hk:=Hld.mk hk
 clear hx hy hz h k h1 h2 h3 h4
 by_cases hab : a = b
 ·subst hab
  have e : cmpQ a a = 0:=by simp [cmpQ,Rat.lt_irrefl]
  rw [e]
  refine pS Tryz.func138 ?_
  intro E hE
  have z'1:=@encQ.eq_1;exact ga0
 ·by_cases hn : decide (a.num < 0) = decide (b.num < 0) ∧ a.num.natAbs = b.num.natAbs ∧ dn a = dn b
  ·exact absurd (encQ_inj hn.1 hn.2.1 hn.2.2) hab
  ·refine pS Tryz.func138 ?_
   intro E hE
   repeat' (first
    |(with_reducible first|refine uK ?_|refine uX ?_|refine jq fun K hK=>?_|refine jb ?_)|((with_reducible first|refine rS hE ?_|refine jn ?_|refine js fun K' hK'=>?_|refine ji fun X Y hX hY=>?_|refine jr ?_|refine jk ?_|refine jx ?_);simp [*,encZ,encQ])|with_reducible refine rL hE ?_|(refine jC (hc.out) ?_ ?_ ?_;(iterate 2 focus (simp [*,encZ,encQ] <;> fail));simp [*,encZ,encQ])|(refine jC (hk.out) ?_ ?_ ?_;(iterate 2 focus (simp [*,encZ,encQ] <;> fail));simp [*,encZ,encQ])|with_reducible refine And.intro ?_ ?_|omega|(refine imp1 fun h=>?_))
   all_goals exact absurd (encQ_inj (decide_eq_decide.2 ‹_›) ‹_› ‹_›) hab
theorem s_checkQ {n d : Nat} {q : Rat} (h : Bd n d q) (h4 : n < 9223372036854775808 ∧ d < 9223372036854775808) : PSpec Tryz.prog 137 [encQ q] (iA 0):=by
 have c1:=Hld.mk (s_checkZ q.num)
 have c2:=Hld.mk (s_checkZ (dn q))
 have hone:=s_one
 have g1:=h.num
 have g2:=h.den
 by_cases hd : q.den = 1
 ·have h2 : dn q = 0:=by simp [dn,hd]
  refine pS Tryz.func137 ?_
  intro E hE
  have k'1:=c1;have k'2:=c2;have z'1:=@encZ.eq_1;have z'2:=@encQ.eq_1;exact ga2
 ·have h2 : dn q = q.den:=by simp [dn,hd]
  have h3:=q.den_pos
  have h5 : ¬ q.den = 0:=by omega
  rw [h2] at c2
  have hc:=s_compareZ q.den 1
  have hci : cmpI q.den 1 = 1:=by unfold cmpI;rw [if_neg (by omega),if_pos (by omega)]
  rw [hci] at hc
  have hg:=s_gcd q.num q.den (by omega) (by omega)
  have hg1 : Int.gcd q.num q.den = 1:=q.reduced
  rw [hg1] at hg
  refine pS Tryz.func137 ?_
  intro E hE
  repeat' (first
   |(with_reducible first|refine uK ?_|refine uQ ?_|refine uX ?_|refine jq fun K hK=>?_|refine jb ?_)|(with_reducible refine rS hE ?_;simp [*,encZ,encQ])|with_reducible refine rL hE ?_|(((with_reducible show RK _ _ _ _ _ _);first|refine jn ?_|refine js fun K' hK'=>?_);simp [*,encZ,encQ])|with_reducible refine rD mixed hE ?_|((with_reducible show RKQ _ _ _ _ _ _);first|refine RKQ_nilk ⟨by decide,?_⟩|(refine jv fun K' hK'=>?_;simp [*,encZ,encQ]))|((with_reducible first|refine ji fun X Y hX hY=>?_|refine jr ?_|refine jk ?_|refine jx ?_);simp [*,encZ,encQ])|((first|refine jC (c1.out) ?_ ?_ ?_|refine jQ (c1.out) ?_ ?_ ?_);(iterate 2 focus (simp [*,encZ,encQ] <;> fail));simp [*,encZ,encQ])|((first|refine jC (c2.out) ?_ ?_ ?_|refine jQ (c2.out) ?_ ?_ ?_);(iterate 2 focus (simp [*,encZ,encQ] <;> fail));simp [*,encZ,encQ])|((first|refine jC (hone) ?_ ?_ ?_|refine jQ (hone) ?_ ?_ ?_);(iterate 2 focus (simp [*,encZ,encQ] <;> fail));simp [*,encZ,encQ])|((first|refine jC (hc) ?_ ?_ ?_|refine jQ (hc) ?_ ?_ ?_);(iterate 2 focus (simp [*,encZ,encQ] <;> fail));simp [*,encZ,encQ])|((first|refine jC (hg) ?_ ?_ ?_|refine jQ (hg) ?_ ?_ ?_);(iterate 2 focus (simp [*,encZ,encQ] <;> fail));simp [*,encZ,encQ])|with_reducible refine And.intro ?_ ?_|omega|(refine imp1 fun h=>?_))
theorem s_rootQ0 : PSpec Tryz.prog 179 [encQ 0] (.tup [encQ 0,bA true]):=by
 have h1:=s_isSquare0
 have h2:=s_isSquare1
 have h3:=s_den 0
 have h4:=s_canon 0 1 (by omega) (by omega) (by omega)
 have e : Rat.divInt 0 1 = 0:=by simp
 rw [e] at h4
 have e2 : dn 0 = 0:=rfl
 have e3 : (0 : Rat).den = 1:=rfl
 refine pS Tryz.func179 ?_
 intro E hE
 have k'1:=Hld.mk (h1);have k'2:=Hld.mk (h2);have k'3:=Hld.mk (h3);have k'4:=Hld.mk (h4);have z'1:=@encZ.eq_1;have z'2:=@encQ.eq_1;exact ga4
theorem s_fromRat (q : Rat) : PSpec Tryz.prog 41 [encQ q] (encR q):=by
 refine pS Tryz.func41 ?_
 intro E hE
 have z'1:=@encQ.eq_1;have z'2:=@encR.eq_1;exact ga0
theorem s_rational (q : Rat) : PSpec Tryz.prog 257 [encR q] (.tup [encQ q,bA true]):=by
 refine pS Tryz.func257 ?_
 intro E hE
 have z'1:=@encQ.eq_1;have z'2:=@encR.eq_1;exact ga0
@[simp] theorem dn_0 : dn 0 = 0:=rfl
theorem s_sign0 (a b : Rat) : PSpec Tryz.prog 117 [encQ a,encQ b,encQ 0] (iA (cmpI a.num 0)):=by
 have h1:=s_signQ a
 have h2:=s_signQ b
 have h3:=s_signQ 0
 simp at h3
 have hb:=cmpI_bd a.num 0
 have hb2:=cmpI_bd b.num 0
 obtain ⟨x,hx⟩ : ∃ x,cmpI a.num 0 = x:=⟨_,rfl⟩
 obtain ⟨y,hy⟩ : ∃ x,cmpI b.num 0 = x:=⟨_,rfl⟩
 rw [hx] at h1 hb ⊢
 rw [hy] at h2 hb2
 clear hx hy
 refine pS Tryz.func117 ?_
 intro E hE
 repeat' (first
  |(with_reducible first|refine uK ?_|refine uQ ?_|refine uX ?_|refine jq fun K hK=>?_|refine jb ?_)|(with_reducible refine rS hE ?_;simp [*,encQ])|with_reducible refine rL hE ?_|(((with_reducible show RK _ _ _ _ _ _);first|refine jn ?_|refine js fun K' hK'=>?_);simp [*,encQ])|with_reducible refine rD mixed hE ?_|((with_reducible show RKQ _ _ _ _ _ _);first|refine RKQ_nilk ⟨by decide,?_⟩|(refine jv fun K' hK'=>?_;simp [*,encQ]))|((with_reducible first|refine ji fun X Y hX hY=>?_|refine jr ?_|refine jk ?_|refine jx ?_);simp [*,encQ])|((first|refine jC (h1) ?_ ?_ ?_|refine jQ (h1) ?_ ?_ ?_);(iterate 2 focus (simp [*,encQ] <;> fail));simp [*,encQ])|((first|refine jC (h2) ?_ ?_ ?_|refine jQ (h2) ?_ ?_ ?_);(iterate 2 focus (simp [*,encQ] <;> fail));simp [*,encQ])|((first|refine jC (h3) ?_ ?_ ?_|refine jQ (h3) ?_ ?_ ?_);(iterate 2 focus (simp [*,encQ] <;> fail));simp [*,encQ])|with_reducible refine And.intro ?_ ?_|omega|(refine imp1 fun h=>?_))
theorem s_factor (q : Rat) : PSpec Tryz.prog 115 [encR q] (encQ 1):=by
 have h:=s_fromIntQ 1 (by omega)
 refine pS Tryz.func115 ?_
 intro E hE
 have k'1:=Hld.mk (h);have z'1:=@encQ.eq_1;have z'2:=@encR.eq_1;exact ga1
theorem s_negR (q : Rat) : PSpec Tryz.prog 128 [encR q] (encR (-q)):=by
 have h:=s_negQ q
 have e2 : dn (-q) = dn q:=rfl
 refine pS Tryz.func128 ?_
 intro E hE
 repeat' (first
  |(with_reducible first|refine uK ?_|refine uQ ?_|refine uX ?_|refine jq fun K hK=>?_|refine jb ?_)|(with_reducible refine rS hE ?_;simp [*,encQ,encR])|with_reducible refine rL hE ?_|(((with_reducible show RK _ _ _ _ _ _);first|refine jn ?_|refine js fun K' hK'=>?_);simp [*,encQ,encR])|with_reducible refine rD mixed hE ?_|((with_reducible show RKQ _ _ _ _ _ _);first|refine RKQ_nilk ⟨by decide,?_⟩|(refine jv fun K' hK'=>?_;simp [*,encQ,encR]))|((with_reducible first|refine ji fun X Y hX hY=>?_|refine jr ?_|refine jk ?_|refine jx ?_);simp [*,encQ,encR])|((first|refine jC (h) ?_ ?_ ?_|refine jQ (h) ?_ ?_ ?_);(iterate 2 focus (simp [*,encQ,encR] <;> fail));simp [*,encQ,encR])|with_reducible refine And.intro ?_ ?_|omega|(refine imp1 fun h=>?_))
theorem s_checkR {n d : Nat} {q : Rat} (h : Bd n d q) (h4 : n < 9223372036854775808 ∧ d < 9223372036854775808) : PSpec Tryz.prog 168 [encR q] (iA 0):=by
 have h1:=s_checkQ h h4
 have h2:=s_checkQ (n:=0) (d:=1) (q:=0) ⟨by decide,by decide⟩ (by omega)
 have h3:=s_signQ 0
 simp at h3
 refine pS Tryz.func168 ?_
 intro E hE
 have k'1:=Hld.mk (h1);have k'2:=Hld.mk (h2);have k'3:=Hld.mk (h3);have z'1:=@encQ.eq_1;have z'2:=@encR.eq_1;exact ga3
@[simp] theorem ment_ite (c : Prop) [Decidable c] (a b : AV) (d : Nat) : (if c then a else b).ment d = (if c then a.ment d else b.ment d):=by split <;> rfl
theorem cmp_sub (x y : Rat) : cmpI (x - y).num 0 = cmpQ x y:=by
 have h1:=Rat.lt_iff_sub_pos y x
 have h2:=Rat.lt_iff_sub_pos x y
 have e : y - x = -(x - y):=by rw [Rat.neg_sub]
 have h3 : 0 < x - y ↔ 0 < (x - y).num:=by
  rw [Rat.lt_iff];simp
 have h4 : 0 < y - x ↔ (x - y).num < 0:=by
  rw [e,Rat.lt_iff];simp
 unfold cmpI cmpQ
 by_cases p : (x - y).num < 0
 ·rw [if_pos p,if_pos (h2.2 (h4.2 p))]
 ·rw [if_neg p,if_neg (fun h=>p (h4.1 (h2.1 h)))]
  by_cases q : 0 < (x - y).num
  ·rw [if_pos q,if_pos (h1.2 (h3.2 q))]
  ·rw [if_neg q,if_neg (fun h=>q (h3.1 (h1.1 h)))]
set_option maxHeartbeats 4000000 in
theorem s_cmpR {n d n' d' : Nat} {x y : Rat} (h : Bd n d x) (k : Bd n' d' y) (h1 : n * d' + n' * d < 9223372036854775808) (h3 : d * d' < 9223372036854775808) (h4 : n < 9223372036854775808 ∧ d < 9223372036854775808 ∧ n' < 9223372036854775808 ∧ d' < 9223372036854775808) : PSpec Tryz.prog 83 [encR x,encR y] (iA (cmpQ x y)):=by
 have hs:=Hld.mk (s_subQ h k h1 h3 h4)
 have f1:=Hld.mk (s_factor x)
 have f2:=Hld.mk (s_factor y)
 have g1:=Hld.mk (s_negQ 1)
 have e1:=cmp_sub x y
 have sg:=Hld.mk (s_sign0 (x - y) 1)
 have sn:=Hld.mk (s_signQ (-1))
 have s0:=Hld.mk (s_signQ 0)
 have bd:=cmpI_bd (x - y).num 0
 rw [e1] at sg bd
 obtain ⟨d,hd⟩ : ∃ d,x - y = d:=⟨_,rfl⟩
 obtain ⟨c,hc⟩ : ∃ d,cmpQ x y = d:=⟨_,rfl⟩
 rw [hd] at hs sg
 rw [hc] at sg bd ⊢
 clear e1 hd hc h k h1 h3 h4
 refine pS Tryz.func83 ?_
 intro E hE
 refine AW_seqt ⟨[(4,iA 0),(3,.loc 3 0),(2,.loc 2 0)],[(3,.box 92 (encR y)),(2,.box 92 (encR x))]⟩ ?_ (by
  intro K hK
  have z'1:=@encQ.eq_1;have z'2:=@encR.eq_1;exact ga0)
 refine AW_seqt ⟨[(7,.loc 7 0),(6,.loc 6 0),(5,.loc 5 0),(4,iA 0),(3,.loc 3 0),(2,.loc 2 0)],[(7,.box 84 (encQ (-1))),(6,.box 84 (encQ 1)),(5,.box 84 (encQ d)),(3,.box 92 (encR y)),(2,.box 92 (encR x))]⟩ ?_ (by
  intro K hK
  refine AW_drawF (fun f=>⟨[(11,if f 0 then .loc 2 0 else .u),(12,if f 1 then encQ x else .u),(13,if f 2 then .loc 3 0 else .u),(14,if f 3 then encQ y else .u),(15,if f 4 then encQ d else .u),(16,if f 5 then encR x else .u),(17,if f 6 then encQ 1 else .u),(18,if f 7 then encR y else .u),(19,if f 8 then encQ 1 else .u),(20,if f 9 then encQ (-1) else .u),
   (5,if f 10 then .loc 5 0 else .u),(6,if f 11 then .loc 6 0 else .u),(7,if f 12 then .loc 7 0 else .u),(4,iA 0),(3,.loc 3 0),(2,.loc 2 0)],
   (if f 10 then [(5,.box 84 (if f 13 then encQ d else .st [bA false,eA,bA false,eA]))] else []) ++ (if f 11 then [(6,.box 84 (if f 14 then encQ 1 else .st [bA false,eA,bA false,eA]))] else []) ++ (if f 12 then [(7,.box 84 (if f 15 then encQ (-1) else .st [bA false,eA,bA false,eA]))] else []) ++ [(3,.box 92 (encR y)),(2,.box 92 (encR x))]⟩) mixed (by rw [hE];decide) (by decide +kernel) (by decide +kernel) (by simp) ?_ ?_
  ·intro f i o hi hdep hnot hcl K2 hK2
   have w13_10 : f 13 = true → f 10 = true:=gw
   have w14_11 : f 14 = true → f 11 = true:=gw
   have w15_12 : f 15 = true → f 12 = true:=gw
   clear hcl
   iterate 16 (rcases i with _|i;rotate_left)
   ·simp at hi
   all_goals (simp only [List.getElem?_cons_succ,List.getElem?_cons_zero,Option.some.injEq] at hi;subst hi)
   all_goals simp [Region.binds] at hdep
   all_goals (rcases a10 : f 10 <;> rcases a11 : f 11 <;> rcases a12 : f 12)
   all_goals try (exfalso;revert hdep hnot w13_10 w14_11 w15_12;simp [a10,a11,a12];done)
   all_goals (try simp [a10,a11,a12,hnot] at w13_10)
   all_goals (try simp [a10,a11,a12,hnot] at w14_11)
   all_goals (try simp [a10,a11,a12,hnot] at w15_12)
   all_goals (have k'1:=hs;have k'2:=f1;have k'3:=f2;have k'4:=g1;have z'1:=@encQ.eq_1;have z'2:=@encR.eq_1;exact gd4)
  ·intro f hf
   have e13:=hf 13 (by simp)
   have e14:=hf 14 (by simp)
   have e15:=hf 15 (by simp)
   have e10:=hf 10 (by simp)
   have e11:=hf 11 (by simp)
   have e12:=hf 12 (by simp)
   refine hK.h _ ?_
   simp [e13,e14,e15,e10,e11,e12,encQ,encR]
  all_goals simp)
 have h0 : cmpI (0 : Rat).num 0 = 0:=by decide
 have h1 : cmpI (-1 : Rat).num 0 = -1:=by decide
 rw [h0] at s0
 rw [h1] at sn
 repeat' (first
  |(with_reducible first|refine uK ?_|refine uQ ?_|refine uX ?_|refine jq fun K hK=>?_|refine jb ?_)|(with_reducible refine rS hE ?_;simp [*,encQ,encR])|with_reducible refine rL hE ?_|(((with_reducible show RK _ _ _ _ _ _);first|refine jn ?_|refine js fun K' hK'=>?_);simp [*,encQ,encR])|with_reducible refine rD mixed hE ?_|((with_reducible show RKQ _ _ _ _ _ _);first|refine RKQ_nilk ⟨by decide,?_⟩|(refine jv fun K' hK'=>?_;simp [*,encQ,encR]))|((with_reducible first|refine ji fun X Y hX hY=>?_|refine jr ?_|refine jk ?_|refine jx ?_);simp [*,encQ,encR])|((first|refine jC (sg.out) ?_ ?_ ?_|refine jQ (sg.out) ?_ ?_ ?_);(iterate 2 focus (simp [*,encQ,encR] <;> fail));simp [*,encQ,encR])|((first|refine jC (sn.out) ?_ ?_ ?_|refine jQ (sn.out) ?_ ?_ ?_);(iterate 2 focus (simp [*,encQ,encR] <;> fail));simp [*,encQ,encR])|((first|refine jC (s0.out) ?_ ?_ ?_|refine jQ (s0.out) ?_ ?_ ?_);(iterate 2 focus (simp [*,encQ,encR] <;> fail));simp [*,encQ,encR])|with_reducible refine And.intro ?_ ?_|omega|(refine imp1 fun h=>?_))
set_option maxHeartbeats 4000000 in
theorem s_floor {n d : Nat} {q : Rat} (h : Bd n d q) (h1 : n < 9223372036854775808) (h2 : d * d < 9223372036854775808) (h4 : d < 9223372036854775808) : PSpec Tryz.prog 86 [encR q] (encZ (q.num / q.den)):=by
 have g1:=h.num
 have g2:=h.den
 have hp:=q.den_pos
 have p1:=Nat.mul_le_mul g2 g2
 have a1:=Hld.mk (s_num q)
 have a2:=Hld.mk (s_den q)
 have a3:=Hld.mk (s_num 0)
 have a4:=Hld.mk (s_den 0)
 have m1:=Hld.mk (s_mulZ q.den q.den (by omega) (by omega) (by rw [Int.natAbs_natCast];omega))
 have m2:=Hld.mk (s_mulZ 0 1 (by omega) (by omega) (by decide))
 have m3:=Hld.mk (s_mulZ ((q.den : Int) * q.den) 0 (by rw [Int.natAbs_mul,Int.natAbs_natCast];omega) (by omega) (by simp))
 have m4:=Hld.mk (s_mulZ q.num 1 (by omega) (by omega) (by rw [show Int.natAbs 1 = 1 from rfl];omega))
 have m5:=Hld.mk (s_mulZ q.den 1 (by omega) (by omega) (by rw [show Int.natAbs 1 = 1 from rfl,Int.natAbs_natCast];omega))
 have ad:=Hld.mk (s_addZ q.num 0 (by omega))
 have dm:=Hld.mk (s_divmod q.num q.den (by omega) (by omega) (by omega))
 have sq:=Hld.mk s_sqrt0
 rw [show (0 : Int) * 1 = 0 from rfl] at m2
 rw [Int.mul_zero] at m3
 rw [Int.mul_one] at m4 m5
 rw [Int.add_zero] at ad
 rw [show (0 : Rat).num = 0 from rfl] at a3
 rw [show (((0 : Rat).den : Nat) : Int) = 1 from rfl] at a4
 obtain ⟨DD,hDD⟩ : ∃ x,(q.den : Int) * q.den = x:=⟨_,rfl⟩
 obtain ⟨z,hz⟩ : ∃ x,q.num / (q.den : Int) = x:=⟨_,rfl⟩
 obtain ⟨w,hw⟩ : ∃ x,q.num % (q.den : Int) = x:=⟨_,rfl⟩
 rw [hDD] at m1 m3
 rw [hz,hw] at dm
 rw [hz]
 obtain ⟨D,hD⟩ : ∃ x,(q.den : Int) = x:=⟨_,rfl⟩
 rw [hD] at a2 m1 m5 dm
 clear hDD hz hw hD g1 g2 hp p1 h h1 h2 h4
 refine pS Tryz.func86 ?_
 intro E hE
 refine AW_seqt ⟨[(2,.loc 2 0),(1,.loc 1 0)],[(2,.box 82 (.st [bA false,eA])),(1,.box 92 (encR q))]⟩ ?_ (by
  intro K hK
  have z'1:=@encR.eq_1;exact ga0)
 refine AW_seqt ⟨[(4,.loc 4 0),(3,.loc 3 0),(2,.loc 2 0),(1,.loc 1 0)],[(4,.box 82 (encZ D)),(3,.box 82 (encZ q.num)),(2,.box 82 (.st [bA false,eA])),(1,.box 92 (encR q))]⟩ ?_ (by
  intro K hK
  refine AW_drawF (fun f=>⟨[(13,if f 0 then .loc 1 0 else .u),(14,if f 1 then encQ q else .u),(15,if f 2 then encZ q.num else .u),(16,if f 3 then .loc 1 0 else .u),(17,if f 4 then encQ q else .u),(18,if f 5 then encZ D else .u),(3,if f 6 then .loc 3 0 else .u),(4,if f 7 then .loc 4 0 else .u),(2,.loc 2 0),(1,.loc 1 0)],
   (if f 6 then [(3,.box 82 (if f 8 then encZ q.num else .st [bA false,eA]))] else []) ++ (if f 7 then [(4,.box 82 (if f 9 then encZ D else .st [bA false,eA]))] else []) ++ [(2,.box 82 (.st [bA false,eA])),(1,.box 92 (encR q))]⟩) mixed (by rw [hE];decide) (by decide +kernel) (by decide +kernel) (by simp) ?_ ?_
  ·intro f i o hi hdep hnot hcl K2 hK2
   have w8_6 : f 8 = true → f 6 = true:=gw
   have w9_7 : f 9 = true → f 7 = true:=gw
   clear hcl
   iterate 10 (rcases i with _|i;rotate_left)
   ·simp at hi
   all_goals (simp only [List.getElem?_cons_succ,List.getElem?_cons_zero,Option.some.injEq] at hi;subst hi)
   all_goals simp [Region.binds] at hdep
   all_goals (rcases a6 : f 6 <;> rcases a7 : f 7)
   all_goals try (exfalso;revert hdep hnot w8_6 w9_7;simp [a6,a7];done)
   all_goals (try simp [a6,a7,hnot] at w8_6)
   all_goals (try simp [a6,a7,hnot] at w9_7)
   all_goals (have k'1:=a1;have k'2:=a2;have z'1:=@encQ.eq_1;have z'2:=@encR.eq_1;have z'3:=@encZ.eq_1;exact gd2)
  ·intro f hf
   have e8:=hf 8 (by simp)
   have e9:=hf 9 (by simp)
   have e6:=hf 6 (by simp)
   have e7:=hf 7 (by simp)
   refine hK.h _ ?_
   simp [e8,e9,e6,e7,encQ,encR,encZ]
  all_goals simp)
 refine AW_seqt ⟨[(6,.loc 6 0),(5,.loc 5 0),(4,.loc 4 0),(3,.loc 3 0),(2,.loc 2 0),(1,.loc 1 0)],[(6,.box 82 (encZ 1)),(5,.box 82 (encZ 0)),(4,.box 82 (encZ D)),(3,.box 82 (encZ q.num)),(2,.box 82 (.st [bA false,eA])),(1,.box 92 (encR q))]⟩ ?_ (by
  intro K hK
  refine AW_drawF (fun f=>⟨[(19,if f 0 then .loc 1 4 else .u),(20,if f 1 then encQ 0 else .u),(21,if f 2 then encZ 0 else .u),(22,if f 3 then .loc 1 4 else .u),(23,if f 4 then encQ 0 else .u),(24,if f 5 then encZ 1 else .u),(5,if f 6 then .loc 5 0 else .u),(6,if f 7 then .loc 6 0 else .u),(4,.loc 4 0),(3,.loc 3 0),(2,.loc 2 0),(1,.loc 1 0)],
   (if f 6 then [(5,.box 82 (if f 8 then encZ 0 else .st [bA false,eA]))] else []) ++ (if f 7 then [(6,.box 82 (if f 9 then encZ 1 else .st [bA false,eA]))] else []) ++ [(4,.box 82 (encZ D)),(3,.box 82 (encZ q.num)),(2,.box 82 (.st [bA false,eA])),(1,.box 92 (encR q))]⟩) mixed (by rw [hE];decide) (by decide +kernel) (by decide +kernel) (by simp) ?_ ?_
  ·intro f i o hi hdep hnot hcl K2 hK2
   have w8_6 : f 8 = true → f 6 = true:=gw
   have w9_7 : f 9 = true → f 7 = true:=gw
   clear hcl
   iterate 10 (rcases i with _|i;rotate_left)
   ·simp at hi
   all_goals (simp only [List.getElem?_cons_succ,List.getElem?_cons_zero,Option.some.injEq] at hi;subst hi)
   all_goals simp [Region.binds] at hdep
   all_goals (rcases a6 : f 6 <;> rcases a7 : f 7)
   all_goals try (exfalso;revert hdep hnot w8_6 w9_7;simp [a6,a7];done)
   all_goals (try simp [a6,a7,hnot] at w8_6)
   all_goals (try simp [a6,a7,hnot] at w9_7)
   all_goals (have k'1:=a3;have k'2:=a4;have z'1:=@encQ.eq_1;have z'2:=@encR.eq_1;have z'3:=@encZ.eq_1;exact gd2)
  ·intro f hf
   have e8:=hf 8 (by simp)
   have e9:=hf 9 (by simp)
   have e6:=hf 6 (by simp)
   have e7:=hf 7 (by simp)
   refine hK.h _ ?_
   simp [e8,e9,e6,e7,encQ,encR,encZ]
  all_goals simp)
 refine AW_seqt ⟨[(7,.loc 7 0),(6,.loc 6 0),(4,.loc 4 0),(3,.loc 3 0),(2,.loc 2 0),(1,.loc 1 0)],[(7,.box 82 (encZ 0)),(6,.box 82 (encZ 1)),(4,.box 82 (encZ D)),(3,.box 82 (encZ q.num)),(2,.box 82 (.st [bA false,eA])),(1,.box 92 (encR q))]⟩ ?_ (by
  intro K hK
  refine AW_drawF (fun f=>⟨[(26,if f 0 then encZ D else .u),(27,if f 1 then encZ D else .u),(28,if f 2 then encZ DD else .u),(29,if f 3 then encZ 0 else .u),(30,if f 4 then encZ 1 else .u),(31,if f 5 then encZ 0 else .u),(32,if f 6 then encZ 0 else .u),(33,if f 7 then .tup [encZ 0,iA 0] else .u),(25,if f 8 then .tup [encZ 0,iA 0] else .u),(34,if f 9 then encZ 0 else .u),(35,if f 10 then iA 0 else .u),(7,if f 11 then .loc 7 0 else .u),(8,if f 13 then iA 0 else .u),(6,.loc 6 0),(5,.loc 5 0),(4,.loc 4 0),(3,.loc 3 0),(2,.loc 2 0),(1,.loc 1 0)],
   (if f 11 then [(7,.box 82 (if f 12 then encZ 0 else .st [bA false,eA]))] else []) ++ [(6,.box 82 (encZ 1)),(5,.box 82 (encZ 0)),(4,.box 82 (encZ D)),(3,.box 82 (encZ q.num)),(2,.box 82 (.st [bA false,eA])),(1,.box 92 (encR q))]⟩) mixed (by rw [hE];decide) (by decide +kernel) (by decide +kernel) (by simp) ?_ ?_
  ·intro f i o hi hdep hnot hcl K2 hK2
   have w12_11 : f 12 = true → f 11 = true:=gw
   clear hcl
   iterate 14 (rcases i with _|i;rotate_left)
   ·simp at hi
   all_goals (simp only [List.getElem?_cons_succ,List.getElem?_cons_zero,Option.some.injEq] at hi;subst hi)
   all_goals simp [Region.binds] at hdep
   all_goals (rcases a11 : f 11)
   all_goals try (exfalso;revert hdep hnot w12_11;simp [a11];done)
   all_goals (try simp [a11,hnot] at w12_11)
   all_goals (have k'1:=m1;have k'2:=m2;have k'3:=m3;have k'4:=sq;have z'1:=@encQ.eq_1;have z'2:=@encR.eq_1;have z'3:=@encZ.eq_1;exact gd4)
  ·intro f hf
   have e12:=hf 12 (by simp)
   have e11:=hf 11 (by simp)
   refine hK.h _ ?_
   simp [e12,e11,encQ,encR,encZ]
  all_goals simp)
 refine AW_seqt ⟨[(9,.loc 9 0),(7,.loc 7 0),(6,.loc 6 0),(4,.loc 4 0),(2,.loc 2 0),(1,.loc 1 0)],[(9,.box 82 (encZ q.num)),(7,.box 82 (encZ 0)),(6,.box 82 (encZ 1)),(4,.box 82 (encZ D)),(2,.box 82 (.st [bA false,eA])),(1,.box 92 (encR q))]⟩ ?_ (by
  intro K hK
  have k'1:=m4;have z'1:=@encZ.eq_1;exact ga1)
 refine AW_seqt ⟨[(9,.loc 9 0),(6,.loc 6 0),(4,.loc 4 0),(2,.loc 2 0)],[(9,.box 82 (encZ q.num)),(6,.box 82 (encZ 1)),(4,.box 82 (encZ D)),(2,.box 82 (.st [bA false,eA]))]⟩ ?_ (by
  intro K hK
  have k'1:=ad;have z'1:=@encZ.eq_1;have z'2:=@encR.eq_1;exact ga1)
 refine AW_seqt ⟨[(10,.loc 10 0),(2,.loc 2 0)],[(10,.box 82 (encZ z)),(2,.box 82 (.st [bA false,eA]))]⟩ ?_ (by
  intro K hK
  refine AW_drawF (fun f=>⟨[(50,if f 0 then encZ q.num else .u),(51,if f 1 then encZ D else .u),(52,if f 2 then encZ 1 else .u),(53,if f 3 then encZ D else .u),(54,if f 4 then .tup [encZ z,encZ w,iA 0] else .u),(49,if f 5 then .tup [encZ z,encZ w,iA 0] else .u),(55,if f 6 then encZ z else .u),(56,if f 7 then encZ w else .u),(57,if f 8 then iA 0 else .u),(10,if f 9 then .loc 10 0 else .u),(11,if f 10 then .loc 11 0 else .u),(12,if f 13 then iA 0 else .u),(9,.loc 9 0),(6,.loc 6 0),(4,.loc 4 0),(2,.loc 2 0)],
   (if f 9 then [(10,.box 82 (if f 11 then encZ z else .st [bA false,eA]))] else []) ++ (if f 10 then [(11,.box 82 (if f 12 then encZ w else .st [bA false,eA]))] else []) ++ [(9,.box 82 (encZ q.num)),(6,.box 82 (encZ 1)),(4,.box 82 (encZ D)),(2,.box 82 (.st [bA false,eA]))]⟩) mixed (by rw [hE];decide) (by decide +kernel) (by decide +kernel) (by simp) ?_ ?_
  ·intro f i o hi hdep hnot hcl K2 hK2
   have w11_9 : f 11 = true → f 9 = true:=gw
   have w12_10 : f 12 = true → f 10 = true:=gw
   clear hcl
   iterate 14 (rcases i with _|i;rotate_left)
   ·simp at hi
   all_goals (simp only [List.getElem?_cons_succ,List.getElem?_cons_zero,Option.some.injEq] at hi;subst hi)
   all_goals simp [Region.binds] at hdep
   all_goals (rcases a9 : f 9 <;> rcases a10 : f 10)
   all_goals try (exfalso;revert hdep hnot w11_9 w12_10;simp [a9,a10];done)
   all_goals (try simp [a9,a10,hnot] at w11_9)
   all_goals (try simp [a9,a10,hnot] at w12_10)
   all_goals (have k'1:=m5;have k'2:=dm;have z'1:=@encZ.eq_1;exact gd2)
  ·intro f hf
   have e11:=hf 11 (by simp)
   have e12:=hf 12 (by simp)
   have e9:=hf 9 (by simp)
   have e10:=hf 10 (by simp)
   refine hK.h _ ?_
   simp [e11,e12,e9,e10,encZ]
  all_goals simp)
 have z'1:=@encZ.eq_1;exact ga0
def flr (q : Rat) : Int:=q.num / q.den
def cei (q : Rat) : Int := -((-q).num / q.den)
theorem s_ceil {n d : Nat} {q : Rat} (h : Bd n d q) (h1 : n < 9223372036854775808) (h2 : d * d < 9223372036854775808) (h4 : d < 9223372036854775808) : PSpec Tryz.prog 87 [encR q] (encZ (cei q)):=by
 have a1:=s_negR q
 have a2:=s_floor h.neg h1 h2 h4
 have a3:=s_negate ((-q).num / (-q).den)
 rw [show -((-q).num / ((-q).den : Int)) = cei q from rfl] at a3
 obtain ⟨x,hx⟩ : ∃ x,(-q).num / ((-q).den : Int) = x:=⟨_,rfl⟩
 obtain ⟨y,hy⟩ : ∃ x,cei q = x:=⟨_,rfl⟩
 obtain ⟨m,hm⟩ : ∃ x, -q = x:=⟨_,rfl⟩
 rw [hx] at a2 a3
 rw [hy] at a3 ⊢
 rw [hm] at a1 a2
 clear hx hy hm
 refine pS Tryz.func87 ?_
 intro E hE
 have k'1:=Hld.mk (a1);have k'2:=Hld.mk (a2);have k'3:=Hld.mk (a3);have z'1:=@encZ.eq_1;have z'2:=@encR.eq_1;exact ga3
theorem s_makeR {n d n' d' : Nat} {p b : Rat} (h : Bd n d p) (k : Bd n' d' b) (h1 : n < 9223372036854775808 ∧ d < 9223372036854775808 ∧ n' < 9223372036854775808 ∧ d' < 9223372036854775808) : PSpec Tryz.prog 155 [encQ p,encQ b,encQ 0] (.tup [encR p,iA 0]):=by
 have z0 : Bd 0 1 0:=⟨by decide,by decide⟩
 have a1:=Hld.mk (s_mulQ k z0 (by omega) (by omega) (by omega))
 have a2:=Hld.mk (s_addQ h z0 (by omega) (by omega) (by omega))
 rw [Rat.mul_zero] at a1
 rw [Rat.add_zero] at a2
 have a3:=Hld.mk (s_signQ 0)
 rw [show cmpI (0 : Rat).num 0 = 0 by decide] at a3
 have a4:=Hld.mk s_rootQ0
 refine pS Tryz.func155 ?_
 intro E hE
 repeat' (first
  |(with_reducible first|refine uK ?_|refine uQ ?_|refine uX ?_|refine jq fun K hK=>?_|refine jb ?_)|(with_reducible refine rS hE ?_;simp [*,encQ,encR])|with_reducible refine rL hE ?_|(((with_reducible show RK _ _ _ _ _ _);first|refine jn ?_|refine js fun K' hK'=>?_);simp [*,encQ,encR])|with_reducible refine rD mixed hE ?_|((with_reducible show RKQ _ _ _ _ _ _);first|refine RKQ_nilk ⟨by decide,?_⟩|(refine jv fun K' hK'=>?_;simp [*,encQ,encR]))|((with_reducible first|refine ji fun X Y hX hY=>?_|refine jr ?_|refine jk ?_|refine jx ?_);simp [*,encQ,encR])|((first|refine jC (a1.out) ?_ ?_ ?_|refine jQ (a1.out) ?_ ?_ ?_);(iterate 2 focus (simp [*,encQ,encR] <;> fail));simp [*,encQ,encR])|((first|refine jC (a2.out) ?_ ?_ ?_|refine jQ (a2.out) ?_ ?_ ?_);(iterate 2 focus (simp [*,encQ,encR] <;> fail));simp [*,encQ,encR])|((first|refine jC (a3.out) ?_ ?_ ?_|refine jQ (a3.out) ?_ ?_ ?_);(iterate 2 focus (simp [*,encQ,encR] <;> fail));simp [*,encQ,encR])|((first|refine jC (a4.out) ?_ ?_ ?_|refine jQ (a4.out) ?_ ?_ ?_);(iterate 2 focus (simp [*,encQ,encR] <;> fail));simp [*,encQ,encR])|with_reducible refine And.intro ?_ ?_|omega|(refine imp1 fun h=>?_))
abbrev ev (a b t : Rat) : Rat:=a + t * b
theorem s_linear (a b : Rat) : PSpec Tryz.prog 112 [encQ a,encQ b] (encD ⟨a,b,0⟩):=by
 refine pS Tryz.func112 ?_
 intro E hE
 have z'1:=@encQ.eq_1;have z'2:=@encD.eq_1;exact ga0
theorem s_constant (a : Rat) : PSpec Tryz.prog 258 [encQ a] (encD ⟨a,0,0⟩):=by
 refine pS Tryz.func258 ?_
 intro E hE
 have z'1:=@encQ.eq_1;have z'2:=@encD.eq_1;exact ga0
theorem z01 : Bd 0 1 0:=⟨by decide,by decide⟩
theorem s_eval {n0 d0 n1 d1 n d : Nat} {a b t : Rat} (ha : Bd n0 d0 a) (hb : Bd n1 d1 b) (ht : Bd n d t) (h : n0 < 9223372036854775808 ∧ d0 < 9223372036854775808 ∧ n1 < 9223372036854775808 ∧ d1 < 9223372036854775808 ∧ n < 9223372036854775808 ∧ d < 9223372036854775808) (h1 : n * n1 < 9223372036854775808) (h2 : d * d1 < 9223372036854775808) (h3 : n0 * (d * d1) + n * n1 * d0 < 9223372036854775808) (h4 : d0 * (d * d1) < 9223372036854775808) :
 PSpec Tryz.prog 78 [encD ⟨a,b,0⟩,encQ t] (encQ (ev a b t)):=by
 have a1:=Hld.mk (s_mulQ ht z01 (by omega) (by omega) (by omega))
 have a2:=Hld.mk (s_addQ hb z01 (by omega) (by omega) (by omega))
 rw [Rat.mul_zero] at a1
 rw [Rat.add_zero] at a2
 have a3:=Hld.mk (s_mulQ ht hb h1 h2 (by omega))
 have a4:=Hld.mk (s_addQ ha (ht.mul hb) h3 h4 (by omega))
 unfold ev
 obtain ⟨x,hx⟩ : ∃ x,t * b = x:=⟨_,rfl⟩
 rw [hx] at a3 a4 ⊢
 obtain ⟨y,hy⟩ : ∃ y,a + x = y:=⟨_,rfl⟩
 rw [hy] at a4 ⊢
 clear hx hy ha hb ht h h1 h2 h3 h4
 refine pS Tryz.func78 ?_
 intro E hE
 repeat' (first
  |(with_reducible first|refine uK ?_|refine uQ ?_|refine uX ?_|refine jq fun K hK=>?_|refine jb ?_)|(with_reducible refine rS hE ?_;simp [*,encQ,encD])|with_reducible refine rL hE ?_|(((with_reducible show RK _ _ _ _ _ _);first|refine jn ?_|refine js fun K' hK'=>?_);simp [*,encQ,encD])|with_reducible refine rD mixed hE ?_|((with_reducible show RKQ _ _ _ _ _ _);first|refine RKQ_nilk ⟨by decide,?_⟩|(refine jv fun K' hK'=>?_;simp [*,encQ,encD]))|((with_reducible first|refine ji fun X Y hX hY=>?_|refine jr ?_|refine jk ?_|refine jx ?_);simp [*,encQ,encD])|((first|refine jC (a1.out) ?_ ?_ ?_|refine jQ (a1.out) ?_ ?_ ?_);(iterate 2 focus (simp [*,encQ,encD] <;> fail));simp [*,encQ,encD])|((first|refine jC (a2.out) ?_ ?_ ?_|refine jQ (a2.out) ?_ ?_ ?_);(iterate 2 focus (simp [*,encQ,encD] <;> fail));simp [*,encQ,encD])|((first|refine jC (a3.out) ?_ ?_ ?_|refine jQ (a3.out) ?_ ?_ ?_);(iterate 2 focus (simp [*,encQ,encD] <;> fail));simp [*,encQ,encD])|((first|refine jC (a4.out) ?_ ?_ ?_|refine jQ (a4.out) ?_ ?_ ?_);(iterate 2 focus (simp [*,encQ,encD] <;> fail));simp [*,encQ,encD])|with_reducible refine And.intro ?_ ?_|omega|(refine imp1 fun h=>?_))
theorem s_slope {n1 d1 n d : Nat} {a b t : Rat} (hb : Bd n1 d1 b) (ht : Bd n d t) (h : n1 < 9223372036854775808 ∧ d1 < 9223372036854775808 ∧ n < 9223372036854775808 ∧ d < 9223372036854775808) : PSpec Tryz.prog 154 [encD ⟨a,b,0⟩,encQ t] (encQ b):=by
 have a1:=Hld.mk (s_addQ z01 z01 (by omega) (by omega) (by omega))
 rw [Rat.add_zero] at a1
 have a2:=Hld.mk (s_mulQ z01 ht (by omega) (by omega) (by omega))
 rw [Rat.zero_mul] at a2
 have a3:=Hld.mk (s_addQ hb z01 (by omega) (by omega) (by omega))
 rw [Rat.add_zero] at a3
 refine pS Tryz.func154 ?_
 intro E hE
 repeat' (first
  |(with_reducible first|refine uK ?_|refine uQ ?_|refine uX ?_|refine jq fun K hK=>?_|refine jb ?_)|(with_reducible refine rS hE ?_;simp [*,encQ,encD])|with_reducible refine rL hE ?_|(((with_reducible show RK _ _ _ _ _ _);first|refine jn ?_|refine js fun K' hK'=>?_);simp [*,encQ,encD])|with_reducible refine rD mixed hE ?_|((with_reducible show RKQ _ _ _ _ _ _);first|refine RKQ_nilk ⟨by decide,?_⟩|(refine jv fun K' hK'=>?_;simp [*,encQ,encD]))|((with_reducible first|refine ji fun X Y hX hY=>?_|refine jr ?_|refine jk ?_|refine jx ?_);simp [*,encQ,encD])|((first|refine jC (a1.out) ?_ ?_ ?_|refine jQ (a1.out) ?_ ?_ ?_);(iterate 2 focus (simp [*,encQ,encD] <;> fail));simp [*,encQ,encD])|((first|refine jC (a2.out) ?_ ?_ ?_|refine jQ (a2.out) ?_ ?_ ?_);(iterate 2 focus (simp [*,encQ,encD] <;> fail));simp [*,encQ,encD])|((first|refine jC (a3.out) ?_ ?_ ?_|refine jQ (a3.out) ?_ ?_ ?_);(iterate 2 focus (simp [*,encQ,encD] <;> fail));simp [*,encQ,encD])|with_reducible refine And.intro ?_ ?_|omega|(refine imp1 fun h=>?_))
theorem s_at {n0 d0 n1 d1 n d : Nat} {a b t : Rat} (ha : Bd n0 d0 a) (hb : Bd n1 d1 b) (ht : Bd n d t) (h : n0 < 9223372036854775808 ∧ d0 < 9223372036854775808 ∧ n1 < 9223372036854775808 ∧ d1 < 9223372036854775808 ∧ n < 9223372036854775808 ∧ d < 9223372036854775808) (h1 : n * n1 < 9223372036854775808) (h2 : d * d1 < 9223372036854775808) (h3 : n0 * (d * d1) + n * n1 * d0 < 9223372036854775808) (h4 : d0 * (d * d1) < 9223372036854775808) :
 PSpec Tryz.prog 113 [encD ⟨a,b,0⟩,encR t] (encR (ev a b t)):=by
 have a1:=Hld.mk (s_eval ha hb ht h h1 h2 h3 h4)
 have be : Bd (n0 * (d * d1) + n * n1 * d0) (d0 * (d * d1)) (ev a b t):=ha.add (ht.mul hb)
 have a2:=Hld.mk (s_mulQ z01 z01 (by omega) (by omega) (by omega))
 rw [Rat.zero_mul] at a2
 have a3:=Hld.mk (s_addQ be z01 (by omega) (by omega) (by omega))
 rw [Rat.add_zero] at a3
 have a4:=Hld.mk (s_slope (a:=a) hb ht (by omega))
 have a5:=Hld.mk (s_makeR be hb (by omega))
 obtain ⟨x,hx⟩ : ∃ x,ev a b t = x:=⟨_,rfl⟩
 rw [hx] at a1 a3 a5 ⊢
 clear hx be ha hb ht h h1 h2 h3 h4
 refine pS Tryz.func113 ?_
 intro E hE
 repeat' (first
  |(with_reducible first|refine uK ?_|refine uQ ?_|refine uX ?_|refine jq fun K hK=>?_|refine jb ?_)|(with_reducible refine rS hE ?_;simp [*,encQ,encD,encR])|with_reducible refine rL hE ?_|(((with_reducible show RK _ _ _ _ _ _);first|refine jn ?_|refine js fun K' hK'=>?_);simp [*,encQ,encD,encR])|with_reducible refine rD mixed hE ?_|((with_reducible show RKQ _ _ _ _ _ _);first|refine RKQ_nilk ⟨by decide,?_⟩|(refine jv fun K' hK'=>?_;simp [*,encQ,encD,encR]))|((with_reducible first|refine ji fun X Y hX hY=>?_|refine jr ?_|refine jk ?_|refine jx ?_);simp [*,encQ,encD,encR])|((first|refine jC (a1.out) ?_ ?_ ?_|refine jQ (a1.out) ?_ ?_ ?_);(iterate 2 focus (simp [*,encQ,encD,encR] <;> fail));simp [*,encQ,encD,encR])|((first|refine jC (a2.out) ?_ ?_ ?_|refine jQ (a2.out) ?_ ?_ ?_);(iterate 2 focus (simp [*,encQ,encD,encR] <;> fail));simp [*,encQ,encD,encR])|((first|refine jC (a3.out) ?_ ?_ ?_|refine jQ (a3.out) ?_ ?_ ?_);(iterate 2 focus (simp [*,encQ,encD,encR] <;> fail));simp [*,encQ,encD,encR])|((first|refine jC (a4.out) ?_ ?_ ?_|refine jQ (a4.out) ?_ ?_ ?_);(iterate 2 focus (simp [*,encQ,encD,encR] <;> fail));simp [*,encQ,encD,encR])|((first|refine jC (a5.out) ?_ ?_ ?_|refine jQ (a5.out) ?_ ?_ ?_);(iterate 2 focus (simp [*,encQ,encD,encR] <;> fail));simp [*,encQ,encD,encR])|with_reducible refine And.intro ?_ ?_|omega|(refine imp1 fun h=>?_))
theorem s_reduceD {n0 d0 n1 d1 n d : Nat} {a b t : Rat} (ha : Bd n0 d0 a) (hb : Bd n1 d1 b) (ht : Bd n d t) (h : n0 < 9223372036854775808 ∧ d0 < 9223372036854775808 ∧ n1 < 9223372036854775808 ∧ d1 < 9223372036854775808 ∧ n < 9223372036854775808 ∧ d < 9223372036854775808) (h1 : n * n1 < 9223372036854775808) (h2 : d * d1 < 9223372036854775808) (h3 : n0 * (d * d1) + n * n1 * d0 < 9223372036854775808) (h4 : d0 * (d * d1) < 9223372036854775808) :
 PSpec Tryz.prog 255 [encD ⟨a,b,0⟩,encR t] (encD ⟨ev a b t,0,0⟩):=by
 have a1:=Hld.mk (s_eval ha hb ht h h1 h2 h3 h4)
 have a2:=Hld.mk (s_rational t)
 have a3:=Hld.mk (s_constant (ev a b t))
 obtain ⟨x,hx⟩ : ∃ x,ev a b t = x:=⟨_,rfl⟩
 rw [hx] at a1 a3 ⊢
 clear hx ha hb ht h h1 h2 h3 h4
 refine pS Tryz.func255 ?_
 intro E hE
 repeat' (first
  |(with_reducible first|refine uK ?_|refine uQ ?_|refine uX ?_|refine jq fun K hK=>?_|refine jb ?_)|(with_reducible refine rS hE ?_;simp [*,encQ,encD,encR])|with_reducible refine rL hE ?_|(((with_reducible show RK _ _ _ _ _ _);first|refine jn ?_|refine js fun K' hK'=>?_);simp [*,encQ,encD,encR])|with_reducible refine rD mixed hE ?_|((with_reducible show RKQ _ _ _ _ _ _);first|refine RKQ_nilk ⟨by decide,?_⟩|(refine jv fun K' hK'=>?_;simp [*,encQ,encD,encR]))|((with_reducible first|refine ji fun X Y hX hY=>?_|refine jr ?_|refine jk ?_|refine jx ?_);simp [*,encQ,encD,encR])|((first|refine jC (a1.out) ?_ ?_ ?_|refine jQ (a1.out) ?_ ?_ ?_);(iterate 2 focus (simp [*,encQ,encD,encR] <;> fail));simp [*,encQ,encD,encR])|((first|refine jC (a2.out) ?_ ?_ ?_|refine jQ (a2.out) ?_ ?_ ?_);(iterate 2 focus (simp [*,encQ,encD,encR] <;> fail));simp [*,encQ,encD,encR])|((first|refine jC (a3.out) ?_ ?_ ?_|refine jQ (a3.out) ?_ ?_ ?_);(iterate 2 focus (simp [*,encQ,encD,encR] <;> fail));simp [*,encQ,encD,encR])|with_reducible refine And.intro ?_ ?_|omega|(refine imp1 fun h=>?_))
theorem s_subD {n0 d0 n1 d1 m0 e0 m1 e1 : Nat} {a b a' b' : Rat} (ha : Bd n0 d0 a) (hb : Bd n1 d1 b) (ha' : Bd m0 e0 a') (hb' : Bd m1 e1 b') (h : n0 < 9223372036854775808 ∧ d0 < 9223372036854775808 ∧ n1 < 9223372036854775808 ∧ d1 < 9223372036854775808 ∧ m0 < 9223372036854775808 ∧ e0 < 9223372036854775808 ∧ m1 < 9223372036854775808 ∧ e1 < 9223372036854775808)
 (h1 : n0 * e0 + m0 * d0 < 9223372036854775808) (h2 : d0 * e0 < 9223372036854775808) (h3 : n1 * e1 + m1 * d1 < 9223372036854775808) (h4 : d1 * e1 < 9223372036854775808) : PSpec Tryz.prog 259 [encD ⟨a,b,0⟩,encD ⟨a',b',0⟩] (encD ⟨a - a',b - b',0⟩):=by
 have a1:=Hld.mk (s_subQ ha ha' h1 h2 (by omega))
 have a2:=Hld.mk (s_subQ hb hb' h3 h4 (by omega))
 have a3:=Hld.mk (s_subQ z01 z01 (by omega) (by omega) (by omega))
 rw [Rat.sub_self] at a3
 obtain ⟨x,hx⟩ : ∃ x,a - a' = x:=⟨_,rfl⟩
 obtain ⟨y,hy⟩ : ∃ x,b - b' = x:=⟨_,rfl⟩
 rw [hx] at a1 ⊢
 rw [hy] at a2 ⊢
 clear hx hy ha hb ha' hb' h h1 h2 h3 h4
 refine pS Tryz.func259 ?_
 intro E hE
 repeat' (first
  |(with_reducible first|refine uK ?_|refine uQ ?_|refine uX ?_|refine jq fun K hK=>?_|refine jb ?_)|(with_reducible refine rS hE ?_;simp [*,encQ,encD])|with_reducible refine rL hE ?_|(((with_reducible show RK _ _ _ _ _ _);first|refine jn ?_|refine js fun K' hK'=>?_);simp [*,encQ,encD])|with_reducible refine rD mixed hE ?_|((with_reducible show RKQ _ _ _ _ _ _);first|refine RKQ_nilk ⟨by decide,?_⟩|(refine jv fun K' hK'=>?_;simp [*,encQ,encD]))|((with_reducible first|refine ji fun X Y hX hY=>?_|refine jr ?_|refine jk ?_|refine jx ?_);simp [*,encQ,encD])|((first|refine jC (a1.out) ?_ ?_ ?_|refine jQ (a1.out) ?_ ?_ ?_);(iterate 2 focus (simp [*,encQ,encD] <;> fail));simp [*,encQ,encD])|((first|refine jC (a2.out) ?_ ?_ ?_|refine jQ (a2.out) ?_ ?_ ?_);(iterate 2 focus (simp [*,encQ,encD] <;> fail));simp [*,encQ,encD])|((first|refine jC (a3.out) ?_ ?_ ?_|refine jQ (a3.out) ?_ ?_ ?_);(iterate 2 focus (simp [*,encQ,encD] <;> fail));simp [*,encQ,encD])|with_reducible refine And.intro ?_ ?_|omega|(refine imp1 fun h=>?_))
theorem s_between {n d m e : Nat} {t v u w : Rat} (ht : Bd n d t) (hv : Bd m e v) (hu : Bd n d u) (hw : Bd m e w) (htu : u - t ≠ 0) (k k' : Nat) (hk : Bd k k' (u - t)) (hk0 : 0 < k)
 (h : n < 9223372036854775808 ∧ d < 9223372036854775808 ∧ m < 9223372036854775808 ∧ e < 9223372036854775808 ∧ k < 9223372036854775808 ∧ k' < 9223372036854775808) (h1 : m * e + m * e < 9223372036854775808) (h2 : e * e < 9223372036854775808) (h3 : n * d + n * d < 9223372036854775808) (h4 : d * d < 9223372036854775808)
 (h5 : (m * e + m * e) * k' < 9223372036854775808) (h6 : e * e * k < 9223372036854775808) (h7 : (m * e + m * e) * k' * n < 9223372036854775808) (h8 : e * e * k * d < 9223372036854775808) (h9 : m * (e * e * k * d) + (m * e + m * e) * k' * n * e < 9223372036854775808) (h10 : e * (e * e * k * d) < 9223372036854775808) :
 PSpec Tryz.prog 139 [encQ t,encQ v,encQ u,encQ w] (.tup [encD ⟨v - (w - v) / (u - t) * t,(w - v) / (u - t),0⟩,iA 0]):=by
 have a1:=Hld.mk (s_subQ hw hv h1 h2 (by omega))
 have a2:=Hld.mk (s_subQ hu ht h3 h4 (by omega))
 have a3:=Hld.mk (s_divQ (hw.sub hv) hk htu h5 h6 (by omega))
 have bs:=(hw.sub hv).div hk hk0
 have a4:=Hld.mk (s_mulQ bs ht h7 h8 (by omega))
 have a5:=Hld.mk (s_subQ hv (bs.mul ht) h9 h10 (by omega))
 have a6:=Hld.mk (s_linear (v - (w - v) / (u - t) * t) ((w - v) / (u - t)))
 obtain ⟨x,hx⟩ : ∃ x,w - v = x:=⟨_,rfl⟩
 obtain ⟨y,hy⟩ : ∃ x,u - t = x:=⟨_,rfl⟩
 rw [hx] at a1 a3 a4 a5 a6 ⊢
 rw [hy] at a2 a3 a4 a5 a6 ⊢
 obtain ⟨s,hs⟩ : ∃ s,x / y = s:=⟨_,rfl⟩
 rw [hs] at a3 a4 a5 a6 ⊢
 obtain ⟨p,hp⟩ : ∃ p,s * t = p:=⟨_,rfl⟩
 rw [hp] at a4 a5 a6 ⊢
 obtain ⟨c,hc⟩ : ∃ c,v - p = c:=⟨_,rfl⟩
 rw [hc] at a5 a6 ⊢
 clear hx hy hs hp hc bs ht hv hu hw htu hk hk0 h h1 h2 h3 h4 h5 h6 h7 h8 h9 h10
 refine pS Tryz.func139 ?_
 intro E hE
 repeat' (first
  |(with_reducible first|refine uK ?_|refine uQ ?_|refine uX ?_|refine jq fun K hK=>?_|refine jb ?_)|(with_reducible refine rS hE ?_;simp [*,encQ,encD])|with_reducible refine rL hE ?_|(((with_reducible show RK _ _ _ _ _ _);first|refine jn ?_|refine js fun K' hK'=>?_);simp [*,encQ,encD])|with_reducible refine rD mixed hE ?_|((with_reducible show RKQ _ _ _ _ _ _);first|refine RKQ_nilk ⟨by decide,?_⟩|(refine jv fun K' hK'=>?_;simp [*,encQ,encD]))|((with_reducible first|refine ji fun X Y hX hY=>?_|refine jr ?_|refine jk ?_|refine jx ?_);simp [*,encQ,encD])|((first|refine jC (a1.out) ?_ ?_ ?_|refine jQ (a1.out) ?_ ?_ ?_);(iterate 2 focus (simp [*,encQ,encD] <;> fail));simp [*,encQ,encD])|((first|refine jC (a2.out) ?_ ?_ ?_|refine jQ (a2.out) ?_ ?_ ?_);(iterate 2 focus (simp [*,encQ,encD] <;> fail));simp [*,encQ,encD])|((first|refine jC (a3.out) ?_ ?_ ?_|refine jQ (a3.out) ?_ ?_ ?_);(iterate 2 focus (simp [*,encQ,encD] <;> fail));simp [*,encQ,encD])|((first|refine jC (a4.out) ?_ ?_ ?_|refine jQ (a4.out) ?_ ?_ ?_);(iterate 2 focus (simp [*,encQ,encD] <;> fail));simp [*,encQ,encD])|((first|refine jC (a5.out) ?_ ?_ ?_|refine jQ (a5.out) ?_ ?_ ?_);(iterate 2 focus (simp [*,encQ,encD] <;> fail));simp [*,encQ,encD])|((first|refine jC (a6.out) ?_ ?_ ?_|refine jQ (a6.out) ?_ ?_ ?_);(iterate 2 focus (simp [*,encQ,encD] <;> fail));simp [*,encQ,encD])|with_reducible refine And.intro ?_ ?_|omega|(refine imp1 fun h=>?_))
end Go.Proofs.YtfkgaphfdpflmaaGreatDoor
