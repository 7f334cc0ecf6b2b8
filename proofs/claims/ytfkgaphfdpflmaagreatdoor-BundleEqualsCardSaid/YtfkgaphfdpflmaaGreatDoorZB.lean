/- movingpoint: positions, the least and the greatest of two -/
import Derived.Test.YtfkgaphfdpflmaaGreatDoorZ8
import Derived.Test.YtfkgaphfdpflmaaGreatDoorZ7
import Derived.Test.YtfkgaphfdpflmaaGreatDoorZ5
import Derived.Test.YtfkgaphfdpflmaaGreatDoorZ6
set_option maxRecDepth 100000
set_option linter.unusedSimpArgs false
set_option linter.unusedVariables false
namespace Go.Proofs.YtfkgaphfdpflmaaGreatDoor
open Go.Am
theorem s_xs (l : Ln) : PSpec Tryz.prog 79 [encL l] (encD ⟨l.x0,l.x1,0⟩):=by
 have h:=Hld.mk (s_linear l.x0 l.x1)
 refine pS Tryz.func79 ?_
 intro E hE
 have k'1:=h;have z'1:=@encQ.eq_1;have z'2:=@encL.eq_1;have z'3:=@encD.eq_1;exact ga1
theorem s_ys (l : Ln) : PSpec Tryz.prog 80 [encL l] (encD ⟨l.y0,l.y1,0⟩):=by
 have h:=Hld.mk (s_linear l.y0 l.y1)
 refine pS Tryz.func80 ?_
 intro E hE
 have k'1:=h;have z'1:=@encQ.eq_1;have z'2:=@encL.eq_1;have z'3:=@encD.eq_1;exact ga1
abbrev zA : AV:=.st [bA false,eA,bA false,eA,bA false,eA,bA false,eA,bA false,bA false,eA,bA false,eA,bA false,eA,bA false,eA,bA false]
theorem s_mpat {l : Ln} {t : Rat} (hl : OkL l) (ht : OkT t) : PSpec Tryz.prog 81 [encL l,encR t] (encA ⟨ev l.x0 l.x1 t,ev l.y0 l.y1 t⟩):=by
 have hx:=Hld.mk (s_xs l)
 have hy:=Hld.mk (s_ys l)
 have h1:=Hld.mk (s_at hl.x0 hl.x1 ht.bd (by decide) (by decide) (by decide) (by decide) (by decide))
 have h2:=Hld.mk (s_at hl.y0 hl.y1 ht.bd (by decide) (by decide) (by decide) (by decide) (by decide))
 obtain ⟨p,hp⟩ : ∃ p,ev l.x0 l.x1 t = p:=⟨_,rfl⟩
 obtain ⟨q,hq⟩ : ∃ p,ev l.y0 l.y1 t = p:=⟨_,rfl⟩
 rw [hp] at h1 ⊢
 rw [hq] at h2 ⊢
 clear hp hq hl ht
 refine pS Tryz.func81 ?_
 intro E hE
 refine sq ⟨[(4,.loc 4 0),(3,.loc 3 0),(2,.loc 2 0)],[(4,.box 151 zA),(3,.box 92 (encR t)),(2,.box 109 (encL l))]⟩ ?_
 refine AW_seqt ⟨[(4,.loc 4 0)],[(4,.box 151 (encA ⟨p,q⟩))]⟩ ?_ (by
  intro K hK
  refine AW_drawF (fun f=>⟨[(5,if f 0 then encL l else .u),(6,if f 1 then encD ⟨l.x0,l.x1,0⟩ else .u),(7,if f 2 then encR t else .u),(8,if f 3 then encR p else .u),(9,if f 4 then encL l else .u),(10,if f 5 then encD ⟨l.y0,l.y1,0⟩ else .u),(11,if f 6 then encR t else .u),(12,if f 7 then encR q else .u),(13,if f 8 then encA ⟨p,q⟩ else .u),(4,.loc 4 0),(3,.loc 3 0),(2,.loc 2 0)],
   [(4,.box 151 (if f 9 then encA ⟨p,q⟩ else zA)),(3,.box 92 (encR t)),(2,.box 109 (encL l))]⟩) mixed (by rw [hE];decide) (by decide +kernel) (by decide +kernel) (by simp) ?_ ?_
  ·intro f i o hi hdep hnot hcl K2 hK2
   clear hcl
   iterate 10 (rcases i with _|i;rotate_left)
   ·simp at hi
   all_goals (simp only [List.getElem?_cons_succ,List.getElem?_cons_zero,Option.some.injEq] at hi;subst hi)
   all_goals simp [Region.binds] at hdep
   all_goals (have k'1:=hx;have k'2:=hy;have k'3:=h1;have k'4:=h2;have z'1:=@encA.eq_1;have z'2:=@encR.eq_1;have z'3:=@encD.eq_1;have z'4:=@encL.eq_1;exact gd4)
  ·intro f hf
   have e9:=hf 9 (by simp)
   refine hK.h _ ?_
   simp [e9,encA,encR,encD,encL]
  all_goals simp)
 have z'1:=@encA.eq_1;exact ga0
def loQ (a b : Rat) : Rat:=if b < a then b else a
def hiQ (a b : Rat) : Rat:=if a < b then b else a
abbrev cmR : AV:=.fn (.func 83) [] []
abbrev zR : AV:=.st [bA false,eA,bA false,eA,bA false,eA,bA false,eA,bA false]
theorem s_min2 {n d : Nat} {a b : Rat} (ha : Bd n d a) (hb : Bd n d b) (h1 : n * d + n * d < 9223372036854775808) (h3 : d * d < 9223372036854775808) (h4 : n < 9223372036854775808 ∧ d < 9223372036854775808) : PSpec Tryz.prog 82 [.sl 9 [encR a,encR b],cmR] (encR (loQ a b)):=by
 have hc:=Hld.mk (s_cmpR hb ha (by omega) (by omega) (by omega))
 obtain ⟨m,hm⟩ : ∃ m,loQ a b = m:=⟨_,rfl⟩
 have hm2 : (cmpQ b a < 0 ∧ m = b) ∨ (¬ cmpQ b a < 0 ∧ m = a):=by
  rw [← hm]
  unfold loQ cmpQ
  by_cases h : b < a
  ·simp [h]
  ·simp [h]
   split <;> simp
 obtain ⟨c,hcc⟩ : ∃ c,cmpQ b a = c:=⟨_,rfl⟩
 rw [hcc] at hc hm2
 rw [hm]
 clear hm hcc ha hb h1 h3 h4
 rcases hm2 with ⟨hl,hm⟩|⟨hl,hm⟩
 all_goals
  rw [hm]
  clear hm
  refine pS Tryz.func82 ?_
  intro E hE
  refine sq ⟨[(4,.loc 4 0),(0,.sl 9 [encR a,encR b]),(1,cmR)],[(4,.box 92 zR)]⟩ ?_
  refine sq ⟨[(4,.loc 4 0),(0,.sl 9 [encR a,encR b]),(1,cmR)],[(4,.box 92 zR)]⟩ ?_
  refine sq ⟨[(5,.loc 5 0),(4,.loc 4 0),(0,.sl 9 [encR a,encR b]),(1,cmR)],[(5,.box 92 (encR a)),(4,.box 92 zR)]⟩ ?_
 ·refine AW_seqt ⟨[(5,.loc 5 0),(4,.loc 4 0)],[(5,.box 92 (encR b)),(4,.box 92 zR)]⟩ ?_ (by
   intro K hK
   refine lpk (G:=Nat) (fun i=>⟨[(6,iA i),(5,.loc 5 0),(4,.loc 4 0),(0,.sl 9 [encR a,encR b]),(1,cmR)],[(5,.box 92 (if i = 1 then encR a else encR b)),(4,.box 92 zR)]⟩) (fun i=>i = 1 ∨ i = 2) (fun i=>2 - i) 1 (.inl rfl) ?_
   rintro i (rfl|rfl) K hK
   ·repeat' (first
     |(with_reducible first|refine uK ?_|refine uQ ?_|refine uX ?_|refine jq fun K hK=>?_|refine jb ?_)|(with_reducible refine rS hE ?_;simp [*])|with_reducible refine rL hE ?_|(((with_reducible show RK _ _ _ _ _ _);first|refine jn ?_|refine js fun K' hK'=>?_);simp [*])|with_reducible refine rD mixed hE ?_|((with_reducible show RKQ _ _ _ _ _ _);first|refine RKQ_nilk ⟨by decide,?_⟩|(refine jv fun K' hK'=>?_;simp [*]))|((with_reducible first|refine ji fun X Y hX hY=>?_|refine jr ?_|refine jk ?_|refine jx ?_);simp [*])|((first|refine jC (hc.out) ?_ ?_ ?_|refine jQ (hc.out) ?_ ?_ ?_);(iterate 2 focus (simp [*] <;> fail));simp [*])|with_reducible refine And.intro ?_ ?_|omega|(refine imp1 fun h=>?_))
    exact ⟨2,.inr rfl,by omega,by simp⟩
   ·exact ga0)
  exact ga0
 ·refine AW_seqt ⟨[(5,.loc 5 0),(4,.loc 4 0)],[(5,.box 92 (encR a)),(4,.box 92 zR)]⟩ ?_ (by
   intro K hK
   refine lpk (G:=Nat) (fun i=>⟨[(6,iA i),(5,.loc 5 0),(4,.loc 4 0),(0,.sl 9 [encR a,encR b]),(1,cmR)],[(5,.box 92 (encR a)),(4,.box 92 zR)]⟩) (fun i=>i = 1 ∨ i = 2) (fun i=>2 - i) 1 (.inl rfl) ?_
   rintro i (rfl|rfl) K hK
   ·repeat' (first
     |(with_reducible first|refine uK ?_|refine uQ ?_|refine uX ?_|refine jq fun K hK=>?_|refine jb ?_)|(with_reducible refine rS hE ?_;simp [*])|with_reducible refine rL hE ?_|(((with_reducible show RK _ _ _ _ _ _);first|refine jn ?_|refine js fun K' hK'=>?_);simp [*])|with_reducible refine rD mixed hE ?_|((with_reducible show RKQ _ _ _ _ _ _);first|refine RKQ_nilk ⟨by decide,?_⟩|(refine jv fun K' hK'=>?_;simp [*]))|((with_reducible first|refine ji fun X Y hX hY=>?_|refine jr ?_|refine jk ?_|refine jx ?_);simp [*])|((first|refine jC (hc.out) ?_ ?_ ?_|refine jQ (hc.out) ?_ ?_ ?_);(iterate 2 focus (simp [*] <;> fail));simp [*])|with_reducible refine And.intro ?_ ?_|omega|(refine imp1 fun h=>?_))
    exact ⟨2,.inr rfl,by omega,by simp⟩
   ·exact ga0)
  exact ga0
theorem s_max2 {n d : Nat} {a b : Rat} (ha : Bd n d a) (hb : Bd n d b) (h1 : n * d + n * d < 9223372036854775808) (h3 : d * d < 9223372036854775808) (h4 : n < 9223372036854775808 ∧ d < 9223372036854775808) : PSpec Tryz.prog 84 [.sl 9 [encR a,encR b],cmR] (encR (hiQ a b)):=by
 have hc:=Hld.mk (s_cmpR hb ha (by omega) (by omega) (by omega))
 obtain ⟨m,hm⟩ : ∃ m,hiQ a b = m:=⟨_,rfl⟩
 have hm2 : (0 < cmpQ b a ∧ m = b) ∨ (¬ 0 < cmpQ b a ∧ m = a):=by
  rw [← hm]
  unfold hiQ cmpQ
  by_cases h : a < b
  ·simp [h,Rat.not_lt.2 (Rat.le_of_lt h)]
  ·simp [h]
   split <;> simp
 obtain ⟨c,hcc⟩ : ∃ c,cmpQ b a = c:=⟨_,rfl⟩
 rw [hcc] at hc hm2
 rw [hm]
 clear hm hcc ha hb h1 h3 h4
 rcases hm2 with ⟨hl,hm⟩|⟨hl,hm⟩
 all_goals
  rw [hm]
  clear hm
  refine pS Tryz.func84 ?_
  intro E hE
  refine sq ⟨[(4,.loc 4 0),(0,.sl 9 [encR a,encR b]),(1,cmR)],[(4,.box 92 zR)]⟩ ?_
  refine sq ⟨[(4,.loc 4 0),(0,.sl 9 [encR a,encR b]),(1,cmR)],[(4,.box 92 zR)]⟩ ?_
  refine sq ⟨[(5,.loc 5 0),(4,.loc 4 0),(0,.sl 9 [encR a,encR b]),(1,cmR)],[(5,.box 92 (encR a)),(4,.box 92 zR)]⟩ ?_
 ·refine AW_seqt ⟨[(5,.loc 5 0),(4,.loc 4 0)],[(5,.box 92 (encR b)),(4,.box 92 zR)]⟩ ?_ (by
   intro K hK
   refine lpk (G:=Nat) (fun i=>⟨[(6,iA i),(5,.loc 5 0),(4,.loc 4 0),(0,.sl 9 [encR a,encR b]),(1,cmR)],[(5,.box 92 (if i = 1 then encR a else encR b)),(4,.box 92 zR)]⟩) (fun i=>i = 1 ∨ i = 2) (fun i=>2 - i) 1 (.inl rfl) ?_
   rintro i (rfl|rfl) K hK
   ·repeat' (first
     |(with_reducible first|refine uK ?_|refine uQ ?_|refine uX ?_|refine jq fun K hK=>?_|refine jb ?_)|(with_reducible refine rS hE ?_;simp [*])|with_reducible refine rL hE ?_|(((with_reducible show RK _ _ _ _ _ _);first|refine jn ?_|refine js fun K' hK'=>?_);simp [*])|with_reducible refine rD mixed hE ?_|((with_reducible show RKQ _ _ _ _ _ _);first|refine RKQ_nilk ⟨by decide,?_⟩|(refine jv fun K' hK'=>?_;simp [*]))|((with_reducible first|refine ji fun X Y hX hY=>?_|refine jr ?_|refine jk ?_|refine jx ?_);simp [*])|((first|refine jC (hc.out) ?_ ?_ ?_|refine jQ (hc.out) ?_ ?_ ?_);(iterate 2 focus (simp [*] <;> fail));simp [*])|with_reducible refine And.intro ?_ ?_|omega|(refine imp1 fun h=>?_))
    exact ⟨2,.inr rfl,by omega,by simp⟩
   ·exact ga0)
  exact ga0
 ·refine AW_seqt ⟨[(5,.loc 5 0),(4,.loc 4 0)],[(5,.box 92 (encR a)),(4,.box 92 zR)]⟩ ?_ (by
   intro K hK
   refine lpk (G:=Nat) (fun i=>⟨[(6,iA i),(5,.loc 5 0),(4,.loc 4 0),(0,.sl 9 [encR a,encR b]),(1,cmR)],[(5,.box 92 (encR a)),(4,.box 92 zR)]⟩) (fun i=>i = 1 ∨ i = 2) (fun i=>2 - i) 1 (.inl rfl) ?_
   rintro i (rfl|rfl) K hK
   ·repeat' (first
     |(with_reducible first|refine uK ?_|refine uQ ?_|refine uX ?_|refine jq fun K hK=>?_|refine jb ?_)|(with_reducible refine rS hE ?_;simp [*])|with_reducible refine rL hE ?_|(((with_reducible show RK _ _ _ _ _ _);first|refine jn ?_|refine js fun K' hK'=>?_);simp [*])|with_reducible refine rD mixed hE ?_|((with_reducible show RKQ _ _ _ _ _ _);first|refine RKQ_nilk ⟨by decide,?_⟩|(refine jv fun K' hK'=>?_;simp [*]))|((with_reducible first|refine ji fun X Y hX hY=>?_|refine jr ?_|refine jk ?_|refine jx ?_);simp [*])|((first|refine jC (hc.out) ?_ ?_ ?_|refine jQ (hc.out) ?_ ?_ ?_);(iterate 2 focus (simp [*] <;> fail));simp [*])|with_reducible refine And.intro ?_ ?_|omega|(refine imp1 fun h=>?_))
    exact ⟨2,.inr rfl,by omega,by simp⟩
   ·exact ga0)
  exact ga0
def axI (a b : Rat) : Int × Int:=(flr (loQ a b),cei (hiQ a b))
def okA (p : Int × Int) : Prop:=¬ p.1 < -1099511627776 ∧ ¬ 1099511627776 < p.2
instance (p : Int × Int) : Decidable (okA p):=inferInstanceAs (Decidable (_ ∧ _))
def axX (u : Un) : Int × Int:=axI (ev u.x0 u.x1 u.f) (ev u.x0 u.x1 u.t)
def axY (u : Un) : Int × Int:=axI (ev u.y0 u.y1 u.f) (ev u.y0 u.y1 u.t)
def axT (u : Un) : Int × Int:=axI u.f u.t
def boxU (u : Un) : Bx:=⟨(axX u).1,(axX u).2,(axY u).1,(axY u).2,(axT u).1,(axT u).2⟩
def bokU (u : Un) : Prop:=okA (axX u) ∧ okA (axY u) ∧ okA (axT u)
instance (u : Un) : Decidable (bokU u):=inferInstanceAs (Decidable (_ ∧ _))
abbrev zX : AV:=.st [iA 0,iA 0,iA 0,iA 0,iA 0,iA 0]
def boxR (u : Un) : AV:=if bokU u then .tup [encX (boxU u),iA 0] else .tup [zX,iA 2]
structure AxS (a b : Rat) (lo hi : Int) (l g : Rat) : Prop where
 m1 : PSpec Tryz.prog 82 [.sl 9 [encR a,encR b],cmR] (encR l)
 m2 : PSpec Tryz.prog 84 [.sl 9 [encR a,encR b],cmR] (encR g)
 f1 : PSpec Tryz.prog 86 [encR l] (encZ lo)
 f2 : PSpec Tryz.prog 87 [encR g] (encZ hi)
 t1 : PSpec Tryz.prog 85 [encZ lo] (.tup [iA lo,bA true])
 t2 : PSpec Tryz.prog 85 [encZ hi] (.tup [iA hi,bA true])
theorem axS {n d : Nat} {a b : Rat} (ha : Bd n d a) (hb : Bd n d b) (h0 : n < 4611686018427387904) (h1 : n * d + n * d < 9223372036854775808) (h3 : d * d < 9223372036854775808) : AxS a b (axI a b).1 (axI a b).2 (loQ a b) (hiQ a b):=by
 have hl : Bd n d (loQ a b):=by unfold loQ;split <;> assumption
 have hg : Bd n d (hiQ a b):=by unfold hiQ;split <;> assumption
 have hd : d < 9223372036854775808:=by
  rcases d with _|d
  ·omega
  ·exact Nat.lt_of_le_of_lt (Nat.le_mul_of_pos_left _ (Nat.succ_pos d)) h3
 have hfl : (flr (loQ a b)).natAbs ≤ n:=Nat.le_trans (Int.natAbs_ediv_le_natAbs _ _) hl.num
 have hce : (cei (hiQ a b)).natAbs ≤ n:=by
  have h1:=Int.natAbs_ediv_le_natAbs (-(hiQ a b)).num (hiQ a b).den
  have h2:=hg.neg.num
  unfold cei
  omega
 exact ⟨s_min2 ha hb h1 h3 ⟨by omega,hd⟩,s_max2 ha hb h1 h3 ⟨by omega,hd⟩,s_floor hl (by omega) h3 hd,s_ceil hg (by omega) h3 hd,s_toInt _ (by show _ ≤ flr _;omega) (by show flr _ < _;omega),s_toInt _ (by show _ ≤ cei _;omega) (by show cei _ < _;omega)⟩
abbrev t3 : Nat:=149
abbrev rwR (l : List Rat) : Ct:=.arr 92 9 (l.map encR)
abbrev b3 (n : Nat) : Ct:=.box 149 (.st [.own 500 9 0 n,.own 501 9 0 n,.own 502 9 0 n])
def nav : List Nat → Code → Code
 |[],c=>c
 |0 :: p,.seq a _=>nav p a
 |_ :: p,.seq _ b=>nav p b
 |_ :: p,.block _ a=>nav p a
 |_ :: p,.loop a=>nav p a
 |0 :: p,.cond _ a _=>nav p a
 |_ :: p,.cond _ _ b=>nav p b
 |0 :: p,.rangeFunc _ _ a _=>nav p a
 |_ :: p,.rangeFunc _ _ _ b=>nav p b
 |_,c=>c
noncomputable def cBox : Code:=nav [1,1,1,0,1,0,0,1,1,0,0,1,1,0,0,1,1,0,0,1,1] (Tryz.f42.body.getD .skip)
set_option maxHeartbeats 16000000 in
theorem regBox {E : Env} (hE : E.n = Tryz.f42.ntmps) {u : Un} {T X Y Z : List Rat} {x y t : Rat} {j : Nat} (lX : X.length = j) (lY : Y.length = j) (lZ : Z.length = j) (hj2 : j < 2) {Q : AExit → AState → Prop}
 (h : ∀ s' : AState,s'.le ⟨[(38,iA j),(37,iA 2),(36,.own 36 9 0 2),(6,.loc 6 0),(26,iA (0 : Nat)),(25,iA 1),(24,unL [u]),(4,.loc 4 0),(2,.loc 2 0)],[(36,rwR T),(6,.box 111 (encU u)),(4,b3 (j + 1)),(500,rwR (X ++ [x])),(501,rwR (Y ++ [y])),(502,rwR (Z ++ [t])),(2,.box 28 zX)]⟩ → Q .normal s') :
 AW Tryz.prog E cBox ⟨[(9,.loc 9 0),(8,.loc 8 0),(38,iA j),(37,iA 2),(36,.own 36 9 0 2),(6,.loc 6 0),(26,iA (0 : Nat)),(25,iA 1),(24,unL [u]),(4,.loc 4 0),(2,.loc 2 0)],[(9,.box 151 (encA ⟨x,y⟩)),(8,.box 92 (encR t)),(36,rwR T),(6,.box 111 (encU u)),(4,b3 j),(500,rwR X),(501,rwR Y),(502,rwR Z),(2,.box 28 zX)]⟩ Q:=by
 have tX : (X.map encR).take j = X.map encR:=List.take_of_length_le (by simp [lX])
 have tY : (Y.map encR).take j = Y.map encR:=List.take_of_length_le (by simp [lY])
 have tZ : (Z.map encR).take j = Z.map encR:=List.take_of_length_le (by simp [lZ])
 have hK:=Kont.mk h
 have jX : j ≤ X.length:=by omega
 have jY : j ≤ Y.length:=by omega
 have jZ : j ≤ Z.length:=by omega
 clear h lX lY lZ
 refine AW_drawF (fun f=>⟨[(46,if f 0 then .loc 4 0 else .u),(47,if f 1 && !f 5 then .own 500 9 0 j else .u),(48,if f 2 then .loc 9 0 else .u),(49,if f 3 then encR x else .u),(50,if f 4 then .own 50 9 0 1 else .u),(51,if f 5 then .own 500 9 0 (j + 1) else .u),(52,if f 6 then .loc 4 1 else .u),(53,if f 7 && !f 11 then .own 501 9 0 j else .u),(54,if f 8 then .loc 9 9 else .u),(55,if f 9 then encR y else .u),(56,if f 10 then .own 56 9 0 1 else .u),(57,if f 11 then .own 501 9 0 (j + 1) else .u),(58,if f 12 then .loc 4 2 else .u),(59,if f 13 && !f 16 then .own 502 9 0 j else .u),(60,if f 14 then encR t else .u),(61,if f 15 then .own 61 9 0 1 else .u),(62,if f 16 then .own 502 9 0 (j + 1) else .u),(63,if f 17 then .loc 4 0 else .u),(64,if f 19 then .loc 4 1 else .u),(65,if f 21 then .loc 4 2 else .u),(9,.loc 9 0),(8,.loc 8 0),(38,iA j),(37,iA 2),(36,.own 36 9 0 2),(6,.loc 6 0),(26,iA (0 : Nat)),(25,iA 1),(24,unL [u]),(4,.loc 4 0),(2,.loc 2 0)],
         (if f 4 then [(50,rwR [x])] else []) ++ (if f 10 then [(56,rwR [y])] else []) ++ (if f 15 then [(61,rwR [t])] else []) ++ [(4,.box 149 (.st [if f 5 then (if f 18 then .own 500 9 0 (j + 1) else .w) else .own 500 9 0 j,if f 11 then (if f 20 then .own 501 9 0 (j + 1) else .w) else .own 501 9 0 j,if f 16 then (if f 22 then .own 502 9 0 (j + 1) else .w) else .own 502 9 0 j])),(500,rwR (if f 5 then X ++ [x] else X)),(501,rwR (if f 11 then Y ++ [y] else Y)),(502,rwR (if f 16 then Z ++ [t] else Z)),(9,.box 151 (encA ⟨x,y⟩)),(8,.box 92 (encR t)),(36,rwR T),(6,.box 111 (encU u)),(2,.box 28 zX)]⟩) mixed (by rw [hE];decide) (by decide +kernel) (by decide +kernel) (by simp) ?_ ?_
 ·intro f i o hi hdep hnot hcl K2 hK2
  have w5_4 : f 5 = true → f 4 = true:=fun h=>by have h1:=hcl 5 _ rfl h;simp [Region.binds] at h1;simp [h1]
  have w5_1 : f 5 = true → f 1 = true:=fun h=>by have h1:=hcl 5 _ rfl h;simp [Region.binds] at h1;simp [h1]
  have w11_10 : f 11 = true → f 10 = true:=fun h=>by have h1:=hcl 11 _ rfl h;simp [Region.binds] at h1;simp [h1]
  have w11_7 : f 11 = true → f 7 = true:=fun h=>by have h1:=hcl 11 _ rfl h;simp [Region.binds] at h1;simp [h1]
  have w16_15 : f 16 = true → f 15 = true:=fun h=>by have h1:=hcl 16 _ rfl h;simp [Region.binds] at h1;simp [h1]
  have w16_13 : f 16 = true → f 13 = true:=fun h=>by have h1:=hcl 16 _ rfl h;simp [Region.binds] at h1;simp [h1]
  have w18_5 : f 18 = true → f 5 = true:=fun h=>by have h1:=hcl 18 _ rfl h;simp [Region.binds] at h1;simp [h1]
  have w20_11 : f 20 = true → f 11 = true:=fun h=>by have h1:=hcl 20 _ rfl h;simp [Region.binds] at h1;simp [h1]
  have w22_16 : f 22 = true → f 16 = true:=fun h=>by have h1:=hcl 22 _ rfl h;simp [Region.binds] at h1;simp [h1]
  clear hcl
  iterate 23 (rcases i with _|i;rotate_left)
  ·simp at hi
  all_goals (simp only [List.getElem?_cons_succ,List.getElem?_cons_zero,Option.some.injEq] at hi;subst hi)
  all_goals simp [Region.binds] at hdep
  all_goals (rcases a4 : f 4 <;> rcases a10 : f 10 <;> rcases a15 : f 15 <;> rcases a5 : f 5 <;> rcases a11 : f 11 <;> rcases a16 : f 16)
  all_goals try (exfalso;revert hdep hnot w5_4 w5_1 w11_10 w11_7 w16_15 w16_13 w18_5 w20_11 w22_16;simp [a4,a10,a15,a5,a11,a16];done)
  all_goals (try simp [a4,a10,a15,a5,a11,a16,hnot] at w5_4)
  all_goals (try simp [a4,a10,a15,a5,a11,a16,hnot] at w5_1)
  all_goals (try simp [a4,a10,a15,a5,a11,a16,hnot] at w11_10)
  all_goals (try simp [a4,a10,a15,a5,a11,a16,hnot] at w11_7)
  all_goals (try simp [a4,a10,a15,a5,a11,a16,hnot] at w16_15)
  all_goals (try simp [a4,a10,a15,a5,a11,a16,hnot] at w16_13)
  all_goals (try simp [a4,a10,a15,a5,a11,a16,hnot] at w18_5)
  all_goals (try simp [a4,a10,a15,a5,a11,a16,hnot] at w20_11)
  all_goals (try simp [a4,a10,a15,a5,a11,a16,hnot] at w22_16)
  all_goals (simp [*,encR,encA,mentL_append];(repeat' (first|with_reducible refine And.intro ?_ ?_|omega));first|(refine hK2.h _ ?_;simp [*,encR,encA,mentL_append];done))
 ·intro f hf
  have e18:=hf 18 (by simp)
  have e20:=hf 20 (by simp)
  have e22:=hf 22 (by simp)
  have e4:=hf 4 (by simp)
  have e10:=hf 10 (by simp)
  have e15:=hf 15 (by simp)
  have e5:=hf 5 (by simp)
  have e11:=hf 11 (by simp)
  have e16:=hf 16 (by simp)
  refine hK.h _ ?_
  simp [e18,e20,e22,e4,e10,e15,e5,e11,e16,encR,encA,mentL_append]
set_option maxHeartbeats 16000000 in
theorem s_box1 {u : Un} (h : OkU u) : PSpec Tryz.prog 42 [unL [u]] (boxR u):=by
 have p1:=Hld.mk (s_mpat h.l h.f)
 have p2:=Hld.mk (s_mpat h.l h.t)
 have bx1 : Bd (35184372088832 * (4 * 8) + 512 * 1024 * 8) (8 * (4 * 8)) (ev u.x0 u.x1 u.f):=h.l.x0.add (h.f.bd.mul h.l.x1)
 have bx2 : Bd (35184372088832 * (4 * 8) + 512 * 1024 * 8) (8 * (4 * 8)) (ev u.x0 u.x1 u.t):=h.l.x0.add (h.t.bd.mul h.l.x1)
 have by1 : Bd (35184372088832 * (4 * 8) + 512 * 1024 * 8) (8 * (4 * 8)) (ev u.y0 u.y1 u.f):=h.l.y0.add (h.f.bd.mul h.l.y1)
 have by2 : Bd (35184372088832 * (4 * 8) + 512 * 1024 * 8) (8 * (4 * 8)) (ev u.y0 u.y1 u.t):=h.l.y0.add (h.t.bd.mul h.l.y1)
 have sx:=Hld.mk (axS bx1 bx2 (by decide) (by decide) (by decide))
 have sy:=Hld.mk (axS by1 by2 (by decide) (by decide) (by decide))
 have st:=Hld.mk (axS h.f.bd h.t.bd (by decide) (by decide) (by decide))
 have e1 : axX u = axI (ev u.x0 u.x1 u.f) (ev u.x0 u.x1 u.t):=rfl
 have e2 : axY u = axI (ev u.y0 u.y1 u.f) (ev u.y0 u.y1 u.t):=rfl
 have e3 : axT u = axI u.f u.t:=rfl
 rw [← e1] at sx
 rw [← e2] at sy
 rw [← e3] at st
 obtain ⟨R,hR⟩ : ∃ R,boxR u = R:=⟨_,rfl⟩
 have hg : okA (axX u) → okA (axY u) → okA (axT u) → R = .tup [.st [iA (axX u).1,iA (axX u).2,iA (axY u).1,iA (axY u).2,iA (axT u).1,iA (axT u).2],iA 0]:=fun h1 h2 h3=>by rw [← hR,boxR,if_pos ⟨h1,h2,h3⟩];rfl
 have hb : ¬ (okA (axX u) ∧ okA (axY u) ∧ okA (axT u)) → R = .tup [zX,iA 2]:=fun h1=>by rw [← hR,boxR,if_neg (show ¬ bokU u from h1)]
 rw [hR]
 obtain ⟨x1,hx1⟩ : ∃ x,ev u.x0 u.x1 u.f = x:=⟨_,rfl⟩
 obtain ⟨x2,hx2⟩ : ∃ x,ev u.x0 u.x1 u.t = x:=⟨_,rfl⟩
 obtain ⟨y1,hy1⟩ : ∃ x,ev u.y0 u.y1 u.f = x:=⟨_,rfl⟩
 obtain ⟨y2,hy2⟩ : ∃ x,ev u.y0 u.y1 u.t = x:=⟨_,rfl⟩
 have q1 : Hld (PSpec Tryz.prog 81 [encL ⟨u.x0,u.x1,u.y0,u.y1⟩,encR u.f] (encA ⟨x1,y1⟩)):=⟨by rw [← hx1,← hy1];exact p1.out⟩
 have q2 : Hld (PSpec Tryz.prog 81 [encL ⟨u.x0,u.x1,u.y0,u.y1⟩,encR u.t] (encA ⟨x2,y2⟩)):=⟨by rw [← hx2,← hy2];exact p2.out⟩
 rw [hx1,hx2] at sx
 rw [hy1,hy2] at sy
 obtain ⟨⟨a0,b0⟩,ha⟩ : ∃ p,axX u = p:=⟨_,rfl⟩
 obtain ⟨⟨a1,b1⟩,hb1⟩ : ∃ p,axY u = p:=⟨_,rfl⟩
 obtain ⟨⟨a2,b2⟩,hb2⟩ : ∃ p,axT u = p:=⟨_,rfl⟩
 rw [ha] at sx hg hb
 rw [hb1] at sy hg hb
 rw [hb2] at st hg hb
 simp only [okA] at hg hb
 replace hg:=Hld.mk hg
 replace hb:=Hld.mk hb
 clear p1 p2 bx1 bx2 by1 by2 e1 e2 e3 hR hx1 hx2 hy1 hy2 ha hb1 hb2 h
 obtain ⟨l0,hl0⟩ : ∃ l,loQ x1 x2 = l:=⟨_,rfl⟩
 obtain ⟨g0,hg0⟩ : ∃ l,hiQ x1 x2 = l:=⟨_,rfl⟩
 obtain ⟨l1,hl1⟩ : ∃ l,loQ y1 y2 = l:=⟨_,rfl⟩
 obtain ⟨g1,hg1⟩ : ∃ l,hiQ y1 y2 = l:=⟨_,rfl⟩
 obtain ⟨l2,hl2⟩ : ∃ l,loQ u.f u.t = l:=⟨_,rfl⟩
 obtain ⟨g2,hg2⟩ : ∃ l,hiQ u.f u.t = l:=⟨_,rfl⟩
 rw [hl0,hg0] at sx
 rw [hl1,hg1] at sy
 rw [hl2,hg2] at st
 clear hl0 hg0 hl1 hg1 hl2 hg2
 refine pS Tryz.func42 ?_
 intro E hE
 refine sq ⟨[(2,.loc 2 0),(0,unL [u])],[(2,.box 28 zX)]⟩ ?_
 refine sq ⟨[(2,.loc 2 0),(0,unL [u])],[(2,.box 28 zX)]⟩ ?_
 refine sq ⟨[(4,.loc 4 0),(2,.loc 2 0),(0,unL [u])],[(4,.box 149 (.st [.v (.slice none 0 0),.v (.slice none 0 0),.v (.slice none 0 0)])),(2,.box 28 zX)]⟩ ?_
 refine AW_mkrowC 4 500 92 9 149 0 (cs:=[.v (.slice none 0 0),.v (.slice none 0 0),.v (.slice none 0 0)]) (by simp) (by simp) (by simp) (by simp) (by omega) ?_
 refine AW_mkrowC 4 501 92 9 149 1 (cs:=[.own 500 9 0 0,.v (.slice none 0 0),.v (.slice none 0 0)]) (by simp) (by simp) (by simp) (by simp) (by omega) ?_
 refine AW_mkrowC 4 502 92 9 149 2 (cs:=[.own 500 9 0 0,.own 501 9 0 0,.v (.slice none 0 0)]) (by simp) (by simp) (by simp) (by simp) (by omega) ?_
 refine AW_seqt ⟨[(4,.loc 4 0),(2,.loc 2 0)],[(4,b3 2),(500,rwR [x1,x2]),(501,rwR [y1,y2]),(502,rwR [u.f,u.t]),(2,.box 28 zX)]⟩ ?_ (by
  intro K hK
  repeat' (first
   |(with_reducible first|refine uK ?_|refine uX ?_|refine jq fun K hK=>?_|refine jb ?_)|((with_reducible first|refine rS hE ?_|refine jn ?_|refine js fun K' hK'=>?_|refine ji fun X Y hX hY=>?_|refine jr ?_|refine jk ?_|refine jx ?_);simp [*])|with_reducible refine rL hE ?_|with_reducible refine And.intro ?_ ?_|omega|(refine imp1 fun h=>?_))
  refine AW_le (t:=⟨[(26,iA (0 : Nat)),(25,iA 1),(24,unL [u]),(4,.loc 4 0),(2,.loc 2 0)],[(4,b3 0),(500,rwR []),(501,rwR []),(502,rwR []),(2,.box 28 zX)]⟩) (by simp) ?_
  refine AW_loopk (G:=Nat) (fun i=>⟨[(26,iA i),(25,iA 1),(24,unL [u]),(4,.loc 4 0),(2,.loc 2 0)],[(4,b3 (2 * i)),(500,rwR ([x1,x2].take (2 * i))),(501,rwR ([y1,y2].take (2 * i))),(502,rwR ([u.f,u.t].take (2 * i))),(2,.box 28 zX)]⟩) (fun i=>i ≤ 1) (fun i=>1 - i) 0 (by omega) (by simp) ?_
  intro i hi K hK
  rcases i with _|_|i
  ·refine AW_le (t:=⟨[(26,iA (0 : Nat)),(25,iA 1),(24,unL [u]),(4,.loc 4 0),(2,.loc 2 0)],[(4,b3 0),(500,rwR []),(501,rwR []),(502,rwR []),(2,.box 28 zX)]⟩) (by simp) ?_
   refine sq ⟨[(27,bA true),(26,iA (0 : Nat)),(25,iA 1),(24,unL [u]),(4,.loc 4 0),(2,.loc 2 0)],[(4,b3 0),(500,rwR []),(501,rwR []),(502,rwR []),(2,.box 28 zX)]⟩ ?_
   refine sq ⟨[(26,iA (0 : Nat)),(25,iA 1),(24,unL [u]),(4,.loc 4 0),(2,.loc 2 0)],[(4,b3 0),(500,rwR []),(501,rwR []),(502,rwR []),(2,.box 28 zX)]⟩ ?_
   refine AW_seqt ⟨[(26,iA (0 : Nat)),(25,iA 1),(24,unL [u]),(4,.loc 4 0),(2,.loc 2 0)],[(4,b3 2),(500,rwR [x1,x2]),(501,rwR [y1,y2]),(502,rwR [u.f,u.t]),(2,.box 28 zX)]⟩ ?_ (by
    intro K hK
    refine AW_block ?_
    refine sq ⟨[(6,.loc 6 0),(26,iA (0 : Nat)),(25,iA 1),(24,unL [u]),(4,.loc 4 0),(2,.loc 2 0)],[(6,.box 111 (encU u)),(4,b3 0),(500,rwR []),(501,rwR []),(502,rwR []),(2,.box 28 zX)]⟩ ?_
    have hTl : ∃ T : List Rat,T = [u.f,u.t]:=⟨_,rfl⟩
    obtain ⟨T,hT⟩:=hTl
    have hTl : T.length = 2:=by rw [hT];rfl
    have hsel : Hld (∀ j,j < 2 → ∃ x y t,[x1,x2].take (j + 1) = [x1,x2].take j ++ [x] ∧ [y1,y2].take (j + 1) = [y1,y2].take j ++ [y] ∧ T.take (j + 1) = T.take j ++ [t] ∧ T[j]? = some t ∧ Hld (PSpec Tryz.prog 81 [encL ⟨u.x0,u.x1,u.y0,u.y1⟩,encR t] (encA ⟨x,y⟩))):=⟨by
     intro j hj
     rcases j with _|_|j
     ·exact ⟨x1,y1,u.f,rfl,rfl,by rw [hT];rfl,by rw [hT];rfl,q1⟩
     ·exact ⟨x2,y2,u.t,rfl,rfl,by rw [hT];rfl,by rw [hT];rfl,q2⟩
     ·omega⟩
    have hTT : T.take 2 = T:=List.take_of_length_le (by omega)
    refine AW_le (t:=⟨[(6,.loc 6 0),(26,iA (0 : Nat)),(25,iA 1),(24,unL [u]),(4,.loc 4 0),(2,.loc 2 0)],[(6,.box 111 (encU u)),(4,b3 0),(500,rwR []),(501,rwR []),(502,rwR []),(2,.box 28 zX)]⟩) (by simp) ?_
    have hT1 : T.map encR = [encR u.f,encR u.t]:=by rw [hT];rfl
    refine AW_seqt ⟨[(38,iA (0 : Nat)),(37,iA 2),(36,.own 36 9 0 2),(6,.loc 6 0),(26,iA (0 : Nat)),(25,iA 1),(24,unL [u]),(4,.loc 4 0),(2,.loc 2 0)],[(36,rwR T),(6,.box 111 (encU u)),(4,b3 0),(500,rwR []),(501,rwR []),(502,rwR []),(2,.box 28 zX)]⟩ ?_ (by
     intro K hK
     have z'1:=@encU.eq_1;have z'2:=@encR.eq_1;exact ga0)
    replace hT:=Hld.mk hT
    clear hT1
    repeat' (first
     |(with_reducible first|refine uK ?_|refine uX ?_|refine jq fun K hK=>?_|refine jb ?_)|((with_reducible first|refine rS hE ?_|refine jn ?_|refine js fun K' hK'=>?_|refine ji fun X Y hX hY=>?_|refine jr ?_|refine jk ?_|refine jx ?_);simp [*])|with_reducible refine rL hE ?_|with_reducible refine And.intro ?_ ?_|omega|(refine imp1 fun h=>?_))
    refine AW_loopk (G:=Nat) (fun j=>⟨[(38,iA j),(37,iA 2),(36,.own 36 9 0 2),(6,.loc 6 0),(26,iA (0 : Nat)),(25,iA 1),(24,unL [u]),(4,.loc 4 0),(2,.loc 2 0)],[(36,rwR T),(6,.box 111 (encU u)),(4,b3 j),(500,rwR ([x1,x2].take j)),(501,rwR ([y1,y2].take j)),(502,rwR (T.take j)),(2,.box 28 zX)]⟩) (fun j=>j ≤ 2) (fun j=>2 - j) 0 (by omega) (by simp) ?_
    intro j hj K hK
    by_cases hj2 : j < 2
    ·obtain ⟨x,y,t,eX,eY,eT,hTj,q⟩:=hsel.out j hj2
     have hjI : (j : Int) < 2:=by omega
     have lX : ([x1,x2].take j).length = j:=by rw [List.length_take];simp;omega
     have lY : ([y1,y2].take j).length = j:=by rw [List.length_take];simp;omega
     have lZ : (T.take j).length = j:=by rw [List.length_take];omega
     have hTg : ∀ h : j < T.length,T[j] = t:=fun _=>(List.getElem?_eq_some_iff.1 hTj).2
     obtain ⟨X,hX⟩ : ∃ X,[x1,x2].take j = X:=⟨_,rfl⟩
     obtain ⟨Y,hY⟩ : ∃ X,[y1,y2].take j = X:=⟨_,rfl⟩
     obtain ⟨Z,hZ⟩ : ∃ X,T.take j = X:=⟨_,rfl⟩
     rw [hX] at eX lX
     rw [hY] at eY lY
     rw [hZ] at eT lZ
     have tX : (X.map encR).take j = X.map encR:=List.take_of_length_le (by simp [lX])
     have tY : (Y.map encR).take j = Y.map encR:=List.take_of_length_le (by simp [lY])
     have tZ : (Z.map encR).take j = Z.map encR:=List.take_of_length_le (by simp [lZ])
     refine AW_le (t:=⟨[(38,iA j),(37,iA 2),(36,.own 36 9 0 2),(6,.loc 6 0),(26,iA (0 : Nat)),(25,iA 1),(24,unL [u]),(4,.loc 4 0),(2,.loc 2 0)],[(36,rwR T),(6,.box 111 (encU u)),(4,b3 j),(500,rwR X),(501,rwR Y),(502,rwR Z),(2,.box 28 zX)]⟩) (by simp [hX,hY,hZ]) ?_
     replace hX:=Hld.mk hX
     replace hY:=Hld.mk hY
     replace hZ:=Hld.mk hZ
     replace eX:=Hld.mk eX
     replace eY:=Hld.mk eY
     replace eT:=Hld.mk eT
     refine sq ⟨[(39,bA true),(38,iA j),(37,iA 2),(36,.own 36 9 0 2),(6,.loc 6 0),(26,iA (0 : Nat)),(25,iA 1),(24,unL [u]),(4,.loc 4 0),(2,.loc 2 0)],[(36,rwR T),(6,.box 111 (encU u)),(4,b3 j),(500,rwR X),(501,rwR Y),(502,rwR Z),(2,.box 28 zX)]⟩ ?_
     refine sq ⟨[(38,iA j),(37,iA 2),(36,.own 36 9 0 2),(6,.loc 6 0),(26,iA (0 : Nat)),(25,iA 1),(24,unL [u]),(4,.loc 4 0),(2,.loc 2 0)],[(36,rwR T),(6,.box 111 (encU u)),(4,b3 j),(500,rwR X),(501,rwR Y),(502,rwR Z),(2,.box 28 zX)]⟩ ?_
     refine AW_seqt ⟨[(38,iA j),(37,iA 2),(36,.own 36 9 0 2),(6,.loc 6 0),(26,iA (0 : Nat)),(25,iA 1),(24,unL [u]),(4,.loc 4 0),(2,.loc 2 0)],[(36,rwR T),(6,.box 111 (encU u)),(4,b3 (j + 1)),(500,rwR (X ++ [x])),(501,rwR (Y ++ [y])),(502,rwR (Z ++ [t])),(2,.box 28 zX)]⟩ ?_ (by
      intro K hK
      refine AW_block ?_
      refine sq ⟨[(8,.loc 8 0),(38,iA j),(37,iA 2),(36,.own 36 9 0 2),(6,.loc 6 0),(26,iA (0 : Nat)),(25,iA 1),(24,unL [u]),(4,.loc 4 0),(2,.loc 2 0)],[(8,.box 92 (encR t)),(36,rwR T),(6,.box 111 (encU u)),(4,b3 j),(500,rwR X),(501,rwR Y),(502,rwR Z),(2,.box 28 zX)]⟩ ?_
      refine AW_seqt ⟨[(9,.loc 9 0),(8,.loc 8 0),(38,iA j),(37,iA 2),(36,.own 36 9 0 2),(6,.loc 6 0),(26,iA (0 : Nat)),(25,iA 1),(24,unL [u]),(4,.loc 4 0),(2,.loc 2 0)],[(9,.box 151 (encA ⟨x,y⟩)),(8,.box 92 (encR t)),(36,rwR T),(6,.box 111 (encU u)),(4,b3 j),(500,rwR X),(501,rwR Y),(502,rwR Z),(2,.box 28 zX)]⟩ ?_ (by
       intro K hK
       have k'1:=q;have z'1:=@encU.eq_1;have z'2:=@encL.eq_1;exact ga1)
      refine regBox hE lX lY lZ hj2 fun s' hs'=>?_
      exact hK.h s' hs')
     have z'1:=eX.out;have z'2:=eY.out;have z'3:=eT.out;exact glj
    ·have : j = 2:=by omega
     subst this
     have z'1:=hT.out;exact ga0)
   repeat' (first
    |(with_reducible first|refine uK ?_|refine uX ?_|refine jq fun K hK=>?_|refine jb ?_)|((with_reducible first|refine rS hE ?_|refine jn ?_|refine js fun K' hK'=>?_|refine ji fun X Y hX hY=>?_|refine jr ?_|refine jk ?_|refine jx ?_);simp [*])|with_reducible refine rL hE ?_|with_reducible refine And.intro ?_ ?_|omega|(refine imp1 fun h=>?_))
   exact ⟨1,by omega,by omega,by simp⟩
  ·exact ga0
  ·omega)
 refine AW_freezeD 500 (cb:=rwR [x1,x2]) (t:=⟨[(4,.loc 4 0),(2,.loc 2 0)],[(4,.box 149 (.st [.sl 9 [encR x1,encR x2],.own 501 9 0 2,.own 502 9 0 2])),(501,rwR [y1,y2]),(502,rwR [u.f,u.t]),(2,.box 28 zX)]⟩) (by simp) (by simp) (by
  simp
  refine ⟨?_,?_⟩
  ·intro j a b ha hb
   rcases j with _|_|_|j <;> simp at ha hb <;> subst ha <;> subst hb <;> simp
  ·intro j a b ha hb
   rcases j with _|_|_|_|_|_|j <;> simp at ha hb <;> subst ha <;> subst hb <;> simp) ?_
 refine AW_freezeD 501 (cb:=rwR [y1,y2]) (t:=⟨[(4,.loc 4 0),(2,.loc 2 0)],[(4,.box 149 (.st [.sl 9 [encR x1,encR x2],.sl 9 [encR y1,encR y2],.own 502 9 0 2])),(502,rwR [u.f,u.t]),(2,.box 28 zX)]⟩) (by simp) (by simp) (by
  simp
  refine ⟨?_,?_⟩
  ·intro j a b ha hb
   rcases j with _|_|_|j <;> simp at ha hb <;> subst ha <;> subst hb <;> simp
  ·intro j a b ha hb
   rcases j with _|_|_|_|_|_|j <;> simp at ha hb <;> subst ha <;> subst hb <;> simp) ?_
 refine AW_freezeD 502 (cb:=rwR [u.f,u.t]) (t:=⟨[(4,.loc 4 0),(2,.loc 2 0)],[(4,.box 149 (.st [.sl 9 [encR x1,encR x2],.sl 9 [encR y1,encR y2],.sl 9 [encR u.f,encR u.t]])),(2,.box 28 zX)]⟩) (by simp) (by simp) (by
  simp
  refine ⟨?_,?_⟩
  ·intro j a b ha hb
   rcases j with _|_|_|j <;> simp at ha hb <;> subst ha <;> subst hb <;> simp
  ·intro j a b ha hb
   rcases j with _|_|_|_|_|_|j <;> simp at ha hb <;> subst ha <;> subst hb <;> simp) ?_
 refine sq ⟨[(10,.loc 10 0),(11,.loc 11 0),(4,.loc 4 0),(2,.loc 2 0)],[(10,.box 55 (.st [iA 0,iA 0,iA 0])),(11,.box 55 (.st [iA 0,iA 0,iA 0])),(4,.box 149 (.st [.sl 9 [encR x1,encR x2],.sl 9 [encR y1,encR y2],.sl 9 [encR u.f,encR u.t]])),(2,.box 28 zX)]⟩ ?_
 replace sx : Hld (AxS x1 x2 a0 b0 l0 g0):=⟨sx.out⟩
 replace sy : Hld (AxS y1 y2 a1 b1 l1 g1):=⟨sy.out⟩
 replace st : Hld (AxS u.f u.t a2 b2 l2 g2):=⟨st.out⟩
 refine AW_seqE (G:=Unit) (fun _=>⟨[(10,.loc 10 0),(11,.loc 11 0),(2,.loc 2 0)],[(10,.box 55 (.st [iA a0,iA a1,iA a2])),(11,.box 55 (.st [iA b0,iA b1,iA b2])),(2,.box 28 zX)]⟩) (fun _=>R = .tup [.st [iA a0,iA b0,iA a1,iA b1,iA a2,iA b2],iA 0]) ?_ ?_
 ·intro _ hr
  exact ga0
 ·intro K hK
  refine lpk (G:=Nat) (fun i=>⟨[(69,iA i),(68,(.st [.sl 9 [encR x1,encR x2],.sl 9 [encR y1,encR y2],.sl 9 [encR u.f,encR u.t]])),(10,.loc 10 0),(11,.loc 11 0),(2,.loc 2 0)],[(10,.box 55 (.st [iA (if 0 < i then a0 else 0),iA (if 1 < i then a1 else 0),iA (if 2 < i then a2 else 0)])),(11,.box 55 (.st [iA (if 0 < i then b0 else 0),iA (if 1 < i then b1 else 0),iA (if 2 < i then b2 else 0)])),(2,.box 28 zX)]⟩) (fun i=>i ≤ 3 ∧ Hld ((0 < i → (¬ a0 < -1099511627776 ∧ ¬ 1099511627776 < b0)) ∧ (1 < i → (¬ a1 < -1099511627776 ∧ ¬ 1099511627776 < b1)) ∧ (2 < i → (¬ a2 < -1099511627776 ∧ ¬ 1099511627776 < b2)))) (fun i=>3 - i) 0 ⟨by omega,⟨by omega,by omega,by omega⟩⟩ ?_
  rintro i ⟨hi,hh⟩ K hK
  rcases i with _|_|_|_|i
  ·by_cases c1 : a0 < -1099511627776
   ·have hr:=hb.out (fun h=>h.1.1 c1)
    repeat' (first
     |(with_reducible first|refine uK ?_|refine uX ?_|refine jq fun K hK=>?_|refine jb ?_)|((with_reducible first|refine rS hE ?_|refine jn ?_|refine js fun K' hK'=>?_|refine ji fun X Y hX hY=>?_|refine jr ?_|refine jk ?_|refine jx ?_);simp [*,encR,encZ])|with_reducible refine rL hE ?_|(refine jC (sx.out.m1) ?_ ?_ ?_;(iterate 2 focus (simp [*,encR,encZ] <;> fail));simp [*,encR,encZ])|(refine jC (sx.out.m2) ?_ ?_ ?_;(iterate 2 focus (simp [*,encR,encZ] <;> fail));simp [*,encR,encZ])|(refine jC (sx.out.f1) ?_ ?_ ?_;(iterate 2 focus (simp [*,encR,encZ] <;> fail));simp [*,encR,encZ])|(refine jC (sx.out.f2) ?_ ?_ ?_;(iterate 2 focus (simp [*,encR,encZ] <;> fail));simp [*,encR,encZ])|(refine jC (sx.out.t1) ?_ ?_ ?_;(iterate 2 focus (simp [*,encR,encZ] <;> fail));simp [*,encR,encZ])|(refine jC (sx.out.t2) ?_ ?_ ?_;(iterate 2 focus (simp [*,encR,encZ] <;> fail));simp [*,encR,encZ])|with_reducible refine And.intro ?_ ?_|omega|(refine imp1 fun h=>?_))
   ·by_cases c2 : 1099511627776 < b0
    ·have hr:=hb.out (fun h=>h.1.2 c2)
     repeat' (first
      |(with_reducible first|refine uK ?_|refine uX ?_|refine jq fun K hK=>?_|refine jb ?_)|((with_reducible first|refine rS hE ?_|refine jn ?_|refine js fun K' hK'=>?_|refine ji fun X Y hX hY=>?_|refine jr ?_|refine jk ?_|refine jx ?_);simp [*,encR,encZ])|with_reducible refine rL hE ?_|(refine jC (sx.out.m1) ?_ ?_ ?_;(iterate 2 focus (simp [*,encR,encZ] <;> fail));simp [*,encR,encZ])|(refine jC (sx.out.m2) ?_ ?_ ?_;(iterate 2 focus (simp [*,encR,encZ] <;> fail));simp [*,encR,encZ])|(refine jC (sx.out.f1) ?_ ?_ ?_;(iterate 2 focus (simp [*,encR,encZ] <;> fail));simp [*,encR,encZ])|(refine jC (sx.out.f2) ?_ ?_ ?_;(iterate 2 focus (simp [*,encR,encZ] <;> fail));simp [*,encR,encZ])|(refine jC (sx.out.t1) ?_ ?_ ?_;(iterate 2 focus (simp [*,encR,encZ] <;> fail));simp [*,encR,encZ])|(refine jC (sx.out.t2) ?_ ?_ ?_;(iterate 2 focus (simp [*,encR,encZ] <;> fail));simp [*,encR,encZ])|with_reducible refine And.intro ?_ ?_|omega|(refine imp1 fun h=>?_))
    ·repeat' (first
      |(with_reducible first|refine uK ?_|refine uX ?_|refine jq fun K hK=>?_|refine jb ?_)|((with_reducible first|refine rS hE ?_|refine jn ?_|refine js fun K' hK'=>?_|refine ji fun X Y hX hY=>?_|refine jr ?_|refine jk ?_|refine jx ?_);simp [*,encR,encZ])|with_reducible refine rL hE ?_|(refine jC (sx.out.m1) ?_ ?_ ?_;(iterate 2 focus (simp [*,encR,encZ] <;> fail));simp [*,encR,encZ])|(refine jC (sx.out.m2) ?_ ?_ ?_;(iterate 2 focus (simp [*,encR,encZ] <;> fail));simp [*,encR,encZ])|(refine jC (sx.out.f1) ?_ ?_ ?_;(iterate 2 focus (simp [*,encR,encZ] <;> fail));simp [*,encR,encZ])|(refine jC (sx.out.f2) ?_ ?_ ?_;(iterate 2 focus (simp [*,encR,encZ] <;> fail));simp [*,encR,encZ])|(refine jC (sx.out.t1) ?_ ?_ ?_;(iterate 2 focus (simp [*,encR,encZ] <;> fail));simp [*,encR,encZ])|(refine jC (sx.out.t2) ?_ ?_ ?_;(iterate 2 focus (simp [*,encR,encZ] <;> fail));simp [*,encR,encZ])|with_reducible refine And.intro ?_ ?_|omega|(refine imp1 fun h=>?_))
     exact ⟨1,⟨by omega,⟨⟨fun _=>⟨c1,c2⟩,by omega,by omega⟩⟩⟩,by omega,by simp [encR]⟩
  ·obtain ⟨k0,k1,k2⟩:=hh.out
   by_cases c1 : a1 < -1099511627776
   ·have hr:=hb.out (fun h=>h.2.1.1 c1)
    clear k0 k1 k2
    repeat' (first
     |(with_reducible first|refine uK ?_|refine uX ?_|refine jq fun K hK=>?_|refine jb ?_)|((with_reducible first|refine rS hE ?_|refine jn ?_|refine js fun K' hK'=>?_|refine ji fun X Y hX hY=>?_|refine jr ?_|refine jk ?_|refine jx ?_);simp [*,encR,encZ])|with_reducible refine rL hE ?_|(refine jC (sy.out.m1) ?_ ?_ ?_;(iterate 2 focus (simp [*,encR,encZ] <;> fail));simp [*,encR,encZ])|(refine jC (sy.out.m2) ?_ ?_ ?_;(iterate 2 focus (simp [*,encR,encZ] <;> fail));simp [*,encR,encZ])|(refine jC (sy.out.f1) ?_ ?_ ?_;(iterate 2 focus (simp [*,encR,encZ] <;> fail));simp [*,encR,encZ])|(refine jC (sy.out.f2) ?_ ?_ ?_;(iterate 2 focus (simp [*,encR,encZ] <;> fail));simp [*,encR,encZ])|(refine jC (sy.out.t1) ?_ ?_ ?_;(iterate 2 focus (simp [*,encR,encZ] <;> fail));simp [*,encR,encZ])|(refine jC (sy.out.t2) ?_ ?_ ?_;(iterate 2 focus (simp [*,encR,encZ] <;> fail));simp [*,encR,encZ])|with_reducible refine And.intro ?_ ?_|omega|(refine imp1 fun h=>?_))
   ·by_cases c2 : 1099511627776 < b1
    ·have hr:=hb.out (fun h=>h.2.1.2 c2)
     clear k0 k1 k2
     repeat' (first
      |(with_reducible first|refine uK ?_|refine uX ?_|refine jq fun K hK=>?_|refine jb ?_)|((with_reducible first|refine rS hE ?_|refine jn ?_|refine js fun K' hK'=>?_|refine ji fun X Y hX hY=>?_|refine jr ?_|refine jk ?_|refine jx ?_);simp [*,encR,encZ])|with_reducible refine rL hE ?_|(refine jC (sy.out.m1) ?_ ?_ ?_;(iterate 2 focus (simp [*,encR,encZ] <;> fail));simp [*,encR,encZ])|(refine jC (sy.out.m2) ?_ ?_ ?_;(iterate 2 focus (simp [*,encR,encZ] <;> fail));simp [*,encR,encZ])|(refine jC (sy.out.f1) ?_ ?_ ?_;(iterate 2 focus (simp [*,encR,encZ] <;> fail));simp [*,encR,encZ])|(refine jC (sy.out.f2) ?_ ?_ ?_;(iterate 2 focus (simp [*,encR,encZ] <;> fail));simp [*,encR,encZ])|(refine jC (sy.out.t1) ?_ ?_ ?_;(iterate 2 focus (simp [*,encR,encZ] <;> fail));simp [*,encR,encZ])|(refine jC (sy.out.t2) ?_ ?_ ?_;(iterate 2 focus (simp [*,encR,encZ] <;> fail));simp [*,encR,encZ])|with_reducible refine And.intro ?_ ?_|omega|(refine imp1 fun h=>?_))
    ·have k0':=fun (_ : 0 < 2)=>k0 (by omega)
     replace k0':=Hld.mk k0'
     clear k0 k1 k2
     repeat' (first
      |(with_reducible first|refine uK ?_|refine uX ?_|refine jq fun K hK=>?_|refine jb ?_)|((with_reducible first|refine rS hE ?_|refine jn ?_|refine js fun K' hK'=>?_|refine ji fun X Y hX hY=>?_|refine jr ?_|refine jk ?_|refine jx ?_);simp [*,encR,encZ])|with_reducible refine rL hE ?_|(refine jC (sy.out.m1) ?_ ?_ ?_;(iterate 2 focus (simp [*,encR,encZ] <;> fail));simp [*,encR,encZ])|(refine jC (sy.out.m2) ?_ ?_ ?_;(iterate 2 focus (simp [*,encR,encZ] <;> fail));simp [*,encR,encZ])|(refine jC (sy.out.f1) ?_ ?_ ?_;(iterate 2 focus (simp [*,encR,encZ] <;> fail));simp [*,encR,encZ])|(refine jC (sy.out.f2) ?_ ?_ ?_;(iterate 2 focus (simp [*,encR,encZ] <;> fail));simp [*,encR,encZ])|(refine jC (sy.out.t1) ?_ ?_ ?_;(iterate 2 focus (simp [*,encR,encZ] <;> fail));simp [*,encR,encZ])|(refine jC (sy.out.t2) ?_ ?_ ?_;(iterate 2 focus (simp [*,encR,encZ] <;> fail));simp [*,encR,encZ])|with_reducible refine And.intro ?_ ?_|omega|(refine imp1 fun h=>?_))
     exact ⟨2,⟨by omega,⟨⟨k0'.out,fun _=>⟨c1,c2⟩,by omega⟩⟩⟩,by omega,by simp [encR]⟩
  ·obtain ⟨k0,k1,k2⟩:=hh.out
   by_cases c1 : a2 < -1099511627776
   ·have hr:=hb.out (fun h=>h.2.2.1 c1)
    clear k0 k1 k2
    repeat' (first
     |(with_reducible first|refine uK ?_|refine uX ?_|refine jq fun K hK=>?_|refine jb ?_)|((with_reducible first|refine rS hE ?_|refine jn ?_|refine js fun K' hK'=>?_|refine ji fun X Y hX hY=>?_|refine jr ?_|refine jk ?_|refine jx ?_);simp [*,encR,encZ])|with_reducible refine rL hE ?_|(refine jC (st.out.m1) ?_ ?_ ?_;(iterate 2 focus (simp [*,encR,encZ] <;> fail));simp [*,encR,encZ])|(refine jC (st.out.m2) ?_ ?_ ?_;(iterate 2 focus (simp [*,encR,encZ] <;> fail));simp [*,encR,encZ])|(refine jC (st.out.f1) ?_ ?_ ?_;(iterate 2 focus (simp [*,encR,encZ] <;> fail));simp [*,encR,encZ])|(refine jC (st.out.f2) ?_ ?_ ?_;(iterate 2 focus (simp [*,encR,encZ] <;> fail));simp [*,encR,encZ])|(refine jC (st.out.t1) ?_ ?_ ?_;(iterate 2 focus (simp [*,encR,encZ] <;> fail));simp [*,encR,encZ])|(refine jC (st.out.t2) ?_ ?_ ?_;(iterate 2 focus (simp [*,encR,encZ] <;> fail));simp [*,encR,encZ])|with_reducible refine And.intro ?_ ?_|omega|(refine imp1 fun h=>?_))
   ·by_cases c2 : 1099511627776 < b2
    ·have hr:=hb.out (fun h=>h.2.2.2 c2)
     clear k0 k1 k2
     repeat' (first
      |(with_reducible first|refine uK ?_|refine uX ?_|refine jq fun K hK=>?_|refine jb ?_)|((with_reducible first|refine rS hE ?_|refine jn ?_|refine js fun K' hK'=>?_|refine ji fun X Y hX hY=>?_|refine jr ?_|refine jk ?_|refine jx ?_);simp [*,encR,encZ])|with_reducible refine rL hE ?_|(refine jC (st.out.m1) ?_ ?_ ?_;(iterate 2 focus (simp [*,encR,encZ] <;> fail));simp [*,encR,encZ])|(refine jC (st.out.m2) ?_ ?_ ?_;(iterate 2 focus (simp [*,encR,encZ] <;> fail));simp [*,encR,encZ])|(refine jC (st.out.f1) ?_ ?_ ?_;(iterate 2 focus (simp [*,encR,encZ] <;> fail));simp [*,encR,encZ])|(refine jC (st.out.f2) ?_ ?_ ?_;(iterate 2 focus (simp [*,encR,encZ] <;> fail));simp [*,encR,encZ])|(refine jC (st.out.t1) ?_ ?_ ?_;(iterate 2 focus (simp [*,encR,encZ] <;> fail));simp [*,encR,encZ])|(refine jC (st.out.t2) ?_ ?_ ?_;(iterate 2 focus (simp [*,encR,encZ] <;> fail));simp [*,encR,encZ])|with_reducible refine And.intro ?_ ?_|omega|(refine imp1 fun h=>?_))
    ·have k0':=fun (_ : 0 < 3)=>k0 (by omega)
     have k1':=fun (_ : 1 < 3)=>k1 (by omega)
     replace k0':=Hld.mk k0'
     replace k1':=Hld.mk k1'
     clear k0 k1 k2
     repeat' (first
      |(with_reducible first|refine uK ?_|refine uX ?_|refine jq fun K hK=>?_|refine jb ?_)|((with_reducible first|refine rS hE ?_|refine jn ?_|refine js fun K' hK'=>?_|refine ji fun X Y hX hY=>?_|refine jr ?_|refine jk ?_|refine jx ?_);simp [*,encR,encZ])|with_reducible refine rL hE ?_|(refine jC (st.out.m1) ?_ ?_ ?_;(iterate 2 focus (simp [*,encR,encZ] <;> fail));simp [*,encR,encZ])|(refine jC (st.out.m2) ?_ ?_ ?_;(iterate 2 focus (simp [*,encR,encZ] <;> fail));simp [*,encR,encZ])|(refine jC (st.out.f1) ?_ ?_ ?_;(iterate 2 focus (simp [*,encR,encZ] <;> fail));simp [*,encR,encZ])|(refine jC (st.out.f2) ?_ ?_ ?_;(iterate 2 focus (simp [*,encR,encZ] <;> fail));simp [*,encR,encZ])|(refine jC (st.out.t1) ?_ ?_ ?_;(iterate 2 focus (simp [*,encR,encZ] <;> fail));simp [*,encR,encZ])|(refine jC (st.out.t2) ?_ ?_ ?_;(iterate 2 focus (simp [*,encR,encZ] <;> fail));simp [*,encR,encZ])|with_reducible refine And.intro ?_ ?_|omega|(refine imp1 fun h=>?_))
     exact ⟨3,⟨by omega,⟨⟨k0'.out,k1'.out,fun _=>⟨c1,c2⟩⟩⟩⟩,by omega,by simp [encR]⟩
  ·obtain ⟨k0,k1,k2⟩:=hh.out
   have hr:=hg.out (k0 (by omega)) (k1 (by omega)) (k2 (by omega))
   clear k0 k1 k2
   repeat' (first
    |(with_reducible first|refine uK ?_|refine uX ?_|refine jq fun K hK=>?_|refine jb ?_)|((with_reducible first|refine rS hE ?_|refine jn ?_|refine js fun K' hK'=>?_|refine ji fun X Y hX hY=>?_|refine jr ?_|refine jk ?_|refine jx ?_);simp [*])|with_reducible refine rL hE ?_|with_reducible refine And.intro ?_ ?_|omega|(refine imp1 fun h=>?_))
   all_goals exact ⟨(),hr,by simp⟩
  ·omega
end Go.Proofs.YtfkgaphfdpflmaaGreatDoor
