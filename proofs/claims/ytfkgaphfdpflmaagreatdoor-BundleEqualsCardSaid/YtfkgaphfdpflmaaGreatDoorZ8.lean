/- Intervals and lines: checks, equality -/
import Derived.Test.YtfkgaphfdpflmaaGreatDoorZ7
set_option maxRecDepth 100000
set_option linter.unusedSimpArgs false
set_option linter.unusedVariables false
namespace Go.Proofs.YtfkgaphfdpflmaaGreatDoor
open Go.Am
structure OkT (t : Rat) : Prop where
 bd : Bd 512 4 t
structure OkL (l : Ln) : Prop where
 x0 : Bd 35184372088832 8 l.x0
 x1 : Bd 1024 8 l.x1
 y0 : Bd 35184372088832 8 l.y0
 y1 : Bd 1024 8 l.y1
theorem s_cmpT {x y : Rat} (h : OkT x) (k : OkT y) : PSpec Tryz.prog 83 [encR x,encR y] (iA (cmpQ x y)):=s_cmpR h.bd k.bd (by decide) (by decide) (by decide)
theorem s_checkT {x : Rat} (h : OkT x) : PSpec Tryz.prog 168 [encR x] (iA 0):=s_checkR h.bd (by decide)
theorem s_instant (v : Iv) : PSpec Tryz.prog 174 [encV v] (bA (decide (v.f = v.t))):=by
 refine pS Tryz.func174 ?_
 intro E hE
 by_cases h : v.f = v.t
 ·have z'1:=@encV.eq_1;have z'2:=@encR.eq_1;exact ga0
 ·by_cases hn : decide (v.f.num < 0) = decide (v.t.num < 0) ∧ v.f.num.natAbs = v.t.num.natAbs ∧ dn v.f = dn v.t
  ·exact absurd (encQ_inj hn.1 hn.2.1 hn.2.2) h
  ·repeat' (first
    |(with_reducible first|refine uK ?_|refine uX ?_|refine jq fun K hK=>?_|refine jb ?_)|((with_reducible first|refine rS hE ?_|refine jn ?_|refine js fun K' hK'=>?_|refine ji fun X Y hX hY=>?_|refine jr ?_|refine jk ?_|refine jx ?_);simp [*,encV,encR])|with_reducible refine rL hE ?_|with_reducible refine And.intro ?_ ?_|omega|(refine imp1 fun h=>?_))
   all_goals exact absurd (encQ_inj (decide_eq_decide.2 ‹_›) ‹_› ‹_›) ‹¬ v.f = v.t›
def aptU (a b : Iv) : Bool:=decide (a.t < b.f) || (decide (a.t = b.f) && (a.to || b.fo))
theorem s_apart {a b : Iv} (ha : OkT a.t) (hb : OkT b.f) : PSpec Tryz.prog 147 [encV a,encV b] (bA (aptU a b)):=by
 have hc:=s_cmpT ha hb
 have h1 : (cmpQ a.t b.f < 0) ↔ a.t < b.f:=by unfold cmpQ;repeat' split <;> simp_all
 have h2 : (cmpQ a.t b.f = 0) ↔ a.t = b.f:=by
  unfold cmpQ
  split
  ·rename_i h;simp;exact Rat.ne_of_lt h
  ·split
   ·rename_i h;simp;exact (Rat.ne_of_lt h).symm
   ·simp;exact Rat.le_antisymm (Rat.not_lt.1 ‹_›) (Rat.not_lt.1 ‹_›)
 obtain ⟨c,hcc⟩ : ∃ c,cmpQ a.t b.f = c:=⟨_,rfl⟩
 rw [hcc] at hc h1 h2
 have e : aptU a b = (decide (c < 0) || (decide (c = 0) && (a.to || b.fo))):=by unfold aptU;simp only [h1,h2]
 rw [e]
 clear e h1 h2 hcc
 refine pS Tryz.func147 ?_
 intro E hE
 by_cases p : c < 0
 ·have k'1:=Hld.mk (hc);have z'1:=@encV.eq_1;have z'2:=@encR.eq_1;exact ga1
 ·by_cases q : c = 0
  ·subst q
   rcases hto : a.to with _|_
   ·have k'1:=Hld.mk (hc);have z'1:=@encV.eq_1;have z'2:=@encR.eq_1;exact ga1
   ·have k'1:=Hld.mk (hc);have z'1:=@encV.eq_1;have z'2:=@encR.eq_1;exact ga1
  ·have k'1:=Hld.mk (hc);have z'1:=@encV.eq_1;have z'2:=@encR.eq_1;exact ga1
abbrev encB (q : Rat) (b : Bool) : AV:=.st [bA (decide (q.num < 0)),mgA q.num.natAbs,bA false,mgA (dn q),bA false,eA,bA false,eA,bA false,bA b]
theorem s_first (v : Iv) : PSpec Tryz.prog 170 [encV v] (encB v.f v.fo):=by
 refine pS Tryz.func170 ?_
 intro E hE
 have z'1:=@encV.eq_1;have z'2:=@encR.eq_1;exact ga0
theorem s_last (v : Iv) : PSpec Tryz.prog 171 [encV v] (encB v.t (!v.to)):=by
 refine pS Tryz.func171 ?_
 intro E hE
 have z'1:=@encV.eq_1;have z'2:=@encR.eq_1;exact ga0
def cmpB (x : Rat) (a : Bool) (y : Rat) (b : Bool) : Int:=if cmpQ x y = 0 then (if a = b then 0 else if b then -1 else 1) else cmpQ x y
theorem s_cmpB {x y : Rat} (a b : Bool) (h : OkT x) (k : OkT y) : PSpec Tryz.prog 169 [encB x a,encB y b] (iA (cmpB x a y b)):=by
 have hc:=s_cmpT h k
 unfold cmpB
 obtain ⟨c,hcc⟩ : ∃ c,cmpQ x y = c:=⟨_,rfl⟩
 rw [hcc] at hc ⊢
 clear hcc
 by_cases h0 : c = 0
 ·subst h0
  rcases a with _|_ <;> rcases b with _|_
  all_goals
   refine pS Tryz.func169 ?_
   intro E hE
   have k'1:=Hld.mk (hc);have z'1:=@encR.eq_1;exact ga1
 ·rw [if_neg h0]
  refine pS Tryz.func169 ?_
  intro E hE
  have k'1:=Hld.mk (hc);have z'1:=@encR.eq_1;exact ga1
def okIv (v : Iv) : Bool:=decide (v.f < v.t) || (decide (v.f = v.t) && !v.fo && !v.to)
theorem s_checkV {v : Iv} (h : OkT v.f) (k : OkT v.t) : PSpec Tryz.prog 146 [encV v] (iA (if okIv v then 0 else 10)):=by
 have c1:=Hld.mk (s_checkT h)
 have c2:=Hld.mk (s_checkT k)
 have f1:=Hld.mk (s_first v)
 have f2:=Hld.mk (s_last v)
 have hc:=Hld.mk (s_cmpB v.fo (!v.to) h k)
 have e : (0 ≤ cmpB v.f v.fo v.t (!v.to)) ↔ okIv v = false:=by
  have h1 : v.f < v.t → ¬ v.t < v.f:=fun h=>Rat.not_lt.2 (Rat.le_of_lt h)
  have h2 : v.f = v.t ↔ ¬ v.f < v.t ∧ ¬ v.t < v.f:=⟨fun h=>by rw [h];exact ⟨Rat.lt_irrefl,Rat.lt_irrefl⟩,fun ⟨a,b⟩=>Rat.le_antisymm (Rat.not_lt.1 b) (Rat.not_lt.1 a)⟩
  unfold cmpB okIv cmpQ
  by_cases a : v.f < v.t
  ·simp [a]
  ·by_cases b : v.t < v.f
   ·simp [a,b,h2]
   ·have:=h2.2 ⟨a,b⟩
    simp [this,Rat.lt_irrefl]
    rcases v.fo <;> rcases v.to <;> simp
 obtain ⟨c,hcc⟩ : ∃ c,cmpB v.f v.fo v.t (!v.to) = c:=⟨_,rfl⟩
 rw [hcc] at hc e
 clear hcc
 rcases hk : okIv v with _|_
 ·rw [hk] at e
  have hcn:=e.2 rfl
  clear e
  refine pS Tryz.func146 ?_
  intro E hE
  repeat' (first
   |(with_reducible first|refine uK ?_|refine uQ ?_|refine uX ?_|refine jq fun K hK=>?_|refine jb ?_)|(with_reducible refine rS hE ?_;simp [*,encV,encR])|with_reducible refine rL hE ?_|(((with_reducible show RK _ _ _ _ _ _);first|refine jn ?_|refine js fun K' hK'=>?_);simp [*,encV,encR])|with_reducible refine rD mixed hE ?_|((with_reducible show RKQ _ _ _ _ _ _);first|refine RKQ_nilk ⟨by decide,?_⟩|(refine jv fun K' hK'=>?_;simp [*,encV,encR]))|((with_reducible first|refine ji fun X Y hX hY=>?_|refine jr ?_|refine jk ?_|refine jx ?_);simp [*,encV,encR])|((first|refine jC (c1.out) ?_ ?_ ?_|refine jQ (c1.out) ?_ ?_ ?_);(iterate 2 focus (simp [*,encV,encR] <;> fail));simp [*,encV,encR])|((first|refine jC (c2.out) ?_ ?_ ?_|refine jQ (c2.out) ?_ ?_ ?_);(iterate 2 focus (simp [*,encV,encR] <;> fail));simp [*,encV,encR])|((first|refine jC (f1.out) ?_ ?_ ?_|refine jQ (f1.out) ?_ ?_ ?_);(iterate 2 focus (simp [*,encV,encR] <;> fail));simp [*,encV,encR])|((first|refine jC (f2.out) ?_ ?_ ?_|refine jQ (f2.out) ?_ ?_ ?_);(iterate 2 focus (simp [*,encV,encR] <;> fail));simp [*,encV,encR])|((first|refine jC (hc.out) ?_ ?_ ?_|refine jQ (hc.out) ?_ ?_ ?_);(iterate 2 focus (simp [*,encV,encR] <;> fail));simp [*,encV,encR])|with_reducible refine And.intro ?_ ?_|omega|(refine imp1 fun h=>?_))
 ·rw [hk] at e
  have hcn : ¬ 0 ≤ c:=fun h=>by simpa using e.1 h
  clear e
  refine pS Tryz.func146 ?_
  intro E hE
  repeat' (first
   |(with_reducible first|refine uK ?_|refine uQ ?_|refine uX ?_|refine jq fun K hK=>?_|refine jb ?_)|(with_reducible refine rS hE ?_;simp [*,encV,encR])|with_reducible refine rL hE ?_|(((with_reducible show RK _ _ _ _ _ _);first|refine jn ?_|refine js fun K' hK'=>?_);simp [*,encV,encR])|with_reducible refine rD mixed hE ?_|((with_reducible show RKQ _ _ _ _ _ _);first|refine RKQ_nilk ⟨by decide,?_⟩|(refine jv fun K' hK'=>?_;simp [*,encV,encR]))|((with_reducible first|refine ji fun X Y hX hY=>?_|refine jr ?_|refine jk ?_|refine jx ?_);simp [*,encV,encR])|((first|refine jC (c1.out) ?_ ?_ ?_|refine jQ (c1.out) ?_ ?_ ?_);(iterate 2 focus (simp [*,encV,encR] <;> fail));simp [*,encV,encR])|((first|refine jC (c2.out) ?_ ?_ ?_|refine jQ (c2.out) ?_ ?_ ?_);(iterate 2 focus (simp [*,encV,encR] <;> fail));simp [*,encV,encR])|((first|refine jC (f1.out) ?_ ?_ ?_|refine jQ (f1.out) ?_ ?_ ?_);(iterate 2 focus (simp [*,encV,encR] <;> fail));simp [*,encV,encR])|((first|refine jC (f2.out) ?_ ?_ ?_|refine jQ (f2.out) ?_ ?_ ?_);(iterate 2 focus (simp [*,encV,encR] <;> fail));simp [*,encV,encR])|((first|refine jC (hc.out) ?_ ?_ ?_|refine jQ (hc.out) ?_ ?_ ?_);(iterate 2 focus (simp [*,encV,encR] <;> fail));simp [*,encV,encR])|with_reducible refine And.intro ?_ ?_|omega|(refine imp1 fun h=>?_))
abbrev zD : AV:=.st [bA false,eA,bA false,eA,bA false,eA,bA false,eA,bA false,eA,bA false,eA]
theorem s_coord (l : Ln) : PSpec Tryz.prog 254 [encL l] (.tup [encD ⟨l.x0,l.x1,0⟩,encD ⟨l.y0,l.y1,0⟩]):=by
 have h1:=s_linear l.x0 l.x1
 have h2:=s_linear l.y0 l.y1
 refine pS Tryz.func254 ?_
 intro E hE
 refine sq ⟨[(3,.loc 3 0),(2,.loc 2 0),(1,.loc 1 0)],[(3,.box 146 zD),(2,.box 146 zD),(1,.box 109 (encL l))]⟩ ?_
 refine AW_seqt ⟨[(3,.loc 3 0),(2,.loc 2 0)],[(3,.box 146 (encD ⟨l.y0,l.y1,0⟩)),(2,.box 146 (encD ⟨l.x0,l.x1,0⟩))]⟩ ?_ (by
  intro K hK
  refine AW_drawF (fun f=>⟨[(4,if f 0 then .loc 1 0 else .u),(5,if f 1 then encQ l.x0 else .u),(6,if f 2 then .loc 1 4 else .u),(7,if f 3 then encQ l.x1 else .u),(8,if f 4 then encD ⟨l.x0,l.x1,0⟩ else .u),(9,if f 5 then .loc 1 8 else .u),(10,if f 6 then encQ l.y0 else .u),(11,if f 7 then .loc 1 12 else .u),(12,if f 8 then encQ l.y1 else .u),(13,if f 9 then encD ⟨l.y0,l.y1,0⟩ else .u),(3,.loc 3 0),(2,.loc 2 0),(1,.loc 1 0)],
   [(3,.box 146 (if f 11 then encD ⟨l.y0,l.y1,0⟩ else zD)),(2,.box 146 (if f 10 then encD ⟨l.x0,l.x1,0⟩ else zD)),(1,.box 109 (encL l))]⟩) mixed (by rw [hE];decide) (by decide +kernel) (by decide +kernel) (by simp) ?_ ?_
  ·intro f i o hi hdep hnot hcl K2 hK2
   clear hcl
   iterate 12 (rcases i with _|i;rotate_left)
   ·simp at hi
   all_goals (simp only [List.getElem?_cons_succ,List.getElem?_cons_zero,Option.some.injEq] at hi;subst hi)
   all_goals simp [Region.binds] at hdep
   all_goals (have k'1:=Hld.mk (h1);have k'2:=Hld.mk (h2);have z'1:=@encQ.eq_1;have z'2:=@encL.eq_1;have z'3:=@encD.eq_1;exact gd2)
  ·intro f hf
   have e10:=hf 10 (by simp)
   have e11:=hf 11 (by simp)
   refine hK.h _ ?_
   simp [e10,e11,encQ,encL,encD]
  all_goals simp)
 have z'1:=@encD.eq_1;exact ga0
theorem s_sameD {a b a' b' t : Rat} (ha : Bd 35184372088832 8 a) (hb : Bd 1024 8 b) (ha' : Bd 35184372088832 8 a') (hb' : Bd 1024 8 b') (ht : OkT t) : PSpec Tryz.prog 256 [encD ⟨a,b,0⟩,encD ⟨a',b',0⟩,encR t] (bA (decide (ev (a - a') (b - b') t = 0))):=by
 have h1:=s_subD ha hb ha' hb' (by decide) (by decide) (by decide) (by decide) (by decide)
 have h2:=s_reduceD (ha.sub ha') (hb.sub hb') ht.bd (by decide) (by decide) (by decide) (by decide) (by decide)
 obtain ⟨x,hx⟩ : ∃ x,ev (a - a') (b - b') t = x:=⟨_,rfl⟩
 rw [hx] at h2 ⊢
 obtain ⟨y,hy⟩ : ∃ x,a - a' = x:=⟨_,rfl⟩
 obtain ⟨z,hz⟩ : ∃ x,b - b' = x:=⟨_,rfl⟩
 rw [hy,hz] at h1 h2
 clear hx hy hz ha hb ha' hb'
 by_cases h0 : x = 0
 ·subst h0
  refine pS Tryz.func256 ?_
  intro E hE
  repeat' (first
   |(with_reducible first|refine uK ?_|refine uQ ?_|refine uX ?_|refine jq fun K hK=>?_|refine jb ?_)|(with_reducible refine rS hE ?_;simp [*,encQ,encD,encR])|with_reducible refine rL hE ?_|(((with_reducible show RK _ _ _ _ _ _);first|refine jn ?_|refine js fun K' hK'=>?_);simp [*,encQ,encD,encR])|with_reducible refine rD mixed hE ?_|((with_reducible show RKQ _ _ _ _ _ _);first|refine RKQ_nilk ⟨by decide,?_⟩|(refine jv fun K' hK'=>?_;simp [*,encQ,encD,encR]))|((with_reducible first|refine ji fun X Y hX hY=>?_|refine jr ?_|refine jk ?_|refine jx ?_);simp [*,encQ,encD,encR])|((first|refine jC (h1) ?_ ?_ ?_|refine jQ (h1) ?_ ?_ ?_);(iterate 2 focus (simp [*,encQ,encD,encR] <;> fail));simp [*,encQ,encD,encR])|((first|refine jC (h2) ?_ ?_ ?_|refine jQ (h2) ?_ ?_ ?_);(iterate 2 focus (simp [*,encQ,encD,encR] <;> fail));simp [*,encQ,encD,encR])|with_reducible refine And.intro ?_ ?_|omega|(refine imp1 fun h=>?_))
 ·have hn : ¬ x.num = 0:=fun h=>h0 (Rat.num_eq_zero.1 h)
  refine pS Tryz.func256 ?_
  intro E hE
  repeat' (first
   |(with_reducible first|refine uK ?_|refine uQ ?_|refine uX ?_|refine jq fun K hK=>?_|refine jb ?_)|(with_reducible refine rS hE ?_;simp [*,encQ,encD,encR])|with_reducible refine rL hE ?_|(((with_reducible show RK _ _ _ _ _ _);first|refine jn ?_|refine js fun K' hK'=>?_);simp [*,encQ,encD,encR])|with_reducible refine rD mixed hE ?_|((with_reducible show RKQ _ _ _ _ _ _);first|refine RKQ_nilk ⟨by decide,?_⟩|(refine jv fun K' hK'=>?_;simp [*,encQ,encD,encR]))|((with_reducible first|refine ji fun X Y hX hY=>?_|refine jr ?_|refine jk ?_|refine jx ?_);simp [*,encQ,encD,encR])|((first|refine jC (h1) ?_ ?_ ?_|refine jQ (h1) ?_ ?_ ?_);(iterate 2 focus (simp [*,encQ,encD,encR] <;> fail));simp [*,encQ,encD,encR])|((first|refine jC (h2) ?_ ?_ ?_|refine jQ (h2) ?_ ?_ ?_);(iterate 2 focus (simp [*,encQ,encD,encR] <;> fail));simp [*,encQ,encD,encR])|with_reducible refine And.intro ?_ ?_|omega|(refine imp1 fun h=>?_))
def smL (a b : Ln) (t : Rat) : Bool:=decide (ev (a.x0 - b.x0) (a.x1 - b.x1) t = 0) && decide (ev (a.y0 - b.y0) (a.y1 - b.y1) t = 0)
theorem s_sameL {a b : Ln} {t : Rat} (ha : OkL a) (hb : OkL b) (ht : OkT t) : PSpec Tryz.prog 253 [.st [],encL a,encL b,encR t] (bA (smL a b t)):=by
 have c1:=Hld.mk (s_coord a)
 have c2:=Hld.mk (s_coord b)
 have h1:=Hld.mk (s_sameD ha.x0 ha.x1 hb.x0 hb.x1 ht)
 have h2:=Hld.mk (s_sameD ha.y0 ha.y1 hb.y0 hb.y1 ht)
 unfold smL
 obtain ⟨p,hp⟩ : ∃ p,decide (ev (a.x0 - b.x0) (a.x1 - b.x1) t = 0) = p:=⟨_,rfl⟩
 obtain ⟨q,hq⟩ : ∃ p,decide (ev (a.y0 - b.y0) (a.y1 - b.y1) t = 0) = p:=⟨_,rfl⟩
 rw [hp] at h1 ⊢
 rw [hq] at h2 ⊢
 clear hp hq ha hb ht
 rcases p with _|_
 ·refine pS Tryz.func253 ?_
  intro E hE
  have k'1:=c1;have k'2:=c2;have k'3:=h1;have k'4:=h2;have z'1:=@encD.eq_1;have z'2:=@encL.eq_1;have z'3:=@encR.eq_1;exact ga4
 ·refine pS Tryz.func253 ?_
  intro E hE
  have k'1:=c1;have k'2:=c2;have k'3:=h1;have k'4:=h2;have z'1:=@encD.eq_1;have z'2:=@encL.eq_1;have z'3:=@encR.eq_1;exact ga4
def rdL (a : Ln) (t : Rat) : Ln:=⟨ev a.x0 a.x1 t,0,ev a.y0 a.y1 t,0⟩
theorem s_reduceL {a : Ln} {t : Rat} (ha : OkL a) (ht : OkT t) : PSpec Tryz.prog 252 [.st [],encL a,encR t] (encL (rdL a t)):=by
 have c1:=Hld.mk (s_coord a)
 have h1:=Hld.mk (s_reduceD ha.x0 ha.x1 ht.bd (by decide) (by decide) (by decide) (by decide) (by decide))
 have h2:=Hld.mk (s_reduceD ha.y0 ha.y1 ht.bd (by decide) (by decide) (by decide) (by decide) (by decide))
 unfold rdL
 obtain ⟨p,hp⟩ : ∃ p,ev a.x0 a.x1 t = p:=⟨_,rfl⟩
 obtain ⟨q,hq⟩ : ∃ p,ev a.y0 a.y1 t = p:=⟨_,rfl⟩
 rw [hp] at h1 ⊢
 rw [hq] at h2 ⊢
 clear hp hq ha ht
 refine pS Tryz.func252 ?_
 intro E hE
 refine sq ⟨[(6,.loc 6 0),(5,.loc 5 0),(4,.loc 4 0)],[(6,.box 109 (.st [bA false,eA,bA false,eA,bA false,eA,bA false,eA,bA false,eA,bA false,eA,bA false,eA,bA false,eA])),(5,.box 92 (encR t)),(4,.box 109 (encL a))]⟩ ?_
 refine AW_seqt ⟨[(8,.loc 8 0),(7,.loc 7 0),(6,.loc 6 0),(5,.loc 5 0)],[(8,.box 146 (encD ⟨a.y0,a.y1,0⟩)),(7,.box 146 (encD ⟨a.x0,a.x1,0⟩)),(6,.box 109 (.st [bA false,eA,bA false,eA,bA false,eA,bA false,eA,bA false,eA,bA false,eA,bA false,eA,bA false,eA])),(5,.box 92 (encR t))]⟩ ?_ (by
  intro K hK
  have k'1:=c1;have z'1:=@encD.eq_1;exact ga1)
 refine AW_seqt ⟨[(8,.loc 8 0),(7,.loc 7 0),(6,.loc 6 0)],[(8,.box 146 (encD ⟨q,0,0⟩)),(7,.box 146 (encD ⟨p,0,0⟩)),(6,.box 109 (.st [bA false,eA,bA false,eA,bA false,eA,bA false,eA,bA false,eA,bA false,eA,bA false,eA,bA false,eA]))]⟩ ?_ (by
  intro K hK
  refine AW_drawF (fun f=>⟨[(14,if f 0 then encD ⟨a.x0,a.x1,0⟩ else .u),(15,if f 1 then encR t else .u),(16,if f 2 then encD ⟨p,0,0⟩ else .u),(17,if f 3 then encD ⟨a.y0,a.y1,0⟩ else .u),(18,if f 4 then encR t else .u),(19,if f 5 then encD ⟨q,0,0⟩ else .u),(8,.loc 8 0),(7,.loc 7 0),(6,.loc 6 0),(5,.loc 5 0)],
   [(8,.box 146 (if f 7 then encD ⟨q,0,0⟩ else encD ⟨a.y0,a.y1,0⟩)),(7,.box 146 (if f 6 then encD ⟨p,0,0⟩ else encD ⟨a.x0,a.x1,0⟩)),(6,.box 109 (.st [bA false,eA,bA false,eA,bA false,eA,bA false,eA,bA false,eA,bA false,eA,bA false,eA,bA false,eA])),(5,.box 92 (encR t))]⟩) mixed (by rw [hE];decide) (by decide +kernel) (by decide +kernel) (by simp) ?_ ?_
  ·intro f i o hi hdep hnot hcl K2 hK2
   have w6_0 : f 6 = true → f 0 = true:=gw
   have w7_3 : f 7 = true → f 3 = true:=gw
   clear hcl
   iterate 8 (rcases i with _|i;rotate_left)
   ·simp at hi
   all_goals (simp only [List.getElem?_cons_succ,List.getElem?_cons_zero,Option.some.injEq] at hi;subst hi)
   all_goals simp [Region.binds] at hdep
   all_goals (try simp [hnot] at w6_0)
   all_goals (try simp [hnot] at w7_3)
   all_goals (have k'1:=h1;have k'2:=h2;have z'1:=@encD.eq_1;have z'2:=@encR.eq_1;exact gd2)
  ·intro f hf
   have e6:=hf 6 (by simp)
   have e7:=hf 7 (by simp)
   refine hK.h _ ?_
   simp [e6,e7,encD,encR]
  all_goals simp)
 have z'1:=@encD.eq_1;have z'2:=@encL.eq_1;exact ga0
theorem Ln.ext' {a b : Ln} (h1 : a.x0 = b.x0) (h2 : a.x1 = b.x1) (h3 : a.y0 = b.y0) (h4 : a.y1 = b.y1) : a = b:=by cases a;cases b;simp at h1 h2 h3 h4;simp [h1,h2,h3,h4]
theorem s_equalL (a b : Ln) : PSpec Tryz.prog 251 [.st [],encL a,encL b] (bA (decide (a = b))):=by
 by_cases h : a = b
 ·subst h
  refine pS Tryz.func251 ?_
  intro E hE
  have z'1:=@encL.eq_1;exact ga0
 ·refine pS Tryz.func251 ?_
  intro E hE
  repeat' (first
   |(with_reducible first|refine uK ?_|refine uX ?_|refine jq fun K hK=>?_|refine jb ?_)|((with_reducible first|refine rS hE ?_|refine jn ?_|refine js fun K' hK'=>?_|refine ji fun X Y hX hY=>?_|refine jr ?_|refine jk ?_|refine jx ?_);simp [*,encL])|with_reducible refine rL hE ?_|with_reducible refine And.intro ?_ ?_|omega|(refine imp1 fun h=>?_))
  all_goals
   exact absurd (Ln.ext' (encQ_inj (decide_eq_decide.2 ‹a.x0.num < 0 ↔ b.x0.num < 0›) ‹a.x0.num.natAbs = b.x0.num.natAbs› ‹dn a.x0 = dn b.x0›) (encQ_inj (decide_eq_decide.2 ‹a.x1.num < 0 ↔ b.x1.num < 0›) ‹a.x1.num.natAbs = b.x1.num.natAbs› ‹dn a.x1 = dn b.x1›) (encQ_inj (decide_eq_decide.2 ‹a.y0.num < 0 ↔ b.y0.num < 0›) ‹a.y0.num.natAbs = b.y0.num.natAbs› ‹dn a.y0 = dn b.y0›) (encQ_inj (decide_eq_decide.2 ‹a.y1.num < 0 ↔ b.y1.num < 0›) ‹a.y1.num.natAbs = b.y1.num.natAbs› ‹dn a.y1 = dn b.y1›)) ‹¬ a = b›
theorem s_checkL {l : Ln} (h : OkL l) : PSpec Tryz.prog 250 [.st [],encL l] (iA 0):=by
 have h0:=Hld.mk (s_checkQ h.x0 (by decide))
 have h1:=Hld.mk (s_checkQ h.x1 (by decide))
 have h2:=Hld.mk (s_checkQ h.y0 (by decide))
 have h3:=Hld.mk (s_checkQ h.y1 (by decide))
 refine pS Tryz.func250 ?_
 intro E hE
 repeat' (first
  |(with_reducible first|refine uK ?_|refine uX ?_|refine jq fun K hK=>?_|refine jb ?_)|((with_reducible first|refine rS hE ?_|refine jn ?_|refine js fun K' hK'=>?_|refine ji fun X Y hX hY=>?_|refine jr ?_|refine jk ?_|refine jx ?_);simp [*,encL])|with_reducible refine rL hE ?_|with_reducible refine And.intro ?_ ?_|omega|(refine imp1 fun h=>?_))
 refine AW_loopk (G:=Nat) (fun i=>⟨[(17,iA i),(16,encL l),(4,iA 0)],[]⟩) (fun i=>i ≤ 4) (fun i=>4 - i) 0 (Nat.zero_le _) (by simp [encL]) ?_
 intro i hi K hK
 rcases i with _|_|_|_|_|i
 ·repeat' (first
   |(with_reducible first|refine uK ?_|refine uX ?_|refine jq fun K hK=>?_|refine jb ?_)|((with_reducible first|refine rS hE ?_|refine jn ?_|refine js fun K' hK'=>?_|refine ji fun X Y hX hY=>?_|refine jr ?_|refine jk ?_|refine jx ?_);simp [*,encL,encQ])|with_reducible refine rL hE ?_|(refine jC (h0.out) ?_ ?_ ?_;(iterate 2 focus (simp [*,encL,encQ] <;> fail));simp [*,encL,encQ])|with_reducible refine And.intro ?_ ?_|omega|(refine imp1 fun h=>?_))
  exact ⟨1,by omega,by omega,by simp [encL]⟩
 ·repeat' (first
   |(with_reducible first|refine uK ?_|refine uX ?_|refine jq fun K hK=>?_|refine jb ?_)|((with_reducible first|refine rS hE ?_|refine jn ?_|refine js fun K' hK'=>?_|refine ji fun X Y hX hY=>?_|refine jr ?_|refine jk ?_|refine jx ?_);simp [*,encL,encQ])|with_reducible refine rL hE ?_|(refine jC (h1.out) ?_ ?_ ?_;(iterate 2 focus (simp [*,encL,encQ] <;> fail));simp [*,encL,encQ])|with_reducible refine And.intro ?_ ?_|omega|(refine imp1 fun h=>?_))
  exact ⟨2,by omega,by omega,by simp [encL]⟩
 ·repeat' (first
   |(with_reducible first|refine uK ?_|refine uX ?_|refine jq fun K hK=>?_|refine jb ?_)|((with_reducible first|refine rS hE ?_|refine jn ?_|refine js fun K' hK'=>?_|refine ji fun X Y hX hY=>?_|refine jr ?_|refine jk ?_|refine jx ?_);simp [*,encL,encQ])|with_reducible refine rL hE ?_|(refine jC (h2.out) ?_ ?_ ?_;(iterate 2 focus (simp [*,encL,encQ] <;> fail));simp [*,encL,encQ])|with_reducible refine And.intro ?_ ?_|omega|(refine imp1 fun h=>?_))
  exact ⟨3,by omega,by omega,by simp [encL]⟩
 ·repeat' (first
   |(with_reducible first|refine uK ?_|refine uX ?_|refine jq fun K hK=>?_|refine jb ?_)|((with_reducible first|refine rS hE ?_|refine jn ?_|refine js fun K' hK'=>?_|refine ji fun X Y hX hY=>?_|refine jr ?_|refine jk ?_|refine jx ?_);simp [*,encL,encQ])|with_reducible refine rL hE ?_|(refine jC (h3.out) ?_ ?_ ?_;(iterate 2 focus (simp [*,encL,encQ] <;> fail));simp [*,encL,encQ])|with_reducible refine And.intro ?_ ?_|omega|(refine imp1 fun h=>?_))
  exact ⟨4,by omega,by omega,by simp [encL]⟩
 ·have z'1:=@encL.eq_1;exact ga0
 ·omega
def SrtC (l : List Un) : Prop:=∀ i j (h : i < j) (hj : j < l.length),PSpec Tryz.prog 194 [encU l[j],encU (l[i]'(by omega))] (iA 1)
abbrev cfU : AV:=.fn (.func 194) [] []
theorem s_ins (l : List Un) (a b : Nat) (hb : b ≤ l.length) (hl : l.length ≤ 100000) (ha : a ≤ b) (hc : SrtC l) : PSpec Tryz.prog 218 [.sl 36 (l.map encU),iA a,iA b,cfU] (.tup []):=by
 replace hc:=Hld.mk hc
 refine pS Tryz.func218 ?_
 intro E hE
 refine lpk (G:=Nat) (fun i=>⟨[(8,iA i),(0,.sl 36 (l.map encU)),(1,iA a),(2,iA b),(3,cfU)],[]⟩) (fun i=>a + 1 ≤ i ∧ i ≤ b + 1) (fun i=>b + 1 - i) (a + 1) (by omega) ?_
 rintro i ⟨h1,h2⟩ K hK
 by_cases hlt : i < b
 ·have hltI : (i : Int) < b:=by omega
  have hia : (a : Int) < i:=by omega
  have hil : (i : Int) < l.length:=by omega
  have hil2 : i < l.length:=by omega
  have hi1 : ((i : Int) - 1).toNat = i - 1:=by omega
  have hi0 : (0 : Int) ≤ (i : Int) - 1:=by omega
  have hi2 : (i : Int) - 1 < l.length:=by omega
  have hi3 : i - 1 < l.length:=by omega
  have hcc:=Hld.mk (hc.out (i - 1) i (by omega) hil2)
  repeat' (first
   |(with_reducible first|refine uK ?_|refine uQ ?_|refine uX ?_|refine jq fun K hK=>?_|refine jb ?_)|(with_reducible refine rS hE ?_;simp [*])|with_reducible refine rL hE ?_|(((with_reducible show RK _ _ _ _ _ _);first|refine jn ?_|refine js fun K' hK'=>?_);simp [*])|with_reducible refine rD mixed hE ?_|((with_reducible show RKQ _ _ _ _ _ _);first|refine RKQ_nilk ⟨by decide,?_⟩|(refine jv fun K' hK'=>?_;simp [*]))|((with_reducible first|refine ji fun X Y hX hY=>?_|refine jr ?_|refine jk ?_|refine jx ?_);simp [*])|with_reducible refine And.intro ?_ ?_|omega|(refine imp1 fun h=>?_))
  refine AW_loopk (G:=Unit) (fun _=>⟨[(9,iA i),(8,iA i),(0,.sl 36 (l.map encU)),(1,iA a),(2,iA b),(3,cfU)],[]⟩) (fun _=>True) (fun _=>0) () trivial (by simp) ?_
  intro _ _ K hK
  repeat' (first
   |(with_reducible first|refine uK ?_|refine uQ ?_|refine uX ?_|refine jq fun K hK=>?_|refine jb ?_)|(with_reducible refine rS hE ?_;simp [*])|with_reducible refine rL hE ?_|(((with_reducible show RK _ _ _ _ _ _);first|refine jn ?_|refine js fun K' hK'=>?_);simp [*])|with_reducible refine rD mixed hE ?_|((with_reducible show RKQ _ _ _ _ _ _);first|refine RKQ_nilk ⟨by decide,?_⟩|(refine jv fun K' hK'=>?_;simp [*]))|((with_reducible first|refine ji fun X Y hX hY=>?_|refine jr ?_|refine jk ?_|refine jx ?_);simp [*])|((first|refine jC (hcc.out) ?_ ?_ ?_|refine jQ (hcc.out) ?_ ?_ ?_);(iterate 2 focus (simp [*] <;> fail));simp [*])|with_reducible refine And.intro ?_ ?_|omega|(refine imp1 fun h=>?_))
  exact ⟨i + 1,by omega,by omega,by simp⟩
 ·exact ga0
theorem mid {i j : Nat} (hj : i + j < 4611686018427387904) : IntKind.i64.wrap (IntKind.u64.wrap ((i : Int) + (j : Int)) / 2) = (((i + j) / 2 : Nat) : Int):=by
 rw [w64 (by omega) (by omega),wi (by omega) (by omega)]
 omega
set_option maxHeartbeats 8000000 in
theorem s_sym (l : List Un) (hl : l.length ≤ 100000) (hc : SrtC l) : ∀ (N a m b : Nat),b - a ≤ N → a < m → m < b → b ≤ l.length → PSpec Tryz.prog 219 [.sl 36 (l.map encU),iA a,iA m,iA b,cfU] (.tup [])
 |0,a,m,b,h0,h1,h2,_=>by omega
 |N + 1,a,m,b,h0,h1,h2,hb=>by
  by_cases hm1 : m = a + 1
  ·have hq:=Hld.mk hc
   have hmI : (m : Int) - a = 1:=by omega
   have hmI2 : ¬ (a : Int) < (m : Int) - 1:=by omega
   have haI : (a : Int) < l.length:=by omega
   have hal : a < l.length:=by omega
   replace hm1:=Hld.mk hm1
   refine pS Tryz.func219 ?_
   intro E hE
   repeat' (first
    |(with_reducible first|refine uK ?_|refine uX ?_|refine jq fun K hK=>?_|refine jb ?_)|((with_reducible first|refine rS hE ?_|refine jn ?_|refine js fun K' hK'=>?_|refine ji fun X Y hX hY=>?_|refine jr ?_|refine jk ?_|refine jx ?_);simp [*])|with_reducible refine rL hE ?_|with_reducible refine And.intro ?_ ?_|omega|(refine imp1 fun h=>?_))
   refine AW_loopk (G:=Nat) (fun j=>⟨[(11,iA j),(10,iA m),(0,.sl 36 (l.map encU)),(1,iA a),(2,iA m),(3,iA b),(4,cfU)],[]⟩) (fun j=>m ≤ j ∧ j ≤ b) (fun j=>j) b (by omega) (by simp) ?_
   rintro j ⟨hj1,hj2⟩ K hK
   by_cases hlt : m < j
   ·have hltI : (m : Int) < j:=by omega
    have hmid:=mid (i:=m) (j:=j) (by omega)
    obtain ⟨h,hh⟩ : ∃ h,(m + j) / 2 = h:=⟨_,rfl⟩
    rw [hh] at hmid
    have hhl : h < l.length:=by omega
    have hhI : (h : Int) < l.length:=by omega
    have hcc:=Hld.mk (hq.out a h (by omega) hhl)
    repeat' (first
     |(with_reducible first|refine uK ?_|refine uQ ?_|refine uX ?_|refine jq fun K hK=>?_|refine jb ?_)|(with_reducible refine rS hE ?_;simp [*])|with_reducible refine rL hE ?_|(((with_reducible show RK _ _ _ _ _ _);first|refine jn ?_|refine js fun K' hK'=>?_);simp [*])|with_reducible refine rD mixed hE ?_|((with_reducible show RKQ _ _ _ _ _ _);first|refine RKQ_nilk ⟨by decide,?_⟩|(refine jv fun K' hK'=>?_;simp [*]))|((with_reducible first|refine ji fun X Y hX hY=>?_|refine jr ?_|refine jk ?_|refine jx ?_);simp [*])|((first|refine jC (hcc.out) ?_ ?_ ?_|refine jQ (hcc.out) ?_ ?_ ?_);(iterate 2 focus (simp [*] <;> fail));simp [*])|with_reducible refine And.intro ?_ ?_|omega|(refine imp1 fun h=>?_))
    exact ⟨h,by omega,by omega,by simp⟩
   ·have : j = m:=by omega
    subst this
    repeat' (first
     |(with_reducible first|refine uK ?_|refine uX ?_|refine jq fun K hK=>?_|refine jb ?_)|((with_reducible first|refine rS hE ?_|refine jn ?_|refine js fun K' hK'=>?_|refine ji fun X Y hX hY=>?_|refine jr ?_|refine jk ?_|refine jx ?_);simp [*])|with_reducible refine rL hE ?_|with_reducible refine And.intro ?_ ?_|omega|(refine imp1 fun h=>?_))
    refine AW_loopk (G:=Unit) (fun _=>⟨[(13,iA a),(10,iA j)],[]⟩) (fun _=>True) (fun _=>0) () trivial (by simp) ?_
    intro _ _ K hK
    exact ga0
  ·by_cases hm2 : b = m + 1
   ·have hq:=Hld.mk hc
    have hmI : ¬ (m : Int) - a = 1:=by omega
    have hbI : (b : Int) - m = 1:=by omega
    have hmI2 : (m : Int) < l.length:=by omega
    have hml : m < l.length:=by omega
    replace hm2:=Hld.mk hm2
    refine pS Tryz.func219 ?_
    intro E hE
    repeat' (first
     |(with_reducible first|refine uK ?_|refine uX ?_|refine jq fun K hK=>?_|refine jb ?_)|((with_reducible first|refine rS hE ?_|refine jn ?_|refine js fun K' hK'=>?_|refine ji fun X Y hX hY=>?_|refine jr ?_|refine jk ?_|refine jx ?_);simp [*])|with_reducible refine rL hE ?_|with_reducible refine And.intro ?_ ?_|omega|(refine imp1 fun h=>?_))
    refine AW_loopk (G:=Nat) (fun i=>⟨[(14,iA i),(15,iA m),(0,.sl 36 (l.map encU)),(1,iA a),(2,iA m),(3,iA b),(4,cfU)],[]⟩) (fun i=>a ≤ i ∧ i ≤ m) (fun i=>m - i) a (by omega) (by simp) ?_
    rintro i ⟨hj1,hj2⟩ K hK
    by_cases hlt : i < m
    ·have hltI : (i : Int) < m:=by omega
     have hmid:=mid (i:=i) (j:=m) (by omega)
     obtain ⟨h,hh⟩ : ∃ h,(i + m) / 2 = h:=⟨_,rfl⟩
     rw [hh] at hmid
     have hhl : h < l.length:=by omega
     have hhI : (h : Int) < l.length:=by omega
     have hcc:=Hld.mk (hq.out h m (by omega) hml)
     repeat' (first
      |(with_reducible first|refine uK ?_|refine uQ ?_|refine uX ?_|refine jq fun K hK=>?_|refine jb ?_)|(with_reducible refine rS hE ?_;simp [*])|with_reducible refine rL hE ?_|(((with_reducible show RK _ _ _ _ _ _);first|refine jn ?_|refine js fun K' hK'=>?_);simp [*])|with_reducible refine rD mixed hE ?_|((with_reducible show RKQ _ _ _ _ _ _);first|refine RKQ_nilk ⟨by decide,?_⟩|(refine jv fun K' hK'=>?_;simp [*]))|((with_reducible first|refine ji fun X Y hX hY=>?_|refine jr ?_|refine jk ?_|refine jx ?_);simp [*])|((first|refine jC (hcc.out) ?_ ?_ ?_|refine jQ (hcc.out) ?_ ?_ ?_);(iterate 2 focus (simp [*] <;> fail));simp [*])|with_reducible refine And.intro ?_ ?_|omega|(refine imp1 fun h=>?_))
     exact ⟨h + 1,by omega,by omega,by simp⟩
    ·have : i = m:=by omega
     subst this
     repeat' (first
      |(with_reducible first|refine uK ?_|refine uX ?_|refine jq fun K hK=>?_|refine jb ?_)|((with_reducible first|refine rS hE ?_|refine jn ?_|refine js fun K' hK'=>?_|refine ji fun X Y hX hY=>?_|refine jr ?_|refine jk ?_|refine jx ?_);simp [*])|with_reducible refine rL hE ?_|with_reducible refine And.intro ?_ ?_|omega|(refine imp1 fun h=>?_))
     refine AW_loopk (G:=Unit) (fun _=>⟨[(17,iA i),(14,iA i)],[]⟩) (fun _=>True) (fun _=>0) () trivial (by simp) ?_
     intro _ _ K hK
     exact ga0
   ·have hmI : ¬ (m : Int) - a = 1:=by omega
    have hbI : ¬ (b : Int) - m = 1:=by omega
    have hmid0:=mid (i:=a) (j:=b) (by omega)
    obtain ⟨w,hw⟩ : ∃ w,(a + b) / 2 = w:=⟨_,rfl⟩
    rw [hw] at hmid0
    obtain ⟨s0,r0,hsr,hs0⟩ : ∃ s0 r0 : Nat,((w < m ∧ (s0 : Int) = (w : Int) + m - b ∧ r0 = w) ∨ (¬ w < m ∧ s0 = a ∧ r0 = m)) ∧ s0 ≤ r0:=by
     by_cases h : w < m
     ·exact ⟨w + m - b,w,.inl ⟨h,by omega,rfl⟩,by omega⟩
     ·exact ⟨a,m,.inr ⟨h,rfl,rfl⟩,by omega⟩
    have i1 : ¬ w < m → m < w → PSpec Tryz.prog 219 [.sl 36 (l.map encU),iA a,iA m,iA w,cfU] (.tup []):=fun h h'=>s_sym l hl hc N a m w (by omega) h1 h' (by omega)
    have i2 : w < m → PSpec Tryz.prog 219 [.sl 36 (l.map encU),iA w,iA m,iA b,cfU] (.tup []):=fun h=>s_sym l hl hc N w m b (by omega) h h2 hb
    have hps : w + m ≤ b + s0:=by rcases hsr with ⟨g1,g2,g3⟩|⟨g1,g2,g3⟩ <;> omega
    have hwb : w < b:=by omega
    have haw : a < w:=by omega
    replace hw:=Hld.mk hw
    replace i1:=Hld.mk i1
    replace i2:=Hld.mk i2
    have hq:=Hld.mk hc
    have hnI : (w : Int) + m - 1 = ((w + m - 1 : Nat) : Int):=by omega
    refine pS Tryz.func219 ?_
    intro E hE
    refine sq ⟨[(0,.sl 36 (l.map encU)),(1,iA a),(2,iA m),(3,iA b),(4,cfU)],[]⟩ ?_
    refine sq ⟨[(0,.sl 36 (l.map encU)),(1,iA a),(2,iA m),(3,iA b),(4,cfU)],[]⟩ ?_
    refine sq ⟨[(18,iA w),(0,.sl 36 (l.map encU)),(1,iA a),(2,iA m),(3,iA b),(4,cfU)],[]⟩ ?_
    refine sq ⟨[(19,iA ((w : Int) + m)),(18,iA w),(0,.sl 36 (l.map encU)),(1,iA a),(2,iA m),(3,iA b),(4,cfU)],[]⟩ ?_
    refine sq ⟨[(19,iA ((w : Int) + m)),(18,iA w),(0,.sl 36 (l.map encU)),(1,iA a),(2,iA m),(3,iA b),(4,cfU)],[]⟩ ?_
    refine AW_seqt ⟨[(21,iA r0),(20,iA s0),(19,iA ((w : Int) + m)),(18,iA w),(0,.sl 36 (l.map encU)),(1,iA a),(2,iA m),(3,iA b),(4,cfU)],[]⟩ ?_ (by
     intro K hK
     rcases hsr with ⟨g1,g2,g3⟩|⟨g1,g2,g3⟩
     ·have g1I : (w : Int) < m:=by omega
      replace g3:=Hld.mk g3
      have z'1:=g3.out;exact ga0
     ·have g1I : ¬ (w : Int) < m:=by omega
      replace g2:=Hld.mk g2
      replace g3:=Hld.mk g3
      have z'1:=g2.out;have z'2:=g3.out;exact ga0)
    refine sq ⟨[(22,iA ((w + m - 1 : Nat) : Int)),(21,iA r0),(20,iA s0),(19,iA ((w : Int) + m)),(18,iA w),(0,.sl 36 (l.map encU)),(1,iA a),(2,iA m),(3,iA b),(4,cfU)],[]⟩ ?_
    have hr0 : r0 ≤ w ∧ r0 ≤ m:=by
     rcases hsr with ⟨g1,g2,g3⟩|⟨g1,g2,g3⟩ <;> omega
    refine AW_seqt ⟨[(20,iA r0),(19,iA ((w : Int) + m)),(18,iA w),(0,.sl 36 (l.map encU)),(1,iA a),(2,iA m),(3,iA b),(4,cfU)],[]⟩ ?_ (by
     intro K hK
     replace hsr:=Hld.mk hsr
     repeat' (first
      |(with_reducible first|refine uK ?_|refine uX ?_|refine jq fun K hK=>?_|refine jb ?_)|((with_reducible first|refine rS hE ?_|refine jn ?_|refine js fun K' hK'=>?_|refine ji fun X Y hX hY=>?_|refine jr ?_|refine jk ?_|refine jx ?_);simp [*])|with_reducible refine rL hE ?_|with_reducible refine And.intro ?_ ?_|omega|(refine imp1 fun h=>?_))
     refine AW_loopk (G:=Nat) (fun i=>⟨[(22,iA ((w + m - 1 : Nat) : Int)),(21,iA r0),(20,iA i),(19,iA ((w : Int) + m)),(18,iA w),(0,.sl 36 (l.map encU)),(1,iA a),(2,iA m),(3,iA b),(4,cfU)],[]⟩) (fun i=>s0 ≤ i ∧ i ≤ r0) (fun i=>r0 - i) s0 (by omega) (by simp) ?_
     rintro i ⟨hj1,hj2⟩ K hK
     by_cases hlt : i < r0
     ·have hltI : (i : Int) < r0:=by omega
      have hmid:=mid (i:=i) (j:=r0) (by omega)
      obtain ⟨c,hh⟩ : ∃ h,(i + r0) / 2 = h:=⟨_,rfl⟩
      rw [hh] at hmid
      obtain ⟨p,hp⟩ : ∃ p,w + m - 1 - c = p:=⟨_,rfl⟩
      have hpI : ((w + m - 1 : Nat) : Int) - c = p:=by omega
      have hpl : p < l.length:=by omega
      have hplI : (p : Int) < l.length:=by omega
      have hcl : c < l.length:=by omega
      have hclI : (c : Int) < l.length:=by omega
      have hcc:=Hld.mk (hq.out c p (by omega) hpl)
      replace hp:=Hld.mk hp
      replace hh:=Hld.mk hh
      repeat' (first
       |(with_reducible first|refine uK ?_|refine uQ ?_|refine uX ?_|refine jq fun K hK=>?_|refine jb ?_)|(with_reducible refine rS hE ?_;simp [*])|with_reducible refine rL hE ?_|(((with_reducible show RK _ _ _ _ _ _);first|refine jn ?_|refine js fun K' hK'=>?_);simp [*])|with_reducible refine rD mixed hE ?_|((with_reducible show RKQ _ _ _ _ _ _);first|refine RKQ_nilk ⟨by decide,?_⟩|(refine jv fun K' hK'=>?_;simp [*]))|((with_reducible first|refine ji fun X Y hX hY=>?_|refine jr ?_|refine jk ?_|refine jx ?_);simp [*])|((first|refine jC (hcc.out) ?_ ?_ ?_|refine jQ (hcc.out) ?_ ?_ ?_);(iterate 2 focus (simp [*] <;> fail));simp [*])|with_reducible refine And.intro ?_ ?_|omega|(refine imp1 fun h=>?_))
      exact ⟨c + 1,by omega,by omega,by simp⟩
     ·have : i = r0:=by omega
      subst this
      exact ga0)
    rcases hsr with ⟨g1,g2,g3⟩|⟨g1,g2,g3⟩
    ·have g1I : (w : Int) < m:=by omega
     have e1 : (w : Int) + m - r0 = m:=by omega
     have e2 : ¬ (m : Int) < m:=by omega
     have e3 : ¬ (r0 : Int) < w:=by omega
     have i2':=Hld.mk (i2.out g1)
     have hmb : (m : Int) < b:=by omega
     have hrm : (r0 : Int) < m:=by omega
     have har : (a : Int) < r0:=by omega
     replace g3:=Hld.mk g3
     have k'1:=i2';exact ga1
    ·have e1 : (w : Int) + m - r0 = w:=by omega
     have e2 : ¬ (r0 : Int) < m:=by omega
     have e3 : ¬ (w : Int) < w:=by omega
     have har : (a : Int) < r0:=by omega
     by_cases hmw : m < w
     ·have hrw : (r0 : Int) < w:=by omega
      have i1':=i1.out g1 hmw
      rw [← g3] at i1'
      replace i1':=Hld.mk i1'
      replace g3:=Hld.mk g3
      replace g2:=Hld.mk g2
      have k'1:=i1';exact ga1
     ·have hrw : ¬ (r0 : Int) < w:=by omega
      replace g3:=Hld.mk g3
      replace g2:=Hld.mk g2
      exact ga0
set_option maxHeartbeats 4000000 in
theorem s_stable (l : List Un) (hl : l.length ≤ 100000) (hc : SrtC l) : PSpec Tryz.prog 208 [.sl 36 (l.map encU),iA l.length,cfU] (.tup []):=by
 obtain ⟨n,hn⟩ : ∃ n,l.length = n:=⟨_,rfl⟩
 have hi : ∀ a b : Nat,a ≤ b → b ≤ n → Hld (PSpec Tryz.prog 218 [.sl 36 (l.map encU),iA a,iA b,cfU] (.tup [])):=fun a b h h'=>⟨s_ins l a b (by omega) hl h hc⟩
 have hs : ∀ a m b : Nat,a < m → m < b → b ≤ n → Hld (PSpec Tryz.prog 219 [.sl 36 (l.map encU),iA a,iA m,iA b,cfU] (.tup [])):=fun a m b h h' h''=>⟨s_sym l hl hc _ a m b (Nat.le_refl _) h h' (by omega)⟩
 rw [hn] at hl ⊢
 replace hi:=Hld.mk hi
 replace hs:=Hld.mk hs
 clear hn hc
 obtain ⟨X,hX⟩ : ∃ X,l.map encU = X:=⟨_,rfl⟩
 rw [hX] at hi hs ⊢
 clear hX
 refine pS Tryz.func208 ?_
 intro E hE
 refine sq ⟨[(6,iA 20),(0,.sl 36 X),(1,iA n),(2,cfU)],[]⟩ ?_
 refine sq ⟨[(8,iA 20),(7,iA 0),(6,iA 20),(0,.sl 36 X),(1,iA n),(2,cfU)],[]⟩ ?_
 refine AW_seqE (G:=Nat) (fun a=>⟨[(7,iA a),(6,iA 20),(0,.sl 36 X),(1,iA n),(2,cfU)],[]⟩) (fun a=>a ≤ n) ?_ (by
  intro K hK
  repeat' (first
   |(with_reducible first|refine uK ?_|refine uX ?_|refine jq fun K hK=>?_|refine jb ?_)|((with_reducible first|refine rS hE ?_|refine jn ?_|refine js fun K' hK'=>?_|refine ji fun X Y hX hY=>?_|refine jr ?_|refine jk ?_|refine jx ?_);simp [*])|with_reducible refine rL hE ?_|with_reducible refine And.intro ?_ ?_|omega|(refine imp1 fun h=>?_))
  refine AW_loopk (G:=Nat) (fun a=>⟨[(8,iA ((a : Int) + 20)),(7,iA a),(6,iA 20),(0,.sl 36 X),(1,iA n),(2,cfU)],[]⟩) (fun a=>a ≤ n) (fun a=>n - a) 0 (Nat.zero_le _) (by simp) ?_
  rintro a ha K hK
  by_cases hlt : a + 20 ≤ n
  ·have hltI : (a : Int) + 20 ≤ n:=by omega
   have h1:=hi.out a (a + 20) (by omega) hlt
   rw [show ((a + 20 : Nat) : Int) = (a : Int) + 20 by omega] at h1
   repeat' (first
    |(with_reducible first|refine uK ?_|refine uX ?_|refine jq fun K hK=>?_|refine jb ?_)|((with_reducible first|refine rS hE ?_|refine jn ?_|refine js fun K' hK'=>?_|refine ji fun X Y hX hY=>?_|refine jr ?_|refine jk ?_|refine jx ?_);simp [*])|with_reducible refine rL hE ?_|(refine jC (h1.out) ?_ ?_ ?_;(iterate 2 focus (simp [*] <;> fail));simp [*])|with_reducible refine And.intro ?_ ?_|omega|(refine imp1 fun h=>?_))
   exact ⟨a + 20,by omega,by omega,by simp⟩
  ·repeat' (first
    |(with_reducible first|refine uK ?_|refine uX ?_|refine jq fun K hK=>?_|refine jb ?_)|((with_reducible first|refine rS hE ?_|refine jn ?_|refine js fun K' hK'=>?_|refine ji fun X Y hX hY=>?_|refine jr ?_|refine jk ?_|refine jx ?_);simp [*])|with_reducible refine rL hE ?_|with_reducible refine And.intro ?_ ?_|omega|(refine imp1 fun h=>?_))
   exact ⟨a,ha,by simp⟩)
 intro a ha
 have h1:=hi.out a n ha (Nat.le_refl _)
 refine AW_seqt ⟨[(6,iA 20),(0,.sl 36 X),(1,iA n),(2,cfU)],[]⟩ ?_ (by
  intro K hK
  have k'1:=h1;exact ga1)
 clear h1 hi ha
 repeat' (first
  |(with_reducible first|refine uK ?_|refine uX ?_|refine jq fun K hK=>?_|refine jb ?_)|((with_reducible first|refine rS hE ?_|refine jn ?_|refine js fun K' hK'=>?_|refine ji fun X Y hX hY=>?_|refine jr ?_|refine jk ?_|refine jx ?_);simp [*])|with_reducible refine rL hE ?_|with_reducible refine And.intro ?_ ?_|omega|(refine imp1 fun h=>?_))
 refine AW_loopk (G:=Nat) (fun z=>⟨[(6,iA z),(0,.sl 36 X),(1,iA n),(2,cfU)],[]⟩) (fun z=>20 ≤ z ∧ z ≤ 1000000) (fun z=>n - z) 20 (by omega) (by simp) ?_
 rintro z ⟨hz1,hz2⟩ K hK
 by_cases hlt : z < n
 ·have hltI : (z : Int) < n:=by omega
  refine sq ⟨[(6,iA z),(0,.sl 36 X),(1,iA n),(2,cfU)],[]⟩ ?_
  refine AW_block ?_
  refine sq ⟨[(8,iA (2 * (z : Int))),(7,iA 0),(6,iA z),(0,.sl 36 X),(1,iA n),(2,cfU)],[]⟩ ?_
  refine AW_seqE (G:=Nat) (fun a=>⟨[(7,iA a),(6,iA z),(0,.sl 36 X),(1,iA n),(2,cfU)],[]⟩) (fun a=>a ≤ n) ?_ (by
   intro K hK
   repeat' (first
    |(with_reducible first|refine uK ?_|refine uX ?_|refine jq fun K hK=>?_|refine jb ?_)|((with_reducible first|refine rS hE ?_|refine jn ?_|refine js fun K' hK'=>?_|refine ji fun X Y hX hY=>?_|refine jr ?_|refine jk ?_|refine jx ?_);simp [*])|with_reducible refine rL hE ?_|with_reducible refine And.intro ?_ ?_|omega|(refine imp1 fun h=>?_))
   refine AW_loopk (G:=Nat) (fun a=>⟨[(8,iA ((a : Int) + 2 * (z : Int))),(7,iA a),(6,iA z),(0,.sl 36 X),(1,iA n),(2,cfU)],[]⟩) (fun a=>a ≤ n) (fun a=>n - a) 0 (Nat.zero_le _) (by simp) ?_
   rintro a ha K hK
   by_cases hlt2 : a + 2 * z ≤ n
   ·have hlt2I : (a : Int) + 2 * (z : Int) ≤ n:=by omega
    have h1:=hs.out a (a + z) (a + 2 * z) (by omega) (by omega) hlt2
    rw [show ((a + z : Nat) : Int) = (a : Int) + z by omega,show ((a + 2 * z : Nat) : Int) = (a : Int) + 2 * (z : Int) by omega] at h1
    repeat' (first
     |(with_reducible first|refine uK ?_|refine uX ?_|refine jq fun K hK=>?_|refine jb ?_)|((with_reducible first|refine rS hE ?_|refine jn ?_|refine js fun K' hK'=>?_|refine ji fun X Y hX hY=>?_|refine jr ?_|refine jk ?_|refine jx ?_);simp [*])|with_reducible refine rL hE ?_|(refine jC (h1.out) ?_ ?_ ?_;(iterate 2 focus (simp [*] <;> fail));simp [*])|with_reducible refine And.intro ?_ ?_|omega|(refine imp1 fun h=>?_))
    exact ⟨a + 2 * z,by omega,by omega,by simp⟩
   ·repeat' (first
     |(with_reducible first|refine uK ?_|refine uX ?_|refine jq fun K hK=>?_|refine jb ?_)|((with_reducible first|refine rS hE ?_|refine jn ?_|refine js fun K' hK'=>?_|refine ji fun X Y hX hY=>?_|refine jr ?_|refine jk ?_|refine jx ?_);simp [*])|with_reducible refine rL hE ?_|with_reducible refine And.intro ?_ ?_|omega|(refine imp1 fun h=>?_))
    exact ⟨a,ha,by simp⟩)
  intro a ha
  refine AW_seqt ⟨[(6,iA z),(0,.sl 36 X),(1,iA n),(2,cfU)],[]⟩ ?_ (by
   intro K hK
   by_cases hlt3 : a + z < n
   ·have hlt3I : (a : Int) + (z : Int) < n:=by omega
    have h1:=hs.out a (a + z) n (by omega) hlt3 (Nat.le_refl _)
    rw [show ((a + z : Nat) : Int) = (a : Int) + z by omega] at h1
    have k'1:=h1;exact ga1
   ·have hlt3I : ¬ (a : Int) + (z : Int) < n:=by omega
    exact ga0)
  repeat' (first
   |(with_reducible first|refine uK ?_|refine uX ?_|refine jq fun K hK=>?_|refine jb ?_)|((with_reducible first|refine rS hE ?_|refine jn ?_|refine js fun K' hK'=>?_|refine ji fun X Y hX hY=>?_|refine jr ?_|refine jk ?_|refine jx ?_);simp [*])|with_reducible refine rL hE ?_|with_reducible refine And.intro ?_ ?_|omega|(refine imp1 fun h=>?_))
  exact ⟨z * 2,by omega,by omega,by simp⟩
 ·exact ga0
theorem s_sortS (l : List Un) (hl : l.length ≤ 100000) (hc : SrtC l) : PSpec Tryz.prog 193 [.sl 36 (l.map encU),cfU] (.tup []):=by
 have h:=Hld.mk (s_stable l hl hc)
 clear hc
 refine pS Tryz.func193 ?_
 intro E hE
 have k'1:=h;exact ga1
theorem m_cloneU (l : List Un) (hl : l.length ≤ 1000000) : MSpec Tryz.prog 192 [.sl 36 (l.map encU)] [] (fun res bf=>(res = .own 5 36 0 l.length ∧ bf 5 = some (.arr 189 36 (l.map encU))) ∨ (l = [] ∧ res = .v (.slice none 0 0))):=by
 refine MSpec_of Tryz.func192 rfl rfl (Nat.le_of_ble_eq_true rfl) (Nat.le_of_ble_eq_true rfl) ?_
 intro E hE
 refine AW_seq fun K hK=>?_
 refine AW_region (by rw [hE];decide) ?_
 simp
 refine hK _ ?_
 clear hK
 refine AW_seq fun K0 hK0=>?_
 refine AW_seq fun K1 hK1=>?_
 refine AW_region (by rw [hE];decide) ?_
 simp
 have fin1 : ∀ s',s'.le ⟨[(4,bA true),(0,.sl 36 (l.map encU))],[]⟩ → l = [] → K1 s':=by
  intro s' hs' hl0
  refine hK1 _ ?_
  refine AW_le hs' ?_
  refine AW_cond (t:=true) (by simp) ?_ ?_
  ·intro _
   refine AW_seq fun K hK=>?_
   refine AW_region (by rw [hE];decide) ?_
   simp
   refine hK _ ?_
   clear hK
   refine AW_ret ?_
   simp [hl0]
  ·intro h;cases h
 have fin2 : ∀ s',s'.le ⟨[(4,bA false),(0,.sl 36 (l.map encU))],[]⟩ → K1 s':=by
  intro s' hs'
  refine hK1 _ ?_
  refine AW_le hs' ?_
  refine AW_cond (t:=false) (by simp) ?_ ?_
  ·intro h;cases h
  intro _
  refine AW_skip ?_
  simp
  refine hK0 _ ?_
  refine AW_seq fun K hK=>?_
  refine AW_region (by rw [hE];decide) ?_
  simp
  repeat' apply And.intro
  all_goals try omega
  all_goals try decide
  refine hK _ ?_
  clear hK
  refine AW_ret ?_
  simp
 constructor
 ·intro h
  exact fin2 _ (by simp)
 ·intro h
  refine ⟨?_,?_⟩
  ·exact fin2 _ (by simp)
  ·exact fin1 _ (by simp) h
theorem s_cloneU (l : List Un) (hl : l.length ≤ 1000000) : PSpec Tryz.prog 192 [.sl 36 (l.map encU)] (.sl 36 (l.map encU)) :=
 RSpec.toP (MSpec.mono (m_cloneU l hl) (by
  rintro res bf (⟨rfl,h⟩|⟨rfl,rfl⟩)
  ·exact .inl ⟨5,_,by simp,h,List.take_of_length_le (by simp)⟩
  ·exact .inr ⟨rfl,rfl⟩) : RSpec Tryz.prog 192 [.sl 36 (l.map encU)] 189 36 (l.map encU)) (by simp)
structure OkU (u : Un) : Prop where
 f : OkT u.f
 t : OkT u.t
 l : OkL u.l
theorem s_open (v : Iv) : PSpec Tryz.prog 195 [encV v] (iA (if v.fo then 1 else 0)):=by
 obtain ⟨f,t,fo,to⟩:=v
 rcases fo with _|_
 ·refine pS Tryz.func195 ?_
  intro E hE
  have z'1:=@encV.eq_1;exact ga0
 ·refine pS Tryz.func195 ?_
  intro E hE
  have z'1:=@encV.eq_1;exact ga0
set_option maxHeartbeats 4000000 in
theorem s_cmpU {a b : Un} (ha : OkU a) (hb : OkU b) (h : b.f < a.f) : PSpec Tryz.prog 194 [encU a,encU b] (iA 1):=by
 have c1:=s_cmpT ha.f hb.f
 have c2:=Hld.mk (s_cmpT ha.t hb.t)
 have e1 : cmpQ a.f b.f = 1:=by unfold cmpQ;rw [if_neg (Rat.not_lt.2 (Rat.le_of_lt h)),if_pos h]
 rw [e1] at c1
 replace c1:=Hld.mk c1
 have o1:=Hld.mk (s_open a.i)
 have o2:=Hld.mk (s_open b.i)
 obtain ⟨x,hx⟩ : ∃ x : Int,(if a.i.fo then (1 : Int) else 0) = x:=⟨_,rfl⟩
 obtain ⟨y,hy⟩ : ∃ x : Int,(if b.i.fo then (1 : Int) else 0) = x:=⟨_,rfl⟩
 rw [hx] at o1
 rw [hy] at o2
 replace o1 : Hld (PSpec Tryz.prog 195 [encV ⟨a.f,a.t,a.fo,a.to⟩] (iA x)):=⟨o1.out⟩
 replace o2 : Hld (PSpec Tryz.prog 195 [encV ⟨b.f,b.t,b.fo,b.to⟩] (iA y)):=⟨o2.out⟩
 obtain ⟨z,hz⟩ : ∃ z,cmpI x y = z:=⟨_,rfl⟩
 obtain ⟨w,hw⟩ : ∃ z,cmpQ a.t b.t = z:=⟨_,rfl⟩
 have cc:=Hld.mk (s_cmp x y)
 have so:=s_or [1,z,w] (by simp)
 simp [orI] at so
 replace so:=Hld.mk so
 rw [hz] at cc
 rw [hw] at c2
 clear e1 hx hy hz hw h ha hb
 refine pS Tryz.func194 ?_
 intro E hE
 refine sq ⟨[(4,iA 0),(3,.loc 3 0),(2,.loc 2 0)],[(3,.box 189 (encU b)),(2,.box 189 (encU a))]⟩ ?_
 refine sq ⟨[(5,.fn (.func 195) [] []),(4,iA 0),(3,.loc 3 0),(2,.loc 2 0)],[(3,.box 189 (encU b)),(2,.box 189 (encU a))]⟩ ?_
 repeat' (first
  |(with_reducible first|refine uK ?_|refine uQ ?_|refine uX ?_|refine jq fun K hK=>?_|refine jb ?_)|(with_reducible refine rS hE ?_;simp [*,encU,encR,encV,Un.i])|with_reducible refine rL hE ?_|(((with_reducible show RK _ _ _ _ _ _);first|refine jn ?_|refine js fun K' hK'=>?_);simp [*,encU,encR,encV,Un.i])|with_reducible refine rD mixed hE ?_|((with_reducible show RKQ _ _ _ _ _ _);first|refine RKQ_nilk ⟨by decide,?_⟩|(refine jv fun K' hK'=>?_;simp [*,encU,encR,encV,Un.i]))|((with_reducible first|refine ji fun X Y hX hY=>?_|refine jr ?_|refine jk ?_|refine jx ?_);simp [*,encU,encR,encV,Un.i])|((first|refine jC (c1.out) ?_ ?_ ?_|refine jQ (c1.out) ?_ ?_ ?_);(iterate 2 focus (simp [*,encU,encR,encV,Un.i] <;> fail));simp [*,encU,encR,encV,Un.i])|((first|refine jC (c2.out) ?_ ?_ ?_|refine jQ (c2.out) ?_ ?_ ?_);(iterate 2 focus (simp [*,encU,encR,encV,Un.i] <;> fail));simp [*,encU,encR,encV,Un.i])|((first|refine jC (o1.out) ?_ ?_ ?_|refine jQ (o1.out) ?_ ?_ ?_);(iterate 2 focus (simp [*,encU,encR,encV,Un.i] <;> fail));simp [*,encU,encR,encV,Un.i])|((first|refine jC (o2.out) ?_ ?_ ?_|refine jQ (o2.out) ?_ ?_ ?_);(iterate 2 focus (simp [*,encU,encR,encV,Un.i] <;> fail));simp [*,encU,encR,encV,Un.i])|((first|refine jC (cc.out) ?_ ?_ ?_|refine jQ (cc.out) ?_ ?_ ?_);(iterate 2 focus (simp [*,encU,encR,encV,Un.i] <;> fail));simp [*,encU,encR,encV,Un.i])|((first|refine jC (so.out) ?_ ?_ ?_|refine jQ (so.out) ?_ ?_ ?_);(iterate 2 focus (simp [*,encU,encR,encV,Un.i] <;> fail));simp [*,encU,encR,encV,Un.i])|with_reducible refine And.intro ?_ ?_|omega|(refine imp1 fun h=>?_))
theorem srtC_of {l : List Un} (hO : ∀ u ∈ l,OkU u) (h : l.Pairwise (fun a b=>a.f < b.f)) : SrtC l:=fun i j hij hj =>
 s_cmpU (hO _ (List.getElem_mem hj)) (hO _ (List.getElem_mem (by omega))) (List.pairwise_iff_getElem.1 h i j (by omega) hj hij)
theorem s_sorted {l : List Un} (hl : l.length ≤ 100000) (hO : ∀ u ∈ l,OkU u) (h : l.Pairwise (fun a b=>a.f < b.f)) : PSpec Tryz.prog 172 [.sl 36 (l.map encU)] (.sl 36 (l.map encU)):=by
 have h1:=Hld.mk (s_cloneU l (by omega))
 have h2:=Hld.mk (s_sortS l hl (srtC_of hO h))
 clear hO h
 refine pS Tryz.func172 ?_
 intro E hE
 have k'1:=h1;have k'2:=h2;exact ga2
end Go.Proofs.YtfkgaphfdpflmaaGreatDoor
