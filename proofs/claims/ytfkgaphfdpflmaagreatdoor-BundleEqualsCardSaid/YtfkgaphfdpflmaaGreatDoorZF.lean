/- Layer 15: short fleets; layer 39: sizes -/
import Derived.Test.YtfkgaphfdpflmaaGreatDoorZ5
import Derived.Test.YtfkgaphfdpflmaaGreatDoorZC
import Derived.Test.YtfkgaphfdpflmaaGreatDoorZB
import Derived.Test.YtfkgaphfdpflmaaGreatDoorZ6
import Derived.Test.YtfkgaphfdpflmaaGreatDoorZE
set_option maxRecDepth 100000
set_option linter.unusedSimpArgs false
set_option linter.unusedVariables false
namespace Go.Proofs.YtfkgaphfdpflmaaGreatDoor
open Go.Am
def shtF (f : Flt) : Bool:=f.cars.all (fun c=>decide (c.st.length ≤ 6)) && (decide (f.cars.length ≤ 4) && decide (f.areas.length ≤ 2))
theorem s_Short (f : Flt) (hl : f.cars.length ≤ 9223372036854775807) : PSpec Tryz.prog 47 [encW f] (bA (shtF f)):=by
 obtain ⟨r,hr⟩ : ∃ r,shtF f = r:=⟨_,rfl⟩
 have hbad : Hld (∀ i (h : i < f.cars.length),6 < f.cars[i].st.length → r = false):=⟨fun i h h6=>by
  rw [← hr]
  unfold shtF
  have : f.cars.all (fun c=>decide (c.st.length ≤ 6)) = false:=by
   rw [List.all_eq_false]
   exact ⟨f.cars[i],List.getElem_mem h,by simp;omega⟩
  rw [this];rfl⟩
 have hgood : Hld ((∀ i (h : i < f.cars.length),f.cars[i].st.length ≤ 6) → r = (decide (f.cars.length ≤ 4) && decide (f.areas.length ≤ 2))):=⟨fun h=>by
  rw [← hr]
  unfold shtF
  have : f.cars.all (fun c=>decide (c.st.length ≤ 6)) = true:=by
   rw [List.all_eq_true]
   intro c hc
   obtain ⟨i,hi,rfl⟩:=List.mem_iff_getElem.1 hc
   exact decide_eq_true (h i hi)
  rw [this];rfl⟩
 rw [hr]
 clear hr
 refine pS Tryz.func47 ?_
 intro E hE
 refine sq ⟨[(1,.loc 1 0)],[(1,.box 25 (encW f))]⟩ ?_
 refine AW_freeze 1 (cb:=.box 25 (encW f)) (t:=⟨[(1,.ep (encW f))],[]⟩) (by simp) (by simp) (by simp) ?_
 refine AW_seqE (G:=Unit) (fun _=>⟨[(1,.ep (encW f))],[]⟩) (fun _=>∀ i (h : i < f.cars.length),f.cars[i].st.length ≤ 6) ?_ ?_
 ·intro _ hall
  have hr:=hgood.out hall
  clear hall
  by_cases h4 : f.cars.length ≤ 4
  ·have h4I : (f.cars.length : Int) ≤ 4:=by omega
   by_cases h2 : f.areas.length ≤ 2
   ·have h2I : (f.areas.length : Int) ≤ 2:=by omega
    simp only [h4,h2,decide_true,Bool.and_self] at hr
    have z'1:=@encW.eq_1;exact ga0
   ·have h2I : ¬ (f.areas.length : Int) ≤ 2:=by omega
    simp only [h4,h2,decide_true,decide_false,Bool.and_false] at hr
    have z'1:=@encW.eq_1;exact ga0
  ·have h4I : ¬ (f.cars.length : Int) ≤ 4:=by omega
   simp only [h4,decide_false,Bool.false_and] at hr
   have z'1:=@encW.eq_1;exact ga0
 ·intro K hK
  refine lpk (G:=Nat) (fun i=>⟨[(3,iA i),(1,.ep (encW f))],[]⟩) (fun i=>i ≤ f.cars.length ∧ Hld (∀ j (h : j < f.cars.length),j < i → f.cars[j].st.length ≤ 6)) (fun i=>f.cars.length - i) 0 ⟨Nat.zero_le _,⟨fun j h h0=>by omega⟩⟩ ?_
  rintro i ⟨hi,hh⟩ K hK
  by_cases hlt : i < f.cars.length
  ·have hltI : (i : Int) < f.cars.length:=by omega
   have hb:=hbad.out i hlt
   have hst:=hh.out
   obtain ⟨c,hc⟩ : ∃ c,f.cars[i] = c:=⟨_,rfl⟩
   rw [hc] at hb
   have hcg : ∀ h : i < f.cars.length,f.cars[i] = c:=fun _=>hc
   by_cases h6 : 6 < c.st.length
   ·have h6I : (6 : Int) < c.st.length:=by omega
    have hr:=hb h6
    clear hst hb
    replace hc:=()
    have z'1:=@encW.eq_1;have z'2:=@encC.eq_1;exact ga0
   ·have h6I : ¬ (6 : Int) < c.st.length:=by omega
    have hnx : Hld (∀ j (h : j < f.cars.length),j < i + 1 → f.cars[j].st.length ≤ 6):=⟨fun j h hj=>by
     by_cases e : j = i
     ·subst e;rw [hc];omega
     ·exact hst j h (by omega)⟩
    clear hst hb
    replace hc:=()
    repeat' (first
     |(with_reducible first|refine uK ?_|refine uX ?_|refine jq fun K hK=>?_|refine jb ?_)|((with_reducible first|refine rS hE ?_|refine jn ?_|refine js fun K' hK'=>?_|refine ji fun X Y hX hY=>?_|refine jr ?_|refine jk ?_|refine jx ?_);simp [*,encW,encC])|with_reducible refine rL hE ?_|with_reducible refine And.intro ?_ ?_|omega|(refine imp1 fun h=>?_))
    exact ⟨i + 1,⟨by omega,hnx⟩,by omega,by simp [encW]⟩
  ·have hall:=fun (j : Nat) (h : j < f.cars.length)=>hh.out j h (by omega)
   have hie : i = f.cars.length:=by omega
   subst hie
   repeat' (first
    |(with_reducible first|refine uK ?_|refine uX ?_|refine jq fun K hK=>?_|refine jb ?_)|((with_reducible first|refine rS hE ?_|refine jn ?_|refine js fun K' hK'=>?_|refine ji fun X Y hX hY=>?_|refine jr ?_|refine jk ?_|refine jx ?_);simp [*,encW])|with_reducible refine rL hE ?_|with_reducible refine And.intro ?_ ?_|omega|(refine imp1 fun h=>?_))
   all_goals exact ⟨(),hall,by simp [encW]⟩
theorem s_short (f : Flt) (hl : f.cars.length ≤ 9223372036854775807) : PSpec Tryz.prog 13 [encW f] (bA (shtF f)):=by
 have h:=Hld.mk (s_Short f hl)
 refine pS Tryz.func13 ?_
 intro E hE
 have k'1:=h;exact ga1
theorem s_size (n : Nat) (hn : n < 256) : PSpec Tryz.prog 16 [uA n] (iA (1 + n % 8 : Nat)):=by
 have h1 : IntKind.i64.wrap ((n : Int) % 8) = (n : Int) % 8:=wi (by omega) (by omega)
 have h2 : IntKind.i64.wrap ((n : Int).tmod 8) = (n : Int) % 8:=h1
 refine pS Tryz.func16 ?_
 intro E hE
 exact ga0
def LnP (A : Nat) (l : Ln) : Prop:=∃ d : Nat,∃ a b c e : Int,1 ≤ d ∧ d ≤ 8 ∧ l.x0 = (a : Rat) / (d : Rat) ∧ l.x1 = (b : Rat) / (d : Rat) ∧ l.y0 = (c : Rat) / (d : Rat) ∧ l.y1 = (e : Rat) / (d : Rat) ∧ a.natAbs ≤ A ∧ b.natAbs ≤ 64 ∧ c.natAbs ≤ A ∧ e.natAbs ≤ 64
def InT (t : Rat) : Prop:=∃ n : Nat,t = (n : Rat) ∧ n ≤ 64
structure SmU (A : Nat) (u : Un) : Prop where
 f : InT u.f
 t : InT u.t
 l : LnP A u.l
theorem natAbs_mul_le {a b : Int} {m n : Nat} (h : a.natAbs ≤ m) (k : b.natAbs ≤ n) : (a * b).natAbs ≤ m * n:=by
 rw [Int.natAbs_mul];exact Nat.mul_le_mul h k
theorem nat_ne {k : Nat} (h : 1 ≤ k) : (k : Rat) ≠ 0:=by
 intro e
 have : ((k : Nat) : Rat) = ((0 : Nat) : Rat):=e
 have:=Rat.natCast_inj.1 this
 omega
theorem InT.bd {t : Rat} (h : InT t) : Bd 64 1 t:=by
 obtain ⟨n,rfl,hn⟩:=h
 have : Bd 64 1 ((n : Int) : Rat):=Bd.int (by omega)
 rwa [Rat.intCast_natCast] at this
theorem quo_bd {A d : Nat} {a : Int} (h1 : 1 ≤ d) (h8 : d ≤ 8) (ha : a.natAbs ≤ A) : Bd A 8 ((a : Rat) / (d : Rat)):=by
 have hd : Bd 8 1 ((d : Nat) : Rat):=by
  have : Bd 8 1 ((d : Int) : Rat):=Bd.int (by omega)
  rwa [Rat.intCast_natCast] at this
 have:=(Bd.int ha).div hd (by decide)
 exact this.mono (by omega) (by omega)
theorem LnP.okL {A : Nat} {l : Ln} (h : LnP A l) (hA : A ≤ 20000) : Bd 20000 8 l.x0 ∧ Bd 64 8 l.x1 ∧ Bd 20000 8 l.y0 ∧ Bd 64 8 l.y1:=by
 obtain ⟨d,a,b,c,e,h1,h8,ex0,ex1,ey0,ey1,ha,hb,hc,he⟩:=h
 rw [ex0,ex1,ey0,ey1]
 exact ⟨(quo_bd h1 h8 ha).mono hA (by omega),quo_bd h1 h8 hb,(quo_bd h1 h8 hc).mono hA (by omega),quo_bd h1 h8 he⟩
theorem SmU.okU {A : Nat} {u : Un} (h : SmU A u) (hA : A ≤ 20000) : OkU u:=by
 obtain ⟨a,b,c,d⟩:=h.l.okL hA
 exact ⟨⟨h.f.bd.mono (by omega) (by omega)⟩,⟨h.t.bd.mono (by omega) (by omega)⟩,⟨a.mono (by omega) (by omega),b.mono (by omega) (by omega),c.mono (by omega) (by omega),d.mono (by omega) (by omega)⟩⟩
theorem flr_bd {n d : Nat} {q : Rat} (h : Bd n d q) : -(n : Int) ≤ flr q ∧ flr q ≤ n:=by
 have hp : 0 < (q.den : Int):=by have:=q.den_pos;omega
 have h1 : (1 : Int) ≤ q.den:=hp
 have h2:=h.num
 unfold flr
 constructor
 ·rw [Int.le_ediv_iff_mul_le hp]
  have : (n : Int) * 1 ≤ n * q.den:=Int.mul_le_mul_of_nonneg_left h1 (by omega)
  have : -(n : Int) * q.den = -(n * q.den):=by rw [Int.neg_mul]
  omega
 ·refine Int.le_trans (Int.ediv_le_ediv hp (b:=(n : Int) * q.den) ?_) (by rw [Int.mul_ediv_cancel _ (by omega)];exact Int.le_refl _)
  have : (n : Int) * 1 ≤ n * q.den:=Int.mul_le_mul_of_nonneg_left h1 (by omega)
  omega
theorem cei_bd {n d : Nat} {q : Rat} (h : Bd n d q) : -(n : Int) ≤ cei q ∧ cei q ≤ n:=by
 obtain ⟨a,b⟩:=flr_bd h.neg
 unfold cei
 show -(n : Int) ≤ -(flr (-q)) ∧ -(flr (-q)) ≤ n
 omega
theorem okA_bd {n d : Nat} {a b : Rat} (ha : Bd n d a) (hb : Bd n d b) (hn : n ≤ 1000000000) : okA (axI a b):=by
 have hl : Bd n d (loQ a b):=by unfold loQ;split <;> assumption
 have hh : Bd n d (hiQ a b):=by unfold hiQ;split <;> assumption
 have h1:=flr_bd hl
 have h2:=cei_bd hh
 constructor
 ·show ¬ flr (loQ a b) < _
  omega
 ·show ¬ _ < cei (hiQ a b)
  omega
theorem ev_bd {a b t : Rat} (ha : Bd 20000 8 a) (hb : Bd 64 8 b) (ht : InT t) : Bd 1000000 64 (ev a b t):=(ha.add (ht.bd.mul hb)).mono (by omega) (by omega)
theorem SmU.bokU {A : Nat} {u : Un} (h : SmU A u) (hA : A ≤ 20000) : bokU u:=by
 obtain ⟨a,b,c,d⟩:=h.l.okL hA
 exact ⟨okA_bd (ev_bd a b h.f) (ev_bd a b h.t) (by omega),okA_bd (ev_bd c d h.f) (ev_bd c d h.t) (by omega),okA_bd h.f.bd h.t.bd (by omega)⟩
theorem cmb {a b : Int} {n d : Nat} : (a : Rat) / (d : Rat) + (n : Rat) * ((b : Rat) / (d : Rat)) = ((a + n * b : Int) : Rat) / (d : Rat):=by
 rw [Rat.intCast_add,Rat.intCast_mul,Rat.intCast_natCast]
 grind
theorem LnP.rd {A : Nat} {l : Ln} {t : Rat} (h : LnP A l) (ht : InT t) : LnP (A + 4096) (rdL l t):=by
 obtain ⟨d,a,b,c,e,h1,h8,ex0,ex1,ey0,ey1,ha,hb,hc,he⟩:=h
 obtain ⟨n,rfl,hn⟩:=ht
 have t1:=natAbs_mul_le (a:=(n : Int)) (m:=64) (by omega) hb
 have t2:=natAbs_mul_le (a:=(n : Int)) (m:=64) (by omega) he
 refine ⟨d,a + n * b,0,c + n * e,0,h1,h8,?_,?_,?_,?_,by omega,by omega,by omega,by omega⟩
 ·show ev l.x0 l.x1 _ = _
  rw [ex0,ex1];exact cmb
 ·show (0 : Rat) = _
  grind
 ·show ev l.y0 l.y1 _ = _
  rw [ey0,ey1];exact cmb
 ·show (0 : Rat) = _
  grind
theorem LnP.mono {A B : Nat} {l : Ln} (h : LnP A l) (hAB : A ≤ B) : LnP B l:=by
 obtain ⟨d,a,b,c,e,h1,h8,ex0,ex1,ey0,ey1,ha,hb,hc,he⟩:=h
 exact ⟨d,a,b,c,e,h1,h8,ex0,ex1,ey0,ey1,by omega,hb,by omega,he⟩
theorem SmU.mono {A B : Nat} {u : Un} (h : SmU A u) (hAB : A ≤ B) : SmU B u:=⟨h.f,h.t,h.l.mono hAB⟩
theorem stpX_mem' {A M : List Un} {x : Un} {i : Nat} {P : Un → Prop} (hM : ∀ b ∈ M,P b) (h1 : ∀ b ∈ M,P (lngU b x.t)) (h2 : ∀ b ∈ M,P (clsU b)) (h3 : P x) (h4 : P (opnU x)) (h5 : x.f = x.t → P (setL x (rdL x.l x.f))) : ∀ b ∈ stpX A M x i,P b:=by
 have hbf : ∀ t b,befU M t = some b → b ∈ M:=by
  intro t b h
  unfold befU at h
  split at h
  ·rename_i b' hb'
   split at h
   ·rename_i hc;cases h;exact List.mem_of_getLast? hb'
   ·cases h
  ·cases h
 have hd : ∀ b ∈ M.dropLast,P b:=fun b hb=>hM b (List.dropLast_subset M hb)
 have ap : ∀ {L : List Un} {y : Un},(∀ b ∈ L,P b) → P y → ∀ b ∈ L ++ [y],P b:=by
  intro L y hL hy b hb
  rcases List.mem_append.1 hb with hb|hb
  ·exact hL b hb
  ·rw [List.mem_singleton.1 hb];exact hy
 have hxo : P (if lefU A M x.f i then opnU x else x):=by split <;> assumption
 unfold stpX
 split
 ·rename_i hf
  split
  ·rename_i b hb
   split
   ·exact ap hd (h2 b (hbf _ _ hb))
   ·split
    ·exact hM
    ·exact ap hM (h5 hf)
  ·split
   ·exact hM
   ·exact ap hM (h5 hf)
 ·split
  ·rename_i b hb
   split
   ·exact ap hd (h1 b (hbf _ _ hb))
   ·exact ap hM hxo
  ·exact ap hM hxo
theorem nrF_sm {A : Nat} {L : List Un} (hL : ∀ u ∈ L,SmU A u) : ∀ i,i ≤ L.length → ∀ b ∈ nrF L i,SmU (A + 4096) b
 |0,_=>by simp [nrF_zero]
 |i + 1,h=>by
  rw [nrF_succ L i h]
  have ih:=nrF_sm hL i (by omega)
  have hx:=hL L[i] (List.getElem_mem h)
  have hx2:=hx.mono (Nat.le_add_right A 4096)
  exact stpX_mem' ih (fun b hb=>⟨(ih b hb).f,hx.t,(ih b hb).l⟩) (fun b hb=>⟨(ih b hb).f,(ih b hb).t,(ih b hb).l⟩) hx2 ⟨hx2.f,hx2.t,hx2.l⟩ (fun _=>⟨hx.f,hx.t,hx.l.rd hx.f⟩)
theorem atmU_sm {A : Nat} {u : Un} (h : SmU A u) : ∀ x ∈ atmU u,SmU A x:=by
 have h1 : SmU A (ptU u.f u.l):=⟨h.f,h.f,h.l⟩
 have h2 : SmU A (ptU u.t u.l):=⟨h.t,h.t,h.l⟩
 have h3 : SmU A (opU u):=⟨h.f,h.t,h.l⟩
 unfold atmU
 intro x hx
 repeat' split at hx
 all_goals simp at hx
 all_goals (try rcases hx with hx|hx|hx)
 all_goals (try rcases hx with hx|hx)
 all_goals first|(subst hx;assumption)|assumption
theorem nrmA_sm {A : Nat} {l : List Un} (h : ∀ u ∈ l,SmU A u) : ∀ x ∈ nrmA (atms l),SmU (A + 4096) x:=by
 refine nrF_sm (fun x hx=>?_) _ (Nat.le_refl _)
 obtain ⟨u,hu,hx⟩:=List.mem_flatMap.1 hx
 exact atmU_sm (h u hu) x hx
structure TS where
 (out : List Un)
 (t x y : Nat)
 (al : Bool)
def nxS (s : TS) (e : Stp) : Sm:=⟨((s.t + (1 + e.t % 8) : Nat) : Rat),((e.x % 64 : Nat) : Rat),((e.y % 64 : Nat) : Rat)⟩
def frS (s : TS) (e : Stp) : Sm:=if e.k % 8 = 1 then ⟨((s.t : Nat) : Rat),((e.y % 64 : Nat) : Rat),((e.x % 64 : Nat) : Rat)⟩ else ⟨((s.t : Nat) : Rat),((s.x : Nat) : Rat),((s.y : Nat) : Rat)⟩
def segT (s : TS) (e : Stp) : Un:=sgU (decide (0 < s.out.length) && !s.al) (frS s e) (nxS s e)
def stpT (s : TS) (e : Stp) : TS:=⟨if e.k % 8 = 0 then s.out else s.out ++ [segT s e],s.t + (1 + e.t % 8),e.x % 64,e.y % 64,decide (e.k % 8 = 0)⟩
def iniT (c : Car) : TS:=⟨[],c.t % 16,c.x % 64,c.y % 64,true⟩
def runT (c : Car) (i : Nat) : TS:=(c.st.take i).foldl stpT (iniT c)
def endU (s : TS) : Un:=⟨((s.t : Nat) : Rat),((s.t : Nat) : Rat),false,false,((s.x : Nat) : Rat),0,((s.y : Nat) : Rat),0⟩
def endT (s : TS) : List Un:=if s.al then s.out ++ [endU s] else s.out
def trjL (c : Car) : List Un:=endT (runT c c.st.length)
def trjU (c : Car) : List Un:=nrmA (atms (trjL c))
theorem runT_succ (c : Car) (i : Nat) (h : i < c.st.length) : runT c (i + 1) = stpT (runT c i) c.st[i]:=by
 unfold runT
 rw [List.take_succ_eq_append_getElem h,List.foldl_append]
 rfl
structure TOK (s : TS) (i : Nat) : Prop where
 t : s.t ≤ 15 + 8 * i
 x : s.x < 64
 y : s.y < 64
 len : s.out.length ≤ i
 sm : ∀ u ∈ s.out,SmU 4600 u
 inc : s.out.Pairwise (fun a b=>a.f < b.f)
 apt : ∀ k (h : k + 1 < s.out.length),aptU s.out[k].i s.out[k + 1].i = true
 before : ∀ u ∈ s.out,u.f < ((s.t : Nat) : Rat)
 last : ∀ u ∈ s.out,((s.t : Nat) : Rat) < u.t → False
 gap : s.al = true → ∀ u ∈ s.out,u.t < ((s.t : Nat) : Rat)
theorem thr_sm {t k a b c d : Nat} (ht : t ≤ 63) (hk : 1 ≤ k) (hk8 : k ≤ 8) (ha : a < 64) (hb : b < 64) (hc : c < 64) (hd : d < 64) : LnP 4600 (thr ⟨((t : Nat) : Rat),((a : Nat) : Rat),((b : Nat) : Rat)⟩ ⟨((t + k : Nat) : Rat),((c : Nat) : Rat),((d : Nat) : Rat)⟩):=by
 have e1 : (((t + k : Nat) : Rat) - ((t : Nat) : Rat)) = ((k : Nat) : Rat):=by rw [Rat.natCast_add];grind
 have hk0:=nat_ne hk
 have m1:=natAbs_mul_le (a:=(c : Int) - a) (b:=(t : Int)) (m:=63) (n:=63) (by omega) (by omega)
 have m2:=natAbs_mul_le (a:=(d : Int) - b) (b:=(t : Int)) (m:=63) (n:=63) (by omega) (by omega)
 have m3:=natAbs_mul_le (a:=(a : Int)) (b:=(k : Int)) (m:=63) (n:=8) (by omega) (by omega)
 have m4:=natAbs_mul_le (a:=(b : Int)) (b:=(k : Int)) (m:=63) (n:=8) (by omega) (by omega)
 refine ⟨k,a * k - ((c : Int) - a) * t,(c : Int) - a,b * k - ((d : Int) - b) * t,(d : Int) - b,hk,hk8,?_,?_,?_,?_,by omega,by omega,by omega,by omega⟩
 all_goals simp only [thr]
 all_goals rw [e1]
 all_goals simp only [Rat.intCast_sub,Rat.intCast_mul,Rat.intCast_natCast]
 all_goals grind
theorem rlt_t {a b c : Rat} (h : a < b) (k : b < c) : a < c:=by grind
theorem rle_lt {a b c : Rat} (h : a ≤ b) (k : b < c) : a < c:=by grind
theorem pw_app {l : List Un} {u : Un} (h : l.Pairwise (fun a b=>a.f < b.f)) (k : ∀ a ∈ l,a.f < u.f) : (l ++ [u]).Pairwise (fun a b=>a.f < b.f):=by
 rw [List.pairwise_append]
 exact ⟨h,by simp,fun a ha b hb=>by rw [List.mem_singleton.1 hb];exact k a ha⟩
theorem apt_app {l : List Un} {u : Un} (h : ∀ k (h : k + 1 < l.length),aptU l[k].i l[k + 1].i = true) (k : ∀ a ∈ l,aptU a.i u.i = true) : ∀ k (h : k + 1 < (l ++ [u]).length),aptU (l ++ [u])[k].i (l ++ [u])[k + 1].i = true:=by
 intro j hj
 have hj1 : j < l.length:=by simp at hj;omega
 by_cases e : j + 1 < l.length
 ·rw [List.getElem_append_left hj1,List.getElem_append_left e];exact h j e
 ·have : j + 1 = l.length:=by omega
  have e2 : (l ++ [u])[j + 1] = u:=by rw [List.getElem_append_right (by omega)];simp [this]
  rw [List.getElem_append_left hj1,e2]
  exact k _ (List.getElem_mem hj1)
theorem nat_lt {a b : Nat} (h : a < b) : ((a : Nat) : Rat) < ((b : Nat) : Rat):=Rat.natCast_lt_natCast.2 h
theorem frS_t (s : TS) (e : Stp) : (frS s e).t = ((s.t : Nat) : Rat):=by unfold frS;split <;> rfl
theorem segT_f (s : TS) (e : Stp) : (segT s e).f = ((s.t : Nat) : Rat):=frS_t s e
theorem segT_t (s : TS) (e : Stp) : (segT s e).t = ((s.t + (1 + e.t % 8) : Nat) : Rat):=rfl
theorem segT_sm {s : TS} {i : Nat} (h : TOK s i) (hi : i < 6) (e : Stp) : SmU 4600 (segT s e):=by
 have ht:=h.t
 refine ⟨⟨s.t,segT_f s e,by omega⟩,⟨s.t + (1 + e.t % 8),rfl,by omega⟩,?_⟩
 show LnP 4600 (thr (frS s e) (nxS s e))
 unfold frS nxS
 split
 ·exact thr_sm (by omega) (by omega) (by omega) (by omega) (by omega) (by omega) (by omega)
 ·exact thr_sm (by omega) (by omega) (by omega) h.x h.y (by omega) (by omega)
theorem TOK.step {s : TS} {i : Nat} (h : TOK s i) (hi : i < 6) (e : Stp) : TOK (stpT s e) (i + 1):=by
 have hlt : ((s.t : Nat) : Rat) < ((s.t + (1 + e.t % 8) : Nat) : Rat):=nat_lt (by omega)
 have hb : ∀ u ∈ s.out,u.f < ((s.t + (1 + e.t % 8) : Nat) : Rat):=fun u hu=>rlt_t (h.before u hu) hlt
 have hnl : ∀ u ∈ s.out,u.t < ((s.t + (1 + e.t % 8) : Nat) : Rat):=fun u hu=>rle_lt (Rat.not_lt.1 (h.last u hu)) hlt
 have hl:=h.len
 have ht:=h.t
 unfold stpT
 by_cases hk : e.k % 8 = 0
 ·simp only [hk,if_true,decide_true]
  exact ⟨by simp;omega,Nat.mod_lt _ (by decide),Nat.mod_lt _ (by decide),by simp;omega,h.sm,h.inc,h.apt,hb,fun u hu hc=>Rat.lt_irrefl (rlt_t hc (hnl u hu)),fun _=>hnl⟩
 ·simp only [hk,if_false,decide_false]
  refine ⟨by simp;omega,Nat.mod_lt _ (by decide),Nat.mod_lt _ (by decide),by simp;omega,?_,?_,?_,?_,?_,fun h=>by cases h⟩
  ·intro u hu
   rcases List.mem_append.1 hu with hu|hu
   ·exact h.sm u hu
   ·rw [List.mem_singleton.1 hu];exact segT_sm h hi e
  ·exact pw_app h.inc (fun a ha=>by rw [segT_f];exact h.before a ha)
  ·refine apt_app h.apt (fun a ha=>?_)
   have h1:=h.last a ha
   have h3 : (segT s e).i.f = ((s.t : Nat) : Rat):=segT_f s e
   have h4 : (segT s e).i.fo = (decide (0 < s.out.length) && !s.al):=rfl
   have h5 : a.i.t = a.t:=rfl
   have h6 : 0 < s.out.length:=List.length_pos_of_mem ha
   unfold aptU
   rw [h3,h4,h5]
   rcases hal : s.al with _|_
   ·simp only [h6,decide_true,Bool.not_false,Bool.and_self,Bool.or_true,Bool.and_true]
    by_cases c : a.t < ((s.t : Nat) : Rat)
    ·simp [c]
    ·simp [Rat.le_antisymm (Rat.not_lt.1 h1) (Rat.not_lt.1 c)]
   ·simp [h.gap hal a ha]
  ·intro u hu
   rcases List.mem_append.1 hu with hu|hu
   ·exact hb u hu
   ·rw [List.mem_singleton.1 hu,segT_f];exact hlt
  ·intro u hu hc
   rcases List.mem_append.1 hu with hu|hu
   ·exact Rat.lt_irrefl (rlt_t hc (hnl u hu))
   ·rw [List.mem_singleton.1 hu,segT_t] at hc;exact Rat.lt_irrefl hc
theorem iniT_ok (c : Car) : TOK (iniT c) 0:=⟨by simp [iniT];omega,Nat.mod_lt _ (by decide),Nat.mod_lt _ (by decide),by simp [iniT],by simp [iniT],by simp [iniT],by simp [iniT],by simp [iniT],by simp [iniT],by simp [iniT]⟩
theorem runT_ok {c : Car} (h6 : c.st.length ≤ 6) : ∀ i,i ≤ c.st.length → TOK (runT c i) i
 |0,_=>iniT_ok c
 |i + 1,h=>by
  rw [runT_succ c i (by omega)]
  exact (runT_ok h6 i (by omega)).step (by omega) _
theorem endU_sm {s : TS} {i : Nat} (h : TOK s i) (hi : i ≤ 6) : SmU 4600 (endU s):=by
 have ht:=h.t
 have hx:=h.x
 have hy:=h.y
 refine ⟨⟨s.t,rfl,by omega⟩,⟨s.t,rfl,by omega⟩,⟨1,s.x,0,s.y,0,by omega,by omega,?_,?_,?_,?_,by omega,by omega,by omega,by omega⟩⟩
 ·show ((s.x : Nat) : Rat) = _
  rw [Rat.intCast_natCast];grind
 ·show (0 : Rat) = _
  grind
 ·show ((s.y : Nat) : Rat) = _
  rw [Rat.intCast_natCast];grind
 ·show (0 : Rat) = _
  grind
structure LOK (l : List Un) : Prop where
 len : l.length ≤ 7
 sm : ∀ u ∈ l,SmU 4600 u
 inc : l.Pairwise (fun a b=>a.f < b.f)
 apt : ∀ k (h : k + 1 < l.length),aptU l[k].i l[k + 1].i = true
theorem endT_ok {s : TS} {i : Nat} (h : TOK s i) (hi : i ≤ 6) : LOK (endT s):=by
 have hl:=h.len
 unfold endT
 split
 ·rename_i hal
  refine ⟨by simp;omega,?_,?_,?_⟩
  ·intro u hu
   rcases List.mem_append.1 hu with hu|hu
   ·exact h.sm u hu
   ·rw [List.mem_singleton.1 hu];exact endU_sm h hi
  ·exact pw_app h.inc (fun a ha=>h.before a ha)
  ·refine apt_app h.apt (fun a ha=>?_)
   have:=h.gap hal a ha
   unfold aptU
   show (decide (a.t < ((s.t : Nat) : Rat)) || _) = true
   simp [this]
 ·exact ⟨by omega,h.sm,h.inc,h.apt⟩
theorem trjL_ok {c : Car} (h6 : c.st.length ≤ 6) : LOK (trjL c):=endT_ok (runT_ok h6 _ (Nat.le_refl _)) h6
theorem trjU_sm {c : Car} (h6 : c.st.length ≤ 6) : ∀ u ∈ trjU c,SmU 9000 u:=fun u hu=>(nrmA_sm (trjL_ok h6).sm u hu).mono (by omega)
theorem trjU_len {c : Car} (h6 : c.st.length ≤ 6) : (trjU c).length ≤ 21:=by
 have h1:=nrF_len (atms (trjL c)) _ (Nat.le_refl _)
 have h2:=atms_len (trjL c)
 have h3:=(trjL_ok h6).len
 show (nrF _ _).length ≤ 21
 omega
abbrev rwP (l : List Un) : Ct:=.arr 111 36 (l.map encU)
abbrev zV' : AV:=.st [bA false,eA,bA false,eA,bA false,eA,bA false,eA,bA false,bA false,eA,bA false,eA,bA false,eA,bA false,eA,bA false,bA false,bA false]
noncomputable def cTrj : Code:=nav [1,1,1,1,0,1,0,0,1,0] (Tryz.f96.body.getD .skip)
set_option maxHeartbeats 8000000 in
theorem trj_step {E : Env} (hE : E.n = Tryz.f96.ntmps) {c : Car} {i t a b d k : Nat} {al : Bool} {s0 nx sw fr : Sm} {L : Ln} {M M2 : List Un} (hi : i < c.st.length) (he : c.st[i] = ⟨a,b,d,k⟩) (ht : t ≤ 100) (ha : a < 256) (hb : b < 256) (hd : d < 256) (hk : k < 256) (hMl : M.length ≤ 100)
 (hTi : PSpec Tryz.prog 85 [.st [bA (decide (s0.t.num < 0)),mgA s0.t.num.natAbs]] (.tup [iA t,bA true]))
 (hNx : PSpec Tryz.prog 141 [iA ((t : Int) + 1 + (a : Int) % 8),iA ((b : Int) % 64),iA ((d : Int) % 64)] (encS nx))
 (hSw : PSpec Tryz.prog 141 [iA 0,iA ((d : Int) % 64),iA ((b : Int) % 64)] (encS sw))
 (hfr : fr = if k % 8 = 1 then ⟨s0.t,sw.x,sw.y⟩ else s0)
 (hTh : k % 8 ≠ 0 → PSpec Tryz.prog 142 [encS fr,encS nx] (encL L))
 (hM2 : M2 = if k % 8 = 0 then M else M ++ [⟨fr.t,nx.t,decide (0 < M.length) && !al,false,L.x0,L.x1,L.y0,L.y1⟩])
 {Q : AExit → AState → Prop} (h : ∀ s' : AState,s'.le ⟨[(6,iA i),(5,bA (decide (k % 8 = 0))),(4,.loc 4 0),(3,.own 800 36 0 M2.length),(1,.ep (encC c))],[(4,.box 169 (encS nx)),(800,rwP M2)]⟩ → Q .normal s') :
 AW Tryz.prog E cTrj ⟨[(6,iA i),(5,bA al),(4,.loc 4 0),(3,.own 800 36 0 M.length),(1,.ep (encC c))],[(4,.box 169 (encS s0)),(800,rwP M)]⟩ Q:=by
 have hiI : (i : Int) < c.st.length:=by omega
 have heg : ∀ h : i < c.st.length,c.st[i] = ⟨a,b,d,k⟩:=fun _=>he
 have wa : IntKind.i64.wrap ((a : Int) % 8) = (a : Int) % 8:=wi (by omega) (by omega)
 have wa2 : IntKind.i64.wrap ((a : Int).tmod 8) = (a : Int) % 8:=wa
 have wb : IntKind.i64.wrap ((b : Int) % 64) = (b : Int) % 64:=wi (by omega) (by omega)
 have wb2 : IntKind.i64.wrap ((b : Int).tmod 64) = (b : Int) % 64:=wb
 have wd : IntKind.i64.wrap ((d : Int) % 64) = (d : Int) % 64:=wi (by omega) (by omega)
 have wd2 : IntKind.i64.wrap ((d : Int).tmod 64) = (d : Int) % 64:=wd
 replace hTi:=Hld.mk hTi
 replace hNx:=Hld.mk hNx
 replace hSw:=Hld.mk hSw
 replace hTh:=Hld.mk hTh
 replace hfr:=Hld.mk hfr
 replace hM2:=Hld.mk hM2
 have hK:=Kont.mk h
 clear h he
 refine AW_block ?_
 refine AW_seqt ⟨[(7,.loc 7 0),(6,iA i),(5,bA al),(4,.loc 4 0),(3,.own 800 36 0 M.length),(1,.ep (encC c))],[(7,.box 229 (encK ⟨a,b,d,k⟩)),(4,.box 169 (encS s0)),(800,rwP M)]⟩ ?_ (by
  intro K hK
  have z'1:=@encC.eq_1;have z'2:=@encK.eq_1;exact ga0)
 refine AW_freeze 7 (cb:=.box 229 (encK ⟨a,b,d,k⟩)) (t:=⟨[(7,.ep (encK ⟨a,b,d,k⟩)),(6,iA i),(5,bA al),(4,.loc 4 0),(3,.own 800 36 0 M.length),(1,.ep (encC c))],[(4,.box 169 (encS s0)),(800,rwP M)]⟩) (by simp) (by simp) (by simp) ?_
 refine AW_seqt ⟨[(8,iA t),(7,.ep (encK ⟨a,b,d,k⟩)),(6,iA i),(5,bA al),(4,.loc 4 0),(3,.own 800 36 0 M.length),(1,.ep (encC c))],[(4,.box 169 (encS s0)),(800,rwP M)]⟩ ?_ (by
  intro K hK
  have k'1:=hTi;have z'1:=@encS.eq_1;exact ga1)
 refine AW_seqt ⟨[(10,.loc 10 0),(7,.ep (encK ⟨a,b,d,k⟩)),(6,iA i),(5,bA al),(4,.loc 4 0),(3,.own 800 36 0 M.length),(1,.ep (encC c))],[(10,.box 169 (encS nx)),(4,.box 169 (encS s0)),(800,rwP M)]⟩ ?_ (by
  intro K hK
  have k'1:=hNx;have z'1:=@encK.eq_1;exact ga1)
 refine AW_freeze 10 (cb:=.box 169 (encS nx)) (t:=⟨[(10,.ep (encS nx)),(7,.ep (encK ⟨a,b,d,k⟩)),(6,iA i),(5,bA al),(4,.loc 4 0),(3,.own 800 36 0 M.length),(1,.ep (encC c))],[(4,.box 169 (encS s0)),(800,rwP M)]⟩) (by simp) (by simp) (by simp) ?_
 refine sq ⟨[(11,.loc 11 0),(10,.ep (encS nx)),(7,.ep (encK ⟨a,b,d,k⟩)),(6,iA i),(5,bA al),(4,.loc 4 0),(3,.own 800 36 0 M.length),(1,.ep (encC c))],[(11,.box 169 (encS s0)),(4,.box 169 (encS s0)),(800,rwP M)]⟩ ?_
 refine AW_seqt ⟨[(11,.loc 11 0),(10,.ep (encS nx)),(7,.ep (encK ⟨a,b,d,k⟩)),(6,iA i),(5,bA al),(4,.loc 4 0),(3,.own 800 36 0 M.length),(1,.ep (encC c))],[(11,.box 169 (encS fr)),(4,.box 169 (encS s0)),(800,rwP M)]⟩ ?_ (by
  intro K hK
  have:=hfr.out
  by_cases h1 : k % 8 = 1
  ·have h1I : (k : Int).tmod 8 = 1:=(show (k : Int) % 8 = 1 by omega)
   rw [if_pos h1] at this
   subst this
   clear hfr
   have k'1:=hSw;have z'1:=@encK.eq_1;have z'2:=@encS.eq_1;exact ga1
  ·have h1I : ¬ (k : Int).tmod 8 = 1:=(show ¬ (k : Int) % 8 = 1 by omega)
   rw [if_neg h1] at this
   subst this
   clear hfr
   have z'1:=@encK.eq_1;exact ga0)
 refine AW_freeze 11 (cb:=.box 169 (encS fr)) (t:=⟨[(11,.ep (encS fr)),(10,.ep (encS nx)),(7,.ep (encK ⟨a,b,d,k⟩)),(6,iA i),(5,bA al),(4,.loc 4 0),(3,.own 800 36 0 M.length),(1,.ep (encC c))],[(4,.box 169 (encS s0)),(800,rwP M)]⟩) (by simp) (by simp) (by simp) ?_
 clear hTi hNx hSw hfr wa wa2 wb wb2 wd wd2 hiI heg
 refine AW_seqt ⟨[(10,.ep (encS nx)),(7,.ep (encK ⟨a,b,d,k⟩)),(6,iA i),(5,bA al),(4,.loc 4 0),(3,.own 800 36 0 M2.length),(1,.ep (encC c))],[(4,.box 169 (encS s0)),(800,rwP M2)]⟩ ?_ (by
  intro K hK
  have e:=hM2.out
  by_cases h0 : k % 8 = 0
  ·have h0I : (k : Int).tmod 8 = 0:=(show (k : Int) % 8 = 0 by omega)
   rw [if_pos h0] at e
   subst e
   clear hM2 hTh
   have z'1:=@encK.eq_1;exact ga0
  ·have h0I : ¬ (k : Int).tmod 8 = 0:=(show ¬ (k : Int) % 8 = 0 by omega)
   rw [if_neg h0] at e
   have hth:=Hld.mk (hTh.out h0)
   have r1:=Hld.mk (s_fromRat fr.t)
   have r2:=Hld.mk (s_fromRat nx.t)
   obtain ⟨fo,hfo⟩ : ∃ fo,(decide (0 < M.length) && !al) = fo:=⟨_,rfl⟩
   rw [hfo] at e
   subst e
   clear hM2 hTh
   have hMt : (M.map encU).take M.length = M.map encU:=List.take_of_length_le (by simp)
   refine AW_seqt ⟨[(85,bA true),(11,.ep (encS fr)),(10,.ep (encS nx)),(7,.ep (encK ⟨a,b,d,k⟩)),(6,iA i),(5,bA al),(4,.loc 4 0),(3,.own 800 36 0 M.length),(1,.ep (encC c))],[(4,.box 169 (encS s0)),(800,rwP M)]⟩ ?_ (by
    intro K hK
    have z'1:=@encK.eq_1;exact ga0)
   refine AW_if fun X Y hX hY=>?_
   simp
   refine hX.h ?_
   clear hX hY
   refine AW_seqt ⟨[(12,.loc 12 0),(11,.ep (encS fr)),(10,.ep (encS nx)),(7,.ep (encK ⟨a,b,d,k⟩)),(6,iA i),(5,bA al),(4,.loc 4 0),(3,.own 800 36 0 M.length),(1,.ep (encC c))],[(12,.box 95 (encV ⟨fr.t,nx.t,fo,false⟩)),(4,.box 169 (encS s0)),(800,rwP M)]⟩ ?_ (by
    intro K hK
    by_cases hp : 0 < M.length
    ·have hpI : (0 : Int) < M.length:=by omega
     have hf : (!al) = fo:=by rw [← hfo];simp [hp]
     replace hfo:=()
     subst hf
     refine AW_drawFW (fun f=>⟨[(86,if f 0 then .ep (encQ fr.t) else .u),(87,if f 1 then encQ fr.t else .u),(88,if f 2 then encR fr.t else .u),(89,if f 3 then .ep (encQ nx.t) else .u),(90,if f 4 then encQ nx.t else .u),(91,if f 5 then encR nx.t else .u),(92,if f 6 then .own 800 36 0 M.length else .u),(93,if f 7 then iA M.length else .u),(94,if f 8 then bA true else .u),(95,if f 9 then bA true else .u),(96,if f 10 then bA al else .u),(97,if f 11 then bA (!al) else .u),(98,if f 12 then bA (!al) else .u),(99,if f 13 then encV ⟨fr.t,nx.t,!al,false⟩ else .u),(12,if f 14 then .loc 12 0 else .u),(11,.ep (encS fr)),(10,.ep (encS nx)),(7,.ep (encK ⟨a,b,d,k⟩)),(6,iA i),(5,bA al),(4,.loc 4 0),(3,.own 800 36 0 M.length),(1,.ep (encC c))],
      (if f 14 then [(12,.box 95 (if f 15 then encV ⟨fr.t,nx.t,!al,false⟩ else zV'))] else []) ++ [(4,.box 169 (encS s0)),(800,rwP M)]⟩) mixed (by rw [hE];decide) (by decide +kernel) (by simp) ?_ ?_
     ·intro f i o hi hdep hnot hcl K2 hK2
      have w15_14 : f 15 = true → f 14 = true:=gw
      clear hcl
      iterate 16 (rcases i with _|i;rotate_left)
      ·simp at hi
      all_goals (simp only [List.getElem?_cons_succ,List.getElem?_cons_zero,Option.some.injEq] at hi;subst hi)
      all_goals simp [Region.binds] at hdep
      all_goals (rcases a14 : f 14)
      all_goals try (exfalso;revert hdep hnot w15_14;simp [a14];done)
      all_goals (try simp [a14,hnot] at w15_14)
      all_goals (have k'1:=r1;have k'2:=r2;have z'1:=@gstep.eq_1;have z'2:=@encQ.eq_1;have z'3:=@encR.eq_1;have z'4:=@encS.eq_1;have z'5:=@encV.eq_1;exact gd2)
     ·intro f hf
      have e15:=hf 15 (by simp)
      have e14:=hf 14 (by simp)
      refine hK.h _ ?_
      simp [e15,e14,gstep,encQ,encR,encS,encV]
     all_goals simp
    ·have hpI : ¬ (0 : Int) < M.length:=by omega
     have hf : false = fo:=by rw [← hfo];simp [hp]
     replace hfo:=()
     subst hf
     refine AW_drawFW (fun f=>⟨[(86,if f 0 then .ep (encQ fr.t) else .u),(87,if f 1 then encQ fr.t else .u),(88,if f 2 then encR fr.t else .u),(89,if f 3 then .ep (encQ nx.t) else .u),(90,if f 4 then encQ nx.t else .u),(91,if f 5 then encR nx.t else .u),(92,if f 6 then .own 800 36 0 M.length else .u),(93,if f 7 then iA M.length else .u),(94,if f 8 then bA false else .u),(95,if f 9 then bA false else .u),(98,if f 12 then bA false else .u),(99,if f 13 then encV ⟨fr.t,nx.t,false,false⟩ else .u),(12,if f 14 then .loc 12 0 else .u),(11,.ep (encS fr)),(10,.ep (encS nx)),(7,.ep (encK ⟨a,b,d,k⟩)),(6,iA i),(5,bA al),(4,.loc 4 0),(3,.own 800 36 0 M.length),(1,.ep (encC c))],
      (if f 14 then [(12,.box 95 (if f 15 then encV ⟨fr.t,nx.t,false,false⟩ else zV'))] else []) ++ [(4,.box 169 (encS s0)),(800,rwP M)]⟩) mixed (by rw [hE];decide) (by decide +kernel) (by simp) ?_ ?_
     ·intro f i o hi hdep hnot hcl K2 hK2
      have w15_14 : f 15 = true → f 14 = true:=gw
      clear hcl
      iterate 16 (rcases i with _|i;rotate_left)
      ·simp at hi
      all_goals (simp only [List.getElem?_cons_succ,List.getElem?_cons_zero,Option.some.injEq] at hi;subst hi)
      all_goals simp [Region.binds] at hdep
      all_goals (rcases a14 : f 14)
      all_goals try (exfalso;revert hdep hnot w15_14;simp [a14];done)
      all_goals (try simp [a14,hnot] at w15_14)
      all_goals (have k'1:=r1;have k'2:=r2;have z'1:=@gstep.eq_1;have z'2:=@encQ.eq_1;have z'3:=@encR.eq_1;have z'4:=@encS.eq_1;have z'5:=@encV.eq_1;exact gd2)
     ·intro f hf
      have e15:=hf 15 (by simp)
      have e14:=hf 14 (by simp)
      refine hK.h _ ?_
      simp [e15,e14,gstep,encQ,encR,encS,encV]
     all_goals simp)
   refine AW_freeze 12 (cb:=.box 95 (encV ⟨fr.t,nx.t,fo,false⟩)) (t:=⟨[(12,.ep (encV ⟨fr.t,nx.t,fo,false⟩)),(11,.ep (encS fr)),(10,.ep (encS nx)),(7,.ep (encK ⟨a,b,d,k⟩)),(6,iA i),(5,bA al),(4,.loc 4 0),(3,.own 800 36 0 M.length),(1,.ep (encC c))],[(4,.box 169 (encS s0)),(800,rwP M)]⟩) (by simp) (by simp) (by simp) ?_
   replace hfo:=()
   refine AW_drawF (fun f=>⟨[(100,if f 0 && !f 7 then .own 800 36 0 M.length else .u),(101,if f 1 then encV ⟨fr.t,nx.t,fo,false⟩ else .u),(102,if f 2 then encS fr else .u),(103,if f 3 then encS nx else .u),(104,if f 4 then encL L else .u),(105,if f 5 then encU ⟨fr.t,nx.t,fo,false,L.x0,L.x1,L.y0,L.y1⟩ else .u),(106,if f 6 then .own 106 36 0 1 else .u),(107,if f 7 then .own 800 36 0 (M.length + 1) else .u),(12,.ep (encV ⟨fr.t,nx.t,fo,false⟩)),(11,.ep (encS fr)),(10,.ep (encS nx)),(7,.ep (encK ⟨a,b,d,k⟩)),(6,iA i),(5,bA al),(4,.loc 4 0),(3,if f 8 then .own 800 36 0 (M.length + 1) else if f 7 then .u else .own 800 36 0 M.length),(1,.ep (encC c))],
    (if f 6 then [(106,.arr 111 36 [encU ⟨fr.t,nx.t,fo,false,L.x0,L.x1,L.y0,L.y1⟩])] else []) ++ [(4,.box 169 (encS s0)),(800,.arr 111 36 (if f 7 then M.map encU ++ [encU ⟨fr.t,nx.t,fo,false,L.x0,L.x1,L.y0,L.y1⟩] else M.map encU))]⟩) mixed (by rw [hE];decide) (by decide +kernel) (by decide +kernel) (by simp) ?_ ?_
   ·intro f i o hi hdep hnot hcl K2 hK2
    have w7_6 : f 7 = true → f 6 = true:=gw
    have w7_0 : f 7 = true → f 0 = true:=gw
    have w8_7 : f 8 = true → f 7 = true:=gw
    clear hcl
    iterate 9 (rcases i with _|i;rotate_left)
    ·simp at hi
    all_goals (simp only [List.getElem?_cons_succ,List.getElem?_cons_zero,Option.some.injEq] at hi;subst hi)
    all_goals simp [Region.binds] at hdep
    all_goals (rcases a6 : f 6 <;> rcases a7 : f 7)
    all_goals try (exfalso;revert hdep hnot w7_6 w7_0 w8_7;simp [a6,a7];done)
    all_goals (try simp [a6,a7,hnot] at w7_6)
    all_goals (try simp [a6,a7,hnot] at w7_0)
    all_goals (try simp [a6,a7,hnot] at w8_7)
    all_goals (have k'1:=hth;have z'1:=@encU.eq_1;have z'2:=@encV.eq_1;have z'3:=@encL.eq_1;have z'4:=@mentL_append;exact gd1)
   ·intro f hf
    have e8:=hf 8 (by simp)
    have e6:=hf 6 (by simp)
    have e7:=hf 7 (by simp)
    refine hK.h _ ?_
    simp [e8,e6,e7,encU,encV,encL,mentL_append]
   all_goals simp)
 refine AW_seqt ⟨[(10,.ep (encS nx)),(6,iA i),(5,bA (decide (k % 8 = 0))),(4,.loc 4 0),(3,.own 800 36 0 M2.length),(1,.ep (encC c))],[(4,.box 169 (encS s0)),(800,rwP M2)]⟩ ?_ (by
  intro K hK
  have e : decide ((k : Int).tmod 8 = 0) = decide (k % 8 = 0):=decide_eq_decide.2 (show ((k : Int) % 8 = 0) ↔ _ by omega)
  have z'1:=@encK.eq_1;exact ga0)
 have z'1:=@encS.eq_1;exact ga0
structure StpB (e : Stp) : Prop where
 (t : e.t < 256) (x : e.x < 256) (y : e.y < 256) (k : e.k < 256)
structure CarB (c : Car) : Prop where
 (t : c.t < 256) (x : c.x < 256) (y : c.y < 256)
 (st : ∀ e ∈ c.st,StpB e)
 (n : c.st.length ≤ 6)
def smT (s : TS) : Sm:=⟨((s.t : Nat) : Rat),((s.x : Nat) : Rat),((s.y : Nat) : Rat)⟩
theorem s_sampleN (t x y : Nat) (ht : t < 1000) (hx : x < 1000) (hy : y < 1000) {a b c : Int} (ea : (t : Int) = a) (eb : (x : Int) = b) (ec : (y : Int) = c) : PSpec Tryz.prog 141 [iA a,iA b,iA c] (encS ⟨((t : Nat) : Rat),((x : Nat) : Rat),((y : Nat) : Rat)⟩):=by
 have h:=s_sample (t : Int) (x : Int) (y : Int) (by omega) (by omega) (by omega)
 rw [Rat.intCast_natCast,Rat.intCast_natCast,Rat.intCast_natCast] at h
 subst ea eb ec
 exact h
theorem nat_bd {n m : Nat} (h : n ≤ m) : Bd m 1 ((n : Nat) : Rat):=by
 have : Bd m 1 ((n : Int) : Rat):=Bd.int (by omega)
 rwa [Rat.intCast_natCast] at this
theorem trj_facts {s : TS} {i : Nat} (h : TOK s i) (hi : i < 6) {a b d k : Nat} :
 PSpec Tryz.prog 85 [.st [bA (decide ((smT s).t.num < 0)),mgA (smT s).t.num.natAbs]] (.tup [iA s.t,bA true]) ∧
 PSpec Tryz.prog 141 [iA ((s.t : Int) + 1 + (a : Int) % 8),iA ((b : Int) % 64),iA ((d : Int) % 64)] (encS (nxS s ⟨a,b,d,k⟩)) ∧
 PSpec Tryz.prog 141 [iA 0,iA ((d : Int) % 64),iA ((b : Int) % 64)] (encS ⟨((0 : Nat) : Rat),((d % 64 : Nat) : Rat),((b % 64 : Nat) : Rat)⟩) ∧
 PSpec Tryz.prog 142 [encS (frS s ⟨a,b,d,k⟩),encS (nxS s ⟨a,b,d,k⟩)] (encL (thr (frS s ⟨a,b,d,k⟩) (nxS s ⟨a,b,d,k⟩))):=by
 have ht:=h.t
 have hx:=h.x
 have hy:=h.y
 refine ⟨?_,s_sampleN (s.t + (1 + a % 8)) (b % 64) (d % 64) (by omega) (by omega) (by omega) (by omega) (by omega) (by omega),s_sampleN 0 (d % 64) (b % 64) (by omega) (by omega) (by omega) (by omega) (by omega) (by omega),?_⟩
 ·have e : (smT s).t.num = (s.t : Int):=by
   show ((s.t : Nat) : Rat).num = _
   rw [← Rat.intCast_natCast]
   rfl
  rw [e]
  exact s_toInt (s.t : Int) (by omega) (by omega)
 ·refine s_through ?_ ?_ ?_
  ·unfold frS
   split
   ·exact ⟨nat_bd (by omega),nat_bd (by omega),nat_bd (by omega)⟩
   ·exact ⟨nat_bd (by omega),nat_bd (by omega),nat_bd (by omega)⟩
  ·exact ⟨nat_bd (by omega),nat_bd (by omega),nat_bd (by omega)⟩
  ·rw [frS_t]
   exact nat_lt (by omega)
set_option maxHeartbeats 8000000 in
theorem s_trj {c : Car} (h : CarB c) : PSpec Tryz.prog 96 [encC c] (unL (trjU c)):=by
 have hn6:=h.n
 have hLO:=trjL_ok hn6
 have hN:=Hld.mk (s_normal15 (trjL c) (by have:=hLO.len;omega) (fun u hu=>(hLO.sm u hu).okU (by omega)) hLO.inc hLO.apt)
 have hU : nrmA (atms (trjL c)) = trjU c:=rfl
 rw [hU] at hN
 have hS0:=Hld.mk (s_sampleN (c.t % 16) (c.x % 64) (c.y % 64) (by omega) (by omega) (by omega) (show ((c.t % 16 : Nat) : Int) = (c.t : Int) % 16 by omega) (show ((c.x % 64 : Nat) : Int) = (c.x : Int) % 64 by omega) (show ((c.y % 64 : Nat) : Int) = (c.y : Int) % 64 by omega))
 have hT:=Hld.mk (fun i (hi : i ≤ c.st.length)=>runT_ok hn6 i hi)
 have hE' : trjL c = endT (runT c c.st.length):=rfl
 have hLl:=hLO.len
 have hst:=Hld.mk h.st
 have ht0:=h.t
 have hx0:=h.x
 have hy0:=h.y
 have hFs:=Hld.mk (runT_succ c)
 have hF0 : runT c 0 = iniT c:=rfl
 obtain ⟨F,hF⟩ : ∃ F,runT c = F:=⟨_,rfl⟩
 obtain ⟨A,hA⟩ : ∃ A,trjL c = A:=⟨_,rfl⟩
 obtain ⟨R,hR⟩ : ∃ R,trjU c = R:=⟨_,rfl⟩
 rw [hA] at hN hE' hLl
 rw [hR] at hN ⊢
 rw [hF] at hT hE' hFs hF0
 have w1 : IntKind.i64.wrap ((c.t : Int) % 16) = (c.t : Int) % 16:=wi (by omega) (by omega)
 have w2 : IntKind.i64.wrap ((c.x : Int) % 64) = (c.x : Int) % 64:=wi (by omega) (by omega)
 have w3 : IntKind.i64.wrap ((c.y : Int) % 64) = (c.y : Int) % 64:=wi (by omega) (by omega)
 have v1 : IntKind.i64.wrap ((c.t : Int).tmod 16) = (c.t : Int) % 16:=w1
 have v2 : IntKind.i64.wrap ((c.x : Int).tmod 64) = (c.x : Int) % 64:=w2
 have v3 : IntKind.i64.wrap ((c.y : Int).tmod 64) = (c.y : Int) % 64:=w3
 have hs0 : smT (F 0) = ⟨((c.t % 16 : Nat) : Rat),((c.x % 64 : Nat) : Rat),((c.y % 64 : Nat) : Rat)⟩:=by rw [hF0];rfl
 rw [← hs0] at hS0
 have ho0 : (F 0).out = []:=by rw [hF0];rfl
 have ha0 : (F 0).al = true:=by rw [hF0];rfl
 replace hs0:=()
 replace hF0:=()
 replace hE':=Hld.mk hE'
 replace hLl:=Hld.mk hLl
 clear h hLO hU hF hA hR
 refine pS Tryz.func96 ?_
 intro E hE
 refine sq ⟨[(1,.loc 1 0)],[(1,.box 174 (encC c))]⟩ ?_
 refine AW_freeze 1 (cb:=.box 174 (encC c)) (t:=⟨[(1,.ep (encC c))],[]⟩) (by simp) (by simp) (by simp) ?_
 refine sq ⟨[(3,.v (.slice none 0 0)),(1,.ep (encC c))],[]⟩ ?_
 refine AW_mkrow 3 800 111 36 (by simp) (by simp) (by simp) (by omega) ?_
 refine AW_seqt ⟨[(4,.loc 4 0),(3,.own 800 36 0 0),(1,.ep (encC c))],[(4,.box 169 (encS (smT (F 0)))),(800,rwP [])]⟩ ?_ (by
  intro K hK
  have k'1:=hS0;have z'1:=@encC.eq_1;exact ga1)
 refine sq ⟨[(5,bA true),(4,.loc 4 0),(3,.own 800 36 0 0),(1,.ep (encC c))],[(4,.box 169 (encS (smT (F 0)))),(800,rwP [])]⟩ ?_
 clear hS0 w1 w2 w3 v1 v2 v3
 refine AW_seqt ⟨[(5,bA (F c.st.length).al),(4,.loc 4 0),(3,.own 800 36 0 (F c.st.length).out.length)],[(4,.box 169 (encS (smT (F c.st.length)))),(800,rwP (F c.st.length).out)]⟩ ?_ (by
  intro K hK
  refine lpk (G:=Nat) (fun i=>⟨[(6,iA i),(5,bA (F i).al),(4,.loc 4 0),(3,.own 800 36 0 (F i).out.length),(1,.ep (encC c))],[(4,.box 169 (encS (smT (F i)))),(800,rwP (F i).out)]⟩) (fun i=>i ≤ c.st.length) (fun i=>c.st.length - i) 0 (Nat.zero_le _) ?_
  intro i hi K hK
  by_cases hlt : i < c.st.length
  ·have hltI : (i : Int) < c.st.length:=by omega
   have hi6I : (i : Int) < 6:=by omega
   refine AW_seqt ⟨[(6,iA i),(5,bA (F i).al),(4,.loc 4 0),(3,.own 800 36 0 (F i).out.length),(1,.ep (encC c))],[(4,.box 169 (encS (smT (F i)))),(800,rwP (F i).out)]⟩ ?_ (by
    intro K hK
    have z'1:=@encC.eq_1;exact ga0)
   refine AW_seqt ⟨[(6,iA i),(5,bA (F (i + 1)).al),(4,.loc 4 0),(3,.own 800 36 0 (F (i + 1)).out.length),(1,.ep (encC c))],[(4,.box 169 (encS (smT (F (i + 1))))),(800,rwP (F (i + 1)).out)]⟩ ?_ (by
    intro K hK
    have hs:=hFs.out i hlt
    have hok:=hT.out i hi
    have hb:=hst.out c.st[i] (List.getElem_mem hlt)
    obtain ⟨⟨a,b,d,k⟩,he⟩ : ∃ e,c.st[i] = e:=⟨_,rfl⟩
    rw [he] at hs hb
    obtain ⟨f1,f2,f3,f4⟩:=trj_facts hok (by omega) (a:=a) (b:=b) (d:=d) (k:=k)
    have b1:=hok.t
    have b2:=hok.len
    exact trj_step hE hlt he (by omega) hb.t hb.x hb.y hb.k (by omega) f1 f2 f3 (fr:=frS (F i) ⟨a,b,d,k⟩) rfl (L:=thr (frS (F i) ⟨a,b,d,k⟩) (nxS (F i) ⟨a,b,d,k⟩)) (fun _=>f4) rfl (fun s' hs'=>hK.h s' (by rw [hs];exact hs')))
   exact gli
  ·have : i = c.st.length:=by omega
   subst this
   have z'1:=@encC.eq_1;exact ga0)
 have hFl:=(hT.out _ (Nat.le_refl _)).len
 obtain ⟨s,hs⟩ : ∃ s,F c.st.length = s:=⟨_,rfl⟩
 rw [hs] at hE' hFl ⊢
 obtain ⟨M,x,y,z,al⟩:=s
 replace hs:=()
 clear hT hFs hst ho0 ha0
 obtain ⟨q,hq⟩ : ∃ q,smT ⟨M,x,y,z,al⟩ = q:=⟨_,rfl⟩
 have hend : endU ⟨M,x,y,z,al⟩ = ⟨q.t,q.t,false,false,q.x,0,q.y,0⟩:=by rw [← hq];rfl
 have hr:=Hld.mk (s_fromRat q.t)
 have hst:=Hld.mk (s_still q.x q.y)
 have hA : A = if al then M ++ [⟨q.t,q.t,false,false,q.x,0,q.y,0⟩] else M:=by rw [hE'.out,← hend];rfl
 replace hA:=Hld.mk hA
 replace hq:=Hld.mk hq
 clear hE' hend
 refine AW_le (t:=⟨[(5,bA al),(4,.loc 4 0),(3,.own 800 36 0 M.length)],[(4,.box 169 (encS q)),(800,rwP M)]⟩) (by simp [hq.out]) ?_
 replace hq:=()
 refine AW_freeze 4 (cb:=.box 169 (encS q)) (t:=⟨[(5,bA al),(4,.ep (encS q)),(3,.own 800 36 0 M.length)],[(800,rwP M)]⟩) (by simp) (by simp) (by simp) ?_
 refine AW_seqt ⟨[(3,.own 800 36 0 A.length)],[(800,rwP A)]⟩ ?_ (by
  intro K hK
  have e:=hA.out
  rcases al with _|_
  ·rw [if_neg (by simp)] at e
   subst e
   clear hA
   exact ga0
  ·rw [if_pos rfl] at e
   subst e
   clear hA
   have hMt : (M.map encU).take M.length = M.map encU:=List.take_of_length_le (by simp)
   have hMl : M.length ≤ 6:=by simp at hFl;omega
   refine sq ⟨[(113,bA true),(4,.ep (encS q)),(3,.own 800 36 0 M.length)],[(800,rwP M)]⟩ ?_
   refine AW_if fun X Y hX hY=>?_
   simp
   refine hX.h ?_
   clear hX hY
   refine AW_seqt ⟨[(13,.loc 13 0),(4,.ep (encS q)),(3,.own 800 36 0 M.length)],[(13,.box 92 (encR q.t)),(800,rwP M)]⟩ ?_ (by
    intro K hK
    have k'1:=hr;have z'1:=@encS.eq_1;have z'2:=@encQ.eq_1;exact ga1)
   refine AW_freeze 13 (cb:=.box 92 (encR q.t)) (t:=⟨[(13,.ep (encR q.t)),(4,.ep (encS q)),(3,.own 800 36 0 M.length)],[(800,rwP M)]⟩) (by simp) (by simp) (by simp) ?_
   refine AW_drawF (fun f=>⟨[(117,if f 0 && !f 9 then .own 800 36 0 M.length else .u),(118,if f 1 then encR q.t else .u),(119,if f 2 then encR q.t else .u),(120,if f 3 then encV ⟨q.t,q.t,false,false⟩ else .u),(121,if f 4 then .ep (encP ⟨q.x,q.y⟩) else .u),(122,if f 5 then encP ⟨q.x,q.y⟩ else .u),(123,if f 6 then encL ⟨q.x,0,q.y,0⟩ else .u),(124,if f 7 then encU ⟨q.t,q.t,false,false,q.x,0,q.y,0⟩ else .u),(125,if f 8 then .own 125 36 0 1 else .u),(126,if f 9 then .own 800 36 0 (M.length + 1) else .u),(13,.ep (encR q.t)),(4,.ep (encS q)),(3,if f 10 then .own 800 36 0 (M.length + 1) else if f 9 then .u else .own 800 36 0 M.length)],
    (if f 8 then [(125,.arr 111 36 [encU ⟨q.t,q.t,false,false,q.x,0,q.y,0⟩])] else []) ++ [(800,.arr 111 36 (if f 9 then M.map encU ++ [encU ⟨q.t,q.t,false,false,q.x,0,q.y,0⟩] else M.map encU))]⟩) mixed (by rw [hE];decide) (by decide +kernel) (by decide +kernel) (by simp) ?_ ?_
   ·intro f i o hi hdep hnot hcl K2 hK2
    have w9_8 : f 9 = true → f 8 = true:=gw
    have w9_0 : f 9 = true → f 0 = true:=gw
    have w10_9 : f 10 = true → f 9 = true:=gw
    clear hcl
    iterate 11 (rcases i with _|i;rotate_left)
    ·simp at hi
    all_goals (simp only [List.getElem?_cons_succ,List.getElem?_cons_zero,Option.some.injEq] at hi;subst hi)
    all_goals simp [Region.binds] at hdep
    all_goals (rcases a8 : f 8 <;> rcases a9 : f 9)
    all_goals try (exfalso;revert hdep hnot w9_8 w9_0 w10_9;simp [a8,a9];done)
    all_goals (try simp [a8,a9,hnot] at w9_8)
    all_goals (try simp [a8,a9,hnot] at w9_0)
    all_goals (try simp [a8,a9,hnot] at w10_9)
    all_goals (have k'1:=hst;have z'1:=@encU.eq_1;have z'2:=@encV.eq_1;have z'3:=@encL.eq_1;have z'4:=@encP.eq_1;have z'5:=@encS.eq_1;have z'6:=@encR.eq_1;have z'7:=@mentL_append;exact gd1)
   ·intro f hf
    have e10:=hf 10 (by simp)
    have e8:=hf 8 (by simp)
    have e9:=hf 9 (by simp)
    refine hK.h _ ?_
    simp [e10,e8,e9,encU,encV,encL,encP,encS,encR,mentL_append]
   all_goals simp)
 have hAt : (A.map encU).take A.length = A.map encU:=List.take_of_length_le (by simp)
 refine AW_freeze 800 (cb:=rwP A) (t:=⟨[(3,unL A)],[]⟩) (by simp) (by simp [hAt]) (by simp) ?_
 have k'1:=hN;exact ga1
abbrev rwO (l : List Ob) : Ct:=.arr 76 2 (l.map encO)
def ptF (f : Flt) (i : Nat) : List Ob:=(List.range i).map fun (j : Nat)=>⟨(j : Int) + 1,trjU (f.cars.getD j ⟨0,0,0,[]⟩)⟩
theorem ptF_len (f : Flt) (i : Nat) : (ptF f i).length = i:=by simp [ptF]
theorem ptF_succ (f : Flt) (i : Nat) (h : i < f.cars.length) : ptF f (i + 1) = ptF f i ++ [⟨(i : Int) + 1,trjU f.cars[i]⟩]:=by
 simp [ptF,List.range_succ,List.getD,List.getElem?_eq_getElem h]
set_option maxHeartbeats 4000000 in
theorem m_points (f : Flt) (h4 : f.cars.length ≤ 4) (hc : ∀ c ∈ f.cars,CarB c) : MSpec Tryz.prog 50 [encW f] [] (fun res bf=>res = .own 800 2 0 f.cars.length ∧ bf 800 = some (rwO (ptF f f.cars.length))):=by
 have hFs:=Hld.mk (ptF_succ f)
 have hFl:=ptF_len f
 have hF0 : ptF f 0 = []:=rfl
 obtain ⟨F,hF⟩ : ∃ F,ptF f = F:=⟨_,rfl⟩
 rw [hF] at hFs hFl hF0 ⊢
 replace hc:=Hld.mk hc
 clear hF
 refine MSpec_of Tryz.func50 rfl rfl (Nat.le_of_ble_eq_true rfl) (Nat.le_of_ble_eq_true rfl) ?_
 intro E hE
 refine sq ⟨[(1,.loc 1 0)],[(1,.box 25 (encW f))]⟩ ?_
 refine AW_freeze 1 (cb:=.box 25 (encW f)) (t:=⟨[(1,.ep (encW f))],[]⟩) (by simp) (by simp) (by simp) ?_
 refine sq ⟨[(3,.v (.slice none 0 0)),(1,.ep (encW f))],[]⟩ ?_
 refine AW_mkrow 3 800 76 2 (by simp) (by simp) (by simp) (by omega) ?_
 refine AW_seqt ⟨[(3,.own 800 2 0 f.cars.length)],[(800,rwO (F f.cars.length))]⟩ ?_ (by
  intro K hK
  refine lpk (G:=Nat) (fun i=>⟨[(4,iA i),(3,.own 800 2 0 i),(1,.ep (encW f))],[(800,rwO (F i))]⟩) (fun i=>i ≤ f.cars.length) (fun i=>f.cars.length - i) 0 (Nat.zero_le _) ?_
  intro i hi K hK
  by_cases hlt : i < f.cars.length
  ·have hltI : (i : Int) < f.cars.length:=by omega
   have hi4 : (i : Int) < 4:=by omega
   have hs:=hFs.out i hlt
   have hb:=hc.out f.cars[i] (List.getElem_mem hlt)
   have hMl:=hFl i
   obtain ⟨c,he⟩ : ∃ c,f.cars[i] = c:=⟨_,rfl⟩
   have heg : ∀ h : i < f.cars.length,f.cars[i] = c:=fun _=>he
   obtain ⟨M,hM⟩ : ∃ M,F i = M:=⟨_,rfl⟩
   obtain ⟨M2,hM2⟩ : ∃ M,F (i + 1) = M:=⟨_,rfl⟩
   rw [he,hM,hM2] at hs
   rw [hM] at hMl
   rw [he] at hb
   have ht:=Hld.mk (s_trj hb)
   obtain ⟨us,hus⟩ : ∃ us,trjU c = us:=⟨_,rfl⟩
   rw [hus] at ht hs
   have hMt : (M.map encO).take i = M.map encO:=List.take_of_length_le (by simp [hMl])
   refine AW_le (t:=⟨[(4,iA i),(3,.own 800 2 0 i),(1,.ep (encW f))],[(800,rwO M)]⟩) (by simp [hM]) ?_
   replace hs:=Hld.mk hs
   replace hM:=Hld.mk hM
   replace hM2:=Hld.mk hM2
   replace he:=()
   replace hus:=()
   clear hb
   refine AW_seqt ⟨[(4,iA i),(3,.own 800 2 0 i),(1,.ep (encW f))],[(800,rwO M)]⟩ ?_ (by
    intro K hK
    have z'1:=@encW.eq_1;exact ga0)
   refine AW_seqt ⟨[(4,iA i),(3,.own 800 2 0 (i + 1)),(1,.ep (encW f))],[(800,rwO M2)]⟩ ?_ (by
    intro K hK
    refine AW_block ?_
    have k'1:=ht;have z'1:=@encW.eq_1;have z'2:=@encO.eq_1;have z'3:=hs.out;exact ga1)
   have z'1:=hM2.out;exact gli
  ·have : i = f.cars.length:=by omega
   subst this
   have z'1:=@encW.eq_1;exact ga0)
 exact ga0
set_option maxHeartbeats 8000000 in
theorem s_fromS1 {s : Sm} (hs : OkS s) : PSpec Tryz.prog 95 [saL [s]] (.tup [unL [⟨s.t,s.t,false,false,s.x,0,s.y,0⟩],iA 0]):=by
 have c1:=Hld.mk (s_checkQ hs.t (by decide))
 have c2:=Hld.mk (s_checkQ hs.x (by decide))
 have c3:=Hld.mk (s_checkQ hs.y (by decide))
 have hr:=Hld.mk (s_fromRat s.t)
 clear hs
 obtain ⟨l,hl⟩ : ∃ l : List Sm,l = [s]:=⟨_,rfl⟩
 have hln : l.length = 1:=by rw [hl];rfl
 have h0 : ∀ h : 0 < l.length,l[0] = s:=by subst hl;intro _;rfl
 have h0q : l[0]? = some s:=by subst hl;rfl
 rw [← hl]
 clear hl
 refine pS Tryz.func95 ?_
 intro E hE
 refine sq ⟨[(0,saL l)],[]⟩ ?_
 refine sq ⟨[(0,saL l)],[]⟩ ?_
 refine AW_seqt ⟨[(0,saL l)],[]⟩ ?_ (by
  intro K hK
  refine lpk (G:=Nat) (fun i=>⟨[(22,iA i),(21,iA 1),(20,saL l),(0,saL l)],[]⟩) (fun i=>i ≤ 1) (fun i=>1 - i) 0 (Nat.zero_le _) ?_
  intro i hi K hK
  by_cases hlt : i = 0
  ·subst hlt
   refine sq ⟨[(23,bA true),(22,iA 0),(21,iA 1),(20,saL l),(0,saL l)],[]⟩ ?_
   refine sq ⟨[(22,iA 0),(21,iA 1),(20,saL l),(0,saL l)],[]⟩ ?_
   refine AW_seqt ⟨[(22,iA 0),(21,iA 1),(20,saL l),(0,saL l)],[]⟩ ?_ (by
    intro K hK
    refine AW_block ?_
    refine sq ⟨[(5,.loc 5 0),(22,iA 0),(21,iA 1),(20,saL l),(0,saL l)],[(5,.box 169 (encS s))]⟩ ?_
    repeat' (first
     |(with_reducible first|refine uK ?_|refine uQ ?_|refine uX ?_|refine jq fun K hK=>?_|refine jb ?_)|(with_reducible refine rS hE ?_;simp [*,encQ,encS])|with_reducible refine rL hE ?_|(((with_reducible show RK _ _ _ _ _ _);first|refine jn ?_|refine js fun K' hK'=>?_);simp [*,encQ,encS])|with_reducible refine rD mixed hE ?_|((with_reducible show RKQ _ _ _ _ _ _);first|refine RKQ_nilk ⟨by decide,?_⟩|(refine jv fun K' hK'=>?_;simp [*,encQ,encS]))|((with_reducible first|refine ji fun X Y hX hY=>?_|refine jr ?_|refine jk ?_|refine jx ?_);simp [*,encQ,encS])|((first|refine jC (c1.out) ?_ ?_ ?_|refine jQ (c1.out) ?_ ?_ ?_);(iterate 2 focus (simp [*,encQ,encS] <;> fail));simp [*,encQ,encS])|((first|refine jC (c2.out) ?_ ?_ ?_|refine jQ (c2.out) ?_ ?_ ?_);(iterate 2 focus (simp [*,encQ,encS] <;> fail));simp [*,encQ,encS])|((first|refine jC (c3.out) ?_ ?_ ?_|refine jQ (c3.out) ?_ ?_ ?_);(iterate 2 focus (simp [*,encQ,encS] <;> fail));simp [*,encQ,encS])|with_reducible refine And.intro ?_ ?_|omega|(refine imp1 fun h=>?_))
    all_goals simp)
   repeat' (first
    |(with_reducible first|refine uK ?_|refine uX ?_|refine jq fun K hK=>?_|refine jb ?_)|((with_reducible first|refine rS hE ?_|refine jn ?_|refine js fun K' hK'=>?_|refine ji fun X Y hX hY=>?_|refine jr ?_|refine jk ?_|refine jx ?_);simp [*])|with_reducible refine rL hE ?_|with_reducible refine And.intro ?_ ?_|omega|(refine imp1 fun h=>?_))
   exact ⟨1,by omega,by omega,by simp⟩
  ·have : i = 1:=by omega
   subst this
   exact ga0)
 refine AW_seqt ⟨[(0,saL l)],[]⟩ ?_ (by
  intro K hK
  refine lpk (G:=Nat) (fun i=>⟨[(47,iA i),(46,iA 1),(0,saL l)],[]⟩) (fun i=>i ≤ 1) (fun i=>1 - i) 0 (Nat.zero_le _) ?_
  intro i hi K hK
  by_cases hlt : i = 0
  ·subst hlt
   refine sq ⟨[(48,bA true),(47,iA 0),(46,iA 1),(0,saL l)],[]⟩ ?_
   refine sq ⟨[(47,iA 0),(46,iA 1),(0,saL l)],[]⟩ ?_
   refine AW_seqt ⟨[(47,iA 0),(46,iA 1),(0,saL l)],[]⟩ ?_ (by
    intro K hK
    refine AW_block ?_
    refine sq ⟨[(6,iA 0),(47,iA 0),(46,iA 1),(0,saL l)],[]⟩ ?_
    repeat' (first
     |(with_reducible first|refine uK ?_|refine uQ ?_|refine uX ?_|refine jq fun K hK=>?_|refine jb ?_)|(with_reducible refine rS hE ?_;simp [*])|with_reducible refine rL hE ?_|(((with_reducible show RK _ _ _ _ _ _);first|refine jn ?_|refine js fun K' hK'=>?_);simp [*])|with_reducible refine rD mixed hE ?_|((with_reducible show RKQ _ _ _ _ _ _);first|refine RKQ_nilk ⟨by decide,?_⟩|(refine jv fun K' hK'=>?_;simp [*]))|((with_reducible first|refine ji fun X Y hX hY=>?_|refine jr ?_|refine jk ?_|refine jx ?_);simp [*])|with_reducible refine And.intro ?_ ?_|omega|(refine imp1 fun h=>?_))
    all_goals simp)
   repeat' (first
    |(with_reducible first|refine uK ?_|refine uX ?_|refine jq fun K hK=>?_|refine jb ?_)|((with_reducible first|refine rS hE ?_|refine jn ?_|refine js fun K' hK'=>?_|refine ji fun X Y hX hY=>?_|refine jr ?_|refine jk ?_|refine jx ?_);simp [*])|with_reducible refine rL hE ?_|with_reducible refine And.intro ?_ ?_|omega|(refine imp1 fun h=>?_))
   exact ⟨1,by omega,by omega,by simp⟩
  ·have : i = 1:=by omega
   subst this
   exact ga0)
 refine AW_seqk fun K hK=>?_
 refine sq ⟨[(70,bA true),(0,saL l)],[]⟩ ?_
 refine AW_if fun X Y hX hY=>?_
 simp
 refine hX.h ?_
 clear hX hY hK
 refine AW_seqt ⟨[(7,.loc 7 0),(0,saL l)],[(7,.box 92 (encR s.t))]⟩ ?_ (by
  intro K hK
  have k'1:=hr;have z'1:=@encS.eq_1;have z'2:=@encQ.eq_1;exact ga1)
 refine AW_freeze 7 (cb:=.box 92 (encR s.t)) (t:=⟨[(7,.ep (encR s.t)),(0,saL l)],[]⟩) (by simp) (by simp) (by simp) ?_
 have h0I : (0 : Int) < l.length:=by omega
 refine AW_seqt ⟨[(2,.own 91 36 0 1),(3,iA 0)],[(91,.arr 111 36 [encU ⟨s.t,s.t,false,false,s.x,0,s.y,0⟩])]⟩ ?_ (by
  intro K hK
  refine AW_drawF (fun f=>⟨[(76,if f 0 then encR s.t else .u),(77,if f 1 then encR s.t else .u),(78,if f 2 then encV ⟨s.t,s.t,false,false⟩ else .u),(79,if f 3 then saL l else .u),(80,if f 4 then .ep (encS s) else .u),(81,if f 5 then .ep (encP ⟨s.x,s.y⟩) else .u),(82,if f 6 then .ep (encQ s.x) else .u),(83,if f 7 then encQ s.x else .u),(84,if f 8 then saL l else .u),(85,if f 9 then .ep (encS s) else .u),(86,if f 10 then .ep (encP ⟨s.x,s.y⟩) else .u),(87,if f 11 then .ep (encQ s.y) else .u),(88,if f 12 then encQ s.y else .u),(89,if f 13 then encL ⟨s.x,0,s.y,0⟩ else .u),(90,if f 14 then encU ⟨s.t,s.t,false,false,s.x,0,s.y,0⟩ else .u),(91,if f 15 then .own 91 36 0 1 else .u),(2,if f 16 then .own 91 36 0 1 else .u),(3,if f 17 then iA 0 else .u),(7,.ep (encR s.t)),(0,saL l)],
   (if f 15 then [(91,.arr 111 36 [encU ⟨s.t,s.t,false,false,s.x,0,s.y,0⟩])] else [])⟩) mixed (by rw [hE];decide) (by decide +kernel) (by decide +kernel) (by simp) ?_ ?_
  ·intro f i o hi hdep hnot hcl K2 hK2
   have w16_15 : f 16 = true → f 15 = true:=gw
   clear hcl
   iterate 18 (rcases i with _|i;rotate_left)
   ·simp at hi
   all_goals (simp only [List.getElem?_cons_succ,List.getElem?_cons_zero,Option.some.injEq] at hi;subst hi)
   all_goals simp [Region.binds] at hdep
   all_goals (rcases a15 : f 15)
   all_goals try (exfalso;revert hdep hnot w16_15;simp [a15];done)
   all_goals (try simp [a15,hnot] at w16_15)
   all_goals (have z'1:=@encU.eq_1;have z'2:=@encV.eq_1;have z'3:=@encL.eq_1;have z'4:=@encP.eq_1;have z'5:=@encS.eq_1;have z'6:=@encR.eq_1;have z'7:=@encQ.eq_1;exact gd0)
  ·intro f hf
   have e16:=hf 16 (by simp)
   have e17:=hf 17 (by simp)
   have e15:=hf 15 (by simp)
   refine hK.h _ ?_
   simp [e16,e17,e15,encU,encV,encL,encP,encS,encR,encQ]
  all_goals simp)
 refine AW_freeze 91 (cb:=.arr 111 36 [encU ⟨s.t,s.t,false,false,s.x,0,s.y,0⟩]) (t:=⟨[(2,unL [⟨s.t,s.t,false,false,s.x,0,s.y,0⟩]),(3,iA 0)],[]⟩) (by simp) (by simp) (by simp) ?_
 exact ga0
def staZ (n : Nat) : List Un:=if n = 0 then [⟨(staS 0).t,(staS 0).t,false,false,(staS 0).x,0,(staS 0).y,0⟩] else staU n
theorem s_stairsZ {n : Nat} (hn : n ≤ 40) : PSpec Tryz.prog 46 [iA n] (unL (staZ n)):=by
 unfold staZ
 split
 ·rename_i h
  subst h
  exact s_stairsG (by omega) (s_fromS1 (stS_ok (n:=1) (by omega) _ (by simp [stS])))
 ·exact s_stairs (by omega) hn
def flI (f : Flt) (n i : Nat) : List Ob:=(List.range f.cars.length).map fun (j : Nat)=>⟨if j < i then 1 + (j : Int) * (1 + (n : Int) % 3) else (j : Int) + 1,trjU (f.cars.getD j ⟨0,0,0,[]⟩)⟩
theorem flI_len (f : Flt) (n i : Nat) : (flI f n i).length = f.cars.length:=by simp [flI]
theorem flI_zero (f : Flt) (n : Nat) : flI f n 0 = ptF f f.cars.length:=by simp [flI,ptF]
theorem flI_get (f : Flt) (n i j : Nat) (h : j < (flI f n i).length) : (flI f n i)[j] = ⟨if j < i then 1 + (j : Int) * (1 + (n : Int) % 3) else (j : Int) + 1,trjU (f.cars.getD j ⟨0,0,0,[]⟩)⟩:=by simp [flI]
theorem flI_succ (f : Flt) (n i : Nat) (h : i < f.cars.length) : flI f n (i + 1) = (flI f n i).set i ⟨1 + (i : Int) * (1 + (n : Int) % 3),trjU (f.cars.getD i ⟨0,0,0,[]⟩)⟩:=by
 apply List.ext_getElem
 ·simp [flI_len]
 ·intro j h1 h2
  rw [flI_get,List.getElem_set]
  by_cases e : i = j
  ·subst e
   rw [if_pos (by omega),if_pos rfl]
  ·rw [if_neg e,flI_get]
   have : (j < i + 1) = (j < i):=propext (by omega)
   simp only [this]
def fltO (f : Flt) (n : Nat) : List Ob:=if 0 < f.cars.length ∧ 0 < n / 3 then (flI f n f.cars.length).set 0 ⟨1,staZ (n / 3 % 40)⟩ else flI f n f.cars.length
set_option maxHeartbeats 4000000 in
theorem s_fleet (f : Flt) (n : Nat) (hn : n < 256) (h4 : f.cars.length ≤ 4) (hc : ∀ c ∈ f.cars,CarB c) : PSpec Tryz.prog 15 [encW f,uA n] (obL (fltO f n)):=by
 have hp:=Hld.mk (m_points f h4 hc)
 have hz:=Hld.mk (s_stairsZ (n:=n / 3 % 40) (by omega))
 have hFs:=Hld.mk (flI_succ f n)
 have hFl:=flI_len f n
 have hFg:=Hld.mk (flI_get f n)
 have hO : Hld (fltO f n = if 0 < f.cars.length ∧ 0 < n / 3 then (flI f n f.cars.length).set 0 ⟨1,staZ (n / 3 % 40)⟩ else flI f n f.cars.length):=⟨rfl⟩
 rw [← flI_zero f n] at hp
 obtain ⟨F,hF⟩ : ∃ F,flI f n = F:=⟨_,rfl⟩
 obtain ⟨O,hOe⟩ : ∃ O,fltO f n = O:=⟨_,rfl⟩
 obtain ⟨Z,hZe⟩ : ∃ Z,staZ (n / 3 % 40) = Z:=⟨_,rfl⟩
 rw [hF] at hFs hFl hFg hO hp
 rw [hOe] at hO ⊢
 rw [hZe] at hO hz
 clear hc hF hOe hZe
 obtain ⟨L,hL⟩ : ∃ L,f.cars.length = L:=⟨_,rfl⟩
 rw [hL] at hp hFl hO h4
 replace hL:=Hld.mk hL
 have w1 : IntKind.i64.wrap ((n : Int) % 3) = (n : Int) % 3:=wi (by omega) (by omega)
 have v1 : IntKind.i64.wrap ((n : Int).tmod 3) = (n : Int) % 3:=w1
 have w2 : IntKind.i64.wrap ((n : Int) / 3) = (n : Int) / 3:=wi (by omega) (by omega)
 have w3 : IntKind.u8.wrap ((n : Int) / 3) = (n : Int) / 3:=wrap_in .u8 (by show (0 : Int) ≤ _;omega) (by show _ ≤ (255 : Int);omega)
 have v2 : IntKind.i64.wrap ((n : Int).tdiv 3) = (n : Int) / 3:=w2
 refine pS Tryz.func15 ?_
 intro E hE
 refine sq ⟨[(2,.loc 2 0),(1,uA n)],[(2,.box 25 (encW f))]⟩ ?_
 refine AW_freeze 2 (cb:=.box 25 (encW f)) (t:=⟨[(2,.ep (encW f)),(1,uA n)],[]⟩) (by simp) (by simp) (by simp) ?_
 refine AW_seqt ⟨[(5,.own 800 2 0 L),(1,uA n)],[(800,rwO (F 0))]⟩ ?_ (by
  intro K hK
  repeat' (first
   |(with_reducible first|refine uK ?_|refine uX ?_|refine jq fun K hK=>?_|refine jb ?_)|((with_reducible first|refine rS hE ?_|refine jn ?_|refine js fun K' hK'=>?_|refine ji fun X Y hX hY=>?_|refine jr ?_|refine jk ?_|refine jx ?_);simp [*])|with_reducible refine rL hE ?_|with_reducible refine And.intro ?_ ?_|omega|(refine imp1 fun h=>?_))
  refine acall_boxes hp.out (nm []) (nm [(800,800)]) [(800,rwO (F 0))] (.own 800 2 0 L) (by rintro res bf ⟨rfl,h1⟩;simp;exact h1) (by simp) (by simp) (by simp) (by simp) (by simp) (by simp) (by simp) ?_
  simp
  exact ga0)
 refine AW_seqt ⟨[(5,.own 800 2 0 L),(1,uA n)],[(800,rwO (F L))]⟩ ?_ (by
  intro K hK
  refine lpk (G:=Nat) (fun i=>⟨[(6,iA i),(5,.own 800 2 0 L),(1,uA n)],[(800,rwO (F i))]⟩) (fun i=>i ≤ L) (fun i=>L - i) 0 (Nat.zero_le _) ?_
  intro i hi K hK
  by_cases hlt : i < L
  ·have hltI : (i : Int) < L:=by omega
   have hs:=hFs.out i (by rw [hL.out];exact hlt)
   have hMl:=hFl i
   have hg:=hFg.out i i (by rw [hFl];exact hlt)
   rw [if_neg (by omega)] at hg
   obtain ⟨us,hus⟩ : ∃ us,trjU (f.cars.getD i ⟨0,0,0,[]⟩) = us:=⟨_,rfl⟩
   rw [hus] at hs hg
   have hgq : (F i)[i]? = some ⟨(i : Int) + 1,us⟩:=by rw [List.getElem?_eq_getElem (by rw [hFl];exact hlt),hg]
   clear hg hus
   obtain ⟨M,hM⟩ : ∃ M,F i = M:=⟨_,rfl⟩
   obtain ⟨M2,hM2⟩ : ∃ M,F (i + 1) = M:=⟨_,rfl⟩
   rw [hM,hM2] at hs
   rw [hM] at hMl hgq
   obtain ⟨z,hz⟩ : ∃ z : Int,1 + (i : Int) * (1 + (n : Int) % 3) = z:=⟨_,rfl⟩
   rw [hz] at hs
   have hm1 : (0 : Int) ≤ (i : Int) * (1 + (n : Int) % 3):=Int.mul_nonneg (by omega) (by omega)
   have hm2 : (i : Int) * (1 + (n : Int) % 3) ≤ 4 * 4:=Int.mul_le_mul (by omega) (by omega) (by omega) (by omega)
   have hset : (M.map encO).set i (.st [iA z,unL us]) = M2.map encO:=by rw [hs,List.map_set];rfl
   have hrow : (M.map encO)[i]? = some (.st [iA ((i : Int) + 1),unL us]):=by rw [List.getElem?_map,hgq];rfl
   refine AW_le (t:=⟨[(6,iA i),(5,.own 800 2 0 L),(1,uA n)],[(800,rwO M)]⟩) (by simp [hM]) ?_
   have hgi : ∀ h : i < M.length,M[i] = ⟨(i : Int) + 1,us⟩:=fun h=>by rw [List.getElem?_eq_getElem h] at hgq;exact Option.some.inj hgq
   replace hs:=()
   replace hM:=()
   replace hM2:=Hld.mk hM2
   replace hset:=Hld.mk hset
   refine sq ⟨[(6,iA i),(5,.own 800 2 0 L),(1,uA n)],[(800,rwO M)]⟩ ?_
   refine AW_seqt ⟨[(6,iA i),(5,.own 800 2 0 L),(1,uA n)],[(800,rwO M2)]⟩ ?_ (by
    intro K hK
    refine AW_block ?_
    have z'1:=hset.out;exact ga0)
   have z'1:=hM2.out;exact gli
  ·have : i = L:=by omega
   subst this
   exact ga0)
 have hL0:=hFl L
 have hgq:=hFg.out L 0
 have hO':=hO.out
 have hz' : PSpec Tryz.prog 46 [iA (((n : Int) / 3) % 40)] (unL Z):=by have:=hz.out;rw [show ((n / 3 % 40 : Nat) : Int) = ((n : Int) / 3) % 40 by omega] at this;exact this
 replace hz':=Hld.mk hz'
 clear hFs hFg hp hz hFl
 obtain ⟨M,hM⟩ : ∃ M,F L = M:=⟨_,rfl⟩
 rw [hM] at hL0 hgq hO' ⊢
 replace hM:=()
 have hO2:=Hld.mk hO'
 clear hO hO'
 refine AW_seqt ⟨[(5,.own 800 2 0 L)],[(800,rwO O)]⟩ ?_ (by
  intro K hK
  have e:=hO2.out
  have hmod : IntKind.i64.wrap (((n : Int) / 3) % 40) = ((n : Int) / 3) % 40:=wi (by omega) (by omega)
  refine sq ⟨[(7,iA ((n : Int) / 3)),(5,.own 800 2 0 L)],[(800,rwO M)]⟩ ?_
  have hq0 : (0 : Int) ≤ (n : Int) / 3:=by omega
  have hq85 : (n : Int) / 3 ≤ 85:=by omega
  have hgt : (0 < n / 3) ↔ ((0 : Int) < (n : Int) / 3):=by omega
  obtain ⟨q,hq⟩ : ∃ q : Int,(n : Int) / 3 = q:=⟨_,rfl⟩
  rw [hq] at hz' hq0 hq85 hgt hmod ⊢
  replace hq:=()
  clear w1 v1 w2 v2 hO2
  replace hgt:=Hld.mk hgt
  replace e:=Hld.mk e
  have tm : q.tmod 40 = q % 40:=Int.tmod_eq_emod_of_nonneg hq0
  by_cases hL1 : 0 < L
  ·have hL1I : (0 : Int) < L:=by omega
   by_cases hn1 : 0 < q
   ·replace e:=e.out
    rw [if_pos ⟨hL1,hgt.out.2 hn1⟩] at e
    have hg0 : M[0]? = some ⟨1,M[0].us⟩:=by
     have:=hgq (by omega)
     rw [if_pos hL1] at this
     rw [List.getElem?_eq_getElem (by omega),this]
     simp
    obtain ⟨us,hus⟩ : ∃ us,M[0].us = us:=⟨_,rfl⟩
    rw [hus] at hg0
    have hgi : ∀ h : 0 < M.length,M[0] = ⟨1,us⟩:=fun h=>by
     rw [List.getElem?_eq_getElem h] at hg0;exact Option.some.inj hg0
    have hset : (M.map encO).set 0 (.st [iA 1,unL Z]) = O.map encO:=by rw [e,List.map_set];rfl
    clear hgq
    replace hus:=()
    replace e:=()
    replace hset:=Hld.mk hset
    have k'1:=hz';have z'1:=@encO.eq_1;have z'2:=hset.out;exact ga1
   ·replace e:=e.out
    rw [if_neg (fun h=>hn1 (hgt.out.1 h.2))] at e
    subst e
    exact ga0
  ·have hL1I : ¬ (0 : Int) < L:=by omega
   replace e:=e.out
   rw [if_neg (fun h=>hL1 h.1)] at e
   subst e
   exact ga0)
 have hOl : O.length = L:=by rw [hO2.out];split <;> simp [hL0]
 have hOt : (O.map encO).take L = O.map encO:=List.take_of_length_le (by simp [hOl])
 refine AW_freeze 800 (cb:=rwO O) (t:=⟨[(5,obL O)],[]⟩) (by simp) (by simp [hOt,hOl]) (by simp) ?_
 exact ga0
theorem nds_len (bs : List Bx) : (nds bs).length = cnt 4 bs.length:=ndsF_len _ _
theorem nds_get {bs : List Bx} {i : Nat} (h : i < (nds bs).length) : (nds bs)[i] = ndF bs i:=by simp [nds,ndsF]
def WxOK (u : Un) (b : Bx) : Prop:=PSpec Tryz.prog 48 [encU u] (.tup [encX b,iA 0])
theorem joi_self (b : Bx) : joiX b b = b:=by simp [joiX]
theorem jnX_app (l : List Bx) (b : Bx) : jnX (l ++ [b]) = if l = [] then b else joiX (jnX l) b:=by
 cases l with
 |nil=>rfl
 |cons x r=>simp [jnX,jonX]
theorem chX_take (bs : List Bx) (m j : Nat) : chX (bs.take m) j = (bs.drop (j * 4)).take (min 4 (m - j * 4)):=by
 unfold chX
 rw [List.drop_take,List.take_take]
def ndsA (bs : List Bx) (i : Nat) : List Nd:=if i % 4 = 0 then nds (bs.take i) ++ [⟨(i : Int),0,bs.getD i zBx⟩] else nds (bs.take i)
theorem ndsT_len (bs : List Bx) {i : Nat} (h : i ≤ bs.length) : (nds (bs.take i)).length = (i + 3) / 4:=by
 rw [nds_len,List.length_take,Nat.min_eq_left h];rfl
theorem ndsA_len (bs : List Bx) {i : Nat} (h : i < bs.length) : (ndsA bs i).length = i / 4 + 1:=by
 unfold ndsA
 split
 ·rw [List.length_append,ndsT_len bs (by omega)];simp;omega
 ·rw [ndsT_len bs (by omega)];omega
theorem nds_next (bs : List Bx) {i : Nat} (h : i < bs.length) : ∃ nd,(ndsA bs i)[i / 4]? = some nd ∧ (0 ≤ nd.count ∧ nd.count ≤ 4) ∧ nds (bs.take (i + 1)) = (ndsA bs i).set (i / 4) ⟨nd.first,nd.count + 1,joiX nd.b bs[i]⟩:=by
 have hl:=ndsA_len bs h
 have hlt : i / 4 < (ndsA bs i).length:=by omega
 refine ⟨(ndsA bs i)[i / 4],List.getElem?_eq_getElem hlt,?_,?_⟩
 ·unfold ndsA
  by_cases h0 : i % 4 = 0
  ·simp only [h0,if_true]
   rw [List.getElem_append_right (by rw [ndsT_len bs (by omega)];omega)]
   simp
  ·simp only [h0,if_false]
   rw [nds_get (by rw [ndsT_len bs (by omega)];omega)]
   show (0 : Int) ≤ ((chX (bs.take i) (i / 4)).length : Int) ∧ ((chX (bs.take i) (i / 4)).length : Int) ≤ 4
   rw [chX_take,List.length_take]
   omega
 ·apply List.ext_getElem
  ·rw [List.length_set,hl,ndsT_len bs (by omega)];omega
  ·intro j h1 h2
   have hj : j < i / 4 + 1:=by rw [ndsT_len bs (by omega)] at h1;omega
   rw [nds_get h1,List.getElem_set]
   by_cases e : i / 4 = j
   ·rw [if_pos e]
    subst e
    have hc : chX (bs.take (i + 1)) (i / 4) = chX (bs.take i) (i / 4) ++ [bs[i]]:=by
     rw [chX_take,chX_take,show min 4 (i + 1 - i / 4 * 4) = min 4 (i - i / 4 * 4) + 1 by omega,List.take_add_one,List.getElem?_drop,show i / 4 * 4 + min 4 (i - i / 4 * 4) = i by omega,List.getElem?_eq_getElem h]
     rfl
    have hn : ndF (bs.take (i + 1)) (i / 4) = ⟨((i / 4 * 4 : Nat) : Int),(chX (bs.take i) (i / 4)).length + 1,if chX (bs.take i) (i / 4) = [] then bs[i] else joiX (jnX (chX (bs.take i) (i / 4))) bs[i]⟩:=by
     unfold ndF
     rw [hc,jnX_app]
     simp
    rw [hn]
    have hcl : (chX (bs.take i) (i / 4)).length = i % 4:=by rw [chX_take,List.length_take,List.length_drop];omega
    unfold ndsA
    by_cases h0 : i % 4 = 0
    ·have hnil : chX (bs.take i) (i / 4) = []:=List.length_eq_zero_iff.1 (by omega)
     simp only [h0,if_true]
     rw [List.getElem_append_right (by rw [ndsT_len bs (by omega)];omega)]
     simp only [hnil,List.length_nil,if_true,List.getElem_singleton,List.getD,List.getElem?_eq_getElem h,Option.getD_some,joi_self]
     congr 1
     omega
    ·have hne : ¬ chX (bs.take i) (i / 4) = []:=fun e=>by rw [e] at hcl;simp at hcl;omega
     simp only [h0,if_false]
     rw [nds_get (by rw [ndsT_len bs (by omega)];omega),if_neg hne]
     rfl
   ·rw [if_neg e]
    have hj2 : j < (nds (bs.take i)).length:=by rw [ndsT_len bs (by omega)];omega
    have e2 : (ndsA bs i)[j]'(by omega) = (nds (bs.take i))[j]:=by
     unfold ndsA
     by_cases h0 : i % 4 = 0
     ·simp only [h0,if_true]
      rw [List.getElem_append_left hj2]
     ·simp only [h0,if_false]
    rw [e2,nds_get hj2]
    unfold ndF
    have : chX (bs.take (i + 1)) j = chX (bs.take i) j:=by
     rw [chX_take,chX_take,show min 4 (i + 1 - j * 4) = 4 by omega,show min 4 (i - j * 4) = 4 by omega]
    rw [this]
set_option maxHeartbeats 8000000 in
theorem s_nodes (bs : List Bx) (hl : bs.length ≤ 100000) : PSpec Tryz.prog 49 [bxL bs] (ndL (nds bs)):=by
 have hN:=Hld.mk (fun i (h : i < bs.length)=>nds_next bs h)
 have hAl:=Hld.mk (fun i (h : i < bs.length)=>ndsA_len bs h)
 have hTl:=Hld.mk (fun i (h : i ≤ bs.length)=>ndsT_len bs h)
 have hAe : Hld (∀ i,i < bs.length → ndsA bs i = if i % 4 = 0 then nds (bs.take i) ++ [⟨(i : Int),0,bs.getD i zBx⟩] else nds (bs.take i)):=⟨fun _ _=>rfl⟩
 have hT0 : nds (bs.take 0) = []:=by simp [nds,ndsF,cnt]
 have hTn : nds bs = nds (bs.take bs.length):=by rw [List.take_length]
 rw [hTn]
 obtain ⟨T,hT⟩ : ∃ T : Nat → List Nd,∀ i,nds (bs.take i) = T i:=⟨_,fun _=>rfl⟩
 obtain ⟨A,hA⟩ : ∃ T : Nat → List Nd,∀ i,ndsA bs i = T i:=⟨_,fun _=>rfl⟩
 simp only [hT,hA] at hN hAl hTl hAe hT0 ⊢
 clear hT hA hTn
 refine pS Tryz.func49 ?_
 intro E hE
 refine sq ⟨[(0,bxL bs)],[]⟩ ?_
 refine sq ⟨[(3,.v (.slice none 0 0)),(0,bxL bs)],[]⟩ ?_
 refine AW_mkrow 3 800 66 8 (by simp) (by simp) (by simp) (by omega) ?_
 refine AW_seqt ⟨[(3,.own 800 8 0 (T bs.length).length)],[(800,rwN (T bs.length))]⟩ ?_ (by
  intro K hK
  refine lpk (G:=Nat) (fun i=>⟨[(4,iA i),(3,.own 800 8 0 (T i).length),(0,bxL bs)],[(800,rwN (T i))]⟩) (fun i=>i ≤ bs.length) (fun i=>bs.length - i) 0 (Nat.zero_le _) ?_
  intro i hi K hK
  by_cases hlt : i < bs.length
  ·have hltI : (i : Int) < bs.length:=by omega
   obtain ⟨nd,hq,hc,hs⟩:=hN.out i hlt
   have hal:=hAl.out i hlt
   have htl:=hTl.out i hi
   have hae:=hAe.out i hlt
   have hbd : bs.getD i zBx = bs[i]:=by simp [List.getD,List.getElem?_eq_getElem hlt]
   rw [hbd] at hae
   obtain ⟨b,hb⟩ : ∃ b,bs[i] = b:=⟨_,rfl⟩
   have hbg : ∀ h : i < bs.length,bs[i] = b:=fun _=>hb
   rw [hb] at hs hae
   obtain ⟨M,hM⟩ : ∃ M,T i = M:=⟨_,rfl⟩
   obtain ⟨M1,hM1⟩ : ∃ M,A i = M:=⟨_,rfl⟩
   obtain ⟨M2,hM2⟩ : ∃ M,T (i + 1) = M:=⟨_,rfl⟩
   rw [hM,hM1] at hae
   rw [hM] at htl
   rw [hM1] at hq hal hs
   rw [hM2] at hs
   obtain ⟨n,hn⟩ : ∃ n,i / 4 = n:=⟨_,rfl⟩
   rw [hn] at hq hs hal
   refine AW_le (t:=⟨[(4,iA i),(3,.own 800 8 0 M.length),(0,bxL bs)],[(800,rwN M)]⟩) (by simp [hM]) ?_
   have hmb : M.length ≤ 100000:=by omega
   have hnb : n ≤ 100000:=by omega
   replace htl:=Hld.mk htl
   replace hn:=Hld.mk hn
   replace hM:=()
   replace hM1:=()
   replace hb:=()
   replace hM2:=Hld.mk hM2
   replace hs:=Hld.mk hs
   clear hbd
   refine sq ⟨[(4,iA i),(3,.own 800 8 0 M.length),(0,bxL bs)],[(800,rwN M)]⟩ ?_
   refine AW_seqt ⟨[(4,iA i),(3,.own 800 8 0 M2.length),(0,bxL bs)],[(800,rwN M2)]⟩ ?_ (by
    intro K hK
    refine AW_block ?_
    refine AW_seqt ⟨[(4,iA i),(3,.own 800 8 0 (n + 1)),(0,bxL bs)],[(800,rwN M1)]⟩ ?_ (by
     intro K hK
     have hMt : (M.map encN).take M.length = M.map encN:=List.take_of_length_le (by simp)
     clear hq hs
     by_cases h0 : i % 4 = 0
     ·have h0I : (i : Int).tmod 4 = 0:=(show (i : Int) % 4 = 0 by omega)
      rw [if_pos h0] at hae
      have hMl : M.length = n:=by rw [hae] at hal;simp at hal;exact hal
      subst hae
      subst hMl
      clear hal
      have z'1:=@encN.eq_1;have z'2:=@encX.eq_1;exact ga0
     ·have h0I : ¬ (i : Int).tmod 4 = 0:=(show ¬ (i : Int) % 4 = 0 by omega)
      rw [if_neg h0] at hae
      subst hae
      exact ga0)
    clear hae htl
    obtain ⟨f,k,x⟩:=nd
    have hni : (n : Int) < M1.length:=by omega
    refine sq ⟨[(5,.eloc 800 8 n 0),(4,iA i),(3,.own 800 8 0 (n + 1)),(0,bxL bs)],[(800,rwN M1)]⟩ ?_
    have hset1 : (M1.map encN).set n (encN ⟨f,k + 1,x⟩) = (M1.set n ⟨f,k + 1,x⟩).map encN:=by rw [List.map_set]
    obtain ⟨N1,hN1⟩ : ∃ N,M1.set n ⟨f,k + 1,x⟩ = N:=⟨_,rfl⟩
    have hN1l : N1.length = n + 1:=by rw [← hN1,List.length_set];exact hal
    have hq1 : N1[n]? = some ⟨f,k + 1,x⟩:=by rw [← hN1,List.getElem?_set];simp [hal]
    have hs2 : M2 = N1.set n ⟨f,k + 1,joiX x b⟩:=by rw [hs.out,← hN1,List.set_set]
    rw [hN1] at hset1
    replace hN1:=()
    have hgi : ∀ h : n < M1.length,M1[n] = ⟨f,k,x⟩:=fun h=>by rw [List.getElem?_eq_getElem h] at hq;exact Option.some.inj hq
    have hgj : ∀ h : n < N1.length,N1[n] = ⟨f,k + 1,x⟩:=fun h=>by rw [List.getElem?_eq_getElem h] at hq1;exact Option.some.inj hq1
    have hk1 : 0 ≤ k:=hc.1
    have hk2 : k ≤ 4:=hc.2
    clear hc
    refine AW_seqt ⟨[(5,.eloc 800 8 n 0),(4,iA i),(3,.own 800 8 0 (n + 1)),(0,bxL bs)],[(800,rwN N1)]⟩ ?_ (by
     intro K hK
     clear hgj hq1 hs2
     replace hset1:=Hld.mk hset1
     have z'1:=@encN.eq_1;have z'2:=@encX.eq_1;have z'3:=hset1.out.symm;exact ga0)
    have hjn:=Hld.mk (s_wjoin x b)
    obtain ⟨y,hy⟩ : ∃ y,joiX x b = y:=⟨_,rfl⟩
    rw [hy] at hjn hs2
    have hset2 : (N1.map encN).set n (.st [iA f,iA (k + 1),iA y.x0,iA y.x1,iA y.y0,iA y.y1,iA y.t0,iA y.t1]) = M2.map encN:=by rw [hs2,List.map_set];rfl
    have hM2l : M2.length = n + 1:=by rw [hs2,List.length_set];exact hN1l
    have hrow : (N1.map encN)[n]? = some (encN ⟨f,k + 1,x⟩):=by rw [List.getElem?_map,hq1];rfl
    clear hgi hq hk1 hk2 hq1 hset1 hni hal
    replace hy:=()
    replace hs2:=()
    replace hM2l:=Hld.mk hM2l
    clear hrow
    have hni : (n : Int) < N1.length:=by omega
    refine AW_drawF (fun g=>⟨[(36,if g 0 then .eloc 800 8 n 0 else .u),(37,if g 1 then .eloc 800 8 n 0 else .u),(38,if g 2 then .eloc 800 8 n 0 else .u),(39,if g 3 then .eloc 800 8 n 2 else .u),(40,if g 4 then encX x else .u),(41,if g 5 then bxL bs else .u),(42,if g 6 then iA i else .u),(43,if g 7 then .ep (encX b) else .u),(44,if g 8 then encX b else .u),(45,if g 9 then encX y else .u),(46,if g 10 then .eloc 800 8 n 0 else .u),(47,if g 11 then .eloc 800 8 n 2 else .u),(5,.eloc 800 8 n 0),(4,iA i),(3,.own 800 8 0 (n + 1)),(0,bxL bs)],
     [(800,.arr 66 8 (if g 12 then M2.map encN else N1.map encN))]⟩) mixed (by rw [hE];decide) (by decide +kernel) (by decide +kernel) (by simp) ?_ ?_
    ·intro f i o hi hdep hnot hcl K2 hK2
     have w12_9 : f 12 = true → f 9 = true:=gw
     have w9_4 : f 9 = true → f 4 = true:=gw
     clear hcl
     iterate 13 (rcases i with _|i;rotate_left)
     ·simp at hi
     all_goals (simp only [List.getElem?_cons_succ,List.getElem?_cons_zero,Option.some.injEq] at hi;subst hi)
     all_goals simp [Region.binds] at hdep
     all_goals (rcases a12 : f 12 <;> rcases a9 : f 9)
     all_goals try (exfalso;revert hdep hnot w12_9 w9_4;simp [a12,a9];done)
     all_goals (try simp [a12,a9,hnot] at w12_9)
     all_goals (try simp [a12,a9,hnot] at w9_4)
     all_goals (have k'1:=hjn;have z'1:=@encN.eq_1;have z'2:=@encX.eq_1;have z'3:=hM2l.out;exact gd1)
    ·intro f hf
     have e12:=hf 12 (by simp)
     have e9:=hf 9 (by simp)
     refine hK.h _ ?_
     simp [e12,e9,encN,encX,hM2l.out]
    all_goals simp)
   have z'1:=hM2.out;exact gli
  ·have : i = bs.length:=by omega
   subst this
   exact ga0)
 have hTt : ((T bs.length).map encN).take (T bs.length).length = (T bs.length).map encN:=List.take_of_length_le (by simp)
 refine AW_freeze 800 (cb:=rwN (T bs.length)) (t:=⟨[(3,ndL (T bs.length))],[]⟩) (by simp) (by simp [hTt]) (by simp) ?_
 exact ga0
end Go.Proofs.YtfkgaphfdpflmaaGreatDoor
