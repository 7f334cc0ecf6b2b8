/- Layer 40: the reader, Decode -/
import Derived.Test.YtbibemijcdkjhaaGreatDoorZJ
import Derived.Test.YtbibemijcdkjhaaGreatDoorZ6
import Derived.Test.YtbibemijcdkjhaaGreatDoorZ5
import Derived.LaidMore
import Derived.Stop.Joined
import Derived.Stop.LaidErr
set_option maxRecDepth 100000
set_option linter.unusedSimpArgs false
set_option linter.unusedVariables false
section
namespace Go.Proofs.YtbibemijcdkjhaaGreatDoor
open Go.Am Go.RowKit Go.Num
@[simp] theorem k_okR : okT Tryz.prog 80 = true:=by kernel_rfl
@[simp] theorem k_aggR : aggB Tryz.prog 80 = true:=by kernel_rfl
@[simp] theorem k_cellsR : Tryz.prog.cellsOf 80 = 2:=by kernel_rfl
@[simp] theorem k_bytesR : Tryz.prog.bytesOf 80 = 32:=by kernel_rfl
@[simp] theorem k_eqR : eqKinds Tryz.prog 80 = none:=by kernel_rfl
@[simp] theorem k_guardR : Tryz.prog.eqGuardType Tryz.prog.depth 80 = false:=by kernel_rfl
@[simp] theorem k_zeroR : zeroAV Tryz.prog 80 = some (AV.st [AV.v (Value.slice none 0 0),AV.v (Value.int IntKind.i64 0)]):=by kernel_rfl
@[simp] theorem k_okRp : okT Tryz.prog 78 = true:=by kernel_rfl
@[simp] theorem k_aggRp : aggB Tryz.prog 78 = false:=by kernel_rfl
@[simp] theorem k_cellsRp : Tryz.prog.cellsOf 78 = 1:=by kernel_rfl
attribute [simp] Tryz.underlying80 Tryz.underlying78
abbrev rdC (p : List Int × Int) : Ct:=.box 80 (.st [.sl 1 (p.1.map iA),iA p.2])
def nxV (p : List Int × Int) : Int:=if p.2 = 0 then p.1.headD 0 else 0
def nxN (p : List Int × Int) : List Int × Int:=if p.2 = 0 then (match p.1 with|[]=>([],22)|_ :: l=>(l,0)) else p
def ctN (p : List Int × Int) : List Int × Int:=if nxV p < 0 ∧ (nxN p).2 = 0 then ((nxN p).1,2) else nxN p
@[simp] theorem nxV_nil : nxV ([],0) = 0:=rfl
@[simp] theorem nxV_cons (n : Int) (l : List Int) : nxV (n :: l,0) = n:=rfl
@[simp] theorem nxN_nil : nxN ([],0) = ([],22):=rfl
@[simp] theorem nxN_cons (n : Int) (l : List Int) : nxN (n :: l,0) = (l,0):=rfl
theorem nx_bad {p : List Int × Int} (h : ¬ p.2 = 0) : nxV p = 0 ∧ nxN p = p:=by unfold nxV nxN;rw [if_neg h,if_neg h];exact ⟨rfl,rfl⟩
@[simp] theorem nxV_22 (l : List Int) : nxV (l,22) = 0:=rfl
@[simp] theorem nxN_22 (l : List Int) : nxN (l,22) = (l,22):=rfl
theorem nxN_le {p : List Int × Int} {k : Nat} (h : p.1.length ≤ k) : (nxN p).1.length ≤ k:=by
 obtain ⟨l,e⟩:=p
 unfold nxN
 split
 ·cases l with
  |nil=>simp
  |cons a l=>simp at h ⊢;omega
 ·exact h
theorem m_next (p : List Int × Int) (hl : p.1.length ≤ 1000000) : MSpec Tryz.prog 42 [.loc 1000000 0] [(1000000,rdC p)] (fun res bf=>res = iA (nxV p) ∧ bf 1000000 = some (rdC (nxN p))):=by
 obtain ⟨l,e⟩:=p
 by_cases h : e = 0
 ·subst h
  cases l with
  |nil =>
   simp only [nxV_nil,nxN_nil]
   refine MSpec_of Tryz.func42 rfl rfl (Nat.le_of_ble_eq_true rfl) (Nat.le_of_ble_eq_true rfl) ?_
   intro E hE
   repeat' (first
    |(with_reducible first|refine uK ?_|refine uX ?_|refine jq fun K hK=>?_|refine jb ?_)|((with_reducible first|refine rS hE ?_|refine jn ?_|refine js fun K' hK'=>?_|refine ji fun X Y hX hY=>?_|refine jr ?_|refine jk ?_|refine jx ?_);simp [*])|with_reducible refine rL hE ?_|with_reducible refine And.intro ?_ ?_|omega|(refine imp1 fun h=>?_))
  |cons n l =>
   simp only [nxV_cons,nxN_cons]
   simp only [List.length_cons] at hl
   refine MSpec_of Tryz.func42 rfl rfl (Nat.le_of_ble_eq_true rfl) (Nat.le_of_ble_eq_true rfl) ?_
   intro E hE
   repeat' (first
    |(with_reducible first|refine uK ?_|refine uX ?_|refine jq fun K hK=>?_|refine jb ?_)|((with_reducible first|refine rS hE ?_|refine jn ?_|refine js fun K' hK'=>?_|refine ji fun X Y hX hY=>?_|refine jr ?_|refine jk ?_|refine jx ?_);simp [*])|with_reducible refine rL hE ?_|with_reducible refine And.intro ?_ ?_|omega|(refine imp1 fun h=>?_))
 ·obtain ⟨h1,h2⟩:=nx_bad (p:=(l,e)) h
  rw [h1,h2]
  clear h1 h2
  by_cases hl0 : l = []
  ·subst hl0
   refine MSpec_of Tryz.func42 rfl rfl (Nat.le_of_ble_eq_true rfl) (Nat.le_of_ble_eq_true rfl) ?_
   intro E hE
   repeat' (first
    |(with_reducible first|refine uK ?_|refine uX ?_|refine jq fun K hK=>?_|refine jb ?_)|((with_reducible first|refine rS hE ?_|refine jn ?_|refine js fun K' hK'=>?_|refine ji fun X Y hX hY=>?_|refine jr ?_|refine jk ?_|refine jx ?_);simp [*])|with_reducible refine rL hE ?_|with_reducible refine And.intro ?_ ?_|omega|(refine imp1 fun h=>?_))
  ·refine MSpec_of Tryz.func42 rfl rfl (Nat.le_of_ble_eq_true rfl) (Nat.le_of_ble_eq_true rfl) ?_
   intro E hE
   repeat' (first
    |(with_reducible first|refine uK ?_|refine uX ?_|refine jq fun K hK=>?_|refine jb ?_)|((with_reducible first|refine rS hE ?_|refine jn ?_|refine js fun K' hK'=>?_|refine ji fun X Y hX hY=>?_|refine jr ?_|refine jk ?_|refine jx ?_);simp [*])|with_reducible refine rL hE ?_|with_reducible refine And.intro ?_ ?_|omega|(refine imp1 fun h=>?_))
theorem acall_rd {E : Env} {s : AState} {d : Option Tmp} {K : AState → Prop} {id : Nat} {p : List Int × Int} (hb : lk s.b id = some (rdC p)) (hl : p.1.length ≤ 1000000) (hk : K ((AState.mk s.s ((id,rdC (nxN p)) :: dropB [id] s.b)).put d (iA (nxV p)))) :
 ACall Tryz.prog E 42 [.loc id 0] s d K :=
 acall_boxes (m_next p hl) (nm [(1000000,id)]) (nm [(1000000,id)]) [(1000000,rdC (nxN p))] (iA (nxV p)) (by
  rintro res bf ⟨rfl,h1⟩
  refine ⟨rfl,?_⟩
  simp
  exact h1) (by simp [nm]) (by simp [nm];exact hb) (by simp) (by simp [nm]) (by simp) (by simp) (by simp) (by simpa [nm] using hk)
theorem m_count (p : List Int × Int) (hl : p.1.length ≤ 1000000) : MSpec Tryz.prog 43 [.loc 1000000 0] [(1000000,rdC p)] (fun res bf=>res = iA (nxV p) ∧ bf 1000000 = some (rdC (ctN p))):=by
 have hc : ctN p = if nxV p < 0 ∧ (nxN p).2 = 0 then ((nxN p).1,2) else nxN p:=rfl
 generalize ctN p = c at *
 refine MSpec_of Tryz.func43 rfl rfl (Nat.le_of_ble_eq_true rfl) (Nat.le_of_ble_eq_true rfl) ?_
 intro E hE
 repeat' (first
  |(with_reducible first|refine uK ?_|refine uX ?_|refine jq fun K hK=>?_|refine jb ?_)|((with_reducible first|refine rS hE ?_|refine jn ?_|refine js fun K' hK'=>?_|refine ji fun X Y hX hY=>?_|refine jr ?_|refine jk ?_|refine jx ?_);simp [*])|with_reducible refine rL hE ?_|(apply acall_rd;(focus (exact rfl));(focus (assumption));simp [*])|with_reducible refine And.intro ?_ ?_|omega|(refine imp1 fun h=>?_))
 all_goals rw [if_neg (by omega)]
theorem acall_ct {E : Env} {s : AState} {d : Option Tmp} {K : AState → Prop} {id : Nat} {p : List Int × Int} (hb : lk s.b id = some (rdC p)) (hl : p.1.length ≤ 1000000) (hk : K ((AState.mk s.s ((id,rdC (ctN p)) :: dropB [id] s.b)).put d (iA (nxV p)))) :
 ACall Tryz.prog E 43 [.loc id 0] s d K :=
 acall_boxes (m_count p hl) (nm [(1000000,id)]) (nm [(1000000,id)]) [(1000000,rdC (ctN p))] (iA (nxV p)) (by
  rintro res bf ⟨rfl,h1⟩
  refine ⟨rfl,?_⟩
  simp
  exact h1) (by simp [nm]) (by simp [nm];exact hb) (by simp) (by simp [nm]) (by simp) (by simp) (by simp) (by simpa [nm] using hk)
def Yd (k b u : Int) (rem : List Int) (n : Int) (p : List Int × Int) : Ed × Int :=
 if p.2 ≠ 0 then (ed0,p.2) else if (p.1.length : Int) < n then (ed0,22) else decA k b u (rem ++ p.1.take n.toNat) (p.1.drop n.toNat)
def Wd (k b u : Int) (rem : List Int) (add : List Seg) (m : Int) (p : List Int × Int) : Ed × Int :=
 if p.2 ≠ 0 then (ed0,p.2) else if (p.1.length : Int) < 9 * m then (ed0,22) else if 9 * m < (p.1.length : Int) then (ed0,5) else (⟨k,b,u,rem,add ++ segsOf p.1⟩,0)
theorem Yd_0 (k b u : Int) (rem : List Int) (n : Int) (l : List Int) : Yd k b u rem n (l,0) = if (l.length : Int) < n then (ed0,22) else decA k b u (rem ++ l.take n.toNat) (l.drop n.toNat):=by
 unfold Yd
 exact if_neg (fun h=>h rfl)
theorem Yd_e (k b u : Int) (rem : List Int) (n : Int) (l : List Int) (e : Int) (h : e ≠ 0) : Yd k b u rem n (l,e) = (ed0,e):=by
 unfold Yd
 exact if_pos h
theorem Wd_0 (k b u : Int) (rem : List Int) (add : List Seg) (m : Int) (l : List Int) : Wd k b u rem add m (l,0) = if (l.length : Int) < 9 * m then (ed0,22) else if 9 * m < (l.length : Int) then (ed0,5) else (⟨k,b,u,rem,add ++ segsOf l⟩,0):=by
 unfold Wd
 exact if_neg (fun h=>h rfl)
theorem Wd_e (k b u : Int) (rem : List Int) (add : List Seg) (m : Int) (l : List Int) (e : Int) (h : e ≠ 0) : Wd k b u rem add m (l,e) = (ed0,e):=by
 unfold Wd
 exact if_pos h
theorem ctN_def (p : List Int × Int) : ctN p = if nxV p < 0 ∧ (nxN p).2 = 0 then ((nxN p).1,2) else nxN p:=rfl
theorem ctN_cons (n : Int) (l : List Int) : ctN (n :: l,0) = if n < 0 then (l,2) else (l,0):=by
 rw [ctN_def,nxV_cons,nxN_cons]
 by_cases h : n < 0 <;> simp [h]
theorem Yd_start (L : List Int) : decN L = Yd (nxV (L,0)) (nxV (nxN (L,0))) (nxV (nxN (nxN (L,0)))) [] (nxV (nxN (nxN (nxN (L,0))))) (ctN (nxN (nxN (nxN (L,0))))):=by
 match L with
 |[]=>rfl
 |[a]=>rfl
 |[a,b]=>rfl
 |[a,b,c]=>rfl
 |k :: b :: u :: n :: l =>
  simp only [nxV_cons,nxN_cons,ctN_cons,decN]
  by_cases hn : n < 0
  ·rw [if_pos hn,if_pos hn,Yd_e _ _ _ _ _ _ _ (by decide)]
  ·rw [if_neg hn,if_neg hn,Yd_0,List.nil_append]
   by_cases h1 : (l.length : Int) < n
   ·rw [if_pos h1,if_pos (by omega)]
   ·rw [if_neg h1]
    by_cases h2 : (l.length : Int) - 1 < n
    ·rw [if_pos h2,show l.drop n.toNat = [] from List.drop_of_length_le (by omega)]
     rfl
    ·rw [if_neg h2]
theorem Yd_step (k b u : Int) (rem : List Int) (n : Int) (p : List Int × Int) (hn : 0 < n) (hp : p.2 = 0) : Yd k b u rem n p = Yd k b u (rem ++ [nxV p]) (n - 1) (nxN p):=by
 obtain ⟨l,e⟩:=p
 simp only at hp
 subst hp
 cases l with
 |nil =>
  rw [Yd_0,if_pos (by simpa using hn),nxN_nil,Yd_e _ _ _ _ _ _ _ (by decide)]
 |cons a l =>
  rw [nxV_cons,nxN_cons,Yd_0,Yd_0]
  simp only [List.length_cons]
  by_cases h : (l.length : Int) < n - 1
  ·rw [if_pos h,if_pos (by omega)]
  ·rw [if_neg h,if_neg (by omega)]
   obtain ⟨j,hj⟩ : ∃ j : Nat,n = (j : Int) + 1:=⟨(n - 1).toNat,by omega⟩
   subst hj
   rw [show ((j : Int) + 1).toNat = j + 1 by omega,show ((j : Int) + 1 - 1).toNat = j by omega]
   simp
theorem Yd_end (k b u : Int) (rem : List Int) (n : Int) (p : List Int × Int) (h : n ≤ 0 ∨ p.2 ≠ 0) : Yd k b u rem n p = Wd k b u rem [] (nxV p) (ctN p):=by
 obtain ⟨l,e⟩:=p
 by_cases he : e = 0
 ·subst he
  have hn : n ≤ 0:=by rcases h with h|h;exact h;exact (h rfl).elim
  rw [Yd_0,if_neg (by omega),show n.toNat = 0 by omega,List.take_zero,List.append_nil,List.drop_zero]
  cases l with
  |nil=>rfl
  |cons m l =>
   rw [nxV_cons,ctN_cons,decA]
   by_cases hm : m < 0
   ·rw [if_pos hm,if_pos hm,Wd_e _ _ _ _ _ _ _ _ (by decide)]
   ·rw [if_neg hm,if_neg hm,Wd_0,List.nil_append]
    by_cases h1 : (l.length : Int) < 9 * m
    ·rw [if_pos h1,if_pos (by omega)]
    ·rw [if_neg h1,if_neg (by omega)]
 ·obtain ⟨h1,h2⟩:=nx_bad (p:=(l,e)) he
  rw [h1,ctN_def,h1,if_neg (by simp),h2,Yd_e _ _ _ _ _ _ _ he,Wd_e _ _ _ _ _ _ _ _ he]
theorem Wd_step (k b u : Int) (rem : List Int) (add : List Seg) (m : Int) (p : List Int × Int) (hm : 0 < m) (hp : p.2 = 0) : Wd k b u rem add m p =
 Wd k b u rem (add ++ [⟨nxV p,nxV (nxN p),nxV (nxN (nxN p)),nxV (nxN (nxN (nxN p))),nxV (nxN (nxN (nxN (nxN p)))),nxV (nxN (nxN (nxN (nxN (nxN p))))),nxV (nxN (nxN (nxN (nxN (nxN (nxN p)))))),nxV (nxN (nxN (nxN (nxN (nxN (nxN (nxN p))))))),nxV (nxN (nxN (nxN (nxN (nxN (nxN (nxN (nxN p)))))))) ⟩]) (m - 1) (nxN (nxN (nxN (nxN (nxN (nxN (nxN (nxN (nxN p))))))))):=by
 obtain ⟨l,e⟩:=p
 simp only at hp
 subst hp
 match l with
 |[]|[_]|[_,_]|[_,_,_]|[_,_,_,_]|[_,_,_,_,_]|[_,_,_,_,_,_]|[_,_,_,_,_,_,_]|[_,_,_,_,_,_,_,_] =>
  simp only [nxV_nil,nxN_nil,nxV_cons,nxN_cons,nxV_22,nxN_22]
  rw [Wd_e _ _ _ _ _ _ _ 22 (by decide),Wd_0]
  simp only [List.length_nil,List.length_cons]
  rw [if_pos (by omega)]
 |a1 :: a2 :: a3 :: a4 :: a5 :: a6 :: a7 :: a8 :: a9 :: l =>
  simp only [nxV_cons,nxN_cons]
  rw [Wd_0,Wd_0]
  simp only [List.length_cons,segsOf,List.append_assoc,List.singleton_append]
  by_cases h1 : (l.length : Int) < 9 * (m - 1)
  ·rw [if_pos h1,if_pos (by omega)]
  ·rw [if_neg h1,if_neg (by omega)]
   by_cases h2 : 9 * (m - 1) < (l.length : Int)
   ·rw [if_pos h2,if_pos (by omega)]
   ·rw [if_neg h2,if_neg (by omega)]
structure OkP (p : List Int × Int) : Prop where
 len : p.1.length ≤ 500000
 rng : ∀ x ∈ p.1,I62 x
theorem OkP.nx {p : List Int × Int} (h : OkP p) : OkP (nxN p):=by
 refine ⟨nxN_le h.len,?_⟩
 have:=h.rng
 unfold nxN
 split
 ·cases h1 : p.1 with
  |nil=>simp
  |cons a l=>rw [h1] at this;exact fun x hx=>this x (by simp at hx;simp [hx])
 ·exact this
theorem OkP.ct {p : List Int × Int} (h : OkP p) : OkP (ctN p):=by
 rw [ctN_def]
 split
 ·exact ⟨h.nx.len,h.nx.rng⟩
 ·exact h.nx
theorem OkP.v {p : List Int × Int} (h : OkP p) : I62 (nxV p):=by
 unfold nxV
 split
 ·cases h1 : p.1 with
  |nil=>constructor <;> simp
  |cons a l=>simpa using h.rng a (by simp [h1])
 ·omega
theorem OkP.le {p : List Int × Int} (h : OkP p) : p.1.length ≤ 1000000:=by have:=h.len;omega
theorem nx_sum {p : List Int × Int} (h : (nxN p).2 = 0) : p.2 = 0 ∧ (nxN p).1.length + 1 = p.1.length:=by
 obtain ⟨l,e⟩:=p
 by_cases he : e = 0
 ·subst he
  refine ⟨rfl,?_⟩
  cases l with
  |nil=>simp at h
  |cons a l=>simp
 ·rw [(nx_bad (p:=(l,e)) he).2] at h
  exact (he h).elim
theorem ct_sum {p : List Int × Int} (h : (ctN p).2 = 0) : p.2 = 0 ∧ (ctN p).1.length ≤ p.1.length ∧ 0 ≤ nxV p:=by
 rw [ctN_def] at h ⊢
 by_cases h1 : nxV p < 0 ∧ (nxN p).2 = 0
 ·rw [if_pos h1] at h
  simp at h
 ·rw [if_neg h1] at h ⊢
  obtain ⟨h2,h3⟩:=nx_sum h
  exact ⟨h2,by omega,by omega⟩
structure I1 (k b u : Int) (R : Ed × Int) (rem : List Int) (n : Int) (p : List Int × Int) : Prop where
 ok : OkP p
 n1 : n ≤ 4611686018427387904
 r1 : rem.length ≤ 500001
 sum : p.2 = 0 → rem.length + p.1.length ≤ 500000
 rel : Yd k b u rem n p = R
theorem I1.step {k b u : Int} {R : Ed × Int} {rem : List Int} {n : Int} {p : List Int × Int} (h : I1 k b u R rem n p) (hn : 0 < n) (hp : p.2 = 0) : I1 k b u R (rem ++ [nxV p]) (n - 1) (nxN p):=by
 have h1:=h.n1
 have h2:=h.sum hp
 refine ⟨h.ok.nx,by omega,by simp;omega,fun h3=>?_,(Yd_step k b u rem n p hn hp).symm.trans h.rel⟩
 have:=nx_sum h3
 simp
 omega
structure I2 (k b u : Int) (R : Ed × Int) (rem : List Int) (add : List Seg) (m : Int) (p : List Int × Int) : Prop where
 ok : OkP p
 n1 : m ≤ 4611686018427387904
 n0 : p.2 = 0 → 0 ≤ m
 r1 : add.length ≤ 500001
 sum : p.2 = 0 → add.length + p.1.length ≤ 500000
 rel : Wd k b u rem add m p = R
theorem I1.two {k b u : Int} {R : Ed × Int} {rem : List Int} {n : Int} {p : List Int × Int} (h : I1 k b u R rem n p) (he : n ≤ 0 ∨ p.2 ≠ 0) : I2 k b u R rem [] (nxV p) (ctN p):=by
 have h1:=h.ok.v
 have h2:=h.ok.len
 refine ⟨h.ok.ct,h1.2,fun h3=>(ct_sum h3).2.2,by simp,fun h3=>?_,(Yd_end k b u rem n p he).symm.trans h.rel⟩
 have:=ct_sum h3
 simp
 omega
def segP (p : List Int × Int) : Seg:=⟨nxV p,nxV (nxN p),nxV (nxN (nxN p)),nxV (nxN (nxN (nxN p))),nxV (nxN (nxN (nxN (nxN p)))),nxV (nxN (nxN (nxN (nxN (nxN p))))),nxV (nxN (nxN (nxN (nxN (nxN (nxN p)))))),nxV (nxN (nxN (nxN (nxN (nxN (nxN (nxN p))))))),nxV (nxN (nxN (nxN (nxN (nxN (nxN (nxN (nxN p)))))))) ⟩
theorem I2.step {k b u : Int} {R : Ed × Int} {rem : List Int} {add : List Seg} {m : Int} {p : List Int × Int} (h : I2 k b u R rem add m p) (hm : 0 < m) (hp : p.2 = 0) : I2 k b u R rem (add ++ [segP p]) (m - 1) (nxN (nxN (nxN (nxN (nxN (nxN (nxN (nxN (nxN p))))))))):=by
 have h1:=h.n1
 have h2:=h.sum hp
 refine ⟨h.ok.nx.nx.nx.nx.nx.nx.nx.nx.nx,by omega,fun _=>by omega,by simp;omega,fun h3=>?_,(Wd_step k b u rem add m p hm hp).symm.trans h.rel⟩
 obtain ⟨g9,g9'⟩:=nx_sum h3
 obtain ⟨g8,g8'⟩:=nx_sum g9
 obtain ⟨g7,g7'⟩:=nx_sum g8
 obtain ⟨g6,g6'⟩:=nx_sum g7
 obtain ⟨g5,g5'⟩:=nx_sum g6
 obtain ⟨g4,g4'⟩:=nx_sum g5
 obtain ⟨g3,g3'⟩:=nx_sum g4
 obtain ⟨g2,g2'⟩:=nx_sum g3
 obtain ⟨g1,g1'⟩:=nx_sum g2
 simp
 omega
theorem I2.bad {k b u : Int} {R : Ed × Int} {rem : List Int} {add : List Seg} {m : Int} {p : List Int × Int} (h : I2 k b u R rem add m p) (hp : ¬ p.2 = 0) : R = (ed0,p.2):=by
 rw [← h.rel]
 exact Wd_e _ _ _ _ _ _ p.1 p.2 hp
theorem I2.form {k b u : Int} {R : Ed × Int} {rem : List Int} {add : List Seg} {m : Int} {p : List Int × Int} (h : I2 k b u R rem add m p) (hm : ¬ 0 < m) (hp : p.2 = 0) (hl : ¬ p.1 = []) : R = (ed0,5):=by
 have h1:=h.n0 hp
 have h2:=h.rel
 obtain ⟨l,e⟩:=p
 simp only at hp hl
 subst hp
 have:=List.length_pos_iff.2 hl
 rw [← h2,Wd_0,if_neg (by omega),if_pos (by omega)]
theorem I2.good {k b u : Int} {R : Ed × Int} {rem : List Int} {add : List Seg} {m : Int} {p : List Int × Int} (h : I2 k b u R rem add m p) (hm : ¬ 0 < m) (hp : p.2 = 0) (hl : p.1 = []) : R = (⟨k,b,u,rem,add⟩,0):=by
 have h1:=h.n0 hp
 have h2:=h.rel
 obtain ⟨l,e⟩:=p
 simp only at hp hl
 subst hp
 subst hl
 rw [← h2,Wd_0,if_neg (by simp;omega),if_neg (by simp;omega)]
 simp [segsOf]
def resA (r : Ed × Int) : AV:=.tup [encE r.1,iA r.2]
abbrev zeC : AV:=.st [iA 0,iA 0,iA 0,.v (.slice none 0 0),.v (.slice none 0 0)]
theorem resA_bad {bf : Nat → Option Ct} {c : Int} : DView bf (.tup [zeC,iA c]) (resA (ed0,c)) :=
 DView.tupL ⟨DView.stL (by simp) ⟨.base (by simp [ed0]),.base (by simp [ed0]),.base (by simp [ed0]),.base (by simp [ed0]),.base (by simp [ed0]),trivial⟩,.base (by simp),trivial⟩
theorem encE_mk (k b u : Int) (rem : List Int) (add : List Seg) : encE ⟨k,b,u,rem,add⟩ = .st [iA k,iA b,iA u,.sl 1 (rem.map iA),segL add]:=rfl
set_option maxHeartbeats 8000000 in
theorem s_decode (s0 : List UInt8) (hl : s0.length ≤ 1000000) : PSpecL Tryz.prog LW 14 [strB s0] (resA (decS s0)):=by
 have hln:=Hld.mk (s_lines s0 hl)
 have hR : (match numsOf s0 with|none=>(ed0,15)|some l=>decN l) = decS s0:=rfl
 have hlen : ∀ L,numsOf s0 = some L → L.length ≤ 500000:=by
  intro L h
  have:=(numsOf_some h).1
  have h2:=lns_ge L
  rw [← this] at h2
  omega
 generalize decS s0 = R at *
 unfold linesR at hln
 cases hn : numsOf s0 with
 |none =>
  rw [hn] at hln hR
  simp only at hln hR
  subst hR
  clear hlen hn
  refine PSpecL_ofD stays_LW Tryz.func14 rfl rfl (Nat.le_of_ble_eq_true rfl) (Nat.le_of_ble_eq_true rfl) ?_
  intro E hE hLd
  repeat' (first
   |(with_reducible first|refine uK ?_|refine uQ ?_|refine uX ?_|refine jq fun K hK=>?_|refine jb ?_)|(with_reducible refine rS hE ?_;simp [*])|with_reducible refine rL hE ?_|(((with_reducible show RK _ _ _ _ _ _);first|refine jn ?_|refine js fun K' hK'=>?_);simp [*])|with_reducible refine rD mixed hE ?_|((with_reducible show RKQ _ _ _ _ _ _);first|refine RKQ_nilk ⟨by decide,?_⟩|(refine jv fun K' hK'=>?_;simp [*]))|((with_reducible first|refine ji fun X Y hX hY=>?_|refine jr ?_|refine jk ?_|refine jx ?_);simp [*])|(refine acall_sameL hLd (hln.out) ?_ ?_ ?_;(iterate 2 focus (simp [*] <;> fail));simp [*])|with_reducible refine And.intro ?_ ?_|omega|(refine imp1 fun h=>?_))
  all_goals exact resA_bad
 |some L =>
  rw [hn] at hln hR
  have hL:=hlen L hn
  simp only at hln hR
  have hrg:=(numsOf_some hn).2
  clear hlen hn
  rw [Yd_start] at hR
  obtain ⟨p0,hp0⟩ : ∃ p0 : List Int × Int,p0 = (L,0):=⟨_,rfl⟩
  rw [← hp0] at hR
  have hp1 : p0.1 = L:=by rw [hp0]
  have hp2 : p0.2 = 0:=by rw [hp0]
  have hq : OkP p0:=⟨by rw [hp1];exact hL,by rw [hp1];exact hrg⟩
  clear hp0 hrg
  generalize hk : nxV p0 = k at *
  have hq1:=hq.nx
  generalize hb : nxV (nxN p0) = b at *
  have hq2:=hq1.nx
  generalize hu : nxV (nxN (nxN p0)) = u at *
  have hq3:=hq2.nx
  refine PSpecL_ofD stays_LW Tryz.func14 rfl rfl (Nat.le_of_ble_eq_true rfl) (Nat.le_of_ble_eq_true rfl) ?_
  intro E hE hLd
  refine AW_seqt ⟨[(2,.loc 2 0),(0,strB s0)],[(2,.box 36 zeC)]⟩ ?_ (by
   intro K hK
   repeat' (first
    |(with_reducible first|refine uK ?_|refine uX ?_|refine jq fun K hK=>?_|refine jb ?_)|((with_reducible first|refine rS hE ?_|refine jn ?_|refine js fun K' hK'=>?_|refine ji fun X Y hX hY=>?_|refine jr ?_|refine jk ?_|refine jx ?_);simp [*])|with_reducible refine rL hE ?_|with_reducible refine And.intro ?_ ?_|omega|(refine imp1 fun h=>?_))
   all_goals simp)
  refine AW_seqt ⟨[(4,.sl 1 (L.map iA)),(5,bA true),(2,.loc 2 0)],[(2,.box 36 zeC)]⟩ ?_ (by
   intro K hK
   repeat' (first
    |(with_reducible first|refine uK ?_|refine uQ ?_|refine uX ?_|refine jq fun K hK=>?_|refine jb ?_)|(with_reducible refine rS hE ?_;simp [*])|with_reducible refine rL hE ?_|(((with_reducible show RK _ _ _ _ _ _);first|refine jn ?_|refine js fun K' hK'=>?_);simp [*])|with_reducible refine rD mixed hE ?_|((with_reducible show RKQ _ _ _ _ _ _);first|refine RKQ_nilk ⟨by decide,?_⟩|(refine jv fun K' hK'=>?_;simp [*]))|((with_reducible first|refine ji fun X Y hX hY=>?_|refine jr ?_|refine jk ?_|refine jx ?_);simp [*])|(refine acall_sameL hLd (hln.out) ?_ ?_ ?_;(iterate 2 focus (simp [*] <;> fail));simp [*])|with_reducible refine And.intro ?_ ?_|omega|(refine imp1 fun h=>?_))
   all_goals simp)
  clear hln
  refine AW_seqt ⟨[(4,.sl 1 (L.map iA)),(2,.loc 2 0)],[(2,.box 36 zeC)]⟩ ?_ (by
   intro K hK
   repeat' (first
    |(with_reducible first|refine uK ?_|refine uX ?_|refine jq fun K hK=>?_|refine jb ?_)|((with_reducible first|refine rS hE ?_|refine jn ?_|refine js fun K' hK'=>?_|refine ji fun X Y hX hY=>?_|refine jr ?_|refine jk ?_|refine jx ?_);simp [*])|with_reducible refine rL hE ?_|with_reducible refine And.intro ?_ ?_|omega|(refine imp1 fun h=>?_))
   all_goals simp)
  refine AW_seqt ⟨[(6,.loc 21 0),(2,.loc 2 0)],[(21,rdC p0),(2,.box 36 zeC)]⟩ ?_ (by
   intro K hK
   repeat' (first
    |(with_reducible first|refine uK ?_|refine uX ?_|refine jq fun K hK=>?_|refine jb ?_)|((with_reducible first|refine rS hE ?_|refine jn ?_|refine js fun K' hK'=>?_|refine ji fun X Y hX hY=>?_|refine jr ?_|refine jk ?_|refine jx ?_);simp [*])|with_reducible refine rL hE ?_|with_reducible refine And.intro ?_ ?_|omega|(refine imp1 fun h=>?_))
   all_goals simp [hp1,hp2])
  clear hp1 hp2 hL
  refine AW_seqt ⟨[(7,.loc 7 0),(6,.loc 21 0),(2,.loc 2 0)],[(21,rdC (nxN (nxN (nxN p0)))),(7,.box 36 (.st [iA k,iA b,iA u,.v (.slice none 0 0),.v (.slice none 0 0)])),(2,.box 36 zeC)]⟩ ?_ (by
   intro K hK
   repeat' (first
    |(with_reducible first|refine uK ?_|refine uX ?_|refine jq fun K hK=>?_|refine jb ?_)|((with_reducible first|refine rS hE ?_|refine jn ?_|refine js fun K' hK'=>?_|refine ji fun X Y hX hY=>?_|refine jr ?_|refine jk ?_|refine jx ?_);simp [*])|with_reducible refine rL hE ?_|(apply acall_rd;(focus (exact rfl));(focus ((refine OkP.le ?_;assumption)));simp [*])|with_reducible refine And.intro ?_ ?_|omega|(refine imp1 fun h=>?_))
   all_goals simp)
  clear hk hb hu hq hq1 hq2
  generalize nxN (nxN (nxN p0)) = p at *
  refine AW_mkrowC 7 801 3 1 36 3 (cs:=[iA k,iA b,iA u,.v (.slice none 0 0),.v (.slice none 0 0)]) (by simp) rfl (by simp) (by simp) (by omega) ?_
  refine AW_mkrowC 7 802 70 9 36 4 (cs:=[iA k,iA b,iA u,.own 801 1 0 0,.v (.slice none 0 0)]) (by simp) rfl (by simp) (by simp) (by omega) ?_
  have hi1 : I1 k b u R [] (nxV p) (ctN p):=⟨hq3.ct,hq3.v.2,by simp,fun _=>by simpa using hq3.ct.len,hR⟩
  clear hR
  refine AW_seqx (fun t=>∃ rem n p,t = ⟨[(7,.loc 7 0),(6,.loc 21 0),(2,.loc 2 0)],[(21,rdC p),(7,.box 36 (.st [iA k,iA b,iA u,.own 801 1 0 rem.length,.own 802 9 0 0])),(801,.arr 3 1 (rem.map iA)),(802,.arr 70 9 []),(2,.box 36 zeC)]⟩ ∧ I1 k b u R rem n p ∧ (n ≤ 0 ∨ p.2 ≠ 0)) ?_ ?_
  rotate_left
  ·intro K0 hK0
   refine AW_seqt ⟨[(8,iA (nxV p)),(7,.loc 7 0),(6,.loc 21 0),(2,.loc 2 0)],[(21,rdC (ctN p)),(7,.box 36 (.st [iA k,iA b,iA u,.own 801 1 0 0,.own 802 9 0 0])),(801,.arr 3 1 []),(802,.arr 70 9 []),(2,.box 36 zeC)]⟩ ?_ (by
    intro K hK
    repeat' (first
     |(with_reducible first|refine uK ?_|refine uX ?_|refine jq fun K hK=>?_|refine jb ?_)|((with_reducible first|refine rS hE ?_|refine jn ?_|refine js fun K' hK'=>?_|refine ji fun X Y hX hY=>?_|refine jr ?_|refine jk ?_|refine jx ?_);simp [*])|with_reducible refine rL hE ?_|(apply acall_ct;(focus (exact rfl));(focus ((refine OkP.le ?_;assumption)));simp [*])|with_reducible refine And.intro ?_ ?_|omega|(refine imp1 fun h=>?_))
    all_goals simp)
   clear hq3
   generalize nxV p = n0 at *
   generalize ctN p = p1 at *
   repeat' (first
    |(with_reducible first|refine uK ?_|refine uX ?_|refine jq fun K hK=>?_|refine jb ?_)|((with_reducible first|refine rS hE ?_|refine jn ?_|refine js fun K' hK'=>?_|refine ji fun X Y hX hY=>?_|refine jr ?_|refine jk ?_|refine jx ?_);simp [*])|with_reducible refine rL hE ?_|with_reducible refine And.intro ?_ ?_|omega|(refine imp1 fun h=>?_))
   refine AW_loopk (G:=List Int × Int × (List Int × Int)) (fun g=>⟨[(8,iA g.2.1),(7,.loc 7 0),(6,.loc 21 0),(2,.loc 2 0)],[(21,rdC g.2.2),(7,.box 36 (.st [iA k,iA b,iA u,.own 801 1 0 g.1.length,.own 802 9 0 0])),(801,.arr 3 1 (g.1.map iA)),(802,.arr 70 9 []),(2,.box 36 zeC)]⟩)
    (fun g=>I1 k b u R g.1 g.2.1 g.2.2) (fun g=>g.2.1.toNat) ([],n0,p1) hi1 (by simp) ?_
   clear hi1
   rintro ⟨rem,n,p⟩ hi K hK
   simp only at hi ⊢
   by_cases hn : 0 < n
   ·by_cases hp : p.2 = 0
    ·have hi':=hi.step hn hp
     have hn1:=hi.n1
     have hr1:=hi.r1
     have hok:=hi.ok
     have htk : List.take (rem.length + 1) (List.map iA rem ++ [iA (nxV p)]) = List.map iA rem ++ [iA (nxV p)]:=List.take_of_length_le (by simp)
     refine AW_seqt ⟨[(8,iA n),(7,.loc 7 0),(6,.loc 21 0),(2,.loc 2 0)],[(21,rdC p),(7,.box 36 (.st [iA k,iA b,iA u,.own 801 1 0 rem.length,.own 802 9 0 0])),(801,.arr 3 1 (rem.map iA)),(802,.arr 70 9 []),(2,.box 36 zeC)]⟩ ?_ (by
      intro K3 hK3
      clear hi hi' htk
      repeat' (first
       |(with_reducible first|refine uK ?_|refine uX ?_|refine jq fun K hK=>?_|refine jb ?_)|((with_reducible first|refine rS hE ?_|refine jn ?_|refine js fun K' hK'=>?_|refine ji fun X Y hX hY=>?_|refine jr ?_|refine jk ?_|refine jx ?_);simp [*])|with_reducible refine rL hE ?_|with_reducible refine And.intro ?_ ?_|omega|(refine imp1 fun h=>?_))
      all_goals simp [hp])
     clear hp hi
     refine AW_seqt ⟨[(8,iA n),(7,.loc 7 0),(6,.loc 21 0),(2,.loc 2 0)],[(21,rdC (nxN p)),(7,.box 36 (.st [iA k,iA b,iA u,.own 801 1 0 (rem ++ [nxV p]).length,.own 802 9 0 0])),(801,.arr 3 1 ((rem ++ [nxV p]).map iA)),(802,.arr 70 9 []),(2,.box 36 zeC)]⟩ ?_ ?_
     ·clear htk
      repeat' (first
       |(with_reducible first|refine uK ?_|refine uX ?_|refine jq fun K hK=>?_|refine jb ?_)|((with_reducible first|refine rS hE ?_|refine jn ?_|refine js fun K' hK'=>?_|refine ji fun X Y hX hY=>?_|refine jr ?_|refine jk ?_|refine jx ?_);simp [*])|with_reducible refine rL hE ?_|with_reducible refine And.intro ?_ ?_|omega|(refine imp1 fun h=>?_))
      exact ⟨(rem ++ [nxV p],n - 1,nxN p),hi',by simp only;omega,by simp⟩
     ·intro K3 hK3
      clear hi'
      refine AW_block ?_
      refine AW_drawHd ⟨[],[]⟩ mixed (by simp) fun E' hE'=>?_
      have hEn:=hE'.trans hE
      repeat' (first
       |(with_reducible first|refine useK (by assumption) ?_|refine useK3 (by assumption) ?_)|((with_reducible show DHd _ _ _ _ _ _ _);first|(refine DHd_done (by decide +kernel) ?_;try simp only [thenK,inBlk])|(refine dt hEn 0 fun K' hK'=>?_;simp [*];fail_if_success (with_reducible show False))|(refine dt hEn 1 fun K' hK'=>?_;simp [*];fail_if_success (with_reducible show False))|(refine dt hEn 2 fun K' hK'=>?_;simp [*];fail_if_success (with_reducible show False))|(refine dt hEn 3 fun K' hK'=>?_;simp [*];fail_if_success (with_reducible show False))|(refine dt hEn 4 fun K' hK'=>?_;simp [*];fail_if_success (with_reducible show False))|(refine dt hEn 5 fun K' hK'=>?_;simp [*];fail_if_success (with_reducible show False))|(refine dt hEn 6 fun K' hK'=>?_;simp [*];fail_if_success (with_reducible show False))|(refine dt hEn 7 fun K' hK'=>?_;simp [*];fail_if_success (with_reducible show False))|(refine dp hEn 0 fun K' hK'=>?_;simp [*];fail_if_success (with_reducible show False))|(refine dp hEn 1 fun K' hK'=>?_;simp [*];fail_if_success (with_reducible show False))|(refine dp hEn 2 fun K' hK'=>?_;simp [*];fail_if_success (with_reducible show False))|(refine dp hEn 3 fun K' hK'=>?_;simp [*];fail_if_success (with_reducible show False))|(refine dp hEn 4 fun K' hK'=>?_;simp [*];fail_if_success (with_reducible show False))|(refine dp hEn 5 fun K' hK'=>?_;simp [*];fail_if_success (with_reducible show False))|(refine dp hEn 6 fun K' hK'=>?_;simp [*];fail_if_success (with_reducible show False))|(refine dp hEn 7 fun K' hK'=>?_;simp [*];fail_if_success (with_reducible show False))|refine DHd_any rfl (by decide +kernel) ?_)|exact DHsome_nil|refine DHsome_no (by decide +kernel) ?_|(refine DHsome_yes (by exact rfl) rfl (by rw [hEn];decide) (fun K' hK'=>?_) ?_;simp [*];fail_if_success (with_reducible show False))|(refine DHsome_yesG (by exact rfl) rfl (by exact rfl) (by rw [hEn];decide) (fun K' hK'=>?_) ?_;simp [*];fail_if_success (with_reducible show False))|(apply acall_rd;(focus (exact rfl));(focus ((refine OkP.le ?_;assumption)));simp [*])|with_reducible refine And.intro ?_ ?_|omega|(with_reducible refine imp1 fun h=>?_))
      all_goals simp
    ·have hx : (∃ rem' n' p',(⟨[(7,.loc 7 0),(6,.loc 21 0),(2,.loc 2 0)],[(21,rdC p),(7,.box 36 (.st [iA k,iA b,iA u,.own 801 1 0 rem.length,.own 802 9 0 0])),(801,.arr 3 1 (rem.map iA)),(802,.arr 70 9 []),(2,.box 36 zeC)]⟩ : AState) = ⟨[(7,.loc 7 0),(6,.loc 21 0),(2,.loc 2 0)],[(21,rdC p'),(7,.box 36 (.st [iA k,iA b,iA u,.own 801 1 0 rem'.length,.own 802 9 0 0])),(801,.arr 3 1 (rem'.map iA)),(802,.arr 70 9 []),(2,.box 36 zeC)]⟩ ∧ I1 k b u R rem' n' p' ∧ (n' ≤ 0 ∨ p'.2 ≠ 0)):=⟨rem,n,p,rfl,hi,.inr hp⟩
     replace hx:=Hld.mk hx
     repeat' (first
      |(with_reducible first|refine uK ?_|refine uX ?_|refine jq fun K hK=>?_|refine jb ?_)|((with_reducible first|refine rS hE ?_|refine jn ?_|refine js fun K' hK'=>?_|refine ji fun X Y hX hY=>?_|refine jr ?_|refine jk ?_|refine jx ?_);simp [*])|with_reducible refine rL hE ?_|with_reducible refine And.intro ?_ ?_|omega|(refine imp1 fun h=>?_))
     exact ⟨_,hx.out,by simp⟩
   ·have hx : (∃ rem' n' p',(⟨[(7,.loc 7 0),(6,.loc 21 0),(2,.loc 2 0)],[(21,rdC p),(7,.box 36 (.st [iA k,iA b,iA u,.own 801 1 0 rem.length,.own 802 9 0 0])),(801,.arr 3 1 (rem.map iA)),(802,.arr 70 9 []),(2,.box 36 zeC)]⟩ : AState) = ⟨[(7,.loc 7 0),(6,.loc 21 0),(2,.loc 2 0)],[(21,rdC p'),(7,.box 36 (.st [iA k,iA b,iA u,.own 801 1 0 rem'.length,.own 802 9 0 0])),(801,.arr 3 1 (rem'.map iA)),(802,.arr 70 9 []),(2,.box 36 zeC)]⟩ ∧ I1 k b u R rem' n' p' ∧ (n' ≤ 0 ∨ p'.2 ≠ 0)):=⟨rem,n,p,rfl,hi,.inl (by omega)⟩
    replace hx:=Hld.mk hx
    repeat' (first
     |(with_reducible first|refine uK ?_|refine uX ?_|refine jq fun K hK=>?_|refine jb ?_)|((with_reducible first|refine rS hE ?_|refine jn ?_|refine js fun K' hK'=>?_|refine ji fun X Y hX hY=>?_|refine jr ?_|refine jk ?_|refine jx ?_);simp [*])|with_reducible refine rL hE ?_|with_reducible refine And.intro ?_ ?_|omega|(refine imp1 fun h=>?_))
    exact ⟨_,hx.out,by simp⟩
  clear hi1 hq3
  rintro t ⟨rem,n,p,rfl,hi1,hend⟩
  have hi2:=hi1.two hend
  have hok:=hi1.ok
  have hr1:=hi1.r1
  clear hi1 hend
  refine AW_seqx (fun t=>∃ add m p,t = ⟨[(7,.loc 7 0),(6,.loc 21 0),(2,.loc 2 0)],[(21,rdC p),(7,.box 36 (.st [iA k,iA b,iA u,.own 801 1 0 rem.length,.own 802 9 0 add.length])),(801,.arr 3 1 (rem.map iA)),(802,.arr 70 9 (add.map encS)),(2,.box 36 zeC)]⟩ ∧ I2 k b u R rem add m p ∧ (¬ 0 < m ∨ ¬ p.2 = 0)) ?_ ?_
  rotate_left
  ·intro K0 hK0
   refine AW_seqt ⟨[(9,iA (nxV p)),(7,.loc 7 0),(6,.loc 21 0),(2,.loc 2 0)],[(21,rdC (ctN p)),(7,.box 36 (.st [iA k,iA b,iA u,.own 801 1 0 rem.length,.own 802 9 0 ([] : List Seg).length])),(801,.arr 3 1 (rem.map iA)),(802,.arr 70 9 (([] : List Seg).map encS)),(2,.box 36 zeC)]⟩ ?_ (by
    intro K hK
    repeat' (first
     |(with_reducible first|refine uK ?_|refine uX ?_|refine jq fun K hK=>?_|refine jb ?_)|((with_reducible first|refine rS hE ?_|refine jn ?_|refine js fun K' hK'=>?_|refine ji fun X Y hX hY=>?_|refine jr ?_|refine jk ?_|refine jx ?_);simp [*])|with_reducible refine rL hE ?_|(apply acall_ct;(focus (exact rfl));(focus ((refine OkP.le ?_;assumption)));simp [*])|with_reducible refine And.intro ?_ ?_|omega|(refine imp1 fun h=>?_))
    all_goals simp)
   clear hok
   generalize nxV p = n0 at *
   generalize ctN p = p1 at *
   repeat' (first
    |(with_reducible first|refine uK ?_|refine uX ?_|refine jq fun K hK=>?_|refine jb ?_)|((with_reducible first|refine rS hE ?_|refine jn ?_|refine js fun K' hK'=>?_|refine ji fun X Y hX hY=>?_|refine jr ?_|refine jk ?_|refine jx ?_);simp [*])|with_reducible refine rL hE ?_|with_reducible refine And.intro ?_ ?_|omega|(refine imp1 fun h=>?_))
   refine AW_loopk (G:=List Seg × Int × (List Int × Int)) (fun g=>⟨[(9,iA g.2.1),(7,.loc 7 0),(6,.loc 21 0),(2,.loc 2 0)],[(21,rdC g.2.2),(7,.box 36 (.st [iA k,iA b,iA u,.own 801 1 0 rem.length,.own 802 9 0 g.1.length])),(801,.arr 3 1 (rem.map iA)),(802,.arr 70 9 (g.1.map encS)),(2,.box 36 zeC)]⟩)
    (fun g=>I2 k b u R rem g.1 g.2.1 g.2.2) (fun g=>g.2.1.toNat) ([],n0,p1) hi2 (by simp) ?_
   clear hi2
   rintro ⟨add,m,p⟩ hi K hK
   simp only at hi ⊢
   have out : (¬ 0 < m ∨ ¬ p.2 = 0) → Hld (∃ add' m' p',(⟨[(7,.loc 7 0),(6,.loc 21 0),(2,.loc 2 0)],[(21,rdC p),(7,.box 36 (.st [iA k,iA b,iA u,.own 801 1 0 rem.length,.own 802 9 0 add.length])),(801,.arr 3 1 (rem.map iA)),(802,.arr 70 9 (add.map encS)),(2,.box 36 zeC)]⟩ : AState) = ⟨[(7,.loc 7 0),(6,.loc 21 0),(2,.loc 2 0)],[(21,rdC p'),(7,.box 36 (.st [iA k,iA b,iA u,.own 801 1 0 rem.length,.own 802 9 0 add'.length])),(801,.arr 3 1 (rem.map iA)),(802,.arr 70 9 (add'.map encS)),(2,.box 36 zeC)]⟩ ∧ I2 k b u R rem add' m' p' ∧ (¬ 0 < m' ∨ ¬ p'.2 = 0)):=fun h=>⟨add,m,p,rfl,hi,h⟩
   by_cases hm : 0 < m
   ·by_cases hp : p.2 = 0
    ·have hi':=hi.step hm hp
     have hn1:=hi.n1
     have ha1:=hi.r1
     have hok:=hi.ok
     clear out
     refine AW_seqt ⟨[(9,iA m),(7,.loc 7 0),(6,.loc 21 0),(2,.loc 2 0)],[(21,rdC p),(7,.box 36 (.st [iA k,iA b,iA u,.own 801 1 0 rem.length,.own 802 9 0 add.length])),(801,.arr 3 1 (rem.map iA)),(802,.arr 70 9 (add.map encS)),(2,.box 36 zeC)]⟩ ?_ (by
      intro K3 hK3
      clear hi hi'
      repeat' (first
       |(with_reducible first|refine uK ?_|refine uX ?_|refine jq fun K hK=>?_|refine jb ?_)|((with_reducible first|refine rS hE ?_|refine jn ?_|refine js fun K' hK'=>?_|refine ji fun X Y hX hY=>?_|refine jr ?_|refine jk ?_|refine jx ?_);simp [*])|with_reducible refine rL hE ?_|with_reducible refine And.intro ?_ ?_|omega|(refine imp1 fun h=>?_))
      all_goals simp [hp])
     clear hp hi
     have hs : encS (segP p) = .st [iA (nxV p),iA (nxV (nxN p)),iA (nxV (nxN (nxN p))),iA (nxV (nxN (nxN (nxN p)))),iA (nxV (nxN (nxN (nxN (nxN p))))),iA (nxV (nxN (nxN (nxN (nxN (nxN p)))))),iA (nxV (nxN (nxN (nxN (nxN (nxN (nxN p))))))),iA (nxV (nxN (nxN (nxN (nxN (nxN (nxN (nxN p)))))))),iA (nxV (nxN (nxN (nxN (nxN (nxN (nxN (nxN (nxN p)))))))))]:=rfl
     have k1:=hok.nx
     have k2:=k1.nx
     have k3:=k2.nx
     have k4:=k3.nx
     have k5:=k4.nx
     have k6:=k5.nx
     have k7:=k6.nx
     have k8:=k7.nx
     have k9:=k8.nx
     generalize segP p = sg at *
     refine AW_seqt ⟨[(9,iA m),(7,.loc 7 0),(6,.loc 21 0),(2,.loc 2 0)],[(21,rdC (nxN (nxN (nxN (nxN (nxN (nxN (nxN (nxN (nxN p)))))))))),(7,.box 36 (.st [iA k,iA b,iA u,.own 801 1 0 rem.length,.own 802 9 0 (add ++ [sg]).length])),(801,.arr 3 1 (rem.map iA)),(802,.arr 70 9 ((add ++ [sg]).map encS)),(2,.box 36 zeC)]⟩ ?_ ?_
     ·clear hs k1 k2 k3 k4 k5 k6 k7 k8 k9
      repeat' (first
       |(with_reducible first|refine uK ?_|refine uX ?_|refine jq fun K hK=>?_|refine jb ?_)|((with_reducible first|refine rS hE ?_|refine jn ?_|refine js fun K' hK'=>?_|refine ji fun X Y hX hY=>?_|refine jr ?_|refine jk ?_|refine jx ?_);simp [*])|with_reducible refine rL hE ?_|with_reducible refine And.intro ?_ ?_|omega|(refine imp1 fun h=>?_))
      exact ⟨(add ++ [sg],m - 1,nxN (nxN (nxN (nxN (nxN (nxN (nxN (nxN (nxN p))))))))),hi',by simp only;omega,by simp⟩
     ·intro K3 hK3
      clear hi'
      repeat' (first
       |(with_reducible first|refine uK ?_|refine uX ?_|refine jq fun K hK=>?_|refine jb ?_)|((with_reducible first|refine rS hE ?_|refine jn ?_|refine js fun K' hK'=>?_|refine ji fun X Y hX hY=>?_|refine jr ?_|refine jk ?_|refine jx ?_);simp [*])|with_reducible refine rL hE ?_|(apply acall_rd;(focus (exact rfl));(focus ((refine OkP.le ?_;assumption)));simp [*])|with_reducible refine And.intro ?_ ?_|omega|(refine imp1 fun h=>?_))
      all_goals simp [hs]
    ·have hx:=out (.inr hp)
     clear hi out
     repeat' (first
      |(with_reducible first|refine uK ?_|refine uX ?_|refine jq fun K hK=>?_|refine jb ?_)|((with_reducible first|refine rS hE ?_|refine jn ?_|refine js fun K' hK'=>?_|refine ji fun X Y hX hY=>?_|refine jr ?_|refine jk ?_|refine jx ?_);simp [*])|with_reducible refine rL hE ?_|with_reducible refine And.intro ?_ ?_|omega|(refine imp1 fun h=>?_))
     exact ⟨_,hx.out,by simp⟩
   ·have hx:=out (.inl hm)
    clear hi out
    repeat' (first
     |(with_reducible first|refine uK ?_|refine uX ?_|refine jq fun K hK=>?_|refine jb ?_)|((with_reducible first|refine rS hE ?_|refine jn ?_|refine js fun K' hK'=>?_|refine ji fun X Y hX hY=>?_|refine jr ?_|refine jk ?_|refine jx ?_);simp [*])|with_reducible refine rL hE ?_|with_reducible refine And.intro ?_ ?_|omega|(refine imp1 fun h=>?_))
    exact ⟨_,hx.out,by simp⟩
  clear hi2 hok
  rintro t ⟨add,m,p,rfl,hi2,hend⟩
  have hok:=hi2.ok.le
  have ha1:=hi2.r1
  by_cases hp : p.2 = 0
  ·have hm : ¬ 0 < m:=by rcases hend with h|h;exact h;exact (h hp).elim
   clear hend
   by_cases hl : p.1 = []
   ·have:=hi2.good hm hp hl
    subst this
    clear hi2
    repeat' (first
     |(with_reducible first|refine uK ?_|refine uQ ?_|refine uX ?_|refine jq fun K hK=>?_|refine jb ?_)|(with_reducible refine rS hE ?_;simp [*])|with_reducible refine rL hE ?_|(((with_reducible show RK _ _ _ _ _ _);first|refine jn ?_|refine js fun K' hK'=>?_);simp [*])|with_reducible refine rD mixed hE ?_|((with_reducible show RKQ _ _ _ _ _ _);first|refine RKQ_nilk ⟨by decide,?_⟩|(refine jv fun K' hK'=>?_;simp [*]))|((with_reducible first|refine ji fun X Y hX hY=>?_|refine jr ?_|refine jk ?_|refine jx ?_);simp [*])|with_reducible refine And.intro ?_ ?_|omega|(refine imp1 fun h=>?_))
    all_goals exact DView.tupL ⟨DView.stL (by simp) ⟨.base (by simp),.base (by simp),.base (by simp),.base (by simp),.base (by simp),trivial⟩,.base (by simp),trivial⟩
   ·have:=hi2.form hm hp hl
    subst this
    clear hi2
    have hl2:=List.length_pos_iff.2 hl
    repeat' (first
     |(with_reducible first|refine uK ?_|refine uQ ?_|refine uX ?_|refine jq fun K hK=>?_|refine jb ?_)|(with_reducible refine rS hE ?_;simp [*])|with_reducible refine rL hE ?_|(((with_reducible show RK _ _ _ _ _ _);first|refine jn ?_|refine js fun K' hK'=>?_);simp [*])|with_reducible refine rD mixed hE ?_|((with_reducible show RKQ _ _ _ _ _ _);first|refine RKQ_nilk ⟨by decide,?_⟩|(refine jv fun K' hK'=>?_;simp [*]))|((with_reducible first|refine ji fun X Y hX hY=>?_|refine jr ?_|refine jk ?_|refine jx ?_);simp [*])|with_reducible refine And.intro ?_ ?_|omega|(refine imp1 fun h=>?_))
    all_goals exact resA_bad
  ·have:=hi2.bad hp
   subst this
   clear hi2 hend
   repeat' (first
    |(with_reducible first|refine uK ?_|refine uX ?_|refine jq fun K hK=>?_|refine jb ?_)|((with_reducible first|refine rS hE ?_|refine jn ?_|refine js fun K' hK'=>?_|refine ji fun X Y hX hY=>?_|refine jr ?_|refine jk ?_|refine jx ?_);simp [*])|with_reducible refine rL hE ?_|with_reducible refine And.intro ?_ ?_|omega|(refine imp1 fun h=>?_))
   refine AW_drawHd ⟨[],[]⟩ mixed (by simp) fun E' hE'=>?_
   have hEn:=hE'.trans hE
   repeat' (first
    |(with_reducible first|refine useK (by assumption) ?_|refine useK3 (by assumption) ?_)|((with_reducible show DHd _ _ _ _ _ _ _);first|(refine DHd_done (by decide +kernel) ?_;try simp only [thenK,inBlk])|(refine dt hEn 0 fun K' hK'=>?_;simp [*];fail_if_success (with_reducible show False))|(refine dt hEn 1 fun K' hK'=>?_;simp [*];fail_if_success (with_reducible show False))|(refine dt hEn 2 fun K' hK'=>?_;simp [*];fail_if_success (with_reducible show False))|(refine dt hEn 3 fun K' hK'=>?_;simp [*];fail_if_success (with_reducible show False))|(refine dt hEn 4 fun K' hK'=>?_;simp [*];fail_if_success (with_reducible show False))|(refine dt hEn 5 fun K' hK'=>?_;simp [*];fail_if_success (with_reducible show False))|(refine dt hEn 6 fun K' hK'=>?_;simp [*];fail_if_success (with_reducible show False))|(refine dp hEn 0 fun K' hK'=>?_;simp [*];fail_if_success (with_reducible show False))|(refine dp hEn 1 fun K' hK'=>?_;simp [*];fail_if_success (with_reducible show False))|(refine dp hEn 2 fun K' hK'=>?_;simp [*];fail_if_success (with_reducible show False))|(refine dp hEn 3 fun K' hK'=>?_;simp [*];fail_if_success (with_reducible show False))|(refine dp hEn 4 fun K' hK'=>?_;simp [*];fail_if_success (with_reducible show False))|(refine dp hEn 5 fun K' hK'=>?_;simp [*];fail_if_success (with_reducible show False))|(refine dp hEn 6 fun K' hK'=>?_;simp [*];fail_if_success (with_reducible show False))|refine DHd_any rfl (by decide +kernel) ?_)|exact DHsome_nil|refine DHsome_no (by decide +kernel) ?_|(refine DHsome_yes (by exact rfl) rfl (by rw [hEn];decide) (fun K' hK'=>?_) ?_;simp [*];fail_if_success (with_reducible show False))|(refine DHsome_yesG (by exact rfl) rfl (by exact rfl) (by rw [hEn];decide) (fun K' hK'=>?_) ?_;simp [*];fail_if_success (with_reducible show False))|with_reducible refine And.intro ?_ ?_|omega|(with_reducible refine imp1 fun h=>?_))
   all_goals
    repeat' (first
     |(with_reducible first|refine uK ?_|refine uX ?_|refine jq fun K hK=>?_|refine jb ?_)|((with_reducible first|refine rS hE ?_|refine jn ?_|refine js fun K' hK'=>?_|refine ji fun X Y hX hY=>?_|refine jr ?_|refine jk ?_|refine jx ?_);simp [*])|with_reducible refine rL hE ?_|with_reducible refine And.intro ?_ ?_|omega|(refine imp1 fun h=>?_))
   all_goals exact resA_bad
end Go.Proofs.YtbibemijcdkjhaaGreatDoor
end
section
namespace Go.Proofs.YtbibemijcdkjhaaGreatDoor
open Go.Am Go.RowKit Go.Num
theorem valA_val (l : List UInt8) : valA l = match valueS l with|some n=>.tup [iA n,bA true]|none=>.tup [iA 0,bA false]:=rfl
theorem decN_cons (k b u n : Int) (l : List Int) : decN (k :: b :: u :: n :: l) = if n < 0 then (ed0,2) else if (l.length : Int) - 1 < n then (ed0,22) else decA k b u (l.take n.toNat) (l.drop n.toNat):=rfl
theorem decN_short {L : List Int} (h : L.length < 4) : decN L = (ed0,22):=by
 match L,h with
 |[],_=>rfl
 |[_],_=>rfl
 |[_,_],_=>rfl
 |[_,_,_],_=>rfl
 |_ :: _ :: _ :: _ :: _,h=>simp at h;omega
theorem drop_nums (add : List Seg) (i : Nat) (h : i < add.length) : (add.flatMap numsS).drop (9 * i) = numsS add[i] ++ (add.drop (i + 1)).flatMap numsS:=by
 have h1 : add = add.take i ++ add.drop i:=(List.take_append_drop i add).symm
 conv=>lhs;rw [h1]
 have h2 : 9 * i = ((add.take i).flatMap numsS).length:=by rw [numsS_len,List.length_take];omega
 rw [List.flatMap_append,h2,List.drop_left,List.drop_eq_getElem_cons h,List.flatMap_cons]
set_option maxHeartbeats 8000000 in
theorem s_mdec (s0 : List UInt8) (hl : s0.length ≤ 1000000) : PSpec Tryz.prog 15 [strB s0] (resA (decS s0)):=by
 have key : ∃ X : List Int → List UInt8 → Ed × Int,X [] s0 = decS s0 ∧ (∀ L,X L [] = decN L) ∧ (∀ L s,10 ∉ s → s ≠ [] → X L s = (ed0,15)) ∧
  (∀ L a r,10 ∉ a → valueS a = none → X L (a ++ 10 :: r) = (ed0,15)) ∧ (∀ L a r n,10 ∉ a → valueS a = some n → X L (a ++ 10 :: r) = X (L ++ [n]) r):=by
  refine ⟨fun L s=>match numsOf s with|some M=>decN (L ++ M)|none=>(ed0,15),?_,?_,?_,?_,?_⟩
  ·unfold decS
   simp only [List.nil_append]
   cases numsOf s0 <;> rfl
  ·intro L;simp [numsOf_nil]
  ·intro L s h h0;simp only [numsOf_no h h0]
  ·intro L a r h hv;simp only [numsOf_at h,hv]
  ·intro L a r n h hv
   simp only [numsOf_at h,hv]
   cases numsOf r <;> simp
 obtain ⟨X,x0,x1,x2,x3,x4⟩:=key
 rw [← x0]
 generalize hR : X [] s0 = R
 clear x0
 replace hR:=Hld.mk hR
 replace x1:=Hld.mk x1
 replace x2:=Hld.mk x2
 replace x3:=Hld.mk x3
 replace x4:=Hld.mk x4
 refine MSpec.toD (R:=fun res bf=>DView bf res (resA R)) ?_ fun _ _ h=>h
 refine MSpec_of Tryz.func15 rfl rfl (Nat.le_of_ble_eq_true rfl) (Nat.le_of_ble_eq_true rfl) ?_
 intro E hE
 refine AW_seqt ⟨[(2,.loc 2 0),(0,strB s0)],[(2,.box 36 zeC)]⟩ ?_ (by
  intro K hK
  repeat' (first
   |(with_reducible first|refine uK ?_|refine uX ?_|refine jq fun K hK=>?_|refine jb ?_)|((with_reducible first|refine rS hE ?_|refine jn ?_|refine js fun K' hK'=>?_|refine ji fun X Y hX hY=>?_|refine jr ?_|refine jk ?_|refine jx ?_);simp [*])|with_reducible refine rL hE ?_|with_reducible refine And.intro ?_ ?_|omega|(refine imp1 fun h=>?_))
  all_goals simp)
 refine AW_seqt ⟨[(4,.v (.slice none 0 0)),(2,.loc 2 0),(0,strB s0)],[(2,.box 36 zeC)]⟩ ?_ (by
  intro K hK
  repeat' (first
   |(with_reducible first|refine uK ?_|refine uX ?_|refine jq fun K hK=>?_|refine jb ?_)|((with_reducible first|refine rS hE ?_|refine jn ?_|refine js fun K' hK'=>?_|refine ji fun X Y hX hY=>?_|refine jr ?_|refine jk ?_|refine jx ?_);simp [*])|with_reducible refine rL hE ?_|with_reducible refine And.intro ?_ ?_|omega|(refine imp1 fun h=>?_))
  all_goals simp)
 refine AW_mkrow 4 900 3 1 rfl rfl rfl (by omega) ?_
 refine AW_seqx (fun t=>∃ L : List Int,t = ⟨[(4,.own 900 1 0 L.length),(2,.loc 2 0)],[(900,.arr 3 1 (L.map iA)),(2,.box 36 zeC)]⟩ ∧ L.length ≤ 1000000 ∧ Hld (decN L = R)) ?_ ?_
 rotate_left
 ·intro K0 hK0
  repeat' (first
   |(with_reducible first|refine uK ?_|refine uX ?_|refine jq fun K hK=>?_|refine jb ?_)|((with_reducible first|refine rS hE ?_|refine jn ?_|refine js fun K' hK'=>?_|refine ji fun X Y hX hY=>?_|refine jr ?_|refine jk ?_|refine jx ?_);simp [*])|with_reducible refine rL hE ?_|with_reducible refine And.intro ?_ ?_|omega|(refine imp1 fun h=>?_))
  refine AW_loopk (G:=List Int × List UInt8) (fun g=>⟨[(0,strB g.2),(4,.own 900 1 0 g.1.length),(2,.loc 2 0)],[(900,.arr 3 1 (g.1.map iA)),(2,.box 36 zeC)]⟩)
   (fun g=>g.1.length + g.2.length ≤ 1000000 ∧ Hld (X g.1 g.2 = R)) (fun g=>g.2.length) ([],s0) ⟨by simpa using hl,hR⟩ (by simp) ?_
  rintro ⟨L,s⟩ ⟨hb,hX⟩ K hK
  clear hR
  simp only at hb hX
  by_cases h0 : s = []
  ·subst h0
   have h1:=(x1.out L).symm.trans hX.out
   have hx : Hld (∃ L' : List Int,(⟨[(4,.own 900 1 0 L.length),(2,.loc 2 0)],[(900,.arr 3 1 (L.map iA)),(2,.box 36 zeC)]⟩ : AState) = ⟨[(4,.own 900 1 0 L'.length),(2,.loc 2 0)],[(900,.arr 3 1 (L'.map iA)),(2,.box 36 zeC)]⟩ ∧ L'.length ≤ 1000000 ∧ Hld (decN L' = R)):=⟨L,rfl,by simp at hb;omega,⟨h1⟩⟩
   clear hX x1 x2 x3 x4 h1
   repeat' (first
    |(with_reducible first|refine uK ?_|refine uX ?_|refine jq fun K hK=>?_|refine jb ?_)|((with_reducible first|refine rS hE ?_|refine jn ?_|refine js fun K' hK'=>?_|refine ji fun X Y hX hY=>?_|refine jr ?_|refine jk ?_|refine jx ?_);simp [*])|with_reducible refine rL hE ?_|with_reducible refine And.intro ?_ ?_|omega|(refine imp1 fun h=>?_))
   all_goals exact ⟨_,hx.out,by simp⟩
  ·have h00 : 0 < s.length:=List.length_pos_iff.2 h0
   obtain ⟨n,hn,hno,hend⟩ : ∃ n,n ≤ s.length ∧ (∀ j (h : j < s.length),j < n → s[j] ≠ 10) ∧ (n < s.length → ∃ h : n < s.length,s[n] = 10):=by
    rcases cut10 s with h|⟨a,r,rfl,h⟩
    ·exact ⟨s.length,Nat.le_refl _,fun j h1 _ e=>h (e ▸ List.getElem_mem h1),fun h=>by omega⟩
    ·refine ⟨a.length,by simp,fun j h1 h2 e=>h ?_,fun h=>⟨by simp,by simp⟩⟩
     rw [List.getElem_append_left h2] at e
     exact e ▸ List.getElem_mem h2
   refine AW_seqt ⟨[(0,strB s),(4,.own 900 1 0 L.length),(2,.loc 2 0)],[(900,.arr 3 1 (L.map iA)),(2,.box 36 zeC)]⟩ ?_ (by
    intro K3 hK3
    clear hno hend hX x1 x2 x3 x4
    repeat' (first
     |(with_reducible first|refine uK ?_|refine uX ?_|refine jq fun K hK=>?_|refine jb ?_)|((with_reducible first|refine rS hE ?_|refine jn ?_|refine js fun K' hK'=>?_|refine ji fun X Y hX hY=>?_|refine jr ?_|refine jk ?_|refine jx ?_);simp [*])|with_reducible refine rL hE ?_|with_reducible refine And.intro ?_ ?_|omega|(refine imp1 fun h=>?_))
    all_goals simp)
   refine AW_block ?_
   refine AW_seqt ⟨[(5,iA 0),(0,strB s),(4,.own 900 1 0 L.length),(2,.loc 2 0)],[(900,.arr 3 1 (L.map iA)),(2,.box 36 zeC)]⟩ ?_ (by
    intro K3 hK3
    clear hno hend hX x1 x2 x3 x4
    repeat' (first
     |(with_reducible first|refine uK ?_|refine uX ?_|refine jq fun K hK=>?_|refine jb ?_)|((with_reducible first|refine rS hE ?_|refine jn ?_|refine js fun K' hK'=>?_|refine ji fun X Y hX hY=>?_|refine jr ?_|refine jk ?_|refine jx ?_);simp [*])|with_reducible refine rL hE ?_|with_reducible refine And.intro ?_ ?_|omega|(refine imp1 fun h=>?_))
    all_goals simp)
   refine AW_seqt ⟨[(5,iA n),(0,strB s),(4,.own 900 1 0 L.length),(2,.loc 2 0)],[(900,.arr 3 1 (L.map iA)),(2,.box 36 zeC)]⟩ ?_ ?_
   rotate_left
   ·intro K3 hK3
    clear hX x1 x2 x3 x4
    replace hno:=Hld.mk hno
    replace hend:=Hld.mk hend
    repeat' (first
     |(with_reducible first|refine uK ?_|refine uX ?_|refine jq fun K hK=>?_|refine jb ?_)|((with_reducible first|refine rS hE ?_|refine jn ?_|refine js fun K' hK'=>?_|refine ji fun X Y hX hY=>?_|refine jr ?_|refine jk ?_|refine jx ?_);simp [*])|with_reducible refine rL hE ?_|with_reducible refine And.intro ?_ ?_|omega|(refine imp1 fun h=>?_))
    refine AW_loopk (G:=Nat) (fun i=>⟨[(5,iA i),(0,strB s),(4,.own 900 1 0 L.length),(2,.loc 2 0)],[(900,.arr 3 1 (L.map iA)),(2,.box 36 zeC)]⟩) (fun i=>i ≤ n) (fun i=>n - i) 0 (by omega) (by simp) ?_
    intro i hi K4 hK4
    by_cases hin : i < n
    ·have hlt : i < s.length:=by omega
     have h10 : ¬ ((s[i].toNat : Nat) : Int) = 10:=fun e=>hno.out i hlt hin (UInt8.toNat_inj.1 (by simpa using (by omega : s[i].toNat = 10)))
     repeat' (first
      |(with_reducible first|refine uK ?_|refine uX ?_|refine jq fun K hK=>?_|refine jb ?_)|((with_reducible first|refine rS hE ?_|refine jn ?_|refine js fun K' hK'=>?_|refine ji fun X Y hX hY=>?_|refine jr ?_|refine jk ?_|refine jx ?_);simp [*])|with_reducible refine rL hE ?_|with_reducible refine And.intro ?_ ?_|omega|(refine imp1 fun h=>?_))
     all_goals exact ⟨i + 1,by omega,by omega,by simp⟩
    ·have hie : i = n:=by omega
     subst hie
     by_cases hlt : i < s.length
     ·obtain ⟨_,h10⟩:=hend.out hlt
      have h11 : ((s[i].toNat : Nat) : Int) = 10:=by rw [h10];rfl
      clear h10
      repeat' (first
       |(with_reducible first|refine uK ?_|refine uX ?_|refine jq fun K hK=>?_|refine jb ?_)|((with_reducible first|refine rS hE ?_|refine jn ?_|refine js fun K' hK'=>?_|refine ji fun X Y hX hY=>?_|refine jr ?_|refine jk ?_|refine jx ?_);simp [*])|with_reducible refine rL hE ?_|with_reducible refine And.intro ?_ ?_|omega|(refine imp1 fun h=>?_))
      all_goals simp
     ·have hil : i = s.length:=by omega
      subst hil
      repeat' (first
       |(with_reducible first|refine uK ?_|refine uX ?_|refine jq fun K hK=>?_|refine jb ?_)|((with_reducible first|refine rS hE ?_|refine jn ?_|refine js fun K' hK'=>?_|refine ji fun X Y hX hY=>?_|refine jr ?_|refine jk ?_|refine jx ?_);simp [*])|with_reducible refine rL hE ?_|with_reducible refine And.intro ?_ ?_|omega|(refine imp1 fun h=>?_))
      all_goals simp
   by_cases hlt : n < s.length
   rotate_left
   ·have hil : n = s.length:=by omega
    subst hil
    have h10 : 10 ∉ s:=fun h=>by
     obtain ⟨j,hj,e⟩:=List.getElem_of_mem h
     exact hno j hj hj e
    have h1:=hX.out.symm.trans (x2.out L s h10 h0)
    subst h1
    clear hno hend hX x1 x2 x3 x4 h10
    repeat' (first
     |(with_reducible first|refine uK ?_|refine uX ?_|refine jq fun K hK=>?_|refine jb ?_)|((with_reducible first|refine rS hE ?_|refine jn ?_|refine js fun K' hK'=>?_|refine ji fun X Y hX hY=>?_|refine jr ?_|refine jk ?_|refine jx ?_);simp [*])|with_reducible refine rL hE ?_|with_reducible refine And.intro ?_ ?_|omega|(refine imp1 fun h=>?_))
    all_goals exact resA_bad
   obtain ⟨_,h10⟩:=hend hlt
   obtain ⟨a,r,hs,ha,hna⟩ : ∃ a r,s = a ++ 10 :: r ∧ 10 ∉ a ∧ n = a.length:=by
    refine ⟨s.take n,s.drop (n + 1),?_,fun h=>?_,by simp;omega⟩
    ·rw [← h10,← List.drop_eq_getElem_cons hlt,List.take_append_drop]
    ·obtain ⟨j,hj,e⟩:=List.getElem_of_mem h
     rw [List.getElem_take] at e
     simp at hj
     exact hno j (by omega) (by omega) e
   have e1 : (ByteArray.mk s.toArray).extract 0 n = ⟨a.toArray⟩:=by rw [extract_mk,hs,hna];simp
   have e2 : (ByteArray.mk s.toArray).extract (n + 1) s.length = ⟨r.toArray⟩:=by
    rw [extract_mk,List.take_of_length_le (Nat.le_refl _),hs,hna]
    simp [List.drop_append]
   have hsl : s.length = n + (r.length + 1):=by rw [hs,hna];simp
   have htn : ((n : Int) + ((r.length : Int) + 1)).toNat = n + (r.length + 1):=by omega
   rw [hsl] at e2
   have hva:=Hld.mk (s_value a (by omega))
   rw [valA_val] at hva
   rw [hs] at hX
   have hnl : ¬ (n : Int) = (s.length : Int):=by omega
   clear hno hend hs h10 hna
   cases hv : valueS a with
   |none =>
    have h1:=hX.out.symm.trans (x3.out L a r ha hv)
    subst h1
    rw [hv] at hva
    simp only at hva
    clear hX x1 x2 x3 x4 ha hv hsl
    repeat' (first
     |(with_reducible first|refine uK ?_|refine uX ?_|refine jq fun K hK=>?_|refine jb ?_)|((with_reducible first|refine rS hE ?_|refine jn ?_|refine js fun K' hK'=>?_|refine ji fun X Y hX hY=>?_|refine jr ?_|refine jk ?_|refine jx ?_);simp [*])|with_reducible refine rL hE ?_|(refine jC (hva.out) ?_ ?_ ?_;(iterate 2 focus (simp [*] <;> fail));simp [*])|with_reducible refine And.intro ?_ ?_|omega|(refine imp1 fun h=>?_))
    all_goals exact resA_bad
   |some v =>
    have h1:=(x4.out L a r v ha hv).symm.trans hX.out
    rw [hv] at hva
    simp only at hva
    clear hX x1 x2 x3 x4 ha hv
    replace h1:=Hld.mk h1
    have htk : List.take (L.length + 1) (List.map iA L ++ [iA v]) = List.map iA L ++ [iA v]:=List.take_of_length_le (by simp)
    repeat' (first
     |(with_reducible first|refine uK ?_|refine uX ?_|refine jq fun K hK=>?_|refine jb ?_)|((with_reducible first|refine rS hE ?_|refine jn ?_|refine js fun K' hK'=>?_|refine ji fun X Y hX hY=>?_|refine jr ?_|refine jk ?_|refine jx ?_);simp [*])|with_reducible refine rL hE ?_|(refine jC (hva.out) ?_ ?_ ?_;(iterate 2 focus (simp [*] <;> fail));simp [*])|with_reducible refine And.intro ?_ ?_|omega|(refine imp1 fun h=>?_))
    refine AW_drawHd ⟨[(0,strB s),(5,iA n),(6,iA v)],[]⟩ mixed (by simp) fun E' hE'=>?_
    have hEn:=hE'.trans hE
    repeat' (first
     |(with_reducible first|refine useK (by assumption) ?_|refine useK3 (by assumption) ?_)|((with_reducible show DHd _ _ _ _ _ _ _);first|(refine DHd_done (by decide +kernel) ?_;try simp only [thenK,inBlk])|(refine dt hEn 0 fun K' hK'=>?_;simp [*];fail_if_success (with_reducible show False))|(refine dt hEn 1 fun K' hK'=>?_;simp [*];fail_if_success (with_reducible show False))|(refine dt hEn 2 fun K' hK'=>?_;simp [*];fail_if_success (with_reducible show False))|(refine dt hEn 3 fun K' hK'=>?_;simp [*];fail_if_success (with_reducible show False))|(refine dt hEn 4 fun K' hK'=>?_;simp [*];fail_if_success (with_reducible show False))|(refine dt hEn 5 fun K' hK'=>?_;simp [*];fail_if_success (with_reducible show False))|(refine dt hEn 6 fun K' hK'=>?_;simp [*];fail_if_success (with_reducible show False))|(refine dt hEn 7 fun K' hK'=>?_;simp [*];fail_if_success (with_reducible show False))|(refine dt hEn 8 fun K' hK'=>?_;simp [*];fail_if_success (with_reducible show False))|(refine dt hEn 9 fun K' hK'=>?_;simp [*];fail_if_success (with_reducible show False))|(refine dp hEn 0 fun K' hK'=>?_;simp [*];fail_if_success (with_reducible show False))|(refine dp hEn 1 fun K' hK'=>?_;simp [*];fail_if_success (with_reducible show False))|(refine dp hEn 2 fun K' hK'=>?_;simp [*];fail_if_success (with_reducible show False))|(refine dp hEn 3 fun K' hK'=>?_;simp [*];fail_if_success (with_reducible show False))|(refine dp hEn 4 fun K' hK'=>?_;simp [*];fail_if_success (with_reducible show False))|(refine dp hEn 5 fun K' hK'=>?_;simp [*];fail_if_success (with_reducible show False))|(refine dp hEn 6 fun K' hK'=>?_;simp [*];fail_if_success (with_reducible show False))|(refine dp hEn 7 fun K' hK'=>?_;simp [*];fail_if_success (with_reducible show False))|(refine dp hEn 8 fun K' hK'=>?_;simp [*];fail_if_success (with_reducible show False))|(refine dp hEn 9 fun K' hK'=>?_;simp [*];fail_if_success (with_reducible show False))|refine DHd_any rfl (by decide +kernel) ?_)|exact DHsome_nil|refine DHsome_no (by decide +kernel) ?_|(refine DHsome_yes (by exact rfl) rfl (by rw [hEn];decide) (fun K' hK'=>?_) ?_;simp [*];fail_if_success (with_reducible show False))|(refine DHsome_yesG (by exact rfl) rfl (by exact rfl) (by rw [hEn];decide) (fun K' hK'=>?_) ?_;simp [*];fail_if_success (with_reducible show False))|with_reducible refine And.intro ?_ ?_|omega|(with_reducible refine imp1 fun h=>?_))
    all_goals exact ⟨(L ++ [v],r),⟨by simp;omega,h1⟩,by simp only;omega,by simp⟩
 clear hR x1 x2 x3 x4
 rintro t ⟨L,rfl,hL,hR⟩
 refine AW_freeze 900 (cb:=.arr 3 1 (L.map iA)) (t:=⟨[(4,.sl 1 (L.map iA)),(2,.loc 2 0)],[(2,.box 36 zeC)]⟩) (by simp) (by simp) (by simp) ?_
 by_cases h4 : L.length < 4
 ·have:=hR.out.symm.trans (decN_short h4)
  subst this
  clear hR
  repeat' (first
   |(with_reducible first|refine uK ?_|refine uQ ?_|refine uX ?_|refine jq fun K hK=>?_|refine jb ?_)|(with_reducible refine rS hE ?_;simp [*])|with_reducible refine rL hE ?_|(((with_reducible show RK _ _ _ _ _ _);first|refine jn ?_|refine js fun K' hK'=>?_);simp [*])|with_reducible refine rD mixed hE ?_|((with_reducible show RKQ _ _ _ _ _ _);first|refine RKQ_nilk ⟨by decide,?_⟩|(refine jv fun K' hK'=>?_;simp [*]))|((with_reducible first|refine ji fun X Y hX hY=>?_|refine jr ?_|refine jk ?_|refine jx ?_);simp [*])|with_reducible refine And.intro ?_ ?_|omega|(refine imp1 fun h=>?_))
  all_goals exact resA_bad
 obtain ⟨k,b,u,n,l,rfl⟩ : ∃ k b u n l,L = k :: b :: u :: n :: l:=by
  match L,h4 with
  |[],h|[_],h|[_,_],h|[_,_,_],h=>simp at h
  |k :: b :: u :: n :: l,_=>exact ⟨k,b,u,n,l,rfl⟩
 simp only [List.length_cons] at hL h4
 have hR':=hR.out
 rw [decN_cons] at hR'
 clear hR
 refine AW_seqt ⟨[(4,.sl 1 ((k :: b :: u :: n :: l).map iA)),(2,.loc 2 0)],[(2,.box 36 zeC)]⟩ ?_ (by
  intro K hK
  clear hR'
  repeat' (first
   |(with_reducible first|refine uK ?_|refine uX ?_|refine jq fun K hK=>?_|refine jb ?_)|((with_reducible first|refine rS hE ?_|refine jn ?_|refine js fun K' hK'=>?_|refine ji fun X Y hX hY=>?_|refine jr ?_|refine jk ?_|refine jx ?_);simp [*])|with_reducible refine rL hE ?_|with_reducible refine And.intro ?_ ?_|omega|(refine imp1 fun h=>?_))
  all_goals simp)
 refine AW_seqt ⟨[(8,.loc 8 0),(4,.sl 1 ((k :: b :: u :: n :: l).map iA)),(2,.loc 2 0)],[(8,.box 36 (.st [iA k,iA b,iA u,.v (.slice none 0 0),.v (.slice none 0 0)])),(2,.box 36 zeC)]⟩ ?_ (by
  intro K hK
  clear hR'
  repeat' (first
   |(with_reducible first|refine uK ?_|refine uQ ?_|refine uX ?_|refine jq fun K hK=>?_|refine jb ?_)|(with_reducible refine rS hE ?_;simp [*])|with_reducible refine rL hE ?_|(((with_reducible show RK _ _ _ _ _ _);first|refine jn ?_|refine js fun K' hK'=>?_);simp [*])|with_reducible refine rD mixed hE ?_|((with_reducible show RKQ _ _ _ _ _ _);first|refine RKQ_nilk ⟨by decide,?_⟩|(refine jv fun K' hK'=>?_;simp [*]))|((with_reducible first|refine ji fun X Y hX hY=>?_|refine jr ?_|refine jk ?_|refine jx ?_);simp [*])|with_reducible refine And.intro ?_ ?_|omega|(refine imp1 fun h=>?_))
  all_goals simp)
 refine AW_seqt ⟨[(9,iA n),(8,.loc 8 0),(4,.sl 1 ((k :: b :: u :: n :: l).map iA)),(2,.loc 2 0)],[(8,.box 36 (.st [iA k,iA b,iA u,.v (.slice none 0 0),.v (.slice none 0 0)])),(2,.box 36 zeC)]⟩ ?_ (by
  intro K hK
  clear hR'
  repeat' (first
   |(with_reducible first|refine uK ?_|refine uX ?_|refine jq fun K hK=>?_|refine jb ?_)|((with_reducible first|refine rS hE ?_|refine jn ?_|refine js fun K' hK'=>?_|refine ji fun X Y hX hY=>?_|refine jr ?_|refine jk ?_|refine jx ?_);simp [*])|with_reducible refine rL hE ?_|with_reducible refine And.intro ?_ ?_|omega|(refine imp1 fun h=>?_))
  all_goals simp)
 by_cases hn : n < 0
 ·rw [if_pos hn] at hR'
  subst hR'
  repeat' (first
   |(with_reducible first|refine uK ?_|refine uX ?_|refine jq fun K hK=>?_|refine jb ?_)|((with_reducible first|refine rS hE ?_|refine jn ?_|refine js fun K' hK'=>?_|refine ji fun X Y hX hY=>?_|refine jr ?_|refine jk ?_|refine jx ?_);simp [*])|with_reducible refine rL hE ?_|with_reducible refine And.intro ?_ ?_|omega|(refine imp1 fun h=>?_))
  all_goals exact resA_bad
 rw [if_neg hn] at hR'
 by_cases hn2 : (l.length : Int) - 1 < n
 ·rw [if_pos hn2] at hR'
  subst hR'
  have hn3 : (l.length : Int) + 1 + 1 + 1 + 1 - 5 < n:=by omega
  repeat' (first
   |(with_reducible first|refine uK ?_|refine uX ?_|refine jq fun K hK=>?_|refine jb ?_)|((with_reducible first|refine rS hE ?_|refine jn ?_|refine js fun K' hK'=>?_|refine ji fun X Y hX hY=>?_|refine jr ?_|refine jk ?_|refine jx ?_);simp [*])|with_reducible refine rL hE ?_|with_reducible refine And.intro ?_ ?_|omega|(refine imp1 fun h=>?_))
  all_goals exact resA_bad
 rw [if_neg hn2] at hR'
 have hn3 : ¬ (l.length : Int) + 1 + 1 + 1 + 1 - 5 < n:=by omega
 obtain ⟨rem,m,l2,rfl,hrl,hr1,hr2⟩ : ∃ rem m l2,l = rem ++ m :: l2 ∧ (rem.length : Int) = n ∧ l.take n.toNat = rem ∧ l.drop n.toNat = m :: l2:=by
  cases hd : l.drop n.toNat with
  |nil=>have:=congrArg List.length hd;simp at this;omega
  |cons m l2=>exact ⟨l.take n.toNat,m,l2,by rw [← hd,List.take_append_drop],by rw [List.length_take];omega,rfl,rfl⟩
 rw [hr1,hr2,decA] at hR'
 clear hr1 hr2 hn2
 simp only [List.length_append,List.length_cons] at hL h4 hn3
 refine AW_seqt ⟨[(9,iA n),(8,.loc 8 0),(4,.sl 1 ((k :: b :: u :: n :: (rem ++ m :: l2)).map iA)),(2,.loc 2 0)],[(8,.box 36 (.st [iA k,iA b,iA u,.v (.slice none 0 0),.v (.slice none 0 0)])),(2,.box 36 zeC)]⟩ ?_ (by
  intro K hK
  clear hR'
  repeat' (first
   |(with_reducible first|refine uK ?_|refine uX ?_|refine jq fun K hK=>?_|refine jb ?_)|((with_reducible first|refine rS hE ?_|refine jn ?_|refine js fun K' hK'=>?_|refine ji fun X Y hX hY=>?_|refine jr ?_|refine jk ?_|refine jx ?_);simp [*])|with_reducible refine rL hE ?_|with_reducible refine And.intro ?_ ?_|omega|(refine imp1 fun h=>?_))
  all_goals simp)
 refine AW_seqt ⟨[(9,iA n),(8,.loc 8 0),(4,.sl 1 ((k :: b :: u :: n :: (rem ++ m :: l2)).map iA)),(2,.loc 2 0)],[(8,.box 36 (.st [iA k,iA b,iA u,.v (.slice none 0 0),.v (.slice none 0 0)])),(2,.box 36 zeC)]⟩ ?_ (by
  intro K hK
  clear hR'
  repeat' (first
   |(with_reducible first|refine uK ?_|refine uX ?_|refine jq fun K hK=>?_|refine jb ?_)|((with_reducible first|refine rS hE ?_|refine jn ?_|refine js fun K' hK'=>?_|refine ji fun X Y hX hY=>?_|refine jr ?_|refine jk ?_|refine jx ?_);simp [*])|with_reducible refine rL hE ?_|with_reducible refine And.intro ?_ ?_|omega|(refine imp1 fun h=>?_))
  all_goals simp)
 have htn : (4 + n).toNat = rem.length + 4:=by omega
 have hd1 : List.drop 4 (List.take (rem.length + 4) (iA k :: iA b :: iA u :: iA n :: (rem.map iA ++ iA m :: l2.map iA))) = rem.map iA:=by
  rw [List.take_succ_cons,List.take_succ_cons,List.take_succ_cons,List.take_succ_cons]
  simp only [List.drop_succ_cons,List.drop_zero]
  rw [show rem.length = (rem.map iA).length by simp,List.take_left]
 have hd2 : List.drop (rem.length + 4) (iA k :: iA b :: iA u :: iA n :: (rem.map iA ++ iA m :: l2.map iA)) = iA m :: l2.map iA:=by
  simp only [List.drop_succ_cons]
  rw [show rem.length = (rem.map iA).length by simp,List.drop_left]
 refine AW_seqt ⟨[(9,iA n),(8,.loc 8 0),(4,.sl 1 ((k :: b :: u :: n :: (rem ++ m :: l2)).map iA)),(2,.loc 2 0)],[(8,.box 36 (.st [iA k,iA b,iA u,.sl 1 (rem.map iA),.v (.slice none 0 0)])),(2,.box 36 zeC)]⟩ ?_ (by
  intro K hK
  clear hR' hd2
  repeat' (first
   |(with_reducible first|refine uK ?_|refine uX ?_|refine jq fun K hK=>?_|refine jb ?_)|((with_reducible first|refine rS hE ?_|refine jn ?_|refine js fun K' hK'=>?_|refine ji fun X Y hX hY=>?_|refine jr ?_|refine jk ?_|refine jx ?_);simp [*])|with_reducible refine rL hE ?_|with_reducible refine And.intro ?_ ?_|omega|(refine imp1 fun h=>?_))
  all_goals simp [htn,hd1])
 refine AW_seqt ⟨[(8,.loc 8 0),(4,.sl 1 ((m :: l2).map iA)),(2,.loc 2 0)],[(8,.box 36 (.st [iA k,iA b,iA u,.sl 1 (rem.map iA),.v (.slice none 0 0)])),(2,.box 36 zeC)]⟩ ?_ (by
  intro K hK
  clear hR' hd1
  repeat' (first
   |(with_reducible first|refine uK ?_|refine uX ?_|refine jq fun K hK=>?_|refine jb ?_)|((with_reducible first|refine rS hE ?_|refine jn ?_|refine js fun K' hK'=>?_|refine ji fun X Y hX hY=>?_|refine jr ?_|refine jk ?_|refine jx ?_);simp [*])|with_reducible refine rL hE ?_|with_reducible refine And.intro ?_ ?_|omega|(refine imp1 fun h=>?_))
  all_goals
   simp [htn]
   rw [List.take_of_length_le (by simp;omega),hd2])
 clear htn hd1 hd2 hn3 h4
 refine AW_seqt ⟨[(10,iA m),(8,.loc 8 0),(4,.sl 1 ((m :: l2).map iA)),(2,.loc 2 0)],[(8,.box 36 (.st [iA k,iA b,iA u,.sl 1 (rem.map iA),.v (.slice none 0 0)])),(2,.box 36 zeC)]⟩ ?_ (by
  intro K hK
  clear hR'
  repeat' (first
   |(with_reducible first|refine uK ?_|refine uX ?_|refine jq fun K hK=>?_|refine jb ?_)|((with_reducible first|refine rS hE ?_|refine jn ?_|refine js fun K' hK'=>?_|refine ji fun X Y hX hY=>?_|refine jr ?_|refine jk ?_|refine jx ?_);simp [*])|with_reducible refine rL hE ?_|with_reducible refine And.intro ?_ ?_|omega|(refine imp1 fun h=>?_))
  all_goals simp)
 have q1 : ((l2.length : Int) + 1 - 1).tdiv 9 = ((l2.length / 9 : Nat) : Int):=by
  rw [show (l2.length : Int) + 1 - 1 = ((l2.length : Nat) : Int) by omega]
  rfl
 have q1' : ((l2.length : Int)).tdiv 9 = ((l2.length / 9 : Nat) : Int):=rfl
 have hq0 : 0 ≤ ((l2.length / 9 : Nat) : Int) ∧ ((l2.length / 9 : Nat) : Int) ≤ 1000000:=by omega
 by_cases hm : m < 0
 ·rw [if_pos hm] at hR'
  subst hR'
  repeat' (first
   |(with_reducible first|refine uK ?_|refine uX ?_|refine jq fun K hK=>?_|refine jb ?_)|((with_reducible first|refine rS hE ?_|refine jn ?_|refine js fun K' hK'=>?_|refine ji fun X Y hX hY=>?_|refine jr ?_|refine jk ?_|refine jx ?_);simp [*])|with_reducible refine rL hE ?_|with_reducible refine And.intro ?_ ?_|omega|(refine imp1 fun h=>?_))
  all_goals exact resA_bad
 rw [if_neg hm] at hR'
 by_cases hm2 : ((l2.length / 9 : Nat) : Int) < m
 ·rw [if_pos hm2] at hR'
  subst hR'
  generalize ((l2.length / 9 : Nat) : Int) = q at *
  repeat' (first
   |(with_reducible first|refine uK ?_|refine uX ?_|refine jq fun K hK=>?_|refine jb ?_)|((with_reducible first|refine rS hE ?_|refine jn ?_|refine js fun K' hK'=>?_|refine ji fun X Y hX hY=>?_|refine jr ?_|refine jk ?_|refine jx ?_);simp [*])|with_reducible refine rL hE ?_|with_reducible refine And.intro ?_ ?_|omega|(refine imp1 fun h=>?_))
  all_goals exact resA_bad
 rw [if_neg hm2] at hR'
 have hm3 : m ≤ 1000000:=by omega
 by_cases hm4 : 9 * m < (l2.length : Int)
 ·rw [if_pos hm4] at hR'
  subst hR'
  generalize ((l2.length / 9 : Nat) : Int) = q at *
  repeat' (first
   |(with_reducible first|refine uK ?_|refine uX ?_|refine jq fun K hK=>?_|refine jb ?_)|((with_reducible first|refine rS hE ?_|refine jn ?_|refine js fun K' hK'=>?_|refine ji fun X Y hX hY=>?_|refine jr ?_|refine jk ?_|refine jx ?_);simp [*])|with_reducible refine rL hE ?_|with_reducible refine And.intro ?_ ?_|omega|(refine imp1 fun h=>?_))
  all_goals exact resA_bad
 rw [if_neg hm4] at hR'
 obtain ⟨mm,rfl⟩ : ∃ mm : Nat,m = mm:=⟨m.toNat,by omega⟩
 obtain ⟨add,ha,hal⟩ : ∃ add,add.flatMap numsS = l2 ∧ add.length = mm:=⟨segsOf l2,nums_segs mm l2 (by omega)⟩
 subst hal
 subst ha
 rw [segs_nums] at hR'
 subst hR'
 have hl9:=numsS_len add
 have hdn:=Hld.mk (drop_nums add)
 generalize hLL : add.flatMap numsS = LL at *
 refine AW_seqt ⟨[(10,iA add.length),(8,.loc 8 0),(4,.sl 1 (((add.length : Int) :: LL).map iA)),(2,.loc 2 0)],[(8,.box 36 (.st [iA k,iA b,iA u,.sl 1 (rem.map iA),.v (.slice none 0 0)])),(2,.box 36 zeC)]⟩ ?_ (by
  intro K hK
  clear hLL
  generalize ((LL.length / 9 : Nat) : Int) = q at *
  repeat' (first
   |(with_reducible first|refine uK ?_|refine uX ?_|refine jq fun K hK=>?_|refine jb ?_)|((with_reducible first|refine rS hE ?_|refine jn ?_|refine js fun K' hK'=>?_|refine ji fun X Y hX hY=>?_|refine jr ?_|refine jk ?_|refine jx ?_);simp [*])|with_reducible refine rL hE ?_|with_reducible refine And.intro ?_ ?_|omega|(refine imp1 fun h=>?_))
  all_goals simp)
 clear hLL q1 q1' hm hm2 hm4 hq0
 obtain ⟨F,hF⟩ : ∃ F : Nat → List Seg,∀ i,F i = add.take i:=⟨_,fun _=>rfl⟩
 have f0 : F 0 = []:=by rw [hF];rfl
 have fs : Hld (∀ i (h : i < add.length),F (i + 1) = F i ++ [add[i]]):=⟨fun i h=>by rw [hF,hF];exact List.take_succ_eq_append_getElem h⟩
 have fl : Hld (∀ i,i ≤ add.length → (F i).length = i):=⟨fun i h=>by rw [hF];simp;omega⟩
 have fe : Hld (F add.length = add):=⟨by rw [hF,List.take_length]⟩
 clear hF
 refine AW_mkrowC 8 802 70 9 36 4 (cs:=[iA k,iA b,iA u,.sl 1 (rem.map iA),.v (.slice none 0 0)]) (by simp) rfl (by simp) (by simp) (by omega) ?_
 refine AW_seqk fun K0 hK0=>?_
 repeat' (first
  |(with_reducible first|refine uK ?_|refine uX ?_|refine jq fun K hK=>?_|refine jb ?_)|((with_reducible first|refine rS hE ?_|refine jn ?_|refine js fun K' hK'=>?_|refine ji fun X Y hX hY=>?_|refine jr ?_|refine jk ?_|refine jx ?_);simp [*])|with_reducible refine rL hE ?_|with_reducible refine And.intro ?_ ?_|omega|(refine imp1 fun h=>?_))
 refine AW_loopk (G:=Nat) (fun i=>⟨[(11,iA i),(10,iA add.length),(8,.loc 8 0),(4,.sl 1 (((add.length : Int) :: LL).map iA)),(2,.loc 2 0)],[(8,.box 36 (.st [iA k,iA b,iA u,.sl 1 (rem.map iA),.own 802 9 0 (F i).length])),(802,.arr 70 9 ((F i).map encS)),(2,.box 36 zeC)]⟩)
  (fun i=>i ≤ add.length) (fun i=>add.length - i) 0 (by omega) (by simp [f0]) ?_
 clear f0
 intro i hi K hK
 have hfl:=fl.out i hi
 have hfl2 : (F i).length ≤ 1000000:=by omega
 replace hfl:=Hld.mk hfl
 by_cases hlt : i < add.length
 ·obtain ⟨rest,hdi⟩ : ∃ rest,List.drop (9 * i) LL = numsS add[i] ++ rest:=⟨_,hdn.out i hlt⟩
  have hln : LL.length = 9 * i + (9 + rest.length):=by
   have:=congrArg List.length hdi
   simp [numsS] at this
   omega
  have hdi2 : List.drop (9 * i + 1) (iA add.length :: LL.map iA) = (numsS add[i] ++ rest).map iA:=by
   rw [List.drop_succ_cons,← List.map_drop,hdi]
  clear hdi
  have h1i : ((1 : Int) + 9 * (i : Int)).toNat = 9 * i + 1:=by omega
  refine AW_seqt ⟨[(11,iA i),(10,iA add.length),(8,.loc 8 0),(4,.sl 1 (((add.length : Int) :: LL).map iA)),(2,.loc 2 0)],[(8,.box 36 (.st [iA k,iA b,iA u,.sl 1 (rem.map iA),.own 802 9 0 (F i).length])),(802,.arr 70 9 ((F i).map encS)),(2,.box 36 zeC)]⟩ ?_ (by
   intro K3 hK3
   clear hdi2 hln h1i
   repeat' (first
    |(with_reducible first|refine uK ?_|refine uX ?_|refine jq fun K hK=>?_|refine jb ?_)|((with_reducible first|refine rS hE ?_|refine jn ?_|refine js fun K' hK'=>?_|refine ji fun X Y hX hY=>?_|refine jr ?_|refine jk ?_|refine jx ?_);simp [*])|with_reducible refine rL hE ?_|with_reducible refine And.intro ?_ ?_|omega|(refine imp1 fun h=>?_))
   all_goals simp)
  refine AW_seqt ⟨[(11,iA i),(10,iA add.length),(8,.loc 8 0),(4,.sl 1 (((add.length : Int) :: LL).map iA)),(2,.loc 2 0)],[(8,.box 36 (.st [iA k,iA b,iA u,.sl 1 (rem.map iA),.own 802 9 0 (F (i + 1)).length])),(802,.arr 70 9 ((F (i + 1)).map encS)),(2,.box 36 zeC)]⟩ ?_ ?_
  ·clear hdi2 hln h1i
   repeat' (first
    |(with_reducible first|refine uK ?_|refine uX ?_|refine jq fun K hK=>?_|refine jb ?_)|((with_reducible first|refine rS hE ?_|refine jn ?_|refine js fun K' hK'=>?_|refine ji fun X Y hX hY=>?_|refine jr ?_|refine jk ?_|refine jx ?_);simp [*])|with_reducible refine rL hE ?_|with_reducible refine And.intro ?_ ?_|omega|(refine imp1 fun h=>?_))
   exact ⟨i + 1,by omega,by omega,by simp⟩
  intro K3 hK3
  rw [fs.out i hlt] at hK3
  clear fs fe fl
  generalize add[i] = sg at *
  have hsg : encS sg = .st [iA sg.id,iA sg.x0,iA sg.x1,iA sg.y0,iA sg.y1,iA sg.t0,iA sg.t1,iA sg.un,iA sg.by_]:=rfl
  refine AW_block ?_
  refine AW_seqt ⟨[(12,.sl 1 (iA sg.id :: iA sg.x0 :: iA sg.x1 :: iA sg.y0 :: iA sg.y1 :: iA sg.t0 :: iA sg.t1 :: iA sg.un :: iA sg.by_ :: rest.map iA)),(11,iA i),(10,iA add.length),(8,.loc 8 0),(4,.sl 1 (((add.length : Int) :: LL).map iA)),(2,.loc 2 0)],[(8,.box 36 (.st [iA k,iA b,iA u,.sl 1 (rem.map iA),.own 802 9 0 (F i).length])),(802,.arr 70 9 ((F i).map encS)),(2,.box 36 zeC)]⟩ ?_ (by
   intro K4 hK4
   clear hsg
   repeat' (first
    |(with_reducible first|refine uK ?_|refine uX ?_|refine jq fun K hK=>?_|refine jb ?_)|((with_reducible first|refine rS hE ?_|refine jn ?_|refine js fun K' hK'=>?_|refine ji fun X Y hX hY=>?_|refine jr ?_|refine jk ?_|refine jx ?_);simp [*])|with_reducible refine rL hE ?_|with_reducible refine And.intro ?_ ?_|omega|(refine imp1 fun h=>?_))
   all_goals
    simp [h1i]
    rw [List.take_of_length_le (by simp;omega),hdi2]
    simp [numsS])
  clear hdi2 h1i
  generalize F i = F0 at *
  repeat' (first
   |(with_reducible first|refine uK ?_|refine uQ ?_|refine uX ?_|refine jq fun K hK=>?_|refine jb ?_)|(with_reducible refine rS hE ?_;simp [*])|with_reducible refine rL hE ?_|(((with_reducible show RK _ _ _ _ _ _);first|refine jn ?_|refine js fun K' hK'=>?_);simp [*])|with_reducible refine rD mixed hE ?_|((with_reducible show RKQ _ _ _ _ _ _);first|refine RKQ_nilk ⟨by decide,?_⟩|(refine jv fun K' hK'=>?_;simp [*]))|((with_reducible first|refine ji fun X Y hX hY=>?_|refine jr ?_|refine jk ?_|refine jx ?_);simp [*])|with_reducible refine And.intro ?_ ?_|omega|(refine imp1 fun h=>?_))
  all_goals simp [hsg]
 ·have hil : i = add.length:=by omega
  subst hil
  have hfe:=fe.out
  clear fs fl fe hfl
  generalize F add.length = F1 at *
  subst hfe
  repeat' (first
   |(with_reducible first|refine uK ?_|refine uX ?_|refine jq fun K hK=>?_|refine jb ?_)|((with_reducible first|refine rS hE ?_|refine jn ?_|refine js fun K' hK'=>?_|refine ji fun X Y hX hY=>?_|refine jr ?_|refine jk ?_|refine jx ?_);simp [*])|with_reducible refine rL hE ?_|with_reducible refine And.intro ?_ ?_|omega|(refine imp1 fun h=>?_))
  all_goals exact DView.tupL ⟨DView.stL (by simp) ⟨.base (by simp),.base (by simp),.base (by simp),.base (by simp),.base (by simp),trivial⟩,.base (by simp),trivial⟩
end Go.Proofs.YtbibemijcdkjhaaGreatDoor
end
section
namespace Go.Proofs.YtbibemijcdkjhaaGreatDoor
open Go.Am Go.RowKit Go.Num Go.ChangeShapes Go.WideShapes Go.ChangeAt
theorem s_encodeL (e : Ed) (h1 : e.rem.length ≤ 1000) (h2 : e.add.length ≤ 1000) (hI : ∀ n ∈ numsE e,I64 n) :
 PSpecL Tryz.prog LW 16 [encE e] (strV (lns (numsE e))):=by
 show PSpecL Tryz.prog LW 16 [encE e] (strV (linesB Lib.itoa (numsE e)))
 have hf : ∀ n ∈ numsE e,PSpecL Tryz.prog LW 47 [iA n] (strV (Lib.itoa n)) ∧ Lib.itoa n ≠ [] ∧ (Lib.itoa n).length ≤ 20:=fun n hn=>⟨s_itoa n (hI n hn).1 (hI n hn).2,itoa_ne n,itoa_len n (hI n hn).1 (hI n hn).2⟩
 clear hI
 generalize Lib.itoa = f at *
 have hln:=numsE_len e
 have hnums:=s_numbers e h1 h2
 generalize numsE e = L at *
 replace hf:=Hld.mk hf
 replace hnums:=Hld.mk hnums
 obtain ⟨F,hF⟩ : ∃ F : Nat → List UInt8,∀ i,F i = linesB f (L.take i):=⟨_,fun _=>rfl⟩
 have f0 : F 0 = []:=by simp [hF,linesB]
 have fs : ∀ i (h : i < L.length),F (i + 1) = F i ++ f L[i] ++ [10]:=by
  intro i h
  rw [hF,hF,List.take_succ_eq_append_getElem h]
  unfold linesB
  rw [List.flatMap_append]
  simp
 have fe : F L.length = linesB f L:=by rw [hF,List.take_length]
 have fl : ∀ i,i ≤ L.length → (F i).length ≤ 21 * i ∧ (0 < i → F i ≠ []):=by
  intro i
  induction i with
  |zero=>intro _;simp [f0]
  |succ i ih =>
   intro hi
   have:=ih (by omega)
   have h3:=(hf.out L[i] (List.getElem_mem (by omega))).2.2
   rw [fs i (by omega)]
   refine ⟨by simp;omega,fun _=>by simp⟩
 clear hF
 replace f0:=Hld.mk f0
 replace fs:=Hld.mk fs
 replace fe:=Hld.mk fe
 replace fl:=Hld.mk fl
 replace hln:=Hld.mk hln
 have hL : L.length ≤ 10100:=by have:=hln.out;omega
 refine PSpecL_of stays_LW Tryz.func16 rfl rfl (Nat.le_of_ble_eq_true rfl) (Nat.le_of_ble_eq_true rfl) ?_
 intro E hE hLd
 repeat' (first
  |(with_reducible first|refine uK ?_|refine uX ?_|refine jq fun K hK=>?_|refine jb ?_)|((with_reducible first|refine rS hE ?_|refine jn ?_|refine js fun K' hK'=>?_|refine ji fun X Y hX hY=>?_|refine jr ?_|refine jk ?_|refine jx ?_);simp [*])|with_reducible refine rL hE ?_|(refine jC (hnums.out) ?_ ?_ ?_;(iterate 2 focus (simp [*] <;> fail));simp [*])|with_reducible refine And.intro ?_ ?_|omega|(refine imp1 fun h=>?_))
 refine AW_loopk (G:=Nat) (fun i=>⟨[(9,iA i),(8,iA L.length),(7,.sl 1 (L.map iA)),(3,.loc 3 0)],
  match i with
  |0=>[(3,bbox (.v (.pointer none)) (.v (.slice none 0 0)))]
  |i + 1=>[(3,bbox (.loc 3 0) (.own 800 1 0 (F (i + 1)).length)),(800,byteR (F (i + 1)))]⟩)
  (fun i=>i ≤ L.length) (fun i=>L.length - i) 0 (by omega) (by simp) ?_
 intro i hi K hK
 by_cases hlt : i < L.length
 ·have hx:=hf.out L[i] (List.getElem_mem hlt)
  obtain ⟨hx1,hx2,hx3⟩:=hx
  replace hx1:=Hld.mk hx1
  replace hx2:=Hld.mk hx2
  have hfs:=Hld.mk (fs.out i hlt)
  cases i with
  |zero =>
   simp only
   repeat' (first
    |(with_reducible first|refine uK ?_|refine uX ?_|refine jq fun K hK=>?_|refine jb ?_)|((with_reducible first|refine rS hE ?_|refine jn ?_|refine js fun K' hK'=>?_|refine ji fun X Y hX hY=>?_|refine jr ?_|refine jk ?_|refine jx ?_);simp [*])|with_reducible refine rL hE ?_|(refine acall_sameL hLd (hx1.out) ?_ ?_ ?_;(iterate 2 focus (simp [*] <;> fail));simp [*])|with_reducible refine And.intro ?_ ?_|omega|(refine imp1 fun h=>?_))
   refine acall_boxes (m_wsF (f L[0]) (by omega) hx2.out) (nm [(1000000,3)]) (nm [(1000000,3),(14,801)]) [(1000000,bbox (.loc 1000000 0) (.own 14 1 0 (f L[0]).length)),(14,byteR (f L[0]))] (.tup [iA (f L[0]).length,.v .nilIface]) (by rintro res bf ⟨rfl,h⟩;simp [h]) (by simp) (by simp) (by simp) (by simp [lk]) (by simp) (by simp) (by simp) ?_
   simp
   repeat' (first
    |(with_reducible first|refine uK ?_|refine uX ?_|refine jq fun K hK=>?_|refine jb ?_)|((with_reducible first|refine rS hE ?_|refine jn ?_|refine js fun K' hK'=>?_|refine ji fun X Y hX hY=>?_|refine jr ?_|refine jk ?_|refine jx ?_);simp [*])|with_reducible refine rL hE ?_|with_reducible refine And.intro ?_ ?_|omega|(refine imp1 fun h=>?_))
   refine acall_boxes (m_wbU (f L[0]) 10 (by omega)) (nm [(1000000,3),(1000001,801)]) (nm [(1000000,3),(900,800)]) [(1000000,bbox (.loc 1000000 0) (.own 900 1 0 (f L[0] ++ [10]).length)),(900,byteR (f L[0] ++ [10]))] (.v .nilIface) (by rintro res bf ⟨rfl,h⟩;simp [h]) (by simp) (by simp) (by simp) (by simp [lk]) (by simp) (by simp) (by simp) ?_
   simp
   repeat' (first
    |(with_reducible first|refine uK ?_|refine uX ?_|refine jq fun K hK=>?_|refine jb ?_)|((with_reducible first|refine rS hE ?_|refine jn ?_|refine js fun K' hK'=>?_|refine ji fun X Y hX hY=>?_|refine jr ?_|refine jk ?_|refine jx ?_);simp [*])|with_reducible refine rL hE ?_|with_reducible refine And.intro ?_ ?_|omega|(refine imp1 fun h=>?_))
   have h3:=hfs.out
   rw [f0.out] at h3
   simp at h3
   exact ⟨1,by omega,by omega,by simp [h3]⟩
  |succ i =>
   have hfl:=(fl.out (i + 1) (by omega)).1
   simp only
   repeat' (first
    |(with_reducible first|refine uK ?_|refine uX ?_|refine jq fun K hK=>?_|refine jb ?_)|((with_reducible first|refine rS hE ?_|refine jn ?_|refine js fun K' hK'=>?_|refine ji fun X Y hX hY=>?_|refine jr ?_|refine jk ?_|refine jx ?_);simp [*])|with_reducible refine rL hE ?_|(refine acall_sameL hLd (hx1.out) ?_ ?_ ?_;(iterate 2 focus (simp [*] <;> fail));simp [*])|with_reducible refine And.intro ?_ ?_|omega|(refine imp1 fun h=>?_))
   refine acall_boxes (m_wsU (F (i + 1)) (f L[i + 1]) (by omega)) (nm [(1000000,3),(1000001,800)]) (nm [(1000000,3),(900,801)]) [(1000000,bbox (.loc 1000000 0) (.own 900 1 0 (F (i + 1) ++ f L[i + 1]).length)),(900,byteR (F (i + 1) ++ f L[i + 1]))] (.tup [iA (f L[i + 1]).length,.v .nilIface]) (by rintro res bf ⟨rfl,h⟩;simp [h]) (by simp) (by simp) (by simp) (by simp [lk]) (by simp) (by simp) (by simp) ?_
   simp
   repeat' (first
    |(with_reducible first|refine uK ?_|refine uX ?_|refine jq fun K hK=>?_|refine jb ?_)|((with_reducible first|refine rS hE ?_|refine jn ?_|refine js fun K' hK'=>?_|refine ji fun X Y hX hY=>?_|refine jr ?_|refine jk ?_|refine jx ?_);simp [*])|with_reducible refine rL hE ?_|with_reducible refine And.intro ?_ ?_|omega|(refine imp1 fun h=>?_))
   refine acall_boxes (m_wbU (F (i + 1) ++ f L[i + 1]) 10 (by simp;omega)) (nm [(1000000,3),(1000001,801)]) (nm [(1000000,3),(900,800)]) [(1000000,bbox (.loc 1000000 0) (.own 900 1 0 (F (i + 1) ++ f L[i + 1] ++ [10]).length)),(900,byteR (F (i + 1) ++ f L[i + 1] ++ [10]))] (.v .nilIface) (by rintro res bf ⟨rfl,h⟩;simp [h]) (by simp) (by simp) (by simp) (by simp [lk]) (by simp) (by simp) (by simp) ?_
   simp
   repeat' (first
    |(with_reducible first|refine uK ?_|refine uX ?_|refine jq fun K hK=>?_|refine jb ?_)|((with_reducible first|refine rS hE ?_|refine jn ?_|refine js fun K' hK'=>?_|refine ji fun X Y hX hY=>?_|refine jr ?_|refine jk ?_|refine jx ?_);simp [*])|with_reducible refine rL hE ?_|with_reducible refine And.intro ?_ ?_|omega|(refine imp1 fun h=>?_))
   refine ⟨i + 1 + 1,by omega,by omega,?_⟩
   simp only [hfs.out]
   simp
 ·have hil : i = L.length:=by omega
  subst hil
  have hfe:=fe.out
  have hpos : ∃ m,L.length = m + 1:=⟨L.length - 1,by have:=hln.out;omega⟩
  obtain ⟨m,hm⟩:=hpos
  have hfl:=fl.out L.length (Nat.le_refl _)
  rw [hm] at hfe hfl ⊢
  replace hfe:=Hld.mk hfe
  simp only
  repeat' (first
   |(with_reducible first|refine uK ?_|refine uX ?_|refine jq fun K hK=>?_|refine jb ?_)|((with_reducible first|refine rS hE ?_|refine jn ?_|refine js fun K' hK'=>?_|refine ji fun X Y hX hY=>?_|refine jr ?_|refine jk ?_|refine jx ?_);simp [*])|with_reducible refine rL hE ?_|with_reducible refine And.intro ?_ ?_|omega|(refine imp1 fun h=>?_))
  refine acall_boxes (m_str (F (m + 1)) (by omega) (hfl.2 (by omega))) (nm [(1000000,3),(1000001,800)]) (nm []) [] (strV (F (m + 1))) (by rintro res bf rfl;simp) (by simp) (by simp) (by simp) (by simp [lk]) (by simp) (by simp) (by simp) ?_
  simp
  repeat' (first
   |(with_reducible first|refine uK ?_|refine uX ?_|refine jq fun K hK=>?_|refine jb ?_)|((with_reducible first|refine rS hE ?_|refine jn ?_|refine js fun K' hK'=>?_|refine ji fun X Y hX hY=>?_|refine jr ?_|refine jk ?_|refine jx ?_);simp [*])|with_reducible refine rL hE ?_|with_reducible refine And.intro ?_ ?_|omega|(refine imp1 fun h=>?_))
  exact hfe.out.symm
def laid5 : List (String × DataW Unit):=[("math/bits.deBruijn32tab",Rows.laid_math_bits_deBruijn32tab),("math/bits.deBruijn64tab",Rows.laid_math_bits_deBruijn64tab),("internal/strconv.uint64pow10",Rows.laid_internal_strconv_uint64pow10),("strconv.ErrRange",Rows.laid_strconv_ErrRange),("strconv.ErrSyntax",Rows.laid_strconv_ErrSyntax)]
theorem door_met5 (os : Os) (args : Array Value) : laidMetH Tryz.prog laid5 ((World.doorLaid Tryz.prog 400 os).forCall (fun _ _=>0) ⟨#[],args,[]⟩).memory :=
 laidMetH_of_parts3 (fuel:=8) (laidMet_of_run' 8 (by kernel_rfl) (by kernel_rfl)) (by kernel_rfl) (by kernel_rfl)
theorem pow_tab : (Rows.laid_internal_strconv_uint64pow10 : DataW Unit) = Lib.tabData .u64 Lib.pow10Tab:=by rfl
theorem starE : "*" ++ "errors.errorString" = "*errors.errorString":=by decide
theorem rowE (u : TypeId) (h : Tryz.prog.typeName? 3 u = some "*errors.errorString") : u = 190 :=
 typeName_ptr_named (nm:="errors.errorString") (by rw [starE];kernel_rfl) (by kernel_rfl) (by decide) u (by rw [starE];exact h)
theorem LW_of {W : World} (h : laidMetH Tryz.prog laid5 W) : LW W:=by
 have e : (laid5.filter fun x=>x.2.handleName?.isSome) = []:=by kernel_rfl
 unfold laidMetH at h
 rw [e] at h
 simp only at h
 unfold laid5 at h
 have h3:=h.tail.tail
 have h4:=h3.tail
 have h5:=h4.tail
 rw [pow_tab] at h3
 have g2:=laid_sentinel (g:=2) (ti:=89) (ts:=9) h4 (by kernel_rfl) (by kernel_rfl) Tryz.underlying89 rowE Tryz.underlying190 Tryz.underlying192 rfl rfl Tryz.underlying9 (by kernel_rfl) (by kernel_rfl)
 have g1:=laid_sentinel (g:=1) (ti:=89) (ts:=9) h5 (by kernel_rfl) (by kernel_rfl) Tryz.underlying89 rowE Tryz.underlying190 Tryz.underlying192 rfl rfl Tryz.underlying9 (by kernel_rfl) (by kernel_rfl)
 refine ⟨?_,?_,?_⟩
 ·exact Lib.tabIs_of_head (g:=3) (t:=184) (e:=139) (n:=20) (by kernel_rfl) (by kernel_rfl) Tryz.underlying184 Tryz.underlying139 (by kernel_rfl) (by kernel_rfl) h3
 ·obtain ⟨a,s,hv, -⟩:=g1
  have:=World.var?_cell (show Tryz.prog.globalNamed "strconv.ErrSyntax" = some 1 by kernel_rfl) hv 0
  exact ⟨.iface 190 (.pointer (some a)),by simpa using this,.inr ⟨_,_,rfl⟩⟩
 ·obtain ⟨a,s,hv, -⟩:=g2
  have:=World.var?_cell (show Tryz.prog.globalNamed "strconv.ErrRange" = some 2 by kernel_rfl) hv 0
  exact ⟨.iface 190 (.pointer (some a)),by simpa using this,.inr ⟨_,_,rfl⟩⟩
end Go.Proofs.YtbibemijcdkjhaaGreatDoor
end
