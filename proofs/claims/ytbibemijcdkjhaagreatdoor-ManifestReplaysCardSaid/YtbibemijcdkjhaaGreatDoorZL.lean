/- Layer 40, plain: what stays true behind steps; replaying edits; a snapshot's edits -/
import Derived.Test.YtbibemijcdkjhaaGreatDoorZA
import Derived.Test.YtbibemijcdkjhaaGreatDoorZJ
import Derived.Test.YtbibemijcdkjhaaGreatDoorZK
import Derived.Test.YtbibemijcdkjhaaGreatDoorZ6
set_option maxRecDepth 100000
set_option linter.unusedSimpArgs false
set_option linter.unusedVariables false
section
namespace Go.Proofs.YtbibemijcdkjhaaGreatDoor
open Go.Am Go.Num Kn
theorem mem_srtS {l : List Seg} {s : Seg} : s ∈ srtS l ↔ s ∈ l:=by unfold srtS sortL;exact (List.mergeSort_perm _ _).mem_iff
theorem mem_chgM {l : List Seg} {e : Ed} {s : Seg} : s ∈ chgM l e ↔ (s ∈ l ∧ inI e.rem s.id = false) ∨ s ∈ e.add:=by
 unfold chgM
 rw [mem_srtS,List.mem_append,List.mem_filter]
 simp
theorem chgM_len (l : List Seg) (e : Ed) : (chgM l e).length ≤ l.length + e.add.length:=by
 unfold chgM
 rw [srtS_len,List.length_append]
 have:=List.length_filter_le (fun s : Seg=>!inI e.rem s.id) l
 omega
theorem maxU_mem : ∀ {l : List Seg} {u : Int} {s : Seg},s ∈ l → s.id ≤ maxU u l
 |a :: l,u,s,h=>by
  unfold maxU
  rw [List.foldl_cons]
  rcases List.mem_cons.1 h with rfl|h
  ·have:=maxU_ge l (max u s.id)
   unfold maxU at this
   omega
  ·exact maxU_mem (l:=l) h
theorem maxU_same : ∀ {l : List Seg} {u : Int},(∀ s ∈ l,s.id ≤ u) → maxU u l = u
 |[],_,_=>rfl
 |a :: l,u,h=>by
  have ha:=h a (by simp)
  unfold maxU
  rw [List.foldl_cons,show max u a.id = u by omega]
  exact maxU_same (l:=l) fun s hs=>h s (by simp [hs])
theorem inI_iff {l : List Int} {n : Int} : inI l n = true ↔ n ∈ l:=by simp [inI]
structure Sn (m : Sh) (n : Nat) : Prop where
 inv : Inv m n
 fst : 0 ≤ m.first ∧ m.first + (m.lists.length : Int) ≤ (n : Int) + 1
 val : ∀ l ∈ m.lists,∀ s ∈ l,chkS s = 0 ∧ s.id ≤ m.used
 con : ∀ l ∈ m.lists,∀ l' ∈ m.lists,∀ s ∈ l,∀ s' ∈ l',s.id = s'.id → s = s'
 siz : ∀ l ∈ m.lists,l.length ≤ 3 * n
theorem sn0 : Sn M0 0:=⟨inv0,by simp [M0],by simp [M0],by simp [M0],by simp [M0]⟩
theorem oth_of {m : Sh} {x : Seg} (h : othHas m x = false) {l : List Seg} (hl : l ∈ m.lists) (hs : Srt l) {s : Seg} (hm : s ∈ l) (he : s.id = x.id) : s = x:=by
 unfold othHas at h
 rw [List.any_eq_false] at h
 have h1:=h l hl
 unfold othB at h1
 have h2 : hasB l x.id = true:=hasB_iff.2 ⟨s,hm,he⟩
 rw [h2] at h1
 simp at h1
 have h3 : findS l x.id = some s:=by
  have h4 : (findS l x.id).isSome = true:=h2
  obtain ⟨s',h5⟩:=Option.isSome_iff_exists.1 h4
  unfold findS at h5
  have h6:=List.mem_of_find?_eq_some h5
  have h7:=List.find?_some h5
  simp at h7
  unfold findS
  rw [h5]
  congr 1
  exact srt_inj hs h6 hm (by omega)
 rw [h3] at h1
 simpa using h1
theorem any_of {m : Sh} {x : Int} (h : anyHas m x = false) {l : List Seg} (hl : l ∈ m.lists) {s : Seg} (hm : s ∈ l) : s.id ≠ x:=by
 intro e
 unfold anyHas at h
 rw [List.any_eq_false] at h
 exact h l hl (hasB_iff.2 ⟨s,hm,e⟩)
theorem sn_app {m : Sh} {e : Ed} {n : Nat} (h : Sn m n) (hn : n ≤ 1000) (hc : ChkOK m e) (h4 : e.kind ≠ 4) (h3 : e.add.length ≤ 3) : Sn (appE m e) (n + 1):=by
 have hw:=h.inv.wf
 obtain ⟨b1,b2,b3,b4⟩:=belief_zero hc.belief
 obtain ⟨ha1,ha⟩:=addGo_zero hc.add
 have hlast : lastL m ∈ m.lists:=by rw [lastL_eq hw.ne];exact List.getElem_mem _
 have hu : (appE m e).used = maxU m.used e.add:=by
  show maxU (appB m e).used e.add = _
  unfold appB
  rcases hc.kind with hk|hk|hk|hk
  ·simp [hk]
  ·simp [hk]
  ·simp [hk]
  ·exact (h4 hk).elim
 have hge:=maxU_ge e.add m.used
 have mem : ∀ l ∈ (appE m e).lists,∀ s ∈ l,(∃ l0 ∈ m.lists,s ∈ l0) ∨ s ∈ e.add:=by
  intro l hl s hs
  change l ∈ (appB m e).lists at hl
  unfold appB at hl
  rcases hc.kind with hk|hk|hk|hk
  ·simp only [hk,if_true] at hl
   rcases List.mem_append.1 hl with hl|hl
   ·exact .inl ⟨l,hl,hs⟩
   ·simp at hl
    subst hl
    rcases mem_chgM.1 hs with ⟨h1, -⟩|h1
    ·exact .inl ⟨_,hlast,h1⟩
    ·exact .inr h1
  ·simp only [hk,Int.reduceEq,if_false,if_true] at hl
   obtain ⟨l',hl',rfl⟩:=List.mem_map.1 hl
   split at hs
   ·rcases mem_chgM.1 hs with ⟨h1, -⟩|h1
    ·exact .inl ⟨_,hl',h1⟩
    ·exact .inr h1
   ·exact .inl ⟨_,hl',hs⟩
  ·simp only [hk,Int.reduceEq,if_false,if_true] at hl
   exact .inl ⟨l,List.mem_of_mem_drop hl,hs⟩
  ·exact (h4 hk).elim
 have cross : e.kind ≠ 3 → ∀ l0 ∈ m.lists,∀ s ∈ l0,∀ x ∈ e.add,s.id = x.id → s = x:=by
  intro hk l0 hl0 s hs x hx he
  have hx1:=(ha1 x hx).1
  rcases hc.kind with hk1|hk2|hk3|hk4
  ·exact oth_of (hx1.oth hk1) hl0 (hw.srt l0 hl0).1 hs he
  ·exact (any_of (hx1.dup2 hk2) hl0 hs he).elim
  ·exact (hk hk3).elim
  ·exact (h4 hk4).elim
 have add3 : e.kind = 3 → e.add = []:=by
  intro hk
  have:=hc.form
  unfold formB at this
  simp [hk] at this
  exact this.2.2
 refine ⟨app_inv h.inv hn hc,?_,?_,?_,?_⟩
 ·have hf:=h.fst
  change 0 ≤ (appB m e).first ∧ (appB m e).first + ((appB m e).lists.length : Int) ≤ _
  unfold appB
  have hlb : lastB m = m.first + (m.lists.length : Int) - 1:=rfl
  rcases hc.kind with hk|hk|hk|hk
  ·simp [hk];omega
  ·simp [hk];omega
  ·have:=b3 hk
   simp [inB] at this
   simp [hk];omega
  ·exact (h4 hk).elim
 ·intro l hl s hs
  rw [hu]
  rcases mem l hl s hs with ⟨l0,h1,h2⟩|h1
  ·have:=h.val l0 h1 s h2
   exact ⟨this.1,by omega⟩
  ·exact ⟨(ha1 s h1).1.chk,maxU_mem h1⟩
 ·intro l hl l' hl' s hs s' hs' he
  rcases mem l hl s hs with ⟨l0,h1,h2⟩|h1 <;> rcases mem l' hl' s' hs' with ⟨l1,h5,h6⟩|h5
  ·exact h.con l0 h1 l1 h5 s h2 s' h6 he
  ·by_cases hk : e.kind = 3
   ·rw [add3 hk] at h5;simp at h5
   ·exact cross hk l0 h1 s h2 s' h5 he
  ·by_cases hk : e.kind = 3
   ·rw [add3 hk] at h1;simp at h1
   ·exact (cross hk l1 h5 s' h6 s h1 he.symm).symm
  ·exact srt_inj ha h1 h5 he
 ·intro l hl
  change l ∈ (appB m e).lists at hl
  unfold appB at hl
  rcases hc.kind with hk|hk|hk|hk
  ·simp only [hk,if_true] at hl
   rcases List.mem_append.1 hl with hl|hl
   ·have:=h.siz l hl;omega
   ·simp at hl
    subst hl
    have:=h.siz _ hlast
    have:=chgM_len (lastL m) e
    omega
  ·simp only [hk,Int.reduceEq,if_false,if_true] at hl
   obtain ⟨l',hl',rfl⟩:=List.mem_map.1 hl
   have:=h.siz _ hl'
   split
   ·have:=chgM_len l' e
    omega
   ·omega
  ·simp only [hk,Int.reduceEq,if_false,if_true] at hl
   have:=h.siz l (List.mem_of_mem_drop hl);omega
  ·exact (h4 hk).elim
theorem wrW_shape (m : Sh) (x : Stp) (e : Ed) (h1 : e.rem.length ≤ 3) (h2 : e.add.length ≤ 3) : (wrW m x e).kind = e.kind ∧ (wrW m x e).add.length ≤ 3 ∧ (wrW m x e).rem.length ≤ 4:=by
 have key : ∀ (n : Int) (ls : List (List Seg)) (acc : List Seg),acc.length ≤ 3 → (ls.foldl (fun acc l=>if hasB l n then [(findS l n).getD default] else acc) acc).length ≤ 3:=by
  intro n ls
  induction ls with
  |nil=>intro acc h;exact h
  |cons l ls ih =>
   intro acc h
   rw [List.foldl_cons]
   refine ih _ ?_
   split
   ·simp
   ·exact h
 unfold wrW
 split
 ·exact ⟨rfl,by simp;omega,by simp;omega⟩
 ·split
  ·exact ⟨rfl,by simp;omega,by simp;omega⟩
  ·split
   ·exact ⟨rfl,by simp [hdMap_len];omega,by simp;omega⟩
   ·split
    ·exact ⟨rfl,by simp;omega,by simp;omega⟩
    ·split
     ·exact ⟨rfl,by simp [hdMap_len];omega,by simp;omega⟩
     ·split
      ·refine ⟨rfl,?_,by simp;omega⟩
       simp only
       split
       ·omega
       ·exact key _ _ _ h2
      ·exact ⟨rfl,h2,by omega⟩
theorem edW_shape (m : Sh) (x : Stp) : (edW m x).kind ≠ 4 ∧ (edW m x).add.length ≤ 3 ∧ (edW m x).rem.length ≤ 4:=by
 have hr : ∀ k b base,(wrW m x (rawW m x k b base)).kind = k ∧ (wrW m x (rawW m x k b base)).add.length ≤ 3 ∧ (wrW m x (rawW m x k b base)).rem.length ≤ 4:=by
  intro k b base
  refine wrW_shape m x _ ?_ ?_
  ·have:=remU_len base x.rem (min base.length 3)
   unfold rawW
   simp only
   omega
  ·have:=addU_len m x (x.add % 4)
   unfold rawW
   simp only
   omega
 unfold edW
 split
 ·exact ⟨by simp,by simp,by simp⟩
 ·split
  ·obtain ⟨h1,h2,h3⟩:=hr 1 (lastB m + 1) (lastL m)
   exact ⟨by rw [h1];decide,h2,h3⟩
  ·obtain ⟨h1,h2,h3⟩:=hr 2 0 (baseW m x)
   exact ⟨by rw [h1];decide,h2,h3⟩
theorem run_sn (l : List Stp) : ∀ i,i ≤ 24 → Sn (runS l i).1 i
 |0,_=>sn0
 |i + 1,h=>by
  have ih:=run_sn l i (by omega)
  unfold runS
  simp only
  unfold stepE
  obtain ⟨h1,h2,h3⟩:=edW_shape (runS l i).1 (l.getD i default)
  split
  ·rename_i hc
   exact sn_app ih (by omega) (chk_zero hc) h1 h2
  ·exact ⟨ih.inv.more (by omega),⟨ih.fst.1,by have:=ih.fst.2;omega⟩,ih.val,ih.con,fun l hl=>by have:=ih.siz l hl;omega⟩
theorem chkS_I62 {s : Seg} (h : chkS s = 0) : ∀ n ∈ numsS s,I62 n:=by
 unfold chkS at h
 split at h
 ·rename_i h1
  split at h
  ·rename_i h2
   unfold okB at h2
   simp [inB] at h1 h2
   intro n hn
   simp [numsS] at hn
   rcases hn with rfl|rfl|rfl|rfl|rfl|rfl|rfl|rfl|rfl <;> constructor <;> omega
  ·omega
 ·omega
theorem ed_I62 {m : Sh} {e : Ed} {n : Nat} (h : Sn m n) (hn : n ≤ 1000) (hc : ChkOK m e) (hr : e.rem.length ≤ 1000) (ha : e.add.length ≤ 1000) : ∀ x ∈ numsE e,I62 x:=by
 obtain ⟨b1,b2,b3,b4⟩:=belief_zero hc.belief
 obtain ⟨ha1, -⟩:=addGo_zero hc.add
 obtain ⟨-,r2,r3⟩:=remE_zero hc.rem
 have hw:=h.inv.wf
 have hf:=h.fst
 have hform:=hc.form
 have hlast : lastL m ∈ m.lists:=by rw [lastL_eq hw.ne];exact List.getElem_mem _
 have hlb : lastB m = m.first + (m.lists.length : Int) - 1:=rfl
 have hrem : ∀ l ∈ m.lists,hasAllB l e.rem = true → ∀ x ∈ e.rem,I62 x:=by
  intro l hl hh x hx
  unfold hasAllB at hh
  rw [List.all_eq_true] at hh
  obtain ⟨s,hs,he⟩:=hasB_iff.1 (hh x hx)
  rw [← he]
  exact chkS_I62 (h.val l hl s hs).1 s.id (by simp [numsS])
 have hne : 0 < m.lists.length:=hw.ne
 have main : I62 e.kind ∧ I62 e.belief ∧ I62 e.used ∧ ∀ x ∈ e.rem,I62 x:=by
  unfold formB at hform
  rcases hc.kind with hk|hk|hk|hk
  ·simp [hk] at hform
   have:=(b2 hk).1
   refine ⟨by rw [hk];constructor <;> omega,by constructor <;> omega,by rw [hform];constructor <;> omega,hrem _ hlast (r2 hk)⟩
  ·simp [hk] at hform
   have hx:=r3 hk
   unfold anyAll at hx
   rw [List.any_eq_true] at hx
   obtain ⟨l,hl,hh⟩:=hx
   refine ⟨by rw [hk];constructor <;> omega,by rw [hform.1];constructor <;> omega,by rw [hform.2];constructor <;> omega,hrem l hl hh⟩
  ·simp [hk] at hform
   have:=b3 hk
   simp [inB] at this
   refine ⟨by rw [hk];constructor <;> omega,by constructor <;> omega,by rw [hform.1];constructor <;> omega,by rw [hform.2.1];simp⟩
  ·simp [hk] at hform
   have h1:=(b1 hk).2
   have h2:=size_used hc hk
   simp [inB] at h1 h2
   refine ⟨by rw [hk];constructor <;> omega,by constructor <;> omega,by constructor <;> omega,by rw [hform];simp⟩
 intro x hx
 simp only [numsE,List.mem_append,List.mem_flatMap] at hx
 rcases hx with ((hx|hx)|hx)|⟨s,hs,hx⟩
 ·simp at hx
  rcases hx with rfl|rfl|rfl|rfl
  ·exact main.1
  ·exact main.2.1
  ·exact main.2.2.1
  ·constructor <;> omega
 ·exact main.2.2.2 x hx
 ·simp at hx
  subst hx
  constructor <;> omega
 ·exact chkS_I62 (ha1 s hs).1.chk x hx
def replGo : Sh → Nat → List (List UInt8) → Sh × Nat × Int
 |m,i,[]=>(m,i,0)
 |m,i,s :: ss=>if (decS s).2 ≠ 0 then (m,i,(decS s).2) else if chkE m (decS s).1 ≠ 0 then (m,i,chkE m (decS s).1) else replGo (appE m (decS s).1) (i + 1) ss
def encB (e : Ed) : List UInt8:=lns (numsE e)
theorem repl_app : ∀ {ss ts : List (List UInt8)} {m m' : Sh} {i j : Nat},replGo m i ss = (m',j,0) → replGo m i (ss ++ ts) = replGo m' j ts
 |[],ts,m,m',i,j,h=>by
  simp only [replGo,Prod.mk.injEq] at h
  obtain ⟨rfl,rfl, -⟩:=h
  rfl
 |s :: ss,ts,m,m',i,j,h=>by
  rw [List.cons_append]
  have e1 : ∀ us,replGo m i (s :: us) = if (decS s).2 ≠ 0 then (m,i,(decS s).2) else if chkE m (decS s).1 ≠ 0 then (m,i,chkE m (decS s).1) else replGo (appE m (decS s).1) (i + 1) us:=fun _=>rfl
  rw [e1] at h ⊢
  split
  ·rename_i h1
   rw [if_pos h1] at h
   simp only [Prod.mk.injEq] at h
   exact (h1 h.2.2).elim
  ·rename_i h1
   rw [if_neg h1] at h
   split
   ·rename_i h2
    rw [if_pos h2] at h
    simp only [Prod.mk.injEq] at h
    exact (h2 h.2.2).elim
   ·rename_i h2
    rw [if_neg h2] at h
    exact repl_app h
theorem repl_one {m : Sh} {e : Ed} {i : Nat} (hI : ∀ x ∈ numsE e,I62 x) (hc : chkE m e = 0) : replGo m i [encB e] = (appE m e,i + 1,0):=by
 unfold replGo encB
 rw [decS_enc e hI]
 simp [hc,replGo]
theorem repl_snoc {ss : List (List UInt8)} {m0 m : Sh} {e : Ed} {i j : Nat} (h : replGo m0 i ss = (m,j,0)) (hI : ∀ x ∈ numsE e,I62 x) (hc : chkE m e = 0) : replGo m0 i (ss ++ [encB e]) = (appE m e,j + 1,0):=by
 rw [repl_app h,repl_one hI hc]
theorem run_repl (l : List Stp) : ∀ i,i ≤ 24 → replGo M0 0 ((runS l i).2.map encB) = ((runS l i).1,(runS l i).2.length,0)
 |0,_=>rfl
 |i + 1,h=>by
  have ih:=run_repl l i (by omega)
  have hs:=run_sn l i (by omega)
  obtain ⟨h1,h2,h3⟩:=edW_shape (runS l i).1 (l.getD i default)
  by_cases hc : chkE (runS l i).1 (edW (runS l i).1 (l.getD i default)) = 0
  ·have h5 : runS l (i + 1) = (appE (runS l i).1 (edW (runS l i).1 (l.getD i default)),(runS l i).2 ++ [edW (runS l i).1 (l.getD i default)]):=by
    conv=>lhs;unfold runS
    rw [if_pos hc]
    unfold stepE
    rw [if_pos hc]
   rw [h5]
   simp only [List.map_append,List.map_cons,List.map_nil,List.length_append,List.length_singleton]
   exact repl_snoc ih (ed_I62 hs (by omega) (chk_zero hc) (by omega) (by omega)) hc
  ·have h5 : runS l (i + 1) = runS l i:=by
    conv=>lhs;unfold runS
    rw [if_neg hc]
    unfold stepE
    rw [if_neg hc]
   rw [h5]
   exact ih
theorem run_edits (l : List Stp) : ∀ i,i ≤ 24 → ∀ e ∈ (runS l i).2,(∀ x ∈ numsE e,I62 x) ∧ e.rem.length ≤ 4 ∧ e.add.length ≤ 3
 |0,_=>by simp [runS]
 |i + 1,h=>by
  have ih:=run_edits l i (by omega)
  have hs:=run_sn l i (by omega)
  obtain ⟨h1,h2,h3⟩:=edW_shape (runS l i).1 (l.getD i default)
  intro e he
  unfold runS at he
  simp only at he
  split at he
  ·rename_i hc
   rcases List.mem_append.1 he with he|he
   ·exact ih e he
   ·obtain rfl:=List.mem_singleton.1 he
    exact ⟨ed_I62 hs (by omega) (chk_zero hc) (by omega) (by omega),h3,h2⟩
  ·exact ih e he
def diffS (l o : List Seg) : List Seg:=l.filter fun s=>!hasB o s.id
def snap0 (m : Sh) : Ed:=⟨4,m.first,m.used,[],m.lists.getD 0 []⟩
def snapI (m : Sh) (i : Nat) : Ed:=⟨1,m.first + i,0,(diffS (m.lists.getD (i - 1) []) (m.lists.getD i [])).map (·.id),diffS (m.lists.getD i []) (m.lists.getD (i - 1) [])⟩
def snapG (m : Sh) : Nat → List Ed
 |0=>[snap0 m]
 |i + 1=>snapG m i ++ [snapI m (i + 1)]
def snapE (m : Sh) : List Ed:=snapG m (m.lists.length - 1)
theorem snapG_len (m : Sh) : ∀ i,(snapG m i).length = i + 1
 |0=>rfl
 |i + 1=>by unfold snapG;rw [List.length_append,snapG_len m i];rfl
def preT (m : Sh) (k : Nat) : Sh:=⟨m.first,m.used,m.lists.take (k + 1)⟩
theorem remGo_ok {last : List Seg} : ∀ {l : List Int} {p : Option Int},(∀ y,p = some y → ∀ x ∈ l,y < x) → l.Pairwise (· < ·) → (∀ x ∈ l,hasB last x = true) → remGo 1 last p l = 0
 |[],_,_,_,_=>rfl
 |x :: l,p,hp,hs,hh=>by
  have hs':=List.pairwise_cons.1 hs
  unfold remGo
  rw [if_neg,if_neg,remGo_ok (fun y hy z hz=>by cases hy;exact hs'.1 z hz) hs'.2 (fun z hz=>hh z (by simp [hz]))]
  ·rintro ⟨-,h⟩
   rw [hh x (by simp)] at h
   cases h
  ·cases p with
   |none=>simp
   |some y=>have:=hp y rfl x (by simp);simp;omega
theorem addGo_ok {m : Sh} {k : Int} {rem : List Int} : ∀ {l : List Seg} {p : Option Int},(∀ y,p = some y → ∀ x ∈ l,y < x.id) → Srt l → (∀ x ∈ l,AddOK m k rem x) → addGo m k rem p l = 0
 |[],_,_,_,_=>rfl
 |x :: l,p,hp,hs,hh=>by
  have hs':=List.pairwise_cons.1 hs
  have hx:=hh x (by simp)
  have h1 : addOne m k rem p x = 0:=by
   unfold addOne
   rw [if_neg (by simp [hx.chk]),if_neg,if_neg,if_neg]
   ·rintro ⟨h1,h2⟩;rw [hx.oth h1] at h2;cases h2
   ·rintro (⟨h1,h2,h3⟩|⟨h1,h2⟩)
    ·rw [hx.dup1 h1 h2] at h3;cases h3
    ·rw [hx.dup2 h1] at h2;cases h2
   ·cases p with
    |none=>simp
    |some y=>have:=hp y rfl x (by simp);simp;omega
  unfold addGo
  rw [if_neg (by simp [h1])]
  exact addGo_ok (fun y hy z hz=>by cases hy;exact hs'.1 z hz) hs'.2 (fun z hz=>hh z (by simp [hz]))
theorem getD_mem {α : Type} {l : List α} {i : Nat} {d : α} (h : i < l.length) : l.getD i d ∈ l:=by
 rw [List.getD_eq_getElem?_getD,List.getElem?_eq_getElem h]
 exact List.getElem_mem h
theorem snap_ed {m : Sh} {n : Nat} (h : Sn m n) (hn : n ≤ 24) : ∀ k,k < m.lists.length → ∀ e ∈ snapG m k,e.rem.length ≤ 72 ∧ e.add.length ≤ 72
 |0,hk=>by
  intro e he
  simp [snapG] at he
  subst he
  have:=h.siz (m.lists.getD 0 []) (getD_mem hk)
  exact ⟨by simp [snap0],by simp only [snap0];omega⟩
 |k + 1,hk=>by
  intro e he
  unfold snapG at he
  rcases List.mem_append.1 he with he|he
  ·exact snap_ed h hn k (by omega) e he
  ·simp at he
   subst he
   have h1:=h.siz (m.lists.getD (k + 1) []) (getD_mem hk)
   have h2:=h.siz (m.lists.getD k []) (getD_mem (by omega))
   have h3:=List.length_filter_le (fun s : Seg=>!hasB (m.lists.getD (k + 1) []) s.id) (m.lists.getD k [])
   have h4:=List.length_filter_le (fun s : Seg=>!hasB (m.lists.getD k []) s.id) (m.lists.getD (k + 1) [])
   refine ⟨?_,?_⟩
   ·simp only [snapI,diffS,List.length_map,Nat.add_sub_cancel];omega
   ·simp only [snapI,diffS,Nat.add_sub_cancel];omega
theorem snap_first {m : Sh} {n : Nat} (h : Sn m n) (hn : n ≤ 24) : chkE M0 (snap0 m) = 0 ∧ appE M0 (snap0 m) = preT m 0 ∧ ∀ x ∈ numsE (snap0 m),I62 x:=by
 have hw:=h.inv.wf
 have hm : m.lists.getD 0 [] ∈ m.lists:=getD_mem hw.ne
 have hs:=hw.srt _ hm
 have hf:=h.fst
 have hu:=h.inv.used
 have hu0:=hw.used
 have hz:=h.siz _ hm
 have hadd : addE M0 (snap0 m) = 0:=by
  refine addGo_ok (by simp) hs.1 (fun x hx=>⟨(h.val _ hm x hx).1,fun hk=>?_,fun hk=>?_,fun hk=>?_⟩)
  ·simp [snap0] at hk
  ·simp [snap0] at hk
  ·simp [snap0] at hk
 have hin : inB m.first 0 1073741824 = true:=by simp [inB];omega
 have hin2 : inB m.used 0 1073741824 = true:=by simp [inB];omega
 have hsz : sizeE M0 (snap0 m) = 0:=by
  have hl : (m.lists[0]?.getD []).length ≤ 256:=by rw [List.getD_eq_getElem?_getD] at hz;omega
  unfold sizeE sizL longB
  simp [snap0,hin2,M0,hasAllB]
  omega
 have hc : chkE M0 (snap0 m) = 0:=by
  have h1 : inB (snap0 m).kind 1 4 = true:=by simp [snap0,inB]
  have h2 : formB (snap0 m) = false:=by simp [snap0,formB]
  have h3 : beliefE M0 (snap0 m) = 0:=by simp [snap0,beliefE,M0,untB,hin]
  have h4 : remE M0 (snap0 m) = 0:=by simp [snap0,remE,remGo]
  unfold chkE
  rw [h1,h2,h3,h4,hadd,hsz]
  simp
 refine ⟨hc,?_,?_⟩
 ·have h1 : maxU m.used (m.lists.getD 0 []) = m.used:=maxU_same fun s hs=>(h.val _ hm s hs).2
  have h2 : m.lists.take 1 = [m.lists.getD 0 []]:=by
   cases hl : m.lists with
   |nil=>have:=hw.ne;rw [hl] at this;simp at this
   |cons a l=>rfl
  simp only [appE,appB,snap0,preT,Int.reduceEq,if_false,h1,h2]
 ·exact ed_I62 sn0 (by omega) (chk_zero hc) (by simp [snap0]) (by simp only [snap0];omega)
theorem mem_diff {l o : List Seg} {s : Seg} : s ∈ diffS l o ↔ s ∈ l ∧ hasB o s.id = false:=by unfold diffS;rw [List.mem_filter];simp
theorem snap_next {m : Sh} {n : Nat} (h : Sn m n) (hn : n ≤ 24) (k : Nat) (hk : k + 1 < m.lists.length) : chkE (preT m k) (snapI m (k + 1)) = 0 ∧ appE (preT m k) (snapI m (k + 1)) = preT m (k + 1) ∧ ∀ x ∈ numsE (snapI m (k + 1)),I62 x:=by
 have hw:=h.inv.wf
 obtain ⟨A,hA⟩ : ∃ A,A = m.lists.getD k []:=⟨_,rfl⟩
 obtain ⟨B,hB⟩ : ∃ B,B = m.lists.getD (k + 1) []:=⟨_,rfl⟩
 have hAm : A ∈ m.lists:=hA ▸ getD_mem (by omega)
 have hBm : B ∈ m.lists:=hB ▸ getD_mem hk
 have sA:=(hw.srt A hAm).1
 have sB:=(hw.srt B hBm).1
 have zA:=h.siz A hAm
 have zB:=h.siz B hBm
 have he : snapI m (k + 1) = ⟨1,m.first + (k + 1 : Nat),0,(diffS A B).map (·.id),diffS B A⟩:=by rw [hA,hB];rfl
 have hlen : (preT m k).lists.length = k + 1:=by simp [preT];omega
 have hlast : lastL (preT m k) = A:=by
  rw [lastL_eq (by omega),hA]
  simp only [hlen,Nat.add_sub_cancel]
  simp [preT,List.getD_eq_getElem?_getD]
  rw [List.getElem?_eq_getElem (by omega)]
  rfl
 have hlb : lastB (preT m k) = m.first + k:=by unfold lastB;rw [hlen];simp [preT];omega
 have sub : ∀ l ∈ (preT m k).lists,l ∈ m.lists:=fun l hl=>List.mem_of_mem_take hl
 have hf:=h.fst
 have hl256:=h.inv.len
 have hrem : ∀ x ∈ (diffS A B).map (·.id),hasB A x = true:=by
  intro x hx
  obtain ⟨s,hs,rfl⟩:=List.mem_map.1 hx
  exact hasB_iff.2 ⟨s,(mem_diff.1 hs).1,rfl⟩
 have hrs : ((diffS A B).map (·.id)).Pairwise (· < ·):=by
  rw [List.pairwise_map]
  exact sA.sublist List.filter_sublist
 have hadd : addE (preT m k) (snapI m (k + 1)) = 0:=by
  rw [he]
  refine addGo_ok (by simp) (sB.sublist List.filter_sublist) (fun x hx=>?_)
  obtain ⟨hx1,hx2⟩:=mem_diff.1 hx
  refine ⟨(h.val B hBm x hx1).1,fun _ hh=>?_,fun h2=>?_,fun _=>?_⟩
  ·rw [hlast,hx2] at hh;cases hh
  ·simp at h2
  ·unfold othHas
   rw [List.any_eq_false]
   intro l hl ho
   unfold othB at ho
   rw [Bool.and_eq_true] at ho
   obtain ⟨s,hs,hse⟩:=hasB_iff.1 ho.1
   have hsx:=h.con l (sub l hl) B hBm s hs x hx1 hse
   subst hsx
   have h3 : findS l s.id = some s:=by
    obtain ⟨s',h5⟩:=Option.isSome_iff_exists.1 ho.1
    unfold findS at h5 ⊢
    have h6:=List.mem_of_find?_eq_some h5
    have h7:=List.find?_some h5
    simp at h7
    rw [h5]
    congr 1
    exact srt_inj (hw.srt l (sub l hl)).1 h6 hs (by omega)
   rw [h3] at ho
   simp at ho
 have hchg : chgM A (snapI m (k + 1)) = B:=by
  rw [he]
  unfold chgM
  refine srtS_eq ?_ sB
  simp only
  have e1 : (A.filter fun s=>!inI ((diffS A B).map (·.id)) s.id) = A.filter fun s=>hasB B s.id:=by
   refine List.filter_congr fun s hs=>?_
   cases hb : hasB B s.id with
   |true =>
    have : inI ((diffS A B).map (·.id)) s.id = false:=by
     rw [Bool.eq_false_iff]
     intro hh
     rw [inI_iff] at hh
     obtain ⟨s',hs',hs2⟩:=List.mem_map.1 hh
     have:=(mem_diff.1 hs').2
     rw [hs2,hb] at this
     cases this
    rw [this];rfl
   |false =>
    have : inI ((diffS A B).map (·.id)) s.id = true:=inI_iff.2 (List.mem_map.2 ⟨s,mem_diff.2 ⟨hs,hb⟩,rfl⟩)
    rw [this];rfl
  rw [e1]
  have e2 : B.filter (fun s=>hasB A s.id) = A.filter fun s=>hasB B s.id:=by
   have p1 : Srt (B.filter fun s=>hasB A s.id):=sB.sublist List.filter_sublist
   have p2 : Srt (A.filter fun s=>hasB B s.id):=sA.sublist List.filter_sublist
   have hm : ∀ s,s ∈ B.filter (fun s=>hasB A s.id) ↔ s ∈ A.filter (fun s=>hasB B s.id):=by
    intro s
    rw [List.mem_filter,List.mem_filter]
    constructor
    ·rintro ⟨h1,h2⟩
     obtain ⟨s',hs',hs2⟩:=hasB_iff.1 h2
     have:=h.con A hAm B hBm s' hs' s h1 hs2
     subst this
     exact ⟨hs',hasB_iff.2 ⟨s',h1,rfl⟩⟩
    ·rintro ⟨h1,h2⟩
     obtain ⟨s',hs',hs2⟩:=hasB_iff.1 h2
     have:=h.con B hBm A hAm s' hs' s h1 hs2
     subst this
     exact ⟨hs',hasB_iff.2 ⟨s',h1,rfl⟩⟩
   have hp : (B.filter fun s=>hasB A s.id).Perm (A.filter fun s=>hasB B s.id):=by
    refine (List.perm_ext_iff_of_nodup ?_ ?_).2 hm
    ·exact p1.imp fun {a b} h e=>by subst e;omega
    ·exact p2.imp fun {a b} h e=>by subst e;omega
   have q1:=srtS_eq hp p1
   have q2:=srtS_eq (List.Perm.refl _) p2
   exact q1.symm.trans q2
  rw [← e2]
  exact (List.filter_append_perm (fun s=>hasB A s.id) B).symm
 have hsz : sizeE (preT m k) (snapI m (k + 1)) = 0:=by
  have h1 : hasAllB A ((diffS A B).map (·.id)) = true:=by
   unfold hasAllB
   rw [List.all_eq_true]
   exact hrem
  have h2:=chg_long (e:=snapI m (k + 1)) sA (by rw [he];exact hrs) (by rw [he];exact h1)
  have h3 : (chgS A (snapI m (k + 1)).rem (snapI m (k + 1)).add).length = B.length:=by
   have h4 : (chgM A (snapI m (k + 1))).length = B.length:=by rw [hchg]
   unfold chgM at h4
   rw [srtS_len,List.length_append] at h4
   rw [chgS_len]
   exact h4
  rw [h3,decide_eq_false (show ¬ 256 < B.length by omega)] at h2
  have hk1 : (snapI m (k + 1)).kind = 1:=by rw [he]
  unfold sizeE sizL longB
  rw [hk1,hlast]
  simp only [if_true,List.any_cons,List.any_nil,h2]
  simp
 have hc : chkE (preT m k) (snapI m (k + 1)) = 0:=by
  have h1 : inB (snapI m (k + 1)).kind 1 4 = true:=by simp [he,inB]
  have h2 : formB (snapI m (k + 1)) = false:=by simp [he,formB]
  have h3 : beliefE (preT m k) (snapI m (k + 1)) = 0:=by
   have g1 : m.first + ((k : Int) + 1) = lastB (preT m k) + 1:=by rw [hlb];omega
   have g2 : ¬ 256 ≤ (preT m k).lists.length:=by omega
   simp [he,beliefE,g1,g2]
  have h4 : remE (preT m k) (snapI m (k + 1)) = 0:=by
   have g1:=remGo_ok (last:=A) (p:=none) (by simp) hrs hrem
   simp [he,remE,hlast,g1]
  unfold chkE
  rw [h1,h2,h3,h4,hadd,hsz]
  simp
 refine ⟨hc,?_,?_⟩
 ·have h1 : maxU m.used (diffS B A) = m.used:=maxU_same fun s hs=>(h.val B hBm s (mem_diff.1 hs).1).2
  have h2 : m.lists.take (k + 1 + 1) = m.lists.take (k + 1) ++ [B]:=by
   rw [List.take_succ_eq_append_getElem hk,hB]
   simp [List.getD_eq_getElem?_getD,List.getElem?_eq_getElem hk]
  have hk1 : (snapI m (k + 1)).kind = 1:=by rw [he]
  have ha1 : (snapI m (k + 1)).add = diffS B A:=by rw [he]
  unfold appE appB
  rw [hk1,hlast,hchg,ha1]
  simp only [if_true,preT,h1,h2]
 ·rw [he]
  intro x hx
  simp only [numsE,List.mem_append,List.mem_flatMap] at hx
  have l1 : (diffS A B).length ≤ 72:=by have:=List.length_filter_le (fun s : Seg=>!hasB B s.id) A;unfold diffS;omega
  have l2 : (diffS B A).length ≤ 72:=by have:=List.length_filter_le (fun s : Seg=>!hasB A s.id) B;unfold diffS;omega
  rcases hx with ((hx|hx)|hx)|⟨s,hs,hx⟩
  ·simp at hx
   rcases hx with rfl|rfl|rfl|rfl <;> constructor <;> omega
  ·obtain ⟨s,hs,rfl⟩:=List.mem_map.1 hx
   exact chkS_I62 (h.val A hAm s (mem_diff.1 hs).1).1 s.id (by simp [numsS])
  ·simp at hx
   subst hx
   constructor <;> omega
  ·exact chkS_I62 (h.val B hBm s (mem_diff.1 hs).1).1 x hx
theorem snap_go {m : Sh} {n : Nat} (h : Sn m n) (hn : n ≤ 24) : ∀ k,k < m.lists.length → replGo M0 0 ((snapG m k).map encB) = (preT m k,k + 1,0) ∧ ∀ e ∈ snapG m k,∀ x ∈ numsE e,I62 x
 |0,hk=>by
  obtain ⟨h1,h2,h3⟩:=snap_first h hn
  refine ⟨?_,fun e he=>?_⟩
  ·have:=repl_one (i:=0) h3 h1
   rw [h2] at this
   simpa [snapG] using this
  ·simp [snapG] at he
   subst he
   exact h3
 |k + 1,hk=>by
  obtain ⟨g1,g2⟩:=snap_go h hn k (by omega)
  obtain ⟨h1,h2,h3⟩:=snap_next h hn k hk
  refine ⟨?_,fun e he=>?_⟩
  ·have:=repl_snoc g1 h3 h1
   rw [h2] at this
   simpa [snapG] using this
  ·unfold snapG at he
   rcases List.mem_append.1 he with he|he
   ·exact g2 e he
   ·obtain rfl:=List.mem_singleton.1 he
    exact h3
theorem snap_repl {m : Sh} {n : Nat} (h : Sn m n) (hn : n ≤ 24) : replGo M0 0 ((snapE m).map encB) = (m,m.lists.length,0) ∧ ∀ e ∈ snapE m,(∀ x ∈ numsE e,I62 x) ∧ e.rem.length ≤ 72 ∧ e.add.length ≤ 72:=by
 have hne:=h.inv.wf.ne
 obtain ⟨g1,g2⟩:=snap_go h hn (m.lists.length - 1) (by omega)
 have e1 : preT m (m.lists.length - 1) = m:=by
  unfold preT
  rw [List.take_of_length_le (by omega)]
 rw [e1,show m.lists.length - 1 + 1 = m.lists.length by omega] at g1
 exact ⟨g1,fun e he=>⟨g2 e he,snap_ed h hn (m.lists.length - 1) (by omega) e he⟩⟩
end Go.Proofs.YtbibemijcdkjhaaGreatDoor
end
section
namespace Go.Am
section
variable {P : Program} {E : Env} {s : AState} {Q : AExit → AState → Prop}
theorem AW_arr1 (id : Nat) {T : TypeId} {k : Nat} {cs ds : List AV} {c : Code} (hb : s.box id = some (.arr T k [.st cs])) (hl : cs.length = ds.length) (hone : ∀ d ∈ ds,d.one = true)
 (hcd : ∀ (i : Nat) (c d : AV),cs[i]? = some c → ds[i]? = some d → c = d ∨ ∃ j,c = .v (.slice none 0 0) ∧ d = .sl j []) (h : AW P E c ⟨s.s,(id,.arr T k [.st ds]) :: s.b⟩ Q) : AW P E c s Q:=by
 intro H ρ a w hS
 have hold : ∀ j c',lk ((id,Ct.arr T k [.st ds]) :: s.b) j = some c' → (j = id ∧ c' = .arr T k [.st ds]) ∨ (j ≠ id ∧ s.box j = some c'):=by
  intro j c' hc
  simp only [lk] at hc
  split at hc
  ·rename_i e;cases hc;exact .inl ⟨e.symm,rfl⟩
  ·rename_i e;exact .inr ⟨fun h=>e h.symm,hc⟩
 have hex : ∀ j c',lk ((id,Ct.arr T k [.st ds]) :: s.b) j = some c' → ∃ c0,s.box j = some c0:=by
  intro j c' hc
  rcases hold j c' hc with ⟨rfl,_⟩|⟨_,h⟩
  ·exact ⟨_,hb⟩
  ·exact ⟨_,h⟩
 refine h H ρ a w ⟨hS.ext,hS.slots,hS.size,hS.defers,⟨fun j c' hc=>?_,fun j c' b cap hc hbd=>?_,fun j j' c' c'' b cap cap' hc hc' h1 h2=>?_⟩,hS.h0,hS.new,hS.frame,hS.keep,hS.nle⟩
 ·rcases hold j c' hc with ⟨rfl,rfl⟩|⟨_,h⟩
  ·rcases hS.boxes.rep _ _ hb with ⟨_,hx⟩|⟨b,cap,cur,h1,h2,h3,h4,h5,h6,h7⟩
   ·cases hx
   ·refine .inr ⟨b,cap,cur,h1,h2,h3,by simpa using h4,h5,?_,?_⟩
    ·simp only [List.flatMap_cons,List.flatMap_nil,AV.cells,List.append_nil] at h6 ⊢
     refine ⟨by rw [← hl];exact h6.1,fun i d u hd hu=>?_⟩
     have hi : i < ds.length:=(List.getElem?_eq_some_iff.1 hd).1
     have hc : cs[i]? = some cs[i]:=List.getElem?_eq_getElem (by omega)
     have hr:=h6.2 i _ u hc hu
     rcases hcd i _ d hc hd with e|⟨j,e1,rfl⟩
     ·rw [← e];exact hr
     ·rw [e1] at hr
      rw [hr.v_inv]
      exact .slNil
    ·intro x hx
     rw [List.mem_singleton] at hx
     subst hx
     have:=h7 _ (List.mem_singleton.2 rfl)
     refine ⟨by rw [← this.1];simp [AV.cells,hl],?_⟩
     intro d hd
     exact hone d hd
  ·exact hS.boxes.rep _ _ h
 ·obtain ⟨c0,h0⟩:=hex j c' hc
  exact hS.boxes.apart j c0 b cap h0 hbd
 ·obtain ⟨c0,h0⟩:=hex j c' hc
  obtain ⟨c1,h3⟩:=hex j' c'' hc'
  exact hS.boxes.inj j j' c0 c1 b cap cap' h0 h3 h1 h2
end
end Go.Am
namespace Go.Proofs.YtbibemijcdkjhaaGreatDoor
open Go.Am Go.RowKit Go.Num Kn
theorem s_diff1 (s : Seg) (o : List Seg) (hs : Srt o) (hl : o.length ≤ 1000000) : PSpec Tryz.prog 93 [encS s,.ep (segL o)] (bA (hasB o s.id)):=by
 have hh:=Hld.mk (s_has o s.id hs hl)
 refine PSpec_of Tryz.func93 rfl rfl (Nat.le_of_ble_eq_true rfl) (Nat.le_of_ble_eq_true rfl) ?_
 intro E hE
 repeat' (first
  |(with_reducible first|refine uK ?_|refine uX ?_|refine jq fun K hK=>?_|refine jb ?_)|((with_reducible first|refine rS hE ?_|refine jn ?_|refine js fun K' hK'=>?_|refine ji fun X Y hX hY=>?_|refine jr ?_|refine jk ?_|refine jx ?_);simp [*])|with_reducible refine rL hE ?_|(refine jC (hh.out) ?_ ?_ ?_;(iterate 2 focus (simp [*] <;> fail));simp [*])|with_reducible refine And.intro ?_ ?_|omega|(refine imp1 fun h=>?_))
theorem s_diff (l o : List Seg) (hs : Srt o) (hl : l.length ≤ 1000) (ho : o.length ≤ 1000) : PSpec Tryz.prog 68 [segL l,segL o] (segL (diffS l o)):=by
 have hdel:=Hld.mk (w_del l 93 [.ep (segL o)] (fun s=>hasB o s.id) rfl (fun s=>s_diff1 s o hs (by omega)) (by omega) _ rfl)
 unfold diffS
 generalize (l.filter fun s=>!hasB o s.id) = k at *
 refine PSpec_of Tryz.func68 rfl rfl (Nat.le_of_ble_eq_true rfl) (Nat.le_of_ble_eq_true rfl) ?_
 intro E hE
 refine AW_seqt ⟨[(3,.loc 3 0),(0,segL l)],[(3,.box 34 (segL o))]⟩ ?_ ?_
 ·refine AW_freeze 3 (t:=⟨[(3,.ep (segL o)),(0,segL l)],[]⟩) rfl (by simp) (by simp) ?_
  repeat' (first
   |(with_reducible first|refine uK ?_|refine uX ?_|refine jq fun K hK=>?_|refine jb ?_)|((with_reducible first|refine rS hE ?_|refine jn ?_|refine js fun K' hK'=>?_|refine ji fun X Y hX hY=>?_|refine jr ?_|refine jk ?_|refine jx ?_);simp [*])|with_reducible refine rL hE ?_|(refine acall_row ((r_cloneS l (by omega))) ?_ (.inl ?_) ?_ ?_;(iterate 3 focus (simp [*] <;> fail));simp [*])|(refine acall_mrow (hdel.out) ?_ ?_ ?_ ?_ ?_ ?_;(iterate 5 focus (simp [*] <;> fail));simp [*])|with_reducible refine And.intro ?_ ?_|omega|(refine imp1 fun h=>?_))
 ·intro K hK
  repeat' (first
   |(with_reducible first|refine uK ?_|refine uX ?_|refine jq fun K hK=>?_|refine jb ?_)|((with_reducible first|refine rS hE ?_|refine jn ?_|refine js fun K' hK'=>?_|refine ji fun X Y hX hY=>?_|refine jr ?_|refine jk ?_|refine jx ?_);simp [*])|with_reducible refine rL hE ?_|with_reducible refine And.intro ?_ ?_|omega|(refine imp1 fun h=>?_))
  all_goals simp
@[simp] theorem k_okT59 : okT Tryz.prog 59 = true:=by kernel_rfl
@[simp] theorem k_aggT59 : aggB Tryz.prog 59 = false:=by kernel_rfl
@[simp] theorem k_cellsT59 : Tryz.prog.cellsOf 59 = 1:=by kernel_rfl
@[simp] theorem k_bytesT59 : Tryz.prog.bytesOf 59 = 24:=by kernel_rfl
@[simp] theorem k_zeroT59 : zeroAV Tryz.prog 59 = some (AV.v (Value.slice none 0 0)):=by kernel_rfl
attribute [simp] Tryz.underlying59
@[simp] theorem idf_St (l : List (List UInt8)) : idfL (l.map fun s=>strB s) = true:=by induction l with|nil=>rfl|cons a l ih=>simp [ih]
@[simp] theorem ment_St (d : Nat) (l : List (List UInt8)) : mentL d (l.map fun s=>strB s) = false:=by induction l with|nil=>rfl|cons a l ih=>simp [ih]
@[simp] theorem ids_St (l : List (List UInt8)) : idsA (l.map fun s=>strB s) = []:=by induction l with|nil=>rfl|cons a l ih=>simp [ih]
@[simp] theorem ren_St (σ : Nat → Nat) (l : List (List UInt8)) : renL σ (l.map fun s=>strB s) = l.map fun s=>strB s:=by induction l with|nil=>rfl|cons a l ih=>simp [ih]
abbrev nilP : AV:=.v (.pointer none)
def replA (r : Sh × Nat × Int) : AV:=if r.2.2 = 0 then .tup [.ep (encM r.1),iA r.2.1,iA 0] else .tup [nilP,iA r.2.1,iA r.2.2]
theorem replA_bad {m : Sh} {i : Nat} {c : Int} (h : c ≠ 0) : replA (m,i,c) = .tup [nilP,iA i,iA c]:=by unfold replA;rw [if_neg h]
theorem replA_ok {m : Sh} {i : Nat} : replA (m,i,0) = .tup [.ep (encM m),iA i,iA 0]:=by unfold replA;rw [if_pos rfl]
structure RI (ss : List (List UInt8)) (R : AV) (m : Sh) (i : Nat) : Prop where
 le : i ≤ ss.length
 inv : Inv m i
 rel : replA (replGo m i (ss.drop i)) = R
theorem RI.next {ss : List (List UInt8)} {R : AV} {m : Sh} {i : Nat} (h : RI ss R m i) (hs : ss.length ≤ 1000) (hlt : i < ss.length) :
 ((decS ss[i]).2 ≠ 0 ∧ R = .tup [nilP,iA i,iA (decS ss[i]).2]) ∨ ((decS ss[i]).2 = 0 ∧ chkE m (decS ss[i]).1 ≠ 0 ∧ R = .tup [nilP,iA i,iA (chkE m (decS ss[i]).1)]) ∨
   ((decS ss[i]).2 = 0 ∧ chkE m (decS ss[i]).1 = 0 ∧ RI ss R (stepE m (decS ss[i]).1) (i + 1)):=by
 have h1:=h.rel
 rw [List.drop_eq_getElem_cons hlt] at h1
 have e1 : replGo m i (ss[i] :: ss.drop (i + 1)) = if (decS ss[i]).2 ≠ 0 then (m,i,(decS ss[i]).2) else if chkE m (decS ss[i]).1 ≠ 0 then (m,i,chkE m (decS ss[i]).1) else replGo (appE m (decS ss[i]).1) (i + 1) (ss.drop (i + 1)):=rfl
 rw [e1] at h1
 by_cases g1 : (decS ss[i]).2 = 0
 ·rw [if_neg (by simp [g1])] at h1
  by_cases g2 : chkE m (decS ss[i]).1 = 0
  ·rw [if_neg (by simp [g2])] at h1
   refine .inr (.inr ⟨g1,g2,hlt,step_inv h.inv (by omega),?_⟩)
   unfold stepE
   rw [if_pos g2]
   exact h1
  ·rw [if_pos g2,replA_bad g2] at h1
   exact .inr (.inl ⟨g1,g2,h1.symm⟩)
 ·rw [if_pos g1,replA_bad g1] at h1
  exact .inl ⟨g1,h1.symm⟩
theorem RI.fin {ss : List (List UInt8)} {R : AV} {m : Sh} (h : RI ss R m ss.length) : R = .tup [.ep (encM m),iA ss.length,iA 0]:=by
 have h1:=h.rel
 rw [List.drop_length] at h1
 exact h1.symm.trans replA_ok
set_option maxHeartbeats 8000000 in
theorem s_replay (ss : List (List UInt8)) (hn : ss.length ≤ 1000) (hs : ∀ s ∈ ss,s.length ≤ 1000000 ∧ EdOK (decS s).1) : PSpecL Tryz.prog LW 31 [.sl 1 (ss.map fun s=>strB s)] (replA (replGo M0 0 ss)):=by
 generalize hR : replA (replGo M0 0 ss) = R
 have hi0 : RI ss R M0 0:=⟨by omega,inv0,by simpa using hR⟩
 clear hR
 replace hs:=Hld.mk hs
 have hl1 : M0.lists.length = 1:=rfl
 have hM1 : M0.first = 0:=rfl
 have hM2 : M0.used = 0:=rfl
 refine PSpecL_ofD stays_LW Tryz.func31 rfl rfl (Nat.le_of_ble_eq_true rfl) (Nat.le_of_ble_eq_true rfl) ?_
 intro E hE hLd
 refine AW_seqt ⟨[(0,.sl 1 (ss.map fun s=>strB s))],[]⟩ ?_ (by
  intro K hK
  repeat' (first
   |(with_reducible first|refine uK ?_|refine uX ?_|refine jq fun K hK=>?_|refine jb ?_)|((with_reducible first|refine rS hE ?_|refine jn ?_|refine js fun K' hK'=>?_|refine ji fun X Y hX hY=>?_|refine jr ?_|refine jk ?_|refine jx ?_);simp [*])|with_reducible refine rL hE ?_|with_reducible refine And.intro ?_ ?_|omega|(refine imp1 fun h=>?_))
  all_goals simp)
 refine AW_seqt ⟨[(0,.sl 1 (ss.map fun s=>strB s)),(5,.loc 911 0)],[(911,rnM M0 912),(912,mrowC M0.lists)]⟩ ?_ (by
  intro K hK
  repeat' (first
   |(with_reducible first|refine uK ?_|refine uX ?_|refine jq fun K hK=>?_|refine jb ?_)|((with_reducible first|refine rS hE ?_|refine jn ?_|refine js fun K' hK'=>?_|refine ji fun X Y hX hY=>?_|refine jr ?_|refine jk ?_|refine jx ?_);simp [*])|with_reducible refine rL hE ?_|with_reducible refine And.intro ?_ ?_|omega|(refine imp1 fun h=>?_))
  refine acall_boxes m_new (nm []) (nm [(3,911),(1,912)]) [(3,mboxC M0.first M0.used M0.lists.length 1),(1,mrowC M0.lists)] (.loc 3 0) (by
   rintro res bf ⟨rfl,h1,h2⟩
   refine ⟨rfl,?_⟩
   simp
   exact ⟨h1,h2⟩) (by simp) (by simp) (by simp) (by simp) (by simp) (by simp) (by simp) ?_
  simp
  repeat' (first
   |(with_reducible first|refine uK ?_|refine uX ?_|refine jq fun K hK=>?_|refine jb ?_)|((with_reducible first|refine rS hE ?_|refine jn ?_|refine js fun K' hK'=>?_|refine ji fun X Y hX hY=>?_|refine jr ?_|refine jk ?_|refine jx ?_);simp [*])|with_reducible refine rL hE ?_|with_reducible refine And.intro ?_ ?_|omega|(refine imp1 fun h=>?_))
  all_goals simp [hM1,hM2,hl1])
 clear hM1 hM2 hl1
 generalize M0 = m0 at *
 refine AW_seqx (fun t=>∃ m,t = ⟨[(0,.sl 1 (ss.map fun s=>strB s)),(5,.loc 911 0)],[(911,rnM m 912),(912,mrowC m.lists)]⟩ ∧ RI ss R m ss.length) ?_ ?_
 rotate_left
 ·intro K0 hK0
  repeat' (first
   |(with_reducible first|refine uK ?_|refine uX ?_|refine jq fun K hK=>?_|refine jb ?_)|((with_reducible first|refine rS hE ?_|refine jn ?_|refine js fun K' hK'=>?_|refine ji fun X Y hX hY=>?_|refine jr ?_|refine jk ?_|refine jx ?_);simp [*])|with_reducible refine rL hE ?_|with_reducible refine And.intro ?_ ?_|omega|(refine imp1 fun h=>?_))
  refine AW_loopk (G:=Nat × Sh) (fun g=>⟨[(13,iA g.1),(12,iA ss.length),(11,.sl 1 (ss.map fun s=>strB s)),(0,.sl 1 (ss.map fun s=>strB s)),(5,.loc 911 0)],[(911,rnM g.2 912),(912,mrowC g.2.lists)]⟩)
   (fun g=>RI ss R g.2 g.1) (fun g=>ss.length - g.1) (0,m0) hi0 (by simp) ?_
  clear hi0
  rintro ⟨i,m⟩ hri K hK
  simp only at hri ⊢
  have hle:=hri.le
  by_cases hlt : i < ss.length
  ·have hnx:=hri.next hn hlt
   obtain ⟨hsl,hok⟩:=hs.out ss[i] (List.getElem_mem hlt)
   have hdec:=Hld.mk (s_decode ss[i] hsl)
   have hap:=m_apply m (decS ss[i]).1 hri.inv.wf hok
   clear hri hsl hok
   unfold resA at hdec
   generalize (decS ss[i]).1 = e at *
   generalize (decS ss[i]).2 = d at *
   generalize hst : stepE m e = m' at *
   generalize chkE m e = c at *
   replace hap:=Hld.mk hap
   replace hst:=Hld.mk hst
   refine AW_seqt ⟨[(14,bA true),(13,iA i),(12,iA ss.length),(11,.sl 1 (ss.map fun s=>strB s)),(0,.sl 1 (ss.map fun s=>strB s)),(5,.loc 911 0)],[(911,rnM m 912),(912,mrowC m.lists)]⟩ ?_ (by
    intro K3 hK3
    clear hnx
    repeat' (first
     |(with_reducible first|refine uK ?_|refine uX ?_|refine jq fun K hK=>?_|refine jb ?_)|((with_reducible first|refine rS hE ?_|refine jn ?_|refine js fun K' hK'=>?_|refine ji fun X Y hX hY=>?_|refine jr ?_|refine jk ?_|refine jx ?_);simp [*])|with_reducible refine rL hE ?_|with_reducible refine And.intro ?_ ?_|omega|(refine imp1 fun h=>?_))
    all_goals simp)
   refine AW_seqt ⟨[(13,iA i),(12,iA ss.length),(11,.sl 1 (ss.map fun s=>strB s)),(0,.sl 1 (ss.map fun s=>strB s)),(5,.loc 911 0)],[(911,rnM m 912),(912,mrowC m.lists)]⟩ ?_ (by
    intro K3 hK3
    clear hnx
    repeat' (first
     |(with_reducible first|refine uK ?_|refine uX ?_|refine jq fun K hK=>?_|refine jb ?_)|((with_reducible first|refine rS hE ?_|refine jn ?_|refine js fun K' hK'=>?_|refine ji fun X Y hX hY=>?_|refine jr ?_|refine jk ?_|refine jx ?_);simp [*])|with_reducible refine rL hE ?_|with_reducible refine And.intro ?_ ?_|omega|(refine imp1 fun h=>?_))
    all_goals simp)
   rcases hnx with ⟨hd,hR⟩|⟨hd,hc,hR⟩|⟨hd,hc,hri⟩
   ·subst hR
    repeat' (first
     |(with_reducible first|refine uK ?_|refine uX ?_|refine jq fun K hK=>?_|refine jb ?_)|((with_reducible first|refine rS hE ?_|refine jn ?_|refine js fun K' hK'=>?_|refine ji fun X Y hX hY=>?_|refine jr ?_|refine jk ?_|refine jx ?_);simp [*])|with_reducible refine rL hE ?_|(refine acall_sameL hLd (hdec.out) ?_ ?_ ?_;(iterate 2 focus (simp [*] <;> fail));simp [*])|with_reducible refine And.intro ?_ ?_|omega|(refine imp1 fun h=>?_))
    all_goals exact DView.tupL ⟨.base (by simp),.base (by simp),.base (by simp),trivial⟩
   ·subst hR hd
    refine AW_seqx (fun _=>False) (fun t ht=>ht.elim) ?_
    ·intro K3 hK3
     repeat' (first
      |(with_reducible first|refine uK ?_|refine uX ?_|refine jq fun K hK=>?_|refine jb ?_)|((with_reducible first|refine rS hE ?_|refine jn ?_|refine js fun K' hK'=>?_|refine ji fun X Y hX hY=>?_|refine jr ?_|refine jk ?_|refine jx ?_);simp [*])|with_reducible refine rL hE ?_|(refine acall_sameL hLd (hdec.out) ?_ ?_ ?_;(iterate 2 focus (simp [*] <;> fail));simp [*])|with_reducible refine And.intro ?_ ?_|omega|(refine imp1 fun h=>?_))
     refine acall_boxes hap.out (nm [(1000000,911),(1000001,912)]) (nm [(1000000,911),(900,913)]) [(1000000,mboxC m'.first m'.used m'.lists.length 900),(900,mrowC m'.lists)] (iA c) (by
      rintro res bf ⟨rfl,h1,h2⟩
      refine ⟨rfl,?_⟩
      simp
      exact ⟨h1,h2⟩) (by simp) (by simp) (by simp) (by simp) (by simp) (by simp) (by simp) ?_
     simp
     repeat' (first
      |(with_reducible first|refine uK ?_|refine uX ?_|refine jq fun K hK=>?_|refine jb ?_)|((with_reducible first|refine rS hE ?_|refine jn ?_|refine js fun K' hK'=>?_|refine ji fun X Y hX hY=>?_|refine jr ?_|refine jk ?_|refine jx ?_);simp [*])|with_reducible refine rL hE ?_|with_reducible refine And.intro ?_ ?_|omega|(refine imp1 fun h=>?_))
     all_goals exact DView.tupL ⟨.base (by simp),.base (by simp),.base (by simp),trivial⟩
   ·subst hd hc
    refine AW_seqt ⟨[(13,iA i),(12,iA ss.length),(11,.sl 1 (ss.map fun s=>strB s)),(0,.sl 1 (ss.map fun s=>strB s)),(5,.loc 911 0)],[(911,rnM m' 913),(913,mrowC m'.lists)]⟩ ?_ ?_
    ·refine AW_ren 913 912 (cb:=mrowC m'.lists) (t:=⟨[(13,iA i),(12,iA ss.length),(11,.sl 1 (ss.map fun s=>strB s)),(0,.sl 1 (ss.map fun s=>strB s)),(5,.loc 911 0)],[(911,rnM m' 912),(912,mrowC m'.lists)]⟩) (by simp) (by simp) (by simp) (by simp [sw]) (by simp [sw]) ?_
     replace hri:=Hld.mk hri
     repeat' (first
      |(with_reducible first|refine uK ?_|refine uX ?_|refine jq fun K hK=>?_|refine jb ?_)|((with_reducible first|refine rS hE ?_|refine jn ?_|refine js fun K' hK'=>?_|refine ji fun X Y hX hY=>?_|refine jr ?_|refine jk ?_|refine jx ?_);simp [*])|with_reducible refine rL hE ?_|with_reducible refine And.intro ?_ ?_|omega|(refine imp1 fun h=>?_))
     all_goals exact ⟨(i + 1,m'),hri.out,by simp only;omega,by simp⟩
    ·intro K3 hK3
     clear hri
     repeat' (first
      |(with_reducible first|refine uK ?_|refine uX ?_|refine jq fun K hK=>?_|refine jb ?_)|((with_reducible first|refine rS hE ?_|refine jn ?_|refine js fun K' hK'=>?_|refine ji fun X Y hX hY=>?_|refine jr ?_|refine jk ?_|refine jx ?_);simp [*])|with_reducible refine rL hE ?_|(refine acall_sameL hLd (hdec.out) ?_ ?_ ?_;(iterate 2 focus (simp [*] <;> fail));simp [*])|with_reducible refine And.intro ?_ ?_|omega|(refine imp1 fun h=>?_))
     refine acall_boxes hap.out (nm [(1000000,911),(1000001,912)]) (nm [(1000000,911),(900,913)]) [(1000000,mboxC m'.first m'.used m'.lists.length 900),(900,mrowC m'.lists)] (iA 0) (by
      rintro res bf ⟨rfl,h1,h2⟩
      refine ⟨rfl,?_⟩
      simp
      exact ⟨h1,h2⟩) (by simp) (by simp) (by simp) (by simp) (by simp) (by simp) (by simp) ?_
     simp
     repeat' (first
      |(with_reducible first|refine uK ?_|refine uX ?_|refine jq fun K hK=>?_|refine jb ?_)|((with_reducible first|refine rS hE ?_|refine jn ?_|refine js fun K' hK'=>?_|refine ji fun X Y hX hY=>?_|refine jr ?_|refine jk ?_|refine jx ?_);simp [*])|with_reducible refine rL hE ?_|with_reducible refine And.intro ?_ ?_|omega|(refine imp1 fun h=>?_))
     all_goals simp
  ·have hil : i = ss.length:=by omega
   subst hil
   have hx : Hld (∃ m',(⟨[(0,.sl 1 (ss.map fun s=>strB s)),(5,.loc 911 0)],[(911,rnM m 912),(912,mrowC m.lists)]⟩ : AState) = ⟨[(0,.sl 1 (ss.map fun s=>strB s)),(5,.loc 911 0)],[(911,rnM m' 912),(912,mrowC m'.lists)]⟩ ∧ RI ss R m' ss.length):=⟨m,rfl,hri⟩
   clear hri hs
   repeat' (first
    |(with_reducible first|refine uK ?_|refine uX ?_|refine jq fun K hK=>?_|refine jb ?_)|((with_reducible first|refine rS hE ?_|refine jn ?_|refine js fun K' hK'=>?_|refine ji fun X Y hX hY=>?_|refine jr ?_|refine jk ?_|refine jx ?_);simp [*])|with_reducible refine rL hE ?_|with_reducible refine And.intro ?_ ?_|omega|(refine imp1 fun h=>?_))
   all_goals exact ⟨_,hx.out,by simp⟩
 clear hi0 hs
 rintro t ⟨m,rfl,hri⟩
 have:=hri.fin
 subst this
 clear hri
 refine AW_freezeD 912 (cb:=mrowC m.lists) (t:=⟨[(0,.sl 1 (ss.map fun s=>strB s)),(5,.loc 911 0)],[(911,.box 72 (encM m))]⟩) (by simp) (by simp) (by
  simp
  intro j a b ha hb
  rcases j with _|_|_|j <;> simp at ha hb <;> subst ha <;> subst hb <;> simp) ?_
 refine AW_freeze 911 (cb:=.box 72 (encM m)) (t:=⟨[(0,.sl 1 (ss.map fun s=>strB s)),(5,.ep (encM m))],[]⟩) (by simp) (by simp) (by simp) ?_
 repeat' (first
  |(with_reducible first|refine uK ?_|refine uQ ?_|refine uX ?_|refine jq fun K hK=>?_|refine jb ?_)|(with_reducible refine rS hE ?_;simp [*])|with_reducible refine rL hE ?_|(((with_reducible show RK _ _ _ _ _ _);first|refine jn ?_|refine js fun K' hK'=>?_);simp [*])|with_reducible refine rD mixed hE ?_|((with_reducible show RKQ _ _ _ _ _ _);first|refine RKQ_nilk ⟨by decide,?_⟩|(refine jv fun K' hK'=>?_;simp [*]))|((with_reducible first|refine ji fun X Y hX hY=>?_|refine jr ?_|refine jk ?_|refine jx ?_);simp [*])|with_reducible refine And.intro ?_ ?_|omega|(refine imp1 fun h=>?_))
 all_goals exact DView.tupL ⟨.base (by simp),.base (by simp),.base (by simp),trivial⟩
set_option maxHeartbeats 8000000 in
theorem s_snap (m : Sh) (n : Nat) (h : Sn m n) (hn : n ≤ 24) : PSpec Tryz.prog 30 [.ep (encM m)] (.sl 5 ((snapE m).map encE)):=by
 have hw:=h.inv.wf
 have hne:=hw.ne
 have hln:=h.inv.len
 have hf:=h.fst
 obtain ⟨G,hG⟩ : ∃ G : Nat → List Ed,∀ i,G (i + 1) = snapG m i:=⟨fun i=>snapG m (i - 1),fun i=>rfl⟩
 have g1 : G 1 = [⟨4,m.first,m.used,[],m.lists[0]⟩]:=by
  rw [hG]
  simp [snapG,snap0,List.getD_eq_getElem?_getD,hne]
 have gs : ∀ i,0 < i → ∀ (hi : i < m.lists.length),G (i + 1) = G i ++ [⟨1,m.first + i,0,(diffS m.lists[i - 1] m.lists[i]).map (·.id),diffS m.lists[i] m.lists[i - 1]⟩]:=by
  intro i h0 hi
  obtain ⟨k,rfl⟩ : ∃ k,i = k + 1:=⟨i - 1,by omega⟩
  rw [hG,hG]
  have a1 : m.lists.getD (k + 1) [] = m.lists[k + 1]:=by simp [List.getD_eq_getElem?_getD,hi]
  have a2 : m.lists.getD k [] = m.lists[k]:=by simp [List.getD_eq_getElem?_getD,show k < m.lists.length by omega]
  conv=>lhs;unfold snapG
  unfold snapI
  simp only [Nat.add_sub_cancel,a1,a2]
 have ge : G m.lists.length = snapE m:=by
  obtain ⟨k,hk⟩ : ∃ k,m.lists.length = k + 1:=⟨m.lists.length - 1,by omega⟩
  unfold snapE
  rw [hk,hG]
  rfl
 have gl : ∀ i,0 < i → (G i).length = i:=by
  intro i h0
  obtain ⟨k,rfl⟩ : ∃ k,i = k + 1:=⟨i - 1,by omega⟩
  rw [hG,snapG_len]
 have each : ∀ i (hi : i < m.lists.length),Srt m.lists[i] ∧ m.lists[i].length ≤ 72:=by
  intro i hi
  have h1:=hw.srt m.lists[i] (List.getElem_mem hi)
  have h2:=h.siz m.lists[i] (List.getElem_mem hi)
  exact ⟨h1.1,by omega⟩
 rw [← ge]
 clear hG ge
 have hcl:=Hld.mk (s_cloneS m.lists[0] (by have:=(each 0 hne).2;omega))
 replace gs:=Hld.mk gs
 replace gl:=Hld.mk gl
 replace each:=Hld.mk each
 clear h hw
 refine PSpec_of Tryz.func30 rfl rfl (Nat.le_of_ble_eq_true rfl) (Nat.le_of_ble_eq_true rfl) ?_
 intro E hE
 refine AW_seqt ⟨[(0,.ep (encM m))],[]⟩ ?_ (by
  intro K hK
  repeat' (first
   |(with_reducible first|refine uK ?_|refine uX ?_|refine jq fun K hK=>?_|refine jb ?_)|((with_reducible first|refine rS hE ?_|refine jn ?_|refine js fun K' hK'=>?_|refine ji fun X Y hX hY=>?_|refine jr ?_|refine jk ?_|refine jx ?_);simp [*])|with_reducible refine rL hE ?_|with_reducible refine And.intro ?_ ?_|omega|(refine imp1 fun h=>?_))
  all_goals simp)
 refine AW_seqt ⟨[(0,.ep (encM m))],[]⟩ ?_ (by
  intro K hK
  repeat' (first
   |(with_reducible first|refine uK ?_|refine uX ?_|refine jq fun K hK=>?_|refine jb ?_)|((with_reducible first|refine rS hE ?_|refine jn ?_|refine js fun K' hK'=>?_|refine ji fun X Y hX hY=>?_|refine jr ?_|refine jk ?_|refine jx ?_);simp [*])|with_reducible refine rL hE ?_|with_reducible refine And.intro ?_ ?_|omega|(refine imp1 fun h=>?_))
  all_goals simp)
 refine AW_seqt ⟨[(3,.own 26 5 0 1),(0,.ep (encM m))],[(26,.arr 36 5 [.st [iA 4,iA m.first,iA m.used,.v (.slice none 0 0),segL m.lists[0]]])]⟩ ?_ (by
  intro K hK
  repeat' (first
   |(with_reducible first|refine uK ?_|refine uQ ?_|refine uX ?_|refine jq fun K hK=>?_|refine jb ?_)|(with_reducible refine rS hE ?_;simp [*])|with_reducible refine rL hE ?_|(((with_reducible show RK _ _ _ _ _ _);first|refine jn ?_|refine js fun K' hK'=>?_);simp [*])|with_reducible refine rD mixed hE ?_|((with_reducible show RKQ _ _ _ _ _ _);first|refine RKQ_nilk ⟨by decide,?_⟩|(refine jv fun K' hK'=>?_;simp [*]))|((with_reducible first|refine ji fun X Y hX hY=>?_|refine jr ?_|refine jk ?_|refine jx ?_);simp [*])|((first|refine jC (hcl.out) ?_ ?_ ?_|refine jQ (hcl.out) ?_ ?_ ?_);(iterate 2 focus (simp [*] <;> fail));simp [*])|with_reducible refine And.intro ?_ ?_|omega|(refine imp1 fun h=>?_))
  all_goals simp)
 refine AW_arr1 26 (T:=36) (k:=5) (cs:=[iA 4,iA m.first,iA m.used,.v (.slice none 0 0),segL m.lists[0]]) (ds:=[iA 4,iA m.first,iA m.used,.sl 1 [],segL m.lists[0]]) (by simp) rfl (by simp) (by
  intro i c d hc hd
  rcases i with _|_|_|_|_|i <;> simp at hc hd <;> subst hc <;> subst hd <;> simp) ?_
 refine AW_seqx (fun t=>t = ⟨[(3,.own 26 5 0 (G m.lists.length).length),(0,.ep (encM m))],[(26,.arr 36 5 ((G m.lists.length).map encE))]⟩) ?_ ?_
 ·rintro t rfl
  clear g1 gs each hcl gl
  generalize G m.lists.length = g at *
  repeat' (first
   |(with_reducible first|refine uK ?_|refine uX ?_|refine jq fun K hK=>?_|refine jb ?_)|((with_reducible first|refine rS hE ?_|refine jn ?_|refine js fun K' hK'=>?_|refine ji fun X Y hX hY=>?_|refine jr ?_|refine jk ?_|refine jx ?_);simp [*])|with_reducible refine rL hE ?_|with_reducible refine And.intro ?_ ?_|omega|(refine imp1 fun h=>?_))
 intro K0 hK0
 clear hcl
 refine AW_seqt ⟨[(4,iA 1),(3,.own 26 5 0 (G 1).length),(0,.ep (encM m))],[(26,.arr 36 5 ((G 1).map encE))]⟩ ?_ (by
  intro K hK
  repeat' (first
   |(with_reducible first|refine uK ?_|refine uX ?_|refine jq fun K hK=>?_|refine jb ?_)|((with_reducible first|refine rS hE ?_|refine jn ?_|refine js fun K' hK'=>?_|refine ji fun X Y hX hY=>?_|refine jr ?_|refine jk ?_|refine jx ?_);simp [*])|with_reducible refine rL hE ?_|with_reducible refine And.intro ?_ ?_|omega|(refine imp1 fun h=>?_))
  all_goals simp [g1,encE])
 clear g1
 repeat' (first
  |(with_reducible first|refine uK ?_|refine uX ?_|refine jq fun K hK=>?_|refine jb ?_)|((with_reducible first|refine rS hE ?_|refine jn ?_|refine js fun K' hK'=>?_|refine ji fun X Y hX hY=>?_|refine jr ?_|refine jk ?_|refine jx ?_);simp [*])|with_reducible refine rL hE ?_|with_reducible refine And.intro ?_ ?_|omega|(refine imp1 fun h=>?_))
 refine AW_loopk (G:=Nat) (fun i=>⟨[(4,iA i),(3,.own 26 5 0 (G i).length),(0,.ep (encM m))],[(26,.arr 36 5 ((G i).map encE))]⟩)
  (fun i=>0 < i ∧ i ≤ m.lists.length) (fun i=>m.lists.length - i) 1 ⟨by omega,by omega⟩ (by simp) ?_
 rintro i ⟨hi0,hi⟩ K hK
 obtain ⟨k,rfl⟩ : ∃ k,i = k + 1:=⟨i - 1,by omega⟩
 have hgl:=gl.out (k + 1) (by omega)
 by_cases hlt : k + 1 < m.lists.length
 ·have hgs:=gs.out (k + 1) (by omega) hlt
  have hk : k < m.lists.length:=by omega
  simp only [Nat.add_sub_cancel] at hgs
  obtain ⟨s1,z1⟩:=each.out (k + 1) hlt
  obtain ⟨s2,z2⟩:=each.out k hk
  have hd1:=Hld.mk (s_diff m.lists[k] m.lists[k + 1] s1 (by omega) (by omega))
  have hd2:=Hld.mk (s_diff m.lists[k + 1] m.lists[k] s2 (by omega) (by omega))
  have l1 : (diffS m.lists[k] m.lists[k + 1]).length ≤ 72:=by
   have:=List.length_filter_le (fun s : Seg=>!hasB m.lists[k + 1] s.id) m.lists[k]
   unfold diffS
   omega
  clear s1 s2 z1 z2
  generalize diffS m.lists[k] m.lists[k + 1] = D1 at *
  generalize diffS m.lists[k + 1] m.lists[k] = D2 at *
  obtain ⟨F,hF⟩ : ∃ F : Nat → List Int,∀ j,F j = (D1.take j).map (·.id):=⟨_,fun _=>rfl⟩
  have f0 : F 0 = []:=by rw [hF];rfl
  have fs : Hld (∀ j (h : j < D1.length),F (j + 1) = F j ++ [D1[j].id]):=⟨fun j h=>by rw [hF,hF,List.take_succ_eq_append_getElem h,List.map_append];rfl⟩
  have fl : Hld (∀ j,j ≤ D1.length → (F j).length = j):=⟨fun j h=>by rw [hF];simp;omega⟩
  obtain ⟨I1,hI1⟩ : ∃ I1,I1 = D1.map (·.id):=⟨_,rfl⟩
  have fe : F D1.length = I1:=by rw [hF,List.take_length,hI1]
  rw [← hI1] at hgs
  clear hF hI1
  replace fe:=Hld.mk fe
  generalize hG1 : G (k + 1) = g at *
  generalize hG2 : G (k + 1 + 1) = g' at *
  replace hgs:=Hld.mk hgs
  replace hG1:=Hld.mk hG1
  replace hG2:=Hld.mk hG2
  have hg256 : g.length ≤ 256:=by omega
  replace hgl:=Hld.mk hgl
  refine AW_seqt ⟨[(4,iA ((k + 1 : Nat) : Int)),(3,.own 26 5 0 g.length),(0,.ep (encM m))],[(26,.arr 36 5 (g.map encE))]⟩ ?_ (by
   intro K3 hK3
   repeat' (first
    |(with_reducible first|refine uK ?_|refine uX ?_|refine jq fun K hK=>?_|refine jb ?_)|((with_reducible first|refine rS hE ?_|refine jn ?_|refine js fun K' hK'=>?_|refine ji fun X Y hX hY=>?_|refine jr ?_|refine jk ?_|refine jx ?_);simp [*])|with_reducible refine rL hE ?_|with_reducible refine And.intro ?_ ?_|omega|(refine imp1 fun h=>?_))
   all_goals simp)
  refine AW_seqt ⟨[(4,iA ((k + 1 : Nat) : Int)),(3,.own 26 5 0 g'.length),(0,.ep (encM m))],[(26,.arr 36 5 (g'.map encE))]⟩ ?_ ?_
  ·repeat' (first
    |(with_reducible first|refine uK ?_|refine uX ?_|refine jq fun K hK=>?_|refine jb ?_)|((with_reducible first|refine rS hE ?_|refine jn ?_|refine js fun K' hK'=>?_|refine ji fun X Y hX hY=>?_|refine jr ?_|refine jk ?_|refine jx ?_);simp [*])|with_reducible refine rL hE ?_|with_reducible refine And.intro ?_ ?_|omega|(refine imp1 fun h=>?_))
   all_goals exact ⟨k + 1 + 1,⟨by omega,by omega⟩,by omega,by simp [hG2.out]⟩
  intro K3 hK3
  refine AW_block ?_
  refine AW_seqt ⟨[(5,.loc 5 0),(4,iA ((k + 1 : Nat) : Int)),(3,.own 26 5 0 g.length),(0,.ep (encM m))],[(5,.box 36 (.st [iA 1,iA (m.first + ((k + 1 : Nat) : Int)),iA 0,.v (.slice none 0 0),segL D2])),(26,.arr 36 5 (g.map encE))]⟩ ?_ (by
   intro K4 hK4
   repeat' (first
    |(with_reducible first|refine uK ?_|refine uQ ?_|refine uX ?_|refine jq fun K hK=>?_|refine jb ?_)|(with_reducible refine rS hE ?_;simp [*])|with_reducible refine rL hE ?_|(((with_reducible show RK _ _ _ _ _ _);first|refine jn ?_|refine js fun K' hK'=>?_);simp [*])|with_reducible refine rD mixed hE ?_|((with_reducible show RKQ _ _ _ _ _ _);first|refine RKQ_nilk ⟨by decide,?_⟩|(refine jv fun K' hK'=>?_;simp [*]))|((with_reducible first|refine ji fun X Y hX hY=>?_|refine jr ?_|refine jk ?_|refine jx ?_);simp [*])|((first|refine jC (hd2.out) ?_ ?_ ?_|refine jQ (hd2.out) ?_ ?_ ?_);(iterate 2 focus (simp [*] <;> fail));simp [*])|with_reducible refine And.intro ?_ ?_|omega|(refine imp1 fun h=>?_))
   all_goals simp)
  refine AW_mkrowC 5 801 3 1 36 3 (cs:=[iA 1,iA (m.first + ((k + 1 : Nat) : Int)),iA 0,.v (.slice none 0 0),segL D2]) (by simp) rfl (by simp) (by simp) (by omega) ?_
  refine AW_seqt ⟨[(5,.loc 5 0),(4,iA ((k + 1 : Nat) : Int)),(3,.own 26 5 0 g.length),(0,.ep (encM m))],[(5,.box 36 (.st [iA 1,iA (m.first + ((k + 1 : Nat) : Int)),iA 0,.own 801 1 0 I1.length,segL D2])),(801,.arr 3 1 (I1.map iA)),(26,.arr 36 5 (g.map encE))]⟩ ?_ ?_
  ·refine AW_freezeD 801 (cb:=.arr 3 1 (I1.map iA)) (t:=⟨[(5,.loc 5 0),(4,iA ((k + 1 : Nat) : Int)),(3,.own 26 5 0 g.length),(0,.ep (encM m))],[(5,.box 36 (.st [iA 1,iA (m.first + ((k + 1 : Nat) : Int)),iA 0,.sl 1 (I1.map iA),segL D2])),(26,.arr 36 5 (g.map encE))]⟩) (by simp) (by simp) (by
    simp
    intro j a b ha hb
    rcases j with _|_|_|_|_|j <;> simp at ha hb <;> subst ha <;> subst hb <;> simp) ?_
   have htk : List.take (g.length + 1) (List.map encE g ++ [.st [iA 1,iA (m.first + ((k + 1 : Nat) : Int)),iA 0,.sl 1 (I1.map iA),segL D2]]) = List.map encE g ++ [.st [iA 1,iA (m.first + ((k + 1 : Nat) : Int)),iA 0,.sl 1 (I1.map iA),segL D2]]:=List.take_of_length_le (by simp)
   repeat' (first
    |(with_reducible first|refine uK ?_|refine uX ?_|refine jq fun K hK=>?_|refine jb ?_)|((with_reducible first|refine rS hE ?_|refine jn ?_|refine js fun K' hK'=>?_|refine ji fun X Y hX hY=>?_|refine jr ?_|refine jk ?_|refine jx ?_);simp [*])|with_reducible refine rL hE ?_|with_reducible refine And.intro ?_ ?_|omega|(refine imp1 fun h=>?_))
   all_goals simp [hgs.out,encE_mk]
  intro K4 hK4
  refine AW_seqt ⟨[(76,iA 0),(75,iA D1.length),(74,segL D1),(5,.loc 5 0),(4,iA ((k + 1 : Nat) : Int)),(3,.own 26 5 0 g.length),(0,.ep (encM m))],[(5,.box 36 (.st [iA 1,iA (m.first + ((k + 1 : Nat) : Int)),iA 0,.own 801 1 0 0,segL D2])),(801,.arr 3 1 []),(26,.arr 36 5 (g.map encE))]⟩ ?_ (by
   intro K5 hK5
   repeat' (first
    |(with_reducible first|refine uK ?_|refine uQ ?_|refine uX ?_|refine jq fun K hK=>?_|refine jb ?_)|(with_reducible refine rS hE ?_;simp [*])|with_reducible refine rL hE ?_|(((with_reducible show RK _ _ _ _ _ _);first|refine jn ?_|refine js fun K' hK'=>?_);simp [*])|with_reducible refine rD mixed hE ?_|((with_reducible show RKQ _ _ _ _ _ _);first|refine RKQ_nilk ⟨by decide,?_⟩|(refine jv fun K' hK'=>?_;simp [*]))|((with_reducible first|refine ji fun X Y hX hY=>?_|refine jr ?_|refine jk ?_|refine jx ?_);simp [*])|((first|refine jC (hd1.out) ?_ ?_ ?_|refine jQ (hd1.out) ?_ ?_ ?_);(iterate 2 focus (simp [*] <;> fail));simp [*])|with_reducible refine And.intro ?_ ?_|omega|(refine imp1 fun h=>?_))
   all_goals simp)
  repeat' (first
   |(with_reducible first|refine uK ?_|refine uX ?_|refine jq fun K hK=>?_|refine jb ?_)|((with_reducible first|refine rS hE ?_|refine jn ?_|refine js fun K' hK'=>?_|refine ji fun X Y hX hY=>?_|refine jr ?_|refine jk ?_|refine jx ?_);simp [*])|with_reducible refine rL hE ?_|with_reducible refine And.intro ?_ ?_|omega|(refine imp1 fun h=>?_))
  refine AW_loopk (G:=Nat) (fun j=>⟨[(76,iA j),(75,iA D1.length),(74,segL D1),(5,.loc 5 0),(4,iA ((k + 1 : Nat) : Int)),(3,.own 26 5 0 g.length),(0,.ep (encM m))],[(5,.box 36 (.st [iA 1,iA (m.first + ((k + 1 : Nat) : Int)),iA 0,.own 801 1 0 (F j).length,segL D2])),(801,.arr 3 1 ((F j).map iA)),(26,.arr 36 5 (g.map encE))]⟩)
   (fun j=>j ≤ D1.length) (fun j=>D1.length - j) 0 (by omega) (by simp [f0]) ?_
  clear f0
  intro j hj K6 hK6
  have hfl:=fl.out j hj
  have hf72 : (F j).length ≤ 72:=by omega
  replace hfl:=Hld.mk hfl
  by_cases hjl : j < D1.length
  ·have hfs:=fs.out j hjl
   have htk : List.take ((F j).length + 1) (List.map iA (F j) ++ [iA D1[j].id]) = List.map iA (F j) ++ [iA D1[j].id]:=List.take_of_length_le (by simp)
   generalize hF1 : F (j + 1) = F1 at *
   generalize F j = F0 at *
   subst hfs
   replace hF1:=Hld.mk hF1
   repeat' (first
    |(with_reducible first|refine uK ?_|refine uX ?_|refine jq fun K hK=>?_|refine jb ?_)|((with_reducible first|refine rS hE ?_|refine jn ?_|refine js fun K' hK'=>?_|refine ji fun X Y hX hY=>?_|refine jr ?_|refine jk ?_|refine jx ?_);simp [*])|with_reducible refine rL hE ?_|with_reducible refine And.intro ?_ ?_|omega|(refine imp1 fun h=>?_))
   all_goals exact ⟨j + 1,by omega,by omega,by simp [hF1.out]⟩
  ·have hjl2 : j = D1.length:=by omega
   subst hjl2
   have hfe:=fe.out
   generalize F D1.length = F1 at *
   subst hfe
   clear fs fl fe hgs
   repeat' (first
    |(with_reducible first|refine uK ?_|refine uX ?_|refine jq fun K hK=>?_|refine jb ?_)|((with_reducible first|refine rS hE ?_|refine jn ?_|refine js fun K' hK'=>?_|refine ji fun X Y hX hY=>?_|refine jr ?_|refine jk ?_|refine jx ?_);simp [*])|with_reducible refine rL hE ?_|with_reducible refine And.intro ?_ ?_|omega|(refine imp1 fun h=>?_))
   all_goals simp
 ·have hkl : k + 1 = m.lists.length:=by omega
  rw [hkl] at *
  clear hlt gs each
  repeat' (first
   |(with_reducible first|refine uK ?_|refine uX ?_|refine jq fun K hK=>?_|refine jb ?_)|((with_reducible first|refine rS hE ?_|refine jn ?_|refine js fun K' hK'=>?_|refine ji fun X Y hX hY=>?_|refine jr ?_|refine jk ?_|refine jx ?_);simp [*])|with_reducible refine rL hE ?_|with_reducible refine And.intro ?_ ?_|omega|(refine imp1 fun h=>?_))
  all_goals simp
end Go.Proofs.YtbibemijcdkjhaaGreatDoor
end
