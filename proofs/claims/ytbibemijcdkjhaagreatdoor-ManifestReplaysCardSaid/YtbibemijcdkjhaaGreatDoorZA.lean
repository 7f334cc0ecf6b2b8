/- The abstract machine: a nil slice inside a struct variable as an own row -/
import Derived.Test.YtbibemijcdkjhaaGreatDoorZ3
import Derived.Test.YtbibemijcdkjhaaGreatDoorZ7
import Derived.Test.YtbibemijcdkjhaaGreatDoorZ5
import Derived.Test.YtbibemijcdkjhaaGreatDoorZ6
import Derived.Test.YtbibemijcdkjhaaGreatDoorZ9
import Derived.Test.YtbibemijcdkjhaaGreatDoorZ8
set_option maxRecDepth 100000
set_option linter.unusedSimpArgs false
set_option linter.unusedVariables false
section
namespace Go.Am
open Go.RowKit
section
variable {P : Program} {E : Env} {s : AState} {Q : AExit → AState → Prop}
theorem AW_mkrowC (i d T k T' f : Nat) {cs : List AV} {c : Code} (hs : s.box i = some (.box T' (.st cs))) (hf : cs[f]? = some (.v (.slice none 0 0))) (hm : s.ment d = false) (hb : s.box d = none) (hd : d < 1000000) (h : AW P E c ⟨s.s,(i,.box T' (.st (cs.set f (.own d k 0 0)))) :: (d,.arr T k []) :: s.b⟩ Q) : AW P E c s Q:=by
 intro H ρ a w hS
 obtain ⟨hm1,hm2⟩:=fresh2 hm
 have hid : i ≠ d:=by rintro rfl;rw [hb] at hs;cases hs
 have hat : ∀ j b cap,(ρ.upd d .nil) j = .at b cap → j ≠ d ∧ ρ j = .at b cap:=by
  intro j b cap h
  simp only [Rho.upd] at h
  split at h
  ·cases h
  ·rename_i e;exact ⟨e,h⟩
 have hbx : ∀ j c',lk ((i,Ct.box T' (.st (cs.set f (.own d k 0 0)))) :: (d,Ct.arr T k []) :: s.b) j = some c' → (j = i ∧ c' = .box T' (.st (cs.set f (.own d k 0 0)))) ∨ (j = d ∧ c' = .arr T k []) ∨ (j ≠ d ∧ s.box j = some c'):=by
  intro j c' h
  simp only [lk] at h
  split at h
  ·rename_i e;cases h;exact .inl ⟨e.symm,rfl⟩
  ·split at h
   ·rename_i e;cases h;exact .inr (.inl ⟨e.symm,rfl⟩)
   ·rename_i e;exact .inr (.inr ⟨fun e'=>e e'.symm,h⟩)
 have hold : ∀ j c',lk ((i,Ct.box T' (.st (cs.set f (.own d k 0 0)))) :: (d,Ct.arr T k []) :: s.b) j = some c' → j ≠ d → ∃ c0,s.box j = some c0:=by
  intro j c' h hj
  rcases hbx j c' h with ⟨rfl,_⟩|⟨h,_⟩|⟨_,h⟩
  ·exact ⟨_,hs⟩
  ·exact absurd h hj
  ·exact ⟨_,h⟩
 refine h H (ρ.upd d .nil) a w ⟨hS.ext,fun j=>(hS.slots j).upd (hm1 j),hS.size,hS.defers,⟨fun j c' hc=>?_,fun j c' b cap hc hbd=>?_,fun j j' c' c'' b cap cap' hc hc' h1 h2=>?_⟩,hS.h0,hS.new,hS.frame,fun j hj=>?_,hS.nle⟩
 ·rcases hbx j c' hc with ⟨rfl,rfl⟩|⟨rfl,rfl⟩|⟨h1,h2⟩
  ·have e : (ρ.upd d .nil) j = ρ j:=by simp [Rho.upd,hid]
   rw [e]
   obtain ⟨b,cap,vs,g1,g2,g3,g4,g5⟩:=hS.boxes.rep _ _ hs
   simp only [AV.cells] at g3 g5
   have hmL : mentL d cs = false:=by simpa using hm2 _ _ hs
   have g3':=RepL.upd (d:=d) (bd:=.nil) g3 hmL
   refine ⟨b,cap,vs,g1,g2,⟨by simp only [AV.cells,List.length_set];exact g3.1,fun q c' u hc' hu=>?_⟩,fun c' hc'=>?_,by simp only [AV.cells,List.length_set];exact g5⟩
   ·simp only [AV.cells,List.getElem?_set] at hc'
    split at hc'
    ·rename_i e2
     subst e2
     split at hc'
     ·cases hc'
      have:=g3.2 f _ u hf hu
      rw [Rep.v_inv this]
      exact .ownNil (Rho.upd_same _ _ _)
     ·cases hc'
    ·exact g3'.2 q c' u hc' hu
   ·simp only [AV.cells] at hc'
    rcases List.mem_or_eq_of_mem_set hc' with h1|rfl
    ·exact g4 c' h1
    ·rfl
  ·exact .inl ⟨Rho.upd_same _ _ _,rfl⟩
  ·have e : (ρ.upd d .nil) j = ρ j:=by simp [Rho.upd,h1]
   rw [e]
   refine (hS.boxes.rep _ _ h2).mono H.le_refl (fun x hx=>?_) (fun _ _ _=>rfl)
   have : x ≠ d:=by rintro rfl;rw [hm2 _ _ h2] at hx;cases hx
   simp [Rho.upd,this]
 ·obtain ⟨h1,h2⟩:=hat _ _ _ hbd
  obtain ⟨c0,h3⟩:=hold j c' hc h1
  exact hS.boxes.apart _ _ _ _ h3 h2
 ·obtain ⟨h3,h4⟩:=hat _ _ _ h1
  obtain ⟨h5,h6⟩:=hat _ _ _ h2
  obtain ⟨c0,h7⟩:=hold j c' hc h3
  obtain ⟨c1,h8⟩:=hold j' c'' hc' h5
  exact hS.boxes.inj _ _ _ _ _ _ _ h7 h8 h4 h6
 ·have : j ≠ d:=by omega
  simp [Rho.upd,this,hS.keep j hj]
end
end Go.Am
end
section
namespace Go.Proofs.YtbibemijcdkjhaaGreatDoor
open Go.Am
def posI (out : List Int) (n : Int) : Nat:=(out.takeWhile fun x=>decide (x < n)).length
theorem posI_eq {out : List Int} {n : Int} {k : Nat} (hk : k ≤ out.length) (h1 : ∀ j (hj : j < out.length),j < k → out[j] < n) (h2 : ∀ h : k < out.length,¬ out[k] < n) : posI out n = k:=by
 unfold posI
 have e : out = out.take k ++ out.drop k:=(List.take_append_drop k out).symm
 have e2 : ((out.drop k).takeWhile fun x=>decide (x < n)) = []:=by
  rcases Nat.lt_or_ge k out.length with g|g
  ·rw [List.drop_eq_getElem_cons g,List.takeWhile_cons]
   simp [h2 g]
  ·rw [List.drop_eq_nil_of_le g];rfl
 rw [e,List.takeWhile_append_of_pos,e2]
 ·simp;omega
 ·intro x hx
  obtain ⟨j,hj,rfl⟩:=List.getElem_of_mem hx
  simp at hj ⊢
  exact h1 j (by omega) (by omega)
def insI (out : List Int) (n : Int) : List Int:=if out[posI out n]? = some n then out else out.take (posI out n) ++ [n] ++ out.drop (posI out n)
theorem posI_le (out : List Int) (n : Int) : posI out n ≤ out.length:=(List.takeWhile_sublist _).length_le
theorem insI_len (out : List Int) (n : Int) : (insI out n).length ≤ out.length + 1:=by
 unfold insI
 split
 ·omega
 ·have:=posI_le out n
  simp;omega
def liveL (l : List Seg) (out : List Int) : List Int:=l.foldl (fun o s=>insI o s.id) out
def liveM (m : Sh) : List Int:=m.lists.foldl (fun o l=>liveL l o) []
theorem liveL_len : ∀ (l : List Seg) (out : List Int),(liveL l out).length ≤ out.length + l.length
 |[],out=>by simp [liveL]
 |s :: l,out=>by
  have h1:=liveL_len l (insI out s.id)
  have h2:=insI_len out s.id
  unfold liveL at h1 ⊢
  rw [List.foldl_cons,List.length_cons]
  omega
set_option maxHeartbeats 4000000 in
theorem s_live (m : Sh) (h1 : m.lists.length ≤ 256) (h2 : ∀ l ∈ m.lists,l.length ≤ 256) : PSpec Tryz.prog 11 [encH m] (.sl 1 ((liveM m).map iA)):=by
 obtain ⟨V,hV⟩ : ∃ V : Nat → List Int,∀ i,V i = (m.lists.take i).foldl (fun o l=>liveL l o) []:=⟨_,fun _=>rfl⟩
 have v0 : V 0 = []:=by simp [hV]
 have vs : ∀ i (hi : i < m.lists.length),V (i + 1) = liveL m.lists[i] (V i):=by
  intro i hi
  rw [hV,hV,List.take_succ_eq_append_getElem hi,List.foldl_append]
  rfl
 have ve : V m.lists.length = liveM m:=by rw [hV,List.take_length];rfl
 have vl : ∀ i,i ≤ m.lists.length → (V i).length ≤ 256 * i:=by
  intro i
  induction i with
  |zero=>intro _;rw [v0];simp
  |succ i ih =>
   intro hi
   have h3:=ih (by omega)
   have h4:=h2 m.lists[i] (List.getElem_mem _)
   have h5:=liveL_len m.lists[i] (V i)
   rw [vs i (by omega)]
   omega
 clear hV
 generalize liveM m = B at *
 replace vs:=Hld.mk vs
 replace vl:=Hld.mk vl
 replace ve:=Hld.mk ve
 replace h2:=Hld.mk h2
 refine PSpec_of Tryz.func11 rfl rfl (Nat.le_of_ble_eq_true rfl) (Nat.le_of_ble_eq_true rfl) ?_
 intro E hE
 refine AW_seqt ⟨[(1,.loc 1 0)],[(1,.box 26 (encH m))]⟩ ?_ (by
  intro K hK
  repeat' (first
   |(with_reducible first|refine uK ?_|refine uX ?_|refine jq fun K hK=>?_|refine jb ?_)|((with_reducible first|refine rS hE ?_|refine jn ?_|refine js fun K' hK'=>?_|refine ji fun X Y hX hY=>?_|refine jr ?_|refine jk ?_|refine jx ?_);simp [*])|with_reducible refine rL hE ?_|with_reducible refine And.intro ?_ ?_|omega|(refine imp1 fun h=>?_))
  all_goals simp)
 refine AW_freeze 1 (cb:=.box 26 (encH m)) (t:=⟨[(1,.ep (encH m))],[]⟩) (by simp) (by simp) (by simp) ?_
 refine AW_seqt ⟨[(3,.v (.slice none 0 0)),(1,.ep (encH m))],[]⟩ ?_ (by
  intro K hK
  repeat' (first
   |(with_reducible first|refine uK ?_|refine uX ?_|refine jq fun K hK=>?_|refine jb ?_)|((with_reducible first|refine rS hE ?_|refine jn ?_|refine js fun K' hK'=>?_|refine ji fun X Y hX hY=>?_|refine jr ?_|refine jk ?_|refine jx ?_);simp [*])|with_reducible refine rL hE ?_|with_reducible refine And.intro ?_ ?_|omega|(refine imp1 fun h=>?_))
  all_goals simp)
 refine AW_mkrow 3 900 3 1 rfl rfl rfl (by omega) ?_
 refine AW_freeze 900 (cb:=.arr 3 1 []) (t:=⟨[(3,.sl 1 ((V 0).map iA)),(1,.ep (encH m))],[]⟩) (by simp) (by simp [v0]) (by simp [v0]) ?_
 clear v0
 repeat' (first
  |(with_reducible first|refine uK ?_|refine uX ?_|refine jq fun K hK=>?_|refine jb ?_)|((with_reducible first|refine rS hE ?_|refine jn ?_|refine js fun K' hK'=>?_|refine ji fun X Y hX hY=>?_|refine jr ?_|refine jk ?_|refine jx ?_);simp [*])|with_reducible refine rL hE ?_|with_reducible refine And.intro ?_ ?_|omega|(refine imp1 fun h=>?_))
 refine AW_loopk (G:=Nat) (fun i=>⟨[(4,iA i),(3,.sl 1 ((V i).map iA)),(1,.ep (encH m))],[]⟩)
  (fun i=>i ≤ m.lists.length) (fun i=>m.lists.length - i) 0 (by omega) (by simp) ?_
 intro i hi K hK
 by_cases hlt : i < m.lists.length
 ·have hvs:=vs.out i hlt
  have hvl:=vl.out i hi
  have hll:=h2.out m.lists[i] (List.getElem_mem hlt)
  refine AW_seqt ⟨[(4,iA i),(3,.sl 1 ((V i).map iA)),(1,.ep (encH m))],[]⟩ ?_ (by
   intro K2 hK2
   clear hvs
   repeat' (first
    |(with_reducible first|refine uK ?_|refine uX ?_|refine jq fun K hK=>?_|refine jb ?_)|((with_reducible first|refine rS hE ?_|refine jn ?_|refine js fun K' hK'=>?_|refine ji fun X Y hX hY=>?_|refine jr ?_|refine jk ?_|refine jx ?_);simp [*])|with_reducible refine rL hE ?_|with_reducible refine And.intro ?_ ?_|omega|(refine imp1 fun h=>?_))
   all_goals simp)
  refine AW_seqt ⟨[(4,iA i),(3,.sl 1 ((V (i + 1)).map iA)),(1,.ep (encH m))],[]⟩ ?_ ?_
  ·clear hvs
   repeat' (first
    |(with_reducible first|refine uK ?_|refine uX ?_|refine jq fun K hK=>?_|refine jb ?_)|((with_reducible first|refine rS hE ?_|refine jn ?_|refine js fun K' hK'=>?_|refine ji fun X Y hX hY=>?_|refine jr ?_|refine jk ?_|refine jx ?_);simp [*])|with_reducible refine rL hE ?_|with_reducible refine And.intro ?_ ?_|omega|(refine imp1 fun h=>?_))
   all_goals exact ⟨i + 1,by omega,by omega,by simp⟩
  intro K2 hK2
  rw [hvs] at hK2
  clear hvs
  obtain ⟨W,hW⟩ : ∃ W : Nat → List Int,∀ j,W j = liveL (m.lists[i].take j) (V i):=⟨_,fun _=>rfl⟩
  have w0 : W 0 = V i:=by simp [hW,liveL]
  have ws : ∀ j (hj : j < m.lists[i].length),W (j + 1) = insI (W j) m.lists[i][j].id:=by
   intro j hj
   rw [hW,hW,List.take_succ_eq_append_getElem hj]
   unfold liveL
   rw [List.foldl_append]
   rfl
  have we : W m.lists[i].length = liveL m.lists[i] (V i):=by rw [hW,List.take_length]
  have wl : ∀ j,j ≤ m.lists[i].length → (W j).length ≤ 100000:=by
   intro j hj
   rw [hW]
   have h5:=liveL_len (m.lists[i].take j) (V i)
   simp at h5
   omega
  clear hW
  rw [← we] at hK2
  clear we
  have hgl : m.lists[i]? = some m.lists[i]:=by simp [hlt]
  generalize hL : m.lists[i] = L at *
  have hgi : ∀ h : i < m.lists.length,m.lists[i] = L:=fun h=>hL
  clear hL
  replace ws:=Hld.mk ws
  replace wl:=Hld.mk wl
  refine AW_block ?_
  repeat' (first
   |(with_reducible first|refine uK ?_|refine uX ?_|refine jq fun K hK=>?_|refine jb ?_)|((with_reducible first|refine rS hE ?_|refine jn ?_|refine js fun K' hK'=>?_|refine ji fun X Y hX hY=>?_|refine jr ?_|refine jk ?_|refine jx ?_);simp [*])|with_reducible refine rL hE ?_|with_reducible refine And.intro ?_ ?_|omega|(refine imp1 fun h=>?_))
  refine AW_loopk (G:=Nat) (fun j=>⟨[(5,iA j),(4,iA i),(3,.sl 1 ((W j).map iA)),(1,.ep (encH m))],[]⟩)
   (fun j=>j ≤ L.length) (fun j=>L.length - j) 0 (by omega) (by simp [w0]) ?_
  intro j hj K3 hK3
  clear w0
  by_cases hjl : j < L.length
  ·have hws:=ws.out j hjl
   have hwl:=wl.out j hj
   refine AW_seqt ⟨[(5,iA j),(4,iA i),(3,.sl 1 ((W j).map iA)),(1,.ep (encH m))],[]⟩ ?_ (by
    intro K4 hK4
    clear hws
    repeat' (first
     |(with_reducible first|refine uK ?_|refine uX ?_|refine jq fun K hK=>?_|refine jb ?_)|((with_reducible first|refine rS hE ?_|refine jn ?_|refine js fun K' hK'=>?_|refine ji fun X Y hX hY=>?_|refine jr ?_|refine jk ?_|refine jx ?_);simp [*])|with_reducible refine rL hE ?_|with_reducible refine And.intro ?_ ?_|omega|(refine imp1 fun h=>?_))
    all_goals simp)
   generalize W j = V0 at *
   generalize hRW : W (j + 1) = R at *
   have hgj : L[j]? = some L[j]:=by simp [hjl]
   generalize hx : L[j] = x at *
   have hxj : ∀ h : j < L.length,L[j] = x:=fun h=>hx
   clear hx
   refine AW_seqx (fun t=>t = ⟨[(5,iA j),(4,iA i),(3,.sl 1 (R.map iA)),(1,.ep (encH m))],[]⟩ ∨ t = ⟨[(5,iA j),(4,iA i),(3,.own 60 1 0 R.length),(1,.ep (encH m))],[(60,.arr 3 1 (R.map iA))]⟩) ?_ ?_
   ·clear hws
    rintro t (rfl|rfl)
    ·repeat' (first
      |(with_reducible first|refine uK ?_|refine uX ?_|refine jq fun K hK=>?_|refine jb ?_)|((with_reducible first|refine rS hE ?_|refine jn ?_|refine js fun K' hK'=>?_|refine ji fun X Y hX hY=>?_|refine jr ?_|refine jk ?_|refine jx ?_);simp [*])|with_reducible refine rL hE ?_|with_reducible refine And.intro ?_ ?_|omega|(refine imp1 fun h=>?_))
     all_goals exact ⟨j + 1,by omega,by omega,by simp [hRW]⟩
    ·refine AW_freeze 60 (cb:=.arr 3 1 (R.map iA)) (t:=⟨[(5,iA j),(4,iA i),(3,.sl 1 (R.map iA)),(1,.ep (encH m))],[]⟩) (by simp) (by simp) (by simp) ?_
     repeat' (first
      |(with_reducible first|refine uK ?_|refine uX ?_|refine jq fun K hK=>?_|refine jb ?_)|((with_reducible first|refine rS hE ?_|refine jn ?_|refine js fun K' hK'=>?_|refine ji fun X Y hX hY=>?_|refine jr ?_|refine jk ?_|refine jx ?_);simp [*])|with_reducible refine rL hE ?_|with_reducible refine And.intro ?_ ?_|omega|(refine imp1 fun h=>?_))
     all_goals exact ⟨j + 1,by omega,by omega,by simp [hRW]⟩
   intro K4 hK4
   refine AW_block ?_
   refine AW_seqt ⟨[(7,iA 0),(6,iA x.id),(5,iA j),(4,iA i),(3,.sl 1 (V0.map iA)),(1,.ep (encH m))],[]⟩ ?_ (by
    intro K5 hK5
    clear hws
    repeat' (first
     |(with_reducible first|refine uK ?_|refine uX ?_|refine jq fun K hK=>?_|refine jb ?_)|((with_reducible first|refine rS hE ?_|refine jn ?_|refine js fun K' hK'=>?_|refine ji fun X Y hX hY=>?_|refine jr ?_|refine jk ?_|refine jx ?_);simp [*])|with_reducible refine rL hE ?_|with_reducible refine And.intro ?_ ?_|omega|(refine imp1 fun h=>?_))
    all_goals simp)
   refine AW_seqt ⟨[(7,iA (posI V0 x.id : Nat)),(6,iA x.id),(5,iA j),(4,iA i),(3,.sl 1 (V0.map iA)),(1,.ep (encH m))],[]⟩ ?_ ?_
   rotate_left
   ·intro K5 hK5
    clear hws
    refine AW_block ?_
    refine AW_loopk (G:=Nat) (fun k=>⟨[(7,iA k),(6,iA x.id),(5,iA j),(4,iA i),(3,.sl 1 (V0.map iA)),(1,.ep (encH m))],[]⟩)
     (fun k=>k ≤ V0.length ∧ Hld (∀ q (hq : q < V0.length),q < k → V0[q] < x.id)) (fun k=>V0.length - k) 0 ⟨by omega,⟨fun q hq h=>by omega⟩⟩ (by simp) ?_
    rintro k ⟨hk,hbef⟩ K6 hK6
    by_cases hkl : k < V0.length
    ·by_cases hc : V0[k] < x.id
     ·repeat' (first
       |(with_reducible first|refine uK ?_|refine uX ?_|refine jq fun K hK=>?_|refine jb ?_)|((with_reducible first|refine rS hE ?_|refine jn ?_|refine js fun K' hK'=>?_|refine ji fun X Y hX hY=>?_|refine jr ?_|refine jk ?_|refine jx ?_);simp [*])|with_reducible refine rL hE ?_|with_reducible refine And.intro ?_ ?_|omega|(refine imp1 fun h=>?_))
      all_goals exact ⟨k + 1,⟨by omega,⟨fun q hq h=>(by
       rcases Nat.lt_succ_iff_lt_or_eq.1 h with h|rfl
       ·exact hbef.out q hq h
       ·exact hc)⟩⟩,by omega,by simp⟩
     ·have hpos : posI V0 x.id = k:=posI_eq hk hbef.out (fun _=>hc)
      rw [hpos] at hK5
      repeat' (first
       |(with_reducible first|refine uK ?_|refine uX ?_|refine jq fun K hK=>?_|refine jb ?_)|((with_reducible first|refine rS hE ?_|refine jn ?_|refine js fun K' hK'=>?_|refine ji fun X Y hX hY=>?_|refine jr ?_|refine jk ?_|refine jx ?_);simp [*])|with_reducible refine rL hE ?_|with_reducible refine And.intro ?_ ?_|omega|(refine imp1 fun h=>?_))
      all_goals simp
    ·have hke : k = V0.length:=by omega
     subst hke
     have hpos : posI V0 x.id = V0.length:=posI_eq hk hbef.out (fun h=>absurd h (by omega))
     rw [hpos] at hK5
     repeat' (first
      |(with_reducible first|refine uK ?_|refine uX ?_|refine jq fun K hK=>?_|refine jb ?_)|((with_reducible first|refine rS hE ?_|refine jn ?_|refine js fun K' hK'=>?_|refine ji fun X Y hX hY=>?_|refine jr ?_|refine jk ?_|refine jx ?_);simp [*])|with_reducible refine rL hE ?_|with_reducible refine And.intro ?_ ?_|omega|(refine imp1 fun h=>?_))
     all_goals simp
   have hpl:=posI_le V0 x.id
   unfold insI at hws
   generalize posI V0 x.id = p at *
   by_cases hhit : V0[p]? = some x.id
   ·rw [if_pos hhit] at hws
    obtain ⟨hp,he⟩:=List.getElem?_eq_some_iff.1 hhit
    have hne : ¬ (p : Int) = (V0.length : Int):=by omega
    clear hhit hRW
    subst hws
    repeat' (first
     |(with_reducible first|refine uK ?_|refine uX ?_|refine jq fun K hK=>?_|refine jb ?_)|((with_reducible first|refine rS hE ?_|refine jn ?_|refine js fun K' hK'=>?_|refine ji fun X Y hX hY=>?_|refine jr ?_|refine jk ?_|refine jx ?_);simp [*])|with_reducible refine rL hE ?_|with_reducible refine And.intro ?_ ?_|omega|(refine imp1 fun h=>?_))
    all_goals exact ⟨_,.inl rfl,by simp⟩
   ·rw [if_neg hhit] at hws
    refine AW_seqt ⟨[(59,bA true),(7,iA p),(6,iA x.id),(5,iA j),(4,iA i),(3,.sl 1 (V0.map iA)),(1,.ep (encH m))],[]⟩ ?_ (by
     intro K5 hK5
     clear hws
     by_cases hpe : p = V0.length
     ·subst hpe
      clear hhit
      repeat' (first
       |(with_reducible first|refine uK ?_|refine uX ?_|refine jq fun K hK=>?_|refine jb ?_)|((with_reducible first|refine rS hE ?_|refine jn ?_|refine js fun K' hK'=>?_|refine ji fun X Y hX hY=>?_|refine jr ?_|refine jk ?_|refine jx ?_);simp [*])|with_reducible refine rL hE ?_|with_reducible refine And.intro ?_ ?_|omega|(refine imp1 fun h=>?_))
      all_goals simp
     ·have hp : p < V0.length:=by omega
      have hne : ¬ (p : Int) = (V0.length : Int):=by omega
      have hnx : ¬ V0[p] = x.id:=fun h=>hhit (by rw [← h];simp [hp])
      clear hhit
      repeat' (first
       |(with_reducible first|refine uK ?_|refine uX ?_|refine jq fun K hK=>?_|refine jb ?_)|((with_reducible first|refine rS hE ?_|refine jn ?_|refine js fun K' hK'=>?_|refine ji fun X Y hX hY=>?_|refine jr ?_|refine jk ?_|refine jx ?_);simp [*])|with_reducible refine rL hE ?_|with_reducible refine And.intro ?_ ?_|omega|(refine imp1 fun h=>?_))
      all_goals simp)
    clear hhit
    refine AW_if fun X Y hX hY=>?_
    simp
    refine hX.h ?_
    have hR1 : R.map iA = (V0.map iA).take p ++ iA x.id :: (V0.map iA).drop p:=by rw [hws];simp [List.map_take,List.map_drop]
    have hRl : R.length = V0.length + 1:=by rw [hws];simp;omega
    clear hws
    have hm1 : ∀ d,mentL d (List.take p (List.map iA V0)) = false:=fun d=>by rw [← List.map_take];exact ment_I d _
    have hm2 : ∀ d,mentL d (List.drop p (List.map iA V0)) = false:=fun d=>by rw [← List.map_drop];exact ment_I d _
    have hm3 : List.take p (List.take p (List.map iA V0)) = List.take p (List.map iA V0):=by rw [List.take_take,Nat.min_self]
    have hm4 : List.take (p + 1) (List.take p (List.map iA V0) ++ [iA x.id]) = List.take p (List.map iA V0) ++ [iA x.id]:=List.take_of_length_le (by simp;omega)
    have hlen : p + 1 + (V0.length - p) = R.length:=by omega
    refine AW_drawHd ⟨[(7,iA p),(6,iA x.id),(3,.sl 1 (V0.map iA))],[]⟩ mixed (by simp) fun E' hE'=>?_
    have hEn:=hE'.trans hE
    repeat' (first
     |(with_reducible first|refine useK (by assumption) ?_|refine useK3 (by assumption) ?_)|((with_reducible show DHd _ _ _ _ _ _ _);first|(refine DHd_done (by decide +kernel) ?_;try simp only [thenK,inBlk])|(refine dt hEn 0 fun K' hK'=>?_;simp [*];fail_if_success (with_reducible show False))|(refine dt hEn 1 fun K' hK'=>?_;simp [*];fail_if_success (with_reducible show False))|(refine dt hEn 2 fun K' hK'=>?_;simp [*];fail_if_success (with_reducible show False))|(refine dt hEn 3 fun K' hK'=>?_;simp [*];fail_if_success (with_reducible show False))|(refine dt hEn 4 fun K' hK'=>?_;simp [*];fail_if_success (with_reducible show False))|(refine dt hEn 5 fun K' hK'=>?_;simp [*];fail_if_success (with_reducible show False))|(refine dt hEn 6 fun K' hK'=>?_;simp [*];fail_if_success (with_reducible show False))|(refine dt hEn 7 fun K' hK'=>?_;simp [*];fail_if_success (with_reducible show False))|(refine dt hEn 8 fun K' hK'=>?_;simp [*];fail_if_success (with_reducible show False))|(refine dt hEn 9 fun K' hK'=>?_;simp [*];fail_if_success (with_reducible show False))|(refine dt hEn 10 fun K' hK'=>?_;simp [*];fail_if_success (with_reducible show False))|(refine dt hEn 11 fun K' hK'=>?_;simp [*];fail_if_success (with_reducible show False))|(refine dt hEn 12 fun K' hK'=>?_;simp [*];fail_if_success (with_reducible show False))|(refine dp hEn 0 fun K' hK'=>?_;simp [*];fail_if_success (with_reducible show False))|(refine dp hEn 1 fun K' hK'=>?_;simp [*];fail_if_success (with_reducible show False))|(refine dp hEn 2 fun K' hK'=>?_;simp [*];fail_if_success (with_reducible show False))|(refine dp hEn 3 fun K' hK'=>?_;simp [*];fail_if_success (with_reducible show False))|(refine dp hEn 4 fun K' hK'=>?_;simp [*];fail_if_success (with_reducible show False))|(refine dp hEn 5 fun K' hK'=>?_;simp [*];fail_if_success (with_reducible show False))|(refine dp hEn 6 fun K' hK'=>?_;simp [*];fail_if_success (with_reducible show False))|(refine dp hEn 7 fun K' hK'=>?_;simp [*];fail_if_success (with_reducible show False))|(refine dp hEn 8 fun K' hK'=>?_;simp [*];fail_if_success (with_reducible show False))|(refine dp hEn 9 fun K' hK'=>?_;simp [*];fail_if_success (with_reducible show False))|(refine dp hEn 10 fun K' hK'=>?_;simp [*];fail_if_success (with_reducible show False))|(refine dp hEn 11 fun K' hK'=>?_;simp [*];fail_if_success (with_reducible show False))|(refine dp hEn 12 fun K' hK'=>?_;simp [*];fail_if_success (with_reducible show False))|refine DHd_any rfl (by decide +kernel) ?_)|exact DHsome_nil|refine DHsome_no (by decide +kernel) ?_|(refine DHsome_yes (by exact rfl) rfl (by rw [hEn];decide) (fun K' hK'=>?_) ?_;simp [*];fail_if_success (with_reducible show False))|(refine DHsome_yesG (by exact rfl) rfl (by exact rfl) (by rw [hEn];decide) (fun K' hK'=>?_) ?_;simp [*];fail_if_success (with_reducible show False))|with_reducible refine And.intro ?_ ?_|omega|(with_reducible refine imp1 fun h=>?_))
    all_goals exact ⟨_,.inr rfl,by simp [hm4,hlen,hR1,hRl]⟩
  ·have hjl : j = L.length:=by omega
   subst hjl
   repeat' (first
    |(with_reducible first|refine uK ?_|refine uX ?_|refine jq fun K hK=>?_|refine jb ?_)|((with_reducible first|refine rS hE ?_|refine jn ?_|refine js fun K' hK'=>?_|refine ji fun X Y hX hY=>?_|refine jr ?_|refine jk ?_|refine jx ?_);simp [*])|with_reducible refine rL hE ?_|with_reducible refine And.intro ?_ ?_|omega|(refine imp1 fun h=>?_))
   all_goals simp
 ·have hil : i = m.lists.length:=by omega
  subst hil
  have hve:=ve.out
  subst hve
  repeat' (first
   |(with_reducible first|refine uK ?_|refine uX ?_|refine jq fun K hK=>?_|refine jb ?_)|((with_reducible first|refine rS hE ?_|refine jn ?_|refine js fun K' hK'=>?_|refine ji fun X Y hX hY=>?_|refine jr ?_|refine jk ?_|refine jx ?_);simp [*])|with_reducible refine rL hE ?_|with_reducible refine And.intro ?_ ?_|omega|(refine imp1 fun h=>?_))
  all_goals simp
end Go.Proofs.YtbibemijcdkjhaaGreatDoor
end
section
namespace Go.Proofs.YtbibemijcdkjhaaGreatDoor
open Go.Am
structure Stp where
 (kind rem add wrong : Nat)
 (a b c d e f : Int)
 deriving DecidableEq,Inhabited
abbrev u8 (n : Nat) : AV:=.v (.int .u8 n)
def encX (x : Stp) : AV:=.st [u8 x.kind,u8 x.rem,u8 x.add,u8 x.wrong,i8 x.a,i8 x.b,i8 x.c,i8 x.d,i8 x.e,i8 x.f]
@[simp] theorem encX_cells (x : Stp) : (encX x).cells = [u8 x.kind,u8 x.rem,u8 x.add,u8 x.wrong,i8 x.a,i8 x.b,i8 x.c,i8 x.d,i8 x.e,i8 x.f]:=rfl
@[simp] theorem encX_kn (s : Stp) : (encX s).kn = true:=rfl
@[simp] theorem encX_isSt (s : Stp) : (encX s).isSt = true:=rfl
@[simp] theorem encX_sto (s : Stp) : (encX s).sto = true:=rfl
@[simp] theorem encX_one (s : Stp) : (encX s).one = false:=rfl
@[simp] theorem encX_idf (s : Stp) : (encX s).idf = true:=rfl
@[simp] theorem encX_ment (d : Nat) (s : Stp) : (encX s).ment d = false:=by simp [encX]
@[simp] theorem encX_ren (σ : Nat → Nat) (s : Stp) : (encX s).ren σ = encX s:=by simp [encX]
@[simp] theorem encX_ids (s : Stp) : (encX s).ids = []:=by simp [encX]
@[simp] theorem encX_idsOf (s : Stp) : idsOf (encX s) = []:=by simp [encX]
@[simp] theorem view_encX {bf : Nat → Option Ct} {s : Stp} : View bf (encX s) (encX s):=view_self rfl
@[simp] theorem encX_flat (s : Stp) : (encX s).flat = true:=rfl
structure StpOK (x : Stp) : Prop where
 u : x.kind ≤ 255 ∧ x.rem ≤ 255 ∧ x.add ≤ 255 ∧ x.wrong ≤ 255
 i : (-128 ≤ x.a ∧ x.a ≤ 127) ∧ (-128 ≤ x.b ∧ x.b ≤ 127) ∧ (-128 ≤ x.c ∧ x.c ≤ 127) ∧ (-128 ≤ x.d ∧ x.d ≤ 127) ∧ (-128 ≤ x.e ∧ x.e ≤ 127) ∧ (-128 ≤ x.f ∧ x.f ≤ 127)
def bitB (r i : Nat) : Bool:=decide (r / 2 ^ i % 2 = 1)
def remU (base : List Seg) (r : Nat) : Nat → List Int
 |0=>[]
 |i + 1=>if bitB r i then remU base r i ++ [(base.getD i default).id] else remU base r i
def segW (m : Sh) (x : Stp) (i : Nat) : Seg:=⟨m.used + 1 + 2 * i,min x.a x.b,max x.a x.b,min x.c x.d,max x.c x.d,min x.e x.f,max x.e x.f,3 + i,x.add⟩
def addU (m : Sh) (x : Stp) : Nat → List Seg
 |0=>[]
 |i + 1=>addU m x i ++ [segW m x i]
def hdMap (g : Seg → Seg) : List Seg → List Seg
 |[]=>[]
 |a :: t=>g a :: t
def wrW (m : Sh) (x : Stp) (e : Ed) : Ed :=
 if x.wrong = 1 then ⟨e.kind,e.belief + 1,e.used,e.rem,e.add⟩
 else if x.wrong = 2 then ⟨e.kind,e.belief,e.used,e.rem ++ [1],e.add⟩
 else if x.wrong = 3 then ⟨e.kind,e.belief,e.used,e.rem,hdMap (fun s=>{ s with id:=1 + (x.add % 4 : Nat) }) e.add⟩
 else if x.wrong = 4 then ⟨e.kind,e.belief,1,e.rem,e.add⟩
 else if x.wrong = 5 then ⟨e.kind,e.belief,e.used,e.rem,hdMap (fun s=>{ s with x0:=s.x1 + 1 }) e.add⟩
 else if x.wrong = 6 then ⟨e.kind,e.belief,e.used,e.rem,match liveM m with
  |[]=>e.add
  |n :: _=>m.lists.foldl (fun acc l=>if hasB l n then [(findS l n).getD default] else acc) e.add⟩
 else e
def rawW (m : Sh) (x : Stp) (k b : Int) (base : List Seg) : Ed:=⟨k,b,0,remU base x.rem (min base.length 3),addU m x (x.add % 4)⟩
def baseW (m : Sh) (x : Stp) : List Seg:=m.lists.getD (x.rem / 8 % m.lists.length) []
def edW (m : Sh) (x : Stp) : Ed :=
 if x.kind % 3 = 2 then ⟨3,m.first + (x.rem % m.lists.length : Nat),0,[],[]⟩
 else if x.kind % 3 = 0 then wrW m x (rawW m x 1 (lastB m + 1) (lastL m))
 else wrW m x (rawW m x 2 0 (baseW m x))
theorem bit_eq (r i : Nat) (hi : i < 3) : decide ((((r : Int)).fdiv (2 ^ min i 8)).tmod 2 = 1) = bitB r i:=by
 unfold bitB
 refine decide_eq_decide.2 ?_
 have key : ∀ (p : Nat),0 < p → ((((r : Int)).fdiv (p : Int)).tmod 2 = 1 ↔ r / p % 2 = 1):=by
  intro p hp
  rw [Int.fdiv_eq_ediv_of_nonneg _ (by omega),show (r : Int) / (p : Int) = ((r / p : Nat) : Int) from (Int.natCast_ediv r p).symm]
  generalize r / p = q
  rw [Int.tmod_eq_emod_of_nonneg (by omega)]
  omega
 have : i = 0 ∨ i = 1 ∨ i = 2:=by omega
 rcases this with rfl|rfl|rfl
 ·exact key 1 (by omega)
 ·exact key 2 (by omega)
 ·exact key 4 (by omega)
theorem tmodN (a b : Nat) : ((a : Int)).tmod (b : Int) = ((a % b : Nat) : Int):=by
 rw [Int.tmod_eq_emod_of_nonneg (by omega)]
 exact (Int.natCast_emod a b).symm
theorem wrapN {n : Nat} (h : n ≤ 1000000) : IntKind.i64.wrap (n : Int) = n:=wrap_in .i64 (by simp only [IntKind.min,IntKind.signed,IntKind.bits];simp <;> omega) (by simp only [IntKind.max,IntKind.signed,IntKind.bits];simp <;> omega)
theorem wrapU {n : Nat} (h : n ≤ 255) : IntKind.u8.wrap (n : Int) = n:=wrap_in .u8 (by simp only [IntKind.min,IntKind.signed,IntKind.bits];simp <;> omega) (by simp only [IntKind.max,IntKind.signed,IntKind.bits];simp <;> omega)
abbrev zeE : Ct:=.box 36 (.st [iA 0,iA 0,iA 0,.v (.slice none 0 0),.v (.slice none 0 0)])
set_option maxHeartbeats 4000000 in
theorem s_edit (m : Sh) (x : Stp) (h : WF m) (hx : StpOK x) (hl : m.lists.length ≤ 256) (he : ∀ l ∈ m.lists,l.length ≤ 256) : PSpec Tryz.prog 20 [encH m,encX x] (encE (edW m x)):=by
 have h1:=h.first
 have h3:=h.ne
 have hnil : ¬ m.lists = []:=fun g=>by rw [g] at h3;simp at h3
 have hu:=h.used
 obtain ⟨hxu,hxi⟩:=hx
 obtain ⟨x1,x2,x3,x4⟩:=hxu
 have hwl:=Hld.mk (s_wlast m h)
 have hlb : lastB m = m.first + (m.lists.length : Int) - 1:=rfl
 have hl0 : 0 ≤ lastB m ∧ lastB m ≤ 2000000000000:=by omega
 replace hlb:=Hld.mk hlb
 obtain ⟨k3,hk3⟩ : ∃ k3,k3 = x.kind % 3:=⟨_,rfl⟩
 obtain ⟨rn,hrn⟩ : ∃ rn,rn = x.rem % m.lists.length:=⟨_,rfl⟩
 obtain ⟨r8,hr8⟩ : ∃ r8,r8 = x.rem / 8:=⟨_,rfl⟩
 obtain ⟨qn,hqn⟩ : ∃ qn,qn = r8 % m.lists.length:=⟨_,rfl⟩
 have f1:=wrapN (n:=x.kind) (by omega)
 have f2 : ((x.kind : Int)).tmod 3 = (k3 : Int):=by rw [hk3];exact tmodN x.kind 3
 have f3 : IntKind.u8.wrap ((x.rem : Int) / 8) = (r8 : Int):=by
  rw [show (x.rem : Int) / 8 = ((x.rem / 8 : Nat) : Int) by omega,← hr8]
  exact wrapU (by omega)
 have f4:=wrapN (n:=r8) (by omega)
 have f5 : ((r8 : Int)).tmod (m.lists.length : Int) = (qn : Int):=by rw [hqn];exact tmodN _ _
 have f6:=wrapN (n:=x.rem) (by omega)
 have f7 : ((x.rem : Int)).tmod (m.lists.length : Int) = (rn : Int):=by rw [hrn];exact tmodN _ _
 have hqlt : qn < m.lists.length:=by rw [hqn];exact Nat.mod_lt _ h3
 have hrlt : rn < m.lists.length:=by rw [hrn];exact Nat.mod_lt _ h3
 have hklt : k3 < 3:=by omega
 have hbase : baseW m x = m.lists[qn]:=by unfold baseW;rw [← hr8,← hqn];simp [hqlt]
 have hle:=lastL_eq h3
 have hle' : m.lists[m.lists.length - 1]? = some (lastL m):=by rw [hle,List.getElem?_eq_getElem]
 have hB : edW m x = if k3 = 2 then ⟨3,m.first + (rn : Int),0,[],[]⟩ else if k3 = 0 then wrW m x (rawW m x 1 (lastB m + 1) (lastL m)) else wrW m x (rawW m x 2 0 (baseW m x)):=by
  unfold edW
  rw [← hk3,← hrn]
 rw [hbase] at hB
 have hlL : (lastL m).length ≤ 256:=he _ (by rw [hle];exact List.getElem_mem _)
 have hlB : m.lists[qn].length ≤ 256:=he _ (List.getElem_mem _)
 generalize edW m x = B at hB ⊢
 generalize lastL m = L at *
 clear hle hbase
 have hgq : m.lists[qn]? = some m.lists[qn]:=by simp [hqlt]
 generalize hL0 : m.lists[qn] = L0 at *
 have hgq2 : ∀ h : qn < m.lists.length,m.lists[qn] = L0:=fun h=>hL0
 clear hL0
 replace hB:=Hld.mk hB
 replace he:=Hld.mk he
 clear hk3 hrn hr8 hqn
 refine MSpec.toD (R:=fun res bf=>DView bf res (encE B)) ?_ fun _ _ h=>h
 refine MSpec_of Tryz.func20 rfl rfl (Nat.le_of_ble_eq_true rfl) (Nat.le_of_ble_eq_true rfl) ?_
 intro E hE
 refine AW_seqt ⟨[(2,.loc 2 0),(3,.loc 3 0),(4,.loc 4 0)],[(2,.box 26 (encH m)),(3,.box 47 (encX x)),(4,zeE)]⟩ ?_ (by
  intro K hK
  repeat' (first
   |(with_reducible first|refine uK ?_|refine uX ?_|refine jq fun K hK=>?_|refine jb ?_)|((with_reducible first|refine rS hE ?_|refine jn ?_|refine js fun K' hK'=>?_|refine ji fun X Y hX hY=>?_|refine jr ?_|refine jk ?_|refine jx ?_);simp [*])|with_reducible refine rL hE ?_|with_reducible refine And.intro ?_ ?_|omega|(refine imp1 fun h=>?_))
  all_goals simp)
 refine AW_freeze 2 (cb:=.box 26 (encH m)) (t:=⟨[(2,.ep (encH m)),(3,.loc 3 0),(4,.loc 4 0)],[(3,.box 47 (encX x)),(4,zeE)]⟩) (by simp) (by simp) (by simp) ?_
 refine AW_freeze 3 (cb:=.box 47 (encX x)) (t:=⟨[(2,.ep (encH m)),(3,.ep (encX x)),(4,.loc 4 0)],[(4,zeE)]⟩) (by simp) (by simp) (by simp) ?_
 refine AW_seqt ⟨[(2,.ep (encH m)),(3,.ep (encX x)),(4,.loc 4 0),(5,.loc 5 0)],[(5,zeE),(4,zeE)]⟩ ?_ (by
  intro K hK
  repeat' (first
   |(with_reducible first|refine uK ?_|refine uX ?_|refine jq fun K hK=>?_|refine jb ?_)|((with_reducible first|refine rS hE ?_|refine jn ?_|refine js fun K' hK'=>?_|refine ji fun X Y hX hY=>?_|refine jr ?_|refine jk ?_|refine jx ?_);simp [*])|with_reducible refine rL hE ?_|with_reducible refine And.intro ?_ ?_|omega|(refine imp1 fun h=>?_))
  all_goals simp)
 refine AW_mkrowC 5 801 3 1 36 3 (cs:=[iA 0,iA 0,iA 0,.v (.slice none 0 0),.v (.slice none 0 0)]) (by simp) rfl (by simp) (by simp) (by omega) ?_
 refine AW_mkrowC 5 802 70 9 36 4 (cs:=[iA 0,iA 0,iA 0,.own 801 1 0 0,.v (.slice none 0 0)]) (by simp) rfl (by simp) (by simp) (by omega) ?_
 refine AW_seqt ⟨[(2,.ep (encH m)),(3,.ep (encX x)),(4,.loc 4 0),(5,.loc 5 0)],[(5,.box 36 (.st [iA (1 + k3),iA 0,iA 0,.own 801 1 0 0,.own 802 9 0 0])),(801,.arr 3 1 []),(802,.arr 70 9 []),(4,zeE)]⟩ ?_ (by
  intro K hK
  repeat' (first
   |(with_reducible first|refine uK ?_|refine uX ?_|refine jq fun K hK=>?_|refine jb ?_)|((with_reducible first|refine rS hE ?_|refine jn ?_|refine js fun K' hK'=>?_|refine ji fun X Y hX hY=>?_|refine jr ?_|refine jk ?_|refine jx ?_);simp [*])|with_reducible refine rL hE ?_|with_reducible refine And.intro ?_ ?_|omega|(refine imp1 fun h=>?_))
  all_goals simp)
 refine AW_seqt ⟨[(6,segL L0),(2,.ep (encH m)),(3,.ep (encX x)),(4,.loc 4 0),(5,.loc 5 0)],[(5,.box 36 (.st [iA (1 + k3),iA 0,iA 0,.own 801 1 0 0,.own 802 9 0 0])),(801,.arr 3 1 []),(802,.arr 70 9 []),(4,zeE)]⟩ ?_ (by
  intro K hK
  repeat' (first
   |(with_reducible first|refine uK ?_|refine uQ ?_|refine uX ?_|refine jq fun K hK=>?_|refine jb ?_)|(with_reducible refine rS hE ?_;simp [*])|with_reducible refine rL hE ?_|(((with_reducible show RK _ _ _ _ _ _);first|refine jn ?_|refine js fun K' hK'=>?_);simp [*])|with_reducible refine rD mixed hE ?_|((with_reducible show RKQ _ _ _ _ _ _);first|refine RKQ_nilk ⟨by decide,?_⟩|(refine jv fun K' hK'=>?_;simp [*]))|((with_reducible first|refine ji fun X Y hX hY=>?_|refine jr ?_|refine jk ?_|refine jx ?_);simp [*])|with_reducible refine And.intro ?_ ?_|omega|(refine imp1 fun h=>?_))
  all_goals simp)
 have hw : ∃ b base,(k3 = 0 → b = lastB m + 1 ∧ base = L) ∧ (k3 ≠ 0 → b = 0 ∧ base = L0):=by
  by_cases g : k3 = 0
  ·exact ⟨_,_,fun _=>⟨rfl,rfl⟩,fun h=>absurd g h⟩
  ·exact ⟨_,_,fun h=>absurd h g,fun _=>⟨rfl,rfl⟩⟩
 obtain ⟨b,base,hw1,hw2⟩:=hw
 have hbl : base.length ≤ 256:=by
  by_cases g : k3 = 0
  ·rw [(hw1 g).2];exact hlL
  ·rw [(hw2 g).2];exact hlB
 have hb0 : 0 ≤ b ∧ b ≤ 2000000000001:=by
  by_cases g : k3 = 0
  ·rw [(hw1 g).1];omega
  ·rw [(hw2 g).1];omega
 refine AW_seqt ⟨[(6,segL base),(2,.ep (encH m)),(3,.ep (encX x)),(4,.loc 4 0),(5,.loc 5 0)],[(5,.box 36 (.st [iA (1 + k3),iA b,iA 0,.own 801 1 0 0,.own 802 9 0 0])),(801,.arr 3 1 []),(802,.arr 70 9 []),(4,zeE)]⟩ ?_ (by
  intro K hK
  by_cases g : k3 = 0
  ·obtain ⟨rfl,rfl⟩:=hw1 g
   clear hw1 hw2 hb0 hbl hgq hgq2
   subst g
   refine AW_seqt ⟨[(33,bA true),(2,.ep (encH m)),(3,.ep (encX x)),(4,.loc 4 0),(5,.loc 5 0)],[(5,.box 36 (.st [iA 1,iA 0,iA 0,.own 801 1 0 0,.own 802 9 0 0])),(801,.arr 3 1 []),(802,.arr 70 9 []),(4,zeE)]⟩ ?_ (by
    intro K2 hK2
    repeat' (first
     |(with_reducible first|refine uK ?_|refine uX ?_|refine jq fun K hK=>?_|refine jb ?_)|((with_reducible first|refine rS hE ?_|refine jn ?_|refine js fun K' hK'=>?_|refine ji fun X Y hX hY=>?_|refine jr ?_|refine jk ?_|refine jx ?_);simp [*])|with_reducible refine rL hE ?_|with_reducible refine And.intro ?_ ?_|omega|(refine imp1 fun h=>?_))
    all_goals simp)
   refine AW_if fun X Y hX hY=>?_
   simp
   refine hX.h ?_
   refine AW_drawHd ⟨[(2,.ep (encH m))],[]⟩ mixed (by simp) fun E' hE'=>?_
   have hEn:=hE'.trans hE
   repeat' (first
    |(with_reducible first|refine useK (by assumption) ?_|refine useK3 (by assumption) ?_)|((with_reducible show DHd _ _ _ _ _ _ _);first|(refine DHd_done (by decide +kernel) ?_;try simp only [thenK,inBlk])|(refine dt hEn 0 fun K' hK'=>?_;simp [*];fail_if_success (with_reducible show False))|(refine dt hEn 1 fun K' hK'=>?_;simp [*];fail_if_success (with_reducible show False))|(refine dt hEn 2 fun K' hK'=>?_;simp [*];fail_if_success (with_reducible show False))|(refine dt hEn 3 fun K' hK'=>?_;simp [*];fail_if_success (with_reducible show False))|(refine dt hEn 4 fun K' hK'=>?_;simp [*];fail_if_success (with_reducible show False))|(refine dt hEn 5 fun K' hK'=>?_;simp [*];fail_if_success (with_reducible show False))|(refine dt hEn 6 fun K' hK'=>?_;simp [*];fail_if_success (with_reducible show False))|(refine dt hEn 7 fun K' hK'=>?_;simp [*];fail_if_success (with_reducible show False))|(refine dt hEn 8 fun K' hK'=>?_;simp [*];fail_if_success (with_reducible show False))|(refine dt hEn 9 fun K' hK'=>?_;simp [*];fail_if_success (with_reducible show False))|(refine dt hEn 10 fun K' hK'=>?_;simp [*];fail_if_success (with_reducible show False))|(refine dt hEn 11 fun K' hK'=>?_;simp [*];fail_if_success (with_reducible show False))|(refine dt hEn 12 fun K' hK'=>?_;simp [*];fail_if_success (with_reducible show False))|(refine dt hEn 13 fun K' hK'=>?_;simp [*];fail_if_success (with_reducible show False))|(refine dp hEn 0 fun K' hK'=>?_;simp [*];fail_if_success (with_reducible show False))|(refine dp hEn 1 fun K' hK'=>?_;simp [*];fail_if_success (with_reducible show False))|(refine dp hEn 2 fun K' hK'=>?_;simp [*];fail_if_success (with_reducible show False))|(refine dp hEn 3 fun K' hK'=>?_;simp [*];fail_if_success (with_reducible show False))|(refine dp hEn 4 fun K' hK'=>?_;simp [*];fail_if_success (with_reducible show False))|(refine dp hEn 5 fun K' hK'=>?_;simp [*];fail_if_success (with_reducible show False))|(refine dp hEn 6 fun K' hK'=>?_;simp [*];fail_if_success (with_reducible show False))|(refine dp hEn 7 fun K' hK'=>?_;simp [*];fail_if_success (with_reducible show False))|(refine dp hEn 8 fun K' hK'=>?_;simp [*];fail_if_success (with_reducible show False))|(refine dp hEn 9 fun K' hK'=>?_;simp [*];fail_if_success (with_reducible show False))|(refine dp hEn 10 fun K' hK'=>?_;simp [*];fail_if_success (with_reducible show False))|(refine dp hEn 11 fun K' hK'=>?_;simp [*];fail_if_success (with_reducible show False))|(refine dp hEn 12 fun K' hK'=>?_;simp [*];fail_if_success (with_reducible show False))|(refine dp hEn 13 fun K' hK'=>?_;simp [*];fail_if_success (with_reducible show False))|refine DHd_any rfl (by decide +kernel) ?_)|exact DHsome_nil|refine DHsome_no (by decide +kernel) ?_|(refine DHsome_yes (by exact rfl) rfl (by rw [hEn];decide) (fun K' hK'=>?_) ?_;simp [*];fail_if_success (with_reducible show False))|(refine DHsome_yesG (by exact rfl) rfl (by exact rfl) (by rw [hEn];decide) (fun K' hK'=>?_) ?_;simp [*];fail_if_success (with_reducible show False))|(refine acall_same (hwl.out) ?_ ?_ ?_;(focus (simp [*] <;> fail));(focus (simp [*] <;> fail));simp [*])|(refine acall_view (hwl.out) ?_ ?_ ?_;(focus (simp [*] <;> fail));(focus (simp [*] <;> fail));simp [*])|with_reducible refine And.intro ?_ ?_|omega|(with_reducible refine imp1 fun h=>?_))
   all_goals simp
  ·obtain ⟨rfl,rfl⟩:=hw2 g
   have g2 : ¬ (1 + (k3 : Int) = 1):=by omega
   clear hw1 hw2 hb0 hbl hgq hgq2
   repeat' (first
    |(with_reducible first|refine uK ?_|refine uX ?_|refine jq fun K hK=>?_|refine jb ?_)|((with_reducible first|refine rS hE ?_|refine jn ?_|refine js fun K' hK'=>?_|refine ji fun X Y hX hY=>?_|refine jr ?_|refine jk ?_|refine jx ?_);simp [*])|with_reducible refine rL hE ?_|with_reducible refine And.intro ?_ ?_|omega|(refine imp1 fun h=>?_))
   all_goals simp)
 by_cases g : k3 = 2
 ·subst g
  have hB2:=hB.out
  simp only [if_true] at hB2
  subst hB2
  obtain ⟨rfl,rfl⟩:=hw2 (by omega)
  clear hw1 hw2 hb0 hB hbl hgq hgq2
  refine AW_seqx (fun _=>False) (fun t ht=>ht.elim) ?_
  intro K hK
  clear hK
  refine AW_seqt ⟨[(48,bA true),(2,.ep (encH m)),(3,.ep (encX x)),(4,.loc 4 0),(5,.loc 5 0)],[(5,.box 36 (.st [iA 3,iA 0,iA 0,.own 801 1 0 0,.own 802 9 0 0])),(801,.arr 3 1 []),(802,.arr 70 9 []),(4,zeE)]⟩ ?_ (by
   intro K2 hK2
   repeat' (first
    |(with_reducible first|refine uK ?_|refine uX ?_|refine jq fun K hK=>?_|refine jb ?_)|((with_reducible first|refine rS hE ?_|refine jn ?_|refine js fun K' hK'=>?_|refine ji fun X Y hX hY=>?_|refine jr ?_|refine jk ?_|refine jx ?_);simp [*])|with_reducible refine rL hE ?_|with_reducible refine And.intro ?_ ?_|omega|(refine imp1 fun h=>?_))
   all_goals simp)
  refine AW_if fun X Y hX hY=>?_
  simp
  refine hX.h ?_
  refine AW_seqt ⟨[(2,.ep (encH m)),(3,.ep (encX x)),(4,.loc 4 0),(5,.loc 5 0)],[(5,.box 36 (.st [iA 3,iA (m.first + rn),iA 0,.own 801 1 0 0,.own 802 9 0 0])),(801,.arr 3 1 []),(802,.arr 70 9 []),(4,zeE)]⟩ ?_ (by
   intro K2 hK2
   refine AW_drawHd ⟨[(2,.ep (encH m)),(3,.ep (encX x))],[]⟩ mixed (by simp) fun E' hE'=>?_
   have hEn:=hE'.trans hE
   repeat' (first
    |(with_reducible first|refine useK (by assumption) ?_|refine useK3 (by assumption) ?_)|((with_reducible show DHd _ _ _ _ _ _ _);first|(refine DHd_done (by decide +kernel) ?_;try simp only [thenK,inBlk])|(refine dt hEn 0 fun K' hK'=>?_;simp [*];fail_if_success (with_reducible show False))|(refine dt hEn 1 fun K' hK'=>?_;simp [*];fail_if_success (with_reducible show False))|(refine dt hEn 2 fun K' hK'=>?_;simp [*];fail_if_success (with_reducible show False))|(refine dt hEn 3 fun K' hK'=>?_;simp [*];fail_if_success (with_reducible show False))|(refine dt hEn 4 fun K' hK'=>?_;simp [*];fail_if_success (with_reducible show False))|(refine dt hEn 5 fun K' hK'=>?_;simp [*];fail_if_success (with_reducible show False))|(refine dt hEn 6 fun K' hK'=>?_;simp [*];fail_if_success (with_reducible show False))|(refine dt hEn 7 fun K' hK'=>?_;simp [*];fail_if_success (with_reducible show False))|(refine dt hEn 8 fun K' hK'=>?_;simp [*];fail_if_success (with_reducible show False))|(refine dt hEn 9 fun K' hK'=>?_;simp [*];fail_if_success (with_reducible show False))|(refine dt hEn 10 fun K' hK'=>?_;simp [*];fail_if_success (with_reducible show False))|(refine dt hEn 11 fun K' hK'=>?_;simp [*];fail_if_success (with_reducible show False))|(refine dp hEn 0 fun K' hK'=>?_;simp [*];fail_if_success (with_reducible show False))|(refine dp hEn 1 fun K' hK'=>?_;simp [*];fail_if_success (with_reducible show False))|(refine dp hEn 2 fun K' hK'=>?_;simp [*];fail_if_success (with_reducible show False))|(refine dp hEn 3 fun K' hK'=>?_;simp [*];fail_if_success (with_reducible show False))|(refine dp hEn 4 fun K' hK'=>?_;simp [*];fail_if_success (with_reducible show False))|(refine dp hEn 5 fun K' hK'=>?_;simp [*];fail_if_success (with_reducible show False))|(refine dp hEn 6 fun K' hK'=>?_;simp [*];fail_if_success (with_reducible show False))|(refine dp hEn 7 fun K' hK'=>?_;simp [*];fail_if_success (with_reducible show False))|(refine dp hEn 8 fun K' hK'=>?_;simp [*];fail_if_success (with_reducible show False))|(refine dp hEn 9 fun K' hK'=>?_;simp [*];fail_if_success (with_reducible show False))|(refine dp hEn 10 fun K' hK'=>?_;simp [*];fail_if_success (with_reducible show False))|(refine dp hEn 11 fun K' hK'=>?_;simp [*];fail_if_success (with_reducible show False))|refine DHd_any rfl (by decide +kernel) ?_)|exact DHsome_nil|refine DHsome_no (by decide +kernel) ?_|(refine DHsome_yes (by exact rfl) rfl (by rw [hEn];decide) (fun K' hK'=>?_) ?_;simp [*];fail_if_success (with_reducible show False))|(refine DHsome_yesG (by exact rfl) rfl (by exact rfl) (by rw [hEn];decide) (fun K' hK'=>?_) ?_;simp [*];fail_if_success (with_reducible show False))|with_reducible refine And.intro ?_ ?_|omega|(with_reducible refine imp1 fun h=>?_))
   all_goals simp)
  repeat' (first
   |(with_reducible first|refine uK ?_|refine uX ?_|refine jq fun K hK=>?_|refine jb ?_)|((with_reducible first|refine rS hE ?_|refine jn ?_|refine js fun K' hK'=>?_|refine ji fun X Y hX hY=>?_|refine jr ?_|refine jk ?_|refine jx ?_);simp [*])|with_reducible refine rL hE ?_|with_reducible refine And.intro ?_ ?_|omega|(refine imp1 fun h=>?_))
  all_goals exact DView.stL (by simp) ⟨.base (by simp),.base (by simp),.base (by simp),.base (by simp),.base (by simp),trivial⟩
 have hB2 : B = wrW m x (rawW m x (1 + k3) b base):=by
  rw [hB.out,if_neg g]
  by_cases g0 : k3 = 0
  ·rw [if_pos g0,(hw1 g0).1,(hw1 g0).2,g0];rfl
  ·rw [if_neg g0,(hw2 g0).1,(hw2 g0).2,show k3 = 1 by omega];rfl
 clear hw1 hw2 hB hle' hgq hgq2 hlL hlB hqlt hrlt f1 f2 f3 f4 f5 f7 hwl hlb hl0
 have g2 : ¬ (1 + (k3 : Int) = 3):=by omega
 have hk1 : 1 ≤ 1 + (k3 : Int) ∧ 1 + (k3 : Int) ≤ 2:=by omega
 generalize (1 + (k3 : Int)) = kk at *
 refine AW_seqt ⟨[(6,segL base),(2,.ep (encH m)),(3,.ep (encX x)),(4,.loc 4 0),(5,.loc 5 0)],[(5,.box 36 (.st [iA kk,iA b,iA 0,.own 801 1 0 0,.own 802 9 0 0])),(801,.arr 3 1 []),(802,.arr 70 9 []),(4,zeE)]⟩ ?_ (by
  intro K hK
  repeat' (first
   |(with_reducible first|refine uK ?_|refine uX ?_|refine jq fun K hK=>?_|refine jb ?_)|((with_reducible first|refine rS hE ?_|refine jn ?_|refine js fun K' hK'=>?_|refine ji fun X Y hX hY=>?_|refine jr ?_|refine jk ?_|refine jx ?_);simp [*])|with_reducible refine rL hE ?_|with_reducible refine And.intro ?_ ?_|omega|(refine imp1 fun h=>?_))
  all_goals simp)
 clear g g2 hklt
 obtain ⟨F,hF⟩ : ∃ F : Nat → List Int,∀ i,F i = remU base x.rem i:=⟨_,fun _=>rfl⟩
 have fr0 : F 0 = []:=by rw [hF];rfl
 have frs : ∀ i (hi : i < base.length),F (i + 1) = if bitB x.rem i then F i ++ [base[i].id] else F i:=by
  intro i hi
  rw [hF,hF]
  simp only [remU]
  rw [show base.getD i default = base[i] by simp [List.getD_eq_getElem?_getD,hi]]
 have frl : ∀ i,i ≤ 3 → (F i).length ≤ 3:=by
  have : ∀ i,(F i).length ≤ i:=by
   intro i
   induction i with
   |zero=>rw [fr0];simp
   |succ i ih =>
    rw [hF] at ih ⊢
    simp only [remU]
    split
    ·simp;omega
    ·omega
  intro i hi
  have:=this i
  omega
 have hFe : remU base x.rem (min base.length 3) = F (min base.length 3):=(hF _).symm
 replace frs:=Hld.mk frs
 replace frl:=Hld.mk frl
 clear hF
 obtain ⟨G,hG⟩ : ∃ G : Nat → List Seg,∀ i,G i = addU m x i:=⟨_,fun _=>rfl⟩
 have gs0 : G 0 = []:=by rw [hG];rfl
 have gss : ∀ i,G (i + 1) = G i ++ [segW m x i]:=by intro i;rw [hG,hG];rfl
 have gsl : ∀ i,i ≤ 3 → (G i).length = i:=by
  have : ∀ i,(G i).length = i:=by
   intro i
   induction i with
   |zero=>rw [gs0];rfl
   |succ i ih=>rw [gss];simp [ih]
  intro i _
  exact this i
 have gx : ∀ i,∀ s ∈ G i, -128 ≤ s.x1 ∧ s.x1 ≤ 127:=by
  intro i
  induction i with
  |zero=>rw [gs0];simp
  |succ i ih =>
   intro s hs
   rw [gss] at hs
   rcases List.mem_append.1 hs with hs|hs
   ·exact ih s hs
   ·simp at hs
    subst hs
    have h9 : (segW m x i).x1 = max x.a x.b:=rfl
    rw [h9]
    omega
 replace gx:=Hld.mk gx
 have hGe : addU m x (x.add % 4) = G (x.add % 4):=(hG _).symm
 replace gss:=Hld.mk gss
 replace gsl:=Hld.mk gsl
 clear hG
 unfold rawW at hB2
 rw [hFe,hGe] at hB2
 clear hFe hGe
 refine AW_seqt ⟨[(6,segL base),(2,.ep (encH m)),(3,.ep (encX x)),(4,.loc 4 0),(5,.loc 5 0)],[(5,.box 36 (.st [iA kk,iA b,iA 0,.own 801 1 0 (F (min base.length 3)).length,.own 802 9 0 0])),(801,.arr 3 1 ((F (min base.length 3)).map iA)),(802,.arr 70 9 []),(4,zeE)]⟩ ?_ ?_
 rotate_left
 ·intro K0 hK0
  clear hB2 gs0 gss gsl
  repeat' (first
   |(with_reducible first|refine uK ?_|refine uX ?_|refine jq fun K hK=>?_|refine jb ?_)|((with_reducible first|refine rS hE ?_|refine jn ?_|refine js fun K' hK'=>?_|refine ji fun X Y hX hY=>?_|refine jr ?_|refine jk ?_|refine jx ?_);simp [*])|with_reducible refine rL hE ?_|with_reducible refine And.intro ?_ ?_|omega|(refine imp1 fun h=>?_))
  refine AW_loopk (G:=Nat) (fun i=>⟨[(7,iA i),(6,segL base),(2,.ep (encH m)),(3,.ep (encX x)),(4,.loc 4 0),(5,.loc 5 0)],[(5,.box 36 (.st [iA kk,iA b,iA 0,.own 801 1 0 (F i).length,.own 802 9 0 0])),(801,.arr 3 1 ((F i).map iA)),(802,.arr 70 9 []),(4,zeE)]⟩)
   (fun i=>i ≤ base.length ∧ i ≤ 3) (fun i=>3 - i) 0 ⟨by omega,by omega⟩ (by simp [fr0]) ?_
  rintro i ⟨hi,hi3⟩ K2 hK2
  clear fr0
  by_cases hlt : i < base.length ∧ i < 3
  ·obtain ⟨hlt,hlt3⟩:=hlt
   have hfs:=frs.out i hlt
   have hfl:=frl.out i hi3
   refine AW_seqt ⟨[(7,iA i),(6,segL base),(2,.ep (encH m)),(3,.ep (encX x)),(4,.loc 4 0),(5,.loc 5 0)],[(5,.box 36 (.st [iA kk,iA b,iA 0,.own 801 1 0 (F i).length,.own 802 9 0 0])),(801,.arr 3 1 ((F i).map iA)),(802,.arr 70 9 []),(4,zeE)]⟩ ?_ (by
    intro K3 hK3
    clear hfs
    repeat' (first
     |(with_reducible first|refine uK ?_|refine uX ?_|refine jq fun K hK=>?_|refine jb ?_)|((with_reducible first|refine rS hE ?_|refine jn ?_|refine js fun K' hK'=>?_|refine ji fun X Y hX hY=>?_|refine jr ?_|refine jk ?_|refine jx ?_);simp [*])|with_reducible refine rL hE ?_|with_reducible refine And.intro ?_ ?_|omega|(refine imp1 fun h=>?_))
    all_goals simp)
   refine AW_seqt ⟨[(7,iA i),(6,segL base),(2,.ep (encH m)),(3,.ep (encX x)),(4,.loc 4 0),(5,.loc 5 0)],[(5,.box 36 (.st [iA kk,iA b,iA 0,.own 801 1 0 (F (i + 1)).length,.own 802 9 0 0])),(801,.arr 3 1 ((F (i + 1)).map iA)),(802,.arr 70 9 []),(4,zeE)]⟩ ?_ ?_
   ·clear hfs
    repeat' (first
     |(with_reducible first|refine uK ?_|refine uX ?_|refine jq fun K hK=>?_|refine jb ?_)|((with_reducible first|refine rS hE ?_|refine jn ?_|refine js fun K' hK'=>?_|refine ji fun X Y hX hY=>?_|refine jr ?_|refine jk ?_|refine jx ?_);simp [*])|with_reducible refine rL hE ?_|with_reducible refine And.intro ?_ ?_|omega|(refine imp1 fun h=>?_))
    all_goals exact ⟨i + 1,⟨by omega,by omega⟩,by omega,by simp⟩
   intro K3 hK3
   refine AW_block ?_
   refine AW_seqt ⟨[(76,bA (bitB x.rem i)),(7,iA i),(6,segL base),(2,.ep (encH m)),(3,.ep (encX x)),(4,.loc 4 0),(5,.loc 5 0)],[(5,.box 36 (.st [iA kk,iA b,iA 0,.own 801 1 0 (F i).length,.own 802 9 0 0])),(801,.arr 3 1 ((F i).map iA)),(802,.arr 70 9 []),(4,zeE)]⟩ ?_ (by
    intro K4 hK4
    clear hfs
    repeat' (first
     |(with_reducible first|refine uK ?_|refine uX ?_|refine jq fun K hK=>?_|refine jb ?_)|((with_reducible first|refine rS hE ?_|refine jn ?_|refine js fun K' hK'=>?_|refine ji fun X Y hX hY=>?_|refine jr ?_|refine jk ?_|refine jx ?_);simp [*])|with_reducible refine rL hE ?_|with_reducible refine And.intro ?_ ?_|omega|(refine imp1 fun h=>?_))
    all_goals simp [bit_eq x.rem i hlt3])
   generalize F (i + 1) = F1 at *
   rcases hbt : bitB x.rem i with _|_
   ·rw [hbt] at hfs
    simp only [Bool.false_eq_true,if_false] at hfs
    subst hfs
    repeat' (first
     |(with_reducible first|refine uK ?_|refine uX ?_|refine jq fun K hK=>?_|refine jb ?_)|((with_reducible first|refine rS hE ?_|refine jn ?_|refine js fun K' hK'=>?_|refine ji fun X Y hX hY=>?_|refine jr ?_|refine jk ?_|refine jx ?_);simp [*])|with_reducible refine rL hE ?_|with_reducible refine And.intro ?_ ?_|omega|(refine imp1 fun h=>?_))
    all_goals simp
   ·rw [hbt] at hfs
    simp only [if_true] at hfs
    refine AW_if fun X Y hX hY=>?_
    simp
    refine hX.h ?_
    have htk : List.take ((F i).length + 1) (List.map iA (F i) ++ [iA base[i].id]) = List.map iA (F i) ++ [iA base[i].id]:=List.take_of_length_le (by simp)
    refine AW_drawHd ⟨[(6,segL base),(7,iA i)],[]⟩ mixed (by simp) fun E' hE'=>?_
    have hEn:=hE'.trans hE
    repeat' (first
     |(with_reducible first|refine useK (by assumption) ?_|refine useK3 (by assumption) ?_)|((with_reducible show DHd _ _ _ _ _ _ _);first|(refine DHd_done (by decide +kernel) ?_;try simp only [thenK,inBlk])|(refine dt hEn 0 fun K' hK'=>?_;simp [*];fail_if_success (with_reducible show False))|(refine dt hEn 1 fun K' hK'=>?_;simp [*];fail_if_success (with_reducible show False))|(refine dt hEn 2 fun K' hK'=>?_;simp [*];fail_if_success (with_reducible show False))|(refine dt hEn 3 fun K' hK'=>?_;simp [*];fail_if_success (with_reducible show False))|(refine dt hEn 4 fun K' hK'=>?_;simp [*];fail_if_success (with_reducible show False))|(refine dt hEn 5 fun K' hK'=>?_;simp [*];fail_if_success (with_reducible show False))|(refine dt hEn 6 fun K' hK'=>?_;simp [*];fail_if_success (with_reducible show False))|(refine dt hEn 7 fun K' hK'=>?_;simp [*];fail_if_success (with_reducible show False))|(refine dt hEn 8 fun K' hK'=>?_;simp [*];fail_if_success (with_reducible show False))|(refine dt hEn 9 fun K' hK'=>?_;simp [*];fail_if_success (with_reducible show False))|(refine dt hEn 10 fun K' hK'=>?_;simp [*];fail_if_success (with_reducible show False))|(refine dp hEn 0 fun K' hK'=>?_;simp [*];fail_if_success (with_reducible show False))|(refine dp hEn 1 fun K' hK'=>?_;simp [*];fail_if_success (with_reducible show False))|(refine dp hEn 2 fun K' hK'=>?_;simp [*];fail_if_success (with_reducible show False))|(refine dp hEn 3 fun K' hK'=>?_;simp [*];fail_if_success (with_reducible show False))|(refine dp hEn 4 fun K' hK'=>?_;simp [*];fail_if_success (with_reducible show False))|(refine dp hEn 5 fun K' hK'=>?_;simp [*];fail_if_success (with_reducible show False))|(refine dp hEn 6 fun K' hK'=>?_;simp [*];fail_if_success (with_reducible show False))|(refine dp hEn 7 fun K' hK'=>?_;simp [*];fail_if_success (with_reducible show False))|(refine dp hEn 8 fun K' hK'=>?_;simp [*];fail_if_success (with_reducible show False))|(refine dp hEn 9 fun K' hK'=>?_;simp [*];fail_if_success (with_reducible show False))|(refine dp hEn 10 fun K' hK'=>?_;simp [*];fail_if_success (with_reducible show False))|refine DHd_any rfl (by decide +kernel) ?_)|exact DHsome_nil|refine DHsome_no (by decide +kernel) ?_|(refine DHsome_yes (by exact rfl) rfl (by rw [hEn];decide) (fun K' hK'=>?_) ?_;simp [*];fail_if_success (with_reducible show False))|(refine DHsome_yesG (by exact rfl) rfl (by exact rfl) (by rw [hEn];decide) (fun K' hK'=>?_) ?_;simp [*];fail_if_success (with_reducible show False))|with_reducible refine And.intro ?_ ?_|omega|(with_reducible refine imp1 fun h=>?_))
    all_goals simp [hfs]
  ·have hie : i = min base.length 3:=by omega
   rw [← hie] at hK0
   have hgt : ¬ (i < base.length ∧ i < 3):=by omega
   clear hie
   by_cases hlt1 : i < base.length
   ·have : ¬ (i : Int) < 3:=by omega
    repeat' (first
     |(with_reducible first|refine uK ?_|refine uX ?_|refine jq fun K hK=>?_|refine jb ?_)|((with_reducible first|refine rS hE ?_|refine jn ?_|refine js fun K' hK'=>?_|refine ji fun X Y hX hY=>?_|refine jr ?_|refine jk ?_|refine jx ?_);simp [*])|with_reducible refine rL hE ?_|with_reducible refine And.intro ?_ ?_|omega|(refine imp1 fun h=>?_))
    all_goals simp
   ·repeat' (first
     |(with_reducible first|refine uK ?_|refine uX ?_|refine jq fun K hK=>?_|refine jb ?_)|((with_reducible first|refine rS hE ?_|refine jn ?_|refine js fun K' hK'=>?_|refine ji fun X Y hX hY=>?_|refine jr ?_|refine jk ?_|refine jx ?_);simp [*])|with_reducible refine rL hE ?_|with_reducible refine And.intro ?_ ?_|omega|(refine imp1 fun h=>?_))
    all_goals simp
 clear fr0 frs
 have hFl:=frl.out (min base.length 3) (by omega)
 clear frl
 generalize F (min base.length 3) = R at *
 obtain ⟨a4,ha4⟩ : ∃ a4,a4 = x.add % 4:=⟨_,rfl⟩
 rw [← ha4] at hB2
 have ha3 : a4 ≤ 3:=by omega
 have g1 : ((x.add : Int)).tmod 4 = (a4 : Int):=by rw [ha4];exact tmodN x.add 4
 have g3:=wrapN (n:=a4) (by omega)
 have g4:=wrapN (n:=x.add) (by omega)
 have hid3:=Hld.mk (show (1 : Int) + (x.add % 4 : Nat) = 1 + (a4 : Int) by omega)
 clear ha4
 have hbox:=Hld.mk (s_box x.a x.b x.c x.d x.e x.f hxi)
 refine AW_seqt ⟨[(6,segL base),(2,.ep (encH m)),(3,.ep (encX x)),(4,.loc 4 0),(5,.loc 5 0)],[(5,.box 36 (.st [iA kk,iA b,iA 0,.own 801 1 0 R.length,.own 802 9 0 (G a4).length])),(801,.arr 3 1 (R.map iA)),(802,.arr 70 9 ((G a4).map encS)),(4,zeE)]⟩ ?_ ?_
 rotate_left
 ·intro K0 hK0
  clear hB2
  repeat' (first
   |(with_reducible first|refine uK ?_|refine uX ?_|refine jq fun K hK=>?_|refine jb ?_)|((with_reducible first|refine rS hE ?_|refine jn ?_|refine js fun K' hK'=>?_|refine ji fun X Y hX hY=>?_|refine jr ?_|refine jk ?_|refine jx ?_);simp [*])|with_reducible refine rL hE ?_|with_reducible refine And.intro ?_ ?_|omega|(refine imp1 fun h=>?_))
  refine AW_loopk (G:=Nat) (fun i=>⟨[(8,iA i),(6,segL base),(2,.ep (encH m)),(3,.ep (encX x)),(4,.loc 4 0),(5,.loc 5 0)],[(5,.box 36 (.st [iA kk,iA b,iA 0,.own 801 1 0 R.length,.own 802 9 0 (G i).length])),(801,.arr 3 1 (R.map iA)),(802,.arr 70 9 ((G i).map encS)),(4,zeE)]⟩)
   (fun i=>i ≤ a4) (fun i=>a4 - i) 0 (by omega) (by simp [gs0]) ?_
  intro i hi K2 hK2
  clear gs0
  have hgl : (G i).length ≤ 3:=by have:=gsl.out i (by omega);omega
  by_cases hlt : i < a4
  ·have hgs:=gss.out i
   refine AW_seqt ⟨[(8,iA i),(6,segL base),(2,.ep (encH m)),(3,.ep (encX x)),(4,.loc 4 0),(5,.loc 5 0)],[(5,.box 36 (.st [iA kk,iA b,iA 0,.own 801 1 0 R.length,.own 802 9 0 (G i).length])),(801,.arr 3 1 (R.map iA)),(802,.arr 70 9 ((G i).map encS)),(4,zeE)]⟩ ?_ (by
    intro K3 hK3
    clear hgs hgl
    repeat' (first
     |(with_reducible first|refine uK ?_|refine uX ?_|refine jq fun K hK=>?_|refine jb ?_)|((with_reducible first|refine rS hE ?_|refine jn ?_|refine js fun K' hK'=>?_|refine ji fun X Y hX hY=>?_|refine jr ?_|refine jk ?_|refine jx ?_);simp [*])|with_reducible refine rL hE ?_|with_reducible refine And.intro ?_ ?_|omega|(refine imp1 fun h=>?_))
    all_goals simp)
   refine AW_seqt ⟨[(8,iA i),(6,segL base),(2,.ep (encH m)),(3,.ep (encX x)),(4,.loc 4 0),(5,.loc 5 0)],[(5,.box 36 (.st [iA kk,iA b,iA 0,.own 801 1 0 R.length,.own 802 9 0 (G (i + 1)).length])),(801,.arr 3 1 (R.map iA)),(802,.arr 70 9 ((G (i + 1)).map encS)),(4,zeE)]⟩ ?_ ?_
   ·clear hgs hgl
    repeat' (first
     |(with_reducible first|refine uK ?_|refine uX ?_|refine jq fun K hK=>?_|refine jb ?_)|((with_reducible first|refine rS hE ?_|refine jn ?_|refine js fun K' hK'=>?_|refine ji fun X Y hX hY=>?_|refine jr ?_|refine jk ?_|refine jx ?_);simp [*])|with_reducible refine rL hE ?_|with_reducible refine And.intro ?_ ?_|omega|(refine imp1 fun h=>?_))
    all_goals exact ⟨i + 1,by omega,by omega,by simp⟩
   intro K3 hK3
   refine AW_block ?_
   generalize G (i + 1) = G1 at *
   generalize G i = G0 at *
   have hsx : encS (segW m x i) = .st [iA (m.used + 1 + 2 * i),iA (min x.a x.b),iA (max x.a x.b),iA (min x.c x.d),iA (max x.c x.d),iA (min x.e x.f),iA (max x.e x.f),iA (3 + i),iA x.add]:=rfl
   have htk : List.take (G0.length + 1) (List.map encS G0 ++ [encS (segW m x i)]) = List.map encS G0 ++ [encS (segW m x i)]:=List.take_of_length_le (by simp)
   subst hgs
   rw [hsx] at htk
   refine AW_drawHd ⟨[(2,.ep (encH m)),(3,.ep (encX x)),(8,iA i)],[]⟩ mixed (by simp) fun E' hE'=>?_
   have hEn:=hE'.trans hE
   repeat' (first
    |(with_reducible first|refine useK (by assumption) ?_|refine useK3 (by assumption) ?_)|((with_reducible show DHd _ _ _ _ _ _ _);first|(refine DHd_done (by decide +kernel) ?_;try simp only [thenK,inBlk])|(refine dt hEn 0 fun K' hK'=>?_;simp [*];fail_if_success (with_reducible show False))|(refine dt hEn 1 fun K' hK'=>?_;simp [*];fail_if_success (with_reducible show False))|(refine dt hEn 2 fun K' hK'=>?_;simp [*];fail_if_success (with_reducible show False))|(refine dt hEn 3 fun K' hK'=>?_;simp [*];fail_if_success (with_reducible show False))|(refine dt hEn 4 fun K' hK'=>?_;simp [*];fail_if_success (with_reducible show False))|(refine dt hEn 5 fun K' hK'=>?_;simp [*];fail_if_success (with_reducible show False))|(refine dt hEn 6 fun K' hK'=>?_;simp [*];fail_if_success (with_reducible show False))|(refine dt hEn 7 fun K' hK'=>?_;simp [*];fail_if_success (with_reducible show False))|(refine dt hEn 8 fun K' hK'=>?_;simp [*];fail_if_success (with_reducible show False))|(refine dt hEn 9 fun K' hK'=>?_;simp [*];fail_if_success (with_reducible show False))|(refine dt hEn 10 fun K' hK'=>?_;simp [*];fail_if_success (with_reducible show False))|(refine dt hEn 11 fun K' hK'=>?_;simp [*];fail_if_success (with_reducible show False))|(refine dt hEn 12 fun K' hK'=>?_;simp [*];fail_if_success (with_reducible show False))|(refine dt hEn 13 fun K' hK'=>?_;simp [*];fail_if_success (with_reducible show False))|(refine dt hEn 14 fun K' hK'=>?_;simp [*];fail_if_success (with_reducible show False))|(refine dt hEn 15 fun K' hK'=>?_;simp [*];fail_if_success (with_reducible show False))|(refine dt hEn 16 fun K' hK'=>?_;simp [*];fail_if_success (with_reducible show False))|(refine dt hEn 17 fun K' hK'=>?_;simp [*];fail_if_success (with_reducible show False))|(refine dt hEn 18 fun K' hK'=>?_;simp [*];fail_if_success (with_reducible show False))|(refine dt hEn 19 fun K' hK'=>?_;simp [*];fail_if_success (with_reducible show False))|(refine dt hEn 20 fun K' hK'=>?_;simp [*];fail_if_success (with_reducible show False))|(refine dp hEn 0 fun K' hK'=>?_;simp [*];fail_if_success (with_reducible show False))|(refine dp hEn 1 fun K' hK'=>?_;simp [*];fail_if_success (with_reducible show False))|(refine dp hEn 2 fun K' hK'=>?_;simp [*];fail_if_success (with_reducible show False))|(refine dp hEn 3 fun K' hK'=>?_;simp [*];fail_if_success (with_reducible show False))|(refine dp hEn 4 fun K' hK'=>?_;simp [*];fail_if_success (with_reducible show False))|(refine dp hEn 5 fun K' hK'=>?_;simp [*];fail_if_success (with_reducible show False))|(refine dp hEn 6 fun K' hK'=>?_;simp [*];fail_if_success (with_reducible show False))|(refine dp hEn 7 fun K' hK'=>?_;simp [*];fail_if_success (with_reducible show False))|(refine dp hEn 8 fun K' hK'=>?_;simp [*];fail_if_success (with_reducible show False))|(refine dp hEn 9 fun K' hK'=>?_;simp [*];fail_if_success (with_reducible show False))|(refine dp hEn 10 fun K' hK'=>?_;simp [*];fail_if_success (with_reducible show False))|(refine dp hEn 11 fun K' hK'=>?_;simp [*];fail_if_success (with_reducible show False))|(refine dp hEn 12 fun K' hK'=>?_;simp [*];fail_if_success (with_reducible show False))|(refine dp hEn 13 fun K' hK'=>?_;simp [*];fail_if_success (with_reducible show False))|(refine dp hEn 14 fun K' hK'=>?_;simp [*];fail_if_success (with_reducible show False))|(refine dp hEn 15 fun K' hK'=>?_;simp [*];fail_if_success (with_reducible show False))|(refine dp hEn 16 fun K' hK'=>?_;simp [*];fail_if_success (with_reducible show False))|(refine dp hEn 17 fun K' hK'=>?_;simp [*];fail_if_success (with_reducible show False))|(refine dp hEn 18 fun K' hK'=>?_;simp [*];fail_if_success (with_reducible show False))|(refine dp hEn 19 fun K' hK'=>?_;simp [*];fail_if_success (with_reducible show False))|(refine dp hEn 20 fun K' hK'=>?_;simp [*];fail_if_success (with_reducible show False))|refine DHd_any rfl (by decide +kernel) ?_)|exact DHsome_nil|refine DHsome_no (by decide +kernel) ?_|(refine DHsome_yes (by exact rfl) rfl (by rw [hEn];decide) (fun K' hK'=>?_) ?_;simp [*];fail_if_success (with_reducible show False))|(refine DHsome_yesG (by exact rfl) rfl (by exact rfl) (by rw [hEn];decide) (fun K' hK'=>?_) ?_;simp [*];fail_if_success (with_reducible show False))|(refine acall_same (hbox.out) ?_ ?_ ?_;(focus (simp [*] <;> fail));(focus (simp [*] <;> fail));simp [*])|(refine acall_view (hbox.out) ?_ ?_ ?_;(focus (simp [*] <;> fail));(focus (simp [*] <;> fail));simp [*])|with_reducible refine And.intro ?_ ?_|omega|(with_reducible refine imp1 fun h=>?_))
   all_goals simp [hsx]
  ·have hie : i = a4:=by omega
   subst hie
   clear hgl
   repeat' (first
    |(with_reducible first|refine uK ?_|refine uX ?_|refine jq fun K hK=>?_|refine jb ?_)|((with_reducible first|refine rS hE ?_|refine jn ?_|refine js fun K' hK'=>?_|refine ji fun X Y hX hY=>?_|refine jr ?_|refine jk ?_|refine jx ?_);simp [*])|with_reducible refine rL hE ?_|with_reducible refine And.intro ?_ ?_|omega|(refine imp1 fun h=>?_))
   all_goals simp
 have hGl:=gsl.out a4 ha3
 have hAx:=gx.out a4
 clear gs0 gss gsl gx hbox g3
 generalize G a4 = A at *
 have hAl : A.length ≤ 3:=by omega
 clear hGl
 refine AW_seqt ⟨[(2,.ep (encH m)),(3,.ep (encX x)),(4,.loc 4 0),(5,.loc 5 0)],[(5,.box 36 (.st [iA B.kind,iA B.belief,iA B.used,.own 801 1 0 B.rem.length,.own 802 9 0 B.add.length])),(801,.arr 3 1 (B.rem.map iA)),(802,.arr 70 9 (B.add.map encS)),(4,zeE)]⟩ ?_ ?_
 ·clear hB2
  obtain ⟨q1,q2,q3,q4,q5⟩:=B
  repeat' (first
   |(with_reducible first|refine uK ?_|refine uX ?_|refine jq fun K hK=>?_|refine jb ?_)|((with_reducible first|refine rS hE ?_|refine jn ?_|refine js fun K' hK'=>?_|refine ji fun X Y hX hY=>?_|refine jr ?_|refine jk ?_|refine jx ?_);simp [*])|with_reducible refine rL hE ?_|with_reducible refine And.intro ?_ ?_|omega|(refine imp1 fun h=>?_))
  all_goals exact DView.stL (by simp) ⟨.base (by simp),.base (by simp),.base (by simp),.base (by simp),.base (by simp),trivial⟩
 intro K0 hK0
 replace hAx:=Hld.mk hAx
 unfold wrW at hB2
 simp only at hB2
 have i1 : (x.wrong : Int) = 1 ↔ x.wrong = 1:=by omega
 have i2 : (x.wrong : Int) = 2 ↔ x.wrong = 2:=by omega
 have i3 : (x.wrong : Int) = 3 ↔ x.wrong = 3:=by omega
 have i4 : (x.wrong : Int) = 4 ↔ x.wrong = 4:=by omega
 have i5 : (x.wrong : Int) = 5 ↔ x.wrong = 5:=by omega
 have i6 : (x.wrong : Int) = 6 ↔ x.wrong = 6:=by omega
 have wv : ∀ n : Nat,x.wrong = n → (x.wrong : Int) = (n : Int):=fun n h=>by rw [h]
 by_cases w1 : x.wrong = 1
 ·rw [if_pos w1] at hB2
  have w1 : (x.wrong : Int) = 1:=i1.2 w1
  clear i1 i2 i3 i4 i5 i6 wv
  subst hB2
  repeat' (first
   |(with_reducible first|refine uK ?_|refine uX ?_|refine jq fun K hK=>?_|refine jb ?_)|((with_reducible first|refine rS hE ?_|refine jn ?_|refine js fun K' hK'=>?_|refine ji fun X Y hX hY=>?_|refine jr ?_|refine jk ?_|refine jx ?_);simp [*])|with_reducible refine rL hE ?_|with_reducible refine And.intro ?_ ?_|omega|(refine imp1 fun h=>?_))
  all_goals simp
 rw [if_neg w1] at hB2
 have n1 : ¬ (x.wrong : Int) = 1:=fun g=>w1 (i1.1 g)
 by_cases w2 : x.wrong = 2
 ·rw [if_pos w2] at hB2
  have w2 : (x.wrong : Int) = 2:=i2.2 w2
  clear i1 i2 i3 i4 i5 i6 wv w1
  subst hB2
  have htk : List.take (R.length + 1) (List.map iA R ++ [iA 1]) = List.map iA R ++ [iA 1]:=List.take_of_length_le (by simp)
  repeat' (first
   |(with_reducible first|refine uK ?_|refine uX ?_|refine jq fun K hK=>?_|refine jb ?_)|((with_reducible first|refine rS hE ?_|refine jn ?_|refine js fun K' hK'=>?_|refine ji fun X Y hX hY=>?_|refine jr ?_|refine jk ?_|refine jx ?_);simp [*])|with_reducible refine rL hE ?_|with_reducible refine And.intro ?_ ?_|omega|(refine imp1 fun h=>?_))
  all_goals simp
 rw [if_neg w2] at hB2
 have n2 : ¬ (x.wrong : Int) = 2:=fun g=>w2 (i2.1 g)
 by_cases w3 : x.wrong = 3
 ·rw [if_pos w3] at hB2
  have w3 : (x.wrong : Int) = 3:=i3.2 w3
  clear i1 i2 i3 i4 i5 i6 wv w1 w2
  rcases A with _|⟨a,t⟩
  ·simp only [hdMap] at hB2
   subst hB2
   repeat' (first
    |(with_reducible first|refine uK ?_|refine uX ?_|refine jq fun K hK=>?_|refine jb ?_)|((with_reducible first|refine rS hE ?_|refine jn ?_|refine js fun K' hK'=>?_|refine ji fun X Y hX hY=>?_|refine jr ?_|refine jk ?_|refine jx ?_);simp [*])|with_reducible refine rL hE ?_|with_reducible refine And.intro ?_ ?_|omega|(refine imp1 fun h=>?_))
   all_goals simp
  ·simp only [hdMap] at hB2
   rw [hid3.out] at hB2
   subst hB2
   repeat' (first
    |(with_reducible first|refine uK ?_|refine uX ?_|refine jq fun K hK=>?_|refine jb ?_)|((with_reducible first|refine rS hE ?_|refine jn ?_|refine js fun K' hK'=>?_|refine ji fun X Y hX hY=>?_|refine jr ?_|refine jk ?_|refine jx ?_);simp [*])|with_reducible refine rL hE ?_|with_reducible refine And.intro ?_ ?_|omega|(refine imp1 fun h=>?_))
   all_goals simp
   all_goals rfl
 rw [if_neg w3] at hB2
 have n3 : ¬ (x.wrong : Int) = 3:=fun g=>w3 (i3.1 g)
 by_cases w4 : x.wrong = 4
 ·rw [if_pos w4] at hB2
  have w4 : (x.wrong : Int) = 4:=i4.2 w4
  clear i1 i2 i3 i4 i5 i6 wv w1 w2 w3
  subst hB2
  repeat' (first
   |(with_reducible first|refine uK ?_|refine uX ?_|refine jq fun K hK=>?_|refine jb ?_)|((with_reducible first|refine rS hE ?_|refine jn ?_|refine js fun K' hK'=>?_|refine ji fun X Y hX hY=>?_|refine jr ?_|refine jk ?_|refine jx ?_);simp [*])|with_reducible refine rL hE ?_|with_reducible refine And.intro ?_ ?_|omega|(refine imp1 fun h=>?_))
  all_goals simp
 rw [if_neg w4] at hB2
 have n4 : ¬ (x.wrong : Int) = 4:=fun g=>w4 (i4.1 g)
 by_cases w5 : x.wrong = 5
 ·rw [if_pos w5] at hB2
  have w5 : (x.wrong : Int) = 5:=i5.2 w5
  clear i1 i2 i3 i4 i5 i6 wv w1 w2 w3 w4
  rcases A with _|⟨a,t⟩
  ·simp only [hdMap] at hB2
   subst hB2
   repeat' (first
    |(with_reducible first|refine uK ?_|refine uX ?_|refine jq fun K hK=>?_|refine jb ?_)|((with_reducible first|refine rS hE ?_|refine jn ?_|refine js fun K' hK'=>?_|refine ji fun X Y hX hY=>?_|refine jr ?_|refine jk ?_|refine jx ?_);simp [*])|with_reducible refine rL hE ?_|with_reducible refine And.intro ?_ ?_|omega|(refine imp1 fun h=>?_))
   all_goals simp
  ·simp only [hdMap] at hB2
   subst hB2
   have hx1:=hAx.out a List.mem_cons_self
   clear hAx
   repeat' (first
    |(with_reducible first|refine useK (by assumption) ?_|refine useK2 (by assumption) ?_|refine useX (by assumption) ?_|refine AW_seqk fun K hK=>?_|refine AW_block ?_)|(with_reducible refine AW_regionS rfl (by rw [hE];decide) ?_;simp [*])|with_reducible refine AW_region (by rw [hE];decide) ?_|((with_reducible show RK _ _ _ _ _ _);first|(refine RK_nilk ?_;simp [*])|(refine RK_stepk fun K' hK'=>?_;simp [*]))|with_reducible refine AW_drawq3 (by decide) mixed (by rw [hE];decide) (by simp [newOK]) ?_|((with_reducible show RKQ _ _ _ _ _ _);first|refine RKQ_nilk ⟨by decide,?_⟩|(refine RKQ_stepk fun K' hK'=>?_;simp [*]))|((with_reducible first|refine AW_if fun X Y hX hY=>?_|refine AW_ret ?_|refine AW_skip ?_|refine AW_exit ?_);simp [*])|with_reducible refine And.intro ?_ ?_|omega|(refine imp1 fun h=>?_))
   all_goals simp
   all_goals rfl
 rw [if_neg w5] at hB2
 have n5 : ¬ (x.wrong : Int) = 5:=fun g=>w5 (i5.1 g)
 by_cases w6 : x.wrong = 6
 ·rw [if_pos w6] at hB2
  have w6 : (x.wrong : Int) = 6:=i6.2 w6
  clear i1 i2 i3 i4 i5 i6 wv w1 w2 w3 w4 w5
  have hlv:=Hld.mk (s_live m hl he.out)
  generalize liveM m = LM at *
  rcases LM with _|⟨n,ns⟩
  ·simp only at hB2
   subst hB2
   repeat' (first
    |(with_reducible first|refine uK ?_|refine uX ?_|refine jq fun K hK=>?_|refine jb ?_)|((with_reducible first|refine rS hE ?_|refine jn ?_|refine js fun K' hK'=>?_|refine ji fun X Y hX hY=>?_|refine jr ?_|refine jk ?_|refine jx ?_);simp [*])|with_reducible refine rL hE ?_|(refine jC (hlv.out) ?_ ?_ ?_;(iterate 2 focus (simp [*] <;> fail));simp [*])|with_reducible refine And.intro ?_ ?_|omega|(refine imp1 fun h=>?_))
   all_goals simp
  ·simp only at hB2
   obtain ⟨Z,hZ⟩ : ∃ Z : Nat → List Seg,∀ i,Z i = (m.lists.take i).foldl (fun acc l=>if hasB l n then [(findS l n).getD default] else acc) A:=⟨_,fun _=>rfl⟩
   have z0 : Z 0 = A:=by simp [hZ]
   have zs : ∀ i (hi : i < m.lists.length),Z (i + 1) = if hasB m.lists[i] n then [(findS m.lists[i] n).getD default] else Z i:=by
    intro i hi
    rw [hZ,hZ,List.take_succ_eq_append_getElem hi,List.foldl_append]
    rfl
   have ze : Z m.lists.length = m.lists.foldl (fun acc l=>if hasB l n then [(findS l n).getD default] else acc) A:=by rw [hZ,List.take_length]
   rw [← ze] at hB2
   clear hZ ze
   subst hB2
   simp only [List.map_cons] at hlv
   have hff:=fun l (hl : l ∈ m.lists)=>s_find l n (by have:=he.out l hl;omega)
   replace hff:=Hld.mk hff
   replace zs:=Hld.mk zs
   repeat' (first
    |(with_reducible first|refine uK ?_|refine uX ?_|refine jq fun K hK=>?_|refine jb ?_)|((with_reducible first|refine rS hE ?_|refine jn ?_|refine js fun K' hK'=>?_|refine ji fun X Y hX hY=>?_|refine jr ?_|refine jk ?_|refine jx ?_);simp [*])|with_reducible refine rL hE ?_|(refine jC (hlv.out) ?_ ?_ ?_;(iterate 2 focus (simp [*] <;> fail));simp [*])|with_reducible refine And.intro ?_ ?_|omega|(refine imp1 fun h=>?_))
   refine AW_loopk (G:=Nat) (fun i=>⟨[(10,iA i),(9,.sl 1 (iA n :: ns.map iA)),(2,.ep (encH m)),(3,.ep (encX x)),(4,.loc 4 0),(5,.loc 5 0)],[(5,.box 36 (.st [iA kk,iA b,iA 0,.own 801 1 0 R.length,.own 802 9 0 (Z i).length])),(801,.arr 3 1 (R.map iA)),(802,.arr 70 9 ((Z i).map encS)),(4,zeE)]⟩)
    (fun i=>i ≤ m.lists.length) (fun i=>m.lists.length - i) 0 (by omega) (by simp [z0]) ?_
   intro i hi K2 hK2
   clear z0
   by_cases hlt : i < m.lists.length
   ·have hzs:=zs.out i hlt
    have hfi:=Hld.mk (hff.out m.lists[i] (List.getElem_mem hlt))
    refine AW_seqt ⟨[(10,iA i),(9,.sl 1 (iA n :: ns.map iA)),(2,.ep (encH m)),(3,.ep (encX x)),(4,.loc 4 0),(5,.loc 5 0)],[(5,.box 36 (.st [iA kk,iA b,iA 0,.own 801 1 0 R.length,.own 802 9 0 (Z i).length])),(801,.arr 3 1 (R.map iA)),(802,.arr 70 9 ((Z i).map encS)),(4,zeE)]⟩ ?_ (by
     intro K3 hK3
     clear hzs
     repeat' (first
      |(with_reducible first|refine uK ?_|refine uX ?_|refine jq fun K hK=>?_|refine jb ?_)|((with_reducible first|refine rS hE ?_|refine jn ?_|refine js fun K' hK'=>?_|refine ji fun X Y hX hY=>?_|refine jr ?_|refine jk ?_|refine jx ?_);simp [*])|with_reducible refine rL hE ?_|with_reducible refine And.intro ?_ ?_|omega|(refine imp1 fun h=>?_))
     all_goals simp)
    generalize hZ1 : Z (i + 1) = Z1 at *
    refine AW_seqx (fun t=>t = ⟨[(10,iA i),(9,.sl 1 (iA n :: ns.map iA)),(2,.ep (encH m)),(3,.ep (encX x)),(4,.loc 4 0),(5,.loc 5 0)],[(5,.box 36 (.st [iA kk,iA b,iA 0,.own 801 1 0 R.length,.own 802 9 0 Z1.length])),(801,.arr 3 1 (R.map iA)),(802,.arr 70 9 (Z1.map encS)),(4,zeE)]⟩ ∨ t = ⟨[(10,iA i),(9,.sl 1 (iA n :: ns.map iA)),(2,.ep (encH m)),(3,.ep (encX x)),(4,.loc 4 0),(5,.loc 5 0)],[(5,.box 36 (.st [iA kk,iA b,iA 0,.own 801 1 0 R.length,.own 194 9 0 Z1.length])),(801,.arr 3 1 (R.map iA)),(194,.arr 70 9 (Z1.map encS)),(4,zeE)]⟩) ?_ ?_
    ·clear hzs
     rintro t (rfl|rfl)
     ·repeat' (first
       |(with_reducible first|refine uK ?_|refine uX ?_|refine jq fun K hK=>?_|refine jb ?_)|((with_reducible first|refine rS hE ?_|refine jn ?_|refine js fun K' hK'=>?_|refine ji fun X Y hX hY=>?_|refine jr ?_|refine jk ?_|refine jx ?_);simp [*])|with_reducible refine rL hE ?_|with_reducible refine And.intro ?_ ?_|omega|(refine imp1 fun h=>?_))
      all_goals exact ⟨i + 1,by omega,by omega,by simp [hZ1]⟩
     ·refine AW_ren 194 802 (cb:=.arr 70 9 (Z1.map encS)) (t:=⟨[(10,iA i),(9,.sl 1 (iA n :: ns.map iA)),(2,.ep (encH m)),(3,.ep (encX x)),(4,.loc 4 0),(5,.loc 5 0)],[(5,.box 36 (.st [iA kk,iA b,iA 0,.own 801 1 0 R.length,.own 802 9 0 Z1.length])),(801,.arr 3 1 (R.map iA)),(802,.arr 70 9 (Z1.map encS)),(4,zeE)]⟩) (by simp) (by simp) (by simp) (by simp [sw]) (by simp [sw]) ?_
      repeat' (first
       |(with_reducible first|refine uK ?_|refine uX ?_|refine jq fun K hK=>?_|refine jb ?_)|((with_reducible first|refine rS hE ?_|refine jn ?_|refine js fun K' hK'=>?_|refine ji fun X Y hX hY=>?_|refine jr ?_|refine jk ?_|refine jx ?_);simp [*])|with_reducible refine rL hE ?_|with_reducible refine And.intro ?_ ?_|omega|(refine imp1 fun h=>?_))
      all_goals exact ⟨i + 1,by omega,by omega,by simp [hZ1]⟩
    ·intro K3 hK3
     clear hZ1
     refine AW_block ?_
     generalize (findS m.lists[i] n).getD default = o at *
     rcases hhb : hasB m.lists[i] n with _|_
     ·rw [hhb] at hfi hzs
      simp only [Bool.false_eq_true,if_false] at hzs
      subst hzs
      repeat' (first
       |(with_reducible first|refine uK ?_|refine uQ ?_|refine uX ?_|refine jq fun K hK=>?_|refine jb ?_)|(with_reducible refine rS hE ?_;simp [*])|with_reducible refine rL hE ?_|(((with_reducible show RK _ _ _ _ _ _);first|refine jn ?_|refine js fun K' hK'=>?_);simp [*])|with_reducible refine rD mixed hE ?_|((with_reducible show RKQ _ _ _ _ _ _);first|refine RKQ_nilk ⟨by decide,?_⟩|(refine jv fun K' hK'=>?_;simp [*]))|((with_reducible first|refine ji fun X Y hX hY=>?_|refine jr ?_|refine jk ?_|refine jx ?_);simp [*])|((first|refine jC (hfi.out) ?_ ?_ ?_|refine jQ (hfi.out) ?_ ?_ ?_);(iterate 2 focus (simp [*] <;> fail));simp [*])|with_reducible refine And.intro ?_ ?_|omega|(refine imp1 fun h=>?_))
      all_goals exact ⟨_,.inl rfl,by simp⟩
     ·rw [hhb] at hfi hzs
      simp only [if_true] at hzs
      subst hzs
      repeat' (first
       |(with_reducible first|refine uK ?_|refine uQ ?_|refine uX ?_|refine jq fun K hK=>?_|refine jb ?_)|(with_reducible refine rS hE ?_;simp [*])|with_reducible refine rL hE ?_|(((with_reducible show RK _ _ _ _ _ _);first|refine jn ?_|refine js fun K' hK'=>?_);simp [*])|with_reducible refine rD mixed hE ?_|((with_reducible show RKQ _ _ _ _ _ _);first|refine RKQ_nilk ⟨by decide,?_⟩|(refine jv fun K' hK'=>?_;simp [*]))|((with_reducible first|refine ji fun X Y hX hY=>?_|refine jr ?_|refine jk ?_|refine jx ?_);simp [*])|((first|refine jC (hfi.out) ?_ ?_ ?_|refine jQ (hfi.out) ?_ ?_ ?_);(iterate 2 focus (simp [*] <;> fail));simp [*])|with_reducible refine And.intro ?_ ?_|omega|(refine imp1 fun h=>?_))
      all_goals exact ⟨_,.inr rfl,by simp⟩
   ·have hil : i = m.lists.length:=by omega
    subst hil
    repeat' (first
     |(with_reducible first|refine uK ?_|refine uX ?_|refine jq fun K hK=>?_|refine jb ?_)|((with_reducible first|refine rS hE ?_|refine jn ?_|refine js fun K' hK'=>?_|refine ji fun X Y hX hY=>?_|refine jr ?_|refine jk ?_|refine jx ?_);simp [*])|with_reducible refine rL hE ?_|with_reducible refine And.intro ?_ ?_|omega|(refine imp1 fun h=>?_))
    all_goals simp
 rw [if_neg w6] at hB2
 have n6 : ¬ (x.wrong : Int) = 6:=fun g=>w6 (i6.1 g)
 clear i1 i2 i3 i4 i5 i6 wv w1 w2 w3 w4 w5 w6
 subst hB2
 repeat' (first
  |(with_reducible first|refine uK ?_|refine uX ?_|refine jq fun K hK=>?_|refine jb ?_)|((with_reducible first|refine rS hE ?_|refine jn ?_|refine js fun K' hK'=>?_|refine ji fun X Y hX hY=>?_|refine jr ?_|refine jk ?_|refine jx ?_);simp [*])|with_reducible refine rL hE ?_|with_reducible refine And.intro ?_ ?_|omega|(refine imp1 fun h=>?_))
 all_goals simp
end Go.Proofs.YtbibemijcdkjhaaGreatDoor
end
section
namespace Go.Proofs.YtbibemijcdkjhaaGreatDoor
open Go.Am Kn
theorem inv0 : Inv M0 0:=⟨w0,by decide,by simp [M0],by decide,by decide⟩
theorem Inv.more {m : Sh} {n k : Nat} (h : Inv m n) (hk : n ≤ k) : Inv m k:=⟨h.wf,h.len,h.each,by have:=h.last;omega,h.used⟩
theorem remU_len (base : List Seg) (r : Nat) : ∀ i,(remU base r i).length ≤ i
 |0=>by simp [remU]
 |i + 1=>by
  have:=remU_len base r i
  unfold remU
  split
  ·simp;omega
  ·omega
theorem addU_len (m : Sh) (x : Stp) : ∀ i,(addU m x i).length = i
 |0=>rfl
 |i + 1=>by unfold addU;simp [addU_len m x i]
theorem hdMap_len (g : Seg → Seg) : ∀ l,(hdMap g l).length = l.length
 |[]=>rfl
 |_ :: _=>rfl
theorem wrW_ok (m : Sh) (x : Stp) (e : Ed) (h1 : e.rem.length ≤ 3) (h2 : e.add.length ≤ 3) : EdOK (wrW m x e):=by
 unfold wrW
 split
 ·exact ⟨by simp;omega,by simp;omega⟩
 ·split
  ·exact ⟨by simp;omega,by simp;omega⟩
  ·split
   ·exact ⟨by simp;omega,by simp [hdMap_len];omega⟩
   ·split
    ·exact ⟨by simp;omega,by simp;omega⟩
    ·split
     ·exact ⟨by simp;omega,by simp [hdMap_len];omega⟩
     ·split
      ·refine ⟨by simp;omega,?_⟩
       simp only
       split
       ·omega
       ·rename_i n _ _
        have : ∀ (ls : List (List Seg)) (acc : List Seg),acc.length ≤ 100 → (ls.foldl (fun acc l=>if hasB l n then [(findS l n).getD default] else acc) acc).length ≤ 100:=by
         intro ls
         induction ls with
         |nil=>intro acc h;exact h
         |cons l ls ih =>
          intro acc h
          rw [List.foldl_cons]
          refine ih _ ?_
          split
          ·simp
          ·exact h
        exact this _ _ (by omega)
      ·exact ⟨by omega,by omega⟩
theorem edW_ok (m : Sh) (x : Stp) : EdOK (edW m x):=by
 have hr : ∀ k b base,EdOK (wrW m x (rawW m x k b base)):=by
  intro k b base
  refine wrW_ok m x _ ?_ ?_
  ·have:=remU_len base x.rem (min base.length 3)
   unfold rawW
   simp only
   omega
  ·have:=addU_len m x (x.add % 4)
   unfold rawW
   simp only
   omega
 unfold edW
 split
 ·exact ⟨by simp,by simp⟩
 ·split
  ·exact hr _ _ _
  ·exact hr _ _ _
def runS (l : List Stp) : Nat → Sh × List Ed
 |0=>(M0,[])
 |i + 1=>(stepE (runS l i).1 (edW (runS l i).1 (l.getD i default)),if chkE (runS l i).1 (edW (runS l i).1 (l.getD i default)) = 0 then (runS l i).2 ++ [edW (runS l i).1 (l.getD i default)] else (runS l i).2)
theorem run_inv (l : List Stp) : ∀ i,i ≤ 24 → Inv (runS l i).1 i
 |0,_=>inv0
 |i + 1,h=>step_inv (run_inv l i (by omega)) (by omega)
theorem run_len (l : List Stp) : ∀ i,(runS l i).2.length ≤ i
 |0=>by simp [runS]
 |i + 1=>by
  have:=run_len l i
  unfold runS
  simp only
  split
  ·simp;omega
  ·omega
theorem step_ap {m : Sh} {e : Ed} {n : Nat} (hi : Inv m n) (he : EdOK e) (hc : chkE m e = 0) : PSpec Tryz.prog 25 [encH m,encE e] (encH (stepE m e)):=by
 have hk:=chk_zero hc
 have h:=s_apply m e hi.wf he hk.kind (fun h3=>(belief_zero hk.belief).2.2.1 h3)
 rw [appS_eq hi.wf hk] at h
 unfold stepE
 rw [if_pos hc]
 exact h
abbrev rnM (m : Sh) (j : Nat) : Ct:=mboxC m.first m.used m.lists.length j
abbrev rnE (d : List Ed) : Ct:=.arr 36 5 (d.map encE)
@[simp] theorem idf_X (l : List Stp) : idfL (l.map encX) = true:=by induction l with|nil=>rfl|cons a l ih=>simp [ih]
@[simp] theorem ment_X (d : Nat) (l : List Stp) : mentL d (l.map encX) = false:=by induction l with|nil=>rfl|cons a l ih=>simp [ih]
@[simp] theorem ids_X (l : List Stp) : idsA (l.map encX) = []:=by induction l with|nil=>rfl|cons a l ih=>simp [ih]
@[simp] theorem ren_X (σ : Nat → Nat) (l : List Stp) : renL σ (l.map encX) = l.map encX:=by induction l with|nil=>rfl|cons a l ih=>simp [ih]
set_option maxHeartbeats 4000000 in
theorem m_run (l : List Stp) (hl : ∀ x ∈ l,StpOK x) (hll : l.length ≤ 9223372036854775807) : MSpec Tryz.prog 8 [.sl 10 (l.map encX)] []
 (fun res bf=>res = .tup [.loc 901 0,encH (runS l (min l.length 24)).1,.own 905 5 0 (runS l (min l.length 24)).2.length,bA true] ∧ bf 901 = some (rnM (runS l (min l.length 24)).1 902) ∧ bf 902 = some (mrowC (runS l (min l.length 24)).1.lists) ∧
   bf 905 = some (rnE (runS l (min l.length 24)).2)):=by
 obtain ⟨M,hM⟩ : ∃ M : Nat → Sh,∀ i,M i = (runS l i).1:=⟨_,fun _=>rfl⟩
 obtain ⟨D,hD⟩ : ∃ D : Nat → List Ed,∀ i,D i = (runS l i).2:=⟨_,fun _=>rfl⟩
 have mz : M 0 = M0:=by rw [hM];rfl
 have dz : D 0 = []:=by rw [hD];rfl
 have ms : ∀ i (hi : i < l.length),M (i + 1) = stepE (M i) (edW (M i) l[i]) ∧ D (i + 1) = if chkE (M i) (edW (M i) l[i]) = 0 then D i ++ [edW (M i) l[i]] else D i:=by
  intro i hi
  rw [hM,hM,hD,hD]
  have : l.getD i default = l[i]:=by simp [List.getD_eq_getElem?_getD,hi]
  rw [← this]
  exact ⟨rfl,rfl⟩
 have minv : ∀ i,i ≤ 24 → Inv (M i) i:=fun i hi=>by rw [hM];exact run_inv l i hi
 have dl : ∀ i,(D i).length ≤ i:=fun i=>by rw [hD];exact run_len l i
 rw [← hM,← hD]
 clear hM hD
 replace ms:=Hld.mk ms
 replace minv:=Hld.mk minv
 replace dl:=Hld.mk dl
 replace hl:=Hld.mk hl
 have hem:=s_empty
 rw [show (⟨0,0,[[]]⟩ : Sh) = M0 from rfl] at hem
 replace hem:=Hld.mk hem
 have hl1 : M0.lists.length = 1:=rfl
 have hM1 : M0.first = 0:=rfl
 have hM2 : M0.used = 0:=rfl
 refine MSpec_of Tryz.func8 rfl rfl (Nat.le_of_ble_eq_true rfl) (Nat.le_of_ble_eq_true rfl) ?_
 intro E hE
 refine AW_seqt ⟨[(0,.sl 10 (l.map encX)),(3,.loc 3 0),(4,.v (.slice none 0 0)),(5,bA false)],[(3,.box 26 (.st [iA 0,iA 0,.v (.slice none 0 0)]))]⟩ ?_ (by
  intro K hK
  repeat' (first
   |(with_reducible first|refine uK ?_|refine uX ?_|refine jq fun K hK=>?_|refine jb ?_)|((with_reducible first|refine rS hE ?_|refine jn ?_|refine js fun K' hK'=>?_|refine ji fun X Y hX hY=>?_|refine jr ?_|refine jk ?_|refine jx ?_);simp [*])|with_reducible refine rL hE ?_|with_reducible refine And.intro ?_ ?_|omega|(refine imp1 fun h=>?_))
  all_goals simp)
 refine AW_mkrow 4 905 36 5 rfl rfl rfl (by omega) ?_
 refine AW_seqt ⟨[(0,.sl 10 (l.map encX)),(2,.loc 901 0),(3,.loc 3 0),(4,.own 905 5 0 0),(5,bA false)],[(3,.box 26 (encH M0)),(901,rnM M0 902),(902,mrowC M0.lists),(905,rnE [])]⟩ ?_ (by
  intro K hK
  repeat' (first
   |(with_reducible first|refine uK ?_|refine uX ?_|refine jq fun K hK=>?_|refine jb ?_)|((with_reducible first|refine rS hE ?_|refine jn ?_|refine js fun K' hK'=>?_|refine ji fun X Y hX hY=>?_|refine jr ?_|refine jk ?_|refine jx ?_);simp [*])|with_reducible refine rL hE ?_|with_reducible refine And.intro ?_ ?_|omega|(refine imp1 fun h=>?_))
  refine acall_boxes m_new (nm []) (nm [(3,901),(1,902)]) [(3,mboxC M0.first M0.used M0.lists.length 1),(1,mrowC M0.lists)] (.loc 3 0) (by
   rintro res bf ⟨rfl,h1,h2⟩
   refine ⟨rfl,?_⟩
   simp
   exact ⟨h1,h2⟩) (by simp) (by simp) (by simp) (by simp) (by simp) (by simp) (by simp) ?_
  simp
  repeat' (first
   |(with_reducible first|refine uK ?_|refine uX ?_|refine jq fun K hK=>?_|refine jb ?_)|((with_reducible first|refine rS hE ?_|refine jn ?_|refine js fun K' hK'=>?_|refine ji fun X Y hX hY=>?_|refine jr ?_|refine jk ?_|refine jx ?_);simp [*])|with_reducible refine rL hE ?_|(refine jC (hem.out) ?_ ?_ ?_;(iterate 2 focus (simp [*] <;> fail));simp [*])|with_reducible refine And.intro ?_ ?_|omega|(refine imp1 fun h=>?_))
  all_goals simp [hM1,hM2,hl1])
 clear hM1 hM2 hl1 hem
 rw [← mz]
 clear mz
 refine AW_seqt ⟨[(0,.sl 10 (l.map encX)),(2,.loc 901 0),(3,.loc 3 0),(4,.own 905 5 0 (D 0).length),(5,bA false)],[(3,.box 26 (encH (M 0))),(901,rnM (M 0) 902),(902,mrowC (M 0).lists),(905,rnE (D 0))]⟩ ?_ (by
  intro K hK
  repeat' (first
   |(with_reducible first|refine uK ?_|refine uX ?_|refine jq fun K hK=>?_|refine jb ?_)|((with_reducible first|refine rS hE ?_|refine jn ?_|refine js fun K' hK'=>?_|refine ji fun X Y hX hY=>?_|refine jr ?_|refine jk ?_|refine jx ?_);simp [*])|with_reducible refine rL hE ?_|with_reducible refine And.intro ?_ ?_|omega|(refine imp1 fun h=>?_))
  all_goals simp [dz])
 clear dz
 refine AW_seqt ⟨[(2,.loc 901 0),(3,.loc 3 0),(4,.own 905 5 0 (D (min l.length 24)).length),(5,bA false)],[(3,.box 26 (encH (M (min l.length 24)))),(901,rnM (M (min l.length 24)) 902),(902,mrowC (M (min l.length 24)).lists),(905,rnE (D (min l.length 24)))]⟩ ?_ ?_
 ·generalize M (min l.length 24) = m at *
  generalize D (min l.length 24) = d at *
  refine AW_seqt ⟨[(2,.loc 901 0),(3,.loc 3 0),(4,.own 905 5 0 d.length),(5,bA true)],[(3,.box 26 (encH m)),(901,rnM m 902),(902,mrowC m.lists),(905,rnE d)]⟩ ?_ (by
   intro K hK
   refine AW_drawHd ⟨[],[]⟩ mixed (by simp) fun E' hE'=>?_
   have hEn:=hE'.trans hE
   repeat' (first
    |(with_reducible first|refine useK (by assumption) ?_|refine useK3 (by assumption) ?_)|((with_reducible show DHd _ _ _ _ _ _ _);first|(refine DHd_done (by decide +kernel) ?_;try simp only [thenK,inBlk])|(refine dt hEn 0 fun K' hK'=>?_;simp [*];fail_if_success (with_reducible show False))|(refine dt hEn 1 fun K' hK'=>?_;simp [*];fail_if_success (with_reducible show False))|(refine dt hEn 2 fun K' hK'=>?_;simp [*];fail_if_success (with_reducible show False))|(refine dt hEn 3 fun K' hK'=>?_;simp [*];fail_if_success (with_reducible show False))|(refine dt hEn 4 fun K' hK'=>?_;simp [*];fail_if_success (with_reducible show False))|(refine dt hEn 5 fun K' hK'=>?_;simp [*];fail_if_success (with_reducible show False))|(refine dt hEn 6 fun K' hK'=>?_;simp [*];fail_if_success (with_reducible show False))|(refine dp hEn 0 fun K' hK'=>?_;simp [*];fail_if_success (with_reducible show False))|(refine dp hEn 1 fun K' hK'=>?_;simp [*];fail_if_success (with_reducible show False))|(refine dp hEn 2 fun K' hK'=>?_;simp [*];fail_if_success (with_reducible show False))|(refine dp hEn 3 fun K' hK'=>?_;simp [*];fail_if_success (with_reducible show False))|(refine dp hEn 4 fun K' hK'=>?_;simp [*];fail_if_success (with_reducible show False))|(refine dp hEn 5 fun K' hK'=>?_;simp [*];fail_if_success (with_reducible show False))|(refine dp hEn 6 fun K' hK'=>?_;simp [*];fail_if_success (with_reducible show False))|refine DHd_any rfl (by decide +kernel) ?_)|exact DHsome_nil|refine DHsome_no (by decide +kernel) ?_|(refine DHsome_yes (by exact rfl) rfl (by rw [hEn];decide) (fun K' hK'=>?_) ?_;simp [*];fail_if_success (with_reducible show False))|(refine DHsome_yesG (by exact rfl) rfl (by exact rfl) (by rw [hEn];decide) (fun K' hK'=>?_) ?_;simp [*];fail_if_success (with_reducible show False))|with_reducible refine And.intro ?_ ?_|omega|(with_reducible refine imp1 fun h=>?_))
   all_goals simp)
  repeat' (first
   |(with_reducible first|refine uK ?_|refine uX ?_|refine jq fun K hK=>?_|refine jb ?_)|((with_reducible first|refine rS hE ?_|refine jn ?_|refine js fun K' hK'=>?_|refine ji fun X Y hX hY=>?_|refine jr ?_|refine jk ?_|refine jx ?_);simp [*])|with_reducible refine rL hE ?_|with_reducible refine And.intro ?_ ?_|omega|(refine imp1 fun h=>?_))
  all_goals simp
 intro K0 hK0
 repeat' (first
  |(with_reducible first|refine uK ?_|refine uX ?_|refine jq fun K hK=>?_|refine jb ?_)|((with_reducible first|refine rS hE ?_|refine jn ?_|refine js fun K' hK'=>?_|refine ji fun X Y hX hY=>?_|refine jr ?_|refine jk ?_|refine jx ?_);simp [*])|with_reducible refine rL hE ?_|with_reducible refine And.intro ?_ ?_|omega|(refine imp1 fun h=>?_))
 refine AW_loopk (G:=Nat) (fun i=>⟨[(6,iA i),(0,.sl 10 (l.map encX)),(2,.loc 901 0),(3,.loc 3 0),(4,.own 905 5 0 (D i).length),(5,bA false)],[(3,.box 26 (encH (M i))),(901,rnM (M i) 902),(902,mrowC (M i).lists),(905,rnE (D i))]⟩)
  (fun i=>i ≤ l.length ∧ i ≤ 24) (fun i=>24 - i) 0 ⟨by omega,by omega⟩ (by simp) ?_
 rintro i ⟨hi,hi24⟩ K2 hK2
 by_cases hlt : i < l.length ∧ i < 24
 ·obtain ⟨hlt,hlt24⟩:=hlt
  have hms:=ms.out i hlt
  have hin:=minv.out i (by omega)
  have hin':=minv.out (i + 1) (by omega)
  have hdl:=dl.out i
  have hx:=hl.out l[i] (List.getElem_mem hlt)
  have hed:=Hld.mk (s_edit (M i) l[i] hin.wf hx hin.len hin.each)
  have hok:=edW_ok (M i) l[i]
  generalize hm' : M (i + 1) = m' at *
  generalize hd' : D (i + 1) = d' at *
  generalize M i = m at *
  generalize D i = d at *
  generalize edW m l[i] = e at *
  have hsc:=Hld.mk (s_scheck m e hin hok)
  have hck:=Hld.mk (s_check m e hin.wf hok)
  have hap:=fun hc=>step_ap (m:=m) (e:=e) hin hok hc
  have hne : chkE m e ≠ 0 → stepE m e = m:=fun h=>by unfold stepE;rw [if_neg h]
  have hm0:=m_apply m e hin.wf hok
  have hag:=Hld.mk (s_agrees m' hin'.wf)
  obtain ⟨hms1,hms2⟩:=hms
  rw [← hms1] at hap hne hm0
  clear hms1 hin hin' hx hok
  generalize chkE m e = c at *
  replace hne:=Hld.mk hne
  replace hm0:=Hld.mk hm0
  replace hap:=Hld.mk hap
  replace hm':=Hld.mk hm'
  replace hd':=Hld.mk hd'
  refine AW_seqt ⟨[(6,iA i),(0,.sl 10 (l.map encX)),(2,.loc 901 0),(3,.loc 3 0),(4,.own 905 5 0 d.length),(5,bA false)],[(3,.box 26 (encH m)),(901,rnM m 902),(902,mrowC m.lists),(905,rnE d)]⟩ ?_ (by
   intro K3 hK3
   clear hms2
   repeat' (first
    |(with_reducible first|refine uK ?_|refine uX ?_|refine jq fun K hK=>?_|refine jb ?_)|((with_reducible first|refine rS hE ?_|refine jn ?_|refine js fun K' hK'=>?_|refine ji fun X Y hX hY=>?_|refine jr ?_|refine jk ?_|refine jx ?_);simp [*])|with_reducible refine rL hE ?_|with_reducible refine And.intro ?_ ?_|omega|(refine imp1 fun h=>?_))
   all_goals simp)
  refine AW_seqt ⟨[(6,iA i),(0,.sl 10 (l.map encX)),(2,.loc 901 0),(3,.loc 3 0),(4,.own 905 5 0 d'.length),(5,bA false)],[(3,.box 26 (encH m')),(901,rnM m' 903),(903,mrowC m'.lists),(905,rnE d')]⟩ ?_ ?_
  ·clear hms2
   refine AW_ren 903 902 (cb:=mrowC m'.lists) (t:=⟨[(6,iA i),(0,.sl 10 (l.map encX)),(2,.loc 901 0),(3,.loc 3 0),(4,.own 905 5 0 d'.length),(5,bA false)],[(3,.box 26 (encH m')),(901,rnM m' 902),(902,mrowC m'.lists),(905,rnE d')]⟩) (by simp) (by simp) (by simp) (by simp [sw]) (by simp [sw]) ?_
   repeat' (first
    |(with_reducible first|refine uK ?_|refine uX ?_|refine jq fun K hK=>?_|refine jb ?_)|((with_reducible first|refine rS hE ?_|refine jn ?_|refine js fun K' hK'=>?_|refine ji fun X Y hX hY=>?_|refine jr ?_|refine jk ?_|refine jx ?_);simp [*])|with_reducible refine rL hE ?_|with_reducible refine And.intro ?_ ?_|omega|(refine imp1 fun h=>?_))
   all_goals exact ⟨i + 1,⟨by omega,by omega⟩,by omega,by simp [hm'.out,hd'.out]⟩
  intro K3 hK3
  refine AW_block ?_
  refine AW_seqt ⟨[(7,.loc 7 0),(6,iA i),(0,.sl 10 (l.map encX)),(2,.loc 901 0),(3,.loc 3 0),(4,.own 905 5 0 d.length),(5,bA false)],[(7,.box 36 (encE e)),(3,.box 26 (encH m)),(901,rnM m 902),(902,mrowC m.lists),(905,rnE d)]⟩ ?_ (by
   intro K4 hK4
   clear hms2
   repeat' (first
    |(with_reducible first|refine uK ?_|refine uQ ?_|refine uX ?_|refine jq fun K hK=>?_|refine jb ?_)|(with_reducible refine rS hE ?_;simp [*])|with_reducible refine rL hE ?_|(((with_reducible show RK _ _ _ _ _ _);first|refine jn ?_|refine js fun K' hK'=>?_);simp [*])|with_reducible refine rD mixed hE ?_|((with_reducible show RKQ _ _ _ _ _ _);first|refine RKQ_nilk ⟨by decide,?_⟩|(refine jv fun K' hK'=>?_;simp [*]))|((with_reducible first|refine ji fun X Y hX hY=>?_|refine jr ?_|refine jk ?_|refine jx ?_);simp [*])|((first|refine jC (hed.out) ?_ ?_ ?_|refine jQ (hed.out) ?_ ?_ ?_);(iterate 2 focus (simp [*] <;> fail));simp [*])|with_reducible refine And.intro ?_ ?_|omega|(refine imp1 fun h=>?_))
   all_goals simp)
  refine AW_freeze 7 (cb:=.box 36 (encE e)) (t:=⟨[(7,.ep (encE e)),(6,iA i),(0,.sl 10 (l.map encX)),(2,.loc 901 0),(3,.loc 3 0),(4,.own 905 5 0 d.length),(5,bA false)],[(3,.box 26 (encH m)),(901,rnM m 902),(902,mrowC m.lists),(905,rnE d)]⟩) (by simp) (by simp) (by simp) ?_
  refine AW_seqt ⟨[(8,iA c),(7,.ep (encE e)),(6,iA i),(0,.sl 10 (l.map encX)),(2,.loc 901 0),(3,.loc 3 0),(4,.own 905 5 0 d.length),(5,bA false)],[(3,.box 26 (encH m)),(901,rnM m 902),(902,mrowC m.lists),(905,rnE d)]⟩ ?_ (by
   intro K4 hK4
   clear hms2
   repeat' (first
    |(with_reducible first|refine uK ?_|refine uX ?_|refine jq fun K hK=>?_|refine jb ?_)|((with_reducible first|refine rS hE ?_|refine jn ?_|refine js fun K' hK'=>?_|refine ji fun X Y hX hY=>?_|refine jr ?_|refine jk ?_|refine jx ?_);simp [*])|with_reducible refine rL hE ?_|(refine jC (hsc.out) ?_ ?_ ?_;(iterate 2 focus (simp [*] <;> fail));simp [*])|with_reducible refine And.intro ?_ ?_|omega|(refine imp1 fun h=>?_))
   all_goals simp)
  refine AW_seqt ⟨[(8,iA c),(7,.ep (encE e)),(6,iA i),(0,.sl 10 (l.map encX)),(2,.loc 901 0),(3,.loc 3 0),(4,.own 905 5 0 d.length),(5,bA false)],[(3,.box 26 (encH m)),(901,rnM m' 903),(903,mrowC m'.lists),(905,rnE d)]⟩ ?_ (by
   intro K4 hK4
   clear hms2
   repeat' (first
    |(with_reducible first|refine uK ?_|refine uX ?_|refine jq fun K hK=>?_|refine jb ?_)|((with_reducible first|refine rS hE ?_|refine jn ?_|refine js fun K' hK'=>?_|refine ji fun X Y hX hY=>?_|refine jr ?_|refine jk ?_|refine jx ?_);simp [*])|with_reducible refine rL hE ?_|with_reducible refine And.intro ?_ ?_|omega|(refine imp1 fun h=>?_))
   refine acall_dv hck.out ⟨dv_m (j:=902) (by simp) (by simp),.base (by simp),trivial⟩ rfl ?_
   simp
   repeat' (first
    |(with_reducible first|refine uK ?_|refine uX ?_|refine jq fun K hK=>?_|refine jb ?_)|((with_reducible first|refine rS hE ?_|refine jn ?_|refine js fun K' hK'=>?_|refine ji fun X Y hX hY=>?_|refine jr ?_|refine jk ?_|refine jx ?_);simp [*])|with_reducible refine rL hE ?_|with_reducible refine And.intro ?_ ?_|omega|(refine imp1 fun h=>?_))
   refine acall_boxes hm0.out (nm [(1000000,901),(1000001,902)]) (nm [(1000000,901),(900,903)]) [(1000000,mboxC m'.first m'.used m'.lists.length 900),(900,mrowC m'.lists)] (iA c) (by
    rintro res bf ⟨rfl,h1,h2⟩
    refine ⟨rfl,?_⟩
    simp
    exact ⟨h1,h2⟩) (by simp) (by simp) (by simp) (by simp) (by simp) (by simp) (by simp) ?_
   simp
   repeat' (first
    |(with_reducible first|refine uK ?_|refine uX ?_|refine jq fun K hK=>?_|refine jb ?_)|((with_reducible first|refine rS hE ?_|refine jn ?_|refine js fun K' hK'=>?_|refine ji fun X Y hX hY=>?_|refine jr ?_|refine jk ?_|refine jx ?_);simp [*])|with_reducible refine rL hE ?_|with_reducible refine And.intro ?_ ?_|omega|(refine imp1 fun h=>?_))
   all_goals simp)
  refine AW_seqt ⟨[(6,iA i),(0,.sl 10 (l.map encX)),(2,.loc 901 0),(3,.loc 3 0),(4,.own 905 5 0 d'.length),(5,bA false)],[(3,.box 26 (encH m')),(901,rnM m' 903),(903,mrowC m'.lists),(905,rnE d')]⟩ ?_ ?_
  ·clear hms2
   repeat' (first
    |(with_reducible first|refine uK ?_|refine uX ?_|refine jq fun K hK=>?_|refine jb ?_)|((with_reducible first|refine rS hE ?_|refine jn ?_|refine js fun K' hK'=>?_|refine ji fun X Y hX hY=>?_|refine jr ?_|refine jk ?_|refine jx ?_);simp [*])|with_reducible refine rL hE ?_|with_reducible refine And.intro ?_ ?_|omega|(refine imp1 fun h=>?_))
   refine acall_dv hag.out ⟨.base (by simp),dv_m (j:=903) (by simp) (by simp),trivial⟩ rfl ?_
   simp
   repeat' (first
    |(with_reducible first|refine uK ?_|refine uX ?_|refine jq fun K hK=>?_|refine jb ?_)|((with_reducible first|refine rS hE ?_|refine jn ?_|refine js fun K' hK'=>?_|refine ji fun X Y hX hY=>?_|refine jr ?_|refine jk ?_|refine jx ?_);simp [*])|with_reducible refine rL hE ?_|with_reducible refine And.intro ?_ ?_|omega|(refine imp1 fun h=>?_))
   all_goals simp
  ·intro K4 hK4
   by_cases hc : c = 0
   ·rw [if_pos hc] at hms2
    have hap':=Hld.mk (hap.out hc)
    clear hd' hm' hap hne
    subst hms2 hc
    refine AW_seqt ⟨[(49,bA true),(7,.ep (encE e)),(6,iA i),(0,.sl 10 (l.map encX)),(2,.loc 901 0),(3,.loc 3 0),(4,.own 905 5 0 d.length),(5,bA false)],[(3,.box 26 (encH m)),(901,rnM m' 903),(903,mrowC m'.lists),(905,rnE d)]⟩ ?_ (by
     intro K5 hK5
     repeat' (first
      |(with_reducible first|refine uK ?_|refine uX ?_|refine jq fun K hK=>?_|refine jb ?_)|((with_reducible first|refine rS hE ?_|refine jn ?_|refine js fun K' hK'=>?_|refine ji fun X Y hX hY=>?_|refine jr ?_|refine jk ?_|refine jx ?_);simp [*])|with_reducible refine rL hE ?_|with_reducible refine And.intro ?_ ?_|omega|(refine imp1 fun h=>?_))
     all_goals simp)
    refine AW_if fun X Y hX hY=>?_
    simp
    refine hX.h ?_
    have htk : List.take (d.length + 1) (List.map encE d ++ [encE e]) = List.map encE d ++ [encE e]:=List.take_of_length_le (by simp)
    refine AW_drawHd ⟨[(7,.ep (encE e))],[]⟩ mixed (by simp) fun E' hE'=>?_
    have hEn:=hE'.trans hE
    repeat' (first
     |(with_reducible first|refine useK (by assumption) ?_|refine useK3 (by assumption) ?_)|((with_reducible show DHd _ _ _ _ _ _ _);first|(refine DHd_done (by decide +kernel) ?_;try simp only [thenK,inBlk])|(refine dt hEn 0 fun K' hK'=>?_;simp [*];fail_if_success (with_reducible show False))|(refine dt hEn 1 fun K' hK'=>?_;simp [*];fail_if_success (with_reducible show False))|(refine dt hEn 2 fun K' hK'=>?_;simp [*];fail_if_success (with_reducible show False))|(refine dt hEn 3 fun K' hK'=>?_;simp [*];fail_if_success (with_reducible show False))|(refine dt hEn 4 fun K' hK'=>?_;simp [*];fail_if_success (with_reducible show False))|(refine dt hEn 5 fun K' hK'=>?_;simp [*];fail_if_success (with_reducible show False))|(refine dt hEn 6 fun K' hK'=>?_;simp [*];fail_if_success (with_reducible show False))|(refine dt hEn 7 fun K' hK'=>?_;simp [*];fail_if_success (with_reducible show False))|(refine dt hEn 8 fun K' hK'=>?_;simp [*];fail_if_success (with_reducible show False))|(refine dp hEn 0 fun K' hK'=>?_;simp [*];fail_if_success (with_reducible show False))|(refine dp hEn 1 fun K' hK'=>?_;simp [*];fail_if_success (with_reducible show False))|(refine dp hEn 2 fun K' hK'=>?_;simp [*];fail_if_success (with_reducible show False))|(refine dp hEn 3 fun K' hK'=>?_;simp [*];fail_if_success (with_reducible show False))|(refine dp hEn 4 fun K' hK'=>?_;simp [*];fail_if_success (with_reducible show False))|(refine dp hEn 5 fun K' hK'=>?_;simp [*];fail_if_success (with_reducible show False))|(refine dp hEn 6 fun K' hK'=>?_;simp [*];fail_if_success (with_reducible show False))|(refine dp hEn 7 fun K' hK'=>?_;simp [*];fail_if_success (with_reducible show False))|(refine dp hEn 8 fun K' hK'=>?_;simp [*];fail_if_success (with_reducible show False))|refine DHd_any rfl (by decide +kernel) ?_)|exact DHsome_nil|refine DHsome_no (by decide +kernel) ?_|(refine DHsome_yes (by exact rfl) rfl (by rw [hEn];decide) (fun K' hK'=>?_) ?_;simp [*];fail_if_success (with_reducible show False))|(refine DHsome_yesG (by exact rfl) rfl (by exact rfl) (by rw [hEn];decide) (fun K' hK'=>?_) ?_;simp [*];fail_if_success (with_reducible show False))|(refine acall_same (hap'.out) ?_ ?_ ?_;(focus (simp [*] <;> fail));(focus (simp [*] <;> fail));simp [*])|(refine acall_view (hap'.out) ?_ ?_ ?_;(focus (simp [*] <;> fail));(focus (simp [*] <;> fail));simp [*])|with_reducible refine And.intro ?_ ?_|omega|(with_reducible refine imp1 fun h=>?_))
    all_goals simp
   ·rw [if_neg hc] at hms2
    have hmm:=hne.out hc
    clear hd' hm' hap hne
    subst hms2 hmm
    repeat' (first
     |(with_reducible first|refine uK ?_|refine uX ?_|refine jq fun K hK=>?_|refine jb ?_)|((with_reducible first|refine rS hE ?_|refine jn ?_|refine js fun K' hK'=>?_|refine ji fun X Y hX hY=>?_|refine jr ?_|refine jk ?_|refine jx ?_);simp [*])|with_reducible refine rL hE ?_|with_reducible refine And.intro ?_ ?_|omega|(refine imp1 fun h=>?_))
    all_goals simp
 ·have hie : i = min l.length 24:=by omega
  rw [← hie] at hK0
  have hgt : ¬ (i < l.length ∧ i < 24):=by omega
  clear hie
  by_cases hlt1 : i < l.length
  ·have : ¬ (i : Int) < 24:=by omega
   repeat' (first
    |(with_reducible first|refine uK ?_|refine uX ?_|refine jq fun K hK=>?_|refine jb ?_)|((with_reducible first|refine rS hE ?_|refine jn ?_|refine js fun K' hK'=>?_|refine ji fun X Y hX hY=>?_|refine jr ?_|refine jk ?_|refine jx ?_);simp [*])|with_reducible refine rL hE ?_|with_reducible refine And.intro ?_ ?_|omega|(refine imp1 fun h=>?_))
   all_goals simp
  ·repeat' (first
    |(with_reducible first|refine uK ?_|refine uX ?_|refine jq fun K hK=>?_|refine jb ?_)|((with_reducible first|refine rS hE ?_|refine jn ?_|refine js fun K' hK'=>?_|refine ji fun X Y hX hY=>?_|refine jr ?_|refine jk ?_|refine jx ?_);simp [*])|with_reducible refine rL hE ?_|with_reducible refine And.intro ?_ ?_|omega|(refine imp1 fun h=>?_))
   all_goals simp
end Go.Proofs.YtbibemijcdkjhaaGreatDoor
end
section
namespace Go.Proofs.YtbibemijcdkjhaaGreatDoor
open Go.Am
theorem avX {n : Nat} {cs : List AV} (h : ShapeC Tryz.prog (n + 3) 47 cs) : ∃ x : Stp,mkAV Tryz.prog 47 cs = encX x ∧ StpOK x:=by
 simp [ShapeC,ShapeF,ShapeA] at h
 obtain ⟨_,_,rfl,⟨k,rfl,hk⟩, -,h⟩:=h
 obtain ⟨_,_,rfl,⟨r,rfl,hr⟩, -,h⟩:=h
 obtain ⟨_,_,rfl,⟨d,rfl,hd⟩, -,h⟩:=h
 obtain ⟨_,_,rfl,⟨w,rfl,hw⟩, -,h⟩:=h
 obtain ⟨_,_,rfl,hb, -,rfl⟩:=h
 obtain ⟨_,_,rfl,⟨b0,rfl,hb0⟩, -,hb⟩:=hb
 obtain ⟨_,_,rfl,⟨b1,rfl,hb1⟩, -,hb⟩:=hb
 obtain ⟨_,_,rfl,⟨b2,rfl,hb2⟩, -,hb⟩:=hb
 obtain ⟨_,_,rfl,⟨b3,rfl,hb3⟩, -,hb⟩:=hb
 obtain ⟨_,_,rfl,⟨b4,rfl,hb4⟩, -,hb⟩:=hb
 obtain ⟨_,_,rfl,⟨b5,rfl,hb5⟩, -,rfl⟩:=hb
 refine ⟨⟨k.toNat,r.toNat,d.toNat,w.toNat,b0,b1,b2,b3,b4,b5⟩,?_,⟨by simp only;omega,by simp only;omega,by simp only;omega,by simp only;omega⟩,by simp only;omega⟩
 simp [mkAV,encX,Int.toNat_of_nonneg hk.1,Int.toNat_of_nonneg hr.1,Int.toNat_of_nonneg hd.1,Int.toNat_of_nonneg hw.1]
theorem avXs {n : Nat} {cs : List AV} (h : ShapeC Tryz.prog (n + 4) 22 cs) : ∃ l : List Stp,cs = [.sl 10 (l.map encX)] ∧ (∀ s ∈ l,StpOK s) ∧ l.length ≤ 9223372036854775807:=by
 obtain ⟨l,rfl,h1,h2⟩:=avList encX StpOK (by simp) (fun cs' h=>avX h) h
 exact ⟨l,by simp,h1,h2⟩
end Go.Proofs.YtbibemijcdkjhaaGreatDoor
end
