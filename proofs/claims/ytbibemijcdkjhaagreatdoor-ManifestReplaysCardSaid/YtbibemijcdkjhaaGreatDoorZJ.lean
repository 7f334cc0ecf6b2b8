/- Layer 40, the model: decimal, value -/
import Derived.Test.YtbibemijcdkjhaaGreatDoorZI
import Derived.Test.YtbibemijcdkjhaaGreatDoorZ5
import Derived.Test.YtbibemijcdkjhaaGreatDoorZ7
import Derived.Test.YtbibemijcdkjhaaGreatDoorZA
set_option maxRecDepth 100000
set_option linter.unusedSimpArgs false
set_option linter.unusedVariables false
section
namespace Go.Proofs.YtbibemijcdkjhaaGreatDoor
open Go.Am Go.RowKit Go.Num
@[simp] theorem ba_app (a b : Array UInt8) : (ByteArray.mk a ++ ByteArray.mk b) = ByteArray.mk (a ++ b):=by
  apply ByteArray.ext
  simp
def finV (l : List UInt8) : Option Nat → AV
 |some m=>.tup [iA (sgn l m),bA true]
 |none=>.tup [iA 0,bA false]
def valA (l : List UInt8) : AV:=match valueS l with
 |some n=>.tup [iA n,bA true]
 |none=>.tup [iA 0,bA false]
theorem valA_bad {l : List UInt8} (h : bad l) : valA l = .tup [iA 0,bA false]:=by
 unfold valA valueS
 rw [if_pos h]
theorem valA_ok {l : List UInt8} (h : ¬ bad l) : valA l = finV l (vGo 0 (digs l)):=by
 unfold valA valueS
 rw [if_neg h]
 cases vGo 0 (digs l) <;> rfl
set_option maxHeartbeats 4000000 in
theorem s_value (l : List UInt8) (hl : l.length ≤ 1000000) : PSpec Tryz.prog 44 [strB l] (valA l):=by
 have hdl : (digs l).length ≤ l.length:=by
  unfold digs
  split <;> simp
 refine PSpec_of Tryz.func44 rfl rfl (Nat.le_of_ble_eq_true rfl) (Nat.le_of_ble_eq_true rfl) ?_
 intro E hE
 refine AW_seqt ⟨[(0,strB l)],[]⟩ ?_ (by
  intro K hK
  repeat' (first
   |(with_reducible first|refine uK ?_|refine uX ?_|refine jq fun K hK=>?_|refine jb ?_)|((with_reducible first|refine rS hE ?_|refine jn ?_|refine js fun K' hK'=>?_|refine ji fun X Y hX hY=>?_|refine jr ?_|refine jk ?_|refine jx ?_);simp [*])|with_reducible refine rL hE ?_|with_reducible refine And.intro ?_ ?_|omega|(refine imp1 fun h=>?_))
  all_goals simp)
 refine AW_seqt ⟨[(0,strB l),(4,strB l)],[]⟩ ?_ (by
  intro K hK
  repeat' (first
   |(with_reducible first|refine uK ?_|refine uX ?_|refine jq fun K hK=>?_|refine jb ?_)|((with_reducible first|refine rS hE ?_|refine jn ?_|refine js fun K' hK'=>?_|refine ji fun X Y hX hY=>?_|refine jr ?_|refine jk ?_|refine jx ?_);simp [*])|with_reducible refine rL hE ?_|with_reducible refine And.intro ?_ ?_|omega|(refine imp1 fun h=>?_))
  all_goals simp)
 refine AW_seqt ⟨[(0,strB l),(4,strB (digs l))],[]⟩ ?_ ?_
 rotate_left
 ·intro K hK
  cases l with
  |nil =>
   repeat' (first
    |(with_reducible first|refine uK ?_|refine uQ ?_|refine uX ?_|refine jq fun K hK=>?_|refine jb ?_)|(with_reducible refine rS hE ?_;simp [*])|with_reducible refine rL hE ?_|(((with_reducible show RK _ _ _ _ _ _);first|refine jn ?_|refine js fun K' hK'=>?_);simp [*])|with_reducible refine rD mixed hE ?_|((with_reducible show RKQ _ _ _ _ _ _);first|refine RKQ_nilk ⟨by decide,?_⟩|(refine jv fun K' hK'=>?_;simp [*]))|((with_reducible first|refine ji fun X Y hX hY=>?_|refine jr ?_|refine jk ?_|refine jx ?_);simp [*])|with_reducible refine And.intro ?_ ?_|omega|(refine imp1 fun h=>?_))
   all_goals simp [digs]
  |cons c r =>
   have hx : (ByteArray.mk (c :: r).toArray).extract 1 (r.length + 1) = ⟨r.toArray⟩:=by rw [extract_mk,List.take_of_length_le (by simp)];rfl
   by_cases hc : c = 45
   ·subst hc
    repeat' (first
     |(with_reducible first|refine uK ?_|refine uQ ?_|refine uX ?_|refine jq fun K hK=>?_|refine jb ?_)|(with_reducible refine rS hE ?_;simp [*])|with_reducible refine rL hE ?_|(((with_reducible show RK _ _ _ _ _ _);first|refine jn ?_|refine js fun K' hK'=>?_);simp [*])|with_reducible refine rD mixed hE ?_|((with_reducible show RKQ _ _ _ _ _ _);first|refine RKQ_nilk ⟨by decide,?_⟩|(refine jv fun K' hK'=>?_;simp [*]))|((with_reducible first|refine ji fun X Y hX hY=>?_|refine jr ?_|refine jk ?_|refine jx ?_);simp [*])|with_reducible refine And.intro ?_ ?_|omega|(refine imp1 fun h=>?_))
    all_goals simp [digs_neg]
   ·have h45 : ¬ (c.toNat : Int) = 45:=fun e=>hc (UInt8.toNat_inj.1 (by simpa using (by omega : c.toNat = 45)))
    have hdp:=digs_pos (r:=r) hc
    repeat' (first
     |(with_reducible first|refine uK ?_|refine uQ ?_|refine uX ?_|refine jq fun K hK=>?_|refine jb ?_)|(with_reducible refine rS hE ?_;simp [*])|with_reducible refine rL hE ?_|(((with_reducible show RK _ _ _ _ _ _);first|refine jn ?_|refine js fun K' hK'=>?_);simp [*])|with_reducible refine rD mixed hE ?_|((with_reducible show RKQ _ _ _ _ _ _);first|refine RKQ_nilk ⟨by decide,?_⟩|(refine jv fun K' hK'=>?_;simp [*]))|((with_reducible first|refine ji fun X Y hX hY=>?_|refine jr ?_|refine jk ?_|refine jx ?_);simp [*])|with_reducible refine And.intro ?_ ?_|omega|(refine imp1 fun h=>?_))
    all_goals simp [hdp]
 by_cases hb : bad l
 ·rw [valA_bad hb]
  unfold bad at hb
  generalize digs l = ds at *
  rcases hb with h|h|⟨h,h2⟩
  ·subst h
   repeat' (first
    |(with_reducible first|refine uK ?_|refine uQ ?_|refine uX ?_|refine jq fun K hK=>?_|refine jb ?_)|(with_reducible refine rS hE ?_;simp [*])|with_reducible refine rL hE ?_|(((with_reducible show RK _ _ _ _ _ _);first|refine jn ?_|refine js fun K' hK'=>?_);simp [*])|with_reducible refine rD mixed hE ?_|((with_reducible show RKQ _ _ _ _ _ _);first|refine RKQ_nilk ⟨by decide,?_⟩|(refine jv fun K' hK'=>?_;simp [*]))|((with_reducible first|refine ji fun X Y hX hY=>?_|refine jr ?_|refine jk ?_|refine jx ?_);simp [*])|with_reducible refine And.intro ?_ ?_|omega|(refine imp1 fun h=>?_))
  ·have h19 : ¬ ds = []:=by rintro rfl;simp at h
   have h20 : (19 : Int) < (ds.length : Int):=by omega
   repeat' (first
    |(with_reducible first|refine uK ?_|refine uQ ?_|refine uX ?_|refine jq fun K hK=>?_|refine jb ?_)|(with_reducible refine rS hE ?_;simp [*])|with_reducible refine rL hE ?_|(((with_reducible show RK _ _ _ _ _ _);first|refine jn ?_|refine js fun K' hK'=>?_);simp [*])|with_reducible refine rD mixed hE ?_|((with_reducible show RKQ _ _ _ _ _ _);first|refine RKQ_nilk ⟨by decide,?_⟩|(refine jv fun K' hK'=>?_;simp [*]))|((with_reducible first|refine ji fun X Y hX hY=>?_|refine jr ?_|refine jk ?_|refine jx ?_);simp [*])|with_reducible refine And.intro ?_ ?_|omega|(refine imp1 fun h=>?_))
  ·cases ds with
   |nil=>simp at h
   |cons c t =>
    simp at h
    subst h
    by_cases h20 : (19 : Int) < ((48 :: t : List UInt8).length : Int)
    ·repeat' (first
      |(with_reducible first|refine uK ?_|refine uQ ?_|refine uX ?_|refine jq fun K hK=>?_|refine jb ?_)|(with_reducible refine rS hE ?_;simp [*])|with_reducible refine rL hE ?_|(((with_reducible show RK _ _ _ _ _ _);first|refine jn ?_|refine js fun K' hK'=>?_);simp [*])|with_reducible refine rD mixed hE ?_|((with_reducible show RKQ _ _ _ _ _ _);first|refine RKQ_nilk ⟨by decide,?_⟩|(refine jv fun K' hK'=>?_;simp [*]))|((with_reducible first|refine ji fun X Y hX hY=>?_|refine jr ?_|refine jk ?_|refine jx ?_);simp [*])|with_reducible refine And.intro ?_ ?_|omega|(refine imp1 fun h=>?_))
    ·repeat' (first
      |(with_reducible first|refine uK ?_|refine uQ ?_|refine uX ?_|refine jq fun K hK=>?_|refine jb ?_)|(with_reducible refine rS hE ?_;simp [*])|with_reducible refine rL hE ?_|(((with_reducible show RK _ _ _ _ _ _);first|refine jn ?_|refine js fun K' hK'=>?_);simp [*])|with_reducible refine rD mixed hE ?_|((with_reducible show RKQ _ _ _ _ _ _);first|refine RKQ_nilk ⟨by decide,?_⟩|(refine jv fun K' hK'=>?_;simp [*]))|((with_reducible first|refine ji fun X Y hX hY=>?_|refine jr ?_|refine jk ?_|refine jx ?_);simp [*])|with_reducible refine And.intro ?_ ?_|omega|(refine imp1 fun h=>?_))
 ·rw [valA_ok hb]
  obtain ⟨R,hR⟩ : ∃ R,finV l (vGo 0 (digs l)) = R:=⟨_,rfl⟩
  rw [hR]
  have hsg : ∀ m,sgn l m = if digs l = l then (m : Int) else -(m : Int):=fun m=>rfl
  unfold bad at hb
  generalize digs l = ds at *
  simp only [not_or,not_and,Decidable.not_not] at hb
  obtain ⟨b1,b2,b3⟩:=hb
  replace hsg:=Hld.mk hsg
  replace hR:=Hld.mk hR
  refine AW_seqt ⟨[(0,strB l),(4,strB ds)],[]⟩ ?_ ?_
  rotate_left
  ·intro K hK
   cases ds with
   |nil=>exact (b1 rfl).elim
   |cons c t =>
    have b4 : ¬ (19 : Int) < (t.length : Int) + 1:=by simp at b2;omega
    by_cases hc : c = 48
    ·subst hc
     have hl48:=b3 rfl
     subst hl48
     repeat' (first
      |(with_reducible first|refine uK ?_|refine uQ ?_|refine uX ?_|refine jq fun K hK=>?_|refine jb ?_)|(with_reducible refine rS hE ?_;simp [*])|with_reducible refine rL hE ?_|(((with_reducible show RK _ _ _ _ _ _);first|refine jn ?_|refine js fun K' hK'=>?_);simp [*])|with_reducible refine rD mixed hE ?_|((with_reducible show RKQ _ _ _ _ _ _);first|refine RKQ_nilk ⟨by decide,?_⟩|(refine jv fun K' hK'=>?_;simp [*]))|((with_reducible first|refine ji fun X Y hX hY=>?_|refine jr ?_|refine jk ?_|refine jx ?_);simp [*])|with_reducible refine And.intro ?_ ?_|omega|(refine imp1 fun h=>?_))
     all_goals simp
    ·have h48 : ¬ (c.toNat : Int) = 48:=fun e=>hc (UInt8.toNat_inj.1 (by simpa using (by omega : c.toNat = 48)))
     clear b3
     repeat' (first
      |(with_reducible first|refine uK ?_|refine uQ ?_|refine uX ?_|refine jq fun K hK=>?_|refine jb ?_)|(with_reducible refine rS hE ?_;simp [*])|with_reducible refine rL hE ?_|(((with_reducible show RK _ _ _ _ _ _);first|refine jn ?_|refine js fun K' hK'=>?_);simp [*])|with_reducible refine rD mixed hE ?_|((with_reducible show RKQ _ _ _ _ _ _);first|refine RKQ_nilk ⟨by decide,?_⟩|(refine jv fun K' hK'=>?_;simp [*]))|((with_reducible first|refine ji fun X Y hX hY=>?_|refine jr ?_|refine jk ?_|refine jx ?_);simp [*])|with_reducible refine And.intro ?_ ?_|omega|(refine imp1 fun h=>?_))
     all_goals simp
  clear b1 b3
  refine AW_seqt ⟨[(0,strB l),(4,strB ds),(5,iA 0)],[]⟩ ?_ (by
   intro K hK
   repeat' (first
    |(with_reducible first|refine uK ?_|refine uX ?_|refine jq fun K hK=>?_|refine jb ?_)|((with_reducible first|refine rS hE ?_|refine jn ?_|refine js fun K' hK'=>?_|refine ji fun X Y hX hY=>?_|refine jr ?_|refine jk ?_|refine jx ?_);simp [*])|with_reducible refine rL hE ?_|with_reducible refine And.intro ?_ ?_|omega|(refine imp1 fun h=>?_))
   all_goals simp)
  refine AW_seqk fun K0 hK0=>?_
  refine AW_seqk fun K1 hK1=>?_
  repeat' (first
   |(with_reducible first|refine uK ?_|refine uX ?_|refine jq fun K hK=>?_|refine jb ?_)|((with_reducible first|refine rS hE ?_|refine jn ?_|refine js fun K' hK'=>?_|refine ji fun X Y hX hY=>?_|refine jr ?_|refine jk ?_|refine jx ?_);simp [*])|with_reducible refine rL hE ?_|with_reducible refine And.intro ?_ ?_|omega|(refine imp1 fun h=>?_))
  refine AW_loopk (G:=Nat × Nat) (fun g=>⟨[(6,iA g.1),(0,strB l),(4,strB ds),(5,iA g.2)],[]⟩)
   (fun g=>g.1 ≤ ds.length ∧ g.2 ≤ 4611686018427387904 ∧ Hld (finV l (vGo g.2 (ds.drop g.1)) = R)) (fun g=>ds.length - g.1) (0,0) ⟨by simp only;omega,by simp only;omega,by simpa using hR⟩ (by simp) ?_
  rintro ⟨i,n⟩ ⟨hi,hn,hv⟩ K hK
  clear hR
  simp only at hi hn hv
  by_cases hlt : i < ds.length
  ·have hd : ds.drop i = ds[i] :: ds.drop (i + 1):=List.drop_eq_getElem_cons hlt
   have hv':=hv.out
   rw [hd] at hv'
   unfold vGo at hv'
   clear hv hd
   have hc : ds[i].toNat < 256:=UInt8.toNat_lt _
   by_cases hD : isD ds[i]
   ·rw [if_pos hD] at hv'
    unfold isD at hD
    obtain ⟨D,hCD⟩ : ∃ D,ds[i].toNat = D + 48:=⟨ds[i].toNat - 48,by omega⟩
    rw [hCD,show D + 48 - 48 = D by omega] at hv'
    have hD9 : D ≤ 9:=by omega
    have k0 : (((ds[i]).toNat : Nat) : Int) = (D : Int) + 48:=by omega
    have k1 : IntKind.u8.wrap (D : Int) = D:=wu8 (by omega) (by omega)
    have k2 : IntKind.i64.wrap (D : Int) = D:=wi64 (by omega) (by omega)
    have b5 : ¬ (D : Int) + 48 < 48:=by omega
    have b6 : ¬ (57 : Int) < (D : Int) + 48:=by omega
    obtain ⟨q,hq⟩ : ∃ q,(4611686018427387904 - D) / 10 = q:=⟨_,rfl⟩
    rw [hq] at hv'
    have k3 : ((4611686018427387904 : Int) - (D : Int)).tdiv 10 = (q : Int):=by
     rw [show (4611686018427387904 : Int) - (D : Int) = ((4611686018427387904 - D : Nat) : Int) by omega,← hq]
     rfl
    have hqm : (q : Int) ≤ 4611686018427387904:=by omega
    clear hCD hD hc
    by_cases hqn : q < n
    ·rw [if_pos hqn] at hv'
     have hv2 : R = .tup [iA 0,bA false]:=hv'.symm
     subst hv2
     clear hv' hq
     have hqn2 : (q : Int) < (n : Int):=by omega
     repeat' (first
      |(with_reducible first|refine uK ?_|refine uQ ?_|refine uX ?_|refine jq fun K hK=>?_|refine jb ?_)|(with_reducible refine rS hE ?_;simp [*])|with_reducible refine rL hE ?_|(((with_reducible show RK _ _ _ _ _ _);first|refine jn ?_|refine js fun K' hK'=>?_);simp [*])|with_reducible refine rD mixed hE ?_|((with_reducible show RKQ _ _ _ _ _ _);first|refine RKQ_nilk ⟨by decide,?_⟩|(refine jv fun K' hK'=>?_;simp [*]))|((with_reducible first|refine ji fun X Y hX hY=>?_|refine jr ?_|refine jk ?_|refine jx ?_);simp [*])|with_reducible refine And.intro ?_ ?_|omega|(refine imp1 fun h=>?_))
    ·rw [if_neg hqn] at hv'
     have hle : 10 * n + D ≤ 4611686018427387904:=by omega
     have hqn2 : ¬ (q : Int) < (n : Int):=by omega
     have r1 : (10 : Int) * (n : Int) + (D : Int) ≤ 4611686018427387904:=by omega
     clear hqn hq
     replace hv':=Hld.mk hv'
     repeat' (first
      |(with_reducible first|refine uK ?_|refine uQ ?_|refine uX ?_|refine jq fun K hK=>?_|refine jb ?_)|(with_reducible refine rS hE ?_;simp [*])|with_reducible refine rL hE ?_|(((with_reducible show RK _ _ _ _ _ _);first|refine jn ?_|refine js fun K' hK'=>?_);simp [*])|with_reducible refine rD mixed hE ?_|((with_reducible show RKQ _ _ _ _ _ _);first|refine RKQ_nilk ⟨by decide,?_⟩|(refine jv fun K' hK'=>?_;simp [*]))|((with_reducible first|refine ji fun X Y hX hY=>?_|refine jr ?_|refine jk ?_|refine jx ?_);simp [*])|with_reducible refine And.intro ?_ ?_|omega|(refine imp1 fun h=>?_))
     all_goals exact ⟨(i + 1,10 * n + D),⟨by simp only;omega,hle,hv'⟩,by simp only;omega,by simp⟩
   ·rw [if_neg hD] at hv'
    unfold isD at hD
    have hv2 : R = .tup [iA 0,bA false]:=hv'.symm
    subst hv2
    by_cases h48 : (((ds[i]).toNat : Nat) : Int) < 48
    ·repeat' (first
      |(with_reducible first|refine uK ?_|refine uQ ?_|refine uX ?_|refine jq fun K hK=>?_|refine jb ?_)|(with_reducible refine rS hE ?_;simp [*])|with_reducible refine rL hE ?_|(((with_reducible show RK _ _ _ _ _ _);first|refine jn ?_|refine js fun K' hK'=>?_);simp [*])|with_reducible refine rD mixed hE ?_|((with_reducible show RKQ _ _ _ _ _ _);first|refine RKQ_nilk ⟨by decide,?_⟩|(refine jv fun K' hK'=>?_;simp [*]))|((with_reducible first|refine ji fun X Y hX hY=>?_|refine jr ?_|refine jk ?_|refine jx ?_);simp [*])|with_reducible refine And.intro ?_ ?_|omega|(refine imp1 fun h=>?_))
    ·have h57 : (57 : Int) < (((ds[i]).toNat : Nat) : Int):=by omega
     repeat' (first
      |(with_reducible first|refine uK ?_|refine uQ ?_|refine uX ?_|refine jq fun K hK=>?_|refine jb ?_)|(with_reducible refine rS hE ?_;simp [*])|with_reducible refine rL hE ?_|(((with_reducible show RK _ _ _ _ _ _);first|refine jn ?_|refine js fun K' hK'=>?_);simp [*])|with_reducible refine rD mixed hE ?_|((with_reducible show RKQ _ _ _ _ _ _);first|refine RKQ_nilk ⟨by decide,?_⟩|(refine jv fun K' hK'=>?_;simp [*]))|((with_reducible first|refine ji fun X Y hX hY=>?_|refine jr ?_|refine jk ?_|refine jx ?_);simp [*])|with_reducible refine And.intro ?_ ?_|omega|(refine imp1 fun h=>?_))
  ·have hil : i = ds.length:=by omega
   have hv':=hv.out
   rw [List.drop_of_length_le (by omega)] at hv'
   have hv2 : R = .tup [iA (if ds = l then (n : Int) else -(n : Int)),bA true]:=by
    rw [← hv',← hsg.out]
    rfl
   subst hil
   subst hv2
   clear hv hv' hlt
   by_cases hdl2 : ds = l
   ·subst hdl2
    repeat' (first
     |(with_reducible first|refine uK ?_|refine uQ ?_|refine uX ?_|refine jq fun K hK=>?_|refine jb ?_)|(with_reducible refine rS hE ?_;simp [*])|with_reducible refine rL hE ?_|(((with_reducible show RK _ _ _ _ _ _);first|refine jn ?_|refine js fun K' hK'=>?_);simp [*])|with_reducible refine rD mixed hE ?_|((with_reducible show RKQ _ _ _ _ _ _);first|refine RKQ_nilk ⟨by decide,?_⟩|(refine jv fun K' hK'=>?_;simp [*]))|((with_reducible first|refine ji fun X Y hX hY=>?_|refine jr ?_|refine jk ?_|refine jx ?_);simp [*])|with_reducible refine And.intro ?_ ?_|omega|(refine imp1 fun h=>?_))
   ·repeat' (first
     |(with_reducible first|refine uK ?_|refine uQ ?_|refine uX ?_|refine jq fun K hK=>?_|refine jb ?_)|(with_reducible refine rS hE ?_;simp [*])|with_reducible refine rL hE ?_|(((with_reducible show RK _ _ _ _ _ _);first|refine jn ?_|refine js fun K' hK'=>?_);simp [*])|with_reducible refine rD mixed hE ?_|((with_reducible show RKQ _ _ _ _ _ _);first|refine RKQ_nilk ⟨by decide,?_⟩|(refine jv fun K' hK'=>?_;simp [*]))|((with_reducible first|refine ji fun X Y hX hY=>?_|refine jr ?_|refine jk ?_|refine jx ?_);simp [*])|with_reducible refine And.intro ?_ ?_|omega|(refine imp1 fun h=>?_))
end Go.Proofs.YtbibemijcdkjhaaGreatDoor
end
section
namespace Go.Proofs.YtbibemijcdkjhaaGreatDoor
open Go.Am Go.Num
def ln (n : Int) : List UInt8:=Lib.itoa n ++ [10]
def lns (l : List Int) : List UInt8:=l.flatMap ln
theorem lns_cons (n : Int) (l : List Int) : lns (n :: l) = Lib.itoa n ++ 10 :: lns l:=by simp [lns,ln]
abbrev I64 (n : Int) : Prop := -9223372036854775808 ≤ n ∧ n ≤ 9223372036854775807
abbrev I62 (n : Int) : Prop := -4611686018427387904 ≤ n ∧ n ≤ 4611686018427387904
theorem ln_len {n : Int} (h : I64 n) : (ln n).length ≤ 21:=by
 have:=itoa_len n h.1 h.2
 unfold ln
 simp;omega
theorem ln_pos (n : Int) : 2 ≤ (ln n).length:=by
 have:=List.length_pos_iff.2 (itoa_ne n)
 unfold ln
 simp;omega
theorem lns_len {l : List Int} (h : ∀ n ∈ l,I64 n) : (lns l).length ≤ 21 * l.length:=by
 induction l with
 |nil=>simp [lns]
 |cons a l ih =>
  have h1:=ln_len (h a (by simp))
  have h2:=ih (fun n hn=>h n (by simp [hn]))
  have : lns (a :: l) = ln a ++ lns l:=rfl
  rw [this]
  simp;omega
theorem lns_ge (l : List Int) : 2 * l.length ≤ (lns l).length:=by
 induction l with
 |nil=>simp
 |cons a l ih =>
  have h1:=ln_pos a
  have : lns (a :: l) = ln a ++ lns l:=rfl
  rw [this]
  simp;omega
def numsA (acc : List UInt8) : List UInt8 → Option (List Int)
 |[]=>if acc = [] then some [] else none
 |c :: l=>if c = 10 then (match valueS acc with
  |none=>none
  |some n=>(numsA [] l).map (n :: ·)) else numsA (acc ++ [c]) l
def numsOf (s : List UInt8) : Option (List Int):=numsA [] s
theorem numsA_app {a l : List UInt8} (h : 10 ∉ a) : ∀ acc,numsA acc (a ++ l) = numsA (acc ++ a) l:=by
 induction a with
 |nil=>simp
 |cons c a ih =>
  intro acc
  simp only [List.mem_cons,not_or] at h
  rw [List.cons_append,numsA,if_neg (fun e=>h.1 e.symm),ih h.2]
  simp
theorem numsOf_nil : numsOf [] = some []:=rfl
theorem numsOf_no {s : List UInt8} (h : 10 ∉ s) (h0 : s ≠ []) : numsOf s = none:=by
 have:=numsA_app (l:=[]) h []
 rw [List.append_nil,List.nil_append] at this
 unfold numsOf
 rw [this,numsA,if_neg h0]
theorem numsOf_at {a r : List UInt8} (h : 10 ∉ a) : numsOf (a ++ 10 :: r) = match valueS a with
 |none=>none
 |some n=>(numsOf r).map (n :: ·):=by
 unfold numsOf
 rw [numsA_app h,List.nil_append,numsA,if_pos rfl]
theorem cut10 (s : List UInt8) : 10 ∉ s ∨ ∃ a r,s = a ++ 10 :: r ∧ 10 ∉ a:=by
 induction s with
 |nil=>exact .inl (by simp)
 |cons c s ih =>
  by_cases hc : c = 10
  ·exact .inr ⟨[],s,by rw [hc];rfl,by simp⟩
  ·rcases ih with h|⟨a,r,rfl,h⟩
   ·exact .inl (by simp only [List.mem_cons,not_or];exact ⟨fun e=>hc e.symm,h⟩)
   ·exact .inr ⟨c :: a,r,rfl,by simp only [List.mem_cons,not_or];exact ⟨fun e=>hc e.symm,h⟩⟩
theorem numsA_some : ∀ (s acc : List UInt8) (L : List Int),numsA acc s = some L → acc ++ s = lns L ∧ ∀ n ∈ L,I62 n
 |[],acc,L,h=>by
  unfold numsA at h
  split at h
  ·rename_i h0
   cases h
   rw [h0]
   exact ⟨rfl,by simp⟩
  ·cases h
 |c :: l,acc,L,h=>by
  unfold numsA at h
  split at h
  ·rename_i hc
   split at h
   ·cases h
   ·rename_i n hv
    rw [Option.map_eq_some_iff] at h
    obtain ⟨L',h',rfl⟩:=h
    obtain ⟨h1,h2⟩:=numsA_some l [] L' h'
    obtain ⟨h3,h4⟩:=val_some hv
    rw [List.nil_append] at h1
    rw [lns_cons,← h1,h3,hc]
    refine ⟨rfl,fun m hm=>?_⟩
    rcases List.mem_cons.1 hm with rfl|hm
    ·exact h4
    ·exact h2 m hm
  ·have:=numsA_some l (acc ++ [c]) L h
   rw [List.append_assoc] at this
   exact this
theorem numsOf_some {s : List UInt8} {L : List Int} (h : numsOf s = some L) : s = lns L ∧ ∀ n ∈ L,I62 n:=numsA_some s [] L h
theorem numsOf_lns {L : List Int} (h : ∀ n ∈ L,I62 n) : numsOf (lns L) = some L:=by
 induction L with
 |nil=>rfl
 |cons n L ih =>
  have hn:=h n (by simp)
  rw [lns_cons,numsOf_at (itoa_10 n),val_itoa n hn.1 hn.2,ih (fun m hm=>h m (by simp [hm]))]
  rfl
def ed0 : Ed:=⟨0,0,0,[],[]⟩
def segsOf : List Int → List Seg
 |a :: b :: c :: d :: e :: f :: g :: h :: i :: r=>⟨a,b,c,d,e,f,g,h,i⟩ :: segsOf r
 |_=>[]
def decA (k b u : Int) (rem : List Int) : List Int → Ed × Int
 |[]=>(ed0,22)
 |m :: l=>if m < 0 then (ed0,2) else if ((l.length / 9 : Nat) : Int) < m then (ed0,22) else if 9 * m < (l.length : Int) then (ed0,5) else (⟨k,b,u,rem,segsOf l⟩,0)
def decN : List Int → Ed × Int
 |k :: b :: u :: n :: l=>if n < 0 then (ed0,2) else if (l.length : Int) - 1 < n then (ed0,22) else decA k b u (l.take n.toNat) (l.drop n.toNat)
 |_=>(ed0,22)
def decS (s : List UInt8) : Ed × Int:=match numsOf s with
 |none=>(ed0,15)
 |some l=>decN l
theorem segs_nums (l : List Seg) : segsOf (l.flatMap numsS) = l:=by
 induction l with
 |nil=>rfl
 |cons s l ih=>simp only [List.flatMap_cons,numsS,List.cons_append,List.nil_append,segsOf,ih]
theorem nums_segs : ∀ (k : Nat) (l : List Int),l.length = 9 * k → (segsOf l).flatMap numsS = l ∧ (segsOf l).length = k
 |0,l,h=>by
  obtain rfl : l = []:=List.length_eq_zero_iff.1 (by omega)
  exact ⟨rfl,rfl⟩
 |k + 1,l,h=>by
  match l,h with
  |a :: b :: c :: d :: e :: f :: g :: h' :: i :: r,h =>
   obtain ⟨h1,h2⟩:=nums_segs k r (by simp at h;omega)
   refine ⟨?_,by simp [segsOf,h2]⟩
   simp only [segsOf,List.flatMap_cons,numsS,h1,List.cons_append,List.nil_append]
theorem decN_nums (e : Ed) : decN (numsE e) = (e,0):=by
 obtain ⟨k,b,u,rem,add⟩:=e
 have h : numsE ⟨k,b,u,rem,add⟩ = k :: b :: u :: (rem.length : Int) :: (rem ++ (add.length : Int) :: add.flatMap numsS):=by simp [numsE]
 rw [h,decN,if_neg (by omega),if_neg (by simp;omega)]
 rw [show ((rem.length : Int)).toNat = rem.length by omega,List.take_left,List.drop_left,decA,if_neg (by omega),numsS_len]
 rw [if_neg (by omega),if_neg (by omega),segs_nums]
theorem decN_ok {l : List Int} {e : Ed} {c : Int} (h : decN l = (e,c)) (hc : c = 0) : numsE e = l:=by
 subst hc
 unfold decN at h
 split at h
 ·rename_i k b u n l
  split at h
  ·cases h
  ·split at h
   ·cases h
   ·rename_i h1 h2
    unfold decA at h
    split at h
    ·cases h
    ·rename_i m l' hd
     split at h
     ·cases h
     ·split at h
      ·cases h
      ·split at h
       ·cases h
       ·rename_i h3 h4 h5
        cases h
        have hl : l = l.take n.toNat ++ m :: l':=by rw [← hd,List.take_append_drop]
        have hl' : l'.length = 9 * m.toNat:=by omega
        obtain ⟨g1,g2⟩:=nums_segs m.toNat l' hl'
        have ht : ((l.take n.toNat).length : Int) = n:=by rw [List.length_take];omega
        simp only [numsE,g1,g2]
        rw [ht,show ((m.toNat : Nat) : Int) = m by omega]
        conv=>rhs;rw [hl]
        simp
 ·cases h
theorem decN_bad {l : List Int} {e : Ed} {c : Int} (h : decN l = (e,c)) (hc : c ≠ 0) : e = ed0:=by
 unfold decN at h
 split at h
 ·split at h
  ·cases h;rfl
  ·split at h
   ·cases h;rfl
   ·unfold decA at h
    split at h
    ·cases h;rfl
    ·split at h
     ·cases h;rfl
     ·split at h
      ·cases h;rfl
      ·split at h
       ·cases h;rfl
       ·cases h;exact (hc rfl).elim
 ·cases h;rfl
theorem decS_ok {s : List UInt8} (h : (decS s).2 = 0) : lns (numsE (decS s).1) = s ∧ ∀ n ∈ numsE (decS s).1,I62 n:=by
 unfold decS at h ⊢
 cases hn : numsOf s with
 |none=>rw [hn] at h;cases h
 |some l =>
  rw [hn] at h
  simp only at h ⊢
  obtain ⟨h1,h2⟩:=numsOf_some hn
  have:=decN_ok (l:=l) (e:=(decN l).1) (c:=(decN l).2) rfl h
  rw [this]
  exact ⟨h1.symm,h2⟩
theorem decS_enc (e : Ed) (h : ∀ n ∈ numsE e,I62 n) : decS (lns (numsE e)) = (e,0):=by
 unfold decS
 rw [numsOf_lns h]
 exact decN_nums e
end Go.Proofs.YtbibemijcdkjhaaGreatDoor
end
section
namespace Go.Proofs.YtbibemijcdkjhaaGreatDoor
open Go.Am Go.RowKit Go.Num
end Go.Proofs.YtbibemijcdkjhaaGreatDoor
end
section
namespace Go.Am
open Go.Proofs Go.Proofs.YtbibemijcdkjhaaGreatDoor Go.RowKit
theorem PSpecL_ofD {P : Program} {L : World → Prop} (hst : Stays L) {f : FuncId} {fn : Func} {c : Code} {args : List AV} {res : AV} (hf : P.funcs[f]? = some fn) (hb : fn.body = some c) (hname : (fn.name == "runtime.NumGoroutine") = false) (hn : args.length ≤ fn.ntmps) (hnl : fn.ntmps ≤ 1000000)
 (h : ∀ E : Env,E.n = fn.ntmps → LaidE L E → AW P E c ⟨argSlots 0 args,[]⟩ (retQ P fn (fun x s=>DView s.box x res))) : PSpecL P L f args res:=by
 refine ⟨ent_of hf hname hb,fun H w vs hlw he hr=>?_⟩
 have hno : ∀ b,¬ OwnB rho0 (lk ([] : List (Nat × Ct))) b:=by rintro b ⟨id,c,cap,hc,_⟩;simp [lk] at hc
 refine entry (P:=P) (bx:=[]) hf hb he ⟨fun id c hc=>by simp [lk] at hc,fun id c b cap hc=>by simp [lk] at hc,fun id id' c c' b cap cap' hc=>by simp [lk] at hc⟩ hr hn hnl _
  (h _ rfl (fun w' hfr=>hst w w' hlw (FrameBut.below ⟨hfr.os,hfr.tape,hfr.output,hfr.size,fun k hk _=>hfr.block k hk (hno k)⟩))) ?_
 intro x s H' ρ' a' w' v hv hs hrx
 have hmine : ∀ b,(Env.mine ⟨w,H,OwnB rho0 (lk []),fn.ntmps,rho0⟩ b) → w.heap.size ≤ b:=by
  rintro b (h|h)
  ·exact h
  ·exact (hno b h).elim
 have hle : H'.le (thaw H' w.heap.size w'):=fun b o u hu=>by simp [thaw,hu]
 refine ⟨thaw H' w.heap.size w',v,rfl,fun b o u hu=>hle _ _ _ (hs.h0 b o u hu),?_,?_,?_,?_⟩
 ·intro b o u hu hu0
  simp only [thaw] at hu
  split at hu
  ·exact hmine b (hs.new b o u hu hu0)
  ·split at hu
   ·assumption
   ·cases hu
 ·intro b o u hu
  simp only [thaw] at hu
  split at hu
  ·exact hs.ext b o u hu
  ·split at hu
   ·exact hu
   ·cases hu
 ·refine dview_rep hs.boxes.rep hle ?_ hv hrx
  intro id c b cap hc hbd o u hu
  have h1:=hs.boxes.apart id c b cap hc hbd
  simp [thaw,h1.1 o,hmine b h1.2.2,hu]
 ·refine FrameBut.below ⟨hs.frame.os,hs.frame.tape,hs.frame.output,hs.frame.size,fun k hk _=>hs.frame.block k hk (hno k)⟩
end Go.Am
namespace Go.Proofs.YtbibemijcdkjhaaGreatDoor
open Go.Am Go.RowKit Go.Num
def linesR (s : List UInt8) : AV:=match numsOf s with
 |some L=>.tup [.sl 1 (L.map iA),bA true]
 |none=>.tup [.sl 1 [],bA false]
theorem s_SCutY (a r : List UInt8) (h : 10 ∉ a) (hl : (a ++ 10 :: r).length ≤ 1000000) : PSpec Tryz.prog 75 [strB (a ++ 10 :: r),strB [10]] (.tup [strB a,strB r,bA true]):=by
 have hc:=Hld.mk (s_cutY a r h hl)
 generalize a ++ 10 :: r = S at *
 refine PSpec_of Tryz.func75 rfl rfl (Nat.le_of_ble_eq_true rfl) (Nat.le_of_ble_eq_true rfl) ?_
 intro E hE
 repeat' (first
  |(with_reducible first|refine uK ?_|refine uX ?_|refine jq fun K hK=>?_|refine jb ?_)|((with_reducible first|refine rS hE ?_|refine jn ?_|refine js fun K' hK'=>?_|refine ji fun X Y hX hY=>?_|refine jr ?_|refine jk ?_|refine jx ?_);simp [*])|with_reducible refine rL hE ?_|(refine jC (hc.out) ?_ ?_ ?_;(iterate 2 focus (simp [*] <;> fail));simp [*])|with_reducible refine And.intro ?_ ?_|omega|(refine imp1 fun h=>?_))
theorem s_SCutN (l : List UInt8) (h : 10 ∉ l) : PSpec Tryz.prog 75 [strB l,strB [10]] (.tup [strB l,strB [],bA false]):=by
 have hc:=Hld.mk (s_cutN l h)
 clear h
 refine PSpec_of Tryz.func75 rfl rfl (Nat.le_of_ble_eq_true rfl) (Nat.le_of_ble_eq_true rfl) ?_
 intro E hE
 repeat' (first
  |(with_reducible first|refine uK ?_|refine uX ?_|refine jq fun K hK=>?_|refine jb ?_)|((with_reducible first|refine rS hE ?_|refine jn ?_|refine js fun K' hK'=>?_|refine ji fun X Y hX hY=>?_|refine jr ?_|refine jk ?_|refine jx ?_);simp [*])|with_reducible refine rL hE ?_|(refine jC (hc.out) ?_ ?_ ?_;(iterate 2 focus (simp [*] <;> fail));simp [*])|with_reducible refine And.intro ?_ ?_|omega|(refine imp1 fun h=>?_))
set_option maxHeartbeats 8000000 in
theorem s_lines (s0 : List UInt8) (hl : s0.length ≤ 1000000) : PSpecL Tryz.prog LW 41 [strB s0] (linesR s0):=by
 have key : ∃ X : List Int → List UInt8 → AV,X [] s0 = linesR s0 ∧ (∀ L,X L [] = .tup [.sl 1 (L.map iA),bA true]) ∧ (∀ L s,10 ∉ s → s ≠ [] → X L s = .tup [.sl 1 [],bA false]) ∧
  (∀ L a r,10 ∉ a → valueS a = none → X L (a ++ 10 :: r) = .tup [.sl 1 [],bA false]) ∧ (∀ L a r n,10 ∉ a → valueS a = some n → X L (a ++ 10 :: r) = X (L ++ [n]) r):=by
  refine ⟨fun L s=>match numsOf s with|some M=>.tup [.sl 1 ((L ++ M).map iA),bA true]|none=>.tup [.sl 1 [],bA false],?_,?_,?_,?_,?_⟩
  ·unfold linesR;simp
  ·intro L;simp [numsOf_nil]
  ·intro L s h h0;simp only [numsOf_no h h0]
  ·intro L a r h hv;simp only [numsOf_at h,hv]
  ·intro L a r n h hv
   simp only [numsOf_at h,hv]
   cases numsOf r <;> simp
 obtain ⟨X,x0,x1,x2,x3,x4⟩:=key
 rw [← x0]
 generalize hR : X [] s0 = R
 clear x0
 replace hR:=Hld.mk hR
 replace x1:=Hld.mk x1
 replace x2:=Hld.mk x2
 replace x3:=Hld.mk x3
 replace x4:=Hld.mk x4
 refine PSpecL_ofD stays_LW Tryz.func41 rfl rfl (Nat.le_of_ble_eq_true rfl) (Nat.le_of_ble_eq_true rfl) ?_
 intro E hE hLd
 refine AW_seqt ⟨[(0,strB s0)],[]⟩ ?_ (by
  intro K hK
  repeat' (first
   |(with_reducible first|refine uK ?_|refine uQ ?_|refine uX ?_|refine jq fun K hK=>?_|refine jb ?_)|(with_reducible refine rS hE ?_;simp [*])|with_reducible refine rL hE ?_|(((with_reducible show RK _ _ _ _ _ _);first|refine jn ?_|refine js fun K' hK'=>?_);simp [*])|with_reducible refine rD mixed hE ?_|((with_reducible show RKQ _ _ _ _ _ _);first|refine RKQ_nilk ⟨by decide,?_⟩|(refine jv fun K' hK'=>?_;simp [*]))|((with_reducible first|refine ji fun X Y hX hY=>?_|refine jr ?_|refine jk ?_|refine jx ?_);simp [*])|with_reducible refine And.intro ?_ ?_|omega|(refine imp1 fun h=>?_))
  all_goals simp)
 refine AW_seqt ⟨[(4,.v (.slice none 0 0)),(0,strB s0)],[]⟩ ?_ (by
  intro K hK
  repeat' (first
   |(with_reducible first|refine uK ?_|refine uQ ?_|refine uX ?_|refine jq fun K hK=>?_|refine jb ?_)|(with_reducible refine rS hE ?_;simp [*])|with_reducible refine rL hE ?_|(((with_reducible show RK _ _ _ _ _ _);first|refine jn ?_|refine js fun K' hK'=>?_);simp [*])|with_reducible refine rD mixed hE ?_|((with_reducible show RKQ _ _ _ _ _ _);first|refine RKQ_nilk ⟨by decide,?_⟩|(refine jv fun K' hK'=>?_;simp [*]))|((with_reducible first|refine ji fun X Y hX hY=>?_|refine jr ?_|refine jk ?_|refine jx ?_);simp [*])|with_reducible refine And.intro ?_ ?_|omega|(refine imp1 fun h=>?_))
  all_goals simp)
 refine AW_mkrow 4 900 3 1 rfl rfl rfl (by omega) ?_
 refine AW_seqk fun K0 hK0=>?_
 repeat' (first
  |(with_reducible first|refine uK ?_|refine uX ?_|refine jq fun K hK=>?_|refine jb ?_)|((with_reducible first|refine rS hE ?_|refine jn ?_|refine js fun K' hK'=>?_|refine ji fun X Y hX hY=>?_|refine jr ?_|refine jk ?_|refine jx ?_);simp [*])|with_reducible refine rL hE ?_|with_reducible refine And.intro ?_ ?_|omega|(refine imp1 fun h=>?_))
 refine AW_loopk (G:=List Int × List UInt8) (fun g=>⟨[(0,strB g.2),(4,.own 900 1 0 g.1.length)],[(900,.arr 3 1 (g.1.map iA))]⟩)
  (fun g=>g.1.length + g.2.length ≤ 1000000 ∧ Hld (X g.1 g.2 = R)) (fun g=>g.2.length) ([],s0) ⟨by simpa using hl,hR⟩ (by simp) ?_
 rintro ⟨L,s⟩ ⟨hb,hX⟩ K hK
 clear hR
 simp only at hb hX
 by_cases h0 : s = []
 ·subst h0
  have h1:=hX.out.symm.trans (x1.out L)
  subst h1
  clear hX x1 x2 x3 x4
  repeat' (first
   |(with_reducible first|refine uK ?_|refine uQ ?_|refine uX ?_|refine jq fun K hK=>?_|refine jb ?_)|(with_reducible refine rS hE ?_;simp [*])|with_reducible refine rL hE ?_|(((with_reducible show RK _ _ _ _ _ _);first|refine jn ?_|refine js fun K' hK'=>?_);simp [*])|with_reducible refine rD mixed hE ?_|((with_reducible show RKQ _ _ _ _ _ _);first|refine RKQ_nilk ⟨by decide,?_⟩|(refine jv fun K' hK'=>?_;simp [*]))|((with_reducible first|refine ji fun X Y hX hY=>?_|refine jr ?_|refine jk ?_|refine jx ?_);simp [*])|with_reducible refine And.intro ?_ ?_|omega|(refine imp1 fun h=>?_))
  all_goals exact DView.tupL ⟨.base (by simp),.base (by simp),trivial⟩
 ·rcases cut10 s with h|⟨a,r,rfl,h⟩
  ·have h1:=hX.out.symm.trans (x2.out L s h h0)
   subst h1
   clear hX x1 x2 x3 x4
   have hc:=Hld.mk (s_SCutN s h)
   have h00 : 0 < s.length:=List.length_pos_iff.2 h0
   obtain ⟨m,m0,m1,hp|hp⟩:=s_pi s (by omega)
   all_goals
    clear h
    replace hp:=Hld.mk hp
    repeat' (first
     |(with_reducible first|refine uK ?_|refine uQ ?_|refine uX ?_|refine jq fun K hK=>?_|refine jb ?_)|(with_reducible refine rS hE ?_;simp [*])|with_reducible refine rL hE ?_|(((with_reducible show RK _ _ _ _ _ _);first|refine jn ?_|refine js fun K' hK'=>?_);simp [*])|with_reducible refine rD mixed hE ?_|((with_reducible show RKQ _ _ _ _ _ _);first|refine RKQ_nilk ⟨by decide,?_⟩|(refine jv fun K' hK'=>?_;simp [*]))|((with_reducible first|refine ji fun X Y hX hY=>?_|refine jr ?_|refine jk ?_|refine jx ?_);simp [*])|((first|refine jC (hc.out) ?_ ?_ ?_|refine jQ (hc.out) ?_ ?_ ?_);(iterate 2 focus (simp [*] <;> fail));simp [*])|(refine acall_sameL hLd (hp.out) ?_ ?_ ?_;(iterate 2 focus (simp [*] <;> fail));simp [*])|with_reducible refine And.intro ?_ ?_|omega|(refine imp1 fun h=>?_))
    all_goals exact DView.tupL ⟨.base (by simp),.base (by simp),trivial⟩
  ·simp only [List.length_append,List.length_cons] at hb
   have hc:=Hld.mk (s_SCutY a r h (by simp;omega))
   have hsz : 0 < (a ++ 10 :: r).length:=by simp;omega
   cases hv : valueS a with
   |none =>
    have h1:=hX.out.symm.trans (x3.out L a r h hv)
    subst h1
    have hne : ∀ m, -4611686018427387904 ≤ m → m ≤ 4611686018427387904 → Lib.itoa m ≠ a:=by
     rintro m m0 m1 rfl
     rw [val_itoa m m0 m1] at hv
     cases hv
    clear hX x1 x2 x3 x4 h hv
    obtain ⟨m,m0,m1,hp|hp⟩:=s_pi a (by omega)
    ·have hf:=Hld.mk (s_fmt m m0 m1)
     replace hp:=Hld.mk hp
     generalize a ++ 10 :: r = S at *
     by_cases hq : Lib.itoa m = a
     ·by_cases hlo : m < -4611686018427387904
      ·repeat' (first
        |(with_reducible first|refine uK ?_|refine uQ ?_|refine uX ?_|refine jq fun K hK=>?_|refine jb ?_)|(with_reducible refine rS hE ?_;simp [*])|with_reducible refine rL hE ?_|(((with_reducible show RK _ _ _ _ _ _);first|refine jn ?_|refine js fun K' hK'=>?_);simp [*])|with_reducible refine rD mixed hE ?_|((with_reducible show RKQ _ _ _ _ _ _);first|refine RKQ_nilk ⟨by decide,?_⟩|(refine jv fun K' hK'=>?_;simp [*]))|((with_reducible first|refine ji fun X Y hX hY=>?_|refine jr ?_|refine jk ?_|refine jx ?_);simp [*])|((first|refine jC (hc.out) ?_ ?_ ?_|refine jQ (hc.out) ?_ ?_ ?_);(iterate 2 focus (simp [*] <;> fail));simp [*])|(refine acall_sameL hLd (hp.out) ?_ ?_ ?_;(iterate 2 focus (simp [*] <;> fail));simp [*])|(refine acall_sameL hLd (hf.out) ?_ ?_ ?_;(iterate 2 focus (simp [*] <;> fail));simp [*])|with_reducible refine And.intro ?_ ?_|omega|(refine imp1 fun h=>?_))
       all_goals exact DView.tupL ⟨.base (by simp),.base (by simp),trivial⟩
      ·have hhi : 4611686018427387904 < m:=by
        rcases Int.lt_or_le 4611686018427387904 m with h|h
        ·exact h
        ·exact (hne m (by omega) h hq).elim
       repeat' (first
        |(with_reducible first|refine uK ?_|refine uQ ?_|refine uX ?_|refine jq fun K hK=>?_|refine jb ?_)|(with_reducible refine rS hE ?_;simp [*])|with_reducible refine rL hE ?_|(((with_reducible show RK _ _ _ _ _ _);first|refine jn ?_|refine js fun K' hK'=>?_);simp [*])|with_reducible refine rD mixed hE ?_|((with_reducible show RKQ _ _ _ _ _ _);first|refine RKQ_nilk ⟨by decide,?_⟩|(refine jv fun K' hK'=>?_;simp [*]))|((with_reducible first|refine ji fun X Y hX hY=>?_|refine jr ?_|refine jk ?_|refine jx ?_);simp [*])|((first|refine jC (hc.out) ?_ ?_ ?_|refine jQ (hc.out) ?_ ?_ ?_);(iterate 2 focus (simp [*] <;> fail));simp [*])|(refine acall_sameL hLd (hp.out) ?_ ?_ ?_;(iterate 2 focus (simp [*] <;> fail));simp [*])|(refine acall_sameL hLd (hf.out) ?_ ?_ ?_;(iterate 2 focus (simp [*] <;> fail));simp [*])|with_reducible refine And.intro ?_ ?_|omega|(refine imp1 fun h=>?_))
       all_goals exact DView.tupL ⟨.base (by simp),.base (by simp),trivial⟩
     ·repeat' (first
       |(with_reducible first|refine uK ?_|refine uQ ?_|refine uX ?_|refine jq fun K hK=>?_|refine jb ?_)|(with_reducible refine rS hE ?_;simp [*])|with_reducible refine rL hE ?_|(((with_reducible show RK _ _ _ _ _ _);first|refine jn ?_|refine js fun K' hK'=>?_);simp [*])|with_reducible refine rD mixed hE ?_|((with_reducible show RKQ _ _ _ _ _ _);first|refine RKQ_nilk ⟨by decide,?_⟩|(refine jv fun K' hK'=>?_;simp [*]))|((with_reducible first|refine ji fun X Y hX hY=>?_|refine jr ?_|refine jk ?_|refine jx ?_);simp [*])|((first|refine jC (hc.out) ?_ ?_ ?_|refine jQ (hc.out) ?_ ?_ ?_);(iterate 2 focus (simp [*] <;> fail));simp [*])|(refine acall_sameL hLd (hp.out) ?_ ?_ ?_;(iterate 2 focus (simp [*] <;> fail));simp [*])|(refine acall_sameL hLd (hf.out) ?_ ?_ ?_;(iterate 2 focus (simp [*] <;> fail));simp [*])|with_reducible refine And.intro ?_ ?_|omega|(refine imp1 fun h=>?_))
      all_goals exact DView.tupL ⟨.base (by simp),.base (by simp),trivial⟩
    ·replace hp:=Hld.mk hp
     generalize a ++ 10 :: r = S at *
     repeat' (first
      |(with_reducible first|refine uK ?_|refine uQ ?_|refine uX ?_|refine jq fun K hK=>?_|refine jb ?_)|(with_reducible refine rS hE ?_;simp [*])|with_reducible refine rL hE ?_|(((with_reducible show RK _ _ _ _ _ _);first|refine jn ?_|refine js fun K' hK'=>?_);simp [*])|with_reducible refine rD mixed hE ?_|((with_reducible show RKQ _ _ _ _ _ _);first|refine RKQ_nilk ⟨by decide,?_⟩|(refine jv fun K' hK'=>?_;simp [*]))|((with_reducible first|refine ji fun X Y hX hY=>?_|refine jr ?_|refine jk ?_|refine jx ?_);simp [*])|((first|refine jC (hc.out) ?_ ?_ ?_|refine jQ (hc.out) ?_ ?_ ?_);(iterate 2 focus (simp [*] <;> fail));simp [*])|(refine acall_sameL hLd (hp.out) ?_ ?_ ?_;(iterate 2 focus (simp [*] <;> fail));simp [*])|with_reducible refine And.intro ?_ ?_|omega|(refine imp1 fun h=>?_))
     all_goals exact DView.tupL ⟨.base (by simp),.base (by simp),trivial⟩
   |some n =>
    have h1:=hX.out.symm.trans (x4.out L a r n h hv)
    obtain ⟨rfl,n0,n1⟩:=val_some hv
    have hp:=Hld.mk (s_piN n (by omega) (by omega))
    have hf:=Hld.mk (s_fmt n (by omega) (by omega))
    clear hX x1 x2 x3 x4 h hv
    replace h1:=Hld.mk h1.symm
    have hlo : ¬ n < -4611686018427387904:=by omega
    have hhi : ¬ 4611686018427387904 < n:=by omega
    have hlt : r.length < (Lib.itoa n ++ 10 :: r).length:=by simp;omega
    generalize Lib.itoa n ++ 10 :: r = S at *
    repeat' (first
     |(with_reducible first|refine uK ?_|refine uQ ?_|refine uX ?_|refine jq fun K hK=>?_|refine jb ?_)|(with_reducible refine rS hE ?_;simp [*])|with_reducible refine rL hE ?_|(((with_reducible show RK _ _ _ _ _ _);first|refine jn ?_|refine js fun K' hK'=>?_);simp [*])|with_reducible refine rD mixed hE ?_|((with_reducible show RKQ _ _ _ _ _ _);first|refine RKQ_nilk ⟨by decide,?_⟩|(refine jv fun K' hK'=>?_;simp [*]))|((with_reducible first|refine ji fun X Y hX hY=>?_|refine jr ?_|refine jk ?_|refine jx ?_);simp [*])|((first|refine jC (hc.out) ?_ ?_ ?_|refine jQ (hc.out) ?_ ?_ ?_);(iterate 2 focus (simp [*] <;> fail));simp [*])|(refine acall_sameL hLd (hp.out) ?_ ?_ ?_;(iterate 2 focus (simp [*] <;> fail));simp [*])|(refine acall_sameL hLd (hf.out) ?_ ?_ ?_;(iterate 2 focus (simp [*] <;> fail));simp [*])|with_reducible refine And.intro ?_ ?_|omega|(refine imp1 fun h=>?_))
    all_goals exact ⟨(L ++ [n],r),⟨by simp;omega,h1⟩,by simp only;omega,by simp⟩
end Go.Proofs.YtbibemijcdkjhaaGreatDoor
end
