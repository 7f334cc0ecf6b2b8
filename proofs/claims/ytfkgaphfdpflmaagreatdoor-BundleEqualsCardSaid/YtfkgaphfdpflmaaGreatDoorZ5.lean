/- Integers, fractions, intervals, units as data (printed by genR -/
import Derived.Test.YtfkgaphfdpflmaaGreatDoorZ4
import Derived.Test.YtfkgaphfdpflmaaGreatDoorZ6
import Derived.Test.YtfkgaphfdpflmaaGreatDoorZ3
import Derived.Test.YtfkgaphfdpflmaaGreatDoorZD
set_option maxRecDepth 100000
set_option linter.unusedSimpArgs false
set_option linter.unusedVariables false
namespace Go.Proofs.YtfkgaphfdpflmaaGreatDoor
open Go.Am
abbrev iA (n : Int) : AV:=.v (.int .i64 n)
abbrev uA (n : Nat) : AV:=.v (.int .u8 n)
abbrev wA (n : Nat) : AV:=.v (.int .u64 n)
abbrev bA (b : Bool) : AV:=.v (.bool b)
abbrev eA : AV:=.v (.string ⟨#[]⟩)
def mgF : Nat → Nat → List UInt8
 |0,_=>[]
 |f + 1,u=>if u = 0 then [] else mgF f (u / 256) ++ [UInt8.ofNat (u % 256)]
def mgL (u : Nat) : List UInt8:=mgF u u
theorem mgF_fuel : ∀ (f g u : Nat),u ≤ f → u ≤ g → mgF f u = mgF g u
 |0,0,_,_,_=>rfl
 |0,g + 1,u,h,_=>by
  have : u = 0:=by omega
  simp [mgF,this]
 |f + 1,0,u,_,h=>by
  have : u = 0:=by omega
  simp [mgF,this]
 |f + 1,g + 1,u,h1,h2=>by
  simp only [mgF]
  split
  ·rfl
  ·rw [mgF_fuel f g (u / 256) (by omega) (by omega)]
theorem mgL_zero : mgL 0 = []:=rfl
theorem mgL_pos {u : Nat} (h : u ≠ 0) : mgL u = mgL (u / 256) ++ [UInt8.ofNat (u % 256)]:=by
 obtain ⟨v,rfl⟩ : ∃ v,u = v + 1:=⟨u - 1,by omega⟩
 unfold mgL
 rw [mgF,if_neg h,mgF_fuel v _ _ (by omega) (Nat.le_refl _)]
def vL (l : List UInt8) : Nat:=l.foldl (fun a b=>a * 256 + b.toNat) 0
theorem vL_snoc (l : List UInt8) (b : UInt8) : vL (l ++ [b]) = vL l * 256 + b.toNat:=by simp [vL]
theorem vL_mgL (u : Nat) : vL (mgL u) = u:=by
 by_cases h : u = 0
 ·subst h;rfl
 ·rw [mgL_pos h,vL_snoc,vL_mgL (u / 256)]
  simp
  omega
termination_by u
decreasing_by omega
theorem mgL_inj {a b : Nat} : mgL a = mgL b ↔ a = b:=⟨fun h=>by rw [← vL_mgL a,h,vL_mgL],fun h=>by rw [h]⟩
theorem mgL_eq_nil {a : Nat} : mgL a = [] ↔ a = 0:=by rw [← mgL_zero,mgL_inj]
theorem mgL_bounds (u : Nat) : u < 256 ^ (mgL u).length ∧ (u ≠ 0 → 256 ^ ((mgL u).length - 1) ≤ u):=by
 by_cases h : u = 0
 ·subst h;simp [mgL_zero]
 ·obtain ⟨h1,h2⟩:=mgL_bounds (u / 256)
  rw [mgL_pos h,List.length_append,List.length_singleton,Nat.pow_succ]
  refine ⟨by omega,fun _=>?_⟩
  by_cases hd : u / 256 = 0
  ·rw [hd,mgL_zero];simp;omega
  ·have h3:=h2 hd
   have hl : (mgL (u / 256)).length ≠ 0:=fun e=>hd (mgL_eq_nil.1 (List.length_eq_zero_iff.1 e))
   rw [Nat.add_sub_cancel,show (mgL (u / 256)).length = (mgL (u / 256)).length - 1 + 1 by omega,Nat.pow_succ]
   omega
termination_by u
decreasing_by omega
theorem pow_lt_cancel {m n : Nat} (h : 256 ^ m < 256 ^ n) : m < n:=(Nat.pow_lt_pow_iff_right (by omega)).1 h
theorem mgL_len {u n : Nat} (h1 : u < 256 ^ n) (h2 : u ≠ 0 → 256 ^ (n - 1) ≤ u) (h0 : u = 0 → n = 0) : (mgL u).length = n:=by
 obtain ⟨h3,h4⟩:=mgL_bounds u
 by_cases h : u = 0
 ·rw [h,mgL_zero,h0 h];rfl
 ·have a1:=pow_lt_cancel (Nat.lt_of_le_of_lt (h4 h) h1)
  have a2:=pow_lt_cancel (Nat.lt_of_le_of_lt (h2 h) h3)
  have : (mgL u).length ≠ 0:=fun e=>h (mgL_eq_nil.1 (List.length_eq_zero_iff.1 e))
  omega
theorem mgL_len_le {u n : Nat} (h : u < 256 ^ n) : (mgL u).length ≤ n:=by
 obtain ⟨h3,h4⟩:=mgL_bounds u
 by_cases h0 : u = 0
 ·rw [h0,mgL_zero];simp
 ·have a1:=pow_lt_cancel (Nat.lt_of_le_of_lt (h4 h0) h)
  omega
theorem mgL_get : ∀ (n u : Nat),(mgL u).length = n → ∀ i,i < n → (mgL u)[n - 1 - i]? = some (UInt8.ofNat (u / 256 ^ i % 256))
 |0,_,_,i,hi=>by omega
 |n + 1,u,hn,i,hi=>by
  have h : u ≠ 0:=fun e=>by rw [e,mgL_zero] at hn;simp at hn
  rw [mgL_pos h] at hn ⊢
  simp at hn
  rcases i with _|i
  ·simp [hn]
  ·have:=mgL_get n (u / 256) hn i (by omega)
   rw [List.getElem?_append_left (by omega),show n + 1 - 1 - (i + 1) = n - 1 - i by omega,this,Nat.pow_succ,Nat.mul_comm,← Nat.div_div_eq_div_mul]
def mgB (u : Nat) : ByteArray:=⟨(mgL u).toArray⟩
abbrev mgA (u : Nat) : AV:=.v (.string (mgB u))
@[simp] theorem mgB_inj {a b : Nat} : mgB a = mgB b ↔ a = b:=by
  rw [← mgL_inj]
  simp [mgB]
theorem mgB_zero : mgB 0 = ⟨#[]⟩:=rfl
@[simp] theorem mgB_nil {a : Nat} : mgB a = ⟨#[]⟩ ↔ a = 0:=by rw [← mgB_zero,mgB_inj]
theorem mgB_size (a : Nat) : (mgB a).size = (mgL a).length:=by simp [mgB,ByteArray.size]
def sgn (b : Bool) (n : Nat) : Int:=if b then -(n : Int) else n
def dn (q : Rat) : Nat:=if q.den = 1 then 0 else q.den
structure Iv where
 (f t : Rat)
 (fo to : Bool)
 deriving DecidableEq
structure Ln where
 (x0 x1 y0 y1 : Rat)
 deriving DecidableEq
structure Un where
 (f t : Rat)
 (fo to : Bool)
 (x0 x1 y0 y1 : Rat)
 deriving DecidableEq
def Un.i (u : Un) : Iv:=⟨u.f,u.t,u.fo,u.to⟩
def Un.l (u : Un) : Ln:=⟨u.x0,u.x1,u.y0,u.y1⟩
structure Qd where
 (c0 c1 c2 : Rat)
 deriving DecidableEq
structure Pt where
 (x y : Rat)
 deriving DecidableEq
structure Sm where
 (t x y : Rat)
 deriving DecidableEq
@[simp] theorem idf_I (l : List _) : idfL (l.map iA) = true:=by induction l with|nil=>rfl|cons a l ih=>simp [ih]
@[simp] theorem ment_I (d : Nat) (l : List _) : mentL d (l.map iA) = false:=by induction l with|nil=>rfl|cons a l ih=>simp [ih]
@[simp] theorem ids_I (l : List _) : idsA (l.map iA) = []:=by induction l with|nil=>rfl|cons a l ih=>simp [ih]
@[simp] theorem ren_I (σ : Nat → Nat) (l : List _) : renL σ (l.map iA) = l.map iA:=by induction l with|nil=>rfl|cons a l ih=>simp [ih]
@[simp] theorem flat_I (l : List _) : flatL (l.map iA) = true:=by induction l with|nil=>rfl|cons a l ih=>simp [ih]
def encZ (e : Int) : AV:=.st [bA (decide (e < 0)),mgA e.natAbs]
@[simp] theorem encZ_cells (e : Int) : (encZ e).cells = [bA (decide (e < 0)),mgA e.natAbs]:=rfl
@[simp] theorem encZ_isSt (e : Int) : (encZ e).isSt = true:=rfl
@[simp] theorem encZ_sto (e : Int) : (encZ e).sto = true:=rfl
@[simp] theorem encZ_one (e : Int) : (encZ e).one = false:=rfl
@[simp] theorem encZ_kn (e : Int) : (encZ e).kn = true:=rfl
@[simp] theorem encZ_flat (e : Int) : (encZ e).flat = true:=rfl
@[simp] theorem encZ_idf (e : Int) : (encZ e).idf = true:=by simp [encZ,AV.idf]
@[simp] theorem encZ_ment (d : Nat) (e : Int) : (encZ e).ment d = false:=by simp [encZ]
@[simp] theorem encZ_ren (σ : Nat → Nat) (e : Int) : (encZ e).ren σ = encZ e:=by simp [encZ]
@[simp] theorem encZ_ids (e : Int) : (encZ e).ids = []:=by simp [encZ]
@[simp] theorem encZ_idsOf (e : Int) : idsOf (encZ e) = []:=by simp [encZ]
@[simp] theorem view_encZ {bf : Nat → Option Ct} {e : Int} : View bf (encZ e) (encZ e):=view_self (by simp)
def encQ (e : Rat) : AV:=.st [bA (decide (e.num < 0)),mgA e.num.natAbs,bA false,mgA (dn e)]
@[simp] theorem encQ_cells (e : Rat) : (encQ e).cells = [bA (decide (e.num < 0)),mgA e.num.natAbs,bA false,mgA (dn e)]:=rfl
@[simp] theorem encQ_isSt (e : Rat) : (encQ e).isSt = true:=rfl
@[simp] theorem encQ_sto (e : Rat) : (encQ e).sto = true:=rfl
@[simp] theorem encQ_one (e : Rat) : (encQ e).one = false:=rfl
@[simp] theorem encQ_kn (e : Rat) : (encQ e).kn = true:=rfl
@[simp] theorem encQ_flat (e : Rat) : (encQ e).flat = true:=rfl
@[simp] theorem encQ_idf (e : Rat) : (encQ e).idf = true:=by simp [encQ,AV.idf]
@[simp] theorem encQ_ment (d : Nat) (e : Rat) : (encQ e).ment d = false:=by simp [encQ]
@[simp] theorem encQ_ren (σ : Nat → Nat) (e : Rat) : (encQ e).ren σ = encQ e:=by simp [encQ]
@[simp] theorem encQ_ids (e : Rat) : (encQ e).ids = []:=by simp [encQ]
@[simp] theorem encQ_idsOf (e : Rat) : idsOf (encQ e) = []:=by simp [encQ]
@[simp] theorem view_encQ {bf : Nat → Option Ct} {e : Rat} : View bf (encQ e) (encQ e):=view_self (by simp)
@[simp] theorem idf_LQ (l : List _) : idfL (l.map encQ) = true:=by induction l with|nil=>rfl|cons a l ih=>simp [ih]
@[simp] theorem ment_LQ (d : Nat) (l : List _) : mentL d (l.map encQ) = false:=by induction l with|nil=>rfl|cons a l ih=>simp [ih]
@[simp] theorem ids_LQ (l : List _) : idsA (l.map encQ) = []:=by induction l with|nil=>rfl|cons a l ih=>simp [ih]
@[simp] theorem ren_LQ (σ : Nat → Nat) (l : List _) : renL σ (l.map encQ) = l.map encQ:=by induction l with|nil=>rfl|cons a l ih=>simp [ih]
@[simp] theorem flat_LQ (l : List _) : flatL (l.map encQ) = true:=by induction l with|nil=>rfl|cons a l ih=>simp [ih]
def encR (e : Rat) : AV:=.st [bA (decide (e.num < 0)),mgA e.num.natAbs,bA false,mgA (dn e),bA false,eA,bA false,eA,bA false]
@[simp] theorem encR_cells (e : Rat) : (encR e).cells = [bA (decide (e.num < 0)),mgA e.num.natAbs,bA false,mgA (dn e),bA false,eA,bA false,eA,bA false]:=rfl
@[simp] theorem encR_isSt (e : Rat) : (encR e).isSt = true:=rfl
@[simp] theorem encR_sto (e : Rat) : (encR e).sto = true:=rfl
@[simp] theorem encR_one (e : Rat) : (encR e).one = false:=rfl
@[simp] theorem encR_kn (e : Rat) : (encR e).kn = true:=rfl
@[simp] theorem encR_flat (e : Rat) : (encR e).flat = true:=rfl
@[simp] theorem encR_idf (e : Rat) : (encR e).idf = true:=by simp [encR,AV.idf]
@[simp] theorem encR_ment (d : Nat) (e : Rat) : (encR e).ment d = false:=by simp [encR]
@[simp] theorem encR_ren (σ : Nat → Nat) (e : Rat) : (encR e).ren σ = encR e:=by simp [encR]
@[simp] theorem encR_ids (e : Rat) : (encR e).ids = []:=by simp [encR]
@[simp] theorem encR_idsOf (e : Rat) : idsOf (encR e) = []:=by simp [encR]
@[simp] theorem view_encR {bf : Nat → Option Ct} {e : Rat} : View bf (encR e) (encR e):=view_self (by simp)
@[simp] theorem idf_LR (l : List _) : idfL (l.map encR) = true:=by induction l with|nil=>rfl|cons a l ih=>simp [ih]
@[simp] theorem ment_LR (d : Nat) (l : List _) : mentL d (l.map encR) = false:=by induction l with|nil=>rfl|cons a l ih=>simp [ih]
@[simp] theorem ids_LR (l : List _) : idsA (l.map encR) = []:=by induction l with|nil=>rfl|cons a l ih=>simp [ih]
@[simp] theorem ren_LR (σ : Nat → Nat) (l : List _) : renL σ (l.map encR) = l.map encR:=by induction l with|nil=>rfl|cons a l ih=>simp [ih]
@[simp] theorem flat_LR (l : List _) : flatL (l.map encR) = true:=by induction l with|nil=>rfl|cons a l ih=>simp [ih]
def encV (e : Iv) : AV:=.st [bA (decide (e.f.num < 0)),mgA e.f.num.natAbs,bA false,mgA (dn e.f),bA false,eA,bA false,eA,bA false,bA (decide (e.t.num < 0)),mgA e.t.num.natAbs,bA false,mgA (dn e.t),bA false,eA,bA false,eA,bA false,bA e.fo,bA e.to]
@[simp] theorem encV_cells (e : Iv) : (encV e).cells = [bA (decide (e.f.num < 0)),mgA e.f.num.natAbs,bA false,mgA (dn e.f),bA false,eA,bA false,eA,bA false,bA (decide (e.t.num < 0)),mgA e.t.num.natAbs,bA false,mgA (dn e.t),bA false,eA,bA false,eA,bA false,bA e.fo,bA e.to]:=rfl
@[simp] theorem encV_isSt (e : Iv) : (encV e).isSt = true:=rfl
@[simp] theorem encV_sto (e : Iv) : (encV e).sto = true:=rfl
@[simp] theorem encV_one (e : Iv) : (encV e).one = false:=rfl
@[simp] theorem encV_kn (e : Iv) : (encV e).kn = true:=rfl
@[simp] theorem encV_flat (e : Iv) : (encV e).flat = true:=rfl
@[simp] theorem encV_idf (e : Iv) : (encV e).idf = true:=by simp [encV,AV.idf]
@[simp] theorem encV_ment (d : Nat) (e : Iv) : (encV e).ment d = false:=by simp [encV]
@[simp] theorem encV_ren (σ : Nat → Nat) (e : Iv) : (encV e).ren σ = encV e:=by simp [encV]
@[simp] theorem encV_ids (e : Iv) : (encV e).ids = []:=by simp [encV]
@[simp] theorem encV_idsOf (e : Iv) : idsOf (encV e) = []:=by simp [encV]
@[simp] theorem view_encV {bf : Nat → Option Ct} {e : Iv} : View bf (encV e) (encV e):=view_self (by simp)
@[simp] theorem idf_LV (l : List _) : idfL (l.map encV) = true:=by induction l with|nil=>rfl|cons a l ih=>simp [ih]
@[simp] theorem ment_LV (d : Nat) (l : List _) : mentL d (l.map encV) = false:=by induction l with|nil=>rfl|cons a l ih=>simp [ih]
@[simp] theorem ids_LV (l : List _) : idsA (l.map encV) = []:=by induction l with|nil=>rfl|cons a l ih=>simp [ih]
@[simp] theorem ren_LV (σ : Nat → Nat) (l : List _) : renL σ (l.map encV) = l.map encV:=by induction l with|nil=>rfl|cons a l ih=>simp [ih]
@[simp] theorem flat_LV (l : List _) : flatL (l.map encV) = true:=by induction l with|nil=>rfl|cons a l ih=>simp [ih]
def encL (e : Ln) : AV:=.st [bA (decide (e.x0.num < 0)),mgA e.x0.num.natAbs,bA false,mgA (dn e.x0),bA (decide (e.x1.num < 0)),mgA e.x1.num.natAbs,bA false,mgA (dn e.x1),bA (decide (e.y0.num < 0)),mgA e.y0.num.natAbs,bA false,mgA (dn e.y0),bA (decide (e.y1.num < 0)),mgA e.y1.num.natAbs,bA false,mgA (dn e.y1)]
@[simp] theorem encL_cells (e : Ln) : (encL e).cells = [bA (decide (e.x0.num < 0)),mgA e.x0.num.natAbs,bA false,mgA (dn e.x0),bA (decide (e.x1.num < 0)),mgA e.x1.num.natAbs,bA false,mgA (dn e.x1),bA (decide (e.y0.num < 0)),mgA e.y0.num.natAbs,bA false,mgA (dn e.y0),bA (decide (e.y1.num < 0)),mgA e.y1.num.natAbs,bA false,mgA (dn e.y1)]:=rfl
@[simp] theorem encL_isSt (e : Ln) : (encL e).isSt = true:=rfl
@[simp] theorem encL_sto (e : Ln) : (encL e).sto = true:=rfl
@[simp] theorem encL_one (e : Ln) : (encL e).one = false:=rfl
@[simp] theorem encL_kn (e : Ln) : (encL e).kn = true:=rfl
@[simp] theorem encL_flat (e : Ln) : (encL e).flat = true:=rfl
@[simp] theorem encL_idf (e : Ln) : (encL e).idf = true:=by simp [encL,AV.idf]
@[simp] theorem encL_ment (d : Nat) (e : Ln) : (encL e).ment d = false:=by simp [encL]
@[simp] theorem encL_ren (σ : Nat → Nat) (e : Ln) : (encL e).ren σ = encL e:=by simp [encL]
@[simp] theorem encL_ids (e : Ln) : (encL e).ids = []:=by simp [encL]
@[simp] theorem encL_idsOf (e : Ln) : idsOf (encL e) = []:=by simp [encL]
@[simp] theorem view_encL {bf : Nat → Option Ct} {e : Ln} : View bf (encL e) (encL e):=view_self (by simp)
def encU (e : Un) : AV:=.st [bA (decide (e.f.num < 0)),mgA e.f.num.natAbs,bA false,mgA (dn e.f),bA false,eA,bA false,eA,bA false,bA (decide (e.t.num < 0)),mgA e.t.num.natAbs,bA false,mgA (dn e.t),bA false,eA,bA false,eA,bA false,bA e.fo,bA e.to,bA (decide (e.x0.num < 0)),mgA e.x0.num.natAbs,bA false,mgA (dn e.x0),bA (decide (e.x1.num < 0)),mgA e.x1.num.natAbs,bA false,mgA (dn e.x1),bA (decide (e.y0.num < 0)),mgA e.y0.num.natAbs,bA false,mgA (dn e.y0),bA (decide (e.y1.num < 0)),mgA e.y1.num.natAbs,bA false,mgA (dn e.y1)]
@[simp] theorem encU_cells (e : Un) : (encU e).cells = [bA (decide (e.f.num < 0)),mgA e.f.num.natAbs,bA false,mgA (dn e.f),bA false,eA,bA false,eA,bA false,bA (decide (e.t.num < 0)),mgA e.t.num.natAbs,bA false,mgA (dn e.t),bA false,eA,bA false,eA,bA false,bA e.fo,bA e.to,bA (decide (e.x0.num < 0)),mgA e.x0.num.natAbs,bA false,mgA (dn e.x0),bA (decide (e.x1.num < 0)),mgA e.x1.num.natAbs,bA false,mgA (dn e.x1),bA (decide (e.y0.num < 0)),mgA e.y0.num.natAbs,bA false,mgA (dn e.y0),bA (decide (e.y1.num < 0)),mgA e.y1.num.natAbs,bA false,mgA (dn e.y1)]:=rfl
@[simp] theorem encU_isSt (e : Un) : (encU e).isSt = true:=rfl
@[simp] theorem encU_sto (e : Un) : (encU e).sto = true:=rfl
@[simp] theorem encU_one (e : Un) : (encU e).one = false:=rfl
@[simp] theorem encU_kn (e : Un) : (encU e).kn = true:=rfl
@[simp] theorem encU_flat (e : Un) : (encU e).flat = true:=rfl
@[simp] theorem encU_idf (e : Un) : (encU e).idf = true:=by simp [encU,AV.idf]
@[simp] theorem encU_ment (d : Nat) (e : Un) : (encU e).ment d = false:=by simp [encU]
@[simp] theorem encU_ren (σ : Nat → Nat) (e : Un) : (encU e).ren σ = encU e:=by simp [encU]
@[simp] theorem encU_ids (e : Un) : (encU e).ids = []:=by simp [encU]
@[simp] theorem encU_idsOf (e : Un) : idsOf (encU e) = []:=by simp [encU]
@[simp] theorem view_encU {bf : Nat → Option Ct} {e : Un} : View bf (encU e) (encU e):=view_self (by simp)
@[simp] theorem idf_LU (l : List _) : idfL (l.map encU) = true:=by induction l with|nil=>rfl|cons a l ih=>simp [ih]
@[simp] theorem ment_LU (d : Nat) (l : List _) : mentL d (l.map encU) = false:=by induction l with|nil=>rfl|cons a l ih=>simp [ih]
@[simp] theorem ids_LU (l : List _) : idsA (l.map encU) = []:=by induction l with|nil=>rfl|cons a l ih=>simp [ih]
@[simp] theorem ren_LU (σ : Nat → Nat) (l : List _) : renL σ (l.map encU) = l.map encU:=by induction l with|nil=>rfl|cons a l ih=>simp [ih]
@[simp] theorem flat_LU (l : List _) : flatL (l.map encU) = true:=by induction l with|nil=>rfl|cons a l ih=>simp [ih]
def encD (e : Qd) : AV:=.st [bA (decide (e.c0.num < 0)),mgA e.c0.num.natAbs,bA false,mgA (dn e.c0),bA (decide (e.c1.num < 0)),mgA e.c1.num.natAbs,bA false,mgA (dn e.c1),bA (decide (e.c2.num < 0)),mgA e.c2.num.natAbs,bA false,mgA (dn e.c2)]
@[simp] theorem encD_cells (e : Qd) : (encD e).cells = [bA (decide (e.c0.num < 0)),mgA e.c0.num.natAbs,bA false,mgA (dn e.c0),bA (decide (e.c1.num < 0)),mgA e.c1.num.natAbs,bA false,mgA (dn e.c1),bA (decide (e.c2.num < 0)),mgA e.c2.num.natAbs,bA false,mgA (dn e.c2)]:=rfl
@[simp] theorem encD_isSt (e : Qd) : (encD e).isSt = true:=rfl
@[simp] theorem encD_sto (e : Qd) : (encD e).sto = true:=rfl
@[simp] theorem encD_one (e : Qd) : (encD e).one = false:=rfl
@[simp] theorem encD_kn (e : Qd) : (encD e).kn = true:=rfl
@[simp] theorem encD_flat (e : Qd) : (encD e).flat = true:=rfl
@[simp] theorem encD_idf (e : Qd) : (encD e).idf = true:=by simp [encD,AV.idf]
@[simp] theorem encD_ment (d : Nat) (e : Qd) : (encD e).ment d = false:=by simp [encD]
@[simp] theorem encD_ren (σ : Nat → Nat) (e : Qd) : (encD e).ren σ = encD e:=by simp [encD]
@[simp] theorem encD_ids (e : Qd) : (encD e).ids = []:=by simp [encD]
@[simp] theorem encD_idsOf (e : Qd) : idsOf (encD e) = []:=by simp [encD]
@[simp] theorem view_encD {bf : Nat → Option Ct} {e : Qd} : View bf (encD e) (encD e):=view_self (by simp)
def encP (e : Pt) : AV:=.st [bA (decide (e.x.num < 0)),mgA e.x.num.natAbs,bA false,mgA (dn e.x),bA (decide (e.y.num < 0)),mgA e.y.num.natAbs,bA false,mgA (dn e.y)]
@[simp] theorem encP_cells (e : Pt) : (encP e).cells = [bA (decide (e.x.num < 0)),mgA e.x.num.natAbs,bA false,mgA (dn e.x),bA (decide (e.y.num < 0)),mgA e.y.num.natAbs,bA false,mgA (dn e.y)]:=rfl
@[simp] theorem encP_isSt (e : Pt) : (encP e).isSt = true:=rfl
@[simp] theorem encP_sto (e : Pt) : (encP e).sto = true:=rfl
@[simp] theorem encP_one (e : Pt) : (encP e).one = false:=rfl
@[simp] theorem encP_kn (e : Pt) : (encP e).kn = true:=rfl
@[simp] theorem encP_flat (e : Pt) : (encP e).flat = true:=rfl
@[simp] theorem encP_idf (e : Pt) : (encP e).idf = true:=by simp [encP,AV.idf]
@[simp] theorem encP_ment (d : Nat) (e : Pt) : (encP e).ment d = false:=by simp [encP]
@[simp] theorem encP_ren (σ : Nat → Nat) (e : Pt) : (encP e).ren σ = encP e:=by simp [encP]
@[simp] theorem encP_ids (e : Pt) : (encP e).ids = []:=by simp [encP]
@[simp] theorem encP_idsOf (e : Pt) : idsOf (encP e) = []:=by simp [encP]
@[simp] theorem view_encP {bf : Nat → Option Ct} {e : Pt} : View bf (encP e) (encP e):=view_self (by simp)
def encA (e : Pt) : AV:=.st [bA (decide (e.x.num < 0)),mgA e.x.num.natAbs,bA false,mgA (dn e.x),bA false,eA,bA false,eA,bA false,bA (decide (e.y.num < 0)),mgA e.y.num.natAbs,bA false,mgA (dn e.y),bA false,eA,bA false,eA,bA false]
@[simp] theorem encA_cells (e : Pt) : (encA e).cells = [bA (decide (e.x.num < 0)),mgA e.x.num.natAbs,bA false,mgA (dn e.x),bA false,eA,bA false,eA,bA false,bA (decide (e.y.num < 0)),mgA e.y.num.natAbs,bA false,mgA (dn e.y),bA false,eA,bA false,eA,bA false]:=rfl
@[simp] theorem encA_isSt (e : Pt) : (encA e).isSt = true:=rfl
@[simp] theorem encA_sto (e : Pt) : (encA e).sto = true:=rfl
@[simp] theorem encA_one (e : Pt) : (encA e).one = false:=rfl
@[simp] theorem encA_kn (e : Pt) : (encA e).kn = true:=rfl
@[simp] theorem encA_flat (e : Pt) : (encA e).flat = true:=rfl
@[simp] theorem encA_idf (e : Pt) : (encA e).idf = true:=by simp [encA,AV.idf]
@[simp] theorem encA_ment (d : Nat) (e : Pt) : (encA e).ment d = false:=by simp [encA]
@[simp] theorem encA_ren (σ : Nat → Nat) (e : Pt) : (encA e).ren σ = encA e:=by simp [encA]
@[simp] theorem encA_ids (e : Pt) : (encA e).ids = []:=by simp [encA]
@[simp] theorem encA_idsOf (e : Pt) : idsOf (encA e) = []:=by simp [encA]
@[simp] theorem view_encA {bf : Nat → Option Ct} {e : Pt} : View bf (encA e) (encA e):=view_self (by simp)
def encS (e : Sm) : AV:=.st [bA (decide (e.t.num < 0)),mgA e.t.num.natAbs,bA false,mgA (dn e.t),bA (decide (e.x.num < 0)),mgA e.x.num.natAbs,bA false,mgA (dn e.x),bA (decide (e.y.num < 0)),mgA e.y.num.natAbs,bA false,mgA (dn e.y)]
@[simp] theorem encS_cells (e : Sm) : (encS e).cells = [bA (decide (e.t.num < 0)),mgA e.t.num.natAbs,bA false,mgA (dn e.t),bA (decide (e.x.num < 0)),mgA e.x.num.natAbs,bA false,mgA (dn e.x),bA (decide (e.y.num < 0)),mgA e.y.num.natAbs,bA false,mgA (dn e.y)]:=rfl
@[simp] theorem encS_isSt (e : Sm) : (encS e).isSt = true:=rfl
@[simp] theorem encS_sto (e : Sm) : (encS e).sto = true:=rfl
@[simp] theorem encS_one (e : Sm) : (encS e).one = false:=rfl
@[simp] theorem encS_kn (e : Sm) : (encS e).kn = true:=rfl
@[simp] theorem encS_flat (e : Sm) : (encS e).flat = true:=rfl
@[simp] theorem encS_idf (e : Sm) : (encS e).idf = true:=by simp [encS,AV.idf]
@[simp] theorem encS_ment (d : Nat) (e : Sm) : (encS e).ment d = false:=by simp [encS]
@[simp] theorem encS_ren (σ : Nat → Nat) (e : Sm) : (encS e).ren σ = encS e:=by simp [encS]
@[simp] theorem encS_ids (e : Sm) : (encS e).ids = []:=by simp [encS]
@[simp] theorem encS_idsOf (e : Sm) : idsOf (encS e) = []:=by simp [encS]
@[simp] theorem view_encS {bf : Nat → Option Ct} {e : Sm} : View bf (encS e) (encS e):=view_self (by simp)
@[simp] theorem idf_LS (l : List _) : idfL (l.map encS) = true:=by induction l with|nil=>rfl|cons a l ih=>simp [ih]
@[simp] theorem ment_LS (d : Nat) (l : List _) : mentL d (l.map encS) = false:=by induction l with|nil=>rfl|cons a l ih=>simp [ih]
@[simp] theorem ids_LS (l : List _) : idsA (l.map encS) = []:=by induction l with|nil=>rfl|cons a l ih=>simp [ih]
@[simp] theorem ren_LS (σ : Nat → Nat) (l : List _) : renL σ (l.map encS) = l.map encS:=by induction l with|nil=>rfl|cons a l ih=>simp [ih]
@[simp] theorem flat_LS (l : List _) : flatL (l.map encS) = true:=by induction l with|nil=>rfl|cons a l ih=>simp [ih]
theorem encZ_sgn (b : Bool) (n : Nat) : encZ (sgn b n) = .st [bA (b && !decide (n = 0)),mgA n]:=by
 cases b <;> simp [encZ,sgn]
 rcases n with _|n <;> simp
theorem sgn_self (z : Int) : sgn (decide (z < 0)) z.natAbs = z:=by
 unfold sgn
 by_cases h : z < 0 <;> simp [h] <;> omega
theorem w64 {n : Int} (h0 : 0 ≤ n) (h1 : n < 18446744073709551616) : IntKind.u64.wrap n = n:=wrap_in .u64 (by simpa using h0) (by simp [IntKind.max,IntKind.bits,IntKind.signed];omega)
theorem viewL_same (bf : Nat → Option Ct) : ∀ l : List AV,idfL l = true → ViewL bf l l:=by
 intro l
 induction l with
 |nil=>intro _;trivial
 |cons x l ih =>
  intro h
  simp only [idfL,Bool.and_eq_true] at h
  exact ⟨.inl ⟨rfl,h.1⟩,ih h.2⟩
theorem acall_same {P : Program} {E : Env} {f : FuncId} {args : List AV} {s : AState} {d : Option Tmp} {res : AV} {K : AState → Prop} (h : PSpec P f args res) (hi : idfL args = true) (hr : res.idf = true) (hk : K (s.put d res)) : ACall P E f args s d K :=
 ACall_pure h (viewL_same _ _ hi) (.inr ⟨rfl,hi,hr⟩) hk
theorem acall_view {P : Program} {E : Env} {f : FuncId} {args ds : List AV} {s : AState} {d : Option Tmp} {res : AV} {K : AState → Prop} (h : PSpec P f ds res) (hv : ViewL s.box args ds) (hr : res.flat = true) (hk : K (s.put d res)) : ACall P E f args s d K :=
 ACall_pure h hv (.inl hr) hk
theorem QCall_congr' {P : Program} {f : FuncId} {args args' : List AV} {bf : Nat → Option Ct} {d : Option Tmp} {k : AV → Option Ct → Prop} (h : args = args') : QCall P f args bf d k = QCall P f args' bf d k:=by rw [h]
theorem ACall_congr' {P : Program} {E : Env} {f : FuncId} {args args' : List AV} {s : AState} {d : Option Tmp} {K : AState → Prop} (h : args = args') : ACall P E f args s d K = ACall P E f args' s d K:=by rw [h]
attribute [congr] QCall_congr' ACall_congr'
structure Bx where
 (x0 x1 y0 y1 t0 t1 : Int)
 deriving DecidableEq
structure Nd where
 (first count : Int)
 (b : Bx)
 deriving DecidableEq
structure Ht where
 (o u : Int)
 deriving DecidableEq
structure Ob where
 (id : Int)
 (us : List Un)
 deriving DecidableEq
structure Lf where
 (o first : Int)
 (us : List Un)
 (b : Bx)
 deriving DecidableEq
structure Tr where
 (size : Int)
 (lv : List Lf)
 (ns : List (List Nd))
 deriving DecidableEq
abbrev unL (l : List Un) : AV:=.sl 36 (l.map encU)
def encX (e : Bx) : AV:=.st [iA e.x0,iA e.x1,iA e.y0,iA e.y1,iA e.t0,iA e.t1]
@[simp] theorem encX_cells (e : Bx) : (encX e).cells = [iA e.x0,iA e.x1,iA e.y0,iA e.y1,iA e.t0,iA e.t1]:=rfl
@[simp] theorem encX_isSt (e : Bx) : (encX e).isSt = true:=rfl
@[simp] theorem encX_sto (e : Bx) : (encX e).sto = true:=rfl
@[simp] theorem encX_one (e : Bx) : (encX e).one = false:=rfl
@[simp] theorem encX_kn (e : Bx) : (encX e).kn = true:=rfl
@[simp] theorem encX_flat (e : Bx) : (encX e).flat = true:=rfl
@[simp] theorem encX_idf (e : Bx) : (encX e).idf = true:=by simp [encX,AV.idf]
@[simp] theorem encX_ment (d : Nat) (e : Bx) : (encX e).ment d = false:=by simp [encX]
@[simp] theorem encX_ren (σ : Nat → Nat) (e : Bx) : (encX e).ren σ = encX e:=by simp [encX]
@[simp] theorem encX_ids (e : Bx) : (encX e).ids = []:=by simp [encX]
@[simp] theorem encX_idsOf (e : Bx) : idsOf (encX e) = []:=by simp [encX]
@[simp] theorem view_encX {bf : Nat → Option Ct} {e : Bx} : View bf (encX e) (encX e):=view_self (by simp)
@[simp] theorem idf_LX (l : List _) : idfL (l.map encX) = true:=by induction l with|nil=>rfl|cons a l ih=>simp [ih]
@[simp] theorem ment_LX (d : Nat) (l : List _) : mentL d (l.map encX) = false:=by induction l with|nil=>rfl|cons a l ih=>simp [ih]
@[simp] theorem ids_LX (l : List _) : idsA (l.map encX) = []:=by induction l with|nil=>rfl|cons a l ih=>simp [ih]
@[simp] theorem ren_LX (σ : Nat → Nat) (l : List _) : renL σ (l.map encX) = l.map encX:=by induction l with|nil=>rfl|cons a l ih=>simp [ih]
@[simp] theorem flat_LX (l : List _) : flatL (l.map encX) = true:=by induction l with|nil=>rfl|cons a l ih=>simp [ih]
def encN (e : Nd) : AV:=.st [iA e.first,iA e.count,iA e.b.x0,iA e.b.x1,iA e.b.y0,iA e.b.y1,iA e.b.t0,iA e.b.t1]
@[simp] theorem encN_cells (e : Nd) : (encN e).cells = [iA e.first,iA e.count,iA e.b.x0,iA e.b.x1,iA e.b.y0,iA e.b.y1,iA e.b.t0,iA e.b.t1]:=rfl
@[simp] theorem encN_isSt (e : Nd) : (encN e).isSt = true:=rfl
@[simp] theorem encN_sto (e : Nd) : (encN e).sto = true:=rfl
@[simp] theorem encN_one (e : Nd) : (encN e).one = false:=rfl
@[simp] theorem encN_kn (e : Nd) : (encN e).kn = true:=rfl
@[simp] theorem encN_flat (e : Nd) : (encN e).flat = true:=rfl
@[simp] theorem encN_idf (e : Nd) : (encN e).idf = true:=by simp [encN,AV.idf]
@[simp] theorem encN_ment (d : Nat) (e : Nd) : (encN e).ment d = false:=by simp [encN]
@[simp] theorem encN_ren (σ : Nat → Nat) (e : Nd) : (encN e).ren σ = encN e:=by simp [encN]
@[simp] theorem encN_ids (e : Nd) : (encN e).ids = []:=by simp [encN]
@[simp] theorem encN_idsOf (e : Nd) : idsOf (encN e) = []:=by simp [encN]
@[simp] theorem view_encN {bf : Nat → Option Ct} {e : Nd} : View bf (encN e) (encN e):=view_self (by simp)
@[simp] theorem idf_LN (l : List _) : idfL (l.map encN) = true:=by induction l with|nil=>rfl|cons a l ih=>simp [ih]
@[simp] theorem ment_LN (d : Nat) (l : List _) : mentL d (l.map encN) = false:=by induction l with|nil=>rfl|cons a l ih=>simp [ih]
@[simp] theorem ids_LN (l : List _) : idsA (l.map encN) = []:=by induction l with|nil=>rfl|cons a l ih=>simp [ih]
@[simp] theorem ren_LN (σ : Nat → Nat) (l : List _) : renL σ (l.map encN) = l.map encN:=by induction l with|nil=>rfl|cons a l ih=>simp [ih]
@[simp] theorem flat_LN (l : List _) : flatL (l.map encN) = true:=by induction l with|nil=>rfl|cons a l ih=>simp [ih]
def encH (e : Ht) : AV:=.st [iA e.o,iA e.u]
@[simp] theorem encH_cells (e : Ht) : (encH e).cells = [iA e.o,iA e.u]:=rfl
@[simp] theorem encH_isSt (e : Ht) : (encH e).isSt = true:=rfl
@[simp] theorem encH_sto (e : Ht) : (encH e).sto = true:=rfl
@[simp] theorem encH_one (e : Ht) : (encH e).one = false:=rfl
@[simp] theorem encH_kn (e : Ht) : (encH e).kn = true:=rfl
@[simp] theorem encH_flat (e : Ht) : (encH e).flat = true:=rfl
@[simp] theorem encH_idf (e : Ht) : (encH e).idf = true:=by simp [encH,AV.idf]
@[simp] theorem encH_ment (d : Nat) (e : Ht) : (encH e).ment d = false:=by simp [encH]
@[simp] theorem encH_ren (σ : Nat → Nat) (e : Ht) : (encH e).ren σ = encH e:=by simp [encH]
@[simp] theorem encH_ids (e : Ht) : (encH e).ids = []:=by simp [encH]
@[simp] theorem encH_idsOf (e : Ht) : idsOf (encH e) = []:=by simp [encH]
@[simp] theorem view_encH {bf : Nat → Option Ct} {e : Ht} : View bf (encH e) (encH e):=view_self (by simp)
@[simp] theorem idf_LH (l : List _) : idfL (l.map encH) = true:=by induction l with|nil=>rfl|cons a l ih=>simp [ih]
@[simp] theorem ment_LH (d : Nat) (l : List _) : mentL d (l.map encH) = false:=by induction l with|nil=>rfl|cons a l ih=>simp [ih]
@[simp] theorem ids_LH (l : List _) : idsA (l.map encH) = []:=by induction l with|nil=>rfl|cons a l ih=>simp [ih]
@[simp] theorem ren_LH (σ : Nat → Nat) (l : List _) : renL σ (l.map encH) = l.map encH:=by induction l with|nil=>rfl|cons a l ih=>simp [ih]
@[simp] theorem flat_LH (l : List _) : flatL (l.map encH) = true:=by induction l with|nil=>rfl|cons a l ih=>simp [ih]
def encO (e : Ob) : AV:=.st [iA e.id,unL e.us]
@[simp] theorem encO_cells (e : Ob) : (encO e).cells = [iA e.id,unL e.us]:=rfl
@[simp] theorem encO_isSt (e : Ob) : (encO e).isSt = true:=rfl
@[simp] theorem encO_sto (e : Ob) : (encO e).sto = true:=rfl
@[simp] theorem encO_one (e : Ob) : (encO e).one = false:=rfl
@[simp] theorem encO_kn (e : Ob) : (encO e).kn = true:=rfl
@[simp] theorem encO_idf (e : Ob) : (encO e).idf = true:=by simp [encO,AV.idf]
@[simp] theorem encO_ment (d : Nat) (e : Ob) : (encO e).ment d = false:=by simp [encO]
@[simp] theorem encO_ren (σ : Nat → Nat) (e : Ob) : (encO e).ren σ = encO e:=by simp [encO]
@[simp] theorem encO_ids (e : Ob) : (encO e).ids = []:=by simp [encO]
@[simp] theorem encO_idsOf (e : Ob) : idsOf (encO e) = []:=by simp [encO]
@[simp] theorem view_encO {bf : Nat → Option Ct} {e : Ob} : View bf (encO e) (encO e):=view_self (by simp)
@[simp] theorem idf_LO (l : List _) : idfL (l.map encO) = true:=by induction l with|nil=>rfl|cons a l ih=>simp [ih]
@[simp] theorem ment_LO (d : Nat) (l : List _) : mentL d (l.map encO) = false:=by induction l with|nil=>rfl|cons a l ih=>simp [ih]
@[simp] theorem ids_LO (l : List _) : idsA (l.map encO) = []:=by induction l with|nil=>rfl|cons a l ih=>simp [ih]
@[simp] theorem ren_LO (σ : Nat → Nat) (l : List _) : renL σ (l.map encO) = l.map encO:=by induction l with|nil=>rfl|cons a l ih=>simp [ih]
def encF (e : Lf) : AV:=.st [iA e.o,iA e.first,unL e.us,iA e.b.x0,iA e.b.x1,iA e.b.y0,iA e.b.y1,iA e.b.t0,iA e.b.t1]
@[simp] theorem encF_cells (e : Lf) : (encF e).cells = [iA e.o,iA e.first,unL e.us,iA e.b.x0,iA e.b.x1,iA e.b.y0,iA e.b.y1,iA e.b.t0,iA e.b.t1]:=rfl
@[simp] theorem encF_isSt (e : Lf) : (encF e).isSt = true:=rfl
@[simp] theorem encF_sto (e : Lf) : (encF e).sto = true:=rfl
@[simp] theorem encF_one (e : Lf) : (encF e).one = false:=rfl
@[simp] theorem encF_kn (e : Lf) : (encF e).kn = true:=rfl
@[simp] theorem encF_idf (e : Lf) : (encF e).idf = true:=by simp [encF,AV.idf]
@[simp] theorem encF_ment (d : Nat) (e : Lf) : (encF e).ment d = false:=by simp [encF]
@[simp] theorem encF_ren (σ : Nat → Nat) (e : Lf) : (encF e).ren σ = encF e:=by simp [encF]
@[simp] theorem encF_ids (e : Lf) : (encF e).ids = []:=by simp [encF]
@[simp] theorem encF_idsOf (e : Lf) : idsOf (encF e) = []:=by simp [encF]
@[simp] theorem view_encF {bf : Nat → Option Ct} {e : Lf} : View bf (encF e) (encF e):=view_self (by simp)
@[simp] theorem idf_LF (l : List _) : idfL (l.map encF) = true:=by induction l with|nil=>rfl|cons a l ih=>simp [ih]
@[simp] theorem ment_LF (d : Nat) (l : List _) : mentL d (l.map encF) = false:=by induction l with|nil=>rfl|cons a l ih=>simp [ih]
@[simp] theorem ids_LF (l : List _) : idsA (l.map encF) = []:=by induction l with|nil=>rfl|cons a l ih=>simp [ih]
@[simp] theorem ren_LF (σ : Nat → Nat) (l : List _) : renL σ (l.map encF) = l.map encF:=by induction l with|nil=>rfl|cons a l ih=>simp [ih]
abbrev ndL (l : List Nd) : AV:=.sl 8 (l.map encN)
@[simp] theorem idf_LLN (l : List _) : idfL (l.map ndL) = true:=by induction l with|nil=>rfl|cons a l ih=>simp [ih]
@[simp] theorem ment_LLN (d : Nat) (l : List _) : mentL d (l.map ndL) = false:=by induction l with|nil=>rfl|cons a l ih=>simp [ih]
@[simp] theorem ids_LLN (l : List _) : idsA (l.map ndL) = []:=by induction l with|nil=>rfl|cons a l ih=>simp [ih]
@[simp] theorem ren_LLN (σ : Nat → Nat) (l : List _) : renL σ (l.map ndL) = l.map ndL:=by induction l with|nil=>rfl|cons a l ih=>simp [ih]
def encT (e : Tr) : AV:=.st [iA e.size,.sl 9 (e.lv.map encF),.sl 1 (e.ns.map ndL)]
@[simp] theorem encT_cells (e : Tr) : (encT e).cells = [iA e.size,.sl 9 (e.lv.map encF),.sl 1 (e.ns.map ndL)]:=rfl
@[simp] theorem encT_isSt (e : Tr) : (encT e).isSt = true:=rfl
@[simp] theorem encT_sto (e : Tr) : (encT e).sto = true:=rfl
@[simp] theorem encT_one (e : Tr) : (encT e).one = false:=rfl
@[simp] theorem encT_kn (e : Tr) : (encT e).kn = true:=rfl
@[simp] theorem encT_idf (e : Tr) : (encT e).idf = true:=by simp [encT,AV.idf]
@[simp] theorem encT_ment (d : Nat) (e : Tr) : (encT e).ment d = false:=by simp [encT]
@[simp] theorem encT_ren (σ : Nat → Nat) (e : Tr) : (encT e).ren σ = encT e:=by simp [encT]
@[simp] theorem encT_ids (e : Tr) : (encT e).ids = []:=by simp [encT]
@[simp] theorem encT_idsOf (e : Tr) : idsOf (encT e) = []:=by simp [encT]
@[simp] theorem view_encT {bf : Nat → Option Ct} {e : Tr} : View bf (encT e) (encT e):=view_self (by simp)
structure Stp where
 (t x y k : Nat)
structure Car where
 (t x y : Nat)
 (st : List Stp)
structure Ara where
 (a b c d e f g h i : Nat)
structure Flt where
 (cars : List Car)
 (areas : List Ara)
def encK (e : Stp) : AV:=.st [uA e.t,uA e.x,uA e.y,uA e.k]
@[simp] theorem encK_cells (e : Stp) : (encK e).cells = [uA e.t,uA e.x,uA e.y,uA e.k]:=rfl
@[simp] theorem encK_isSt (e : Stp) : (encK e).isSt = true:=rfl
@[simp] theorem encK_sto (e : Stp) : (encK e).sto = true:=rfl
@[simp] theorem encK_one (e : Stp) : (encK e).one = false:=rfl
@[simp] theorem encK_kn (e : Stp) : (encK e).kn = true:=rfl
@[simp] theorem encK_flat (e : Stp) : (encK e).flat = true:=rfl
@[simp] theorem encK_idf (e : Stp) : (encK e).idf = true:=by simp [encK,AV.idf]
@[simp] theorem encK_ment (d : Nat) (e : Stp) : (encK e).ment d = false:=by simp [encK]
@[simp] theorem encK_ren (σ : Nat → Nat) (e : Stp) : (encK e).ren σ = encK e:=by simp [encK]
@[simp] theorem encK_ids (e : Stp) : (encK e).ids = []:=by simp [encK]
@[simp] theorem encK_idsOf (e : Stp) : idsOf (encK e) = []:=by simp [encK]
@[simp] theorem view_encK {bf : Nat → Option Ct} {e : Stp} : View bf (encK e) (encK e):=view_self (by simp)
@[simp] theorem idf_LK (l : List _) : idfL (l.map encK) = true:=by induction l with|nil=>rfl|cons a l ih=>simp [ih]
@[simp] theorem ment_LK (d : Nat) (l : List _) : mentL d (l.map encK) = false:=by induction l with|nil=>rfl|cons a l ih=>simp [ih]
@[simp] theorem ids_LK (l : List _) : idsA (l.map encK) = []:=by induction l with|nil=>rfl|cons a l ih=>simp [ih]
@[simp] theorem ren_LK (σ : Nat → Nat) (l : List _) : renL σ (l.map encK) = l.map encK:=by induction l with|nil=>rfl|cons a l ih=>simp [ih]
@[simp] theorem flat_LK (l : List _) : flatL (l.map encK) = true:=by induction l with|nil=>rfl|cons a l ih=>simp [ih]
def encC (e : Car) : AV:=.st [uA e.t,uA e.x,uA e.y,.sl 4 (e.st.map encK)]
@[simp] theorem encC_cells (e : Car) : (encC e).cells = [uA e.t,uA e.x,uA e.y,.sl 4 (e.st.map encK)]:=rfl
@[simp] theorem encC_isSt (e : Car) : (encC e).isSt = true:=rfl
@[simp] theorem encC_sto (e : Car) : (encC e).sto = true:=rfl
@[simp] theorem encC_one (e : Car) : (encC e).one = false:=rfl
@[simp] theorem encC_kn (e : Car) : (encC e).kn = true:=rfl
@[simp] theorem encC_idf (e : Car) : (encC e).idf = true:=by simp [encC,AV.idf]
@[simp] theorem encC_ment (d : Nat) (e : Car) : (encC e).ment d = false:=by simp [encC]
@[simp] theorem encC_ren (σ : Nat → Nat) (e : Car) : (encC e).ren σ = encC e:=by simp [encC]
@[simp] theorem encC_ids (e : Car) : (encC e).ids = []:=by simp [encC]
@[simp] theorem encC_idsOf (e : Car) : idsOf (encC e) = []:=by simp [encC]
@[simp] theorem view_encC {bf : Nat → Option Ct} {e : Car} : View bf (encC e) (encC e):=view_self (by simp)
@[simp] theorem idf_LC (l : List _) : idfL (l.map encC) = true:=by induction l with|nil=>rfl|cons a l ih=>simp [ih]
@[simp] theorem ment_LC (d : Nat) (l : List _) : mentL d (l.map encC) = false:=by induction l with|nil=>rfl|cons a l ih=>simp [ih]
@[simp] theorem ids_LC (l : List _) : idsA (l.map encC) = []:=by induction l with|nil=>rfl|cons a l ih=>simp [ih]
@[simp] theorem ren_LC (σ : Nat → Nat) (l : List _) : renL σ (l.map encC) = l.map encC:=by induction l with|nil=>rfl|cons a l ih=>simp [ih]
def encG (e : Ara) : AV:=.st [uA e.a,uA e.b,uA e.c,uA e.d,uA e.e,uA e.f,uA e.g,uA e.h,uA e.i]
@[simp] theorem encG_cells (e : Ara) : (encG e).cells = [uA e.a,uA e.b,uA e.c,uA e.d,uA e.e,uA e.f,uA e.g,uA e.h,uA e.i]:=rfl
@[simp] theorem encG_isSt (e : Ara) : (encG e).isSt = true:=rfl
@[simp] theorem encG_sto (e : Ara) : (encG e).sto = true:=rfl
@[simp] theorem encG_one (e : Ara) : (encG e).one = false:=rfl
@[simp] theorem encG_kn (e : Ara) : (encG e).kn = true:=rfl
@[simp] theorem encG_flat (e : Ara) : (encG e).flat = true:=rfl
@[simp] theorem encG_idf (e : Ara) : (encG e).idf = true:=by simp [encG,AV.idf]
@[simp] theorem encG_ment (d : Nat) (e : Ara) : (encG e).ment d = false:=by simp [encG]
@[simp] theorem encG_ren (σ : Nat → Nat) (e : Ara) : (encG e).ren σ = encG e:=by simp [encG]
@[simp] theorem encG_ids (e : Ara) : (encG e).ids = []:=by simp [encG]
@[simp] theorem encG_idsOf (e : Ara) : idsOf (encG e) = []:=by simp [encG]
@[simp] theorem view_encG {bf : Nat → Option Ct} {e : Ara} : View bf (encG e) (encG e):=view_self (by simp)
@[simp] theorem idf_LG (l : List _) : idfL (l.map encG) = true:=by induction l with|nil=>rfl|cons a l ih=>simp [ih]
@[simp] theorem ment_LG (d : Nat) (l : List _) : mentL d (l.map encG) = false:=by induction l with|nil=>rfl|cons a l ih=>simp [ih]
@[simp] theorem ids_LG (l : List _) : idsA (l.map encG) = []:=by induction l with|nil=>rfl|cons a l ih=>simp [ih]
@[simp] theorem ren_LG (σ : Nat → Nat) (l : List _) : renL σ (l.map encG) = l.map encG:=by induction l with|nil=>rfl|cons a l ih=>simp [ih]
@[simp] theorem flat_LG (l : List _) : flatL (l.map encG) = true:=by induction l with|nil=>rfl|cons a l ih=>simp [ih]
def encW (e : Flt) : AV:=.st [.sl 4 (e.cars.map encC),.sl 9 (e.areas.map encG)]
@[simp] theorem encW_cells (e : Flt) : (encW e).cells = [.sl 4 (e.cars.map encC),.sl 9 (e.areas.map encG)]:=rfl
@[simp] theorem encW_isSt (e : Flt) : (encW e).isSt = true:=rfl
@[simp] theorem encW_sto (e : Flt) : (encW e).sto = true:=rfl
@[simp] theorem encW_one (e : Flt) : (encW e).one = false:=rfl
@[simp] theorem encW_kn (e : Flt) : (encW e).kn = true:=rfl
@[simp] theorem encW_idf (e : Flt) : (encW e).idf = true:=by simp [encW,AV.idf]
@[simp] theorem encW_ment (d : Nat) (e : Flt) : (encW e).ment d = false:=by simp [encW]
@[simp] theorem encW_ren (σ : Nat → Nat) (e : Flt) : (encW e).ren σ = encW e:=by simp [encW]
@[simp] theorem encW_ids (e : Flt) : (encW e).ids = []:=by simp [encW]
@[simp] theorem encW_idsOf (e : Flt) : idsOf (encW e) = []:=by simp [encW]
@[simp] theorem view_encW {bf : Nat → Option Ct} {e : Flt} : View bf (encW e) (encW e):=view_self (by simp)
def blN (u : Nat) : Nat:=if u = 0 then 0 else u.log2 + 1
theorem blN_lt (u : Nat) : u < 2 ^ blN u:=by
 unfold blN
 split
 ·omega
 ·exact Nat.lt_log2_self
theorem blN_le {u : Nat} (h : u ≠ 0) : 2 ^ (blN u - 1) ≤ u:=by
 unfold blN
 rw [if_neg h,Nat.add_sub_cancel]
 exact Nat.log2_self_le h
theorem blN_eq {u L : Nat} (h1 : u < 2 ^ L) (h2 : u ≠ 0 → 2 ^ (L - 1) ≤ u) (h0 : u = 0 → L = 0) : blN u = L:=by
 by_cases h : u = 0
 ·rw [h0 h,h];rfl
 ·have a1:=(Nat.pow_lt_pow_iff_right (a:=2) (by omega)).1 (Nat.lt_of_le_of_lt (blN_le h) h1)
  have a2:=(Nat.pow_lt_pow_iff_right (a:=2) (by omega)).1 (Nat.lt_of_le_of_lt (h2 h) (blN_lt u))
  have : blN u ≠ 0:=by unfold blN;rw [if_neg h];omega
  have : L ≠ 0:=fun e=>by subst e;simp at h1;exact h h1
  omega
theorem blN_shift {u k : Nat} (h : 2 ^ k ≤ u) : blN u = k + blN (u / 2 ^ k):=by
 have hp : 0 < 2 ^ k:=Nat.pow_pos (by omega)
 have hd : u / 2 ^ k ≠ 0:=by
  have:=Nat.div_pos h hp
  omega
 have h1:=blN_lt (u / 2 ^ k)
 have h2:=blN_le hd
 have hb : blN (u / 2 ^ k) ≠ 0:=by unfold blN;rw [if_neg hd];omega
 refine blN_eq ?_ (fun _=>?_) (fun e=>by omega)
 ·rw [Nat.pow_add,Nat.mul_comm]
  exact (Nat.div_lt_iff_lt_mul hp).1 h1
 ·rw [show k + blN (u / 2 ^ k) - 1 = (blN (u / 2 ^ k) - 1) + k by omega,Nat.pow_add]
  exact (Nat.le_div_iff_mul_le hp).1 h2
theorem blN_le64 {u : Nat} (h : u < 18446744073709551616) : blN u ≤ 64:=by
 by_cases h0 : u = 0
 ·subst h0;decide
 ·have:=(Nat.pow_lt_pow_iff_right (a:=2) (m:=64) (by omega)).1 (Nat.lt_of_le_of_lt (blN_le h0) h)
  omega
@[simp] theorem fdiv_pos {a b : Int} (h : 0 ≤ b) : a.fdiv b = a / b:=Int.fdiv_eq_ediv_of_nonneg a h
theorem t8 : ∀ x,x < 256 → (([0,1,2,2,3,3,3,3,4,4,4,4,4,4,4,4,5,5,5,5,5,5,5,5,5,5,5,5,5,5,5,5,6,6,6,6,6,6,6,6,6,6,6,6,6,6,6,6,6,6,6,6,6,6,6,6,6,6,6,6,6,6,6,6,7,7,7,7,7,7,7,7,7,7,7,7,7,7,7,7,7,7,7,7,7,7,7,7,7,7,7,7,7,7,7,7,7,7,7,7,7,7,7,7,7,7,7,7,7,7,7,7,7,7,7,7,7,7,7,7,7,7,7,7,7,7,7,7,8,8,8,8,8,8,8,8,8,8,8,8,8,8,8,8,8,8,8,8,8,8,8,8,8,8,8,8,8,8,8,8,8,8,8,8,8,8,8,8,8,8,8,8,8,8,8,8,8,8,8,8,8,8,8,8,8,8,8,8,8,8,8,8,8,8,8,8,8,8,8,8,8,8,8,8,8,8,8,8,8,8,8,8,8,8,8,8,8,8,8,8,8,8,8,8,8,8,8,8,8,8,8,8,8,8,8,8,8,8,8,8,8,8,8,8,8,8,8,8,8,8,8,8,8,8,8,8] : List UInt8)[x]?.getD 0).toNat = blN x:=by decide +kernel
theorem w8 {n : Int} (h0 : 0 ≤ n) (h1 : n < 256) : IntKind.u8.wrap n = n:=wrap_in .u8 (by simpa using h0) (by simp [IntKind.max,IntKind.bits,IntKind.signed];omega)
theorem wi {n : Int} (h0 : -9223372036854775808 ≤ n) (h1 : n < 9223372036854775808) : IntKind.i64.wrap n = n:=wrap_in .i64 (by simpa [IntKind.min,IntKind.bits,IntKind.signed] using h0) (by simp [IntKind.max,IntKind.bits,IntKind.signed];omega)
theorem s_len64 (u : Nat) (h : u < 18446744073709551616) : PSpec Tryz.prog 153 [wA u] (iA (blN u)):=by
 refine pS Tryz.func153 ?_
 intro E hE
 refine sq ⟨[(2,iA 0),(0,wA u)],[]⟩ ?_
 obtain ⟨a,x,ha,hx,hux,hb⟩ : ∃ a x,a ≤ 32 ∧ x < 4294967296 ∧ ((4294967296 ≤ u ∧ a = 32 ∧ x = u / 4294967296) ∨ (¬ 4294967296 ≤ u ∧ a = 0 ∧ x = u)) ∧ blN u = a + blN x:=by
  by_cases h4 : 4294967296 ≤ u
  ·exact ⟨32,u / 4294967296,by omega,by omega,.inl ⟨h4,rfl,rfl⟩,blN_shift (k:=32) h4⟩
  ·exact ⟨0,u,by omega,by omega,.inr ⟨h4,rfl,rfl⟩,by omega⟩
 refine AW_seqt ⟨[(2,iA a),(0,wA x)],[]⟩ ?_ (by
  intro K hK
  clear hb
  rcases hux with ⟨h1,rfl,rfl⟩|⟨h1,rfl,rfl⟩
  ·exact ga0
  ·exact ga0)
 obtain ⟨a2,x2,ha2,hx2,hux2,hb2⟩ : ∃ a2 x2,a2 ≤ 48 ∧ x2 < 65536 ∧ ((65536 ≤ x ∧ a2 = a + 16 ∧ x2 = x / 65536) ∨ (¬ 65536 ≤ x ∧ a2 = a ∧ x2 = x)) ∧ a + blN x = a2 + blN x2:=by
  by_cases h4 : 65536 ≤ x
  ·exact ⟨a + 16,x / 65536,by omega,by omega,.inl ⟨h4,rfl,rfl⟩,by have:=blN_shift (k:=16) h4;simp at this;omega⟩
  ·exact ⟨a,x,by omega,by omega,.inr ⟨h4,rfl,rfl⟩,rfl⟩
 refine AW_seqt ⟨[(2,iA a2),(0,wA x2)],[]⟩ ?_ (by
  intro K hK
  clear hb hb2 hux
  rcases hux2 with ⟨h1,rfl,rfl⟩|⟨h1,rfl,rfl⟩
  ·exact ga0
  ·exact ga0)
 obtain ⟨a3,x3,ha3,hx3,hux3,hb3⟩ : ∃ a3 x3,a3 ≤ 56 ∧ x3 < 256 ∧ ((256 ≤ x2 ∧ a3 = a2 + 8 ∧ x3 = x2 / 256) ∨ (¬ 256 ≤ x2 ∧ a3 = a2 ∧ x3 = x2)) ∧ a2 + blN x2 = a3 + blN x3:=by
  by_cases h4 : 256 ≤ x2
  ·exact ⟨a2 + 8,x2 / 256,by omega,by omega,.inl ⟨h4,rfl,rfl⟩,by have:=blN_shift (k:=8) h4;simp at this;omega⟩
  ·exact ⟨a2,x2,by omega,by omega,.inr ⟨h4,rfl,rfl⟩,rfl⟩
 refine AW_seqt ⟨[(2,iA a3),(0,wA x3)],[]⟩ ?_ (by
  intro K hK
  clear hb hb2 hb3 hux hux2
  rcases hux3 with ⟨h1,rfl,rfl⟩|⟨h1,rfl,rfl⟩
  ·exact ga0
  ·exact ga0)
 rw [hb,hb2,hb3]
 clear hb hb2 hb3 hux hux2 hux3
 have ht:=t8 x3 hx3
 simp [hx3] at ht
 have h1:=w8 (n:=x3) (by omega) (by omega)
 have h2 : IntKind.i64.wrap (blN x3) = blN x3:=wi (by omega) (by have:=blN_le64 (u:=x3) (by omega);omega)
 have h3:=blN_le64 (u:=x3) (by omega)
 repeat' (first
  |(with_reducible first|refine uK ?_|refine uX ?_|refine jq fun K hK=>?_|refine jb ?_)|((with_reducible first|refine rS hE ?_|refine jn ?_|refine js fun K' hK'=>?_|refine ji fun X Y hX hY=>?_|refine jr ?_|refine jk ?_|refine jx ?_);simp [*,ByteArray.size])|with_reducible refine rL hE ?_|with_reducible refine And.intro ?_ ?_|omega|(refine imp1 fun h=>?_))
@[simp] theorem mgB_data (u : Nat) : (mgB u).data.toList = mgL u:=rfl
attribute [simp] mgB_size
theorem orV {a b : Nat} (hb : b < 256) (ha : a * 256 + b < 18446744073709551616) : bitsV .or .u64 ((a : Int) * 256) b = a * 256 + b:=by
 have h1 : BitVec.ofInt 64 ((a : Int) * 256) = BitVec.ofNat 64 (a * 256):=by
  rw [show ((a : Int) * 256) = ((a * 256 : Nat) : Int) by omega]
  rfl
 have h2 : BitVec.ofInt 64 (b : Int) = BitVec.ofNat 64 b:=rfl
 have h3 : a * 256 ||| b = a * 256 + b:=by
  rw [show a * 256 = 2 ^ 8 * a by omega,← Nat.two_pow_add_eq_or_of_lt (i:=8) hb a]
 show IntKind.u64.wrap (BitVec.ofInt 64 ((a : Int) * 256) ||| BitVec.ofInt 64 (b : Int) : BitVec 64).toNat = _
 rw [h1,h2,BitVec.toNat_or,BitVec.toNat_ofNat,BitVec.toNat_ofNat,Nat.mod_eq_of_lt (by omega),Nat.mod_eq_of_lt (by omega),h3,w64 (by omega) (by omega)]
 omega
theorem vL_take {l : List UInt8} {i : Nat} (h : i < l.length) : vL (l.take (i + 1)) = vL (l.take i) * 256 + l[i].toNat:=by rw [List.take_succ_eq_append_getElem h,vL_snoc]
theorem vL_take_le (l : List UInt8) : ∀ k i,i + k = l.length → vL (l.take i) ≤ vL l
 |0,i,h=>by rw [List.take_of_length_le (by omega)];exact Nat.le_refl _
 |k + 1,i,h=>by
  have:=vL_take_le l k (i + 1) (by omega)
  rw [vL_take (by omega)] at this
  omega
theorem s_word (u : Nat) (h : u < 18446744073709551616) : PSpec Tryz.prog 119 [mgA u] (.tup [wA u,bA true]):=by
 have hl : (mgL u).length ≤ 8:=mgL_len_le h
 have hlI : ¬ (8 : Int) < ((mgL u).length : Int):=by omega
 obtain ⟨C,hC⟩ : ∃ C : Nat → Nat,∀ i,vL ((mgL u).take i) = C i:=⟨_,fun _=>rfl⟩
 have hC0 : C 0 = 0:=(hC 0).symm
 have hCn : C (mgL u).length = u:=by rw [← hC,List.take_length,vL_mgL]
 have hCs : ∀ i (h : i < (mgL u).length),C (i + 1) = C i * 256 + (mgL u)[i].toNat:=fun i h=>by rw [← hC,← hC,vL_take h]
 have hCle : ∀ i,i ≤ (mgL u).length → C i ≤ u:=fun i hi=>by
  have:=vL_take_le (mgL u) ((mgL u).length - i) i (by omega)
  rw [hC,vL_mgL] at this
  exact this
 clear hC
 replace hCs:=Hld.mk hCs
 replace hCle:=Hld.mk hCle
 refine pS Tryz.func119 ?_
 intro E hE
 repeat' (first
  |(with_reducible first|refine uK ?_|refine uX ?_|refine jq fun K hK=>?_|refine jb ?_)|((with_reducible first|refine rS hE ?_|refine jn ?_|refine js fun K' hK'=>?_|refine ji fun X Y hX hY=>?_|refine jr ?_|refine jk ?_|refine jx ?_);simp [*])|with_reducible refine rL hE ?_|with_reducible refine And.intro ?_ ?_|omega|(refine imp1 fun h=>?_))
 refine AW_loopk (G:=Nat) (fun i=>⟨[(11,iA i),(10,iA (mgL u).length),(4,wA (C i)),(0,mgA u)],[]⟩) (fun i=>i ≤ (mgL u).length) (fun i=>(mgL u).length - i) 0 (Nat.zero_le _) (by simp [hC0]) ?_
 intro i hi K hK
 by_cases hlt : i < (mgL u).length
 ·have h1:=hCs.out i hlt
  have h2:=hCle.out (i + 1) (by omega)
  obtain ⟨b,hb⟩ : ∃ b,(mgL u)[i] = b:=⟨_,rfl⟩
  rw [hb] at h1
  have h3:=b.toNat_lt
  have h4 : IntKind.u64.wrap ((C i : Int) * 256) = (C i : Int) * 256:=w64 (by omega) (by omega)
  have h5 : IntKind.u64.wrap (b.toNat : Int) = (b.toNat : Int):=w64 (by omega) (by omega)
  have h6:=orV (a:=C i) h3 (by omega)
  have h7 : ((C (i + 1) : Nat) : Int) = (C i : Int) * 256 + b.toNat:=by omega
  have hltI : (i : Int) < (mgL u).length:=by omega
  clear h1 h2
  exact gli
 ·have : i = (mgL u).length:=by omega
  subst this
  exact ga0
theorem s_words (u v : Nat) (h : u < 18446744073709551616) (h' : v < 18446744073709551616) : PSpec Tryz.prog 178 [mgA u,mgA v] (.tup [wA u,wA v,bA true]):=by
 refine pS Tryz.func178 ?_
 intro E hE
 have k'1:=Hld.mk (s_word u h);have k'2:=Hld.mk (s_word v h');exact ga2
theorem s_made (b : Bool) (n : Nat) : PSpec Tryz.prog 105 [bA b,mgA n] (encZ (sgn b n)):=by
 rw [encZ_sgn]
 refine pS Tryz.func105 ?_
 intro E hE
 rcases b with _|_
 ·exact ga0
 ·exact ga0
def lay (u n : Nat) (i : Nat) : List AV:=(List.range 8).map fun j=>if n - i ≤ j ∧ j < n then byteA (UInt8.ofNat (u / 256 ^ (n - 1 - j) % 256)) else uA 0
theorem lay_len (u n i : Nat) : (lay u n i).length = 8:=by simp [lay]
theorem lay_get (u n i j : Nat) (hj : j < 8) : (lay u n i)[j]? = some (if n - i ≤ j ∧ j < n then byteA (UInt8.ofNat (u / 256 ^ (n - 1 - j) % 256)) else uA 0):=by simp [lay,hj]
theorem lay_zero (u n : Nat) : lay u n 0 = List.replicate 8 (uA 0):=by
 apply List.ext_getElem?
 intro j
 by_cases hj : j < 8
 ·rw [lay_get _ _ _ _ hj,if_neg (by omega),List.getElem?_replicate,if_pos hj]
 ·rw [List.getElem?_eq_none (by rw [lay_len];omega),List.getElem?_eq_none (by simp;omega)]
theorem lay_set {u n i : Nat} (hn : n ≤ 8) (hi : i < n) : (lay u n i).take (n - 1 - i) ++ byteA (UInt8.ofNat (u / 256 ^ i % 256)) :: (lay u n i).drop (n - 1 - i + 1) = lay u n (i + 1):=by
 have e:=List.set_eq_take_append_cons_drop (l:=lay u n i) (i:=n - 1 - i) (a:=byteA (UInt8.ofNat (u / 256 ^ i % 256)))
 rw [if_pos (by rw [lay_len];omega)] at e
 rw [← e]
 apply List.ext_getElem?
 intro j
 by_cases hj : j < 8
 ·rw [List.getElem?_set,lay_len]
  split
  ·rename_i e
   rw [if_pos (by omega),lay_get _ _ _ _ hj,if_pos (by omega),show n - 1 - j = i by omega]
  ·rw [lay_get _ _ _ _ hj,lay_get _ _ _ _ hj]
   by_cases h1 : n - i ≤ j ∧ j < n
   ·rw [if_pos h1,if_pos (by omega)]
   ·rw [if_neg h1,if_neg (by omega)]
 ·rw [List.getElem?_eq_none (by rw [List.length_set,lay_len];omega),List.getElem?_eq_none (by rw [lay_len];omega)]
theorem lay_all {u n : Nat} (hn : n ≤ 8) (h : (mgL u).length = n) : (lay u n n).take n = (mgL u).map byteA:=by
 apply List.ext_getElem?
 intro j
 rw [List.getElem?_take,List.getElem?_map]
 split
 ·rename_i hj
  have:=mgL_get n u h (n - 1 - j) (by omega)
  rw [show n - 1 - (n - 1 - j) = j by omega] at this
  rw [this,lay_get _ _ _ _ (by omega),if_pos (by omega)]
  rfl
 ·rw [List.getElem?_eq_none (by omega)]
  rfl
theorem s_magnitude (u : Nat) (h : u < 18446744073709551616) : PSpec Tryz.prog 106 [wA u] (mgA u):=by
 by_cases h0 : u = 0
 ·subst h0
  refine pS Tryz.func106 ?_
  intro E hE
  exact ga0
 have hl : (mgL u).length ≤ 8:=mgL_len_le h
 obtain ⟨n,hn⟩ : ∃ n,(mgL u).length = n:=⟨_,rfl⟩
 have hn0 : n ≠ 0:=fun e=>h0 (mgL_eq_nil.1 (List.length_eq_zero_iff.1 (hn.trans e)))
 have hbl : (blN u + 7) / 8 = n:=by
  rw [← hn]
  have b1:=blN_lt u
  have b2:=blN_le h0
  refine (mgL_len ?_ (fun _=>?_) (fun e=>absurd e h0)).symm
  ·rw [show (256 : Nat) = 2 ^ 8 from rfl,← Nat.pow_mul]
   exact Nat.lt_of_lt_of_le b1 (Nat.pow_le_pow_right (by omega) (by omega))
  ·rw [show (256 : Nat) = 2 ^ 8 from rfl,← Nat.pow_mul]
   exact Nat.le_trans (Nat.pow_le_pow_right (by omega) (by omega)) b2
 have hd : ((blN u : Int) + 7).tdiv 8 = n:=by
  rw [Int.tdiv_eq_ediv_of_nonneg (by omega)]
  omega
 have hb64:=blN_le64 h
 refine pS Tryz.func106 ?_
 intro E hE
 refine sq ⟨[(0,wA u)],[]⟩ ?_
 refine sq ⟨[(0,wA u)],[]⟩ ?_
 refine AW_seqt ⟨[(3,iA n),(0,wA u)],[]⟩ ?_ (by
  intro K hK
  have k'1:=Hld.mk (s_len64 u h);exact ga1)
 clear hd hbl hb64
 refine AW_seqt ⟨[(4,.loc 4 0),(3,iA n),(0,wA u)],[(4,.box 242 (.st (lay u n 0)))]⟩ ?_ (by
  intro K hK
  have h0':=lay_zero u n
  simp at h0'
  exact ga0)
 refine AW_seqt ⟨[(4,.loc 4 0),(3,iA n)],[(4,.box 242 (.st (lay u n n)))]⟩ ?_ (by
  intro K hK
  refine lpk (G:=Nat) (fun i=>⟨[(13,iA i),(12,iA n),(4,.loc 4 0),(3,iA n),(0,wA u)],[(4,.box 242 (.st (lay u n i)))]⟩) (fun i=>i ≤ n) (fun i=>n - i) 0 (Nat.zero_le _) ?_
  intro i hi K hK
  by_cases hlt : i < n
  ·have hltI : (i : Int) < n:=by omega
   have hll:=lay_len u n i
   have hx : IntKind.u8.wrap ((u : Int).fdiv (2 ^ min (8 * (i : Int)).toNat 64)) = ((UInt8.ofNat (u / 256 ^ i % 256)).toNat : Int):=by
    rw [show min (8 * (i : Int)).toNat 64 = 8 * i by omega,Int.pow_mul,Int.fdiv_eq_ediv_of_nonneg _ (Int.le_of_lt (Int.pow_pos (by decide)))]
    simp [IntKind.wrap,IntKind.bits,IntKind.signed]
   have hs:=lay_set (u:=u) (by omega) hlt
   simp [byteA] at hs
   exact gli
  ·have : i = n:=by omega
   subst this
   exact ga0)
 have hall:=lay_all (by omega) hn
 have hll:=lay_len u n n
 have hnI : (n : Int) ≤ 8:=by omega
 repeat' (first
  |(with_reducible first|refine uK ?_|refine uX ?_|refine jq fun K hK=>?_|refine jb ?_)|((with_reducible first|refine rS hE ?_|refine jn ?_|refine js fun K' hK'=>?_|refine ji fun X Y hX hY=>?_|refine jr ?_|refine jk ?_|refine jx ?_);simp [*])|with_reducible refine rL hE ?_|with_reducible refine And.intro ?_ ?_|omega|(refine imp1 fun h=>?_))
 refine ⟨mgL u,⟨rfl,hn⟩,?_⟩
 repeat' (first
  |(with_reducible first|refine uK ?_|refine uX ?_|refine jq fun K hK=>?_|refine jb ?_)|((with_reducible first|refine rS hE ?_|refine jn ?_|refine js fun K' hK'=>?_|refine ji fun X Y hX hY=>?_|refine jr ?_|refine jk ?_|refine jx ?_);simp [*])|with_reducible refine rL hE ?_|with_reducible refine And.intro ?_ ?_|omega|(refine imp1 fun h=>?_))
 all_goals rfl
def cmpI (a b : Int) : Int:=if a < b then -1 else if b < a then 1 else 0
theorem s_isNaN (a : Int) : PSpec Tryz.prog 133 [iA a] (bA false):=by
 refine pS Tryz.func133 ?_
 intro E hE
 exact ga0
theorem s_cmp (a b : Int) : PSpec Tryz.prog 92 [iA a,iA b] (iA (cmpI a b)):=by
 refine pS Tryz.func92 ?_
 intro E hE
 by_cases h1 : a < b
 ·have h : cmpI a b = -1:=by simp [cmpI,h1]
  have k'1:=Hld.mk (s_isNaN a);have k'2:=Hld.mk (s_isNaN b);exact ga2
 ·by_cases h2 : b < a
  ·have h : cmpI a b = 1:=by simp [cmpI,h1,h2]
   have k'1:=Hld.mk (s_isNaN a);have k'2:=Hld.mk (s_isNaN b);exact ga2
  ·have h : cmpI a b = 0:=by simp [cmpI,h1,h2]
   have k'1:=Hld.mk (s_isNaN a);have k'2:=Hld.mk (s_isNaN b);exact ga2
def orI : List Int → Int
 |[]=>0
 |a :: l=>if a = 0 then orI l else a
theorem orI_drop {l : List Int} {i : Nat} (h : i < l.length) : orI (l.drop i) = if l[i] = 0 then orI (l.drop (i + 1)) else l[i]:=by rw [List.drop_eq_getElem_cons h,orI]
theorem s_or (l : List Int) (hl : l.length ≤ 1000000) : PSpec Tryz.prog 186 [.sl 1 (l.map iA)] (iA (orI l)):=by
 refine pS Tryz.func186 ?_
 intro E hE
 repeat' (first
  |(with_reducible first|refine uK ?_|refine uX ?_|refine jq fun K hK=>?_|refine jb ?_)|((with_reducible first|refine rS hE ?_|refine jn ?_|refine js fun K' hK'=>?_|refine ji fun X Y hX hY=>?_|refine jr ?_|refine jk ?_|refine jx ?_);simp [*])|with_reducible refine rL hE ?_|with_reducible refine And.intro ?_ ?_|omega|(refine imp1 fun h=>?_))
 refine AW_loopk (G:=Nat) (fun i=>⟨[(8,iA i),(7,iA l.length),(6,.sl 1 (l.map iA)),(3,iA 0),(2,iA 0)],[]⟩) (fun i=>i ≤ l.length ∧ Hld (orI (l.drop i) = orI l)) (fun i=>l.length - i) 0 ⟨Nat.zero_le _,⟨rfl⟩⟩ (by simp) ?_
 rintro i ⟨hi,ho⟩ K hK
 by_cases hlt : i < l.length
 ·have hltI : (i : Int) < l.length:=by omega
  have h1:=orI_drop hlt
  rw [ho.out] at h1
  obtain ⟨a,ha⟩ : ∃ a,l[i] = a:=⟨_,rfl⟩
  rw [ha] at h1
  by_cases h0 : a = 0
  ·rw [if_pos h0] at h1
   have h2 : Hld (orI (l.drop (i + 1)) = orI l):=⟨h1.symm⟩
   clear h1
   repeat' (first
    |(with_reducible first|refine uK ?_|refine uX ?_|refine jq fun K hK=>?_|refine jb ?_)|((with_reducible first|refine rS hE ?_|refine jn ?_|refine js fun K' hK'=>?_|refine ji fun X Y hX hY=>?_|refine jr ?_|refine jk ?_|refine jx ?_);simp [*])|with_reducible refine rL hE ?_|with_reducible refine And.intro ?_ ?_|omega|(refine imp1 fun h=>?_))
   exact ⟨i + 1,⟨by omega,h2⟩,by omega,by simp⟩
  ·rw [if_neg h0] at h1
   exact ga0
 ·have : i = l.length:=by omega
  subst this
  have h1 : orI l = 0:=by rw [← ho.out];simp [orI]
  exact ga0
theorem s_cmpstring (a b : ByteArray) : PSpec Tryz.prog 206 [.v (.string a),.v (.string b)] (iA (Go.Lib.compareBytes a.data.toList b.data.toList)):=by
 refine pS Tryz.func206 ?_
 intro E hE
 repeat' (first
  |(with_reducible first|refine uK ?_|refine uX ?_|refine jq fun K hK=>?_|refine jb ?_)|((with_reducible first|refine rS hE ?_|refine jn ?_|refine js fun K' hK'=>?_|refine ji fun X Y hX hY=>?_|refine jr ?_|refine jk ?_|refine jx ?_);simp [*])|with_reducible refine rL hE ?_|(apply acall_cmpstr Tryz.func217 (by kernel_rfl) (by kernel_rfl) (by kernel_rfl) (by kernel_rfl);simp [*])|with_reducible refine And.intro ?_ ?_|omega|(refine imp1 fun h=>?_))
theorem s_strcmp (a b : ByteArray) : PSpec Tryz.prog 187 [.v (.string a),.v (.string b)] (iA (Go.Lib.compareBytes a.data.toList b.data.toList)):=by
 refine pS Tryz.func187 ?_
 intro E hE
 have k'1:=Hld.mk (s_cmpstring a b);exact ga1
theorem vL_cons (a : UInt8) (l : List UInt8) : vL (a :: l) = a.toNat * 256 ^ l.length + vL l:=by
 have key : ∀ (l : List UInt8) (c : Nat),l.foldl (fun a b=>a * 256 + b.toNat) c = c * 256 ^ l.length + vL l:=by
  intro l
  induction l with
  |nil=>intro c;simp [vL]
  |cons b l ih =>
   intro c
   have e : vL (b :: l) = b.toNat * 256 ^ l.length + vL l:=by
    unfold vL
    rw [List.foldl_cons,ih]
    simp [vL]
   rw [List.foldl_cons,ih,e,List.length_cons,Nat.pow_succ,Nat.add_mul,Nat.mul_assoc,Nat.mul_comm 256,Nat.add_assoc]
 unfold vL
 rw [List.foldl_cons,key]
 simp [vL]
theorem vL_lt : ∀ l : List UInt8,vL l < 256 ^ l.length
 |[]=>by simp [vL]
 |a :: l=>by
  have h1:=vL_lt l
  have h2:=a.toNat_lt
  rw [vL_cons,List.length_cons,Nat.pow_succ]
  have : a.toNat * 256 ^ l.length + 256 ^ l.length ≤ 256 * 256 ^ l.length:=by
   rw [← Nat.succ_mul]
   exact Nat.mul_le_mul_right _ h2
  omega
theorem cmpB_eq : ∀ {l m : List UInt8},l.length = m.length → Go.Lib.compareBytes l m = cmpI (vL l) (vL m)
 |[],[],_=>rfl
 |a :: l,b :: m,h=>by
  have hl : l.length = m.length:=by simpa using h
  have ih:=cmpB_eq hl
  have h1:=vL_lt l
  have h2:=vL_lt m
  rw [Go.Lib.compareBytes,vL_cons,vL_cons,ih,hl]
  rw [hl] at h1
  simp only [UInt8.lt_iff_toNat_lt]
  have hm : ∀ x y : Nat,x < y → x * 256 ^ m.length + 256 ^ m.length ≤ y * 256 ^ m.length:=fun x y h=>by
   rw [← Nat.succ_mul]
   exact Nat.mul_le_mul_right _ h
  split
  ·rename_i hab
   have:=hm _ _ hab
   rw [cmpI,if_pos (by omega)]
  ·split
   ·rename_i hab hba
    have:=hm _ _ hba
    rw [cmpI,if_neg (by omega),if_pos (by omega)]
   ·rename_i hab hba
    have : a.toNat = b.toNat:=by omega
    rw [this]
    unfold cmpI
    simp only [Int.ofNat_lt,Nat.add_lt_add_iff_left]
theorem cmpM (u v : Nat) : orI [cmpI (mgL u).length (mgL v).length,Go.Lib.compareBytes (mgL u) (mgL v)] = cmpI u v:=by
 by_cases hl : (mgL u).length = (mgL v).length
 ·rw [cmpB_eq hl,vL_mgL,vL_mgL,hl]
  have : cmpI ((mgL v).length : Int) (mgL v).length = 0:=by simp [cmpI]
  rw [this]
  simp [orI]
  intro h
  exact h.symm
 ·have key : ∀ a b : Nat,(mgL a).length < (mgL b).length → a < b:=fun a b h=>by
   have h1:=(mgL_bounds a).1
   have hb : b ≠ 0:=fun e=>by rw [e,mgL_zero] at h;simp at h
   have h2:=(mgL_bounds b).2 hb
   have:=Nat.pow_le_pow_right (show 0 < 256 by omega) (show (mgL a).length ≤ (mgL b).length - 1 by omega)
   omega
  rcases Nat.lt_or_gt_of_ne hl with h|h
  ·have:=key _ _ h
   simp [orI,cmpI,h,this]
  ·have:=key _ _ h
   have h' : ¬ (mgL u).length < (mgL v).length:=by omega
   have h2 : ¬ u < v:=by omega
   simp [orI,cmpI,h,this,h',h2]
theorem s_compare (u v : Nat) : PSpec Tryz.prog 159 [mgA u,mgA v] (iA (cmpI u v)):=by
 have h:=s_or [cmpI (mgL u).length (mgL v).length,Go.Lib.compareBytes (mgL u) (mgL v)] (by simp)
 rw [cmpM] at h
 simp at h
 refine pS Tryz.func159 ?_
 intro E hE
 have k'1:=Hld.mk (s_cmp (mgL u).length (mgL v).length);have k'2:=Hld.mk (s_strcmp (mgB u) (mgB v));have k'3:=Hld.mk (h);exact ga3
@[simp] theorem cmpI_self (a : Int) : cmpI a a = 0:=by simp [cmpI]
theorem cmpI_bd (a b : Int) : -1 ≤ cmpI a b ∧ cmpI a b ≤ 1:=by unfold cmpI;repeat' split <;> omega
theorem s_sign (z : Int) : PSpec Tryz.prog 103 [encZ z] (iA (cmpI z 0)):=by
 refine pS Tryz.func103 ?_
 intro E hE
 by_cases h0 : z = 0
 ·subst h0
  have z'1:=@encZ.eq_1;exact ga0
 ·by_cases h1 : z < 0
  ·have h : cmpI z 0 = -1:=by simp [cmpI,h1]
   have z'1:=@encZ.eq_1;exact ga0
  ·have h : cmpI z 0 = 1:=by simp [cmpI,h1];omega
   have z'1:=@encZ.eq_1;exact ga0
theorem s_compareZ (a b : Int) : PSpec Tryz.prog 164 [encZ a,encZ b] (iA (cmpI a b)):=by
 have hs:=Hld.mk (s_cmp (cmpI a 0) (cmpI b 0))
 have hc:=Hld.mk (s_compare a.natAbs b.natAbs)
 refine pS Tryz.func164 ?_
 intro E hE
 by_cases ha : a < 0
 ·by_cases hb : b < 0
  ·have h : cmpI a b = -cmpI a.natAbs b.natAbs:=by unfold cmpI;repeat' split <;> omega
   obtain ⟨x,hx⟩ : ∃ x,cmpI a.natAbs b.natAbs = x:=⟨_,rfl⟩
   have h2:=cmpI_bd a.natAbs b.natAbs
   rw [hx] at h2 h hc
   clear hx
   repeat' (first
    |(with_reducible first|refine uK ?_|refine uQ ?_|refine uX ?_|refine jq fun K hK=>?_|refine jb ?_)|(with_reducible refine rS hE ?_;simp [*,encZ])|with_reducible refine rL hE ?_|(((with_reducible show RK _ _ _ _ _ _);first|refine jn ?_|refine js fun K' hK'=>?_);simp [*,encZ])|with_reducible refine rD mixed hE ?_|((with_reducible show RKQ _ _ _ _ _ _);first|refine RKQ_nilk ⟨by decide,?_⟩|(refine jv fun K' hK'=>?_;simp [*,encZ]))|((with_reducible first|refine ji fun X Y hX hY=>?_|refine jr ?_|refine jk ?_|refine jx ?_);simp [*,encZ])|((first|refine jC (s_sign a) ?_ ?_ ?_|refine jQ (s_sign a) ?_ ?_ ?_);(iterate 2 focus (simp [*,encZ] <;> fail));simp [*,encZ])|((first|refine jC (s_sign b) ?_ ?_ ?_|refine jQ (s_sign b) ?_ ?_ ?_);(iterate 2 focus (simp [*,encZ] <;> fail));simp [*,encZ])|((first|refine jC (hs.out) ?_ ?_ ?_|refine jQ (hs.out) ?_ ?_ ?_);(iterate 2 focus (simp [*,encZ] <;> fail));simp [*,encZ])|((first|refine jC (hc.out) ?_ ?_ ?_|refine jQ (hc.out) ?_ ?_ ?_);(iterate 2 focus (simp [*,encZ] <;> fail));simp [*,encZ])|with_reducible refine And.intro ?_ ?_|omega|(refine imp1 fun h=>?_))
  ·have h : cmpI a b = cmpI (cmpI a 0) (cmpI b 0):=by unfold cmpI;repeat' split <;> omega
   repeat' (first
    |(with_reducible first|refine uK ?_|refine uQ ?_|refine uX ?_|refine jq fun K hK=>?_|refine jb ?_)|(with_reducible refine rS hE ?_;simp [*,encZ])|with_reducible refine rL hE ?_|(((with_reducible show RK _ _ _ _ _ _);first|refine jn ?_|refine js fun K' hK'=>?_);simp [*,encZ])|with_reducible refine rD mixed hE ?_|((with_reducible show RKQ _ _ _ _ _ _);first|refine RKQ_nilk ⟨by decide,?_⟩|(refine jv fun K' hK'=>?_;simp [*,encZ]))|((with_reducible first|refine ji fun X Y hX hY=>?_|refine jr ?_|refine jk ?_|refine jx ?_);simp [*,encZ])|((first|refine jC (s_sign a) ?_ ?_ ?_|refine jQ (s_sign a) ?_ ?_ ?_);(iterate 2 focus (simp [*,encZ] <;> fail));simp [*,encZ])|((first|refine jC (s_sign b) ?_ ?_ ?_|refine jQ (s_sign b) ?_ ?_ ?_);(iterate 2 focus (simp [*,encZ] <;> fail));simp [*,encZ])|((first|refine jC (hs.out) ?_ ?_ ?_|refine jQ (hs.out) ?_ ?_ ?_);(iterate 2 focus (simp [*,encZ] <;> fail));simp [*,encZ])|((first|refine jC (hc.out) ?_ ?_ ?_|refine jQ (hc.out) ?_ ?_ ?_);(iterate 2 focus (simp [*,encZ] <;> fail));simp [*,encZ])|with_reducible refine And.intro ?_ ?_|omega|(refine imp1 fun h=>?_))
 ·by_cases hb : b < 0
  ·have h : cmpI a b = cmpI (cmpI a 0) (cmpI b 0):=by unfold cmpI;repeat' split <;> omega
   repeat' (first
    |(with_reducible first|refine uK ?_|refine uQ ?_|refine uX ?_|refine jq fun K hK=>?_|refine jb ?_)|(with_reducible refine rS hE ?_;simp [*,encZ])|with_reducible refine rL hE ?_|(((with_reducible show RK _ _ _ _ _ _);first|refine jn ?_|refine js fun K' hK'=>?_);simp [*,encZ])|with_reducible refine rD mixed hE ?_|((with_reducible show RKQ _ _ _ _ _ _);first|refine RKQ_nilk ⟨by decide,?_⟩|(refine jv fun K' hK'=>?_;simp [*,encZ]))|((with_reducible first|refine ji fun X Y hX hY=>?_|refine jr ?_|refine jk ?_|refine jx ?_);simp [*,encZ])|((first|refine jC (s_sign a) ?_ ?_ ?_|refine jQ (s_sign a) ?_ ?_ ?_);(iterate 2 focus (simp [*,encZ] <;> fail));simp [*,encZ])|((first|refine jC (s_sign b) ?_ ?_ ?_|refine jQ (s_sign b) ?_ ?_ ?_);(iterate 2 focus (simp [*,encZ] <;> fail));simp [*,encZ])|((first|refine jC (hs.out) ?_ ?_ ?_|refine jQ (hs.out) ?_ ?_ ?_);(iterate 2 focus (simp [*,encZ] <;> fail));simp [*,encZ])|((first|refine jC (hc.out) ?_ ?_ ?_|refine jQ (hc.out) ?_ ?_ ?_);(iterate 2 focus (simp [*,encZ] <;> fail));simp [*,encZ])|with_reducible refine And.intro ?_ ?_|omega|(refine imp1 fun h=>?_))
  ·have h : cmpI a b = cmpI a.natAbs b.natAbs:=by unfold cmpI;repeat' split <;> omega
   repeat' (first
    |(with_reducible first|refine uK ?_|refine uQ ?_|refine uX ?_|refine jq fun K hK=>?_|refine jb ?_)|(with_reducible refine rS hE ?_;simp [*,encZ])|with_reducible refine rL hE ?_|(((with_reducible show RK _ _ _ _ _ _);first|refine jn ?_|refine js fun K' hK'=>?_);simp [*,encZ])|with_reducible refine rD mixed hE ?_|((with_reducible show RKQ _ _ _ _ _ _);first|refine RKQ_nilk ⟨by decide,?_⟩|(refine jv fun K' hK'=>?_;simp [*,encZ]))|((with_reducible first|refine ji fun X Y hX hY=>?_|refine jr ?_|refine jk ?_|refine jx ?_);simp [*,encZ])|((first|refine jC (s_sign a) ?_ ?_ ?_|refine jQ (s_sign a) ?_ ?_ ?_);(iterate 2 focus (simp [*,encZ] <;> fail));simp [*,encZ])|((first|refine jC (s_sign b) ?_ ?_ ?_|refine jQ (s_sign b) ?_ ?_ ?_);(iterate 2 focus (simp [*,encZ] <;> fail));simp [*,encZ])|((first|refine jC (hs.out) ?_ ?_ ?_|refine jQ (hs.out) ?_ ?_ ?_);(iterate 2 focus (simp [*,encZ] <;> fail));simp [*,encZ])|((first|refine jC (hc.out) ?_ ?_ ?_|refine jQ (hc.out) ?_ ?_ ?_);(iterate 2 focus (simp [*,encZ] <;> fail));simp [*,encZ])|with_reducible refine And.intro ?_ ?_|omega|(refine imp1 fun h=>?_))
theorem s_add (u v : Nat) (h : u + v < 18446744073709551616) : PSpec Tryz.prog 158 [mgA u,mgA v] (mgA (u + v)):=by
 have h1 : ((u : Int) + v) % 18446744073709551616 = ((u + v : Nat) : Int):=by omega
 have h2 : ((u : Int) + v) / 18446744073709551616 = 0:=by omega
 have hw:=s_words u v (by omega) (by omega)
 refine pS Tryz.func158 ?_
 intro E hE
 repeat' (first
  |(with_reducible first|refine uK ?_|refine uX ?_|refine jq fun K hK=>?_|refine jb ?_)|((with_reducible first|refine rS hE ?_|refine jn ?_|refine js fun K' hK'=>?_|refine ji fun X Y hX hY=>?_|refine jr ?_|refine jk ?_|refine jx ?_);simp [*])|with_reducible refine rL hE ?_|(refine jC (hw) ?_ ?_ ?_;(iterate 2 focus (simp [*] <;> fail));simp [*])|(refine jC (s_magnitude (u + v) h) ?_ ?_ ?_;(iterate 2 focus (simp [*] <;> fail));simp [*])|(apply acall_add64 Tryz.func185 (by kernel_rfl) (by kernel_rfl) (by kernel_rfl) (by kernel_rfl) (by omega) (by omega);simp [*])|with_reducible refine And.intro ?_ ?_|omega|(refine imp1 fun h=>?_))
theorem s_sub (u v : Nat) (h : u < 18446744073709551616) (h' : v ≤ u) : PSpec Tryz.prog 160 [mgA u,mgA v] (mgA (u - v)):=by
 have h1 : IntKind.u64.wrap ((u : Int) - v) = ((u - v : Nat) : Int):=by rw [w64 (by omega) (by omega)];omega
 have hw:=s_words u v (by omega) (by omega)
 refine pS Tryz.func160 ?_
 intro E hE
 have k'1:=Hld.mk (hw);have k'2:=Hld.mk (s_magnitude (u - v) (by omega));exact ga2
theorem andM {u : Nat} (h : u < 18446744073709551616) : bitsV .and .u64 (u : Int) 4294967295 = ((u % 4294967296 : Nat) : Int):=by
 have h2 : BitVec.ofInt 64 (u : Int) = BitVec.ofNat 64 u:=rfl
 show IntKind.u64.wrap (BitVec.ofInt 64 (u : Int) &&& BitVec.ofInt 64 4294967295 : BitVec 64).toNat = _
 rw [h2,BitVec.toNat_and,BitVec.toNat_ofNat,Nat.mod_eq_of_lt (by omega),show (BitVec.ofInt 64 4294967295).toNat = 2 ^ 32 - 1 from rfl,Nat.and_two_pow_sub_one_eq_mod,w64 (by omega) (by omega)]
theorem s_mul64 (u v : Nat) (hu : u < 18446744073709551616) (hv : v < 18446744073709551616) (h : u * v < 18446744073709551616) : PSpec Tryz.prog 182 [wA u,wA v] (.tup [wA 0,wA (u * v)]):=by
 obtain ⟨x0,hx0⟩ : ∃ x,u % 4294967296 = x:=⟨_,rfl⟩
 obtain ⟨x1,hx1⟩ : ∃ x,u / 4294967296 = x:=⟨_,rfl⟩
 obtain ⟨y0,hy0⟩ : ∃ x,v % 4294967296 = x:=⟨_,rfl⟩
 obtain ⟨y1,hy1⟩ : ∃ x,v / 4294967296 = x:=⟨_,rfl⟩
 obtain ⟨p,hp⟩ : ∃ p,x0 * y0 = p:=⟨_,rfl⟩
 obtain ⟨q,hq⟩ : ∃ p,x1 * y0 = p:=⟨_,rfl⟩
 obtain ⟨r,hr⟩ : ∃ p,x0 * y1 = p:=⟨_,rfl⟩
 obtain ⟨z,hz⟩ : ∃ p,x1 * y1 = p:=⟨_,rfl⟩
 have huv : u * v = z * 18446744073709551616 + (q + r) * 4294967296 + p:=by
  have e1 : u = x1 * 4294967296 + x0:=by omega
  have e2 : v = y1 * 4294967296 + y0:=by omega
  rw [e1,e2,← hp,← hq,← hr,← hz]
  grind
 have hz0 : z = 0:=by omega
 have f1:=andM hu
 have f3:=andM hv
 rw [hx0] at f1
 rw [hy0] at f3
 have f2 : (u : Int) / 4294967296 = x1:=by omega
 have f4 : (v : Int) / 4294967296 = y1:=by omega
 have f5 : IntKind.u64.wrap ((x0 : Int) * y0) = p:=by rw [show (x0 : Int) * y0 = ((x0 * y0 : Nat) : Int) by simp,hp,w64 (by omega) (by omega)]
 have f6 : IntKind.u64.wrap ((x1 : Int) * y0) = q:=by rw [show (x1 : Int) * y0 = ((x1 * y0 : Nat) : Int) by simp,hq,w64 (by omega) (by omega)]
 have f11 : IntKind.u64.wrap ((x0 : Int) * y1) = r:=by rw [show (x0 : Int) * y1 = ((x0 * y1 : Nat) : Int) by simp,hr,w64 (by omega) (by omega)]
 have f13 : IntKind.u64.wrap ((x1 : Int) * y1) = 0:=by rw [show (x1 : Int) * y1 = ((x1 * y1 : Nat) : Int) by simp,hz,hz0];rfl
 obtain ⟨p',hp'⟩ : ∃ x,p / 4294967296 = x:=⟨_,rfl⟩
 have f7 : (p : Int) / 4294967296 = p':=by omega
 have f8 : IntKind.u64.wrap ((q : Int) + p') = ((q + p' : Nat) : Int):=by rw [w64 (by omega) (by omega)];omega
 have f9 : bitsV .and .u64 ((q + p' : Nat) : Int) 4294967295 = ((q + p' : Nat) : Int):=by rw [andM (by omega),Nat.mod_eq_of_lt (by omega)]
 have f10 : ((q + p' : Nat) : Int) / 4294967296 = 0:=by omega
 have f12 : IntKind.u64.wrap (((q + p' : Nat) : Int) + r) = ((q + p' + r : Nat) : Int):=by rw [w64 (by omega) (by omega)];omega
 have f15 : ((q + p' + r : Nat) : Int) / 4294967296 = 0:=by omega
 have f14 : IntKind.u64.wrap 0 = 0:=rfl
 have f16 : IntKind.u64.wrap ((u : Int) * v) = ((u * v : Nat) : Int):=by rw [show (u : Int) * v = ((u * v : Nat) : Int) by simp,w64 (by omega) (by omega)]
 obtain ⟨t,ht⟩ : ∃ t,q + p' = t:=⟨_,rfl⟩
 obtain ⟨s,hs⟩ : ∃ s,t + r = s:=⟨_,rfl⟩
 obtain ⟨m,hm⟩ : ∃ m,u * v = m:=⟨_,rfl⟩
 rw [ht] at f8 f9 f10 f12 f15
 rw [hs] at f12 f15
 rw [hm] at f16 ⊢
 clear hx0 hx1 hy0 hy1 hp hq hr hz huv hp' ht hs hm h hu hv
 refine pS Tryz.func182 ?_
 intro E hE
 exact ga0
theorem s_mul (u v : Nat) (hu : u < 18446744073709551616) (hv : v < 18446744073709551616) (h : u * v < 18446744073709551616) : PSpec Tryz.prog 157 [mgA u,mgA v] (mgA (u * v)):=by
 have hw:=s_words u v hu hv
 have hm:=s_mul64 u v hu hv h
 have hg:=s_magnitude (u * v) h
 obtain ⟨m,hm'⟩ : ∃ m,u * v = m:=⟨_,rfl⟩
 rw [hm'] at hm hg ⊢
 clear hm' h
 refine pS Tryz.func157 ?_
 intro E hE
 have k'1:=Hld.mk (hw);have k'2:=Hld.mk (hm);have k'3:=Hld.mk (hg);exact ga3
theorem s_div (u v : Nat) (hu : u < 18446744073709551616) (hv : v < 18446744073709551616) (h : v ≠ 0) : PSpec Tryz.prog 161 [mgA u,mgA v] (.tup [mgA (u / v),mgA (u % v)]):=by
 have hw:=s_words u v hu hv
 have hl1 : u / v ≤ u:=Nat.div_le_self u v
 have hl2 : u % v ≤ u:=Nat.mod_le u v
 have h1:=s_magnitude (u / v) (by omega)
 have h2:=s_magnitude (u % v) (by omega)
 obtain ⟨q,hq⟩ : ∃ m,u / v = m:=⟨_,rfl⟩
 obtain ⟨r,hr⟩ : ∃ m,u % v = m:=⟨_,rfl⟩
 rw [hq] at h1 hl1 ⊢
 rw [hr] at h2 hl2 ⊢
 have f1 : IntKind.u64.wrap ((u : Int) / v) = q:=by rw [← Int.natCast_ediv,hq,w64 (by omega) (by omega)]
 have f2 : (u : Int).tmod v = r:=by rw [Int.tmod_eq_emod_of_nonneg (by omega),← Int.natCast_emod,hr]
 clear hq hr hl1 hl2
 refine pS Tryz.func161 ?_
 intro E hE
 repeat' (first
  |(with_reducible first|refine uK ?_|refine uQ ?_|refine uX ?_|refine jq fun K hK=>?_|refine jb ?_)|(with_reducible refine rS hE ?_;simp [*])|with_reducible refine rL hE ?_|(((with_reducible show RK _ _ _ _ _ _);first|refine jn ?_|refine js fun K' hK'=>?_);simp [*])|with_reducible refine rD mixed hE ?_|((with_reducible show RKQ _ _ _ _ _ _);first|refine RKQ_nilk ⟨by decide,?_⟩|(refine jv fun K' hK'=>?_;simp [*]))|((with_reducible first|refine ji fun X Y hX hY=>?_|refine jr ?_|refine jk ?_|refine jx ?_);simp [*])|((first|refine jC (hw) ?_ ?_ ?_|refine jQ (hw) ?_ ?_ ?_);(iterate 2 focus (simp [*] <;> fail));simp [*])|((first|refine jC (h1) ?_ ?_ ?_|refine jQ (h1) ?_ ?_ ?_);(iterate 2 focus (simp [*] <;> fail));simp [*])|((first|refine jC (h2) ?_ ?_ ?_|refine jQ (h2) ?_ ?_ ?_);(iterate 2 focus (simp [*] <;> fail));simp [*])|with_reducible refine And.intro ?_ ?_|omega|(refine imp1 fun h=>?_))
theorem s_negate (z : Int) : PSpec Tryz.prog 127 [encZ z] (encZ (-z)):=by
 have h : encZ (-z) = encZ (sgn (!decide (z < 0)) z.natAbs):=by
  congr 1
  unfold sgn
  by_cases h : z < 0 <;> simp [h] <;> omega
 rw [h]
 have hm:=s_made (!decide (z < 0)) z.natAbs
 rw [encZ_sgn] at hm ⊢
 refine pS Tryz.func127 ?_
 intro E hE
 repeat' (first
  |(with_reducible first|refine uK ?_|refine uQ ?_|refine uX ?_|refine jq fun K hK=>?_|refine jb ?_)|(with_reducible refine rS hE ?_;simp [*,encZ])|with_reducible refine rL hE ?_|(((with_reducible show RK _ _ _ _ _ _);first|refine jn ?_|refine js fun K' hK'=>?_);simp [*,encZ])|with_reducible refine rD mixed hE ?_|((with_reducible show RKQ _ _ _ _ _ _);first|refine RKQ_nilk ⟨by decide,?_⟩|(refine jv fun K' hK'=>?_;simp [*,encZ]))|((with_reducible first|refine ji fun X Y hX hY=>?_|refine jr ?_|refine jk ?_|refine jx ?_);simp [*,encZ])|((first|refine jC (hm) ?_ ?_ ?_|refine jQ (hm) ?_ ?_ ?_);(iterate 2 focus (simp [*,encZ] <;> fail));simp [*,encZ])|with_reducible refine And.intro ?_ ?_|omega|(refine imp1 fun h=>?_))
theorem s_addZ (a b : Int) (h : a.natAbs + b.natAbs < 18446744073709551616) : PSpec Tryz.prog 125 [encZ a,encZ b] (encZ (a + b)):=by
 have hc:=Hld.mk (s_compare a.natAbs b.natAbs)
 have ha:=Hld.mk (s_add a.natAbs b.natAbs h)
 by_cases h1 : decide (a < 0) = decide (b < 0)
 ·have e : a + b = sgn (decide (a < 0)) (a.natAbs + b.natAbs):=by
   unfold sgn
   by_cases h2 : a < 0 <;> simp [h2] at h1 ⊢ <;> omega
  have hm:=s_made (decide (a < 0)) (a.natAbs + b.natAbs)
  rw [e]
  rw [encZ_sgn] at hm ⊢
  replace hm:=Hld.mk hm
  clear e
  refine pS Tryz.func125 ?_
  intro E hE
  repeat' (first
   |(with_reducible first|refine uK ?_|refine uQ ?_|refine uX ?_|refine jq fun K hK=>?_|refine jb ?_)|(with_reducible refine rS hE ?_;simp [*,encZ])|with_reducible refine rL hE ?_|(((with_reducible show RK _ _ _ _ _ _);first|refine jn ?_|refine js fun K' hK'=>?_);simp [*,encZ])|with_reducible refine rD mixed hE ?_|((with_reducible show RKQ _ _ _ _ _ _);first|refine RKQ_nilk ⟨by decide,?_⟩|(refine jv fun K' hK'=>?_;simp [*,encZ]))|((with_reducible first|refine ji fun X Y hX hY=>?_|refine jr ?_|refine jk ?_|refine jx ?_);simp [*,encZ])|((first|refine jC (hc.out) ?_ ?_ ?_|refine jQ (hc.out) ?_ ?_ ?_);(iterate 2 focus (simp [*,encZ] <;> fail));simp [*,encZ])|((first|refine jC (ha.out) ?_ ?_ ?_|refine jQ (ha.out) ?_ ?_ ?_);(iterate 2 focus (simp [*,encZ] <;> fail));simp [*,encZ])|((first|refine jC (hm.out) ?_ ?_ ?_|refine jQ (hm.out) ?_ ?_ ?_);(iterate 2 focus (simp [*,encZ] <;> fail));simp [*,encZ])|with_reducible refine And.intro ?_ ?_|omega|(refine imp1 fun h=>?_))
 ·have h1' : ¬ decide (b < 0) = decide (a < 0):=fun e=>h1 e.symm
  by_cases h2 : b.natAbs ≤ a.natAbs
  ·have e : a + b = sgn (decide (a < 0)) (a.natAbs - b.natAbs):=by
    unfold sgn
    by_cases h3 : a < 0 <;> simp [h3] at h1 ⊢ <;> omega
   have hm:=s_made (decide (a < 0)) (a.natAbs - b.natAbs)
   have hs:=Hld.mk (s_sub a.natAbs b.natAbs (by omega) h2)
   have hci : (0 : Int) ≤ cmpI a.natAbs b.natAbs:=by unfold cmpI;repeat' split <;> omega
   rw [e]
   rw [encZ_sgn] at hm ⊢
   replace hm:=Hld.mk hm
   clear e
   refine pS Tryz.func125 ?_
   intro E hE
   repeat' (first
    |(with_reducible first|refine uK ?_|refine uQ ?_|refine uX ?_|refine jq fun K hK=>?_|refine jb ?_)|(with_reducible refine rS hE ?_;simp [*,encZ])|with_reducible refine rL hE ?_|(((with_reducible show RK _ _ _ _ _ _);first|refine jn ?_|refine js fun K' hK'=>?_);simp [*,encZ])|with_reducible refine rD mixed hE ?_|((with_reducible show RKQ _ _ _ _ _ _);first|refine RKQ_nilk ⟨by decide,?_⟩|(refine jv fun K' hK'=>?_;simp [*,encZ]))|((with_reducible first|refine ji fun X Y hX hY=>?_|refine jr ?_|refine jk ?_|refine jx ?_);simp [*,encZ])|((first|refine jC (hc.out) ?_ ?_ ?_|refine jQ (hc.out) ?_ ?_ ?_);(iterate 2 focus (simp [*,encZ] <;> fail));simp [*,encZ])|((first|refine jC (hs.out) ?_ ?_ ?_|refine jQ (hs.out) ?_ ?_ ?_);(iterate 2 focus (simp [*,encZ] <;> fail));simp [*,encZ])|((first|refine jC (hm.out) ?_ ?_ ?_|refine jQ (hm.out) ?_ ?_ ?_);(iterate 2 focus (simp [*,encZ] <;> fail));simp [*,encZ])|with_reducible refine And.intro ?_ ?_|omega|(refine imp1 fun h=>?_))
  ·have e : a + b = sgn (decide (b < 0)) (b.natAbs - a.natAbs):=by
    unfold sgn
    by_cases h3 : b < 0 <;> simp [h3] at h1 ⊢ <;> omega
   have hm:=s_made (decide (b < 0)) (b.natAbs - a.natAbs)
   have hs:=Hld.mk (s_sub b.natAbs a.natAbs (by omega) (by omega))
   have hci : ¬ (0 : Int) ≤ cmpI a.natAbs b.natAbs:=by unfold cmpI;repeat' split <;> omega
   rw [e]
   rw [encZ_sgn] at hm ⊢
   replace hm:=Hld.mk hm
   clear e
   refine pS Tryz.func125 ?_
   intro E hE
   repeat' (first
    |(with_reducible first|refine uK ?_|refine uQ ?_|refine uX ?_|refine jq fun K hK=>?_|refine jb ?_)|(with_reducible refine rS hE ?_;simp [*,encZ])|with_reducible refine rL hE ?_|(((with_reducible show RK _ _ _ _ _ _);first|refine jn ?_|refine js fun K' hK'=>?_);simp [*,encZ])|with_reducible refine rD mixed hE ?_|((with_reducible show RKQ _ _ _ _ _ _);first|refine RKQ_nilk ⟨by decide,?_⟩|(refine jv fun K' hK'=>?_;simp [*,encZ]))|((with_reducible first|refine ji fun X Y hX hY=>?_|refine jr ?_|refine jk ?_|refine jx ?_);simp [*,encZ])|((first|refine jC (hc.out) ?_ ?_ ?_|refine jQ (hc.out) ?_ ?_ ?_);(iterate 2 focus (simp [*,encZ] <;> fail));simp [*,encZ])|((first|refine jC (hs.out) ?_ ?_ ?_|refine jQ (hs.out) ?_ ?_ ?_);(iterate 2 focus (simp [*,encZ] <;> fail));simp [*,encZ])|((first|refine jC (hm.out) ?_ ?_ ?_|refine jQ (hm.out) ?_ ?_ ?_);(iterate 2 focus (simp [*,encZ] <;> fail));simp [*,encZ])|with_reducible refine And.intro ?_ ?_|omega|(refine imp1 fun h=>?_))
@[simp] theorem mgB_0 : mgB 0 = ⟨#[]⟩:=rfl
@[simp] theorem mgB_1 : mgB 1 = ⟨#[1]⟩:=by decide
@[simp] theorem mgB_2 : mgB 2 = ⟨#[2]⟩:=by decide
@[simp] theorem mgA_0 : mgA 0 = .v (.string ⟨#[]⟩):=rfl
@[simp] theorem mgA_1 : mgA 1 = .v (.string ⟨#[1]⟩):=by rw [← mgB_1]
@[simp] theorem mgA_2 : mgA 2 = .v (.string ⟨#[2]⟩):=by rw [← mgB_2]
theorem s_mulZ (a b : Int) (ha : a.natAbs < 18446744073709551616) (hb : b.natAbs < 18446744073709551616) (h : a.natAbs * b.natAbs < 18446744073709551616) : PSpec Tryz.prog 123 [encZ a,encZ b] (encZ (a * b)):=by
 have hm:=Hld.mk (s_mul a.natAbs b.natAbs ha hb h)
 have e : a * b = sgn (!(decide (a < 0) == decide (b < 0))) (a.natAbs * b.natAbs):=by
  rw [← Int.natAbs_mul]
  have h1:=Int.natAbs_mul a b
  unfold sgn
  by_cases h2 : a < 0
  ·by_cases h3 : b < 0
   ·have:=Int.mul_pos_of_neg_of_neg h2 h3
    simp [h2,h3];omega
   ·have:=Int.mul_nonpos_of_nonpos_of_nonneg (Int.le_of_lt h2) (Int.not_lt.1 h3)
    simp [h2,h3];omega
  ·by_cases h3 : b < 0
   ·have:=Int.mul_nonpos_of_nonneg_of_nonpos (Int.not_lt.1 h2) (Int.le_of_lt h3)
    simp [h2,h3];omega
   ·have:=Int.mul_nonneg (Int.not_lt.1 h2) (Int.not_lt.1 h3)
    simp [h2,h3];omega
 have hk:=s_made (!(decide (a < 0) == decide (b < 0))) (a.natAbs * b.natAbs)
 rw [e]
 rw [encZ_sgn] at hk ⊢
 obtain ⟨m,hm'⟩ : ∃ m,a.natAbs * b.natAbs = m:=⟨_,rfl⟩
 rw [hm'] at hm hk ⊢
 replace hk:=Hld.mk hk
 clear e hm' h
 refine pS Tryz.func123 ?_
 intro E hE
 repeat' (first
  |(with_reducible first|refine uK ?_|refine uQ ?_|refine uX ?_|refine jq fun K hK=>?_|refine jb ?_)|(with_reducible refine rS hE ?_;simp [*,encZ])|with_reducible refine rL hE ?_|(((with_reducible show RK _ _ _ _ _ _);first|refine jn ?_|refine js fun K' hK'=>?_);simp [*,encZ])|with_reducible refine rD mixed hE ?_|((with_reducible show RKQ _ _ _ _ _ _);first|refine RKQ_nilk ⟨by decide,?_⟩|(refine jv fun K' hK'=>?_;simp [*,encZ]))|((with_reducible first|refine ji fun X Y hX hY=>?_|refine jr ?_|refine jk ?_|refine jx ?_);simp [*,encZ])|((first|refine jC (hm.out) ?_ ?_ ?_|refine jQ (hm.out) ?_ ?_ ?_);(iterate 2 focus (simp [*,encZ] <;> fail));simp [*,encZ])|((first|refine jC (hk.out) ?_ ?_ ?_|refine jQ (hk.out) ?_ ?_ ?_);(iterate 2 focus (simp [*,encZ] <;> fail));simp [*,encZ])|with_reducible refine And.intro ?_ ?_|omega|(refine imp1 fun h=>?_))
theorem divZ {a b : Int} (hb : b ≠ 0) : a / b = sgn (!(decide (a < 0) == decide (b < 0))) (if a < 0 ∧ a.natAbs % b.natAbs ≠ 0 then a.natAbs / b.natAbs + 1 else a.natAbs / b.natAbs) ∧ a % b = ((if a < 0 ∧ a.natAbs % b.natAbs ≠ 0 then b.natAbs - a.natAbs % b.natAbs else a.natAbs % b.natAbs : Nat) : Int):=by
 have pos : ∀ (a : Int) (n : Nat),n ≠ 0 → a / n = sgn (decide (a < 0)) (if a < 0 ∧ a.natAbs % n ≠ 0 then a.natAbs / n + 1 else a.natAbs / n) ∧ a % n = ((if a < 0 ∧ a.natAbs % n ≠ 0 then n - a.natAbs % n else a.natAbs % n : Nat) : Int):=by
  intro a n hn
  have hlt:=Nat.mod_lt a.natAbs (Nat.pos_of_ne_zero hn)
  have hdm:=Nat.div_add_mod a.natAbs n
  refine (Int.ediv_emod_unique (by omega)).2 ?_
  obtain ⟨q,hq⟩ : ∃ q,a.natAbs / n = q:=⟨_,rfl⟩
  obtain ⟨r,hr⟩ : ∃ q,a.natAbs % n = q:=⟨_,rfl⟩
  rw [hq,hr] at hdm
  rw [hr] at hlt
  rw [hq,hr]
  have hz : (n : Int) * q + r = a.natAbs:=by rw [← hdm];simp
  by_cases h1 : a < 0
  ·by_cases h2 : r = 0
   ·subst h2
    simp only [h1,ne_eq,not_true_eq_false,and_false,if_false,sgn,decide_true,if_true]
    refine ⟨?_,by omega,by omega⟩
    rw [Int.mul_neg];omega
   ·simp only [h1,ne_eq,h2,not_false_eq_true,and_true,if_true,sgn,decide_true]
    refine ⟨?_,by omega,by omega⟩
    rw [Int.mul_neg,show ((q + 1 : Nat) : Int) = (q : Int) + 1 by omega,Int.mul_add];omega
  ·simp only [h1,false_and,if_false,sgn,decide_false]
   refine ⟨?_,by omega,by omega⟩
   simp;omega
 by_cases h : b < 0
 ·have hb' : b = -(b.natAbs : Int):=by omega
  obtain ⟨p1,p2⟩:=pos a b.natAbs (by omega)
  rw [show a / b = a / -(b.natAbs : Int) by rw [← hb'],show a % b = a % -(b.natAbs : Int) by rw [← hb'],Int.ediv_neg,Int.emod_neg,p1]
  refine ⟨?_,p2⟩
  unfold sgn
  by_cases h1 : a < 0 <;> simp [h1,h]
 ·have hb' : b = (b.natAbs : Int):=by omega
  obtain ⟨p1,p2⟩:=pos a b.natAbs (by omega)
  rw [← hb'] at p1 p2
  refine ⟨?_,p2⟩
  rw [p1]
  by_cases h1 : a < 0 <;> simp [h1,h]
theorem s_divmod (a b : Int) (ha : a.natAbs < 9223372036854775808) (hb : b.natAbs < 9223372036854775808) (h : b ≠ 0) : PSpec Tryz.prog 126 [encZ a,encZ b] (.tup [encZ (a / b),encZ (a % b),iA 0]):=by
 have hbn : b.natAbs ≠ 0:=by omega
 have hd:=s_div a.natAbs b.natAbs (by omega) (by omega) hbn
 have hlt:=Nat.mod_lt a.natAbs (Nat.pos_of_ne_zero hbn)
 have hle:=Nat.div_le_self a.natAbs b.natAbs
 obtain ⟨e1,e2⟩:=divZ (a:=a) h
 obtain ⟨q,hq⟩ : ∃ q,a.natAbs / b.natAbs = q:=⟨_,rfl⟩
 obtain ⟨r,hr⟩ : ∃ q,a.natAbs % b.natAbs = q:=⟨_,rfl⟩
 rw [hq,hr] at e1 hd
 rw [hr] at e2
 rw [hq] at hle
 rw [hr] at hlt
 rw [e1,e2]
 clear hq hr e1 e2
 by_cases hc : a < 0 ∧ r ≠ 0
 ·rw [if_pos hc,if_pos hc]
  obtain ⟨hc1,hc2⟩:=hc
  have k1:=s_add q 1 (by omega)
  have k2:=s_sub b.natAbs r (by omega) (by omega)
  have m1:=s_made (!(decide (a < 0) == decide (b < 0))) (q + 1)
  have m2:=s_made false (b.natAbs - r)
  rw [show ((b.natAbs - r : Nat) : Int) = sgn false (b.natAbs - r) from rfl]
  rw [encZ_sgn] at m1 m2 ⊢
  rw [encZ_sgn]
  have hr0 : ¬ b.natAbs - r = 0:=by omega
  simp [hr0,hc1] at m1 m2 k1 ⊢
  refine pS Tryz.func126 ?_
  intro E hE
  repeat' (first
   |(with_reducible first|refine uK ?_|refine uX ?_|refine jq fun K hK=>?_|refine jb ?_)|((with_reducible first|refine rS hE ?_|refine jn ?_|refine js fun K' hK'=>?_|refine ji fun X Y hX hY=>?_|refine jr ?_|refine jk ?_|refine jx ?_);simp [*,encZ])|with_reducible refine rL hE ?_|(refine jC (hd) ?_ ?_ ?_;(iterate 2 focus (simp [*,encZ] <;> fail));simp [*,encZ])|(refine jC (k1) ?_ ?_ ?_;(iterate 2 focus (simp [*,encZ] <;> fail));simp [*,encZ])|(refine jC (k2) ?_ ?_ ?_;(iterate 2 focus (simp [*,encZ] <;> fail));simp [*,encZ])|(refine jC (m1) ?_ ?_ ?_;(iterate 2 focus (simp [*,encZ] <;> fail));simp [*,encZ])|(refine jC (m2) ?_ ?_ ?_;(iterate 2 focus (simp [*,encZ] <;> fail));simp [*,encZ])|with_reducible refine And.intro ?_ ?_|omega|(refine imp1 fun h=>?_))
  refine AW_drawHd ⟨[],[]⟩ mixed (by simp) fun E' hE'=>?_
  have hEn:=hE'.trans hE
  repeat' (first
   |(with_reducible first|refine useK (by assumption) ?_|refine useK3 (by assumption) ?_)|((with_reducible show DHd _ _ _ _ _ _ _);first|(refine DHd_done (by decide +kernel) ?_;try simp only [thenK,inBlk])|(refine dt hEn 0 fun K' hK'=>?_;simp [*,encZ];fail_if_success (with_reducible show False))|(refine dt hEn 1 fun K' hK'=>?_;simp [*,encZ];fail_if_success (with_reducible show False))|(refine dt hEn 2 fun K' hK'=>?_;simp [*,encZ];fail_if_success (with_reducible show False))|(refine dt hEn 3 fun K' hK'=>?_;simp [*,encZ];fail_if_success (with_reducible show False))|(refine dt hEn 4 fun K' hK'=>?_;simp [*,encZ];fail_if_success (with_reducible show False))|(refine dt hEn 5 fun K' hK'=>?_;simp [*,encZ];fail_if_success (with_reducible show False))|(refine dt hEn 6 fun K' hK'=>?_;simp [*,encZ];fail_if_success (with_reducible show False))|(refine dt hEn 7 fun K' hK'=>?_;simp [*,encZ];fail_if_success (with_reducible show False))|(refine dp hEn 0 fun K' hK'=>?_;simp [*,encZ];fail_if_success (with_reducible show False))|(refine dp hEn 1 fun K' hK'=>?_;simp [*,encZ];fail_if_success (with_reducible show False))|(refine dp hEn 2 fun K' hK'=>?_;simp [*,encZ];fail_if_success (with_reducible show False))|(refine dp hEn 3 fun K' hK'=>?_;simp [*,encZ];fail_if_success (with_reducible show False))|(refine dp hEn 4 fun K' hK'=>?_;simp [*,encZ];fail_if_success (with_reducible show False))|(refine dp hEn 5 fun K' hK'=>?_;simp [*,encZ];fail_if_success (with_reducible show False))|(refine dp hEn 6 fun K' hK'=>?_;simp [*,encZ];fail_if_success (with_reducible show False))|(refine dp hEn 7 fun K' hK'=>?_;simp [*,encZ];fail_if_success (with_reducible show False))|refine DHd_any rfl (by decide +kernel) ?_)|exact DHsome_nil|refine DHsome_no (by decide +kernel) ?_|(refine DHsome_yes (by exact rfl) rfl (by rw [hEn];decide) (fun K' hK'=>?_) ?_;simp [*,encZ];fail_if_success (with_reducible show False))|(refine DHsome_yesG (by exact rfl) rfl (by exact rfl) (by rw [hEn];decide) (fun K' hK'=>?_) ?_;simp [*,encZ];fail_if_success (with_reducible show False))|(refine acall_same (k1) ?_ ?_ ?_;(focus (simp [*,encZ] <;> fail));(focus (simp [*,encZ] <;> fail));simp [*,encZ])|(refine acall_view (k1) ?_ ?_ ?_;(focus (simp [*,encZ] <;> fail));(focus (simp [*,encZ] <;> fail));simp [*,encZ])|(refine acall_same (k2) ?_ ?_ ?_;(focus (simp [*,encZ] <;> fail));(focus (simp [*,encZ] <;> fail));simp [*,encZ])|(refine acall_view (k2) ?_ ?_ ?_;(focus (simp [*,encZ] <;> fail));(focus (simp [*,encZ] <;> fail));simp [*,encZ])|with_reducible refine And.intro ?_ ?_|omega|(with_reducible refine imp1 fun h=>?_))
  all_goals
   have k'1:=Hld.mk (m1);have k'2:=Hld.mk (m2);have z'1:=@encZ.eq_1;exact ga2
 ·rw [if_neg hc,if_neg hc]
  have m1:=s_made (!(decide (a < 0) == decide (b < 0))) q
  have m2:=s_made false r
  rw [show ((r : Nat) : Int) = sgn false r from rfl]
  rw [encZ_sgn] at m1 m2 ⊢
  rw [encZ_sgn]
  by_cases hc1 : a < 0
  ·have hc2 : r = 0:=by
    by_cases h2 : r = 0
    ·exact h2
    ·exact absurd ⟨hc1,h2⟩ hc
   subst hc2
   simp [hc1] at m1 m2 ⊢
   refine pS Tryz.func126 ?_
   intro E hE
   repeat' (first
    |(with_reducible first|refine uK ?_|refine uQ ?_|refine uX ?_|refine jq fun K hK=>?_|refine jb ?_)|(with_reducible refine rS hE ?_;simp [*,encZ])|with_reducible refine rL hE ?_|(((with_reducible show RK _ _ _ _ _ _);first|refine jn ?_|refine js fun K' hK'=>?_);simp [*,encZ])|with_reducible refine rD mixed hE ?_|((with_reducible show RKQ _ _ _ _ _ _);first|refine RKQ_nilk ⟨by decide,?_⟩|(refine jv fun K' hK'=>?_;simp [*,encZ]))|((with_reducible first|refine ji fun X Y hX hY=>?_|refine jr ?_|refine jk ?_|refine jx ?_);simp [*,encZ])|((first|refine jC (hd) ?_ ?_ ?_|refine jQ (hd) ?_ ?_ ?_);(iterate 2 focus (simp [*,encZ] <;> fail));simp [*,encZ])|((first|refine jC (m1) ?_ ?_ ?_|refine jQ (m1) ?_ ?_ ?_);(iterate 2 focus (simp [*,encZ] <;> fail));simp [*,encZ])|((first|refine jC (m2) ?_ ?_ ?_|refine jQ (m2) ?_ ?_ ?_);(iterate 2 focus (simp [*,encZ] <;> fail));simp [*,encZ])|with_reducible refine And.intro ?_ ?_|omega|(refine imp1 fun h=>?_))
  ·simp [hc1] at m1 m2 ⊢
   refine pS Tryz.func126 ?_
   intro E hE
   repeat' (first
    |(with_reducible first|refine uK ?_|refine uQ ?_|refine uX ?_|refine jq fun K hK=>?_|refine jb ?_)|(with_reducible refine rS hE ?_;simp [*,encZ])|with_reducible refine rL hE ?_|(((with_reducible show RK _ _ _ _ _ _);first|refine jn ?_|refine js fun K' hK'=>?_);simp [*,encZ])|with_reducible refine rD mixed hE ?_|((with_reducible show RKQ _ _ _ _ _ _);first|refine RKQ_nilk ⟨by decide,?_⟩|(refine jv fun K' hK'=>?_;simp [*,encZ]))|((with_reducible first|refine ji fun X Y hX hY=>?_|refine jr ?_|refine jk ?_|refine jx ?_);simp [*,encZ])|((first|refine jC (hd) ?_ ?_ ?_|refine jQ (hd) ?_ ?_ ?_);(iterate 2 focus (simp [*,encZ] <;> fail));simp [*,encZ])|((first|refine jC (m1) ?_ ?_ ?_|refine jQ (m1) ?_ ?_ ?_);(iterate 2 focus (simp [*,encZ] <;> fail));simp [*,encZ])|((first|refine jC (m2) ?_ ?_ ?_|refine jQ (m2) ?_ ?_ ?_);(iterate 2 focus (simp [*,encZ] <;> fail));simp [*,encZ])|with_reducible refine And.intro ?_ ?_|omega|(refine imp1 fun h=>?_))
theorem s_fromInt (n : Int) (h1 : -9223372036854775808 ≤ n) (h2 : n < 9223372036854775808) : PSpec Tryz.prog 75 [iA n] (encZ n):=by
 have e:=encZ_sgn (decide (n < 0)) n.natAbs
 rw [sgn_self] at e
 have m1:=s_made (decide (n < 0)) n.natAbs
 rw [encZ_sgn] at m1
 have k:=s_magnitude n.natAbs (by omega)
 rw [e]
 clear e
 refine pS Tryz.func75 ?_
 intro E hE
 by_cases hn : n < 0
 ·have f1 : IntKind.u64.wrap n = n + 18446744073709551616:=by simp [IntKind.wrap,IntKind.bits,IntKind.signed];omega
  have f2 : (18446744073709551616 - (n + 18446744073709551616)) % 18446744073709551616 = (n.natAbs : Int):=by omega
  simp [hn] at m1 ⊢
  have k'1:=Hld.mk (k);have k'2:=Hld.mk (m1);exact ga2
 ·have f1 : IntKind.u64.wrap n = (n.natAbs : Int):=by rw [w64 (by omega) (by omega)];omega
  simp [hn] at m1 ⊢
  have k'1:=Hld.mk (k);have k'2:=Hld.mk (m1);exact ga2
theorem s_toInt (z : Int) (h1 : -9223372036854775808 ≤ z) (h2 : z < 9223372036854775808) : PSpec Tryz.prog 85 [encZ z] (.tup [iA z,bA true]):=by
 have k:=s_word z.natAbs (by omega)
 refine pS Tryz.func85 ?_
 intro E hE
 by_cases hn : z < 0
 ·have f1 : (18446744073709551616 - (z.natAbs : Int)) % 18446744073709551616 = z + 18446744073709551616:=by omega
  have f2 : IntKind.i64.wrap (z + 18446744073709551616) = z:=by simp [IntKind.wrap,IntKind.bits,IntKind.signed];omega
  have f3 : (z.natAbs : Int) ≤ 9223372036854775808:=by omega
  have k'1:=Hld.mk (k);have z'1:=@encZ.eq_1;exact ga1
 ·have f2 : IntKind.i64.wrap (z.natAbs : Int) = z:=by rw [wi (by omega) (by omega)];omega
  have f3 : (z.natAbs : Int) ≤ 9223372036854775807:=by omega
  have k'1:=Hld.mk (k);have z'1:=@encZ.eq_1;exact ga1
theorem s_gcd (a b : Int) (ha : a.natAbs < 9223372036854775808) (hb : b.natAbs < 9223372036854775808) : PSpec Tryz.prog 150 [encZ a,encZ b] (encZ (Int.gcd a b : Nat)):=by
 have hw:=Hld.mk (s_words a.natAbs b.natAbs (by omega) (by omega))
 have hg : Int.gcd a b = Nat.gcd a.natAbs b.natAbs:=rfl
 obtain ⟨g,hgg⟩ : ∃ g,Int.gcd a b = g:=⟨_,rfl⟩
 rw [hgg] at hg ⊢
 clear hgg
 have hk:=s_made false g
 rw [show ((g : Nat) : Int) = sgn false g from rfl]
 rw [encZ_sgn] at hk ⊢
 replace hk:=Hld.mk hk
 refine pS Tryz.func150 ?_
 intro E hE
 refine AW_seqt ⟨[(4,.loc 4 0),(3,.loc 3 0),(2,.loc 2 0)],[(4,.box 82 (.st [bA false,eA])),(3,.box 82 (encZ b)),(2,.box 82 (encZ a))]⟩ ?_ (by
  intro K hK
  have z'1:=@encZ.eq_1;exact ga0)
 refine AW_seqt ⟨[(6,mgA b.natAbs),(5,mgA a.natAbs),(4,.loc 4 0)],[(4,.box 82 (.st [bA false,eA]))]⟩ ?_ (by
  intro K hK
  refine AW_drawHd ⟨[],[]⟩ mixed (by simp) fun E' hE'=>?_
  have hEn:=hE'.trans hE
  repeat' (first
   |(with_reducible first|refine useK (by assumption) ?_|refine useK3 (by assumption) ?_)|((with_reducible show DHd _ _ _ _ _ _ _);first|(refine DHd_done (by decide +kernel) ?_;try simp only [thenK,inBlk])|(refine dt hEn 0 fun K' hK'=>?_;simp [*,encZ];fail_if_success (with_reducible show False))|(refine dt hEn 1 fun K' hK'=>?_;simp [*,encZ];fail_if_success (with_reducible show False))|(refine dt hEn 2 fun K' hK'=>?_;simp [*,encZ];fail_if_success (with_reducible show False))|(refine dt hEn 3 fun K' hK'=>?_;simp [*,encZ];fail_if_success (with_reducible show False))|(refine dt hEn 4 fun K' hK'=>?_;simp [*,encZ];fail_if_success (with_reducible show False))|(refine dt hEn 5 fun K' hK'=>?_;simp [*,encZ];fail_if_success (with_reducible show False))|(refine dp hEn 0 fun K' hK'=>?_;simp [*,encZ];fail_if_success (with_reducible show False))|(refine dp hEn 1 fun K' hK'=>?_;simp [*,encZ];fail_if_success (with_reducible show False))|(refine dp hEn 2 fun K' hK'=>?_;simp [*,encZ];fail_if_success (with_reducible show False))|(refine dp hEn 3 fun K' hK'=>?_;simp [*,encZ];fail_if_success (with_reducible show False))|(refine dp hEn 4 fun K' hK'=>?_;simp [*,encZ];fail_if_success (with_reducible show False))|(refine dp hEn 5 fun K' hK'=>?_;simp [*,encZ];fail_if_success (with_reducible show False))|refine DHd_any rfl (by decide +kernel) ?_)|exact DHsome_nil|refine DHsome_no (by decide +kernel) ?_|(refine DHsome_yes (by exact rfl) rfl (by rw [hEn];decide) (fun K' hK'=>?_) ?_;simp [*,encZ];fail_if_success (with_reducible show False))|(refine DHsome_yesG (by exact rfl) rfl (by exact rfl) (by rw [hEn];decide) (fun K' hK'=>?_) ?_;simp [*,encZ];fail_if_success (with_reducible show False))|with_reducible refine And.intro ?_ ?_|omega|(with_reducible refine imp1 fun h=>?_))
  all_goals simp)
 refine AW_seqt ⟨[(5,mgA g),(4,.loc 4 0)],[(4,.box 82 (.st [bA false,eA]))]⟩ ?_ (by
  intro K hK
  refine AW_block ?_
  refine AW_loopk (G:=Unit) (fun _=>⟨[(6,mgA b.natAbs),(5,mgA a.natAbs),(4,.loc 4 0)],[(4,.box 82 (.st [bA false,eA]))]⟩) (fun _=>True) (fun _=>0) () trivial (by simp) ?_
  intro _ _ K hK
  by_cases h0 : b.natAbs = 0
  ·have e : g = a.natAbs:=by rw [hg,h0];simp
   simp [h0]
   exact ga0
  ·have hgb : g ≤ b.natAbs:=by rw [hg];exact Nat.le_of_dvd (by omega) (Nat.gcd_dvd_right _ _)
   have hmg:=Hld.mk (s_magnitude g (by omega))
   have hk':=hk.out
   simp at hk'
   replace hk':=Hld.mk hk'
   repeat' (first
    |(with_reducible first|refine uK ?_|refine uX ?_|refine jq fun K hK=>?_|refine jb ?_)|((with_reducible first|refine rS hE ?_|refine jn ?_|refine js fun K' hK'=>?_|refine ji fun X Y hX hY=>?_|refine jr ?_|refine jk ?_|refine jx ?_);simp [*])|with_reducible refine rL hE ?_|(refine jC (hw.out) ?_ ?_ ?_;(iterate 2 focus (simp [*] <;> fail));simp [*])|with_reducible refine And.intro ?_ ?_|omega|(refine imp1 fun h=>?_))
   refine AW_loopk (G:=Nat × Nat) (fun p=>⟨[(8,wA p.2),(7,wA p.1),(4,.loc 4 0)],[(4,.box 82 (.st [bA false,eA]))]⟩) (fun p=>p.1 < 9223372036854775808 ∧ p.2 < 9223372036854775808 ∧ Nat.gcd p.1 p.2 = g) (fun p=>p.2) (a.natAbs,b.natAbs) ⟨ha,hb,hg.symm⟩ (by simp) ?_
   rintro ⟨u,v⟩ ⟨h1,h2,h3⟩ K hK
   simp only at h1 h2 h3 ⊢
   by_cases hv : v = 0
   ·subst hv
    have h4 : u = g:=by simpa using h3
    subst h4
    have k'1:=hmg;have k'2:=hk';exact ga2
   ·have f2 : (u : Int).tmod v = ((u % v : Nat) : Int):=by rw [Int.tmod_eq_emod_of_nonneg (by omega),← Int.natCast_emod]
    have h4 : Nat.gcd v (u % v) = g:=by rw [Nat.gcd_comm v (u % v),← Nat.gcd_rec v u,Nat.gcd_comm v u];exact h3
    have h5:=Nat.mod_lt u (Nat.pos_of_ne_zero hv)
    obtain ⟨r,hr⟩ : ∃ r,u % v = r:=⟨_,rfl⟩
    rw [hr] at f2 h4 h5
    clear hr h3
    replace h4:=Hld.mk h4
    refine sq ⟨[(8,wA v),(7,wA u),(4,.loc 4 0)],[(4,.box 82 (.st [bA false,eA]))]⟩ ?_
    refine AW_block ?_
    refine AW_drawHd ⟨[],[]⟩ mixed (by simp) fun E' hE'=>?_
    have hEn:=hE'.trans hE
    repeat' (first
     |(with_reducible first|refine useK (by assumption) ?_|refine useK3 (by assumption) ?_)|((with_reducible show DHd _ _ _ _ _ _ _);first|(refine DHd_done (by decide +kernel) ?_;try simp only [thenK,inBlk])|(refine dt hEn 0 fun K' hK'=>?_;simp [*];fail_if_success (with_reducible show False))|(refine dt hEn 1 fun K' hK'=>?_;simp [*];fail_if_success (with_reducible show False))|(refine dt hEn 2 fun K' hK'=>?_;simp [*];fail_if_success (with_reducible show False))|(refine dt hEn 3 fun K' hK'=>?_;simp [*];fail_if_success (with_reducible show False))|(refine dt hEn 4 fun K' hK'=>?_;simp [*];fail_if_success (with_reducible show False))|(refine dt hEn 5 fun K' hK'=>?_;simp [*];fail_if_success (with_reducible show False))|(refine dp hEn 0 fun K' hK'=>?_;simp [*];fail_if_success (with_reducible show False))|(refine dp hEn 1 fun K' hK'=>?_;simp [*];fail_if_success (with_reducible show False))|(refine dp hEn 2 fun K' hK'=>?_;simp [*];fail_if_success (with_reducible show False))|(refine dp hEn 3 fun K' hK'=>?_;simp [*];fail_if_success (with_reducible show False))|(refine dp hEn 4 fun K' hK'=>?_;simp [*];fail_if_success (with_reducible show False))|(refine dp hEn 5 fun K' hK'=>?_;simp [*];fail_if_success (with_reducible show False))|refine DHd_any rfl (by decide +kernel) ?_)|exact DHsome_nil|refine DHsome_no (by decide +kernel) ?_|(refine DHsome_yes (by exact rfl) rfl (by rw [hEn];decide) (fun K' hK'=>?_) ?_;simp [*];fail_if_success (with_reducible show False))|(refine DHsome_yesG (by exact rfl) rfl (by exact rfl) (by rw [hEn];decide) (fun K' hK'=>?_) ?_;simp [*];fail_if_success (with_reducible show False))|with_reducible refine And.intro ?_ ?_|omega|(with_reducible refine imp1 fun h=>?_))
    all_goals exact ⟨(v,r),⟨by omega,by omega,h4.out⟩,by simpa using h5,by simp⟩)
 have hk':=hk.out
 simp at hk'
 have k'1:=Hld.mk (hk');exact ga1
theorem s_root0 : PSpec Tryz.prog 156 [mgA 0] (mgA 0):=by
 refine pS Tryz.func156 ?_
 intro E hE
 exact ga0
theorem s_sqrt0 : PSpec Tryz.prog 122 [encZ 0] (.tup [encZ 0,iA 0]):=by
 have hk:=s_made false 0
 rw [encZ_sgn] at hk
 simp at hk
 have hr:=s_root0
 simp at hr
 refine pS Tryz.func122 ?_
 intro E hE
 repeat' (first
  |(with_reducible first|refine uK ?_|refine uQ ?_|refine uX ?_|refine jq fun K hK=>?_|refine jb ?_)|(with_reducible refine rS hE ?_;simp [*,encZ])|with_reducible refine rL hE ?_|(((with_reducible show RK _ _ _ _ _ _);first|refine jn ?_|refine js fun K' hK'=>?_);simp [*,encZ])|with_reducible refine rD mixed hE ?_|((with_reducible show RKQ _ _ _ _ _ _);first|refine RKQ_nilk ⟨by decide,?_⟩|(refine jv fun K' hK'=>?_;simp [*,encZ]))|((with_reducible first|refine ji fun X Y hX hY=>?_|refine jr ?_|refine jk ?_|refine jx ?_);simp [*,encZ])|((first|refine jC (hr) ?_ ?_ ?_|refine jQ (hr) ?_ ?_ ?_);(iterate 2 focus (simp [*,encZ] <;> fail));simp [*,encZ])|((first|refine jC (hk) ?_ ?_ ?_|refine jQ (hk) ?_ ?_ ?_);(iterate 2 focus (simp [*,encZ] <;> fail));simp [*,encZ])|with_reducible refine And.intro ?_ ?_|omega|(refine imp1 fun h=>?_))
theorem s_mul00 : PSpec Tryz.prog 157 [mgA 0,mgA 0] (mgA 0):=s_mul 0 0 (by omega) (by omega) (by omega)
theorem s_isSquare0 : PSpec Tryz.prog 197 [encZ 0] (.tup [encZ 0,bA true]):=by
 have hk:=s_made false 0
 rw [encZ_sgn] at hk
 simp at hk
 have hr:=s_root0
 have hm:=s_mul00
 simp at hr hm
 refine pS Tryz.func197 ?_
 intro E hE
 repeat' (first
  |(with_reducible first|refine uK ?_|refine uQ ?_|refine uX ?_|refine jq fun K hK=>?_|refine jb ?_)|(with_reducible refine rS hE ?_;simp [*,encZ])|with_reducible refine rL hE ?_|(((with_reducible show RK _ _ _ _ _ _);first|refine jn ?_|refine js fun K' hK'=>?_);simp [*,encZ])|with_reducible refine rD mixed hE ?_|((with_reducible show RKQ _ _ _ _ _ _);first|refine RKQ_nilk ⟨by decide,?_⟩|(refine jv fun K' hK'=>?_;simp [*,encZ]))|((with_reducible first|refine ji fun X Y hX hY=>?_|refine jr ?_|refine jk ?_|refine jx ?_);simp [*,encZ])|((first|refine jC (hr) ?_ ?_ ?_|refine jQ (hr) ?_ ?_ ?_);(iterate 2 focus (simp [*,encZ] <;> fail));simp [*,encZ])|((first|refine jC (hm) ?_ ?_ ?_|refine jQ (hm) ?_ ?_ ?_);(iterate 2 focus (simp [*,encZ] <;> fail));simp [*,encZ])|((first|refine jC (hk) ?_ ?_ ?_|refine jQ (hk) ?_ ?_ ?_);(iterate 2 focus (simp [*,encZ] <;> fail));simp [*,encZ])|with_reducible refine And.intro ?_ ?_|omega|(refine imp1 fun h=>?_))
theorem s_len8_1 : PSpec Tryz.prog 180 [uA 1] (iA 1):=by
 have h : IntKind.i64.wrap 1 = 1:=rfl
 refine pS Tryz.func180 ?_
 intro E hE
 repeat' (first
  |(with_reducible first|refine uK ?_|refine uX ?_|refine jq fun K hK=>?_|refine jb ?_)|((with_reducible first|refine rS hE ?_|refine jn ?_|refine js fun K' hK'=>?_|refine ji fun X Y hX hY=>?_|refine jr ?_|refine jk ?_|refine jx ?_);simp [*,ByteArray.size])|with_reducible refine rL hE ?_|with_reducible refine And.intro ?_ ?_|omega|(refine imp1 fun h=>?_))
theorem s_repeat0 (b : ByteArray) : PSpec Tryz.prog 181 [.v (.string b),iA 0] (.v (.string ⟨#[]⟩)):=by
 refine pS Tryz.func181 ?_
 intro E hE
 exact ga0
set_option maxHeartbeats 2000000 in
theorem s_root1 : PSpec Tryz.prog 156 [mgA 1] (mgA 1):=by
 refine pS Tryz.func156 ?_
 intro E hE
 refine sq ⟨[(0,mgA 1)],[]⟩ ?_
 refine sq ⟨[(0,mgA 1)],[]⟩ ?_
 refine AW_seqt ⟨[(3,iA 1),(0,mgA 1)],[]⟩ ?_ (by
  intro K hK
  repeat' (first
   |(with_reducible first|refine uK ?_|refine uX ?_|refine jq fun K hK=>?_|refine jb ?_)|((with_reducible first|refine rS hE ?_|refine jn ?_|refine js fun K' hK'=>?_|refine ji fun X Y hX hY=>?_|refine jr ?_|refine jk ?_|refine jx ?_);simp [*,ByteArray.size])|with_reducible refine rL hE ?_|(refine jC (s_len8_1) ?_ ?_ ?_;(iterate 2 focus (simp [*,ByteArray.size] <;> fail));simp [*,ByteArray.size])|with_reducible refine And.intro ?_ ?_|omega|(refine imp1 fun h=>?_))
  all_goals simp)
 refine sq ⟨[(3,iA 1),(0,mgA 1)],[]⟩ ?_
 refine AW_seqt ⟨[(4,mgA 2),(0,mgA 1)],[]⟩ ?_ (by
  intro K hK
  have w2 : IntKind.u8.wrap 2 = 2:=rfl
  have e2 : (⟨#[2]⟩ : ByteArray) ++ ⟨#[]⟩ = ⟨#[2]⟩:=rfl
  have e3 : (⟨#[2]⟩ : ByteArray).size = 1:=rfl
  have e4 : (⟨#[]⟩ : ByteArray).size = 0:=rfl
  refine AW_drawHd ⟨[],[]⟩ mixed (by simp) fun E' hE'=>?_
  have hEn:=hE'.trans hE
  repeat' (first
   |(with_reducible first|refine useK (by assumption) ?_|refine useK3 (by assumption) ?_)|((with_reducible show DHd _ _ _ _ _ _ _);first|(refine DHd_done (by decide +kernel) ?_;try simp only [thenK,inBlk])|(refine dt hEn 0 fun K' hK'=>?_;simp [*,byteA];fail_if_success (with_reducible show False))|(refine dt hEn 1 fun K' hK'=>?_;simp [*,byteA];fail_if_success (with_reducible show False))|(refine dt hEn 2 fun K' hK'=>?_;simp [*,byteA];fail_if_success (with_reducible show False))|(refine dt hEn 3 fun K' hK'=>?_;simp [*,byteA];fail_if_success (with_reducible show False))|(refine dt hEn 4 fun K' hK'=>?_;simp [*,byteA];fail_if_success (with_reducible show False))|(refine dt hEn 5 fun K' hK'=>?_;simp [*,byteA];fail_if_success (with_reducible show False))|(refine dt hEn 6 fun K' hK'=>?_;simp [*,byteA];fail_if_success (with_reducible show False))|(refine dt hEn 7 fun K' hK'=>?_;simp [*,byteA];fail_if_success (with_reducible show False))|(refine dt hEn 8 fun K' hK'=>?_;simp [*,byteA];fail_if_success (with_reducible show False))|(refine dt hEn 9 fun K' hK'=>?_;simp [*,byteA];fail_if_success (with_reducible show False))|(refine dp hEn 0 fun K' hK'=>?_;simp [*,byteA];fail_if_success (with_reducible show False))|(refine dp hEn 1 fun K' hK'=>?_;simp [*,byteA];fail_if_success (with_reducible show False))|(refine dp hEn 2 fun K' hK'=>?_;simp [*,byteA];fail_if_success (with_reducible show False))|(refine dp hEn 3 fun K' hK'=>?_;simp [*,byteA];fail_if_success (with_reducible show False))|(refine dp hEn 4 fun K' hK'=>?_;simp [*,byteA];fail_if_success (with_reducible show False))|(refine dp hEn 5 fun K' hK'=>?_;simp [*,byteA];fail_if_success (with_reducible show False))|(refine dp hEn 6 fun K' hK'=>?_;simp [*,byteA];fail_if_success (with_reducible show False))|(refine dp hEn 7 fun K' hK'=>?_;simp [*,byteA];fail_if_success (with_reducible show False))|(refine dp hEn 8 fun K' hK'=>?_;simp [*,byteA];fail_if_success (with_reducible show False))|(refine dp hEn 9 fun K' hK'=>?_;simp [*,byteA];fail_if_success (with_reducible show False))|refine DHd_any rfl (by decide +kernel) ?_)|exact DHsome_nil|refine DHsome_no (by decide +kernel) ?_|(refine DHsome_yes (by exact rfl) rfl (by rw [hEn];decide) (fun K' hK'=>?_) ?_;simp [*,byteA];fail_if_success (with_reducible show False))|(refine DHsome_yesG (by exact rfl) rfl (by exact rfl) (by rw [hEn];decide) (fun K' hK'=>?_) ?_;simp [*,byteA];fail_if_success (with_reducible show False))|(refine acall_same (s_repeat0 ⟨#[0]⟩) ?_ ?_ ?_;(focus (simp [*,byteA] <;> fail));(focus (simp [*,byteA] <;> fail));simp [*,byteA])|(refine acall_view (s_repeat0 ⟨#[0]⟩) ?_ ?_ ?_;(focus (simp [*,byteA] <;> fail));(focus (simp [*,byteA] <;> fail));simp [*,byteA])|(apply Exists.intro [2];simp [*,byteA])|with_reducible refine And.intro ?_ ?_|omega|(with_reducible refine imp1 fun h=>?_))
  all_goals simp)
 have d1:=s_div 1 2 (by omega) (by omega) (by omega)
 have d2:=s_div 2 2 (by omega) (by omega) (by omega)
 have d3:=s_div 1 1 (by omega) (by omega) (by omega)
 have a1:=s_add 2 0 (by omega)
 have a2:=s_add 1 1 (by omega)
 have c1:=s_compare 1 2
 have c2:=s_compare 1 1
 simp [cmpI] at d1 d2 d3 a1 a2 c1 c2
 refine AW_block ?_
 refine AW_loopk (G:=Bool) (fun b=>⟨[(4,if b then mgA 2 else mgA 1),(0,mgA 1)],[]⟩) (fun _=>True) (fun b=>if b then 1 else 0) true trivial (by simp) ?_
 intro b _ K hK
 rcases b with _|_
 ·repeat' (first
   |(with_reducible first|refine uK ?_|refine uX ?_|refine jq fun K hK=>?_|refine jb ?_)|((with_reducible first|refine rS hE ?_|refine jn ?_|refine js fun K' hK'=>?_|refine ji fun X Y hX hY=>?_|refine jr ?_|refine jk ?_|refine jx ?_);simp [*])|with_reducible refine rL hE ?_|(refine jC (d1) ?_ ?_ ?_;(iterate 2 focus (simp [*] <;> fail));simp [*])|(refine jC (d2) ?_ ?_ ?_;(iterate 2 focus (simp [*] <;> fail));simp [*])|(refine jC (d3) ?_ ?_ ?_;(iterate 2 focus (simp [*] <;> fail));simp [*])|(refine jC (a1) ?_ ?_ ?_;(iterate 2 focus (simp [*] <;> fail));simp [*])|(refine jC (a2) ?_ ?_ ?_;(iterate 2 focus (simp [*] <;> fail));simp [*])|(refine jC (c1) ?_ ?_ ?_;(iterate 2 focus (simp [*] <;> fail));simp [*])|(refine jC (c2) ?_ ?_ ?_;(iterate 2 focus (simp [*] <;> fail));simp [*])|with_reducible refine And.intro ?_ ?_|omega|(refine imp1 fun h=>?_))
 ·repeat' (first
   |(with_reducible first|refine uK ?_|refine uX ?_|refine jq fun K hK=>?_|refine jb ?_)|((with_reducible first|refine rS hE ?_|refine jn ?_|refine js fun K' hK'=>?_|refine ji fun X Y hX hY=>?_|refine jr ?_|refine jk ?_|refine jx ?_);simp [*])|with_reducible refine rL hE ?_|(refine jC (d1) ?_ ?_ ?_;(iterate 2 focus (simp [*] <;> fail));simp [*])|(refine jC (d2) ?_ ?_ ?_;(iterate 2 focus (simp [*] <;> fail));simp [*])|(refine jC (d3) ?_ ?_ ?_;(iterate 2 focus (simp [*] <;> fail));simp [*])|(refine jC (a1) ?_ ?_ ?_;(iterate 2 focus (simp [*] <;> fail));simp [*])|(refine jC (a2) ?_ ?_ ?_;(iterate 2 focus (simp [*] <;> fail));simp [*])|(refine jC (c1) ?_ ?_ ?_;(iterate 2 focus (simp [*] <;> fail));simp [*])|(refine jC (c2) ?_ ?_ ?_;(iterate 2 focus (simp [*] <;> fail));simp [*])|with_reducible refine And.intro ?_ ?_|omega|(refine imp1 fun h=>?_))
  all_goals exact ⟨false,trivial,by simp,by simp⟩
theorem s_isSquare1 : PSpec Tryz.prog 197 [encZ 1] (.tup [encZ 1,bA true]):=by
 have hk:=s_made false 1
 rw [encZ_sgn] at hk
 simp at hk
 have hr:=s_root1
 have hm:=s_mul 1 1 (by omega) (by omega) (by omega)
 simp at hr hm
 refine pS Tryz.func197 ?_
 intro E hE
 repeat' (first
  |(with_reducible first|refine uK ?_|refine uQ ?_|refine uX ?_|refine jq fun K hK=>?_|refine jb ?_)|(with_reducible refine rS hE ?_;simp [*,encZ])|with_reducible refine rL hE ?_|(((with_reducible show RK _ _ _ _ _ _);first|refine jn ?_|refine js fun K' hK'=>?_);simp [*,encZ])|with_reducible refine rD mixed hE ?_|((with_reducible show RKQ _ _ _ _ _ _);first|refine RKQ_nilk ⟨by decide,?_⟩|(refine jv fun K' hK'=>?_;simp [*,encZ]))|((with_reducible first|refine ji fun X Y hX hY=>?_|refine jr ?_|refine jk ?_|refine jx ?_);simp [*,encZ])|((first|refine jC (hr) ?_ ?_ ?_|refine jQ (hr) ?_ ?_ ?_);(iterate 2 focus (simp [*,encZ] <;> fail));simp [*,encZ])|((first|refine jC (hm) ?_ ?_ ?_|refine jQ (hm) ?_ ?_ ?_);(iterate 2 focus (simp [*,encZ] <;> fail));simp [*,encZ])|((first|refine jC (hk) ?_ ?_ ?_|refine jQ (hk) ?_ ?_ ?_);(iterate 2 focus (simp [*,encZ] <;> fail));simp [*,encZ])|with_reducible refine And.intro ?_ ?_|omega|(refine imp1 fun h=>?_))
theorem mgL_head {u : Nat} (h : u ≠ 0) : ∃ b l,mgL u = b :: l ∧ b ≠ 0:=by
 by_cases h1 : u / 256 = 0
 ·refine ⟨UInt8.ofNat (u % 256),[],?_,?_⟩
  ·rw [mgL_pos h,h1,mgL_zero];rfl
  ·intro e
   have:=congrArg UInt8.toNat e
   simp at this
   omega
 ·obtain ⟨b,l,e,hb⟩:=mgL_head h1
  refine ⟨b,l ++ [UInt8.ofNat (u % 256)],?_,hb⟩
  rw [mgL_pos h,e]
  rfl
termination_by u
decreasing_by omega
theorem s_checkZ (z : Int) : PSpec Tryz.prog 163 [encZ z] (iA 0):=by
 refine pS Tryz.func163 ?_
 intro E hE
 by_cases h0 : z = 0
 ·subst h0
  have z'1:=@encZ.eq_1;exact ga0
 ·obtain ⟨b,l,e,hb⟩:=mgL_head (u:=z.natAbs) (by omega)
  have h2 : 0 < (mgL z.natAbs).length:=by rw [e];simp
  have h1 : (mgL z.natAbs)[0] = b:=by simp [e]
  have h3 : ¬ (b.toNat : Int) = 0:=fun h=>hb (UInt8.toNat_inj.1 (by simpa using h))
  clear e hb
  have z'1:=@encZ.eq_1;exact ga0
@[simp] theorem mgB_is1 {a : Nat} : mgB a = ⟨#[1]⟩ ↔ a = 1:=by rw [← mgB_1,mgB_inj]
theorem s_one : PSpec Tryz.prog 152 [] (encZ 1):=by
 have h:=s_fromInt 1 (by omega) (by omega)
 refine pS Tryz.func152 ?_
 intro E hE
 have k'1:=Hld.mk (h);have z'1:=@encZ.eq_1;exact ga1
theorem s_quot (a b : Int) (ha : a.natAbs < 9223372036854775808) (hb : b.natAbs < 9223372036854775808) (h : b ≠ 0) : PSpec Tryz.prog 151 [encZ a,encZ b] (encZ (a / b)):=by
 have h1:=s_divmod a b ha hb h
 obtain ⟨q,hq⟩ : ∃ q,a / b = q:=⟨_,rfl⟩
 obtain ⟨r,hr⟩ : ∃ q,a % b = q:=⟨_,rfl⟩
 rw [hq,hr] at h1
 rw [hq]
 clear hq hr
 refine pS Tryz.func151 ?_
 intro E hE
 have k'1:=Hld.mk (h1);have z'1:=@encZ.eq_1;exact ga1
theorem divInt_pos {n : Int} {d : Int} (hd : 0 < d) : encQ (Rat.divInt n d) = .st [bA (decide (n / (Int.gcd n d : Nat) < 0)),mgA (n / (Int.gcd n d : Nat)).natAbs,bA false,mgA (if d / (Int.gcd n d : Nat) = 1 then 0 else (d / (Int.gcd n d : Nat)).natAbs)]:=by
 have h1 : (Rat.divInt n d).num = n / (Int.gcd n d : Nat):=by
  rw [Rat.num_divInt,Int.sign_eq_one_of_pos hd,Int.one_mul,Int.gcd_comm]
 have h2 : ((Rat.divInt n d).den : Int) = d / (Int.gcd n d : Nat):=by
  rw [Rat.den_divInt,if_neg (by omega),Int.natCast_ediv,Int.gcd_comm]
  congr 1
  omega
 simp only [encQ,h1,dn]
 have h3 : ((Rat.divInt n d).den = 1) ↔ d / (Int.gcd n d : Nat) = 1:=by rw [← h2];omega
 have h4 : (Rat.divInt n d).den = (d / (Int.gcd n d : Nat)).natAbs:=by rw [← h2];rfl
 rw [← h4]
 by_cases h : (Rat.divInt n d).den = 1
 ·rw [if_pos h,if_pos (h3.1 h)]
 ·rw [if_neg h,if_neg (fun e=>h (h3.2 e))]
theorem s_canonP (n d n0 d0 : Int) (hd : 0 < d) (hn : n.natAbs < 9223372036854775808) (hd2 : d.natAbs < 9223372036854775808) (h : (d0 < 0 ∧ n = -n0 ∧ d = -d0) ∨ (¬ d0 < 0 ∧ n = n0 ∧ d = d0)) : PSpec Tryz.prog 104 [encZ n0,encZ d0] (encQ (Rat.divInt n d)):=by
 have hg:=s_gcd n d hn hd2
 have hg0 : (Int.gcd n d : Int) ≠ 0:=by
  intro e
  have:=Int.eq_zero_of_gcd_eq_zero_right (a:=n) (b:=d) (by omega)
  omega
 have hgd : Int.gcd n d ≤ d.natAbs:=Nat.le_of_dvd (by omega) (Nat.gcd_dvd_right _ _)
 have q1:=s_quot n (Int.gcd n d : Nat) hn (by omega) hg0
 have q2:=s_quot d (Int.gcd n d : Nat) hd2 (by omega) hg0
 have hq2 : 0 ≤ d / (Int.gcd n d : Nat):=Int.ediv_nonneg (by omega) (by omega)
 rw [divInt_pos hd]
 obtain ⟨g,hgg⟩ : ∃ g,Int.gcd n d = g:=⟨_,rfl⟩
 rw [hgg] at hg q1 q2 hq2 ⊢
 obtain ⟨x,hx⟩ : ∃ x,n / (g : Int) = x:=⟨_,rfl⟩
 obtain ⟨y,hy⟩ : ∃ x,d / (g : Int) = x:=⟨_,rfl⟩
 rw [hx] at q1 ⊢
 rw [hy] at q2 hq2 ⊢
 clear hx hy hgg hgd hg0
 replace hg:=Hld.mk hg
 replace q1:=Hld.mk q1
 replace q2:=Hld.mk q2
 have g1:=Hld.mk (s_negate n0)
 have g2:=Hld.mk (s_negate d0)
 refine pS Tryz.func104 ?_
 intro E hE
 refine AW_seqt ⟨[(4,.loc 4 0),(3,.loc 3 0),(2,.loc 2 0)],[(4,.box 84 (.st [bA false,eA,bA false,eA])),(3,.box 82 (encZ d0)),(2,.box 82 (encZ n0))]⟩ ?_ (by
  intro K hK
  have z'1:=@encZ.eq_1;exact ga0)
 refine AW_seqt ⟨[(4,.loc 4 0),(3,.loc 3 0),(2,.loc 2 0)],[(4,.box 84 (.st [bA false,eA,bA false,eA])),(3,.box 82 (encZ d)),(2,.box 82 (encZ n))]⟩ ?_ (by
  intro K hK
  rcases h with ⟨h,rfl,rfl⟩|⟨h,rfl,rfl⟩
  ·have hc : cmpI d0 0 < 0:=by simp [cmpI,h]
   repeat' (first
    |(with_reducible first|refine uK ?_|refine uQ ?_|refine uX ?_|refine jq fun K hK=>?_|refine jb ?_)|(with_reducible refine rS hE ?_;simp [*,encZ])|with_reducible refine rL hE ?_|(((with_reducible show RK _ _ _ _ _ _);first|refine jn ?_|refine js fun K' hK'=>?_);simp [*,encZ])|with_reducible refine rD mixed hE ?_|((with_reducible show RKQ _ _ _ _ _ _);first|refine RKQ_nilk ⟨by decide,?_⟩|(refine jv fun K' hK'=>?_;simp [*,encZ]))|((with_reducible first|refine ji fun X Y hX hY=>?_|refine jr ?_|refine jk ?_|refine jx ?_);simp [*,encZ])|((first|refine jC (s_sign d0) ?_ ?_ ?_|refine jQ (s_sign d0) ?_ ?_ ?_);(iterate 2 focus (simp [*,encZ] <;> fail));simp [*,encZ])|((first|refine jC (g1.out) ?_ ?_ ?_|refine jQ (g1.out) ?_ ?_ ?_);(iterate 2 focus (simp [*,encZ] <;> fail));simp [*,encZ])|((first|refine jC (g2.out) ?_ ?_ ?_|refine jQ (g2.out) ?_ ?_ ?_);(iterate 2 focus (simp [*,encZ] <;> fail));simp [*,encZ])|with_reducible refine And.intro ?_ ?_|omega|(refine imp1 fun h=>?_))
   all_goals simp [encZ]
  ·have hc : ¬ cmpI d 0 < 0:=by unfold cmpI;repeat' split <;> omega
   repeat' (first
    |(with_reducible first|refine uK ?_|refine uX ?_|refine jq fun K hK=>?_|refine jb ?_)|((with_reducible first|refine rS hE ?_|refine jn ?_|refine js fun K' hK'=>?_|refine ji fun X Y hX hY=>?_|refine jr ?_|refine jk ?_|refine jx ?_);simp [*,encZ])|with_reducible refine rL hE ?_|(refine jC (s_sign d) ?_ ?_ ?_;(iterate 2 focus (simp [*,encZ] <;> fail));simp [*,encZ])|with_reducible refine And.intro ?_ ?_|omega|(refine imp1 fun h=>?_))
   all_goals simp [encZ]
   all_goals omega)
 clear g1 g2 h
 refine AW_seqt ⟨[(5,.loc 5 0),(4,.loc 4 0),(3,.loc 3 0),(2,.loc 2 0)],[(5,.box 82 (encZ g)),(4,.box 84 (.st [bA false,eA,bA false,eA])),(3,.box 82 (encZ d)),(2,.box 82 (encZ n))]⟩ ?_ (by
  intro K hK
  have k'1:=hg;have z'1:=@encZ.eq_1;exact ga1)
 refine AW_seqt ⟨[(4,.loc 4 0),(3,.loc 3 0),(2,.loc 2 0)],[(4,.box 84 (.st [bA false,eA,bA false,eA])),(3,.box 82 (encZ y)),(2,.box 82 (encZ x))]⟩ ?_ (by
  intro K hK
  repeat' (first
   |(with_reducible first|refine uK ?_|refine uQ ?_|refine uX ?_|refine jq fun K hK=>?_|refine jb ?_)|(with_reducible refine rS hE ?_;simp [*,encZ])|with_reducible refine rL hE ?_|(((with_reducible show RK _ _ _ _ _ _);first|refine jn ?_|refine js fun K' hK'=>?_);simp [*,encZ])|with_reducible refine rD mixed hE ?_|((with_reducible show RKQ _ _ _ _ _ _);first|refine RKQ_nilk ⟨by decide,?_⟩|(refine jv fun K' hK'=>?_;simp [*,encZ]))|((with_reducible first|refine ji fun X Y hX hY=>?_|refine jr ?_|refine jk ?_|refine jx ?_);simp [*,encZ])|((first|refine jC (q1.out) ?_ ?_ ?_|refine jQ (q1.out) ?_ ?_ ?_);(iterate 2 focus (simp [*,encZ] <;> fail));simp [*,encZ])|((first|refine jC (q2.out) ?_ ?_ ?_|refine jQ (q2.out) ?_ ?_ ?_);(iterate 2 focus (simp [*,encZ] <;> fail));simp [*,encZ])|with_reducible refine And.intro ?_ ?_|omega|(refine imp1 fun h=>?_))
  all_goals simp [encZ])
 refine AW_seqt ⟨[(4,.loc 4 0),(3,.loc 3 0),(2,.loc 2 0)],[(4,.box 84 (.st [bA false,eA,bA false,eA])),(3,.box 82 (.st [bA false,mgA (if y = 1 then 0 else y.natAbs)])),(2,.box 82 (encZ x))]⟩ ?_ (by
  intro K hK
  have hy : ¬ y < 0:=by omega
  by_cases h1 : y = 1
  ·subst h1
   repeat' (first
    |(with_reducible first|refine uK ?_|refine uQ ?_|refine uX ?_|refine jq fun K hK=>?_|refine jb ?_)|(with_reducible refine rS hE ?_;simp [*,encZ])|with_reducible refine rL hE ?_|(((with_reducible show RK _ _ _ _ _ _);first|refine jn ?_|refine js fun K' hK'=>?_);simp [*,encZ])|with_reducible refine rD mixed hE ?_|((with_reducible show RKQ _ _ _ _ _ _);first|refine RKQ_nilk ⟨by decide,?_⟩|(refine jv fun K' hK'=>?_;simp [*,encZ]))|((with_reducible first|refine ji fun X Y hX hY=>?_|refine jr ?_|refine jk ?_|refine jx ?_);simp [*,encZ])|((first|refine jC (s_one) ?_ ?_ ?_|refine jQ (s_one) ?_ ?_ ?_);(iterate 2 focus (simp [*,encZ] <;> fail));simp [*,encZ])|with_reducible refine And.intro ?_ ?_|omega|(refine imp1 fun h=>?_))
   all_goals simp [encZ]
  ·have h2 : ¬ y.natAbs = 1:=by omega
   repeat' (first
    |(with_reducible first|refine uK ?_|refine uQ ?_|refine uX ?_|refine jq fun K hK=>?_|refine jb ?_)|(with_reducible refine rS hE ?_;simp [*,encZ])|with_reducible refine rL hE ?_|(((with_reducible show RK _ _ _ _ _ _);first|refine jn ?_|refine js fun K' hK'=>?_);simp [*,encZ])|with_reducible refine rD mixed hE ?_|((with_reducible show RKQ _ _ _ _ _ _);first|refine RKQ_nilk ⟨by decide,?_⟩|(refine jv fun K' hK'=>?_;simp [*,encZ]))|((with_reducible first|refine ji fun X Y hX hY=>?_|refine jr ?_|refine jk ?_|refine jx ?_);simp [*,encZ])|((first|refine jC (s_one) ?_ ?_ ?_|refine jQ (s_one) ?_ ?_ ?_);(iterate 2 focus (simp [*,encZ] <;> fail));simp [*,encZ])|with_reducible refine And.intro ?_ ?_|omega|(refine imp1 fun h=>?_))
   all_goals simp [encZ,hy,h1])
 have z'1:=@encZ.eq_1;exact ga0
theorem s_canon (n d : Int) (hd : d ≠ 0) (hn : n.natAbs < 9223372036854775808) (hd2 : d.natAbs < 9223372036854775808) : PSpec Tryz.prog 104 [encZ n,encZ d] (encQ (Rat.divInt n d)):=by
 by_cases h : d < 0
 ·rw [← Rat.neg_divInt_neg]
  exact s_canonP (-n) (-d) n d (by omega) (by omega) (by omega) (.inl ⟨h,rfl,rfl⟩)
 ·exact s_canonP n d n d (by omega) hn hd2 (.inr ⟨h,rfl,rfl⟩)
theorem s_make (n d : Int) (hd : d ≠ 0) (hn : n.natAbs < 9223372036854775808) (hd2 : d.natAbs < 9223372036854775808) : PSpec Tryz.prog 74 [encZ n,encZ d] (.tup [encQ (Rat.divInt n d),iA 0]):=by
 have h:=s_canon n d hd hn hd2
 have hc : ¬ cmpI d 0 = 0:=by unfold cmpI;repeat' split <;> omega
 obtain ⟨q,hq⟩ : ∃ q,Rat.divInt n d = q:=⟨_,rfl⟩
 rw [hq] at h ⊢
 refine pS Tryz.func74 ?_
 intro E hE
 have k'1:=Hld.mk (s_sign d);have k'2:=Hld.mk (h);have z'1:=@encZ.eq_1;have z'2:=@encQ.eq_1;exact ga2
theorem s_fromIntQ (n : Int) (hn : n.natAbs < 9223372036854775808) : PSpec Tryz.prog 72 [iA n] (encQ (n : Rat)):=by
 have h1:=s_fromInt n (by omega) (by omega)
 have e1 : (n : Rat).num = n:=rfl
 have e2 : dn (n : Rat) = 0:=rfl
 unfold encQ
 rw [e1,e2]
 refine pS Tryz.func72 ?_
 intro E hE
 have k'1:=Hld.mk (h1);have z'1:=@encZ.eq_1;exact ga1
theorem s_num (q : Rat) : PSpec Tryz.prog 120 [encQ q] (encZ q.num):=by
 refine pS Tryz.func120 ?_
 intro E hE
 have z'1:=@encZ.eq_1;have z'2:=@encQ.eq_1;exact ga0
theorem s_den (q : Rat) : PSpec Tryz.prog 121 [encQ q] (encZ (q.den : Nat)):=by
 have h:=s_one
 refine pS Tryz.func121 ?_
 intro E hE
 by_cases h1 : q.den = 1
 ·have h2 : dn q = 0:=by simp [dn,h1]
  have k'1:=Hld.mk (h);have z'1:=@encZ.eq_1;have z'2:=@encQ.eq_1;exact ga1
 ·have h2 : dn q = q.den:=by simp [dn,h1]
  have h3 : ¬ q.den = 0:=q.den_nz
  have k'1:=Hld.mk (h);have z'1:=@encZ.eq_1;have z'2:=@encQ.eq_1;exact ga1
end Go.Proofs.YtfkgaphfdpflmaaGreatDoor
