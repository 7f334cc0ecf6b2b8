/- Layer 38: boxes, entries, nodes, cubes, items as data (printed by genE -/
import Derived.Test.YtlkijcflfnnbaaaZ4
import Derived.Test.YtlkijcflfnnbaaaZ6
import Derived.Test.YtlkijcflfnnbaaaZ3
set_option maxRecDepth 100000
set_option linter.unusedSimpArgs false
set_option linter.unusedVariables false
section
namespace Go.Proofs.Ytlkijcflfnnbaaa
open Go.Am
abbrev iA (n : Int) : AV:=.v (.int .i64 n)
abbrev uA (n : Nat) : AV:=.v (.int .u8 n)
abbrev bA (b : Bool) : AV:=.v (.bool b)
structure Bx where
 (x0 x1 y0 y1 t0 t1 : Int)
 deriving DecidableEq,Inhabited
structure En where
 (x0 x1 y0 y1 t0 t1 ref : Int)
 deriving DecidableEq,Inhabited
def En.b (e : En) : Bx:=⟨e.x0,e.x1,e.y0,e.y1,e.t0,e.t1⟩
structure Nd where
 (x0 x1 y0 y1 t0 t1 : Int)
 (ch : List Int)
 (pa : List En)
 deriving DecidableEq,Inhabited
def Nd.b (e : Nd) : Bx:=⟨e.x0,e.x1,e.y0,e.y1,e.t0,e.t1⟩
structure Tr where
 (en : List En)
 (nd : List Nd)
 (parts depth : Int)
 deriving DecidableEq,Inhabited
structure Cu where
 (x y t w h l : UInt8)
 deriving DecidableEq,Inhabited
structure It where
 (x y t w h l ref : UInt8)
 deriving DecidableEq,Inhabited
def It.c (i : It) : Cu:=⟨i.x,i.y,i.t,i.w,i.h,i.l⟩
@[simp] theorem idf_I (l : List Int) : idfL (l.map iA) = true:=by induction l with|nil=>rfl|cons a l ih=>simp [ih]
@[simp] theorem ment_I (d : Nat) (l : List Int) : mentL d (l.map iA) = false:=by induction l with|nil=>rfl|cons a l ih=>simp [ih]
@[simp] theorem ids_I (l : List Int) : idsA (l.map iA) = []:=by induction l with|nil=>rfl|cons a l ih=>simp [ih]
@[simp] theorem ren_I (σ : Nat → Nat) (l : List Int) : renL σ (l.map iA) = l.map iA:=by induction l with|nil=>rfl|cons a l ih=>simp [ih]
@[simp] theorem flat_I (l : List Int) : flatL (l.map iA) = true:=by induction l with|nil=>rfl|cons a l ih=>simp [ih]
def encX (e : Bx) : AV:=.st [iA e.x0,iA e.x1,iA e.y0,iA e.y1,iA e.t0,iA e.t1]
@[simp] theorem encX_cells (e : Bx) : (encX e).cells = [iA e.x0,iA e.x1,iA e.y0,iA e.y1,iA e.t0,iA e.t1]:=rfl
@[simp] theorem encX_isSt (e : Bx) : (encX e).isSt = true:=rfl
@[simp] theorem encX_sto (e : Bx) : (encX e).sto = true:=rfl
@[simp] theorem encX_one (e : Bx) : (encX e).one = false:=rfl
@[simp] theorem encX_idf (e : Bx) : (encX e).idf = true:=by simp [encX,AV.idf]
@[simp] theorem encX_kn (e : Bx) : (encX e).kn = true:=rfl
@[simp] theorem encX_ment (d : Nat) (e : Bx) : (encX e).ment d = false:=by simp [encX]
@[simp] theorem encX_ren (σ : Nat → Nat) (e : Bx) : (encX e).ren σ = encX e:=by simp [encX]
@[simp] theorem encX_ids (e : Bx) : (encX e).ids = []:=by simp [encX]
@[simp] theorem encX_idsOf (e : Bx) : idsOf (encX e) = []:=by simp [encX]
@[simp] theorem view_encX {bf : Nat → Option Ct} {e : Bx} : View bf (encX e) (encX e):=view_self (by simp)
@[simp] theorem encX_flat (e : Bx) : (encX e).flat = true:=rfl
@[simp] theorem idf_LX (l : List _) : idfL (l.map encX) = true:=by induction l with|nil=>rfl|cons a l ih=>simp [ih]
@[simp] theorem ment_LX (d : Nat) (l : List _) : mentL d (l.map encX) = false:=by induction l with|nil=>rfl|cons a l ih=>simp [ih]
@[simp] theorem ids_LX (l : List _) : idsA (l.map encX) = []:=by induction l with|nil=>rfl|cons a l ih=>simp [ih]
@[simp] theorem ren_LX (σ : Nat → Nat) (l : List _) : renL σ (l.map encX) = l.map encX:=by induction l with|nil=>rfl|cons a l ih=>simp [ih]
@[simp] theorem flat_LX (l : List _) : flatL (l.map encX) = true:=by induction l with|nil=>rfl|cons a l ih=>simp [ih]
def encE (e : En) : AV:=.st [iA e.x0,iA e.x1,iA e.y0,iA e.y1,iA e.t0,iA e.t1,iA e.ref]
@[simp] theorem encE_cells (e : En) : (encE e).cells = [iA e.x0,iA e.x1,iA e.y0,iA e.y1,iA e.t0,iA e.t1,iA e.ref]:=rfl
@[simp] theorem encE_isSt (e : En) : (encE e).isSt = true:=rfl
@[simp] theorem encE_sto (e : En) : (encE e).sto = true:=rfl
@[simp] theorem encE_one (e : En) : (encE e).one = false:=rfl
@[simp] theorem encE_idf (e : En) : (encE e).idf = true:=by simp [encE,AV.idf]
@[simp] theorem encE_kn (e : En) : (encE e).kn = true:=rfl
@[simp] theorem encE_ment (d : Nat) (e : En) : (encE e).ment d = false:=by simp [encE]
@[simp] theorem encE_ren (σ : Nat → Nat) (e : En) : (encE e).ren σ = encE e:=by simp [encE]
@[simp] theorem encE_ids (e : En) : (encE e).ids = []:=by simp [encE]
@[simp] theorem encE_idsOf (e : En) : idsOf (encE e) = []:=by simp [encE]
@[simp] theorem view_encE {bf : Nat → Option Ct} {e : En} : View bf (encE e) (encE e):=view_self (by simp)
@[simp] theorem encE_flat (e : En) : (encE e).flat = true:=rfl
@[simp] theorem idf_LE (l : List _) : idfL (l.map encE) = true:=by induction l with|nil=>rfl|cons a l ih=>simp [ih]
@[simp] theorem ment_LE (d : Nat) (l : List _) : mentL d (l.map encE) = false:=by induction l with|nil=>rfl|cons a l ih=>simp [ih]
@[simp] theorem ids_LE (l : List _) : idsA (l.map encE) = []:=by induction l with|nil=>rfl|cons a l ih=>simp [ih]
@[simp] theorem ren_LE (σ : Nat → Nat) (l : List _) : renL σ (l.map encE) = l.map encE:=by induction l with|nil=>rfl|cons a l ih=>simp [ih]
@[simp] theorem flat_LE (l : List _) : flatL (l.map encE) = true:=by induction l with|nil=>rfl|cons a l ih=>simp [ih]
def encN (e : Nd) : AV:=.st [iA e.x0,iA e.x1,iA e.y0,iA e.y1,iA e.t0,iA e.t1,.sl 1 (e.ch.map iA),.sl 7 (e.pa.map encE)]
@[simp] theorem encN_cells (e : Nd) : (encN e).cells = [iA e.x0,iA e.x1,iA e.y0,iA e.y1,iA e.t0,iA e.t1,.sl 1 (e.ch.map iA),.sl 7 (e.pa.map encE)]:=rfl
@[simp] theorem encN_isSt (e : Nd) : (encN e).isSt = true:=rfl
@[simp] theorem encN_sto (e : Nd) : (encN e).sto = true:=rfl
@[simp] theorem encN_one (e : Nd) : (encN e).one = false:=rfl
@[simp] theorem encN_idf (e : Nd) : (encN e).idf = true:=by simp [encN,AV.idf]
@[simp] theorem encN_kn (e : Nd) : (encN e).kn = true:=rfl
@[simp] theorem encN_ment (d : Nat) (e : Nd) : (encN e).ment d = false:=by simp [encN]
@[simp] theorem encN_ren (σ : Nat → Nat) (e : Nd) : (encN e).ren σ = encN e:=by simp [encN]
@[simp] theorem encN_ids (e : Nd) : (encN e).ids = []:=by simp [encN]
@[simp] theorem encN_idsOf (e : Nd) : idsOf (encN e) = []:=by simp [encN]
@[simp] theorem view_encN {bf : Nat → Option Ct} {e : Nd} : View bf (encN e) (encN e):=view_self (by simp)
@[simp] theorem idf_LN (l : List _) : idfL (l.map encN) = true:=by induction l with|nil=>rfl|cons a l ih=>simp [ih]
@[simp] theorem ment_LN (d : Nat) (l : List _) : mentL d (l.map encN) = false:=by induction l with|nil=>rfl|cons a l ih=>simp [ih]
@[simp] theorem ids_LN (l : List _) : idsA (l.map encN) = []:=by induction l with|nil=>rfl|cons a l ih=>simp [ih]
@[simp] theorem ren_LN (σ : Nat → Nat) (l : List _) : renL σ (l.map encN) = l.map encN:=by induction l with|nil=>rfl|cons a l ih=>simp [ih]
def encT (e : Tr) : AV:=.st [.sl 7 (e.en.map encE),.sl 8 (e.nd.map encN),iA e.parts,iA e.depth]
@[simp] theorem encT_cells (e : Tr) : (encT e).cells = [.sl 7 (e.en.map encE),.sl 8 (e.nd.map encN),iA e.parts,iA e.depth]:=rfl
@[simp] theorem encT_isSt (e : Tr) : (encT e).isSt = true:=rfl
@[simp] theorem encT_sto (e : Tr) : (encT e).sto = true:=rfl
@[simp] theorem encT_one (e : Tr) : (encT e).one = false:=rfl
@[simp] theorem encT_idf (e : Tr) : (encT e).idf = true:=by simp [encT,AV.idf]
@[simp] theorem encT_kn (e : Tr) : (encT e).kn = true:=rfl
@[simp] theorem encT_ment (d : Nat) (e : Tr) : (encT e).ment d = false:=by simp [encT]
@[simp] theorem encT_ren (σ : Nat → Nat) (e : Tr) : (encT e).ren σ = encT e:=by simp [encT]
@[simp] theorem encT_ids (e : Tr) : (encT e).ids = []:=by simp [encT]
@[simp] theorem encT_idsOf (e : Tr) : idsOf (encT e) = []:=by simp [encT]
@[simp] theorem view_encT {bf : Nat → Option Ct} {e : Tr} : View bf (encT e) (encT e):=view_self (by simp)
@[simp] theorem idf_LT (l : List _) : idfL (l.map encT) = true:=by induction l with|nil=>rfl|cons a l ih=>simp [ih]
@[simp] theorem ment_LT (d : Nat) (l : List _) : mentL d (l.map encT) = false:=by induction l with|nil=>rfl|cons a l ih=>simp [ih]
@[simp] theorem ids_LT (l : List _) : idsA (l.map encT) = []:=by induction l with|nil=>rfl|cons a l ih=>simp [ih]
@[simp] theorem ren_LT (σ : Nat → Nat) (l : List _) : renL σ (l.map encT) = l.map encT:=by induction l with|nil=>rfl|cons a l ih=>simp [ih]
def encC (e : Cu) : AV:=.st [uA e.x.toNat,uA e.y.toNat,uA e.t.toNat,uA e.w.toNat,uA e.h.toNat,uA e.l.toNat]
@[simp] theorem encC_cells (e : Cu) : (encC e).cells = [uA e.x.toNat,uA e.y.toNat,uA e.t.toNat,uA e.w.toNat,uA e.h.toNat,uA e.l.toNat]:=rfl
@[simp] theorem encC_isSt (e : Cu) : (encC e).isSt = true:=rfl
@[simp] theorem encC_sto (e : Cu) : (encC e).sto = true:=rfl
@[simp] theorem encC_one (e : Cu) : (encC e).one = false:=rfl
@[simp] theorem encC_idf (e : Cu) : (encC e).idf = true:=by simp [encC,AV.idf]
@[simp] theorem encC_kn (e : Cu) : (encC e).kn = true:=rfl
@[simp] theorem encC_ment (d : Nat) (e : Cu) : (encC e).ment d = false:=by simp [encC]
@[simp] theorem encC_ren (σ : Nat → Nat) (e : Cu) : (encC e).ren σ = encC e:=by simp [encC]
@[simp] theorem encC_ids (e : Cu) : (encC e).ids = []:=by simp [encC]
@[simp] theorem encC_idsOf (e : Cu) : idsOf (encC e) = []:=by simp [encC]
@[simp] theorem view_encC {bf : Nat → Option Ct} {e : Cu} : View bf (encC e) (encC e):=view_self (by simp)
@[simp] theorem encC_flat (e : Cu) : (encC e).flat = true:=rfl
@[simp] theorem idf_LC (l : List _) : idfL (l.map encC) = true:=by induction l with|nil=>rfl|cons a l ih=>simp [ih]
@[simp] theorem ment_LC (d : Nat) (l : List _) : mentL d (l.map encC) = false:=by induction l with|nil=>rfl|cons a l ih=>simp [ih]
@[simp] theorem ids_LC (l : List _) : idsA (l.map encC) = []:=by induction l with|nil=>rfl|cons a l ih=>simp [ih]
@[simp] theorem ren_LC (σ : Nat → Nat) (l : List _) : renL σ (l.map encC) = l.map encC:=by induction l with|nil=>rfl|cons a l ih=>simp [ih]
@[simp] theorem flat_LC (l : List _) : flatL (l.map encC) = true:=by induction l with|nil=>rfl|cons a l ih=>simp [ih]
def encI (e : It) : AV:=.st [uA e.x.toNat,uA e.y.toNat,uA e.t.toNat,uA e.w.toNat,uA e.h.toNat,uA e.l.toNat,uA e.ref.toNat]
@[simp] theorem encI_cells (e : It) : (encI e).cells = [uA e.x.toNat,uA e.y.toNat,uA e.t.toNat,uA e.w.toNat,uA e.h.toNat,uA e.l.toNat,uA e.ref.toNat]:=rfl
@[simp] theorem encI_isSt (e : It) : (encI e).isSt = true:=rfl
@[simp] theorem encI_sto (e : It) : (encI e).sto = true:=rfl
@[simp] theorem encI_one (e : It) : (encI e).one = false:=rfl
@[simp] theorem encI_idf (e : It) : (encI e).idf = true:=by simp [encI,AV.idf]
@[simp] theorem encI_kn (e : It) : (encI e).kn = true:=rfl
@[simp] theorem encI_ment (d : Nat) (e : It) : (encI e).ment d = false:=by simp [encI]
@[simp] theorem encI_ren (σ : Nat → Nat) (e : It) : (encI e).ren σ = encI e:=by simp [encI]
@[simp] theorem encI_ids (e : It) : (encI e).ids = []:=by simp [encI]
@[simp] theorem encI_idsOf (e : It) : idsOf (encI e) = []:=by simp [encI]
@[simp] theorem view_encI {bf : Nat → Option Ct} {e : It} : View bf (encI e) (encI e):=view_self (by simp)
@[simp] theorem encI_flat (e : It) : (encI e).flat = true:=rfl
@[simp] theorem idf_LI (l : List _) : idfL (l.map encI) = true:=by induction l with|nil=>rfl|cons a l ih=>simp [ih]
@[simp] theorem ment_LI (d : Nat) (l : List _) : mentL d (l.map encI) = false:=by induction l with|nil=>rfl|cons a l ih=>simp [ih]
@[simp] theorem ids_LI (l : List _) : idsA (l.map encI) = []:=by induction l with|nil=>rfl|cons a l ih=>simp [ih]
@[simp] theorem ren_LI (σ : Nat → Nat) (l : List _) : renL σ (l.map encI) = l.map encI:=by induction l with|nil=>rfl|cons a l ih=>simp [ih]
@[simp] theorem flat_LI (l : List _) : flatL (l.map encI) = true:=by induction l with|nil=>rfl|cons a l ih=>simp [ih]
theorem call_same {P : Program} {f : FuncId} {args : List AV} {bf : Nat → Option Ct} {d : Option Tmp} {res : AV} {k : AV → Option Ct → Prop} (h : PSpec P f args res) (hi : idfL args = true) (hr : res.idf = true) (hc : k res none) : QCall P f args bf d k :=
 ⟨.inl ⟨args,res,(by
   have : ∀ l : List AV,idfL l = true → ViewL bf l l:=by
    intro l
    induction l with
    |nil=>intro _;trivial
    |cons x l ih =>
     intro h
     simp only [idfL,Bool.and_eq_true] at h
     exact ⟨.inl ⟨rfl,h.1⟩,ih h.2⟩
   exact this args hi),h,.inr ⟨rfl,hi,hr⟩,hc⟩⟩
theorem call_view {P : Program} {f : FuncId} {args ds : List AV} {bf : Nat → Option Ct} {d : Option Tmp} {res : AV} {k : AV → Option Ct → Prop} (h : PSpec P f ds res) (hv : ViewL bf args ds) (hr : res.flat = true) (hc : k res none) : QCall P f args bf d k :=
 ⟨.inl ⟨ds,res,hv,h,.inl hr,hc⟩⟩
theorem viewL_same (bf : Nat → Option Ct) : ∀ l : List AV,idfL l = true → ViewL bf l l:=by
 intro l
 induction l with
 |nil=>intro _;trivial
 |cons x l ih =>
  intro h
  simp only [idfL,Bool.and_eq_true] at h
  exact ⟨.inl ⟨rfl,h.1⟩,ih h.2⟩
theorem acall_same {P : Program} {E : Env} {f : FuncId} {args : List AV} {s : AState} {d : Option Tmp} {res : AV} {K : AState → Prop} (h : PSpec P f args res) (hi : idfL args = true) (hr : res.idf = true) (hk : K (s.put d res)) : ACall P E f args s d K :=
 ACall_pure h (viewL_same _ _ hi) (.inr ⟨rfl,hi,hr⟩) hk
theorem acall_view {P : Program} {E : Env} {f : FuncId} {args ds : List AV} {s : AState} {d : Option Tmp} {res : AV} {K : AState → Prop} (h : PSpec P f ds res) (hv : ViewL s.box args ds) (hr : res.flat = true) (hk : K (s.put d res)) : ACall P E f args s d K :=
 ACall_pure h hv (.inl hr) hk
theorem QCall_congr' {P : Program} {f : FuncId} {args args' : List AV} {bf : Nat → Option Ct} {d : Option Tmp} {k : AV → Option Ct → Prop} (h : args = args') : QCall P f args bf d k = QCall P f args' bf d k:=by rw [h]
theorem ACall_congr' {P : Program} {E : Env} {f : FuncId} {args args' : List AV} {s : AState} {d : Option Tmp} {K : AState → Prop} (h : args = args') : ACall P E f args s d K = ACall P E f args' s d K:=by rw [h]
attribute [congr] QCall_congr' ACall_congr'
end Go.Proofs.Ytlkijcflfnnbaaa
end
section
namespace Go.Proofs.Ytlkijcflfnnbaaa
open Go.Am
def inL (n : Int) : Bool:=decide (-2199023255552 ≤ n) && decide (n ≤ 2199023255552)
def lstX (b : Bx) : List Int:=[b.x0,b.x1,b.y0,b.y1,b.t0,b.t1]
@[simp] theorem lstX_len (b : Bx) : (lstX b).length = 6:=rfl
def ordX (b : Bx) : Bool:=decide (b.x0 ≤ b.x1) && decide (b.y0 ≤ b.y1) && decide (b.t0 ≤ b.t1)
def chkX (b : Bx) : Int:=if (lstX b).all inL then (if ordX b then 0 else 7) else 2
theorem all_take {α : Type} {p : α → Bool} {l : List α} {i : Nat} (h : (l.take i).all p = true) (hi : i < l.length) (hp : p l[i] = true) : (l.take (i + 1)).all p = true:=by
 rw [List.take_succ_eq_append_getElem hi,List.all_append,h]
 simp [hp]
theorem not_all {α : Type} {p : α → Bool} {l : List α} {i : Nat} (hi : i < l.length) (hp : p l[i] = false) : l.all p = false:=by
 rw [Bool.eq_false_iff]
 intro h
 rw [List.all_eq_true.1 h _ (List.getElem_mem hi)] at hp
 cases hp
theorem chkX_bad {b : Bx} {i : Nat} (hi : i < (lstX b).length) (h : inL (lstX b)[i] = false) : chkX b = 2:=by
 unfold chkX
 rw [not_all hi h]
 rfl
theorem chkX_good {b : Bx} (h : ((lstX b).take 6).all inL = true) : chkX b = if ordX b then 0 else 7:=by
 unfold chkX
 rw [show (lstX b).take 6 = lstX b from rfl] at h
 rw [h]
 rfl
theorem s_chk1 (b : Bx) : PSpec Try.prog 12 [encX b] (iA (chkX b)):=by
 refine PSpec_of Try.func12 rfl rfl (Nat.le_of_ble_eq_true rfl) (Nat.le_of_ble_eq_true rfl) ?_
 intro E hE
 repeat' (first
  |(with_reducible first|refine uK ?_|refine uX ?_|refine AW_seqk fun K hK=>?_|refine AW_block ?_)|((with_reducible first|refine rS hE ?_|refine RK_nilk ?_|refine RK_stepk fun K' hK'=>?_|refine AW_if fun X Y hX hY=>?_|refine AW_ret ?_|refine AW_skip ?_|refine AW_exit ?_);simp [*])|with_reducible refine rL hE ?_|with_reducible refine And.intro ?_ ?_|omega|(refine imp1 fun h=>?_))
 refine AW_loopk (G:=Nat) (fun i=>⟨[(19,iA i),(18,iA 6),(17,.own 17 1 0 6),(2,iA 0),(1,.loc 1 0)],[(17,.arr 3 1 ((lstX b).map iA)),(1,.box 23 (encX b))]⟩) (fun i=>i ≤ 6 ∧ ((lstX b).take i).all inL = true) (fun i=>6 - i) 0 (by simp) (by simp [lstX]) ?_
 rintro i ⟨hi,hall⟩ K hK
 replace hall:=Hld.mk hall
 by_cases h6 : i = 6
 ·subst h6
  have hc:=chkX_good hall.out
  clear hall
  by_cases h1 : b.x0 ≤ b.x1
  ·by_cases h2 : b.y0 ≤ b.y1
   ·by_cases h3 : b.t0 ≤ b.t1
    ·simp [ordX,h1,h2,h3] at hc
     repeat' (first
      |(with_reducible first|refine uK ?_|refine uX ?_|refine AW_seqk fun K hK=>?_|refine AW_block ?_)|((with_reducible first|refine rS hE ?_|refine RK_nilk ?_|refine RK_stepk fun K' hK'=>?_|refine AW_if fun X Y hX hY=>?_|refine AW_ret ?_|refine AW_skip ?_|refine AW_exit ?_);simp [*])|with_reducible refine rL hE ?_|with_reducible refine And.intro ?_ ?_|omega|(refine imp1 fun h=>?_))
    ·simp [ordX,h1,h2,h3] at hc
     repeat' (first
      |(with_reducible first|refine uK ?_|refine uX ?_|refine AW_seqk fun K hK=>?_|refine AW_block ?_)|((with_reducible first|refine rS hE ?_|refine RK_nilk ?_|refine RK_stepk fun K' hK'=>?_|refine AW_if fun X Y hX hY=>?_|refine AW_ret ?_|refine AW_skip ?_|refine AW_exit ?_);simp [*])|with_reducible refine rL hE ?_|with_reducible refine And.intro ?_ ?_|omega|(refine imp1 fun h=>?_))
   ·simp [ordX,h1,h2] at hc
    repeat' (first
     |(with_reducible first|refine uK ?_|refine uX ?_|refine AW_seqk fun K hK=>?_|refine AW_block ?_)|((with_reducible first|refine rS hE ?_|refine RK_nilk ?_|refine RK_stepk fun K' hK'=>?_|refine AW_if fun X Y hX hY=>?_|refine AW_ret ?_|refine AW_skip ?_|refine AW_exit ?_);simp [*])|with_reducible refine rL hE ?_|with_reducible refine And.intro ?_ ?_|omega|(refine imp1 fun h=>?_))
  ·simp [ordX,h1] at hc
   repeat' (first
    |(with_reducible first|refine uK ?_|refine uX ?_|refine AW_seqk fun K hK=>?_|refine AW_block ?_)|((with_reducible first|refine rS hE ?_|refine RK_nilk ?_|refine RK_stepk fun K' hK'=>?_|refine AW_if fun X Y hX hY=>?_|refine AW_ret ?_|refine AW_skip ?_|refine AW_exit ?_);simp [*])|with_reducible refine rL hE ?_|with_reducible refine And.intro ?_ ?_|omega|(refine imp1 fun h=>?_))
 ·have hlt : i < (lstX b).length:=by simp;omega
  obtain ⟨v,hv,hb,hn⟩ : ∃ v,(lstX b)[i]? = some v ∧ (inL v = false → chkX b = 2) ∧ (inL v = true → ((lstX b).take (i + 1)).all inL = true) :=
   ⟨(lstX b)[i],List.getElem?_eq_getElem hlt,chkX_bad hlt,all_take hall.out hlt⟩
  have hlt' : (i : Int) < 6:=by omega
  clear hlt
  by_cases hl : v < -2199023255552
  ·replace hb:=hb (by simp [inL];omega)
   clear hn
   repeat' (first
    |(with_reducible first|refine uK ?_|refine uX ?_|refine AW_seqk fun K hK=>?_|refine AW_block ?_)|((with_reducible first|refine rS hE ?_|refine RK_nilk ?_|refine RK_stepk fun K' hK'=>?_|refine AW_if fun X Y hX hY=>?_|refine AW_ret ?_|refine AW_skip ?_|refine AW_exit ?_);simp [*])|with_reducible refine rL hE ?_|with_reducible refine And.intro ?_ ?_|omega|(refine imp1 fun h=>?_))
  ·by_cases hh : 2199023255552 < v
   ·replace hb:=hb (by simp [inL];omega)
    clear hn
    repeat' (first
     |(with_reducible first|refine uK ?_|refine uX ?_|refine AW_seqk fun K hK=>?_|refine AW_block ?_)|((with_reducible first|refine rS hE ?_|refine RK_nilk ?_|refine RK_stepk fun K' hK'=>?_|refine AW_if fun X Y hX hY=>?_|refine AW_ret ?_|refine AW_skip ?_|refine AW_exit ?_);simp [*])|with_reducible refine rL hE ?_|with_reducible refine And.intro ?_ ?_|omega|(refine imp1 fun h=>?_))
   ·replace hn:=Hld.mk (hn (by simp [inL];omega))
    clear hb
    repeat' (first
     |(with_reducible first|refine uK ?_|refine uX ?_|refine AW_seqk fun K hK=>?_|refine AW_block ?_)|((with_reducible first|refine rS hE ?_|refine RK_nilk ?_|refine RK_stepk fun K' hK'=>?_|refine AW_if fun X Y hX hY=>?_|refine AW_ret ?_|refine AW_skip ?_|refine AW_exit ?_);simp [*])|with_reducible refine rL hE ?_|with_reducible refine And.intro ?_ ?_|omega|(refine imp1 fun h=>?_))
    exact ⟨i + 1,⟨by omega,hn.out⟩,by omega,by simp⟩
theorem s_chk2 (b : Bx) : PSpec Try.prog 13 [encX b] (iA (chkX b)):=by
 refine PSpec_of Try.func13 rfl rfl (Nat.le_of_ble_eq_true rfl) (Nat.le_of_ble_eq_true rfl) ?_
 intro E hE
 repeat' (first
  |(with_reducible first|refine uK ?_|refine uX ?_|refine AW_seqk fun K hK=>?_|refine AW_block ?_)|((with_reducible first|refine rS hE ?_|refine RK_nilk ?_|refine RK_stepk fun K' hK'=>?_|refine AW_if fun X Y hX hY=>?_|refine AW_ret ?_|refine AW_skip ?_|refine AW_exit ?_);simp [*])|with_reducible refine rL hE ?_|with_reducible refine And.intro ?_ ?_|omega|(refine imp1 fun h=>?_))
 refine AW_loopk (G:=Nat) (fun i=>⟨[(4,iA i),(3,.own 17 1 0 6),(2,iA 0),(1,.loc 1 0)],[(17,.arr 3 1 ((lstX b).map iA)),(1,.box 23 (encX b))]⟩) (fun i=>i ≤ 6 ∧ ((lstX b).take i).all inL = true) (fun i=>6 - i) 0 (by simp) (by simp [lstX]) ?_
 rintro i ⟨hi,hall⟩ K hK
 replace hall:=Hld.mk hall
 by_cases h6 : i = 6
 ·subst h6
  have hc:=chkX_good hall.out
  clear hall
  by_cases h1 : b.x0 ≤ b.x1
  ·by_cases h2 : b.y0 ≤ b.y1
   ·by_cases h3 : b.t0 ≤ b.t1
    ·simp [ordX,h1,h2,h3] at hc
     repeat' (first
      |(with_reducible first|refine uK ?_|refine uX ?_|refine AW_seqk fun K hK=>?_|refine AW_block ?_)|((with_reducible first|refine rS hE ?_|refine RK_nilk ?_|refine RK_stepk fun K' hK'=>?_|refine AW_if fun X Y hX hY=>?_|refine AW_ret ?_|refine AW_skip ?_|refine AW_exit ?_);simp [*])|with_reducible refine rL hE ?_|with_reducible refine And.intro ?_ ?_|omega|(refine imp1 fun h=>?_))
    ·simp [ordX,h1,h2,h3] at hc
     repeat' (first
      |(with_reducible first|refine uK ?_|refine uX ?_|refine AW_seqk fun K hK=>?_|refine AW_block ?_)|((with_reducible first|refine rS hE ?_|refine RK_nilk ?_|refine RK_stepk fun K' hK'=>?_|refine AW_if fun X Y hX hY=>?_|refine AW_ret ?_|refine AW_skip ?_|refine AW_exit ?_);simp [*])|with_reducible refine rL hE ?_|with_reducible refine And.intro ?_ ?_|omega|(refine imp1 fun h=>?_))
   ·simp [ordX,h1,h2] at hc
    repeat' (first
     |(with_reducible first|refine uK ?_|refine uX ?_|refine AW_seqk fun K hK=>?_|refine AW_block ?_)|((with_reducible first|refine rS hE ?_|refine RK_nilk ?_|refine RK_stepk fun K' hK'=>?_|refine AW_if fun X Y hX hY=>?_|refine AW_ret ?_|refine AW_skip ?_|refine AW_exit ?_);simp [*])|with_reducible refine rL hE ?_|with_reducible refine And.intro ?_ ?_|omega|(refine imp1 fun h=>?_))
  ·simp [ordX,h1] at hc
   repeat' (first
    |(with_reducible first|refine uK ?_|refine uX ?_|refine AW_seqk fun K hK=>?_|refine AW_block ?_)|((with_reducible first|refine rS hE ?_|refine RK_nilk ?_|refine RK_stepk fun K' hK'=>?_|refine AW_if fun X Y hX hY=>?_|refine AW_ret ?_|refine AW_skip ?_|refine AW_exit ?_);simp [*])|with_reducible refine rL hE ?_|with_reducible refine And.intro ?_ ?_|omega|(refine imp1 fun h=>?_))
 ·have hlt : i < (lstX b).length:=by simp;omega
  obtain ⟨v,hv,hb,hn⟩ : ∃ v,(lstX b)[i]? = some v ∧ (inL v = false → chkX b = 2) ∧ (inL v = true → ((lstX b).take (i + 1)).all inL = true) :=
   ⟨(lstX b)[i],List.getElem?_eq_getElem hlt,chkX_bad hlt,all_take hall.out hlt⟩
  have hlt' : (i : Int) < 6:=by omega
  clear hlt
  by_cases hl : v < -2199023255552
  ·replace hb:=hb (by simp [inL];omega)
   clear hn
   repeat' (first
    |(with_reducible first|refine useK (by assumption) ?_|refine useK2 (by assumption) ?_|refine useX (by assumption) ?_|refine AW_seqk fun K hK=>?_|refine AW_block ?_)|(with_reducible refine AW_regionS rfl (by rw [hE];decide) ?_;simp [*])|with_reducible refine AW_region (by rw [hE];decide) ?_|((with_reducible show RK _ _ _ _ _ _);first|(refine RK_nilk ?_;simp [*])|(refine RK_stepk fun K' hK'=>?_;simp [*]))|with_reducible refine AW_drawq mixed (by rw [hE];decide) (by simp [newOK]) ?_|((with_reducible show RKQ _ _ _ _ _ _);first|refine RKQ_nilk ⟨by decide,?_⟩|(refine RKQ_stepk fun K' hK'=>?_;simp [*]))|((with_reducible first|refine AW_if fun X Y hX hY=>?_|refine AW_ret ?_|refine AW_skip ?_|refine AW_exit ?_);simp [*])|with_reducible refine And.intro ?_ ?_|omega|(refine imp1 fun h=>?_))
  ·by_cases hh : 2199023255552 < v
   ·replace hb:=hb (by simp [inL];omega)
    clear hn
    repeat' (first
     |(with_reducible first|refine useK (by assumption) ?_|refine useK2 (by assumption) ?_|refine useX (by assumption) ?_|refine AW_seqk fun K hK=>?_|refine AW_block ?_)|(with_reducible refine AW_regionS rfl (by rw [hE];decide) ?_;simp [*])|with_reducible refine AW_region (by rw [hE];decide) ?_|((with_reducible show RK _ _ _ _ _ _);first|(refine RK_nilk ?_;simp [*])|(refine RK_stepk fun K' hK'=>?_;simp [*]))|with_reducible refine AW_drawq mixed (by rw [hE];decide) (by simp [newOK]) ?_|((with_reducible show RKQ _ _ _ _ _ _);first|refine RKQ_nilk ⟨by decide,?_⟩|(refine RKQ_stepk fun K' hK'=>?_;simp [*]))|((with_reducible first|refine AW_if fun X Y hX hY=>?_|refine AW_ret ?_|refine AW_skip ?_|refine AW_exit ?_);simp [*])|with_reducible refine And.intro ?_ ?_|omega|(refine imp1 fun h=>?_))
   ·replace hn:=Hld.mk (hn (by simp [inL];omega))
    clear hb
    repeat' (first
     |(with_reducible first|refine useK (by assumption) ?_|refine useK2 (by assumption) ?_|refine useX (by assumption) ?_|refine AW_seqk fun K hK=>?_|refine AW_block ?_)|(with_reducible refine AW_regionS rfl (by rw [hE];decide) ?_;simp [*])|with_reducible refine AW_region (by rw [hE];decide) ?_|((with_reducible show RK _ _ _ _ _ _);first|(refine RK_nilk ?_;simp [*])|(refine RK_stepk fun K' hK'=>?_;simp [*]))|with_reducible refine AW_drawq mixed (by rw [hE];decide) (by simp [newOK]) ?_|((with_reducible show RKQ _ _ _ _ _ _);first|refine RKQ_nilk ⟨by decide,?_⟩|(refine RKQ_stepk fun K' hK'=>?_;simp [*]))|((with_reducible first|refine AW_if fun X Y hX hY=>?_|refine AW_ret ?_|refine AW_skip ?_|refine AW_exit ?_);simp [*])|with_reducible refine And.intro ?_ ?_|omega|(refine imp1 fun h=>?_))
    exact ⟨i + 1,⟨by omega,hn.out⟩,by omega,by simp⟩
def meetX (a b : Bx) : Bool:=decide (a.x0 ≤ b.x1) && decide (b.x0 ≤ a.x1) && decide (a.y0 ≤ b.y1) && decide (b.y0 ≤ a.y1) && decide (a.t0 ≤ b.t1) && decide (b.t0 ≤ a.t1)
set_option maxHeartbeats 1000000 in
theorem s_meets (a b : Bx) : PSpec Try.prog 14 [encX a,encX b] (bA (meetX a b)):=by
 refine PSpec_of Try.func14 rfl rfl (Nat.le_of_ble_eq_true rfl) (Nat.le_of_ble_eq_true rfl) ?_
 intro E hE
 by_cases h1 : a.x0 ≤ b.x1
 ·by_cases h2 : b.x0 ≤ a.x1
  ·by_cases h3 : a.y0 ≤ b.y1
   ·by_cases h4 : b.y0 ≤ a.y1
    ·by_cases h5 : a.t0 ≤ b.t1
     ·by_cases h6 : b.t0 ≤ a.t1
      ·have hm : meetX a b = true:=by simp [meetX,h1,h2,h3,h4,h5,h6]
       repeat' (first
        |(with_reducible first|refine uK ?_|refine uX ?_|refine AW_seqk fun K hK=>?_|refine AW_block ?_)|((with_reducible first|refine rS hE ?_|refine RK_nilk ?_|refine RK_stepk fun K' hK'=>?_|refine AW_if fun X Y hX hY=>?_|refine AW_ret ?_|refine AW_skip ?_|refine AW_exit ?_);simp [*])|with_reducible refine rL hE ?_|with_reducible refine And.intro ?_ ?_|omega|(refine imp1 fun h=>?_))
      ·have hm : meetX a b = false:=by simp [meetX,h6]
       repeat' (first
        |(with_reducible first|refine uK ?_|refine uX ?_|refine AW_seqk fun K hK=>?_|refine AW_block ?_)|((with_reducible first|refine rS hE ?_|refine RK_nilk ?_|refine RK_stepk fun K' hK'=>?_|refine AW_if fun X Y hX hY=>?_|refine AW_ret ?_|refine AW_skip ?_|refine AW_exit ?_);simp [*])|with_reducible refine rL hE ?_|with_reducible refine And.intro ?_ ?_|omega|(refine imp1 fun h=>?_))
     ·have hm : meetX a b = false:=by simp [meetX,h5]
      repeat' (first
       |(with_reducible first|refine uK ?_|refine uX ?_|refine AW_seqk fun K hK=>?_|refine AW_block ?_)|((with_reducible first|refine rS hE ?_|refine RK_nilk ?_|refine RK_stepk fun K' hK'=>?_|refine AW_if fun X Y hX hY=>?_|refine AW_ret ?_|refine AW_skip ?_|refine AW_exit ?_);simp [*])|with_reducible refine rL hE ?_|with_reducible refine And.intro ?_ ?_|omega|(refine imp1 fun h=>?_))
    ·have hm : meetX a b = false:=by simp [meetX,h4]
     repeat' (first
      |(with_reducible first|refine uK ?_|refine uX ?_|refine AW_seqk fun K hK=>?_|refine AW_block ?_)|((with_reducible first|refine rS hE ?_|refine RK_nilk ?_|refine RK_stepk fun K' hK'=>?_|refine AW_if fun X Y hX hY=>?_|refine AW_ret ?_|refine AW_skip ?_|refine AW_exit ?_);simp [*])|with_reducible refine rL hE ?_|with_reducible refine And.intro ?_ ?_|omega|(refine imp1 fun h=>?_))
   ·have hm : meetX a b = false:=by simp [meetX,h3]
    repeat' (first
     |(with_reducible first|refine uK ?_|refine uX ?_|refine AW_seqk fun K hK=>?_|refine AW_block ?_)|((with_reducible first|refine rS hE ?_|refine RK_nilk ?_|refine RK_stepk fun K' hK'=>?_|refine AW_if fun X Y hX hY=>?_|refine AW_ret ?_|refine AW_skip ?_|refine AW_exit ?_);simp [*])|with_reducible refine rL hE ?_|with_reducible refine And.intro ?_ ?_|omega|(refine imp1 fun h=>?_))
  ·have hm : meetX a b = false:=by simp [meetX,h2]
   repeat' (first
    |(with_reducible first|refine uK ?_|refine uX ?_|refine AW_seqk fun K hK=>?_|refine AW_block ?_)|((with_reducible first|refine rS hE ?_|refine RK_nilk ?_|refine RK_stepk fun K' hK'=>?_|refine AW_if fun X Y hX hY=>?_|refine AW_ret ?_|refine AW_skip ?_|refine AW_exit ?_);simp [*])|with_reducible refine rL hE ?_|with_reducible refine And.intro ?_ ?_|omega|(refine imp1 fun h=>?_))
 ·have hm : meetX a b = false:=by simp [meetX,h1]
  repeat' (first
   |(with_reducible first|refine uK ?_|refine uX ?_|refine AW_seqk fun K hK=>?_|refine AW_block ?_)|((with_reducible first|refine rS hE ?_|refine RK_nilk ?_|refine RK_stepk fun K' hK'=>?_|refine AW_if fun X Y hX hY=>?_|refine AW_ret ?_|refine AW_skip ?_|refine AW_exit ?_);simp [*])|with_reducible refine rL hE ?_|with_reducible refine And.intro ?_ ?_|omega|(refine imp1 fun h=>?_))
def arX (a b : Bx) : Bx:=⟨min a.x0 b.x0,max a.x1 b.x1,min a.y0 b.y0,max a.y1 b.y1,min a.t0 b.t0,max a.t1 b.t1⟩
theorem s_around (a b : Bx) : PSpec Try.prog 16 [encX a,encX b] (encX (arX a b)):=by
 refine PSpec_of Try.func16 rfl rfl (Nat.le_of_ble_eq_true rfl) (Nat.le_of_ble_eq_true rfl) ?_
 intro E hE
 repeat' (first
  |(with_reducible first|refine uK ?_|refine uX ?_|refine AW_seqk fun K hK=>?_|refine AW_block ?_)|((with_reducible first|refine rS hE ?_|refine RK_nilk ?_|refine RK_stepk fun K' hK'=>?_|refine AW_if fun X Y hX hY=>?_|refine AW_ret ?_|refine AW_skip ?_|refine AW_exit ?_);simp [*])|with_reducible refine rL hE ?_|with_reducible refine And.intro ?_ ?_|omega|(refine imp1 fun h=>?_))
 rfl
theorem s_around2 (a b : Bx) : PSpec Try.prog 17 [encX a,encX b] (encX (arX a b)):=by
 refine PSpec_of Try.func17 rfl rfl (Nat.le_of_ble_eq_true rfl) (Nat.le_of_ble_eq_true rfl) ?_
 intro E hE
 repeat' (first
  |(with_reducible first|refine uK ?_|refine uX ?_|refine AW_seqk fun K hK=>?_|refine AW_block ?_)|((with_reducible first|refine rS hE ?_|refine RK_nilk ?_|refine RK_stepk fun K' hK'=>?_|refine AW_if fun X Y hX hY=>?_|refine AW_ret ?_|refine AW_skip ?_|refine AW_exit ?_);simp [*])|with_reducible refine rL hE ?_|with_reducible refine And.intro ?_ ?_|omega|(refine imp1 fun h=>?_))
 rfl
set_option maxHeartbeats 1000000 in
theorem s_meets2 (a b : Bx) : PSpec Try.prog 15 [encX a,encX b] (bA (meetX a b)):=by
 refine PSpec_of Try.func15 rfl rfl (Nat.le_of_ble_eq_true rfl) (Nat.le_of_ble_eq_true rfl) ?_
 intro E hE
 by_cases h1 : a.x0 ≤ b.x1
 ·by_cases h2 : b.x0 ≤ a.x1
  ·by_cases h3 : a.y0 ≤ b.y1
   ·by_cases h4 : b.y0 ≤ a.y1
    ·by_cases h5 : a.t0 ≤ b.t1
     ·by_cases h6 : b.t0 ≤ a.t1
      ·have hm : meetX a b = true:=by simp [meetX,h1,h2,h3,h4,h5,h6]
       repeat' (first
        |(with_reducible first|refine uK ?_|refine uX ?_|refine AW_seqk fun K hK=>?_|refine AW_block ?_)|((with_reducible first|refine rS hE ?_|refine RK_nilk ?_|refine RK_stepk fun K' hK'=>?_|refine AW_if fun X Y hX hY=>?_|refine AW_ret ?_|refine AW_skip ?_|refine AW_exit ?_);simp [*])|with_reducible refine rL hE ?_|with_reducible refine And.intro ?_ ?_|omega|(refine imp1 fun h=>?_))
      ·have hm : meetX a b = false:=by simp [meetX,h6]
       repeat' (first
        |(with_reducible first|refine uK ?_|refine uX ?_|refine AW_seqk fun K hK=>?_|refine AW_block ?_)|((with_reducible first|refine rS hE ?_|refine RK_nilk ?_|refine RK_stepk fun K' hK'=>?_|refine AW_if fun X Y hX hY=>?_|refine AW_ret ?_|refine AW_skip ?_|refine AW_exit ?_);simp [*])|with_reducible refine rL hE ?_|with_reducible refine And.intro ?_ ?_|omega|(refine imp1 fun h=>?_))
     ·have hm : meetX a b = false:=by simp [meetX,h5]
      repeat' (first
       |(with_reducible first|refine uK ?_|refine uX ?_|refine AW_seqk fun K hK=>?_|refine AW_block ?_)|((with_reducible first|refine rS hE ?_|refine RK_nilk ?_|refine RK_stepk fun K' hK'=>?_|refine AW_if fun X Y hX hY=>?_|refine AW_ret ?_|refine AW_skip ?_|refine AW_exit ?_);simp [*])|with_reducible refine rL hE ?_|with_reducible refine And.intro ?_ ?_|omega|(refine imp1 fun h=>?_))
    ·have hm : meetX a b = false:=by simp [meetX,h4]
     repeat' (first
      |(with_reducible first|refine uK ?_|refine uX ?_|refine AW_seqk fun K hK=>?_|refine AW_block ?_)|((with_reducible first|refine rS hE ?_|refine RK_nilk ?_|refine RK_stepk fun K' hK'=>?_|refine AW_if fun X Y hX hY=>?_|refine AW_ret ?_|refine AW_skip ?_|refine AW_exit ?_);simp [*])|with_reducible refine rL hE ?_|with_reducible refine And.intro ?_ ?_|omega|(refine imp1 fun h=>?_))
   ·have hm : meetX a b = false:=by simp [meetX,h3]
    repeat' (first
     |(with_reducible first|refine uK ?_|refine uX ?_|refine AW_seqk fun K hK=>?_|refine AW_block ?_)|((with_reducible first|refine rS hE ?_|refine RK_nilk ?_|refine RK_stepk fun K' hK'=>?_|refine AW_if fun X Y hX hY=>?_|refine AW_ret ?_|refine AW_skip ?_|refine AW_exit ?_);simp [*])|with_reducible refine rL hE ?_|with_reducible refine And.intro ?_ ?_|omega|(refine imp1 fun h=>?_))
  ·have hm : meetX a b = false:=by simp [meetX,h2]
   repeat' (first
    |(with_reducible first|refine uK ?_|refine uX ?_|refine AW_seqk fun K hK=>?_|refine AW_block ?_)|((with_reducible first|refine rS hE ?_|refine RK_nilk ?_|refine RK_stepk fun K' hK'=>?_|refine AW_if fun X Y hX hY=>?_|refine AW_ret ?_|refine AW_skip ?_|refine AW_exit ?_);simp [*])|with_reducible refine rL hE ?_|with_reducible refine And.intro ?_ ?_|omega|(refine imp1 fun h=>?_))
 ·have hm : meetX a b = false:=by simp [meetX,h1]
  repeat' (first
   |(with_reducible first|refine uK ?_|refine uX ?_|refine AW_seqk fun K hK=>?_|refine AW_block ?_)|((with_reducible first|refine rS hE ?_|refine RK_nilk ?_|refine RK_stepk fun K' hK'=>?_|refine AW_if fun X Y hX hY=>?_|refine AW_ret ?_|refine AW_skip ?_|refine AW_exit ?_);simp [*])|with_reducible refine rL hE ?_|with_reducible refine And.intro ?_ ?_|omega|(refine imp1 fun h=>?_))
end Go.Proofs.Ytlkijcflfnnbaaa
end
section
namespace Go.Proofs.Ytlkijcflfnnbaaa
open Go.Am
theorem s_nan (a : Int) : PSpec Try.prog 75 [iA a] (bA false):=by
 refine PSpec_of Try.func75 rfl rfl (Nat.le_of_ble_eq_true rfl) (Nat.le_of_ble_eq_true rfl) ?_
 intro E hE
 repeat' (first
  |(with_reducible first|refine uK ?_|refine uX ?_|refine AW_seqk fun K hK=>?_|refine AW_block ?_)|((with_reducible first|refine rS hE ?_|refine RK_nilk ?_|refine RK_stepk fun K' hK'=>?_|refine AW_if fun X Y hX hY=>?_|refine AW_ret ?_|refine AW_skip ?_|refine AW_exit ?_);simp [*])|with_reducible refine rL hE ?_|with_reducible refine And.intro ?_ ?_|omega|(refine imp1 fun h=>?_))
def cmpI (a b : Int) : Int:=if a < b then -1 else if b < a then 1 else 0
theorem s_cmp (a b : Int) : PSpec Try.prog 56 [iA a,iA b] (iA (cmpI a b)):=by
 refine PSpec_of Try.func56 rfl rfl (Nat.le_of_ble_eq_true rfl) (Nat.le_of_ble_eq_true rfl) ?_
 intro E hE
 repeat' (first
  |(with_reducible first|refine uK ?_|refine uX ?_|refine AW_seqk fun K hK=>?_|refine AW_block ?_)|((with_reducible first|refine rS hE ?_|refine RK_nilk ?_|refine RK_stepk fun K' hK'=>?_|refine AW_if fun X Y hX hY=>?_|refine AW_ret ?_|refine AW_skip ?_|refine AW_exit ?_);simp [*])|with_reducible refine rL hE ?_|(refine acall_same (s_nan a) ?_ ?_ ?_;(iterate 2 (focus (simp [*] <;> fail)));simp [*])|(refine acall_view (s_nan a) ?_ ?_ ?_;(iterate 2 (focus (simp [*] <;> fail)));simp [*])|(refine acall_same (s_nan b) ?_ ?_ ?_;(iterate 2 (focus (simp [*] <;> fail)));simp [*])|(refine acall_view (s_nan b) ?_ ?_ ?_;(iterate 2 (focus (simp [*] <;> fail)));simp [*])|with_reducible refine And.intro ?_ ?_|omega|(refine imp1 fun h=>?_))
 all_goals simp only [cmpI]
 all_goals (split <;> first|omega|(split <;> omega))
theorem s_box1 (e : En) : PSpec Try.prog 46 [encE e] (encX e.b):=by
 refine PSpec_of Try.func46 rfl rfl (Nat.le_of_ble_eq_true rfl) (Nat.le_of_ble_eq_true rfl) ?_
 intro E hE
 repeat' (first
  |(with_reducible first|refine uK ?_|refine uX ?_|refine AW_seqk fun K hK=>?_|refine AW_block ?_)|((with_reducible first|refine rS hE ?_|refine RK_nilk ?_|refine RK_stepk fun K' hK'=>?_|refine AW_if fun X Y hX hY=>?_|refine AW_ret ?_|refine AW_skip ?_|refine AW_exit ?_);simp [*])|with_reducible refine rL hE ?_|with_reducible refine And.intro ?_ ?_|omega|(refine imp1 fun h=>?_))
 rfl
def Rg (b : Bx) : Prop:=((-2199023255552 ≤ b.x0 ∧ b.x0 ≤ 2199023255552) ∧ (-2199023255552 ≤ b.x1 ∧ b.x1 ≤ 2199023255552)) ∧ ((-2199023255552 ≤ b.y0 ∧ b.y0 ≤ 2199023255552) ∧ (-2199023255552 ≤ b.y1 ∧ b.y1 ≤ 2199023255552)) ∧ ((-2199023255552 ≤ b.t0 ∧ b.t0 ≤ 2199023255552) ∧ (-2199023255552 ≤ b.t1 ∧ b.t1 ≤ 2199023255552))
theorem s_side1 (b : Bx) (h : Rg b) : PSpec Try.prog 58 [encX b] (iA (b.t0 + b.t1)):=by
 obtain ⟨_,_,⟨h1,h2⟩,h3,h4⟩:=h
 refine PSpec_of Try.func58 rfl rfl (Nat.le_of_ble_eq_true rfl) (Nat.le_of_ble_eq_true rfl) ?_
 intro E hE
 repeat' (first
  |(with_reducible first|refine uK ?_|refine uX ?_|refine AW_seqk fun K hK=>?_|refine AW_block ?_)|((with_reducible first|refine rS hE ?_|refine RK_nilk ?_|refine RK_stepk fun K' hK'=>?_|refine AW_if fun X Y hX hY=>?_|refine AW_ret ?_|refine AW_skip ?_|refine AW_exit ?_);simp [*])|with_reducible refine rL hE ?_|with_reducible refine And.intro ?_ ?_|omega|(refine imp1 fun h=>?_))
theorem s_side2 (b : Bx) (h : Rg b) : PSpec Try.prog 59 [encX b] (iA (b.x0 + b.x1)):=by
 obtain ⟨⟨⟨h1,h2⟩,h3,h4⟩,_⟩:=h
 refine PSpec_of Try.func59 rfl rfl (Nat.le_of_ble_eq_true rfl) (Nat.le_of_ble_eq_true rfl) ?_
 intro E hE
 repeat' (first
  |(with_reducible first|refine uK ?_|refine uX ?_|refine AW_seqk fun K hK=>?_|refine AW_block ?_)|((with_reducible first|refine rS hE ?_|refine RK_nilk ?_|refine RK_stepk fun K' hK'=>?_|refine AW_if fun X Y hX hY=>?_|refine AW_ret ?_|refine AW_skip ?_|refine AW_exit ?_);simp [*])|with_reducible refine rL hE ?_|with_reducible refine And.intro ?_ ?_|omega|(refine imp1 fun h=>?_))
theorem s_side3 (b : Bx) (h : Rg b) : PSpec Try.prog 60 [encX b] (iA (b.y0 + b.y1)):=by
 obtain ⟨_,⟨⟨h1,h2⟩,h3,h4⟩,_⟩:=h
 refine PSpec_of Try.func60 rfl rfl (Nat.le_of_ble_eq_true rfl) (Nat.le_of_ble_eq_true rfl) ?_
 intro E hE
 repeat' (first
  |(with_reducible first|refine uK ?_|refine uX ?_|refine AW_seqk fun K hK=>?_|refine AW_block ?_)|((with_reducible first|refine rS hE ?_|refine RK_nilk ?_|refine RK_stepk fun K' hK'=>?_|refine AW_if fun X Y hX hY=>?_|refine AW_ret ?_|refine AW_skip ?_|refine AW_exit ?_);simp [*])|with_reducible refine rL hE ?_|with_reducible refine And.intro ?_ ?_|omega|(refine imp1 fun h=>?_))
abbrev fnA (k : Nat) : AV:=.fn (.func k) [] []
abbrev byA (k : Nat) : AV:=.fn (.func 55) [] [.ep (fnA k),.ep (fnA 46)]
theorem s_by (k : Nat) : PSpec Try.prog 54 [fnA k,.ep (fnA 46)] (byA k):=by
 refine PSpec_of Try.func54 rfl rfl (Nat.le_of_ble_eq_true rfl) (Nat.le_of_ble_eq_true rfl) ?_
 intro E hE
 refine AW_seqt ⟨[(3,.v .nilFunc),(2,.loc 2 0),(0,fnA k),(1,.ep (fnA 46))],[(2,.box 61 (fnA k))]⟩ ?_ (by
  intro K hK
  repeat' (first
   |(with_reducible first|refine uK ?_|refine uX ?_|refine AW_seqk fun K hK=>?_|refine AW_block ?_)|((with_reducible first|refine rS hE ?_|refine RK_nilk ?_|refine RK_stepk fun K' hK'=>?_|refine AW_if fun X Y hX hY=>?_|refine AW_ret ?_|refine AW_skip ?_|refine AW_exit ?_);simp [*])|with_reducible refine rL hE ?_|with_reducible refine And.intro ?_ ?_|omega|(refine imp1 fun h=>?_))
  all_goals simp)
 refine AW_freeze 2 (cb:=.box 61 (fnA k)) (t:=⟨[(3,.v .nilFunc),(2,.ep (fnA k)),(0,fnA k),(1,.ep (fnA 46))],[]⟩) (by simp) (by simp) (by simp) ?_
 repeat' (first
  |(with_reducible first|refine uK ?_|refine uX ?_|refine AW_seqk fun K hK=>?_|refine AW_block ?_)|((with_reducible first|refine rS hE ?_|refine RK_nilk ?_|refine RK_stepk fun K' hK'=>?_|refine AW_if fun X Y hX hY=>?_|refine AW_ret ?_|refine AW_skip ?_|refine AW_exit ?_);simp [*])|with_reducible refine rL hE ?_|with_reducible refine And.intro ?_ ?_|omega|(refine imp1 fun h=>?_))
theorem s_by1 (k : Nat) (x y : En) (a b : Int) (hx : PSpec Try.prog k [encX x.b] (iA a)) (hy : PSpec Try.prog k [encX y.b] (iA b)) : PSpec Try.prog 55 [encE x,encE y,.ep (fnA k),.ep (fnA 46)] (iA (cmpI a b)):=by
 replace hx:=Hld.mk hx
 replace hy:=Hld.mk hy
 refine PSpec_of Try.func55 rfl rfl (Nat.le_of_ble_eq_true rfl) (Nat.le_of_ble_eq_true rfl) ?_
 intro E hE
 repeat' (first
  |(with_reducible first|refine useK (by assumption) ?_|refine useK2 (by assumption) ?_|refine useX (by assumption) ?_|refine AW_seqk fun K hK=>?_|refine AW_block ?_)|(with_reducible refine AW_regionS rfl (by rw [hE];decide) ?_;simp [*])|with_reducible refine AW_region (by rw [hE];decide) ?_|((with_reducible show RK _ _ _ _ _ _);first|(refine RK_nilk ?_;simp [*])|(refine RK_stepk fun K' hK'=>?_;simp [*]))|with_reducible refine AW_drawq mixed (by rw [hE];decide) (by simp [newOK]) ?_|((with_reducible show RKQ _ _ _ _ _ _);first|refine RKQ_nilk ⟨by decide,?_⟩|(refine RKQ_stepk fun K' hK'=>?_;simp [*]))|((with_reducible first|refine AW_if fun X Y hX hY=>?_|refine AW_ret ?_|refine AW_skip ?_|refine AW_exit ?_);simp [*])|((first|refine acall_same (s_box1 x) ?_ ?_ ?_|refine call_same (s_box1 x) ?_ ?_ ?_);(focus (simp [*] <;> fail));(focus (simp [*] <;> fail));simp [*])|((first|refine acall_view (s_box1 x) ?_ ?_ ?_|refine call_view (s_box1 x) ?_ ?_ ?_);(focus (simp [*] <;> fail));(focus (simp [*] <;> fail));simp [*])|((first|refine acall_same (s_box1 y) ?_ ?_ ?_|refine call_same (s_box1 y) ?_ ?_ ?_);(focus (simp [*] <;> fail));(focus (simp [*] <;> fail));simp [*])|((first|refine acall_view (s_box1 y) ?_ ?_ ?_|refine call_view (s_box1 y) ?_ ?_ ?_);(focus (simp [*] <;> fail));(focus (simp [*] <;> fail));simp [*])|((first|refine acall_same (hx.out) ?_ ?_ ?_|refine call_same (hx.out) ?_ ?_ ?_);(focus (simp [*] <;> fail));(focus (simp [*] <;> fail));simp [*])|((first|refine acall_view (hx.out) ?_ ?_ ?_|refine call_view (hx.out) ?_ ?_ ?_);(focus (simp [*] <;> fail));(focus (simp [*] <;> fail));simp [*])|((first|refine acall_same (hy.out) ?_ ?_ ?_|refine call_same (hy.out) ?_ ?_ ?_);(focus (simp [*] <;> fail));(focus (simp [*] <;> fail));simp [*])|((first|refine acall_view (hy.out) ?_ ?_ ?_|refine call_view (hy.out) ?_ ?_ ?_);(focus (simp [*] <;> fail));(focus (simp [*] <;> fail));simp [*])|((first|refine acall_same (s_cmp a b) ?_ ?_ ?_|refine call_same (s_cmp a b) ?_ ?_ ?_);(focus (simp [*] <;> fail));(focus (simp [*] <;> fail));simp [*])|((first|refine acall_view (s_cmp a b) ?_ ?_ ?_|refine call_view (s_cmp a b) ?_ ?_ ?_);(focus (simp [*] <;> fail));(focus (simp [*] <;> fail));simp [*])|with_reducible refine And.intro ?_ ?_|omega|(refine imp1 fun h=>?_))
end Go.Proofs.Ytlkijcflfnnbaaa
end
section
namespace Go.Proofs.Ytlkijcflfnnbaaa
open Go.Am
def swp {α : Type} [Inhabited α] (l : List α) (i j : Nat) : List α:=(l.set i (l.getD j default)).set j (l.getD i default)
theorem swp_perm {α : Type} [Inhabited α] {l : List α} {i j : Nat} (hi : i < l.length) (hj : j < l.length) : (swp l i j).Perm l:=by
 have h:=Array.swap_perm (xs:=l.toArray) (i:=i) (j:=j) (by simpa using hi) (by simpa using hj)
 have h2:=h.toList
 simp at h2
 unfold swp
 simpa [List.getD_eq_getElem?_getD,hi,hj] using h2
@[simp] theorem swp_len {α : Type} [Inhabited α] (l : List α) (i j : Nat) : (swp l i j).length = l.length:=by simp [swp]
theorem setE {l : List En} {i j : Nat} {e : En} (h : j < l.length) : ∃ z,((l.map encE).set i (encE e))[j]? = some (encE z):=by
 rw [← List.map_set,List.getElem?_map,List.getElem?_eq_getElem (by simpa using h)]
 exact ⟨_,rfl⟩
def PermS (L : List En) : AV → (Nat → Option Ct) → Prop:=fun res bf=>res = .tup [] ∧ ∃ L' : List En,L'.Perm L ∧ bf 1000000 = some (.arr 51 7 (L'.map encE))
theorem m_swap (L : List En) (off n a b m : Nat) (cv : AV) (hL : off + n ≤ L.length) (h1 : a + m ≤ n) (h2 : b + m ≤ n) (hn : L.length < 4611686018427387904) :
 MSpec Try.prog 86 [.own 1000000 7 off n,iA a,iA b,iA m,cv] [(1000000,.arr 51 7 (L.map encE))] (PermS L):=by
 refine MSpec_of Try.func86 rfl rfl (Nat.le_of_ble_eq_true rfl) (Nat.le_of_ble_eq_true rfl) ?_
 intro E hE
 repeat' (first
  |(with_reducible first|refine useK (by assumption) ?_|refine useK2 (by assumption) ?_|refine useX (by assumption) ?_|refine AW_seqk fun K hK=>?_|refine AW_block ?_)|(with_reducible refine AW_regionS rfl (by rw [hE];decide) ?_;simp [*])|with_reducible refine AW_region (by rw [hE];decide) ?_|((with_reducible show RK _ _ _ _ _ _);first|(refine RK_nilk ?_;simp [*])|(refine RK_stepk fun K' hK'=>?_;simp [*]))|with_reducible refine AW_drawq mixed (by rw [hE];decide) (by simp [newOK]) ?_|((with_reducible show RKQ _ _ _ _ _ _);first|refine RKQ_nilk ⟨by decide,?_⟩|(refine RKQ_stepk fun K' hK'=>?_;simp [*]))|((with_reducible first|refine AW_if fun X Y hX hY=>?_|refine AW_ret ?_|refine AW_skip ?_|refine AW_exit ?_);simp [*])|with_reducible refine And.intro ?_ ?_|omega|(refine imp1 fun h=>?_))
 refine AW_loopk (G:=Nat × List En) (fun g=>⟨[(10,iA g.1),(0,.own 1000000 7 off n),(1,iA a),(2,iA b),(3,iA m)],[(1000000,.arr 51 7 (g.2.map encE))]⟩) (fun g=>g.1 ≤ m ∧ g.2.Perm L) (fun g=>m - g.1) (0,L) ⟨by simp,by simp⟩ (by simp) ?_
 rintro ⟨i,M⟩ ⟨him,hM⟩ K hK
 replace him : i ≤ m:=him
 replace hM : M.Perm L:=hM
 have hml:=hM.length_eq
 by_cases hlt : i < m
 ·obtain ⟨x,hx⟩ : ∃ x,M[off + (a + i)]? = some x:=⟨_,List.getElem?_eq_getElem (by omega)⟩
  obtain ⟨y,hy⟩ : ∃ y,M[off + (b + i)]? = some y:=⟨_,List.getElem?_eq_getElem (by omega)⟩
  have ha : ((a : Int) + i).toNat = a + i:=by omega
  have hb : ((b : Int) + i).toNat = b + i:=by omega
  obtain ⟨z,hz⟩:=setE (l:=M) (i:=off + (a + i)) (j:=off + (b + i)) (e:=y) (by omega)
  replace hM:=Hld.mk hM
  repeat' (first
   |(with_reducible first|refine uK ?_|refine uX ?_|refine AW_seqk fun K hK=>?_|refine AW_block ?_)|((with_reducible first|refine rS hE ?_|refine RK_nilk ?_|refine RK_stepk fun K' hK'=>?_|refine AW_if fun X Y hX hY=>?_|refine AW_ret ?_|refine AW_skip ?_|refine AW_exit ?_);simp [*])|with_reducible refine rL hE ?_|with_reducible refine And.intro ?_ ?_|omega|(refine imp1 fun h=>?_))
  refine AW_DR mixed (by rw [hE];decide) ?_
  simp only [List.length_cons,List.length_nil,Nat.reduceAdd]
  (refine dT 0 hE fun K hK=>?_;simp [*];(repeat' (first|with_reducible refine And.intro ?_ ?_|omega));refine uD hK ?_;clear hK)
  (refine dT 1 hE fun K hK=>?_;simp [*];(repeat' (first|with_reducible refine And.intro ?_ ?_|omega));refine uD hK ?_;clear hK)
  (refine dT 2 hE fun K hK=>?_;simp [*];(repeat' (first|with_reducible refine And.intro ?_ ?_|omega));refine uD hK ?_;clear hK)
  (refine dT 3 hE fun K hK=>?_;simp [*];(repeat' (first|with_reducible refine And.intro ?_ ?_|omega));refine uD hK ?_;clear hK)
  (refine dT 4 hE fun K hK=>?_;simp [*];(repeat' (first|with_reducible refine And.intro ?_ ?_|omega));refine uD hK ?_;clear hK)
  (refine dT 5 hE fun K hK=>?_;simp [*];(repeat' (first|with_reducible refine And.intro ?_ ?_|omega));refine uD hK ?_;clear hK)
  (refine dT 6 hE fun K hK=>?_;simp [*];(repeat' (first|with_reducible refine And.intro ?_ ?_|omega));refine uD hK ?_;clear hK)
  (refine dT 7 hE fun K hK=>?_;simp [*];(repeat' (first|with_reducible refine And.intro ?_ ?_|omega));refine uD hK ?_;clear hK)
  (refine dT 8 hE fun K hK=>?_;simp [*];(repeat' (first|with_reducible refine And.intro ?_ ?_|omega));refine uD hK ?_;clear hK)
  (refine dT 9 hE fun K hK=>?_;simp [*];(repeat' (first|with_reducible refine And.intro ?_ ?_|omega));refine uD hK ?_;clear hK)
  (refine dT 10 hE fun K hK=>?_;simp [*];(repeat' (first|with_reducible refine And.intro ?_ ?_|omega));refine uD hK ?_;clear hK)
  (refine dT 11 hE fun K hK=>?_;simp [*];(repeat' (first|with_reducible refine And.intro ?_ ?_|omega));refine uD hK ?_;clear hK)
  (refine dT 12 hE fun K hK=>?_;simp [*];(repeat' (first|with_reducible refine And.intro ?_ ?_|omega));refine uD hK ?_;clear hK)
  (refine dT 14 hE fun K hK=>?_;simp [*];(repeat' (first|with_reducible refine And.intro ?_ ?_|omega));refine uD hK ?_;clear hK)
  (refine dT 15 hE fun K hK=>?_;simp [*];(repeat' (first|with_reducible refine And.intro ?_ ?_|omega));refine uD hK ?_;clear hK)
  (refine dT 16 hE fun K hK=>?_;simp [*];(repeat' (first|with_reducible refine And.intro ?_ ?_|omega));refine uD hK ?_;clear hK)
  (refine dT 17 hE fun K hK=>?_;simp [*];(repeat' (first|with_reducible refine And.intro ?_ ?_|omega));refine uD hK ?_;clear hK)
  (refine dT 18 hE fun K hK=>?_;simp [*];(repeat' (first|with_reducible refine And.intro ?_ ?_|omega));refine uD hK ?_;clear hK)
  (refine dS2 13 19 hE (fun K hK=>?_) (fun K hK=>?_) <;> simp [*] <;> (repeat' (first|with_reducible refine And.intro ?_ ?_|omega)) <;> refine uD hK ?_ <;> clear hK)
  ·(refine dS 19 hE fun K hK=>?_;simp [*];(repeat' (first|with_reducible refine And.intro ?_ ?_|omega));refine uD hK ?_;clear hK)
   (refine dS 20 hE fun K hK=>?_;simp [*];(repeat' (first|with_reducible refine And.intro ?_ ?_|omega));refine uD hK ?_;clear hK)
   (refine dS 21 hE fun K hK=>?_;simp [*];(repeat' (first|with_reducible refine And.intro ?_ ?_|omega));refine uD hK ?_;clear hK)
   (refine dS 22 hE fun K hK=>?_;simp [*];(repeat' (first|with_reducible refine And.intro ?_ ?_|omega));refine uD hK ?_;clear hK)
   (refine dS 23 hE fun K hK=>?_;simp [*];(repeat' (first|with_reducible refine And.intro ?_ ?_|omega));refine uD hK ?_;clear hK)
   refine DR_done (by decide +kernel) ?_
   simp
   repeat' (first
    |(with_reducible first|refine uK ?_|refine uX ?_|refine AW_seqk fun K hK=>?_|refine AW_block ?_)|((with_reducible first|refine rS hE ?_|refine RK_nilk ?_|refine RK_stepk fun K' hK'=>?_|refine AW_if fun X Y hX hY=>?_|refine AW_ret ?_|refine AW_skip ?_|refine AW_exit ?_);simp [*])|with_reducible refine rL hE ?_|with_reducible refine And.intro ?_ ?_|omega|(refine imp1 fun h=>?_))
   exact ⟨(i + 1,swp M (off + (a + i)) (off + (b + i))),⟨(show i + 1 ≤ m by omega),(swp_perm (by omega) (by omega)).trans hM.out⟩,(show m - (i + 1) < m - i by omega),by simp [swp,List.getD_eq_getElem?_getD,hx,hy]⟩
  ·(refine dS 13 hE fun K hK=>?_;simp [*];(repeat' (first|with_reducible refine And.intro ?_ ?_|omega));refine uD hK ?_;clear hK)
   (refine dS 20 hE fun K hK=>?_;simp [*];(repeat' (first|with_reducible refine And.intro ?_ ?_|omega));refine uD hK ?_;clear hK)
   (refine dS 21 hE fun K hK=>?_;simp [*];(repeat' (first|with_reducible refine And.intro ?_ ?_|omega));refine uD hK ?_;clear hK)
   (refine dS 22 hE fun K hK=>?_;simp [*];(repeat' (first|with_reducible refine And.intro ?_ ?_|omega));refine uD hK ?_;clear hK)
   (refine dS 23 hE fun K hK=>?_;simp [*];(repeat' (first|with_reducible refine And.intro ?_ ?_|omega));refine uD hK ?_;clear hK)
   refine DR_done (by decide +kernel) ?_
   simp
   repeat' (first
    |(with_reducible first|refine uK ?_|refine uX ?_|refine AW_seqk fun K hK=>?_|refine AW_block ?_)|((with_reducible first|refine rS hE ?_|refine RK_nilk ?_|refine RK_stepk fun K' hK'=>?_|refine AW_if fun X Y hX hY=>?_|refine AW_ret ?_|refine AW_skip ?_|refine AW_exit ?_);simp [*])|with_reducible refine rL hE ?_|with_reducible refine And.intro ?_ ?_|omega|(refine imp1 fun h=>?_))
   exact ⟨(i + 1,swp M (off + (a + i)) (off + (b + i))),⟨(show i + 1 ≤ m by omega),(swp_perm (by omega) (by omega)).trans hM.out⟩,(show m - (i + 1) < m - i by omega),by simp [swp,List.getD_eq_getElem?_getD,hx,hy]⟩
 ·replace hM:=Hld.mk hM
  repeat' (first
   |(with_reducible first|refine uK ?_|refine uX ?_|refine AW_seqk fun K hK=>?_|refine AW_block ?_)|((with_reducible first|refine rS hE ?_|refine RK_nilk ?_|refine RK_stepk fun K' hK'=>?_|refine AW_if fun X Y hX hY=>?_|refine AW_ret ?_|refine AW_skip ?_|refine AW_exit ?_);simp [*])|with_reducible refine rL hE ?_|with_reducible refine And.intro ?_ ?_|omega|(refine imp1 fun h=>?_))
  exact ⟨rfl,M,hM.out,rfl⟩
end Go.Proofs.Ytlkijcflfnnbaaa
end
section
namespace Go.Proofs.Ytlkijcflfnnbaaa
open Go.Am
theorem acall_perm {E : Env} {g : FuncId} {es : List AV} {id off n : Nat} {L : List En} {s : AState} {d : Option Tmp} {K : AState → Prop} (h : MSpec Try.prog g (.own 1000000 7 off n :: es) [(1000000,.arr 51 7 (L.map encE))] (PermS L))
 (hb : s.box id = some (.arr 51 7 (L.map encE))) (he : idfL es = true) (hk : ∀ L' : List En,L'.Perm L → K ((AState.mk s.s ((id,.arr 51 7 (L'.map encE)) :: dropB [id] s.b)).put d (.tup []))) : ACall Try.prog E g (.own id 7 off n :: es) s d K:=by
 have ren0 : ∀ (σ : Nat → Nat) (l : List AV),idfL l = true → renL σ l = l ∧ idsA l = []:=fun σ l h=>⟨idfL_ren σ l h,idfL_ids l h⟩
 have hlk : ∀ i c,lk [(1000000,Ct.arr 51 7 (L.map encE))] i = some c → i = 1000000 ∧ c = .arr 51 7 (L.map encE):=by
  intro i c h
  simp only [lk] at h
  split at h
  ·rename_i e;cases h;exact ⟨e.symm,rfl⟩
  ·cases h
 refine ACall_mut h (fun _=>id) ?_ ?_ ?_ ?_
 ·rw [← renL_map];simp only [renL,AV.ren,(ren0 _ es he).1]
 ·intro i c hc
  obtain ⟨rfl,rfl⟩:=hlk _ _ hc
  simp only [Ct.ren,ren_LE,hb]
 ·intro i i' h1 h2 _
  obtain ⟨c,hc⟩:=Option.isSome_iff_exists.1 h1
  obtain ⟨c',hc'⟩:=Option.isSome_iff_exists.1 h2
  rw [(hlk _ _ hc).1,(hlk _ _ hc').1]
 ·rintro res bf ⟨rfl,L',hL',hbf⟩
  refine ⟨[(1000000,.arr 51 7 (L'.map encE))],fun _=>id,⟨?_,?_,?_,?_,?_⟩,?_⟩
  ·intro p hp;simp at hp;subst hp;exact hbf
  ·intro p hp;simp at hp;subst hp;exact .inl ⟨⟨Nat.le_refl _,(show (1000000 : Nat) < 2000000 by decide)⟩,rfl,rfl⟩
  ·intro p hp q hq _;simp at hp hq;subst hp;subst hq;rfl
  ·intro i hi;simp [AV.ids,idsA] at hi
  ·intro p hp i hi;simp at hp;subst hp;simp [Ct.ids] at hi
  ·simp only [List.map_cons,List.map_nil,Ct.ren,ren_LE]
   exact hk L' hL'
theorem m_rot (L : List En) (off n a m b : Nat) (cv : AV) (hcv : cv.idf = true) (hL : off + n ≤ L.length) (h1 : a < m) (h2 : m < b) (h3 : b ≤ n) (hn : L.length < 4611686018427387904) :
 MSpec Try.prog 85 [.own 1000000 7 off n,iA a,iA m,iA b,cv] [(1000000,.arr 51 7 (L.map encE))] (PermS L):=by
 refine MSpec_of Try.func85 rfl rfl (Nat.le_of_ble_eq_true rfl) (Nat.le_of_ble_eq_true rfl) ?_
 intro E hE
 obtain ⟨i0,hi0⟩ : ∃ i : Nat,(m : Int) - a = i:=⟨m - a,by omega⟩
 obtain ⟨j0,hj0⟩ : ∃ j : Nat,(b : Int) - m = j:=⟨b - m,by omega⟩
 repeat' (first
  |(with_reducible first|refine uK ?_|refine uX ?_|refine AW_seqk fun K hK=>?_|refine AW_block ?_)|((with_reducible first|refine rS hE ?_|refine RK_nilk ?_|refine RK_stepk fun K' hK'=>?_|refine AW_if fun X Y hX hY=>?_|refine AW_ret ?_|refine AW_skip ?_|refine AW_exit ?_);simp [*])|with_reducible refine rL hE ?_|with_reducible refine And.intro ?_ ?_|omega|(refine imp1 fun h=>?_))
 refine AW_loopk (G:=Nat × Nat × List En) (fun g=>⟨[(10,iA g.1),(11,iA g.2.1),(0,.own 1000000 7 off n),(2,iA m),(4,cv)],[(1000000,.arr 51 7 (g.2.2.map encE))]⟩) (fun g=>(0 < g.1 ∧ g.1 ≤ m) ∧ (0 < g.2.1 ∧ m + g.2.1 ≤ n) ∧ g.2.2.Perm L) (fun g=>g.1 + g.2.1) (i0,j0,L) ⟨⟨(show 0 < i0 by omega),(show i0 ≤ m by omega)⟩,⟨(show 0 < j0 by omega),(show m + j0 ≤ n by omega)⟩,List.Perm.refl _⟩ (by simp) ?_
 rintro ⟨i,j,M⟩ ⟨⟨hi1,hi2⟩,⟨hj1,hj2⟩,hM⟩ K hK
 replace hi1 : 0 < i:=hi1
 replace hi2 : i ≤ m:=hi2
 replace hj1 : 0 < j:=hj1
 replace hj2 : m + j ≤ n:=hj2
 replace hM : M.Perm L:=hM
 have hml:=hM.length_eq
 obtain ⟨p,hp⟩ : ∃ p : Nat,(m : Int) - i = p:=⟨m - i,by omega⟩
 replace hM:=Hld.mk hM
 by_cases hij : i = j
 ·subst hij
  repeat' (first
   |(with_reducible first|refine uK ?_|refine uX ?_|refine AW_seqk fun K hK=>?_|refine AW_block ?_)|((with_reducible first|refine rS hE ?_|refine RK_nilk ?_|refine RK_stepk fun K' hK'=>?_|refine AW_if fun X Y hX hY=>?_|refine AW_ret ?_|refine AW_skip ?_|refine AW_exit ?_);simp [*])|with_reducible refine rL hE ?_|with_reducible refine And.intro ?_ ?_|omega|(refine imp1 fun h=>?_))
  refine acall_perm (m_swap M off n p m i cv (by omega) (by omega) (by omega) (by omega)) (by simp) (by simp [*]) fun M' hM'=>?_
  simp
  replace hM':=Hld.mk (hM'.trans hM.out)
  repeat' (first
   |(with_reducible first|refine uK ?_|refine uX ?_|refine AW_seqk fun K hK=>?_|refine AW_block ?_)|((with_reducible first|refine rS hE ?_|refine RK_nilk ?_|refine RK_stepk fun K' hK'=>?_|refine AW_if fun X Y hX hY=>?_|refine AW_ret ?_|refine AW_skip ?_|refine AW_exit ?_);simp [*])|with_reducible refine rL hE ?_|with_reducible refine And.intro ?_ ?_|omega|(refine imp1 fun h=>?_))
  exact ⟨rfl,M',hM'.out,rfl⟩
 ·have hne : ¬ (i : Int) = j:=by omega
  by_cases hlt : j < i
  ·obtain ⟨q,hq⟩ : ∃ q : Nat,(i : Int) - j = q:=⟨i - j,by omega⟩
   repeat' (first
    |(with_reducible first|refine uK ?_|refine uX ?_|refine AW_seqk fun K hK=>?_|refine AW_block ?_)|((with_reducible first|refine rS hE ?_|refine RK_nilk ?_|refine RK_stepk fun K' hK'=>?_|refine AW_if fun X Y hX hY=>?_|refine AW_ret ?_|refine AW_skip ?_|refine AW_exit ?_);simp [*])|with_reducible refine rL hE ?_|with_reducible refine And.intro ?_ ?_|omega|(refine imp1 fun h=>?_))
   refine acall_perm (m_swap M off n p m j cv (by omega) (by omega) (by omega) (by omega)) (by simp) (by simp [*]) fun M' hM'=>?_
   simp
   replace hM':=Hld.mk (hM'.trans hM.out)
   repeat' (first
    |(with_reducible first|refine uK ?_|refine uX ?_|refine AW_seqk fun K hK=>?_|refine AW_block ?_)|((with_reducible first|refine rS hE ?_|refine RK_nilk ?_|refine RK_stepk fun K' hK'=>?_|refine AW_if fun X Y hX hY=>?_|refine AW_ret ?_|refine AW_skip ?_|refine AW_exit ?_);simp [*])|with_reducible refine rL hE ?_|with_reducible refine And.intro ?_ ?_|omega|(refine imp1 fun h=>?_))
   exact ⟨(q,j,M'),⟨⟨(show 0 < q by omega),(show q ≤ m by omega)⟩,⟨(show 0 < j by omega),(show m + j ≤ n by omega)⟩,hM'.out⟩,(show q + j < i + j by omega),by simp⟩
  ·obtain ⟨q,hq⟩ : ∃ q : Nat,(j : Int) - i = q:=⟨j - i,by omega⟩
   obtain ⟨r,hr⟩ : ∃ r : Nat,(m : Int) + j - i = r:=⟨m + j - i,by omega⟩
   repeat' (first
    |(with_reducible first|refine uK ?_|refine uX ?_|refine AW_seqk fun K hK=>?_|refine AW_block ?_)|((with_reducible first|refine rS hE ?_|refine RK_nilk ?_|refine RK_stepk fun K' hK'=>?_|refine AW_if fun X Y hX hY=>?_|refine AW_ret ?_|refine AW_skip ?_|refine AW_exit ?_);simp [*])|with_reducible refine rL hE ?_|with_reducible refine And.intro ?_ ?_|omega|(refine imp1 fun h=>?_))
   refine acall_perm (m_swap M off n p r i cv (by omega) (by omega) (by omega) (by omega)) (by simp) (by simp [*]) fun M' hM'=>?_
   simp
   replace hM':=Hld.mk (hM'.trans hM.out)
   repeat' (first
    |(with_reducible first|refine uK ?_|refine uX ?_|refine AW_seqk fun K hK=>?_|refine AW_block ?_)|((with_reducible first|refine rS hE ?_|refine RK_nilk ?_|refine RK_stepk fun K' hK'=>?_|refine AW_if fun X Y hX hY=>?_|refine AW_ret ?_|refine AW_skip ?_|refine AW_exit ?_);simp [*])|with_reducible refine rL hE ?_|with_reducible refine And.intro ?_ ?_|omega|(refine imp1 fun h=>?_))
   exact ⟨(i,q,M'),⟨⟨(show 0 < i by omega),(show i ≤ m by omega)⟩,⟨(show 0 < q by omega),(show m + q ≤ n by omega)⟩,hM'.out⟩,(show i + q < i + j by omega),by simp⟩
end Go.Proofs.Ytlkijcflfnnbaaa
end
section
namespace Go.Proofs.Ytlkijcflfnnbaaa
open Go.Am
def CmpL (k : Nat) (L : List En) : Prop:=∀ x ∈ L,∀ y ∈ L,∃ r : Int,PSpec Try.prog 55 [encE x,encE y,.ep (fnA k),.ep (fnA 46)] (iA r)
theorem CmpL.perm {k : Nat} {L M : List En} (h : CmpL k L) (hp : M.Perm L) : CmpL k M:=fun x hx y hy=>h x (hp.mem_iff.1 hx) y (hp.mem_iff.1 hy)
theorem m_ins (L : List En) (off n a b k : Nat) (hc : CmpL k L) (hL : off + n ≤ L.length) (h1 : a ≤ b) (h2 : b ≤ n) (hn : L.length < 4611686018427387904) :
 MSpec Try.prog 82 [.own 1000000 7 off n,iA a,iA b,byA k] [(1000000,.arr 51 7 (L.map encE))] (PermS L):=by
 refine MSpec_of Try.func82 rfl rfl (Nat.le_of_ble_eq_true rfl) (Nat.le_of_ble_eq_true rfl) ?_
 intro E hE
 repeat' (first
  |(with_reducible first|refine uK ?_|refine uX ?_|refine AW_seqk fun K hK=>?_|refine AW_block ?_)|((with_reducible first|refine rS hE ?_|refine RK_nilk ?_|refine RK_stepk fun K' hK'=>?_|refine AW_if fun X Y hX hY=>?_|refine AW_ret ?_|refine AW_skip ?_|refine AW_exit ?_);simp [*])|with_reducible refine rL hE ?_|with_reducible refine And.intro ?_ ?_|omega|(refine imp1 fun h=>?_))
 replace hc:=Hld.mk hc
 refine AW_loopk (G:=Nat × List En) (fun g=>⟨[(8,iA g.1),(0,.own 1000000 7 off n),(1,iA a),(2,iA b),(3,byA k)],[(1000000,.arr 51 7 (g.2.map encE))]⟩) (fun g=>(a < g.1 ∧ g.1 ≤ b + 1) ∧ g.2.Perm L) (fun g=>b + 1 - g.1) (a + 1,L) ⟨⟨(show a < a + 1 by omega),(show a + 1 ≤ b + 1 by omega)⟩,List.Perm.refl _⟩ (by simp) ?_
 rintro ⟨i,M⟩ ⟨⟨hi1,hi2⟩,hM⟩ K hK
 replace hi1 : a < i:=hi1
 replace hi2 : i ≤ b + 1:=hi2
 replace hM : M.Perm L:=hM
 by_cases hlt : i < b
 ·replace hM:=Hld.mk hM
  repeat' (first
   |(with_reducible first|refine uK ?_|refine uX ?_|refine AW_seqk fun K hK=>?_|refine AW_block ?_)|((with_reducible first|refine rS hE ?_|refine RK_nilk ?_|refine RK_stepk fun K' hK'=>?_|refine AW_if fun X Y hX hY=>?_|refine AW_ret ?_|refine AW_skip ?_|refine AW_exit ?_);simp [*])|with_reducible refine rL hE ?_|with_reducible refine And.intro ?_ ?_|omega|(refine imp1 fun h=>?_))
  refine AW_loopk (G:=Nat × List En) (fun g=>⟨[(9,iA g.1),(8,iA i),(0,.own 1000000 7 off n),(1,iA a),(2,iA b),(3,byA k)],[(1000000,.arr 51 7 (g.2.map encE))]⟩) (fun g=>(a ≤ g.1 ∧ g.1 ≤ i) ∧ g.2.Perm L) (fun g=>g.1) (i,M) ⟨⟨(show a ≤ i by omega),(show i ≤ i by omega)⟩,hM.out⟩ (by simp) ?_
  clear hM
  rintro ⟨j,N⟩ ⟨⟨hj1,hj2⟩,hN⟩ K2 hK2
  replace hj1 : a ≤ j:=hj1
  replace hj2 : j ≤ i:=hj2
  replace hN : N.Perm L:=hN
  have hnl:=hN.length_eq
  by_cases hja : a < j
  ·obtain ⟨p,hp⟩ : ∃ p : Nat,(j : Int) - 1 = p:=⟨j - 1,by omega⟩
   obtain ⟨x,hx⟩ : ∃ x,N[off + j]? = some x:=⟨_,List.getElem?_eq_getElem (by omega)⟩
   obtain ⟨y,hy⟩ : ∃ y,N[off + p]? = some y:=⟨_,List.getElem?_eq_getElem (by omega)⟩
   obtain ⟨r,hr⟩:=(hc.out.perm hN) x (List.mem_of_getElem? hx) y (List.mem_of_getElem? hy)
   replace hr:=Hld.mk hr
   obtain ⟨z,hz⟩:=setE (l:=N) (i:=off + j) (j:=off + p) (e:=y) (by omega)
   replace hN:=Hld.mk hN
   by_cases hr0 : r < 0
   ·refine AW_seq fun K3 hK3=>?_
    repeat' (first
     |(with_reducible first|refine useK (by assumption) ?_|refine useK2 (by assumption) ?_|refine useX (by assumption) ?_|refine AW_seqk fun K hK=>?_|refine AW_block ?_)|(with_reducible refine AW_regionS rfl (by rw [hE];decide) ?_;simp [*])|with_reducible refine AW_region (by rw [hE];decide) ?_|((with_reducible show RK _ _ _ _ _ _);first|(refine RK_nilk ?_;simp [*])|(refine RK_stepk fun K' hK'=>?_;simp [*]))|with_reducible refine AW_drawq mixed (by rw [hE];decide) (by simp [newOK]) ?_|((with_reducible show RKQ _ _ _ _ _ _);first|refine RKQ_nilk ⟨by decide,?_⟩|(refine RKQ_stepk fun K' hK'=>?_;simp [*]))|((with_reducible first|refine AW_if fun X Y hX hY=>?_|refine AW_ret ?_|refine AW_skip ?_|refine AW_exit ?_);simp [*])|((first|refine acall_same (hr.out) ?_ ?_ ?_|refine call_same (hr.out) ?_ ?_ ?_);(focus (simp [*] <;> fail));(focus (simp [*] <;> fail));simp [*])|((first|refine acall_view (hr.out) ?_ ?_ ?_|refine call_view (hr.out) ?_ ?_ ?_);(focus (simp [*] <;> fail));(focus (simp [*] <;> fail));simp [*])|with_reducible refine And.intro ?_ ?_|omega|(refine imp1 fun h=>?_))
    refine hK3 _ ?_
    clear hK3
    repeat' (first
     |(with_reducible first|refine useK (by assumption) ?_|refine useK2 (by assumption) ?_|refine useX (by assumption) ?_|refine AW_seqk fun K hK=>?_|refine AW_block ?_)|(with_reducible refine AW_regionS rfl (by rw [hE];decide) ?_;simp [*])|with_reducible refine AW_region (by rw [hE];decide) ?_|((with_reducible show RK _ _ _ _ _ _);first|(refine RK_nilk ?_;simp [*])|(refine RK_stepk fun K' hK'=>?_;simp [*]))|with_reducible refine AW_drawq3 (by decide) mixed (by rw [hE];decide) (by simp [newOK]) ?_|((with_reducible show RKQ _ _ _ _ _ _);first|refine RKQ_nilk ⟨by decide,?_⟩|(refine RKQ_stepk fun K' hK'=>?_;simp [*]))|((with_reducible first|refine AW_if fun X Y hX hY=>?_|refine AW_ret ?_|refine AW_skip ?_|refine AW_exit ?_);simp [*])|((first|refine acall_same (hr.out) ?_ ?_ ?_|refine call_same (hr.out) ?_ ?_ ?_);(focus (simp [*] <;> fail));(focus (simp [*] <;> fail));simp [*])|((first|refine acall_view (hr.out) ?_ ?_ ?_|refine call_view (hr.out) ?_ ?_ ?_);(focus (simp [*] <;> fail));(focus (simp [*] <;> fail));simp [*])|with_reducible refine And.intro ?_ ?_|omega|(refine imp1 fun h=>?_))
    refine AW_DR mixed (by rw [hE];decide) ?_
    simp only [List.length_cons,List.length_nil,Nat.reduceAdd]
    (refine dT 0 hE fun K hK=>?_;simp [*];(repeat' (first|with_reducible refine And.intro ?_ ?_|omega));refine uD hK ?_;clear hK)
    (refine dT 1 hE fun K hK=>?_;simp [*];(repeat' (first|with_reducible refine And.intro ?_ ?_|omega));refine uD hK ?_;clear hK)
    (refine dT 2 hE fun K hK=>?_;simp [*];(repeat' (first|with_reducible refine And.intro ?_ ?_|omega));refine uD hK ?_;clear hK)
    (refine dT 3 hE fun K hK=>?_;simp [*];(repeat' (first|with_reducible refine And.intro ?_ ?_|omega));refine uD hK ?_;clear hK)
    (refine dT 4 hE fun K hK=>?_;simp [*];(repeat' (first|with_reducible refine And.intro ?_ ?_|omega));refine uD hK ?_;clear hK)
    (refine dT 5 hE fun K hK=>?_;simp [*];(repeat' (first|with_reducible refine And.intro ?_ ?_|omega));refine uD hK ?_;clear hK)
    (refine dT 6 hE fun K hK=>?_;simp [*];(repeat' (first|with_reducible refine And.intro ?_ ?_|omega));refine uD hK ?_;clear hK)
    (refine dT 7 hE fun K hK=>?_;simp [*];(repeat' (first|with_reducible refine And.intro ?_ ?_|omega));refine uD hK ?_;clear hK)
    (refine dT 8 hE fun K hK=>?_;simp [*];(repeat' (first|with_reducible refine And.intro ?_ ?_|omega));refine uD hK ?_;clear hK)
    (refine dT 10 hE fun K hK=>?_;simp [*];(repeat' (first|with_reducible refine And.intro ?_ ?_|omega));refine uD hK ?_;clear hK)
    (refine dT 11 hE fun K hK=>?_;simp [*];(repeat' (first|with_reducible refine And.intro ?_ ?_|omega));refine uD hK ?_;clear hK)
    (refine dT 12 hE fun K hK=>?_;simp [*];(repeat' (first|with_reducible refine And.intro ?_ ?_|omega));refine uD hK ?_;clear hK)
    (refine dS2 9 13 hE (fun K hK=>?_) (fun K hK=>?_) <;> simp [*] <;> (repeat' (first|with_reducible refine And.intro ?_ ?_|omega)) <;> refine uD hK ?_ <;> clear hK)
    ·(refine dS 13 hE fun K hK=>?_;simp [*];(repeat' (first|with_reducible refine And.intro ?_ ?_|omega));refine uD hK ?_;clear hK)
     (refine dS 14 hE fun K hK=>?_;simp [*];(repeat' (first|with_reducible refine And.intro ?_ ?_|omega));refine uD hK ?_;clear hK)
     (refine dS 15 hE fun K hK=>?_;simp [*];(repeat' (first|with_reducible refine And.intro ?_ ?_|omega));refine uD hK ?_;clear hK)
     (refine dS 16 hE fun K hK=>?_;simp [*];(repeat' (first|with_reducible refine And.intro ?_ ?_|omega));refine uD hK ?_;clear hK)
     (refine dS 17 hE fun K hK=>?_;simp [*];(repeat' (first|with_reducible refine And.intro ?_ ?_|omega));refine uD hK ?_;clear hK)
     refine DR_done (by decide +kernel) ?_
     simp
     repeat' (first
      |(with_reducible first|refine uK ?_|refine uX ?_|refine AW_seqk fun K hK=>?_|refine AW_block ?_)|((with_reducible first|refine rS hE ?_|refine RK_nilk ?_|refine RK_stepk fun K' hK'=>?_|refine AW_if fun X Y hX hY=>?_|refine AW_ret ?_|refine AW_skip ?_|refine AW_exit ?_);simp [*])|with_reducible refine rL hE ?_|with_reducible refine And.intro ?_ ?_|omega|(refine imp1 fun h=>?_))
     exact ⟨(p,swp N (off + j) (off + p)),⟨⟨(show a ≤ p by omega),(show p ≤ i by omega)⟩,(swp_perm (by omega) (by omega)).trans hN.out⟩,(show p < j by omega),by simp [swp,List.getD_eq_getElem?_getD,hx,hy]⟩
    ·(refine dS 9 hE fun K hK=>?_;simp [*];(repeat' (first|with_reducible refine And.intro ?_ ?_|omega));refine uD hK ?_;clear hK)
     (refine dS 14 hE fun K hK=>?_;simp [*];(repeat' (first|with_reducible refine And.intro ?_ ?_|omega));refine uD hK ?_;clear hK)
     (refine dS 15 hE fun K hK=>?_;simp [*];(repeat' (first|with_reducible refine And.intro ?_ ?_|omega));refine uD hK ?_;clear hK)
     (refine dS 16 hE fun K hK=>?_;simp [*];(repeat' (first|with_reducible refine And.intro ?_ ?_|omega));refine uD hK ?_;clear hK)
     (refine dS 17 hE fun K hK=>?_;simp [*];(repeat' (first|with_reducible refine And.intro ?_ ?_|omega));refine uD hK ?_;clear hK)
     refine DR_done (by decide +kernel) ?_
     simp
     repeat' (first
      |(with_reducible first|refine uK ?_|refine uX ?_|refine AW_seqk fun K hK=>?_|refine AW_block ?_)|((with_reducible first|refine rS hE ?_|refine RK_nilk ?_|refine RK_stepk fun K' hK'=>?_|refine AW_if fun X Y hX hY=>?_|refine AW_ret ?_|refine AW_skip ?_|refine AW_exit ?_);simp [*])|with_reducible refine rL hE ?_|with_reducible refine And.intro ?_ ?_|omega|(refine imp1 fun h=>?_))
     exact ⟨(p,swp N (off + j) (off + p)),⟨⟨(show a ≤ p by omega),(show p ≤ i by omega)⟩,(swp_perm (by omega) (by omega)).trans hN.out⟩,(show p < j by omega),by simp [swp,List.getD_eq_getElem?_getD,hx,hy]⟩
   ·repeat' (first
     |(with_reducible first|refine useK (by assumption) ?_|refine useK2 (by assumption) ?_|refine useX (by assumption) ?_|refine AW_seqk fun K hK=>?_|refine AW_block ?_)|(with_reducible refine AW_regionS rfl (by rw [hE];decide) ?_;simp [*])|with_reducible refine AW_region (by rw [hE];decide) ?_|((with_reducible show RK _ _ _ _ _ _);first|(refine RK_nilk ?_;simp [*])|(refine RK_stepk fun K' hK'=>?_;simp [*]))|with_reducible refine AW_drawq mixed (by rw [hE];decide) (by simp [newOK]) ?_|((with_reducible show RKQ _ _ _ _ _ _);first|refine RKQ_nilk ⟨by decide,?_⟩|(refine RKQ_stepk fun K' hK'=>?_;simp [*]))|((with_reducible first|refine AW_if fun X Y hX hY=>?_|refine AW_ret ?_|refine AW_skip ?_|refine AW_exit ?_);simp [*])|((first|refine acall_same (hr.out) ?_ ?_ ?_|refine call_same (hr.out) ?_ ?_ ?_);(focus (simp [*] <;> fail));(focus (simp [*] <;> fail));simp [*])|((first|refine acall_view (hr.out) ?_ ?_ ?_|refine call_view (hr.out) ?_ ?_ ?_);(focus (simp [*] <;> fail));(focus (simp [*] <;> fail));simp [*])|with_reducible refine And.intro ?_ ?_|omega|(refine imp1 fun h=>?_))
    exact ⟨(i + 1,N),⟨⟨(show a < i + 1 by omega),(show i + 1 ≤ b + 1 by omega)⟩,hN.out⟩,(show b + 1 - (i + 1) < b + 1 - i by omega),by simp⟩
  ·replace hN:=Hld.mk hN
   repeat' (first
    |(with_reducible first|refine useK (by assumption) ?_|refine useK2 (by assumption) ?_|refine useX (by assumption) ?_|refine AW_seqk fun K hK=>?_|refine AW_block ?_)|(with_reducible refine AW_regionS rfl (by rw [hE];decide) ?_;simp [*])|with_reducible refine AW_region (by rw [hE];decide) ?_|((with_reducible show RK _ _ _ _ _ _);first|(refine RK_nilk ?_;simp [*])|(refine RK_stepk fun K' hK'=>?_;simp [*]))|with_reducible refine AW_drawq mixed (by rw [hE];decide) (by simp [newOK]) ?_|((with_reducible show RKQ _ _ _ _ _ _);first|refine RKQ_nilk ⟨by decide,?_⟩|(refine RKQ_stepk fun K' hK'=>?_;simp [*]))|((with_reducible first|refine AW_if fun X Y hX hY=>?_|refine AW_ret ?_|refine AW_skip ?_|refine AW_exit ?_);simp [*])|with_reducible refine And.intro ?_ ?_|omega|(refine imp1 fun h=>?_))
   exact ⟨(i + 1,N),⟨⟨(show a < i + 1 by omega),(show i + 1 ≤ b + 1 by omega)⟩,hN.out⟩,(show b + 1 - (i + 1) < b + 1 - i by omega),by simp⟩
 ·replace hM:=Hld.mk hM
  repeat' (first
   |(with_reducible first|refine uK ?_|refine uX ?_|refine AW_seqk fun K hK=>?_|refine AW_block ?_)|((with_reducible first|refine rS hE ?_|refine RK_nilk ?_|refine RK_stepk fun K' hK'=>?_|refine AW_if fun X Y hX hY=>?_|refine AW_ret ?_|refine AW_skip ?_|refine AW_exit ?_);simp [*])|with_reducible refine rL hE ?_|with_reducible refine And.intro ?_ ?_|omega|(refine imp1 fun h=>?_))
  exact ⟨rfl,M,hM.out,rfl⟩
end Go.Proofs.Ytlkijcflfnnbaaa
end
section
namespace Go.Proofs.Ytlkijcflfnnbaaa
open Go.Am
theorem mid {i j : Nat} (hj : i + j < 4611686018427387904) : IntKind.i64.wrap ((IntKind.u64.wrap ((i : Int) + (j : Int))).fdiv 2) = (((i + j) / 2 : Nat) : Int):=by
 have h1 : IntKind.u64.wrap ((i : Int) + (j : Int)) = ((i + j : Nat) : Int):=by
  simp only [IntKind.wrap,bits_u64,sg_u64]
  have : ((i : Int) + (j : Int)) = ((i + j : Nat) : Int):=by omega
  rw [this]
  simp
  omega
 rw [h1]
 have h2 : Int.fdiv ((i + j : Nat) : Int) 2 = (((i + j) / 2 : Nat) : Int):=by
  rw [Int.fdiv_eq_ediv_of_nonneg _ (by omega)]
  omega
 rw [h2,IntKind.wrap_i64]
 omega
theorem m_sym1 (L : List En) (off n a m b k : Nat) (hm1 : a < m) (hm2 : m ≤ a + 1) (hc : CmpL k L) (hL : off + n ≤ L.length) (h1 : m < b) (h2 : b ≤ n) (hn : L.length < 2305843009213693952) :
 MSpec Try.prog 83 [.own 1000000 7 off n,iA a,iA m,iA b,byA k] [(1000000,.arr 51 7 (L.map encE))] (PermS L):=by
 refine MSpec_of Try.func83 rfl rfl (Nat.le_of_ble_eq_true rfl) (Nat.le_of_ble_eq_true rfl) ?_
 intro E hE
 have h0 : (m : Int) - a = 1:=by omega
 replace hc:=Hld.mk hc
 repeat' (first
  |(with_reducible first|refine uK ?_|refine uX ?_|refine AW_seqk fun K hK=>?_|refine AW_block ?_)|((with_reducible first|refine rS hE ?_|refine RK_nilk ?_|refine RK_stepk fun K' hK'=>?_|refine AW_if fun X Y hX hY=>?_|refine AW_ret ?_|refine AW_skip ?_|refine AW_exit ?_);simp [*])|with_reducible refine rL hE ?_|with_reducible refine And.intro ?_ ?_|omega|(refine imp1 fun h=>?_))
 refine AW_loopk (G:=Nat × Nat) (fun g=>⟨[(10,iA g.1),(11,iA g.2),(0,.own 1000000 7 off n),(1,iA a),(2,iA m),(3,iA b),(4,byA k)],[(1000000,.arr 51 7 (L.map encE))]⟩) (fun g=>m ≤ g.1 ∧ g.1 ≤ g.2 ∧ g.2 ≤ b) (fun g=>g.2 - g.1) (m,b) ⟨(show m ≤ m by omega),(show m ≤ b by omega),(show b ≤ b by omega)⟩ (by simp) ?_
 rintro ⟨i,j⟩ ⟨hi1,hi2,hi3⟩ K hK
 replace hi1 : m ≤ i:=hi1
 replace hi2 : i ≤ j:=hi2
 replace hi3 : j ≤ b:=hi3
 by_cases hlt : i < j
 ·have hmid:=mid (i:=i) (j:=j) (by omega)
  obtain ⟨h,hh⟩ : ∃ h,h = (i + j) / 2:=⟨_,rfl⟩
  rw [← hh] at hmid
  obtain ⟨x,hx⟩ : ∃ x,L[off + h]? = some x:=⟨_,List.getElem?_eq_getElem (by omega)⟩
  obtain ⟨y,hy⟩ : ∃ y,L[off + a]? = some y:=⟨_,List.getElem?_eq_getElem (by omega)⟩
  obtain ⟨r,hr⟩:=hc.out x (List.mem_of_getElem? hx) y (List.mem_of_getElem? hy)
  replace hr:=Hld.mk hr
  have hh1 : i ≤ h:=by omega
  have hh2 : h < j:=by omega
  clear hh
  by_cases hr0 : r < 0
  ·repeat' (first
    |(with_reducible first|refine useK (by assumption) ?_|refine useK2 (by assumption) ?_|refine useX (by assumption) ?_|refine AW_seqk fun K hK=>?_|refine AW_block ?_)|(with_reducible refine AW_regionS rfl (by rw [hE];decide) ?_;simp [*])|with_reducible refine AW_region (by rw [hE];decide) ?_|((with_reducible show RK _ _ _ _ _ _);first|(refine RK_nilk ?_;simp [*])|(refine RK_stepk fun K' hK'=>?_;simp [*]))|with_reducible refine AW_drawq mixed (by rw [hE];decide) (by simp [newOK]) ?_|((with_reducible show RKQ _ _ _ _ _ _);first|refine RKQ_nilk ⟨by decide,?_⟩|(refine RKQ_stepk fun K' hK'=>?_;simp [*]))|((with_reducible first|refine AW_if fun X Y hX hY=>?_|refine AW_ret ?_|refine AW_skip ?_|refine AW_exit ?_);simp [*])|((first|refine acall_same (hr.out) ?_ ?_ ?_|refine call_same (hr.out) ?_ ?_ ?_);(focus (simp [*] <;> fail));(focus (simp [*] <;> fail));simp [*])|((first|refine acall_view (hr.out) ?_ ?_ ?_|refine call_view (hr.out) ?_ ?_ ?_);(focus (simp [*] <;> fail));(focus (simp [*] <;> fail));simp [*])|with_reducible refine And.intro ?_ ?_|omega|(refine imp1 fun h=>?_))
   exact ⟨(h + 1,j),⟨(show m ≤ h + 1 by omega),(show h + 1 ≤ j by omega),(show j ≤ b by omega)⟩,(show j - (h + 1) < j - i by omega),by simp⟩
  ·repeat' (first
    |(with_reducible first|refine useK (by assumption) ?_|refine useK2 (by assumption) ?_|refine useX (by assumption) ?_|refine AW_seqk fun K hK=>?_|refine AW_block ?_)|(with_reducible refine AW_regionS rfl (by rw [hE];decide) ?_;simp [*])|with_reducible refine AW_region (by rw [hE];decide) ?_|((with_reducible show RK _ _ _ _ _ _);first|(refine RK_nilk ?_;simp [*])|(refine RK_stepk fun K' hK'=>?_;simp [*]))|with_reducible refine AW_drawq mixed (by rw [hE];decide) (by simp [newOK]) ?_|((with_reducible show RKQ _ _ _ _ _ _);first|refine RKQ_nilk ⟨by decide,?_⟩|(refine RKQ_stepk fun K' hK'=>?_;simp [*]))|((with_reducible first|refine AW_if fun X Y hX hY=>?_|refine AW_ret ?_|refine AW_skip ?_|refine AW_exit ?_);simp [*])|((first|refine acall_same (hr.out) ?_ ?_ ?_|refine call_same (hr.out) ?_ ?_ ?_);(focus (simp [*] <;> fail));(focus (simp [*] <;> fail));simp [*])|((first|refine acall_view (hr.out) ?_ ?_ ?_|refine call_view (hr.out) ?_ ?_ ?_);(focus (simp [*] <;> fail));(focus (simp [*] <;> fail));simp [*])|with_reducible refine And.intro ?_ ?_|omega|(refine imp1 fun h=>?_))
   exact ⟨(i,h),⟨(show m ≤ i by omega),(show i ≤ h by omega),(show h ≤ b by omega)⟩,(show h - i < j - i by omega),by simp⟩
 ·repeat' (first
   |(with_reducible first|refine uK ?_|refine uX ?_|refine AW_seqk fun K hK=>?_|refine AW_block ?_)|((with_reducible first|refine rS hE ?_|refine RK_nilk ?_|refine RK_stepk fun K' hK'=>?_|refine AW_if fun X Y hX hY=>?_|refine AW_ret ?_|refine AW_skip ?_|refine AW_exit ?_);simp [*])|with_reducible refine rL hE ?_|with_reducible refine And.intro ?_ ?_|omega|(refine imp1 fun h=>?_))
  obtain ⟨i1,hi1'⟩ : ∃ i1 : Nat,(i : Int) - 1 = i1:=⟨i - 1,by omega⟩
  refine AW_loopk (G:=Nat × List En) (fun g=>⟨[(13,iA g.1),(10,iA i),(0,.own 1000000 7 off n)],[(1000000,.arr 51 7 (g.2.map encE))]⟩) (fun g=>(a ≤ g.1 ∧ g.1 ≤ i1) ∧ g.2.Perm L) (fun g=>i1 - g.1) (a,L) ⟨⟨(show a ≤ a by omega),(show a ≤ i1 by omega)⟩,List.Perm.refl _⟩ (by simp) ?_
  rintro ⟨q,N⟩ ⟨⟨hq1,hq2⟩,hN⟩ K2 hK2
  replace hq1 : a ≤ q:=hq1
  replace hq2 : q ≤ i1:=hq2
  replace hN : N.Perm L:=hN
  have hnl:=hN.length_eq
  by_cases hqi : q < i1
  ·obtain ⟨x,hx⟩ : ∃ x,N[off + q]? = some x:=⟨_,List.getElem?_eq_getElem (by omega)⟩
   obtain ⟨y,hy⟩ : ∃ y,N[off + (q + 1)]? = some y:=⟨_,List.getElem?_eq_getElem (by omega)⟩
   obtain ⟨z,hz⟩:=setE (l:=N) (i:=off + q) (j:=off + (q + 1)) (e:=y) (by omega)
   have hq3 : ((q : Int) + 1).toNat = q + 1:=by omega
   replace hN:=Hld.mk hN
   repeat' (first
    |(with_reducible first|refine uK ?_|refine uX ?_|refine AW_seqk fun K hK=>?_|refine AW_block ?_)|((with_reducible first|refine rS hE ?_|refine RK_nilk ?_|refine RK_stepk fun K' hK'=>?_|refine AW_if fun X Y hX hY=>?_|refine AW_ret ?_|refine AW_skip ?_|refine AW_exit ?_);simp [*])|with_reducible refine rL hE ?_|with_reducible refine And.intro ?_ ?_|omega|(refine imp1 fun h=>?_))
   refine AW_DR mixed (by rw [hE];decide) ?_
   simp only [List.length_cons,List.length_nil,Nat.reduceAdd]
   (refine dT 0 hE fun K hK=>?_;simp [*];(repeat' (first|with_reducible refine And.intro ?_ ?_|omega));refine uD hK ?_;clear hK)
   (refine dT 1 hE fun K hK=>?_;simp [*];(repeat' (first|with_reducible refine And.intro ?_ ?_|omega));refine uD hK ?_;clear hK)
   (refine dT 2 hE fun K hK=>?_;simp [*];(repeat' (first|with_reducible refine And.intro ?_ ?_|omega));refine uD hK ?_;clear hK)
   (refine dT 3 hE fun K hK=>?_;simp [*];(repeat' (first|with_reducible refine And.intro ?_ ?_|omega));refine uD hK ?_;clear hK)
   (refine dT 4 hE fun K hK=>?_;simp [*];(repeat' (first|with_reducible refine And.intro ?_ ?_|omega));refine uD hK ?_;clear hK)
   (refine dT 5 hE fun K hK=>?_;simp [*];(repeat' (first|with_reducible refine And.intro ?_ ?_|omega));refine uD hK ?_;clear hK)
   (refine dT 6 hE fun K hK=>?_;simp [*];(repeat' (first|with_reducible refine And.intro ?_ ?_|omega));refine uD hK ?_;clear hK)
   (refine dT 7 hE fun K hK=>?_;simp [*];(repeat' (first|with_reducible refine And.intro ?_ ?_|omega));refine uD hK ?_;clear hK)
   (refine dT 8 hE fun K hK=>?_;simp [*];(repeat' (first|with_reducible refine And.intro ?_ ?_|omega));refine uD hK ?_;clear hK)
   (refine dT 10 hE fun K hK=>?_;simp [*];(repeat' (first|with_reducible refine And.intro ?_ ?_|omega));refine uD hK ?_;clear hK)
   (refine dT 11 hE fun K hK=>?_;simp [*];(repeat' (first|with_reducible refine And.intro ?_ ?_|omega));refine uD hK ?_;clear hK)
   (refine dT 12 hE fun K hK=>?_;simp [*];(repeat' (first|with_reducible refine And.intro ?_ ?_|omega));refine uD hK ?_;clear hK)
   (refine dS2 9 13 hE (fun K hK=>?_) (fun K hK=>?_) <;> simp [*] <;> (repeat' (first|with_reducible refine And.intro ?_ ?_|omega)) <;> refine uD hK ?_ <;> clear hK)
   ·(refine dS 13 hE fun K hK=>?_;simp [*];(repeat' (first|with_reducible refine And.intro ?_ ?_|omega));refine uD hK ?_;clear hK)
    (refine dS 14 hE fun K hK=>?_;simp [*];(repeat' (first|with_reducible refine And.intro ?_ ?_|omega));refine uD hK ?_;clear hK)
    (refine dS 15 hE fun K hK=>?_;simp [*];(repeat' (first|with_reducible refine And.intro ?_ ?_|omega));refine uD hK ?_;clear hK)
    (refine dS 16 hE fun K hK=>?_;simp [*];(repeat' (first|with_reducible refine And.intro ?_ ?_|omega));refine uD hK ?_;clear hK)
    (refine dS 17 hE fun K hK=>?_;simp [*];(repeat' (first|with_reducible refine And.intro ?_ ?_|omega));refine uD hK ?_;clear hK)
    refine DR_done (by decide +kernel) ?_
    simp
    repeat' (first
     |(with_reducible first|refine uK ?_|refine uX ?_|refine AW_seqk fun K hK=>?_|refine AW_block ?_)|((with_reducible first|refine rS hE ?_|refine RK_nilk ?_|refine RK_stepk fun K' hK'=>?_|refine AW_if fun X Y hX hY=>?_|refine AW_ret ?_|refine AW_skip ?_|refine AW_exit ?_);simp [*])|with_reducible refine rL hE ?_|with_reducible refine And.intro ?_ ?_|omega|(refine imp1 fun h=>?_))
    exact ⟨(q + 1,swp N (off + q) (off + (q + 1))),⟨⟨(show a ≤ q + 1 by omega),(show q + 1 ≤ i1 by omega)⟩,(swp_perm (by omega) (by omega)).trans hN.out⟩,(show i1 - (q + 1) < i1 - q by omega),by simp [swp,List.getD_eq_getElem?_getD,hx,hy]⟩
   ·(refine dS 9 hE fun K hK=>?_;simp [*];(repeat' (first|with_reducible refine And.intro ?_ ?_|omega));refine uD hK ?_;clear hK)
    (refine dS 14 hE fun K hK=>?_;simp [*];(repeat' (first|with_reducible refine And.intro ?_ ?_|omega));refine uD hK ?_;clear hK)
    (refine dS 15 hE fun K hK=>?_;simp [*];(repeat' (first|with_reducible refine And.intro ?_ ?_|omega));refine uD hK ?_;clear hK)
    (refine dS 16 hE fun K hK=>?_;simp [*];(repeat' (first|with_reducible refine And.intro ?_ ?_|omega));refine uD hK ?_;clear hK)
    (refine dS 17 hE fun K hK=>?_;simp [*];(repeat' (first|with_reducible refine And.intro ?_ ?_|omega));refine uD hK ?_;clear hK)
    refine DR_done (by decide +kernel) ?_
    simp
    repeat' (first
     |(with_reducible first|refine uK ?_|refine uX ?_|refine AW_seqk fun K hK=>?_|refine AW_block ?_)|((with_reducible first|refine rS hE ?_|refine RK_nilk ?_|refine RK_stepk fun K' hK'=>?_|refine AW_if fun X Y hX hY=>?_|refine AW_ret ?_|refine AW_skip ?_|refine AW_exit ?_);simp [*])|with_reducible refine rL hE ?_|with_reducible refine And.intro ?_ ?_|omega|(refine imp1 fun h=>?_))
    exact ⟨(q + 1,swp N (off + q) (off + (q + 1))),⟨⟨(show a ≤ q + 1 by omega),(show q + 1 ≤ i1 by omega)⟩,(swp_perm (by omega) (by omega)).trans hN.out⟩,(show i1 - (q + 1) < i1 - q by omega),by simp [swp,List.getD_eq_getElem?_getD,hx,hy]⟩
  ·replace hN:=Hld.mk hN
   repeat' (first
    |(with_reducible first|refine uK ?_|refine uX ?_|refine AW_seqk fun K hK=>?_|refine AW_block ?_)|((with_reducible first|refine rS hE ?_|refine RK_nilk ?_|refine RK_stepk fun K' hK'=>?_|refine AW_if fun X Y hX hY=>?_|refine AW_ret ?_|refine AW_skip ?_|refine AW_exit ?_);simp [*])|with_reducible refine rL hE ?_|with_reducible refine And.intro ?_ ?_|omega|(refine imp1 fun h=>?_))
   exact ⟨rfl,N,hN.out,rfl⟩
end Go.Proofs.Ytlkijcflfnnbaaa
end
section
namespace Go.Proofs.Ytlkijcflfnnbaaa
open Go.Am
theorem m_sym2 (L : List En) (off n a m b k : Nat) (hm1 : a + 1 < m) (hm2 : b ≤ m + 1) (hc : CmpL k L) (hL : off + n ≤ L.length) (h1 : m < b) (h2 : b ≤ n) (hn : L.length < 2305843009213693952) :
 MSpec Try.prog 83 [.own 1000000 7 off n,iA a,iA m,iA b,byA k] [(1000000,.arr 51 7 (L.map encE))] (PermS L):=by
 refine MSpec_of Try.func83 rfl rfl (Nat.le_of_ble_eq_true rfl) (Nat.le_of_ble_eq_true rfl) ?_
 intro E hE
 have h0 : ¬ (m : Int) - a = 1:=by omega
 have h0' : (b : Int) - m = 1:=by omega
 replace hc:=Hld.mk hc
 repeat' (first
  |(with_reducible first|refine uK ?_|refine uX ?_|refine AW_seqk fun K hK=>?_|refine AW_block ?_)|((with_reducible first|refine rS hE ?_|refine RK_nilk ?_|refine RK_stepk fun K' hK'=>?_|refine AW_if fun X Y hX hY=>?_|refine AW_ret ?_|refine AW_skip ?_|refine AW_exit ?_);simp [*])|with_reducible refine rL hE ?_|with_reducible refine And.intro ?_ ?_|omega|(refine imp1 fun h=>?_))
 refine AW_loopk (G:=Nat × Nat) (fun g=>⟨[(14,iA g.1),(15,iA g.2),(0,.own 1000000 7 off n),(1,iA a),(2,iA m),(3,iA b),(4,byA k)],[(1000000,.arr 51 7 (L.map encE))]⟩) (fun g=>a ≤ g.1 ∧ g.1 ≤ g.2 ∧ g.2 ≤ m) (fun g=>g.2 - g.1) (a,m) ⟨(show a ≤ a by omega),(show a ≤ m by omega),(show m ≤ m by omega)⟩ (by simp) ?_
 rintro ⟨i,j⟩ ⟨hi1,hi2,hi3⟩ K hK
 replace hi1 : a ≤ i:=hi1
 replace hi2 : i ≤ j:=hi2
 replace hi3 : j ≤ m:=hi3
 by_cases hlt : i < j
 ·have hmid:=mid (i:=i) (j:=j) (by omega)
  obtain ⟨h,hh⟩ : ∃ h,h = (i + j) / 2:=⟨_,rfl⟩
  rw [← hh] at hmid
  obtain ⟨x,hx⟩ : ∃ x,L[off + m]? = some x:=⟨_,List.getElem?_eq_getElem (by omega)⟩
  obtain ⟨y,hy⟩ : ∃ y,L[off + h]? = some y:=⟨_,List.getElem?_eq_getElem (by omega)⟩
  obtain ⟨r,hr⟩:=hc.out x (List.mem_of_getElem? hx) y (List.mem_of_getElem? hy)
  replace hr:=Hld.mk hr
  have hh1 : i ≤ h:=by omega
  have hh2 : h < j:=by omega
  clear hh
  by_cases hr0 : r < 0
  ·repeat' (first
    |(with_reducible first|refine useK (by assumption) ?_|refine useK2 (by assumption) ?_|refine useX (by assumption) ?_|refine AW_seqk fun K hK=>?_|refine AW_block ?_)|(with_reducible refine AW_regionS rfl (by rw [hE];decide) ?_;simp [*])|with_reducible refine AW_region (by rw [hE];decide) ?_|((with_reducible show RK _ _ _ _ _ _);first|(refine RK_nilk ?_;simp [*])|(refine RK_stepk fun K' hK'=>?_;simp [*]))|with_reducible refine AW_drawq mixed (by rw [hE];decide) (by simp [newOK]) ?_|((with_reducible show RKQ _ _ _ _ _ _);first|refine RKQ_nilk ⟨by decide,?_⟩|(refine RKQ_stepk fun K' hK'=>?_;simp [*]))|((with_reducible first|refine AW_if fun X Y hX hY=>?_|refine AW_ret ?_|refine AW_skip ?_|refine AW_exit ?_);simp [*])|((first|refine acall_same (hr.out) ?_ ?_ ?_|refine call_same (hr.out) ?_ ?_ ?_);(focus (simp [*] <;> fail));(focus (simp [*] <;> fail));simp [*])|((first|refine acall_view (hr.out) ?_ ?_ ?_|refine call_view (hr.out) ?_ ?_ ?_);(focus (simp [*] <;> fail));(focus (simp [*] <;> fail));simp [*])|with_reducible refine And.intro ?_ ?_|omega|(refine imp1 fun h=>?_))
   exact ⟨(i,h),⟨(show a ≤ i by omega),(show i ≤ h by omega),(show h ≤ m by omega)⟩,(show h - i < j - i by omega),by simp⟩
  ·repeat' (first
    |(with_reducible first|refine useK (by assumption) ?_|refine useK2 (by assumption) ?_|refine useX (by assumption) ?_|refine AW_seqk fun K hK=>?_|refine AW_block ?_)|(with_reducible refine AW_regionS rfl (by rw [hE];decide) ?_;simp [*])|with_reducible refine AW_region (by rw [hE];decide) ?_|((with_reducible show RK _ _ _ _ _ _);first|(refine RK_nilk ?_;simp [*])|(refine RK_stepk fun K' hK'=>?_;simp [*]))|with_reducible refine AW_drawq mixed (by rw [hE];decide) (by simp [newOK]) ?_|((with_reducible show RKQ _ _ _ _ _ _);first|refine RKQ_nilk ⟨by decide,?_⟩|(refine RKQ_stepk fun K' hK'=>?_;simp [*]))|((with_reducible first|refine AW_if fun X Y hX hY=>?_|refine AW_ret ?_|refine AW_skip ?_|refine AW_exit ?_);simp [*])|((first|refine acall_same (hr.out) ?_ ?_ ?_|refine call_same (hr.out) ?_ ?_ ?_);(focus (simp [*] <;> fail));(focus (simp [*] <;> fail));simp [*])|((first|refine acall_view (hr.out) ?_ ?_ ?_|refine call_view (hr.out) ?_ ?_ ?_);(focus (simp [*] <;> fail));(focus (simp [*] <;> fail));simp [*])|with_reducible refine And.intro ?_ ?_|omega|(refine imp1 fun h=>?_))
   exact ⟨(h + 1,j),⟨(show a ≤ h + 1 by omega),(show h + 1 ≤ j by omega),(show j ≤ m by omega)⟩,(show j - (h + 1) < j - i by omega),by simp⟩
 ·repeat' (first
   |(with_reducible first|refine uK ?_|refine uX ?_|refine AW_seqk fun K hK=>?_|refine AW_block ?_)|((with_reducible first|refine rS hE ?_|refine RK_nilk ?_|refine RK_stepk fun K' hK'=>?_|refine AW_if fun X Y hX hY=>?_|refine AW_ret ?_|refine AW_skip ?_|refine AW_exit ?_);simp [*])|with_reducible refine rL hE ?_|with_reducible refine And.intro ?_ ?_|omega|(refine imp1 fun h=>?_))
  refine AW_loopk (G:=Nat × List En) (fun g=>⟨[(17,iA g.1),(14,iA i),(0,.own 1000000 7 off n)],[(1000000,.arr 51 7 (g.2.map encE))]⟩) (fun g=>(i ≤ g.1 ∧ g.1 ≤ m) ∧ g.2.Perm L) (fun g=>g.1) (m,L) ⟨⟨(show i ≤ m by omega),(show m ≤ m by omega)⟩,List.Perm.refl _⟩ (by simp) ?_
  rintro ⟨q,N⟩ ⟨⟨hq1,hq2⟩,hN⟩ K2 hK2
  replace hq1 : i ≤ q:=hq1
  replace hq2 : q ≤ m:=hq2
  replace hN : N.Perm L:=hN
  have hnl:=hN.length_eq
  by_cases hqi : i < q
  ·obtain ⟨p,hp⟩ : ∃ p : Nat,(q : Int) - 1 = p:=⟨q - 1,by omega⟩
   obtain ⟨x,hx⟩ : ∃ x,N[off + q]? = some x:=⟨_,List.getElem?_eq_getElem (by omega)⟩
   obtain ⟨y,hy⟩ : ∃ y,N[off + p]? = some y:=⟨_,List.getElem?_eq_getElem (by omega)⟩
   obtain ⟨z,hz⟩:=setE (l:=N) (i:=off + q) (j:=off + p) (e:=y) (by omega)
   replace hN:=Hld.mk hN
   repeat' (first
    |(with_reducible first|refine uK ?_|refine uX ?_|refine AW_seqk fun K hK=>?_|refine AW_block ?_)|((with_reducible first|refine rS hE ?_|refine RK_nilk ?_|refine RK_stepk fun K' hK'=>?_|refine AW_if fun X Y hX hY=>?_|refine AW_ret ?_|refine AW_skip ?_|refine AW_exit ?_);simp [*])|with_reducible refine rL hE ?_|with_reducible refine And.intro ?_ ?_|omega|(refine imp1 fun h=>?_))
   refine AW_DR mixed (by rw [hE];decide) ?_
   simp only [List.length_cons,List.length_nil,Nat.reduceAdd]
   (refine dT 0 hE fun K hK=>?_;simp [*];(repeat' (first|with_reducible refine And.intro ?_ ?_|omega));refine uD hK ?_;clear hK)
   (refine dT 1 hE fun K hK=>?_;simp [*];(repeat' (first|with_reducible refine And.intro ?_ ?_|omega));refine uD hK ?_;clear hK)
   (refine dT 2 hE fun K hK=>?_;simp [*];(repeat' (first|with_reducible refine And.intro ?_ ?_|omega));refine uD hK ?_;clear hK)
   (refine dT 3 hE fun K hK=>?_;simp [*];(repeat' (first|with_reducible refine And.intro ?_ ?_|omega));refine uD hK ?_;clear hK)
   (refine dT 4 hE fun K hK=>?_;simp [*];(repeat' (first|with_reducible refine And.intro ?_ ?_|omega));refine uD hK ?_;clear hK)
   (refine dT 5 hE fun K hK=>?_;simp [*];(repeat' (first|with_reducible refine And.intro ?_ ?_|omega));refine uD hK ?_;clear hK)
   (refine dT 6 hE fun K hK=>?_;simp [*];(repeat' (first|with_reducible refine And.intro ?_ ?_|omega));refine uD hK ?_;clear hK)
   (refine dT 7 hE fun K hK=>?_;simp [*];(repeat' (first|with_reducible refine And.intro ?_ ?_|omega));refine uD hK ?_;clear hK)
   (refine dT 8 hE fun K hK=>?_;simp [*];(repeat' (first|with_reducible refine And.intro ?_ ?_|omega));refine uD hK ?_;clear hK)
   (refine dT 10 hE fun K hK=>?_;simp [*];(repeat' (first|with_reducible refine And.intro ?_ ?_|omega));refine uD hK ?_;clear hK)
   (refine dT 11 hE fun K hK=>?_;simp [*];(repeat' (first|with_reducible refine And.intro ?_ ?_|omega));refine uD hK ?_;clear hK)
   (refine dT 12 hE fun K hK=>?_;simp [*];(repeat' (first|with_reducible refine And.intro ?_ ?_|omega));refine uD hK ?_;clear hK)
   (refine dS2 9 13 hE (fun K hK=>?_) (fun K hK=>?_) <;> simp [*] <;> (repeat' (first|with_reducible refine And.intro ?_ ?_|omega)) <;> refine uD hK ?_ <;> clear hK)
   ·(refine dS 13 hE fun K hK=>?_;simp [*];(repeat' (first|with_reducible refine And.intro ?_ ?_|omega));refine uD hK ?_;clear hK)
    (refine dS 14 hE fun K hK=>?_;simp [*];(repeat' (first|with_reducible refine And.intro ?_ ?_|omega));refine uD hK ?_;clear hK)
    (refine dS 15 hE fun K hK=>?_;simp [*];(repeat' (first|with_reducible refine And.intro ?_ ?_|omega));refine uD hK ?_;clear hK)
    (refine dS 16 hE fun K hK=>?_;simp [*];(repeat' (first|with_reducible refine And.intro ?_ ?_|omega));refine uD hK ?_;clear hK)
    (refine dS 17 hE fun K hK=>?_;simp [*];(repeat' (first|with_reducible refine And.intro ?_ ?_|omega));refine uD hK ?_;clear hK)
    refine DR_done (by decide +kernel) ?_
    simp
    repeat' (first
     |(with_reducible first|refine uK ?_|refine uX ?_|refine AW_seqk fun K hK=>?_|refine AW_block ?_)|((with_reducible first|refine rS hE ?_|refine RK_nilk ?_|refine RK_stepk fun K' hK'=>?_|refine AW_if fun X Y hX hY=>?_|refine AW_ret ?_|refine AW_skip ?_|refine AW_exit ?_);simp [*])|with_reducible refine rL hE ?_|with_reducible refine And.intro ?_ ?_|omega|(refine imp1 fun h=>?_))
    exact ⟨(p,swp N (off + q) (off + p)),⟨⟨(show i ≤ p by omega),(show p ≤ m by omega)⟩,(swp_perm (by omega) (by omega)).trans hN.out⟩,(show p < q by omega),by simp [swp,List.getD_eq_getElem?_getD,hx,hy]⟩
   ·(refine dS 9 hE fun K hK=>?_;simp [*];(repeat' (first|with_reducible refine And.intro ?_ ?_|omega));refine uD hK ?_;clear hK)
    (refine dS 14 hE fun K hK=>?_;simp [*];(repeat' (first|with_reducible refine And.intro ?_ ?_|omega));refine uD hK ?_;clear hK)
    (refine dS 15 hE fun K hK=>?_;simp [*];(repeat' (first|with_reducible refine And.intro ?_ ?_|omega));refine uD hK ?_;clear hK)
    (refine dS 16 hE fun K hK=>?_;simp [*];(repeat' (first|with_reducible refine And.intro ?_ ?_|omega));refine uD hK ?_;clear hK)
    (refine dS 17 hE fun K hK=>?_;simp [*];(repeat' (first|with_reducible refine And.intro ?_ ?_|omega));refine uD hK ?_;clear hK)
    refine DR_done (by decide +kernel) ?_
    simp
    repeat' (first
     |(with_reducible first|refine uK ?_|refine uX ?_|refine AW_seqk fun K hK=>?_|refine AW_block ?_)|((with_reducible first|refine rS hE ?_|refine RK_nilk ?_|refine RK_stepk fun K' hK'=>?_|refine AW_if fun X Y hX hY=>?_|refine AW_ret ?_|refine AW_skip ?_|refine AW_exit ?_);simp [*])|with_reducible refine rL hE ?_|with_reducible refine And.intro ?_ ?_|omega|(refine imp1 fun h=>?_))
    exact ⟨(p,swp N (off + q) (off + p)),⟨⟨(show i ≤ p by omega),(show p ≤ m by omega)⟩,(swp_perm (by omega) (by omega)).trans hN.out⟩,(show p < q by omega),by simp [swp,List.getD_eq_getElem?_getD,hx,hy]⟩
  ·replace hN:=Hld.mk hN
   repeat' (first
    |(with_reducible first|refine uK ?_|refine uX ?_|refine AW_seqk fun K hK=>?_|refine AW_block ?_)|((with_reducible first|refine rS hE ?_|refine RK_nilk ?_|refine RK_stepk fun K' hK'=>?_|refine AW_if fun X Y hX hY=>?_|refine AW_ret ?_|refine AW_skip ?_|refine AW_exit ?_);simp [*])|with_reducible refine rL hE ?_|with_reducible refine And.intro ?_ ?_|omega|(refine imp1 fun h=>?_))
   exact ⟨rfl,N,hN.out,rfl⟩
theorem m_symG (off n k : Nat) (L : List En) (a m b : Nat) (hm1 : a + 1 < m) (hm2 : m + 1 < b) (hc : CmpL k L) (hL : off + n ≤ L.length) (h2 : b ≤ n) (hn : L.length < 2305843009213693952)
 (ih : ∀ (M : List En) (a' m' b' : Nat),M.Perm L → a' < m' → m' < b' → b' ≤ n → b' - a' < b - a → MSpec Try.prog 83 [.own 1000000 7 off n,iA a',iA m',iA b',byA k] [(1000000,.arr 51 7 (M.map encE))] (PermS M)) :
 MSpec Try.prog 83 [.own 1000000 7 off n,iA a,iA m,iA b,byA k] [(1000000,.arr 51 7 (L.map encE))] (PermS L):=by
 replace ih:=Hld.mk ih
 replace hc:=Hld.mk hc
 refine MSpec_of Try.func83 rfl rfl (Nat.le_of_ble_eq_true rfl) (Nat.le_of_ble_eq_true rfl) ?_
 intro E hE
 have h0 : ¬ (m : Int) - a = 1:=by omega
 have h0' : ¬ (b : Int) - m = 1:=by omega
 have hmid:=mid (i:=a) (j:=b) (by omega)
 obtain ⟨d,hd⟩ : ∃ d,d = (a + b) / 2:=⟨_,rfl⟩
 rw [← hd] at hmid
 have hd1 : a + b ≤ 2 * d + 1:=by omega
 have hd2 : 2 * d ≤ a + b:=by omega
 clear hd
 obtain ⟨s0,r0,hs0,hsb,hsr,hb1,hb2⟩ : ∃ s0 r0 : Nat,((d < m ∧ (d : Int) + m - b = s0 ∧ r0 = d) ∨ (m ≤ d ∧ s0 = a ∧ r0 = m)) ∧ (d + m ≤ b + s0 ∧ a ≤ s0 ∧ r0 ≤ d + m ∧ r0 ≤ n) ∧ s0 ≤ r0 ∧ (∀ c,s0 ≤ c → c < r0 → d + m ≤ b + c) ∧ (∀ c,s0 ≤ c → c < r0 → c < d + m):=by
  by_cases h : d < m
  ·exact ⟨d + m - b,d,.inl ⟨h,by omega,rfl⟩,⟨by omega,by omega,by omega,by omega⟩,by omega,fun c _ _=>by omega,fun c _ _=>by omega⟩
  ·exact ⟨a,m,.inr ⟨by omega,rfl,rfl⟩,⟨by omega,by omega,by omega,by omega⟩,by omega,fun c _ _=>by omega,fun c _ _=>by omega⟩
 obtain ⟨nn,hnn⟩ : ∃ nn : Nat,(d : Int) + m = nn:=⟨d + m,by omega⟩
 obtain ⟨p,hp⟩ : ∃ p : Nat,(nn : Int) - 1 = p:=⟨nn - 1,by omega⟩
 replace hb1:=Hld.mk hb1
 replace hb2:=Hld.mk hb2
 replace hs0:=Hld.mk hs0
 refine AW_seqt ⟨[(0,.own 1000000 7 off n),(1,iA a),(2,iA m),(3,iA b),(4,byA k)],[(1000000,.arr 51 7 (L.map encE))]⟩ ?_ (by
  intro K hK
  repeat' (first
   |(with_reducible first|refine uK ?_|refine uX ?_|refine AW_seqk fun K hK=>?_|refine AW_block ?_)|((with_reducible first|refine rS hE ?_|refine RK_nilk ?_|refine RK_stepk fun K' hK'=>?_|refine AW_if fun X Y hX hY=>?_|refine AW_ret ?_|refine AW_skip ?_|refine AW_exit ?_);simp [*])|with_reducible refine rL hE ?_|with_reducible refine And.intro ?_ ?_|omega|(refine imp1 fun h=>?_))
  all_goals simp)
 refine AW_seqt ⟨[(0,.own 1000000 7 off n),(1,iA a),(2,iA m),(3,iA b),(4,byA k)],[(1000000,.arr 51 7 (L.map encE))]⟩ ?_ (by
  intro K hK
  repeat' (first
   |(with_reducible first|refine uK ?_|refine uX ?_|refine AW_seqk fun K hK=>?_|refine AW_block ?_)|((with_reducible first|refine rS hE ?_|refine RK_nilk ?_|refine RK_stepk fun K' hK'=>?_|refine AW_if fun X Y hX hY=>?_|refine AW_ret ?_|refine AW_skip ?_|refine AW_exit ?_);simp [*])|with_reducible refine rL hE ?_|with_reducible refine And.intro ?_ ?_|omega|(refine imp1 fun h=>?_))
  all_goals simp)
 refine AW_seqt ⟨[(18,iA d),(0,.own 1000000 7 off n),(1,iA a),(2,iA m),(3,iA b),(4,byA k)],[(1000000,.arr 51 7 (L.map encE))]⟩ ?_ (by
  intro K hK
  repeat' (first
   |(with_reducible first|refine uK ?_|refine uX ?_|refine AW_seqk fun K hK=>?_|refine AW_block ?_)|((with_reducible first|refine rS hE ?_|refine RK_nilk ?_|refine RK_stepk fun K' hK'=>?_|refine AW_if fun X Y hX hY=>?_|refine AW_ret ?_|refine AW_skip ?_|refine AW_exit ?_);simp [*])|with_reducible refine rL hE ?_|with_reducible refine And.intro ?_ ?_|omega|(refine imp1 fun h=>?_))
  all_goals simp)
 refine AW_seqt ⟨[(19,iA nn),(18,iA d),(0,.own 1000000 7 off n),(1,iA a),(2,iA m),(3,iA b),(4,byA k)],[(1000000,.arr 51 7 (L.map encE))]⟩ ?_ (by
  intro K hK
  repeat' (first
   |(with_reducible first|refine uK ?_|refine uX ?_|refine AW_seqk fun K hK=>?_|refine AW_block ?_)|((with_reducible first|refine rS hE ?_|refine RK_nilk ?_|refine RK_stepk fun K' hK'=>?_|refine AW_if fun X Y hX hY=>?_|refine AW_ret ?_|refine AW_skip ?_|refine AW_exit ?_);simp [*])|with_reducible refine rL hE ?_|with_reducible refine And.intro ?_ ?_|omega|(refine imp1 fun h=>?_))
  all_goals simp)
 refine AW_seqt ⟨[(19,iA nn),(18,iA d),(0,.own 1000000 7 off n),(1,iA a),(2,iA m),(3,iA b),(4,byA k)],[(1000000,.arr 51 7 (L.map encE))]⟩ ?_ (by
  intro K hK
  repeat' (first
   |(with_reducible first|refine uK ?_|refine uX ?_|refine AW_seqk fun K hK=>?_|refine AW_block ?_)|((with_reducible first|refine rS hE ?_|refine RK_nilk ?_|refine RK_stepk fun K' hK'=>?_|refine AW_if fun X Y hX hY=>?_|refine AW_ret ?_|refine AW_skip ?_|refine AW_exit ?_);simp [*])|with_reducible refine rL hE ?_|with_reducible refine And.intro ?_ ?_|omega|(refine imp1 fun h=>?_))
  all_goals simp)
 refine AW_seqt ⟨[(20,iA s0),(21,iA r0),(19,iA nn),(18,iA d),(0,.own 1000000 7 off n),(1,iA a),(2,iA m),(3,iA b),(4,byA k)],[(1000000,.arr 51 7 (L.map encE))]⟩ ?_ (by
  intro K hK
  rcases hs0.out with ⟨h,hse,rfl⟩|⟨h,rfl,rfl⟩
  ·have hse' : (nn : Int) - b = s0:=by omega
   clear hse
   repeat' (first
    |(with_reducible first|refine uK ?_|refine uX ?_|refine AW_seqk fun K hK=>?_|refine AW_block ?_)|((with_reducible first|refine rS hE ?_|refine RK_nilk ?_|refine RK_stepk fun K' hK'=>?_|refine AW_if fun X Y hX hY=>?_|refine AW_ret ?_|refine AW_skip ?_|refine AW_exit ?_);simp [*])|with_reducible refine rL hE ?_|with_reducible refine And.intro ?_ ?_|omega|(refine imp1 fun h=>?_))
   all_goals simp
  ·have h' : ¬ d < s0 + 0 ∨ True:=.inr trivial
   repeat' (first
    |(with_reducible first|refine uK ?_|refine uX ?_|refine AW_seqk fun K hK=>?_|refine AW_block ?_)|((with_reducible first|refine rS hE ?_|refine RK_nilk ?_|refine RK_stepk fun K' hK'=>?_|refine AW_if fun X Y hX hY=>?_|refine AW_ret ?_|refine AW_skip ?_|refine AW_exit ?_);simp [*])|with_reducible refine rL hE ?_|with_reducible refine And.intro ?_ ?_|omega|(refine imp1 fun h=>?_))
   all_goals simp)
 refine AW_seqt ⟨[(22,iA p),(20,iA s0),(21,iA r0),(19,iA nn),(18,iA d),(0,.own 1000000 7 off n),(1,iA a),(2,iA m),(3,iA b),(4,byA k)],[(1000000,.arr 51 7 (L.map encE))]⟩ ?_ (by
  intro K hK
  repeat' (first
   |(with_reducible first|refine uK ?_|refine uX ?_|refine AW_seqk fun K hK=>?_|refine AW_block ?_)|((with_reducible first|refine rS hE ?_|refine RK_nilk ?_|refine RK_stepk fun K' hK'=>?_|refine AW_if fun X Y hX hY=>?_|refine AW_ret ?_|refine AW_skip ?_|refine AW_exit ?_);simp [*])|with_reducible refine rL hE ?_|with_reducible refine And.intro ?_ ?_|omega|(refine imp1 fun h=>?_))
  all_goals simp)
 refine AW_seqE (G:=Nat) (fun i=>⟨[(20,iA i),(19,iA nn),(18,iA d),(0,.own 1000000 7 off n),(1,iA a),(2,iA m),(3,iA b),(4,byA k)],[(1000000,.arr 51 7 (L.map encE))]⟩) (fun i=>s0 ≤ i ∧ i ≤ r0) ?_ ?_
 ·rintro i ⟨hi1,hi2⟩
  obtain ⟨e,he⟩ : ∃ e : Nat,(nn : Int) - i = e:=⟨nn - i,by omega⟩
  refine AW_seqt ⟨[(24,iA e),(20,iA i),(18,iA d),(0,.own 1000000 7 off n),(1,iA a),(2,iA m),(3,iA b),(4,byA k)],[(1000000,.arr 51 7 (L.map encE))]⟩ ?_ (by
   intro K hK
   repeat' (first
    |(with_reducible first|refine uK ?_|refine uX ?_|refine AW_seqk fun K hK=>?_|refine AW_block ?_)|((with_reducible first|refine rS hE ?_|refine RK_nilk ?_|refine RK_stepk fun K' hK'=>?_|refine AW_if fun X Y hX hY=>?_|refine AW_ret ?_|refine AW_skip ?_|refine AW_exit ?_);simp [*])|with_reducible refine rL hE ?_|with_reducible refine And.intro ?_ ?_|omega|(refine imp1 fun h=>?_))
   all_goals simp)
  have hsz : d < b ∧ a < d ∧ e ≤ b ∧ a ≤ i:=by omega
  clear hmid he hp hnn hs0 hb1 hb2
  refine AW_seqE (G:=List En) (fun M=>⟨[(24,iA e),(20,iA i),(18,iA d),(0,.own 1000000 7 off n),(1,iA a),(2,iA m),(3,iA b),(4,byA k)],[(1000000,.arr 51 7 (M.map encE))]⟩) (fun M=>M.Perm L) ?_ ?_
  ·intro M hM
   have hml:=hM.length_eq
   refine AW_seqE (G:=List En) (fun M=>⟨[(24,iA e),(20,iA i),(18,iA d),(0,.own 1000000 7 off n),(1,iA a),(2,iA m),(3,iA b),(4,byA k)],[(1000000,.arr 51 7 (M.map encE))]⟩) (fun M=>M.Perm L) ?_ ?_
   ·intro N hN
    have hnl:=hN.length_eq
    replace hM:=Hld.mk hM
    replace hN:=Hld.mk hN
    by_cases c1 : d < e
    ·by_cases c2 : e < b
     ·repeat' (first
       |(with_reducible first|refine uK ?_|refine uX ?_|refine AW_seqk fun K hK=>?_|refine AW_block ?_)|((with_reducible first|refine rS hE ?_|refine RK_nilk ?_|refine RK_stepk fun K' hK'=>?_|refine AW_if fun X Y hX hY=>?_|refine AW_ret ?_|refine AW_skip ?_|refine AW_exit ?_);simp [*])|with_reducible refine rL hE ?_|with_reducible refine And.intro ?_ ?_|omega|(refine imp1 fun h=>?_))
      refine acall_perm (ih.out N d e b hN.out c1 c2 h2 (by omega)) (by simp) (by simp) fun N' hN'=>?_
      simp
      replace hN':=Hld.mk (hN'.trans hN.out)
      repeat' (first
       |(with_reducible first|refine uK ?_|refine uX ?_|refine AW_seqk fun K hK=>?_|refine AW_block ?_)|((with_reducible first|refine rS hE ?_|refine RK_nilk ?_|refine RK_stepk fun K' hK'=>?_|refine AW_if fun X Y hX hY=>?_|refine AW_ret ?_|refine AW_skip ?_|refine AW_exit ?_);simp [*])|with_reducible refine rL hE ?_|with_reducible refine And.intro ?_ ?_|omega|(refine imp1 fun h=>?_))
      exact ⟨rfl,N',hN'.out,rfl⟩
     ·repeat' (first
       |(with_reducible first|refine uK ?_|refine uX ?_|refine AW_seqk fun K hK=>?_|refine AW_block ?_)|((with_reducible first|refine rS hE ?_|refine RK_nilk ?_|refine RK_stepk fun K' hK'=>?_|refine AW_if fun X Y hX hY=>?_|refine AW_ret ?_|refine AW_skip ?_|refine AW_exit ?_);simp [*])|with_reducible refine rL hE ?_|with_reducible refine And.intro ?_ ?_|omega|(refine imp1 fun h=>?_))
      exact ⟨rfl,N,hN.out,rfl⟩
    ·repeat' (first
      |(with_reducible first|refine uK ?_|refine uX ?_|refine AW_seqk fun K hK=>?_|refine AW_block ?_)|((with_reducible first|refine rS hE ?_|refine RK_nilk ?_|refine RK_stepk fun K' hK'=>?_|refine AW_if fun X Y hX hY=>?_|refine AW_ret ?_|refine AW_skip ?_|refine AW_exit ?_);simp [*])|with_reducible refine rL hE ?_|with_reducible refine And.intro ?_ ?_|omega|(refine imp1 fun h=>?_))
     exact ⟨rfl,N,hN.out,rfl⟩
   ·intro K hK
    replace hM:=Hld.mk hM
    by_cases c1 : a < i
    ·by_cases c2 : i < d
     ·repeat' (first
       |(with_reducible first|refine uK ?_|refine uX ?_|refine AW_seqk fun K hK=>?_|refine AW_block ?_)|((with_reducible first|refine rS hE ?_|refine RK_nilk ?_|refine RK_stepk fun K' hK'=>?_|refine AW_if fun X Y hX hY=>?_|refine AW_ret ?_|refine AW_skip ?_|refine AW_exit ?_);simp [*])|with_reducible refine rL hE ?_|with_reducible refine And.intro ?_ ?_|omega|(refine imp1 fun h=>?_))
      refine acall_perm (ih.out M a i d hM.out c1 c2 (by omega) (by omega)) (by simp) (by simp) fun N' hN'=>?_
      simp
      replace hN':=Hld.mk (hN'.trans hM.out)
      repeat' (first
       |(with_reducible first|refine uK ?_|refine uX ?_|refine AW_seqk fun K hK=>?_|refine AW_block ?_)|((with_reducible first|refine rS hE ?_|refine RK_nilk ?_|refine RK_stepk fun K' hK'=>?_|refine AW_if fun X Y hX hY=>?_|refine AW_ret ?_|refine AW_skip ?_|refine AW_exit ?_);simp [*])|with_reducible refine rL hE ?_|with_reducible refine And.intro ?_ ?_|omega|(refine imp1 fun h=>?_))
      exact ⟨N',hN'.out,by simp⟩
     ·repeat' (first
       |(with_reducible first|refine uK ?_|refine uX ?_|refine AW_seqk fun K hK=>?_|refine AW_block ?_)|((with_reducible first|refine rS hE ?_|refine RK_nilk ?_|refine RK_stepk fun K' hK'=>?_|refine AW_if fun X Y hX hY=>?_|refine AW_ret ?_|refine AW_skip ?_|refine AW_exit ?_);simp [*])|with_reducible refine rL hE ?_|with_reducible refine And.intro ?_ ?_|omega|(refine imp1 fun h=>?_))
      exact ⟨M,hM.out,by simp⟩
    ·repeat' (first
      |(with_reducible first|refine uK ?_|refine uX ?_|refine AW_seqk fun K hK=>?_|refine AW_block ?_)|((with_reducible first|refine rS hE ?_|refine RK_nilk ?_|refine RK_stepk fun K' hK'=>?_|refine AW_if fun X Y hX hY=>?_|refine AW_ret ?_|refine AW_skip ?_|refine AW_exit ?_);simp [*])|with_reducible refine rL hE ?_|with_reducible refine And.intro ?_ ?_|omega|(refine imp1 fun h=>?_))
     exact ⟨M,hM.out,by simp⟩
  ·intro K hK
   by_cases c1 : i < m
   ·by_cases c2 : m < e
    ·repeat' (first
      |(with_reducible first|refine uK ?_|refine uX ?_|refine AW_seqk fun K hK=>?_|refine AW_block ?_)|((with_reducible first|refine rS hE ?_|refine RK_nilk ?_|refine RK_stepk fun K' hK'=>?_|refine AW_if fun X Y hX hY=>?_|refine AW_ret ?_|refine AW_skip ?_|refine AW_exit ?_);simp [*])|with_reducible refine rL hE ?_|with_reducible refine And.intro ?_ ?_|omega|(refine imp1 fun h=>?_))
     refine acall_perm (m_rot L off n i m e (byA k) (by simp [idfL,AV.idf]) hL c1 c2 (by omega) (by omega)) (by simp) (by simp) fun N' hN'=>?_
     simp
     replace hN':=Hld.mk hN'
     repeat' (first
      |(with_reducible first|refine uK ?_|refine uX ?_|refine AW_seqk fun K hK=>?_|refine AW_block ?_)|((with_reducible first|refine rS hE ?_|refine RK_nilk ?_|refine RK_stepk fun K' hK'=>?_|refine AW_if fun X Y hX hY=>?_|refine AW_ret ?_|refine AW_skip ?_|refine AW_exit ?_);simp [*])|with_reducible refine rL hE ?_|with_reducible refine And.intro ?_ ?_|omega|(refine imp1 fun h=>?_))
     exact ⟨N',hN'.out,by simp⟩
    ·repeat' (first
      |(with_reducible first|refine uK ?_|refine uX ?_|refine AW_seqk fun K hK=>?_|refine AW_block ?_)|((with_reducible first|refine rS hE ?_|refine RK_nilk ?_|refine RK_stepk fun K' hK'=>?_|refine AW_if fun X Y hX hY=>?_|refine AW_ret ?_|refine AW_skip ?_|refine AW_exit ?_);simp [*])|with_reducible refine rL hE ?_|with_reducible refine And.intro ?_ ?_|omega|(refine imp1 fun h=>?_))
     exact ⟨L,List.Perm.refl _,by simp⟩
   ·repeat' (first
     |(with_reducible first|refine uK ?_|refine uX ?_|refine AW_seqk fun K hK=>?_|refine AW_block ?_)|((with_reducible first|refine rS hE ?_|refine RK_nilk ?_|refine RK_stepk fun K' hK'=>?_|refine AW_if fun X Y hX hY=>?_|refine AW_ret ?_|refine AW_skip ?_|refine AW_exit ?_);simp [*])|with_reducible refine rL hE ?_|with_reducible refine And.intro ?_ ?_|omega|(refine imp1 fun h=>?_))
    exact ⟨L,List.Perm.refl _,by simp⟩
 ·intro K hK
  clear hs0
  repeat' (first
   |(with_reducible first|refine uK ?_|refine uX ?_|refine AW_seqk fun K hK=>?_|refine AW_block ?_)|((with_reducible first|refine rS hE ?_|refine RK_nilk ?_|refine RK_stepk fun K' hK'=>?_|refine AW_if fun X Y hX hY=>?_|refine AW_ret ?_|refine AW_skip ?_|refine AW_exit ?_);simp [*])|with_reducible refine rL hE ?_|with_reducible refine And.intro ?_ ?_|omega|(refine imp1 fun h=>?_))
  refine AW_loopk (G:=Nat × Nat) (fun g=>⟨[(20,iA g.1),(21,iA g.2),(22,iA p),(19,iA nn),(18,iA d),(0,.own 1000000 7 off n),(1,iA a),(2,iA m),(3,iA b),(4,byA k)],[(1000000,.arr 51 7 (L.map encE))]⟩) (fun g=>s0 ≤ g.1 ∧ g.1 ≤ g.2 ∧ g.2 ≤ r0) (fun g=>g.2 - g.1) (s0,r0) ⟨(show s0 ≤ s0 by omega),hsr,(show r0 ≤ r0 by omega)⟩ (by simp) ?_
  rintro ⟨i,j⟩ ⟨hi1,hi2,hi3⟩ K2 hK2
  replace hi1 : s0 ≤ i:=hi1
  replace hi2 : i ≤ j:=hi2
  replace hi3 : j ≤ r0:=hi3
  by_cases hlt : i < j
  ·have hmid2:=mid (i:=i) (j:=j) (by omega)
   obtain ⟨c,hc'⟩ : ∃ c,c = (i + j) / 2:=⟨_,rfl⟩
   rw [← hc'] at hmid2
   have hc1 : i ≤ c:=by omega
   have hc2 : c < j:=by omega
   clear hc'
   have g1:=hb1.out c (by omega) (by omega)
   have g2:=hb2.out c (by omega) (by omega)
   obtain ⟨q,hq⟩ : ∃ q : Nat,(p : Int) - c = q:=⟨p - c,by omega⟩
   obtain ⟨x,hx⟩ : ∃ x,L[off + q]? = some x:=⟨_,List.getElem?_eq_getElem (by omega)⟩
   obtain ⟨y,hy⟩ : ∃ y,L[off + c]? = some y:=⟨_,List.getElem?_eq_getElem (by omega)⟩
   obtain ⟨r,hr⟩:=hc.out x (List.mem_of_getElem? hx) y (List.mem_of_getElem? hy)
   replace hr:=Hld.mk hr
   by_cases hr0 : r < 0
   ·repeat' (first
     |(with_reducible first|refine useK (by assumption) ?_|refine useK2 (by assumption) ?_|refine useX (by assumption) ?_|refine AW_seqk fun K hK=>?_|refine AW_block ?_)|(with_reducible refine AW_regionS rfl (by rw [hE];decide) ?_;simp [*])|with_reducible refine AW_region (by rw [hE];decide) ?_|((with_reducible show RK _ _ _ _ _ _);first|(refine RK_nilk ?_;simp [*])|(refine RK_stepk fun K' hK'=>?_;simp [*]))|with_reducible refine AW_drawq mixed (by rw [hE];decide) (by simp [newOK]) ?_|((with_reducible show RKQ _ _ _ _ _ _);first|refine RKQ_nilk ⟨by decide,?_⟩|(refine RKQ_stepk fun K' hK'=>?_;simp [*]))|((with_reducible first|refine AW_if fun X Y hX hY=>?_|refine AW_ret ?_|refine AW_skip ?_|refine AW_exit ?_);simp [*])|((first|refine acall_same (hr.out) ?_ ?_ ?_|refine call_same (hr.out) ?_ ?_ ?_);(focus (simp [*] <;> fail));(focus (simp [*] <;> fail));simp [*])|((first|refine acall_view (hr.out) ?_ ?_ ?_|refine call_view (hr.out) ?_ ?_ ?_);(focus (simp [*] <;> fail));(focus (simp [*] <;> fail));simp [*])|with_reducible refine And.intro ?_ ?_|omega|(refine imp1 fun h=>?_))
    exact ⟨(i,c),⟨(show s0 ≤ i by omega),(show i ≤ c by omega),(show c ≤ r0 by omega)⟩,(show c - i < j - i by omega),by simp⟩
   ·repeat' (first
     |(with_reducible first|refine useK (by assumption) ?_|refine useK2 (by assumption) ?_|refine useX (by assumption) ?_|refine AW_seqk fun K hK=>?_|refine AW_block ?_)|(with_reducible refine AW_regionS rfl (by rw [hE];decide) ?_;simp [*])|with_reducible refine AW_region (by rw [hE];decide) ?_|((with_reducible show RK _ _ _ _ _ _);first|(refine RK_nilk ?_;simp [*])|(refine RK_stepk fun K' hK'=>?_;simp [*]))|with_reducible refine AW_drawq mixed (by rw [hE];decide) (by simp [newOK]) ?_|((with_reducible show RKQ _ _ _ _ _ _);first|refine RKQ_nilk ⟨by decide,?_⟩|(refine RKQ_stepk fun K' hK'=>?_;simp [*]))|((with_reducible first|refine AW_if fun X Y hX hY=>?_|refine AW_ret ?_|refine AW_skip ?_|refine AW_exit ?_);simp [*])|((first|refine acall_same (hr.out) ?_ ?_ ?_|refine call_same (hr.out) ?_ ?_ ?_);(focus (simp [*] <;> fail));(focus (simp [*] <;> fail));simp [*])|((first|refine acall_view (hr.out) ?_ ?_ ?_|refine call_view (hr.out) ?_ ?_ ?_);(focus (simp [*] <;> fail));(focus (simp [*] <;> fail));simp [*])|with_reducible refine And.intro ?_ ?_|omega|(refine imp1 fun h=>?_))
    exact ⟨(c + 1,j),⟨(show s0 ≤ c + 1 by omega),(show c + 1 ≤ j by omega),(show j ≤ r0 by omega)⟩,(show j - (c + 1) < j - i by omega),by simp⟩
  ·repeat' (first
    |(with_reducible first|refine uK ?_|refine uX ?_|refine AW_seqk fun K hK=>?_|refine AW_block ?_)|((with_reducible first|refine rS hE ?_|refine RK_nilk ?_|refine RK_stepk fun K' hK'=>?_|refine AW_if fun X Y hX hY=>?_|refine AW_ret ?_|refine AW_skip ?_|refine AW_exit ?_);simp [*])|with_reducible refine rL hE ?_|with_reducible refine And.intro ?_ ?_|omega|(refine imp1 fun h=>?_))
   exact ⟨i,⟨by omega,by omega⟩,by simp⟩
end Go.Proofs.Ytlkijcflfnnbaaa
end
section
namespace Go.Proofs.Ytlkijcflfnnbaaa
open Go.Am
theorem m_sym (off n k : Nat) : ∀ (N : Nat) (L : List En) (a m b : Nat),b - a ≤ N → a < m → m < b → b ≤ n → CmpL k L → off + n ≤ L.length → L.length < 2305843009213693952 →
 MSpec Try.prog 83 [.own 1000000 7 off n,iA a,iA m,iA b,byA k] [(1000000,.arr 51 7 (L.map encE))] (PermS L)
 |0,L,a,m,b,hN,h1,h2,_,_,_,_=>by omega
 |N + 1,L,a,m,b,hN,h1,h2,h3,hc,hL,hn=>by
  by_cases c1 : m ≤ a + 1
  ·exact m_sym1 L off n a m b k h1 c1 hc hL h2 h3 hn
  ·by_cases c2 : b ≤ m + 1
   ·exact m_sym2 L off n a m b k (by omega) c2 hc hL h2 h3 hn
   ·exact m_symG off n k L a m b (by omega) (by omega) hc hL h3 hn fun M a' m' b' hM g1 g2 g3 g4 =>
     m_sym off n k N M a' m' b' (by omega) g1 g2 g3 (hc.perm hM) (by rw [hM.length_eq];exact hL) (by rw [hM.length_eq];exact hn)
theorem m_stable (off n k : Nat) (L : List En) (hc : CmpL k L) (hL : off + n ≤ L.length) (hn : L.length < 1152921504606846976) :
 MSpec Try.prog 76 [.own 1000000 7 off n,iA n,byA k] [(1000000,.arr 51 7 (L.map encE))] (PermS L):=by
 refine MSpec_of Try.func76 rfl rfl (Nat.le_of_ble_eq_true rfl) (Nat.le_of_ble_eq_true rfl) ?_
 intro E hE
 replace hc:=Hld.mk hc
 refine AW_seqt ⟨[(6,iA 20),(0,.own 1000000 7 off n),(1,iA n),(2,byA k)],[(1000000,.arr 51 7 (L.map encE))]⟩ ?_ (by
  intro K hK
  repeat' (first
   |(with_reducible first|refine uK ?_|refine uX ?_|refine AW_seqk fun K hK=>?_|refine AW_block ?_)|((with_reducible first|refine rS hE ?_|refine RK_nilk ?_|refine RK_stepk fun K' hK'=>?_|refine AW_if fun X Y hX hY=>?_|refine AW_ret ?_|refine AW_skip ?_|refine AW_exit ?_);simp [*])|with_reducible refine rL hE ?_|with_reducible refine And.intro ?_ ?_|omega|(refine imp1 fun h=>?_))
  all_goals simp)
 refine AW_seqt ⟨[(7,iA 0),(8,iA 20),(6,iA 20),(0,.own 1000000 7 off n),(1,iA n),(2,byA k)],[(1000000,.arr 51 7 (L.map encE))]⟩ ?_ (by
  intro K hK
  repeat' (first
   |(with_reducible first|refine uK ?_|refine uX ?_|refine AW_seqk fun K hK=>?_|refine AW_block ?_)|((with_reducible first|refine rS hE ?_|refine RK_nilk ?_|refine RK_stepk fun K' hK'=>?_|refine AW_if fun X Y hX hY=>?_|refine AW_ret ?_|refine AW_skip ?_|refine AW_exit ?_);simp [*])|with_reducible refine rL hE ?_|with_reducible refine And.intro ?_ ?_|omega|(refine imp1 fun h=>?_))
  all_goals simp)
 refine AW_seqE (G:=Nat × List En) (fun g=>⟨[(7,iA g.1),(6,iA 20),(0,.own 1000000 7 off n),(1,iA n),(2,byA k)],[(1000000,.arr 51 7 (g.2.map encE))]⟩) (fun g=>g.1 ≤ n ∧ g.2.Perm L) ?_ ?_
 ·rintro ⟨a,M⟩ ⟨ha,hM⟩
  replace ha : a ≤ n:=ha
  replace hM : M.Perm L:=hM
  have hml:=hM.length_eq
  refine AW_seqE (G:=List En) (fun M=>⟨[(6,iA 20),(0,.own 1000000 7 off n),(1,iA n),(2,byA k)],[(1000000,.arr 51 7 (M.map encE))]⟩) (fun M=>M.Perm L) ?_ ?_
  ·intro N hN
   clear hml hM ha
   clear M
   repeat' (first
    |(with_reducible first|refine uK ?_|refine uX ?_|refine AW_seqk fun K hK=>?_|refine AW_block ?_)|((with_reducible first|refine rS hE ?_|refine RK_nilk ?_|refine RK_stepk fun K' hK'=>?_|refine AW_if fun X Y hX hY=>?_|refine AW_ret ?_|refine AW_skip ?_|refine AW_exit ?_);simp [*])|with_reducible refine rL hE ?_|with_reducible refine And.intro ?_ ?_|omega|(refine imp1 fun h=>?_))
   refine AW_loopk (G:=Nat × List En) (fun g=>⟨[(6,iA g.1),(0,.own 1000000 7 off n),(1,iA n),(2,byA k)],[(1000000,.arr 51 7 (g.2.map encE))]⟩) (fun g=>(0 < g.1 ∧ (g.1 < n → g.1 < 1152921504606846976)) ∧ g.2.Perm L) (fun g=>n - g.1) (20,N) ⟨⟨(show 0 < 20 by omega),(show 20 < n → 20 < 1152921504606846976 by omega)⟩,hN⟩ (by simp) ?_
   clear hN
   rintro ⟨bs,M⟩ ⟨⟨hb1,hb2⟩,hM⟩ K hK
   replace hb1 : 0 < bs:=hb1
   replace hb2 : bs < n → bs < 1152921504606846976:=hb2
   replace hM : M.Perm L:=hM
   by_cases hlt : bs < n
   ·replace hb2:=hb2 hlt
    replace hM:=Hld.mk hM
    repeat' (first
     |(with_reducible first|refine uK ?_|refine uX ?_|refine AW_seqk fun K hK=>?_|refine AW_block ?_)|((with_reducible first|refine rS hE ?_|refine RK_nilk ?_|refine RK_stepk fun K' hK'=>?_|refine AW_if fun X Y hX hY=>?_|refine AW_ret ?_|refine AW_skip ?_|refine AW_exit ?_);simp [*])|with_reducible refine rL hE ?_|with_reducible refine And.intro ?_ ?_|omega|(refine imp1 fun h=>?_))
    refine AW_loopk (G:=Nat × List En) (fun g=>⟨[(7,iA g.1),(8,iA ((g.1 + 2 * bs : Nat) : Int)),(6,iA bs),(0,.own 1000000 7 off n),(1,iA n),(2,byA k)],[(1000000,.arr 51 7 (g.2.map encE))]⟩) (fun g=>g.1 ≤ n ∧ g.2.Perm L) (fun g=>n - g.1) (0,M) ⟨(show 0 ≤ n by omega),hM.out⟩ (by simp) ?_
    clear hM
    rintro ⟨a,M⟩ ⟨ha,hM⟩ K2 hK2
    replace ha : a ≤ n:=ha
    replace hM : M.Perm L:=hM
    have hml:=hM.length_eq
    obtain ⟨b,hb⟩ : ∃ b : Nat,b = a + 2 * bs:=⟨_,rfl⟩
    have hbI : (((a + 2 * bs : Nat)) : Int) = b:=by omega
    obtain ⟨m,hm⟩ : ∃ m : Nat,(a : Int) + bs = m:=⟨a + bs,by omega⟩
    have hb':=Hld.mk hb
    clear hb
    by_cases hbn : b ≤ n
    ·have hb0:=hb'.out
     obtain ⟨b2,hb2'⟩ : ∃ b2 : Nat,(b : Int) + 2 * bs = b2:=⟨b + 2 * bs,by omega⟩
     have hms:=Hld.mk (m_sym off n k n M a m b (by omega) (by omega) (by omega) hbn (hc.out.perm hM) (by omega) (by omega))
     clear hb0
     replace hM:=Hld.mk hM
     simp only [hbI]
     repeat' (first
      |(with_reducible first|refine uK ?_|refine uX ?_|refine AW_seqk fun K hK=>?_|refine AW_block ?_)|((with_reducible first|refine rS hE ?_|refine RK_nilk ?_|refine RK_stepk fun K' hK'=>?_|refine AW_if fun X Y hX hY=>?_|refine AW_ret ?_|refine AW_skip ?_|refine AW_exit ?_);simp [*])|with_reducible refine rL hE ?_|with_reducible refine And.intro ?_ ?_|omega|(refine imp1 fun h=>?_))
     refine acall_perm hms.out (by simp) (by simp) fun N' hN'=>?_
     simp
     replace hN':=Hld.mk (hN'.trans hM.out)
     repeat' (first
      |(with_reducible first|refine uK ?_|refine uX ?_|refine AW_seqk fun K hK=>?_|refine AW_block ?_)|((with_reducible first|refine rS hE ?_|refine RK_nilk ?_|refine RK_stepk fun K' hK'=>?_|refine AW_if fun X Y hX hY=>?_|refine AW_ret ?_|refine AW_skip ?_|refine AW_exit ?_);simp [*])|with_reducible refine rL hE ?_|with_reducible refine And.intro ?_ ?_|omega|(refine imp1 fun h=>?_))
     have hb0:=hb'.out
     exact ⟨(b,N'),⟨hbn,hN'.out⟩,(show n - b < n - a by omega),by simp;omega⟩
    ·simp only [hbI]
     by_cases hmn : m < n
     ·have hms:=Hld.mk (m_sym off n k n M a m n (by omega) (by omega) hmn (by omega) (hc.out.perm hM) (by omega) (by omega))
      replace hM:=Hld.mk hM
      repeat' (first
       |(with_reducible first|refine uK ?_|refine uX ?_|refine AW_seqk fun K hK=>?_|refine AW_block ?_)|((with_reducible first|refine rS hE ?_|refine RK_nilk ?_|refine RK_stepk fun K' hK'=>?_|refine AW_if fun X Y hX hY=>?_|refine AW_ret ?_|refine AW_skip ?_|refine AW_exit ?_);simp [*])|with_reducible refine rL hE ?_|with_reducible refine And.intro ?_ ?_|omega|(refine imp1 fun h=>?_))
      refine acall_perm hms.out (by simp) (by simp) fun N' hN'=>?_
      simp
      replace hN':=Hld.mk (hN'.trans hM.out)
      obtain ⟨c,hc2⟩ : ∃ c : Nat,(bs : Int) * 2 = c:=⟨bs * 2,by omega⟩
      repeat' (first
       |(with_reducible first|refine uK ?_|refine uX ?_|refine AW_seqk fun K hK=>?_|refine AW_block ?_)|((with_reducible first|refine rS hE ?_|refine RK_nilk ?_|refine RK_stepk fun K' hK'=>?_|refine AW_if fun X Y hX hY=>?_|refine AW_ret ?_|refine AW_skip ?_|refine AW_exit ?_);simp [*])|with_reducible refine rL hE ?_|with_reducible refine And.intro ?_ ?_|omega|(refine imp1 fun h=>?_))
      exact ⟨(c,N'),⟨⟨(show 0 < c by omega),(show c < n → c < 1152921504606846976 by omega)⟩,hN'.out⟩,(show n - c < n - bs by omega),by simp⟩
     ·replace hM:=Hld.mk hM
      obtain ⟨c,hc2⟩ : ∃ c : Nat,(bs : Int) * 2 = c:=⟨bs * 2,by omega⟩
      repeat' (first
       |(with_reducible first|refine uK ?_|refine uX ?_|refine AW_seqk fun K hK=>?_|refine AW_block ?_)|((with_reducible first|refine rS hE ?_|refine RK_nilk ?_|refine RK_stepk fun K' hK'=>?_|refine AW_if fun X Y hX hY=>?_|refine AW_ret ?_|refine AW_skip ?_|refine AW_exit ?_);simp [*])|with_reducible refine rL hE ?_|with_reducible refine And.intro ?_ ?_|omega|(refine imp1 fun h=>?_))
      exact ⟨(c,M),⟨⟨(show 0 < c by omega),(show c < n → c < 1152921504606846976 by omega)⟩,hM.out⟩,(show n - c < n - bs by omega),by simp⟩
   ·replace hM:=Hld.mk hM
    clear hb2
    repeat' (first
     |(with_reducible first|refine uK ?_|refine uX ?_|refine AW_seqk fun K hK=>?_|refine AW_block ?_)|((with_reducible first|refine rS hE ?_|refine RK_nilk ?_|refine RK_stepk fun K' hK'=>?_|refine AW_if fun X Y hX hY=>?_|refine AW_ret ?_|refine AW_skip ?_|refine AW_exit ?_);simp [*])|with_reducible refine rL hE ?_|with_reducible refine And.intro ?_ ?_|omega|(refine imp1 fun h=>?_))
    exact ⟨rfl,M,hM.out,rfl⟩
  ·intro K hK
   have hms:=Hld.mk (m_ins M off n a n k (hc.out.perm hM) (by omega) ha (by omega) (by omega))
   replace hM:=Hld.mk hM
   repeat' (first
    |(with_reducible first|refine uK ?_|refine uX ?_|refine AW_seqk fun K hK=>?_|refine AW_block ?_)|((with_reducible first|refine rS hE ?_|refine RK_nilk ?_|refine RK_stepk fun K' hK'=>?_|refine AW_if fun X Y hX hY=>?_|refine AW_ret ?_|refine AW_skip ?_|refine AW_exit ?_);simp [*])|with_reducible refine rL hE ?_|with_reducible refine And.intro ?_ ?_|omega|(refine imp1 fun h=>?_))
   refine acall_perm hms.out (by simp) (by simp) fun N' hN'=>?_
   simp
   replace hN':=Hld.mk (hN'.trans hM.out)
   repeat' (first
    |(with_reducible first|refine uK ?_|refine uX ?_|refine AW_seqk fun K hK=>?_|refine AW_block ?_)|((with_reducible first|refine rS hE ?_|refine RK_nilk ?_|refine RK_stepk fun K' hK'=>?_|refine AW_if fun X Y hX hY=>?_|refine AW_ret ?_|refine AW_skip ?_|refine AW_exit ?_);simp [*])|with_reducible refine rL hE ?_|with_reducible refine And.intro ?_ ?_|omega|(refine imp1 fun h=>?_))
   exact ⟨N',hN'.out,by simp⟩
 ·intro K hK
  repeat' (first
   |(with_reducible first|refine uK ?_|refine uX ?_|refine AW_seqk fun K hK=>?_|refine AW_block ?_)|((with_reducible first|refine rS hE ?_|refine RK_nilk ?_|refine RK_stepk fun K' hK'=>?_|refine AW_if fun X Y hX hY=>?_|refine AW_ret ?_|refine AW_skip ?_|refine AW_exit ?_);simp [*])|with_reducible refine rL hE ?_|with_reducible refine And.intro ?_ ?_|omega|(refine imp1 fun h=>?_))
  refine AW_loopk (G:=Nat × List En) (fun g=>⟨[(7,iA g.1),(8,iA ((g.1 + 20 : Nat) : Int)),(6,iA 20),(0,.own 1000000 7 off n),(1,iA n),(2,byA k)],[(1000000,.arr 51 7 (g.2.map encE))]⟩) (fun g=>g.1 ≤ n ∧ g.2.Perm L) (fun g=>n - g.1) (0,L) ⟨(show 0 ≤ n by omega),List.Perm.refl _⟩ (by simp) ?_
  rintro ⟨a,M⟩ ⟨ha,hM⟩ K2 hK2
  replace ha : a ≤ n:=ha
  replace hM : M.Perm L:=hM
  have hml:=hM.length_eq
  obtain ⟨b,hb⟩ : ∃ b : Nat,b = a + 20:=⟨_,rfl⟩
  have hbI : (((a + 20 : Nat)) : Int) = b:=by omega
  have hb':=Hld.mk hb
  clear hb
  simp only [hbI]
  by_cases hbn : b ≤ n
  ·have hb0:=hb'.out
   have hms:=Hld.mk (m_ins M off n a b k (hc.out.perm hM) (by omega) (by omega) hbn (by omega))
   clear hb0
   replace hM:=Hld.mk hM
   repeat' (first
    |(with_reducible first|refine uK ?_|refine uX ?_|refine AW_seqk fun K hK=>?_|refine AW_block ?_)|((with_reducible first|refine rS hE ?_|refine RK_nilk ?_|refine RK_stepk fun K' hK'=>?_|refine AW_if fun X Y hX hY=>?_|refine AW_ret ?_|refine AW_skip ?_|refine AW_exit ?_);simp [*])|with_reducible refine rL hE ?_|with_reducible refine And.intro ?_ ?_|omega|(refine imp1 fun h=>?_))
   refine acall_perm hms.out (by simp) (by simp) fun N' hN'=>?_
   simp
   replace hN':=Hld.mk (hN'.trans hM.out)
   repeat' (first
    |(with_reducible first|refine uK ?_|refine uX ?_|refine AW_seqk fun K hK=>?_|refine AW_block ?_)|((with_reducible first|refine rS hE ?_|refine RK_nilk ?_|refine RK_stepk fun K' hK'=>?_|refine AW_if fun X Y hX hY=>?_|refine AW_ret ?_|refine AW_skip ?_|refine AW_exit ?_);simp [*])|with_reducible refine rL hE ?_|with_reducible refine And.intro ?_ ?_|omega|(refine imp1 fun h=>?_))
   have hb0:=hb'.out
   exact ⟨(b,N'),⟨hbn,hN'.out⟩,(show n - b < n - a by omega),by simp⟩
  ·replace hM:=Hld.mk hM
   repeat' (first
    |(with_reducible first|refine uK ?_|refine uX ?_|refine AW_seqk fun K hK=>?_|refine AW_block ?_)|((with_reducible first|refine rS hE ?_|refine RK_nilk ?_|refine RK_stepk fun K' hK'=>?_|refine AW_if fun X Y hX hY=>?_|refine AW_ret ?_|refine AW_skip ?_|refine AW_exit ?_);simp [*])|with_reducible refine rL hE ?_|with_reducible refine And.intro ?_ ?_|omega|(refine imp1 fun h=>?_))
   exact ⟨(a,M),⟨ha,hM.out⟩,by simp⟩
theorem m_sorts (off n k : Nat) (L : List En) (hc : CmpL k L) (hL : off + n ≤ L.length) (hn : L.length < 1152921504606846976) :
 MSpec Try.prog 57 [.own 1000000 7 off n,byA k] [(1000000,.arr 51 7 (L.map encE))] (PermS L):=by
 have hms:=Hld.mk (m_stable off n k L hc hL hn)
 clear hc
 refine MSpec_of Try.func57 rfl rfl (Nat.le_of_ble_eq_true rfl) (Nat.le_of_ble_eq_true rfl) ?_
 intro E hE
 repeat' (first
  |(with_reducible first|refine uK ?_|refine uX ?_|refine AW_seqk fun K hK=>?_|refine AW_block ?_)|((with_reducible first|refine rS hE ?_|refine RK_nilk ?_|refine RK_stepk fun K' hK'=>?_|refine AW_if fun X Y hX hY=>?_|refine AW_ret ?_|refine AW_skip ?_|refine AW_exit ?_);simp [*])|with_reducible refine rL hE ?_|with_reducible refine And.intro ?_ ?_|omega|(refine imp1 fun h=>?_))
 refine acall_perm hms.out (by simp) (by simp) fun N' hN'=>?_
 simp
 replace hN':=Hld.mk hN'
 repeat' (first
  |(with_reducible first|refine uK ?_|refine uX ?_|refine AW_seqk fun K hK=>?_|refine AW_block ?_)|((with_reducible first|refine rS hE ?_|refine RK_nilk ?_|refine RK_stepk fun K' hK'=>?_|refine AW_if fun X Y hX hY=>?_|refine AW_ret ?_|refine AW_skip ?_|refine AW_exit ?_);simp [*])|with_reducible refine rL hE ?_|with_reducible refine And.intro ?_ ?_|omega|(refine imp1 fun h=>?_))
 exact ⟨rfl,N',hN'.out,rfl⟩
end Go.Proofs.Ytlkijcflfnnbaaa
end
