/- Segments, edits, the model's state as data; calls by contracts -/
import Derived.Test.YtbibemijcdkjhaaGreatDoorZ4
import Derived.Test.YtbibemijcdkjhaaGreatDoorZ6
import Derived.Test.YtbibemijcdkjhaaGreatDoorZ3
import Derived.Test.YtbibemijcdkjhaaGreatDoorRows
import Derived.Shelf.SlSortCmp.NoneTotal
import Derived.Shelf.SortM.Plain
import Derived.Shelf.SortM.SortNone
import Derived.Shelf.SlGeneric
import Derived.Ground.SlsfProg
import Derived.Ground.SlgmProg
import Derived.Shelf.Strings.Builder1
set_option maxRecDepth 100000
set_option linter.unusedSimpArgs false
set_option linter.unusedVariables false
section
namespace Go.Proofs.YtbibemijcdkjhaaGreatDoor
open Go.Am
abbrev iA (n : Int) : AV:=.v (.int .i64 n)
abbrev bA (b : Bool) : AV:=.v (.bool b)
structure Seg where
 (id x0 x1 y0 y1 t0 t1 un by_ : Int)
 deriving DecidableEq,Inhabited
def encS (s : Seg) : AV:=.st [iA s.id,iA s.x0,iA s.x1,iA s.y0,iA s.y1,iA s.t0,iA s.t1,iA s.un,iA s.by_]
@[simp] theorem encS_cells (s : Seg) : (encS s).cells = [iA s.id,iA s.x0,iA s.x1,iA s.y0,iA s.y1,iA s.t0,iA s.t1,iA s.un,iA s.by_]:=rfl
abbrev segL (l : List Seg) : AV:=.sl 9 (l.map encS)
structure Ed where
 (kind belief used : Int)
 (rem : List Int)
 (add : List Seg)
 deriving DecidableEq,Inhabited
def encE (e : Ed) : AV:=.st [iA e.kind,iA e.belief,iA e.used,.sl 1 (e.rem.map iA),segL e.add]
@[simp] theorem encE_cells (e : Ed) : (encE e).cells = [iA e.kind,iA e.belief,iA e.used,.sl 1 (e.rem.map iA),segL e.add]:=rfl
structure Sh where
 (first used : Int)
 (lists : List (List Seg))
 deriving DecidableEq,Inhabited
def encH (s : Sh) : AV:=.st [iA s.first,iA s.used,.sl 1 (s.lists.map segL)]
@[simp] theorem encH_cells (s : Sh) : (encH s).cells = [iA s.first,iA s.used,.sl 1 (s.lists.map segL)]:=rfl
def encM (s : Sh) : AV:=.st [iA s.first,.sl 1 (s.lists.map segL),iA s.used]
@[simp] theorem encM_cells (s : Sh) : (encM s).cells = [iA s.first,.sl 1 (s.lists.map segL),iA s.used]:=rfl
@[simp] theorem encS_isSt (s : Seg) : (encS s).isSt = true:=rfl
@[simp] theorem encS_sto (s : Seg) : (encS s).sto = true:=rfl
@[simp] theorem encS_one (s : Seg) : (encS s).one = false:=rfl
@[simp] theorem encS_idf (s : Seg) : (encS s).idf = true:=rfl
@[simp] theorem encS_ment (d : Nat) (s : Seg) : (encS s).ment d = false:=by simp [encS]
@[simp] theorem encS_ren (σ : Nat → Nat) (s : Seg) : (encS s).ren σ = encS s:=by simp [encS]
@[simp] theorem encS_ids (s : Seg) : (encS s).ids = []:=by simp [encS]
@[simp] theorem encS_idsOf (s : Seg) : idsOf (encS s) = []:=by simp [encS]
@[simp] theorem view_encS {bf : Nat → Option Ct} {s : Seg} : View bf (encS s) (encS s):=view_self rfl
@[simp] theorem encS_flat (s : Seg) : (encS s).flat = true:=rfl
@[simp] theorem encE_isSt (s : Ed) : (encE s).isSt = true:=rfl
@[simp] theorem encE_sto (s : Ed) : (encE s).sto = true:=rfl
@[simp] theorem encE_one (s : Ed) : (encE s).one = false:=rfl
@[simp] theorem encE_idf (s : Ed) : (encE s).idf = true:=rfl
@[simp] theorem encE_ment (d : Nat) (s : Ed) : (encE s).ment d = false:=by simp [encE]
@[simp] theorem encE_ren (σ : Nat → Nat) (s : Ed) : (encE s).ren σ = encE s:=by simp [encE]
@[simp] theorem encE_ids (s : Ed) : (encE s).ids = []:=by simp [encE]
@[simp] theorem encE_idsOf (s : Ed) : idsOf (encE s) = []:=by simp [encE]
@[simp] theorem view_encE {bf : Nat → Option Ct} {s : Ed} : View bf (encE s) (encE s):=view_self rfl
@[simp] theorem encH_isSt (s : Sh) : (encH s).isSt = true:=rfl
@[simp] theorem encH_sto (s : Sh) : (encH s).sto = true:=rfl
@[simp] theorem encH_one (s : Sh) : (encH s).one = false:=rfl
@[simp] theorem encH_idf (s : Sh) : (encH s).idf = true:=rfl
@[simp] theorem encH_ment (d : Nat) (s : Sh) : (encH s).ment d = false:=by simp [encH]
@[simp] theorem encH_ren (σ : Nat → Nat) (s : Sh) : (encH s).ren σ = encH s:=by simp [encH]
@[simp] theorem encH_ids (s : Sh) : (encH s).ids = []:=by simp [encH]
@[simp] theorem encH_idsOf (s : Sh) : idsOf (encH s) = []:=by simp [encH]
@[simp] theorem view_encH {bf : Nat → Option Ct} {s : Sh} : View bf (encH s) (encH s):=view_self rfl
@[simp] theorem encM_isSt (s : Sh) : (encM s).isSt = true:=rfl
@[simp] theorem encM_sto (s : Sh) : (encM s).sto = true:=rfl
@[simp] theorem encM_one (s : Sh) : (encM s).one = false:=rfl
@[simp] theorem encM_idf (s : Sh) : (encM s).idf = true:=rfl
@[simp] theorem encM_ment (d : Nat) (s : Sh) : (encM s).ment d = false:=by simp [encM]
@[simp] theorem encM_ren (σ : Nat → Nat) (s : Sh) : (encM s).ren σ = encM s:=by simp [encM]
@[simp] theorem encM_ids (s : Sh) : (encM s).ids = []:=by simp [encM]
@[simp] theorem encM_idsOf (s : Sh) : idsOf (encM s) = []:=by simp [encM]
@[simp] theorem view_encM {bf : Nat → Option Ct} {s : Sh} : View bf (encM s) (encM s):=view_self rfl
theorem eqA_S (a b : Seg) : eqA [SK.i,.i,.i,.i,.i,.i,.i,.i,.i] (encS a).cells (encS b).cells = some (decide (a = b)):=by
 simp only [encS_cells,eqA,eqA1,if_true,Option.map_some]
 congr 1
 rw [Bool.eq_iff_iff]
 cases a
 cases b
 simp [and_assoc]
theorem qbin_eqS {a b : Seg} {xc yc : Bool} {cont : AV → Prop} : qbin Tryz.prog .eql 70 (encS a) (encS b) xc yc cont ↔ cont (.v (.bool (decide (a = b)))):=by
 have h:=eqA_S a b
 simp only [encS_cells] at h
 simp only [qbin,encS,k_agg70,k_eq70,k_guard70,true_and,h]
theorem qbin_neS {a b : Seg} {xc yc : Bool} {cont : AV → Prop} : qbin Tryz.prog .neq 70 (encS a) (encS b) xc yc cont ↔ cont (.v (.bool (!decide (a = b)))):=by
 have h:=eqA_S a b
 simp only [encS_cells] at h
 simp only [qbin,encS,k_agg70,k_eq70,k_guard70,true_and,h]
attribute [simp high] qbin_eqS qbin_neS
@[simp high] theorem stepBin_S {P : Program} {o : Oper} {op : BinOp} {T : TypeId} {a b : Seg} {s : AState} {K : AState → Prop} : stepBin P o op T (encS a) (encS b) s K = qstep P o s K:=rfl
@[simp] theorem idf_S (l : List Seg) : idfL (l.map encS) = true:=by induction l with|nil=>rfl|cons a l ih=>simp [ih]
@[simp] theorem ment_S (d : Nat) (l : List Seg) : mentL d (l.map encS) = false:=by induction l with|nil=>rfl|cons a l ih=>simp [ih]
@[simp] theorem ids_S (l : List Seg) : idsA (l.map encS) = []:=by induction l with|nil=>rfl|cons a l ih=>simp [ih]
@[simp] theorem ren_S (σ : Nat → Nat) (l : List Seg) : renL σ (l.map encS) = l.map encS:=by induction l with|nil=>rfl|cons a l ih=>simp [ih]
@[simp] theorem flat_S (l : List Seg) : flatL (l.map encS) = true:=by induction l with|nil=>rfl|cons a l ih=>simp [ih]
@[simp] theorem idf_I (l : List Int) : idfL (l.map iA) = true:=by induction l with|nil=>rfl|cons a l ih=>simp [ih]
@[simp] theorem ment_I (d : Nat) (l : List Int) : mentL d (l.map iA) = false:=by induction l with|nil=>rfl|cons a l ih=>simp [ih]
@[simp] theorem ids_I (l : List Int) : idsA (l.map iA) = []:=by induction l with|nil=>rfl|cons a l ih=>simp [ih]
@[simp] theorem ren_I (σ : Nat → Nat) (l : List Int) : renL σ (l.map iA) = l.map iA:=by induction l with|nil=>rfl|cons a l ih=>simp [ih]
@[simp] theorem flat_I (l : List Int) : flatL (l.map iA) = true:=by induction l with|nil=>rfl|cons a l ih=>simp [ih]
@[simp] theorem idf_L (l : List (List Seg)) : idfL (l.map segL) = true:=by induction l with|nil=>rfl|cons a l ih=>simp [ih]
@[simp] theorem ment_L (d : Nat) (l : List (List Seg)) : mentL d (l.map segL) = false:=by induction l with|nil=>rfl|cons a l ih=>simp [ih]
@[simp] theorem ids_L (l : List (List Seg)) : idsA (l.map segL) = []:=by induction l with|nil=>rfl|cons a l ih=>simp [ih]
@[simp] theorem ren_L (σ : Nat → Nat) (l : List (List Seg)) : renL σ (l.map segL) = l.map segL:=by induction l with|nil=>rfl|cons a l ih=>simp [ih]
@[simp] theorem idf_E (l : List Ed) : idfL (l.map encE) = true:=by induction l with|nil=>rfl|cons a l ih=>simp [ih]
@[simp] theorem ment_E (d : Nat) (l : List Ed) : mentL d (l.map encE) = false:=by induction l with|nil=>rfl|cons a l ih=>simp [ih]
@[simp] theorem ids_E (l : List Ed) : idsA (l.map encE) = []:=by induction l with|nil=>rfl|cons a l ih=>simp [ih]
@[simp] theorem ren_E (σ : Nat → Nat) (l : List Ed) : renL σ (l.map encE) = l.map encE:=by induction l with|nil=>rfl|cons a l ih=>simp [ih]
theorem call_same {P : Program} {f : FuncId} {args : List AV} {bf : Nat → Option Ct} {d : Option Tmp} {res : AV} {k : AV → Option Ct → Prop} (h : PSpec P f args res) (hi : idfL args = true) (hr : res.idf = true) (hc : k res none) : QCall P f args bf d k :=
 ⟨.inl ⟨args,res,(by
   have : ∀ l : List AV,idfL l = true → ViewL bf l l:=by
    intro l
    induction l with
    |nil=>intro _;trivial
    |cons x l ih =>
     intro h
     simp only [idfL,Bool.and_eq_true] at h
     exact ⟨.inl ⟨rfl,h.1⟩,ih h.2⟩
   exact this args hi),h,.inr ⟨rfl,hi,hr⟩,hc⟩⟩
theorem call_view {P : Program} {f : FuncId} {args ds : List AV} {bf : Nat → Option Ct} {d : Option Tmp} {res : AV} {k : AV → Option Ct → Prop} (h : PSpec P f ds res) (hv : ViewL bf args ds) (hr : res.flat = true) (hc : k res none) : QCall P f args bf d k :=
 ⟨.inl ⟨ds,res,hv,h,.inl hr,hc⟩⟩
theorem viewL_same (bf : Nat → Option Ct) : ∀ l : List AV,idfL l = true → ViewL bf l l:=by
 intro l
 induction l with
 |nil=>intro _;trivial
 |cons x l ih =>
  intro h
  simp only [idfL,Bool.and_eq_true] at h
  exact ⟨.inl ⟨rfl,h.1⟩,ih h.2⟩
theorem acall_same {P : Program} {E : Env} {f : FuncId} {args : List AV} {s : AState} {d : Option Tmp} {res : AV} {K : AState → Prop} (h : PSpec P f args res) (hi : idfL args = true) (hr : res.idf = true) (hk : K (s.put d res)) : ACall P E f args s d K :=
 ACall_pure h (viewL_same _ _ hi) (.inr ⟨rfl,hi,hr⟩) hk
theorem acall_view {P : Program} {E : Env} {f : FuncId} {args ds : List AV} {s : AState} {d : Option Tmp} {res : AV} {K : AState → Prop} (h : PSpec P f ds res) (hv : ViewL s.box args ds) (hr : res.flat = true) (hk : K (s.put d res)) : ACall P E f args s d K :=
 ACall_pure h hv (.inl hr) hk
theorem QCall_congr' {P : Program} {f : FuncId} {args args' : List AV} {bf : Nat → Option Ct} {d : Option Tmp} {k : AV → Option Ct → Prop} (h : args = args') : QCall P f args bf d k = QCall P f args' bf d k:=by rw [h]
theorem ACall_congr' {P : Program} {E : Env} {f : FuncId} {args args' : List AV} {s : AState} {d : Option Tmp} {K : AState → Prop} (h : args = args') : ACall P E f args s d K = ACall P E f args' s d K:=by rw [h]
attribute [congr] QCall_congr' ACall_congr'
theorem acall_dv {P : Program} {E : Env} {f : FuncId} {args ds : List AV} {s : AState} {d : Option Tmp} {res : AV} {K : AState → Prop} (h : PSpec P f ds res) (hv : DViewL s.box args ds) (hr : res.flat = true) (hk : K (s.put d res)) : ACall P E f args s d K :=
 acall_deep h hv hr hk
end Go.Proofs.YtbibemijcdkjhaaGreatDoor
end
section
namespace Go.Proofs.YtbibemijcdkjhaaGreatDoor
open Go.Am
def inI64 (n : Int) : Prop := -9223372036854775808 ≤ n ∧ n ≤ 9223372036854775807
structure SegIn (s : Seg) : Prop where
 id : inI64 s.id
 x0 : inI64 s.x0
 x1 : inI64 s.x1
 y0 : inI64 s.y0
 y1 : inI64 s.y1
 t0 : inI64 s.t0
 t1 : inI64 s.t1
 un : inI64 s.un
 by_ : inI64 s.by_
theorem avList {P : Program} {α : Type} (enc : α → AV) (ok : α → Prop) {n : Nat} {t e : TypeId} {cs : List AV} (ht : P.underlying t = some (.slice e)) (hel : ∀ cs',ShapeC P n e cs' → ∃ a,mkAV P e cs' = enc a ∧ ok a) (h : ShapeC P (n + 1) t cs) :
 ∃ l : List α,cs = [.sl (P.cellsOf e) (l.map enc)] ∧ (∀ a ∈ l,ok a) ∧ l.length ≤ 9223372036854775807:=by
 rw [ShapeC,ht] at h
 obtain ⟨xs,rfl,hl,hx⟩:=h
 have key : ∀ xs : List AV,(∀ x ∈ xs,∃ cs',ShapeC P n e cs' ∧ x = (if aggB P e then .st cs' else cs'.headD .u)) → ∃ l : List α,xs = l.map enc ∧ ∀ a ∈ l,ok a:=by
  intro xs
  induction xs with
  |nil=>intro _;exact ⟨[],rfl,by simp⟩
  |cons x xs ih =>
   intro h
   obtain ⟨l,rfl,hl⟩:=ih (fun y hy=>h y (List.mem_cons_of_mem _ hy))
   obtain ⟨cs',h1,h2⟩:=h x List.mem_cons_self
   obtain ⟨r,hr,hw⟩:=hel cs' h1
   refine ⟨r :: l,by rw [h2];simp only [List.map_cons];rw [← hr];rfl,?_⟩
   intro r' hr'
   rcases List.mem_cons.1 hr' with rfl|hr'
   ·exact hw
   ·exact hl r' hr'
 obtain ⟨l,rfl,hw⟩:=key xs hx
 exact ⟨l,rfl,hw,by unfold maxLen at hl;simpa using hl⟩
structure EdIn (e : Ed) : Prop where
 kind : inI64 e.kind
 belief : inI64 e.belief
 used : inI64 e.used
 rem : (∀ i ∈ e.rem,inI64 i) ∧ e.rem.length ≤ 9223372036854775807
 add : (∀ s ∈ e.add,SegIn s) ∧ e.add.length ≤ 9223372036854775807
end Go.Proofs.YtbibemijcdkjhaaGreatDoor
end
section
namespace Go.Proofs.YtbibemijcdkjhaaGreatDoor
open Go.Am
@[simp] theorem encS_kn (s : Seg) : (encS s).kn = true:=rfl
@[simp] theorem encE_kn (s : Ed) : (encE s).kn = true:=rfl
@[simp] theorem encH_kn (s : Sh) : (encH s).kn = true:=rfl
@[simp] theorem encM_kn (s : Sh) : (encM s).kn = true:=rfl
end Go.Proofs.YtbibemijcdkjhaaGreatDoor
end
section
namespace Go.Proofs.YtbibemijcdkjhaaGreatDoor
open Go.Am
def inB (n lo hi : Int) : Bool:=decide (lo ≤ n ∧ n ≤ hi)
theorem s_within (n lo hi : Int) : PSpec Tryz.prog 60 [iA n,iA lo,iA hi] (bA (inB n lo hi)):=by
 refine PSpec_of Tryz.func60 rfl rfl (Nat.le_of_ble_eq_true rfl) (Nat.le_of_ble_eq_true rfl) ?_
 intro E hE
 repeat' (first
  |(with_reducible first|refine uK ?_|refine uX ?_|refine jq fun K hK=>?_|refine jb ?_)|((with_reducible first|refine rS hE ?_|refine jn ?_|refine js fun K' hK'=>?_|refine ji fun X Y hX hY=>?_|refine jr ?_|refine jk ?_|refine jx ?_);simp [*])|with_reducible refine rL hE ?_|with_reducible refine And.intro ?_ ?_|omega|(refine imp1 fun h=>?_))
 ·simp [inB,h]
 ·simp [inB];intro h2;omega
theorem s_in (n lo hi : Int) : PSpec Tryz.prog 69 [iA n,iA lo,iA hi] (bA (inB n lo hi)):=by
 refine PSpec_of Tryz.func69 rfl rfl (Nat.le_of_ble_eq_true rfl) (Nat.le_of_ble_eq_true rfl) ?_
 intro E hE
 repeat' (first
  |(with_reducible first|refine uK ?_|refine uX ?_|refine jq fun K hK=>?_|refine jb ?_)|((with_reducible first|refine rS hE ?_|refine jn ?_|refine js fun K' hK'=>?_|refine ji fun X Y hX hY=>?_|refine jr ?_|refine jk ?_|refine jx ?_);simp [*])|with_reducible refine rL hE ?_|with_reducible refine And.intro ?_ ?_|omega|(refine imp1 fun h=>?_))
 ·simp [inB,h]
 ·simp [inB];intro h2;omega
theorem s_nan (a : Int) : PSpec Tryz.prog 114 [iA a] (bA false):=by
 refine PSpec_of Tryz.func114 rfl rfl (Nat.le_of_ble_eq_true rfl) (Nat.le_of_ble_eq_true rfl) ?_
 intro E hE
 repeat' (first
  |(with_reducible first|refine uK ?_|refine uX ?_|refine jq fun K hK=>?_|refine jb ?_)|((with_reducible first|refine rS hE ?_|refine jn ?_|refine js fun K' hK'=>?_|refine ji fun X Y hX hY=>?_|refine jr ?_|refine jk ?_|refine jx ?_);simp [*])|with_reducible refine rL hE ?_|with_reducible refine And.intro ?_ ?_|omega|(refine imp1 fun h=>?_))
def cmpI (a b : Int) : Int:=if a < b then -1 else if b < a then 1 else 0
theorem s_cmp (a b : Int) : PSpec Tryz.prog 85 [iA a,iA b] (iA (cmpI a b)):=by
 refine PSpec_of Tryz.func85 rfl rfl (Nat.le_of_ble_eq_true rfl) (Nat.le_of_ble_eq_true rfl) ?_
 intro E hE
 repeat' (first
  |(with_reducible first|refine uK ?_|refine uX ?_|refine jq fun K hK=>?_|refine jb ?_)|((with_reducible first|refine rS hE ?_|refine jn ?_|refine js fun K' hK'=>?_|refine ji fun X Y hX hY=>?_|refine jr ?_|refine jk ?_|refine jx ?_);simp [*])|with_reducible refine rL hE ?_|(refine jC (s_nan a) ?_ ?_ ?_;(iterate 2 focus (simp [*] <;> fail));simp [*])|(refine jC (s_nan b) ?_ ?_ ?_;(iterate 2 focus (simp [*] <;> fail));simp [*])|with_reducible refine And.intro ?_ ?_|omega|(refine imp1 fun h=>?_))
 all_goals simp only [cmpI]
 all_goals (split <;> first|omega|(split <;> omega))
theorem s_has1 (s : Seg) (n : Int) : PSpec Tryz.prog 117 [encS s,iA n] (iA (cmpI s.id n)):=by
 refine PSpec_of Tryz.func117 rfl rfl (Nat.le_of_ble_eq_true rfl) (Nat.le_of_ble_eq_true rfl) ?_
 intro E hE
 repeat' (first
  |(with_reducible first|refine uK ?_|refine uX ?_|refine jq fun K hK=>?_|refine jb ?_)|((with_reducible first|refine rS hE ?_|refine jn ?_|refine js fun K' hK'=>?_|refine ji fun X Y hX hY=>?_|refine jr ?_|refine jk ?_|refine jx ?_);simp [*])|with_reducible refine rL hE ?_|(refine jC (s_cmp s.id n) ?_ ?_ ?_;(iterate 2 focus (simp [*] <;> fail));simp [*])|with_reducible refine And.intro ?_ ?_|omega|(refine imp1 fun h=>?_))
theorem s_cmpS (a b : Seg) : PSpec Tryz.prog 84 [encS a,encS b] (iA (cmpI a.id b.id)):=by
 refine PSpec_of Tryz.func84 rfl rfl (Nat.le_of_ble_eq_true rfl) (Nat.le_of_ble_eq_true rfl) ?_
 intro E hE
 repeat' (first
  |(with_reducible first|refine uK ?_|refine uX ?_|refine jq fun K hK=>?_|refine jb ?_)|((with_reducible first|refine rS hE ?_|refine jn ?_|refine js fun K' hK'=>?_|refine ji fun X Y hX hY=>?_|refine jr ?_|refine jk ?_|refine jx ?_);simp [*])|with_reducible refine rL hE ?_|(refine jC (s_cmp a.id b.id) ?_ ?_ ?_;(iterate 2 focus (simp [*] <;> fail));simp [*])|with_reducible refine And.intro ?_ ?_|omega|(refine imp1 fun h=>?_))
def okB (s : Seg) : Bool:=inB s.x0 (-1099511627776) 1099511627776 && inB s.x1 (-1099511627776) 1099511627776 && inB s.y0 (-1099511627776) 1099511627776 && inB s.y1 (-1099511627776) 1099511627776 &&
 inB s.t0 (-1099511627776) 1099511627776 && inB s.t1 (-1099511627776) 1099511627776 && decide (s.x0 ≤ s.x1) && decide (s.y0 ≤ s.y1) && decide (s.t0 ≤ s.t1) && inB s.un 0 1099511627776 && inB s.by_ 0 1099511627776
def chkS (s : Seg) : Int:=if inB s.id 1 1073741824 then (if okB s then 0 else 2) else 27
theorem chkS_eq (s : Seg) : chkS s = if 1 ≤ s.id ∧ s.id ≤ 1073741824 then (if (((((((((((-1099511627776 ≤ s.x0 ∧ s.x0 ≤ 1099511627776) ∧ (-1099511627776 ≤ s.x1 ∧ s.x1 ≤ 1099511627776)) ∧ (-1099511627776 ≤ s.y0 ∧ s.y0 ≤ 1099511627776)) ∧ (-1099511627776 ≤ s.y1 ∧ s.y1 ≤ 1099511627776)) ∧
 (-1099511627776 ≤ s.t0 ∧ s.t0 ≤ 1099511627776)) ∧ (-1099511627776 ≤ s.t1 ∧ s.t1 ≤ 1099511627776)) ∧ s.x0 ≤ s.x1) ∧ s.y0 ≤ s.y1) ∧ s.t0 ≤ s.t1) ∧ (0 ≤ s.un ∧ s.un ≤ 1099511627776)) ∧ (0 ≤ s.by_ ∧ s.by_ ≤ 1099511627776)) then 0 else 2) else 27:=by
 simp only [chkS,okB,inB,Bool.and_eq_true,decide_eq_true_eq]
def nthS (s : Seg) (i : Nat) : Int:=match i with
 |0=>s.x0
 |1=>s.x1
 |2=>s.y0
 |3=>s.y1
 |4=>s.t0
 |_=>s.t1
def wideB (n : Int) : Bool:=inB n (-1099511627776) 1099511627776
set_option maxHeartbeats 2000000 in
theorem s_chk (s : Seg) : PSpec Tryz.prog 92 [encS s] (iA (chkS s)):=by
 refine PSpec_of Tryz.func92 rfl rfl (Nat.le_of_ble_eq_true rfl) (Nat.le_of_ble_eq_true rfl) ?_
 intro E hE
 repeat' (first
  |(with_reducible first|refine uK ?_|refine uX ?_|refine jq fun K hK=>?_|refine jb ?_)|((with_reducible first|refine rS hE ?_|refine jn ?_|refine js fun K' hK'=>?_|refine ji fun X Y hX hY=>?_|refine jr ?_|refine jk ?_|refine jx ?_);simp [*])|with_reducible refine rL hE ?_|(refine acall_same (s_within _ _ _) ?_ ?_ ?_;(iterate 2 focus (simp [*] <;> fail));simp [*])|(refine acall_view (s_within _ _ _) ?_ ?_ ?_;(iterate 2 focus (simp [*] <;> fail));simp [*])|with_reducible refine And.intro ?_ ?_|omega|(refine imp1 fun h=>?_))
 ·simp [chkS,h]
 ·have hid:=Hld.mk h
  clear h
  refine AW_loopk (G:=Nat) (fun i=>⟨[(25,iA i),(24,.st [iA s.x0,iA s.x1,iA s.y0,iA s.y1,iA s.t0,iA s.t1]),(3,.loc 3 0),(2,iA 0),(1,.loc 1 0)],[(3,.box 68 (.st [iA s.x0,iA s.x1,iA s.y0,iA s.y1,iA s.t0,iA s.t1])),(1,.box 70 (encS s))]⟩)
   (fun i=>i ≤ 6 ∧ ∀ j,j < i → wideB (nthS s j) = true) (fun i=>6 - i) 0 ⟨by omega,by intro j hj;omega⟩ (by simp) ?_
  intro i hi K hK
  obtain ⟨hi6,hall⟩:=hi
  replace hall:=Hld.mk hall
  by_cases h6 : i = 6
  ·subst h6
   have a0:=hall.out 0 (by omega)
   have a1:=hall.out 1 (by omega)
   have a2:=hall.out 2 (by omega)
   have a3:=hall.out 3 (by omega)
   have a4:=hall.out 4 (by omega)
   have a5:=hall.out 5 (by omega)
   simp only [nthS,wideB] at a0 a1 a2 a3 a4 a5
   replace a0:=Hld.mk a0
   replace a1:=Hld.mk a1
   replace a2:=Hld.mk a2
   replace a3:=Hld.mk a3
   replace a4:=Hld.mk a4
   replace a5:=Hld.mk a5
   clear hall
   repeat' (first
    |(with_reducible first|refine uK ?_|refine uX ?_|refine jq fun K hK=>?_|refine jb ?_)|((with_reducible first|refine rS hE ?_|refine jn ?_|refine js fun K' hK'=>?_|refine ji fun X Y hX hY=>?_|refine jr ?_|refine jk ?_|refine jx ?_);simp [*])|with_reducible refine rL hE ?_|(refine acall_same (s_within _ _ _) ?_ ?_ ?_;(iterate 2 focus (simp [*] <;> fail));simp [*])|(refine acall_view (s_within _ _ _) ?_ ?_ ?_;(iterate 2 focus (simp [*] <;> fail));simp [*])|with_reducible refine And.intro ?_ ?_|omega|(refine imp1 fun h=>?_))
   all_goals (clear hE;obtain ⟨a0⟩:=a0;obtain ⟨a1⟩:=a1;obtain ⟨a2⟩:=a2;obtain ⟨a3⟩:=a3;obtain ⟨a4⟩:=a4;obtain ⟨a5⟩:=a5;have h0:=hid.out)
   all_goals (simp only [inB,decide_eq_true_eq,decide_eq_false_iff_not] at *;rw [chkS_eq];split <;> (try split) <;> omega)
  ·have : i = 0 ∨ i = 1 ∨ i = 2 ∨ i = 3 ∨ i = 4 ∨ i = 5:=by omega
   rcases this with rfl|rfl|rfl|rfl|rfl|rfl
   ·repeat' (first
     |(with_reducible first|refine uK ?_|refine uX ?_|refine jq fun K hK=>?_|refine jb ?_)|((with_reducible first|refine rS hE ?_|refine jn ?_|refine js fun K' hK'=>?_|refine ji fun X Y hX hY=>?_|refine jr ?_|refine jk ?_|refine jx ?_);simp [*])|with_reducible refine rL hE ?_|(refine acall_same (s_within _ _ _) ?_ ?_ ?_;(iterate 2 focus (simp [*] <;> fail));simp [*])|(refine acall_view (s_within _ _ _) ?_ ?_ ?_;(iterate 2 focus (simp [*] <;> fail));simp [*])|with_reducible refine And.intro ?_ ?_|omega|(refine imp1 fun h=>?_))
    ·have h0:=hid.out
     clear hE
     simp only [inB,decide_eq_true_eq,decide_eq_false_iff_not] at h h0
     rw [chkS_eq];split <;> (try split) <;> omega
    ·exact ⟨1,⟨by omega,fun j hj=>by rcases Nat.lt_succ_iff_lt_or_eq.1 hj with hj|rfl;exact hall.out j hj;exact h⟩,by omega,by simp⟩
   ·repeat' (first
     |(with_reducible first|refine uK ?_|refine uX ?_|refine jq fun K hK=>?_|refine jb ?_)|((with_reducible first|refine rS hE ?_|refine jn ?_|refine js fun K' hK'=>?_|refine ji fun X Y hX hY=>?_|refine jr ?_|refine jk ?_|refine jx ?_);simp [*])|with_reducible refine rL hE ?_|(refine acall_same (s_within _ _ _) ?_ ?_ ?_;(iterate 2 focus (simp [*] <;> fail));simp [*])|(refine acall_view (s_within _ _ _) ?_ ?_ ?_;(iterate 2 focus (simp [*] <;> fail));simp [*])|with_reducible refine And.intro ?_ ?_|omega|(refine imp1 fun h=>?_))
    ·have h0:=hid.out
     clear hE
     simp only [inB,decide_eq_true_eq,decide_eq_false_iff_not] at h h0
     rw [chkS_eq];split <;> (try split) <;> omega
    ·exact ⟨2,⟨by omega,fun j hj=>by rcases Nat.lt_succ_iff_lt_or_eq.1 hj with hj|rfl;exact hall.out j hj;exact h⟩,by omega,by simp⟩
   ·repeat' (first
     |(with_reducible first|refine uK ?_|refine uX ?_|refine jq fun K hK=>?_|refine jb ?_)|((with_reducible first|refine rS hE ?_|refine jn ?_|refine js fun K' hK'=>?_|refine ji fun X Y hX hY=>?_|refine jr ?_|refine jk ?_|refine jx ?_);simp [*])|with_reducible refine rL hE ?_|(refine acall_same (s_within _ _ _) ?_ ?_ ?_;(iterate 2 focus (simp [*] <;> fail));simp [*])|(refine acall_view (s_within _ _ _) ?_ ?_ ?_;(iterate 2 focus (simp [*] <;> fail));simp [*])|with_reducible refine And.intro ?_ ?_|omega|(refine imp1 fun h=>?_))
    ·have h0:=hid.out
     clear hE
     simp only [inB,decide_eq_true_eq,decide_eq_false_iff_not] at h h0
     rw [chkS_eq];split <;> (try split) <;> omega
    ·exact ⟨3,⟨by omega,fun j hj=>by rcases Nat.lt_succ_iff_lt_or_eq.1 hj with hj|rfl;exact hall.out j hj;exact h⟩,by omega,by simp⟩
   ·repeat' (first
     |(with_reducible first|refine uK ?_|refine uX ?_|refine jq fun K hK=>?_|refine jb ?_)|((with_reducible first|refine rS hE ?_|refine jn ?_|refine js fun K' hK'=>?_|refine ji fun X Y hX hY=>?_|refine jr ?_|refine jk ?_|refine jx ?_);simp [*])|with_reducible refine rL hE ?_|(refine acall_same (s_within _ _ _) ?_ ?_ ?_;(iterate 2 focus (simp [*] <;> fail));simp [*])|(refine acall_view (s_within _ _ _) ?_ ?_ ?_;(iterate 2 focus (simp [*] <;> fail));simp [*])|with_reducible refine And.intro ?_ ?_|omega|(refine imp1 fun h=>?_))
    ·have h0:=hid.out
     clear hE
     simp only [inB,decide_eq_true_eq,decide_eq_false_iff_not] at h h0
     rw [chkS_eq];split <;> (try split) <;> omega
    ·exact ⟨4,⟨by omega,fun j hj=>by rcases Nat.lt_succ_iff_lt_or_eq.1 hj with hj|rfl;exact hall.out j hj;exact h⟩,by omega,by simp⟩
   ·repeat' (first
     |(with_reducible first|refine uK ?_|refine uX ?_|refine jq fun K hK=>?_|refine jb ?_)|((with_reducible first|refine rS hE ?_|refine jn ?_|refine js fun K' hK'=>?_|refine ji fun X Y hX hY=>?_|refine jr ?_|refine jk ?_|refine jx ?_);simp [*])|with_reducible refine rL hE ?_|(refine acall_same (s_within _ _ _) ?_ ?_ ?_;(iterate 2 focus (simp [*] <;> fail));simp [*])|(refine acall_view (s_within _ _ _) ?_ ?_ ?_;(iterate 2 focus (simp [*] <;> fail));simp [*])|with_reducible refine And.intro ?_ ?_|omega|(refine imp1 fun h=>?_))
    ·have h0:=hid.out
     clear hE
     simp only [inB,decide_eq_true_eq,decide_eq_false_iff_not] at h h0
     rw [chkS_eq];split <;> (try split) <;> omega
    ·exact ⟨5,⟨by omega,fun j hj=>by rcases Nat.lt_succ_iff_lt_or_eq.1 hj with hj|rfl;exact hall.out j hj;exact h⟩,by omega,by simp⟩
   ·repeat' (first
     |(with_reducible first|refine uK ?_|refine uX ?_|refine jq fun K hK=>?_|refine jb ?_)|((with_reducible first|refine rS hE ?_|refine jn ?_|refine js fun K' hK'=>?_|refine ji fun X Y hX hY=>?_|refine jr ?_|refine jk ?_|refine jx ?_);simp [*])|with_reducible refine rL hE ?_|(refine acall_same (s_within _ _ _) ?_ ?_ ?_;(iterate 2 focus (simp [*] <;> fail));simp [*])|(refine acall_view (s_within _ _ _) ?_ ?_ ?_;(iterate 2 focus (simp [*] <;> fail));simp [*])|with_reducible refine And.intro ?_ ?_|omega|(refine imp1 fun h=>?_))
    ·have h0:=hid.out
     clear hE
     simp only [inB,decide_eq_true_eq,decide_eq_false_iff_not] at h h0
     rw [chkS_eq];split <;> (try split) <;> omega
    ·exact ⟨6,⟨by omega,fun j hj=>by rcases Nat.lt_succ_iff_lt_or_eq.1 hj with hj|rfl;exact hall.out j hj;exact h⟩,by omega,by simp⟩
set_option maxHeartbeats 2000000 in
theorem s_chkw (s : Seg) : PSpec Tryz.prog 94 [encS s] (iA (chkS s)):=by
 refine PSpec_of Tryz.func94 rfl rfl (Nat.le_of_ble_eq_true rfl) (Nat.le_of_ble_eq_true rfl) ?_
 intro E hE
 repeat' (first
  |(with_reducible first|refine uK ?_|refine uX ?_|refine jq fun K hK=>?_|refine jb ?_)|((with_reducible first|refine rS hE ?_|refine jn ?_|refine js fun K' hK'=>?_|refine ji fun X Y hX hY=>?_|refine jr ?_|refine jk ?_|refine jx ?_);simp [*])|with_reducible refine rL hE ?_|(refine acall_same (s_in _ _ _) ?_ ?_ ?_;(iterate 2 focus (simp [*] <;> fail));simp [*])|(refine acall_view (s_in _ _ _) ?_ ?_ ?_;(iterate 2 focus (simp [*] <;> fail));simp [*])|with_reducible refine And.intro ?_ ?_|omega|(refine imp1 fun h=>?_))
 all_goals (clear hE;simp only [inB,decide_eq_true_eq,decide_eq_false_iff_not] at *;rw [chkS_eq];split <;> (try split) <;> omega)
end Go.Proofs.YtbibemijcdkjhaaGreatDoor
end
section
namespace Go.Proofs.YtbibemijcdkjhaaGreatDoor
open Go.Am
def Srt (l : List Seg) : Prop:=l.Pairwise fun a b=>a.id < b.id
def rk (l : List Seg) (n : Int) : Nat:=(l.takeWhile fun s=>decide (s.id < n)).length
theorem rk_le (l : List Seg) (n : Int) : rk l n ≤ l.length:=(List.takeWhile_sublist _).length_le
theorem rk_lt {l : List Seg} {n : Int} {k : Nat} (h : k < rk l n) : (l[k]'(Nat.lt_of_lt_of_le h (rk_le l n))).id < n:=by
 induction l generalizing k with
 |nil=>simp [rk] at h
 |cons a l ih =>
  simp only [rk,List.takeWhile_cons] at h
  split at h
  ·rename_i ha
   cases k with
   |zero=>simpa using ha
   |succ k=>exact ih (by simpa [rk] using h)
  ·simp at h
theorem rk_ge {l : List Seg} {n : Int} (hs : Srt l) {k : Nat} (hk : k < l.length) (h : rk l n ≤ k) : n ≤ l[k].id:=by
 induction l generalizing k with
 |nil=>simp at hk
 |cons a l ih =>
  simp only [Srt,List.pairwise_cons] at hs
  simp only [rk,List.takeWhile_cons] at h
  split at h
  ·cases k with
   |zero=>simp at h
   |succ k=>exact ih hs.2 (by simpa using hk) (by simpa [rk] using h)
  ·rename_i ha
   have ha : n ≤ a.id:=by simpa using ha
   cases k with
   |zero=>simpa using ha
   |succ k =>
    have hk' : k < l.length:=by simpa using hk
    have:=hs.1 l[k] (List.getElem_mem _)
    simp
    omega
theorem rk_eq {l : List Seg} {n : Int} (hs : Srt l) {i : Nat} (hi : i ≤ l.length) (h1 : ∀ k (hk : k < l.length),k < i → l[k].id < n) (h2 : ∀ k (hk : k < l.length),i ≤ k → n ≤ l[k].id) : i = rk l n:=by
 rcases Nat.lt_trichotomy i (rk l n) with h|h|h
 ·have:=rk_lt h
  have:=h2 i (by have:=rk_le l n;omega) (Nat.le_refl _)
  omega
 ·exact h
 ·have:=h1 (rk l n) (by omega) h
  have:=rk_ge hs (by omega) (Nat.le_refl (rk l n))
  omega
def isAt (l : List Seg) (n : Int) : Bool:=decide (∃ h : rk l n < l.length,l[rk l n].id = n)
def findS (l : List Seg) (n : Int) : Option Seg:=l.find? fun s=>decide (s.id = n)
def hasB (l : List Seg) (n : Int) : Bool:=(findS l n).isSome
theorem isAt_true {l : List Seg} {n : Int} (h : rk l n < l.length) (e : l[rk l n].id = n) : findS l n = some l[rk l n]:=by
 unfold findS
 rw [List.find?_eq_some_iff_getElem]
 refine ⟨by simpa using e,rk l n,h,rfl,fun j hj=>?_⟩
 have:=rk_lt hj
 simp
 omega
theorem isAt_false {l : List Seg} {n : Int} (hs : Srt l) (h : ¬ ∃ h : rk l n < l.length,l[rk l n].id = n) : findS l n = none:=by
 unfold findS
 rw [List.find?_eq_none]
 intro x hx
 obtain ⟨k,hk,rfl⟩:=List.getElem_of_mem hx
 simp only [decide_eq_true_eq]
 intro e
 rcases Nat.lt_or_ge k (rk l n) with h1|h1
 ·have:=rk_lt h1;omega
 ·refine h ⟨by omega,?_⟩
  have h2:=rk_ge hs (k:=rk l n) (n:=n) (by omega) (Nat.le_refl _)
  rcases Nat.eq_or_lt_of_le h1 with h3|h3
  ·simp only [h3];exact e
  ·have:=List.pairwise_iff_getElem.1 hs (rk l n) k (by omega) hk h3
   omega
theorem mid {i j : Nat} (h : i < j) (hj : j ≤ 1000000) : ∃ m : Nat,IntKind.i64.wrap ((IntKind.u64.wrap ((i : Int) + (j : Int))).fdiv 2) = (m : Int) ∧ i ≤ m ∧ m < j:=by
 refine ⟨(i + j) / 2,?_,by omega,by omega⟩
 have h1 : IntKind.u64.wrap ((i : Int) + (j : Int)) = ((i + j : Nat) : Int):=by
  simp only [IntKind.wrap,bits_u64,sg_u64]
  have : ((i : Int) + (j : Int)) = ((i + j : Nat) : Int):=by omega
  rw [this]
  simp
  omega
 rw [h1]
 have h2 : Int.fdiv ((i + j : Nat) : Int) 2 = (((i + j) / 2 : Nat) : Int):=by
  rw [Int.fdiv_eq_ediv_of_nonneg _ (by omega)]
  omega
 rw [h2,IntKind.wrap_i64]
 omega
theorem s_bs (l : List Seg) (n : Int) (hs : Srt l) (hl : l.length ≤ 1000000) : PSpec Tryz.prog 116 [segL l,iA n,.fn (.func 117) [] []] (.tup [iA (rk l n),bA (isAt l n)]):=by
 replace hs:=Hld.mk hs
 refine PSpec_of Tryz.func116 rfl rfl (Nat.le_of_ble_eq_true rfl) (Nat.le_of_ble_eq_true rfl) ?_
 intro E hE
 repeat' (first
  |(with_reducible first|refine uK ?_|refine uX ?_|refine jq fun K hK=>?_|refine jb ?_)|((with_reducible first|refine rS hE ?_|refine jn ?_|refine js fun K' hK'=>?_|refine ji fun X Y hX hY=>?_|refine jr ?_|refine jk ?_|refine jx ?_);simp [*])|with_reducible refine rL hE ?_|with_reducible refine And.intro ?_ ?_|omega|(refine imp1 fun h=>?_))
 refine AW_loopk (G:=Nat × Nat) (fun g=>⟨[(9,iA g.1),(10,iA g.2),(8,iA l.length),(0,segL l),(1,iA n),(2,.fn (.func 117) [] []),(6,iA 0),(7,bA false)],[]⟩)
  (fun g=>g.1 ≤ g.2 ∧ g.2 ≤ l.length ∧ Hld (∀ k (hk : k < l.length),k < g.1 → l[k].id < n) ∧ Hld (∀ k (hk : k < l.length),g.2 ≤ k → n ≤ l[k].id)) (fun g=>g.2 - g.1) (0,l.length)
  ⟨by omega,by omega,⟨fun k hk h=>by omega⟩,⟨fun k hk h=>by simp at h;omega⟩⟩ (by simp) ?_
 rintro ⟨i,j⟩ ⟨hij,hj,hlo,hhi⟩ K hK
 simp only at hij hj hlo hhi
 simp only
 by_cases hlt : i < j
 ·obtain ⟨m,hm,hm1,hm2⟩:=mid hlt (by omega)
  have hml : m < l.length:=by omega
  repeat' (first
   |(with_reducible first|refine uK ?_|refine uX ?_|refine jq fun K hK=>?_|refine jb ?_)|((with_reducible first|refine rS hE ?_|refine jn ?_|refine js fun K' hK'=>?_|refine ji fun X Y hX hY=>?_|refine jr ?_|refine jk ?_|refine jx ?_);simp [*])|with_reducible refine rL hE ?_|(refine acall_same (s_has1 _ _) ?_ ?_ ?_;(iterate 2 focus (simp [*] <;> fail));simp [*])|(refine acall_view (s_has1 _ _) ?_ ?_ ?_;(iterate 2 focus (simp [*] <;> fail));simp [*])|with_reducible refine And.intro ?_ ?_|omega|(refine imp1 fun h=>?_))
  ·refine ⟨(m + 1,j),⟨by omega,by omega,⟨fun k hk h2=>?_⟩,hhi⟩,by simp;omega,by simp⟩
   have hk2 : l[k].id ≤ l[m].id:=by
    rcases Nat.lt_or_ge k m with h3|h3
    ·exact Int.le_of_lt (List.pairwise_iff_getElem.1 hs.out k m hk hml h3)
    ·have : k = m:=by simp at h2;omega
     subst this
     exact Int.le_refl _
   have hm3 : l[m].id < n:=by simp only [cmpI] at h;split at h;assumption;split at h <;> omega
   omega
  ·refine ⟨(i,m),⟨by omega,by omega,hlo,⟨fun k hk h2=>?_⟩⟩,by simp;omega,by simp⟩
   have hm3 : n ≤ l[m].id:=by simp only [cmpI] at h;split at h;omega;split at h <;> omega
   have hk2 : l[m].id ≤ l[k].id:=by
    rcases Nat.lt_or_ge m k with h3|h3
    ·exact Int.le_of_lt (List.pairwise_iff_getElem.1 hs.out m k hml hk h3)
    ·have : k = m:=by simp at h2;omega
     subst this
     exact Int.le_refl _
   omega
 ·have hij2 : i = j:=by omega
  subst hij2
  have hrk : i = rk l n:=rk_eq hs.out hj hlo.out hhi.out
  subst hrk
  by_cases hr : rk l n < l.length
  ·have hA : isAt l n = decide (cmpI l[rk l n].id n = 0):=by
    unfold isAt
    rw [Bool.eq_iff_iff]
    simp only [decide_eq_true_eq,cmpI]
    constructor
    ·rintro ⟨_,e⟩;rw [e];simp
    ·intro e
     refine ⟨hr,?_⟩
     by_cases c1 : l[rk l n].id < n
     ·simp [c1] at e
     ·by_cases c2 : n < l[rk l n].id
      ·simp [c1,c2] at e
      ·omega
   repeat' (first
    |(with_reducible first|refine uK ?_|refine uX ?_|refine jq fun K hK=>?_|refine jb ?_)|((with_reducible first|refine rS hE ?_|refine jn ?_|refine js fun K' hK'=>?_|refine ji fun X Y hX hY=>?_|refine jr ?_|refine jk ?_|refine jx ?_);simp [*])|with_reducible refine rL hE ?_|(refine acall_same (s_has1 _ _) ?_ ?_ ?_;(iterate 2 focus (simp [*] <;> fail));simp [*])|(refine acall_view (s_has1 _ _) ?_ ?_ ?_;(iterate 2 focus (simp [*] <;> fail));simp [*])|with_reducible refine And.intro ?_ ?_|omega|(refine imp1 fun h=>?_))
  ·have hA : isAt l n = false:=by
    unfold isAt
    simp only [decide_eq_false_iff_not]
    rintro ⟨h2,_⟩
    omega
   repeat' (first
    |(with_reducible first|refine uK ?_|refine uX ?_|refine jq fun K hK=>?_|refine jb ?_)|((with_reducible first|refine rS hE ?_|refine jn ?_|refine js fun K' hK'=>?_|refine ji fun X Y hX hY=>?_|refine jr ?_|refine jk ?_|refine jx ?_);simp [*])|with_reducible refine rL hE ?_|(refine acall_same (s_has1 _ _) ?_ ?_ ?_;(iterate 2 focus (simp [*] <;> fail));simp [*])|(refine acall_view (s_has1 _ _) ?_ ?_ ?_;(iterate 2 focus (simp [*] <;> fail));simp [*])|with_reducible refine And.intro ?_ ?_|omega|(refine imp1 fun h=>?_))
theorem s_has (l : List Seg) (n : Int) (hs : Srt l) (hl : l.length ≤ 1000000) : PSpec Tryz.prog 88 [segL l,iA n] (.tup [encS ((findS l n).getD default),bA (hasB l n)]):=by
 by_cases h : ∃ h : rk l n < l.length,l[rk l n].id = n
 ·have hb : isAt l n = true:=decide_eq_true h
  obtain ⟨hlt,he⟩:=h
  have hf:=isAt_true hlt he
  have hh : hasB l n = true:=by simp [hasB,hf]
  rw [hf,hh]
  refine PSpec_of Tryz.func88 rfl rfl (Nat.le_of_ble_eq_true rfl) (Nat.le_of_ble_eq_true rfl) ?_
  intro E hE
  repeat' (first
   |(with_reducible first|refine uK ?_|refine uX ?_|refine jq fun K hK=>?_|refine jb ?_)|((with_reducible first|refine rS hE ?_|refine jn ?_|refine js fun K' hK'=>?_|refine ji fun X Y hX hY=>?_|refine jr ?_|refine jk ?_|refine jx ?_);simp [*])|with_reducible refine rL hE ?_|(refine jC (s_bs l n hs hl) ?_ ?_ ?_;(iterate 2 focus (simp [*] <;> fail));simp [*])|with_reducible refine And.intro ?_ ?_|omega|(refine imp1 fun h=>?_))
 ·have hf:=isAt_false hs h
  have hb : isAt l n = false:=decide_eq_false h
  have hh : hasB l n = false:=by simp [hasB,hf]
  rw [hf,hh]
  clear h
  refine PSpec_of Tryz.func88 rfl rfl (Nat.le_of_ble_eq_true rfl) (Nat.le_of_ble_eq_true rfl) ?_
  intro E hE
  repeat' (first
   |(with_reducible first|refine uK ?_|refine uX ?_|refine jq fun K hK=>?_|refine jb ?_)|((with_reducible first|refine rS hE ?_|refine jn ?_|refine js fun K' hK'=>?_|refine ji fun X Y hX hY=>?_|refine jr ?_|refine jk ?_|refine jx ?_);simp [*])|with_reducible refine rL hE ?_|(refine jC (s_bs l n hs hl) ?_ ?_ ?_;(iterate 2 focus (simp [*] <;> fail));simp [*])|with_reducible refine And.intro ?_ ?_|omega|(refine imp1 fun h=>?_))
  rfl
end Go.Proofs.YtbibemijcdkjhaaGreatDoor
end
section
namespace Go.Proofs.YtbibemijcdkjhaaGreatDoor
open Go.Am
theorem take_len {α β : Type} (f : α → β) (l : List α) : (l.map f).take (l.map f).length = l.map f:=List.take_length
@[simp] theorem take_len' {α β : Type} (f : α → β) (l : List α) : (l.map f).take l.length = l.map f:=by rw [← List.length_map (f:=f),List.take_length]
def idxB {α : Type} (l : List α) (p : α → Bool) : Int:=match l.findIdx? p with
 |some i=>i
 |none => -1
theorem idx_hit {α : Type} {l : List α} {p : α → Bool} {i : Nat} (hi : i < l.length) (h : p l[i] = true) (hb : ∀ j (hj : j < l.length),j < i → p l[j] = false) : idxB l p = i:=by
 have : l.findIdx? p = some i:=by
  rw [List.findIdx?_eq_some_iff_getElem]
  exact ⟨hi,h,fun j hj=>by simp [hb j (by omega) hj]⟩
 simp [idxB,this]
theorem idx_none {α : Type} {l : List α} {p : α → Bool} (hb : ∀ j (hj : j < l.length),p l[j] = false) : idxB l p = -1:=by
 have : l.findIdx? p = none:=by
  rw [List.findIdx?_eq_none_iff]
  intro x hx
  obtain ⟨j,hj,rfl⟩:=List.getElem_of_mem hx
  exact hb j hj
 simp [idxB,this]
theorem idx_ge {α : Type} (l : List α) (p : α → Bool) : decide (0 ≤ idxB l p) = l.any p:=by
 unfold idxB
 split
 ·rename_i i h
  rw [List.findIdx?_eq_some_iff_getElem] at h
  obtain ⟨hi,h,_⟩:=h
  have : l.any p = true:=List.any_eq_true.2 ⟨_,List.getElem_mem hi,h⟩
  rw [this]
  simp
 ·rename_i h
  rw [List.findIdx?_eq_none_iff] at h
  have : l.any p = false:=by
   rw [List.any_eq_false]
   intro x hx
   simp [h x hx]
  rw [this]
  simp
theorem s_idxI (l : List Int) (g : FuncId) (caps : List AV) (p : Int → Bool) (hc : idfL caps = true) (hp : ∀ x ∈ l,PSpec Tryz.prog g (iA x :: caps) (bA (p x))) (hl : l.length ≤ 1000000) :
 PSpec Tryz.prog 115 [.sl 1 (l.map iA),.fn (.func g) [] caps] (iA (idxB l p)):=by
 replace hp:=Hld.mk hp
 refine PSpec_of Tryz.func115 rfl rfl (Nat.le_of_ble_eq_true rfl) (Nat.le_of_ble_eq_true rfl) ?_
 intro E hE
 repeat' (first
  |(with_reducible first|refine uK ?_|refine uX ?_|refine jq fun K hK=>?_|refine jb ?_)|((with_reducible first|refine rS hE ?_|refine jn ?_|refine js fun K' hK'=>?_|refine ji fun X Y hX hY=>?_|refine jr ?_|refine jk ?_|refine jx ?_);simp [*])|with_reducible refine rL hE ?_|with_reducible refine And.intro ?_ ?_|omega|(refine imp1 fun h=>?_))
 refine AW_loopk (G:=Nat) (fun i=>⟨[(8,iA i),(7,iA l.length),(0,.sl 1 (l.map iA)),(1,.fn (.func g) [] caps)],[]⟩)
  (fun i=>i ≤ l.length ∧ Hld (∀ j (hj : j < l.length),j < i → p l[j] = false)) (fun i=>l.length - i) 0 ⟨by omega,⟨fun j hj h=>by omega⟩⟩ (by simp) ?_
 rintro i ⟨hi,hb⟩ K hK
 by_cases hlt : i < l.length
 ·have hx:=Hld.mk (hp.out l[i] (List.getElem_mem _))
  rcases hpi : p l[i] with _|_
  ·repeat' (first
    |(with_reducible first|refine uK ?_|refine uX ?_|refine jq fun K hK=>?_|refine jb ?_)|((with_reducible first|refine rS hE ?_|refine jn ?_|refine js fun K' hK'=>?_|refine ji fun X Y hX hY=>?_|refine jr ?_|refine jk ?_|refine jx ?_);simp [*])|with_reducible refine rL hE ?_|(refine jC (hx.out) ?_ ?_ ?_;(iterate 2 focus (simp [*] <;> fail));simp [*])|with_reducible refine And.intro ?_ ?_|omega|(refine imp1 fun h=>?_))
   refine ⟨i + 1,⟨by omega,⟨fun j hj h=>?_⟩⟩,by omega,by simp⟩
   rcases Nat.lt_succ_iff_lt_or_eq.1 h with h|rfl
   ·exact hb.out j hj h
   ·exact hpi
  ·have hidx:=idx_hit hlt hpi hb.out
   repeat' (first
    |(with_reducible first|refine uK ?_|refine uX ?_|refine jq fun K hK=>?_|refine jb ?_)|((with_reducible first|refine rS hE ?_|refine jn ?_|refine js fun K' hK'=>?_|refine ji fun X Y hX hY=>?_|refine jr ?_|refine jk ?_|refine jx ?_);simp [*])|with_reducible refine rL hE ?_|(refine jC (hx.out) ?_ ?_ ?_;(iterate 2 focus (simp [*] <;> fail));simp [*])|with_reducible refine And.intro ?_ ?_|omega|(refine imp1 fun h=>?_))
 ·have hil : i = l.length:=by omega
  subst hil
  have hidx:=idx_none (p:=p) (fun j hj=>hb.out j hj hj)
  repeat' (first
   |(with_reducible first|refine uK ?_|refine uX ?_|refine jq fun K hK=>?_|refine jb ?_)|((with_reducible first|refine rS hE ?_|refine jn ?_|refine js fun K' hK'=>?_|refine ji fun X Y hX hY=>?_|refine jr ?_|refine jk ?_|refine jx ?_);simp [*])|with_reducible refine rL hE ?_|with_reducible refine And.intro ?_ ?_|omega|(refine imp1 fun h=>?_))
theorem s_contI (l : List Int) (g : FuncId) (caps : List AV) (p : Int → Bool) (hc : idfL caps = true) (hp : ∀ x ∈ l,PSpec Tryz.prog g (iA x :: caps) (bA (p x))) (hl : l.length ≤ 1000000) :
 PSpec Tryz.prog 86 [.sl 1 (l.map iA),.fn (.func g) [] caps] (bA (l.any p)):=by
 have hs:=Hld.mk (s_idxI l g caps p hc hp hl)
 have hq:=idx_ge l p
 replace hp:=Hld.mk hp
 refine PSpec_of Tryz.func86 rfl rfl (Nat.le_of_ble_eq_true rfl) (Nat.le_of_ble_eq_true rfl) ?_
 intro E hE
 repeat' (first
  |(with_reducible first|refine uK ?_|refine uX ?_|refine jq fun K hK=>?_|refine jb ?_)|((with_reducible first|refine rS hE ?_|refine jn ?_|refine js fun K' hK'=>?_|refine ji fun X Y hX hY=>?_|refine jr ?_|refine jk ?_|refine jx ?_);simp [*])|with_reducible refine rL hE ?_|(refine jC (hs.out) ?_ ?_ ?_;(iterate 2 focus (simp [*] <;> fail));simp [*])|with_reducible refine And.intro ?_ ?_|omega|(refine imp1 fun h=>?_))
theorem s_idxL (l : List (List Seg)) (g : FuncId) (caps : List AV) (p : (List Seg) → Bool) (hc : idfL caps = true) (hp : ∀ x ∈ l,PSpec Tryz.prog g (segL x :: caps) (bA (p x))) (hl : l.length ≤ 1000000) :
 PSpec Tryz.prog 118 [.sl 1 (l.map segL),.fn (.func g) [] caps] (iA (idxB l p)):=by
 replace hp:=Hld.mk hp
 refine PSpec_of Tryz.func118 rfl rfl (Nat.le_of_ble_eq_true rfl) (Nat.le_of_ble_eq_true rfl) ?_
 intro E hE
 repeat' (first
  |(with_reducible first|refine uK ?_|refine uX ?_|refine jq fun K hK=>?_|refine jb ?_)|((with_reducible first|refine rS hE ?_|refine jn ?_|refine js fun K' hK'=>?_|refine ji fun X Y hX hY=>?_|refine jr ?_|refine jk ?_|refine jx ?_);simp [*])|with_reducible refine rL hE ?_|with_reducible refine And.intro ?_ ?_|omega|(refine imp1 fun h=>?_))
 refine AW_loopk (G:=Nat) (fun i=>⟨[(8,iA i),(7,iA l.length),(0,.sl 1 (l.map segL)),(1,.fn (.func g) [] caps)],[]⟩)
  (fun i=>i ≤ l.length ∧ Hld (∀ j (hj : j < l.length),j < i → p l[j] = false)) (fun i=>l.length - i) 0 ⟨by omega,⟨fun j hj h=>by omega⟩⟩ (by simp) ?_
 rintro i ⟨hi,hb⟩ K hK
 by_cases hlt : i < l.length
 ·have hx:=Hld.mk (hp.out l[i] (List.getElem_mem _))
  rcases hpi : p l[i] with _|_
  ·repeat' (first
    |(with_reducible first|refine uK ?_|refine uX ?_|refine jq fun K hK=>?_|refine jb ?_)|((with_reducible first|refine rS hE ?_|refine jn ?_|refine js fun K' hK'=>?_|refine ji fun X Y hX hY=>?_|refine jr ?_|refine jk ?_|refine jx ?_);simp [*])|with_reducible refine rL hE ?_|(refine jC (hx.out) ?_ ?_ ?_;(iterate 2 focus (simp [*] <;> fail));simp [*])|with_reducible refine And.intro ?_ ?_|omega|(refine imp1 fun h=>?_))
   refine ⟨i + 1,⟨by omega,⟨fun j hj h=>?_⟩⟩,by omega,by simp⟩
   rcases Nat.lt_succ_iff_lt_or_eq.1 h with h|rfl
   ·exact hb.out j hj h
   ·exact hpi
  ·have hidx:=idx_hit hlt hpi hb.out
   repeat' (first
    |(with_reducible first|refine uK ?_|refine uX ?_|refine jq fun K hK=>?_|refine jb ?_)|((with_reducible first|refine rS hE ?_|refine jn ?_|refine js fun K' hK'=>?_|refine ji fun X Y hX hY=>?_|refine jr ?_|refine jk ?_|refine jx ?_);simp [*])|with_reducible refine rL hE ?_|(refine jC (hx.out) ?_ ?_ ?_;(iterate 2 focus (simp [*] <;> fail));simp [*])|with_reducible refine And.intro ?_ ?_|omega|(refine imp1 fun h=>?_))
 ·have hil : i = l.length:=by omega
  subst hil
  have hidx:=idx_none (p:=p) (fun j hj=>hb.out j hj hj)
  repeat' (first
   |(with_reducible first|refine uK ?_|refine uX ?_|refine jq fun K hK=>?_|refine jb ?_)|((with_reducible first|refine rS hE ?_|refine jn ?_|refine js fun K' hK'=>?_|refine ji fun X Y hX hY=>?_|refine jr ?_|refine jk ?_|refine jx ?_);simp [*])|with_reducible refine rL hE ?_|with_reducible refine And.intro ?_ ?_|omega|(refine imp1 fun h=>?_))
theorem s_contL (l : List (List Seg)) (g : FuncId) (caps : List AV) (p : (List Seg) → Bool) (hc : idfL caps = true) (hp : ∀ x ∈ l,PSpec Tryz.prog g (segL x :: caps) (bA (p x))) (hl : l.length ≤ 1000000) :
 PSpec Tryz.prog 90 [.sl 1 (l.map segL),.fn (.func g) [] caps] (bA (l.any p)):=by
 have hs:=Hld.mk (s_idxL l g caps p hc hp hl)
 have hq:=idx_ge l p
 replace hp:=Hld.mk hp
 refine PSpec_of Tryz.func90 rfl rfl (Nat.le_of_ble_eq_true rfl) (Nat.le_of_ble_eq_true rfl) ?_
 intro E hE
 repeat' (first
  |(with_reducible first|refine uK ?_|refine uX ?_|refine jq fun K hK=>?_|refine jb ?_)|((with_reducible first|refine rS hE ?_|refine jn ?_|refine js fun K' hK'=>?_|refine ji fun X Y hX hY=>?_|refine jr ?_|refine jk ?_|refine jx ?_);simp [*])|with_reducible refine rL hE ?_|(refine jC (hs.out) ?_ ?_ ?_;(iterate 2 focus (simp [*] <;> fail));simp [*])|with_reducible refine And.intro ?_ ?_|omega|(refine imp1 fun h=>?_))
theorem s_idxS (l : List Seg) (g : FuncId) (caps : List AV) (p : Seg → Bool) (hc : idfL caps = true) (hp : ∀ x ∈ l,PSpec Tryz.prog g (encS x :: caps) (bA (p x))) (hl : l.length ≤ 1000000) :
 PSpec Tryz.prog 111 [.sl 9 (l.map encS),.fn (.func g) [] caps] (iA (idxB l p)):=by
 replace hp:=Hld.mk hp
 refine PSpec_of Tryz.func111 rfl rfl (Nat.le_of_ble_eq_true rfl) (Nat.le_of_ble_eq_true rfl) ?_
 intro E hE
 repeat' (first
  |(with_reducible first|refine uK ?_|refine uX ?_|refine jq fun K hK=>?_|refine jb ?_)|((with_reducible first|refine rS hE ?_|refine jn ?_|refine js fun K' hK'=>?_|refine ji fun X Y hX hY=>?_|refine jr ?_|refine jk ?_|refine jx ?_);simp [*])|with_reducible refine rL hE ?_|with_reducible refine And.intro ?_ ?_|omega|(refine imp1 fun h=>?_))
 refine AW_loopk (G:=Nat) (fun i=>⟨[(8,iA i),(7,iA l.length),(0,.sl 9 (l.map encS)),(1,.fn (.func g) [] caps)],[]⟩)
  (fun i=>i ≤ l.length ∧ Hld (∀ j (hj : j < l.length),j < i → p l[j] = false)) (fun i=>l.length - i) 0 ⟨by omega,⟨fun j hj h=>by omega⟩⟩ (by simp) ?_
 rintro i ⟨hi,hb⟩ K hK
 by_cases hlt : i < l.length
 ·have hx:=Hld.mk (hp.out l[i] (List.getElem_mem _))
  rcases hpi : p l[i] with _|_
  ·repeat' (first
    |(with_reducible first|refine uK ?_|refine uX ?_|refine jq fun K hK=>?_|refine jb ?_)|((with_reducible first|refine rS hE ?_|refine jn ?_|refine js fun K' hK'=>?_|refine ji fun X Y hX hY=>?_|refine jr ?_|refine jk ?_|refine jx ?_);simp [*])|with_reducible refine rL hE ?_|(refine jC (hx.out) ?_ ?_ ?_;(iterate 2 focus (simp [*] <;> fail));simp [*])|with_reducible refine And.intro ?_ ?_|omega|(refine imp1 fun h=>?_))
   refine ⟨i + 1,⟨by omega,⟨fun j hj h=>?_⟩⟩,by omega,by simp⟩
   rcases Nat.lt_succ_iff_lt_or_eq.1 h with h|rfl
   ·exact hb.out j hj h
   ·exact hpi
  ·have hidx:=idx_hit hlt hpi hb.out
   repeat' (first
    |(with_reducible first|refine uK ?_|refine uX ?_|refine jq fun K hK=>?_|refine jb ?_)|((with_reducible first|refine rS hE ?_|refine jn ?_|refine js fun K' hK'=>?_|refine ji fun X Y hX hY=>?_|refine jr ?_|refine jk ?_|refine jx ?_);simp [*])|with_reducible refine rL hE ?_|(refine jC (hx.out) ?_ ?_ ?_;(iterate 2 focus (simp [*] <;> fail));simp [*])|with_reducible refine And.intro ?_ ?_|omega|(refine imp1 fun h=>?_))
 ·have hil : i = l.length:=by omega
  subst hil
  have hidx:=idx_none (p:=p) (fun j hj=>hb.out j hj hj)
  repeat' (first
   |(with_reducible first|refine uK ?_|refine uX ?_|refine jq fun K hK=>?_|refine jb ?_)|((with_reducible first|refine rS hE ?_|refine jn ?_|refine js fun K' hK'=>?_|refine ji fun X Y hX hY=>?_|refine jr ?_|refine jk ?_|refine jx ?_);simp [*])|with_reducible refine rL hE ?_|with_reducible refine And.intro ?_ ?_|omega|(refine imp1 fun h=>?_))
theorem s_index (l : List Int) (n : Int) (hl : l.length ≤ 1000000) : PSpec Tryz.prog 112 [.sl 1 (l.map iA),iA n] (iA (idxB l fun x=>decide (x = n))):=by
 refine PSpec_of Tryz.func112 rfl rfl (Nat.le_of_ble_eq_true rfl) (Nat.le_of_ble_eq_true rfl) ?_
 intro E hE
 repeat' (first
  |(with_reducible first|refine uK ?_|refine uX ?_|refine jq fun K hK=>?_|refine jb ?_)|((with_reducible first|refine rS hE ?_|refine jn ?_|refine js fun K' hK'=>?_|refine ji fun X Y hX hY=>?_|refine jr ?_|refine jk ?_|refine jx ?_);simp [*])|with_reducible refine rL hE ?_|with_reducible refine And.intro ?_ ?_|omega|(refine imp1 fun h=>?_))
 refine AW_loopk (G:=Nat) (fun i=>⟨[(8,iA i),(7,iA l.length),(0,.sl 1 (l.map iA)),(1,iA n)],[]⟩)
  (fun i=>i ≤ l.length ∧ Hld (∀ j (hj : j < l.length),j < i → decide (l[j] = n) = false)) (fun i=>l.length - i) 0 ⟨by omega,⟨fun j hj h=>by omega⟩⟩ (by simp) ?_
 rintro i ⟨hi,hb⟩ K hK
 by_cases hlt : i < l.length
 ·by_cases hpi : l[i] = n
  ·have hidx:=idx_hit (p:=fun x=>decide (x = n)) hlt (by simpa using hpi) hb.out
   repeat' (first
    |(with_reducible first|refine uK ?_|refine uX ?_|refine jq fun K hK=>?_|refine jb ?_)|((with_reducible first|refine rS hE ?_|refine jn ?_|refine js fun K' hK'=>?_|refine ji fun X Y hX hY=>?_|refine jr ?_|refine jk ?_|refine jx ?_);simp [*])|with_reducible refine rL hE ?_|with_reducible refine And.intro ?_ ?_|omega|(refine imp1 fun h=>?_))
  ·have hpi' : ¬ n = l[i]:=fun e=>hpi e.symm
   repeat' (first
    |(with_reducible first|refine uK ?_|refine uX ?_|refine jq fun K hK=>?_|refine jb ?_)|((with_reducible first|refine rS hE ?_|refine jn ?_|refine js fun K' hK'=>?_|refine ji fun X Y hX hY=>?_|refine jr ?_|refine jk ?_|refine jx ?_);simp [*])|with_reducible refine rL hE ?_|with_reducible refine And.intro ?_ ?_|omega|(refine imp1 fun h=>?_))
   refine ⟨i + 1,⟨by omega,⟨fun j hj h=>?_⟩⟩,by omega,by simp⟩
   rcases Nat.lt_succ_iff_lt_or_eq.1 h with h|rfl
   ·exact hb.out j hj h
   ·simpa using hpi
 ·have hil : i = l.length:=by omega
  subst hil
  have hidx:=idx_none (p:=fun x=>decide (x = n)) (fun j hj=>hb.out j hj hj)
  repeat' (first
   |(with_reducible first|refine uK ?_|refine uX ?_|refine jq fun K hK=>?_|refine jb ?_)|((with_reducible first|refine rS hE ?_|refine jn ?_|refine js fun K' hK'=>?_|refine ji fun X Y hX hY=>?_|refine jr ?_|refine jk ?_|refine jx ?_);simp [*])|with_reducible refine rL hE ?_|with_reducible refine And.intro ?_ ?_|omega|(refine imp1 fun h=>?_))
theorem s_contains (l : List Int) (n : Int) (hl : l.length ≤ 1000000) : PSpec Tryz.prog 82 [.sl 1 (l.map iA),iA n] (bA (l.any fun x=>decide (x = n))):=by
 have hq:=idx_ge l (fun x=>decide (x = n))
 refine PSpec_of Tryz.func82 rfl rfl (Nat.le_of_ble_eq_true rfl) (Nat.le_of_ble_eq_true rfl) ?_
 intro E hE
 repeat' (first
  |(with_reducible first|refine uK ?_|refine uX ?_|refine jq fun K hK=>?_|refine jb ?_)|((with_reducible first|refine rS hE ?_|refine jn ?_|refine js fun K' hK'=>?_|refine ji fun X Y hX hY=>?_|refine jr ?_|refine jk ?_|refine jx ?_);simp [*])|with_reducible refine rL hE ?_|(refine jC (s_index l n hl) ?_ ?_ ?_;(iterate 2 focus (simp [*] <;> fail));simp [*])|with_reducible refine And.intro ?_ ?_|omega|(refine imp1 fun h=>?_))
theorem m_cloneS (l : List Seg) (hl : l.length ≤ 1000000) : MSpec Tryz.prog 50 [.sl 9 (l.map encS)] [] (fun res bf=>(res = .own 5 9 0 l.length ∧ bf 5 = some (.arr 70 9 (l.map encS))) ∨ (l = [] ∧ res = .v (.slice none 0 0))):=by
 refine MSpec_of Tryz.func50 rfl rfl (Nat.le_of_ble_eq_true rfl) (Nat.le_of_ble_eq_true rfl) ?_
 intro E hE
 refine AW_seq fun K hK=>?_
 refine AW_region (by rw [hE];decide) ?_
 simp
 refine hK _ ?_
 clear hK
 refine AW_seq fun K0 hK0=>?_
 refine AW_seq fun K1 hK1=>?_
 refine AW_region (by rw [hE];decide) ?_
 simp
 have fin1 : ∀ s',s'.le ⟨[(4,bA true),(0,.sl 9 (l.map encS))],[]⟩ → l = [] → K1 s':=by
  intro s' hs' hl0
  refine hK1 _ ?_
  refine AW_le hs' ?_
  refine AW_cond (t:=true) (by simp) ?_ ?_
  ·intro _
   refine AW_seq fun K hK=>?_
   refine AW_region (by rw [hE];decide) ?_
   simp
   refine hK _ ?_
   clear hK
   refine AW_ret ?_
   simp [hl0]
  ·intro h;cases h
 have fin2 : ∀ s',s'.le ⟨[(4,bA false),(0,.sl 9 (l.map encS))],[]⟩ → K1 s':=by
  intro s' hs'
  refine hK1 _ ?_
  refine AW_le hs' ?_
  refine AW_cond (t:=false) (by simp) ?_ ?_
  ·intro h;cases h
  intro _
  refine AW_skip ?_
  simp
  refine hK0 _ ?_
  refine AW_seq fun K hK=>?_
  refine AW_region (by rw [hE];decide) ?_
  simp
  repeat' apply And.intro
  all_goals try omega
  all_goals try decide
  refine hK _ ?_
  clear hK
  refine AW_ret ?_
  simp
 constructor
 ·intro h
  exact fin2 _ (by simp)
 ·intro h
  refine ⟨?_,?_⟩
  ·exact fin2 _ (by simp)
  ·exact fin1 _ (by simp) h
theorem r_cloneS (l : List Seg) (hl : l.length ≤ 1000000) : RSpec Tryz.prog 50 [.sl 9 (l.map encS)] 70 9 (l.map encS) :=
 MSpec.mono (m_cloneS l hl) (by
  rintro res bf (⟨rfl,h⟩|⟨rfl,rfl⟩)
  ·exact .inl ⟨5,_,by simp,h,take_len _ l⟩
  ·exact .inr ⟨rfl,rfl⟩)
theorem s_cloneS (l : List Seg) (hl : l.length ≤ 1000000) : PSpec Tryz.prog 50 [.sl 9 (l.map encS)] (.sl 9 (l.map encS)):=(r_cloneS l hl).toP (by simp)
theorem m_cloneL (l : List (List Seg)) (hl : l.length ≤ 1000000) : MSpec Tryz.prog 59 [.sl 1 (l.map segL)] [] (fun res bf=>(res = .own 5 1 0 l.length ∧ bf 5 = some (.arr 34 1 (l.map segL))) ∨ (l = [] ∧ res = .v (.slice none 0 0))):=by
 refine MSpec_of Tryz.func59 rfl rfl (Nat.le_of_ble_eq_true rfl) (Nat.le_of_ble_eq_true rfl) ?_
 intro E hE
 refine AW_seq fun K hK=>?_
 refine AW_region (by rw [hE];decide) ?_
 simp
 refine hK _ ?_
 clear hK
 refine AW_seq fun K0 hK0=>?_
 refine AW_seq fun K1 hK1=>?_
 refine AW_region (by rw [hE];decide) ?_
 simp
 have fin1 : ∀ s',s'.le ⟨[(4,bA true),(0,.sl 1 (l.map segL))],[]⟩ → l = [] → K1 s':=by
  intro s' hs' hl0
  refine hK1 _ ?_
  refine AW_le hs' ?_
  refine AW_cond (t:=true) (by simp) ?_ ?_
  ·intro _
   refine AW_seq fun K hK=>?_
   refine AW_region (by rw [hE];decide) ?_
   simp
   refine hK _ ?_
   clear hK
   refine AW_ret ?_
   simp [hl0]
  ·intro h;cases h
 have fin2 : ∀ s',s'.le ⟨[(4,bA false),(0,.sl 1 (l.map segL))],[]⟩ → K1 s':=by
  intro s' hs'
  refine hK1 _ ?_
  refine AW_le hs' ?_
  refine AW_cond (t:=false) (by simp) ?_ ?_
  ·intro h;cases h
  intro _
  refine AW_skip ?_
  simp
  refine hK0 _ ?_
  refine AW_seq fun K hK=>?_
  refine AW_region (by rw [hE];decide) ?_
  simp
  repeat' apply And.intro
  all_goals try omega
  all_goals try decide
  refine hK _ ?_
  clear hK
  refine AW_ret ?_
  simp
 constructor
 ·intro h
  exact fin2 _ (by simp)
 ·intro h
  refine ⟨?_,?_⟩
  ·exact fin2 _ (by simp)
  ·exact fin1 _ (by simp) h
theorem r_cloneL (l : List (List Seg)) (hl : l.length ≤ 1000000) : RSpec Tryz.prog 59 [.sl 1 (l.map segL)] 34 1 (l.map segL) :=
 MSpec.mono (m_cloneL l hl) (by
  rintro res bf (⟨rfl,h⟩|⟨rfl,rfl⟩)
  ·exact .inl ⟨5,_,by simp,h,take_len _ l⟩
  ·exact .inr ⟨rfl,rfl⟩)
end Go.Proofs.YtbibemijcdkjhaaGreatDoor
end
section
namespace Go.Proofs
open Go.Shelf
def Tryz.sortFunc_ren : Go.Shelf.Ren:=⟨fun|6=>83|15=>74|14=>113|28=>104|29=>105|20=>134|21=>135|22=>136|23=>137|24=>138|25=>139|26=>140|27=>141|46=>155|47=>120|48=>121|49=>156|50=>157|57=>162|n=>n,fun|22=>34|24=>70|25=>122|3=>3|39=>110|0=>0|53=>137|55=>139|4=>4|46=>130|45=>129|50=>81|5=>5|9=>9|66=>151|70=>155|76=>173|77=>174|n=>n,fun|n=>n⟩
theorem Tryz.sortFunc : Go.Proofs.SlLaysF0.n6 Tryz.prog Tryz.sortFunc_ren:={
 mixed:=by kernel_rfl
 f6:=⟨Tryz.f83.name,by decide,Tryz.func83.trans (congrArg some (by kernel_rfl))⟩
 f14:=⟨Tryz.f113.name,by decide,Tryz.func113.trans (congrArg some (by kernel_rfl))⟩
 f15:=Tryz.func74.trans (congrArg some (by kernel_rfl))
 f20:=⟨Tryz.f134.name,by decide,Tryz.func134.trans (congrArg some (by kernel_rfl))⟩
 f21:=⟨Tryz.f135.name,by decide,Tryz.func135.trans (congrArg some (by kernel_rfl))⟩
 f22:=⟨Tryz.f136.name,by decide,Tryz.func136.trans (congrArg some (by kernel_rfl))⟩
 f23:=⟨Tryz.f137.name,by decide,Tryz.func137.trans (congrArg some (by kernel_rfl))⟩
 f24:=⟨Tryz.f138.name,by decide,Tryz.func138.trans (congrArg some (by kernel_rfl))⟩
 f25:=⟨Tryz.f139.name,by decide,Tryz.func139.trans (congrArg some (by kernel_rfl))⟩
 f26:=⟨Tryz.f140.name,by decide,Tryz.func140.trans (congrArg some (by kernel_rfl))⟩
 f27:=⟨Tryz.f141.name,by decide,Tryz.func141.trans (congrArg some (by kernel_rfl))⟩
 f28:=Tryz.func104.trans (congrArg some (by kernel_rfl))
 f29:=Tryz.func105.trans (congrArg some (by kernel_rfl))
 f46:=⟨Tryz.f155.name,by decide,Tryz.func155.trans (congrArg some (by kernel_rfl))⟩
 f47:=Tryz.func120.trans (congrArg some (by kernel_rfl))
 f48:=Tryz.func121.trans (congrArg some (by kernel_rfl))
 f49:=⟨Tryz.f156.name,by decide,Tryz.func156.trans (congrArg some (by kernel_rfl))⟩
 f50:=⟨Tryz.f157.name,by decide,Tryz.func157.trans (congrArg some (by kernel_rfl))⟩
 f57:=⟨Tryz.f162.name,by decide,Tryz.func162.trans (congrArg some (by kernel_rfl))⟩
 t0:=Tryz.underlying0
 a0:=Tryz.isAgg0
 z0:=Tryz.sizeOf0
 v0:=Tryz.zeroValue0
 t3:=Tryz.underlying3
 a3:=Tryz.isAgg3
 z3:=Tryz.sizeOf3
 v3:=Tryz.zeroValue3
 t4:=Tryz.underlying4
 a4:=Tryz.isAgg4
 z4:=Tryz.sizeOf4
 v4:=Tryz.zeroValue4
 t5:=Tryz.underlying5
 a5:=Tryz.isAgg5
 z5:=Tryz.sizeOf5
 v5:=Tryz.zeroValue5
 t9:=Tryz.underlying9
 a9:=Tryz.isAgg9
 z9:=Tryz.sizeOf9
 v9:=Tryz.zeroValue9
 t22:=Tryz.underlying34
 a22:=Tryz.isAgg34
 z22:=Tryz.sizeOf34
 v22:=Tryz.zeroValue34
 t25:=Tryz.underlying122
 a25:=Tryz.isAgg122
 z25:=Tryz.sizeOf122
 v25:=Tryz.zeroValue122
 t39:=Tryz.underlying110
 a39:=Tryz.isAgg110
 z39:=Tryz.sizeOf110
 v39:=Tryz.zeroValue110
 t45:=Tryz.underlying129
 a45:=Tryz.isAgg129
 z45:=Tryz.sizeOf129
 v45:=Tryz.zeroValue129
 t46:=Tryz.underlying130
 a46:=Tryz.isAgg130
 z46:=Tryz.sizeOf130
 v46:=Tryz.zeroValue130
 t50:=Tryz.underlying81
 a50:=Tryz.isAgg81
 z50:=Tryz.sizeOf81
 v50:=Tryz.zeroValue81
 t53:=Tryz.underlying137
 a53:=Tryz.isAgg137
 z53:=Tryz.sizeOf137
 v53:=Tryz.zeroValue137
 t55:=Tryz.underlying139
 a55:=Tryz.isAgg139
 z55:=Tryz.sizeOf139
 v55:=Tryz.zeroValue139
 t66:=Tryz.underlying151
 a66:=Tryz.isAgg151
 z66:=Tryz.sizeOf151
 v66:=Tryz.zeroValue151
 t70:=Tryz.underlying155
 a70:=Tryz.isAgg155
 z70:=Tryz.sizeOf155
 v70:=Tryz.zeroValue155
 t76:=Tryz.underlying173
 a76:=Tryz.isAgg173
 z76:=Tryz.sizeOf173
 v76:=Tryz.zeroValue173
 t77:=Tryz.underlying174
 a77:=Tryz.isAgg174
 z77:=Tryz.sizeOf174
 v77:=Tryz.zeroValue174 }
end Go.Proofs
end
section
namespace Go.Proofs.YtbibemijcdkjhaaGreatDoor
open Go.Am
@[simp] theorem idfL_app (a b : List AV) : idfL (a ++ b) = (idfL a && idfL b):=by induction a with|nil=>simp [idfL]|cons c a ih=>simp [idfL,ih,Bool.and_assoc]
theorem s_hasAll1 (l : List Seg) (n : Int) (hs : Srt l) (hl : l.length ≤ 1000000) : PSpec Tryz.prog 87 [iA n,.ep (segL l)] (bA (!hasB l n)):=by
 replace hs:=Hld.mk hs
 refine PSpec_of Tryz.func87 rfl rfl (Nat.le_of_ble_eq_true rfl) (Nat.le_of_ble_eq_true rfl) ?_
 intro E hE
 repeat' (first
  |(with_reducible first|refine uK ?_|refine uX ?_|refine jq fun K hK=>?_|refine jb ?_)|((with_reducible first|refine rS hE ?_|refine jn ?_|refine js fun K' hK'=>?_|refine ji fun X Y hX hY=>?_|refine jr ?_|refine jk ?_|refine jx ?_);simp [*])|with_reducible refine rL hE ?_|(refine jC (s_has l n hs.out hl) ?_ ?_ ?_;(iterate 2 focus (simp [*] <;> fail));simp [*])|with_reducible refine And.intro ?_ ?_|omega|(refine imp1 fun h=>?_))
def hasAllB (l : List Seg) (ids : List Int) : Bool:=ids.all fun n=>hasB l n
theorem hasAllB_eq (l : List Seg) (ids : List Int) : (!ids.any fun n=>!hasB l n) = hasAllB l ids:=by
 unfold hasAllB
 induction ids with
 |nil=>rfl
 |cons a ids ih=>simp [← ih]
theorem s_hasAll (l : List Seg) (ids : List Int) (hs : Srt l) (hl : l.length ≤ 1000000) (hi : ids.length ≤ 1000000) : PSpec Tryz.prog 58 [segL l,.sl 1 (ids.map iA)] (bA (hasAllB l ids)):=by
 have hq:=s_contI ids 87 [.ep (segL l)] (fun n=>!hasB l n) rfl (fun n _=>s_hasAll1 l n hs hl) hi
 replace hq:=Hld.mk hq
 have he:=hasAllB_eq l ids
 refine PSpec_of Tryz.func58 rfl rfl (Nat.le_of_ble_eq_true rfl) (Nat.le_of_ble_eq_true rfl) ?_
 intro E hE
 refine AW_seqt ⟨[(2,.loc 2 0),(1,.sl 1 (ids.map iA))],[(2,.box 34 (segL l))]⟩ ?_ ?_
 ·refine AW_freeze 2 (t:=⟨[(2,.ep (segL l)),(1,.sl 1 (ids.map iA))],[]⟩) rfl (by simp) (by simp) ?_
  repeat' (first
   |(with_reducible first|refine uK ?_|refine uX ?_|refine jq fun K hK=>?_|refine jb ?_)|((with_reducible first|refine rS hE ?_|refine jn ?_|refine js fun K' hK'=>?_|refine ji fun X Y hX hY=>?_|refine jr ?_|refine jk ?_|refine jx ?_);simp [*])|with_reducible refine rL hE ?_|(refine jC (hq.out) ?_ ?_ ?_;(iterate 2 focus (simp [*] <;> fail));simp [*])|with_reducible refine And.intro ?_ ?_|omega|(refine imp1 fun h=>?_))
 ·intro K hK
  repeat' (first
   |(with_reducible first|refine uK ?_|refine uX ?_|refine jq fun K hK=>?_|refine jb ?_)|((with_reducible first|refine rS hE ?_|refine jn ?_|refine js fun K' hK'=>?_|refine ji fun X Y hX hY=>?_|refine jr ?_|refine jk ?_|refine jx ?_);simp [*])|with_reducible refine rL hE ?_|with_reducible refine And.intro ?_ ?_|omega|(refine imp1 fun h=>?_))
  all_goals simp
theorem s_removal1 (l : List Seg) (e : Ed) (hs : Srt l) (hl : l.length ≤ 1000000) (hi : e.rem.length ≤ 1000000) : PSpec Tryz.prog 91 [segL l,.ep (encE e)] (bA (hasAllB l e.rem)):=by
 replace hs:=Hld.mk hs
 refine PSpec_of Tryz.func91 rfl rfl (Nat.le_of_ble_eq_true rfl) (Nat.le_of_ble_eq_true rfl) ?_
 intro E hE
 repeat' (first
  |(with_reducible first|refine uK ?_|refine uX ?_|refine jq fun K hK=>?_|refine jb ?_)|((with_reducible first|refine rS hE ?_|refine jn ?_|refine js fun K' hK'=>?_|refine ji fun X Y hX hY=>?_|refine jr ?_|refine jk ?_|refine jx ?_);simp [*])|with_reducible refine rL hE ?_|(refine jC (s_hasAll l e.rem hs.out hl hi) ?_ ?_ ?_;(iterate 2 focus (simp [*] <;> fail));simp [*])|with_reducible refine And.intro ?_ ?_|omega|(refine imp1 fun h=>?_))
def inI (l : List Int) (n : Int) : Bool:=l.any fun x=>decide (x = n)
theorem s_changed1 (s : Seg) (e : Ed) (hi : e.rem.length ≤ 1000000) : PSpec Tryz.prog 81 [encS s,.ep (encE e)] (bA (inI e.rem s.id)):=by
 refine PSpec_of Tryz.func81 rfl rfl (Nat.le_of_ble_eq_true rfl) (Nat.le_of_ble_eq_true rfl) ?_
 intro E hE
 repeat' (first
  |(with_reducible first|refine uK ?_|refine uX ?_|refine jq fun K hK=>?_|refine jb ?_)|((with_reducible first|refine rS hE ?_|refine jn ?_|refine js fun K' hK'=>?_|refine ji fun X Y hX hY=>?_|refine jr ?_|refine jk ?_|refine jx ?_);simp [*])|with_reducible refine rL hE ?_|(refine jC (s_contains e.rem s.id hi) ?_ ?_ ?_;(iterate 2 focus (simp [*] <;> fail));simp [*])|with_reducible refine And.intro ?_ ?_|omega|(refine imp1 fun h=>?_))
 rfl
theorem m_del0 (l : List Seg) (g : FuncId) (caps : List AV) (p : Seg → Bool) (hc : idfL caps = true) (hp : ∀ x,PSpec Tryz.prog g (encS x :: caps) (bA (p x))) (hl : l.length ≤ 1000000) :
 MSpec Tryz.prog 80 [.own 1000000 9 0 l.length,.fn (.func g) [] caps] [(1000000,.arr 70 9 (l.map encS))]
  (fun res bf=>res = .own 1000000 9 0 (l.filter fun x=>!p x).length ∧ ∃ zs m,bf 1000000 = some (.arr 70 9 zs) ∧ zs.take m = (l.filter fun x=>!p x).map encS):=by
 have hidx:=s_idxS l g caps p hc (fun x _=>hp x) hl
 replace hp:=Hld.mk hp
 rcases hfi : l.findIdx? p with _|i0
 ·have hix : idxB l p = -1:=by simp [idxB,hfi]
  have hfl : (l.filter fun x=>!p x) = l:=by
   rw [List.filter_eq_self]
   intro x hx
   rw [List.findIdx?_eq_none_iff] at hfi
   simp [hfi x hx]
  rw [hix] at hidx
  replace hidx:=Hld.mk hidx
  rw [hfl]
  refine MSpec_of Tryz.func80 rfl rfl (Nat.le_of_ble_eq_true rfl) (Nat.le_of_ble_eq_true rfl) ?_
  intro E hE
  repeat' (first
   |(with_reducible first|refine uK ?_|refine uX ?_|refine jq fun K hK=>?_|refine jb ?_)|((with_reducible first|refine rS hE ?_|refine jn ?_|refine js fun K' hK'=>?_|refine ji fun X Y hX hY=>?_|refine jr ?_|refine jk ?_|refine jx ?_);simp [*])|with_reducible refine rL hE ?_|(refine jC (hidx.out) ?_ ?_ ?_;(iterate 2 focus (simp [*] <;> fail));simp [*])|with_reducible refine And.intro ?_ ?_|omega|(refine imp1 fun h=>?_))
  exact ⟨l.length,by simp⟩
 ·have hix : idxB l p = (i0 : Int):=by simp [idxB,hfi]
  rw [List.findIdx?_eq_some_iff_getElem] at hfi
  obtain ⟨hi0,hpi,hbef⟩:=hfi
  rw [hix] at hidx
  replace hidx:=Hld.mk hidx
  have hne : ¬ (i0 : Int) = -1:=by omega
  replace hpi:=Hld.mk hpi
  replace hbef:=Hld.mk hbef
  refine MSpec_of Tryz.func80 rfl rfl (Nat.le_of_ble_eq_true rfl) (Nat.le_of_ble_eq_true rfl) ?_
  intro E hE
  repeat' (first
   |(with_reducible first|refine uK ?_|refine uX ?_|refine jq fun K hK=>?_|refine jb ?_)|((with_reducible first|refine rS hE ?_|refine jn ?_|refine js fun K' hK'=>?_|refine ji fun X Y hX hY=>?_|refine jr ?_|refine jk ?_|refine jx ?_);simp [*])|with_reducible refine rL hE ?_|(refine jC (hidx.out) ?_ ?_ ?_;(iterate 2 focus (simp [*] <;> fail));simp [*])|with_reducible refine And.intro ?_ ?_|omega|(refine imp1 fun h=>?_))
  refine AW_loopk (G:=Nat × Nat × List Seg) (fun q=>⟨[(6,iA q.1),(5,iA q.2.1),(0,.own 1000000 9 0 l.length),(1,.fn (.func g) [] caps)],[(1000000,.arr 70 9 (q.2.2.map encS))]⟩)
   (fun q=>q.2.1 < q.1 ∧ q.1 ≤ l.length ∧ q.2.2.length = l.length ∧ Hld (q.2.2.take q.2.1 = (l.take q.1).filter fun x=>!p x) ∧ Hld (∀ k (h : k < l.length) (h' : k < q.2.2.length),q.1 ≤ k → q.2.2[k] = l[k])) (fun q=>l.length - q.1) (i0 + 1,i0,l)
   ⟨by simp,by simp;omega,rfl,⟨?_⟩,⟨fun k h h' hk=>rfl⟩⟩ (by simp) ?_
  ·simp only
   rw [List.take_succ_eq_append_getElem hi0,List.filter_append]
   have e1 : (l.take i0).filter (fun x=>!p x) = l.take i0:=by
    rw [List.filter_eq_self]
    intro x hx
    obtain ⟨j,hj,rfl⟩:=List.getElem_of_mem hx
    have hj' : j < i0:=by simp at hj;omega
    have:=hbef.out j hj'
    simp at this
    simp [this]
   rw [e1]
   simp [hpi.out]
  rintro ⟨j,i,ws⟩ ⟨hij,hj,hwl,htk,hrest⟩ K hK
  simp only at hij hj hwl htk hrest
  simp only
  by_cases hlt : j < l.length
  ·have hjw : j < ws.length:=by omega
   have hiw : i < ws.length:=by omega
   have hil : i < l.length:=by omega
   have hwj : ws[j] = l[j]:=hrest.out j hlt hjw (Nat.le_refl _)
   have hx:=Hld.mk (hp.out l[j])
   have hcm : ∀ d,mentL d caps = false:=fun d=>idfL_ment d caps hc
   have hfs:=List.take_succ_eq_append_getElem hlt
   replace hfs:=Hld.mk hfs
   rcases hpj : p l[j] with _|_
   ·repeat' (first
     |(with_reducible first|refine uK ?_|refine uX ?_|refine jq fun K hK=>?_|refine jb ?_)|((with_reducible first|refine rS hE ?_|refine jn ?_|refine js fun K' hK'=>?_|refine ji fun X Y hX hY=>?_|refine jr ?_|refine jk ?_|refine jx ?_);simp [*])|with_reducible refine rL hE ?_|(refine jC (hx.out) ?_ ?_ ?_;(iterate 2 focus (simp [*] <;> fail));simp [*])|with_reducible refine And.intro ?_ ?_|omega|(refine imp1 fun h=>?_))
    refine ⟨(j + 1,i + 1,ws.set i l[j]),⟨by simp;omega,by simp;omega,by simp;omega,⟨?_⟩,⟨fun k h h' hk=>?_⟩⟩,by simp;omega,by simp [List.map_set]⟩
    ·simp only
     have e1 : (ws.set i l[j]).take (i + 1) = ws.take i ++ [l[j]]:=by
      rw [List.take_succ_eq_append_getElem (by simpa using hiw),List.take_set_of_le (Nat.le_refl _)]
      simp
     rw [e1,hfs.out,List.filter_append,htk.out]
     simp [hpj]
    ·simp only at h' hk ⊢
     rw [List.getElem_set_ne (by omega)]
     exact hrest.out k h (by simpa using h') (by omega)
   ·repeat' (first
     |(with_reducible first|refine uK ?_|refine uX ?_|refine jq fun K hK=>?_|refine jb ?_)|((with_reducible first|refine rS hE ?_|refine jn ?_|refine js fun K' hK'=>?_|refine ji fun X Y hX hY=>?_|refine jr ?_|refine jk ?_|refine jx ?_);simp [*])|with_reducible refine rL hE ?_|(refine jC (hx.out) ?_ ?_ ?_;(iterate 2 focus (simp [*] <;> fail));simp [*])|with_reducible refine And.intro ?_ ?_|omega|(refine imp1 fun h=>?_))
    refine ⟨(j + 1,i,ws),⟨by simp;omega,by simp;omega,hwl,⟨?_⟩,⟨fun k h h' hk=>hrest.out k h h' (by simp at hk;omega)⟩⟩,by simp;omega,by simp⟩
    simp only
    rw [hfs.out,List.filter_append,htk.out]
    simp [hpj]
  ·have hjl : j = l.length:=by omega
   subst hjl
   have htk2:=htk.out
   rw [List.take_length] at htk2
   have hfl : (l.filter fun x=>!p x).length = i:=by rw [← htk2,List.length_take];omega
   replace htk2:=Hld.mk htk2
   repeat' (first
    |(with_reducible first|refine uK ?_|refine uX ?_|refine jq fun K hK=>?_|refine jb ?_)|((with_reducible first|refine rS hE ?_|refine jn ?_|refine js fun K' hK'=>?_|refine ji fun X Y hX hY=>?_|refine jr ?_|refine jk ?_|refine jx ?_);simp [*])|with_reducible refine rL hE ?_|with_reducible refine And.intro ?_ ?_|omega|(refine imp1 fun h=>?_))
   exact ⟨i,by rw [List.take_append_of_le_length (by simp;omega),List.take_take,Nat.min_self,← List.map_take,htk2.out]⟩
theorem w_del (l : List Seg) (g : FuncId) (caps : List AV) (p : Seg → Bool) (hc : idfL caps = true) (hp : ∀ x,PSpec Tryz.prog g (encS x :: caps) (bA (p x))) (hl : l.length ≤ 1000000) (n : Nat) (hn : l.length = n) :
 MSpec Tryz.prog 80 [.own 1000000 9 0 n,.fn (.func g) [] caps] [(1000000,.arr 70 9 (l.map encS))]
  (fun res bf=>res = .own 1000000 9 0 (l.filter fun x=>!p x).length ∧ bf 1000000 = some (.arr 70 9 ((l.filter fun x=>!p x).map encS))) :=
 MSpec.cut (hn ▸ m_del0 l g caps p hc hp hl)
theorem cmpI_lt (a b : Int) : cmpI a b < 0 ↔ a < b:=by
 unfold cmpI
 split
 ·rename_i h;exact ⟨fun _=>h,fun _=>by omega⟩
 ·split <;> (rename_i h1 h2;exact ⟨fun h=>by omega,fun h=>by omega⟩)
def valS (s : Seg) : List Value:=[.int .i64 s.id,.int .i64 s.x0,.int .i64 s.x1,.int .i64 s.y0,.int .i64 s.y1,.int .i64 s.t0,.int .i64 s.t1,.int .i64 s.un,.int .i64 s.by_]
def srtS (l : List Seg) : List Seg:=sortL (fun a b=>cmpI a.id b.id) l
theorem srtS_len (l : List Seg) : (srtS l).length = l.length:=by unfold srtS sortL;simp
theorem w_sortQ (Q : Seg → Prop) (q0 : Seg) (hq0 : Q q0) (hQ : ∀ a b,Q a → Q b → a.id = b.id → a = b) (l : List Seg) (hl : ∀ s ∈ l,Q s) (hn : l.length ≤ 1000000) :
 MSpec Tryz.prog 83 [.own 1000000 9 0 l.length,.fn (.func 84) [] []] [(1000000,.arr 70 9 (l.map encS))]
  (fun res bf=>res = .tup [] ∧ bf 1000000 = some (.arr 70 9 ((srtS l).map encS))):=by
 let α:={ s : Seg // Q s }
 haveI : Inhabited α:=⟨⟨q0,hq0⟩⟩
 let cf : α → α → Int:=fun a b=>cmpI a.1.id b.1.id
 let l' : List α:=l.attach.map fun s=>⟨s.1,hl s.1 s.2⟩
 have hl' : l'.map (fun a=>a.1) = l:=by simp [l',List.map_map,Function.comp_def]
 have hlen : l'.length = l.length:=by simp [l']
 have hlt : ∀ a b : α,ltOf cf a b = decide (a.1.id < b.1.id):=by
  intro a b
  show decide (cmpI a.1.id b.1.id < 0) = _
  exact decide_eq_decide.2 (cmpI_lt _ _)
 have h:=sortFunc_m Tryz.sortFunc (f:=83) (g:=84) (T:=70) rfl rfl (ent_of Tryz.func83 (by kernel_rfl) rfl) (by simp) (by simp) (fun a : α=>valS a.1) 9 (fun _=>rfl) (by simp)
  (fun x v hv=>by simp only [valS,List.mem_cons,List.not_mem_nil,or_false] at hv;rcases hv with rfl|rfl|rfl|rfl|rfl|rfl|rfl|rfl|rfl <;> rfl)
  cf ⟨fun x=>by rw [hlt];simp,fun x y z h1 h2=>by rw [hlt] at *;simp at *;omega,fun x y z h1 h2=>by rw [hlt] at *;simp at *;omega⟩
  (fun x y h1 h2=>by rw [hlt] at *;simp at h1 h2;exact Subtype.ext (hQ _ _ x.2 y.2 (by omega))) (fun x y=>s_cmpS x.1 y.1) 70 l' (by omega)
 have e1 : ∀ k : List α,k.map (Go.Am.encS fun a : α=>valS a.1) = (k.map fun a=>a.1).map encS:=by
  intro k
  rw [List.map_map]
  rfl
 have e2 : (sortL cf l').map (fun a=>a.1) = srtS l:=by
  unfold srtS sortL
  exact (List.map_mergeSort (f:=fun a : α=>a.1) (s:=fun x y=>!(ltOf fun a b : Seg=>cmpI a.id b.id) y x) (fun a _ b _=>rfl)).trans (by rw [hl'])
 rw [e1,e1,hl',hlen,e2] at h
 exact h
theorem w_sort (l : List Seg) (hd : ∀ a ∈ l,∀ b ∈ l,a.id = b.id → a = b) (hn : l.length ≤ 1000000) (n : Nat) (hln : l.length = n) :
 MSpec Tryz.prog 83 [.own 1000000 9 0 n,.fn (.func 84) [] []] [(1000000,.arr 70 9 (l.map encS))]
  (fun res bf=>res = .tup [] ∧ bf 1000000 = some (.arr 70 9 ((srtS l).map encS))):=by
 subst hln
 cases l with
 |nil=>exact w_sortQ (fun s=>s = default) default rfl (fun a b ha hb _=>ha.trans hb.symm) [] (by simp) (by simp)
 |cons a l=>exact w_sortQ (fun s=>s ∈ a :: l) a (by simp) (fun x y hx hy=>hd x hx y hy) (a :: l) (fun s hs=>hs) hn
def chgM (l : List Seg) (e : Ed) : List Seg:=srtS ((l.filter fun s=>!inI e.rem s.id) ++ e.add)
theorem s_changed (l : List Seg) (e : Ed) (hl : l.length ≤ 1000) (hr : e.rem.length ≤ 1000) (ha : e.add.length ≤ 1000) (hd : ∀ a ∈ (l.filter fun s=>!inI e.rem s.id) ++ e.add,∀ b ∈ (l.filter fun s=>!inI e.rem s.id) ++ e.add,a.id = b.id → a = b) :
 PSpec Tryz.prog 57 [segL l,encE e] (segL (chgM l e)):=by
 have hdel:=Hld.mk (w_del l 81 [.ep (encE e)] (fun s=>inI e.rem s.id) rfl (fun s=>s_changed1 s e (by omega)) (by omega) _ rfl)
 have hfl : (l.filter fun s=>!inI e.rem s.id).length ≤ l.length:=List.length_filter_le _ _
 have hsort:=w_sort ((l.filter fun s=>!inI e.rem s.id) ++ e.add) hd (by simp;omega) ((l.filter fun s=>!inI e.rem s.id).length + e.add.length) (by simp)
 rw [List.map_append] at hsort
 have hsl:=srtS_len ((l.filter fun s=>!inI e.rem s.id) ++ e.add)
 rw [List.length_append] at hsl
 replace hsort:=Hld.mk hsort
 replace hsl:=Hld.mk hsl
 unfold chgM
 generalize (l.filter fun s=>!inI e.rem s.id) = k at *
 clear hd
 refine PSpec_of Tryz.func57 rfl rfl (Nat.le_of_ble_eq_true rfl) (Nat.le_of_ble_eq_true rfl) ?_
 intro E hE
 refine AW_seqt ⟨[(3,.loc 3 0),(0,segL l)],[(3,.box 36 (encE e))]⟩ ?_ ?_
 ·refine AW_freeze 3 (t:=⟨[(3,.ep (encE e)),(0,segL l)],[]⟩) rfl (by simp) (by simp) ?_
  repeat' (first
   |(with_reducible first|refine uK ?_|refine uX ?_|refine jq fun K hK=>?_|refine jb ?_)|((with_reducible first|refine rS hE ?_|refine jn ?_|refine js fun K' hK'=>?_|refine ji fun X Y hX hY=>?_|refine jr ?_|refine jk ?_|refine jx ?_);simp [*])|with_reducible refine rL hE ?_|(refine acall_row ((r_cloneS l (by omega))) ?_ (.inl ?_) ?_ ?_;(iterate 3 focus (simp [*] <;> fail));simp [*])|(refine acall_mrow (hdel.out) ?_ ?_ ?_ ?_ ?_ ?_;(iterate 5 focus (simp [*] <;> fail));simp [*])|(refine acall_mrow (hsort.out) ?_ ?_ ?_ ?_ ?_ ?_;(iterate 5 focus (simp [*] <;> fail));simp [*])|with_reducible refine And.intro ?_ ?_|omega|(refine imp1 fun h=>?_))
  all_goals first|exact Nat.le_of_eq hsl.out.symm|(rw [← hsl.out];exact take_len' _ _)|(rw [← hsl.out];exact (take_len' _ _).symm)|(rw [← hsl.out,take_len'];simp)
 ·intro K hK
  repeat' (first
   |(with_reducible first|refine uK ?_|refine uX ?_|refine jq fun K hK=>?_|refine jb ?_)|((with_reducible first|refine rS hE ?_|refine jn ?_|refine js fun K' hK'=>?_|refine ji fun X Y hX hY=>?_|refine jr ?_|refine jk ?_|refine jx ?_);simp [*])|with_reducible refine rL hE ?_|with_reducible refine And.intro ?_ ?_|omega|(refine imp1 fun h=>?_))
  all_goals simp
end Go.Proofs.YtbibemijcdkjhaaGreatDoor
end
section
namespace Go.Proofs.YtbibemijcdkjhaaGreatDoor
open Go.Am Go.RowKit
def renB : Go.Shelf.Ren:=⟨fun|240=>78|276=>110|n=>n,fun|0=>0|4=>4|9=>9|20=>20|37=>84|70=>83|72=>86|164=>141|n=>n,fun|n=>n⟩
theorem laysB : Go.Proofs.Lays.n240 Tryz.prog renB:={
 mixed:=by kernel_rfl
 f240:=Tryz.func78.trans (congrArg some (by kernel_rfl))
 f276:=Tryz.func110.trans (congrArg some (by kernel_rfl))
 t0:=Tryz.underlying0
 a0:=Tryz.isAgg0
 z0:=Tryz.sizeOf0
 v0:=Tryz.zeroValue0
 t4:=Tryz.underlying4
 a4:=Tryz.isAgg4
 z4:=Tryz.sizeOf4
 v4:=Tryz.zeroValue4
 t9:=Tryz.underlying9
 a9:=Tryz.isAgg9
 z9:=Tryz.sizeOf9
 v9:=Tryz.zeroValue9
 t20:=Tryz.underlying20
 a20:=Tryz.isAgg20
 z20:=Tryz.sizeOf20
 v20:=Tryz.zeroValue20
 t70:=Tryz.underlying83
 a70:=Tryz.isAgg83
 z70:=Tryz.sizeOf83
 v70:=Tryz.zeroValue83
 t72:=Tryz.underlying86
 a72:=Tryz.isAgg86
 z72:=Tryz.sizeOf86
 v72:=Tryz.zeroValue86
 t164:=Tryz.underlying141
 a164:=Tryz.isAgg141
 z164:=Tryz.sizeOf141
 v164:=Tryz.zeroValue141 }
theorem x72 : Go.Proofs.Builder.X72 Tryz.prog renB:=⟨by kernel_rfl,by kernel_rfl⟩
abbrev bbox (c r : AV) : Ct:=.box 86 (.st [c,r])
theorem m_ccF : MSpec Tryz.prog 78 [.loc 1000000 0] [(1000000,bbox (.v (.pointer none)) (.v (.slice none 0 0)))] (fun res bf=>res = .tup [] ∧ bf 1000000 = some (bbox (.loc 1000000 0) (.v (.slice none 0 0)))):=by
 refine ⟨ent_of Tryz.func78 (by kernel_rfl) rfl,fun H ρ w vs he hb hr=>?_⟩
 obtain ⟨u,us,rfl,hu,hus⟩:=hr.cons_inv
 rw [hus.nil_inv]
 obtain ⟨b,cap,vs,hbd,hheap,hrep,hone,hcap⟩:=hb.rep 1000000 _ (by simp [lk];rfl)
 simp only [AV.cells] at hrep hcap
 obtain ⟨v0,vs,rfl,h0,hrep⟩:=hrep.cons_inv
 obtain ⟨v1,vs,rfl,h1,hrep⟩:=hrep.cons_inv
 obtain rfl:=hrep.nil_inv
 rw [h0.v_inv,h1.v_inv] at hheap
 cases hu with
 |loc hρ =>
  rename_i b' cap'
  obtain ⟨rfl,rfl⟩:=rho_at hbd hρ
  have hblt : b < w.heap.size:=(Array.getElem?_eq_some_iff.1 hheap).1
  refine Calls.mono (Go.Proofs.Any.Builder_copyCheck_fresh laysB x72 b w (by rw [cell_of_row w b _ _ _ _ hheap];rfl) (by simp [World.shape?,hheap];rfl) (by simp [World.frozen?,hheap])) ?_
  rintro e w' ⟨rfl,rfl⟩
  have hh' : (w.setCell ⟨b,0,none⟩ (.pointer (some ⟨b,0,none⟩))).heap[b]? = some (.cells #[.pointer (some ⟨b,0,none⟩),.slice none 0 0] 86 (0,0)):=by
   simp [World.setCell,Array.getElem?_modify,hheap]
  have hoth : ∀ k,k ≠ b → (w.setCell ⟨b,0,none⟩ (.pointer (some ⟨b,0,none⟩))).heap[k]? = w.heap[k]?:=by
   intro k hk
   simp [World.setCell,Array.getElem?_modify,Ne.symm hk]
  have hsz : (w.setCell ⟨b,0,none⟩ (.pointer (some ⟨b,0,none⟩))).heap.size = w.heap.size:=by simp [World.setCell]
  have hnoH:=(hb.apart 1000000 _ b cap (by simp [lk];rfl) hbd).1
  have hown : OwnB ρ (lk [(1000000,bbox (.v (.pointer none)) (.v (.slice none 0 0)))]) b:=⟨1000000,_,cap,by simp [lk];rfl,hbd⟩
  refine ⟨H,ρ,.tup [],fun i=>if i = 1000000 then some (bbox (.loc 1000000 0) (.v (.slice none 0 0))) else none,.tuple #[],rfl,⟨rfl,by simp⟩,H.le_refl,fun _ _ _ h h'=>absurd (h.symm.trans h') (Option.some_ne_none _),?_,⟨?_,?_,?_⟩,Rep.tup (vs:=[]) rfl (by simp),⟨rfl,rfl,⟨rfl,Nat.le_refl _⟩,by rw [hsz];exact Nat.le_refl _,?_⟩,fun _ _=>rfl⟩
  ·intro b' o v hv
   have hne : b' ≠ b:=by rintro rfl;rw [hnoH o] at hv;cases hv
   rw [World.cell?_of_block (w:=w) (a:=⟨b',o,none⟩) (hoth b' hne)]
   exact he _ _ _ hv
  ·intro i c hc
   by_cases hi : i = 1000000
   ·subst hi
    simp at hc
    subst hc
    exact ⟨b,cap,[.pointer (some ⟨b,0,none⟩),.slice none 0 0],hbd,hh',RepL.cons (.loc hbd) (RepL.cons (.v rfl) RepL.nil),by intro c hc;simp [AV.cells] at hc;rcases hc with rfl|rfl <;> rfl,hcap⟩
   ·simp [hi] at hc
  ·intro i c b' cap' hc hbd'
   by_cases hi : i = 1000000
   ·subst hi
    obtain ⟨rfl,rfl⟩:=rho_at hbd hbd'
    exact ⟨hnoH,by rw [hsz];exact hblt,.inr hown⟩
   ·simp [hi] at hc
  ·intro i i' c c' b1 c1 c2 hc hc' _ _
   by_cases hi : i = 1000000
   ·by_cases hi' : i' = 1000000
    ·rw [hi,hi']
    ·simp [hi'] at hc'
   ·simp [hi] at hc
  ·intro k hk hno
   exact hoth k (fun e=>hno (e ▸ hown))
theorem m_ccU (n : Nat) (xs : List AV) : MSpec Tryz.prog 78 [.loc 1000000 0] [(1000000,bbox (.loc 1000000 0) (.own 1000001 1 0 n)),(1000001,.arr 5 1 xs)]
 (fun res bf=>res = .tup [] ∧ bf 1000000 = some (bbox (.loc 1000000 0) (.own 1000001 1 0 n)) ∧ bf 1000001 = some (.arr 5 1 xs)):=by
 refine ⟨ent_of Tryz.func78 (by kernel_rfl) rfl,fun H ρ w vs he hb hr=>?_⟩
 obtain ⟨u,us,rfl,hu,hus⟩:=hr.cons_inv
 rw [hus.nil_inv]
 obtain ⟨b,cap,vs,hbd,hheap,hrep,hone,hcap⟩:=hb.rep 1000000 _ (by simp [lk];rfl)
 simp only [AV.cells] at hrep hcap
 obtain ⟨v0,vs,rfl,h0,hrep⟩:=hrep.cons_inv
 obtain ⟨v1,vs,rfl,h1,hrep⟩:=hrep.cons_inv
 obtain rfl:=hrep.nil_inv
 cases hu with
 |loc hρ =>
  rename_i b' cap'
  obtain ⟨rfl,rfl⟩:=rho_at hbd hρ
  cases h0 with
  |loc hρ2 =>
   rename_i b2 cap2
   obtain ⟨rfl,rfl⟩:=rho_at hbd hρ2
   refine Calls.mono (Go.Proofs.Any.Builder_copyCheck_used laysB x72 b w (by rw [cell_of_row w b _ _ _ _ hheap];rfl)) ?_
   rintro e w' ⟨rfl,rfl⟩
   refine ⟨H,ρ,.tup [],lk [(1000000,bbox (.loc 1000000 0) (.own 1000001 1 0 n)),(1000001,.arr 5 1 xs)],.tuple #[],rfl,⟨rfl,by simp [lk],by simp [lk]⟩,H.le_refl,fun _ _ _ h h'=>absurd (h.symm.trans h') (Option.some_ne_none _),he,⟨hb.rep,fun i c b cap hc hbd=>?_,hb.inj⟩,Rep.tup (vs:=[]) rfl (by simp),FrameBut.refl _ _,fun _ _=>rfl⟩
   obtain ⟨h1,h2,_⟩:=hb.apart i c b cap hc hbd
   exact ⟨h1,h2,.inr ⟨i,c,cap,hc,hbd⟩⟩
abbrev strV (l : List UInt8) : AV:=.v (.string ⟨l.toArray⟩)
def d1 (n : Int) : List UInt8:=[48 + n.toNat.toUInt8]
theorem s_small (n : Int) (h0 : 0 ≤ n) (h1 : n < 10) : PSpec Tryz.prog 130 [iA n] (strV (d1 n)):=by
 have h : n = 0 ∨ n = 1 ∨ n = 2 ∨ n = 3 ∨ n = 4 ∨ n = 5 ∨ n = 6 ∨ n = 7 ∨ n = 8 ∨ n = 9:=by omega
 rcases h with rfl|rfl|rfl|rfl|rfl|rfl|rfl|rfl|rfl|rfl
 all_goals (
  refine PSpec_of Tryz.func130 rfl rfl (Nat.le_of_ble_eq_true rfl) (Nat.le_of_ble_eq_true rfl) ?_
  intro E hE
  repeat' (first
   |(with_reducible first|refine uK ?_|refine uX ?_|refine jq fun K hK=>?_|refine jb ?_)|((with_reducible first|refine rS hE ?_|refine jn ?_|refine js fun K' hK'=>?_|refine ji fun X Y hX hY=>?_|refine jr ?_|refine jk ?_|refine jx ?_);simp [*])|with_reducible refine rL hE ?_|with_reducible refine And.intro ?_ ?_|omega|(refine imp1 fun h=>?_))
  ·simp [ByteArray.size]
  ·rfl)
theorem s_fmt1 (n : Int) (h0 : 0 ≤ n) (h1 : n < 10) : PSpec Tryz.prog 109 [iA n,iA 10] (strV (d1 n)):=by
 have h2 : n < 100:=by omega
 refine PSpec_of Tryz.func109 rfl rfl (Nat.le_of_ble_eq_true rfl) (Nat.le_of_ble_eq_true rfl) ?_
 intro E hE
 repeat' (first
  |(with_reducible first|refine uK ?_|refine uX ?_|refine jq fun K hK=>?_|refine jb ?_)|((with_reducible first|refine rS hE ?_|refine jn ?_|refine js fun K' hK'=>?_|refine ji fun X Y hX hY=>?_|refine jr ?_|refine jk ?_|refine jx ?_);simp [*])|with_reducible refine rL hE ?_|(refine jC (s_small n h0 h1) ?_ ?_ ?_;(iterate 2 focus (simp [*] <;> fail));simp [*])|with_reducible refine And.intro ?_ ?_|omega|(refine imp1 fun h=>?_))
theorem s_itoaI (n : Int) (h0 : 0 ≤ n) (h1 : n < 10) : PSpec Tryz.prog 79 [iA n] (strV (d1 n)):=by
 refine PSpec_of Tryz.func79 rfl rfl (Nat.le_of_ble_eq_true rfl) (Nat.le_of_ble_eq_true rfl) ?_
 intro E hE
 repeat' (first
  |(with_reducible first|refine uK ?_|refine uX ?_|refine jq fun K hK=>?_|refine jb ?_)|((with_reducible first|refine rS hE ?_|refine jn ?_|refine js fun K' hK'=>?_|refine ji fun X Y hX hY=>?_|refine jr ?_|refine jk ?_|refine jx ?_);simp [*])|with_reducible refine rL hE ?_|(refine jC (s_fmt1 n h0 h1) ?_ ?_ ?_;(iterate 2 focus (simp [*] <;> fail));simp [*])|with_reducible refine And.intro ?_ ?_|omega|(refine imp1 fun h=>?_))
theorem s_itoa1 (n : Int) (h0 : 0 ≤ n) (h1 : n < 10) : PSpec Tryz.prog 47 [iA n] (strV (d1 n)):=by
 refine PSpec_of Tryz.func47 rfl rfl (Nat.le_of_ble_eq_true rfl) (Nat.le_of_ble_eq_true rfl) ?_
 intro E hE
 repeat' (first
  |(with_reducible first|refine uK ?_|refine uX ?_|refine jq fun K hK=>?_|refine jb ?_)|((with_reducible first|refine rS hE ?_|refine jn ?_|refine js fun K' hK'=>?_|refine ji fun X Y hX hY=>?_|refine jr ?_|refine jk ?_|refine jx ?_);simp [*])|with_reducible refine rL hE ?_|(refine jC (s_itoaI n h0 h1) ?_ ?_ ?_;(iterate 2 focus (simp [*] <;> fail));simp [*])|with_reducible refine And.intro ?_ ?_|omega|(refine imp1 fun h=>?_))
@[simp] theorem strA_strV (l : List UInt8) : strA ⟨l.toArray⟩ = l.map byteA:=rfl
@[simp] theorem ids_byte (l : List UInt8) : idsA (l.map byteA) = []:=by induction l with|nil=>rfl|cons a l ih=>simp [ih,byteA]
@[simp] theorem ren_byte (σ : Nat → Nat) (l : List UInt8) : renL σ (l.map byteA) = l.map byteA:=by induction l with|nil=>rfl|cons a l ih=>simp [ih,byteA]
@[simp] theorem ment_byte (d : Nat) (l : List UInt8) : mentL d (l.map byteA) = false:=by induction l with|nil=>rfl|cons a l ih=>simp [ih,byteA]
@[simp] theorem idf_byte (l : List UInt8) : idfL (l.map byteA) = true:=by induction l with|nil=>rfl|cons a l ih=>simp [ih,byteA]
attribute [simp] idsA_append
@[simp] theorem renL_append (σ : Nat → Nat) (a b : List AV) : renL σ (a ++ b) = renL σ a ++ renL σ b:=by simp [renL_map]
@[simp] theorem byteA_ten : byteA 10 = .v (.int .u8 10):=rfl
@[simp] theorem size_strV (l : List UInt8) : (ByteArray.mk l.toArray).size = l.length:=by simp [ByteArray.size]
@[simp] theorem mentL_append' (d : Nat) (a b : List AV) : mentL d (a ++ b) = (mentL d a || mentL d b):=mentL_append d a b
abbrev byteR (l : List UInt8) : Ct:=.arr 5 1 (l.map byteA)
theorem m_wsF (l : List UInt8) (hl : l.length ≤ 1000000) (h0 : l ≠ []) : MSpec Tryz.prog 46 [.loc 1000000 0,strV l] [(1000000,bbox (.v (.pointer none)) (.v (.slice none 0 0)))]
 (fun res bf=>res = .tup [iA l.length,.v .nilIface] ∧ bf 1000000 = some (bbox (.loc 1000000 0) (.own 14 1 0 l.length)) ∧ bf 14 = some (byteR l)):=by
 refine MSpec_of Tryz.func46 rfl rfl (Nat.le_of_ble_eq_true rfl) (Nat.le_of_ble_eq_true rfl) ?_
 intro E hE
 repeat' (first
  |(with_reducible first|refine uK ?_|refine uX ?_|refine jq fun K hK=>?_|refine jb ?_)|((with_reducible first|refine rS hE ?_|refine jn ?_|refine js fun K' hK'=>?_|refine ji fun X Y hX hY=>?_|refine jr ?_|refine jk ?_|refine jx ?_);simp [*])|with_reducible refine rL hE ?_|with_reducible refine And.intro ?_ ?_|omega|(refine imp1 fun h=>?_))
 refine acall_boxes m_ccF (fun i=>i) (fun i=>i) [(1000000,bbox (.loc 1000000 0) (.v (.slice none 0 0)))] (.tup []) (by rintro res bf ⟨rfl,h⟩;simp [h]) (by simp) (by simp) (by simp) (by simp [lk]) (by simp) (by simp) (by simp) ?_
 simp
 repeat' (first
  |(with_reducible first|refine uK ?_|refine uX ?_|refine jq fun K hK=>?_|refine jb ?_)|((with_reducible first|refine rS hE ?_|refine jn ?_|refine js fun K' hK'=>?_|refine ji fun X Y hX hY=>?_|refine jr ?_|refine jk ?_|refine jx ?_);simp [*])|with_reducible refine rL hE ?_|with_reducible refine And.intro ?_ ?_|omega|(refine imp1 fun h=>?_))
theorem m_wsU (a l : List UInt8) (hl : a.length + l.length ≤ 1000000) : MSpec Tryz.prog 46 [.loc 1000000 0,strV l] [(1000000,bbox (.loc 1000000 0) (.own 1000001 1 0 a.length)),(1000001,byteR a)]
 (fun res bf=>res = .tup [iA l.length,.v .nilIface] ∧ bf 1000000 = some (bbox (.loc 1000000 0) (.own 900 1 0 (a ++ l).length)) ∧ bf 900 = some (byteR (a ++ l))):=by
 refine MSpec_of Tryz.func46 rfl rfl (Nat.le_of_ble_eq_true rfl) (Nat.le_of_ble_eq_true rfl) ?_
 intro E hE
 refine AW_ren 1000001 900 (cb:=byteR a) (t:=⟨[(0,.loc 1000000 0),(1,strV l)],[(1000000,bbox (.loc 1000000 0) (.own 900 1 0 a.length)),(900,byteR a)]⟩) (by simp) (by simp) (by simp) (by simp [sw]) (by simp [sw]) ?_
 repeat' (first
  |(with_reducible first|refine uK ?_|refine uX ?_|refine jq fun K hK=>?_|refine jb ?_)|((with_reducible first|refine rS hE ?_|refine jn ?_|refine js fun K' hK'=>?_|refine ji fun X Y hX hY=>?_|refine jr ?_|refine jk ?_|refine jx ?_);simp [*])|with_reducible refine rL hE ?_|with_reducible refine And.intro ?_ ?_|omega|(refine imp1 fun h=>?_))
 refine acall_boxes (m_ccU a.length (a.map byteA)) (fun i=>if i = 1000001 then 900 else i) (fun i=>if i = 1000001 then 900 else i) [(1000000,bbox (.loc 1000000 0) (.own 1000001 1 0 a.length)),(1000001,byteR a)] (.tup []) (by rintro res bf ⟨rfl,h⟩;simp [h]) (by simp) (by simp) (by simp) (by simp [lk]) (by simp) (by simp) (by simp) ?_
 simp
 repeat' (first
  |(with_reducible first|refine uK ?_|refine uX ?_|refine jq fun K hK=>?_|refine jb ?_)|((with_reducible first|refine rS hE ?_|refine jn ?_|refine js fun K' hK'=>?_|refine ji fun X Y hX hY=>?_|refine jr ?_|refine jk ?_|refine jx ?_);simp [*])|with_reducible refine rL hE ?_|with_reducible refine And.intro ?_ ?_|omega|(refine imp1 fun h=>?_))
theorem m_wbU (a : List UInt8) (c : UInt8) (hl : a.length ≤ 1000000) : MSpec Tryz.prog 48 [.loc 1000000 0,byteA c] [(1000000,bbox (.loc 1000000 0) (.own 1000001 1 0 a.length)),(1000001,byteR a)]
 (fun res bf=>res = .v .nilIface ∧ bf 1000000 = some (bbox (.loc 1000000 0) (.own 900 1 0 (a ++ [c]).length)) ∧ bf 900 = some (byteR (a ++ [c]))):=by
 unfold byteA
 refine MSpec_of Tryz.func48 rfl rfl (Nat.le_of_ble_eq_true rfl) (Nat.le_of_ble_eq_true rfl) ?_
 intro E hE
 refine AW_ren 1000001 900 (cb:=byteR a) (t:=⟨[(0,.loc 1000000 0),(1,byteA c)],[(1000000,bbox (.loc 1000000 0) (.own 900 1 0 a.length)),(900,byteR a)]⟩) (by simp) (by simp) (by simp) (by simp [sw,byteA]) (by simp [sw]) ?_
 unfold byteA
 repeat' (first
  |(with_reducible first|refine uK ?_|refine uX ?_|refine jq fun K hK=>?_|refine jb ?_)|((with_reducible first|refine rS hE ?_|refine jn ?_|refine js fun K' hK'=>?_|refine ji fun X Y hX hY=>?_|refine jr ?_|refine jk ?_|refine jx ?_);simp [*])|with_reducible refine rL hE ?_|with_reducible refine And.intro ?_ ?_|omega|(refine imp1 fun h=>?_))
 refine acall_boxes (m_ccU a.length (a.map byteA)) (fun i=>if i = 1000001 then 900 else i) (fun i=>if i = 1000001 then 900 else i) [(1000000,bbox (.loc 1000000 0) (.own 1000001 1 0 a.length)),(1000001,byteR a)] (.tup []) (by rintro res bf ⟨rfl,h⟩;simp [h]) (by simp) (by simp) (by simp) (by simp [lk]) (by simp) (by simp) (by simp) ?_
 simp
 repeat' (first
  |(with_reducible first|refine uK ?_|refine uX ?_|refine jq fun K hK=>?_|refine jb ?_)|((with_reducible first|refine rS hE ?_|refine jn ?_|refine js fun K' hK'=>?_|refine ji fun X Y hX hY=>?_|refine jr ?_|refine jk ?_|refine jx ?_);simp [*])|with_reducible refine rL hE ?_|with_reducible refine And.intro ?_ ?_|omega|(refine imp1 fun h=>?_))
 all_goals rfl
theorem m_str (a : List UInt8) (hl : a.length ≤ 1000000) (h0 : a ≠ []) : MSpec Tryz.prog 49 [.loc 1000000 0] [(1000000,bbox (.loc 1000000 0) (.own 1000001 1 0 a.length)),(1000001,byteR a)] (fun res bf=>res = strV a):=by
 have h1 : 0 < a.length:=List.length_pos_iff.2 h0
 refine MSpec_of Tryz.func49 rfl rfl (Nat.le_of_ble_eq_true rfl) (Nat.le_of_ble_eq_true rfl) ?_
 intro E hE
 repeat' (first
  |(with_reducible first|refine uK ?_|refine uQ ?_|refine uX ?_|refine jq fun K hK=>?_|refine jb ?_)|(with_reducible refine rS hE ?_;simp [*])|with_reducible refine rL hE ?_|(((with_reducible show RK _ _ _ _ _ _);first|refine jn ?_|refine js fun K' hK'=>?_);simp [*])|with_reducible refine rD mixed hE ?_|((with_reducible show RKQ _ _ _ _ _ _);first|refine RKQ_nilk ⟨by decide,?_⟩|(refine jv fun K' hK'=>?_;simp [*]))|((with_reducible first|refine ji fun X Y hX hY=>?_|refine jr ?_|refine jk ?_|refine jx ?_);simp [*])|with_reducible refine And.intro ?_ ?_|omega|(refine imp1 fun h=>?_))
 refine ⟨a,by simp,?_⟩
 repeat' (first
  |(with_reducible first|refine uK ?_|refine uQ ?_|refine uX ?_|refine jq fun K hK=>?_|refine jb ?_)|(with_reducible refine rS hE ?_;simp [*])|with_reducible refine rL hE ?_|(((with_reducible show RK _ _ _ _ _ _);first|refine jn ?_|refine js fun K' hK'=>?_);simp [*])|with_reducible refine rD mixed hE ?_|((with_reducible show RKQ _ _ _ _ _ _);first|refine RKQ_nilk ⟨by decide,?_⟩|(refine jv fun K' hK'=>?_;simp [*]))|((with_reducible first|refine ji fun X Y hX hY=>?_|refine jr ?_|refine jk ?_|refine jx ?_);simp [*])|with_reducible refine And.intro ?_ ?_|omega|(refine imp1 fun h=>?_))
def numsS (s : Seg) : List Int:=[s.id,s.x0,s.x1,s.y0,s.y1,s.t0,s.t1,s.un,s.by_]
def numsE (e : Ed) : List Int:=[e.kind,e.belief,e.used,(e.rem.length : Int)] ++ e.rem ++ [(e.add.length : Int)] ++ e.add.flatMap numsS
theorem numsS_len (l : List Seg) : (l.flatMap numsS).length = 9 * l.length:=by induction l with|nil=>rfl|cons a l ih=>rw [List.flatMap_cons,List.length_append,ih];simp [numsS];omega
theorem numsE_len (e : Ed) : (numsE e).length = 5 + e.rem.length + 9 * e.add.length:=by simp only [numsE,List.length_append,numsS_len];simp;omega
theorem s_numbers (e : Ed) (h1 : e.rem.length ≤ 1000) (h2 : e.add.length ≤ 1000) : PSpec Tryz.prog 45 [encE e] (.sl 1 ((numsE e).map iA)):=by
 obtain ⟨F,hF⟩ : ∃ F : Nat → List Int,∀ i,F i = [e.kind,e.belief,e.used,(e.rem.length : Int)] ++ e.rem ++ [(e.add.length : Int)] ++ (e.add.take i).flatMap numsS:=⟨_,fun _=>rfl⟩
 have f0 : (F 0).map iA = iA e.kind :: iA e.belief :: iA e.used :: iA e.rem.length :: (e.rem.map iA ++ [iA e.add.length]):=by simp [hF]
 have fs : ∀ i (h : i < e.add.length),F (i + 1) = F i ++ numsS e.add[i]:=by
  intro i h
  rw [hF,hF,List.take_succ_eq_append_getElem h,List.flatMap_append]
  simp
 have fe : F e.add.length = numsE e:=by rw [hF,List.take_length];rfl
 have fl : ∀ i,i ≤ e.add.length → (F i).length = 5 + e.rem.length + 9 * i:=by
  intro i hi
  rw [hF]
  simp only [List.length_append,numsS_len,List.length_take]
  simp
  omega
 have ht : List.take (4 + e.rem.length) (iA e.kind :: iA e.belief :: iA e.used :: AV.v (Value.int IntKind.i64 e.rem.length) :: e.rem.map iA) = iA e.kind :: iA e.belief :: iA e.used :: AV.v (Value.int IntKind.i64 e.rem.length) :: e.rem.map iA:=List.take_of_length_le (by simp;omega)
 clear hF
 have fl0:=fl 0 (by omega)
 replace fs:=Hld.mk fs
 replace fe:=Hld.mk fe
 replace fl:=Hld.mk fl
 replace fl0:=Hld.mk fl0
 refine PSpec_of Tryz.func45 rfl rfl (Nat.le_of_ble_eq_true rfl) (Nat.le_of_ble_eq_true rfl) ?_
 intro E hE
 repeat' (first
  |(with_reducible first|refine uK ?_|refine uX ?_|refine jq fun K hK=>?_|refine jb ?_)|((with_reducible first|refine rS hE ?_|refine jn ?_|refine js fun K' hK'=>?_|refine ji fun X Y hX hY=>?_|refine jr ?_|refine jk ?_|refine jx ?_);simp [*])|with_reducible refine rL hE ?_|with_reducible refine And.intro ?_ ?_|omega|(refine imp1 fun h=>?_))
 refine AW_loopk (G:=Nat) (fun i=>⟨[(30,iA i),(29,iA e.add.length),(28,segL e.add),(3,.own 16 1 0 (F i).length),(1,.loc 1 0)],[(16,.arr 3 1 ((F i).map iA)),(1,.box 36 (encE e))]⟩)
  (fun i=>i ≤ e.add.length) (fun i=>e.add.length - i) 0 (by omega) (by simp;exact ⟨by have:=fl0.out;omega,f0.symm⟩) ?_
 intro i hi K hK
 have hli:=fl.out i hi
 replace hli:=Hld.mk hli
 have hb1 : (F i).length ≤ 10100:=by have:=hli.out;omega
 by_cases hlt : i < e.add.length
 ·have hfs:=fs.out i hlt
  replace hfs:=Hld.mk hfs
  repeat' (first
   |(with_reducible first|refine uK ?_|refine uX ?_|refine jq fun K hK=>?_|refine jb ?_)|((with_reducible first|refine rS hE ?_|refine jn ?_|refine js fun K' hK'=>?_|refine ji fun X Y hX hY=>?_|refine jr ?_|refine jk ?_|refine jx ?_);simp [*])|with_reducible refine rL hE ?_|with_reducible refine And.intro ?_ ?_|omega|(refine imp1 fun h=>?_))
  refine ⟨i + 1,by omega,by omega,?_⟩
  rw [hfs.out]
  simp [numsS]
 ·have hil : i = e.add.length:=by omega
  subst hil
  have hfe:=fe.out
  repeat' (first
   |(with_reducible first|refine uK ?_|refine uX ?_|refine jq fun K hK=>?_|refine jb ?_)|((with_reducible first|refine rS hE ?_|refine jn ?_|refine js fun K' hK'=>?_|refine ji fun X Y hX hY=>?_|refine jr ?_|refine jk ?_|refine jx ?_);simp [*])|with_reducible refine rL hE ?_|with_reducible refine And.intro ?_ ?_|omega|(refine imp1 fun h=>?_))
def linesB (f : Int → List UInt8) (l : List Int) : List UInt8:=l.flatMap fun n=>f n ++ [10]
theorem s_encode (e : Ed) (h1 : e.rem.length ≤ 1000) (h2 : e.add.length ≤ 1000) (f : Int → List UInt8) (hf : ∀ n ∈ numsE e,PSpec Tryz.prog 47 [iA n] (strV (f n)) ∧ f n ≠ [] ∧ (f n).length ≤ 20) :
 PSpec Tryz.prog 16 [encE e] (strV (linesB f (numsE e))):=by
 have hln:=numsE_len e
 have hnums:=s_numbers e h1 h2
 generalize numsE e = L at *
 replace hf:=Hld.mk hf
 replace hnums:=Hld.mk hnums
 obtain ⟨F,hF⟩ : ∃ F : Nat → List UInt8,∀ i,F i = linesB f (L.take i):=⟨_,fun _=>rfl⟩
 have f0 : F 0 = []:=by simp [hF,linesB]
 have fs : ∀ i (h : i < L.length),F (i + 1) = F i ++ f L[i] ++ [10]:=by
  intro i h
  rw [hF,hF,List.take_succ_eq_append_getElem h]
  unfold linesB
  rw [List.flatMap_append]
  simp
 have fe : F L.length = linesB f L:=by rw [hF,List.take_length]
 have fl : ∀ i,i ≤ L.length → (F i).length ≤ 21 * i ∧ (0 < i → F i ≠ []):=by
  intro i
  induction i with
  |zero=>intro _;simp [f0]
  |succ i ih =>
   intro hi
   have:=ih (by omega)
   have h3:=(hf.out L[i] (List.getElem_mem (by omega))).2.2
   rw [fs i (by omega)]
   refine ⟨by simp;omega,fun _=>by simp⟩
 clear hF
 replace f0:=Hld.mk f0
 replace fs:=Hld.mk fs
 replace fe:=Hld.mk fe
 replace fl:=Hld.mk fl
 replace hln:=Hld.mk hln
 have hL : L.length ≤ 10100:=by have:=hln.out;omega
 refine PSpec_of Tryz.func16 rfl rfl (Nat.le_of_ble_eq_true rfl) (Nat.le_of_ble_eq_true rfl) ?_
 intro E hE
 repeat' (first
  |(with_reducible first|refine uK ?_|refine uX ?_|refine jq fun K hK=>?_|refine jb ?_)|((with_reducible first|refine rS hE ?_|refine jn ?_|refine js fun K' hK'=>?_|refine ji fun X Y hX hY=>?_|refine jr ?_|refine jk ?_|refine jx ?_);simp [*])|with_reducible refine rL hE ?_|(refine jC (hnums.out) ?_ ?_ ?_;(iterate 2 focus (simp [*] <;> fail));simp [*])|with_reducible refine And.intro ?_ ?_|omega|(refine imp1 fun h=>?_))
 refine AW_loopk (G:=Nat) (fun i=>⟨[(9,iA i),(8,iA L.length),(7,.sl 1 (L.map iA)),(3,.loc 3 0)],
  match i with
  |0=>[(3,bbox (.v (.pointer none)) (.v (.slice none 0 0)))]
  |i + 1=>[(3,bbox (.loc 3 0) (.own 800 1 0 (F (i + 1)).length)),(800,byteR (F (i + 1)))]⟩)
  (fun i=>i ≤ L.length) (fun i=>L.length - i) 0 (by omega) (by simp) ?_
 intro i hi K hK
 by_cases hlt : i < L.length
 ·have hx:=hf.out L[i] (List.getElem_mem hlt)
  obtain ⟨hx1,hx2,hx3⟩:=hx
  replace hx1:=Hld.mk hx1
  replace hx2:=Hld.mk hx2
  have hfs:=Hld.mk (fs.out i hlt)
  cases i with
  |zero =>
   simp only
   repeat' (first
    |(with_reducible first|refine uK ?_|refine uX ?_|refine jq fun K hK=>?_|refine jb ?_)|((with_reducible first|refine rS hE ?_|refine jn ?_|refine js fun K' hK'=>?_|refine ji fun X Y hX hY=>?_|refine jr ?_|refine jk ?_|refine jx ?_);simp [*])|with_reducible refine rL hE ?_|(refine jC (hx1.out) ?_ ?_ ?_;(iterate 2 focus (simp [*] <;> fail));simp [*])|with_reducible refine And.intro ?_ ?_|omega|(refine imp1 fun h=>?_))
   refine acall_boxes (m_wsF (f L[0]) (by omega) hx2.out) (nm [(1000000,3)]) (nm [(1000000,3),(14,801)]) [(1000000,bbox (.loc 1000000 0) (.own 14 1 0 (f L[0]).length)),(14,byteR (f L[0]))] (.tup [iA (f L[0]).length,.v .nilIface]) (by rintro res bf ⟨rfl,h⟩;simp [h]) (by simp) (by simp) (by simp) (by simp [lk]) (by simp) (by simp) (by simp) ?_
   simp
   repeat' (first
    |(with_reducible first|refine uK ?_|refine uX ?_|refine jq fun K hK=>?_|refine jb ?_)|((with_reducible first|refine rS hE ?_|refine jn ?_|refine js fun K' hK'=>?_|refine ji fun X Y hX hY=>?_|refine jr ?_|refine jk ?_|refine jx ?_);simp [*])|with_reducible refine rL hE ?_|with_reducible refine And.intro ?_ ?_|omega|(refine imp1 fun h=>?_))
   refine acall_boxes (m_wbU (f L[0]) 10 (by omega)) (nm [(1000000,3),(1000001,801)]) (nm [(1000000,3),(900,800)]) [(1000000,bbox (.loc 1000000 0) (.own 900 1 0 (f L[0] ++ [10]).length)),(900,byteR (f L[0] ++ [10]))] (.v .nilIface) (by rintro res bf ⟨rfl,h⟩;simp [h]) (by simp) (by simp) (by simp) (by simp [lk]) (by simp) (by simp) (by simp) ?_
   simp
   repeat' (first
    |(with_reducible first|refine uK ?_|refine uX ?_|refine jq fun K hK=>?_|refine jb ?_)|((with_reducible first|refine rS hE ?_|refine jn ?_|refine js fun K' hK'=>?_|refine ji fun X Y hX hY=>?_|refine jr ?_|refine jk ?_|refine jx ?_);simp [*])|with_reducible refine rL hE ?_|with_reducible refine And.intro ?_ ?_|omega|(refine imp1 fun h=>?_))
   have h3:=hfs.out
   rw [f0.out] at h3
   simp at h3
   exact ⟨1,by omega,by omega,by simp [h3]⟩
  |succ i =>
   have hfl:=(fl.out (i + 1) (by omega)).1
   simp only
   repeat' (first
    |(with_reducible first|refine uK ?_|refine uX ?_|refine jq fun K hK=>?_|refine jb ?_)|((with_reducible first|refine rS hE ?_|refine jn ?_|refine js fun K' hK'=>?_|refine ji fun X Y hX hY=>?_|refine jr ?_|refine jk ?_|refine jx ?_);simp [*])|with_reducible refine rL hE ?_|(refine jC (hx1.out) ?_ ?_ ?_;(iterate 2 focus (simp [*] <;> fail));simp [*])|with_reducible refine And.intro ?_ ?_|omega|(refine imp1 fun h=>?_))
   refine acall_boxes (m_wsU (F (i + 1)) (f L[i + 1]) (by omega)) (nm [(1000000,3),(1000001,800)]) (nm [(1000000,3),(900,801)]) [(1000000,bbox (.loc 1000000 0) (.own 900 1 0 (F (i + 1) ++ f L[i + 1]).length)),(900,byteR (F (i + 1) ++ f L[i + 1]))] (.tup [iA (f L[i + 1]).length,.v .nilIface]) (by rintro res bf ⟨rfl,h⟩;simp [h]) (by simp) (by simp) (by simp) (by simp [lk]) (by simp) (by simp) (by simp) ?_
   simp
   repeat' (first
    |(with_reducible first|refine uK ?_|refine uX ?_|refine jq fun K hK=>?_|refine jb ?_)|((with_reducible first|refine rS hE ?_|refine jn ?_|refine js fun K' hK'=>?_|refine ji fun X Y hX hY=>?_|refine jr ?_|refine jk ?_|refine jx ?_);simp [*])|with_reducible refine rL hE ?_|with_reducible refine And.intro ?_ ?_|omega|(refine imp1 fun h=>?_))
   refine acall_boxes (m_wbU (F (i + 1) ++ f L[i + 1]) 10 (by simp;omega)) (nm [(1000000,3),(1000001,801)]) (nm [(1000000,3),(900,800)]) [(1000000,bbox (.loc 1000000 0) (.own 900 1 0 (F (i + 1) ++ f L[i + 1] ++ [10]).length)),(900,byteR (F (i + 1) ++ f L[i + 1] ++ [10]))] (.v .nilIface) (by rintro res bf ⟨rfl,h⟩;simp [h]) (by simp) (by simp) (by simp) (by simp [lk]) (by simp) (by simp) (by simp) ?_
   simp
   repeat' (first
    |(with_reducible first|refine uK ?_|refine uX ?_|refine jq fun K hK=>?_|refine jb ?_)|((with_reducible first|refine rS hE ?_|refine jn ?_|refine js fun K' hK'=>?_|refine ji fun X Y hX hY=>?_|refine jr ?_|refine jk ?_|refine jx ?_);simp [*])|with_reducible refine rL hE ?_|with_reducible refine And.intro ?_ ?_|omega|(refine imp1 fun h=>?_))
   refine ⟨i + 1 + 1,by omega,by omega,?_⟩
   simp only [hfs.out]
   simp
 ·have hil : i = L.length:=by omega
  subst hil
  have hfe:=fe.out
  have hpos : ∃ m,L.length = m + 1:=⟨L.length - 1,by have:=hln.out;omega⟩
  obtain ⟨m,hm⟩:=hpos
  have hfl:=fl.out L.length (Nat.le_refl _)
  rw [hm] at hfe hfl ⊢
  replace hfe:=Hld.mk hfe
  simp only
  repeat' (first
   |(with_reducible first|refine uK ?_|refine uX ?_|refine jq fun K hK=>?_|refine jb ?_)|((with_reducible first|refine rS hE ?_|refine jn ?_|refine js fun K' hK'=>?_|refine ji fun X Y hX hY=>?_|refine jr ?_|refine jk ?_|refine jx ?_);simp [*])|with_reducible refine rL hE ?_|with_reducible refine And.intro ?_ ?_|omega|(refine imp1 fun h=>?_))
  refine acall_boxes (m_str (F (m + 1)) (by omega) (hfl.2 (by omega))) (nm [(1000000,3),(1000001,800)]) (nm []) [] (strV (F (m + 1))) (by rintro res bf rfl;simp) (by simp) (by simp) (by simp) (by simp [lk]) (by simp) (by simp) (by simp) ?_
  simp
  repeat' (first
   |(with_reducible first|refine uK ?_|refine uX ?_|refine jq fun K hK=>?_|refine jb ?_)|((with_reducible first|refine rS hE ?_|refine jn ?_|refine js fun K' hK'=>?_|refine ji fun X Y hX hY=>?_|refine jr ?_|refine jk ?_|refine jx ?_);simp [*])|with_reducible refine rL hE ?_|with_reducible refine And.intro ?_ ?_|omega|(refine imp1 fun h=>?_))
  exact hfe.out.symm
def edF : Ed:=⟨3,2,0,[],[]⟩
theorem s_encF : PSpec Tryz.prog 16 [encE edF] (.v (.string ⟨#[51,10,50,10,48,10,48,10,48,10]⟩)):=by
 have h:=s_encode edF (by simp [edF]) (by simp [edF]) d1 (by
  intro n hn
  have hn' : n = 3 ∨ n = 2 ∨ n = 0:=by simp [numsE,edF] at hn;omega
  refine ⟨s_itoa1 n (by omega) (by omega),by simp [d1],by simp [d1]⟩)
 exact h
end Go.Proofs.YtbibemijcdkjhaaGreatDoor
end
section
namespace Go.Proofs.YtbibemijcdkjhaaGreatDoor
open Go.Am
def lastL (m : Sh) : List Seg:=m.lists.getLastD []
structure WF (m : Sh) : Prop where
 ne : 0 < m.lists.length
 len : m.lists.length ≤ 1000
 srt : ∀ l ∈ m.lists,Srt l ∧ l.length ≤ 1000
 first : 0 ≤ m.first ∧ m.first ≤ 1099511627776
 used : 0 ≤ m.used ∧ m.used ≤ 1099511627776
structure EdOK (e : Ed) : Prop where
 rem : e.rem.length ≤ 100
 add : e.add.length ≤ 100
def lastB (m : Sh) : Int:=m.first + (m.lists.length : Int) - 1
def formB (e : Ed) : Bool :=
 if e.kind = 1 then decide (e.used ≠ 0) else if e.kind = 2 then decide (e.belief ≠ 0 ∨ e.used ≠ 0) else if e.kind = 3 then decide (e.used ≠ 0 ∨ 0 < e.rem.length ∨ 0 < e.add.length) else decide (0 < e.rem.length)
def untB (m : Sh) : Bool:=decide (m.first = 0 ∧ m.lists.length = 1 ∧ (m.lists.getD 0 []).length = 0 ∧ m.used = 0)
theorem s_form (e : Ed) : PSpec Tryz.prog 63 [encE e] (bA (formB e)):=by
 refine PSpec_of Tryz.func63 rfl rfl (Nat.le_of_ble_eq_true rfl) (Nat.le_of_ble_eq_true rfl) ?_
 intro E hE
 repeat' (first
  |(with_reducible first|refine uK ?_|refine uX ?_|refine jq fun K hK=>?_|refine jb ?_)|((with_reducible first|refine rS hE ?_|refine jn ?_|refine js fun K' hK'=>?_|refine ji fun X Y hX hY=>?_|refine jr ?_|refine jk ?_|refine jx ?_);simp [*])|with_reducible refine rL hE ?_|with_reducible refine And.intro ?_ ?_|omega|(refine imp1 fun h=>?_))
 all_goals clear hE
 ·simp [formB,h]
 ·simp [formB,h,‹¬e.kind = 1›,‹e.kind = 2›]
 ·simp [formB,h,‹¬e.kind = 1›,‹e.kind = 2›]
 ·simp [formB,h,‹¬e.kind = 1›,‹¬e.kind = 2›,‹e.kind = 3›,‹e.used = 0›]
 ·simp [formB,h,‹¬e.kind = 1›,‹¬e.kind = 2›,‹e.kind = 3›,‹e.used = 0›]
 ·simp [formB,h,‹¬e.kind = 1›,‹¬e.kind = 2›,‹e.kind = 3›]
 ·simp [formB,h,‹¬e.kind = 1›,‹¬e.kind = 2›]
theorem s_first (m : Sh) : PSpec Tryz.prog 27 [.ep (encM m)] (iA m.first):=by
 refine PSpec_of Tryz.func27 rfl rfl (Nat.le_of_ble_eq_true rfl) (Nat.le_of_ble_eq_true rfl) ?_
 intro E hE
 repeat' (first
  |(with_reducible first|refine uK ?_|refine uX ?_|refine jq fun K hK=>?_|refine jb ?_)|((with_reducible first|refine rS hE ?_|refine jn ?_|refine js fun K' hK'=>?_|refine ji fun X Y hX hY=>?_|refine jr ?_|refine jk ?_|refine jx ?_);simp [*])|with_reducible refine rL hE ?_|with_reducible refine And.intro ?_ ?_|omega|(refine imp1 fun h=>?_))
theorem s_last (m : Sh) (h : WF m) : PSpec Tryz.prog 28 [.ep (encM m)] (iA (lastB m)):=by
 have h1:=h.first
 have h2:=h.len
 have h3:=h.ne
 refine PSpec_of Tryz.func28 rfl rfl (Nat.le_of_ble_eq_true rfl) (Nat.le_of_ble_eq_true rfl) ?_
 intro E hE
 repeat' (first
  |(with_reducible first|refine uK ?_|refine uQ ?_|refine uX ?_|refine jq fun K hK=>?_|refine jb ?_)|(with_reducible refine rS hE ?_;simp [*])|with_reducible refine rL hE ?_|(((with_reducible show RK _ _ _ _ _ _);first|refine jn ?_|refine js fun K' hK'=>?_);simp [*])|with_reducible refine rD mixed hE ?_|((with_reducible show RKQ _ _ _ _ _ _);first|refine RKQ_nilk ⟨by decide,?_⟩|(refine jv fun K' hK'=>?_;simp [*]))|((with_reducible first|refine ji fun X Y hX hY=>?_|refine jr ?_|refine jk ?_|refine jx ?_);simp [*])|with_reducible refine And.intro ?_ ?_|omega|(refine imp1 fun h=>?_))
 rfl
theorem s_next (m : Sh) (h : WF m) : PSpec Tryz.prog 29 [.ep (encM m)] (iA (m.used + 1)):=by
 have h1:=h.used
 refine PSpec_of Tryz.func29 rfl rfl (Nat.le_of_ble_eq_true rfl) (Nat.le_of_ble_eq_true rfl) ?_
 intro E hE
 repeat' (first
  |(with_reducible first|refine uK ?_|refine uX ?_|refine jq fun K hK=>?_|refine jb ?_)|((with_reducible first|refine rS hE ?_|refine jn ?_|refine js fun K' hK'=>?_|refine ji fun X Y hX hY=>?_|refine jr ?_|refine jk ?_|refine jx ?_);simp [*])|with_reducible refine rL hE ?_|with_reducible refine And.intro ?_ ?_|omega|(refine imp1 fun h=>?_))
theorem s_unt (m : Sh) (h : WF m) : PSpec Tryz.prog 89 [.ep (encM m)] (bA (untB m)):=by
 have h3:=h.ne
 have hu : untB m = decide (m.first = 0 ∧ (m.lists.length : Int) = 1 ∧ m.lists[0] = [] ∧ m.used = 0):=by
  unfold untB
  rw [List.getD_eq_getElem?_getD,List.getElem?_eq_getElem h3]
  rw [Bool.eq_iff_iff]
  simp only [decide_eq_true_eq,Option.getD_some,List.length_eq_zero_iff]
  constructor <;> (rintro ⟨h1,h2,h4,h5⟩;exact ⟨h1,by omega,h4,h5⟩)
 refine PSpec_of Tryz.func89 rfl rfl (Nat.le_of_ble_eq_true rfl) (Nat.le_of_ble_eq_true rfl) ?_
 intro E hE
 repeat' (first
  |(with_reducible first|refine uK ?_|refine uX ?_|refine jq fun K hK=>?_|refine jb ?_)|((with_reducible first|refine rS hE ?_|refine jn ?_|refine js fun K' hK'=>?_|refine ji fun X Y hX hY=>?_|refine jr ?_|refine jk ?_|refine jx ?_);simp [*])|with_reducible refine rL hE ?_|with_reducible refine And.intro ?_ ?_|omega|(refine imp1 fun h=>?_))
def kindOK (e : Ed) : Prop:=e.kind = 1 ∨ e.kind = 2 ∨ e.kind = 3 ∨ e.kind = 4
def beliefE (m : Sh) (e : Ed) : Int :=
 if e.kind = 4 ∧ untB m = false then 18
 else if (e.kind = 1 ∧ e.belief ≠ lastB m + 1) ∨ (e.kind = 3 ∧ inB e.belief m.first (lastB m) = false) ∨ (e.kind = 4 ∧ inB e.belief 0 1073741824 = false) then 35
 else if e.kind = 1 ∧ 256 ≤ m.lists.length then 3
 else if e.kind = 2 ∧ e.rem = [] then 10 else 0
set_option maxHeartbeats 2000000 in
theorem s_belief (m : Sh) (e : Ed) (h : WF m) (hk : kindOK e) : PSpec Tryz.prog 64 [.ep (encM m),encE e] (iA (beliefE m e)):=by
 have h1:=h.first
 have h2:=h.len
 have h3:=h.ne
 have hl : lastB m = m.first + (m.lists.length : Int) - 1:=rfl
 have hl0 : 0 ≤ lastB m:=by omega
 have hl1 : lastB m ≤ 2000000000000:=by omega
 replace hl:=Hld.mk hl
 obtain ⟨k,b,u,rem,add⟩:=e
 rcases hk with hk|hk|hk|hk <;> simp only at hk <;> subst hk
 ·have hB : beliefE m ⟨1,b,u,rem,add⟩ = if b = lastB m + 1 then (if 256 ≤ (m.lists.length : Int) then 3 else 0) else 35:=by
   have e1 : (256 ≤ (m.lists.length : Int)) ↔ 256 ≤ m.lists.length:=by omega
   simp only [beliefE,e1]
   by_cases c1 : b = lastB m + 1 <;> by_cases c2 : 256 ≤ m.lists.length <;> simp [c1,c2]
  generalize beliefE m ⟨1,b,u,rem,add⟩ = B at hB ⊢
  refine PSpec_of Tryz.func64 rfl rfl (Nat.le_of_ble_eq_true rfl) (Nat.le_of_ble_eq_true rfl) ?_
  intro E hE
  repeat' (first
   |(with_reducible first|refine uK ?_|refine uQ ?_|refine uX ?_|refine jq fun K hK=>?_|refine jb ?_)|(with_reducible refine rS hE ?_;simp [*])|with_reducible refine rL hE ?_|(((with_reducible show RK _ _ _ _ _ _);first|refine jn ?_|refine js fun K' hK'=>?_);simp [*])|with_reducible refine rD mixed hE ?_|((with_reducible show RKQ _ _ _ _ _ _);first|refine RKQ_nilk ⟨by decide,?_⟩|(refine jv fun K' hK'=>?_;simp [*]))|((with_reducible first|refine ji fun X Y hX hY=>?_|refine jr ?_|refine jk ?_|refine jx ?_);simp [*])|((first|refine jC (s_last m h) ?_ ?_ ?_|refine jQ (s_last m h) ?_ ?_ ?_);(iterate 2 focus (simp [*] <;> fail));simp [*])|((first|refine jC (s_unt m h) ?_ ?_ ?_|refine jQ (s_unt m h) ?_ ?_ ?_);(iterate 2 focus (simp [*] <;> fail));simp [*])|((first|refine acall_same (s_within _ _ _) ?_ ?_ ?_|refine call_same (s_within _ _ _) ?_ ?_ ?_);(iterate 2 focus (simp [*] <;> fail));simp [*])|((first|refine acall_view (s_within _ _ _) ?_ ?_ ?_|refine call_view (s_within _ _ _) ?_ ?_ ?_);(iterate 2 focus (simp [*] <;> fail));simp [*])|with_reducible refine And.intro ?_ ?_|omega|(refine imp1 fun h=>?_))
 ·have hB : beliefE m ⟨2,b,u,rem,add⟩ = if rem = [] then 10 else 0:=by simp [beliefE]
  generalize beliefE m ⟨2,b,u,rem,add⟩ = B at hB ⊢
  refine PSpec_of Tryz.func64 rfl rfl (Nat.le_of_ble_eq_true rfl) (Nat.le_of_ble_eq_true rfl) ?_
  intro E hE
  repeat' (first
   |(with_reducible first|refine uK ?_|refine uQ ?_|refine uX ?_|refine jq fun K hK=>?_|refine jb ?_)|(with_reducible refine rS hE ?_;simp [*])|with_reducible refine rL hE ?_|(((with_reducible show RK _ _ _ _ _ _);first|refine jn ?_|refine js fun K' hK'=>?_);simp [*])|with_reducible refine rD mixed hE ?_|((with_reducible show RKQ _ _ _ _ _ _);first|refine RKQ_nilk ⟨by decide,?_⟩|(refine jv fun K' hK'=>?_;simp [*]))|((with_reducible first|refine ji fun X Y hX hY=>?_|refine jr ?_|refine jk ?_|refine jx ?_);simp [*])|((first|refine jC (s_last m h) ?_ ?_ ?_|refine jQ (s_last m h) ?_ ?_ ?_);(iterate 2 focus (simp [*] <;> fail));simp [*])|((first|refine jC (s_unt m h) ?_ ?_ ?_|refine jQ (s_unt m h) ?_ ?_ ?_);(iterate 2 focus (simp [*] <;> fail));simp [*])|((first|refine acall_same (s_within _ _ _) ?_ ?_ ?_|refine call_same (s_within _ _ _) ?_ ?_ ?_);(iterate 2 focus (simp [*] <;> fail));simp [*])|((first|refine acall_view (s_within _ _ _) ?_ ?_ ?_|refine call_view (s_within _ _ _) ?_ ?_ ?_);(iterate 2 focus (simp [*] <;> fail));simp [*])|with_reducible refine And.intro ?_ ?_|omega|(refine imp1 fun h=>?_))
 ·have hB : beliefE m ⟨3,b,u,rem,add⟩ = if inB b m.first (lastB m) = true then 0 else 35:=by
   simp only [beliefE]
   rcases inB b m.first (lastB m) <;> simp
  generalize beliefE m ⟨3,b,u,rem,add⟩ = B at hB ⊢
  refine PSpec_of Tryz.func64 rfl rfl (Nat.le_of_ble_eq_true rfl) (Nat.le_of_ble_eq_true rfl) ?_
  intro E hE
  repeat' (first
   |(with_reducible first|refine uK ?_|refine uQ ?_|refine uX ?_|refine jq fun K hK=>?_|refine jb ?_)|(with_reducible refine rS hE ?_;simp [*])|with_reducible refine rL hE ?_|(((with_reducible show RK _ _ _ _ _ _);first|refine jn ?_|refine js fun K' hK'=>?_);simp [*])|with_reducible refine rD mixed hE ?_|((with_reducible show RKQ _ _ _ _ _ _);first|refine RKQ_nilk ⟨by decide,?_⟩|(refine jv fun K' hK'=>?_;simp [*]))|((with_reducible first|refine ji fun X Y hX hY=>?_|refine jr ?_|refine jk ?_|refine jx ?_);simp [*])|((first|refine jC (s_last m h) ?_ ?_ ?_|refine jQ (s_last m h) ?_ ?_ ?_);(iterate 2 focus (simp [*] <;> fail));simp [*])|((first|refine jC (s_unt m h) ?_ ?_ ?_|refine jQ (s_unt m h) ?_ ?_ ?_);(iterate 2 focus (simp [*] <;> fail));simp [*])|((first|refine acall_same (s_within _ _ _) ?_ ?_ ?_|refine call_same (s_within _ _ _) ?_ ?_ ?_);(iterate 2 focus (simp [*] <;> fail));simp [*])|((first|refine acall_view (s_within _ _ _) ?_ ?_ ?_|refine call_view (s_within _ _ _) ?_ ?_ ?_);(iterate 2 focus (simp [*] <;> fail));simp [*])|with_reducible refine And.intro ?_ ?_|omega|(refine imp1 fun h=>?_))
 ·have hB : beliefE m ⟨4,b,u,rem,add⟩ = if untB m = true then (if inB b 0 1073741824 = true then 0 else 35) else 18:=by
   simp only [beliefE]
   rcases untB m <;> rcases inB b 0 1073741824 <;> simp
  generalize beliefE m ⟨4,b,u,rem,add⟩ = B at hB ⊢
  refine PSpec_of Tryz.func64 rfl rfl (Nat.le_of_ble_eq_true rfl) (Nat.le_of_ble_eq_true rfl) ?_
  intro E hE
  repeat' (first
   |(with_reducible first|refine uK ?_|refine uQ ?_|refine uX ?_|refine jq fun K hK=>?_|refine jb ?_)|(with_reducible refine rS hE ?_;simp [*])|with_reducible refine rL hE ?_|(((with_reducible show RK _ _ _ _ _ _);first|refine jn ?_|refine js fun K' hK'=>?_);simp [*])|with_reducible refine rD mixed hE ?_|((with_reducible show RKQ _ _ _ _ _ _);first|refine RKQ_nilk ⟨by decide,?_⟩|(refine jv fun K' hK'=>?_;simp [*]))|((with_reducible first|refine ji fun X Y hX hY=>?_|refine jr ?_|refine jk ?_|refine jx ?_);simp [*])|((first|refine jC (s_last m h) ?_ ?_ ?_|refine jQ (s_last m h) ?_ ?_ ?_);(iterate 2 focus (simp [*] <;> fail));simp [*])|((first|refine jC (s_unt m h) ?_ ?_ ?_|refine jQ (s_unt m h) ?_ ?_ ?_);(iterate 2 focus (simp [*] <;> fail));simp [*])|((first|refine acall_same (s_within _ _ _) ?_ ?_ ?_|refine call_same (s_within _ _ _) ?_ ?_ ?_);(iterate 2 focus (simp [*] <;> fail));simp [*])|((first|refine acall_view (s_within _ _ _) ?_ ?_ ?_|refine call_view (s_within _ _ _) ?_ ?_ ?_);(iterate 2 focus (simp [*] <;> fail));simp [*])|with_reducible refine And.intro ?_ ?_|omega|(refine imp1 fun h=>?_))
end Go.Proofs.YtbibemijcdkjhaaGreatDoor
end
section
namespace Go.Proofs.YtbibemijcdkjhaaGreatDoor
open Go.Am
def remGo (k : Int) (last : List Seg) : Option Int → List Int → Int
 |_,[]=>0
 |p,x :: xs=>if p.any (fun y=>decide (x ≤ y)) then 7 else if k = 1 ∧ hasB last x = false then 9 else remGo k last (some x) xs
def anyAll (m : Sh) (ids : List Int) : Bool:=m.lists.any fun l=>hasAllB l ids
def remE (m : Sh) (e : Ed) : Int :=
 let r:=remGo e.kind (lastL m) none e.rem
 if r ≠ 0 then r else if e.kind = 2 ∧ anyAll m e.rem = false then 9 else 0
def prv (l : List Int) (i : Nat) : Option Int:=if i = 0 then none else l[i - 1]?
theorem lastL_eq {m : Sh} (h : 0 < m.lists.length) : lastL m = m.lists[m.lists.length - 1]:=by
 unfold lastL
 rw [List.getLastD_eq_getLast?,List.getLast?_eq_getElem?,List.getElem?_eq_getElem (by omega)]
 rfl
theorem WF.last {m : Sh} (h : WF m) : Srt (lastL m) ∧ (lastL m).length ≤ 1000:=by
 rw [lastL_eq h.ne]
 exact h.srt _ (List.getElem_mem _)
theorem remE_eq (m : Sh) (e : Ed) {r : Int} (h : remGo e.kind (lastL m) none e.rem = r) : remE m e = if r ≠ 0 then r else if e.kind = 2 ∧ anyAll m e.rem = false then 9 else 0:=by
 unfold remE
 rw [h]
theorem prv_succ {l : List Int} {i : Nat} (h : i < l.length) : prv l (i + 1) = some l[i]:=by simp [prv,h]
set_option maxHeartbeats 2000000 in
theorem s_removal (m : Sh) (e : Ed) (h : WF m) (he : EdOK e) (hk : kindOK e) : PSpec Tryz.prog 65 [.ep (encM m),encE e] (iA (remE m e)):=by
 have h1:=h.first
 have h2:=h.len
 have h3:=h.ne
 have h4:=he.rem
 have hlast:=h.last
 have hle:=lastL_eq h3
 have hle' : m.lists[m.lists.length - 1]? = some (lastL m):=by rw [hle,List.getElem?_eq_getElem]
 have hall:=s_contL m.lists 91 [.ep (encE e)] (fun l=>hasAllB l e.rem) rfl (fun l hl=>s_removal1 l e (h.srt l hl).1 (by have:=(h.srt l hl).2;omega) (by omega)) (by omega)
 rw [show (m.lists.any fun l=>hasAllB l e.rem) = anyAll m e.rem from rfl] at hall
 replace hall:=Hld.mk hall
 have hhas:=fun n=>s_has (lastL m) n hlast.1 (by omega)
 replace hhas:=Hld.mk hhas
 have hB : ∀ r : Int,remGo e.kind (lastL m) none e.rem = r → remE m e = if r ≠ 0 then r else if e.kind = 2 ∧ anyAll m e.rem = false then 9 else 0:=fun r hr=>remE_eq m e hr
 generalize remE m e = B at hB ⊢
 generalize lastL m = L at *
 clear hle
 obtain ⟨k,b,u,rem,add⟩:=e
 simp only at *
 have hk' : k = 1 ∨ k = 2 ∨ k = 3 ∨ k = 4:=hk
 clear hk
 replace hB:=Hld.mk hB
 refine PSpec_of Tryz.func65 rfl rfl (Nat.le_of_ble_eq_true rfl) (Nat.le_of_ble_eq_true rfl) ?_
 intro E hE
 refine AW_seqt ⟨[(3,.loc 3 0),(0,.ep (encM m)),(4,iA 0)],[(3,.box 36 (encE ⟨k,b,u,rem,add⟩))]⟩ ?_ ?_
 ·refine AW_freeze 3 (t:=⟨[(3,.ep (encE ⟨k,b,u,rem,add⟩)),(0,.ep (encM m)),(4,iA 0)],[]⟩) rfl (by simp) (by simp) ?_
  repeat' (first
   |(with_reducible first|refine uK ?_|refine uQ ?_|refine uX ?_|refine jq fun K hK=>?_|refine jb ?_)|(with_reducible refine rS hE ?_;simp [*])|with_reducible refine rL hE ?_|(((with_reducible show RK _ _ _ _ _ _);first|refine jn ?_|refine js fun K' hK'=>?_);simp [*])|with_reducible refine rD mixed hE ?_|((with_reducible show RKQ _ _ _ _ _ _);first|refine RKQ_nilk ⟨by decide,?_⟩|(refine jv fun K' hK'=>?_;simp [*]))|((with_reducible first|refine ji fun X Y hX hY=>?_|refine jr ?_|refine jk ?_|refine jx ?_);simp [*])|with_reducible refine And.intro ?_ ?_|omega|(refine imp1 fun h=>?_))
  refine AW_loopk (G:=Nat) (fun i=>⟨[(25,iA i),(24,iA rem.length),(23,.sl 1 (rem.map iA)),(5,segL L),(3,.ep (encE ⟨k,b,u,rem,add⟩)),(0,.ep (encM m)),(4,iA 0)],[]⟩)
   (fun i=>i ≤ rem.length ∧ Hld (remGo k L none rem = remGo k L (prv rem i) (rem.drop i))) (fun i=>rem.length - i) 0 ⟨by omega,⟨by simp [prv]⟩⟩ (by simp) ?_
  rintro i ⟨hi,hgo⟩ K hK
  by_cases hlt : i < rem.length
  ·have hd : rem.drop i = rem[i] :: rem.drop (i + 1):=List.drop_eq_getElem_cons hlt
   have hgo2:=hgo.out
   rw [hd] at hgo2
   simp only [remGo] at hgo2
   have hstep : ∀ c : Prop,c → c:=fun _ h=>h
   clear hd hgo
   cases i with
   |zero =>
    simp only [prv,if_true,Option.any_none,Bool.false_eq_true,if_false] at hgo2
    by_cases hc : k = 1 ∧ hasB L rem[0] = false
    ·rw [if_pos hc] at hgo2
     have hB2:=hB.out 9 hgo2
     simp at hB2
     obtain ⟨rfl,hc⟩:=hc
     clear hgo2
     repeat' (first
      |(with_reducible first|refine uK ?_|refine uQ ?_|refine uX ?_|refine jq fun K hK=>?_|refine jb ?_)|(with_reducible refine rS hE ?_;simp [*])|with_reducible refine rL hE ?_|(((with_reducible show RK _ _ _ _ _ _);first|refine jn ?_|refine js fun K' hK'=>?_);simp [*])|with_reducible refine rD mixed hE ?_|((with_reducible show RKQ _ _ _ _ _ _);first|refine RKQ_nilk ⟨by decide,?_⟩|(refine jv fun K' hK'=>?_;simp [*]))|((with_reducible first|refine ji fun X Y hX hY=>?_|refine jr ?_|refine jk ?_|refine jx ?_);simp [*])|((first|refine acall_same (hhas.out _) ?_ ?_ ?_|refine call_same (hhas.out _) ?_ ?_ ?_);(iterate 2 focus (simp [*] <;> fail));simp [*])|((first|refine acall_view (hhas.out _) ?_ ?_ ?_|refine call_view (hhas.out _) ?_ ?_ ?_);(iterate 2 focus (simp [*] <;> fail));simp [*])|with_reducible refine And.intro ?_ ?_|omega|(refine imp1 fun h=>?_))
    ·rw [if_neg hc] at hgo2
     have hcond : (k = 1 → hasB L rem[0] = true):=fun e=>by simpa [e] using hc
     clear hc
     replace hgo2:=Hld.mk hgo2
     by_cases hk1 : k = 1
     ·have hh:=hcond hk1
      subst hk1
      clear hcond
      repeat' (first
       |(with_reducible first|refine uK ?_|refine uQ ?_|refine uX ?_|refine jq fun K hK=>?_|refine jb ?_)|(with_reducible refine rS hE ?_;simp [*])|with_reducible refine rL hE ?_|(((with_reducible show RK _ _ _ _ _ _);first|refine jn ?_|refine js fun K' hK'=>?_);simp [*])|with_reducible refine rD mixed hE ?_|((with_reducible show RKQ _ _ _ _ _ _);first|refine RKQ_nilk ⟨by decide,?_⟩|(refine jv fun K' hK'=>?_;simp [*]))|((with_reducible first|refine ji fun X Y hX hY=>?_|refine jr ?_|refine jk ?_|refine jx ?_);simp [*])|((first|refine acall_same (hhas.out _) ?_ ?_ ?_|refine call_same (hhas.out _) ?_ ?_ ?_);(iterate 2 focus (simp [*] <;> fail));simp [*])|((first|refine acall_view (hhas.out _) ?_ ?_ ?_|refine call_view (hhas.out _) ?_ ?_ ?_);(iterate 2 focus (simp [*] <;> fail));simp [*])|with_reducible refine And.intro ?_ ?_|omega|(refine imp1 fun h=>?_))
      exact ⟨1,⟨by omega,⟨by rw [hgo2.out,prv_succ hlt]⟩⟩,by omega,by simp⟩
     ·clear hcond
      repeat' (first
       |(with_reducible first|refine uK ?_|refine uQ ?_|refine uX ?_|refine jq fun K hK=>?_|refine jb ?_)|(with_reducible refine rS hE ?_;simp [*])|with_reducible refine rL hE ?_|(((with_reducible show RK _ _ _ _ _ _);first|refine jn ?_|refine js fun K' hK'=>?_);simp [*])|with_reducible refine rD mixed hE ?_|((with_reducible show RKQ _ _ _ _ _ _);first|refine RKQ_nilk ⟨by decide,?_⟩|(refine jv fun K' hK'=>?_;simp [*]))|((with_reducible first|refine ji fun X Y hX hY=>?_|refine jr ?_|refine jk ?_|refine jx ?_);simp [*])|((first|refine acall_same (hhas.out _) ?_ ?_ ?_|refine call_same (hhas.out _) ?_ ?_ ?_);(iterate 2 focus (simp [*] <;> fail));simp [*])|((first|refine acall_view (hhas.out _) ?_ ?_ ?_|refine call_view (hhas.out _) ?_ ?_ ?_);(iterate 2 focus (simp [*] <;> fail));simp [*])|with_reducible refine And.intro ?_ ?_|omega|(refine imp1 fun h=>?_))
      all_goals exact ⟨1,⟨by omega,⟨by rw [hgo2.out,prv_succ hlt]⟩⟩,by omega,by simp⟩
   |succ j =>
    have hjl : j < rem.length:=by omega
    rw [prv_succ (by omega)] at hgo2
    simp only [Option.any_some,decide_eq_true_eq] at hgo2
    by_cases hc0 : rem[j + 1] ≤ rem[j]
    ·rw [if_pos hc0] at hgo2
     have hB2:=hB.out 7 hgo2
     simp at hB2
     clear hgo2
     repeat' (first
      |(with_reducible first|refine uK ?_|refine uQ ?_|refine uX ?_|refine jq fun K hK=>?_|refine jb ?_)|(with_reducible refine rS hE ?_;simp [*])|with_reducible refine rL hE ?_|(((with_reducible show RK _ _ _ _ _ _);first|refine jn ?_|refine js fun K' hK'=>?_);simp [*])|with_reducible refine rD mixed hE ?_|((with_reducible show RKQ _ _ _ _ _ _);first|refine RKQ_nilk ⟨by decide,?_⟩|(refine jv fun K' hK'=>?_;simp [*]))|((with_reducible first|refine ji fun X Y hX hY=>?_|refine jr ?_|refine jk ?_|refine jx ?_);simp [*])|((first|refine acall_same (hhas.out _) ?_ ?_ ?_|refine call_same (hhas.out _) ?_ ?_ ?_);(iterate 2 focus (simp [*] <;> fail));simp [*])|((first|refine acall_view (hhas.out _) ?_ ?_ ?_|refine call_view (hhas.out _) ?_ ?_ ?_);(iterate 2 focus (simp [*] <;> fail));simp [*])|with_reducible refine And.intro ?_ ?_|omega|(refine imp1 fun h=>?_))
    ·rw [if_neg hc0] at hgo2
     by_cases hc : k = 1 ∧ hasB L rem[j + 1] = false
     ·rw [if_pos hc] at hgo2
      have hB2:=hB.out 9 hgo2
      simp at hB2
      obtain ⟨rfl,hc⟩:=hc
      clear hgo2
      repeat' (first
       |(with_reducible first|refine uK ?_|refine uQ ?_|refine uX ?_|refine jq fun K hK=>?_|refine jb ?_)|(with_reducible refine rS hE ?_;simp [*])|with_reducible refine rL hE ?_|(((with_reducible show RK _ _ _ _ _ _);first|refine jn ?_|refine js fun K' hK'=>?_);simp [*])|with_reducible refine rD mixed hE ?_|((with_reducible show RKQ _ _ _ _ _ _);first|refine RKQ_nilk ⟨by decide,?_⟩|(refine jv fun K' hK'=>?_;simp [*]))|((with_reducible first|refine ji fun X Y hX hY=>?_|refine jr ?_|refine jk ?_|refine jx ?_);simp [*])|((first|refine acall_same (hhas.out _) ?_ ?_ ?_|refine call_same (hhas.out _) ?_ ?_ ?_);(iterate 2 focus (simp [*] <;> fail));simp [*])|((first|refine acall_view (hhas.out _) ?_ ?_ ?_|refine call_view (hhas.out _) ?_ ?_ ?_);(iterate 2 focus (simp [*] <;> fail));simp [*])|with_reducible refine And.intro ?_ ?_|omega|(refine imp1 fun h=>?_))
     ·rw [if_neg hc] at hgo2
      have hcond : (k = 1 → hasB L rem[j + 1] = true):=fun e=>by simpa [e] using hc
      clear hc
      replace hgo2:=Hld.mk hgo2
      by_cases hk1 : k = 1
      ·have hh:=hcond hk1
       subst hk1
       clear hcond
       repeat' (first
        |(with_reducible first|refine uK ?_|refine uQ ?_|refine uX ?_|refine jq fun K hK=>?_|refine jb ?_)|(with_reducible refine rS hE ?_;simp [*])|with_reducible refine rL hE ?_|(((with_reducible show RK _ _ _ _ _ _);first|refine jn ?_|refine js fun K' hK'=>?_);simp [*])|with_reducible refine rD mixed hE ?_|((with_reducible show RKQ _ _ _ _ _ _);first|refine RKQ_nilk ⟨by decide,?_⟩|(refine jv fun K' hK'=>?_;simp [*]))|((with_reducible first|refine ji fun X Y hX hY=>?_|refine jr ?_|refine jk ?_|refine jx ?_);simp [*])|((first|refine acall_same (hhas.out _) ?_ ?_ ?_|refine call_same (hhas.out _) ?_ ?_ ?_);(iterate 2 focus (simp [*] <;> fail));simp [*])|((first|refine acall_view (hhas.out _) ?_ ?_ ?_|refine call_view (hhas.out _) ?_ ?_ ?_);(iterate 2 focus (simp [*] <;> fail));simp [*])|with_reducible refine And.intro ?_ ?_|omega|(refine imp1 fun h=>?_))
       all_goals exact ⟨j + 1 + 1,⟨by omega,⟨by rw [hgo2.out,prv_succ hlt]⟩⟩,by omega,by simp⟩
      ·clear hcond
       repeat' (first
        |(with_reducible first|refine uK ?_|refine uQ ?_|refine uX ?_|refine jq fun K hK=>?_|refine jb ?_)|(with_reducible refine rS hE ?_;simp [*])|with_reducible refine rL hE ?_|(((with_reducible show RK _ _ _ _ _ _);first|refine jn ?_|refine js fun K' hK'=>?_);simp [*])|with_reducible refine rD mixed hE ?_|((with_reducible show RKQ _ _ _ _ _ _);first|refine RKQ_nilk ⟨by decide,?_⟩|(refine jv fun K' hK'=>?_;simp [*]))|((with_reducible first|refine ji fun X Y hX hY=>?_|refine jr ?_|refine jk ?_|refine jx ?_);simp [*])|((first|refine acall_same (hhas.out _) ?_ ?_ ?_|refine call_same (hhas.out _) ?_ ?_ ?_);(iterate 2 focus (simp [*] <;> fail));simp [*])|((first|refine acall_view (hhas.out _) ?_ ?_ ?_|refine call_view (hhas.out _) ?_ ?_ ?_);(iterate 2 focus (simp [*] <;> fail));simp [*])|with_reducible refine And.intro ?_ ?_|omega|(refine imp1 fun h=>?_))
       all_goals exact ⟨j + 1 + 1,⟨by omega,⟨by rw [hgo2.out,prv_succ hlt]⟩⟩,by omega,by simp⟩
  ·have hil : i = rem.length:=by omega
   subst hil
   have hgo2:=hgo.out
   rw [List.drop_length] at hgo2
   simp only [remGo] at hgo2
   have hB2:=hB.out 0 hgo2
   simp at hB2
   clear hgo hgo2
   rcases hk' with rfl|rfl|rfl|rfl
   all_goals
    repeat' (first
     |(with_reducible first|refine uK ?_|refine uQ ?_|refine uX ?_|refine jq fun K hK=>?_|refine jb ?_)|(with_reducible refine rS hE ?_;simp [*])|with_reducible refine rL hE ?_|(((with_reducible show RK _ _ _ _ _ _);first|refine jn ?_|refine js fun K' hK'=>?_);simp [*])|with_reducible refine rD mixed hE ?_|((with_reducible show RKQ _ _ _ _ _ _);first|refine RKQ_nilk ⟨by decide,?_⟩|(refine jv fun K' hK'=>?_;simp [*]))|((with_reducible first|refine ji fun X Y hX hY=>?_|refine jr ?_|refine jk ?_|refine jx ?_);simp [*])|((first|refine jC (hall.out) ?_ ?_ ?_|refine jQ (hall.out) ?_ ?_ ?_);(iterate 2 focus (simp [*] <;> fail));simp [*])|with_reducible refine And.intro ?_ ?_|omega|(refine imp1 fun h=>?_))
 ·intro K hK
  repeat' (first
   |(with_reducible first|refine uK ?_|refine uQ ?_|refine uX ?_|refine jq fun K hK=>?_|refine jb ?_)|(with_reducible refine rS hE ?_;simp [*])|with_reducible refine rL hE ?_|(((with_reducible show RK _ _ _ _ _ _);first|refine jn ?_|refine js fun K' hK'=>?_);simp [*])|with_reducible refine rD mixed hE ?_|((with_reducible show RKQ _ _ _ _ _ _);first|refine RKQ_nilk ⟨by decide,?_⟩|(refine jv fun K' hK'=>?_;simp [*]))|((with_reducible first|refine ji fun X Y hX hY=>?_|refine jr ?_|refine jk ?_|refine jx ?_);simp [*])|with_reducible refine And.intro ?_ ?_|omega|(refine imp1 fun h=>?_))
  all_goals simp
end Go.Proofs.YtbibemijcdkjhaaGreatDoor
end
