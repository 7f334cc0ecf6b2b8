/- Reports as data. -/
import Derived.Test.YtmjckbokjjnmeaaT
namespace Go.Proofs.Ytmjckbokjjnmeaa
open Go.Am
abbrev iA (n : Int) : AV := .v (.int .i64 n)
abbrev bA (b : Bool) : AV := .v (.bool b)
structure R where
  (o s v d t x y : Int)
  c : Bool
  deriving DecidableEq, Inhabited
def encR (r : R) : AV := .st [iA r.o, iA r.s, iA r.v, iA r.d, iA r.t, iA r.x, iA r.y, bA r.c]
@[simp] theorem encR_cells (r : R) : (encR r).cells = [iA r.o, iA r.s, iA r.v, iA r.d, iA r.t, iA r.x, iA r.y, bA r.c] := rfl
@[simp] theorem encR_isSt (r : R) : (encR r).isSt = true := rfl
@[simp] theorem encR_sto (r : R) : (encR r).sto = true := rfl
@[simp] theorem encR_one (r : R) : (encR r).one = false := rfl
@[simp] theorem encR_idf (r : R) : (encR r).idf = true := rfl
@[simp] theorem encR_flat (r : R) : (encR r).flat = true := rfl
@[simp] theorem encR_ment (d : Nat) (r : R) : (encR r).ment d = false := by simp [encR]
@[simp] theorem encR_ren (σ : Nat → Nat) (r : R) : (encR r).ren σ = encR r := by simp [encR]
@[simp] theorem encR_ids (r : R) : (encR r).ids = [] := by simp [encR]
@[simp] theorem encR_idsOf (r : R) : idsOf (encR r) = [] := by simp [encR]
theorem encR_eq {a b : R} : encR a = encR b ↔ a = b := by
  constructor
  · intro h
    cases a; cases b
    simp [encR] at h
    simp [h]
  · rintro rfl; rfl
/-- The fields in the order in which they are compared. -/
def fieldsR (r : R) : List Int := [r.o, r.s, r.v, r.t, r.x, r.y, r.d, if r.c then 1 else 0]
theorem eqA_R (a b : R) : eqA [SK.i, .i, .i, .i, .i, .i, .i, .b] (encR a).cells (encR b).cells = some (decide (a = b)) := by
  simp only [encR_cells, eqA, eqA1, if_true, Option.map_some]
  congr 1
  rw [Bool.eq_iff_iff]
  cases a
  cases b
  simp [and_assoc]
theorem qbin_eqR {a b : R} {xc yc : Bool} {cont : AV → Prop} : qbin Try.prog .eql 23 (encR a) (encR b) xc yc cont ↔ cont (.v (.bool (decide (a = b)))) := by
  have h := eqA_R a b
  simp only [encR_cells] at h
  simp only [qbin, encR, k_agg23, k_eq23, k_guard23, true_and, h]
theorem qbin_neR {a b : R} {xc yc : Bool} {cont : AV → Prop} : qbin Try.prog .neq 23 (encR a) (encR b) xc yc cont ↔ cont (.v (.bool (!decide (a = b)))) := by
  have h := eqA_R a b
  simp only [encR_cells] at h
  simp only [qbin, encR, k_agg23, k_eq23, k_guard23, true_and, h]
attribute [simp high] qbin_eqR qbin_neR

theorem getR {l : List R} {i : Nat} (h : i < l.length) : (l.map encR).getD i .u = encR l[i] := by
  simp [List.getD_eq_getElem?_getD, h]
theorem getI {l : List Int} {i : Nat} (h : i < l.length) : (l.map iA).getD i .u = iA l[i] := by
  simp [List.getD_eq_getElem?_getD, h]
@[simp] theorem idf_R (l : List R) : idfL (l.map encR) = true := by induction l with | nil => rfl | cons a l ih => simp [ih]
@[simp] theorem idf_I (l : List Int) : idfL (l.map iA) = true := by induction l with | nil => rfl | cons a l ih => simp [ih]
@[simp] theorem flat_R (l : List R) : flatL (l.map encR) = true := by induction l with | nil => rfl | cons a l ih => simp [ih]
@[simp] theorem flat_I (l : List Int) : flatL (l.map iA) = true := by induction l with | nil => rfl | cons a l ih => simp [ih]
@[simp] theorem ment_R (d : Nat) (l : List R) : mentL d (l.map encR) = false := by induction l with | nil => rfl | cons a l ih => simp [ih]
@[simp] theorem ment_I (d : Nat) (l : List Int) : mentL d (l.map iA) = false := by induction l with | nil => rfl | cons a l ih => simp [ih]
@[simp] theorem ids_R (l : List R) : idsA (l.map encR) = [] := by induction l with | nil => rfl | cons a l ih => simp [ih]
@[simp] theorem ids_I (l : List Int) : idsA (l.map iA) = [] := by induction l with | nil => rfl | cons a l ih => simp [ih]
@[simp] theorem ren_R (σ : Nat → Nat) (l : List R) : renL σ (l.map encR) = l.map encR := by induction l with | nil => rfl | cons a l ih => simp [ih]
@[simp] theorem ren_I (σ : Nat → Nat) (l : List Int) : renL σ (l.map iA) = l.map iA := by induction l with | nil => rfl | cons a l ih => simp [ih]
/-- A call, by its contract: the arguments as they are. -/
theorem call_same {P : Program} {f : FuncId} {args : List AV} {bf : Nat → Option Ct} {d : Option Tmp} {res : AV} {k : AV → Option Ct → Prop} (h : PSpec P f args res) (hi : idfL args = true) (hr : res.idf = true) (hc : k res none) : QCall P f args bf d k :=
  ⟨.inl ⟨args, res, (by
    have : ∀ l : List AV, idfL l = true → ViewL bf l l := by
      intro l
      induction l with
      | nil => intro _; trivial
      | cons x l ih =>
        intro h
        simp only [idfL, Bool.and_eq_true] at h
        exact ⟨.inl ⟨rfl, h.1⟩, ih h.2⟩
    exact this args hi), h, .inr ⟨rfl, hi, hr⟩, hc⟩⟩
/-- .. own rows seen as rows; a flat result. -/
theorem call_view {P : Program} {f : FuncId} {args ds : List AV} {bf : Nat → Option Ct} {d : Option Tmp} {res : AV} {k : AV → Option Ct → Prop} (h : PSpec P f ds res) (hv : ViewL bf args ds) (hr : res.flat = true) (hc : k res none) : QCall P f args bf d k :=
  ⟨.inl ⟨ds, res, hv, h, .inl hr, hc⟩⟩
/-- .. one new box. -/
theorem call_new {P : Program} {f : FuncId} {args ds : List AV} {bf : Nat → Option Ct} {t : Tmp} {mk : Nat → AV} {c : Ct} {k : AV → Option Ct → Prop} (h : NSpec P f ds mk c) (hv : ViewL bf args ds) (hc : ∀ (H H' : Heap) (ρ ρ' : Rho) (w : World) (bd : Bd), CtRep H ρ w bd c → CtRep H' ρ' w bd c) (hk : k (mk t) (some c)) : QCall P f args bf (some t) k :=
  ⟨.inr ⟨ds, mk, c, t, hv, h, rfl, .inl hc, hk⟩⟩
theorem viewL_same (bf : Nat → Option Ct) : ∀ l : List AV, idfL l = true → ViewL bf l l := by
  intro l
  induction l with
  | nil => intro _; trivial
  | cons x l ih =>
    intro h
    simp only [idfL, Bool.and_eq_true] at h
    exact ⟨.inl ⟨rfl, h.1⟩, ih h.2⟩
theorem acall_same {P : Program} {E : Env} {f : FuncId} {args : List AV} {s : AState} {d : Option Tmp} {res : AV} {K : AState → Prop} (h : PSpec P f args res) (hi : idfL args = true) (hr : res.idf = true) (hk : K (s.put d res)) : ACall P E f args s d K :=
  ACall_pure h (viewL_same _ _ hi) (.inr ⟨rfl, hi, hr⟩) hk
theorem acall_view {P : Program} {E : Env} {f : FuncId} {args ds : List AV} {s : AState} {d : Option Tmp} {res : AV} {K : AState → Prop} (h : PSpec P f ds res) (hv : ViewL s.box args ds) (hr : res.flat = true) (hk : K (s.put d res)) : ACall P E f args s d K :=
  ACall_pure h hv (.inl hr) hk
theorem QCall_congr' {P : Program} {f : FuncId} {args args' : List AV} {bf : Nat → Option Ct} {d : Option Tmp} {k : AV → Option Ct → Prop} (h : args = args') : QCall P f args bf d k = QCall P f args' bf d k := by rw [h]
theorem ACall_congr' {P : Program} {E : Env} {f : FuncId} {args args' : List AV} {s : AState} {d : Option Tmp} {K : AState → Prop} (h : args = args') : ACall P E f args s d K = ACall P E f args' s d K := by rw [h]
attribute [congr] QCall_congr' ACall_congr'
end Go.Proofs.Ytmjckbokjjnmeaa
