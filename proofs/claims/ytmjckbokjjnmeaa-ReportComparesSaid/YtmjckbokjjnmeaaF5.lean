/- report.winners: the map of the greatest reports. -/
import Derived.Test.YtmjckbokjjnmeaaF4
namespace Go.Proofs.Ytmjckbokjjnmeaa
open Go.Am

/-- The map, as the list of its values: the key of r is its object and number. -/
def encM (m : List R) : List (AV × AV) := m.map fun r => (.st [iA r.o, iA r.s], encR r)
def findM (a b : Int) : List R → Option R
  | [] => none
  | r :: m => if a = r.o ∧ b = r.s then some r else findM a b m
def updM (r : R) : List R → List R
  | [] => [r]
  | w :: m => if r.o = w.o ∧ r.s = w.s then r :: m else w :: updM r m

theorem encM_cons (r : R) (m : List R) : encM (r :: m) = (.st [iA r.o, iA r.s], encR r) :: encM m := rfl
@[simp] theorem encM_nil : encM [] = [] := rfl
@[simp] theorem encM_len (m : List R) : (encM m).length = m.length := by simp [encM]
theorem eqK (a b c d : Int) : eqA [SK.i, SK.i] [iA a, iA b] [iA c, iA d] = some (decide (a = c) && decide (b = d)) := by simp
@[simp] theorem findA_M (a b : Int) : ∀ m : List R, findA [SK.i, SK.i] (.st [iA a, iA b]) (encM m) = (findM a b m).map encR
  | [] => rfl
  | r :: m => by
    rw [encM_cons]
    simp only [findA, findM, cells_st, eqK, Option.some.injEq, Bool.and_eq_true, decide_eq_true_eq, findA_M a b m]
    split <;> rfl
@[simp] theorem keysOK_M (a b : Int) : ∀ m : List R, keysOK [SK.i, SK.i] true (.st [iA a, iA b]) (encM m)
  | [] => trivial
  | r :: m => by
    rw [encM_cons]
    simp only [keysOK, cells_st, eqK]
    exact ⟨⟨rfl, rfl, rfl⟩, keysOK_M a b m⟩
@[simp] theorem updA_M (r : R) : ∀ m : List R, updA [SK.i, SK.i] (.st [iA r.o, iA r.s]) (encR r) (encM m) = encM (updM r m)
  | [] => rfl
  | w :: m => by
    rw [encM_cons]
    simp only [updA, updM, cells_st, eqK, Option.some.injEq, Bool.and_eq_true, decide_eq_true_eq, updA_M r m]
    split
    · rename_i h
      rw [encM_cons]
    · rw [encM_cons]
@[simp] theorem mentP_M (d : Nat) (m : List R) : mentP d (encM m) = false := by
  induction m with
  | nil => rfl
  | cons r m ih => rw [encM_cons]; simp [ih]
theorem flat_M (m : List R) (H H' : Heap) (ρ ρ' : Rho) (w : World) (bd : Bd) (h : CtRep H ρ w bd (.map (encM m) none)) : CtRep H' ρ' w bd (.map (encM m) none) := by
  obtain ⟨b, cap, ents, clock, h1, h2, h3, h4, h5⟩ := h
  refine ⟨b, cap, ents, clock, h1, h2, ⟨h3.1, fun i c u hc hu => (h3.2 i c u hc hu).flat ?_⟩, ⟨h4.1, fun i c u hc hu => (h4.2 i c u hc hu).flat ?_⟩, h5⟩
  · have := List.mem_of_getElem? hc
    simp only [encM, List.map_map, List.mem_map, Function.comp_apply] at this
    obtain ⟨r, _, rfl⟩ := this
    rfl
  · have := List.mem_of_getElem? hc
    simp only [encM, List.map_map, List.mem_map, Function.comp_apply] at this
    obtain ⟨r, _, rfl⟩ := this
    rfl

def stepW (m : List R) (r : R) : List R := match findM r.o r.s m with
  | none => updM r m
  | some w => if 0 < cmpR r w then updM r m else m
def winM (l : List R) : List R := l.foldl stepW []

theorem take_fold {l : List R} {i : Nat} (h : i < l.length) : (l.take (i + 1)).foldl stepW [] = stepW ((l.take i).foldl stepW []) l[i] := by
  rw [List.take_succ_eq_append_getElem h, List.foldl_append]
  rfl

theorem m39 (l : List R) (hl : l.length < 4611686018427387904) : MSpec Try.prog 39 [.sl 8 (l.map encR)] [] (fun res bf => res = .mp 8 ∧ bf 8 = some (.map (encM (winM l)) none)) := by
  refine MSpec_of Try.func39 rfl rfl (Nat.le_of_ble_eq_true rfl) (Nat.le_of_ble_eq_true rfl) ?_
  intro E hE
  refine AW_seq fun K hK => ?_
  refine AW_region (by rw [hE]; decide) ?_
  simp
  refine hK _ ?_
  clear hK
  refine AW_seq fun K hK => ?_
  refine AW_region (by rw [hE]; decide) ?_
  simp
  refine hK _ ?_
  clear hK
  refine AW_seq fun K0 hK0 => ?_
  refine AW_seq fun K hK => ?_
  refine AW_region (by rw [hE]; decide) ?_
  simp
  refine hK _ ?_
  clear hK
  refine AW_block ?_
  refine AW_loop (G := Nat) (fun i => ⟨[(11, iA i), (10, iA l.length), (9, .sl 8 (l.map encR)), (3, .mp 8)], [(8, .map (encM ((l.take i).foldl stepW [])) none)]⟩)
    (fun i => i ≤ l.length) (fun i => l.length - i) 0 (Nat.zero_le _) (by simp) ?_
  intro i hi
  generalize hm : (l.take i).foldl stepW [] = m
  refine AW_seq fun K1 hK1 => ?_
  refine AW_region (by rw [hE]; decide) ?_
  simp
  refine hK1 _ ?_
  clear hK1
  refine AW_seq fun K1 hK1 => ?_
  refine AW_cond (t := decide (i < l.length)) (by simp) ?_ ?_
  · intro hlt
    have hlt := of_decide_eq_true hlt
    have hf := take_fold hlt
    rw [hm] at hf
    refine AW_skip ?_
    simp
    refine hK1 _ ?_
    clear hK1
    refine AW_seq fun K1 hK1 => ?_
    refine AW_block ?_
    refine AW_seq fun K hK => ?_
    refine AW_region (by rw [hE]; decide) ?_
    simp [hlt]
    refine hK _ ?_
    clear hK
    refine AW_seq fun K hK => ?_
    refine AW_region (by rw [hE]; decide) ?_
    simp
    refine acall_same (s40 _) (by simp) rfl ?_
    rcases hw : findM l[i].o l[i].s m with _ | w
    · simp [hw]
      refine hK _ ?_
      clear hK
      have hf : (l.take (i + 1)).foldl stepW [] = updM l[i] m := by rw [hf]; simp [stepW, hw]
      refine AW_seq fun K hK => ?_
      refine AW_region (by rw [hE]; decide) ?_
      simp
      refine hK _ ?_
      clear hK
      refine AW_cond (t := true) (by simp) ?_ ?_
      · intro _
        refine AW_draw 4 mixed (by rw [hE]; decide) (by simp [newOK]) ?_
        simp
        refine call_same (s40 _) (by simp) rfl ?_
        simp
        refine ⟨by decide, ?_⟩
        refine hK1 _ ?_
        refine AW_region (by rw [hE]; decide) ?_
        simp
        refine ⟨by omega, i + 1, by omega, by omega, ?_⟩
        simp [hf]
      · intro h; cases h
    · simp [hw]
      refine hK _ ?_
      clear hK
      refine AW_seq fun K hK => ?_
      refine AW_region (by rw [hE]; decide) ?_
      simp
      refine acall_same (s13 _ _) (by simp) rfl ?_
      simp
      refine hK _ ?_
      clear hK
      refine AW_cond (t := decide (0 < cmpR l[i] w)) (by simp) ?_ ?_
      · intro hc
        have hc := of_decide_eq_true hc
        have hf : (l.take (i + 1)).foldl stepW [] = updM l[i] m := by rw [hf]; simp [stepW, hw, hc]
        refine AW_draw 4 mixed (by rw [hE]; decide) (by simp [newOK]) ?_
        simp
        refine call_same (s40 _) (by simp) rfl ?_
        simp
        refine ⟨by decide, ?_⟩
        refine hK1 _ ?_
        refine AW_region (by rw [hE]; decide) ?_
        simp
        refine ⟨by omega, i + 1, by omega, by omega, ?_⟩
        simp [hf]
      · intro hc
        have hc := of_decide_eq_false hc
        have hf : (l.take (i + 1)).foldl stepW [] = m := by rw [hf]; simp [stepW, hw, hc]
        refine AW_skip ?_
        simp
        refine hK1 _ ?_
        refine AW_region (by rw [hE]; decide) ?_
        simp
        refine ⟨by omega, i + 1, by omega, by omega, ?_⟩
        simp [hf]
  · intro hlt
    have hlt := of_decide_eq_false hlt
    have : i = l.length := by omega
    subst this
    rw [List.take_length] at hm
    refine AW_exit ?_
    simp
    refine hK0 _ ?_
    refine AW_seq fun K hK => ?_
    refine AW_region (by rw [hE]; decide) ?_
    simp
    refine hK _ ?_
    clear hK
    refine AW_ret ?_
    simp
    rw [← hm]
    rfl

theorem MSpec.toN {P : Program} {f : FuncId} {args : List AV} {j : Nat} {es : List (AV × AV)} {st : Option (List Nat × Nat)} (h : MSpec P f args [] (fun res bf => res = .mp j ∧ bf j = some (.map es st))) (hm : ∀ d, mentP d es = false) : NSpec P f args .mp (.map es st) := by
  refine ⟨h.1, fun H w vs he hr => ?_⟩
  refine Calls.mono (h.2 H rho0 w vs he ⟨fun id c hc => by simp [lk] at hc, fun id c b cap hc => by simp [lk] at hc, fun id id' c c' b cap cap' hc => by simp [lk] at hc⟩ hr) ?_
  rintro e w' ⟨H', ρ', res, bf', v, rfl, ⟨rfl, hbf⟩, hle, hnew, hext, hB, hrep, hfr, _⟩
  have hno : ∀ b, ¬ OwnB rho0 (lk ([] : List (Nat × Ct))) b := by rintro b ⟨id, c, cap, hc, _⟩; simp [lk] at hc
  cases hrep with
  | mp hρ =>
    rename_i b cap
    have h1 := hB.apart j _ b cap hbf hρ
    have h2 := hB.rep j _ hbf
    rw [hρ] at h2
    have hb0 : w.heap.size ≤ b := h1.2.2.resolve_right (hno b)
    refine ⟨H', _, b, cap, rfl, hle, fun b' o u hu hu0 => (hnew b' o u hu hu0).resolve_right (hno b'), hext, fun G ρ d hd => .mp hd, fun ρ => ?_, hb0, h1.2.1, h1.1, FrameBut.below ⟨hfr.os, hfr.tape, hfr.output, hfr.size, fun k hk _ => hfr.block k hk (hno k)⟩⟩
    exact h2.mono H'.le_refl (fun d hd => by simp only [Ct.ment] at hd; rw [hm d] at hd; cases hd) (fun _ _ _ => rfl)

theorem n39 (l : List R) (hl : l.length < 4611686018427387904) : NSpec Try.prog 39 [.sl 8 (l.map encR)] .mp (.map (encM (winM l)) none) := MSpec.toN (m39 l hl) (fun d => mentP_M d _)
end Go.Proofs.Ytmjckbokjjnmeaa
