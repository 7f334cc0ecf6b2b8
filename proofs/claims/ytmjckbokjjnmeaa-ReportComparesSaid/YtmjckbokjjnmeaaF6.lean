/- report.Status and report.Missing. -/
import Derived.Test.YtmjckbokjjnmeaaF5
namespace Go.Proofs.Ytmjckbokjjnmeaa
open Go.Am

def zeroR : R := ⟨0, 0, 0, 0, 0, 0, 0, false⟩
theorem encR_zero : encR zeroR = .st [.v (.int .i64 0), .v (.int .i64 0), .v (.int .i64 0), .v (.int .i64 0), .v (.int .i64 0), .v (.int .i64 0), .v (.int .i64 0), .v (.bool false)] := rfl
def statusR (l : List R) (r : R) : Int :=
  if r ∉ l then 0 else if (findM r.o r.s (winM l)).getD zeroR ≠ r then 2 else if r.c = true then 3 else 1

theorem s22 (l : List R) (r : R) (hl : l.length < 4611686018427387904) : PSpec Try.prog 22 [.sl 8 (l.map encR), encR r] (iA (statusR l r)) := by
  refine PSpec_of Try.func22 rfl rfl (Nat.le_of_ble_eq_true rfl) (Nat.le_of_ble_eq_true rfl) ?_
  intro E hE
  refine AW_seq fun K hK => ?_
  refine AW_region (by rw [hE]; decide) ?_
  simp
  refine hK _ ?_
  clear hK
  refine AW_seq fun K0 hK0 => ?_
  refine AW_seq fun K hK => ?_
  refine AW_draw 6 mixed (by rw [hE]; decide) (by simp [newOK]) ?_
  simp
  refine call_new (n39 l hl) (by simp) (flat_M _) ?_
  simp
  refine call_same (s40 r) rfl rfl ?_
  simp
  have fin : ∀ x : R, x = (findM r.o r.s (winM l)).getD zeroR → (∀ s', s'.le ⟨[(3, .loc 3 0), (5, .loc 5 0), (0, .sl 8 (l.map encR))], [(3, .box 23 (encR r)), (5, .box 23 (encR x))]⟩ → K s') := by
    intro x hx s' hs'
    refine hK _ ?_
    refine AW_le hs' ?_
    refine AW_block ?_
    refine AW_seq fun K2 hK2 => ?_
    refine AW_region (by rw [hE]; decide) ?_
    simp
    refine acall_same (s28 l r hl) (by simp) rfl ?_
    simp
    refine hK2 _ ?_
    clear hK2
    refine AW_cond (t := !decide (r ∈ l)) (by simp) ?_ ?_
    · intro h
      have h : r ∉ l := by simpa using h
      refine AW_seq fun K hK => ?_
      refine AW_region (by rw [hE]; decide) ?_
      simp
      refine hK _ ?_
      clear hK
      refine AW_ret ?_
      simp [h, statusR]
    intro h
    have h : r ∈ l := by simpa using h
    refine AW_seq fun K2 hK2 => ?_
    refine AW_region (by rw [hE]; decide) ?_
    simp
    refine hK2 _ ?_
    clear hK2
    refine AW_cond (t := !decide (x = r)) (by simp) ?_ ?_
    · intro h2
      have h2 : x ≠ r := by simpa using h2
      rw [hx] at h2
      refine AW_seq fun K hK => ?_
      refine AW_region (by rw [hE]; decide) ?_
      simp
      refine hK _ ?_
      clear hK
      refine AW_ret ?_
      simp [h, h2, statusR]
    intro h2
    have h2 : x = r := by simpa using h2
    rw [hx] at h2
    refine AW_seq fun K2 hK2 => ?_
    refine AW_region (by rw [hE]; decide) ?_
    simp
    refine hK2 _ ?_
    clear hK2
    refine AW_cond (t := r.c) (by simp) ?_ ?_
    · intro h3
      refine AW_seq fun K hK => ?_
      refine AW_region (by rw [hE]; decide) ?_
      simp
      refine hK _ ?_
      clear hK
      refine AW_ret ?_
      simp [h, h2, h3, statusR]
    intro h3
    refine AW_skip ?_
    simp
    refine hK0 _ ?_
    refine AW_seq fun K hK => ?_
    refine AW_region (by rw [hE]; decide) ?_
    simp
    refine hK _ ?_
    clear hK
    refine AW_ret ?_
    simp [h, h2, h3, statusR]
  rcases hw : findM r.o r.s (winM l) with _ | w
  · simp
    refine ⟨by decide, ?_⟩
    refine fin zeroR (by rw [hw]; rfl) _ ?_
    simp [encR_zero]
  · simp
    refine ⟨by decide, ?_⟩
    refine fin w (by rw [hw]; rfl) _ ?_
    simp

/-! ### Missing -/
def encH (m : List Int) : List (AV × AV) := m.map fun n => (iA n, bA true)
def updH (a : Int) : List Int → List Int
  | [] => [a]
  | b :: m => if a = b then a :: m else b :: updH a m
theorem encH_cons (b : Int) (m : List Int) : encH (b :: m) = (iA b, bA true) :: encH m := rfl
@[simp] theorem encH_nil : encH [] = [] := rfl
theorem mem_updH (a b : Int) : ∀ m : List Int, b ∈ updH a m ↔ b = a ∨ b ∈ m
  | [] => by simp [updH]
  | c :: m => by
    simp only [updH]
    split
    · rename_i h; subst h; simp
    · simp [mem_updH a b m]
      constructor
      · rintro (h | h | h) <;> simp [h]
      · rintro (h | h | h) <;> simp [h]
theorem findH (a : Int) : ∀ m : List Int, findA [SK.i] (iA a) (encH m) = if a ∈ m then some (bA true) else none
  | [] => rfl
  | b :: m => by
    rw [encH_cons]
    simp only [findA, findH a m, List.mem_cons]
    by_cases h : a = b
    · simp [h]
    · simp [h]
@[simp] theorem keysOK_H (a : Int) : ∀ m : List Int, keysOK [SK.i] false (iA a) (encH m)
  | [] => trivial
  | b :: m => by
    rw [encH_cons]
    simp only [keysOK]
    exact ⟨⟨rfl, rfl, rfl⟩, keysOK_H a m⟩
@[simp] theorem updA_H (a : Int) : ∀ m : List Int, updA [SK.i] (iA a) (bA true) (encH m) = encH (updH a m)
  | [] => rfl
  | b :: m => by
    rw [encH_cons]
    simp only [updA, updH, updA_H a m]
    by_cases h : a = b
    · simp [h, encH_cons]
    · simp [h, encH_cons]
@[simp] theorem mentP_H (d : Nat) (m : List Int) : mentP d (encH m) = false := by
  induction m with
  | nil => rfl
  | cons r m ih => rw [encH_cons]; simp [ih]
end Go.Proofs.Ytmjckbokjjnmeaa
