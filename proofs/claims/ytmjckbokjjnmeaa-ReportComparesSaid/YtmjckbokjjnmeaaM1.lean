/- Plain Lean: the order of reports, sorted lists of them. Nothing of the program stands here. -/
import Derived.Test.YtmjckbokjjnmeaaF3
import Derived.Test.YtmjckbokjjnmeaaF8
import Derived.Test.YtmjckbokjjnmeaaAmSort
namespace Go.Proofs.Ytmjckbokjjnmeaa
open Go.Am Go.Proofs

theorem cmpI_swap (a b : Int) : cmpI b a = -cmpI a b := by unfold cmpI; split <;> split <;> (try split) <;> omega
theorem cmpI_zero {a b : Int} : cmpI a b = 0 ↔ a = b := by unfold cmpI; split <;> (try split) <;> omega
theorem cmpI_val (a b : Int) : cmpI a b = -1 ∨ cmpI a b = 0 ∨ cmpI a b = 1 := by unfold cmpI; split <;> (try split) <;> omega
theorem cmpI_neg {a b : Int} : cmpI a b < 0 ↔ a < b := by unfold cmpI; split <;> (try split) <;> omega
theorem cmpI_pos {a b : Int} : 0 < cmpI a b ↔ b < a := by unfold cmpI; split <;> (try split) <;> omega

theorem cmpL_swap : ∀ l m : List Int, cmpL m l = -cmpL l m
  | [], [] => rfl
  | [], _ :: _ => rfl
  | _ :: _, [] => rfl
  | a :: l, b :: m => by
    simp only [cmpL]
    have h1 := cmpI_swap a b
    have h2 := cmpL_swap l m
    by_cases h : cmpI a b ≠ 0
    · rw [if_pos h, if_pos (by omega), h1]
    · rw [if_neg h, if_neg (by omega), h2]
theorem cmpL_zero : ∀ {l m : List Int}, cmpL l m = 0 ↔ l = m
  | [], [] => by simp [cmpL]
  | [], _ :: _ => by simp [cmpL]
  | _ :: _, [] => by simp [cmpL]
  | a :: l, b :: m => by
    simp only [cmpL]
    by_cases h : cmpI a b ≠ 0
    · rw [if_pos h]
      constructor
      · intro h0; exact absurd h0 h
      · intro e; injection e with e1 e2; exact absurd (cmpI_zero.2 e1) h
    · rw [if_neg h, cmpL_zero]
      have := cmpI_zero.1 (Decidable.of_not_not h)
      simp [this]
theorem cmpL_trans : ∀ {l m n : List Int}, cmpL l m ≤ 0 → cmpL m n ≤ 0 → cmpL l n ≤ 0
  | [], _, [], _, _ => by simp [cmpL]
  | [], _, _ :: _, _, _ => by simp [cmpL]
  | _ :: _, [], _, h, _ => by simp [cmpL] at h
  | _ :: _, _ :: _, [], _, h => by simp [cmpL] at h
  | a :: l, b :: m, c :: n, h1, h2 => by
    simp only [cmpL] at *
    by_cases e1 : cmpI a b ≠ 0
    · rw [if_pos e1] at h1
      have hab : a < b := cmpI_neg.1 (by omega)
      by_cases e2 : cmpI b c ≠ 0
      · rw [if_pos e2] at h2
        have hbc : b < c := cmpI_neg.1 (by omega)
        have hac := cmpI_neg.2 (show a < c by omega)
        rw [if_pos (by omega)]; omega
      · have := cmpI_zero.1 (Decidable.of_not_not e2)
        subst this
        rw [if_pos e1]; omega
    · have := cmpI_zero.1 (Decidable.of_not_not e1)
      subst this
      rw [if_neg e1] at h1
      by_cases e2 : cmpI a c ≠ 0
      · rw [if_pos e2] at h2 ⊢; exact h2
      · rw [if_neg e2] at h2 ⊢; exact cmpL_trans h1 h2

theorem fieldsR_inj {a b : R} (h : fieldsR a = fieldsR b) : a = b := by
  cases a; cases b
  simp only [fieldsR, List.cons.injEq, and_true] at h
  obtain ⟨h1, h2, h3, h4, h5, h6, h7, h8⟩ := h
  rename_i c1 _ _ _ _ _ _ _ c2
  subst h1; subst h2; subst h3; subst h4; subst h5; subst h6; subst h7
  cases c1 <;> cases c2 <;> simp at h8 ⊢
theorem cmpR_swap (a b : R) : cmpR b a = -cmpR a b := cmpL_swap _ _
theorem cmpR_zero {a b : R} : cmpR a b = 0 ↔ a = b := ⟨fun h => fieldsR_inj (cmpL_zero.1 h), fun h => by rw [h]; exact cmpL_zero.2 rfl⟩
theorem cmpR_trans {a b c : R} (h1 : cmpR a b ≤ 0) (h2 : cmpR b c ≤ 0) : cmpR a c ≤ 0 := cmpL_trans h1 h2
theorem cmpR_lt_trans {a b c : R} (h1 : cmpR a b < 0) (h2 : cmpR b c < 0) : cmpR a c < 0 := by
  have h3 := cmpR_trans (by omega : cmpR a b ≤ 0) (by omega : cmpR b c ≤ 0)
  have h4 : cmpR a c ≠ 0 := by
    intro h
    have := cmpR_zero.1 h
    subst this
    have := cmpR_swap a b
    omega
  omega
@[simp] theorem cmpR_self (a : R) : cmpR a a = 0 := cmpR_zero.2 rfl

theorem ltOf_R (a b : R) : ltOf cmpR a b = decide (cmpR a b < 0) := rfl
theorem swoR : Go.Sort.SWO (ltOf cmpR) := by
  refine ⟨fun x => ?_, fun x y z h1 h2 => ?_, fun x y z h1 h2 => ?_⟩
  · simp [ltOf_R]
  · simp only [ltOf_R, decide_eq_true_eq] at *; exact cmpR_lt_trans h1 h2
  · simp only [ltOf_R, decide_eq_false_iff_not] at *
    have a1 := cmpR_swap x y
    have a2 := cmpR_swap y z
    have a3 := cmpR_swap x z
    have := cmpR_trans (a := z) (b := y) (c := x) (by omega) (by omega)
    omega
theorem totR (x y : R) (h1 : ltOf cmpR x y = false) (h2 : ltOf cmpR y x = false) : x = y := by
  simp only [ltOf_R, decide_eq_false_iff_not] at *
  have := cmpR_swap x y
  exact cmpR_zero.1 (by omega)

/-! ### strictly sorted lists -/
def SS (l : List R) : Prop := l.Pairwise fun a b => cmpR a b < 0
theorem SS.ext : ∀ {a b : List R}, SS a → SS b → (∀ x, x ∈ a ↔ x ∈ b) → a = b
  | [], [], _, _, _ => rfl
  | [], y :: b, _, _, h => by simpa using (h y).2 List.mem_cons_self
  | x :: a, [], _, _, h => by simpa using (h x).1 List.mem_cons_self
  | x :: a, y :: b, ha, hb, h => by
    have ha1 := (List.pairwise_cons.1 ha).1
    have hb1 := (List.pairwise_cons.1 hb).1
    have hxy : x = y := by
      have hx := (h x).1 List.mem_cons_self
      have hy := (h y).2 List.mem_cons_self
      rcases List.mem_cons.1 hx with e | hx
      · exact e
      · rcases List.mem_cons.1 hy with e | hy
        · exact e.symm
        · have := hb1 x hx
          have := ha1 y hy
          have := cmpR_swap x y
          omega
    subst hxy
    have hnot : ∀ l : List R, (∀ z ∈ l, cmpR x z < 0) → x ∉ l := fun l hl hx => by have := hl x hx; simp at this
    have e : a = b := SS.ext (List.pairwise_cons.1 ha).2 (List.pairwise_cons.1 hb).2 (fun z => by
      have hz := h z
      simp only [List.mem_cons] at hz
      constructor
      · intro hza
        have : z ≠ x := by rintro rfl; exact hnot a ha1 hza
        exact ((hz.1 (.inr hza)).resolve_left this)
      · intro hzb
        have : z ≠ x := by rintro rfl; exact hnot b hb1 hzb
        exact ((hz.2 (.inr hzb)).resolve_left this))
    rw [e]
theorem SS.nodup {l : List R} (h : SS l) : l.Nodup := List.Pairwise.imp (fun {a b} hab => by rintro rfl; simp at hab) h
theorem SS.filter {l : List R} (p : R → Bool) (h : SS l) : SS (l.filter p) := List.Pairwise.sublist List.filter_sublist h

theorem sortL_sorted (l : List R) : (sortL cmpR l).Pairwise fun a b => cmpR a b ≤ 0 := by
  have h := List.pairwise_mergeSort (le := fun x y => !(ltOf cmpR) y x) (by
    intro a b c h1 h2
    simp only [ltOf_R, Bool.not_eq_true', decide_eq_false_iff_not] at *
    have a1 := cmpR_swap a b
    have a2 := cmpR_swap b c
    have a3 := cmpR_swap a c
    have := cmpR_trans (a := a) (b := b) (c := c) (by omega) (by omega)
    omega) (by
    intro a b
    simp only [ltOf_R, Bool.or_eq_true, Bool.not_eq_true', decide_eq_false_iff_not]
    have := cmpR_swap a b
    omega) l
  refine List.Pairwise.imp (fun {a b} hab => ?_) h
  simp only [ltOf_R, Bool.not_eq_true', decide_eq_false_iff_not] at hab
  have := cmpR_swap a b
  omega
theorem mem_sortL (l : List R) (x : R) : x ∈ sortL cmpR l ↔ x ∈ l := (List.mergeSort_perm l _).mem_iff
theorem sortL_len (l : List R) : (sortL cmpR l).length = l.length := List.length_mergeSort l

theorem dd_snoc (l : List R) (x : R) : dd (l ++ [x]) = ddS (dd l) x := by unfold dd; rw [List.foldl_append]; rfl
theorem mem_ddS {D : List R} {x y : R} : y ∈ ddS D x ↔ y ∈ D ∨ y = x := by
  unfold ddS
  split
  · rename_i h
    have := List.mem_of_getLast? h
    constructor
    · exact .inl
    · rintro (h | rfl)
      · exact h
      · exact this
  · simp
theorem dd_ind (P : List R → List R → Prop) (h0 : P [] []) (hs : ∀ l x, P l (dd l) → P (l ++ [x]) (ddS (dd l) x)) (l : List R) : P l (dd l) := by
  have key : ∀ n, ∀ l : List R, l.length = n → P l (dd l) := by
    intro n
    induction n with
    | zero => intro l h; rw [List.eq_nil_of_length_eq_zero h]; exact h0
    | succ n ih =>
      intro l h
      have hne : l ≠ [] := by rintro rfl; simp at h
      rw [← List.dropLast_concat_getLast hne, dd_snoc]
      exact hs _ _ (ih _ (by simp [h]))
  exact key _ l rfl
theorem mem_dd (l : List R) (x : R) : x ∈ dd l ↔ x ∈ l :=
  dd_ind (fun l D => x ∈ D ↔ x ∈ l) (by simp) (fun l y ih => by rw [mem_ddS, ih]; simp) l
theorem dd_SS (l : List R) (h : l.Pairwise fun a b => cmpR a b ≤ 0) : SS (dd l) := by
  refine dd_ind (fun l D => (l.Pairwise fun a b => cmpR a b ≤ 0) → SS D) (fun _ => List.Pairwise.nil) (fun l y ih h => ?_) l h
  have hl := (List.pairwise_append.1 h).1
  have hy : ∀ a ∈ l, cmpR a y ≤ 0 := fun a ha => (List.pairwise_append.1 h).2.2 a ha y (by simp)
  have hss := ih hl
  unfold ddS
  split
  · exact hss
  · rename_i hne
    refine List.pairwise_append.2 ⟨hss, List.pairwise_singleton _ _, fun a ha b hb => ?_⟩
    rw [List.mem_singleton] at hb
    subst hb
    have h1 := hy a ((mem_dd l a).1 ha)
    by_cases h0 : cmpR a b = 0
    · exfalso
      have := cmpR_zero.1 h0
      subst this
      -- a is in D, and the last of D is ≥ a, and ≤ a
      have hD : dd l ≠ [] := List.ne_nil_of_mem ha
      have hlast := List.getLast_mem hD
      have h2 := hy _ ((mem_dd l _).1 hlast)
      have h3 : a = (dd l).getLast hD ∨ cmpR a ((dd l).getLast hD) < 0 := by
        have hsp := List.dropLast_concat_getLast hD
        rw [← hsp] at ha hss
        rcases List.mem_append.1 ha with ha | ha
        · exact .inr ((List.pairwise_append.1 hss).2.2 a ha _ (by simp))
        · exact .inl (by simpa using ha)
      rcases h3 with h3 | h3
      · rw [List.getLast?_eq_some_getLast hD] at hne
        exact hne (congrArg some h3.symm)
      · have := cmpR_swap a ((dd l).getLast hD)
        omega
    · omega

/-- The reports of a list in order, each once. -/
def setR (l : List R) : List R := dd (sortL cmpR l)
theorem setR_SS (l : List R) : SS (setR l) := dd_SS _ (sortL_sorted l)
@[simp] theorem mem_setR {l : List R} {x : R} : x ∈ setR l ↔ x ∈ l := by unfold setR; rw [mem_dd, mem_sortL]
theorem setR_congr {a b : List R} (h : ∀ x, x ∈ a ↔ x ∈ b) : setR a = setR b := (setR_SS a).ext (setR_SS b) (fun x => by simp [h x])
theorem setR_of_SS {l : List R} (h : SS l) : setR l = l := (setR_SS l).ext h (fun x => by simp)
theorem dd_len' (l : List R) : (dd l).length ≤ l.length := by have := dd_len (l := l) (i := l.length) (Nat.le_refl _); rwa [List.take_length] at this
theorem setR_len (l : List R) : (setR l).length ≤ l.length := by
  unfold setR
  have := dd_len' (sortL cmpR l)
  rwa [sortL_len] at this
end Go.Proofs.Ytmjckbokjjnmeaa
