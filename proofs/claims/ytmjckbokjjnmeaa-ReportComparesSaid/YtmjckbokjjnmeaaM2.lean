/- Plain Lean: what counts; the law's set. -/
import Derived.Test.YtmjckbokjjnmeaaG7
namespace Go.Proofs.Ytmjckbokjjnmeaa
open Go.Am

def sid (a b : R) : Prop := a.o = b.o ∧ a.s = b.s
instance (a b : R) : Decidable (sid a b) := inferInstanceAs (Decidable (_ ∧ _))
def winB (l : List R) (r : R) : Bool := l.all fun x => !decide (sid x r ∧ 0 < cmpR x r)
theorem winB_iff {l : List R} {r : R} : winB l r = true ↔ ∀ x ∈ l, sid x r → cmpR x r ≤ 0 := by
  simp only [winB, List.all_eq_true, Bool.not_eq_true', decide_eq_false_iff_not]
  constructor
  · intro h x hx hs
    have := h x hx
    by_cases hc : 0 < cmpR x r
    · exact absurd ⟨hs, hc⟩ this
    · omega
  · rintro h x hx ⟨hs, hc⟩
    have := h x hx hs
    omega
theorem winB_congr {a b : List R} (h : ∀ x, x ∈ a ↔ x ∈ b) (r : R) : winB a r = winB b r := by
  rw [Bool.eq_iff_iff, winB_iff, winB_iff]
  exact ⟨fun g x hx => g x ((h x).2 hx), fun g x hx => g x ((h x).1 hx)⟩

structure WInv (m p : List R) : Prop where
  a : ∀ w ∈ m, w ∈ p ∧ ∀ y ∈ p, sid y w → cmpR y w ≤ 0
  b : ∀ y ∈ p, ∃ w ∈ m, sid w y
  c : m.Pairwise fun x y => ¬ sid x y
theorem findM_none {a b : Int} : ∀ {m : List R}, findM a b m = none → ∀ w ∈ m, ¬ (a = w.o ∧ b = w.s)
  | [], _ => by simp
  | x :: m, h => by
    simp only [findM] at h
    split at h
    · cases h
    · rename_i hx
      intro w hw
      rcases List.mem_cons.1 hw with rfl | hw
      · exact hx
      · exact findM_none h w hw
theorem findM_some {a b : Int} {w : R} : ∀ {m : List R}, findM a b m = some w → w ∈ m ∧ a = w.o ∧ b = w.s
  | [], h => by simp [findM] at h
  | x :: m, h => by
    simp only [findM] at h
    split at h
    · rename_i hx; cases h; exact ⟨List.mem_cons_self, hx⟩
    · exact ⟨List.mem_cons_of_mem _ (findM_some h).1, (findM_some h).2⟩
theorem mem_updM {r x : R} : ∀ {m : List R}, m.Pairwise (fun x y => ¬ sid x y) → (x ∈ updM r m ↔ x = r ∨ (x ∈ m ∧ ¬ sid r x))
  | [], _ => by simp [updM]
  | w :: m, h => by
    obtain ⟨h1, h2⟩ := List.pairwise_cons.1 h
    simp only [updM]
    by_cases hw : r.o = w.o ∧ r.s = w.s
    · rw [if_pos hw]
      simp only [List.mem_cons]
      constructor
      · rintro (rfl | hx)
        · exact .inl rfl
        · exact .inr ⟨.inr hx, fun hs => h1 x hx ⟨hw.1.symm.trans hs.1, hw.2.symm.trans hs.2⟩⟩
      · rintro (rfl | ⟨rfl | hx, hs⟩)
        · exact .inl rfl
        · exact absurd hw hs
        · exact .inr hx
    · rw [if_neg hw]
      simp only [List.mem_cons, mem_updM h2]
      constructor
      · rintro (rfl | rfl | ⟨hx, hs⟩)
        · exact .inr ⟨.inl rfl, hw⟩
        · exact .inl rfl
        · exact .inr ⟨.inr hx, hs⟩
      · rintro (rfl | ⟨rfl | hx, hs⟩)
        · exact .inr (.inl rfl)
        · exact .inl rfl
        · exact .inr (.inr ⟨hx, hs⟩)
theorem updM_pw {r : R} : ∀ {m : List R}, m.Pairwise (fun x y => ¬ sid x y) → (updM r m).Pairwise fun x y => ¬ sid x y
  | [], _ => by simp [updM]
  | w :: m, h => by
    obtain ⟨h1, h2⟩ := List.pairwise_cons.1 h
    simp only [updM]
    by_cases hw : r.o = w.o ∧ r.s = w.s
    · rw [if_pos hw]
      exact List.pairwise_cons.2 ⟨fun x hx hs => h1 x hx ⟨hw.1.symm.trans hs.1, hw.2.symm.trans hs.2⟩, h2⟩
    · rw [if_neg hw]
      refine List.pairwise_cons.2 ⟨fun x hx hs => ?_, updM_pw h2⟩
      rcases (mem_updM h2).1 hx with rfl | ⟨hx, _⟩
      · exact hw ⟨hs.1.symm, hs.2.symm⟩
      · exact h1 x hx hs
theorem sid_symm {a b : R} (h : sid a b) : sid b a := ⟨h.1.symm, h.2.symm⟩
theorem sid_trans {a b c : R} (h : sid a b) (k : sid b c) : sid a c := ⟨h.1.trans k.1, h.2.trans k.2⟩
theorem WInv.step {m p : List R} (h : WInv m p) (r : R) : WInv (stepW m r) (p ++ [r]) := by
  have put : (∀ w ∈ m, sid r w → cmpR w r ≤ 0) → WInv (updM r m) (p ++ [r]) := by
    intro hr
    refine ⟨fun w hw => ?_, fun y hy => ?_, updM_pw h.c⟩
    · rcases (mem_updM h.c).1 hw with rfl | ⟨hw, hs⟩
      · refine ⟨by simp, fun y hy hyr => ?_⟩
        rcases List.mem_append.1 hy with hy | hy
        · obtain ⟨v, hv, hvy⟩ := h.b y hy
          have h1 := (h.a v hv).2 y hy (sid_symm hvy)
          have h2 := hr v hv (sid_symm (sid_trans hvy hyr))
          exact cmpR_trans h1 h2
        · simp at hy; subst hy; simp
      · refine ⟨by simp [(h.a w hw).1], fun y hy hyw => ?_⟩
        rcases List.mem_append.1 hy with hy | hy
        · exact (h.a w hw).2 y hy hyw
        · simp at hy; subst hy; exact absurd hyw hs
    · rcases List.mem_append.1 hy with hy | hy
      · obtain ⟨v, hv, hvy⟩ := h.b y hy
        by_cases hs : sid r v
        · exact ⟨r, (mem_updM h.c).2 (.inl rfl), sid_trans hs hvy⟩
        · exact ⟨v, (mem_updM h.c).2 (.inr ⟨hv, hs⟩), hvy⟩
      · simp at hy; subst hy
        exact ⟨y, (mem_updM h.c).2 (.inl rfl), rfl, rfl⟩
  unfold stepW
  split
  · rename_i hf
    exact put (fun w hw hs => absurd hs (findM_none hf w hw))
  · rename_i v hf
    obtain ⟨hv, hvo⟩ := findM_some hf
    split
    · rename_i hc
      refine put (fun w hw hs => ?_)
      have : cmpR w v ≤ 0 := (h.a v hv).2 w (h.a w hw).1 (sid_trans (sid_symm hs) hvo)
      have h2 := cmpR_swap r v
      exact cmpR_trans this (by omega)
    · rename_i hc
      refine ⟨fun w hw => ⟨by simp [(h.a w hw).1], fun y hy hyw => ?_⟩, fun y hy => ?_, h.c⟩
      · rcases List.mem_append.1 hy with hy | hy
        · exact (h.a w hw).2 y hy hyw
        · simp at hy; subst hy
          have h1 := (h.a w hw).2 v (h.a v hv).1 (sid_trans (sid_symm hvo) hyw)
          exact cmpR_trans (by omega) h1
      · rcases List.mem_append.1 hy with hy | hy
        · exact h.b y hy
        · simp at hy; subst hy; exact ⟨v, hv, sid_symm hvo⟩
theorem winM_inv (l : List R) : WInv (winM l) l := by
  have key : ∀ (l m p : List R), WInv m p → WInv (l.foldl stepW m) (p ++ l) := by
    intro l
    induction l with
    | nil => intro m p h; simpa using h
    | cons r l ih =>
      intro m p h
      have := ih _ _ (h.step r)
      simpa using this
  have := key l [] [] ⟨by simp, by simp, List.Pairwise.nil⟩
  simpa [winM] using this
theorem mem_winM {l : List R} {x : R} : x ∈ winM l ↔ x ∈ l ∧ winB l x = true := by
  have h := winM_inv l
  rw [winB_iff]
  constructor
  · intro hx; exact h.a x hx
  · rintro ⟨hx, hm⟩
    obtain ⟨w, hw, hs⟩ := h.b x hx
    have h1 := (h.a w hw).2 x hx (sid_symm hs)
    have h2 := hm w (h.a w hw).1 hs
    have h3 := cmpR_swap x w
    have : x = w := cmpR_zero.1 (by omega)
    rw [this]; exact hw
theorem mem_cntR {l : List R} {x : R} : x ∈ cntR l ↔ x ∈ l ∧ winB l x = true ∧ x.c = false := by
  unfold cntR
  simp only [mem_setR, List.mem_filter, mem_winM, Bool.not_eq_true', and_assoc]
theorem cntR_eq (l : List R) : cntR l = (setR l).filter fun r => winB (setR l) r && !r.c := by
  refine (cntR_SS l).ext ((setR_SS l).filter _) (fun x => ?_)
  rw [mem_cntR]
  simp only [List.mem_filter, mem_setR, Bool.and_eq_true, Bool.not_eq_true', winB_congr (fun x => mem_setR (l := l) (x := x)) x]
theorem cntR_congr {a b : List R} (h : ∀ x, x ∈ a ↔ x ∈ b) : cntR a = cntR b := by
  refine (cntR_SS a).ext (cntR_SS b) (fun x => ?_)
  rw [mem_cntR, mem_cntR, h x, winB_congr h x]

/-! ### the law's set: the least one beyond the last one -/
def okL (last : Option R) (x : R) : Bool := match last with
  | none => true
  | some y => decide (0 < cmpR x y)
def betR (acc : Option R) (x : R) : Bool := match acc with
  | none => true
  | some v => decide (cmpR x v < 0)
def minS (last acc : Option R) (x : R) : Option R := if okL last x && betR acc x then some x else acc
theorem minS_fold (last : Option R) (l : List R) : (l.foldl (minS last) none = none ∧ ∀ x ∈ l, okL last x = false) ∨ ∃ v ∈ l, l.foldl (minS last) none = some v ∧ okL last v = true ∧ ∀ x ∈ l, okL last x = true → cmpR v x ≤ 0 := by
  have key : ∀ n, ∀ l : List R, l.length = n → (l.foldl (minS last) none = none ∧ ∀ x ∈ l, okL last x = false) ∨ ∃ v ∈ l, l.foldl (minS last) none = some v ∧ okL last v = true ∧ ∀ x ∈ l, okL last x = true → cmpR v x ≤ 0 := by
    intro n
    induction n with
    | zero => intro l h; rw [List.eq_nil_of_length_eq_zero h]; exact .inl (by simp)
    | succ n ih =>
      intro l h
      have hne : l ≠ [] := by rintro rfl; simp at h
      obtain ⟨p, x, rfl⟩ : ∃ p x, l = p ++ [x] := ⟨l.dropLast, l.getLast hne, (List.dropLast_concat_getLast hne).symm⟩
      rw [List.foldl_append]
      simp only [List.foldl_cons, List.foldl_nil]
      rcases ih p (by simpa using h) with ⟨h1, h2⟩ | ⟨v, hv, h1, h2, h3⟩
      · rw [h1]
        cases hx : okL last x with
        | false =>
          refine .inl ⟨by simp [minS, hx], fun y hy => ?_⟩
          rcases List.mem_append.1 hy with hy | hy
          · exact h2 y hy
          · simp at hy; rw [hy]; exact hx
        | true =>
          refine .inr ⟨x, by simp, by simp [minS, hx, betR], hx, fun y hy hoy => ?_⟩
          rcases List.mem_append.1 hy with hy | hy
          · rw [h2 y hy] at hoy; cases hoy
          · simp at hy; rw [hy]; simp
      · rw [h1]
        by_cases hc : okL last x = true ∧ cmpR x v < 0
        · refine .inr ⟨x, by simp, by simp [minS, hc.1, betR, hc.2], hc.1, fun y hy hoy => ?_⟩
          rcases List.mem_append.1 hy with hy | hy
          · exact cmpR_trans (by omega) (h3 y hy hoy)
          · simp at hy; rw [hy]; simp
        · refine .inr ⟨v, by simp [hv], ?_, h2, fun y hy hoy => ?_⟩
          · simp only [minS, betR, Bool.and_eq_true, decide_eq_true_eq, if_neg hc]
          · rcases List.mem_append.1 hy with hy | hy
            · exact h3 y hy hoy
            · simp at hy; subst hy
              have := cmpR_swap y v
              by_cases h4 : cmpR y v < 0
              · exact absurd ⟨hoy, h4⟩ hc
              · omega
  exact key _ l rfl
/-- The last one of the first m. -/
theorem SS_get {l : List R} (h : SS l) {i j : Nat} (hi : i < l.length) (hj : j < l.length) (hij : i < j) : cmpR l[i] l[j] < 0 := List.pairwise_iff_getElem.1 h i j hi hj hij
theorem next_set (l : List R) (m : Nat) (hm : m ≤ (setR l).length) :
    (m = (setR l).length ∧ l.foldl (minS ((setR l).take m).getLast?) none = none) ∨ ∃ h : m < (setR l).length, l.foldl (minS ((setR l).take m).getLast?) none = some (setR l)[m] := by
  have hS := setR_SS l
  -- what is beyond the last one
  have hok : ∀ (j : Nat) (hj : j < (setR l).length), okL ((setR l).take m).getLast? (setR l)[j] = decide (m ≤ j) := by
    intro j hj
    cases m with
    | zero => simp [okL]
    | succ k =>
      have hk : k < (setR l).length := by omega
      rw [List.take_succ_eq_append_getElem hk]
      simp only [List.getLast?_append, List.getLast?_singleton, Option.some_or, okL]
      rw [Bool.eq_iff_iff, decide_eq_true_eq, decide_eq_true_eq]
      have sw := cmpR_swap (setR l)[k] (setR l)[j]
      by_cases hkj : k < j
      · have := SS_get hS hk hj hkj
        omega
      · by_cases he : k = j
        · subst he; simp
        · have := SS_get hS hj hk (by omega)
          have s2 := cmpR_swap (setR l)[j] (setR l)[k]
          omega
  have mem_of : ∀ x ∈ l, ∃ j, ∃ hj : j < (setR l).length, (setR l)[j] = x := fun x hx => List.getElem_of_mem (mem_setR.2 hx)
  rcases minS_fold ((setR l).take m).getLast? l with ⟨h1, h2⟩ | ⟨v, hv, h1, h2, h3⟩
  · refine .inl ⟨?_, h1⟩
    by_cases hlt : m < (setR l).length
    · have := h2 (setR l)[m] (mem_setR.1 (List.getElem_mem hlt))
      rw [hok m hlt] at this
      simp at this
    · omega
  · obtain ⟨j, hj, rfl⟩ := mem_of v hv
    rw [hok j hj, decide_eq_true_eq] at h2
    refine .inr ⟨by omega, ?_⟩
    rw [h1]
    have hmS : m < (setR l).length := by omega
    have h4 := h3 (setR l)[m] (mem_setR.1 (List.getElem_mem hmS)) (by rw [hok m hmS]; simp)
    by_cases he : m = j
    · subst he; rfl
    · have := SS_get hS hmS hj (by omega)
      have := cmpR_swap (setR l)[m] (setR l)[j]
      omega
end Go.Proofs.Ytmjckbokjjnmeaa
