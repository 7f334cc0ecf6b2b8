/- BinarySearchFunc, Changed. -/
import Derived.Test.YtmjckbokjjnmeaaG4
set_option maxRecDepth 100000
namespace Go.Proofs.Ytmjckbokjjnmeaa
open Go.Am

set_option maxHeartbeats 1000000 in
theorem s51 (l : List R) (r : R) (n : Nat) (b : Bool) (hl : l.length ≤ 1000000000) (hn : n ≤ l.length) (h1 : ∀ i (h : i < l.length), cmpR l[i] r < 0 ↔ i < n) (h2 : b = true ↔ ∃ h : n < l.length, cmpR l[n] r = 0) :
    PSpec Try.prog 51 [.sl 8 (l.map encR), encR r, .fn (.func 13) [] []] (.tup [iA n, bA b]) := by
  replace h1 := Hld.mk h1
  replace h2 := Hld.mk h2
  refine PSpec_of Try.func51 rfl rfl (Nat.le_of_ble_eq_true rfl) (Nat.le_of_ble_eq_true rfl) ?_
  intro E hE
  repeat' (first
    | with_reducible refine useK (by assumption) ?_
    | with_reducible refine useK2 (by assumption) ?_
    | with_reducible refine useX (by assumption) ?_
    | with_reducible refine AW_seqk fun K hK => ?_
    | (with_reducible refine AW_regionS rfl (by rw [hE]; decide) ?_; simp [*])
    | with_reducible refine AW_region (by rw [hE]; decide) ?_
    | ((with_reducible show RK _ _ _ _ _ _); refine RK_nilk ?_; simp [*])
    | ((with_reducible show RK _ _ _ _ _ _); refine RK_stepk fun K' hK' => ?_; simp [*])
    | with_reducible refine AW_drawq mixed (by rw [hE]; decide) (by simp [newOK]) ?_
    | ((with_reducible show RKQ _ _ _ _ _ _); refine RKQ_nilk ⟨by decide, ?_⟩)
    | ((with_reducible show RKQ _ _ _ _ _ _); refine RKQ_stepk fun K' hK' => ?_; simp [*])
    | (with_reducible refine AW_if fun X Y hX hY => ?_; simp [*])
    | with_reducible refine AW_block ?_
    | (with_reducible refine AW_ret ?_; simp [*])
    | (with_reducible refine AW_skip ?_; simp [*])
    | (with_reducible refine AW_exit ?_; simp [*])
    | with_reducible refine And.intro ?_ ?_
    | omega
    | (refine imp1 fun h => ?_))
  refine AW_loopk (G := Nat × Nat) (fun p => ⟨[(9, iA p.1), (10, iA p.2), (8, iA l.length), (0, .sl 8 (l.map encR)), (2, .fn (.func 13) [] []), (4, .loc 4 0)], [(4, .box 23 (encR r))]⟩)
    (fun p => p.1 ≤ n ∧ n ≤ p.2 ∧ p.2 ≤ l.length) (fun p => p.2 - p.1) (0, l.length) ⟨by simp, hn, by simp⟩ (by simp) ?_
  rintro ⟨i, j⟩ ⟨hi, hj, hjl⟩ K hK
  simp only at hi hj hjl
  by_cases hij : i < j
  · have hw : IntKind.wrap .u64 ((i : Int) + j) = i + j := wrap_in _ (by show (0 : Int) ≤ _; omega) (by show _ ≤ (18446744073709551615 : Int); omega)
    have hf : Int.fdiv ((i : Int) + j) 2 = (((i + j) / 2 : Nat) : Int) := by rw [Int.fdiv_eq_ediv_of_nonneg _ (by omega)]; omega
    have hw2 : IntKind.wrap .i64 (((i + j) / 2 : Nat) : Int) = ((i + j) / 2 : Nat) := wrap_in _ (by show (-9223372036854775808 : Int) ≤ _; omega) (by show _ ≤ (9223372036854775807 : Int); omega)
    have hm : (i + j) / 2 < l.length := by omega
    have hmj : (i + j) / 2 < j := by omega
    have hmi : i ≤ (i + j) / 2 := by omega
    generalize (i + j) / 2 = m at *
    have h1 := h1.out m hm
    replace h1 := Hld.mk h1
    repeat' (first
      | with_reducible refine useK (by assumption) ?_
      | with_reducible refine useK2 (by assumption) ?_
      | with_reducible refine useX (by assumption) ?_
      | with_reducible refine AW_seqk fun K hK => ?_
      | (with_reducible refine AW_regionS rfl (by rw [hE]; decide) ?_; simp [*])
      | with_reducible refine AW_region (by rw [hE]; decide) ?_
      | ((with_reducible show RK _ _ _ _ _ _); refine RK_nilk ?_; simp [*])
      | ((with_reducible show RK _ _ _ _ _ _); refine RK_stepk fun K' hK' => ?_; simp [*])
      | with_reducible refine AW_drawq mixed (by rw [hE]; decide) (by simp [newOK]) ?_
      | ((with_reducible show RKQ _ _ _ _ _ _); refine RKQ_nilk ⟨by decide, ?_⟩)
      | ((with_reducible show RKQ _ _ _ _ _ _); refine RKQ_stepk fun K' hK' => ?_; simp [*])
      | (with_reducible refine AW_if fun X Y hX hY => ?_; simp [*])
      | with_reducible refine AW_block ?_
      | (with_reducible refine AW_ret ?_; simp [*])
      | (with_reducible refine AW_skip ?_; simp [*])
      | (with_reducible refine AW_exit ?_; simp [*])
      | (refine acall_same (s13 _ _) ?_ ?_ ?_; (focus (simp [*] <;> fail)); (focus (simp [*] <;> fail)); simp [*])
      | (refine call_same (s13 _ _) ?_ ?_ ?_; (focus (simp [*] <;> fail)); (focus (simp [*] <;> fail)); simp [*])
      | (refine acall_view (s13 _ _) ?_ ?_ ?_; (focus (simp [*] <;> fail)); (focus (simp [*] <;> fail)); simp [*])
      | (refine call_view (s13 _ _) ?_ ?_ ?_; (focus (simp [*] <;> fail)); (focus (simp [*] <;> fail)); simp [*])
      | with_reducible refine And.intro ?_ ?_
      | omega
      | (refine imp1 fun h => ?_))
    · have := h1.out.1 (by assumption)
      exact ⟨(m + 1, j), ⟨by simp only; omega, hj, hjl⟩, by simp only; omega, by simp⟩
    · have : ¬ m < n := fun h => by have := h1.out.2 h; omega
      exact ⟨(i, m), ⟨hi, by simp only; omega, by simp only; omega⟩, by simp only; omega, by simp⟩
  · obtain rfl : i = n := by omega
    obtain rfl : i = j := by omega
    by_cases hlt : i < l.length
    · have h3 : b = decide (cmpR l[i] r = 0) := by
        rw [Bool.eq_iff_iff, h2.out, decide_eq_true_eq]
        exact ⟨fun ⟨_, h⟩ => h, fun h => ⟨hlt, h⟩⟩
      replace h3 := Hld.mk h3
      repeat' (first
        | with_reducible refine useK (by assumption) ?_
        | with_reducible refine useK2 (by assumption) ?_
        | with_reducible refine useX (by assumption) ?_
        | with_reducible refine AW_seqk fun K hK => ?_
        | (with_reducible refine AW_regionS rfl (by rw [hE]; decide) ?_; simp [*])
        | with_reducible refine AW_region (by rw [hE]; decide) ?_
        | ((with_reducible show RK _ _ _ _ _ _); refine RK_nilk ?_; simp [*])
        | ((with_reducible show RK _ _ _ _ _ _); refine RK_stepk fun K' hK' => ?_; simp [*])
        | with_reducible refine AW_drawq mixed (by rw [hE]; decide) (by simp [newOK]) ?_
        | ((with_reducible show RKQ _ _ _ _ _ _); refine RKQ_nilk ⟨by decide, ?_⟩)
        | ((with_reducible show RKQ _ _ _ _ _ _); refine RKQ_stepk fun K' hK' => ?_; simp [*])
        | (with_reducible refine AW_if fun X Y hX hY => ?_; simp [*])
        | with_reducible refine AW_block ?_
        | (with_reducible refine AW_ret ?_; simp [*])
        | (with_reducible refine AW_skip ?_; simp [*])
        | (with_reducible refine AW_exit ?_; simp [*])
        | (refine acall_same (s13 _ _) ?_ ?_ ?_; (focus (simp [*] <;> fail)); (focus (simp [*] <;> fail)); simp [*])
        | (refine call_same (s13 _ _) ?_ ?_ ?_; (focus (simp [*] <;> fail)); (focus (simp [*] <;> fail)); simp [*])
        | (refine acall_view (s13 _ _) ?_ ?_ ?_; (focus (simp [*] <;> fail)); (focus (simp [*] <;> fail)); simp [*])
        | (refine call_view (s13 _ _) ?_ ?_ ?_; (focus (simp [*] <;> fail)); (focus (simp [*] <;> fail)); simp [*])
        | with_reducible refine And.intro ?_ ?_
        | omega
        | (refine imp1 fun h => ?_))
      exact h3.out
    · have h3 : b = false := by
        rw [Bool.eq_false_iff]
        intro h
        obtain ⟨h, _⟩ := h2.out.1 h
        exact hlt h
      repeat' (first
        | with_reducible refine useK (by assumption) ?_
        | with_reducible refine useK2 (by assumption) ?_
        | with_reducible refine useX (by assumption) ?_
        | with_reducible refine AW_seqk fun K hK => ?_
        | (with_reducible refine AW_regionS rfl (by rw [hE]; decide) ?_; simp [*])
        | with_reducible refine AW_region (by rw [hE]; decide) ?_
        | ((with_reducible show RK _ _ _ _ _ _); refine RK_nilk ?_; simp [*])
        | ((with_reducible show RK _ _ _ _ _ _); refine RK_stepk fun K' hK' => ?_; simp [*])
        | with_reducible refine AW_drawq mixed (by rw [hE]; decide) (by simp [newOK]) ?_
        | ((with_reducible show RKQ _ _ _ _ _ _); refine RKQ_nilk ⟨by decide, ?_⟩)
        | ((with_reducible show RKQ _ _ _ _ _ _); refine RKQ_stepk fun K' hK' => ?_; simp [*])
        | (with_reducible refine AW_if fun X Y hX hY => ?_; simp [*])
        | with_reducible refine AW_block ?_
        | (with_reducible refine AW_ret ?_; simp [*])
        | (with_reducible refine AW_skip ?_; simp [*])
        | (with_reducible refine AW_exit ?_; simp [*])
        | with_reducible refine And.intro ?_ ?_
        | omega
        | (refine imp1 fun h => ?_))

/-! ### Changed -/
/-- What the reports of l that other has not add to the list. -/
def difR (other : List R) (l : List R) : List Int := (l.filter fun r => !decide (r ∈ other)).map R.o
theorem low_of (l : List R) (hs : SS l) (r : R) : ∃ n, n ≤ l.length ∧ (∀ i (h : i < l.length), cmpR l[i] r < 0 ↔ i < n) ∧ (decide (r ∈ l) = true ↔ ∃ h : n < l.length, cmpR l[n] r = 0) := by
  induction l with
  | nil => exact ⟨0, by simp, by simp, by simp⟩
  | cons x l ih =>
    obtain ⟨hx, hl⟩ := List.pairwise_cons.1 hs
    obtain ⟨n, h1, h2, h3⟩ := ih hl
    by_cases hc : cmpR x r < 0
    · refine ⟨n + 1, by simpa using h1, fun i h => ?_, ?_⟩
      · cases i with
        | zero => simp [hc]
        | succ i => simpa using h2 i (by simpa using h)
      · have hne : r ≠ x := by rintro rfl; simp at hc
        simp only [decide_eq_true_eq] at h3 ⊢
        rw [List.mem_cons, or_iff_right hne, h3]
        simp
    · refine ⟨0, by simp, fun i h => ?_, ?_⟩
      · constructor
        · intro hi
          cases i with
          | zero => exact absurd hi hc
          | succ i =>
            exfalso
            simp only [List.getElem_cons_succ] at hi
            have h4 := hx _ (List.getElem_mem (by simpa using h : i < l.length))
            exact hc (cmpR_lt_trans h4 hi)
        · omega
      · simp only [decide_eq_true_eq, List.mem_cons]
        constructor
        · rintro (rfl | hr)
          · exact ⟨by simp, by simp⟩
          · have := hx r hr
            exact absurd this hc
        · rintro ⟨_, h⟩
          exact .inl (cmpR_zero.1 h).symm
theorem s51' (l : List R) (r : R) (hl : l.length ≤ 1000000000) (hs : SS l) : ∃ n : Nat, PSpec Try.prog 51 [.sl 8 (l.map encR), encR r, .fn (.func 13) [] []] (.tup [iA n, bA (decide (r ∈ l))]) := by
  obtain ⟨n, h1, h2, h3⟩ := low_of l hs r
  exact ⟨n, s51 l r n _ hl h1 h2 h3⟩
end Go.Proofs.Ytmjckbokjjnmeaa
