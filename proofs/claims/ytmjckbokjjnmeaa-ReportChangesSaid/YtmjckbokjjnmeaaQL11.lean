/- ReportChanges: for any two lists of reports the law hands back true. Conditions: none. -/
import Derived.Test.YtmjckbokjjnmeaaZ5
set_option maxRecDepth 100000
set_option linter.unusedSimpArgs false
set_option linter.unusedVariables false
namespace Go.Proofs.Ytmjckbokjjnmeaa
open Go.Am Go.RowKit Go.ChangeShapes Go.WideShapes Go.ChangeAt

namespace L11
theorem ddSI_cases (D : List Int) (x : Int) : (D.length = 0 ∧ ddSI D x = D ++ [x]) ∨ (∃ k, ∃ h : k < D.length, D.length = k + 1 ∧ ((D[k] = x ∧ ddSI D x = D) ∨ (D[k] ≠ x ∧ ddSI D x = D ++ [x]))) := by
  by_cases h : D = []
  · subst h; exact .inl ⟨rfl, rfl⟩
  · have h0 : 0 < D.length := List.length_pos_iff.2 h
    refine .inr ⟨D.length - 1, by omega, by omega, ?_⟩
    unfold ddSI
    rw [List.getLast?_eq_some_getLast h, List.getLast_eq_getElem]
    by_cases hx : D[D.length - 1] = x
    · exact .inl ⟨hx, by simp [hx]⟩
    · exact .inr ⟨hx, by simp [hx]⟩
set_option maxHeartbeats 8000000 in
theorem s (a b : List R) : PSpec Try.prog 11 [.sl 8 (a.map encR), .sl 8 (b.map encR)] (bA true) := by
  by_cases h1 : a.length ≤ 20
  · by_cases h2 : b.length ≤ 20
    · have e1 := cntR_len a
      have e2 := cntR_len b
      obtain ⟨c, hc⟩ : ∃ c, c = cntR a ++ cntR b := ⟨_, rfl⟩
      have hcl : c.length ≤ 40 := by rw [hc, List.length_append]; omega
      have e3 := setR_len c
      have hw : wantC (cntR a) (cntR b) (setR c) = chgR a b := by rw [hc]; exact wantC_eq a b
      have t1 := s35 a b (by omega) (by omega)
      have t2 := s35 b a (by omega) (by omega)
      rw [chgR_comm] at t2
      rw [← hw] at t1 t2
      clear hw
      obtain ⟨W, hW⟩ : ∃ W : Nat → List Int, ∀ i, W i = wantC (cntR a) (cntR b) ((setR c).take i) := ⟨_, fun _ => rfl⟩
      have hW0 : W 0 = [] := by rw [hW]; rfl
      have hWl : ∀ i, (W i).length ≤ 40 := by
        intro i; rw [hW]
        have := wantC_len (cntR a) (cntR b) ((setR c).take i)
        simp at this; omega
      have hWe : W (setR c).length = wantC (cntR a) (cntR b) (setR c) := by rw [hW, List.take_length]
      have hWs : ∀ i (h : i < (setR c).length), W (i + 1) = if difB (cntR a) (cntR b) (setR c)[i] = true then ddSI (W i) (setR c)[i].o else W i := by intro i h; rw [hW, hW, wantC_take h]
      rw [← hWe] at t1 t2
      clear hW hWe
      replace t1 := Hld.mk t1
      replace t2 := Hld.mk t2
      replace hWs := Hld.mk hWs
      replace hc := Hld.mk hc
      refine PSpec_of Try.func11 rfl rfl (Nat.le_of_ble_eq_true rfl) (Nat.le_of_ble_eq_true rfl) ?_
      intro E hE
      repeat' (first
        | with_reducible refine useK (by assumption) ?_
        | with_reducible refine useK2 (by assumption) ?_
        | with_reducible refine useX (by assumption) ?_
        | with_reducible refine AW_seqk fun K hK => ?_
        | (with_reducible refine AW_regionS rfl (by rw [hE]; decide) ?_; simp [*])
        | with_reducible refine AW_region (by rw [hE]; decide) ?_
        | ((with_reducible show RK _ _ _ _ _ _); refine RK_nilk ?_; simp [*])
        | ((with_reducible show RK _ _ _ _ _ _); refine RK_stepk fun K' hK' => ?_; simp [*])
        | with_reducible refine AW_drawq mixed (by rw [hE]; decide) (by simp [newOK]) ?_
        | ((with_reducible show RKQ _ _ _ _ _ _); refine RKQ_nilk ⟨by decide, ?_⟩)
        | ((with_reducible show RKQ _ _ _ _ _ _); refine RKQ_stepk fun K' hK' => ?_; simp [*])
        | (with_reducible refine AW_if fun X Y hX hY => ?_; simp [*])
        | with_reducible refine AW_block ?_
        | (with_reducible refine AW_ret ?_; simp [*])
        | (with_reducible refine AW_skip ?_; simp [*])
        | (with_reducible refine AW_exit ?_; simp [*])
        | (refine acall_same (s14) ?_ ?_ ?_; (focus (simp [*] <;> fail)); (focus (simp [*] <;> fail)); simp [*])
        | (refine call_same (s14) ?_ ?_ ?_; (focus (simp [*] <;> fail)); (focus (simp [*] <;> fail)); simp [*])
        | (refine acall_view (s14) ?_ ?_ ?_; (focus (simp [*] <;> fail)); (focus (simp [*] <;> fail)); simp [*])
        | (refine call_view (s14) ?_ ?_ ?_; (focus (simp [*] <;> fail)); (focus (simp [*] <;> fail)); simp [*])
        | (refine acall_same (s16 a (by omega)) ?_ ?_ ?_; (focus (simp [*] <;> fail)); (focus (simp [*] <;> fail)); simp [*])
        | (refine call_same (s16 a (by omega)) ?_ ?_ ?_; (focus (simp [*] <;> fail)); (focus (simp [*] <;> fail)); simp [*])
        | (refine acall_view (s16 a (by omega)) ?_ ?_ ?_; (focus (simp [*] <;> fail)); (focus (simp [*] <;> fail)); simp [*])
        | (refine call_view (s16 a (by omega)) ?_ ?_ ?_; (focus (simp [*] <;> fail)); (focus (simp [*] <;> fail)); simp [*])
        | (refine acall_same (s16 b (by omega)) ?_ ?_ ?_; (focus (simp [*] <;> fail)); (focus (simp [*] <;> fail)); simp [*])
        | (refine call_same (s16 b (by omega)) ?_ ?_ ?_; (focus (simp [*] <;> fail)); (focus (simp [*] <;> fail)); simp [*])
        | (refine acall_view (s16 b (by omega)) ?_ ?_ ?_; (focus (simp [*] <;> fail)); (focus (simp [*] <;> fail)); simp [*])
        | (refine call_view (s16 b (by omega)) ?_ ?_ ?_; (focus (simp [*] <;> fail)); (focus (simp [*] <;> fail)); simp [*])
        | (refine acall_same (s19 (cntR a) (cntR b) c hc.out (by omega)) ?_ ?_ ?_; (focus (simp [*] <;> fail)); (focus (simp [*] <;> fail)); simp [*])
        | (refine call_same (s19 (cntR a) (cntR b) c hc.out (by omega)) ?_ ?_ ?_; (focus (simp [*] <;> fail)); (focus (simp [*] <;> fail)); simp [*])
        | (refine acall_view (s19 (cntR a) (cntR b) c hc.out (by omega)) ?_ ?_ ?_; (focus (simp [*] <;> fail)); (focus (simp [*] <;> fail)); simp [*])
        | (refine call_view (s19 (cntR a) (cntR b) c hc.out (by omega)) ?_ ?_ ?_; (focus (simp [*] <;> fail)); (focus (simp [*] <;> fail)); simp [*])
        | (refine acall_same (s26 c (by omega)) ?_ ?_ ?_; (focus (simp [*] <;> fail)); (focus (simp [*] <;> fail)); simp [*])
        | (refine call_same (s26 c (by omega)) ?_ ?_ ?_; (focus (simp [*] <;> fail)); (focus (simp [*] <;> fail)); simp [*])
        | (refine acall_view (s26 c (by omega)) ?_ ?_ ?_; (focus (simp [*] <;> fail)); (focus (simp [*] <;> fail)); simp [*])
        | (refine call_view (s26 c (by omega)) ?_ ?_ ?_; (focus (simp [*] <;> fail)); (focus (simp [*] <;> fail)); simp [*])
        | with_reducible refine And.intro ?_ ?_
        | omega
        | (refine imp1 fun h => ?_))
      refine AW_mkrow 8 60 3 1 (by simp) (by simp) (by simp) (by omega) ?_
      refine AW_loopk (G := Nat) (fun i => ⟨[(9, iA i), (8, .own 60 1 0 (W i).length), (7, .sl 8 ((setR c).map encR)), (5, .sl 8 ((cntR a).map encR)), (6, .sl 8 ((cntR b).map encR)), (0, .sl 8 (a.map encR)), (1, .sl 8 (b.map encR))], [(60, .arr 3 1 ((W i).map iA))]⟩)
        (fun i => i ≤ (setR c).length) (fun i => (setR c).length - i) 0 (by simp) (by simp [hW0]) ?_
      intro i hi K hK
      have hWli := hWl i
      clear hWl hW0
      by_cases hlt : i < (setR c).length
      · have hs := hWs.out i hlt
        clear hWs
        by_cases g1 : (setR c)[i] ∈ cntR a
        · by_cases g2 : (setR c)[i] ∈ cntR b
          · simp [difB, g1, g2] at hs
            replace hs := Hld.mk hs
            repeat' (first
              | with_reducible refine useK (by assumption) ?_
              | with_reducible refine useK2 (by assumption) ?_
              | with_reducible refine useX (by assumption) ?_
              | with_reducible refine AW_seqk fun K hK => ?_
              | (with_reducible refine AW_regionS rfl (by rw [hE]; decide) ?_; simp [*])
              | with_reducible refine AW_region (by rw [hE]; decide) ?_
              | ((with_reducible show RK _ _ _ _ _ _); refine RK_nilk ?_; simp [*])
              | ((with_reducible show RK _ _ _ _ _ _); refine RK_stepk fun K' hK' => ?_; simp [*])
              | with_reducible refine AW_drawq mixed (by rw [hE]; decide) (by simp [newOK]) ?_
              | ((with_reducible show RKQ _ _ _ _ _ _); refine RKQ_nilk ⟨by decide, ?_⟩)
              | ((with_reducible show RKQ _ _ _ _ _ _); refine RKQ_stepk fun K' hK' => ?_; simp [*])
              | (with_reducible refine AW_if fun X Y hX hY => ?_; simp [*])
              | with_reducible refine AW_block ?_
              | (with_reducible refine AW_ret ?_; simp [*])
              | (with_reducible refine AW_skip ?_; simp [*])
              | (with_reducible refine AW_exit ?_; simp [*])
              | (refine acall_same (s20 (cntR a) (setR c)[i] (by omega)) ?_ ?_ ?_; (focus (simp [*] <;> fail)); (focus (simp [*] <;> fail)); simp [*])
              | (refine call_same (s20 (cntR a) (setR c)[i] (by omega)) ?_ ?_ ?_; (focus (simp [*] <;> fail)); (focus (simp [*] <;> fail)); simp [*])
              | (refine acall_view (s20 (cntR a) (setR c)[i] (by omega)) ?_ ?_ ?_; (focus (simp [*] <;> fail)); (focus (simp [*] <;> fail)); simp [*])
              | (refine call_view (s20 (cntR a) (setR c)[i] (by omega)) ?_ ?_ ?_; (focus (simp [*] <;> fail)); (focus (simp [*] <;> fail)); simp [*])
              | (refine acall_same (s20 (cntR b) (setR c)[i] (by omega)) ?_ ?_ ?_; (focus (simp [*] <;> fail)); (focus (simp [*] <;> fail)); simp [*])
              | (refine call_same (s20 (cntR b) (setR c)[i] (by omega)) ?_ ?_ ?_; (focus (simp [*] <;> fail)); (focus (simp [*] <;> fail)); simp [*])
              | (refine acall_view (s20 (cntR b) (setR c)[i] (by omega)) ?_ ?_ ?_; (focus (simp [*] <;> fail)); (focus (simp [*] <;> fail)); simp [*])
              | (refine call_view (s20 (cntR b) (setR c)[i] (by omega)) ?_ ?_ ?_; (focus (simp [*] <;> fail)); (focus (simp [*] <;> fail)); simp [*])
              | with_reducible refine And.intro ?_ ?_
              | omega
              | (refine imp1 fun h => ?_))
            all_goals exact ⟨i + 1, by omega, by omega, by simp [hs.out] <;> first | omega | exact List.eq_nil_of_length_eq_zero d1 | (rw [← d1]; exact ⟨rfl, take_len iA _⟩)⟩
          · simp [difB, g1, g2] at hs
            rcases ddSI_cases (W i) (setR c)[i].o with ⟨d1, d2⟩ | ⟨k, hk, d1, ⟨d2, d3⟩ | ⟨d2, d3⟩⟩
            · rw [d2] at hs
              clear d2
              replace hs := Hld.mk hs
              repeat' (first
                | with_reducible refine useK (by assumption) ?_
                | with_reducible refine useK2 (by assumption) ?_
                | with_reducible refine useX (by assumption) ?_
                | with_reducible refine AW_seqk fun K hK => ?_
                | (with_reducible refine AW_regionS rfl (by rw [hE]; decide) ?_; simp [*])
                | with_reducible refine AW_region (by rw [hE]; decide) ?_
                | ((with_reducible show RK _ _ _ _ _ _); refine RK_nilk ?_; simp [*])
                | ((with_reducible show RK _ _ _ _ _ _); refine RK_stepk fun K' hK' => ?_; simp [*])
                | with_reducible refine AW_drawq mixed (by rw [hE]; decide) (by simp [newOK]) ?_
                | ((with_reducible show RKQ _ _ _ _ _ _); refine RKQ_nilk ⟨by decide, ?_⟩)
                | ((with_reducible show RKQ _ _ _ _ _ _); refine RKQ_stepk fun K' hK' => ?_; simp [*])
                | (with_reducible refine AW_if fun X Y hX hY => ?_; simp [*])
                | with_reducible refine AW_block ?_
                | (with_reducible refine AW_ret ?_; simp [*])
                | (with_reducible refine AW_skip ?_; simp [*])
                | (with_reducible refine AW_exit ?_; simp [*])
                | (refine acall_same (s20 (cntR a) (setR c)[i] (by omega)) ?_ ?_ ?_; (focus (simp [*] <;> fail)); (focus (simp [*] <;> fail)); simp [*])
                | (refine call_same (s20 (cntR a) (setR c)[i] (by omega)) ?_ ?_ ?_; (focus (simp [*] <;> fail)); (focus (simp [*] <;> fail)); simp [*])
                | (refine acall_view (s20 (cntR a) (setR c)[i] (by omega)) ?_ ?_ ?_; (focus (simp [*] <;> fail)); (focus (simp [*] <;> fail)); simp [*])
                | (refine call_view (s20 (cntR a) (setR c)[i] (by omega)) ?_ ?_ ?_; (focus (simp [*] <;> fail)); (focus (simp [*] <;> fail)); simp [*])
                | (refine acall_same (s20 (cntR b) (setR c)[i] (by omega)) ?_ ?_ ?_; (focus (simp [*] <;> fail)); (focus (simp [*] <;> fail)); simp [*])
                | (refine call_same (s20 (cntR b) (setR c)[i] (by omega)) ?_ ?_ ?_; (focus (simp [*] <;> fail)); (focus (simp [*] <;> fail)); simp [*])
                | (refine acall_view (s20 (cntR b) (setR c)[i] (by omega)) ?_ ?_ ?_; (focus (simp [*] <;> fail)); (focus (simp [*] <;> fail)); simp [*])
                | (refine call_view (s20 (cntR b) (setR c)[i] (by omega)) ?_ ?_ ?_; (focus (simp [*] <;> fail)); (focus (simp [*] <;> fail)); simp [*])
                | with_reducible refine And.intro ?_ ?_
                | omega
                | (refine imp1 fun h => ?_))
              all_goals exact ⟨i + 1, by omega, by omega, by simp [hs.out] <;> first | omega | exact List.eq_nil_of_length_eq_zero d1 | (rw [← d1]; exact ⟨rfl, take_len iA _⟩)⟩
            · rw [d3] at hs
              clear d3
              replace hs := Hld.mk hs
              have d4 : ((W i).length : Int) - 1 = k := by omega
              repeat' (first
                | with_reducible refine useK (by assumption) ?_
                | with_reducible refine useK2 (by assumption) ?_
                | with_reducible refine useX (by assumption) ?_
                | with_reducible refine AW_seqk fun K hK => ?_
                | (with_reducible refine AW_regionS rfl (by rw [hE]; decide) ?_; simp [*])
                | with_reducible refine AW_region (by rw [hE]; decide) ?_
                | ((with_reducible show RK _ _ _ _ _ _); refine RK_nilk ?_; simp [*])
                | ((with_reducible show RK _ _ _ _ _ _); refine RK_stepk fun K' hK' => ?_; simp [*])
                | with_reducible refine AW_drawq mixed (by rw [hE]; decide) (by simp [newOK]) ?_
                | ((with_reducible show RKQ _ _ _ _ _ _); refine RKQ_nilk ⟨by decide, ?_⟩)
                | ((with_reducible show RKQ _ _ _ _ _ _); refine RKQ_stepk fun K' hK' => ?_; simp [*])
                | (with_reducible refine AW_if fun X Y hX hY => ?_; simp [*])
                | with_reducible refine AW_block ?_
                | (with_reducible refine AW_ret ?_; simp [*])
                | (with_reducible refine AW_skip ?_; simp [*])
                | (with_reducible refine AW_exit ?_; simp [*])
                | (refine acall_same (s20 (cntR a) (setR c)[i] (by omega)) ?_ ?_ ?_; (focus (simp [*] <;> fail)); (focus (simp [*] <;> fail)); simp [*])
                | (refine call_same (s20 (cntR a) (setR c)[i] (by omega)) ?_ ?_ ?_; (focus (simp [*] <;> fail)); (focus (simp [*] <;> fail)); simp [*])
                | (refine acall_view (s20 (cntR a) (setR c)[i] (by omega)) ?_ ?_ ?_; (focus (simp [*] <;> fail)); (focus (simp [*] <;> fail)); simp [*])
                | (refine call_view (s20 (cntR a) (setR c)[i] (by omega)) ?_ ?_ ?_; (focus (simp [*] <;> fail)); (focus (simp [*] <;> fail)); simp [*])
                | (refine acall_same (s20 (cntR b) (setR c)[i] (by omega)) ?_ ?_ ?_; (focus (simp [*] <;> fail)); (focus (simp [*] <;> fail)); simp [*])
                | (refine call_same (s20 (cntR b) (setR c)[i] (by omega)) ?_ ?_ ?_; (focus (simp [*] <;> fail)); (focus (simp [*] <;> fail)); simp [*])
                | (refine acall_view (s20 (cntR b) (setR c)[i] (by omega)) ?_ ?_ ?_; (focus (simp [*] <;> fail)); (focus (simp [*] <;> fail)); simp [*])
                | (refine call_view (s20 (cntR b) (setR c)[i] (by omega)) ?_ ?_ ?_; (focus (simp [*] <;> fail)); (focus (simp [*] <;> fail)); simp [*])
                | with_reducible refine And.intro ?_ ?_
                | omega
                | (refine imp1 fun h => ?_))
              all_goals exact ⟨i + 1, by omega, by omega, by simp [hs.out] <;> first | omega | exact List.eq_nil_of_length_eq_zero d1 | (rw [← d1]; exact ⟨rfl, take_len iA _⟩)⟩
            · rw [d3] at hs
              clear d3
              replace hs := Hld.mk hs
              have d4 : ((W i).length : Int) - 1 = k := by omega
              repeat' (first
                | with_reducible refine useK (by assumption) ?_
                | with_reducible refine useK2 (by assumption) ?_
                | with_reducible refine useX (by assumption) ?_
                | with_reducible refine AW_seqk fun K hK => ?_
                | (with_reducible refine AW_regionS rfl (by rw [hE]; decide) ?_; simp [*])
                | with_reducible refine AW_region (by rw [hE]; decide) ?_
                | ((with_reducible show RK _ _ _ _ _ _); refine RK_nilk ?_; simp [*])
                | ((with_reducible show RK _ _ _ _ _ _); refine RK_stepk fun K' hK' => ?_; simp [*])
                | with_reducible refine AW_drawq mixed (by rw [hE]; decide) (by simp [newOK]) ?_
                | ((with_reducible show RKQ _ _ _ _ _ _); refine RKQ_nilk ⟨by decide, ?_⟩)
                | ((with_reducible show RKQ _ _ _ _ _ _); refine RKQ_stepk fun K' hK' => ?_; simp [*])
                | (with_reducible refine AW_if fun X Y hX hY => ?_; simp [*])
                | with_reducible refine AW_block ?_
                | (with_reducible refine AW_ret ?_; simp [*])
                | (with_reducible refine AW_skip ?_; simp [*])
                | (with_reducible refine AW_exit ?_; simp [*])
                | (refine acall_same (s20 (cntR a) (setR c)[i] (by omega)) ?_ ?_ ?_; (focus (simp [*] <;> fail)); (focus (simp [*] <;> fail)); simp [*])
                | (refine call_same (s20 (cntR a) (setR c)[i] (by omega)) ?_ ?_ ?_; (focus (simp [*] <;> fail)); (focus (simp [*] <;> fail)); simp [*])
                | (refine acall_view (s20 (cntR a) (setR c)[i] (by omega)) ?_ ?_ ?_; (focus (simp [*] <;> fail)); (focus (simp [*] <;> fail)); simp [*])
                | (refine call_view (s20 (cntR a) (setR c)[i] (by omega)) ?_ ?_ ?_; (focus (simp [*] <;> fail)); (focus (simp [*] <;> fail)); simp [*])
                | (refine acall_same (s20 (cntR b) (setR c)[i] (by omega)) ?_ ?_ ?_; (focus (simp [*] <;> fail)); (focus (simp [*] <;> fail)); simp [*])
                | (refine call_same (s20 (cntR b) (setR c)[i] (by omega)) ?_ ?_ ?_; (focus (simp [*] <;> fail)); (focus (simp [*] <;> fail)); simp [*])
                | (refine acall_view (s20 (cntR b) (setR c)[i] (by omega)) ?_ ?_ ?_; (focus (simp [*] <;> fail)); (focus (simp [*] <;> fail)); simp [*])
                | (refine call_view (s20 (cntR b) (setR c)[i] (by omega)) ?_ ?_ ?_; (focus (simp [*] <;> fail)); (focus (simp [*] <;> fail)); simp [*])
                | with_reducible refine And.intro ?_ ?_
                | omega
                | (refine imp1 fun h => ?_))
              all_goals exact ⟨i + 1, by omega, by omega, by simp [hs.out] <;> first | omega | exact List.eq_nil_of_length_eq_zero d1 | (rw [← d1]; exact ⟨rfl, take_len iA _⟩)⟩
        · by_cases g2 : (setR c)[i] ∈ cntR b
          · simp [difB, g1, g2] at hs
            rcases ddSI_cases (W i) (setR c)[i].o with ⟨d1, d2⟩ | ⟨k, hk, d1, ⟨d2, d3⟩ | ⟨d2, d3⟩⟩
            · rw [d2] at hs
              clear d2
              replace hs := Hld.mk hs
              repeat' (first
                | with_reducible refine useK (by assumption) ?_
                | with_reducible refine useK2 (by assumption) ?_
                | with_reducible refine useX (by assumption) ?_
                | with_reducible refine AW_seqk fun K hK => ?_
                | (with_reducible refine AW_regionS rfl (by rw [hE]; decide) ?_; simp [*])
                | with_reducible refine AW_region (by rw [hE]; decide) ?_
                | ((with_reducible show RK _ _ _ _ _ _); refine RK_nilk ?_; simp [*])
                | ((with_reducible show RK _ _ _ _ _ _); refine RK_stepk fun K' hK' => ?_; simp [*])
                | with_reducible refine AW_drawq mixed (by rw [hE]; decide) (by simp [newOK]) ?_
                | ((with_reducible show RKQ _ _ _ _ _ _); refine RKQ_nilk ⟨by decide, ?_⟩)
                | ((with_reducible show RKQ _ _ _ _ _ _); refine RKQ_stepk fun K' hK' => ?_; simp [*])
                | (with_reducible refine AW_if fun X Y hX hY => ?_; simp [*])
                | with_reducible refine AW_block ?_
                | (with_reducible refine AW_ret ?_; simp [*])
                | (with_reducible refine AW_skip ?_; simp [*])
                | (with_reducible refine AW_exit ?_; simp [*])
                | (refine acall_same (s20 (cntR a) (setR c)[i] (by omega)) ?_ ?_ ?_; (focus (simp [*] <;> fail)); (focus (simp [*] <;> fail)); simp [*])
                | (refine call_same (s20 (cntR a) (setR c)[i] (by omega)) ?_ ?_ ?_; (focus (simp [*] <;> fail)); (focus (simp [*] <;> fail)); simp [*])
                | (refine acall_view (s20 (cntR a) (setR c)[i] (by omega)) ?_ ?_ ?_; (focus (simp [*] <;> fail)); (focus (simp [*] <;> fail)); simp [*])
                | (refine call_view (s20 (cntR a) (setR c)[i] (by omega)) ?_ ?_ ?_; (focus (simp [*] <;> fail)); (focus (simp [*] <;> fail)); simp [*])
                | (refine acall_same (s20 (cntR b) (setR c)[i] (by omega)) ?_ ?_ ?_; (focus (simp [*] <;> fail)); (focus (simp [*] <;> fail)); simp [*])
                | (refine call_same (s20 (cntR b) (setR c)[i] (by omega)) ?_ ?_ ?_; (focus (simp [*] <;> fail)); (focus (simp [*] <;> fail)); simp [*])
                | (refine acall_view (s20 (cntR b) (setR c)[i] (by omega)) ?_ ?_ ?_; (focus (simp [*] <;> fail)); (focus (simp [*] <;> fail)); simp [*])
                | (refine call_view (s20 (cntR b) (setR c)[i] (by omega)) ?_ ?_ ?_; (focus (simp [*] <;> fail)); (focus (simp [*] <;> fail)); simp [*])
                | with_reducible refine And.intro ?_ ?_
                | omega
                | (refine imp1 fun h => ?_))
              all_goals exact ⟨i + 1, by omega, by omega, by simp [hs.out] <;> first | omega | exact List.eq_nil_of_length_eq_zero d1 | (rw [← d1]; exact ⟨rfl, take_len iA _⟩)⟩
            · rw [d3] at hs
              clear d3
              replace hs := Hld.mk hs
              have d4 : ((W i).length : Int) - 1 = k := by omega
              repeat' (first
                | with_reducible refine useK (by assumption) ?_
                | with_reducible refine useK2 (by assumption) ?_
                | with_reducible refine useX (by assumption) ?_
                | with_reducible refine AW_seqk fun K hK => ?_
                | (with_reducible refine AW_regionS rfl (by rw [hE]; decide) ?_; simp [*])
                | with_reducible refine AW_region (by rw [hE]; decide) ?_
                | ((with_reducible show RK _ _ _ _ _ _); refine RK_nilk ?_; simp [*])
                | ((with_reducible show RK _ _ _ _ _ _); refine RK_stepk fun K' hK' => ?_; simp [*])
                | with_reducible refine AW_drawq mixed (by rw [hE]; decide) (by simp [newOK]) ?_
                | ((with_reducible show RKQ _ _ _ _ _ _); refine RKQ_nilk ⟨by decide, ?_⟩)
                | ((with_reducible show RKQ _ _ _ _ _ _); refine RKQ_stepk fun K' hK' => ?_; simp [*])
                | (with_reducible refine AW_if fun X Y hX hY => ?_; simp [*])
                | with_reducible refine AW_block ?_
                | (with_reducible refine AW_ret ?_; simp [*])
                | (with_reducible refine AW_skip ?_; simp [*])
                | (with_reducible refine AW_exit ?_; simp [*])
                | (refine acall_same (s20 (cntR a) (setR c)[i] (by omega)) ?_ ?_ ?_; (focus (simp [*] <;> fail)); (focus (simp [*] <;> fail)); simp [*])
                | (refine call_same (s20 (cntR a) (setR c)[i] (by omega)) ?_ ?_ ?_; (focus (simp [*] <;> fail)); (focus (simp [*] <;> fail)); simp [*])
                | (refine acall_view (s20 (cntR a) (setR c)[i] (by omega)) ?_ ?_ ?_; (focus (simp [*] <;> fail)); (focus (simp [*] <;> fail)); simp [*])
                | (refine call_view (s20 (cntR a) (setR c)[i] (by omega)) ?_ ?_ ?_; (focus (simp [*] <;> fail)); (focus (simp [*] <;> fail)); simp [*])
                | (refine acall_same (s20 (cntR b) (setR c)[i] (by omega)) ?_ ?_ ?_; (focus (simp [*] <;> fail)); (focus (simp [*] <;> fail)); simp [*])
                | (refine call_same (s20 (cntR b) (setR c)[i] (by omega)) ?_ ?_ ?_; (focus (simp [*] <;> fail)); (focus (simp [*] <;> fail)); simp [*])
                | (refine acall_view (s20 (cntR b) (setR c)[i] (by omega)) ?_ ?_ ?_; (focus (simp [*] <;> fail)); (focus (simp [*] <;> fail)); simp [*])
                | (refine call_view (s20 (cntR b) (setR c)[i] (by omega)) ?_ ?_ ?_; (focus (simp [*] <;> fail)); (focus (simp [*] <;> fail)); simp [*])
                | with_reducible refine And.intro ?_ ?_
                | omega
                | (refine imp1 fun h => ?_))
              all_goals exact ⟨i + 1, by omega, by omega, by simp [hs.out] <;> first | omega | exact List.eq_nil_of_length_eq_zero d1 | (rw [← d1]; exact ⟨rfl, take_len iA _⟩)⟩
            · rw [d3] at hs
              clear d3
              replace hs := Hld.mk hs
              have d4 : ((W i).length : Int) - 1 = k := by omega
              repeat' (first
                | with_reducible refine useK (by assumption) ?_
                | with_reducible refine useK2 (by assumption) ?_
                | with_reducible refine useX (by assumption) ?_
                | with_reducible refine AW_seqk fun K hK => ?_
                | (with_reducible refine AW_regionS rfl (by rw [hE]; decide) ?_; simp [*])
                | with_reducible refine AW_region (by rw [hE]; decide) ?_
                | ((with_reducible show RK _ _ _ _ _ _); refine RK_nilk ?_; simp [*])
                | ((with_reducible show RK _ _ _ _ _ _); refine RK_stepk fun K' hK' => ?_; simp [*])
                | with_reducible refine AW_drawq mixed (by rw [hE]; decide) (by simp [newOK]) ?_
                | ((with_reducible show RKQ _ _ _ _ _ _); refine RKQ_nilk ⟨by decide, ?_⟩)
                | ((with_reducible show RKQ _ _ _ _ _ _); refine RKQ_stepk fun K' hK' => ?_; simp [*])
                | (with_reducible refine AW_if fun X Y hX hY => ?_; simp [*])
                | with_reducible refine AW_block ?_
                | (with_reducible refine AW_ret ?_; simp [*])
                | (with_reducible refine AW_skip ?_; simp [*])
                | (with_reducible refine AW_exit ?_; simp [*])
                | (refine acall_same (s20 (cntR a) (setR c)[i] (by omega)) ?_ ?_ ?_; (focus (simp [*] <;> fail)); (focus (simp [*] <;> fail)); simp [*])
                | (refine call_same (s20 (cntR a) (setR c)[i] (by omega)) ?_ ?_ ?_; (focus (simp [*] <;> fail)); (focus (simp [*] <;> fail)); simp [*])
                | (refine acall_view (s20 (cntR a) (setR c)[i] (by omega)) ?_ ?_ ?_; (focus (simp [*] <;> fail)); (focus (simp [*] <;> fail)); simp [*])
                | (refine call_view (s20 (cntR a) (setR c)[i] (by omega)) ?_ ?_ ?_; (focus (simp [*] <;> fail)); (focus (simp [*] <;> fail)); simp [*])
                | (refine acall_same (s20 (cntR b) (setR c)[i] (by omega)) ?_ ?_ ?_; (focus (simp [*] <;> fail)); (focus (simp [*] <;> fail)); simp [*])
                | (refine call_same (s20 (cntR b) (setR c)[i] (by omega)) ?_ ?_ ?_; (focus (simp [*] <;> fail)); (focus (simp [*] <;> fail)); simp [*])
                | (refine acall_view (s20 (cntR b) (setR c)[i] (by omega)) ?_ ?_ ?_; (focus (simp [*] <;> fail)); (focus (simp [*] <;> fail)); simp [*])
                | (refine call_view (s20 (cntR b) (setR c)[i] (by omega)) ?_ ?_ ?_; (focus (simp [*] <;> fail)); (focus (simp [*] <;> fail)); simp [*])
                | with_reducible refine And.intro ?_ ?_
                | omega
                | (refine imp1 fun h => ?_))
              all_goals exact ⟨i + 1, by omega, by omega, by simp [hs.out] <;> first | omega | exact List.eq_nil_of_length_eq_zero d1 | (rw [← d1]; exact ⟨rfl, take_len iA _⟩)⟩
          · simp [difB, g1, g2] at hs
            replace hs := Hld.mk hs
            repeat' (first
              | with_reducible refine useK (by assumption) ?_
              | with_reducible refine useK2 (by assumption) ?_
              | with_reducible refine useX (by assumption) ?_
              | with_reducible refine AW_seqk fun K hK => ?_
              | (with_reducible refine AW_regionS rfl (by rw [hE]; decide) ?_; simp [*])
              | with_reducible refine AW_region (by rw [hE]; decide) ?_
              | ((with_reducible show RK _ _ _ _ _ _); refine RK_nilk ?_; simp [*])
              | ((with_reducible show RK _ _ _ _ _ _); refine RK_stepk fun K' hK' => ?_; simp [*])
              | with_reducible refine AW_drawq mixed (by rw [hE]; decide) (by simp [newOK]) ?_
              | ((with_reducible show RKQ _ _ _ _ _ _); refine RKQ_nilk ⟨by decide, ?_⟩)
              | ((with_reducible show RKQ _ _ _ _ _ _); refine RKQ_stepk fun K' hK' => ?_; simp [*])
              | (with_reducible refine AW_if fun X Y hX hY => ?_; simp [*])
              | with_reducible refine AW_block ?_
              | (with_reducible refine AW_ret ?_; simp [*])
              | (with_reducible refine AW_skip ?_; simp [*])
              | (with_reducible refine AW_exit ?_; simp [*])
              | (refine acall_same (s20 (cntR a) (setR c)[i] (by omega)) ?_ ?_ ?_; (focus (simp [*] <;> fail)); (focus (simp [*] <;> fail)); simp [*])
              | (refine call_same (s20 (cntR a) (setR c)[i] (by omega)) ?_ ?_ ?_; (focus (simp [*] <;> fail)); (focus (simp [*] <;> fail)); simp [*])
              | (refine acall_view (s20 (cntR a) (setR c)[i] (by omega)) ?_ ?_ ?_; (focus (simp [*] <;> fail)); (focus (simp [*] <;> fail)); simp [*])
              | (refine call_view (s20 (cntR a) (setR c)[i] (by omega)) ?_ ?_ ?_; (focus (simp [*] <;> fail)); (focus (simp [*] <;> fail)); simp [*])
              | (refine acall_same (s20 (cntR b) (setR c)[i] (by omega)) ?_ ?_ ?_; (focus (simp [*] <;> fail)); (focus (simp [*] <;> fail)); simp [*])
              | (refine call_same (s20 (cntR b) (setR c)[i] (by omega)) ?_ ?_ ?_; (focus (simp [*] <;> fail)); (focus (simp [*] <;> fail)); simp [*])
              | (refine acall_view (s20 (cntR b) (setR c)[i] (by omega)) ?_ ?_ ?_; (focus (simp [*] <;> fail)); (focus (simp [*] <;> fail)); simp [*])
              | (refine call_view (s20 (cntR b) (setR c)[i] (by omega)) ?_ ?_ ?_; (focus (simp [*] <;> fail)); (focus (simp [*] <;> fail)); simp [*])
              | with_reducible refine And.intro ?_ ?_
              | omega
              | (refine imp1 fun h => ?_))
            all_goals exact ⟨i + 1, by omega, by omega, by simp [hs.out] <;> first | omega | exact List.eq_nil_of_length_eq_zero d1 | (rw [← d1]; exact ⟨rfl, take_len iA _⟩)⟩
      · obtain rfl : i = (setR c).length := by omega
        repeat' (first
          | with_reducible refine useK (by assumption) ?_
          | with_reducible refine useK2 (by assumption) ?_
          | with_reducible refine useX (by assumption) ?_
          | with_reducible refine AW_seqk fun K hK => ?_
          | (with_reducible refine AW_regionS rfl (by rw [hE]; decide) ?_; simp [*])
          | with_reducible refine AW_region (by rw [hE]; decide) ?_
          | ((with_reducible show RK _ _ _ _ _ _); refine RK_nilk ?_; simp [*])
          | ((with_reducible show RK _ _ _ _ _ _); refine RK_stepk fun K' hK' => ?_; simp [*])
          | with_reducible refine AW_drawq mixed (by rw [hE]; decide) (by simp [newOK]) ?_
          | ((with_reducible show RKQ _ _ _ _ _ _); refine RKQ_nilk ⟨by decide, ?_⟩)
          | ((with_reducible show RKQ _ _ _ _ _ _); refine RKQ_stepk fun K' hK' => ?_; simp [*])
          | (with_reducible refine AW_if fun X Y hX hY => ?_; simp [*])
          | with_reducible refine AW_block ?_
          | (with_reducible refine AW_ret ?_; simp [*])
          | (with_reducible refine AW_skip ?_; simp [*])
          | (with_reducible refine AW_exit ?_; simp [*])
          | (refine acall_same (t1.out) ?_ ?_ ?_; (focus (simp [*] <;> fail)); (focus (simp [*] <;> fail)); simp [*])
          | (refine call_same (t1.out) ?_ ?_ ?_; (focus (simp [*] <;> fail)); (focus (simp [*] <;> fail)); simp [*])
          | (refine acall_view (t1.out) ?_ ?_ ?_; (focus (simp [*] <;> fail)); (focus (simp [*] <;> fail)); simp [*])
          | (refine call_view (t1.out) ?_ ?_ ?_; (focus (simp [*] <;> fail)); (focus (simp [*] <;> fail)); simp [*])
          | (refine acall_same (t2.out) ?_ ?_ ?_; (focus (simp [*] <;> fail)); (focus (simp [*] <;> fail)); simp [*])
          | (refine call_same (t2.out) ?_ ?_ ?_; (focus (simp [*] <;> fail)); (focus (simp [*] <;> fail)); simp [*])
          | (refine acall_view (t2.out) ?_ ?_ ?_; (focus (simp [*] <;> fail)); (focus (simp [*] <;> fail)); simp [*])
          | (refine call_view (t2.out) ?_ ?_ ?_; (focus (simp [*] <;> fail)); (focus (simp [*] <;> fail)); simp [*])
          | (refine acall_same (s23 (W (setR c).length) (W (setR c).length) (by omega)) ?_ ?_ ?_; (focus (simp [*] <;> fail)); (focus (simp [*] <;> fail)); simp [*])
          | (refine call_same (s23 (W (setR c).length) (W (setR c).length) (by omega)) ?_ ?_ ?_; (focus (simp [*] <;> fail)); (focus (simp [*] <;> fail)); simp [*])
          | (refine acall_view (s23 (W (setR c).length) (W (setR c).length) (by omega)) ?_ ?_ ?_; (focus (simp [*] <;> fail)); (focus (simp [*] <;> fail)); simp [*])
          | (refine call_view (s23 (W (setR c).length) (W (setR c).length) (by omega)) ?_ ?_ ?_; (focus (simp [*] <;> fail)); (focus (simp [*] <;> fail)); simp [*])
          | with_reducible refine And.intro ?_ ?_
          | omega
          | (refine imp1 fun h => ?_))
    · refine PSpec_of Try.func11 rfl rfl (Nat.le_of_ble_eq_true rfl) (Nat.le_of_ble_eq_true rfl) ?_
      intro E hE
      repeat' (first
        | with_reducible refine useK (by assumption) ?_
        | with_reducible refine useK2 (by assumption) ?_
        | with_reducible refine useX (by assumption) ?_
        | with_reducible refine AW_seqk fun K hK => ?_
        | (with_reducible refine AW_regionS rfl (by rw [hE]; decide) ?_; simp [*])
        | with_reducible refine AW_region (by rw [hE]; decide) ?_
        | ((with_reducible show RK _ _ _ _ _ _); refine RK_nilk ?_; simp [*])
        | ((with_reducible show RK _ _ _ _ _ _); refine RK_stepk fun K' hK' => ?_; simp [*])
        | with_reducible refine AW_drawq mixed (by rw [hE]; decide) (by simp [newOK]) ?_
        | ((with_reducible show RKQ _ _ _ _ _ _); refine RKQ_nilk ⟨by decide, ?_⟩)
        | ((with_reducible show RKQ _ _ _ _ _ _); refine RKQ_stepk fun K' hK' => ?_; simp [*])
        | (with_reducible refine AW_if fun X Y hX hY => ?_; simp [*])
        | with_reducible refine AW_block ?_
        | (with_reducible refine AW_ret ?_; simp [*])
        | (with_reducible refine AW_skip ?_; simp [*])
        | (with_reducible refine AW_exit ?_; simp [*])
        | (refine acall_same (s14) ?_ ?_ ?_; (focus (simp [*] <;> fail)); (focus (simp [*] <;> fail)); simp [*])
        | (refine call_same (s14) ?_ ?_ ?_; (focus (simp [*] <;> fail)); (focus (simp [*] <;> fail)); simp [*])
        | (refine acall_view (s14) ?_ ?_ ?_; (focus (simp [*] <;> fail)); (focus (simp [*] <;> fail)); simp [*])
        | (refine call_view (s14) ?_ ?_ ?_; (focus (simp [*] <;> fail)); (focus (simp [*] <;> fail)); simp [*])
        | with_reducible refine And.intro ?_ ?_
        | omega
        | (refine imp1 fun h => ?_))
  · refine PSpec_of Try.func11 rfl rfl (Nat.le_of_ble_eq_true rfl) (Nat.le_of_ble_eq_true rfl) ?_
    intro E hE
    repeat' (first
      | with_reducible refine useK (by assumption) ?_
      | with_reducible refine useK2 (by assumption) ?_
      | with_reducible refine useX (by assumption) ?_
      | with_reducible refine AW_seqk fun K hK => ?_
      | (with_reducible refine AW_regionS rfl (by rw [hE]; decide) ?_; simp [*])
      | with_reducible refine AW_region (by rw [hE]; decide) ?_
      | ((with_reducible show RK _ _ _ _ _ _); refine RK_nilk ?_; simp [*])
      | ((with_reducible show RK _ _ _ _ _ _); refine RK_stepk fun K' hK' => ?_; simp [*])
      | with_reducible refine AW_drawq mixed (by rw [hE]; decide) (by simp [newOK]) ?_
      | ((with_reducible show RKQ _ _ _ _ _ _); refine RKQ_nilk ⟨by decide, ?_⟩)
      | ((with_reducible show RKQ _ _ _ _ _ _); refine RKQ_stepk fun K' hK' => ?_; simp [*])
      | (with_reducible refine AW_if fun X Y hX hY => ?_; simp [*])
      | with_reducible refine AW_block ?_
      | (with_reducible refine AW_ret ?_; simp [*])
      | (with_reducible refine AW_skip ?_; simp [*])
      | (with_reducible refine AW_exit ?_; simp [*])
      | (refine acall_same (s14) ?_ ?_ ?_; (focus (simp [*] <;> fail)); (focus (simp [*] <;> fail)); simp [*])
      | (refine call_same (s14) ?_ ?_ ?_; (focus (simp [*] <;> fail)); (focus (simp [*] <;> fail)); simp [*])
      | (refine acall_view (s14) ?_ ?_ ?_; (focus (simp [*] <;> fail)); (focus (simp [*] <;> fail)); simp [*])
      | (refine call_view (s14) ?_ ?_ ?_; (focus (simp [*] <;> fail)); (focus (simp [*] <;> fail)); simp [*])
      | with_reducible refine And.intro ?_ ?_
      | omega
      | (refine imp1 fun h => ?_))
theorem spec (avs : List AV) (h : ShapeL Try.prog 6 Try.f11.params.toList avs) : PSpec Try.prog 11 avs (.v (.bool true)) := by
  rw [Try.params11] at h
  obtain ⟨c1, r1, rfl, h1, c2, r2, rfl, h2, rfl⟩ := h
  obtain ⟨a, ha, -⟩ := avRs h1
  obtain ⟨b, hb, -⟩ := avRs h2
  rw [ha, hb]
  exact s a b
theorem contract (H : Type) (enc : TypeId × Value → H) (W : World) (base : Nat) (args : Array Value) (ds gs : List (DataW H)) (before : List MemPlace)
    (hval : ∀ (j : Nat) t v, Try.f11.params[j]? = some t → args[j]? = some v → Value.okWide Try.prog W .any base t v)
    (hW : DataW.Whole enc Try.prog Try.f11.params.toList Rows.reportChangesSpec.vars false W args.toList ds gs before) :
    Calls Try.prog 11 args W fun e W' => ∃ v, e = .returned v ∧ Rows.reportChangesSpec.post enc Try.prog Try.f11 false true false false W args v W' :=
  law_contract (m := 6) (tb := 4) spec (by rw [Try.params11]; intro t ht; simp at ht; rcases ht with rfl | rfl <;> kernel_rfl) rfl laidK
    (by rw [Try.params11]; intro t ht; simp at ht; rcases ht with rfl | rfl <;> exact ⟨by kernel_rfl, by decide +kernel⟩)
    (fun ds hd => by
      rw [Try.params11] at hd
      match ds, hd with
      | [d1, d2], _ => rfl) (by kernel_rfl) Try.underlying4 hval hW
theorem lifted (os : Os) (started : os.Started) (H : Type) (enc : TypeId × Value → H) :
    ReturnsInHanded {} Try.checked os 11 .any (Rows.reportChangesSpec.pre6 enc Try.prog Try.f11 Rows.reportChangesRow.domain false) (Rows.reportChangesSpec.post enc Try.prog Try.f11 false true false false) := by
  refine returnsInHanded_of_change (C := Try.checked) ownK started (by kernel_rfl) Try.func11
    (ChangeSpec.witness6 (enc := enc) (C := Try.checked) false ⟨#[], #[.slice .none 0 0, .slice .none 0 0], []⟩ 8 (by kernel_rfl) (by kernel_rfl) (by kernel_rfl) (by kernel_rfl)) ?_
  intro W base args ds gs before hval hW hcnd _
  exact contract H enc W base args ds gs before hval hW
theorem said : Rows.ReportChangesSaid :=
  OpenClaim.holds_of_wide 11 Try.f11 rfl rfl rfl rfl rfl rfl rfl ⟨rfl, rfl, rfl, rfl, rfl⟩ rfl rfl rfl rfl rfl (by kernel_rfl) Try.func11 (by kernel_rfl)
    (of_decide_eq_true (by kernel_rfl)) (by unfold Func.isWrapper; first | (rw [if_pos (by decide +kernel)]; kernel_rfl) | (rw [if_neg (by decide +kernel)]; exact ⟨rfl, rfl⟩))
    (fun os started H enc _ => lifted os started H enc)
end L11
end Go.Proofs.Ytmjckbokjjnmeaa
