/- ReportObjects: for any list of reports and any number the law hands back true. Conditions: none. -/
import Derived.Test.YtmjckbokjjnmeaaZ5
set_option maxRecDepth 100000
set_option linter.unusedSimpArgs false
set_option linter.unusedVariables false
namespace Go.Proofs.Ytmjckbokjjnmeaa
open Go.Am Go.RowKit Go.ChangeShapes Go.WideShapes Go.ChangeAt

namespace L10
theorem ddSI_cases (D : List Int) (x : Int) : (D.length = 0 ∧ ddSI D x = D ++ [x]) ∨ (∃ k, ∃ h : k < D.length, D.length = k + 1 ∧ ((D[k] = x ∧ ddSI D x = D) ∨ (D[k] ≠ x ∧ ddSI D x = D ++ [x]))) := by
  by_cases h : D = []
  · subst h; exact .inl ⟨rfl, rfl⟩
  · have h0 : 0 < D.length := List.length_pos_iff.2 h
    refine .inr ⟨D.length - 1, by omega, by omega, ?_⟩
    unfold ddSI
    rw [List.getLast?_eq_some_getLast h, List.getLast_eq_getElem]
    by_cases hx : D[D.length - 1] = x
    · exact .inl ⟨hx, by simp [hx]⟩
    · exact .inr ⟨hx, by simp [hx]⟩
set_option maxHeartbeats 8000000 in
theorem s (l : List R) (ob : Int) : PSpec Try.prog 10 [.sl 8 (l.map encR), iA ob] (bA true) := by
  by_cases h1 : l.length ≤ 20
  · have e1 := cntR_len l
    obtain ⟨W, hW⟩ : ∃ W : Nat → List Int, ∀ i, W i = ddI (((cntR l).take i).map R.o) := ⟨_, fun _ => rfl⟩
    have hW0 : W 0 = [] := by rw [hW]; rfl
    have hWl : ∀ i, (W i).length ≤ 20 := by
      intro i; rw [hW]
      have h := dd_lenI (l := ((cntR l).take i).map R.o) (i := (((cntR l).take i).map R.o).length) (Nat.le_refl _)
      rw [List.take_length] at h
      rw [List.length_map, List.length_take] at h; omega
    have hWe : W (cntR l).length = objR l := by rw [hW, List.take_length]; rfl
    have hWs : ∀ i (h : i < (cntR l).length), W (i + 1) = ddSI (W i) (cntR l)[i].o := by intro i h; rw [hW, hW, take_map_snoc _ h, ddI_snoc]
    have t1 := s32 l (by omega)
    rw [← hWe] at t1
    clear hW
    obtain ⟨A, hA⟩ : ∃ A, A = W (cntR l).length ++ [ob] := ⟨_, rfl⟩
    have hAl : A.length ≤ 21 := by rw [hA, List.length_append]; have := hWl (cntR l).length; simp; omega
    clear hWe
    replace t1 := Hld.mk t1
    replace hWs := Hld.mk hWs
    replace hA := Hld.mk hA
    refine PSpec_of Try.func10 rfl rfl (Nat.le_of_ble_eq_true rfl) (Nat.le_of_ble_eq_true rfl) ?_
    intro E hE
    repeat' (first
      | with_reducible refine useK (by assumption) ?_
      | with_reducible refine useK2 (by assumption) ?_
      | with_reducible refine useX (by assumption) ?_
      | with_reducible refine AW_seqk fun K hK => ?_
      | (with_reducible refine AW_regionS rfl (by rw [hE]; decide) ?_; simp [*])
      | with_reducible refine AW_region (by rw [hE]; decide) ?_
      | ((with_reducible show RK _ _ _ _ _ _); refine RK_nilk ?_; simp [*])
      | ((with_reducible show RK _ _ _ _ _ _); refine RK_stepk fun K' hK' => ?_; simp [*])
      | with_reducible refine AW_drawq mixed (by rw [hE]; decide) (by simp [newOK]) ?_
      | ((with_reducible show RKQ _ _ _ _ _ _); refine RKQ_nilk ⟨by decide, ?_⟩)
      | ((with_reducible show RKQ _ _ _ _ _ _); refine RKQ_stepk fun K' hK' => ?_; simp [*])
      | (with_reducible refine AW_if fun X Y hX hY => ?_; simp [*])
      | with_reducible refine AW_block ?_
      | (with_reducible refine AW_ret ?_; simp [*])
      | (with_reducible refine AW_skip ?_; simp [*])
      | (with_reducible refine AW_exit ?_; simp [*])
      | (refine acall_same (s14) ?_ ?_ ?_; (focus (simp [*] <;> fail)); (focus (simp [*] <;> fail)); simp [*])
      | (refine call_same (s14) ?_ ?_ ?_; (focus (simp [*] <;> fail)); (focus (simp [*] <;> fail)); simp [*])
      | (refine acall_view (s14) ?_ ?_ ?_; (focus (simp [*] <;> fail)); (focus (simp [*] <;> fail)); simp [*])
      | (refine call_view (s14) ?_ ?_ ?_; (focus (simp [*] <;> fail)); (focus (simp [*] <;> fail)); simp [*])
      | (refine acall_same (s16 l (by omega)) ?_ ?_ ?_; (focus (simp [*] <;> fail)); (focus (simp [*] <;> fail)); simp [*])
      | (refine call_same (s16 l (by omega)) ?_ ?_ ?_; (focus (simp [*] <;> fail)); (focus (simp [*] <;> fail)); simp [*])
      | (refine acall_view (s16 l (by omega)) ?_ ?_ ?_; (focus (simp [*] <;> fail)); (focus (simp [*] <;> fail)); simp [*])
      | (refine call_view (s16 l (by omega)) ?_ ?_ ?_; (focus (simp [*] <;> fail)); (focus (simp [*] <;> fail)); simp [*])
      | with_reducible refine And.intro ?_ ?_
      | omega
      | (refine imp1 fun h => ?_))
    refine AW_mkrow 6 60 3 1 (by simp) (by simp) (by simp) (by omega) ?_
    refine AW_loopk (G := Nat) (fun i => ⟨[(7, iA i), (6, .own 60 1 0 (W i).length), (5, .sl 8 ((cntR l).map encR)), (0, .sl 8 (l.map encR)), (1, iA ob)], [(60, .arr 3 1 ((W i).map iA))]⟩)
      (fun i => i ≤ (cntR l).length) (fun i => (cntR l).length - i) 0 (by simp) (by simp [hW0]) ?_
    intro i hi K hK
    have hWli := hWl i
    clear hWl hW0
    by_cases hlt : i < (cntR l).length
    · have hs := hWs.out i hlt
      clear hWs t1 hA hAl
      rcases ddSI_cases (W i) (cntR l)[i].o with ⟨d1, d2⟩ | ⟨k, hk, d1, ⟨d2, d3⟩ | ⟨d2, d3⟩⟩
      · rw [d2] at hs
        clear d2
        replace hs := Hld.mk hs
        repeat' (first
          | with_reducible refine useK (by assumption) ?_
          | with_reducible refine useK2 (by assumption) ?_
          | with_reducible refine useX (by assumption) ?_
          | with_reducible refine AW_seqk fun K hK => ?_
          | (with_reducible refine AW_regionS rfl (by rw [hE]; decide) ?_; simp [*])
          | with_reducible refine AW_region (by rw [hE]; decide) ?_
          | ((with_reducible show RK _ _ _ _ _ _); refine RK_nilk ?_; simp [*])
          | ((with_reducible show RK _ _ _ _ _ _); refine RK_stepk fun K' hK' => ?_; simp [*])
          | with_reducible refine AW_drawq mixed (by rw [hE]; decide) (by simp [newOK]) ?_
          | ((with_reducible show RKQ _ _ _ _ _ _); refine RKQ_nilk ⟨by decide, ?_⟩)
          | ((with_reducible show RKQ _ _ _ _ _ _); refine RKQ_stepk fun K' hK' => ?_; simp [*])
          | (with_reducible refine AW_if fun X Y hX hY => ?_; simp [*])
          | with_reducible refine AW_block ?_
          | (with_reducible refine AW_ret ?_; simp [*])
          | (with_reducible refine AW_skip ?_; simp [*])
          | (with_reducible refine AW_exit ?_; simp [*])
          | with_reducible refine And.intro ?_ ?_
          | omega
          | (refine imp1 fun h => ?_))
        all_goals exact ⟨i + 1, by omega, by omega, by simp [hs.out] <;> first | omega | exact List.eq_nil_of_length_eq_zero d1 | (rw [← d1]; exact ⟨rfl, take_len iA _⟩)⟩
      · rw [d3] at hs
        clear d3
        replace hs := Hld.mk hs
        have d4 : ((W i).length : Int) - 1 = k := by omega
        repeat' (first
          | with_reducible refine useK (by assumption) ?_
          | with_reducible refine useK2 (by assumption) ?_
          | with_reducible refine useX (by assumption) ?_
          | with_reducible refine AW_seqk fun K hK => ?_
          | (with_reducible refine AW_regionS rfl (by rw [hE]; decide) ?_; simp [*])
          | with_reducible refine AW_region (by rw [hE]; decide) ?_
          | ((with_reducible show RK _ _ _ _ _ _); refine RK_nilk ?_; simp [*])
          | ((with_reducible show RK _ _ _ _ _ _); refine RK_stepk fun K' hK' => ?_; simp [*])
          | with_reducible refine AW_drawq mixed (by rw [hE]; decide) (by simp [newOK]) ?_
          | ((with_reducible show RKQ _ _ _ _ _ _); refine RKQ_nilk ⟨by decide, ?_⟩)
          | ((with_reducible show RKQ _ _ _ _ _ _); refine RKQ_stepk fun K' hK' => ?_; simp [*])
          | (with_reducible refine AW_if fun X Y hX hY => ?_; simp [*])
          | with_reducible refine AW_block ?_
          | (with_reducible refine AW_ret ?_; simp [*])
          | (with_reducible refine AW_skip ?_; simp [*])
          | (with_reducible refine AW_exit ?_; simp [*])
          | with_reducible refine And.intro ?_ ?_
          | omega
          | (refine imp1 fun h => ?_))
        all_goals exact ⟨i + 1, by omega, by omega, by simp [hs.out] <;> first | omega | exact List.eq_nil_of_length_eq_zero d1 | (rw [← d1]; exact ⟨rfl, take_len iA _⟩)⟩
      · rw [d3] at hs
        clear d3
        replace hs := Hld.mk hs
        have d4 : ((W i).length : Int) - 1 = k := by omega
        repeat' (first
          | with_reducible refine useK (by assumption) ?_
          | with_reducible refine useK2 (by assumption) ?_
          | with_reducible refine useX (by assumption) ?_
          | with_reducible refine AW_seqk fun K hK => ?_
          | (with_reducible refine AW_regionS rfl (by rw [hE]; decide) ?_; simp [*])
          | with_reducible refine AW_region (by rw [hE]; decide) ?_
          | ((with_reducible show RK _ _ _ _ _ _); refine RK_nilk ?_; simp [*])
          | ((with_reducible show RK _ _ _ _ _ _); refine RK_stepk fun K' hK' => ?_; simp [*])
          | with_reducible refine AW_drawq mixed (by rw [hE]; decide) (by simp [newOK]) ?_
          | ((with_reducible show RKQ _ _ _ _ _ _); refine RKQ_nilk ⟨by decide, ?_⟩)
          | ((with_reducible show RKQ _ _ _ _ _ _); refine RKQ_stepk fun K' hK' => ?_; simp [*])
          | (with_reducible refine AW_if fun X Y hX hY => ?_; simp [*])
          | with_reducible refine AW_block ?_
          | (with_reducible refine AW_ret ?_; simp [*])
          | (with_reducible refine AW_skip ?_; simp [*])
          | (with_reducible refine AW_exit ?_; simp [*])
          | with_reducible refine And.intro ?_ ?_
          | omega
          | (refine imp1 fun h => ?_))
        all_goals exact ⟨i + 1, by omega, by omega, by simp [hs.out] <;> first | omega | exact List.eq_nil_of_length_eq_zero d1 | (rw [← d1]; exact ⟨rfl, take_len iA _⟩)⟩
    · obtain rfl : i = (cntR l).length := by omega
      clear hWs
      repeat' (first
        | with_reducible refine useK (by assumption) ?_
        | with_reducible refine useK2 (by assumption) ?_
        | with_reducible refine useX (by assumption) ?_
        | with_reducible refine AW_seqk fun K hK => ?_
        | (with_reducible refine AW_regionS rfl (by rw [hE]; decide) ?_; simp [*])
        | with_reducible refine AW_region (by rw [hE]; decide) ?_
        | ((with_reducible show RK _ _ _ _ _ _); refine RK_nilk ?_; simp [*])
        | ((with_reducible show RK _ _ _ _ _ _); refine RK_stepk fun K' hK' => ?_; simp [*])
        | with_reducible refine AW_drawq mixed (by rw [hE]; decide) (by simp [newOK]) ?_
        | ((with_reducible show RKQ _ _ _ _ _ _); refine RKQ_nilk ⟨by decide, ?_⟩)
        | ((with_reducible show RKQ _ _ _ _ _ _); refine RKQ_stepk fun K' hK' => ?_; simp [*])
        | (with_reducible refine AW_if fun X Y hX hY => ?_; simp [*])
        | with_reducible refine AW_block ?_
        | (with_reducible refine AW_ret ?_; simp [*])
        | (with_reducible refine AW_skip ?_; simp [*])
        | (with_reducible refine AW_exit ?_; simp [*])
        | (refine acall_same (t1.out) ?_ ?_ ?_; (focus (simp [*] <;> fail)); (focus (simp [*] <;> fail)); simp [*])
        | (refine call_same (t1.out) ?_ ?_ ?_; (focus (simp [*] <;> fail)); (focus (simp [*] <;> fail)); simp [*])
        | (refine acall_view (t1.out) ?_ ?_ ?_; (focus (simp [*] <;> fail)); (focus (simp [*] <;> fail)); simp [*])
        | (refine call_view (t1.out) ?_ ?_ ?_; (focus (simp [*] <;> fail)); (focus (simp [*] <;> fail)); simp [*])
        | (refine acall_same (s23 (W (cntR l).length) (W (cntR l).length) (by omega)) ?_ ?_ ?_; (focus (simp [*] <;> fail)); (focus (simp [*] <;> fail)); simp [*])
        | (refine call_same (s23 (W (cntR l).length) (W (cntR l).length) (by omega)) ?_ ?_ ?_; (focus (simp [*] <;> fail)); (focus (simp [*] <;> fail)); simp [*])
        | (refine acall_view (s23 (W (cntR l).length) (W (cntR l).length) (by omega)) ?_ ?_ ?_; (focus (simp [*] <;> fail)); (focus (simp [*] <;> fail)); simp [*])
        | (refine call_view (s23 (W (cntR l).length) (W (cntR l).length) (by omega)) ?_ ?_ ?_; (focus (simp [*] <;> fail)); (focus (simp [*] <;> fail)); simp [*])
        | with_reducible refine And.intro ?_ ?_
        | omega
        | (refine imp1 fun h => ?_))
      refine AW_le (t := ⟨[(8, iA 0), (6, .own 60 1 0 A.length), (5, .sl 8 ((cntR l).map encR)), (0, .sl 8 (l.map encR))], [(60, .arr 3 1 (A.map iA))]⟩) (by simp [hA.out]) ?_
      refine AW_freeze 60 (t := ⟨[(8, iA 0), (6, .sl 1 (A.map iA)), (5, .sl 8 ((cntR l).map encR)), (0, .sl 8 (l.map encR))], []⟩) rfl (by simp) (by simp) ?_
      refine AW_loopk (G := Nat) (fun i => ⟨[(8, iA i), (6, .sl 1 (A.map iA)), (5, .sl 8 ((cntR l).map encR)), (0, .sl 8 (l.map encR))], []⟩)
        (fun i => i ≤ A.length) (fun i => A.length - i) 0 (by simp) (by simp) ?_
      intro i hi K hK
      clear hWli t1 hA
      by_cases hlt : i < A.length
      · obtain ⟨F, hF⟩ : ∃ F : Nat → List R, ∀ k, F k = ((cntR l).take k).filter fun r => decide (r.o = A[i]) := ⟨_, fun _ => rfl⟩
        have hF0 : F 0 = [] := by rw [hF]; rfl
        have hFe : F (cntR l).length = ofR l A[i] := by rw [hF, List.take_length]; rfl
        have hFl : ∀ k, (F k).length ≤ 20 := by
          intro k; rw [hF]
          have h := List.length_filter_le (fun r : R => decide (r.o = A[i])) ((cntR l).take k)
          rw [List.length_take] at h; omega
        have hFs : ∀ k (h : k < (cntR l).length), F (k + 1) = F k ++ (if (cntR l)[k].o = A[i] then [(cntR l)[k]] else []) := by
          intro k h; rw [hF, hF, List.take_succ_eq_append_getElem h, List.filter_append]
          congr 1
          simp only [List.filter_cons, List.filter_nil, decide_eq_true_eq]
        clear hF
        have t2 := s33 l A[i] (by omega)
        have t3 := s34 l A[i] (by omega)
        rw [← hFe] at t2 t3
        clear hFe
        replace t2 := Hld.mk t2
        replace t3 := Hld.mk t3
        replace hFs := Hld.mk hFs
        repeat' (first
          | with_reducible refine useK (by assumption) ?_
          | with_reducible refine useK2 (by assumption) ?_
          | with_reducible refine useX (by assumption) ?_
          | with_reducible refine AW_seqk fun K hK => ?_
          | (with_reducible refine AW_regionS rfl (by rw [hE]; decide) ?_; simp [*])
          | with_reducible refine AW_region (by rw [hE]; decide) ?_
          | ((with_reducible show RK _ _ _ _ _ _); refine RK_nilk ?_; simp [*])
          | ((with_reducible show RK _ _ _ _ _ _); refine RK_stepk fun K' hK' => ?_; simp [*])
          | with_reducible refine AW_drawq mixed (by rw [hE]; decide) (by simp [newOK]) ?_
          | ((with_reducible show RKQ _ _ _ _ _ _); refine RKQ_nilk ⟨by decide, ?_⟩)
          | ((with_reducible show RKQ _ _ _ _ _ _); refine RKQ_stepk fun K' hK' => ?_; simp [*])
          | (with_reducible refine AW_if fun X Y hX hY => ?_; simp [*])
          | with_reducible refine AW_block ?_
          | (with_reducible refine AW_ret ?_; simp [*])
          | (with_reducible refine AW_skip ?_; simp [*])
          | (with_reducible refine AW_exit ?_; simp [*])
          | with_reducible refine And.intro ?_ ?_
          | omega
          | (refine imp1 fun h => ?_))
        refine AW_mkrow 9 61 23 8 (by simp) (by simp) (by simp) (by omega) ?_
        refine AW_loopk (G := Nat) (fun k => ⟨[(10, iA k), (9, .own 61 8 0 (F k).length), (8, iA i), (6, .sl 1 (A.map iA)), (5, .sl 8 ((cntR l).map encR)), (0, .sl 8 (l.map encR))], [(61, .arr 23 8 ((F k).map encR))]⟩)
          (fun k => k ≤ (cntR l).length) (fun k => (cntR l).length - k) 0 (by simp) (by simp [hF0]) ?_
        intro k hk K hK
        have hFk := hFl k
        clear hFl hF0
        by_cases hlk : k < (cntR l).length
        · have hs := hFs.out k hlk
          clear hFs t2 t3
          by_cases ho : (cntR l)[k].o = A[i]
          · rw [if_pos ho] at hs
            replace hs := Hld.mk hs
            repeat' (first
              | with_reducible refine useK (by assumption) ?_
              | with_reducible refine useK2 (by assumption) ?_
              | with_reducible refine useX (by assumption) ?_
              | with_reducible refine AW_seqk fun K hK => ?_
              | (with_reducible refine AW_regionS rfl (by rw [hE]; decide) ?_; simp [*])
              | with_reducible refine AW_region (by rw [hE]; decide) ?_
              | ((with_reducible show RK _ _ _ _ _ _); refine RK_nilk ?_; simp [*])
              | ((with_reducible show RK _ _ _ _ _ _); refine RK_stepk fun K' hK' => ?_; simp [*])
              | with_reducible refine AW_drawq mixed (by rw [hE]; decide) (by simp [newOK]) ?_
              | ((with_reducible show RKQ _ _ _ _ _ _); refine RKQ_nilk ⟨by decide, ?_⟩)
              | ((with_reducible show RKQ _ _ _ _ _ _); refine RKQ_stepk fun K' hK' => ?_; simp [*])
              | (with_reducible refine AW_if fun X Y hX hY => ?_; simp [*])
              | with_reducible refine AW_block ?_
              | (with_reducible refine AW_ret ?_; simp [*])
              | (with_reducible refine AW_skip ?_; simp [*])
              | (with_reducible refine AW_exit ?_; simp [*])
              | with_reducible refine And.intro ?_ ?_
              | omega
              | (refine imp1 fun h => ?_))
            all_goals exact ⟨k + 1, by omega, by omega, by simp [hs.out]⟩
          · rw [if_neg ho] at hs
            replace hs := Hld.mk hs
            repeat' (first
              | with_reducible refine useK (by assumption) ?_
              | with_reducible refine useK2 (by assumption) ?_
              | with_reducible refine useX (by assumption) ?_
              | with_reducible refine AW_seqk fun K hK => ?_
              | (with_reducible refine AW_regionS rfl (by rw [hE]; decide) ?_; simp [*])
              | with_reducible refine AW_region (by rw [hE]; decide) ?_
              | ((with_reducible show RK _ _ _ _ _ _); refine RK_nilk ?_; simp [*])
              | ((with_reducible show RK _ _ _ _ _ _); refine RK_stepk fun K' hK' => ?_; simp [*])
              | with_reducible refine AW_drawq mixed (by rw [hE]; decide) (by simp [newOK]) ?_
              | ((with_reducible show RKQ _ _ _ _ _ _); refine RKQ_nilk ⟨by decide, ?_⟩)
              | ((with_reducible show RKQ _ _ _ _ _ _); refine RKQ_stepk fun K' hK' => ?_; simp [*])
              | (with_reducible refine AW_if fun X Y hX hY => ?_; simp [*])
              | with_reducible refine AW_block ?_
              | (with_reducible refine AW_ret ?_; simp [*])
              | (with_reducible refine AW_skip ?_; simp [*])
              | (with_reducible refine AW_exit ?_; simp [*])
              | with_reducible refine And.intro ?_ ?_
              | omega
              | (refine imp1 fun h => ?_))
            all_goals exact ⟨k + 1, by omega, by omega, by simp [hs.out]⟩
        · obtain rfl : k = (cntR l).length := by omega
          clear hFs
          obtain ⟨O, hO⟩ : ∃ O, O = F (cntR l).length := ⟨_, rfl⟩
          rw [← hO] at t2 t3 hFk ⊢
          clear hO
          by_cases h0 : O = []
          · subst h0
            have hz : lastR [] = zeroR := rfl
            repeat' (first
              | with_reducible refine useK (by assumption) ?_
              | with_reducible refine useK2 (by assumption) ?_
              | with_reducible refine useX (by assumption) ?_
              | with_reducible refine AW_seqk fun K hK => ?_
              | (with_reducible refine AW_regionS rfl (by rw [hE]; decide) ?_; simp [*, encR_zero])
              | with_reducible refine AW_region (by rw [hE]; decide) ?_
              | ((with_reducible show RK _ _ _ _ _ _); refine RK_nilk ?_; simp [*, encR_zero])
              | ((with_reducible show RK _ _ _ _ _ _); refine RK_stepk fun K' hK' => ?_; simp [*, encR_zero])
              | with_reducible refine AW_drawq mixed (by rw [hE]; decide) (by simp [newOK]) ?_
              | ((with_reducible show RKQ _ _ _ _ _ _); refine RKQ_nilk ⟨by decide, ?_⟩)
              | ((with_reducible show RKQ _ _ _ _ _ _); refine RKQ_stepk fun K' hK' => ?_; simp [*, encR_zero])
              | (with_reducible refine AW_if fun X Y hX hY => ?_; simp [*, encR_zero])
              | with_reducible refine AW_block ?_
              | (with_reducible refine AW_ret ?_; simp [*, encR_zero])
              | (with_reducible refine AW_skip ?_; simp [*, encR_zero])
              | (with_reducible refine AW_exit ?_; simp [*, encR_zero])
              | (refine acall_same (t2.out) ?_ ?_ ?_; (focus (simp [*, encR_zero] <;> fail)); (focus (simp [*, encR_zero] <;> fail)); simp [*, encR_zero])
              | (refine call_same (t2.out) ?_ ?_ ?_; (focus (simp [*, encR_zero] <;> fail)); (focus (simp [*, encR_zero] <;> fail)); simp [*, encR_zero])
              | (refine acall_view (t2.out) ?_ ?_ ?_; (focus (simp [*, encR_zero] <;> fail)); (focus (simp [*, encR_zero] <;> fail)); simp [*, encR_zero])
              | (refine call_view (t2.out) ?_ ?_ ?_; (focus (simp [*, encR_zero] <;> fail)); (focus (simp [*, encR_zero] <;> fail)); simp [*, encR_zero])
              | (refine acall_same (t3.out) ?_ ?_ ?_; (focus (simp [*, encR_zero] <;> fail)); (focus (simp [*, encR_zero] <;> fail)); simp [*, encR_zero])
              | (refine call_same (t3.out) ?_ ?_ ?_; (focus (simp [*, encR_zero] <;> fail)); (focus (simp [*, encR_zero] <;> fail)); simp [*, encR_zero])
              | (refine acall_view (t3.out) ?_ ?_ ?_; (focus (simp [*, encR_zero] <;> fail)); (focus (simp [*, encR_zero] <;> fail)); simp [*, encR_zero])
              | (refine call_view (t3.out) ?_ ?_ ?_; (focus (simp [*, encR_zero] <;> fail)); (focus (simp [*, encR_zero] <;> fail)); simp [*, encR_zero])
              | (refine acall_same (s17 [] [] (by simp)) ?_ ?_ ?_; (focus (simp [*, encR_zero] <;> fail)); (focus (simp [*, encR_zero] <;> fail)); simp [*, encR_zero])
              | (refine call_same (s17 [] [] (by simp)) ?_ ?_ ?_; (focus (simp [*, encR_zero] <;> fail)); (focus (simp [*, encR_zero] <;> fail)); simp [*, encR_zero])
              | (refine acall_view (s17 [] [] (by simp)) ?_ ?_ ?_; (focus (simp [*, encR_zero] <;> fail)); (focus (simp [*, encR_zero] <;> fail)); simp [*, encR_zero])
              | (refine call_view (s17 [] [] (by simp)) ?_ ?_ ?_; (focus (simp [*, encR_zero] <;> fail)); (focus (simp [*, encR_zero] <;> fail)); simp [*, encR_zero])
              | with_reducible refine And.intro ?_ ?_
              | omega
              | (refine imp1 fun h => ?_))
            all_goals exact ⟨i + 1, by omega, by omega, by simp⟩
          · obtain ⟨g1, g2⟩ := lastR_get h0
            have g3 : 0 < O.length := List.length_pos_iff.2 h0
            have g4 : ((O.length : Int) - 1) = ((O.length - 1 : Nat) : Int) := by omega
            repeat' (first
              | with_reducible refine useK (by assumption) ?_
              | with_reducible refine useK2 (by assumption) ?_
              | with_reducible refine useX (by assumption) ?_
              | with_reducible refine AW_seqk fun K hK => ?_
              | (with_reducible refine AW_regionS rfl (by rw [hE]; decide) ?_; simp [*])
              | with_reducible refine AW_region (by rw [hE]; decide) ?_
              | ((with_reducible show RK _ _ _ _ _ _); refine RK_nilk ?_; simp [*])
              | ((with_reducible show RK _ _ _ _ _ _); refine RK_stepk fun K' hK' => ?_; simp [*])
              | with_reducible refine AW_drawq mixed (by rw [hE]; decide) (by simp [newOK]) ?_
              | ((with_reducible show RKQ _ _ _ _ _ _); refine RKQ_nilk ⟨by decide, ?_⟩)
              | ((with_reducible show RKQ _ _ _ _ _ _); refine RKQ_stepk fun K' hK' => ?_; simp [*])
              | (with_reducible refine AW_if fun X Y hX hY => ?_; simp [*])
              | with_reducible refine AW_block ?_
              | (with_reducible refine AW_ret ?_; simp [*])
              | (with_reducible refine AW_skip ?_; simp [*])
              | (with_reducible refine AW_exit ?_; simp [*])
              | (refine acall_same (t2.out) ?_ ?_ ?_; (focus (simp [*] <;> fail)); (focus (simp [*] <;> fail)); simp [*])
              | (refine call_same (t2.out) ?_ ?_ ?_; (focus (simp [*] <;> fail)); (focus (simp [*] <;> fail)); simp [*])
              | (refine acall_view (t2.out) ?_ ?_ ?_; (focus (simp [*] <;> fail)); (focus (simp [*] <;> fail)); simp [*])
              | (refine call_view (t2.out) ?_ ?_ ?_; (focus (simp [*] <;> fail)); (focus (simp [*] <;> fail)); simp [*])
              | (refine acall_same (t3.out) ?_ ?_ ?_; (focus (simp [*] <;> fail)); (focus (simp [*] <;> fail)); simp [*])
              | (refine call_same (t3.out) ?_ ?_ ?_; (focus (simp [*] <;> fail)); (focus (simp [*] <;> fail)); simp [*])
              | (refine acall_view (t3.out) ?_ ?_ ?_; (focus (simp [*] <;> fail)); (focus (simp [*] <;> fail)); simp [*])
              | (refine call_view (t3.out) ?_ ?_ ?_; (focus (simp [*] <;> fail)); (focus (simp [*] <;> fail)); simp [*])
              | (refine acall_same (s17 O O (by omega)) ?_ ?_ ?_; (focus (simp [*] <;> fail)); (focus (simp [*] <;> fail)); simp [*])
              | (refine call_same (s17 O O (by omega)) ?_ ?_ ?_; (focus (simp [*] <;> fail)); (focus (simp [*] <;> fail)); simp [*])
              | (refine acall_view (s17 O O (by omega)) ?_ ?_ ?_; (focus (simp [*] <;> fail)); (focus (simp [*] <;> fail)); simp [*])
              | (refine call_view (s17 O O (by omega)) ?_ ?_ ?_; (focus (simp [*] <;> fail)); (focus (simp [*] <;> fail)); simp [*])
              | with_reducible refine And.intro ?_ ?_
              | omega
              | (refine imp1 fun h => ?_))
            all_goals exact ⟨i + 1, by omega, by omega, by simp⟩
      · obtain rfl : i = A.length := by omega
        repeat' (first
          | with_reducible refine useK (by assumption) ?_
          | with_reducible refine useK2 (by assumption) ?_
          | with_reducible refine useX (by assumption) ?_
          | with_reducible refine AW_seqk fun K hK => ?_
          | (with_reducible refine AW_regionS rfl (by rw [hE]; decide) ?_; simp [*])
          | with_reducible refine AW_region (by rw [hE]; decide) ?_
          | ((with_reducible show RK _ _ _ _ _ _); refine RK_nilk ?_; simp [*])
          | ((with_reducible show RK _ _ _ _ _ _); refine RK_stepk fun K' hK' => ?_; simp [*])
          | with_reducible refine AW_drawq mixed (by rw [hE]; decide) (by simp [newOK]) ?_
          | ((with_reducible show RKQ _ _ _ _ _ _); refine RKQ_nilk ⟨by decide, ?_⟩)
          | ((with_reducible show RKQ _ _ _ _ _ _); refine RKQ_stepk fun K' hK' => ?_; simp [*])
          | (with_reducible refine AW_if fun X Y hX hY => ?_; simp [*])
          | with_reducible refine AW_block ?_
          | (with_reducible refine AW_ret ?_; simp [*])
          | (with_reducible refine AW_skip ?_; simp [*])
          | (with_reducible refine AW_exit ?_; simp [*])
          | with_reducible refine And.intro ?_ ?_
          | omega
          | (refine imp1 fun h => ?_))
  · refine PSpec_of Try.func10 rfl rfl (Nat.le_of_ble_eq_true rfl) (Nat.le_of_ble_eq_true rfl) ?_
    intro E hE
    repeat' (first
      | with_reducible refine useK (by assumption) ?_
      | with_reducible refine useK2 (by assumption) ?_
      | with_reducible refine useX (by assumption) ?_
      | with_reducible refine AW_seqk fun K hK => ?_
      | (with_reducible refine AW_regionS rfl (by rw [hE]; decide) ?_; simp [*])
      | with_reducible refine AW_region (by rw [hE]; decide) ?_
      | ((with_reducible show RK _ _ _ _ _ _); refine RK_nilk ?_; simp [*])
      | ((with_reducible show RK _ _ _ _ _ _); refine RK_stepk fun K' hK' => ?_; simp [*])
      | with_reducible refine AW_drawq mixed (by rw [hE]; decide) (by simp [newOK]) ?_
      | ((with_reducible show RKQ _ _ _ _ _ _); refine RKQ_nilk ⟨by decide, ?_⟩)
      | ((with_reducible show RKQ _ _ _ _ _ _); refine RKQ_stepk fun K' hK' => ?_; simp [*])
      | (with_reducible refine AW_if fun X Y hX hY => ?_; simp [*])
      | with_reducible refine AW_block ?_
      | (with_reducible refine AW_ret ?_; simp [*])
      | (with_reducible refine AW_skip ?_; simp [*])
      | (with_reducible refine AW_exit ?_; simp [*])
      | (refine acall_same (s14) ?_ ?_ ?_; (focus (simp [*] <;> fail)); (focus (simp [*] <;> fail)); simp [*])
      | (refine call_same (s14) ?_ ?_ ?_; (focus (simp [*] <;> fail)); (focus (simp [*] <;> fail)); simp [*])
      | (refine acall_view (s14) ?_ ?_ ?_; (focus (simp [*] <;> fail)); (focus (simp [*] <;> fail)); simp [*])
      | (refine call_view (s14) ?_ ?_ ?_; (focus (simp [*] <;> fail)); (focus (simp [*] <;> fail)); simp [*])
      | with_reducible refine And.intro ?_ ?_
      | omega
      | (refine imp1 fun h => ?_))
theorem spec (avs : List AV) (h : ShapeL Try.prog 6 Try.f10.params.toList avs) : PSpec Try.prog 10 avs (.v (.bool true)) := by
  rw [Try.params10] at h
  obtain ⟨c1, r1, rfl, h1, c2, r2, rfl, h2, rfl⟩ := h
  obtain ⟨a, ha, -⟩ := avRs h1
  obtain ⟨b, hb, -⟩ := avI h2
  rw [ha, hb]
  exact s a b
theorem contract (H : Type) (enc : TypeId × Value → H) (W : World) (base : Nat) (args : Array Value) (ds gs : List (DataW H)) (before : List MemPlace)
    (hval : ∀ (j : Nat) t v, Try.f10.params[j]? = some t → args[j]? = some v → Value.okWide Try.prog W .any base t v)
    (hW : DataW.Whole enc Try.prog Try.f10.params.toList Rows.reportObjectsSpec.vars false W args.toList ds gs before) :
    Calls Try.prog 10 args W fun e W' => ∃ v, e = .returned v ∧ Rows.reportObjectsSpec.post enc Try.prog Try.f10 false true false false W args v W' :=
  law_contract (m := 6) (tb := 4) spec (by rw [Try.params10]; intro t ht; simp at ht; rcases ht with rfl | rfl <;> kernel_rfl) rfl laidK
    (by rw [Try.params10]; intro t ht; simp at ht; rcases ht with rfl | rfl <;> exact ⟨by kernel_rfl, by decide +kernel⟩)
    (fun ds hd => by
      rw [Try.params10] at hd
      match ds, hd with
      | [d1, d2], _ => rfl) (by kernel_rfl) Try.underlying4 hval hW
theorem lifted (os : Os) (started : os.Started) (H : Type) (enc : TypeId × Value → H) :
    ReturnsInHanded {} Try.checked os 10 .any (Rows.reportObjectsSpec.pre6 enc Try.prog Try.f10 Rows.reportObjectsRow.domain false) (Rows.reportObjectsSpec.post enc Try.prog Try.f10 false true false false) := by
  refine returnsInHanded_of_change (C := Try.checked) ownK started (by kernel_rfl) Try.func10
    (ChangeSpec.witness6 (enc := enc) (C := Try.checked) false ⟨#[], #[.slice .none 0 0, .int .i64 0], []⟩ 8 (by kernel_rfl) (by kernel_rfl) (by kernel_rfl) (by kernel_rfl)) ?_
  intro W base args ds gs before hval hW hcnd _
  exact contract H enc W base args ds gs before hval hW
theorem said : Rows.ReportObjectsSaid :=
  OpenClaim.holds_of_wide 10 Try.f10 rfl rfl rfl rfl rfl rfl rfl ⟨rfl, rfl, rfl, rfl, rfl⟩ rfl rfl rfl rfl rfl (by kernel_rfl) Try.func10 (by kernel_rfl)
    (of_decide_eq_true (by kernel_rfl)) (by unfold Func.isWrapper; first | (rw [if_pos (by decide +kernel)]; kernel_rfl) | (rw [if_neg (by decide +kernel)]; exact ⟨rfl, rfl⟩))
    (fun os started H enc _ => lifted os started H enc)
end L10
end Go.Proofs.Ytmjckbokjjnmeaa
