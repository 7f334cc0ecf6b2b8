/- ReportAdds: for any list of reports and any report the law hands back true. Conditions: none. -/
import Derived.Test.YtmjckbokjjnmeaaZ5
set_option maxRecDepth 100000
set_option linter.unusedSimpArgs false
set_option linter.unusedVariables false
namespace Go.Proofs.Ytmjckbokjjnmeaa
open Go.Am Go.RowKit Go.ChangeShapes Go.WideShapes Go.ChangeAt

namespace L7
set_option maxHeartbeats 4000000 in
theorem s (l : List R) (r : R) : PSpec Try.prog 7 [.sl 8 (l.map encR), encR r] (bA true) := by
  by_cases h1 : l.length ≤ 20
  · obtain ⟨A, hA⟩ : ∃ A, A = l ++ [r] := ⟨_, rfl⟩
    have hAl : A.length ≤ 21 := by rw [hA, List.length_append]; simp; omega
    have hadd : ∀ x : R, ¬ (x.o = r.o ∧ x.s = r.s) → (x ∈ cntR A ↔ x ∈ cntR l) := by intro x hx; rw [hA]; exact cntR_add hx
    have e1 := cntR_len l
    have e2 := cntR_len A
    have c1 := cntR_cntR l
    have c2 := cntR_cntR A
    obtain ⟨B, hB⟩ : ∃ B, B = cntR l ++ cntR A := ⟨_, rfl⟩
    have hBl : B.length ≤ 41 := by rw [hB, List.length_append]; omega
    have e3 := setR_len B
    replace hA := Hld.mk hA
    replace hB := Hld.mk hB
    replace c1 := Hld.mk c1
    replace c2 := Hld.mk c2
    replace hadd := Hld.mk hadd
    have t1 : PSpec Try.prog 18 [.sl 8 ((cntR l).map encR)] (.sl 8 ((cntR l).map encR)) := by have := s18 (cntR l) (by omega); rw [c1.out] at this; exact this
    have t2 : PSpec Try.prog 18 [.sl 8 ((cntR A).map encR)] (.sl 8 ((cntR A).map encR)) := by have := s18 (cntR A) (by omega); rw [c2.out] at this; exact this
    replace t1 := Hld.mk t1
    replace t2 := Hld.mk t2
    refine PSpec_of Try.func7 rfl rfl (Nat.le_of_ble_eq_true rfl) (Nat.le_of_ble_eq_true rfl) ?_
    intro E hE
    refine AW_seqk fun K hK => ?_
    refine AW_region (by rw [hE]; decide) ?_
    simp
    refine useK (by assumption) ?_
    clear hK
    refine AW_seqt ⟨[(0, .sl 8 (l.map encR)), (3, .loc 3 0)], [(3, .box 23 (encR r))]⟩ ?_ ?_
    rotate_left
    · intro K hK
      repeat' (first
        | with_reducible refine useK (by assumption) ?_
        | with_reducible refine useK2 (by assumption) ?_
        | with_reducible refine useX (by assumption) ?_
        | with_reducible refine AW_seqk fun K hK => ?_
        | (with_reducible refine AW_regionS rfl (by rw [hE]; decide) ?_; simp [*])
        | with_reducible refine AW_region (by rw [hE]; decide) ?_
        | ((with_reducible show RK _ _ _ _ _ _); refine RK_nilk ?_; simp [*])
        | ((with_reducible show RK _ _ _ _ _ _); refine RK_stepk fun K' hK' => ?_; simp [*])
        | with_reducible refine AW_drawq mixed (by rw [hE]; decide) (by simp [newOK]) ?_
        | ((with_reducible show RKQ _ _ _ _ _ _); refine RKQ_nilk ⟨by decide, ?_⟩)
        | ((with_reducible show RKQ _ _ _ _ _ _); refine RKQ_stepk fun K' hK' => ?_; simp [*])
        | (with_reducible refine AW_if fun X Y hX hY => ?_; simp [*])
        | with_reducible refine AW_block ?_
        | (with_reducible refine AW_ret ?_; simp [*])
        | (with_reducible refine AW_skip ?_; simp [*])
        | (with_reducible refine AW_exit ?_; simp [*])
        | (refine acall_same (s14) ?_ ?_ ?_; (focus (simp [*] <;> fail)); (focus (simp [*] <;> fail)); simp [*])
        | (refine call_same (s14) ?_ ?_ ?_; (focus (simp [*] <;> fail)); (focus (simp [*] <;> fail)); simp [*])
        | (refine acall_view (s14) ?_ ?_ ?_; (focus (simp [*] <;> fail)); (focus (simp [*] <;> fail)); simp [*])
        | (refine call_view (s14) ?_ ?_ ?_; (focus (simp [*] <;> fail)); (focus (simp [*] <;> fail)); simp [*])
        | with_reducible refine And.intro ?_ ?_
        | omega
        | (refine imp1 fun h => ?_))
      all_goals simp
    by_cases hne : cntR A = []
    · have t3 : PSpec Try.prog 18 [.sl 8 (A.map encR)] (.sl 8 []) := by have := s18 A (by omega); rw [hne] at this; exact this
      replace t3 := Hld.mk t3
      refine AW_seqt ⟨[(5, .sl 8 ((cntR l).map encR)), (6, .sl 8 ((cntR A).map encR)), (3, .loc 3 0)], [(3, .box 23 (encR r))]⟩ ?_ ?_
      rotate_left
      · intro K hK
        repeat' (first
          | with_reducible refine useK (by assumption) ?_
          | with_reducible refine useK2 (by assumption) ?_
          | with_reducible refine useX (by assumption) ?_
          | with_reducible refine AW_seqk fun K hK => ?_
          | (with_reducible refine AW_regionS rfl (by rw [hE]; decide) ?_; simp [*])
          | with_reducible refine AW_region (by rw [hE]; decide) ?_
          | ((with_reducible show RK _ _ _ _ _ _); refine RK_nilk ?_; simp [*])
          | ((with_reducible show RK _ _ _ _ _ _); refine RK_stepk fun K' hK' => ?_; simp [*])
          | with_reducible refine AW_drawq mixed (by rw [hE]; decide) (by simp [newOK]) ?_
          | ((with_reducible show RKQ _ _ _ _ _ _); refine RKQ_nilk ⟨by decide, ?_⟩)
          | ((with_reducible show RKQ _ _ _ _ _ _); refine RKQ_stepk fun K' hK' => ?_; simp [*])
          | (with_reducible refine AW_if fun X Y hX hY => ?_; simp [*])
          | with_reducible refine AW_block ?_
          | (with_reducible refine AW_ret ?_; simp [*])
          | (with_reducible refine AW_skip ?_; simp [*])
          | (with_reducible refine AW_exit ?_; simp [*])
          | (refine acall_same (s18 l (by omega)) ?_ ?_ ?_; (focus (simp [*] <;> fail)); (focus (simp [*] <;> fail)); simp [*])
          | (refine call_same (s18 l (by omega)) ?_ ?_ ?_; (focus (simp [*] <;> fail)); (focus (simp [*] <;> fail)); simp [*])
          | (refine acall_view (s18 l (by omega)) ?_ ?_ ?_; (focus (simp [*] <;> fail)); (focus (simp [*] <;> fail)); simp [*])
          | (refine call_view (s18 l (by omega)) ?_ ?_ ?_; (focus (simp [*] <;> fail)); (focus (simp [*] <;> fail)); simp [*])
          | (refine call_new (n19s l r A hA.out (by omega)) ?_ (fun _ _ _ _ _ _ h => CtRep.arr_flat h ?_) ?_; (focus (simp [*] <;> fail)); (focus (simp [*] <;> fail)); simp [*])
          | (refine acall_same (t3.out) ?_ ?_ ?_; (focus (simp [*] <;> fail)); (focus (simp [*] <;> fail)); simp [*])
          | (refine call_same (t3.out) ?_ ?_ ?_; (focus (simp [*] <;> fail)); (focus (simp [*] <;> fail)); simp [*])
          | (refine acall_view (t3.out) ?_ ?_ ?_; (focus (simp [*] <;> fail)); (focus (simp [*] <;> fail)); simp [*])
          | (refine call_view (t3.out) ?_ ?_ ?_; (focus (simp [*] <;> fail)); (focus (simp [*] <;> fail)); simp [*])
          | with_reducible refine And.intro ?_ ?_
          | omega
          | (refine imp1 fun h => ?_))
        all_goals simp [hne]
      replace hne := Hld.mk hne
      repeat' (first
        | with_reducible refine useK (by assumption) ?_
        | with_reducible refine useK2 (by assumption) ?_
        | with_reducible refine useX (by assumption) ?_
        | with_reducible refine AW_seqk fun K hK => ?_
        | (with_reducible refine AW_regionS rfl (by rw [hE]; decide) ?_; simp [*])
        | with_reducible refine AW_region (by rw [hE]; decide) ?_
        | ((with_reducible show RK _ _ _ _ _ _); refine RK_nilk ?_; simp [*])
        | ((with_reducible show RK _ _ _ _ _ _); refine RK_stepk fun K' hK' => ?_; simp [*])
        | with_reducible refine AW_drawq mixed (by rw [hE]; decide) (by simp [newOK]) ?_
        | ((with_reducible show RKQ _ _ _ _ _ _); refine RKQ_nilk ⟨by decide, ?_⟩)
        | ((with_reducible show RKQ _ _ _ _ _ _); refine RKQ_stepk fun K' hK' => ?_; simp [*])
        | (with_reducible refine AW_if fun X Y hX hY => ?_; simp [*])
        | with_reducible refine AW_block ?_
        | (with_reducible refine AW_ret ?_; simp [*])
        | (with_reducible refine AW_skip ?_; simp [*])
        | (with_reducible refine AW_exit ?_; simp [*])
        | (refine acall_same (s27 (cntR l) (cntR A) B hB.out (by omega)) ?_ ?_ ?_; (focus (simp [*] <;> fail)); (focus (simp [*] <;> fail)); simp [*])
        | (refine call_same (s27 (cntR l) (cntR A) B hB.out (by omega)) ?_ ?_ ?_; (focus (simp [*] <;> fail)); (focus (simp [*] <;> fail)); simp [*])
        | (refine acall_view (s27 (cntR l) (cntR A) B hB.out (by omega)) ?_ ?_ ?_; (focus (simp [*] <;> fail)); (focus (simp [*] <;> fail)); simp [*])
        | (refine call_view (s27 (cntR l) (cntR A) B hB.out (by omega)) ?_ ?_ ?_; (focus (simp [*] <;> fail)); (focus (simp [*] <;> fail)); simp [*])
        | with_reducible refine And.intro ?_ ?_
        | omega
        | (refine imp1 fun h => ?_))
      refine AW_loopk (G := Nat) (fun i => ⟨[(8, iA i), (7, .sl 8 ((setR B).map encR)), (6, .sl 8 ((cntR A).map encR)), (5, .sl 8 ((cntR l).map encR)), (3, .loc 3 0)], [(3, .box 23 (encR r))]⟩)
        (fun i => i ≤ (setR B).length) (fun i => (setR B).length - i) 0 (by simp) (by simp) ?_
      intro i hi K hK
      by_cases hlt : i < (setR B).length
      · obtain ⟨x, hx⟩ : ∃ x, x = (setR B)[i] := ⟨_, rfl⟩
        have g := hadd.out (setR B)[i]
        clear hadd
        by_cases g1 : (setR B)[i].o = r.o
        · by_cases g2 : (setR B)[i].s = r.s
          · clear g
            repeat' (first
              | with_reducible refine useK (by assumption) ?_
              | with_reducible refine useK2 (by assumption) ?_
              | with_reducible refine useX (by assumption) ?_
              | with_reducible refine AW_seqk fun K hK => ?_
              | (with_reducible refine AW_regionS rfl (by rw [hE]; decide) ?_; simp [*])
              | with_reducible refine AW_region (by rw [hE]; decide) ?_
              | ((with_reducible show RK _ _ _ _ _ _); refine RK_nilk ?_; simp [*])
              | ((with_reducible show RK _ _ _ _ _ _); refine RK_stepk fun K' hK' => ?_; simp [*])
              | with_reducible refine AW_drawq mixed (by rw [hE]; decide) (by simp [newOK]) ?_
              | ((with_reducible show RKQ _ _ _ _ _ _); refine RKQ_nilk ⟨by decide, ?_⟩)
              | ((with_reducible show RKQ _ _ _ _ _ _); refine RKQ_stepk fun K' hK' => ?_; simp [*])
              | (with_reducible refine AW_if fun X Y hX hY => ?_; simp [*])
              | with_reducible refine AW_block ?_
              | (with_reducible refine AW_ret ?_; simp [*])
              | (with_reducible refine AW_skip ?_; simp [*])
              | (with_reducible refine AW_exit ?_; simp [*])
              | (refine acall_same (s28 (cntR l) (setR B)[i] (by omega)) ?_ ?_ ?_; (focus (simp [*] <;> fail)); (focus (simp [*] <;> fail)); simp [*])
              | (refine call_same (s28 (cntR l) (setR B)[i] (by omega)) ?_ ?_ ?_; (focus (simp [*] <;> fail)); (focus (simp [*] <;> fail)); simp [*])
              | (refine acall_view (s28 (cntR l) (setR B)[i] (by omega)) ?_ ?_ ?_; (focus (simp [*] <;> fail)); (focus (simp [*] <;> fail)); simp [*])
              | (refine call_view (s28 (cntR l) (setR B)[i] (by omega)) ?_ ?_ ?_; (focus (simp [*] <;> fail)); (focus (simp [*] <;> fail)); simp [*])
              | (refine acall_same (s28 (cntR A) (setR B)[i] (by omega)) ?_ ?_ ?_; (focus (simp [*] <;> fail)); (focus (simp [*] <;> fail)); simp [*])
              | (refine call_same (s28 (cntR A) (setR B)[i] (by omega)) ?_ ?_ ?_; (focus (simp [*] <;> fail)); (focus (simp [*] <;> fail)); simp [*])
              | (refine acall_view (s28 (cntR A) (setR B)[i] (by omega)) ?_ ?_ ?_; (focus (simp [*] <;> fail)); (focus (simp [*] <;> fail)); simp [*])
              | (refine call_view (s28 (cntR A) (setR B)[i] (by omega)) ?_ ?_ ?_; (focus (simp [*] <;> fail)); (focus (simp [*] <;> fail)); simp [*])
              | with_reducible refine And.intro ?_ ?_
              | omega
              | (refine imp1 fun h => ?_))
            all_goals exact ⟨i + 1, by omega, by omega, by simp⟩
          · have g := g (by simp [g2])
            replace g := Hld.mk g
            by_cases g3 : (setR B)[i] ∈ cntR l
            · have g4 := g.out.2 g3
              repeat' (first
                | with_reducible refine useK (by assumption) ?_
                | with_reducible refine useK2 (by assumption) ?_
                | with_reducible refine useX (by assumption) ?_
                | with_reducible refine AW_seqk fun K hK => ?_
                | (with_reducible refine AW_regionS rfl (by rw [hE]; decide) ?_; simp [*])
                | with_reducible refine AW_region (by rw [hE]; decide) ?_
                | ((with_reducible show RK _ _ _ _ _ _); refine RK_nilk ?_; simp [*])
                | ((with_reducible show RK _ _ _ _ _ _); refine RK_stepk fun K' hK' => ?_; simp [*])
                | with_reducible refine AW_drawq mixed (by rw [hE]; decide) (by simp [newOK]) ?_
                | ((with_reducible show RKQ _ _ _ _ _ _); refine RKQ_nilk ⟨by decide, ?_⟩)
                | ((with_reducible show RKQ _ _ _ _ _ _); refine RKQ_stepk fun K' hK' => ?_; simp [*])
                | (with_reducible refine AW_if fun X Y hX hY => ?_; simp [*])
                | with_reducible refine AW_block ?_
                | (with_reducible refine AW_ret ?_; simp [*])
                | (with_reducible refine AW_skip ?_; simp [*])
                | (with_reducible refine AW_exit ?_; simp [*])
                | (refine acall_same (s28 (cntR l) (setR B)[i] (by omega)) ?_ ?_ ?_; (focus (simp [*] <;> fail)); (focus (simp [*] <;> fail)); simp [*])
                | (refine call_same (s28 (cntR l) (setR B)[i] (by omega)) ?_ ?_ ?_; (focus (simp [*] <;> fail)); (focus (simp [*] <;> fail)); simp [*])
                | (refine acall_view (s28 (cntR l) (setR B)[i] (by omega)) ?_ ?_ ?_; (focus (simp [*] <;> fail)); (focus (simp [*] <;> fail)); simp [*])
                | (refine call_view (s28 (cntR l) (setR B)[i] (by omega)) ?_ ?_ ?_; (focus (simp [*] <;> fail)); (focus (simp [*] <;> fail)); simp [*])
                | (refine acall_same (s28 (cntR A) (setR B)[i] (by omega)) ?_ ?_ ?_; (focus (simp [*] <;> fail)); (focus (simp [*] <;> fail)); simp [*])
                | (refine call_same (s28 (cntR A) (setR B)[i] (by omega)) ?_ ?_ ?_; (focus (simp [*] <;> fail)); (focus (simp [*] <;> fail)); simp [*])
                | (refine acall_view (s28 (cntR A) (setR B)[i] (by omega)) ?_ ?_ ?_; (focus (simp [*] <;> fail)); (focus (simp [*] <;> fail)); simp [*])
                | (refine call_view (s28 (cntR A) (setR B)[i] (by omega)) ?_ ?_ ?_; (focus (simp [*] <;> fail)); (focus (simp [*] <;> fail)); simp [*])
                | with_reducible refine And.intro ?_ ?_
                | omega
                | (refine imp1 fun h => ?_))
              all_goals exact ⟨i + 1, by omega, by omega, by simp⟩
            · have g4 : (setR B)[i] ∉ cntR A := fun h => g3 (g.out.1 h)
              repeat' (first
                | with_reducible refine useK (by assumption) ?_
                | with_reducible refine useK2 (by assumption) ?_
                | with_reducible refine useX (by assumption) ?_
                | with_reducible refine AW_seqk fun K hK => ?_
                | (with_reducible refine AW_regionS rfl (by rw [hE]; decide) ?_; simp [*])
                | with_reducible refine AW_region (by rw [hE]; decide) ?_
                | ((with_reducible show RK _ _ _ _ _ _); refine RK_nilk ?_; simp [*])
                | ((with_reducible show RK _ _ _ _ _ _); refine RK_stepk fun K' hK' => ?_; simp [*])
                | with_reducible refine AW_drawq mixed (by rw [hE]; decide) (by simp [newOK]) ?_
                | ((with_reducible show RKQ _ _ _ _ _ _); refine RKQ_nilk ⟨by decide, ?_⟩)
                | ((with_reducible show RKQ _ _ _ _ _ _); refine RKQ_stepk fun K' hK' => ?_; simp [*])
                | (with_reducible refine AW_if fun X Y hX hY => ?_; simp [*])
                | with_reducible refine AW_block ?_
                | (with_reducible refine AW_ret ?_; simp [*])
                | (with_reducible refine AW_skip ?_; simp [*])
                | (with_reducible refine AW_exit ?_; simp [*])
                | (refine acall_same (s28 (cntR l) (setR B)[i] (by omega)) ?_ ?_ ?_; (focus (simp [*] <;> fail)); (focus (simp [*] <;> fail)); simp [*])
                | (refine call_same (s28 (cntR l) (setR B)[i] (by omega)) ?_ ?_ ?_; (focus (simp [*] <;> fail)); (focus (simp [*] <;> fail)); simp [*])
                | (refine acall_view (s28 (cntR l) (setR B)[i] (by omega)) ?_ ?_ ?_; (focus (simp [*] <;> fail)); (focus (simp [*] <;> fail)); simp [*])
                | (refine call_view (s28 (cntR l) (setR B)[i] (by omega)) ?_ ?_ ?_; (focus (simp [*] <;> fail)); (focus (simp [*] <;> fail)); simp [*])
                | (refine acall_same (s28 (cntR A) (setR B)[i] (by omega)) ?_ ?_ ?_; (focus (simp [*] <;> fail)); (focus (simp [*] <;> fail)); simp [*])
                | (refine call_same (s28 (cntR A) (setR B)[i] (by omega)) ?_ ?_ ?_; (focus (simp [*] <;> fail)); (focus (simp [*] <;> fail)); simp [*])
                | (refine acall_view (s28 (cntR A) (setR B)[i] (by omega)) ?_ ?_ ?_; (focus (simp [*] <;> fail)); (focus (simp [*] <;> fail)); simp [*])
                | (refine call_view (s28 (cntR A) (setR B)[i] (by omega)) ?_ ?_ ?_; (focus (simp [*] <;> fail)); (focus (simp [*] <;> fail)); simp [*])
                | with_reducible refine And.intro ?_ ?_
                | omega
                | (refine imp1 fun h => ?_))
              all_goals exact ⟨i + 1, by omega, by omega, by simp⟩
        · have g := g (by simp [g1])
          replace g := Hld.mk g
          by_cases g3 : (setR B)[i] ∈ cntR l
          · have g4 := g.out.2 g3
            repeat' (first
              | with_reducible refine useK (by assumption) ?_
              | with_reducible refine useK2 (by assumption) ?_
              | with_reducible refine useX (by assumption) ?_
              | with_reducible refine AW_seqk fun K hK => ?_
              | (with_reducible refine AW_regionS rfl (by rw [hE]; decide) ?_; simp [*])
              | with_reducible refine AW_region (by rw [hE]; decide) ?_
              | ((with_reducible show RK _ _ _ _ _ _); refine RK_nilk ?_; simp [*])
              | ((with_reducible show RK _ _ _ _ _ _); refine RK_stepk fun K' hK' => ?_; simp [*])
              | with_reducible refine AW_drawq mixed (by rw [hE]; decide) (by simp [newOK]) ?_
              | ((with_reducible show RKQ _ _ _ _ _ _); refine RKQ_nilk ⟨by decide, ?_⟩)
              | ((with_reducible show RKQ _ _ _ _ _ _); refine RKQ_stepk fun K' hK' => ?_; simp [*])
              | (with_reducible refine AW_if fun X Y hX hY => ?_; simp [*])
              | with_reducible refine AW_block ?_
              | (with_reducible refine AW_ret ?_; simp [*])
              | (with_reducible refine AW_skip ?_; simp [*])
              | (with_reducible refine AW_exit ?_; simp [*])
              | (refine acall_same (s28 (cntR l) (setR B)[i] (by omega)) ?_ ?_ ?_; (focus (simp [*] <;> fail)); (focus (simp [*] <;> fail)); simp [*])
              | (refine call_same (s28 (cntR l) (setR B)[i] (by omega)) ?_ ?_ ?_; (focus (simp [*] <;> fail)); (focus (simp [*] <;> fail)); simp [*])
              | (refine acall_view (s28 (cntR l) (setR B)[i] (by omega)) ?_ ?_ ?_; (focus (simp [*] <;> fail)); (focus (simp [*] <;> fail)); simp [*])
              | (refine call_view (s28 (cntR l) (setR B)[i] (by omega)) ?_ ?_ ?_; (focus (simp [*] <;> fail)); (focus (simp [*] <;> fail)); simp [*])
              | (refine acall_same (s28 (cntR A) (setR B)[i] (by omega)) ?_ ?_ ?_; (focus (simp [*] <;> fail)); (focus (simp [*] <;> fail)); simp [*])
              | (refine call_same (s28 (cntR A) (setR B)[i] (by omega)) ?_ ?_ ?_; (focus (simp [*] <;> fail)); (focus (simp [*] <;> fail)); simp [*])
              | (refine acall_view (s28 (cntR A) (setR B)[i] (by omega)) ?_ ?_ ?_; (focus (simp [*] <;> fail)); (focus (simp [*] <;> fail)); simp [*])
              | (refine call_view (s28 (cntR A) (setR B)[i] (by omega)) ?_ ?_ ?_; (focus (simp [*] <;> fail)); (focus (simp [*] <;> fail)); simp [*])
              | with_reducible refine And.intro ?_ ?_
              | omega
              | (refine imp1 fun h => ?_))
            all_goals exact ⟨i + 1, by omega, by omega, by simp⟩
          · have g4 : (setR B)[i] ∉ cntR A := fun h => g3 (g.out.1 h)
            repeat' (first
              | with_reducible refine useK (by assumption) ?_
              | with_reducible refine useK2 (by assumption) ?_
              | with_reducible refine useX (by assumption) ?_
              | with_reducible refine AW_seqk fun K hK => ?_
              | (with_reducible refine AW_regionS rfl (by rw [hE]; decide) ?_; simp [*])
              | with_reducible refine AW_region (by rw [hE]; decide) ?_
              | ((with_reducible show RK _ _ _ _ _ _); refine RK_nilk ?_; simp [*])
              | ((with_reducible show RK _ _ _ _ _ _); refine RK_stepk fun K' hK' => ?_; simp [*])
              | with_reducible refine AW_drawq mixed (by rw [hE]; decide) (by simp [newOK]) ?_
              | ((with_reducible show RKQ _ _ _ _ _ _); refine RKQ_nilk ⟨by decide, ?_⟩)
              | ((with_reducible show RKQ _ _ _ _ _ _); refine RKQ_stepk fun K' hK' => ?_; simp [*])
              | (with_reducible refine AW_if fun X Y hX hY => ?_; simp [*])
              | with_reducible refine AW_block ?_
              | (with_reducible refine AW_ret ?_; simp [*])
              | (with_reducible refine AW_skip ?_; simp [*])
              | (with_reducible refine AW_exit ?_; simp [*])
              | (refine acall_same (s28 (cntR l) (setR B)[i] (by omega)) ?_ ?_ ?_; (focus (simp [*] <;> fail)); (focus (simp [*] <;> fail)); simp [*])
              | (refine call_same (s28 (cntR l) (setR B)[i] (by omega)) ?_ ?_ ?_; (focus (simp [*] <;> fail)); (focus (simp [*] <;> fail)); simp [*])
              | (refine acall_view (s28 (cntR l) (setR B)[i] (by omega)) ?_ ?_ ?_; (focus (simp [*] <;> fail)); (focus (simp [*] <;> fail)); simp [*])
              | (refine call_view (s28 (cntR l) (setR B)[i] (by omega)) ?_ ?_ ?_; (focus (simp [*] <;> fail)); (focus (simp [*] <;> fail)); simp [*])
              | (refine acall_same (s28 (cntR A) (setR B)[i] (by omega)) ?_ ?_ ?_; (focus (simp [*] <;> fail)); (focus (simp [*] <;> fail)); simp [*])
              | (refine call_same (s28 (cntR A) (setR B)[i] (by omega)) ?_ ?_ ?_; (focus (simp [*] <;> fail)); (focus (simp [*] <;> fail)); simp [*])
              | (refine acall_view (s28 (cntR A) (setR B)[i] (by omega)) ?_ ?_ ?_; (focus (simp [*] <;> fail)); (focus (simp [*] <;> fail)); simp [*])
              | (refine call_view (s28 (cntR A) (setR B)[i] (by omega)) ?_ ?_ ?_; (focus (simp [*] <;> fail)); (focus (simp [*] <;> fail)); simp [*])
              | with_reducible refine And.intro ?_ ?_
              | omega
              | (refine imp1 fun h => ?_))
            all_goals exact ⟨i + 1, by omega, by omega, by simp⟩
      · obtain rfl : i = (setR B).length := by omega
        repeat' (first
          | with_reducible refine useK (by assumption) ?_
          | with_reducible refine useK2 (by assumption) ?_
          | with_reducible refine useX (by assumption) ?_
          | with_reducible refine AW_seqk fun K hK => ?_
          | (with_reducible refine AW_regionS rfl (by rw [hE]; decide) ?_; simp [*])
          | with_reducible refine AW_region (by rw [hE]; decide) ?_
          | ((with_reducible show RK _ _ _ _ _ _); refine RK_nilk ?_; simp [*])
          | ((with_reducible show RK _ _ _ _ _ _); refine RK_stepk fun K' hK' => ?_; simp [*])
          | with_reducible refine AW_drawq mixed (by rw [hE]; decide) (by simp [newOK]) ?_
          | ((with_reducible show RKQ _ _ _ _ _ _); refine RKQ_nilk ⟨by decide, ?_⟩)
          | ((with_reducible show RKQ _ _ _ _ _ _); refine RKQ_stepk fun K' hK' => ?_; simp [*])
          | (with_reducible refine AW_if fun X Y hX hY => ?_; simp [*])
          | with_reducible refine AW_block ?_
          | (with_reducible refine AW_ret ?_; simp [*])
          | (with_reducible refine AW_skip ?_; simp [*])
          | (with_reducible refine AW_exit ?_; simp [*])
          | (refine acall_same (t1.out) ?_ ?_ ?_; (focus (simp [*] <;> fail)); (focus (simp [*] <;> fail)); simp [*])
          | (refine call_same (t1.out) ?_ ?_ ?_; (focus (simp [*] <;> fail)); (focus (simp [*] <;> fail)); simp [*])
          | (refine acall_view (t1.out) ?_ ?_ ?_; (focus (simp [*] <;> fail)); (focus (simp [*] <;> fail)); simp [*])
          | (refine call_view (t1.out) ?_ ?_ ?_; (focus (simp [*] <;> fail)); (focus (simp [*] <;> fail)); simp [*])
          | (refine acall_same (t2.out) ?_ ?_ ?_; (focus (simp [*] <;> fail)); (focus (simp [*] <;> fail)); simp [*])
          | (refine call_same (t2.out) ?_ ?_ ?_; (focus (simp [*] <;> fail)); (focus (simp [*] <;> fail)); simp [*])
          | (refine acall_view (t2.out) ?_ ?_ ?_; (focus (simp [*] <;> fail)); (focus (simp [*] <;> fail)); simp [*])
          | (refine call_view (t2.out) ?_ ?_ ?_; (focus (simp [*] <;> fail)); (focus (simp [*] <;> fail)); simp [*])
          | (refine acall_same (s17 (cntR l) (cntR l) (by omega)) ?_ ?_ ?_; (focus (simp [*] <;> fail)); (focus (simp [*] <;> fail)); simp [*])
          | (refine call_same (s17 (cntR l) (cntR l) (by omega)) ?_ ?_ ?_; (focus (simp [*] <;> fail)); (focus (simp [*] <;> fail)); simp [*])
          | (refine acall_view (s17 (cntR l) (cntR l) (by omega)) ?_ ?_ ?_; (focus (simp [*] <;> fail)); (focus (simp [*] <;> fail)); simp [*])
          | (refine call_view (s17 (cntR l) (cntR l) (by omega)) ?_ ?_ ?_; (focus (simp [*] <;> fail)); (focus (simp [*] <;> fail)); simp [*])
          | (refine acall_same (s17 (cntR A) (cntR A) (by omega)) ?_ ?_ ?_; (focus (simp [*] <;> fail)); (focus (simp [*] <;> fail)); simp [*])
          | (refine call_same (s17 (cntR A) (cntR A) (by omega)) ?_ ?_ ?_; (focus (simp [*] <;> fail)); (focus (simp [*] <;> fail)); simp [*])
          | (refine acall_view (s17 (cntR A) (cntR A) (by omega)) ?_ ?_ ?_; (focus (simp [*] <;> fail)); (focus (simp [*] <;> fail)); simp [*])
          | (refine call_view (s17 (cntR A) (cntR A) (by omega)) ?_ ?_ ?_; (focus (simp [*] <;> fail)); (focus (simp [*] <;> fail)); simp [*])
          | with_reducible refine And.intro ?_ ?_
          | omega
          | (refine imp1 fun h => ?_))
    · have t3 : NSpec Try.prog 18 [.sl 8 (A.map encR)] (fun t => .own t 8 0 (cntR A).length) (.arr 23 8 ((cntR A).map encR)) := by
        have h := (r18' A (by omega)).toN (by simpa using hne) (by simp)
        rw [List.length_map] at h
        exact h
      replace t3 := Hld.mk t3
      refine AW_seqt ⟨[(5, .sl 8 ((cntR l).map encR)), (6, .own 23 8 0 (cntR A).length), (3, .loc 3 0)], [(23, .arr 23 8 ((cntR A).map encR)), (3, .box 23 (encR r))]⟩ ?_ ?_
      rotate_left
      · intro K hK
        repeat' (first
          | with_reducible refine useK (by assumption) ?_
          | with_reducible refine useK2 (by assumption) ?_
          | with_reducible refine useX (by assumption) ?_
          | with_reducible refine AW_seqk fun K hK => ?_
          | (with_reducible refine AW_regionS rfl (by rw [hE]; decide) ?_; simp [*])
          | with_reducible refine AW_region (by rw [hE]; decide) ?_
          | ((with_reducible show RK _ _ _ _ _ _); refine RK_nilk ?_; simp [*])
          | ((with_reducible show RK _ _ _ _ _ _); refine RK_stepk fun K' hK' => ?_; simp [*])
          | with_reducible refine AW_drawq mixed (by rw [hE]; decide) (by simp [newOK]) ?_
          | ((with_reducible show RKQ _ _ _ _ _ _); refine RKQ_nilk ⟨by decide, ?_⟩)
          | ((with_reducible show RKQ _ _ _ _ _ _); refine RKQ_stepk fun K' hK' => ?_; simp [*])
          | (with_reducible refine AW_if fun X Y hX hY => ?_; simp [*])
          | with_reducible refine AW_block ?_
          | (with_reducible refine AW_ret ?_; simp [*])
          | (with_reducible refine AW_skip ?_; simp [*])
          | (with_reducible refine AW_exit ?_; simp [*])
          | (refine acall_same (s18 l (by omega)) ?_ ?_ ?_; (focus (simp [*] <;> fail)); (focus (simp [*] <;> fail)); simp [*])
          | (refine call_same (s18 l (by omega)) ?_ ?_ ?_; (focus (simp [*] <;> fail)); (focus (simp [*] <;> fail)); simp [*])
          | (refine acall_view (s18 l (by omega)) ?_ ?_ ?_; (focus (simp [*] <;> fail)); (focus (simp [*] <;> fail)); simp [*])
          | (refine call_view (s18 l (by omega)) ?_ ?_ ?_; (focus (simp [*] <;> fail)); (focus (simp [*] <;> fail)); simp [*])
          | (refine call_new (n19s l r A hA.out (by omega)) ?_ (fun _ _ _ _ _ _ h => CtRep.arr_flat h ?_) ?_; (focus (simp [*] <;> fail)); (focus (simp [*] <;> fail)); simp [*])
          | (refine call_new (t3.out) ?_ (fun _ _ _ _ _ _ h => CtRep.arr_flat h ?_) ?_; (focus (simp [*] <;> fail)); (focus (simp [*] <;> fail)); simp [*])
          | with_reducible refine And.intro ?_ ?_
          | omega
          | (refine imp1 fun h => ?_))
        all_goals simp
      refine AW_freeze 23 (t := ⟨[(5, .sl 8 ((cntR l).map encR)), (6, .sl 8 ((cntR A).map encR)), (3, .loc 3 0)], [(3, .box 23 (encR r))]⟩) rfl (by simp) (by simp) ?_
      replace hne := Hld.mk hne
      repeat' (first
        | with_reducible refine useK (by assumption) ?_
        | with_reducible refine useK2 (by assumption) ?_
        | with_reducible refine useX (by assumption) ?_
        | with_reducible refine AW_seqk fun K hK => ?_
        | (with_reducible refine AW_regionS rfl (by rw [hE]; decide) ?_; simp [*])
        | with_reducible refine AW_region (by rw [hE]; decide) ?_
        | ((with_reducible show RK _ _ _ _ _ _); refine RK_nilk ?_; simp [*])
        | ((with_reducible show RK _ _ _ _ _ _); refine RK_stepk fun K' hK' => ?_; simp [*])
        | with_reducible refine AW_drawq mixed (by rw [hE]; decide) (by simp [newOK]) ?_
        | ((with_reducible show RKQ _ _ _ _ _ _); refine RKQ_nilk ⟨by decide, ?_⟩)
        | ((with_reducible show RKQ _ _ _ _ _ _); refine RKQ_stepk fun K' hK' => ?_; simp [*])
        | (with_reducible refine AW_if fun X Y hX hY => ?_; simp [*])
        | with_reducible refine AW_block ?_
        | (with_reducible refine AW_ret ?_; simp [*])
        | (with_reducible refine AW_skip ?_; simp [*])
        | (with_reducible refine AW_exit ?_; simp [*])
        | (refine acall_same (s27 (cntR l) (cntR A) B hB.out (by omega)) ?_ ?_ ?_; (focus (simp [*] <;> fail)); (focus (simp [*] <;> fail)); simp [*])
        | (refine call_same (s27 (cntR l) (cntR A) B hB.out (by omega)) ?_ ?_ ?_; (focus (simp [*] <;> fail)); (focus (simp [*] <;> fail)); simp [*])
        | (refine acall_view (s27 (cntR l) (cntR A) B hB.out (by omega)) ?_ ?_ ?_; (focus (simp [*] <;> fail)); (focus (simp [*] <;> fail)); simp [*])
        | (refine call_view (s27 (cntR l) (cntR A) B hB.out (by omega)) ?_ ?_ ?_; (focus (simp [*] <;> fail)); (focus (simp [*] <;> fail)); simp [*])
        | with_reducible refine And.intro ?_ ?_
        | omega
        | (refine imp1 fun h => ?_))
      refine AW_loopk (G := Nat) (fun i => ⟨[(8, iA i), (7, .sl 8 ((setR B).map encR)), (6, .sl 8 ((cntR A).map encR)), (5, .sl 8 ((cntR l).map encR)), (3, .loc 3 0)], [(3, .box 23 (encR r))]⟩)
        (fun i => i ≤ (setR B).length) (fun i => (setR B).length - i) 0 (by simp) (by simp) ?_
      intro i hi K hK
      by_cases hlt : i < (setR B).length
      · obtain ⟨x, hx⟩ : ∃ x, x = (setR B)[i] := ⟨_, rfl⟩
        have g := hadd.out (setR B)[i]
        clear hadd
        by_cases g1 : (setR B)[i].o = r.o
        · by_cases g2 : (setR B)[i].s = r.s
          · clear g
            repeat' (first
              | with_reducible refine useK (by assumption) ?_
              | with_reducible refine useK2 (by assumption) ?_
              | with_reducible refine useX (by assumption) ?_
              | with_reducible refine AW_seqk fun K hK => ?_
              | (with_reducible refine AW_regionS rfl (by rw [hE]; decide) ?_; simp [*])
              | with_reducible refine AW_region (by rw [hE]; decide) ?_
              | ((with_reducible show RK _ _ _ _ _ _); refine RK_nilk ?_; simp [*])
              | ((with_reducible show RK _ _ _ _ _ _); refine RK_stepk fun K' hK' => ?_; simp [*])
              | with_reducible refine AW_drawq mixed (by rw [hE]; decide) (by simp [newOK]) ?_
              | ((with_reducible show RKQ _ _ _ _ _ _); refine RKQ_nilk ⟨by decide, ?_⟩)
              | ((with_reducible show RKQ _ _ _ _ _ _); refine RKQ_stepk fun K' hK' => ?_; simp [*])
              | (with_reducible refine AW_if fun X Y hX hY => ?_; simp [*])
              | with_reducible refine AW_block ?_
              | (with_reducible refine AW_ret ?_; simp [*])
              | (with_reducible refine AW_skip ?_; simp [*])
              | (with_reducible refine AW_exit ?_; simp [*])
              | (refine acall_same (s28 (cntR l) (setR B)[i] (by omega)) ?_ ?_ ?_; (focus (simp [*] <;> fail)); (focus (simp [*] <;> fail)); simp [*])
              | (refine call_same (s28 (cntR l) (setR B)[i] (by omega)) ?_ ?_ ?_; (focus (simp [*] <;> fail)); (focus (simp [*] <;> fail)); simp [*])
              | (refine acall_view (s28 (cntR l) (setR B)[i] (by omega)) ?_ ?_ ?_; (focus (simp [*] <;> fail)); (focus (simp [*] <;> fail)); simp [*])
              | (refine call_view (s28 (cntR l) (setR B)[i] (by omega)) ?_ ?_ ?_; (focus (simp [*] <;> fail)); (focus (simp [*] <;> fail)); simp [*])
              | (refine acall_same (s28 (cntR A) (setR B)[i] (by omega)) ?_ ?_ ?_; (focus (simp [*] <;> fail)); (focus (simp [*] <;> fail)); simp [*])
              | (refine call_same (s28 (cntR A) (setR B)[i] (by omega)) ?_ ?_ ?_; (focus (simp [*] <;> fail)); (focus (simp [*] <;> fail)); simp [*])
              | (refine acall_view (s28 (cntR A) (setR B)[i] (by omega)) ?_ ?_ ?_; (focus (simp [*] <;> fail)); (focus (simp [*] <;> fail)); simp [*])
              | (refine call_view (s28 (cntR A) (setR B)[i] (by omega)) ?_ ?_ ?_; (focus (simp [*] <;> fail)); (focus (simp [*] <;> fail)); simp [*])
              | with_reducible refine And.intro ?_ ?_
              | omega
              | (refine imp1 fun h => ?_))
            all_goals exact ⟨i + 1, by omega, by omega, by simp⟩
          · have g := g (by simp [g2])
            replace g := Hld.mk g
            by_cases g3 : (setR B)[i] ∈ cntR l
            · have g4 := g.out.2 g3
              repeat' (first
                | with_reducible refine useK (by assumption) ?_
                | with_reducible refine useK2 (by assumption) ?_
                | with_reducible refine useX (by assumption) ?_
                | with_reducible refine AW_seqk fun K hK => ?_
                | (with_reducible refine AW_regionS rfl (by rw [hE]; decide) ?_; simp [*])
                | with_reducible refine AW_region (by rw [hE]; decide) ?_
                | ((with_reducible show RK _ _ _ _ _ _); refine RK_nilk ?_; simp [*])
                | ((with_reducible show RK _ _ _ _ _ _); refine RK_stepk fun K' hK' => ?_; simp [*])
                | with_reducible refine AW_drawq mixed (by rw [hE]; decide) (by simp [newOK]) ?_
                | ((with_reducible show RKQ _ _ _ _ _ _); refine RKQ_nilk ⟨by decide, ?_⟩)
                | ((with_reducible show RKQ _ _ _ _ _ _); refine RKQ_stepk fun K' hK' => ?_; simp [*])
                | (with_reducible refine AW_if fun X Y hX hY => ?_; simp [*])
                | with_reducible refine AW_block ?_
                | (with_reducible refine AW_ret ?_; simp [*])
                | (with_reducible refine AW_skip ?_; simp [*])
                | (with_reducible refine AW_exit ?_; simp [*])
                | (refine acall_same (s28 (cntR l) (setR B)[i] (by omega)) ?_ ?_ ?_; (focus (simp [*] <;> fail)); (focus (simp [*] <;> fail)); simp [*])
                | (refine call_same (s28 (cntR l) (setR B)[i] (by omega)) ?_ ?_ ?_; (focus (simp [*] <;> fail)); (focus (simp [*] <;> fail)); simp [*])
                | (refine acall_view (s28 (cntR l) (setR B)[i] (by omega)) ?_ ?_ ?_; (focus (simp [*] <;> fail)); (focus (simp [*] <;> fail)); simp [*])
                | (refine call_view (s28 (cntR l) (setR B)[i] (by omega)) ?_ ?_ ?_; (focus (simp [*] <;> fail)); (focus (simp [*] <;> fail)); simp [*])
                | (refine acall_same (s28 (cntR A) (setR B)[i] (by omega)) ?_ ?_ ?_; (focus (simp [*] <;> fail)); (focus (simp [*] <;> fail)); simp [*])
                | (refine call_same (s28 (cntR A) (setR B)[i] (by omega)) ?_ ?_ ?_; (focus (simp [*] <;> fail)); (focus (simp [*] <;> fail)); simp [*])
                | (refine acall_view (s28 (cntR A) (setR B)[i] (by omega)) ?_ ?_ ?_; (focus (simp [*] <;> fail)); (focus (simp [*] <;> fail)); simp [*])
                | (refine call_view (s28 (cntR A) (setR B)[i] (by omega)) ?_ ?_ ?_; (focus (simp [*] <;> fail)); (focus (simp [*] <;> fail)); simp [*])
                | with_reducible refine And.intro ?_ ?_
                | omega
                | (refine imp1 fun h => ?_))
              all_goals exact ⟨i + 1, by omega, by omega, by simp⟩
            · have g4 : (setR B)[i] ∉ cntR A := fun h => g3 (g.out.1 h)
              repeat' (first
                | with_reducible refine useK (by assumption) ?_
                | with_reducible refine useK2 (by assumption) ?_
                | with_reducible refine useX (by assumption) ?_
                | with_reducible refine AW_seqk fun K hK => ?_
                | (with_reducible refine AW_regionS rfl (by rw [hE]; decide) ?_; simp [*])
                | with_reducible refine AW_region (by rw [hE]; decide) ?_
                | ((with_reducible show RK _ _ _ _ _ _); refine RK_nilk ?_; simp [*])
                | ((with_reducible show RK _ _ _ _ _ _); refine RK_stepk fun K' hK' => ?_; simp [*])
                | with_reducible refine AW_drawq mixed (by rw [hE]; decide) (by simp [newOK]) ?_
                | ((with_reducible show RKQ _ _ _ _ _ _); refine RKQ_nilk ⟨by decide, ?_⟩)
                | ((with_reducible show RKQ _ _ _ _ _ _); refine RKQ_stepk fun K' hK' => ?_; simp [*])
                | (with_reducible refine AW_if fun X Y hX hY => ?_; simp [*])
                | with_reducible refine AW_block ?_
                | (with_reducible refine AW_ret ?_; simp [*])
                | (with_reducible refine AW_skip ?_; simp [*])
                | (with_reducible refine AW_exit ?_; simp [*])
                | (refine acall_same (s28 (cntR l) (setR B)[i] (by omega)) ?_ ?_ ?_; (focus (simp [*] <;> fail)); (focus (simp [*] <;> fail)); simp [*])
                | (refine call_same (s28 (cntR l) (setR B)[i] (by omega)) ?_ ?_ ?_; (focus (simp [*] <;> fail)); (focus (simp [*] <;> fail)); simp [*])
                | (refine acall_view (s28 (cntR l) (setR B)[i] (by omega)) ?_ ?_ ?_; (focus (simp [*] <;> fail)); (focus (simp [*] <;> fail)); simp [*])
                | (refine call_view (s28 (cntR l) (setR B)[i] (by omega)) ?_ ?_ ?_; (focus (simp [*] <;> fail)); (focus (simp [*] <;> fail)); simp [*])
                | (refine acall_same (s28 (cntR A) (setR B)[i] (by omega)) ?_ ?_ ?_; (focus (simp [*] <;> fail)); (focus (simp [*] <;> fail)); simp [*])
                | (refine call_same (s28 (cntR A) (setR B)[i] (by omega)) ?_ ?_ ?_; (focus (simp [*] <;> fail)); (focus (simp [*] <;> fail)); simp [*])
                | (refine acall_view (s28 (cntR A) (setR B)[i] (by omega)) ?_ ?_ ?_; (focus (simp [*] <;> fail)); (focus (simp [*] <;> fail)); simp [*])
                | (refine call_view (s28 (cntR A) (setR B)[i] (by omega)) ?_ ?_ ?_; (focus (simp [*] <;> fail)); (focus (simp [*] <;> fail)); simp [*])
                | with_reducible refine And.intro ?_ ?_
                | omega
                | (refine imp1 fun h => ?_))
              all_goals exact ⟨i + 1, by omega, by omega, by simp⟩
        · have g := g (by simp [g1])
          replace g := Hld.mk g
          by_cases g3 : (setR B)[i] ∈ cntR l
          · have g4 := g.out.2 g3
            repeat' (first
              | with_reducible refine useK (by assumption) ?_
              | with_reducible refine useK2 (by assumption) ?_
              | with_reducible refine useX (by assumption) ?_
              | with_reducible refine AW_seqk fun K hK => ?_
              | (with_reducible refine AW_regionS rfl (by rw [hE]; decide) ?_; simp [*])
              | with_reducible refine AW_region (by rw [hE]; decide) ?_
              | ((with_reducible show RK _ _ _ _ _ _); refine RK_nilk ?_; simp [*])
              | ((with_reducible show RK _ _ _ _ _ _); refine RK_stepk fun K' hK' => ?_; simp [*])
              | with_reducible refine AW_drawq mixed (by rw [hE]; decide) (by simp [newOK]) ?_
              | ((with_reducible show RKQ _ _ _ _ _ _); refine RKQ_nilk ⟨by decide, ?_⟩)
              | ((with_reducible show RKQ _ _ _ _ _ _); refine RKQ_stepk fun K' hK' => ?_; simp [*])
              | (with_reducible refine AW_if fun X Y hX hY => ?_; simp [*])
              | with_reducible refine AW_block ?_
              | (with_reducible refine AW_ret ?_; simp [*])
              | (with_reducible refine AW_skip ?_; simp [*])
              | (with_reducible refine AW_exit ?_; simp [*])
              | (refine acall_same (s28 (cntR l) (setR B)[i] (by omega)) ?_ ?_ ?_; (focus (simp [*] <;> fail)); (focus (simp [*] <;> fail)); simp [*])
              | (refine call_same (s28 (cntR l) (setR B)[i] (by omega)) ?_ ?_ ?_; (focus (simp [*] <;> fail)); (focus (simp [*] <;> fail)); simp [*])
              | (refine acall_view (s28 (cntR l) (setR B)[i] (by omega)) ?_ ?_ ?_; (focus (simp [*] <;> fail)); (focus (simp [*] <;> fail)); simp [*])
              | (refine call_view (s28 (cntR l) (setR B)[i] (by omega)) ?_ ?_ ?_; (focus (simp [*] <;> fail)); (focus (simp [*] <;> fail)); simp [*])
              | (refine acall_same (s28 (cntR A) (setR B)[i] (by omega)) ?_ ?_ ?_; (focus (simp [*] <;> fail)); (focus (simp [*] <;> fail)); simp [*])
              | (refine call_same (s28 (cntR A) (setR B)[i] (by omega)) ?_ ?_ ?_; (focus (simp [*] <;> fail)); (focus (simp [*] <;> fail)); simp [*])
              | (refine acall_view (s28 (cntR A) (setR B)[i] (by omega)) ?_ ?_ ?_; (focus (simp [*] <;> fail)); (focus (simp [*] <;> fail)); simp [*])
              | (refine call_view (s28 (cntR A) (setR B)[i] (by omega)) ?_ ?_ ?_; (focus (simp [*] <;> fail)); (focus (simp [*] <;> fail)); simp [*])
              | with_reducible refine And.intro ?_ ?_
              | omega
              | (refine imp1 fun h => ?_))
            all_goals exact ⟨i + 1, by omega, by omega, by simp⟩
          · have g4 : (setR B)[i] ∉ cntR A := fun h => g3 (g.out.1 h)
            repeat' (first
              | with_reducible refine useK (by assumption) ?_
              | with_reducible refine useK2 (by assumption) ?_
              | with_reducible refine useX (by assumption) ?_
              | with_reducible refine AW_seqk fun K hK => ?_
              | (with_reducible refine AW_regionS rfl (by rw [hE]; decide) ?_; simp [*])
              | with_reducible refine AW_region (by rw [hE]; decide) ?_
              | ((with_reducible show RK _ _ _ _ _ _); refine RK_nilk ?_; simp [*])
              | ((with_reducible show RK _ _ _ _ _ _); refine RK_stepk fun K' hK' => ?_; simp [*])
              | with_reducible refine AW_drawq mixed (by rw [hE]; decide) (by simp [newOK]) ?_
              | ((with_reducible show RKQ _ _ _ _ _ _); refine RKQ_nilk ⟨by decide, ?_⟩)
              | ((with_reducible show RKQ _ _ _ _ _ _); refine RKQ_stepk fun K' hK' => ?_; simp [*])
              | (with_reducible refine AW_if fun X Y hX hY => ?_; simp [*])
              | with_reducible refine AW_block ?_
              | (with_reducible refine AW_ret ?_; simp [*])
              | (with_reducible refine AW_skip ?_; simp [*])
              | (with_reducible refine AW_exit ?_; simp [*])
              | (refine acall_same (s28 (cntR l) (setR B)[i] (by omega)) ?_ ?_ ?_; (focus (simp [*] <;> fail)); (focus (simp [*] <;> fail)); simp [*])
              | (refine call_same (s28 (cntR l) (setR B)[i] (by omega)) ?_ ?_ ?_; (focus (simp [*] <;> fail)); (focus (simp [*] <;> fail)); simp [*])
              | (refine acall_view (s28 (cntR l) (setR B)[i] (by omega)) ?_ ?_ ?_; (focus (simp [*] <;> fail)); (focus (simp [*] <;> fail)); simp [*])
              | (refine call_view (s28 (cntR l) (setR B)[i] (by omega)) ?_ ?_ ?_; (focus (simp [*] <;> fail)); (focus (simp [*] <;> fail)); simp [*])
              | (refine acall_same (s28 (cntR A) (setR B)[i] (by omega)) ?_ ?_ ?_; (focus (simp [*] <;> fail)); (focus (simp [*] <;> fail)); simp [*])
              | (refine call_same (s28 (cntR A) (setR B)[i] (by omega)) ?_ ?_ ?_; (focus (simp [*] <;> fail)); (focus (simp [*] <;> fail)); simp [*])
              | (refine acall_view (s28 (cntR A) (setR B)[i] (by omega)) ?_ ?_ ?_; (focus (simp [*] <;> fail)); (focus (simp [*] <;> fail)); simp [*])
              | (refine call_view (s28 (cntR A) (setR B)[i] (by omega)) ?_ ?_ ?_; (focus (simp [*] <;> fail)); (focus (simp [*] <;> fail)); simp [*])
              | with_reducible refine And.intro ?_ ?_
              | omega
              | (refine imp1 fun h => ?_))
            all_goals exact ⟨i + 1, by omega, by omega, by simp⟩
      · obtain rfl : i = (setR B).length := by omega
        repeat' (first
          | with_reducible refine useK (by assumption) ?_
          | with_reducible refine useK2 (by assumption) ?_
          | with_reducible refine useX (by assumption) ?_
          | with_reducible refine AW_seqk fun K hK => ?_
          | (with_reducible refine AW_regionS rfl (by rw [hE]; decide) ?_; simp [*])
          | with_reducible refine AW_region (by rw [hE]; decide) ?_
          | ((with_reducible show RK _ _ _ _ _ _); refine RK_nilk ?_; simp [*])
          | ((with_reducible show RK _ _ _ _ _ _); refine RK_stepk fun K' hK' => ?_; simp [*])
          | with_reducible refine AW_drawq mixed (by rw [hE]; decide) (by simp [newOK]) ?_
          | ((with_reducible show RKQ _ _ _ _ _ _); refine RKQ_nilk ⟨by decide, ?_⟩)
          | ((with_reducible show RKQ _ _ _ _ _ _); refine RKQ_stepk fun K' hK' => ?_; simp [*])
          | (with_reducible refine AW_if fun X Y hX hY => ?_; simp [*])
          | with_reducible refine AW_block ?_
          | (with_reducible refine AW_ret ?_; simp [*])
          | (with_reducible refine AW_skip ?_; simp [*])
          | (with_reducible refine AW_exit ?_; simp [*])
          | (refine acall_same (t1.out) ?_ ?_ ?_; (focus (simp [*] <;> fail)); (focus (simp [*] <;> fail)); simp [*])
          | (refine call_same (t1.out) ?_ ?_ ?_; (focus (simp [*] <;> fail)); (focus (simp [*] <;> fail)); simp [*])
          | (refine acall_view (t1.out) ?_ ?_ ?_; (focus (simp [*] <;> fail)); (focus (simp [*] <;> fail)); simp [*])
          | (refine call_view (t1.out) ?_ ?_ ?_; (focus (simp [*] <;> fail)); (focus (simp [*] <;> fail)); simp [*])
          | (refine acall_same (t2.out) ?_ ?_ ?_; (focus (simp [*] <;> fail)); (focus (simp [*] <;> fail)); simp [*])
          | (refine call_same (t2.out) ?_ ?_ ?_; (focus (simp [*] <;> fail)); (focus (simp [*] <;> fail)); simp [*])
          | (refine acall_view (t2.out) ?_ ?_ ?_; (focus (simp [*] <;> fail)); (focus (simp [*] <;> fail)); simp [*])
          | (refine call_view (t2.out) ?_ ?_ ?_; (focus (simp [*] <;> fail)); (focus (simp [*] <;> fail)); simp [*])
          | (refine acall_same (s17 (cntR l) (cntR l) (by omega)) ?_ ?_ ?_; (focus (simp [*] <;> fail)); (focus (simp [*] <;> fail)); simp [*])
          | (refine call_same (s17 (cntR l) (cntR l) (by omega)) ?_ ?_ ?_; (focus (simp [*] <;> fail)); (focus (simp [*] <;> fail)); simp [*])
          | (refine acall_view (s17 (cntR l) (cntR l) (by omega)) ?_ ?_ ?_; (focus (simp [*] <;> fail)); (focus (simp [*] <;> fail)); simp [*])
          | (refine call_view (s17 (cntR l) (cntR l) (by omega)) ?_ ?_ ?_; (focus (simp [*] <;> fail)); (focus (simp [*] <;> fail)); simp [*])
          | (refine acall_same (s17 (cntR A) (cntR A) (by omega)) ?_ ?_ ?_; (focus (simp [*] <;> fail)); (focus (simp [*] <;> fail)); simp [*])
          | (refine call_same (s17 (cntR A) (cntR A) (by omega)) ?_ ?_ ?_; (focus (simp [*] <;> fail)); (focus (simp [*] <;> fail)); simp [*])
          | (refine acall_view (s17 (cntR A) (cntR A) (by omega)) ?_ ?_ ?_; (focus (simp [*] <;> fail)); (focus (simp [*] <;> fail)); simp [*])
          | (refine call_view (s17 (cntR A) (cntR A) (by omega)) ?_ ?_ ?_; (focus (simp [*] <;> fail)); (focus (simp [*] <;> fail)); simp [*])
          | with_reducible refine And.intro ?_ ?_
          | omega
          | (refine imp1 fun h => ?_))
  · refine PSpec_of Try.func7 rfl rfl (Nat.le_of_ble_eq_true rfl) (Nat.le_of_ble_eq_true rfl) ?_
    intro E hE
    repeat' (first
      | with_reducible refine useK (by assumption) ?_
      | with_reducible refine useK2 (by assumption) ?_
      | with_reducible refine useX (by assumption) ?_
      | with_reducible refine AW_seqk fun K hK => ?_
      | (with_reducible refine AW_regionS rfl (by rw [hE]; decide) ?_; simp [*])
      | with_reducible refine AW_region (by rw [hE]; decide) ?_
      | ((with_reducible show RK _ _ _ _ _ _); refine RK_nilk ?_; simp [*])
      | ((with_reducible show RK _ _ _ _ _ _); refine RK_stepk fun K' hK' => ?_; simp [*])
      | with_reducible refine AW_drawq mixed (by rw [hE]; decide) (by simp [newOK]) ?_
      | ((with_reducible show RKQ _ _ _ _ _ _); refine RKQ_nilk ⟨by decide, ?_⟩)
      | ((with_reducible show RKQ _ _ _ _ _ _); refine RKQ_stepk fun K' hK' => ?_; simp [*])
      | (with_reducible refine AW_if fun X Y hX hY => ?_; simp [*])
      | with_reducible refine AW_block ?_
      | (with_reducible refine AW_ret ?_; simp [*])
      | (with_reducible refine AW_skip ?_; simp [*])
      | (with_reducible refine AW_exit ?_; simp [*])
      | (refine acall_same (s14) ?_ ?_ ?_; (focus (simp [*] <;> fail)); (focus (simp [*] <;> fail)); simp [*])
      | (refine call_same (s14) ?_ ?_ ?_; (focus (simp [*] <;> fail)); (focus (simp [*] <;> fail)); simp [*])
      | (refine acall_view (s14) ?_ ?_ ?_; (focus (simp [*] <;> fail)); (focus (simp [*] <;> fail)); simp [*])
      | (refine call_view (s14) ?_ ?_ ?_; (focus (simp [*] <;> fail)); (focus (simp [*] <;> fail)); simp [*])
      | with_reducible refine And.intro ?_ ?_
      | omega
      | (refine imp1 fun h => ?_))
theorem spec (avs : List AV) (h : ShapeL Try.prog 6 Try.f7.params.toList avs) : PSpec Try.prog 7 avs (.v (.bool true)) := by
  rw [Try.params7] at h
  obtain ⟨c1, r1, rfl, h1, c2, r2, rfl, h2, rfl⟩ := h
  obtain ⟨a, ha, -⟩ := avRs h1
  obtain ⟨b, hb, -⟩ := avR h2
  rw [ha, hb]
  exact s a b
theorem contract (H : Type) (enc : TypeId × Value → H) (W : World) (base : Nat) (args : Array Value) (ds gs : List (DataW H)) (before : List MemPlace)
    (hval : ∀ (j : Nat) t v, Try.f7.params[j]? = some t → args[j]? = some v → Value.okWide Try.prog W .any base t v)
    (hW : DataW.Whole enc Try.prog Try.f7.params.toList Rows.reportAddsSpec.vars false W args.toList ds gs before) :
    Calls Try.prog 7 args W fun e W' => ∃ v, e = .returned v ∧ Rows.reportAddsSpec.post enc Try.prog Try.f7 false true false false W args v W' :=
  law_contract (m := 6) (tb := 4) spec (by rw [Try.params7]; intro t ht; simp at ht; rcases ht with rfl | rfl <;> kernel_rfl) rfl laidK
    (by rw [Try.params7]; intro t ht; simp at ht; rcases ht with rfl | rfl <;> exact ⟨by kernel_rfl, by decide +kernel⟩)
    (fun ds hd => by
      rw [Try.params7] at hd
      match ds, hd with
      | [d1, d2], _ => rfl) (by kernel_rfl) Try.underlying4 hval hW
theorem lifted (os : Os) (started : os.Started) (H : Type) (enc : TypeId × Value → H) :
    ReturnsInHanded {} Try.checked os 7 .any (Rows.reportAddsSpec.pre6 enc Try.prog Try.f7 Rows.reportAddsRow.domain false) (Rows.reportAddsSpec.post enc Try.prog Try.f7 false true false false) := by
  refine returnsInHanded_of_change (C := Try.checked) ownK started (by kernel_rfl) Try.func7
    (ChangeSpec.witness6 (enc := enc) (C := Try.checked) false ⟨#[], #[.slice .none 0 0, zR], []⟩ 8 (by kernel_rfl) (by kernel_rfl) (by kernel_rfl) (by kernel_rfl)) ?_
  intro W base args ds gs before hval hW hcnd _
  exact contract H enc W base args ds gs before hval hW
theorem said : Rows.ReportAddsSaid :=
  OpenClaim.holds_of_wide 7 Try.f7 rfl rfl rfl rfl rfl rfl rfl ⟨rfl, rfl, rfl, rfl, rfl⟩ rfl rfl rfl rfl rfl (by kernel_rfl) Try.func7 (by kernel_rfl)
    (of_decide_eq_true (by kernel_rfl)) (by unfold Func.isWrapper; first | (rw [if_pos (by decide +kernel)]; kernel_rfl) | (rw [if_neg (by decide +kernel)]; exact ⟨rfl, rfl⟩))
    (fun os started H enc _ => lifted os started H enc)
end L7
end Go.Proofs.Ytmjckbokjjnmeaa
