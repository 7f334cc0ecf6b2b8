/- ReportMerges: for any two lists of reports the law hands back true. Conditions: none. -/
import Derived.Test.YtmjckbokjjnmeaaZ5
set_option maxRecDepth 100000
set_option linter.unusedSimpArgs false
set_option linter.unusedVariables false
namespace Go.Proofs.Ytmjckbokjjnmeaa
open Go.Am Go.RowKit Go.ChangeShapes Go.WideShapes Go.ChangeAt

namespace L8
theorem filter_take {p : R → Bool} {l : List R} {i : Nat} (h : i < l.length) : (l.take (i + 1)).filter p = (l.take i).filter p ++ (if p l[i] then [l[i]] else []) := by
  rw [List.take_succ_eq_append_getElem h, List.filter_append]
  congr 1
  simp only [List.filter_cons, List.filter_nil]
set_option maxHeartbeats 8000000 in
theorem s (a b : List R) : PSpec Try.prog 8 [.sl 8 (a.map encR), .sl 8 (b.map encR)] (bA true) := by
  by_cases h1 : a.length ≤ 20
  · by_cases h2 : b.length ≤ 20
    · obtain ⟨c, hc⟩ : ∃ c, c = a ++ b := ⟨_, rfl⟩
      obtain ⟨d, hd⟩ : ∃ d, d = b ++ a := ⟨_, rfl⟩
      have hcl : c.length ≤ 40 := by rw [hc, List.length_append]; omega
      have hdl : d.length ≤ 40 := by rw [hd, List.length_append]; omega
      obtain ⟨F, hF⟩ : ∃ F : Nat → List R, ∀ i, F i = (a.take i).filter fun x => !decide (statusR a x = 2) := ⟨_, fun _ => rfl⟩
      obtain ⟨G, hG⟩ : ∃ G : Nat → List R, ∀ i, G i = notSup a ++ (b.take i).filter fun x => !decide (statusR b x = 2) := ⟨_, fun _ => rfl⟩
      have hFl : ∀ i, (F i).length ≤ 20 := by
        intro i; rw [hF]
        have := List.length_filter_le (fun x => !decide (statusR a x = 2)) (a.take i)
        simp at this ⊢; omega
      have hF0 : F 0 = [] := by rw [hF]; rfl
      have hFe : F a.length = notSup a := by rw [hF, List.take_length]; rfl
      have hFs : ∀ i (h : i < a.length), F (i + 1) = F i ++ (if !decide (statusR a a[i] = 2) then [a[i]] else []) := by intro i h; rw [hF, hF, filter_take h]
      have hNl : (notSup a).length ≤ 20 := by rw [← hFe]; exact hFl _
      have hGl : ∀ i, (G i).length ≤ 40 := by
        intro i; rw [hG]
        have := List.length_filter_le (fun x => !decide (statusR b x = 2)) (b.take i)
        simp at this ⊢; omega
      have hG0 : G 0 = notSup a := by rw [hG]; simp
      have hGs : ∀ i (h : i < b.length), G (i + 1) = G i ++ (if !decide (statusR b b[i] = 2) then [b[i]] else []) := by intro i h; rw [hG, hG, filter_take h, List.append_assoc]
      have hGe : cntR (G b.length) = cntR c := by rw [hG, List.take_length, hc]; exact cntR_merge a b
      have m1 : cntR (setR c) = cntR c := cntR_congr (fun x => by simp)
      have m2 : cntR d = cntR c := cntR_congr (fun x => by rw [hc, hd]; simp [Or.comm])
      clear hF hG
      have e1 := setR_len c
      have e2 := cntR_len c
      have t1 : PSpec Try.prog 18 [.sl 8 ((setR c).map encR)] (.sl 8 ((cntR c).map encR)) := by have := s18 (setR c) (by omega); rw [m1] at this; exact this
      have t2 : PSpec Try.prog 18 [.sl 8 (d.map encR)] (.sl 8 ((cntR c).map encR)) := by have := s18 d (by omega); rw [m2] at this; exact this
      have t3 : RSpec Try.prog 18 [.sl 8 ((G b.length).map encR)] 23 8 ((cntR c).map encR) := by have := r18' (G b.length) (by have := hGl b.length; omega); rw [hGe] at this; exact this
      clear m1 m2 hGe
      replace t1 := Hld.mk t1
      replace t2 := Hld.mk t2
      replace t3 := Hld.mk t3
      replace hc := Hld.mk hc
      replace hd := Hld.mk hd
      replace hFs := Hld.mk hFs
      replace hGs := Hld.mk hGs
      replace hFe := Hld.mk hFe
      replace hG0 := Hld.mk hG0
      refine PSpec_of Try.func8 rfl rfl (Nat.le_of_ble_eq_true rfl) (Nat.le_of_ble_eq_true rfl) ?_
      intro E hE
      repeat' (first
        | with_reducible refine useK (by assumption) ?_
        | with_reducible refine useK2 (by assumption) ?_
        | with_reducible refine useX (by assumption) ?_
        | with_reducible refine AW_seqk fun K hK => ?_
        | (with_reducible refine AW_regionS rfl (by rw [hE]; decide) ?_; simp [*])
        | with_reducible refine AW_region (by rw [hE]; decide) ?_
        | ((with_reducible show RK _ _ _ _ _ _); refine RK_nilk ?_; simp [*])
        | ((with_reducible show RK _ _ _ _ _ _); refine RK_stepk fun K' hK' => ?_; simp [*])
        | with_reducible refine AW_drawq mixed (by rw [hE]; decide) (by simp [newOK]) ?_
        | ((with_reducible show RKQ _ _ _ _ _ _); refine RKQ_nilk ⟨by decide, ?_⟩)
        | ((with_reducible show RKQ _ _ _ _ _ _); refine RKQ_stepk fun K' hK' => ?_; simp [*])
        | (with_reducible refine AW_if fun X Y hX hY => ?_; simp [*])
        | with_reducible refine AW_block ?_
        | (with_reducible refine AW_ret ?_; simp [*])
        | (with_reducible refine AW_skip ?_; simp [*])
        | (with_reducible refine AW_exit ?_; simp [*])
        | (refine acall_same (s14) ?_ ?_ ?_; (focus (simp [*] <;> fail)); (focus (simp [*] <;> fail)); simp [*])
        | (refine call_same (s14) ?_ ?_ ?_; (focus (simp [*] <;> fail)); (focus (simp [*] <;> fail)); simp [*])
        | (refine acall_view (s14) ?_ ?_ ?_; (focus (simp [*] <;> fail)); (focus (simp [*] <;> fail)); simp [*])
        | (refine call_view (s14) ?_ ?_ ?_; (focus (simp [*] <;> fail)); (focus (simp [*] <;> fail)); simp [*])
        | with_reducible refine And.intro ?_ ?_
        | omega
        | (refine imp1 fun h => ?_))
      refine AW_mkrow 5 60 23 8 (by simp) (by simp) (by simp) (by omega) ?_
      refine AW_loopk (G := Nat) (fun i => ⟨[(6, iA i), (5, .own 60 8 0 (F i).length), (0, .sl 8 (a.map encR)), (1, .sl 8 (b.map encR))], [(60, .arr 23 8 ((F i).map encR))]⟩)
        (fun i => i ≤ a.length) (fun i => a.length - i) 0 (by simp) (by simp [hF0]) ?_
      intro i hi K hK
      have hFi := hFl i
      by_cases hlt : i < a.length
      · have hs := hFs.out i hlt
        clear hFs hGs hFl hGl hF0
        by_cases hst : statusR a a[i] = 2
        · rw [if_neg (by simp [hst])] at hs
          replace hs := Hld.mk hs
          repeat' (first
            | with_reducible refine useK (by assumption) ?_
            | with_reducible refine useK2 (by assumption) ?_
            | with_reducible refine useX (by assumption) ?_
            | with_reducible refine AW_seqk fun K hK => ?_
            | (with_reducible refine AW_regionS rfl (by rw [hE]; decide) ?_; simp [*])
            | with_reducible refine AW_region (by rw [hE]; decide) ?_
            | ((with_reducible show RK _ _ _ _ _ _); refine RK_nilk ?_; simp [*])
            | ((with_reducible show RK _ _ _ _ _ _); refine RK_stepk fun K' hK' => ?_; simp [*])
            | with_reducible refine AW_drawq mixed (by rw [hE]; decide) (by simp [newOK]) ?_
            | ((with_reducible show RKQ _ _ _ _ _ _); refine RKQ_nilk ⟨by decide, ?_⟩)
            | ((with_reducible show RKQ _ _ _ _ _ _); refine RKQ_stepk fun K' hK' => ?_; simp [*])
            | (with_reducible refine AW_if fun X Y hX hY => ?_; simp [*])
            | with_reducible refine AW_block ?_
            | (with_reducible refine AW_ret ?_; simp [*])
            | (with_reducible refine AW_skip ?_; simp [*])
            | (with_reducible refine AW_exit ?_; simp [*])
            | (refine acall_same (s22 a a[i] (by omega)) ?_ ?_ ?_; (focus (simp [*] <;> fail)); (focus (simp [*] <;> fail)); simp [*])
            | (refine call_same (s22 a a[i] (by omega)) ?_ ?_ ?_; (focus (simp [*] <;> fail)); (focus (simp [*] <;> fail)); simp [*])
            | (refine acall_view (s22 a a[i] (by omega)) ?_ ?_ ?_; (focus (simp [*] <;> fail)); (focus (simp [*] <;> fail)); simp [*])
            | (refine call_view (s22 a a[i] (by omega)) ?_ ?_ ?_; (focus (simp [*] <;> fail)); (focus (simp [*] <;> fail)); simp [*])
            | with_reducible refine And.intro ?_ ?_
            | omega
            | (refine imp1 fun h => ?_))
          all_goals exact ⟨i + 1, by omega, by omega, by simp [hs.out]⟩
        · rw [if_pos (by simp [hst])] at hs
          replace hs := Hld.mk hs
          repeat' (first
            | with_reducible refine useK (by assumption) ?_
            | with_reducible refine useK2 (by assumption) ?_
            | with_reducible refine useX (by assumption) ?_
            | with_reducible refine AW_seqk fun K hK => ?_
            | (with_reducible refine AW_regionS rfl (by rw [hE]; decide) ?_; simp [*])
            | with_reducible refine AW_region (by rw [hE]; decide) ?_
            | ((with_reducible show RK _ _ _ _ _ _); refine RK_nilk ?_; simp [*])
            | ((with_reducible show RK _ _ _ _ _ _); refine RK_stepk fun K' hK' => ?_; simp [*])
            | with_reducible refine AW_drawq mixed (by rw [hE]; decide) (by simp [newOK]) ?_
            | ((with_reducible show RKQ _ _ _ _ _ _); refine RKQ_nilk ⟨by decide, ?_⟩)
            | ((with_reducible show RKQ _ _ _ _ _ _); refine RKQ_stepk fun K' hK' => ?_; simp [*])
            | (with_reducible refine AW_if fun X Y hX hY => ?_; simp [*])
            | with_reducible refine AW_block ?_
            | (with_reducible refine AW_ret ?_; simp [*])
            | (with_reducible refine AW_skip ?_; simp [*])
            | (with_reducible refine AW_exit ?_; simp [*])
            | (refine acall_same (s22 a a[i] (by omega)) ?_ ?_ ?_; (focus (simp [*] <;> fail)); (focus (simp [*] <;> fail)); simp [*])
            | (refine call_same (s22 a a[i] (by omega)) ?_ ?_ ?_; (focus (simp [*] <;> fail)); (focus (simp [*] <;> fail)); simp [*])
            | (refine acall_view (s22 a a[i] (by omega)) ?_ ?_ ?_; (focus (simp [*] <;> fail)); (focus (simp [*] <;> fail)); simp [*])
            | (refine call_view (s22 a a[i] (by omega)) ?_ ?_ ?_; (focus (simp [*] <;> fail)); (focus (simp [*] <;> fail)); simp [*])
            | with_reducible refine And.intro ?_ ?_
            | omega
            | (refine imp1 fun h => ?_))
          all_goals exact ⟨i + 1, by omega, by omega, by simp [hs.out]⟩
      · obtain rfl : i = a.length := by omega
        have e : F a.length = G 0 := hFe.out.trans hG0.out.symm
        rw [e] at hFi ⊢
        clear e
        repeat' (first
          | with_reducible refine useK (by assumption) ?_
          | with_reducible refine useK2 (by assumption) ?_
          | with_reducible refine useX (by assumption) ?_
          | with_reducible refine AW_seqk fun K hK => ?_
          | (with_reducible refine AW_regionS rfl (by rw [hE]; decide) ?_; simp [*])
          | with_reducible refine AW_region (by rw [hE]; decide) ?_
          | ((with_reducible show RK _ _ _ _ _ _); refine RK_nilk ?_; simp [*])
          | ((with_reducible show RK _ _ _ _ _ _); refine RK_stepk fun K' hK' => ?_; simp [*])
          | with_reducible refine AW_drawq mixed (by rw [hE]; decide) (by simp [newOK]) ?_
          | ((with_reducible show RKQ _ _ _ _ _ _); refine RKQ_nilk ⟨by decide, ?_⟩)
          | ((with_reducible show RKQ _ _ _ _ _ _); refine RKQ_stepk fun K' hK' => ?_; simp [*])
          | (with_reducible refine AW_if fun X Y hX hY => ?_; simp [*])
          | with_reducible refine AW_block ?_
          | (with_reducible refine AW_ret ?_; simp [*])
          | (with_reducible refine AW_skip ?_; simp [*])
          | (with_reducible refine AW_exit ?_; simp [*])
          | with_reducible refine And.intro ?_ ?_
          | omega
          | (refine imp1 fun h => ?_))
        refine AW_loopk (G := Nat) (fun i => ⟨[(7, iA i), (5, .own 60 8 0 (G i).length), (0, .sl 8 (a.map encR)), (1, .sl 8 (b.map encR))], [(60, .arr 23 8 ((G i).map encR))]⟩)
          (fun i => i ≤ b.length) (fun i => b.length - i) 0 (by simp) (by simp) ?_
        intro i hi K hK
        have hGi := hGl i
        clear hFi
        by_cases hlt : i < b.length
        · have hs := hGs.out i hlt
          clear hFs hGs hFl hGl hF0
          by_cases hst : statusR b b[i] = 2
          · rw [if_neg (by simp [hst])] at hs
            replace hs := Hld.mk hs
            repeat' (first
              | with_reducible refine useK (by assumption) ?_
              | with_reducible refine useK2 (by assumption) ?_
              | with_reducible refine useX (by assumption) ?_
              | with_reducible refine AW_seqk fun K hK => ?_
              | (with_reducible refine AW_regionS rfl (by rw [hE]; decide) ?_; simp [*])
              | with_reducible refine AW_region (by rw [hE]; decide) ?_
              | ((with_reducible show RK _ _ _ _ _ _); refine RK_nilk ?_; simp [*])
              | ((with_reducible show RK _ _ _ _ _ _); refine RK_stepk fun K' hK' => ?_; simp [*])
              | with_reducible refine AW_drawq mixed (by rw [hE]; decide) (by simp [newOK]) ?_
              | ((with_reducible show RKQ _ _ _ _ _ _); refine RKQ_nilk ⟨by decide, ?_⟩)
              | ((with_reducible show RKQ _ _ _ _ _ _); refine RKQ_stepk fun K' hK' => ?_; simp [*])
              | (with_reducible refine AW_if fun X Y hX hY => ?_; simp [*])
              | with_reducible refine AW_block ?_
              | (with_reducible refine AW_ret ?_; simp [*])
              | (with_reducible refine AW_skip ?_; simp [*])
              | (with_reducible refine AW_exit ?_; simp [*])
              | (refine acall_same (s22 b b[i] (by omega)) ?_ ?_ ?_; (focus (simp [*] <;> fail)); (focus (simp [*] <;> fail)); simp [*])
              | (refine call_same (s22 b b[i] (by omega)) ?_ ?_ ?_; (focus (simp [*] <;> fail)); (focus (simp [*] <;> fail)); simp [*])
              | (refine acall_view (s22 b b[i] (by omega)) ?_ ?_ ?_; (focus (simp [*] <;> fail)); (focus (simp [*] <;> fail)); simp [*])
              | (refine call_view (s22 b b[i] (by omega)) ?_ ?_ ?_; (focus (simp [*] <;> fail)); (focus (simp [*] <;> fail)); simp [*])
              | with_reducible refine And.intro ?_ ?_
              | omega
              | (refine imp1 fun h => ?_))
            all_goals exact ⟨i + 1, by omega, by omega, by simp [hs.out]⟩
          · rw [if_pos (by simp [hst])] at hs
            replace hs := Hld.mk hs
            repeat' (first
              | with_reducible refine useK (by assumption) ?_
              | with_reducible refine useK2 (by assumption) ?_
              | with_reducible refine useX (by assumption) ?_
              | with_reducible refine AW_seqk fun K hK => ?_
              | (with_reducible refine AW_regionS rfl (by rw [hE]; decide) ?_; simp [*])
              | with_reducible refine AW_region (by rw [hE]; decide) ?_
              | ((with_reducible show RK _ _ _ _ _ _); refine RK_nilk ?_; simp [*])
              | ((with_reducible show RK _ _ _ _ _ _); refine RK_stepk fun K' hK' => ?_; simp [*])
              | with_reducible refine AW_drawq mixed (by rw [hE]; decide) (by simp [newOK]) ?_
              | ((with_reducible show RKQ _ _ _ _ _ _); refine RKQ_nilk ⟨by decide, ?_⟩)
              | ((with_reducible show RKQ _ _ _ _ _ _); refine RKQ_stepk fun K' hK' => ?_; simp [*])
              | (with_reducible refine AW_if fun X Y hX hY => ?_; simp [*])
              | with_reducible refine AW_block ?_
              | (with_reducible refine AW_ret ?_; simp [*])
              | (with_reducible refine AW_skip ?_; simp [*])
              | (with_reducible refine AW_exit ?_; simp [*])
              | (refine acall_same (s22 b b[i] (by omega)) ?_ ?_ ?_; (focus (simp [*] <;> fail)); (focus (simp [*] <;> fail)); simp [*])
              | (refine call_same (s22 b b[i] (by omega)) ?_ ?_ ?_; (focus (simp [*] <;> fail)); (focus (simp [*] <;> fail)); simp [*])
              | (refine acall_view (s22 b b[i] (by omega)) ?_ ?_ ?_; (focus (simp [*] <;> fail)); (focus (simp [*] <;> fail)); simp [*])
              | (refine call_view (s22 b b[i] (by omega)) ?_ ?_ ?_; (focus (simp [*] <;> fail)); (focus (simp [*] <;> fail)); simp [*])
              | with_reducible refine And.intro ?_ ?_
              | omega
              | (refine imp1 fun h => ?_))
            all_goals exact ⟨i + 1, by omega, by omega, by simp [hs.out]⟩
        · obtain rfl : i = b.length := by omega
          clear hFs hGs hFl hGl hF0
          repeat' (first
            | with_reducible refine useK (by assumption) ?_
            | with_reducible refine useK2 (by assumption) ?_
            | with_reducible refine useX (by assumption) ?_
            | with_reducible refine AW_seqk fun K hK => ?_
            | (with_reducible refine AW_regionS rfl (by rw [hE]; decide) ?_; simp [*])
            | with_reducible refine AW_region (by rw [hE]; decide) ?_
            | ((with_reducible show RK _ _ _ _ _ _); refine RK_nilk ?_; simp [*])
            | ((with_reducible show RK _ _ _ _ _ _); refine RK_stepk fun K' hK' => ?_; simp [*])
            | with_reducible refine AW_drawq mixed (by rw [hE]; decide) (by simp [newOK]) ?_
            | ((with_reducible show RKQ _ _ _ _ _ _); refine RKQ_nilk ⟨by decide, ?_⟩)
            | ((with_reducible show RKQ _ _ _ _ _ _); refine RKQ_stepk fun K' hK' => ?_; simp [*])
            | (with_reducible refine AW_if fun X Y hX hY => ?_; simp [*])
            | with_reducible refine AW_block ?_
            | (with_reducible refine AW_ret ?_; simp [*])
            | (with_reducible refine AW_skip ?_; simp [*])
            | (with_reducible refine AW_exit ?_; simp [*])
            | (refine acall_same (s27 a b c hc.out (by omega)) ?_ ?_ ?_; (focus (simp [*] <;> fail)); (focus (simp [*] <;> fail)); simp [*])
            | (refine call_same (s27 a b c hc.out (by omega)) ?_ ?_ ?_; (focus (simp [*] <;> fail)); (focus (simp [*] <;> fail)); simp [*])
            | (refine acall_view (s27 a b c hc.out (by omega)) ?_ ?_ ?_; (focus (simp [*] <;> fail)); (focus (simp [*] <;> fail)); simp [*])
            | (refine call_view (s27 a b c hc.out (by omega)) ?_ ?_ ?_; (focus (simp [*] <;> fail)); (focus (simp [*] <;> fail)); simp [*])
            | (refine acall_same (t1.out) ?_ ?_ ?_; (focus (simp [*] <;> fail)); (focus (simp [*] <;> fail)); simp [*])
            | (refine call_same (t1.out) ?_ ?_ ?_; (focus (simp [*] <;> fail)); (focus (simp [*] <;> fail)); simp [*])
            | (refine acall_view (t1.out) ?_ ?_ ?_; (focus (simp [*] <;> fail)); (focus (simp [*] <;> fail)); simp [*])
            | (refine call_view (t1.out) ?_ ?_ ?_; (focus (simp [*] <;> fail)); (focus (simp [*] <;> fail)); simp [*])
            | (refine acall_row (t3.out) ?_ (.inl ?_) ?_ ?_; (focus (simp [*] <;> fail)); (focus (simp [*] <;> fail)); (focus (simp [*] <;> fail)); simp [*])
            | (refine acall_same (s19 b a d hd.out (by omega)) ?_ ?_ ?_; (focus (simp [*] <;> fail)); (focus (simp [*] <;> fail)); simp [*])
            | (refine call_same (s19 b a d hd.out (by omega)) ?_ ?_ ?_; (focus (simp [*] <;> fail)); (focus (simp [*] <;> fail)); simp [*])
            | (refine acall_view (s19 b a d hd.out (by omega)) ?_ ?_ ?_; (focus (simp [*] <;> fail)); (focus (simp [*] <;> fail)); simp [*])
            | (refine call_view (s19 b a d hd.out (by omega)) ?_ ?_ ?_; (focus (simp [*] <;> fail)); (focus (simp [*] <;> fail)); simp [*])
            | (refine acall_same (t2.out) ?_ ?_ ?_; (focus (simp [*] <;> fail)); (focus (simp [*] <;> fail)); simp [*])
            | (refine call_same (t2.out) ?_ ?_ ?_; (focus (simp [*] <;> fail)); (focus (simp [*] <;> fail)); simp [*])
            | (refine acall_view (t2.out) ?_ ?_ ?_; (focus (simp [*] <;> fail)); (focus (simp [*] <;> fail)); simp [*])
            | (refine call_view (t2.out) ?_ ?_ ?_; (focus (simp [*] <;> fail)); (focus (simp [*] <;> fail)); simp [*])
            | (refine acall_same (s17 (cntR c) (cntR c) (by omega)) ?_ ?_ ?_; (focus (simp [*] <;> fail)); (focus (simp [*] <;> fail)); simp [*])
            | (refine call_same (s17 (cntR c) (cntR c) (by omega)) ?_ ?_ ?_; (focus (simp [*] <;> fail)); (focus (simp [*] <;> fail)); simp [*])
            | (refine acall_view (s17 (cntR c) (cntR c) (by omega)) ?_ ?_ ?_; (focus (simp [*] <;> fail)); (focus (simp [*] <;> fail)); simp [*])
            | (refine call_view (s17 (cntR c) (cntR c) (by omega)) ?_ ?_ ?_; (focus (simp [*] <;> fail)); (focus (simp [*] <;> fail)); simp [*])
            | with_reducible refine And.intro ?_ ?_
            | omega
            | (refine imp1 fun h => ?_))
    · refine PSpec_of Try.func8 rfl rfl (Nat.le_of_ble_eq_true rfl) (Nat.le_of_ble_eq_true rfl) ?_
      intro E hE
      repeat' (first
        | with_reducible refine useK (by assumption) ?_
        | with_reducible refine useK2 (by assumption) ?_
        | with_reducible refine useX (by assumption) ?_
        | with_reducible refine AW_seqk fun K hK => ?_
        | (with_reducible refine AW_regionS rfl (by rw [hE]; decide) ?_; simp [*])
        | with_reducible refine AW_region (by rw [hE]; decide) ?_
        | ((with_reducible show RK _ _ _ _ _ _); refine RK_nilk ?_; simp [*])
        | ((with_reducible show RK _ _ _ _ _ _); refine RK_stepk fun K' hK' => ?_; simp [*])
        | with_reducible refine AW_drawq mixed (by rw [hE]; decide) (by simp [newOK]) ?_
        | ((with_reducible show RKQ _ _ _ _ _ _); refine RKQ_nilk ⟨by decide, ?_⟩)
        | ((with_reducible show RKQ _ _ _ _ _ _); refine RKQ_stepk fun K' hK' => ?_; simp [*])
        | (with_reducible refine AW_if fun X Y hX hY => ?_; simp [*])
        | with_reducible refine AW_block ?_
        | (with_reducible refine AW_ret ?_; simp [*])
        | (with_reducible refine AW_skip ?_; simp [*])
        | (with_reducible refine AW_exit ?_; simp [*])
        | (refine acall_same (s14) ?_ ?_ ?_; (focus (simp [*] <;> fail)); (focus (simp [*] <;> fail)); simp [*])
        | (refine call_same (s14) ?_ ?_ ?_; (focus (simp [*] <;> fail)); (focus (simp [*] <;> fail)); simp [*])
        | (refine acall_view (s14) ?_ ?_ ?_; (focus (simp [*] <;> fail)); (focus (simp [*] <;> fail)); simp [*])
        | (refine call_view (s14) ?_ ?_ ?_; (focus (simp [*] <;> fail)); (focus (simp [*] <;> fail)); simp [*])
        | with_reducible refine And.intro ?_ ?_
        | omega
        | (refine imp1 fun h => ?_))
  · refine PSpec_of Try.func8 rfl rfl (Nat.le_of_ble_eq_true rfl) (Nat.le_of_ble_eq_true rfl) ?_
    intro E hE
    repeat' (first
      | with_reducible refine useK (by assumption) ?_
      | with_reducible refine useK2 (by assumption) ?_
      | with_reducible refine useX (by assumption) ?_
      | with_reducible refine AW_seqk fun K hK => ?_
      | (with_reducible refine AW_regionS rfl (by rw [hE]; decide) ?_; simp [*])
      | with_reducible refine AW_region (by rw [hE]; decide) ?_
      | ((with_reducible show RK _ _ _ _ _ _); refine RK_nilk ?_; simp [*])
      | ((with_reducible show RK _ _ _ _ _ _); refine RK_stepk fun K' hK' => ?_; simp [*])
      | with_reducible refine AW_drawq mixed (by rw [hE]; decide) (by simp [newOK]) ?_
      | ((with_reducible show RKQ _ _ _ _ _ _); refine RKQ_nilk ⟨by decide, ?_⟩)
      | ((with_reducible show RKQ _ _ _ _ _ _); refine RKQ_stepk fun K' hK' => ?_; simp [*])
      | (with_reducible refine AW_if fun X Y hX hY => ?_; simp [*])
      | with_reducible refine AW_block ?_
      | (with_reducible refine AW_ret ?_; simp [*])
      | (with_reducible refine AW_skip ?_; simp [*])
      | (with_reducible refine AW_exit ?_; simp [*])
      | (refine acall_same (s14) ?_ ?_ ?_; (focus (simp [*] <;> fail)); (focus (simp [*] <;> fail)); simp [*])
      | (refine call_same (s14) ?_ ?_ ?_; (focus (simp [*] <;> fail)); (focus (simp [*] <;> fail)); simp [*])
      | (refine acall_view (s14) ?_ ?_ ?_; (focus (simp [*] <;> fail)); (focus (simp [*] <;> fail)); simp [*])
      | (refine call_view (s14) ?_ ?_ ?_; (focus (simp [*] <;> fail)); (focus (simp [*] <;> fail)); simp [*])
      | with_reducible refine And.intro ?_ ?_
      | omega
      | (refine imp1 fun h => ?_))
theorem spec (avs : List AV) (h : ShapeL Try.prog 6 Try.f8.params.toList avs) : PSpec Try.prog 8 avs (.v (.bool true)) := by
  rw [Try.params8] at h
  obtain ⟨c1, r1, rfl, h1, c2, r2, rfl, h2, rfl⟩ := h
  obtain ⟨a, ha, -⟩ := avRs h1
  obtain ⟨b, hb, -⟩ := avRs h2
  rw [ha, hb]
  exact s a b
theorem contract (H : Type) (enc : TypeId × Value → H) (W : World) (base : Nat) (args : Array Value) (ds gs : List (DataW H)) (before : List MemPlace)
    (hval : ∀ (j : Nat) t v, Try.f8.params[j]? = some t → args[j]? = some v → Value.okWide Try.prog W .any base t v)
    (hW : DataW.Whole enc Try.prog Try.f8.params.toList Rows.reportMergesSpec.vars false W args.toList ds gs before) :
    Calls Try.prog 8 args W fun e W' => ∃ v, e = .returned v ∧ Rows.reportMergesSpec.post enc Try.prog Try.f8 false true false false W args v W' :=
  law_contract (m := 6) (tb := 4) spec (by rw [Try.params8]; intro t ht; simp at ht; rcases ht with rfl | rfl <;> kernel_rfl) rfl laidK
    (by rw [Try.params8]; intro t ht; simp at ht; rcases ht with rfl | rfl <;> exact ⟨by kernel_rfl, by decide +kernel⟩)
    (fun ds hd => by
      rw [Try.params8] at hd
      match ds, hd with
      | [d1, d2], _ => rfl) (by kernel_rfl) Try.underlying4 hval hW
theorem lifted (os : Os) (started : os.Started) (H : Type) (enc : TypeId × Value → H) :
    ReturnsInHanded {} Try.checked os 8 .any (Rows.reportMergesSpec.pre6 enc Try.prog Try.f8 Rows.reportMergesRow.domain false) (Rows.reportMergesSpec.post enc Try.prog Try.f8 false true false false) := by
  refine returnsInHanded_of_change (C := Try.checked) ownK started (by kernel_rfl) Try.func8
    (ChangeSpec.witness6 (enc := enc) (C := Try.checked) false ⟨#[], #[.slice .none 0 0, .slice .none 0 0], []⟩ 8 (by kernel_rfl) (by kernel_rfl) (by kernel_rfl) (by kernel_rfl)) ?_
  intro W base args ds gs before hval hW hcnd _
  exact contract H enc W base args ds gs before hval hW
theorem said : Rows.ReportMergesSaid :=
  OpenClaim.holds_of_wide 8 Try.f8 rfl rfl rfl rfl rfl rfl rfl ⟨rfl, rfl, rfl, rfl, rfl⟩ rfl rfl rfl rfl rfl (by kernel_rfl) Try.func8 (by kernel_rfl)
    (of_decide_eq_true (by kernel_rfl)) (by unfold Func.isWrapper; first | (rw [if_pos (by decide +kernel)]; kernel_rfl) | (rw [if_neg (by decide +kernel)]; exact ⟨rfl, rfl⟩))
    (fun os started H enc _ => lifted os started H enc)
end L8
end Go.Proofs.Ytmjckbokjjnmeaa
