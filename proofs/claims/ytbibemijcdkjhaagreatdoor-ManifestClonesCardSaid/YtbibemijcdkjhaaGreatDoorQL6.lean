/- ManifestClones: for any steps and any further step the law hands back true. Conditions: none. -/
import Derived.Test.YtbibemijcdkjhaaGreatDoorZA
import Derived.Test.YtbibemijcdkjhaaGreatDoorZC
import Derived.Test.YtbibemijcdkjhaaGreatDoorTie
import Derived.Test.YtbibemijcdkjhaaGreatDoorCards
import Derived.LaidMore
import Derived.Stop.Joined
set_option maxRecDepth 100000
set_option linter.unusedSimpArgs false
set_option linter.unusedVariables false
namespace Go.Proofs.YtbibemijcdkjhaaGreatDoor
open Go.Am Go.RowKit Go.ChangeShapes Go.WideShapes Go.ChangeAt

def laid3 : List (String × DataW Unit) := [("math/bits.deBruijn32tab", Rows.laid_math_bits_deBruijn32tab), ("math/bits.deBruijn64tab", Rows.laid_math_bits_deBruijn64tab), ("internal/strconv.uint64pow10", Rows.laid_internal_strconv_uint64pow10)]
theorem ownK : ownKnob Tryz.prog.godebug = none := by kernel_rfl
theorem laidK : laidOutB Tryz.prog = true := by kernel_rfl
theorem door_met (os : Os) (args : Array Value) : laidMetH Tryz.prog laid3 ((World.doorLaid Tryz.prog 400 os).forCall (fun _ _ => 0) ⟨#[], args, []⟩).memory :=
  laidMetH_of_parts3 (fuel := 8) (laidMet_of_run' 8 (by kernel_rfl) (by kernel_rfl)) (by kernel_rfl) (by kernel_rfl)
namespace L6
set_option maxHeartbeats 4000000 in
theorem law (l : List Stp) (hl : ∀ x ∈ l, StpOK x) (hll : l.length ≤ 9223372036854775807) (x : Stp) (hx : StpOK x) : PSpec Tryz.prog 6 [.sl 10 (l.map encX), encX x] (bA true) := by
  have hkn := Hld.mk s_known
  have hin := run_inv l (min l.length 24) (by omega)
  have hrun := Hld.mk (m_run l hl hll)
  generalize (runS l (min l.length 24)).2 = d at *
  generalize (runS l (min l.length 24)).1 = m at *
  have hed := Hld.mk (s_edit m x hin.wf hx hin.len hin.each)
  have hok := edW_ok m x
  generalize edW m x = e at *
  have hin' := step_inv (e := e) hin (by omega)
  have hm0 := Hld.mk (m_apply m e hin.wf hok)
  have hcl := Hld.mk (m_clone m hin.wf)
  have hag := Hld.mk (s_agrees m hin.wf)
  have hap := fun hc => step_ap (m := m) (e := e) hin hok hc
  have heq0 := s_mequal m m hin.wf hin.wf
  rw [decide_eq_true rfl] at heq0
  have heq1 := s_mequal (stepE m e) m hin'.wf hin.wf
  have hsm := s_sameH m (stepE m e) hin.wf hin'.wf
  have hcm : decide (m = stepE m e) = decide (stepE m e = m) := decide_eq_decide.2 eq_comm
  rw [hcm] at hsm
  have hne : chkE m e ≠ 0 → stepE m e = m := fun h => by unfold stepE; rw [if_neg h]
  have hnR := Hld.mk (n_equalR m)
  have hnL := Hld.mk (n_equalL m)
  have hnA := Hld.mk (n_apply e)
  have hnC := Hld.mk (n_check e)
  generalize hq : decide (stepE m e = m) = q at *
  have hq1 : chkE m e ≠ 0 → q = true := fun h => by rw [← hq, decide_eq_true (hne h)]
  clear hq hcm hne hok hin'
  generalize stepE m e = m' at *
  generalize chkE m e = c at *
  replace hap := Hld.mk hap
  replace heq0 := Hld.mk heq0
  replace heq1 := Hld.mk heq1
  replace hsm := Hld.mk hsm
  replace hq1 := Hld.mk hq1
  clear hin
  refine PSpec_of Tryz.func6 rfl rfl (Nat.le_of_ble_eq_true rfl) (Nat.le_of_ble_eq_true rfl) ?_
  intro E hE
  refine AW_seqt ⟨[(0, .sl 10 (l.map encX)), (3, .loc 3 0), (4, bA false)], [(3, .box 47 (encX x))]⟩ ?_ (by
    intro K hK
    repeat' (first
     | (with_reducible first | refine useK (by assumption) ?_ | refine useK2 (by assumption) ?_ | refine useX (by assumption) ?_ | refine AW_seqk fun K hK => ?_ | refine AW_block ?_) | (with_reducible refine AW_regionS rfl (by rw [hE]; decide) ?_; simp [*]) | with_reducible refine AW_region (by rw [hE]; decide) ?_ | ((with_reducible show RK _ _ _ _ _ _); first | (refine RK_nilk ?_; simp [*]) | (refine RK_stepk fun K' hK' => ?_; simp [*])) | with_reducible refine AW_drawq mixed (by rw [hE]; decide) (by simp [newOK]) ?_ | ((with_reducible show RKQ _ _ _ _ _ _); first | refine RKQ_nilk ⟨by decide, ?_⟩ | (refine RKQ_stepk fun K' hK' => ?_; simp [*])) | ((with_reducible first | refine AW_if fun X Y hX hY => ?_ | refine AW_ret ?_ | refine AW_skip ?_ | refine AW_exit ?_); simp [*]) | with_reducible refine And.intro ?_ ?_ | omega | (refine imp1 fun h => ?_))
    all_goals simp)
  refine AW_freeze 3 (cb := .box 47 (encX x)) (t := ⟨[(0, .sl 10 (l.map encX)), (3, .ep (encX x)), (4, bA false)], []⟩) (by simp) (by simp) (by simp) ?_
  refine AW_seqt ⟨[(5, .loc 911 0), (6, .loc 6 0), (8, bA true), (3, .ep (encX x)), (4, bA false)], [(6, .box 26 (encH m)), (911, rnM m 912), (912, mrowC m.lists)]⟩ ?_ (by
    intro K hK
    repeat' (first
     | (with_reducible first | refine useK (by assumption) ?_ | refine useK2 (by assumption) ?_ | refine useX (by assumption) ?_ | refine AW_seqk fun K hK => ?_ | refine AW_block ?_) | (with_reducible refine AW_regionS rfl (by rw [hE]; decide) ?_; simp [*]) | with_reducible refine AW_region (by rw [hE]; decide) ?_ | ((with_reducible show RK _ _ _ _ _ _); first | (refine RK_nilk ?_; simp [*]) | (refine RK_stepk fun K' hK' => ?_; simp [*])) | with_reducible refine AW_drawq mixed (by rw [hE]; decide) (by simp [newOK]) ?_ | ((with_reducible show RKQ _ _ _ _ _ _); first | refine RKQ_nilk ⟨by decide, ?_⟩ | (refine RKQ_stepk fun K' hK' => ?_; simp [*])) | ((with_reducible first | refine AW_if fun X Y hX hY => ?_ | refine AW_ret ?_ | refine AW_skip ?_ | refine AW_exit ?_); simp [*]) | with_reducible refine And.intro ?_ ?_ | omega | (refine imp1 fun h => ?_))
    refine acall_boxes hrun.out (nm []) (nm [(901, 911), (902, 912), (905, 915)]) [(901, rnM m 902), (902, mrowC m.lists), (905, rnE d)] (.tup [.loc 901 0, encH m, .own 905 5 0 d.length, bA true]) (by
      rintro res bf ⟨rfl, h1, h2, h3⟩
      refine ⟨rfl, ?_⟩
      simp
      exact ⟨h1, h2, h3⟩) (by simp) (by simp) (by simp) (by simp) (by simp) (by simp) (by simp) ?_
    simp
    repeat' (first
     | (with_reducible first | refine useK (by assumption) ?_ | refine useK2 (by assumption) ?_ | refine useX (by assumption) ?_ | refine AW_seqk fun K hK => ?_ | refine AW_block ?_) | (with_reducible refine AW_regionS rfl (by rw [hE]; decide) ?_; simp [*]) | with_reducible refine AW_region (by rw [hE]; decide) ?_ | ((with_reducible show RK _ _ _ _ _ _); first | (refine RK_nilk ?_; simp [*]) | (refine RK_stepk fun K' hK' => ?_; simp [*])) | with_reducible refine AW_drawq mixed (by rw [hE]; decide) (by simp [newOK]) ?_ | ((with_reducible show RKQ _ _ _ _ _ _); first | refine RKQ_nilk ⟨by decide, ?_⟩ | (refine RKQ_stepk fun K' hK' => ?_; simp [*])) | ((with_reducible first | refine AW_if fun X Y hX hY => ?_ | refine AW_ret ?_ | refine AW_skip ?_ | refine AW_exit ?_); simp [*]) | with_reducible refine And.intro ?_ ?_ | omega | (refine imp1 fun h => ?_))
    all_goals simp)
  refine AW_seqt ⟨[(5, .loc 911 0), (6, .loc 6 0), (3, .ep (encX x)), (4, bA false)], [(6, .box 26 (encH m)), (911, rnM m 912), (912, mrowC m.lists)]⟩ ?_ (by
    intro K hK
    repeat' (first
     | (with_reducible first | refine useK (by assumption) ?_ | refine useK2 (by assumption) ?_ | refine useX (by assumption) ?_ | refine AW_seqk fun K hK => ?_ | refine AW_block ?_) | (with_reducible refine AW_regionS rfl (by rw [hE]; decide) ?_; simp [*]) | with_reducible refine AW_region (by rw [hE]; decide) ?_ | ((with_reducible show RK _ _ _ _ _ _); first | (refine RK_nilk ?_; simp [*]) | (refine RK_stepk fun K' hK' => ?_; simp [*])) | with_reducible refine AW_drawq mixed (by rw [hE]; decide) (by simp [newOK]) ?_ | ((with_reducible show RKQ _ _ _ _ _ _); first | refine RKQ_nilk ⟨by decide, ?_⟩ | (refine RKQ_stepk fun K' hK' => ?_; simp [*])) | ((with_reducible first | refine AW_if fun X Y hX hY => ?_ | refine AW_ret ?_ | refine AW_skip ?_ | refine AW_exit ?_); simp [*]) | ((first | refine acall_same (hkn.out) ?_ ?_ ?_ | refine call_same (hkn.out) ?_ ?_ ?_); (focus (simp [*] <;> fail)); (focus (simp [*] <;> fail)); simp [*]) | ((first | refine acall_view (hkn.out) ?_ ?_ ?_ | refine call_view (hkn.out) ?_ ?_ ?_); (focus (simp [*] <;> fail)); (focus (simp [*] <;> fail)); simp [*]) | with_reducible refine And.intro ?_ ?_ | omega | (refine imp1 fun h => ?_))
    all_goals simp)
  refine AW_freezeD 912 (cb := mrowC m.lists) (t := ⟨[(5, .loc 911 0), (6, .loc 6 0), (3, .ep (encX x)), (4, bA false)], [(6, .box 26 (encH m)), (911, .box 72 (encM m))]⟩) (by simp) (by simp) (by
    simp
    refine ⟨fr_same (by simp), ?_⟩
    intro j a b ha hb
    rcases j with _ | _ | _ | j <;> simp at ha hb <;> subst ha <;> subst hb <;> simp) ?_
  refine AW_freeze 911 (cb := .box 72 (encM m)) (t := ⟨[(5, .ep (encM m)), (6, .loc 6 0), (3, .ep (encX x)), (4, bA false)], [(6, .box 26 (encH m))]⟩) (by simp) (by simp) (by simp) ?_
  refine AW_freeze 6 (cb := .box 26 (encH m)) (t := ⟨[(5, .ep (encM m)), (6, .ep (encH m)), (3, .ep (encX x)), (4, bA false)], []⟩) (by simp) (by simp) (by simp) ?_
  refine AW_seqt ⟨[(9, .loc 921 0), (5, .ep (encM m)), (6, .ep (encH m)), (3, .ep (encX x)), (4, bA false)], [(921, rnM m 922), (922, mrowC m.lists)]⟩ ?_ (by
    intro K hK
    repeat' (first
     | (with_reducible first | refine uK ?_ | refine uX ?_ | refine AW_seqk fun K hK => ?_ | refine AW_block ?_) | ((with_reducible first | refine rS hE ?_ | refine RK_nilk ?_ | refine RK_stepk fun K' hK' => ?_ | refine AW_if fun X Y hX hY => ?_ | refine AW_ret ?_ | refine AW_skip ?_ | refine AW_exit ?_); simp [*]) | with_reducible refine rL hE ?_ | with_reducible refine And.intro ?_ ?_ | omega | (refine imp1 fun h => ?_))
    refine acall_boxes hcl.out (nm []) (nm [(17, 921), (902, 922)]) [(17, clB m.first m.used m.lists.length), (902, clR m.lists)] (.loc 17 0) (by
      rintro res bf ⟨rfl, h1, h2⟩
      refine ⟨rfl, ?_⟩
      simp
      exact ⟨h1, h2⟩) (by simp) (by simp) (by simp) (by simp) (by simp) (by simp) (by simp) ?_
    simp
    repeat' (first
     | (with_reducible first | refine uK ?_ | refine uX ?_ | refine AW_seqk fun K hK => ?_ | refine AW_block ?_) | ((with_reducible first | refine rS hE ?_ | refine RK_nilk ?_ | refine RK_stepk fun K' hK' => ?_ | refine AW_if fun X Y hX hY => ?_ | refine AW_ret ?_ | refine AW_skip ?_ | refine AW_exit ?_); simp [*]) | with_reducible refine rL hE ?_ | with_reducible refine And.intro ?_ ?_ | omega | (refine imp1 fun h => ?_))
    all_goals simp)
  refine AW_seqt ⟨[(9, .loc 921 0), (5, .ep (encM m)), (6, .ep (encH m)), (3, .ep (encX x)), (4, bA false)], [(921, rnM m 922), (922, mrowC m.lists)]⟩ ?_ (by
    intro K hK
    repeat' (first
     | (with_reducible first | refine uK ?_ | refine uX ?_ | refine AW_seqk fun K hK => ?_ | refine AW_block ?_) | ((with_reducible first | refine rS hE ?_ | refine RK_nilk ?_ | refine RK_stepk fun K' hK' => ?_ | refine AW_if fun X Y hX hY => ?_ | refine AW_ret ?_ | refine AW_skip ?_ | refine AW_exit ?_); simp [*]) | with_reducible refine rL hE ?_ | with_reducible refine And.intro ?_ ?_ | omega | (refine imp1 fun h => ?_))
    refine acall_dv heq0.out ⟨dv_m (j := 922) (by simp) (by simp), .base (by simp), trivial⟩ rfl ?_
    simp
    repeat' (first
     | (with_reducible first | refine uK ?_ | refine uX ?_ | refine AW_seqk fun K hK => ?_ | refine AW_block ?_) | ((with_reducible first | refine rS hE ?_ | refine RK_nilk ?_ | refine RK_stepk fun K' hK' => ?_ | refine AW_if fun X Y hX hY => ?_ | refine AW_ret ?_ | refine AW_skip ?_ | refine AW_exit ?_); simp [*]) | with_reducible refine rL hE ?_ | with_reducible refine And.intro ?_ ?_ | omega | (refine imp1 fun h => ?_))
    refine acall_dv heq0.out ⟨.base (by simp), dv_m (j := 922) (by simp) (by simp), trivial⟩ rfl ?_
    simp
    repeat' (first
     | (with_reducible first | refine uK ?_ | refine uX ?_ | refine AW_seqk fun K hK => ?_ | refine AW_block ?_) | ((with_reducible first | refine rS hE ?_ | refine RK_nilk ?_ | refine RK_stepk fun K' hK' => ?_ | refine AW_if fun X Y hX hY => ?_ | refine AW_ret ?_ | refine AW_skip ?_ | refine AW_exit ?_); simp [*]) | with_reducible refine rL hE ?_ | (refine acall_same (hnR.out) ?_ ?_ ?_; (iterate 2 (focus (simp [*] <;> fail))); simp [*]) | (refine acall_view (hnR.out) ?_ ?_ ?_; (iterate 2 (focus (simp [*] <;> fail))); simp [*]) | with_reducible refine And.intro ?_ ?_ | omega | (refine imp1 fun h => ?_))
    all_goals simp)
  refine AW_seqt ⟨[(10, .loc 10 0), (9, .loc 921 0), (5, .ep (encM m)), (6, .ep (encH m)), (4, bA false)], [(10, .box 36 (encE e)), (921, rnM m 922), (922, mrowC m.lists)]⟩ ?_ (by
    intro K hK
    repeat' (first
     | (with_reducible first | refine uK ?_ | refine uX ?_ | refine AW_seqk fun K hK => ?_ | refine AW_block ?_) | ((with_reducible first | refine rS hE ?_ | refine RK_nilk ?_ | refine RK_stepk fun K' hK' => ?_ | refine AW_if fun X Y hX hY => ?_ | refine AW_ret ?_ | refine AW_skip ?_ | refine AW_exit ?_); simp [*]) | with_reducible refine rL hE ?_ | (refine acall_same (hed.out) ?_ ?_ ?_; (iterate 2 (focus (simp [*] <;> fail))); simp [*]) | (refine acall_view (hed.out) ?_ ?_ ?_; (iterate 2 (focus (simp [*] <;> fail))); simp [*]) | with_reducible refine And.intro ?_ ?_ | omega | (refine imp1 fun h => ?_))
    all_goals simp)
  refine AW_freeze 10 (cb := .box 36 (encE e)) (t := ⟨[(10, .ep (encE e)), (9, .loc 921 0), (5, .ep (encM m)), (6, .ep (encH m)), (4, bA false)], [(921, rnM m 922), (922, mrowC m.lists)]⟩) (by simp) (by simp) (by simp) ?_
  refine AW_seqt ⟨[(11, iA c), (10, .ep (encE e)), (9, .loc 921 0), (5, .ep (encM m)), (6, .ep (encH m)), (4, bA false)], [(921, rnM m' 923), (923, mrowC m'.lists)]⟩ ?_ (by
    intro K hK
    repeat' (first
     | (with_reducible first | refine uK ?_ | refine uX ?_ | refine AW_seqk fun K hK => ?_ | refine AW_block ?_) | ((with_reducible first | refine rS hE ?_ | refine RK_nilk ?_ | refine RK_stepk fun K' hK' => ?_ | refine AW_if fun X Y hX hY => ?_ | refine AW_ret ?_ | refine AW_skip ?_ | refine AW_exit ?_); simp [*]) | with_reducible refine rL hE ?_ | with_reducible refine And.intro ?_ ?_ | omega | (refine imp1 fun h => ?_))
    refine acall_boxes hm0.out (nm [(1000000, 921), (1000001, 922)]) (nm [(1000000, 921), (900, 923)]) [(1000000, mboxC m'.first m'.used m'.lists.length 900), (900, mrowC m'.lists)] (iA c) (by
      rintro res bf ⟨rfl, h1, h2⟩
      refine ⟨rfl, ?_⟩
      simp
      exact ⟨h1, h2⟩) (by simp) (by simp) (by simp) (by simp) (by simp) (by simp) (by simp) ?_
    simp
    repeat' (first
     | (with_reducible first | refine uK ?_ | refine uX ?_ | refine AW_seqk fun K hK => ?_ | refine AW_block ?_) | ((with_reducible first | refine rS hE ?_ | refine RK_nilk ?_ | refine RK_stepk fun K' hK' => ?_ | refine AW_if fun X Y hX hY => ?_ | refine AW_ret ?_ | refine AW_skip ?_ | refine AW_exit ?_); simp [*]) | with_reducible refine rL hE ?_ | with_reducible refine And.intro ?_ ?_ | omega | (refine imp1 fun h => ?_))
    all_goals simp)
  refine AW_freezeD 923 (cb := mrowC m'.lists) (t := ⟨[(11, iA c), (10, .ep (encE e)), (9, .loc 921 0), (5, .ep (encM m)), (6, .ep (encH m)), (4, bA false)], [(921, .box 72 (encM m'))]⟩) (by simp) (by simp) (by
    simp
    intro j a b ha hb
    rcases j with _ | _ | _ | j <;> simp at ha hb <;> subst ha <;> subst hb <;> simp) ?_
  refine AW_freeze 921 (cb := .box 72 (encM m')) (t := ⟨[(11, iA c), (10, .ep (encE e)), (9, .ep (encM m')), (5, .ep (encM m)), (6, .ep (encH m)), (4, bA false)], []⟩) (by simp) (by simp) (by simp) ?_
  refine AW_seqt ⟨[(12, nilM), (11, iA c), (10, .ep (encE e)), (9, .ep (encM m')), (5, .ep (encM m)), (6, .ep (encH m)), (4, bA false)], []⟩ ?_ (by
    intro K hK
    repeat' (first
     | (with_reducible first | refine uK ?_ | refine uX ?_ | refine AW_seqk fun K hK => ?_ | refine AW_block ?_) | ((with_reducible first | refine rS hE ?_ | refine RK_nilk ?_ | refine RK_stepk fun K' hK' => ?_ | refine AW_if fun X Y hX hY => ?_ | refine AW_ret ?_ | refine AW_skip ?_ | refine AW_exit ?_); simp [*]) | with_reducible refine rL hE ?_ | with_reducible refine And.intro ?_ ?_ | omega | (refine imp1 fun h => ?_))
    all_goals simp)
  refine AW_seqt ⟨[(14, iA 1), (12, nilM), (11, iA c), (10, .ep (encE e)), (9, .ep (encM m')), (5, .ep (encM m)), (6, .ep (encH m)), (4, bA false)], []⟩ ?_ (by
    intro K hK
    repeat' (first
     | (with_reducible first | refine uK ?_ | refine uX ?_ | refine AW_seqk fun K hK => ?_ | refine AW_block ?_) | ((with_reducible first | refine rS hE ?_ | refine RK_nilk ?_ | refine RK_stepk fun K' hK' => ?_ | refine AW_if fun X Y hX hY => ?_ | refine AW_ret ?_ | refine AW_skip ?_ | refine AW_exit ?_); simp [*]) | with_reducible refine rL hE ?_ | (refine acall_same (n_at 0) ?_ ?_ ?_; (iterate 2 (focus (simp [*] <;> fail))); simp [*]) | (refine acall_view (n_at 0) ?_ ?_ ?_; (iterate 2 (focus (simp [*] <;> fail))); simp [*]) | with_reducible refine And.intro ?_ ?_ | omega | (refine imp1 fun h => ?_))
    all_goals simp)
  clear hm0 hcl heq0 hed hrun hkn
  by_cases hc : c = 0
  · have hap2 := Hld.mk (hap.out hc)
    clear hap hq1
    subst hc
    cases q
    all_goals
      repeat' (first
       | (with_reducible first | refine useK (by assumption) ?_ | refine useK2 (by assumption) ?_ | refine useX (by assumption) ?_ | refine AW_seqk fun K hK => ?_ | refine AW_block ?_) | (with_reducible refine AW_regionS rfl (by rw [hE]; decide) ?_; simp [*]) | with_reducible refine AW_region (by rw [hE]; decide) ?_ | ((with_reducible show RK _ _ _ _ _ _); first | (refine RK_nilk ?_; simp [*]) | (refine RK_stepk fun K' hK' => ?_; simp [*])) | with_reducible refine AW_drawq mixed (by rw [hE]; decide) (by simp [newOK]) ?_ | ((with_reducible show RKQ _ _ _ _ _ _); first | refine RKQ_nilk ⟨by decide, ?_⟩ | (refine RKQ_stepk fun K' hK' => ?_; simp [*])) | ((with_reducible first | refine AW_if fun X Y hX hY => ?_ | refine AW_ret ?_ | refine AW_skip ?_ | refine AW_exit ?_); simp [*]) | ((first | refine acall_same (hag.out) ?_ ?_ ?_ | refine call_same (hag.out) ?_ ?_ ?_); (focus (simp [*] <;> fail)); (focus (simp [*] <;> fail)); simp [*]) | ((first | refine acall_view (hag.out) ?_ ?_ ?_ | refine call_view (hag.out) ?_ ?_ ?_); (focus (simp [*] <;> fail)); (focus (simp [*] <;> fail)); simp [*]) | ((first | refine acall_same (heq1.out) ?_ ?_ ?_ | refine call_same (heq1.out) ?_ ?_ ?_); (focus (simp [*] <;> fail)); (focus (simp [*] <;> fail)); simp [*]) | ((first | refine acall_view (heq1.out) ?_ ?_ ?_ | refine call_view (heq1.out) ?_ ?_ ?_); (focus (simp [*] <;> fail)); (focus (simp [*] <;> fail)); simp [*]) | ((first | refine acall_same (hap2.out) ?_ ?_ ?_ | refine call_same (hap2.out) ?_ ?_ ?_); (focus (simp [*] <;> fail)); (focus (simp [*] <;> fail)); simp [*]) | ((first | refine acall_view (hap2.out) ?_ ?_ ?_ | refine call_view (hap2.out) ?_ ?_ ?_); (focus (simp [*] <;> fail)); (focus (simp [*] <;> fail)); simp [*]) | ((first | refine acall_same (hsm.out) ?_ ?_ ?_ | refine call_same (hsm.out) ?_ ?_ ?_); (focus (simp [*] <;> fail)); (focus (simp [*] <;> fail)); simp [*]) | ((first | refine acall_view (hsm.out) ?_ ?_ ?_ | refine call_view (hsm.out) ?_ ?_ ?_); (focus (simp [*] <;> fail)); (focus (simp [*] <;> fail)); simp [*]) | ((first | refine acall_same (hnL.out) ?_ ?_ ?_ | refine call_same (hnL.out) ?_ ?_ ?_); (focus (simp [*] <;> fail)); (focus (simp [*] <;> fail)); simp [*]) | ((first | refine acall_view (hnL.out) ?_ ?_ ?_ | refine call_view (hnL.out) ?_ ?_ ?_); (focus (simp [*] <;> fail)); (focus (simp [*] <;> fail)); simp [*]) | ((first | refine acall_same (hnA.out) ?_ ?_ ?_ | refine call_same (hnA.out) ?_ ?_ ?_); (focus (simp [*] <;> fail)); (focus (simp [*] <;> fail)); simp [*]) | ((first | refine acall_view (hnA.out) ?_ ?_ ?_ | refine call_view (hnA.out) ?_ ?_ ?_); (focus (simp [*] <;> fail)); (focus (simp [*] <;> fail)); simp [*]) | ((first | refine acall_same (hnC.out) ?_ ?_ ?_ | refine call_same (hnC.out) ?_ ?_ ?_); (focus (simp [*] <;> fail)); (focus (simp [*] <;> fail)); simp [*]) | ((first | refine acall_view (hnC.out) ?_ ?_ ?_ | refine call_view (hnC.out) ?_ ?_ ?_); (focus (simp [*] <;> fail)); (focus (simp [*] <;> fail)); simp [*]) | ((first | refine acall_same (n_equal) ?_ ?_ ?_ | refine call_same (n_equal) ?_ ?_ ?_); (focus (simp [*] <;> fail)); (focus (simp [*] <;> fail)); simp [*]) | ((first | refine acall_view (n_equal) ?_ ?_ ?_ | refine call_view (n_equal) ?_ ?_ ?_); (focus (simp [*] <;> fail)); (focus (simp [*] <;> fail)); simp [*]) | ((first | refine acall_same (n_clone) ?_ ?_ ?_ | refine call_same (n_clone) ?_ ?_ ?_); (focus (simp [*] <;> fail)); (focus (simp [*] <;> fail)); simp [*]) | ((first | refine acall_view (n_clone) ?_ ?_ ?_ | refine call_view (n_clone) ?_ ?_ ?_); (focus (simp [*] <;> fail)); (focus (simp [*] <;> fail)); simp [*]) | ((first | refine acall_same (n_first) ?_ ?_ ?_ | refine call_same (n_first) ?_ ?_ ?_); (focus (simp [*] <;> fail)); (focus (simp [*] <;> fail)); simp [*]) | ((first | refine acall_view (n_first) ?_ ?_ ?_ | refine call_view (n_first) ?_ ?_ ?_); (focus (simp [*] <;> fail)); (focus (simp [*] <;> fail)); simp [*]) | ((first | refine acall_same (n_last) ?_ ?_ ?_ | refine call_same (n_last) ?_ ?_ ?_); (focus (simp [*] <;> fail)); (focus (simp [*] <;> fail)); simp [*]) | ((first | refine acall_view (n_last) ?_ ?_ ?_ | refine call_view (n_last) ?_ ?_ ?_); (focus (simp [*] <;> fail)); (focus (simp [*] <;> fail)); simp [*]) | ((first | refine acall_same (n_next) ?_ ?_ ?_ | refine call_same (n_next) ?_ ?_ ?_); (focus (simp [*] <;> fail)); (focus (simp [*] <;> fail)); simp [*]) | ((first | refine acall_view (n_next) ?_ ?_ ?_ | refine call_view (n_next) ?_ ?_ ?_); (focus (simp [*] <;> fail)); (focus (simp [*] <;> fail)); simp [*]) | ((first | refine acall_same (n_live) ?_ ?_ ?_ | refine call_same (n_live) ?_ ?_ ?_); (focus (simp [*] <;> fail)); (focus (simp [*] <;> fail)); simp [*]) | ((first | refine acall_view (n_live) ?_ ?_ ?_ | refine call_view (n_live) ?_ ?_ ?_); (focus (simp [*] <;> fail)); (focus (simp [*] <;> fail)); simp [*]) | ((first | refine acall_same (n_snap) ?_ ?_ ?_ | refine call_same (n_snap) ?_ ?_ ?_); (focus (simp [*] <;> fail)); (focus (simp [*] <;> fail)); simp [*]) | ((first | refine acall_view (n_snap) ?_ ?_ ?_ | refine call_view (n_snap) ?_ ?_ ?_); (focus (simp [*] <;> fail)); (focus (simp [*] <;> fail)); simp [*]) | with_reducible refine And.intro ?_ ?_ | omega | (refine imp1 fun h => ?_))
  · have hq2 := hq1.out hc
    subst hq2
    repeat' (first
     | (with_reducible first | refine useK (by assumption) ?_ | refine useK2 (by assumption) ?_ | refine useX (by assumption) ?_ | refine AW_seqk fun K hK => ?_ | refine AW_block ?_) | (with_reducible refine AW_regionS rfl (by rw [hE]; decide) ?_; simp [*]) | with_reducible refine AW_region (by rw [hE]; decide) ?_ | ((with_reducible show RK _ _ _ _ _ _); first | (refine RK_nilk ?_; simp [*]) | (refine RK_stepk fun K' hK' => ?_; simp [*])) | with_reducible refine AW_drawq mixed (by rw [hE]; decide) (by simp [newOK]) ?_ | ((with_reducible show RKQ _ _ _ _ _ _); first | refine RKQ_nilk ⟨by decide, ?_⟩ | (refine RKQ_stepk fun K' hK' => ?_; simp [*])) | ((with_reducible first | refine AW_if fun X Y hX hY => ?_ | refine AW_ret ?_ | refine AW_skip ?_ | refine AW_exit ?_); simp [*]) | ((first | refine acall_same (hag.out) ?_ ?_ ?_ | refine call_same (hag.out) ?_ ?_ ?_); (focus (simp [*] <;> fail)); (focus (simp [*] <;> fail)); simp [*]) | ((first | refine acall_view (hag.out) ?_ ?_ ?_ | refine call_view (hag.out) ?_ ?_ ?_); (focus (simp [*] <;> fail)); (focus (simp [*] <;> fail)); simp [*]) | ((first | refine acall_same (heq1.out) ?_ ?_ ?_ | refine call_same (heq1.out) ?_ ?_ ?_); (focus (simp [*] <;> fail)); (focus (simp [*] <;> fail)); simp [*]) | ((first | refine acall_view (heq1.out) ?_ ?_ ?_ | refine call_view (heq1.out) ?_ ?_ ?_); (focus (simp [*] <;> fail)); (focus (simp [*] <;> fail)); simp [*]) | ((first | refine acall_same (hnL.out) ?_ ?_ ?_ | refine call_same (hnL.out) ?_ ?_ ?_); (focus (simp [*] <;> fail)); (focus (simp [*] <;> fail)); simp [*]) | ((first | refine acall_view (hnL.out) ?_ ?_ ?_ | refine call_view (hnL.out) ?_ ?_ ?_); (focus (simp [*] <;> fail)); (focus (simp [*] <;> fail)); simp [*]) | ((first | refine acall_same (hnA.out) ?_ ?_ ?_ | refine call_same (hnA.out) ?_ ?_ ?_); (focus (simp [*] <;> fail)); (focus (simp [*] <;> fail)); simp [*]) | ((first | refine acall_view (hnA.out) ?_ ?_ ?_ | refine call_view (hnA.out) ?_ ?_ ?_); (focus (simp [*] <;> fail)); (focus (simp [*] <;> fail)); simp [*]) | ((first | refine acall_same (hnC.out) ?_ ?_ ?_ | refine call_same (hnC.out) ?_ ?_ ?_); (focus (simp [*] <;> fail)); (focus (simp [*] <;> fail)); simp [*]) | ((first | refine acall_view (hnC.out) ?_ ?_ ?_ | refine call_view (hnC.out) ?_ ?_ ?_); (focus (simp [*] <;> fail)); (focus (simp [*] <;> fail)); simp [*]) | ((first | refine acall_same (n_equal) ?_ ?_ ?_ | refine call_same (n_equal) ?_ ?_ ?_); (focus (simp [*] <;> fail)); (focus (simp [*] <;> fail)); simp [*]) | ((first | refine acall_view (n_equal) ?_ ?_ ?_ | refine call_view (n_equal) ?_ ?_ ?_); (focus (simp [*] <;> fail)); (focus (simp [*] <;> fail)); simp [*]) | ((first | refine acall_same (n_clone) ?_ ?_ ?_ | refine call_same (n_clone) ?_ ?_ ?_); (focus (simp [*] <;> fail)); (focus (simp [*] <;> fail)); simp [*]) | ((first | refine acall_view (n_clone) ?_ ?_ ?_ | refine call_view (n_clone) ?_ ?_ ?_); (focus (simp [*] <;> fail)); (focus (simp [*] <;> fail)); simp [*]) | ((first | refine acall_same (n_first) ?_ ?_ ?_ | refine call_same (n_first) ?_ ?_ ?_); (focus (simp [*] <;> fail)); (focus (simp [*] <;> fail)); simp [*]) | ((first | refine acall_view (n_first) ?_ ?_ ?_ | refine call_view (n_first) ?_ ?_ ?_); (focus (simp [*] <;> fail)); (focus (simp [*] <;> fail)); simp [*]) | ((first | refine acall_same (n_last) ?_ ?_ ?_ | refine call_same (n_last) ?_ ?_ ?_); (focus (simp [*] <;> fail)); (focus (simp [*] <;> fail)); simp [*]) | ((first | refine acall_view (n_last) ?_ ?_ ?_ | refine call_view (n_last) ?_ ?_ ?_); (focus (simp [*] <;> fail)); (focus (simp [*] <;> fail)); simp [*]) | ((first | refine acall_same (n_next) ?_ ?_ ?_ | refine call_same (n_next) ?_ ?_ ?_); (focus (simp [*] <;> fail)); (focus (simp [*] <;> fail)); simp [*]) | ((first | refine acall_view (n_next) ?_ ?_ ?_ | refine call_view (n_next) ?_ ?_ ?_); (focus (simp [*] <;> fail)); (focus (simp [*] <;> fail)); simp [*]) | ((first | refine acall_same (n_live) ?_ ?_ ?_ | refine call_same (n_live) ?_ ?_ ?_); (focus (simp [*] <;> fail)); (focus (simp [*] <;> fail)); simp [*]) | ((first | refine acall_view (n_live) ?_ ?_ ?_ | refine call_view (n_live) ?_ ?_ ?_); (focus (simp [*] <;> fail)); (focus (simp [*] <;> fail)); simp [*]) | ((first | refine acall_same (n_snap) ?_ ?_ ?_ | refine call_same (n_snap) ?_ ?_ ?_); (focus (simp [*] <;> fail)); (focus (simp [*] <;> fail)); simp [*]) | ((first | refine acall_view (n_snap) ?_ ?_ ?_ | refine call_view (n_snap) ?_ ?_ ?_); (focus (simp [*] <;> fail)); (focus (simp [*] <;> fail)); simp [*]) | with_reducible refine And.intro ?_ ?_ | omega | (refine imp1 fun h => ?_))
theorem spec (avs : List AV) (h : ShapeL Tryz.prog 6 Tryz.f6.params.toList avs) : PSpec Tryz.prog 6 avs (.v (.bool true)) := by
  rw [Tryz.params6] at h
  obtain ⟨c1, r1, rfl, h1, c2, r2, rfl, h2, rfl⟩ := h
  obtain ⟨l, rfl, hl, hll⟩ := avXs h1
  obtain ⟨x, hx, hxo⟩ := avX h2
  rw [hx, show mkAV Tryz.prog 22 [.sl 10 (l.map encX)] = .sl 10 (l.map encX) by simp [mkAV]]
  exact law l hl hll x hxo
theorem contract (H : Type) (enc : TypeId × Value → H) (W : World) (base : Nat) (args : Array Value) (ds gs : List (DataW H)) (before : List MemPlace)
    (hval : ∀ (j : Nat) t v, Tryz.f6.params[j]? = some t → args[j]? = some v → Value.okWide Tryz.prog W .any base t v)
    (hW : DataW.Whole enc Tryz.prog Tryz.f6.params.toList Rows.manifestClonesSpec.vars false W args.toList ds gs before) :
    Calls Tryz.prog 6 args W fun e W' => ∃ v, e = .returned v ∧ Rows.manifestClonesSpec.post enc Tryz.prog Tryz.f6 false true false false W args v W' :=
  law_contract (m := 6) (tb := 4) spec (by rw [Tryz.params6]; intro t ht; simp at ht; rcases ht with rfl | rfl <;> kernel_rfl) rfl laidK
    (by rw [Tryz.params6]; intro t ht; simp at ht; rcases ht with rfl | rfl <;> exact ⟨by kernel_rfl, by decide +kernel⟩)
    (fun ds hd => by
      rw [Tryz.params6] at hd
      match ds, hd with
      | [d1, d2], _ => rfl) (by kernel_rfl) Tryz.underlying4 hval hW
theorem lifted (os : Os) (started : os.Started) (H : Type) (enc : TypeId × Value → H) :
    ReturnsInHanded {} Tryz.checked os 6 .any (fun w args => (Rows.manifestClonesSpec.pre enc Tryz.prog Tryz.f6 [] false w args ∧ laidMetH Tryz.prog laid3 w) ∧ sizedMet enc Tryz.prog Tryz.f6 (OpenSpec.ofChange Rows.manifestClonesSpec) false w args) (Rows.manifestClonesSpec.post enc Tryz.prog Tryz.f6 false true false false) := by
  refine returnsInHanded_of_change_and (C := Tryz.checked) (X := fun w _ => laidMetH Tryz.prog laid3 w) (fun _ _ _ hh h => h.of_heap hh) ownK started (by kernel_rfl) Tryz.func6
    (ChangeSpec.witness_shaped (enc := enc) (C := Tryz.checked) (os := os) (X := fun w _ => laidMetH Tryz.prog laid3 w) false (World.doorLaid Tryz.prog 400 os) #[.slice .none 0 0, .agg #[.int .u8 0, .int .u8 0, .int .u8 0, .int .u8 0, .int .i8 0, .int .i8 0, .int .i8 0, .int .i8 0, .int .i8 0, .int .i8 0]] 8 rfl (World.shaped_of_RefB (by kernel_rfl) (by kernel_rfl)) (by kernel_rfl) (by kernel_rfl) (by kernel_rfl) (door_met os _)) ?_
  intro W base args ds gs before hval hW _ _ _ _
  exact contract H enc W base args ds gs before hval hW
theorem bare : Rows.ManifestClonesSaid :=
  OpenClaim.holds_of_wide 6 Tryz.f6 rfl rfl rfl rfl rfl rfl rfl ⟨rfl, rfl, rfl, rfl, rfl⟩ rfl rfl rfl rfl rfl (by kernel_rfl) Tryz.func6 (by kernel_rfl)
    (of_decide_eq_true (by kernel_rfl)) (by unfold Func.isWrapper; first | (rw [if_pos (by decide +kernel)]; kernel_rfl) | (rw [if_neg (by decide +kernel)]; exact ⟨rfl, rfl⟩))
    (fun os started H enc _ => lifted os started H enc)
theorem said : Rows.ManifestClonesCardSaid :=
  Claim7.holds_tied_plain_at .later [] [.data, .data, .data] true (true, "75ed40ecdae35fe39caa681945729e8be498e0e2caeb3fe34fea808459d7c1ae") true
    bare (fun _ h => by cases h) (by kernel_rfl) (fun _ h => by cases h) manifestClones_row_tie rfl ⟨rfl, rfl⟩ (by kernel_rfl) rfl
    (fun f fn hf hfn => by
      obtain rfl : f = 6 := Option.some.inj ((show Tryz.prog.funcNamed "viator/viatorlaw40.ManifestClones" = some 6 by kernel_rfl).symm.trans hf) |>.symm
      obtain rfl : fn = Tryz.f6 := (Option.some.inj (Tryz.func6.symm.trans hfn)).symm
      exact ⟨by kernel_rfl, fun j t ht => by
        rw [Tryz.params6] at ht
        have hm : t ∈ Tryz.f6.params.toList := by rw [Tryz.params6]; simpa using Array.mem_of_getElem? ht
        have hall : (Tryz.f6.params.toList.all fun u => !Tryz.prog.wantsStandIn u) = true := by kernel_rfl
        exact (show Tryz.prog.wantsStandIn t = false by simpa using List.all_eq_true.1 hall t hm)⟩)
    (by kernel_rfl)
end L6
end Go.Proofs.YtbibemijcdkjhaaGreatDoor
