/- ManifestBegins: for any belief, any greatest id and any segments the law hands back true. Conditions: none. -/
import Derived.Test.YtbibemijcdkjhaaDoorZ5
import Derived.Test.YtbibemijcdkjhaaDoorZ8
import Derived.Test.YtbibemijcdkjhaaDoorZ9
import Derived.Test.YtbibemijcdkjhaaDoorTie
import Derived.Test.YtbibemijcdkjhaaDoorCards
import Derived.LaidMore
import Derived.Stop.Joined
set_option maxRecDepth 100000
set_option linter.unusedSimpArgs false
set_option linter.unusedVariables false
namespace Go.Proofs.YtbibemijcdkjhaaDoor
open Go.Am Go.RowKit Go.ChangeShapes Go.WideShapes Go.ChangeAt

def laid3 : List (String × DataW Unit) := [("math/bits.deBruijn32tab", Rows.laid_math_bits_deBruijn32tab), ("math/bits.deBruijn64tab", Rows.laid_math_bits_deBruijn64tab), ("internal/strconv.uint64pow10", Rows.laid_internal_strconv_uint64pow10)]
theorem ownK : ownKnob Tryd.prog.godebug = none := by kernel_rfl
theorem laidK : laidOutB Tryd.prog = true := by kernel_rfl
theorem door_met (os : Os) (args : Array Value) : laidMetH Tryd.prog laid3 ((World.doorLaid Tryd.prog 400 os).forCall (fun _ _ => 0) ⟨#[], args, []⟩).memory :=
  laidMetH_of_parts3 (fuel := 8) (laidMet_of_run' 8 (by kernel_rfl) (by kernel_rfl)) (by kernel_rfl) (by kernel_rfl)
open Kn
theorem inv0 : Inv M0 0 := ⟨w0, by decide, by simp [M0], by decide, by decide⟩
namespace L3
abbrev nE (b u : Int) (add : List Seg) : AV := .st [iA 4, iA b, iA u, nilA, segL add]
abbrev bE (b u : Int) (add : List Seg) : Ed := ⟨4, b, u, [], add⟩
theorem sleE (b u : Int) (add : List Seg) : SLe (nE b u add) (encE (bE b u add)) := sle5 _ _ _ _ _ _ _ (SLe_nil _ _) (SLe_refl _) rfl rfl
/-- A second Begin leaves the state. -/
theorem again (e : Ed) (hk : e.kind = 4) (h : chkE M0 e = 0) : stepE (stepE M0 e) e = stepE M0 e := by
  have h1 : stepE M0 e = appE M0 e := by unfold stepE; rw [if_pos h]
  rw [h1]
  by_cases h2 : chkE (appE M0 e) e = 0
  · have hi := app_inv inv0 (by omega) (chk_zero h)
    have hu := ((belief_zero (chk_zero h2).belief).1 hk).1
    have hm := unt_of hi.wf hu
    unfold stepE
    rw [if_pos h2]
    conv => lhs; rw [hm]
    rfl
  · unfold stepE
    rw [if_neg h2]
set_option maxHeartbeats 4000000 in
theorem law (b u : Int) (add : List Seg) (hal : add.length ≤ 9223372036854775807) : PSpec Tryd.prog 5 [iA b, iA u, segL add] (bA true) := by
  have hkn := Hld.mk s_known
  by_cases hlen : 8 < (add.length : Int)
  · refine PSpec_of Tryd.func5 rfl rfl (Nat.le_of_ble_eq_true rfl) (Nat.le_of_ble_eq_true rfl) ?_
    intro E hE
    repeat' (first
     | (with_reducible first | refine useK (by assumption) ?_ | refine useK2 (by assumption) ?_ | refine useX (by assumption) ?_ | refine AW_seqk fun K hK => ?_ | refine AW_block ?_)
     | (with_reducible refine AW_regionS rfl (by rw [hE]; decide) ?_; simp [*]) | with_reducible refine AW_region (by rw [hE]; decide) ?_ | ((with_reducible show RK _ _ _ _ _ _); first | (refine RK_nilk ?_; simp [*]) | (refine RK_stepk fun K' hK' => ?_; simp [*]))
     | with_reducible refine AW_drawq mixed (by rw [hE]; decide) (by simp [newOK]) ?_ | ((with_reducible show RKQ _ _ _ _ _ _); first | refine RKQ_nilk ⟨by decide, ?_⟩ | (refine RKQ_stepk fun K' hK' => ?_; simp [*]))
     | ((with_reducible first | refine AW_if fun X Y hX hY => ?_ | refine AW_ret ?_ | refine AW_skip ?_ | refine AW_exit ?_); simp [*])
     | ((first | refine acall_same (hkn.out) ?_ ?_ ?_ | refine call_same (hkn.out) ?_ ?_ ?_); (focus (simp [*] <;> fail)); (focus (simp [*] <;> fail)); simp [*])
     | ((first | refine acall_view (hkn.out) ?_ ?_ ?_ | refine call_view (hkn.out) ?_ ?_ ?_); (focus (simp [*] <;> fail)); (focus (simp [*] <;> fail)); simp [*])
     | with_reducible refine And.intro ?_ ?_ | omega | (refine imp1 fun h => ?_))
  have hOK : EdOK (bE b u add) := ⟨by simp, by simp; omega⟩
  have hstep := step_inv (e := bE b u add) inv0 (by omega)
  have hag0 := s_agrees M0 w0
  have hag1 := s_agrees (stepE M0 (bE b u add)) hstep.wf
  have hc0 : PSpec Tryd.prog 12 [encH M0, nE b u add] (iA (chkE M0 (bE b u add))) := (s_scheck M0 (bE b u add) inv0 hOK).args ⟨SLe_refl _, sleE b u add, trivial⟩
  have hc1 : PSpec Tryd.prog 12 [encH (stepE M0 (bE b u add)), nE b u add] (iA (chkE (stepE M0 (bE b u add)) (bE b u add))) := (s_scheck (stepE M0 (bE b u add)) (bE b u add) hstep hOK).args ⟨SLe_refl _, sleE b u add, trivial⟩
  have hm0 : MSpec Tryd.prog 15 [.loc 1000000 0, nE b u add] [(1000000, mboxC (M0).first (M0).used (M0).lists.length 1000001), (1000001, mrowC (M0).lists)]
    (fun res bf => res = iA (chkE (M0) (bE b u add)) ∧ bf 1000000 = some (mboxC (stepE (M0) (bE b u add)).first (stepE (M0) (bE b u add)).used (stepE (M0) (bE b u add)).lists.length 900) ∧ bf 900 = some (mrowC (stepE (M0) (bE b u add)).lists)) := (m_apply M0 (bE b u add) w0 hOK).args ⟨SLe_refl _, sleE b u add, trivial⟩
  have hm1 : MSpec Tryd.prog 15 [.loc 1000000 0, nE b u add] [(1000000, mboxC (stepE M0 (bE b u add)).first (stepE M0 (bE b u add)).used (stepE M0 (bE b u add)).lists.length 1000001), (1000001, mrowC (stepE M0 (bE b u add)).lists)]
    (fun res bf => res = iA (chkE (stepE M0 (bE b u add)) (bE b u add)) ∧ bf 1000000 = some (mboxC (stepE (stepE M0 (bE b u add)) (bE b u add)).first (stepE (stepE M0 (bE b u add)) (bE b u add)).used (stepE (stepE M0 (bE b u add)) (bE b u add)).lists.length 900) ∧ bf 900 = some (mrowC (stepE (stepE M0 (bE b u add)) (bE b u add)).lists)) := (m_apply (stepE M0 (bE b u add)) (bE b u add) hstep.wf hOK).args ⟨SLe_refl _, sleE b u add, trivial⟩
  have hne : chkE M0 (bE b u add) ≠ 0 → stepE M0 (bE b u add) = M0 := fun h => by unfold stepE; rw [if_neg h]
  have hag : chkE M0 (bE b u add) = 0 → stepE (stepE M0 (bE b u add)) (bE b u add) = stepE M0 (bE b u add) := fun h => again _ rfl h
  have hap : chkE M0 (bE b u add) = 0 → PSpec Tryd.prog 16 [encH M0, nE b u add] (encH (stepE M0 (bE b u add))) := by
    intro h
    have h1 : PSpec Tryd.prog 16 [encH M0, nE b u add] (encH (appS M0 (bE b u add))) := (s_apply M0 (bE b u add) w0 hOK (.inr (.inr (.inr rfl))) (fun g => by simp at g)).args ⟨SLe_refl _, sleE b u add, trivial⟩
    rw [appS_eq w0 (chk_zero h)] at h1
    unfold stepE
    rw [if_pos h]
    exact h1
  have hl1 : M0.lists.length = 1 := rfl
  have hem := s_empty
  rw [show (⟨0, 0, [[]]⟩ : Sh) = M0 from rfl] at hem
  generalize stepE (stepE M0 (bE b u add)) (bE b u add) = s2 at *
  generalize stepE M0 (bE b u add) = s1 at *
  generalize chkE M0 (bE b u add) = c0 at *
  generalize chkE s1 (bE b u add) = c1 at *
  replace hag0 := Hld.mk hag0
  replace hag1 := Hld.mk hag1
  replace hc0 := Hld.mk hc0
  replace hc1 := Hld.mk hc1
  replace hem := Hld.mk hem
  replace hap := Hld.mk hap
  replace hne := Hld.mk hne
  replace hag := Hld.mk hag
  replace hm0 := Hld.mk hm0
  replace hm1 := Hld.mk hm1
  clear hstep hOK
  have hM1 : M0.first = 0 := rfl
  have hM2 : M0.used = 0 := rfl
  refine PSpec_of Tryd.func5 rfl rfl (Nat.le_of_ble_eq_true rfl) (Nat.le_of_ble_eq_true rfl) ?_
  intro E hE
  refine AW_seqt ⟨[(0, iA b), (1, iA u), (2, segL add), (6, bA false)], []⟩ ?_ (by
    intro K hK
    repeat' (first
     | (with_reducible first | refine useK (by assumption) ?_ | refine useK2 (by assumption) ?_ | refine useX (by assumption) ?_ | refine AW_seqk fun K hK => ?_ | refine AW_block ?_)
     | (with_reducible refine AW_regionS rfl (by rw [hE]; decide) ?_; simp [*]) | with_reducible refine AW_region (by rw [hE]; decide) ?_ | ((with_reducible show RK _ _ _ _ _ _); first | (refine RK_nilk ?_; simp [*]) | (refine RK_stepk fun K' hK' => ?_; simp [*]))
     | with_reducible refine AW_drawq mixed (by rw [hE]; decide) (by simp [newOK]) ?_ | ((with_reducible show RKQ _ _ _ _ _ _); first | refine RKQ_nilk ⟨by decide, ?_⟩ | (refine RKQ_stepk fun K' hK' => ?_; simp [*]))
     | ((with_reducible first | refine AW_if fun X Y hX hY => ?_ | refine AW_ret ?_ | refine AW_skip ?_ | refine AW_exit ?_); simp [*])
     | with_reducible refine And.intro ?_ ?_ | omega | (refine imp1 fun h => ?_))
    all_goals simp)
  refine AW_seqt ⟨[(0, iA b), (1, iA u), (2, segL add), (6, bA false)], []⟩ ?_ (by
    intro K hK
    repeat' (first
     | (with_reducible first | refine useK (by assumption) ?_ | refine useK2 (by assumption) ?_ | refine useX (by assumption) ?_ | refine AW_seqk fun K hK => ?_ | refine AW_block ?_)
     | (with_reducible refine AW_regionS rfl (by rw [hE]; decide) ?_; simp [*]) | with_reducible refine AW_region (by rw [hE]; decide) ?_ | ((with_reducible show RK _ _ _ _ _ _); first | (refine RK_nilk ?_; simp [*]) | (refine RK_stepk fun K' hK' => ?_; simp [*]))
     | with_reducible refine AW_drawq mixed (by rw [hE]; decide) (by simp [newOK]) ?_ | ((with_reducible show RKQ _ _ _ _ _ _); first | refine RKQ_nilk ⟨by decide, ?_⟩ | (refine RKQ_stepk fun K' hK' => ?_; simp [*]))
     | ((with_reducible first | refine AW_if fun X Y hX hY => ?_ | refine AW_ret ?_ | refine AW_skip ?_ | refine AW_exit ?_); simp [*])
     | ((first | refine acall_same (hkn.out) ?_ ?_ ?_ | refine call_same (hkn.out) ?_ ?_ ?_); (focus (simp [*] <;> fail)); (focus (simp [*] <;> fail)); simp [*])
     | ((first | refine acall_view (hkn.out) ?_ ?_ ?_ | refine call_view (hkn.out) ?_ ?_ ?_); (focus (simp [*] <;> fail)); (focus (simp [*] <;> fail)); simp [*])
     | with_reducible refine And.intro ?_ ?_ | omega | (refine imp1 fun h => ?_))
    all_goals simp)
  refine AW_seqt ⟨[(7, .loc 7 0), (6, bA false)], [(7, .box 34 (nE b u add))]⟩ ?_ (by
    intro K hK
    repeat' (first
     | (with_reducible first | refine useK (by assumption) ?_ | refine useK2 (by assumption) ?_ | refine useX (by assumption) ?_ | refine AW_seqk fun K hK => ?_ | refine AW_block ?_)
     | (with_reducible refine AW_regionS rfl (by rw [hE]; decide) ?_; simp [*]) | with_reducible refine AW_region (by rw [hE]; decide) ?_ | ((with_reducible show RK _ _ _ _ _ _); first | (refine RK_nilk ?_; simp [*]) | (refine RK_stepk fun K' hK' => ?_; simp [*]))
     | with_reducible refine AW_drawq mixed (by rw [hE]; decide) (by simp [newOK]) ?_ | ((with_reducible show RKQ _ _ _ _ _ _); first | refine RKQ_nilk ⟨by decide, ?_⟩ | (refine RKQ_stepk fun K' hK' => ?_; simp [*]))
     | ((with_reducible first | refine AW_if fun X Y hX hY => ?_ | refine AW_ret ?_ | refine AW_skip ?_ | refine AW_exit ?_); simp [*])
     | with_reducible refine And.intro ?_ ?_ | omega | (refine imp1 fun h => ?_))
    all_goals simp)
  refine AW_freeze 7 (cb := .box 34 (nE b u add)) (t := ⟨[(7, .ep (nE b u add)), (6, bA false)], []⟩) (by simp) (by simp) (by simp) ?_
  refine AW_seqt ⟨[(8, .loc 901 0), (9, .loc 9 0), (7, .ep (nE b u add)), (6, bA false)], [(9, .box 39 (encH M0)), (901, mboxC M0.first M0.used M0.lists.length 902), (902, mrowC M0.lists)]⟩ ?_ (by
    intro K hK
    repeat' (first
     | (with_reducible first | refine useK (by assumption) ?_ | refine useK2 (by assumption) ?_ | refine useX (by assumption) ?_ | refine AW_seqk fun K hK => ?_ | refine AW_block ?_)
     | (with_reducible refine AW_regionS rfl (by rw [hE]; decide) ?_; simp [*]) | with_reducible refine AW_region (by rw [hE]; decide) ?_ | ((with_reducible show RK _ _ _ _ _ _); first | (refine RK_nilk ?_; simp [*]) | (refine RK_stepk fun K' hK' => ?_; simp [*]))
     | with_reducible refine AW_drawq mixed (by rw [hE]; decide) (by simp [newOK]) ?_ | ((with_reducible show RKQ _ _ _ _ _ _); first | refine RKQ_nilk ⟨by decide, ?_⟩ | (refine RKQ_stepk fun K' hK' => ?_; simp [*]))
     | ((with_reducible first | refine AW_if fun X Y hX hY => ?_ | refine AW_ret ?_ | refine AW_skip ?_ | refine AW_exit ?_); simp [*])
     | with_reducible refine And.intro ?_ ?_ | omega | (refine imp1 fun h => ?_))
    refine acall_boxes m_new (nm []) (nm [(3, 901), (1, 902)]) [(3, mboxC M0.first M0.used M0.lists.length 1), (1, mrowC M0.lists)] (.loc 3 0) (by
      rintro res bf ⟨rfl, h1, h2⟩
      refine ⟨rfl, ?_⟩
      simp
      exact ⟨h1, h2⟩) (by simp) (by simp) (by simp) (by simp) (by simp) (by simp) (by simp) ?_
    simp
    repeat' (first
     | (with_reducible first | refine useK (by assumption) ?_ | refine useK2 (by assumption) ?_ | refine useX (by assumption) ?_ | refine AW_seqk fun K hK => ?_ | refine AW_block ?_)
     | (with_reducible refine AW_regionS rfl (by rw [hE]; decide) ?_; simp [*]) | with_reducible refine AW_region (by rw [hE]; decide) ?_ | ((with_reducible show RK _ _ _ _ _ _); first | (refine RK_nilk ?_; simp [*]) | (refine RK_stepk fun K' hK' => ?_; simp [*]))
     | with_reducible refine AW_drawq mixed (by rw [hE]; decide) (by simp [newOK]) ?_ | ((with_reducible show RKQ _ _ _ _ _ _); first | refine RKQ_nilk ⟨by decide, ?_⟩ | (refine RKQ_stepk fun K' hK' => ?_; simp [*]))
     | ((with_reducible first | refine AW_if fun X Y hX hY => ?_ | refine AW_ret ?_ | refine AW_skip ?_ | refine AW_exit ?_); simp [*])
     | ((first | refine acall_same (hem.out) ?_ ?_ ?_ | refine call_same (hem.out) ?_ ?_ ?_); (focus (simp [*] <;> fail)); (focus (simp [*] <;> fail)); simp [*])
     | ((first | refine acall_view (hem.out) ?_ ?_ ?_ | refine call_view (hem.out) ?_ ?_ ?_); (focus (simp [*] <;> fail)); (focus (simp [*] <;> fail)); simp [*])
     | with_reducible refine And.intro ?_ ?_ | omega | (refine imp1 fun h => ?_))
    all_goals simp [hM1, hM2, hl1])
  clear hM1 hM2 hl1
  generalize M0 = m0 at *
  refine AW_seqt ⟨[(10, iA c0), (8, .loc 901 0), (9, .loc 9 0), (7, .ep (nE b u add)), (6, bA false)], [(9, .box 39 (encH m0)), (901, mboxC m0.first m0.used m0.lists.length 902), (902, mrowC m0.lists)]⟩ ?_ (by
    intro K hK
    repeat' (first
     | (with_reducible first | refine useK (by assumption) ?_ | refine useK2 (by assumption) ?_ | refine useX (by assumption) ?_ | refine AW_seqk fun K hK => ?_ | refine AW_block ?_)
     | (with_reducible refine AW_regionS rfl (by rw [hE]; decide) ?_; simp [*]) | with_reducible refine AW_region (by rw [hE]; decide) ?_ | ((with_reducible show RK _ _ _ _ _ _); first | (refine RK_nilk ?_; simp [*]) | (refine RK_stepk fun K' hK' => ?_; simp [*]))
     | with_reducible refine AW_drawq mixed (by rw [hE]; decide) (by simp [newOK]) ?_ | ((with_reducible show RKQ _ _ _ _ _ _); first | refine RKQ_nilk ⟨by decide, ?_⟩ | (refine RKQ_stepk fun K' hK' => ?_; simp [*]))
     | ((with_reducible first | refine AW_if fun X Y hX hY => ?_ | refine AW_ret ?_ | refine AW_skip ?_ | refine AW_exit ?_); simp [*])
     | ((first | refine acall_same (hc0.out) ?_ ?_ ?_ | refine call_same (hc0.out) ?_ ?_ ?_); (focus (simp [*] <;> fail)); (focus (simp [*] <;> fail)); simp [*])
     | ((first | refine acall_view (hc0.out) ?_ ?_ ?_ | refine call_view (hc0.out) ?_ ?_ ?_); (focus (simp [*] <;> fail)); (focus (simp [*] <;> fail)); simp [*])
     | with_reducible refine And.intro ?_ ?_ | omega | (refine imp1 fun h => ?_))
    all_goals simp)
  refine AW_seqt ⟨[(10, iA c0), (8, .loc 901 0), (9, .loc 9 0), (7, .ep (nE b u add)), (6, bA false)], [(9, .box 39 (encH m0)), (901, mboxC s1.first s1.used s1.lists.length 903), (903, mrowC s1.lists)]⟩ ?_ (by
    intro K hK
    repeat' (first
     | (with_reducible first | refine useK (by assumption) ?_ | refine useK2 (by assumption) ?_ | refine useX (by assumption) ?_ | refine AW_seqk fun K hK => ?_ | refine AW_block ?_)
     | (with_reducible refine AW_regionS rfl (by rw [hE]; decide) ?_; simp [*]) | with_reducible refine AW_region (by rw [hE]; decide) ?_ | ((with_reducible show RK _ _ _ _ _ _); first | (refine RK_nilk ?_; simp [*]) | (refine RK_stepk fun K' hK' => ?_; simp [*]))
     | with_reducible refine AW_drawq mixed (by rw [hE]; decide) (by simp [newOK]) ?_ | ((with_reducible show RKQ _ _ _ _ _ _); first | refine RKQ_nilk ⟨by decide, ?_⟩ | (refine RKQ_stepk fun K' hK' => ?_; simp [*]))
     | ((with_reducible first | refine AW_if fun X Y hX hY => ?_ | refine AW_ret ?_ | refine AW_skip ?_ | refine AW_exit ?_); simp [*])
     | with_reducible refine And.intro ?_ ?_ | omega | (refine imp1 fun h => ?_))
    refine acall_boxes hm0.out (nm [(1000000, 901), (1000001, 902)]) (nm [(1000000, 901), (900, 903)]) [(1000000, mboxC s1.first s1.used s1.lists.length 900), (900, mrowC s1.lists)] (iA c0) (by
      rintro res bf ⟨rfl, h1, h2⟩
      refine ⟨rfl, ?_⟩
      simp
      exact ⟨h1, h2⟩) (by simp) (by simp) (by simp) (by simp) (by simp) (by simp) (by simp) ?_
    simp
    repeat' (first
     | (with_reducible first | refine useK (by assumption) ?_ | refine useK2 (by assumption) ?_ | refine useX (by assumption) ?_ | refine AW_seqk fun K hK => ?_ | refine AW_block ?_)
     | (with_reducible refine AW_regionS rfl (by rw [hE]; decide) ?_; simp [*]) | with_reducible refine AW_region (by rw [hE]; decide) ?_ | ((with_reducible show RK _ _ _ _ _ _); first | (refine RK_nilk ?_; simp [*]) | (refine RK_stepk fun K' hK' => ?_; simp [*]))
     | with_reducible refine AW_drawq mixed (by rw [hE]; decide) (by simp [newOK]) ?_ | ((with_reducible show RKQ _ _ _ _ _ _); first | refine RKQ_nilk ⟨by decide, ?_⟩ | (refine RKQ_stepk fun K' hK' => ?_; simp [*]))
     | ((with_reducible first | refine AW_if fun X Y hX hY => ?_ | refine AW_ret ?_ | refine AW_skip ?_ | refine AW_exit ?_); simp [*])
     | with_reducible refine And.intro ?_ ?_ | omega | (refine imp1 fun h => ?_))
    all_goals simp)
  by_cases hc : c0 = 0
  · replace hap := Hld.mk (hap.out hc)
    replace hag := hag.out hc
    clear hne
    subst hc hag
    refine AW_seqt ⟨[(8, .loc 901 0), (9, .loc 9 0), (7, .ep (nE b u add)), (6, bA false)], [(9, .box 39 (encH m0)), (901, mboxC s2.first s2.used s2.lists.length 903), (903, mrowC s2.lists)]⟩ ?_ (by
      intro K hK
      repeat' (first
       | (with_reducible first | refine useK (by assumption) ?_ | refine useK2 (by assumption) ?_ | refine useX (by assumption) ?_ | refine AW_seqk fun K hK => ?_ | refine AW_block ?_)
       | (with_reducible refine AW_regionS rfl (by rw [hE]; decide) ?_; simp [*]) | with_reducible refine AW_region (by rw [hE]; decide) ?_ | ((with_reducible show RK _ _ _ _ _ _); first | (refine RK_nilk ?_; simp [*]) | (refine RK_stepk fun K' hK' => ?_; simp [*]))
       | with_reducible refine AW_drawq mixed (by rw [hE]; decide) (by simp [newOK]) ?_ | ((with_reducible show RKQ _ _ _ _ _ _); first | refine RKQ_nilk ⟨by decide, ?_⟩ | (refine RKQ_stepk fun K' hK' => ?_; simp [*]))
       | ((with_reducible first | refine AW_if fun X Y hX hY => ?_ | refine AW_ret ?_ | refine AW_skip ?_ | refine AW_exit ?_); simp [*])
       | with_reducible refine And.intro ?_ ?_ | omega | (refine imp1 fun h => ?_))
      all_goals simp)
    refine AW_seqt ⟨[(8, .loc 901 0), (9, .loc 9 0), (7, .ep (nE b u add)), (6, bA false)], [(9, .box 39 (encH s2)), (901, mboxC s2.first s2.used s2.lists.length 903), (903, mrowC s2.lists)]⟩ ?_ (by
      intro K hK
      repeat' (first
       | (with_reducible first | refine useK (by assumption) ?_ | refine useK2 (by assumption) ?_ | refine useX (by assumption) ?_ | refine AW_seqk fun K hK => ?_ | refine AW_block ?_)
       | (with_reducible refine AW_regionS rfl (by rw [hE]; decide) ?_; simp [*]) | with_reducible refine AW_region (by rw [hE]; decide) ?_ | ((with_reducible show RK _ _ _ _ _ _); first | (refine RK_nilk ?_; simp [*]) | (refine RK_stepk fun K' hK' => ?_; simp [*]))
       | with_reducible refine AW_drawq mixed (by rw [hE]; decide) (by simp [newOK]) ?_ | ((with_reducible show RKQ _ _ _ _ _ _); first | refine RKQ_nilk ⟨by decide, ?_⟩ | (refine RKQ_stepk fun K' hK' => ?_; simp [*]))
       | ((with_reducible first | refine AW_if fun X Y hX hY => ?_ | refine AW_ret ?_ | refine AW_skip ?_ | refine AW_exit ?_); simp [*])
       | ((first | refine acall_same (hap.out) ?_ ?_ ?_ | refine call_same (hap.out) ?_ ?_ ?_); (focus (simp [*] <;> fail)); (focus (simp [*] <;> fail)); simp [*])
       | ((first | refine acall_view (hap.out) ?_ ?_ ?_ | refine call_view (hap.out) ?_ ?_ ?_); (focus (simp [*] <;> fail)); (focus (simp [*] <;> fail)); simp [*])
       | with_reducible refine And.intro ?_ ?_ | omega | (refine imp1 fun h => ?_))
      all_goals simp)
    refine AW_seqt ⟨[(11, iA c1), (8, .loc 901 0), (9, .loc 9 0), (7, .ep (nE b u add)), (6, bA false)], [(9, .box 39 (encH s2)), (901, mboxC s2.first s2.used s2.lists.length 904), (904, mrowC s2.lists)]⟩ ?_ (by
      intro K hK
      repeat' (first
       | (with_reducible first | refine useK (by assumption) ?_ | refine useK2 (by assumption) ?_ | refine useX (by assumption) ?_ | refine AW_seqk fun K hK => ?_ | refine AW_block ?_)
       | (with_reducible refine AW_regionS rfl (by rw [hE]; decide) ?_; simp [*]) | with_reducible refine AW_region (by rw [hE]; decide) ?_ | ((with_reducible show RK _ _ _ _ _ _); first | (refine RK_nilk ?_; simp [*]) | (refine RK_stepk fun K' hK' => ?_; simp [*]))
       | with_reducible refine AW_drawq mixed (by rw [hE]; decide) (by simp [newOK]) ?_ | ((with_reducible show RKQ _ _ _ _ _ _); first | refine RKQ_nilk ⟨by decide, ?_⟩ | (refine RKQ_stepk fun K' hK' => ?_; simp [*]))
       | ((with_reducible first | refine AW_if fun X Y hX hY => ?_ | refine AW_ret ?_ | refine AW_skip ?_ | refine AW_exit ?_); simp [*])
       | with_reducible refine And.intro ?_ ?_ | omega | (refine imp1 fun h => ?_))
      refine acall_boxes hm1.out (nm [(1000000, 901), (1000001, 903)]) (nm [(1000000, 901), (900, 904)]) [(1000000, mboxC s2.first s2.used s2.lists.length 900), (900, mrowC s2.lists)] (iA c1) (by
        rintro res bf ⟨rfl, h1, h2⟩
        refine ⟨rfl, ?_⟩
        simp
        exact ⟨h1, h2⟩) (by simp) (by simp) (by simp) (by simp) (by simp) (by simp) (by simp) ?_
      simp
      repeat' (first
       | (with_reducible first | refine useK (by assumption) ?_ | refine useK2 (by assumption) ?_ | refine useX (by assumption) ?_ | refine AW_seqk fun K hK => ?_ | refine AW_block ?_)
       | (with_reducible refine AW_regionS rfl (by rw [hE]; decide) ?_; simp [*]) | with_reducible refine AW_region (by rw [hE]; decide) ?_ | ((with_reducible show RK _ _ _ _ _ _); first | (refine RK_nilk ?_; simp [*]) | (refine RK_stepk fun K' hK' => ?_; simp [*]))
       | with_reducible refine AW_drawq mixed (by rw [hE]; decide) (by simp [newOK]) ?_ | ((with_reducible show RKQ _ _ _ _ _ _); first | refine RKQ_nilk ⟨by decide, ?_⟩ | (refine RKQ_stepk fun K' hK' => ?_; simp [*]))
       | ((with_reducible first | refine AW_if fun X Y hX hY => ?_ | refine AW_ret ?_ | refine AW_skip ?_ | refine AW_exit ?_); simp [*])
       | with_reducible refine And.intro ?_ ?_ | omega | (refine imp1 fun h => ?_))
      all_goals simp)
    repeat' (first
     | (with_reducible first | refine useK (by assumption) ?_ | refine useK2 (by assumption) ?_ | refine useX (by assumption) ?_ | refine AW_seqk fun K hK => ?_ | refine AW_block ?_)
     | (with_reducible refine AW_regionS rfl (by rw [hE]; decide) ?_; simp [*]) | with_reducible refine AW_region (by rw [hE]; decide) ?_ | ((with_reducible show RK _ _ _ _ _ _); first | (refine RK_nilk ?_; simp [*]) | (refine RK_stepk fun K' hK' => ?_; simp [*]))
     | with_reducible refine AW_drawq mixed (by rw [hE]; decide) (by simp [newOK]) ?_ | ((with_reducible show RKQ _ _ _ _ _ _); first | refine RKQ_nilk ⟨by decide, ?_⟩ | (refine RKQ_stepk fun K' hK' => ?_; simp [*]))
     | ((with_reducible first | refine AW_if fun X Y hX hY => ?_ | refine AW_ret ?_ | refine AW_skip ?_ | refine AW_exit ?_); simp [*])
     | with_reducible refine And.intro ?_ ?_ | omega | (refine imp1 fun h => ?_))
    refine acall_dv hag1.out ⟨.base (by simp), dv_m (j := 904) (by simp) (by simp), trivial⟩ rfl ?_
    simp
    repeat' (first
     | (with_reducible first | refine useK (by assumption) ?_ | refine useK2 (by assumption) ?_ | refine useX (by assumption) ?_ | refine AW_seqk fun K hK => ?_ | refine AW_block ?_)
     | (with_reducible refine AW_regionS rfl (by rw [hE]; decide) ?_; simp [*]) | with_reducible refine AW_region (by rw [hE]; decide) ?_ | ((with_reducible show RK _ _ _ _ _ _); first | (refine RK_nilk ?_; simp [*]) | (refine RK_stepk fun K' hK' => ?_; simp [*]))
     | with_reducible refine AW_drawq mixed (by rw [hE]; decide) (by simp [newOK]) ?_ | ((with_reducible show RKQ _ _ _ _ _ _); first | refine RKQ_nilk ⟨by decide, ?_⟩ | (refine RKQ_stepk fun K' hK' => ?_; simp [*]))
     | ((with_reducible first | refine AW_if fun X Y hX hY => ?_ | refine AW_ret ?_ | refine AW_skip ?_ | refine AW_exit ?_); simp [*])
     | ((first | refine acall_same (hc1.out) ?_ ?_ ?_ | refine call_same (hc1.out) ?_ ?_ ?_); (focus (simp [*] <;> fail)); (focus (simp [*] <;> fail)); simp [*])
     | ((first | refine acall_view (hc1.out) ?_ ?_ ?_ | refine call_view (hc1.out) ?_ ?_ ?_); (focus (simp [*] <;> fail)); (focus (simp [*] <;> fail)); simp [*])
     | with_reducible refine And.intro ?_ ?_ | omega | (refine imp1 fun h => ?_))
  · have hs := hne.out hc
    clear hne hag hap
    subst hs
    repeat' (first
     | (with_reducible first | refine useK (by assumption) ?_ | refine useK2 (by assumption) ?_ | refine useX (by assumption) ?_ | refine AW_seqk fun K hK => ?_ | refine AW_block ?_)
     | (with_reducible refine AW_regionS rfl (by rw [hE]; decide) ?_; simp [*]) | with_reducible refine AW_region (by rw [hE]; decide) ?_ | ((with_reducible show RK _ _ _ _ _ _); first | (refine RK_nilk ?_; simp [*]) | (refine RK_stepk fun K' hK' => ?_; simp [*]))
     | with_reducible refine AW_drawq mixed (by rw [hE]; decide) (by simp [newOK]) ?_ | ((with_reducible show RKQ _ _ _ _ _ _); first | refine RKQ_nilk ⟨by decide, ?_⟩ | (refine RKQ_stepk fun K' hK' => ?_; simp [*]))
     | ((with_reducible first | refine AW_if fun X Y hX hY => ?_ | refine AW_ret ?_ | refine AW_skip ?_ | refine AW_exit ?_); simp [*])
     | with_reducible refine And.intro ?_ ?_ | omega | (refine imp1 fun h => ?_))
    refine acall_dv hag0.out ⟨.base (by simp), dv_m (j := 903) (by simp) (by simp), trivial⟩ rfl ?_
    simp
    repeat' (first
     | (with_reducible first | refine useK (by assumption) ?_ | refine useK2 (by assumption) ?_ | refine useX (by assumption) ?_ | refine AW_seqk fun K hK => ?_ | refine AW_block ?_)
     | (with_reducible refine AW_regionS rfl (by rw [hE]; decide) ?_; simp [*]) | with_reducible refine AW_region (by rw [hE]; decide) ?_ | ((with_reducible show RK _ _ _ _ _ _); first | (refine RK_nilk ?_; simp [*]) | (refine RK_stepk fun K' hK' => ?_; simp [*]))
     | with_reducible refine AW_drawq mixed (by rw [hE]; decide) (by simp [newOK]) ?_ | ((with_reducible show RKQ _ _ _ _ _ _); first | refine RKQ_nilk ⟨by decide, ?_⟩ | (refine RKQ_stepk fun K' hK' => ?_; simp [*]))
     | ((with_reducible first | refine AW_if fun X Y hX hY => ?_ | refine AW_ret ?_ | refine AW_skip ?_ | refine AW_exit ?_); simp [*])
     | with_reducible refine And.intro ?_ ?_ | omega | (refine imp1 fun h => ?_))
theorem spec (avs : List AV) (h : ShapeL Tryd.prog 6 Tryd.f5.params.toList avs) : PSpec Tryd.prog 5 avs (.v (.bool true)) := by
  rw [Tryd.params5] at h
  obtain ⟨c1, r1, rfl, h1, c2, r2, rfl, h2, c3, r3, rfl, h3, rfl⟩ := h
  obtain ⟨a, ha, -⟩ := avI h1
  obtain ⟨b, hb, -⟩ := avI h2
  obtain ⟨l, rfl, -, hl⟩ := avSs h3
  rw [ha, hb, show mkAV Tryd.prog 32 [segL l] = segL l by simp [mkAV]]
  exact law a b l hl
theorem contract (H : Type) (enc : TypeId × Value → H) (W : World) (base : Nat) (args : Array Value) (ds gs : List (DataW H)) (before : List MemPlace)
    (hval : ∀ (j : Nat) t v, Tryd.f5.params[j]? = some t → args[j]? = some v → Value.okWide Tryd.prog W .any base t v)
    (hW : DataW.Whole enc Tryd.prog Tryd.f5.params.toList Rows.manifestBeginsSpec.vars false W args.toList ds gs before) :
    Calls Tryd.prog 5 args W fun e W' => ∃ v, e = .returned v ∧ Rows.manifestBeginsSpec.post enc Tryd.prog Tryd.f5 false true false false W args v W' :=
  law_contract (m := 6) (tb := 4) spec (by rw [Tryd.params5]; intro t ht; simp at ht; rcases ht with rfl | rfl | rfl <;> kernel_rfl) rfl laidK
    (by rw [Tryd.params5]; intro t ht; simp at ht; rcases ht with rfl | rfl | rfl <;> exact ⟨by kernel_rfl, by decide +kernel⟩)
    (fun ds hd => by
      rw [Tryd.params5] at hd
      match ds, hd with
      | [d1, d2, d3], _ => rfl) (by kernel_rfl) Tryd.underlying4 hval hW
theorem lifted (os : Os) (started : os.Started) (H : Type) (enc : TypeId × Value → H) :
    ReturnsInHanded {} Tryd.checked os 5 .any (fun w args => (Rows.manifestBeginsSpec.pre enc Tryd.prog Tryd.f5 [] false w args ∧ laidMetH Tryd.prog laid3 w) ∧ sizedMet enc Tryd.prog Tryd.f5 (OpenSpec.ofChange Rows.manifestBeginsSpec) false w args) (Rows.manifestBeginsSpec.post enc Tryd.prog Tryd.f5 false true false false) := by
  refine returnsInHanded_of_change_and (C := Tryd.checked) (X := fun w _ => laidMetH Tryd.prog laid3 w) (fun _ _ _ hh h => h.of_heap hh) ownK started (by kernel_rfl) Tryd.func5
    (ChangeSpec.witness_shaped (enc := enc) (C := Tryd.checked) (os := os) (X := fun w _ => laidMetH Tryd.prog laid3 w) false (World.doorLaid Tryd.prog 400 os) #[.int .i64 0, .int .i64 0, .slice .none 0 0] 8 rfl (World.shaped_of_RefB (by kernel_rfl) (by kernel_rfl)) (by kernel_rfl) (by kernel_rfl) (by kernel_rfl) (door_met os _)) ?_
  intro W base args ds gs before hval hW _ _ _ _
  exact contract H enc W base args ds gs before hval hW
theorem bare : Rows.ManifestBeginsSaid :=
  OpenClaim.holds_of_wide 5 Tryd.f5 rfl rfl rfl rfl rfl rfl rfl ⟨rfl, rfl, rfl, rfl, rfl⟩ rfl rfl rfl rfl rfl (by kernel_rfl) Tryd.func5 (by kernel_rfl)
    (of_decide_eq_true (by kernel_rfl)) (by unfold Func.isWrapper; first | (rw [if_pos (by decide +kernel)]; kernel_rfl) | (rw [if_neg (by decide +kernel)]; exact ⟨rfl, rfl⟩))
    (fun os started H enc _ => lifted os started H enc)
theorem said : Rows.ManifestBeginsCardSaid :=
  Claim7.holds_tied_plain_at .later [] [.data, .data, .data] true (true, "bed98e2bdd95d3798d9478b6aad4cae063d4204527223458f55f11a21005a8ff") false
    bare (fun _ h => by cases h) (by kernel_rfl) (fun _ h => by cases h) manifestBegins_row_tie rfl ⟨rfl, rfl⟩ (by kernel_rfl) rfl
    (fun f fn hf hfn => by
      obtain rfl : f = 5 := Option.some.inj ((show Tryd.prog.funcNamed "viator/viatorlaw40.ManifestBegins" = some 5 by kernel_rfl).symm.trans hf) |>.symm
      obtain rfl : fn = Tryd.f5 := (Option.some.inj (Tryd.func5.symm.trans hfn)).symm
      exact ⟨by kernel_rfl, fun j t ht => by
        rw [Tryd.params5] at ht
        have hm : t ∈ Tryd.f5.params.toList := by rw [Tryd.params5]; simpa using Array.mem_of_getElem? ht
        have hall : (Tryd.f5.params.toList.all fun u => !Tryd.prog.wantsStandIn u) = true := by kernel_rfl
        exact (show Tryd.prog.wantsStandIn t = false by simpa using List.all_eq_true.1 hall t hm)⟩)
    (by kernel_rfl)
end L3
end Go.Proofs.YtbibemijcdkjhaaDoor
