/- ManifestRuns: for any steps the law hands back true. Conditions: none. -/
import Derived.Test.YtbibemijcdkjhaaGreatDoorZA
import Derived.Test.YtbibemijcdkjhaaGreatDoorZB
import Derived.Test.YtbibemijcdkjhaaGreatDoorTie
import Derived.Test.YtbibemijcdkjhaaGreatDoorCards
import Derived.LaidMore
import Derived.Stop.Joined
set_option maxRecDepth 100000
set_option linter.unusedSimpArgs false
set_option linter.unusedVariables false
namespace Go.Proofs.YtbibemijcdkjhaaGreatDoor
open Go.Am Go.RowKit Go.ChangeShapes Go.WideShapes Go.ChangeAt

def laid3 : List (String × DataW Unit) := [("math/bits.deBruijn32tab", Rows.laid_math_bits_deBruijn32tab), ("math/bits.deBruijn64tab", Rows.laid_math_bits_deBruijn64tab), ("internal/strconv.uint64pow10", Rows.laid_internal_strconv_uint64pow10)]
theorem ownK : ownKnob Tryz.prog.godebug = none := by kernel_rfl
theorem laidK : laidOutB Tryz.prog = true := by kernel_rfl
theorem door_met (os : Os) (args : Array Value) : laidMetH Tryz.prog laid3 ((World.doorLaid Tryz.prog 400 os).forCall (fun _ _ => 0) ⟨#[], args, []⟩).memory :=
  laidMetH_of_parts3 (fuel := 8) (laidMet_of_run' 8 (by kernel_rfl) (by kernel_rfl)) (by kernel_rfl) (by kernel_rfl)
namespace L5
set_option maxHeartbeats 4000000 in
theorem law (l : List Stp) (hl : ∀ x ∈ l, StpOK x) (hll : l.length ≤ 9223372036854775807) : PSpec Tryz.prog 3 [.sl 10 (l.map encX)] (bA true) := by
  have hkn := Hld.mk s_known
  have hin := run_inv l (min l.length 24) (by omega)
  have hrun := Hld.mk (m_run l hl hll)
  generalize (runS l (min l.length 24)).2 = d at *
  generalize (runS l (min l.length 24)).1 = m at *
  have hml := s_mlive m hin.wf
  rw [live_eq m] at hml
  have hsl := Hld.mk (s_live m hin.len hin.each)
  replace hml := Hld.mk hml
  have hxl : (liveM m).length ≤ 1000000 := by
    rw [← live_eq m]
    have h1 := flat_len m.lists (fun l hl => (hin.wf.srt l hl).2)
    have h2 := hin.len
    have h3 := dd_lenI (l := sortZ (m.lists.flatten.map (·.id))) (i := (sortZ (m.lists.flatten.map (·.id))).length) (Nat.le_refl _)
    rw [List.take_length, sortZ_len, List.length_map] at h3
    unfold liveR
    omega
  generalize liveM m = Vs at *
  clear hin
  refine PSpec_of Tryz.func3 rfl rfl (Nat.le_of_ble_eq_true rfl) (Nat.le_of_ble_eq_true rfl) ?_
  intro E hE
  refine AW_seqt ⟨[(0, .sl 10 (l.map encX)), (2, bA false)], []⟩ ?_ (by
    intro K hK
    repeat' (first
     | (with_reducible first | refine useK (by assumption) ?_ | refine useK2 (by assumption) ?_ | refine useX (by assumption) ?_ | refine AW_seqk fun K hK => ?_ | refine AW_block ?_) | (with_reducible refine AW_regionS rfl (by rw [hE]; decide) ?_; simp [*]) | with_reducible refine AW_region (by rw [hE]; decide) ?_ | ((with_reducible show RK _ _ _ _ _ _); first | (refine RK_nilk ?_; simp [*]) | (refine RK_stepk fun K' hK' => ?_; simp [*])) | with_reducible refine AW_drawq mixed (by rw [hE]; decide) (by simp [newOK]) ?_ | ((with_reducible show RKQ _ _ _ _ _ _); first | refine RKQ_nilk ⟨by decide, ?_⟩ | (refine RKQ_stepk fun K' hK' => ?_; simp [*])) | ((with_reducible first | refine AW_if fun X Y hX hY => ?_ | refine AW_ret ?_ | refine AW_skip ?_ | refine AW_exit ?_); simp [*]) | with_reducible refine And.intro ?_ ?_ | omega | (refine imp1 fun h => ?_))
    all_goals simp)
  refine AW_seqt ⟨[(3, .loc 911 0), (4, .loc 4 0), (6, bA true), (2, bA false)], [(4, .box 26 (encH m)), (911, rnM m 912), (912, mrowC m.lists)]⟩ ?_ (by
    intro K hK
    repeat' (first
     | (with_reducible first | refine useK (by assumption) ?_ | refine useK2 (by assumption) ?_ | refine useX (by assumption) ?_ | refine AW_seqk fun K hK => ?_ | refine AW_block ?_) | (with_reducible refine AW_regionS rfl (by rw [hE]; decide) ?_; simp [*]) | with_reducible refine AW_region (by rw [hE]; decide) ?_ | ((with_reducible show RK _ _ _ _ _ _); first | (refine RK_nilk ?_; simp [*]) | (refine RK_stepk fun K' hK' => ?_; simp [*])) | with_reducible refine AW_drawq mixed (by rw [hE]; decide) (by simp [newOK]) ?_ | ((with_reducible show RKQ _ _ _ _ _ _); first | refine RKQ_nilk ⟨by decide, ?_⟩ | (refine RKQ_stepk fun K' hK' => ?_; simp [*])) | ((with_reducible first | refine AW_if fun X Y hX hY => ?_ | refine AW_ret ?_ | refine AW_skip ?_ | refine AW_exit ?_); simp [*]) | with_reducible refine And.intro ?_ ?_ | omega | (refine imp1 fun h => ?_))
    refine acall_boxes hrun.out (nm []) (nm [(901, 911), (902, 912), (905, 915)]) [(901, rnM m 902), (902, mrowC m.lists), (905, rnE d)] (.tup [.loc 901 0, encH m, .own 905 5 0 d.length, bA true]) (by
      rintro res bf ⟨rfl, h1, h2, h3⟩
      refine ⟨rfl, ?_⟩
      simp
      exact ⟨h1, h2, h3⟩) (by simp) (by simp) (by simp) (by simp) (by simp) (by simp) (by simp) ?_
    simp
    repeat' (first
     | (with_reducible first | refine useK (by assumption) ?_ | refine useK2 (by assumption) ?_ | refine useX (by assumption) ?_ | refine AW_seqk fun K hK => ?_ | refine AW_block ?_) | (with_reducible refine AW_regionS rfl (by rw [hE]; decide) ?_; simp [*]) | with_reducible refine AW_region (by rw [hE]; decide) ?_ | ((with_reducible show RK _ _ _ _ _ _); first | (refine RK_nilk ?_; simp [*]) | (refine RK_stepk fun K' hK' => ?_; simp [*])) | with_reducible refine AW_drawq mixed (by rw [hE]; decide) (by simp [newOK]) ?_ | ((with_reducible show RKQ _ _ _ _ _ _); first | refine RKQ_nilk ⟨by decide, ?_⟩ | (refine RKQ_stepk fun K' hK' => ?_; simp [*])) | ((with_reducible first | refine AW_if fun X Y hX hY => ?_ | refine AW_ret ?_ | refine AW_skip ?_ | refine AW_exit ?_); simp [*]) | with_reducible refine And.intro ?_ ?_ | omega | (refine imp1 fun h => ?_))
    all_goals simp)
  refine AW_seqt ⟨[(3, .loc 911 0), (4, .loc 4 0), (2, bA false)], [(4, .box 26 (encH m)), (911, rnM m 912), (912, mrowC m.lists)]⟩ ?_ (by
    intro K hK
    repeat' (first
     | (with_reducible first | refine useK (by assumption) ?_ | refine useK2 (by assumption) ?_ | refine useX (by assumption) ?_ | refine AW_seqk fun K hK => ?_ | refine AW_block ?_) | (with_reducible refine AW_regionS rfl (by rw [hE]; decide) ?_; simp [*]) | with_reducible refine AW_region (by rw [hE]; decide) ?_ | ((with_reducible show RK _ _ _ _ _ _); first | (refine RK_nilk ?_; simp [*]) | (refine RK_stepk fun K' hK' => ?_; simp [*])) | with_reducible refine AW_drawq mixed (by rw [hE]; decide) (by simp [newOK]) ?_ | ((with_reducible show RKQ _ _ _ _ _ _); first | refine RKQ_nilk ⟨by decide, ?_⟩ | (refine RKQ_stepk fun K' hK' => ?_; simp [*])) | ((with_reducible first | refine AW_if fun X Y hX hY => ?_ | refine AW_ret ?_ | refine AW_skip ?_ | refine AW_exit ?_); simp [*]) | ((first | refine acall_same (hkn.out) ?_ ?_ ?_ | refine call_same (hkn.out) ?_ ?_ ?_); (focus (simp [*] <;> fail)); (focus (simp [*] <;> fail)); simp [*]) | ((first | refine acall_view (hkn.out) ?_ ?_ ?_ | refine call_view (hkn.out) ?_ ?_ ?_); (focus (simp [*] <;> fail)); (focus (simp [*] <;> fail)); simp [*]) | with_reducible refine And.intro ?_ ?_ | omega | (refine imp1 fun h => ?_))
    all_goals simp)
  refine AW_freezeD 912 (cb := mrowC m.lists) (t := ⟨[(3, .loc 911 0), (4, .loc 4 0), (2, bA false)], [(4, .box 26 (encH m)), (911, .box 72 (encM m))]⟩) (by simp) (by simp) (by
    simp
    refine ⟨fr_same (by simp), ?_⟩
    intro j a b ha hb
    rcases j with _ | _ | _ | j <;> simp at ha hb <;> subst ha <;> subst hb <;> simp) ?_
  refine AW_freeze 911 (cb := .box 72 (encM m)) (t := ⟨[(3, .ep (encM m)), (4, .loc 4 0), (2, bA false)], [(4, .box 26 (encH m))]⟩) (by simp) (by simp) (by simp) ?_
  refine AW_freeze 4 (cb := .box 26 (encH m)) (t := ⟨[(3, .ep (encM m)), (4, .ep (encH m)), (2, bA false)], []⟩) (by simp) (by simp) (by simp) ?_
  refine AW_seqt ⟨[(7, .sl 1 (Vs.map iA)), (8, .sl 1 (Vs.map iA)), (2, bA false)], []⟩ ?_ (by
    intro K hK
    repeat' (first
     | (with_reducible first | refine useK (by assumption) ?_ | refine useK2 (by assumption) ?_ | refine useX (by assumption) ?_ | refine AW_seqk fun K hK => ?_ | refine AW_block ?_) | (with_reducible refine AW_regionS rfl (by rw [hE]; decide) ?_; simp [*]) | with_reducible refine AW_region (by rw [hE]; decide) ?_ | ((with_reducible show RK _ _ _ _ _ _); first | (refine RK_nilk ?_; simp [*]) | (refine RK_stepk fun K' hK' => ?_; simp [*])) | with_reducible refine AW_drawq mixed (by rw [hE]; decide) (by simp [newOK]) ?_ | ((with_reducible show RKQ _ _ _ _ _ _); first | refine RKQ_nilk ⟨by decide, ?_⟩ | (refine RKQ_stepk fun K' hK' => ?_; simp [*])) | ((with_reducible first | refine AW_if fun X Y hX hY => ?_ | refine AW_ret ?_ | refine AW_skip ?_ | refine AW_exit ?_); simp [*]) | ((first | refine acall_same (hml.out) ?_ ?_ ?_ | refine call_same (hml.out) ?_ ?_ ?_); (focus (simp [*] <;> fail)); (focus (simp [*] <;> fail)); simp [*]) | ((first | refine acall_view (hml.out) ?_ ?_ ?_ | refine call_view (hml.out) ?_ ?_ ?_); (focus (simp [*] <;> fail)); (focus (simp [*] <;> fail)); simp [*]) | ((first | refine acall_same (hsl.out) ?_ ?_ ?_ | refine call_same (hsl.out) ?_ ?_ ?_); (focus (simp [*] <;> fail)); (focus (simp [*] <;> fail)); simp [*]) | ((first | refine acall_view (hsl.out) ?_ ?_ ?_ | refine call_view (hsl.out) ?_ ?_ ?_); (focus (simp [*] <;> fail)); (focus (simp [*] <;> fail)); simp [*]) | with_reducible refine And.intro ?_ ?_ | omega | (refine imp1 fun h => ?_))
    all_goals simp)
  repeat' (first
   | (with_reducible first | refine useK (by assumption) ?_ | refine useK2 (by assumption) ?_ | refine useX (by assumption) ?_ | refine AW_seqk fun K hK => ?_ | refine AW_block ?_) | (with_reducible refine AW_regionS rfl (by rw [hE]; decide) ?_; simp [*]) | with_reducible refine AW_region (by rw [hE]; decide) ?_ | ((with_reducible show RK _ _ _ _ _ _); first | (refine RK_nilk ?_; simp [*]) | (refine RK_stepk fun K' hK' => ?_; simp [*])) | with_reducible refine AW_drawq mixed (by rw [hE]; decide) (by simp [newOK]) ?_ | ((with_reducible show RKQ _ _ _ _ _ _); first | refine RKQ_nilk ⟨by decide, ?_⟩ | (refine RKQ_stepk fun K' hK' => ?_; simp [*])) | ((with_reducible first | refine AW_if fun X Y hX hY => ?_ | refine AW_ret ?_ | refine AW_skip ?_ | refine AW_exit ?_); simp [*]) | with_reducible refine And.intro ?_ ?_ | omega | (refine imp1 fun h => ?_))
  refine AW_loopk (G := Nat) (fun i => ⟨[(9, iA i), (7, .sl 1 (Vs.map iA)), (8, .sl 1 (Vs.map iA)), (2, bA false)], []⟩)
    (fun i => i ≤ Vs.length) (fun i => Vs.length - i) 0 (by omega) (by simp) ?_
  intro i hi K hK
  by_cases hlt : i < Vs.length
  · repeat' (first
     | (with_reducible first | refine useK (by assumption) ?_ | refine useK2 (by assumption) ?_ | refine useX (by assumption) ?_ | refine AW_seqk fun K hK => ?_ | refine AW_block ?_) | (with_reducible refine AW_regionS rfl (by rw [hE]; decide) ?_; simp [*]) | with_reducible refine AW_region (by rw [hE]; decide) ?_ | ((with_reducible show RK _ _ _ _ _ _); first | (refine RK_nilk ?_; simp [*]) | (refine RK_stepk fun K' hK' => ?_; simp [*])) | with_reducible refine AW_drawq mixed (by rw [hE]; decide) (by simp [newOK]) ?_ | ((with_reducible show RKQ _ _ _ _ _ _); first | refine RKQ_nilk ⟨by decide, ?_⟩ | (refine RKQ_stepk fun K' hK' => ?_; simp [*])) | ((with_reducible first | refine AW_if fun X Y hX hY => ?_ | refine AW_ret ?_ | refine AW_skip ?_ | refine AW_exit ?_); simp [*]) | with_reducible refine And.intro ?_ ?_ | omega | (refine imp1 fun h => ?_))
    all_goals exact ⟨i + 1, by omega, by omega, by simp⟩
  · have hil : i = Vs.length := by omega
    subst hil
    repeat' (first
     | (with_reducible first | refine useK (by assumption) ?_ | refine useK2 (by assumption) ?_ | refine useX (by assumption) ?_ | refine AW_seqk fun K hK => ?_ | refine AW_block ?_) | (with_reducible refine AW_regionS rfl (by rw [hE]; decide) ?_; simp [*]) | with_reducible refine AW_region (by rw [hE]; decide) ?_ | ((with_reducible show RK _ _ _ _ _ _); first | (refine RK_nilk ?_; simp [*]) | (refine RK_stepk fun K' hK' => ?_; simp [*])) | with_reducible refine AW_drawq mixed (by rw [hE]; decide) (by simp [newOK]) ?_ | ((with_reducible show RKQ _ _ _ _ _ _); first | refine RKQ_nilk ⟨by decide, ?_⟩ | (refine RKQ_stepk fun K' hK' => ?_; simp [*])) | ((with_reducible first | refine AW_if fun X Y hX hY => ?_ | refine AW_ret ?_ | refine AW_skip ?_ | refine AW_exit ?_); simp [*]) | with_reducible refine And.intro ?_ ?_ | omega | (refine imp1 fun h => ?_))
theorem spec (avs : List AV) (h : ShapeL Tryz.prog 6 Tryz.f3.params.toList avs) : PSpec Tryz.prog 3 avs (.v (.bool true)) := by
  rw [Tryz.params3] at h
  obtain ⟨c1, r1, rfl, h1, rfl⟩ := h
  obtain ⟨l, rfl, hl, hll⟩ := avXs h1
  rw [show mkAV Tryz.prog 22 [.sl 10 (l.map encX)] = .sl 10 (l.map encX) by simp [mkAV]]
  exact law l hl hll
theorem contract (H : Type) (enc : TypeId × Value → H) (W : World) (base : Nat) (args : Array Value) (ds gs : List (DataW H)) (before : List MemPlace)
    (hval : ∀ (j : Nat) t v, Tryz.f3.params[j]? = some t → args[j]? = some v → Value.okWide Tryz.prog W .any base t v)
    (hW : DataW.Whole enc Tryz.prog Tryz.f3.params.toList Rows.manifestRunsSpec.vars false W args.toList ds gs before) :
    Calls Tryz.prog 3 args W fun e W' => ∃ v, e = .returned v ∧ Rows.manifestRunsSpec.post enc Tryz.prog Tryz.f3 false true false false W args v W' :=
  law_contract (m := 6) (tb := 4) spec (by rw [Tryz.params3]; intro t ht; simp at ht; subst ht <;> kernel_rfl) rfl laidK
    (by rw [Tryz.params3]; intro t ht; simp at ht; subst ht <;> exact ⟨by kernel_rfl, by decide +kernel⟩)
    (fun ds hd => by
      rw [Tryz.params3] at hd
      match ds, hd with
      | [d1], _ => rfl) (by kernel_rfl) Tryz.underlying4 hval hW
theorem lifted (os : Os) (started : os.Started) (H : Type) (enc : TypeId × Value → H) :
    ReturnsInHanded {} Tryz.checked os 3 .any (fun w args => (Rows.manifestRunsSpec.pre enc Tryz.prog Tryz.f3 [] false w args ∧ laidMetH Tryz.prog laid3 w) ∧ sizedMet enc Tryz.prog Tryz.f3 (OpenSpec.ofChange Rows.manifestRunsSpec) false w args) (Rows.manifestRunsSpec.post enc Tryz.prog Tryz.f3 false true false false) := by
  refine returnsInHanded_of_change_and (C := Tryz.checked) (X := fun w _ => laidMetH Tryz.prog laid3 w) (fun _ _ _ hh h => h.of_heap hh) ownK started (by kernel_rfl) Tryz.func3
    (ChangeSpec.witness_shaped (enc := enc) (C := Tryz.checked) (os := os) (X := fun w _ => laidMetH Tryz.prog laid3 w) false (World.doorLaid Tryz.prog 400 os) #[.slice .none 0 0] 8 rfl (World.shaped_of_RefB (by kernel_rfl) (by kernel_rfl)) (by kernel_rfl) (by kernel_rfl) (by kernel_rfl) (door_met os _)) ?_
  intro W base args ds gs before hval hW _ _ _ _
  exact contract H enc W base args ds gs before hval hW
theorem bare : Rows.ManifestRunsSaid :=
  OpenClaim.holds_of_wide 3 Tryz.f3 rfl rfl rfl rfl rfl rfl rfl ⟨rfl, rfl, rfl, rfl, rfl⟩ rfl rfl rfl rfl rfl (by kernel_rfl) Tryz.func3 (by kernel_rfl)
    (of_decide_eq_true (by kernel_rfl)) (by unfold Func.isWrapper; first | (rw [if_pos (by decide +kernel)]; kernel_rfl) | (rw [if_neg (by decide +kernel)]; exact ⟨rfl, rfl⟩))
    (fun os started H enc _ => lifted os started H enc)
theorem said : Rows.ManifestRunsCardSaid :=
  Claim7.holds_tied_plain_at .later [] [.data, .data, .data] true (true, "75ed40ecdae35fe39caa681945729e8be498e0e2caeb3fe34fea808459d7c1ae") true
    bare (fun _ h => by cases h) (by kernel_rfl) (fun _ h => by cases h) manifestRuns_row_tie rfl ⟨rfl, rfl⟩ (by kernel_rfl) rfl
    (fun f fn hf hfn => by
      obtain rfl : f = 3 := Option.some.inj ((show Tryz.prog.funcNamed "viator/viatorlaw40.ManifestRuns" = some 3 by kernel_rfl).symm.trans hf) |>.symm
      obtain rfl : fn = Tryz.f3 := (Option.some.inj (Tryz.func3.symm.trans hfn)).symm
      exact ⟨by kernel_rfl, fun j t ht => by
        rw [Tryz.params3] at ht
        have hm : t ∈ Tryz.f3.params.toList := by rw [Tryz.params3]; simpa using Array.mem_of_getElem? ht
        have hall : (Tryz.f3.params.toList.all fun u => !Tryz.prog.wantsStandIn u) = true := by kernel_rfl
        exact (show Tryz.prog.wantsStandIn t = false by simpa using List.all_eq_true.1 hall t hm)⟩)
    (by kernel_rfl)
end L5
end Go.Proofs.YtbibemijcdkjhaaGreatDoor
