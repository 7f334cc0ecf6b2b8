/- ManifestEncodes: for any edit the law hands back true. Conditions: none. -/
import Derived.Test.YtbibemijcdkjhaaGreatDoorZ5
import Derived.Test.YtbibemijcdkjhaaGreatDoorZJ
import Derived.Test.YtbibemijcdkjhaaGreatDoorZK
import Derived.Test.YtbibemijcdkjhaaGreatDoorZ7
import Derived.Test.YtbibemijcdkjhaaGreatDoorZ8
import Derived.Test.YtbibemijcdkjhaaGreatDoorTie
import Derived.Test.YtbibemijcdkjhaaGreatDoorCards
set_option maxRecDepth 100000
set_option linter.unusedSimpArgs false
set_option linter.unusedVariables false
namespace Go.Proofs.YtbibemijcdkjhaaGreatDoor
open Go.Am Go.RowKit Go.ChangeShapes Go.WideShapes Go.ChangeAt Go.Num
theorem ownK : ownKnob Tryz.prog.godebug = none := by kernel_rfl
theorem laidK : laidOutB Tryz.prog = true := by kernel_rfl
namespace L7
theorem numsIn {e : Ed} (h : EdIn e) : ∀ n ∈ numsE e, I64 n := by
  intro n hn
  have h1 := h.rem.2
  have h2 := h.add.2
  simp only [numsE, List.mem_append, List.mem_flatMap] at hn
  rcases hn with ((hn | hn) | hn) | ⟨s, hs, hn⟩
  · simp at hn
    rcases hn with rfl | rfl | rfl | rfl
    · exact h.kind
    · exact h.belief
    · exact h.used
    · constructor <;> omega
  · exact h.rem.1 n hn
  · simp at hn
    subst hn
    constructor <;> omega
  · have hS := h.add.1 s hs
    simp [numsS] at hn
    rcases hn with rfl | rfl | rfl | rfl | rfl | rfl | rfl | rfl | rfl
    · exact hS.id
    · exact hS.x0
    · exact hS.x1
    · exact hS.y0
    · exact hS.y1
    · exact hS.t0
    · exact hS.t1
    · exact hS.un
    · exact hS.by_
set_option maxHeartbeats 4000000 in
theorem law (e : Ed) (he : EdIn e) : PSpecL Tryz.prog LW 4 [encE e] (bA true) := by
  have hkn := Hld.mk s_known
  have hsh := Hld.mk (s_short e ⟨he.rem.2, he.add.2⟩)
  have hI := numsIn he
  by_cases hs : (e.rem.length : Int) ≤ 8 ∧ (e.add.length : Int) ≤ 8
  · obtain ⟨hr, ha⟩ := hs
    have henc := Hld.mk (s_enc e (by omega) (by omega) hI)
    have hpen := Hld.mk (s_encodeL e (by omega) (by omega) hI)
    have hlen := lns_len hI
    have hnl := numsE_len e
    have hdec := Hld.mk (s_decode (lns (numsE e)) (by omega))
    have hmd := Hld.mk (s_mdec (lns (numsE e)) (by omega))
    have hok := decS_enc' e
    have hbad : (decS (lns (numsE e))).2 ≠ 0 → (decS (lns (numsE e))).1 = ed0 := by
      intro h
      unfold decS at h ⊢
      cases hn : numsOf (lns (numsE e)) with
      | none => rfl
      | some l =>
        rw [hn] at h
        exact decN_bad (l := l) (e := (decN l).1) (c := (decN l).2) rfl h
    generalize lns (numsE e) = S at *
    unfold resA at hdec hmd
    generalize (decS S).1 = b at *
    generalize (decS S).2 = c at *
    have hbl : b.rem.length ≤ 1000 ∧ b.add.length ≤ 1000 := by
      by_cases hc : c = 0
      · rw [hok hc]; omega
      · rw [hbad hc]; simp [ed0]
    have hbb := s_sameE b b hbl.1 hbl.2 hbl.1 hbl.2
    rw [decide_eq_true rfl] at hbb
    replace hbb := Hld.mk hbb
    have hbe : Hld (c = 0 → PSpec Tryz.prog 17 [encE b, encE e] (bA true)) := ⟨fun hc => by
      have h := hok hc
      subst h
      exact hbb.out⟩
    clear hI hlen hnl hok hbad hbl
    refine PSpecL_of stays_LW Tryz.func4 rfl rfl (Nat.le_of_ble_eq_true rfl) (Nat.le_of_ble_eq_true rfl) ?_
    intro E hE hLd
    refine AW_seqt ⟨[(1, .loc 1 0)], [(1, .box 36 (encE e))]⟩ ?_ (by
      intro K hK
      repeat' (first
       | (with_reducible first | refine uK ?_ | refine uX ?_ | refine AW_seqk fun K hK => ?_ | refine AW_block ?_) | ((with_reducible first | refine rS hE ?_ | refine RK_nilk ?_ | refine RK_stepk fun K' hK' => ?_ | refine AW_if fun X Y hX hY => ?_ | refine AW_ret ?_ | refine AW_skip ?_ | refine AW_exit ?_); simp [*]) | with_reducible refine rL hE ?_ | with_reducible refine And.intro ?_ ?_ | omega | (refine imp1 fun h => ?_))
      all_goals simp)
    refine AW_freeze 1 (cb := .box 36 (encE e)) (t := ⟨[(1, .ep (encE e))], []⟩) (by simp) (by simp) (by simp) ?_
    by_cases hc : c = 0
    · have hbe2 := Hld.mk (hbe.out hc)
      clear hbe
      subst hc
      repeat' (first
       | (with_reducible first | refine useK (by assumption) ?_ | refine useK2 (by assumption) ?_ | refine useX (by assumption) ?_ | refine AW_seqk fun K hK => ?_ | refine AW_block ?_) | (with_reducible refine AW_regionS rfl (by rw [hE]; decide) ?_; simp [*]) | with_reducible refine AW_region (by rw [hE]; decide) ?_ | ((with_reducible show RK _ _ _ _ _ _); first | (refine RK_nilk ?_; simp [*]) | (refine RK_stepk fun K' hK' => ?_; simp [*])) | with_reducible refine AW_drawq mixed (by rw [hE]; decide) (by simp [newOK]) ?_ | ((with_reducible show RKQ _ _ _ _ _ _); first | refine RKQ_nilk ⟨by decide, ?_⟩ | (refine RKQ_stepk fun K' hK' => ?_; simp [*])) | ((with_reducible first | refine AW_if fun X Y hX hY => ?_ | refine AW_ret ?_ | refine AW_skip ?_ | refine AW_exit ?_); simp [*]) | ((first | refine acall_same (hkn.out) ?_ ?_ ?_ | refine call_same (hkn.out) ?_ ?_ ?_); (focus (simp [*] <;> fail)); (focus (simp [*] <;> fail)); simp [*]) | ((first | refine acall_view (hkn.out) ?_ ?_ ?_ | refine call_view (hkn.out) ?_ ?_ ?_); (focus (simp [*] <;> fail)); (focus (simp [*] <;> fail)); simp [*]) | ((first | refine acall_same (hsh.out) ?_ ?_ ?_ | refine call_same (hsh.out) ?_ ?_ ?_); (focus (simp [*] <;> fail)); (focus (simp [*] <;> fail)); simp [*]) | ((first | refine acall_view (hsh.out) ?_ ?_ ?_ | refine call_view (hsh.out) ?_ ?_ ?_); (focus (simp [*] <;> fail)); (focus (simp [*] <;> fail)); simp [*]) | ((first | refine acall_same (henc.out) ?_ ?_ ?_ | refine call_same (henc.out) ?_ ?_ ?_); (focus (simp [*] <;> fail)); (focus (simp [*] <;> fail)); simp [*]) | ((first | refine acall_view (henc.out) ?_ ?_ ?_ | refine call_view (henc.out) ?_ ?_ ?_); (focus (simp [*] <;> fail)); (focus (simp [*] <;> fail)); simp [*]) | (refine acall_sameL hLd (hdec.out) ?_ ?_ ?_; (focus (simp [*] <;> fail)); (focus (simp [*] <;> fail)); simp [*]) | (refine acall_viewL hLd (hdec.out) ?_ ?_ ?_; (focus (simp [*] <;> fail)); (focus (simp [*] <;> fail)); simp [*]) | ((first | refine acall_same (hmd.out) ?_ ?_ ?_ | refine call_same (hmd.out) ?_ ?_ ?_); (focus (simp [*] <;> fail)); (focus (simp [*] <;> fail)); simp [*]) | ((first | refine acall_view (hmd.out) ?_ ?_ ?_ | refine call_view (hmd.out) ?_ ?_ ?_); (focus (simp [*] <;> fail)); (focus (simp [*] <;> fail)); simp [*]) | (refine acall_sameL hLd (hpen.out) ?_ ?_ ?_; (focus (simp [*] <;> fail)); (focus (simp [*] <;> fail)); simp [*]) | (refine acall_viewL hLd (hpen.out) ?_ ?_ ?_; (focus (simp [*] <;> fail)); (focus (simp [*] <;> fail)); simp [*]) | ((first | refine acall_same (hbb.out) ?_ ?_ ?_ | refine call_same (hbb.out) ?_ ?_ ?_); (focus (simp [*] <;> fail)); (focus (simp [*] <;> fail)); simp [*]) | ((first | refine acall_view (hbb.out) ?_ ?_ ?_ | refine call_view (hbb.out) ?_ ?_ ?_); (focus (simp [*] <;> fail)); (focus (simp [*] <;> fail)); simp [*]) | ((first | refine acall_same (hbe2.out) ?_ ?_ ?_ | refine call_same (hbe2.out) ?_ ?_ ?_); (focus (simp [*] <;> fail)); (focus (simp [*] <;> fail)); simp [*]) | ((first | refine acall_view (hbe2.out) ?_ ?_ ?_ | refine call_view (hbe2.out) ?_ ?_ ?_); (focus (simp [*] <;> fail)); (focus (simp [*] <;> fail)); simp [*]) | with_reducible refine And.intro ?_ ?_ | omega | (refine imp1 fun h => ?_))
    · clear hbe
      repeat' (first
       | (with_reducible first | refine useK (by assumption) ?_ | refine useK2 (by assumption) ?_ | refine useX (by assumption) ?_ | refine AW_seqk fun K hK => ?_ | refine AW_block ?_) | (with_reducible refine AW_regionS rfl (by rw [hE]; decide) ?_; simp [*]) | with_reducible refine AW_region (by rw [hE]; decide) ?_ | ((with_reducible show RK _ _ _ _ _ _); first | (refine RK_nilk ?_; simp [*]) | (refine RK_stepk fun K' hK' => ?_; simp [*])) | with_reducible refine AW_drawq mixed (by rw [hE]; decide) (by simp [newOK]) ?_ | ((with_reducible show RKQ _ _ _ _ _ _); first | refine RKQ_nilk ⟨by decide, ?_⟩ | (refine RKQ_stepk fun K' hK' => ?_; simp [*])) | ((with_reducible first | refine AW_if fun X Y hX hY => ?_ | refine AW_ret ?_ | refine AW_skip ?_ | refine AW_exit ?_); simp [*]) | ((first | refine acall_same (hkn.out) ?_ ?_ ?_ | refine call_same (hkn.out) ?_ ?_ ?_); (focus (simp [*] <;> fail)); (focus (simp [*] <;> fail)); simp [*]) | ((first | refine acall_view (hkn.out) ?_ ?_ ?_ | refine call_view (hkn.out) ?_ ?_ ?_); (focus (simp [*] <;> fail)); (focus (simp [*] <;> fail)); simp [*]) | ((first | refine acall_same (hsh.out) ?_ ?_ ?_ | refine call_same (hsh.out) ?_ ?_ ?_); (focus (simp [*] <;> fail)); (focus (simp [*] <;> fail)); simp [*]) | ((first | refine acall_view (hsh.out) ?_ ?_ ?_ | refine call_view (hsh.out) ?_ ?_ ?_); (focus (simp [*] <;> fail)); (focus (simp [*] <;> fail)); simp [*]) | ((first | refine acall_same (henc.out) ?_ ?_ ?_ | refine call_same (henc.out) ?_ ?_ ?_); (focus (simp [*] <;> fail)); (focus (simp [*] <;> fail)); simp [*]) | ((first | refine acall_view (henc.out) ?_ ?_ ?_ | refine call_view (henc.out) ?_ ?_ ?_); (focus (simp [*] <;> fail)); (focus (simp [*] <;> fail)); simp [*]) | (refine acall_sameL hLd (hdec.out) ?_ ?_ ?_; (focus (simp [*] <;> fail)); (focus (simp [*] <;> fail)); simp [*]) | (refine acall_viewL hLd (hdec.out) ?_ ?_ ?_; (focus (simp [*] <;> fail)); (focus (simp [*] <;> fail)); simp [*]) | ((first | refine acall_same (hmd.out) ?_ ?_ ?_ | refine call_same (hmd.out) ?_ ?_ ?_); (focus (simp [*] <;> fail)); (focus (simp [*] <;> fail)); simp [*]) | ((first | refine acall_view (hmd.out) ?_ ?_ ?_ | refine call_view (hmd.out) ?_ ?_ ?_); (focus (simp [*] <;> fail)); (focus (simp [*] <;> fail)); simp [*]) | (refine acall_sameL hLd (hpen.out) ?_ ?_ ?_; (focus (simp [*] <;> fail)); (focus (simp [*] <;> fail)); simp [*]) | (refine acall_viewL hLd (hpen.out) ?_ ?_ ?_; (focus (simp [*] <;> fail)); (focus (simp [*] <;> fail)); simp [*]) | ((first | refine acall_same (hbb.out) ?_ ?_ ?_ | refine call_same (hbb.out) ?_ ?_ ?_); (focus (simp [*] <;> fail)); (focus (simp [*] <;> fail)); simp [*]) | ((first | refine acall_view (hbb.out) ?_ ?_ ?_ | refine call_view (hbb.out) ?_ ?_ ?_); (focus (simp [*] <;> fail)); (focus (simp [*] <;> fail)); simp [*]) | with_reducible refine And.intro ?_ ?_ | omega | (refine imp1 fun h => ?_))
  · have hB : (decide ((e.rem.length : Int) ≤ 8) && decide ((e.add.length : Int) ≤ 8)) = false := by
      rw [Bool.eq_false_iff]
      intro h
      simp at h
      exact hs (by omega)
    rw [hB] at hsh
    clear hI hB hs
    refine PSpecL_of stays_LW Tryz.func4 rfl rfl (Nat.le_of_ble_eq_true rfl) (Nat.le_of_ble_eq_true rfl) ?_
    intro E hE hLd
    repeat' (first
     | (with_reducible first | refine useK (by assumption) ?_ | refine useK2 (by assumption) ?_ | refine useX (by assumption) ?_ | refine AW_seqk fun K hK => ?_ | refine AW_block ?_) | (with_reducible refine AW_regionS rfl (by rw [hE]; decide) ?_; simp [*]) | with_reducible refine AW_region (by rw [hE]; decide) ?_ | ((with_reducible show RK _ _ _ _ _ _); first | (refine RK_nilk ?_; simp [*]) | (refine RK_stepk fun K' hK' => ?_; simp [*])) | with_reducible refine AW_drawq mixed (by rw [hE]; decide) (by simp [newOK]) ?_ | ((with_reducible show RKQ _ _ _ _ _ _); first | refine RKQ_nilk ⟨by decide, ?_⟩ | (refine RKQ_stepk fun K' hK' => ?_; simp [*])) | ((with_reducible first | refine AW_if fun X Y hX hY => ?_ | refine AW_ret ?_ | refine AW_skip ?_ | refine AW_exit ?_); simp [*]) | ((first | refine acall_same (hkn.out) ?_ ?_ ?_ | refine call_same (hkn.out) ?_ ?_ ?_); (focus (simp [*] <;> fail)); (focus (simp [*] <;> fail)); simp [*]) | ((first | refine acall_view (hkn.out) ?_ ?_ ?_ | refine call_view (hkn.out) ?_ ?_ ?_); (focus (simp [*] <;> fail)); (focus (simp [*] <;> fail)); simp [*]) | ((first | refine acall_same (hsh.out) ?_ ?_ ?_ | refine call_same (hsh.out) ?_ ?_ ?_); (focus (simp [*] <;> fail)); (focus (simp [*] <;> fail)); simp [*]) | ((first | refine acall_view (hsh.out) ?_ ?_ ?_ | refine call_view (hsh.out) ?_ ?_ ?_); (focus (simp [*] <;> fail)); (focus (simp [*] <;> fail)); simp [*]) | with_reducible refine And.intro ?_ ?_ | omega | (refine imp1 fun h => ?_))
theorem spec (avs : List AV) (h : ShapeL Tryz.prog 6 Tryz.f4.params.toList avs) : PSpecL Tryz.prog LW 4 avs (.v (.bool true)) := by
  rw [Tryz.params4] at h
  obtain ⟨c1, r1, rfl, h1, rfl⟩ := h
  obtain ⟨e, he, hin⟩ := avE h1
  rw [he]
  exact law e hin
theorem contract (H : Type) (enc : TypeId × Value → H) (W : World) (base : Nat) (args : Array Value) (ds gs : List (DataW H)) (before : List MemPlace)
    (hval : ∀ (j : Nat) t v, Tryz.f4.params[j]? = some t → args[j]? = some v → Value.okWide Tryz.prog W .any base t v)
    (hW : DataW.Whole enc Tryz.prog Tryz.f4.params.toList Rows.manifestEncodesSpec.vars false W args.toList ds gs before)
    (hX : laidMetH Tryz.prog laid5 W) : Calls Tryz.prog 4 args W fun e W' => ∃ v, e = .returned v ∧ Rows.manifestEncodesSpec.post enc Tryz.prog Tryz.f4 false true false false W args v W' :=
  law_contractL (LW_of hX) (m := 6) (tb := 4) spec (by rw [Tryz.params4]; intro t ht; simp at ht; subst ht <;> kernel_rfl) rfl laidK
    (by rw [Tryz.params4]; intro t ht; simp at ht; subst ht <;> exact ⟨by kernel_rfl, by decide +kernel⟩)
    (fun ds hd => by
      rw [Tryz.params4] at hd
      match ds, hd with
      | [d1], _ => rfl) (by kernel_rfl) Tryz.underlying4 hval hW
theorem lifted (os : Os) (started : os.Started) (H : Type) (enc : TypeId × Value → H) :
    ReturnsInHanded {} Tryz.checked os 4 .any (fun w args => (Rows.manifestEncodesSpec.pre enc Tryz.prog Tryz.f4 [] false w args ∧ laidMetH Tryz.prog laid5 w) ∧ sizedMet enc Tryz.prog Tryz.f4 (OpenSpec.ofChange Rows.manifestEncodesSpec) false w args) (Rows.manifestEncodesSpec.post enc Tryz.prog Tryz.f4 false true false false) := by
  refine returnsInHanded_of_change_and (C := Tryz.checked) (X := fun w _ => laidMetH Tryz.prog laid5 w) (fun _ _ _ hh h => h.of_heap hh) ownK started (by kernel_rfl) Tryz.func4
    (ChangeSpec.witness_shaped (enc := enc) (C := Tryz.checked) (os := os) (X := fun w _ => laidMetH Tryz.prog laid5 w) false (World.doorLaid Tryz.prog 400 os) #[.agg #[.int .i64 0, .int .i64 0, .int .i64 0, .slice .none 0 0, .slice .none 0 0]] 8 rfl (World.shaped_of_RefB (by kernel_rfl) (by kernel_rfl)) (by kernel_rfl) (by kernel_rfl) (by kernel_rfl) (door_met5 os _)) ?_
  intro W base args ds gs before hval hW h1 h2 h3 h4
  exact contract H enc W base args ds gs before hval hW (by first | exact h1 | exact h2 | exact h3 | exact h4 | exact h1.2 | exact h2.2 | exact h3.2 | exact h4.2)
theorem bare : Rows.ManifestEncodesSaid :=
  OpenClaim.holds_of_wide 4 Tryz.f4 rfl rfl rfl rfl rfl rfl rfl ⟨rfl, rfl, rfl, rfl, rfl⟩ rfl rfl rfl rfl rfl (by kernel_rfl) Tryz.func4 (by kernel_rfl)
    (of_decide_eq_true (by kernel_rfl)) (by unfold Func.isWrapper; first | (rw [if_pos (by decide +kernel)]; kernel_rfl) | (rw [if_neg (by decide +kernel)]; exact ⟨rfl, rfl⟩))
    (fun os started H enc _ => lifted os started H enc)
theorem said : Rows.ManifestEncodesCardSaid :=
  Claim7.holds_tied_plain_at .later [] [.data, .data, .data, .sentinel, .sentinel] true (true, "75ed40ecdae35fe39caa681945729e8be498e0e2caeb3fe34fea808459d7c1ae") true
    bare (fun _ h => by cases h) (by kernel_rfl) (fun _ h => by cases h) manifestEncodes_row_tie rfl ⟨rfl, rfl⟩ (by kernel_rfl) rfl
    (fun f fn hf hfn => by
      obtain rfl : f = 4 := Option.some.inj ((show Tryz.prog.funcNamed "viator/viatorlaw40.ManifestEncodes" = some 4 by kernel_rfl).symm.trans hf) |>.symm
      obtain rfl : fn = Tryz.f4 := (Option.some.inj (Tryz.func4.symm.trans hfn)).symm
      exact ⟨by kernel_rfl, fun j t ht => by
        rw [Tryz.params4] at ht
        have hm : t ∈ Tryz.f4.params.toList := by rw [Tryz.params4]; simpa using Array.mem_of_getElem? ht
        have hall : (Tryz.f4.params.toList.all fun u => !Tryz.prog.wantsStandIn u) = true := by kernel_rfl
        exact (show Tryz.prog.wantsStandIn t = false by simpa using List.all_eq_true.1 hall t hm)⟩)
    (by kernel_rfl)
end L7
end Go.Proofs.YtbibemijcdkjhaaGreatDoor
