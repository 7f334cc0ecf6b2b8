/- ManifestDecodes: for any string the law hands back true. Conditions: none. -/
import Derived.Test.YtbibemijcdkjhaaGreatDoorZ5
import Derived.Test.YtbibemijcdkjhaaGreatDoorZJ
import Derived.Test.YtbibemijcdkjhaaGreatDoorZK
import Derived.Test.YtbibemijcdkjhaaGreatDoorZ8
import Derived.Test.YtbibemijcdkjhaaGreatDoorTie
import Derived.Test.YtbibemijcdkjhaaGreatDoorCards
set_option maxRecDepth 100000
set_option linter.unusedSimpArgs false
set_option linter.unusedVariables false
namespace Go.Proofs.YtbibemijcdkjhaaGreatDoor
open Go.Am Go.RowKit Go.ChangeShapes Go.WideShapes Go.ChangeAt Go.Num
theorem ownK : ownKnob Tryz.prog.godebug = none := by kernel_rfl
theorem laidK : laidOutB Tryz.prog = true := by kernel_rfl
namespace L8
set_option maxHeartbeats 4000000 in
theorem law (s : List UInt8) (hl : s.length ≤ 9223372036854775807) : PSpecL Tryz.prog LW 5 [strB s] (bA true) := by
  have hkn := Hld.mk s_known
  obtain ⟨t, ht⟩ : ∃ t, t = s.take 300 := ⟨_, rfl⟩
  have htl : t.length ≤ 300 := by rw [ht]; simp; omega
  have hx1 : 300 ≤ s.length → (ByteArray.mk s.toArray).extract 0 300 = ⟨t.toArray⟩ := fun _ => by rw [extract_mk, ht]; simp
  have hx2 : s.length ≤ 300 → (ByteArray.mk s.toArray).extract 0 s.length = ⟨t.toArray⟩ := fun h => by rw [extract_mk, ht, List.take_of_length_le h, List.take_of_length_le (Nat.le_refl _)]; simp
  clear ht
  have hdec := Hld.mk (s_decode t (by omega))
  have hmd := Hld.mk (s_mdec t (by omega))
  have hok := decS_ok (s := t)
  have hbad : (decS t).2 ≠ 0 → (decS t).1 = ed0 := by
    intro h
    unfold decS at h ⊢
    cases hn : numsOf t with
    | none => rfl
    | some l =>
      rw [hn] at h
      exact decN_bad (l := l) (e := (decN l).1) (c := (decN l).2) rfl h
  unfold resA at hdec hmd
  generalize (decS t).1 = b at *
  generalize (decS t).2 = c at *
  have hbl : b.rem.length ≤ 1000 ∧ b.add.length ≤ 1000 := by
    by_cases hc : c = 0
    · have h1 := (hok hc).1
      have h2 := lns_ge (numsE b)
      have h3 := numsE_len b
      rw [h1] at h2
      omega
    · rw [hbad hc]; simp [ed0]
  have hbb := s_sameE b b hbl.1 hbl.2 hbl.1 hbl.2
  rw [decide_eq_true rfl] at hbb
  replace hbb := Hld.mk hbb
  have hen : Hld (c = 0 → PSpecL Tryz.prog LW 16 [encE b] (strB t)) := ⟨fun hc => by
    obtain ⟨h1, h2⟩ := hok hc
    have := s_encodeL b hbl.1 hbl.2 (fun n hn => by have := h2 n hn; constructor <;> omega)
    rw [h1] at this
    exact this⟩
  clear hok hbad hbl
  refine PSpecL_of stays_LW Tryz.func5 rfl rfl (Nat.le_of_ble_eq_true rfl) (Nat.le_of_ble_eq_true rfl) ?_
  intro E hE hLd
  refine AW_seqt ⟨[(0, strB s)], []⟩ ?_ (by
    intro K hK
    repeat' (first
     | (with_reducible first | refine uK ?_ | refine uX ?_ | refine AW_seqk fun K hK => ?_ | refine AW_block ?_) | ((with_reducible first | refine rS hE ?_ | refine RK_nilk ?_ | refine RK_stepk fun K' hK' => ?_ | refine AW_if fun X Y hX hY => ?_ | refine AW_ret ?_ | refine AW_skip ?_ | refine AW_exit ?_); simp [*]) | with_reducible refine rL hE ?_ | with_reducible refine And.intro ?_ ?_ | omega | (refine imp1 fun h => ?_))
    all_goals simp)
  refine AW_seqt ⟨[(0, strB t)], []⟩ ?_ (by
    intro K hK
    by_cases h3 : 300 ≤ s.length
    · have hx := hx1 h3
      clear hx1 hx2
      have hmin : min (s.length : Int) 300 = 300 := by omega
      repeat' (first
       | (with_reducible first | refine uK ?_ | refine uX ?_ | refine AW_seqk fun K hK => ?_ | refine AW_block ?_) | ((with_reducible first | refine rS hE ?_ | refine RK_nilk ?_ | refine RK_stepk fun K' hK' => ?_ | refine AW_if fun X Y hX hY => ?_ | refine AW_ret ?_ | refine AW_skip ?_ | refine AW_exit ?_); simp [*]) | with_reducible refine rL hE ?_ | with_reducible refine And.intro ?_ ?_ | omega | (refine imp1 fun h => ?_))
      all_goals simp
    · have hx := hx2 (by omega)
      clear hx1 hx2
      have hmin : min (s.length : Int) 300 = (s.length : Int) := by omega
      repeat' (first
       | (with_reducible first | refine uK ?_ | refine uX ?_ | refine AW_seqk fun K hK => ?_ | refine AW_block ?_) | ((with_reducible first | refine rS hE ?_ | refine RK_nilk ?_ | refine RK_stepk fun K' hK' => ?_ | refine AW_if fun X Y hX hY => ?_ | refine AW_ret ?_ | refine AW_skip ?_ | refine AW_exit ?_); simp [*]) | with_reducible refine rL hE ?_ | with_reducible refine And.intro ?_ ?_ | omega | (refine imp1 fun h => ?_))
      all_goals simp)
  clear hx1 hx2
  by_cases hc : c = 0
  · have hen2 := Hld.mk (hen.out hc)
    clear hen
    subst hc
    repeat' (first
     | (with_reducible first | refine useK (by assumption) ?_ | refine useK2 (by assumption) ?_ | refine useX (by assumption) ?_ | refine AW_seqk fun K hK => ?_ | refine AW_block ?_) | (with_reducible refine AW_regionS rfl (by rw [hE]; decide) ?_; simp [*]) | with_reducible refine AW_region (by rw [hE]; decide) ?_ | ((with_reducible show RK _ _ _ _ _ _); first | (refine RK_nilk ?_; simp [*]) | (refine RK_stepk fun K' hK' => ?_; simp [*])) | with_reducible refine AW_drawq mixed (by rw [hE]; decide) (by simp [newOK]) ?_ | ((with_reducible show RKQ _ _ _ _ _ _); first | refine RKQ_nilk ⟨by decide, ?_⟩ | (refine RKQ_stepk fun K' hK' => ?_; simp [*])) | ((with_reducible first | refine AW_if fun X Y hX hY => ?_ | refine AW_ret ?_ | refine AW_skip ?_ | refine AW_exit ?_); simp [*]) | ((first | refine acall_same (hkn.out) ?_ ?_ ?_ | refine call_same (hkn.out) ?_ ?_ ?_); (focus (simp [*] <;> fail)); (focus (simp [*] <;> fail)); simp [*]) | ((first | refine acall_view (hkn.out) ?_ ?_ ?_ | refine call_view (hkn.out) ?_ ?_ ?_); (focus (simp [*] <;> fail)); (focus (simp [*] <;> fail)); simp [*]) | (refine acall_sameL hLd (hdec.out) ?_ ?_ ?_; (focus (simp [*] <;> fail)); (focus (simp [*] <;> fail)); simp [*]) | (refine acall_viewL hLd (hdec.out) ?_ ?_ ?_; (focus (simp [*] <;> fail)); (focus (simp [*] <;> fail)); simp [*]) | ((first | refine acall_same (hmd.out) ?_ ?_ ?_ | refine call_same (hmd.out) ?_ ?_ ?_); (focus (simp [*] <;> fail)); (focus (simp [*] <;> fail)); simp [*]) | ((first | refine acall_view (hmd.out) ?_ ?_ ?_ | refine call_view (hmd.out) ?_ ?_ ?_); (focus (simp [*] <;> fail)); (focus (simp [*] <;> fail)); simp [*]) | (refine acall_sameL hLd (hen2.out) ?_ ?_ ?_; (focus (simp [*] <;> fail)); (focus (simp [*] <;> fail)); simp [*]) | (refine acall_viewL hLd (hen2.out) ?_ ?_ ?_; (focus (simp [*] <;> fail)); (focus (simp [*] <;> fail)); simp [*]) | ((first | refine acall_same (hbb.out) ?_ ?_ ?_ | refine call_same (hbb.out) ?_ ?_ ?_); (focus (simp [*] <;> fail)); (focus (simp [*] <;> fail)); simp [*]) | ((first | refine acall_view (hbb.out) ?_ ?_ ?_ | refine call_view (hbb.out) ?_ ?_ ?_); (focus (simp [*] <;> fail)); (focus (simp [*] <;> fail)); simp [*]) | with_reducible refine And.intro ?_ ?_ | omega | (refine imp1 fun h => ?_))
  · clear hen
    repeat' (first
     | (with_reducible first | refine useK (by assumption) ?_ | refine useK2 (by assumption) ?_ | refine useX (by assumption) ?_ | refine AW_seqk fun K hK => ?_ | refine AW_block ?_) | (with_reducible refine AW_regionS rfl (by rw [hE]; decide) ?_; simp [*]) | with_reducible refine AW_region (by rw [hE]; decide) ?_ | ((with_reducible show RK _ _ _ _ _ _); first | (refine RK_nilk ?_; simp [*]) | (refine RK_stepk fun K' hK' => ?_; simp [*])) | with_reducible refine AW_drawq mixed (by rw [hE]; decide) (by simp [newOK]) ?_ | ((with_reducible show RKQ _ _ _ _ _ _); first | refine RKQ_nilk ⟨by decide, ?_⟩ | (refine RKQ_stepk fun K' hK' => ?_; simp [*])) | ((with_reducible first | refine AW_if fun X Y hX hY => ?_ | refine AW_ret ?_ | refine AW_skip ?_ | refine AW_exit ?_); simp [*]) | ((first | refine acall_same (hkn.out) ?_ ?_ ?_ | refine call_same (hkn.out) ?_ ?_ ?_); (focus (simp [*] <;> fail)); (focus (simp [*] <;> fail)); simp [*]) | ((first | refine acall_view (hkn.out) ?_ ?_ ?_ | refine call_view (hkn.out) ?_ ?_ ?_); (focus (simp [*] <;> fail)); (focus (simp [*] <;> fail)); simp [*]) | (refine acall_sameL hLd (hdec.out) ?_ ?_ ?_; (focus (simp [*] <;> fail)); (focus (simp [*] <;> fail)); simp [*]) | (refine acall_viewL hLd (hdec.out) ?_ ?_ ?_; (focus (simp [*] <;> fail)); (focus (simp [*] <;> fail)); simp [*]) | ((first | refine acall_same (hmd.out) ?_ ?_ ?_ | refine call_same (hmd.out) ?_ ?_ ?_); (focus (simp [*] <;> fail)); (focus (simp [*] <;> fail)); simp [*]) | ((first | refine acall_view (hmd.out) ?_ ?_ ?_ | refine call_view (hmd.out) ?_ ?_ ?_); (focus (simp [*] <;> fail)); (focus (simp [*] <;> fail)); simp [*]) | ((first | refine acall_same (hbb.out) ?_ ?_ ?_ | refine call_same (hbb.out) ?_ ?_ ?_); (focus (simp [*] <;> fail)); (focus (simp [*] <;> fail)); simp [*]) | ((first | refine acall_view (hbb.out) ?_ ?_ ?_ | refine call_view (hbb.out) ?_ ?_ ?_); (focus (simp [*] <;> fail)); (focus (simp [*] <;> fail)); simp [*]) | with_reducible refine And.intro ?_ ?_ | omega | (refine imp1 fun h => ?_))
theorem avStr {n : Nat} {cs : List AV} (h : ShapeC Tryz.prog (n + 1) 9 cs) : ∃ s : List UInt8, mkAV Tryz.prog 9 cs = strB s ∧ s.length ≤ 9223372036854775807 := by
  simp [ShapeC] at h
  obtain ⟨s, rfl, hs⟩ := h
  refine ⟨s.data.toList, ?_, ?_⟩
  · simp [mkAV]
  · simpa [maxLen] using hs
theorem spec (avs : List AV) (h : ShapeL Tryz.prog 6 Tryz.f5.params.toList avs) : PSpecL Tryz.prog LW 5 avs (.v (.bool true)) := by
  rw [Tryz.params5] at h
  obtain ⟨c1, r1, rfl, h1, rfl⟩ := h
  obtain ⟨s, hs, hl⟩ := avStr h1
  rw [hs]
  exact law s hl
theorem contract (H : Type) (enc : TypeId × Value → H) (W : World) (base : Nat) (args : Array Value) (ds gs : List (DataW H)) (before : List MemPlace)
    (hval : ∀ (j : Nat) t v, Tryz.f5.params[j]? = some t → args[j]? = some v → Value.okWide Tryz.prog W .any base t v)
    (hW : DataW.Whole enc Tryz.prog Tryz.f5.params.toList Rows.manifestDecodesSpec.vars false W args.toList ds gs before)
    (hX : laidMetH Tryz.prog laid5 W) : Calls Tryz.prog 5 args W fun e W' => ∃ v, e = .returned v ∧ Rows.manifestDecodesSpec.post enc Tryz.prog Tryz.f5 false true false false W args v W' :=
  law_contractL (LW_of hX) (m := 6) (tb := 4) spec (by rw [Tryz.params5]; intro t ht; simp at ht; subst ht <;> kernel_rfl) rfl laidK
    (by rw [Tryz.params5]; intro t ht; simp at ht; subst ht <;> exact ⟨by kernel_rfl, by decide +kernel⟩)
    (fun ds hd => by
      rw [Tryz.params5] at hd
      match ds, hd with
      | [d1], _ => rfl) (by kernel_rfl) Tryz.underlying4 hval hW
theorem lifted (os : Os) (started : os.Started) (H : Type) (enc : TypeId × Value → H) :
    ReturnsInHanded {} Tryz.checked os 5 .any (fun w args => (Rows.manifestDecodesSpec.pre enc Tryz.prog Tryz.f5 [] false w args ∧ laidMetH Tryz.prog laid5 w) ∧ sizedMet enc Tryz.prog Tryz.f5 (OpenSpec.ofChange Rows.manifestDecodesSpec) false w args) (Rows.manifestDecodesSpec.post enc Tryz.prog Tryz.f5 false true false false) := by
  refine returnsInHanded_of_change_and (C := Tryz.checked) (X := fun w _ => laidMetH Tryz.prog laid5 w) (fun _ _ _ hh h => h.of_heap hh) ownK started (by kernel_rfl) Tryz.func5
    (ChangeSpec.witness_shaped (enc := enc) (C := Tryz.checked) (os := os) (X := fun w _ => laidMetH Tryz.prog laid5 w) false (World.doorLaid Tryz.prog 400 os) #[.string ⟨#[]⟩] 8 rfl (World.shaped_of_RefB (by kernel_rfl) (by kernel_rfl)) (by kernel_rfl) (by kernel_rfl) (by kernel_rfl) (door_met5 os _)) ?_
  intro W base args ds gs before hval hW h1 h2 h3 h4
  exact contract H enc W base args ds gs before hval hW (by first | exact h1 | exact h2 | exact h3 | exact h4 | exact h1.2 | exact h2.2 | exact h3.2 | exact h4.2)
theorem bare : Rows.ManifestDecodesSaid :=
  OpenClaim.holds_of_wide 5 Tryz.f5 rfl rfl rfl rfl rfl rfl rfl ⟨rfl, rfl, rfl, rfl, rfl⟩ rfl rfl rfl rfl rfl (by kernel_rfl) Tryz.func5 (by kernel_rfl)
    (of_decide_eq_true (by kernel_rfl)) (by unfold Func.isWrapper; first | (rw [if_pos (by decide +kernel)]; kernel_rfl) | (rw [if_neg (by decide +kernel)]; exact ⟨rfl, rfl⟩))
    (fun os started H enc _ => lifted os started H enc)
theorem said : Rows.ManifestDecodesCardSaid :=
  Claim7.holds_tied_plain_at .later [] [.data, .data, .data, .sentinel, .sentinel] true (true, "75ed40ecdae35fe39caa681945729e8be498e0e2caeb3fe34fea808459d7c1ae") true
    bare (fun _ h => by cases h) (by kernel_rfl) (fun _ h => by cases h) manifestDecodes_row_tie rfl ⟨rfl, rfl⟩ (by kernel_rfl) rfl
    (fun f fn hf hfn => by
      obtain rfl : f = 5 := Option.some.inj ((show Tryz.prog.funcNamed "viator/viatorlaw40.ManifestDecodes" = some 5 by kernel_rfl).symm.trans hf) |>.symm
      obtain rfl : fn = Tryz.f5 := (Option.some.inj (Tryz.func5.symm.trans hfn)).symm
      exact ⟨by kernel_rfl, fun j t ht => by
        rw [Tryz.params5] at ht
        have hm : t ∈ Tryz.f5.params.toList := by rw [Tryz.params5]; simpa using Array.mem_of_getElem? ht
        have hall : (Tryz.f5.params.toList.all fun u => !Tryz.prog.wantsStandIn u) = true := by kernel_rfl
        exact (show Tryz.prog.wantsStandIn t = false by simpa using List.all_eq_true.1 hall t hm)⟩)
    (by kernel_rfl)
end L8
end Go.Proofs.YtbibemijcdkjhaaGreatDoor
