/- ManifestSegments: for any segment the law hands back true. Conditions: none. -/
import Derived.Test.YtbibemijcdkjhaaDoorZ5
import Derived.Test.YtbibemijcdkjhaaDoorZ8
import Derived.Test.YtbibemijcdkjhaaDoorTie
import Derived.Test.YtbibemijcdkjhaaDoorCards
import Derived.LaidMore
import Derived.Stop.Joined
set_option maxRecDepth 100000
set_option linter.unusedSimpArgs false
set_option linter.unusedVariables false
namespace Go.Proofs.YtbibemijcdkjhaaDoor
open Go.Am Go.RowKit Go.ChangeShapes Go.WideShapes Go.ChangeAt

def laid3 : List (String × DataW Unit) := [("math/bits.deBruijn32tab", Rows.laid_math_bits_deBruijn32tab), ("math/bits.deBruijn64tab", Rows.laid_math_bits_deBruijn64tab), ("internal/strconv.uint64pow10", Rows.laid_internal_strconv_uint64pow10)]
theorem ownK : ownKnob Tryd.prog.godebug = none := by kernel_rfl
theorem laidK : laidOutB Tryd.prog = true := by kernel_rfl
theorem door_met (os : Os) (args : Array Value) : laidMetH Tryd.prog laid3 ((World.doorLaid Tryd.prog 400 os).forCall (fun _ _ => 0) ⟨#[], args, []⟩).memory :=
  laidMetH_of_parts3 (fuel := 8) (laidMet_of_run' 8 (by kernel_rfl) (by kernel_rfl)) (by kernel_rfl) (by kernel_rfl)
def zS : Value := .agg #[.int .i64 0, .int .i64 0, .int .i64 0, .int .i64 0, .int .i64 0, .int .i64 0, .int .i64 0, .int .i64 0, .int .i64 0]
namespace L1
theorem law (s : Seg) : PSpec Tryd.prog 3 [encS s] (bA true) := by
  refine PSpec_of Tryd.func3 rfl rfl (Nat.le_of_ble_eq_true rfl) (Nat.le_of_ble_eq_true rfl) ?_
  intro E hE
  repeat' (first
    | with_reducible refine useK (by assumption) ?_
    | with_reducible refine useK2 (by assumption) ?_
    | with_reducible refine useX (by assumption) ?_
    | with_reducible refine AW_seqk fun K hK => ?_
    | (with_reducible refine AW_regionS rfl (by rw [hE]; decide) ?_; simp [*])
    | with_reducible refine AW_region (by rw [hE]; decide) ?_
    | ((with_reducible show RK _ _ _ _ _ _); refine RK_nilk ?_; simp [*])
    | ((with_reducible show RK _ _ _ _ _ _); refine RK_stepk fun K' hK' => ?_; simp [*])
    | with_reducible refine AW_drawq mixed (by rw [hE]; decide) (by simp [newOK]) ?_
    | ((with_reducible show RKQ _ _ _ _ _ _); refine RKQ_nilk ⟨by decide, ?_⟩)
    | ((with_reducible show RKQ _ _ _ _ _ _); refine RKQ_stepk fun K' hK' => ?_; simp [*])
    | (with_reducible refine AW_if fun X Y hX hY => ?_; simp [*])
    | with_reducible refine AW_block ?_
    | (with_reducible refine AW_ret ?_; simp [*])
    | (with_reducible refine AW_skip ?_; simp [*])
    | (with_reducible refine AW_exit ?_; simp [*])
    | (refine acall_same (s_known) ?_ ?_ ?_; (focus (simp [*] <;> fail)); (focus (simp [*] <;> fail)); simp [*])
    | (refine call_same (s_known) ?_ ?_ ?_; (focus (simp [*] <;> fail)); (focus (simp [*] <;> fail)); simp [*])
    | (refine acall_view (s_known) ?_ ?_ ?_; (focus (simp [*] <;> fail)); (focus (simp [*] <;> fail)); simp [*])
    | (refine call_view (s_known) ?_ ?_ ?_; (focus (simp [*] <;> fail)); (focus (simp [*] <;> fail)); simp [*])
    | (refine acall_same (s_chk s) ?_ ?_ ?_; (focus (simp [*] <;> fail)); (focus (simp [*] <;> fail)); simp [*])
    | (refine call_same (s_chk s) ?_ ?_ ?_; (focus (simp [*] <;> fail)); (focus (simp [*] <;> fail)); simp [*])
    | (refine acall_view (s_chk s) ?_ ?_ ?_; (focus (simp [*] <;> fail)); (focus (simp [*] <;> fail)); simp [*])
    | (refine call_view (s_chk s) ?_ ?_ ?_; (focus (simp [*] <;> fail)); (focus (simp [*] <;> fail)); simp [*])
    | (refine acall_same (s_chkw s) ?_ ?_ ?_; (focus (simp [*] <;> fail)); (focus (simp [*] <;> fail)); simp [*])
    | (refine call_same (s_chkw s) ?_ ?_ ?_; (focus (simp [*] <;> fail)); (focus (simp [*] <;> fail)); simp [*])
    | (refine acall_view (s_chkw s) ?_ ?_ ?_; (focus (simp [*] <;> fail)); (focus (simp [*] <;> fail)); simp [*])
    | (refine call_view (s_chkw s) ?_ ?_ ?_; (focus (simp [*] <;> fail)); (focus (simp [*] <;> fail)); simp [*])
    | with_reducible refine And.intro ?_ ?_
    | omega
    | (refine imp1 fun h => ?_))
theorem spec (avs : List AV) (h : ShapeL Tryd.prog 6 Tryd.f3.params.toList avs) : PSpec Tryd.prog 3 avs (.v (.bool true)) := by
  rw [Tryd.params3] at h
  obtain ⟨c1, r1, rfl, h1, rfl⟩ := h
  obtain ⟨a, ha, -⟩ := avS h1
  rw [ha]
  exact law a
theorem contract (H : Type) (enc : TypeId × Value → H) (W : World) (base : Nat) (args : Array Value) (ds gs : List (DataW H)) (before : List MemPlace)
    (hval : ∀ (j : Nat) t v, Tryd.f3.params[j]? = some t → args[j]? = some v → Value.okWide Tryd.prog W .any base t v)
    (hW : DataW.Whole enc Tryd.prog Tryd.f3.params.toList Rows.manifestSegmentsSpec.vars false W args.toList ds gs before) :
    Calls Tryd.prog 3 args W fun e W' => ∃ v, e = .returned v ∧ Rows.manifestSegmentsSpec.post enc Tryd.prog Tryd.f3 false true false false W args v W' :=
  law_contract (m := 6) (tb := 4) spec (by rw [Tryd.params3]; intro t ht; simp at ht; subst ht <;> kernel_rfl) rfl laidK
    (by rw [Tryd.params3]; intro t ht; simp at ht; subst ht <;> exact ⟨by kernel_rfl, by decide +kernel⟩)
    (fun ds hd => by
      rw [Tryd.params3] at hd
      match ds, hd with
      | [d1], _ => rfl) (by kernel_rfl) Tryd.underlying4 hval hW
theorem lifted (os : Os) (started : os.Started) (H : Type) (enc : TypeId × Value → H) :
    ReturnsInHanded {} Tryd.checked os 3 .any (fun w args => (Rows.manifestSegmentsSpec.pre enc Tryd.prog Tryd.f3 [] false w args ∧ laidMetH Tryd.prog laid3 w) ∧ sizedMet enc Tryd.prog Tryd.f3 (OpenSpec.ofChange Rows.manifestSegmentsSpec) false w args) (Rows.manifestSegmentsSpec.post enc Tryd.prog Tryd.f3 false true false false) := by
  refine returnsInHanded_of_change_and (C := Tryd.checked) (X := fun w _ => laidMetH Tryd.prog laid3 w) (fun _ _ _ hh h => h.of_heap hh) ownK started (by kernel_rfl) Tryd.func3
    (ChangeSpec.witness_shaped (enc := enc) (C := Tryd.checked) (os := os) (X := fun w _ => laidMetH Tryd.prog laid3 w) false (World.doorLaid Tryd.prog 400 os) #[zS] 8 rfl (World.shaped_of_RefB (by kernel_rfl) (by kernel_rfl)) (by kernel_rfl) (by kernel_rfl) (by kernel_rfl) (door_met os _)) ?_
  intro W base args ds gs before hval hW _ _ _ _
  exact contract H enc W base args ds gs before hval hW
theorem bare : Rows.ManifestSegmentsSaid :=
  OpenClaim.holds_of_wide 3 Tryd.f3 rfl rfl rfl rfl rfl rfl rfl ⟨rfl, rfl, rfl, rfl, rfl⟩ rfl rfl rfl rfl rfl (by kernel_rfl) Tryd.func3 (by kernel_rfl)
    (of_decide_eq_true (by kernel_rfl)) (by unfold Func.isWrapper; first | (rw [if_pos (by decide +kernel)]; kernel_rfl) | (rw [if_neg (by decide +kernel)]; exact ⟨rfl, rfl⟩))
    (fun os started H enc _ => lifted os started H enc)
theorem said : Rows.ManifestSegmentsCardSaid :=
  Claim7.holds_tied_plain_at .later [] [.data, .data, .data] true (true, "bed98e2bdd95d3798d9478b6aad4cae063d4204527223458f55f11a21005a8ff") false
    bare (fun _ h => by cases h) (by kernel_rfl) (fun _ h => by cases h) manifestSegments_row_tie rfl ⟨rfl, rfl⟩ (by kernel_rfl) rfl
    (fun f fn hf hfn => by
      obtain rfl : f = 3 := Option.some.inj ((show Tryd.prog.funcNamed "viator/viatorlaw40.ManifestSegments" = some 3 by kernel_rfl).symm.trans hf) |>.symm
      obtain rfl : fn = Tryd.f3 := (Option.some.inj (Tryd.func3.symm.trans hfn)).symm
      exact ⟨by kernel_rfl, fun j t ht => by
        rw [Tryd.params3] at ht
        have hm : t ∈ Tryd.f3.params.toList := by rw [Tryd.params3]; simpa using Array.mem_of_getElem? ht
        have hall : (Tryd.f3.params.toList.all fun u => !Tryd.prog.wantsStandIn u) = true := by kernel_rfl
        exact (show Tryd.prog.wantsStandIn t = false by simpa using List.all_eq_true.1 hall t hm)⟩)
    (by kernel_rfl)
end L1
end Go.Proofs.YtbibemijcdkjhaaDoor
