/- ReportSets: for any two lists of reports and any report the law hands back true. Conditions: none. -/
import Derived.Test.YtmjckbokjjnmeaaZ5
set_option maxRecDepth 100000
set_option linter.unusedSimpArgs false
set_option linter.unusedVariables false
namespace Go.Proofs.Ytmjckbokjjnmeaa
open Go.Am Go.RowKit Go.ChangeShapes Go.WideShapes Go.ChangeAt

namespace L6
set_option maxHeartbeats 4000000 in
theorem s (a b : List R) (r : R) : PSpec Try.prog 6 [.sl 8 (a.map encR), .sl 8 (b.map encR), encR r] (bA true) := by
  by_cases h1 : a.length ≤ 20
  · by_cases h2 : b.length ≤ 20
    · obtain ⟨c, hc⟩ : ∃ c, c = a ++ b := ⟨_, rfl⟩
      obtain ⟨d, hd⟩ : ∃ d, d = a ++ [r] := ⟨_, rfl⟩
      have hrd : r ∈ d := by rw [hd]; simp
      have hcl : c.length ≤ 40 := by rw [hc, List.length_append]; omega
      have hdl : d.length ≤ 21 := by rw [hd, List.length_append]; simp; omega
      have e1 := setR_len a
      have e2 := setR_len c
      replace hc := Hld.mk hc
      replace hd := Hld.mk hd
      refine PSpec_of Try.func6 rfl rfl (Nat.le_of_ble_eq_true rfl) (Nat.le_of_ble_eq_true rfl) ?_
      intro E hE
      repeat' (first
        | with_reducible refine useK (by assumption) ?_
        | with_reducible refine useK2 (by assumption) ?_
        | with_reducible refine useX (by assumption) ?_
        | with_reducible refine AW_seqk fun K hK => ?_
        | (with_reducible refine AW_regionS rfl (by rw [hE]; decide) ?_; simp [*])
        | with_reducible refine AW_region (by rw [hE]; decide) ?_
        | ((with_reducible show RK _ _ _ _ _ _); refine RK_nilk ?_; simp [*])
        | ((with_reducible show RK _ _ _ _ _ _); refine RK_stepk fun K' hK' => ?_; simp [*])
        | with_reducible refine AW_drawq mixed (by rw [hE]; decide) (by simp [newOK]) ?_
        | ((with_reducible show RKQ _ _ _ _ _ _); refine RKQ_nilk ⟨by decide, ?_⟩)
        | ((with_reducible show RKQ _ _ _ _ _ _); refine RKQ_stepk fun K' hK' => ?_; simp [*])
        | (with_reducible refine AW_if fun X Y hX hY => ?_; simp [*])
        | with_reducible refine AW_block ?_
        | (with_reducible refine AW_ret ?_; simp [*])
        | (with_reducible refine AW_skip ?_; simp [*])
        | (with_reducible refine AW_exit ?_; simp [*])
        | (refine acall_same (s14) ?_ ?_ ?_; (focus (simp [*] <;> fail)); (focus (simp [*] <;> fail)); simp [*])
        | (refine call_same (s14) ?_ ?_ ?_; (focus (simp [*] <;> fail)); (focus (simp [*] <;> fail)); simp [*])
        | (refine acall_view (s14) ?_ ?_ ?_; (focus (simp [*] <;> fail)); (focus (simp [*] <;> fail)); simp [*])
        | (refine call_view (s14) ?_ ?_ ?_; (focus (simp [*] <;> fail)); (focus (simp [*] <;> fail)); simp [*])
        | (refine acall_same (s25 a (by omega)) ?_ ?_ ?_; (focus (simp [*] <;> fail)); (focus (simp [*] <;> fail)); simp [*])
        | (refine call_same (s25 a (by omega)) ?_ ?_ ?_; (focus (simp [*] <;> fail)); (focus (simp [*] <;> fail)); simp [*])
        | (refine acall_view (s25 a (by omega)) ?_ ?_ ?_; (focus (simp [*] <;> fail)); (focus (simp [*] <;> fail)); simp [*])
        | (refine call_view (s25 a (by omega)) ?_ ?_ ?_; (focus (simp [*] <;> fail)); (focus (simp [*] <;> fail)); simp [*])
        | (refine acall_same (s26 a (by omega)) ?_ ?_ ?_; (focus (simp [*] <;> fail)); (focus (simp [*] <;> fail)); simp [*])
        | (refine call_same (s26 a (by omega)) ?_ ?_ ?_; (focus (simp [*] <;> fail)); (focus (simp [*] <;> fail)); simp [*])
        | (refine acall_view (s26 a (by omega)) ?_ ?_ ?_; (focus (simp [*] <;> fail)); (focus (simp [*] <;> fail)); simp [*])
        | (refine call_view (s26 a (by omega)) ?_ ?_ ?_; (focus (simp [*] <;> fail)); (focus (simp [*] <;> fail)); simp [*])
        | (refine acall_same (s17 (setR a) (setR a) (by omega)) ?_ ?_ ?_; (focus (simp [*] <;> fail)); (focus (simp [*] <;> fail)); simp [*])
        | (refine call_same (s17 (setR a) (setR a) (by omega)) ?_ ?_ ?_; (focus (simp [*] <;> fail)); (focus (simp [*] <;> fail)); simp [*])
        | (refine acall_view (s17 (setR a) (setR a) (by omega)) ?_ ?_ ?_; (focus (simp [*] <;> fail)); (focus (simp [*] <;> fail)); simp [*])
        | (refine call_view (s17 (setR a) (setR a) (by omega)) ?_ ?_ ?_; (focus (simp [*] <;> fail)); (focus (simp [*] <;> fail)); simp [*])
        | (refine acall_same (s27 a b c hc.out (by omega)) ?_ ?_ ?_; (focus (simp [*] <;> fail)); (focus (simp [*] <;> fail)); simp [*])
        | (refine call_same (s27 a b c hc.out (by omega)) ?_ ?_ ?_; (focus (simp [*] <;> fail)); (focus (simp [*] <;> fail)); simp [*])
        | (refine acall_view (s27 a b c hc.out (by omega)) ?_ ?_ ?_; (focus (simp [*] <;> fail)); (focus (simp [*] <;> fail)); simp [*])
        | (refine call_view (s27 a b c hc.out (by omega)) ?_ ?_ ?_; (focus (simp [*] <;> fail)); (focus (simp [*] <;> fail)); simp [*])
        | (refine acall_same (s19 a b c hc.out (by omega)) ?_ ?_ ?_; (focus (simp [*] <;> fail)); (focus (simp [*] <;> fail)); simp [*])
        | (refine call_same (s19 a b c hc.out (by omega)) ?_ ?_ ?_; (focus (simp [*] <;> fail)); (focus (simp [*] <;> fail)); simp [*])
        | (refine acall_view (s19 a b c hc.out (by omega)) ?_ ?_ ?_; (focus (simp [*] <;> fail)); (focus (simp [*] <;> fail)); simp [*])
        | (refine call_view (s19 a b c hc.out (by omega)) ?_ ?_ ?_; (focus (simp [*] <;> fail)); (focus (simp [*] <;> fail)); simp [*])
        | (refine acall_same (s26 c (by omega)) ?_ ?_ ?_; (focus (simp [*] <;> fail)); (focus (simp [*] <;> fail)); simp [*])
        | (refine call_same (s26 c (by omega)) ?_ ?_ ?_; (focus (simp [*] <;> fail)); (focus (simp [*] <;> fail)); simp [*])
        | (refine acall_view (s26 c (by omega)) ?_ ?_ ?_; (focus (simp [*] <;> fail)); (focus (simp [*] <;> fail)); simp [*])
        | (refine call_view (s26 c (by omega)) ?_ ?_ ?_; (focus (simp [*] <;> fail)); (focus (simp [*] <;> fail)); simp [*])
        | (refine acall_same (s17 (setR c) (setR c) (by omega)) ?_ ?_ ?_; (focus (simp [*] <;> fail)); (focus (simp [*] <;> fail)); simp [*])
        | (refine call_same (s17 (setR c) (setR c) (by omega)) ?_ ?_ ?_; (focus (simp [*] <;> fail)); (focus (simp [*] <;> fail)); simp [*])
        | (refine acall_view (s17 (setR c) (setR c) (by omega)) ?_ ?_ ?_; (focus (simp [*] <;> fail)); (focus (simp [*] <;> fail)); simp [*])
        | (refine call_view (s17 (setR c) (setR c) (by omega)) ?_ ?_ ?_; (focus (simp [*] <;> fail)); (focus (simp [*] <;> fail)); simp [*])
        | (refine acall_same (s28 a r (by omega)) ?_ ?_ ?_; (focus (simp [*] <;> fail)); (focus (simp [*] <;> fail)); simp [*])
        | (refine call_same (s28 a r (by omega)) ?_ ?_ ?_; (focus (simp [*] <;> fail)); (focus (simp [*] <;> fail)); simp [*])
        | (refine acall_view (s28 a r (by omega)) ?_ ?_ ?_; (focus (simp [*] <;> fail)); (focus (simp [*] <;> fail)); simp [*])
        | (refine call_view (s28 a r (by omega)) ?_ ?_ ?_; (focus (simp [*] <;> fail)); (focus (simp [*] <;> fail)); simp [*])
        | (refine acall_same (s20 a r (by omega)) ?_ ?_ ?_; (focus (simp [*] <;> fail)); (focus (simp [*] <;> fail)); simp [*])
        | (refine call_same (s20 a r (by omega)) ?_ ?_ ?_; (focus (simp [*] <;> fail)); (focus (simp [*] <;> fail)); simp [*])
        | (refine acall_view (s20 a r (by omega)) ?_ ?_ ?_; (focus (simp [*] <;> fail)); (focus (simp [*] <;> fail)); simp [*])
        | (refine call_view (s20 a r (by omega)) ?_ ?_ ?_; (focus (simp [*] <;> fail)); (focus (simp [*] <;> fail)); simp [*])
        | (refine call_new (n19s a r d hd.out (by omega)) ?_ (fun _ _ _ _ _ _ h => CtRep.arr_flat h ?_) ?_; (focus (simp [*] <;> fail)); (focus (simp [*] <;> fail)); simp [*])
        | (refine acall_same (s28 d r (by omega)) ?_ ?_ ?_; (focus (simp [*] <;> fail)); (focus (simp [*] <;> fail)); simp [*])
        | (refine call_same (s28 d r (by omega)) ?_ ?_ ?_; (focus (simp [*] <;> fail)); (focus (simp [*] <;> fail)); simp [*])
        | (refine acall_view (s28 d r (by omega)) ?_ ?_ ?_; (focus (simp [*] <;> fail)); (focus (simp [*] <;> fail)); simp [*])
        | (refine call_view (s28 d r (by omega)) ?_ ?_ ?_; (focus (simp [*] <;> fail)); (focus (simp [*] <;> fail)); simp [*])
        | with_reducible refine And.intro ?_ ?_
        | omega
        | (refine imp1 fun h => ?_))
    · refine PSpec_of Try.func6 rfl rfl (Nat.le_of_ble_eq_true rfl) (Nat.le_of_ble_eq_true rfl) ?_
      intro E hE
      repeat' (first
        | with_reducible refine useK (by assumption) ?_
        | with_reducible refine useK2 (by assumption) ?_
        | with_reducible refine useX (by assumption) ?_
        | with_reducible refine AW_seqk fun K hK => ?_
        | (with_reducible refine AW_regionS rfl (by rw [hE]; decide) ?_; simp [*])
        | with_reducible refine AW_region (by rw [hE]; decide) ?_
        | ((with_reducible show RK _ _ _ _ _ _); refine RK_nilk ?_; simp [*])
        | ((with_reducible show RK _ _ _ _ _ _); refine RK_stepk fun K' hK' => ?_; simp [*])
        | with_reducible refine AW_drawq mixed (by rw [hE]; decide) (by simp [newOK]) ?_
        | ((with_reducible show RKQ _ _ _ _ _ _); refine RKQ_nilk ⟨by decide, ?_⟩)
        | ((with_reducible show RKQ _ _ _ _ _ _); refine RKQ_stepk fun K' hK' => ?_; simp [*])
        | (with_reducible refine AW_if fun X Y hX hY => ?_; simp [*])
        | with_reducible refine AW_block ?_
        | (with_reducible refine AW_ret ?_; simp [*])
        | (with_reducible refine AW_skip ?_; simp [*])
        | (with_reducible refine AW_exit ?_; simp [*])
        | (refine acall_same (s14) ?_ ?_ ?_; (focus (simp [*] <;> fail)); (focus (simp [*] <;> fail)); simp [*])
        | (refine call_same (s14) ?_ ?_ ?_; (focus (simp [*] <;> fail)); (focus (simp [*] <;> fail)); simp [*])
        | (refine acall_view (s14) ?_ ?_ ?_; (focus (simp [*] <;> fail)); (focus (simp [*] <;> fail)); simp [*])
        | (refine call_view (s14) ?_ ?_ ?_; (focus (simp [*] <;> fail)); (focus (simp [*] <;> fail)); simp [*])
        | with_reducible refine And.intro ?_ ?_
        | omega
        | (refine imp1 fun h => ?_))
  · refine PSpec_of Try.func6 rfl rfl (Nat.le_of_ble_eq_true rfl) (Nat.le_of_ble_eq_true rfl) ?_
    intro E hE
    repeat' (first
      | with_reducible refine useK (by assumption) ?_
      | with_reducible refine useK2 (by assumption) ?_
      | with_reducible refine useX (by assumption) ?_
      | with_reducible refine AW_seqk fun K hK => ?_
      | (with_reducible refine AW_regionS rfl (by rw [hE]; decide) ?_; simp [*])
      | with_reducible refine AW_region (by rw [hE]; decide) ?_
      | ((with_reducible show RK _ _ _ _ _ _); refine RK_nilk ?_; simp [*])
      | ((with_reducible show RK _ _ _ _ _ _); refine RK_stepk fun K' hK' => ?_; simp [*])
      | with_reducible refine AW_drawq mixed (by rw [hE]; decide) (by simp [newOK]) ?_
      | ((with_reducible show RKQ _ _ _ _ _ _); refine RKQ_nilk ⟨by decide, ?_⟩)
      | ((with_reducible show RKQ _ _ _ _ _ _); refine RKQ_stepk fun K' hK' => ?_; simp [*])
      | (with_reducible refine AW_if fun X Y hX hY => ?_; simp [*])
      | with_reducible refine AW_block ?_
      | (with_reducible refine AW_ret ?_; simp [*])
      | (with_reducible refine AW_skip ?_; simp [*])
      | (with_reducible refine AW_exit ?_; simp [*])
      | (refine acall_same (s14) ?_ ?_ ?_; (focus (simp [*] <;> fail)); (focus (simp [*] <;> fail)); simp [*])
      | (refine call_same (s14) ?_ ?_ ?_; (focus (simp [*] <;> fail)); (focus (simp [*] <;> fail)); simp [*])
      | (refine acall_view (s14) ?_ ?_ ?_; (focus (simp [*] <;> fail)); (focus (simp [*] <;> fail)); simp [*])
      | (refine call_view (s14) ?_ ?_ ?_; (focus (simp [*] <;> fail)); (focus (simp [*] <;> fail)); simp [*])
      | with_reducible refine And.intro ?_ ?_
      | omega
      | (refine imp1 fun h => ?_))
theorem spec (avs : List AV) (h : ShapeL Try.prog 6 Try.f6.params.toList avs) : PSpec Try.prog 6 avs (.v (.bool true)) := by
  rw [Try.params6] at h
  obtain ⟨c1, r1, rfl, h1, c2, r2, rfl, h2, c3, r3, rfl, h3, rfl⟩ := h
  obtain ⟨a, ha, -⟩ := avRs h1
  obtain ⟨b, hb, -⟩ := avRs h2
  obtain ⟨c, hc, -⟩ := avR h3
  rw [ha, hb, hc]
  exact s a b c
theorem contract (H : Type) (enc : TypeId × Value → H) (W : World) (base : Nat) (args : Array Value) (ds gs : List (DataW H)) (before : List MemPlace)
    (hval : ∀ (j : Nat) t v, Try.f6.params[j]? = some t → args[j]? = some v → Value.okWide Try.prog W .any base t v)
    (hW : DataW.Whole enc Try.prog Try.f6.params.toList Rows.reportSetsSpec.vars false W args.toList ds gs before) :
    Calls Try.prog 6 args W fun e W' => ∃ v, e = .returned v ∧ Rows.reportSetsSpec.post enc Try.prog Try.f6 false true false false W args v W' :=
  law_contract (m := 6) (tb := 4) spec (by rw [Try.params6]; intro t ht; simp at ht; rcases ht with rfl | rfl | rfl <;> kernel_rfl) rfl laidK
    (by rw [Try.params6]; intro t ht; simp at ht; rcases ht with rfl | rfl | rfl <;> exact ⟨by kernel_rfl, by decide +kernel⟩)
    (fun ds hd => by
      rw [Try.params6] at hd
      match ds, hd with
      | [d1, d2, d3], _ => rfl) (by kernel_rfl) Try.underlying4 hval hW
theorem lifted (os : Os) (started : os.Started) (H : Type) (enc : TypeId × Value → H) :
    ReturnsInHanded {} Try.checked os 6 .any (Rows.reportSetsSpec.pre6 enc Try.prog Try.f6 Rows.reportSetsRow.domain false) (Rows.reportSetsSpec.post enc Try.prog Try.f6 false true false false) := by
  refine returnsInHanded_of_change (C := Try.checked) ownK started (by kernel_rfl) Try.func6
    (ChangeSpec.witness6 (enc := enc) (C := Try.checked) false ⟨#[], #[.slice .none 0 0, .slice .none 0 0, zR], []⟩ 8 (by kernel_rfl) (by kernel_rfl) (by kernel_rfl) (by kernel_rfl)) ?_
  intro W base args ds gs before hval hW hcnd _
  exact contract H enc W base args ds gs before hval hW
theorem said : Rows.ReportSetsSaid :=
  OpenClaim.holds_of_wide 6 Try.f6 rfl rfl rfl rfl rfl rfl rfl ⟨rfl, rfl, rfl, rfl, rfl⟩ rfl rfl rfl rfl rfl (by kernel_rfl) Try.func6 (by kernel_rfl)
    (of_decide_eq_true (by kernel_rfl)) (by unfold Func.isWrapper; first | (rw [if_pos (by decide +kernel)]; kernel_rfl) | (rw [if_neg (by decide +kernel)]; exact ⟨rfl, rfl⟩))
    (fun os started H enc _ => lifted os started H enc)
end L6
end Go.Proofs.Ytmjckbokjjnmeaa
