/- report.Compare, the law's compare, and the searches. -/
import Derived.Test.YtmjckbokjjnmeaaF2
namespace Go.Proofs.Ytmjckbokjjnmeaa
open Go.Am
def cmpR (a b : R) : Int := cmpL (fieldsR a) (fieldsR b)
@[simp] theorem fieldsR_len (r : R) : (fieldsR r).length = 8 := rfl
theorem s13 (a b : R) : PSpec Try.prog 13 [encR a, encR b] (iA (cmpR a b)) := by
  refine PSpec_of Try.func13 rfl rfl (Nat.le_of_ble_eq_true rfl) (Nat.le_of_ble_eq_true rfl) ?_
  intro E hE
  refine AW_seq fun K hK => ?_
  refine AW_region (by rw [hE]; decide) ?_
  simp
  refine hK _ ?_
  clear hK
  refine AW_seq fun K hK => ?_
  refine AW_draw 6 mixed (by rw [hE]; decide) (by simp [newOK]) ?_
  simp
  refine call_same (s36 a) rfl rfl ?_
  simp
  refine call_same (s36 b) rfl rfl ?_
  simp
  refine ⟨by decide, ?_⟩
  refine hK _ ?_
  clear hK
  refine AW_seq fun K hK => ?_
  refine AW_draw 4 mixed (by rw [hE]; decide) (by simp [newOK]) ?_
  simp
  refine call_view (s37 (fieldsR a) (fieldsR b) (by simp)) ?_ rfl ?_
  · simp
  simp
  refine ⟨by decide, ?_⟩
  refine hK _ ?_
  clear hK
  refine AW_ret ?_
  simp [cmpR]

theorem s15 (a b : R) : PSpec Try.prog 15 [encR a, encR b] (iA (cmpR a b)) := by
  refine PSpec_of Try.func15 rfl rfl (Nat.le_of_ble_eq_true rfl) (Nat.le_of_ble_eq_true rfl) ?_
  intro E hE
  refine AW_seq fun K hK => ?_
  refine AW_region (by rw [hE]; decide) ?_
  simp
  refine hK _ ?_
  clear hK
  refine AW_seq fun K hK => ?_
  refine AW_draw 6 mixed (by rw [hE]; decide) (by simp [newOK]) ?_
  simp
  refine call_same (s38 a) rfl rfl ?_
  simp
  refine call_same (s38 b) rfl rfl ?_
  simp
  refine ⟨by decide, ?_⟩
  refine hK _ ?_
  clear hK
  refine AW_seq fun K0 hK0 => ?_
  refine AW_seq fun K hK => ?_
  refine AW_region (by rw [hE]; decide) ?_
  simp
  refine hK _ ?_
  clear hK
  refine AW_block ?_
  refine AW_loop (G := Nat) (fun i => ⟨[(7, iA i), (5, .loc 5 0), (6, .loc 6 0)], [(5, .box 52 (.st ((fieldsR a).map iA))), (6, .box 52 (.st ((fieldsR b).map iA)))]⟩)
    (fun i => i ≤ 8 ∧ cmpL ((fieldsR a).drop i) ((fieldsR b).drop i) = cmpR a b) (fun i => 8 - i) 0 ⟨by omega, rfl⟩ (by simp) ?_
  rintro i ⟨hi, heq⟩
  refine AW_seq fun K hK => ?_
  refine AW_seq fun K1 hK1 => ?_
  refine AW_region (by rw [hE]; decide) ?_
  simp
  refine hK1 _ ?_
  clear hK1
  refine AW_cond (t := decide ((i : Int) < 8)) (by simp) ?_ ?_
  · intro hlt
    have hlt : i < 8 := by have := of_decide_eq_true hlt; omega
    have ha : i < (fieldsR a).length := by rw [fieldsR_len]; exact hlt
    have hb : i < (fieldsR b).length := by rw [fieldsR_len]; exact hlt
    refine AW_skip ?_
    simp
    refine hK _ ?_
    clear hK
    refine AW_seq fun K2 hK2 => ?_
    refine AW_block ?_
    refine AW_seq fun K hK => ?_
    refine AW_seq fun K hK => ?_
    refine AW_draw 7 mixed (by rw [hE]; decide) (by simp [newOK]) ?_
    simp [hlt]
    repeat' apply And.intro
    all_goals try omega
    all_goals try decide
    refine hK _ ?_
    clear hK
    refine AW_cond (t := decide ((fieldsR a)[i]'ha < (fieldsR b)[i]'hb)) (by simp) ?_ ?_
    · intro h
      have h := of_decide_eq_true h
      refine AW_seq fun K hK => ?_
      refine AW_region (by rw [hE]; decide) ?_
      simp
      refine hK _ ?_
      clear hK
      refine AW_ret ?_
      simp
      rw [← heq, cmpL_drop ha hb]
      simp [cmpI, h]
    intro h1
    have h1 := of_decide_eq_false h1
    refine AW_skip ?_
    simp
    refine hK _ ?_
    clear hK
    refine AW_seq fun K hK => ?_
    refine AW_draw 7 mixed (by rw [hE]; decide) (by simp [newOK]) ?_
    simp [hlt]
    repeat' apply And.intro
    all_goals try omega
    all_goals try decide
    refine hK _ ?_
    clear hK
    refine AW_cond (t := decide ((fieldsR b)[i]'hb < (fieldsR a)[i]'ha)) (by simp) ?_ ?_
    · intro h
      have h := of_decide_eq_true h
      refine AW_seq fun K hK => ?_
      refine AW_region (by rw [hE]; decide) ?_
      simp
      refine hK _ ?_
      clear hK
      refine AW_ret ?_
      simp
      rw [← heq, cmpL_drop ha hb]
      simp [cmpI, h1, h]
    intro h2
    have h2 := of_decide_eq_false h2
    refine AW_skip ?_
    simp
    refine hK2 _ ?_
    refine AW_region (by rw [hE]; decide) ?_
    simp
    refine ⟨by omega, i + 1, ⟨by omega, ?_⟩, by omega, by simp⟩
    rw [← heq, cmpL_drop ha hb]
    simp [cmpI, h1, h2]
  · intro hlt
    have hlt := of_decide_eq_false hlt
    have : i = 8 := by omega
    subst this
    refine AW_exit ?_
    simp
    refine hK0 _ ?_
    refine AW_seq fun K hK => ?_
    refine AW_region (by rw [hE]; decide) ?_
    simp
    refine hK _ ?_
    clear hK
    refine AW_ret ?_
    simp
    rw [← heq]
    rfl
end Go.Proofs.Ytmjckbokjjnmeaa
