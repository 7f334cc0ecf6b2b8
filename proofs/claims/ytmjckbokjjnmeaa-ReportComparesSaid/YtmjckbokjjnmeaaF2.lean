/- slices.Compare and report.Compare. -/
import Derived.Test.YtmjckbokjjnmeaaF1
namespace Go.Proofs.Ytmjckbokjjnmeaa
open Go.Am

def cmpL : List Int → List Int → Int
  | [], [] => 0
  | [], _ :: _ => -1
  | _ :: _, [] => 1
  | a :: l, b :: m => if cmpI a b ≠ 0 then cmpI a b else cmpL l m

theorem cmpL_drop {l m : List Int} {i : Nat} (h1 : i < l.length) (h2 : i < m.length) : cmpL (l.drop i) (m.drop i) = if cmpI l[i] m[i] ≠ 0 then cmpI l[i] m[i] else cmpL (l.drop (i + 1)) (m.drop (i + 1)) := by
  rw [List.drop_eq_getElem_cons h1, List.drop_eq_getElem_cons h2]
  rfl

theorem s37 (l m : List Int) (hl : l.length < 4611686018427387904) : PSpec Try.prog 37 [.sl 1 (l.map iA), .sl 1 (m.map iA)] (iA (cmpL l m)) := by
  refine PSpec_of Try.func37 rfl rfl (Nat.le_of_ble_eq_true rfl) (Nat.le_of_ble_eq_true rfl) ?_
  intro E hE
  refine AW_seq fun K hK => ?_
  refine AW_region (by rw [hE]; decide) ?_
  simp
  refine hK _ ?_
  clear hK
  refine AW_seq fun K hK => ?_
  refine AW_seq fun K hK => ?_
  refine AW_region (by rw [hE]; decide) ?_
  simp
  refine hK _ ?_
  clear hK
  refine AW_block ?_
  refine AW_loop (G := Nat) (fun i => ⟨[(11, iA i), (10, iA l.length), (9, .sl 1 (l.map iA)), (1, .sl 1 (m.map iA)), (0, .sl 1 (l.map iA))], []⟩)
    (fun i => i ≤ l.length ∧ i ≤ m.length ∧ cmpL (l.drop i) (m.drop i) = cmpL l m) (fun i => l.length - i) 0 ⟨Nat.zero_le _, Nat.zero_le _, rfl⟩ (by simp) ?_
  rintro i ⟨hi1, hi2, heq⟩
  refine AW_seq fun K hK => ?_
  refine AW_region (by rw [hE]; decide) ?_
  simp
  refine hK _ ?_
  clear hK
  refine AW_seq fun K1 hK1 => ?_
  refine AW_cond (t := decide ((i : Int) < l.length)) (by simp) ?_ ?_
  · intro hlt
    have hlt : i < l.length := by have := of_decide_eq_true hlt; omega
    refine AW_skip ?_
    simp
    refine hK1 _ ?_
    clear hK1
    refine AW_seq fun K2 hK2 => ?_
    refine AW_block ?_
    refine AW_seq fun K hK => ?_
    refine AW_region (by rw [hE]; decide) ?_
    simp [hlt]
    refine hK _ ?_
    clear hK
    refine AW_seq fun K hK => ?_
    refine AW_seq fun K hK => ?_
    refine AW_region (by rw [hE]; decide) ?_
    simp
    refine hK _ ?_
    clear hK
    refine AW_cond (t := decide ((m.length : Int) ≤ i)) (by simp) ?_ ?_
    · intro hge
      have hge := of_decide_eq_true hge
      refine AW_seq fun K hK => ?_
      refine AW_region (by rw [hE]; decide) ?_
      simp
      refine hK _ ?_
      clear hK
      refine AW_ret ?_
      simp
      have : i = m.length := by omega
      subst this
      rw [← heq, List.drop_length, List.drop_eq_getElem_cons hlt]
      rfl
    · intro hge
      have hge := of_decide_eq_false hge
      have hlt2 : i < m.length := by omega
      refine AW_skip ?_
      simp
      refine hK _ ?_
      clear hK
      refine AW_seq fun K hK => ?_
      refine AW_region (by rw [hE]; decide) ?_
      simp [hlt2]
      refine hK _ ?_
      clear hK
      refine AW_seq fun K hK => ?_
      refine AW_region (by rw [hE]; decide) ?_
      simp
      refine acall_same (s53 _ _) rfl rfl ?_
      simp
      refine hK _ ?_
      clear hK
      refine AW_seq fun K hK => ?_
      refine AW_region (by rw [hE]; decide) ?_
      simp
      refine hK _ ?_
      clear hK
      refine AW_cond (t := decide (cmpI l[i] m[i] ≠ 0)) (by simp) ?_ ?_
      · intro hc
        have hc := of_decide_eq_true hc
        refine AW_seq fun K hK => ?_
        refine AW_region (by rw [hE]; decide) ?_
        simp
        refine hK _ ?_
        clear hK
        refine AW_ret ?_
        simp
        rw [← heq, cmpL_drop hlt hlt2, if_pos hc]
      · intro hc
        have hc := of_decide_eq_false hc
        refine AW_skip ?_
        simp
        refine hK2 _ ?_
        refine AW_region (by rw [hE]; decide) ?_
        simp
        refine ⟨by omega, i + 1, ⟨by omega, by omega, ?_⟩, by omega, by simp⟩
        rw [← heq, cmpL_drop hlt hlt2, if_neg hc]
  · intro hlt
    have hlt := of_decide_eq_false hlt
    have hil : i = l.length := by omega
    refine AW_exit ?_
    simp
    refine hK _ ?_
    clear hK
    refine AW_seq fun K hK => ?_
    refine AW_seq fun K hK => ?_
    refine AW_region (by rw [hE]; decide) ?_
    simp
    refine hK _ ?_
    clear hK
    refine AW_cond (t := decide ((l.length : Int) < m.length)) (by simp) ?_ ?_
    · intro hlm
      have hlm := of_decide_eq_true hlm
      refine AW_seq fun K hK => ?_
      refine AW_region (by rw [hE]; decide) ?_
      simp
      refine hK _ ?_
      clear hK
      refine AW_ret ?_
      simp
      rw [← heq, hil, List.drop_length, List.drop_eq_getElem_cons (by omega)]
      rfl
    · intro hlm
      have hlm := of_decide_eq_false hlm
      refine AW_skip ?_
      simp
      refine hK _ ?_
      clear hK
      refine AW_seq fun K hK => ?_
      refine AW_region (by rw [hE]; decide) ?_
      simp
      refine hK _ ?_
      clear hK
      refine AW_ret ?_
      simp
      have : m.length = l.length := by omega
      rw [← heq, hil, List.drop_length, ← this, List.drop_length]
      rfl
end Go.Proofs.Ytmjckbokjjnmeaa
