/- Layer 25: searches and comparisons of lists. -/
import Derived.Test.YtmjckbokjjnmeaaF3
namespace Go.Proofs.Ytmjckbokjjnmeaa
open Go.Am

theorem s20 (l : List R) (r : R) (hl : l.length < 4611686018427387904) : PSpec Try.prog 20 [.sl 8 (l.map encR), encR r] (bA (decide (r ∈ l))) := by
  refine PSpec_of Try.func20 rfl rfl (Nat.le_of_ble_eq_true rfl) (Nat.le_of_ble_eq_true rfl) ?_
  intro E hE
  refine AW_seq fun K hK => ?_
  refine AW_region (by rw [hE]; decide) ?_
  simp
  refine hK _ ?_
  clear hK
  refine AW_seq fun K0 hK0 => ?_
  refine AW_seq fun K hK => ?_
  refine AW_region (by rw [hE]; decide) ?_
  simp
  refine hK _ ?_
  clear hK
  refine AW_block ?_
  refine AW_loop (G := Nat) (fun i => ⟨[(5, iA i), (3, .loc 3 0), (0, .sl 8 (l.map encR))], [(3, .box 23 (encR r))]⟩)
    (fun i => i ≤ l.length ∧ r ∉ l.take i) (fun i => l.length - i) 0 ⟨Nat.zero_le _, by simp⟩ (by simp) ?_
  rintro i ⟨hi, hno⟩
  refine AW_seq fun K1 hK1 => ?_
  refine AW_seq fun K2 hK2 => ?_
  refine AW_region (by rw [hE]; decide) ?_
  simp
  refine hK2 _ ?_
  clear hK2
  refine AW_cond (t := decide (i < l.length)) (by simp) ?_ ?_
  · intro hlt
    have hlt := of_decide_eq_true hlt
    refine AW_skip ?_
    simp
    refine hK1 _ ?_
    clear hK1
    refine AW_seq fun K1 hK1 => ?_
    refine AW_block ?_
    refine AW_seq fun K hK => ?_
    refine AW_draw 6 mixed (by rw [hE]; decide) (by simp [newOK]) ?_
    simp [hlt]
    repeat' apply And.intro
    all_goals try omega
    all_goals try decide
    refine hK _ ?_
    clear hK
    refine AW_cond (t := decide (l[i] = r)) (by simp) ?_ ?_
    · intro h
      have h := of_decide_eq_true h
      refine AW_seq fun K hK => ?_
      refine AW_region (by rw [hE]; decide) ?_
      simp
      refine hK _ ?_
      clear hK
      refine AW_ret ?_
      simp
      rw [← h]
      exact List.getElem_mem hlt
    intro h
    have h := of_decide_eq_false h
    refine AW_skip ?_
    simp
    refine hK1 _ ?_
    refine AW_region (by rw [hE]; decide) ?_
    simp
    refine ⟨by omega, i + 1, ⟨by omega, ?_⟩, by omega, by simp⟩
    rw [List.take_succ_eq_append_getElem hlt, List.mem_append]
    simp [hno, Ne.symm h]
  · intro hlt
    have hlt := of_decide_eq_false hlt
    have : i = l.length := by omega
    subst this
    refine AW_exit ?_
    simp
    refine hK0 _ ?_
    refine AW_seq fun K hK => ?_
    refine AW_region (by rw [hE]; decide) ?_
    simp
    refine hK _ ?_
    clear hK
    refine AW_ret ?_
    simp
    rw [List.take_length] at hno
    exact hno

/-- slices.Index at reports: below zero, or a place. -/
theorem s57 (l : List R) (r : R) (hl : l.length < 4611686018427387904) : ∃ n : Int, (0 ≤ n ↔ r ∈ l) ∧ PSpec Try.prog 57 [.sl 8 (l.map encR), encR r] (iA n) := by
  refine ⟨if r ∈ l then l.idxOf r else -1, ?_, ?_⟩
  · split <;> simp_all
  refine PSpec_of Try.func57 rfl rfl (Nat.le_of_ble_eq_true rfl) (Nat.le_of_ble_eq_true rfl) ?_
  intro E hE
  refine AW_seq fun K hK => ?_
  refine AW_region (by rw [hE]; decide) ?_
  simp
  refine hK _ ?_
  clear hK
  refine AW_seq fun K0 hK0 => ?_
  refine AW_seq fun K hK => ?_
  refine AW_region (by rw [hE]; decide) ?_
  simp
  refine hK _ ?_
  clear hK
  refine AW_block ?_
  refine AW_loop (G := Nat) (fun i => ⟨[(8, iA i), (7, iA l.length), (3, .loc 3 0), (0, .sl 8 (l.map encR))], [(3, .box 23 (encR r))]⟩)
    (fun i => i ≤ l.length ∧ r ∉ l.take i) (fun i => l.length - i) 0 ⟨Nat.zero_le _, by simp⟩ (by simp) ?_
  rintro i ⟨hi, hno⟩
  refine AW_seq fun K1 hK1 => ?_
  refine AW_region (by rw [hE]; decide) ?_
  simp
  refine hK1 _ ?_
  clear hK1
  refine AW_seq fun K1 hK1 => ?_
  refine AW_cond (t := decide (i < l.length)) (by simp) ?_ ?_
  · intro hlt
    have hlt := of_decide_eq_true hlt
    refine AW_skip ?_
    simp
    refine hK1 _ ?_
    clear hK1
    refine AW_seq fun K1 hK1 => ?_
    refine AW_block ?_
    refine AW_seq fun K hK => ?_
    refine AW_region (by rw [hE]; decide) ?_
    simp
    refine hK _ ?_
    clear hK
    refine AW_seq fun K hK => ?_
    refine AW_draw 6 mixed (by rw [hE]; decide) (by simp [newOK]) ?_
    simp [hlt]
    repeat' apply And.intro
    all_goals try omega
    all_goals try decide
    refine hK _ ?_
    clear hK
    refine AW_cond (t := decide (r = l[i])) (by simp) ?_ ?_
    · intro h
      have h := of_decide_eq_true h
      refine AW_seq fun K hK => ?_
      refine AW_region (by rw [hE]; decide) ?_
      simp
      refine hK _ ?_
      clear hK
      refine AW_ret ?_
      simp
      have hm : r ∈ l := by rw [h]; exact List.getElem_mem hlt
      have hix : l.idxOf r = i := by
        conv => lhs; rw [← List.take_append_drop i l]
        rw [List.idxOf_append, if_neg hno, List.length_take, List.drop_eq_getElem_cons hlt, ← h, List.idxOf_cons_self]
        omega
      simp [hm, hix]
    intro h
    have h := of_decide_eq_false h
    refine AW_skip ?_
    simp
    refine hK1 _ ?_
    refine AW_region (by rw [hE]; decide) ?_
    simp
    refine ⟨by omega, i + 1, ⟨by omega, ?_⟩, by omega, by simp⟩
    rw [List.take_succ_eq_append_getElem hlt, List.mem_append]
    simp [hno, h]
  · intro hlt
    have hlt := of_decide_eq_false hlt
    have : i = l.length := by omega
    subst this
    refine AW_exit ?_
    simp
    refine hK0 _ ?_
    refine AW_seq fun K hK => ?_
    refine AW_region (by rw [hE]; decide) ?_
    simp
    refine hK _ ?_
    clear hK
    refine AW_ret ?_
    simp
    rw [List.take_length] at hno
    simp [hno]

theorem s45 (l : List R) (r : R) (hl : l.length < 4611686018427387904) : PSpec Try.prog 45 [.sl 8 (l.map encR), encR r] (bA (decide (r ∈ l))) := by
  obtain ⟨n, hn, hs⟩ := s57 l r hl
  refine PSpec_of Try.func45 rfl rfl (Nat.le_of_ble_eq_true rfl) (Nat.le_of_ble_eq_true rfl) ?_
  intro E hE
  refine AW_seq fun K hK => ?_
  refine AW_region (by rw [hE]; decide) ?_
  simp
  refine hK _ ?_
  clear hK
  refine AW_seq fun K hK => ?_
  refine AW_region (by rw [hE]; decide) ?_
  simp
  refine acall_same hs (by simp) rfl ?_
  simp
  refine hK _ ?_
  clear hK
  refine AW_ret ?_
  simp
  exact hn.symm

theorem s28 (l : List R) (r : R) (hl : l.length < 4611686018427387904) : PSpec Try.prog 28 [.sl 8 (l.map encR), encR r] (bA (decide (r ∈ l))) := by
  refine PSpec_of Try.func28 rfl rfl (Nat.le_of_ble_eq_true rfl) (Nat.le_of_ble_eq_true rfl) ?_
  intro E hE
  refine AW_seq fun K hK => ?_
  refine AW_region (by rw [hE]; decide) ?_
  simp
  refine hK _ ?_
  clear hK
  refine AW_seq fun K hK => ?_
  refine AW_region (by rw [hE]; decide) ?_
  simp
  refine acall_same (s45 l r hl) (by simp) rfl ?_
  simp
  refine hK _ ?_
  clear hK
  refine AW_ret ?_
  simp

theorem s17 (l m : List R) (hl : l.length < 4611686018427387904) : PSpec Try.prog 17 [.sl 8 (l.map encR), .sl 8 (m.map encR)] (bA (decide (l = m))) := by
  refine PSpec_of Try.func17 rfl rfl (Nat.le_of_ble_eq_true rfl) (Nat.le_of_ble_eq_true rfl) ?_
  intro E hE
  refine AW_seq fun K hK => ?_
  refine AW_region (by rw [hE]; decide) ?_
  simp
  refine hK _ ?_
  clear hK
  refine AW_seq fun K hK => ?_
  refine AW_seq fun K hK => ?_
  refine AW_region (by rw [hE]; decide) ?_
  simp
  refine hK _ ?_
  clear hK
  refine AW_cond (t := !decide ((l.length : Int) = m.length)) (by simp) ?_ ?_
  · intro h
    have h : l.length ≠ m.length := by simp at h; omega
    refine AW_seq fun K hK => ?_
    refine AW_region (by rw [hE]; decide) ?_
    simp
    refine hK _ ?_
    clear hK
    refine AW_ret ?_
    simp
    rintro rfl
    exact h rfl
  intro h
  have h : l.length = m.length := by simp at h; omega
  refine AW_skip ?_
  simp
  refine hK _ ?_
  clear hK
  refine AW_seq fun K0 hK0 => ?_
  refine AW_seq fun K hK => ?_
  refine AW_region (by rw [hE]; decide) ?_
  simp
  refine hK _ ?_
  clear hK
  refine AW_block ?_
  refine AW_loop (G := Nat) (fun i => ⟨[(5, iA i), (1, .sl 8 (m.map encR)), (0, .sl 8 (l.map encR))], []⟩)
    (fun i => i ≤ l.length ∧ l.take i = m.take i) (fun i => l.length - i) 0 ⟨Nat.zero_le _, by simp⟩ (by simp) ?_
  rintro i ⟨hi, heq⟩
  refine AW_seq fun K1 hK1 => ?_
  refine AW_seq fun K2 hK2 => ?_
  refine AW_region (by rw [hE]; decide) ?_
  simp
  refine hK2 _ ?_
  clear hK2
  refine AW_cond (t := decide (i < l.length)) (by simp) ?_ ?_
  · intro hlt
    have hlt := of_decide_eq_true hlt
    have hlm : i < m.length := by omega
    refine AW_skip ?_
    simp
    refine hK1 _ ?_
    clear hK1
    refine AW_seq fun K1 hK1 => ?_
    refine AW_block ?_
    refine AW_seq fun K hK => ?_
    refine AW_draw 9 mixed (by rw [hE]; decide) (by simp [newOK]) ?_
    simp [hlt, hlm]
    repeat' apply And.intro
    all_goals try omega
    all_goals try decide
    refine hK _ ?_
    clear hK
    refine AW_cond (t := !decide (l[i] = m[i])) (by simp) ?_ ?_
    · intro h
      refine AW_seq fun K hK => ?_
      refine AW_region (by rw [hE]; decide) ?_
      simp
      refine hK _ ?_
      clear hK
      refine AW_ret ?_
      simp
      rintro rfl
      simp at h
    intro h
    have h : l[i] = m[i] := by simpa using h
    refine AW_skip ?_
    simp
    refine hK1 _ ?_
    refine AW_region (by rw [hE]; decide) ?_
    simp
    refine ⟨by omega, i + 1, ⟨by omega, ?_⟩, by omega, by simp⟩
    rw [List.take_succ_eq_append_getElem hlt, List.take_succ_eq_append_getElem hlm, heq, h]
  · intro hlt
    have hlt := of_decide_eq_false hlt
    have : i = l.length := by omega
    subst this
    refine AW_exit ?_
    simp
    refine hK0 _ ?_
    refine AW_seq fun K hK => ?_
    refine AW_region (by rw [hE]; decide) ?_
    simp
    refine hK _ ?_
    clear hK
    refine AW_ret ?_
    simp
    rw [List.take_length, h, List.take_length] at heq
    exact heq

theorem s23 (l m : List Int) (hl : l.length < 4611686018427387904) : PSpec Try.prog 23 [.sl 1 (l.map iA), .sl 1 (m.map iA)] (bA (decide (l = m))) := by
  refine PSpec_of Try.func23 rfl rfl (Nat.le_of_ble_eq_true rfl) (Nat.le_of_ble_eq_true rfl) ?_
  intro E hE
  refine AW_seq fun K hK => ?_
  refine AW_region (by rw [hE]; decide) ?_
  simp
  refine hK _ ?_
  clear hK
  refine AW_seq fun K hK => ?_
  refine AW_seq fun K hK => ?_
  refine AW_region (by rw [hE]; decide) ?_
  simp
  refine hK _ ?_
  clear hK
  refine AW_cond (t := !decide ((l.length : Int) = m.length)) (by simp) ?_ ?_
  · intro h
    have h : l.length ≠ m.length := by simp at h; omega
    refine AW_seq fun K hK => ?_
    refine AW_region (by rw [hE]; decide) ?_
    simp
    refine hK _ ?_
    clear hK
    refine AW_ret ?_
    simp
    rintro rfl
    exact h rfl
  intro h
  have h : l.length = m.length := by simp at h; omega
  refine AW_skip ?_
  simp
  refine hK _ ?_
  clear hK
  refine AW_seq fun K0 hK0 => ?_
  refine AW_seq fun K hK => ?_
  refine AW_region (by rw [hE]; decide) ?_
  simp
  refine hK _ ?_
  clear hK
  refine AW_block ?_
  refine AW_loop (G := Nat) (fun i => ⟨[(5, iA i), (1, .sl 1 (m.map iA)), (0, .sl 1 (l.map iA))], []⟩)
    (fun i => i ≤ l.length ∧ l.take i = m.take i) (fun i => l.length - i) 0 ⟨Nat.zero_le _, by simp⟩ (by simp) ?_
  rintro i ⟨hi, heq⟩
  refine AW_seq fun K1 hK1 => ?_
  refine AW_seq fun K2 hK2 => ?_
  refine AW_region (by rw [hE]; decide) ?_
  simp
  refine hK2 _ ?_
  clear hK2
  refine AW_cond (t := decide (i < l.length)) (by simp) ?_ ?_
  · intro hlt
    have hlt := of_decide_eq_true hlt
    have hlm : i < m.length := by omega
    refine AW_skip ?_
    simp
    refine hK1 _ ?_
    clear hK1
    refine AW_seq fun K1 hK1 => ?_
    refine AW_block ?_
    refine AW_seq fun K hK => ?_
    refine AW_draw 9 mixed (by rw [hE]; decide) (by simp [newOK]) ?_
    simp [hlt, hlm]
    repeat' apply And.intro
    all_goals try omega
    all_goals try decide
    refine hK _ ?_
    clear hK
    refine AW_cond (t := !decide (l[i] = m[i])) (by simp) ?_ ?_
    · intro h
      refine AW_seq fun K hK => ?_
      refine AW_region (by rw [hE]; decide) ?_
      simp
      refine hK _ ?_
      clear hK
      refine AW_ret ?_
      simp
      rintro rfl
      simp at h
    intro h
    have h : l[i] = m[i] := by simpa using h
    refine AW_skip ?_
    simp
    refine hK1 _ ?_
    refine AW_region (by rw [hE]; decide) ?_
    simp
    refine ⟨by omega, i + 1, ⟨by omega, ?_⟩, by omega, by simp⟩
    rw [List.take_succ_eq_append_getElem hlt, List.take_succ_eq_append_getElem hlm, heq, h]
  · intro hlt
    have hlt := of_decide_eq_false hlt
    have : i = l.length := by omega
    subst this
    refine AW_exit ?_
    simp
    refine hK0 _ ?_
    refine AW_seq fun K hK => ?_
    refine AW_region (by rw [hE]; decide) ?_
    simp
    refine hK _ ?_
    clear hK
    refine AW_ret ?_
    simp
    rw [List.take_length, h, List.take_length] at heq
    exact heq

theorem s29 (a b c : Int) : PSpec Try.prog 29 [iA a, iA b, iA c] (bA (decide (b ≤ a ∧ a ≤ c))) := by
  refine PSpec_of Try.func29 rfl rfl (Nat.le_of_ble_eq_true rfl) (Nat.le_of_ble_eq_true rfl) ?_
  intro E hE
  refine AW_seq fun K hK => ?_
  refine AW_region (by rw [hE]; decide) ?_
  simp
  refine hK _ ?_
  clear hK
  refine AW_seq fun K hK => ?_
  refine AW_region (by rw [hE]; decide) ?_
  simp
  constructor
  · intro h
    refine hK _ ?_
    clear hK
    refine AW_ret ?_
    simp [h]
  · intro h
    refine hK _ ?_
    clear hK
    refine AW_ret ?_
    simp
    omega

end Go.Proofs.Ytmjckbokjjnmeaa
