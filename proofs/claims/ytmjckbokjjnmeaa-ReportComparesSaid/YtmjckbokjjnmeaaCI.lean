/- slices.Compact at ints. -/
import Derived.Test.YtmjckbokjjnmeaaF8
namespace Go.Proofs.Ytmjckbokjjnmeaa
open Go.Am
def zeroI : Int := 0
theorem zeroI_eq : iA zeroI = .v (.int .i64 0) := rfl
/-! ### Compact -/
def ddSI (D : List Int) (x : Int) : List Int := if D.getLast? = some x then D else D ++ [x]
def ddI (l : List Int) : List Int := l.foldl ddSI []
theorem dd_takeI {l : List Int} {i : Nat} (h : i < l.length) : ddI (l.take (i + 1)) = ddSI (ddI (l.take i)) l[i] := by
  unfold ddI
  rw [List.take_succ_eq_append_getElem h, List.foldl_append]
  rfl
theorem ddS_lastI (D : List Int) (x : Int) : (ddSI D x).getLast? = some x := by
  unfold ddSI
  split
  · assumption
  · simp
theorem dd_lastI {l : List Int} {i : Nat} (h : i < l.length) : (ddI (l.take (i + 1))).getLast? = some l[i] := by rw [dd_takeI h, ddS_lastI]
theorem dd_lenI {l : List Int} : ∀ {i : Nat}, i ≤ l.length → (ddI (l.take i)).length ≤ i
  | 0, _ => by simp [ddI]
  | i + 1, h => by
    have := dd_lenI (l := l) (i := i) (by omega)
    rw [dd_takeI (by omega)]
    unfold ddSI
    split
    · omega
    · simp; omega

theorem m47 (l : List Int) (hl : l.length ≤ 1000000000) : MSpec Try.prog 47 [.own 1000000 1 0 l.length] [(1000000, .arr 3 1 (l.map iA))] (fun res bf => ∃ tail : List Int, res = .own 1000000 1 0 (ddI l).length ∧ bf 1000000 = some (.arr 3 1 ((ddI l ++ tail).map iA))) := by
  refine MSpec_of Try.func47 rfl rfl (Nat.le_of_ble_eq_true rfl) (Nat.le_of_ble_eq_true rfl) ?_
  intro E hE
  refine AW_seq fun K hK => ?_
  refine AW_region (by rw [hE]; decide) ?_
  simp
  refine hK _ ?_
  clear hK
  refine AW_seq fun K hK => ?_
  refine AW_seq fun K hK => ?_
  refine AW_region (by rw [hE]; decide) ?_
  simp
  refine hK _ ?_
  clear hK
  refine AW_cond (t := decide ((l.length : Int) < 2)) (by simp) ?_ ?_
  · intro h
    have h : l.length < 2 := by have := of_decide_eq_true h; omega
    have hdd : ddI l = l := by
      rcases l with _ | ⟨a, _ | ⟨b, l⟩⟩
      · rfl
      · simp [ddI, ddSI]
      · simp at h
        omega
    refine AW_seq fun K hK => ?_
    refine AW_region (by rw [hE]; decide) ?_
    simp
    refine hK _ ?_
    clear hK
    refine AW_ret ?_
    simp [hdd]
  intro h
  have h : 2 ≤ l.length := by have := of_decide_eq_false h; omega
  refine AW_skip ?_
  simp
  refine hK _ ?_
  clear hK
  refine AW_seq fun K0 hK0 => ?_
  refine AW_seq fun K hK => ?_
  refine AW_region (by rw [hE]; decide) ?_
  simp
  refine hK _ ?_
  clear hK
  refine AW_block ?_
  refine AW_loop (G := Nat) (fun k => ⟨[(3, iA k), (0, .own 1000000 1 0 l.length)], [(1000000, .arr 3 1 (l.map iA))]⟩)
    (fun k => 1 ≤ k ∧ k ≤ l.length ∧ ddI (l.take k) = l.take k) (fun k => l.length - k) 1 ⟨by omega, by omega, by
      match l, h with
      | a :: l, _ => simp [ddI, ddSI]⟩ (by simp) ?_
  rintro k ⟨hk1, hk, hdk⟩
  refine AW_seq fun K1 hK1 => ?_
  refine AW_seq fun K2 hK2 => ?_
  refine AW_region (by rw [hE]; decide) ?_
  simp
  refine hK2 _ ?_
  clear hK2
  refine AW_cond (t := decide (k < l.length)) (by simp) ?_ ?_
  · intro hlt
    have hlt := of_decide_eq_true hlt
    obtain ⟨j, rfl⟩ : ∃ j, k = j + 1 := ⟨k - 1, by omega⟩
    have hj : j < l.length := by omega
    have hjj : ((j + 1 : Nat) : Int) - 1 = j := by omega
    refine AW_skip ?_
    simp
    refine hK1 _ ?_
    clear hK1
    refine AW_seq fun K1 hK1 => ?_
    refine AW_block ?_
    refine AW_seq fun K hK => ?_
    refine AW_draw 10 mixed (by rw [hE]; decide) (by simp [newOK]) ?_
    simp [hlt, hj]
    repeat' apply And.intro
    all_goals try omega
    all_goals try decide
    refine hK _ ?_
    clear hK
    have hdl := dd_lastI hj
    rw [hdk] at hdl
    refine AW_cond (t := decide (l[j + 1] = l[j])) (by simp) ?_ ?_
    · intro heq
      have heq := of_decide_eq_true heq
      have hD1 : ddI (l.take (j + 1 + 1)) = l.take (j + 1) := by
        rw [dd_takeI hlt, hdk]
        unfold ddSI
        rw [if_pos (by rw [hdl, heq])]
      have hD1l : (l.take (j + 1)).length = j + 1 := by rw [List.length_take]; omega
      refine AW_seq fun K3 hK3 => ?_
      refine AW_region (by rw [hE]; decide) ?_
      simp
      have ht : ((l.length : Int) - ((j : Int) + 1)).toNat = l.length - (j + 1) := by omega
      refine ⟨by omega, fun _ => ?_, fun _ h0 => absurd h0 (by omega)⟩
      rw [ht]
      refine hK3 _ ?_
      clear hK3
      refine AW_seq fun K3 hK3 => ?_
      refine AW_seq fun K hK => ?_
      refine AW_region (by rw [hE]; decide) ?_
      simp
      refine hK _ ?_
      clear hK
      refine AW_block ?_
      refine AW_loop (G := Nat) (fun m => ⟨[(5, iA m), (4, .own 1000000 1 (j + 1) (l.length - (j + 1))), (3, iA (ddI (l.take (j + 1 + m))).length), (0, .own 1000000 1 0 l.length)], [(1000000, .arr 3 1 ((ddI (l.take (j + 1 + m)) ++ l.drop (ddI (l.take (j + 1 + m))).length).map iA))]⟩)
        (fun m => 1 ≤ m ∧ j + 1 + m ≤ l.length ∧ (ddI (l.take (j + 1 + m))).length ≤ j + m) (fun m => l.length - (j + 1 + m)) 1 ⟨by omega, by omega, by rw [hD1, hD1l]; omega⟩ (by
          rw [hD1, hD1l, List.take_append_drop]
          simp) ?_
      rintro m ⟨hm1, hm, hDl⟩
      generalize hD : ddI (l.take (j + 1 + m)) = D at hDl ⊢
      obtain ⟨A, hAA⟩ : ∃ A, A = D ++ l.drop D.length := ⟨_, rfl⟩
      have hA : A.length = l.length := by rw [hAA]; simp; omega
      have e1 : ∀ i, D.length ≤ i → (h1 : i < A.length) → (h2 : i < l.length) → A[i] = l[i] := by
        subst hAA
        intro i h0 h1 h2
        rw [List.getElem_append_right h0, List.getElem_drop]
        congr 1
        omega
      rw [← hAA]
      refine AW_seq fun K1 hK1 => ?_
      refine AW_seq fun K2 hK2 => ?_
      refine AW_region (by rw [hE]; decide) ?_
      simp
      refine hK2 _ ?_
      clear hK2
      refine AW_cond (t := decide (m < l.length - (j + 1))) (by simp) ?_ ?_
      · intro hlm
        have hlm : j + 1 + m < l.length := by have := of_decide_eq_true hlm; omega
        obtain ⟨m, rfl⟩ : ∃ m', m = m' + 1 := ⟨m - 1, by omega⟩
        have i1 : j + 1 + (m + 1) < A.length := by omega
        have i2 : j + 1 + m < A.length := by omega
        have i3 : m + 1 < l.length - (j + 1) := by omega
        have i4 : m < l.length - (j + 1) := by omega
        have f1 := e1 (j + 1 + (m + 1)) (by omega) i1 (by omega)
        have f2 := e1 (j + 1 + m) (by omega) i2 (by omega)
        have j1 : j + 1 + (m + 1) < l.length := by omega
        have j2 : j + 1 + m < l.length := by omega
        have hDn : ddI (l.take (j + 1 + (m + 1 + 1))) = ddSI D l[j + 1 + (m + 1)] := by rw [← hD]; exact dd_takeI j1
        have hDlast : D.getLast? = some l[j + 1 + m] := by rw [← hD]; exact dd_lastI j2
        refine AW_skip ?_
        simp
        refine hK1 _ ?_
        clear hK1
        refine AW_seq fun K1 hK1 => ?_
        refine AW_block ?_
        refine AW_seq fun K hK => ?_
        refine AW_draw 10 mixed (by rw [hE]; decide) (by simp [newOK]) ?_
        simp [i1, i2, i3, i4, f1, f2]
        repeat' apply And.intro
        all_goals try omega
        all_goals try decide
        refine hK _ ?_
        clear hK
        have hDl2 : D.length < l.length := by omega
        have hDl3 : D.length < A.length := by omega
        refine AW_cond (t := !decide (l[j + 1 + (m + 1)] = l[j + 1 + m])) (by simp) ?_ ?_
        · intro hne
          have hne : l[j + 1 + (m + 1)] ≠ l[j + 1 + m] := by simpa using hne
          have hDn2 : ddI (l.take (j + 1 + (m + 1 + 1))) = D ++ [l[j + 1 + (m + 1)]] := by
            rw [hDn]
            unfold ddSI
            rw [if_neg (by rw [hDlast]; simpa using Ne.symm hne)]
          have hset : A.set D.length l[j + 1 + (m + 1)] = (D ++ [l[j + 1 + (m + 1)]]) ++ l.drop (D ++ [l[j + 1 + (m + 1)]]).length := by
            have e0 : (l.drop D.length).set 0 l[j + 1 + (m + 1)] = l[j + 1 + (m + 1)] :: l.drop (D.length + 1) := by
              rw [List.drop_eq_getElem_cons hDl2]
              rfl
            rw [hAA, List.set_append_right _ _ (Nat.le_refl _), Nat.sub_self, e0]
            simp
          refine AW_seq fun K hK => ?_
          refine AW_region (by rw [hE]; decide) ?_
          simp [i1, f1, hDl3, hDl2]
          repeat' apply And.intro
          all_goals try omega
          all_goals try decide
          refine hK _ ?_
          refine AW_region (by rw [hE]; decide) ?_
          simp
          repeat' apply And.intro
          all_goals try omega
          all_goals try decide
          refine hK1 _ ?_
          refine AW_region (by rw [hE]; decide) ?_
          simp
          refine ⟨by omega, m + 2, ⟨by omega, by omega, ?_⟩, by omega, ?_⟩
          · rw [hDn2]; simp; omega
          · have hset2 := congrArg (List.map iA) hset
            rw [List.map_set, List.map_append, List.map_drop] at hset2
            rw [hDn2]
            exact ⟨⟨by omega, by simp⟩, hset2⟩
        · intro he
          have he : l[j + 1 + (m + 1)] = l[j + 1 + m] := by simpa using he
          have hDn2 : ddI (l.take (j + 1 + (m + 1 + 1))) = D := by
            rw [hDn]
            unfold ddSI
            rw [if_pos (by rw [hDlast, he])]
          refine AW_skip ?_
          simp
          refine hK1 _ ?_
          refine AW_region (by rw [hE]; decide) ?_
          simp
          refine ⟨by omega, m + 2, ⟨by omega, by omega, ?_⟩, by omega, ?_⟩
          · rw [hDn2]; omega
          · rw [hDn2]
            exact ⟨⟨by omega, rfl⟩, by rw [hAA, List.map_append, List.map_drop]⟩
      · intro hlm
        have hlm : j + 1 + m = l.length := by have := of_decide_eq_false hlm; omega
        rw [hlm, List.take_length] at hD
        refine AW_exit ?_
        simp
        refine hK3 _ ?_
        have hc : List.take D.length (List.map iA A) ++ (List.replicate (l.length - D.length) (iA zeroI) ++ List.drop (D.length + (l.length - D.length)) (List.map iA A)) = List.map iA (D ++ List.replicate (l.length - D.length) zeroI) := by
          have h1 : List.take D.length (List.map iA A) = List.map iA D := by rw [hAA, List.map_append, List.take_left' (by simp)]
          have h2 : List.drop (D.length + (l.length - D.length)) (List.map iA A) = [] := List.drop_eq_nil_of_le (by rw [List.length_map, hA]; omega)
          rw [h1, h2, List.map_append, List.map_replicate, List.append_nil]
        rw [zeroI_eq] at hc
        refine AW_seq fun K hK => ?_
        refine AW_region (by rw [hE]; decide) ?_
        simp
        refine ⟨by omega, fun _ => ⟨by omega, ?_⟩, fun _ h => absurd h (by omega)⟩
        rw [hc]
        refine hK _ ?_
        clear hK
        refine AW_seq fun K hK => ?_
        refine AW_region (by rw [hE]; decide) ?_
        simp
        repeat' apply And.intro
        all_goals try omega
        all_goals try decide
        refine hK _ ?_
        clear hK
        refine AW_ret ?_
        simp [hD]
        exact ⟨List.replicate (l.length - D.length) zeroI, (List.map_replicate).symm⟩
    · intro hne
      have hne := of_decide_eq_false hne
      refine AW_skip ?_
      simp
      refine hK1 _ ?_
      refine AW_region (by rw [hE]; decide) ?_
      simp
      refine ⟨by omega, j + 2, ⟨by omega, by omega, ?_⟩, by omega, by simp; omega⟩
      rw [dd_takeI hlt, hdk]
      unfold ddSI
      rw [if_neg (by rw [hdl]; simpa using Ne.symm hne), ← List.take_succ_eq_append_getElem hlt]
  · intro hlt
    have hlt := of_decide_eq_false hlt
    have : k = l.length := by omega
    subst this
    rw [List.take_length] at hdk
    refine AW_exit ?_
    simp
    refine hK0 _ ?_
    refine AW_seq fun K hK => ?_
    refine AW_region (by rw [hE]; decide) ?_
    simp
    refine hK _ ?_
    clear hK
    refine AW_ret ?_
    simp [hdk]
end Go.Proofs.Ytmjckbokjjnmeaa
