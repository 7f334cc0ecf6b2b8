/- slices.Compact at ints. Layer 40: slices.Grow, slices.Concat at segments. Layer 40: Live. Layer 40, plain: the ids of all segments, by insertion and by sorting. -/
import Derived.Test.YtbibemijcdkjhaaGreatDoorZ5
import Derived.Test.YtbibemijcdkjhaaGreatDoorZA
import Derived.Test.YtbibemijcdkjhaaGreatDoorZ6
import Derived.Test.YtbibemijcdkjhaaGreatDoorZ3
set_option maxRecDepth 100000
set_option linter.unusedSimpArgs false
set_option linter.unusedVariables false
section
namespace Go.Proofs.YtbibemijcdkjhaaGreatDoor
open Go.Am
def zeroI : Int := 0
theorem zeroI_eq : iA zeroI = .v (.int .i64 0) := rfl
/-! ### Compact -/
def ddSI (D : List Int) (x : Int) : List Int := if D.getLast? = some x then D else D ++ [x]
def ddI (l : List Int) : List Int := l.foldl ddSI []
theorem dd_takeI {l : List Int} {i : Nat} (h : i < l.length) : ddI (l.take (i + 1)) = ddSI (ddI (l.take i)) l[i] := by
  unfold ddI
  rw [List.take_succ_eq_append_getElem h, List.foldl_append]
  rfl
theorem ddS_lastI (D : List Int) (x : Int) : (ddSI D x).getLast? = some x := by
  unfold ddSI
  split
  · assumption
  · simp
theorem dd_lastI {l : List Int} {i : Nat} (h : i < l.length) : (ddI (l.take (i + 1))).getLast? = some l[i] := by rw [dd_takeI h, ddS_lastI]
theorem dd_lenI {l : List Int} : ∀ {i : Nat}, i ≤ l.length → (ddI (l.take i)).length ≤ i
  | 0, _ => by simp [ddI]
  | i + 1, h => by
    have := dd_lenI (l := l) (i := i) (by omega)
    rw [dd_takeI (by omega)]
    unfold ddSI
    split
    · omega
    · simp; omega

theorem m_compI (l : List Int) (hl : l.length ≤ 1000000000) : MSpec Tryz.prog 39 [.own 1000000 1 0 l.length] [(1000000, .arr 3 1 (l.map iA))] (fun res bf => ∃ tail : List Int, res = .own 1000000 1 0 (ddI l).length ∧ bf 1000000 = some (.arr 3 1 ((ddI l ++ tail).map iA))) := by
  refine MSpec_of Tryz.func39 rfl rfl (Nat.le_of_ble_eq_true rfl) (Nat.le_of_ble_eq_true rfl) ?_
  intro E hE
  refine AW_seq fun K hK => ?_
  refine AW_region (by rw [hE]; decide) ?_
  simp
  refine hK _ ?_
  clear hK
  refine AW_seq fun K hK => ?_
  refine AW_seq fun K hK => ?_
  refine AW_region (by rw [hE]; decide) ?_
  simp
  refine hK _ ?_
  clear hK
  refine AW_cond (t := decide ((l.length : Int) < 2)) (by simp) ?_ ?_
  · intro h
    have h : l.length < 2 := by have := of_decide_eq_true h; omega
    have hdd : ddI l = l := by
      rcases l with _ | ⟨a, _ | ⟨b, l⟩⟩
      · rfl
      · simp [ddI, ddSI]
      · simp at h
        omega
    refine AW_seq fun K hK => ?_
    refine AW_region (by rw [hE]; decide) ?_
    simp
    refine hK _ ?_
    clear hK
    refine AW_ret ?_
    simp [hdd]
  intro h
  have h : 2 ≤ l.length := by have := of_decide_eq_false h; omega
  refine AW_skip ?_
  simp
  refine hK _ ?_
  clear hK
  refine AW_seq fun K0 hK0 => ?_
  refine AW_seq fun K hK => ?_
  refine AW_region (by rw [hE]; decide) ?_
  simp
  refine hK _ ?_
  clear hK
  refine AW_block ?_
  refine AW_loop (G := Nat) (fun k => ⟨[(3, iA k), (0, .own 1000000 1 0 l.length)], [(1000000, .arr 3 1 (l.map iA))]⟩)
    (fun k => 1 ≤ k ∧ k ≤ l.length ∧ ddI (l.take k) = l.take k) (fun k => l.length - k) 1 ⟨by omega, by omega, by
      match l, h with
      | a :: l, _ => simp [ddI, ddSI]⟩ (by simp) ?_
  rintro k ⟨hk1, hk, hdk⟩
  refine AW_seq fun K1 hK1 => ?_
  refine AW_seq fun K2 hK2 => ?_
  refine AW_region (by rw [hE]; decide) ?_
  simp
  refine hK2 _ ?_
  clear hK2
  refine AW_cond (t := decide (k < l.length)) (by simp) ?_ ?_
  · intro hlt
    have hlt := of_decide_eq_true hlt
    obtain ⟨j, rfl⟩ : ∃ j, k = j + 1 := ⟨k - 1, by omega⟩
    have hj : j < l.length := by omega
    have hjj : ((j + 1 : Nat) : Int) - 1 = j := by omega
    refine AW_skip ?_
    simp
    refine hK1 _ ?_
    clear hK1
    refine AW_seq fun K1 hK1 => ?_
    refine AW_block ?_
    refine AW_seq fun K hK => ?_
    refine AW_draw 10 mixed (by rw [hE]; decide) (by simp [newOK]) ?_
    simp [hlt, hj]
    repeat' apply And.intro
    all_goals try omega
    all_goals try decide
    refine hK _ ?_
    clear hK
    have hdl := dd_lastI hj
    rw [hdk] at hdl
    refine AW_cond (t := decide (l[j + 1] = l[j])) (by simp) ?_ ?_
    · intro heq
      have heq := of_decide_eq_true heq
      have hD1 : ddI (l.take (j + 1 + 1)) = l.take (j + 1) := by
        rw [dd_takeI hlt, hdk]
        unfold ddSI
        rw [if_pos (by rw [hdl, heq])]
      have hD1l : (l.take (j + 1)).length = j + 1 := by rw [List.length_take]; omega
      refine AW_seq fun K3 hK3 => ?_
      refine AW_region (by rw [hE]; decide) ?_
      simp
      have ht : ((l.length : Int) - ((j : Int) + 1)).toNat = l.length - (j + 1) := by omega
      refine ⟨by omega, fun _ => ?_, fun _ h0 => absurd h0 (by omega)⟩
      rw [ht]
      refine hK3 _ ?_
      clear hK3
      refine AW_seq fun K3 hK3 => ?_
      refine AW_seq fun K hK => ?_
      refine AW_region (by rw [hE]; decide) ?_
      simp
      refine hK _ ?_
      clear hK
      refine AW_block ?_
      refine AW_loop (G := Nat) (fun m => ⟨[(5, iA m), (4, .own 1000000 1 (j + 1) (l.length - (j + 1))), (3, iA (ddI (l.take (j + 1 + m))).length), (0, .own 1000000 1 0 l.length)], [(1000000, .arr 3 1 ((ddI (l.take (j + 1 + m)) ++ l.drop (ddI (l.take (j + 1 + m))).length).map iA))]⟩)
        (fun m => 1 ≤ m ∧ j + 1 + m ≤ l.length ∧ (ddI (l.take (j + 1 + m))).length ≤ j + m) (fun m => l.length - (j + 1 + m)) 1 ⟨by omega, by omega, by rw [hD1, hD1l]; omega⟩ (by
          rw [hD1, hD1l, List.take_append_drop]
          simp) ?_
      rintro m ⟨hm1, hm, hDl⟩
      generalize hD : ddI (l.take (j + 1 + m)) = D at hDl ⊢
      obtain ⟨A, hAA⟩ : ∃ A, A = D ++ l.drop D.length := ⟨_, rfl⟩
      have hA : A.length = l.length := by rw [hAA]; simp; omega
      have e1 : ∀ i, D.length ≤ i → (h1 : i < A.length) → (h2 : i < l.length) → A[i] = l[i] := by
        subst hAA
        intro i h0 h1 h2
        rw [List.getElem_append_right h0, List.getElem_drop]
        congr 1
        omega
      rw [← hAA]
      refine AW_seq fun K1 hK1 => ?_
      refine AW_seq fun K2 hK2 => ?_
      refine AW_region (by rw [hE]; decide) ?_
      simp
      refine hK2 _ ?_
      clear hK2
      refine AW_cond (t := decide (m < l.length - (j + 1))) (by simp) ?_ ?_
      · intro hlm
        have hlm : j + 1 + m < l.length := by have := of_decide_eq_true hlm; omega
        obtain ⟨m, rfl⟩ : ∃ m', m = m' + 1 := ⟨m - 1, by omega⟩
        have i1 : j + 1 + (m + 1) < A.length := by omega
        have i2 : j + 1 + m < A.length := by omega
        have i3 : m + 1 < l.length - (j + 1) := by omega
        have i4 : m < l.length - (j + 1) := by omega
        have f1 := e1 (j + 1 + (m + 1)) (by omega) i1 (by omega)
        have f2 := e1 (j + 1 + m) (by omega) i2 (by omega)
        have j1 : j + 1 + (m + 1) < l.length := by omega
        have j2 : j + 1 + m < l.length := by omega
        have hDn : ddI (l.take (j + 1 + (m + 1 + 1))) = ddSI D l[j + 1 + (m + 1)] := by rw [← hD]; exact dd_takeI j1
        have hDlast : D.getLast? = some l[j + 1 + m] := by rw [← hD]; exact dd_lastI j2
        refine AW_skip ?_
        simp
        refine hK1 _ ?_
        clear hK1
        refine AW_seq fun K1 hK1 => ?_
        refine AW_block ?_
        refine AW_seq fun K hK => ?_
        refine AW_draw 10 mixed (by rw [hE]; decide) (by simp [newOK]) ?_
        simp [i1, i2, i3, i4, f1, f2]
        repeat' apply And.intro
        all_goals try omega
        all_goals try decide
        refine hK _ ?_
        clear hK
        have hDl2 : D.length < l.length := by omega
        have hDl3 : D.length < A.length := by omega
        refine AW_cond (t := !decide (l[j + 1 + (m + 1)] = l[j + 1 + m])) (by simp) ?_ ?_
        · intro hne
          have hne : l[j + 1 + (m + 1)] ≠ l[j + 1 + m] := by simpa using hne
          have hDn2 : ddI (l.take (j + 1 + (m + 1 + 1))) = D ++ [l[j + 1 + (m + 1)]] := by
            rw [hDn]
            unfold ddSI
            rw [if_neg (by rw [hDlast]; simpa using Ne.symm hne)]
          have hset : A.set D.length l[j + 1 + (m + 1)] = (D ++ [l[j + 1 + (m + 1)]]) ++ l.drop (D ++ [l[j + 1 + (m + 1)]]).length := by
            have e0 : (l.drop D.length).set 0 l[j + 1 + (m + 1)] = l[j + 1 + (m + 1)] :: l.drop (D.length + 1) := by
              rw [List.drop_eq_getElem_cons hDl2]
              rfl
            rw [hAA, List.set_append_right _ _ (Nat.le_refl _), Nat.sub_self, e0]
            simp
          refine AW_seq fun K hK => ?_
          refine AW_region (by rw [hE]; decide) ?_
          simp [i1, f1, hDl3, hDl2]
          repeat' apply And.intro
          all_goals try omega
          all_goals try decide
          refine hK _ ?_
          refine AW_region (by rw [hE]; decide) ?_
          simp
          repeat' apply And.intro
          all_goals try omega
          all_goals try decide
          refine hK1 _ ?_
          refine AW_region (by rw [hE]; decide) ?_
          simp
          refine ⟨by omega, m + 2, ⟨by omega, by omega, ?_⟩, by omega, ?_⟩
          · rw [hDn2]; simp; omega
          · have hset2 := congrArg (List.map iA) hset
            rw [List.map_set, List.map_append, List.map_drop] at hset2
            rw [hDn2]
            exact ⟨⟨by omega, by simp⟩, hset2⟩
        · intro he
          have he : l[j + 1 + (m + 1)] = l[j + 1 + m] := by simpa using he
          have hDn2 : ddI (l.take (j + 1 + (m + 1 + 1))) = D := by
            rw [hDn]
            unfold ddSI
            rw [if_pos (by rw [hDlast, he])]
          refine AW_skip ?_
          simp
          refine hK1 _ ?_
          refine AW_region (by rw [hE]; decide) ?_
          simp
          refine ⟨by omega, m + 2, ⟨by omega, by omega, ?_⟩, by omega, ?_⟩
          · rw [hDn2]; omega
          · rw [hDn2]
            exact ⟨⟨by omega, rfl⟩, by rw [hAA, List.map_append, List.map_drop]⟩
      · intro hlm
        have hlm : j + 1 + m = l.length := by have := of_decide_eq_false hlm; omega
        rw [hlm, List.take_length] at hD
        refine AW_exit ?_
        simp
        refine hK3 _ ?_
        have hc : List.take D.length (List.map iA A) ++ (List.replicate (l.length - D.length) (iA zeroI) ++ List.drop (D.length + (l.length - D.length)) (List.map iA A)) = List.map iA (D ++ List.replicate (l.length - D.length) zeroI) := by
          have h1 : List.take D.length (List.map iA A) = List.map iA D := by rw [hAA, List.map_append, List.take_left' (by simp)]
          have h2 : List.drop (D.length + (l.length - D.length)) (List.map iA A) = [] := List.drop_eq_nil_of_le (by rw [List.length_map, hA]; omega)
          rw [h1, h2, List.map_append, List.map_replicate, List.append_nil]
        rw [zeroI_eq] at hc
        refine AW_seq fun K hK => ?_
        refine AW_region (by rw [hE]; decide) ?_
        simp
        refine ⟨by omega, fun _ => ⟨by omega, ?_⟩, fun _ h => absurd h (by omega)⟩
        rw [hc]
        refine hK _ ?_
        clear hK
        refine AW_seq fun K hK => ?_
        refine AW_region (by rw [hE]; decide) ?_
        simp
        repeat' apply And.intro
        all_goals try omega
        all_goals try decide
        refine hK _ ?_
        clear hK
        refine AW_ret ?_
        simp [hD]
        exact ⟨List.replicate (l.length - D.length) zeroI, (List.map_replicate).symm⟩
    · intro hne
      have hne := of_decide_eq_false hne
      refine AW_skip ?_
      simp
      refine hK1 _ ?_
      refine AW_region (by rw [hE]; decide) ?_
      simp
      refine ⟨by omega, j + 2, ⟨by omega, by omega, ?_⟩, by omega, by simp; omega⟩
      rw [dd_takeI hlt, hdk]
      unfold ddSI
      rw [if_neg (by rw [hdl]; simpa using Ne.symm hne), ← List.take_succ_eq_append_getElem hlt]
  · intro hlt
    have hlt := of_decide_eq_false hlt
    have : k = l.length := by omega
    subst this
    rw [List.take_length] at hdk
    refine AW_exit ?_
    simp
    refine hK0 _ ?_
    refine AW_seq fun K hK => ?_
    refine AW_region (by rw [hE]; decide) ?_
    simp
    refine hK _ ?_
    clear hK
    refine AW_ret ?_
    simp [hdk]
end Go.Proofs.YtbibemijcdkjhaaGreatDoor
end
section
namespace Go.Proofs.YtbibemijcdkjhaaGreatDoor
open Go.Am
theorem m_grow (n : Nat) (h0 : 0 < n) (hn : n ≤ 1000000) : MSpec Tryz.prog 72 [.v (.slice none 0 0), iA n] [] (fun res bf => res = .own 22 9 0 0 ∧ bf 22 = some (.arr 70 9 ((List.replicate n default).map encS))) := by
  have h1 : ¬ n = 0 := by omega
  refine MSpec_of Tryz.func72 rfl rfl (Nat.le_of_ble_eq_true rfl) (Nat.le_of_ble_eq_true rfl) ?_
  intro E hE
  repeat' (first
   | (with_reducible first | refine uK ?_ | refine uX ?_ | refine AW_seqk fun K hK => ?_ | refine AW_block ?_) | ((with_reducible first | refine rS hE ?_ | refine RK_nilk ?_ | refine RK_stepk fun K' hK' => ?_ | refine AW_if fun X Y hX hY => ?_ | refine AW_ret ?_ | refine AW_skip ?_ | refine AW_exit ?_); simp [*]) | with_reducible refine rL hE ?_ | with_reducible refine And.intro ?_ ?_ | omega | (refine imp1 fun h => ?_))
  all_goals rfl
theorem s_grow0 : PSpec Tryz.prog 72 [.v (.slice none 0 0), iA 0] (.v (.slice none 0 0)) := by
  refine PSpec_of Tryz.func72 rfl rfl (Nat.le_of_ble_eq_true rfl) (Nat.le_of_ble_eq_true rfl) ?_
  intro E hE
  repeat' (first
   | (with_reducible first | refine uK ?_ | refine uX ?_ | refine AW_seqk fun K hK => ?_ | refine AW_block ?_) | ((with_reducible first | refine rS hE ?_ | refine RK_nilk ?_ | refine RK_stepk fun K' hK' => ?_ | refine AW_if fun X Y hX hY => ?_ | refine AW_ret ?_ | refine AW_skip ?_ | refine AW_exit ?_); simp [*]) | with_reducible refine rL hE ?_ | with_reducible refine And.intro ?_ ?_ | omega | (refine imp1 fun h => ?_))
set_option maxHeartbeats 2000000 in
theorem s_concat (ls : List (List Seg)) (h1 : ls.length ≤ 1000) (h2 : ∀ l ∈ ls, l.length ≤ 1000) : PSpec Tryz.prog 37 [.sl 1 (ls.map segL)] (segL ls.flatten) := by
  obtain ⟨F, hF⟩ : ∃ F : Nat → List Seg, ∀ i, F i = (ls.take i).flatten := ⟨_, fun _ => rfl⟩
  have f0 : F 0 = [] := by simp [hF]
  have fs : ∀ i (hi : i < ls.length), F (i + 1) = F i ++ ls[i] := by
    intro i hi
    rw [hF, hF, List.take_succ_eq_append_getElem hi, List.flatten_append]
    simp
  have fe : F ls.length = ls.flatten := by rw [hF, List.take_length]
  have fl : ∀ i, i ≤ ls.length → (F i).length ≤ 1000 * i := by
    intro i
    induction i with
    | zero => intro _; rw [f0]; simp
    | succ i ih =>
      intro hi
      have h3 := ih (by omega)
      have h4 := h2 ls[i] (List.getElem_mem _)
      rw [fs i (by omega)]
      simp
      omega
  clear hF
  rw [← fe]
  clear fe
  have fle := fl ls.length (Nat.le_refl _)
  replace fs := Hld.mk fs
  replace fl := Hld.mk fl
  replace h2 := Hld.mk h2
  refine PSpec_of Tryz.func37 rfl rfl (Nat.le_of_ble_eq_true rfl) (Nat.le_of_ble_eq_true rfl) ?_
  intro E hE
  refine AW_seqt ⟨[(0, .sl 1 (ls.map segL))], []⟩ ?_ (by
    intro K hK
    repeat' (first
     | (with_reducible first | refine uK ?_ | refine uX ?_ | refine AW_seqk fun K hK => ?_ | refine AW_block ?_) | ((with_reducible first | refine rS hE ?_ | refine RK_nilk ?_ | refine RK_stepk fun K' hK' => ?_ | refine AW_if fun X Y hX hY => ?_ | refine AW_ret ?_ | refine AW_skip ?_ | refine AW_exit ?_); simp [*]) | with_reducible refine rL hE ?_ | with_reducible refine And.intro ?_ ?_ | omega | (refine imp1 fun h => ?_))
    all_goals simp)
  refine AW_seqt ⟨[(3, iA 0), (0, .sl 1 (ls.map segL))], []⟩ ?_ (by
    intro K hK
    repeat' (first
     | (with_reducible first | refine uK ?_ | refine uX ?_ | refine AW_seqk fun K hK => ?_ | refine AW_block ?_) | ((with_reducible first | refine rS hE ?_ | refine RK_nilk ?_ | refine RK_stepk fun K' hK' => ?_ | refine AW_if fun X Y hX hY => ?_ | refine AW_ret ?_ | refine AW_skip ?_ | refine AW_exit ?_); simp [*]) | with_reducible refine rL hE ?_ | with_reducible refine And.intro ?_ ?_ | omega | (refine imp1 fun h => ?_))
    all_goals simp)
  refine AW_seqt ⟨[(3, iA (F ls.length).length), (0, .sl 1 (ls.map segL))], []⟩ ?_ ?_
  rotate_left
  · intro K0 hK0
    repeat' (first
     | (with_reducible first | refine uK ?_ | refine uX ?_ | refine AW_seqk fun K hK => ?_ | refine AW_block ?_) | ((with_reducible first | refine rS hE ?_ | refine RK_nilk ?_ | refine RK_stepk fun K' hK' => ?_ | refine AW_if fun X Y hX hY => ?_ | refine AW_ret ?_ | refine AW_skip ?_ | refine AW_exit ?_); simp [*]) | with_reducible refine rL hE ?_ | with_reducible refine And.intro ?_ ?_ | omega | (refine imp1 fun h => ?_))
    refine AW_loopk (G := Nat) (fun i => ⟨[(11, iA i), (10, iA ls.length), (9, .sl 1 (ls.map segL)), (3, iA (F i).length), (0, .sl 1 (ls.map segL))], []⟩)
      (fun i => i ≤ ls.length) (fun i => ls.length - i) 0 (by omega) (by simp [f0]) ?_
    intro i hi K hK
    clear f0
    by_cases hlt : i < ls.length
    · have hfs : (F (i + 1)).length = (F i).length + ls[i].length := by rw [fs.out i hlt]; simp
      have hfl := fl.out i hi
      have hll := h2.out ls[i] (List.getElem_mem hlt)
      replace hfs := Hld.mk hfs
      repeat' (first
       | (with_reducible first | refine uK ?_ | refine uX ?_ | refine AW_seqk fun K hK => ?_ | refine AW_block ?_) | ((with_reducible first | refine rS hE ?_ | refine RK_nilk ?_ | refine RK_stepk fun K' hK' => ?_ | refine AW_if fun X Y hX hY => ?_ | refine AW_ret ?_ | refine AW_skip ?_ | refine AW_exit ?_); simp [*]) | with_reducible refine rL hE ?_ | with_reducible refine And.intro ?_ ?_ | omega | (refine imp1 fun h => ?_))
      all_goals exact ⟨i + 1, by omega, by omega, by simp [hfs.out]⟩
    · have hil : i = ls.length := by omega
      subst hil
      repeat' (first
       | (with_reducible first | refine uK ?_ | refine uX ?_ | refine AW_seqk fun K hK => ?_ | refine AW_block ?_) | ((with_reducible first | refine rS hE ?_ | refine RK_nilk ?_ | refine RK_stepk fun K' hK' => ?_ | refine AW_if fun X Y hX hY => ?_ | refine AW_ret ?_ | refine AW_skip ?_ | refine AW_exit ?_); simp [*]) | with_reducible refine rL hE ?_ | with_reducible refine And.intro ?_ ?_ | omega | (refine imp1 fun h => ?_))
      all_goals simp
  obtain ⟨Z, hZ⟩ : ∃ Z : List Seg, Z = List.replicate (F ls.length).length default := ⟨_, rfl⟩
  refine AW_seqx (fun t => t = ⟨[(6, .v (.slice none 0 0)), (0, .sl 1 (ls.map segL))], []⟩ ∨ t = ⟨[(6, .own 923 9 0 0), (0, .sl 1 (ls.map segL))], [(923, .arr 70 9 (Z.map encS))]⟩) ?_ ?_
  rotate_left
  · intro K hK
    clear f0 fs fl h2
    generalize F ls.length = N at *
    by_cases hN : N.length = 0
    · have hg := Hld.mk s_grow0
      repeat' (first
       | (with_reducible first | refine uK ?_ | refine uX ?_ | refine AW_seqk fun K hK => ?_ | refine AW_block ?_) | ((with_reducible first | refine rS hE ?_ | refine RK_nilk ?_ | refine RK_stepk fun K' hK' => ?_ | refine AW_if fun X Y hX hY => ?_ | refine AW_ret ?_ | refine AW_skip ?_ | refine AW_exit ?_); simp [*]) | with_reducible refine rL hE ?_ | (refine acall_same (hg.out) ?_ ?_ ?_; (iterate 2 (focus (simp [*] <;> fail))); simp [*]) | (refine acall_view (hg.out) ?_ ?_ ?_; (iterate 2 (focus (simp [*] <;> fail))); simp [*]) | with_reducible refine And.intro ?_ ?_ | omega | (refine imp1 fun h => ?_))
      all_goals exact ⟨_, .inl rfl, by simp⟩
    · have hg := m_grow N.length (by omega) (by omega)
      rw [← hZ] at hg
      clear hZ
      repeat' (first
       | (with_reducible first | refine uK ?_ | refine uX ?_ | refine AW_seqk fun K hK => ?_ | refine AW_block ?_) | ((with_reducible first | refine rS hE ?_ | refine RK_nilk ?_ | refine RK_stepk fun K' hK' => ?_ | refine AW_if fun X Y hX hY => ?_ | refine AW_ret ?_ | refine AW_skip ?_ | refine AW_exit ?_); simp [*]) | with_reducible refine rL hE ?_ | with_reducible refine And.intro ?_ ?_ | omega | (refine imp1 fun h => ?_))
      refine acall_boxes hg (nm []) (nm [(22, 923)]) [(22, .arr 70 9 (Z.map encS))] (.own 22 9 0 0) (by
        rintro res bf ⟨rfl, h1⟩
        refine ⟨rfl, ?_⟩
        simp
        exact h1) (by simp) (by simp) (by simp) (by simp) (by simp) (by simp) (by simp) ?_
      simp
      repeat' (first
       | (with_reducible first | refine uK ?_ | refine uX ?_ | refine AW_seqk fun K hK => ?_ | refine AW_block ?_) | ((with_reducible first | refine rS hE ?_ | refine RK_nilk ?_ | refine RK_stepk fun K' hK' => ?_ | refine AW_if fun X Y hX hY => ?_ | refine AW_ret ?_ | refine AW_skip ?_ | refine AW_exit ?_); simp [*]) | with_reducible refine rL hE ?_ | with_reducible refine And.intro ?_ ?_ | omega | (refine imp1 fun h => ?_))
      all_goals exact ⟨_, .inr rfl, by simp⟩
  clear hZ
  intro t ht
  have ren : ∀ {c : Code} {Q : AExit → AState → Prop}, AW Tryz.prog E c ⟨[(6, .own 923 9 0 0), (0, .sl 1 (ls.map segL))], [(923, .arr 70 9 [])]⟩ Q → AW Tryz.prog E c t Q := by
    intro c Q hc
    rcases ht with rfl | rfl
    · exact AW_mkrow 6 923 70 9 rfl (by simp) (by simp) (by omega) (AW_le (by simp) hc)
    · exact AW_trunc 923 0 (T := 70) (k := 9) (ys := Z.map encS) (by simp) (AW_le (by simp) hc)
  refine ren ?_
  clear ren ht
  refine AW_seqt ⟨[(6, .own 923 9 0 (F ls.length).length)], [(923, .arr 70 9 ((F ls.length).map encS))]⟩ ?_ ?_
  · clear fs fl fle f0 h2
    generalize F ls.length = N at *
    refine AW_freeze 923 (cb := .arr 70 9 (N.map encS)) (t := ⟨[(6, segL N)], []⟩) (by simp) (by simp) (by simp) ?_
    repeat' (first
     | (with_reducible first | refine uK ?_ | refine uX ?_ | refine AW_seqk fun K hK => ?_ | refine AW_block ?_) | ((with_reducible first | refine rS hE ?_ | refine RK_nilk ?_ | refine RK_stepk fun K' hK' => ?_ | refine AW_if fun X Y hX hY => ?_ | refine AW_ret ?_ | refine AW_skip ?_ | refine AW_exit ?_); simp [*]) | with_reducible refine rL hE ?_ | with_reducible refine And.intro ?_ ?_ | omega | (refine imp1 fun h => ?_))
    all_goals simp
  intro K0 hK0
  repeat' (first
   | (with_reducible first | refine uK ?_ | refine uX ?_ | refine AW_seqk fun K hK => ?_ | refine AW_block ?_) | ((with_reducible first | refine rS hE ?_ | refine RK_nilk ?_ | refine RK_stepk fun K' hK' => ?_ | refine AW_if fun X Y hX hY => ?_ | refine AW_ret ?_ | refine AW_skip ?_ | refine AW_exit ?_); simp [*]) | with_reducible refine rL hE ?_ | with_reducible refine And.intro ?_ ?_ | omega | (refine imp1 fun h => ?_))
  refine AW_loopk (G := Nat) (fun i => ⟨[(27, iA i), (26, iA ls.length), (25, .sl 1 (ls.map segL)), (6, .own 923 9 0 (F i).length)], [(923, .arr 70 9 ((F i).map encS))]⟩)
    (fun i => i ≤ ls.length) (fun i => ls.length - i) 0 (by omega) (by simp [f0]) ?_
  intro i hi K hK
  clear f0
  by_cases hlt : i < ls.length
  · have hfs := fs.out i hlt
    have hfl := fl.out i hi
    have hll := h2.out ls[i] (List.getElem_mem hlt)
    have hgi : ls[i]? = some ls[i] := by simp [hlt]
    replace hfs := Hld.mk hfs
    have htk : ∀ L : List Seg, List.take ((F i).length + L.length) (List.map encS (F i) ++ List.map encS L) = List.map encS (F i) ++ List.map encS L := fun L => List.take_of_length_le (by simp)
    repeat' (first
     | (with_reducible first | refine uK ?_ | refine uX ?_ | refine AW_seqk fun K hK => ?_ | refine AW_block ?_) | ((with_reducible first | refine rS hE ?_ | refine RK_nilk ?_ | refine RK_stepk fun K' hK' => ?_ | refine AW_if fun X Y hX hY => ?_ | refine AW_ret ?_ | refine AW_skip ?_ | refine AW_exit ?_); simp [*]) | with_reducible refine rL hE ?_ | with_reducible refine And.intro ?_ ?_ | omega | (refine imp1 fun h => ?_))
    all_goals exact ⟨i + 1, by omega, by omega, by simp [hfs.out]⟩
  · have hil : i = ls.length := by omega
    subst hil
    repeat' (first
     | (with_reducible first | refine uK ?_ | refine uX ?_ | refine AW_seqk fun K hK => ?_ | refine AW_block ?_) | ((with_reducible first | refine rS hE ?_ | refine RK_nilk ?_ | refine RK_stepk fun K' hK' => ?_ | refine AW_if fun X Y hX hY => ?_ | refine AW_ret ?_ | refine AW_skip ?_ | refine AW_exit ?_); simp [*]) | with_reducible refine rL hE ?_ | with_reducible refine And.intro ?_ ?_ | omega | (refine imp1 fun h => ?_))
    all_goals simp
end Go.Proofs.YtbibemijcdkjhaaGreatDoor
end
section
namespace Go.Proofs.YtbibemijcdkjhaaGreatDoor
open Go.Am
theorem w_sortI (l : List Int) (n : Nat) (hn : l.length = n) (hl : n ≤ 1000000000) : MSpec Tryz.prog 38 [.own 1000000 1 0 n] [(1000000, .arr 3 1 (l.map iA))] (fun res bf => res = .tup [] ∧ bf 1000000 = some (.arr 3 1 ((sortZ l).map iA))) := by
  subst hn
  exact sortInts_m Tryz.sortInts (f := 38) rfl (ent_of Tryz.func38 (by kernel_rfl) rfl) 3 l (by omega)
theorem w_compI (l : List Int) (n : Nat) (hn : l.length = n) (hl : n ≤ 1000000000) : MSpec Tryz.prog 39 [.own 1000000 1 0 n] [(1000000, .arr 3 1 (l.map iA))] (fun res bf => res = .own 1000000 1 0 (ddI l).length ∧ bf 1000000 = some (.arr 3 1 ((ddI l).map iA))) :=
  MSpec.cut (MSpec.mono (hn ▸ m_compI l (hn ▸ hl)) (by
    rintro res bf ⟨tail, rfl, h⟩
    exact ⟨rfl, _, (ddI l).length, h, by rw [List.map_append, ← List.length_map (f := iA), List.take_left]⟩))
theorem sortZ_len (l : List Int) : (sortZ l).length = l.length := List.length_mergeSort l
/-- The ids of a manifest's segments, in order, each once. -/
def liveR (m : Sh) : List Int := ddI (sortZ (m.lists.flatten.map (·.id)))
theorem flat_len : ∀ (ls : List (List Seg)), (∀ l ∈ ls, l.length ≤ 1000) → ls.flatten.length ≤ 1000 * ls.length
  | [], _ => by simp
  | l :: ls, h => by
    have h1 := flat_len ls (fun x hx => h x (List.mem_cons_of_mem _ hx))
    have h2 := h l List.mem_cons_self
    rw [List.flatten_cons, List.length_append, List.length_cons]
    omega
set_option maxHeartbeats 2000000 in
theorem s_mlive (m : Sh) (h : WF m) : PSpec Tryz.prog 10 [.ep (encM m)] (.sl 1 ((liveR m).map iA)) := by
  have hfl := flat_len m.lists (fun l hl => (h.srt l hl).2)
  have h2 := h.len
  have hcc := Hld.mk (s_concat m.lists h2 (fun l hl => (h.srt l hl).2))
  unfold liveR
  generalize m.lists.flatten = L at *
  have hL : L.length ≤ 1000000 := by omega
  clear hfl
  refine PSpec_of Tryz.func10 rfl rfl (Nat.le_of_ble_eq_true rfl) (Nat.le_of_ble_eq_true rfl) ?_
  intro E hE
  refine AW_seqt ⟨[(0, .ep (encM m)), (2, .v (.slice none 0 0))], []⟩ ?_ (by
    intro K hK
    repeat' (first
     | (with_reducible first | refine uK ?_ | refine uX ?_ | refine AW_seqk fun K hK => ?_ | refine AW_block ?_) | ((with_reducible first | refine rS hE ?_ | refine RK_nilk ?_ | refine RK_stepk fun K' hK' => ?_ | refine AW_if fun X Y hX hY => ?_ | refine AW_ret ?_ | refine AW_skip ?_ | refine AW_exit ?_); simp [*]) | with_reducible refine rL hE ?_ | with_reducible refine And.intro ?_ ?_ | omega | (refine imp1 fun h => ?_))
    all_goals simp)
  refine AW_seqt ⟨[(0, .ep (encM m)), (2, .v (.slice none 0 0))], []⟩ ?_ (by
    intro K hK
    repeat' (first
     | (with_reducible first | refine uK ?_ | refine uX ?_ | refine AW_seqk fun K hK => ?_ | refine AW_block ?_) | ((with_reducible first | refine rS hE ?_ | refine RK_nilk ?_ | refine RK_stepk fun K' hK' => ?_ | refine AW_if fun X Y hX hY => ?_ | refine AW_ret ?_ | refine AW_skip ?_ | refine AW_exit ?_); simp [*]) | with_reducible refine rL hE ?_ | with_reducible refine And.intro ?_ ?_ | omega | (refine imp1 fun h => ?_))
    all_goals simp)
  refine AW_seqt ⟨[(3, .v (.slice none 0 0)), (0, .ep (encM m))], []⟩ ?_ (by
    intro K hK
    repeat' (first
     | (with_reducible first | refine uK ?_ | refine uX ?_ | refine AW_seqk fun K hK => ?_ | refine AW_block ?_) | ((with_reducible first | refine rS hE ?_ | refine RK_nilk ?_ | refine RK_stepk fun K' hK' => ?_ | refine AW_if fun X Y hX hY => ?_ | refine AW_ret ?_ | refine AW_skip ?_ | refine AW_exit ?_); simp [*]) | with_reducible refine rL hE ?_ | with_reducible refine And.intro ?_ ?_ | omega | (refine imp1 fun h => ?_))
    all_goals simp)
  refine AW_mkrow 3 931 3 1 rfl (by simp) (by simp) (by omega) ?_
  refine AW_seqt ⟨[(3, .own 931 1 0 (L.map (·.id)).length)], [(931, .arr 3 1 ((L.map (·.id)).map iA))]⟩ ?_ ?_
  rotate_left
  · intro K0 hK0
    repeat' (first
     | (with_reducible first | refine uK ?_ | refine uX ?_ | refine AW_seqk fun K hK => ?_ | refine AW_block ?_) | ((with_reducible first | refine rS hE ?_ | refine RK_nilk ?_ | refine RK_stepk fun K' hK' => ?_ | refine AW_if fun X Y hX hY => ?_ | refine AW_ret ?_ | refine AW_skip ?_ | refine AW_exit ?_); simp [*]) | with_reducible refine rL hE ?_ | (refine acall_same (hcc.out) ?_ ?_ ?_; (iterate 2 (focus (simp [*] <;> fail))); simp [*]) | (refine acall_view (hcc.out) ?_ ?_ ?_; (iterate 2 (focus (simp [*] <;> fail))); simp [*]) | with_reducible refine And.intro ?_ ?_ | omega | (refine imp1 fun h => ?_))
    refine AW_loopk (G := Nat) (fun i => ⟨[(14, iA i), (13, iA L.length), (12, segL L), (3, .own 931 1 0 ((L.take i).map (·.id)).length)], [(931, .arr 3 1 (((L.take i).map (·.id)).map iA))]⟩)
      (fun i => i ≤ L.length) (fun i => L.length - i) 0 (by omega) (by simp) ?_
    intro i hi K hK
    by_cases hlt : i < L.length
    · have hts : (L.take (i + 1)).map (·.id) = (L.take i).map (·.id) ++ [L[i].id] := by rw [List.take_succ_eq_append_getElem hlt, List.map_append]; rfl
      have hfl : ((L.take i).map (·.id)).length = i := by simp; omega
      generalize hT1 : (L.take (i + 1)).map (·.id) = T1 at *
      generalize (L.take i).map (·.id) = T at *
      have hTl : T.length ≤ 1000000 := by omega
      have htk : List.take (T.length + 1) (List.map iA T ++ [iA L[i].id]) = List.map iA T ++ [iA L[i].id] := List.take_of_length_le (by simp)
      clear hfl
      replace hts := Hld.mk hts
      replace hT1 := Hld.mk hT1
      repeat' (first
       | (with_reducible first | refine uK ?_ | refine uX ?_ | refine AW_seqk fun K hK => ?_ | refine AW_block ?_) | ((with_reducible first | refine rS hE ?_ | refine RK_nilk ?_ | refine RK_stepk fun K' hK' => ?_ | refine AW_if fun X Y hX hY => ?_ | refine AW_ret ?_ | refine AW_skip ?_ | refine AW_exit ?_); simp [*]) | with_reducible refine rL hE ?_ | with_reducible refine And.intro ?_ ?_ | omega | (refine imp1 fun h => ?_))
      all_goals exact ⟨i + 1, by omega, by omega, by rw [hT1.out]; simp [hts.out]⟩
    · have hil : i = L.length := by omega
      subst hil
      rw [List.take_length] at *
      repeat' (first
       | (with_reducible first | refine uK ?_ | refine uX ?_ | refine AW_seqk fun K hK => ?_ | refine AW_block ?_) | ((with_reducible first | refine rS hE ?_ | refine RK_nilk ?_ | refine RK_stepk fun K' hK' => ?_ | refine AW_if fun X Y hX hY => ?_ | refine AW_ret ?_ | refine AW_skip ?_ | refine AW_exit ?_); simp [*]) | with_reducible refine rL hE ?_ | with_reducible refine And.intro ?_ ?_ | omega | (refine imp1 fun h => ?_))
      all_goals simp
  generalize hI : L.map (·.id) = I at *
  have hIl : I.length ≤ 1000000 := by rw [← hI]; simpa using hL
  clear hI hcc hL
  have hsl := sortZ_len I
  have hs := Hld.mk (w_sortI I I.length rfl (by omega))
  have hc := Hld.mk (w_compI (sortZ I) I.length hsl (by omega))
  generalize sortZ I = J at *
  have hdl : (ddI J).length ≤ J.length := by have := dd_lenI (l := J) (i := J.length) (Nat.le_refl _); rwa [List.take_length] at this
  replace hsl := Hld.mk hsl
  refine AW_seqt ⟨[(3, .own 931 1 0 I.length)], [(931, .arr 3 1 (J.map iA))]⟩ ?_ (by
    intro K hK
    clear hc
    repeat' (first
     | (with_reducible first | refine uK ?_ | refine uX ?_ | refine AW_seqk fun K hK => ?_ | refine AW_block ?_) | ((with_reducible first | refine rS hE ?_ | refine RK_nilk ?_ | refine RK_stepk fun K' hK' => ?_ | refine AW_if fun X Y hX hY => ?_ | refine AW_ret ?_ | refine AW_skip ?_ | refine AW_exit ?_); simp [*]) | with_reducible refine rL hE ?_ | (refine acall_mrow (hs.out) ?_ ?_ ?_ ?_ ?_ ?_; (iterate 5 (focus (simp [*] <;> fail))); simp [*]) | with_reducible refine And.intro ?_ ?_ | omega | (refine imp1 fun h => ?_))
    all_goals simp)
  generalize ddI J = D at *
  refine AW_seqt ⟨[(2, .own 931 1 0 D.length)], [(931, .arr 3 1 (D.map iA))]⟩ ?_ (by
    intro K hK
    repeat' (first
     | (with_reducible first | refine uK ?_ | refine uX ?_ | refine AW_seqk fun K hK => ?_ | refine AW_block ?_) | ((with_reducible first | refine rS hE ?_ | refine RK_nilk ?_ | refine RK_stepk fun K' hK' => ?_ | refine AW_if fun X Y hX hY => ?_ | refine AW_ret ?_ | refine AW_skip ?_ | refine AW_exit ?_); simp [*]) | with_reducible refine rL hE ?_ | (refine acall_mrow (hc.out) ?_ ?_ ?_ ?_ ?_ ?_; (iterate 5 (focus (simp [*] <;> fail))); simp [*]) | with_reducible refine And.intro ?_ ?_ | omega | (refine imp1 fun h => ?_))
    all_goals simp)
  refine AW_freeze 931 (cb := .arr 3 1 (D.map iA)) (t := ⟨[(2, .sl 1 (D.map iA))], []⟩) (by simp) (by simp) (by simp) ?_
  repeat' (first
   | (with_reducible first | refine uK ?_ | refine uX ?_ | refine AW_seqk fun K hK => ?_ | refine AW_block ?_) | ((with_reducible first | refine rS hE ?_ | refine RK_nilk ?_ | refine RK_stepk fun K' hK' => ?_ | refine AW_if fun X Y hX hY => ?_ | refine AW_ret ?_ | refine AW_skip ?_ | refine AW_exit ?_); simp [*]) | with_reducible refine rL hE ?_ | with_reducible refine And.intro ?_ ?_ | omega | (refine imp1 fun h => ?_))
  all_goals simp
end Go.Proofs.YtbibemijcdkjhaaGreatDoor
end
section
namespace Go.Proofs.YtbibemijcdkjhaaGreatDoor
open Go.Am

theorem srt_ext : ∀ (a b : List Int), a.Pairwise (· < ·) → b.Pairwise (· < ·) → (∀ x, x ∈ a ↔ x ∈ b) → a = b
  | [], [], _, _, _ => rfl
  | [], y :: ys, _, _, h => by have := (h y).2 List.mem_cons_self; simp at this
  | x :: xs, [], _, _, h => by have := (h x).1 List.mem_cons_self; simp at this
  | x :: xs, y :: ys, ha, hb, h => by
    have ha' := List.pairwise_cons.1 ha
    have hb' := List.pairwise_cons.1 hb
    have hxy : x = y := by
      have h1 := (h x).1 List.mem_cons_self
      have h2 := (h y).2 List.mem_cons_self
      rcases List.mem_cons.1 h1 with g | g
      · exact g
      · rcases List.mem_cons.1 h2 with g2 | g2
        · exact g2.symm
        · have := hb'.1 x g
          have := ha'.1 y g2
          omega
    subst hxy
    congr 1
    refine srt_ext xs ys ha'.2 hb'.2 fun z => ?_
    constructor
    · intro hz
      have := ha'.1 z hz
      rcases List.mem_cons.1 ((h z).1 (List.mem_cons_of_mem _ hz)) with g | g
      · omega
      · exact g
    · intro hz
      have := hb'.1 z hz
      rcases List.mem_cons.1 ((h z).2 (List.mem_cons_of_mem _ hz)) with g | g
      · omega
      · exact g
theorem insI_nil (n : Int) : insI [] n = [n] := by simp [insI, posI]
theorem insI_cons (a : Int) (t : List Int) (n : Int) : insI (a :: t) n = if a < n then a :: insI t n else if a = n then a :: t else n :: a :: t := by
  by_cases h : a < n
  · have hp : posI (a :: t) n = posI t n + 1 := by simp [posI, List.takeWhile_cons, h]
    rw [if_pos h]
    unfold insI
    rw [hp]
    simp only [List.getElem?_cons_succ, List.take_succ_cons, List.drop_succ_cons, List.cons_append]
    split <;> rfl
  · have hp : posI (a :: t) n = 0 := by simp [posI, List.takeWhile_cons, h]
    rw [if_neg h]
    unfold insI
    rw [hp]
    by_cases e : a = n
    · simp [e]
    · simp [e]
theorem insI_ok : ∀ (out : List Int) (n : Int), out.Pairwise (· < ·) → (insI out n).Pairwise (· < ·) ∧ ∀ x, x ∈ insI out n ↔ x ∈ out ∨ x = n
  | [], n, _ => by rw [insI_nil]; simp
  | a :: t, n, h => by
    have h' := List.pairwise_cons.1 h
    obtain ⟨h1, h2⟩ := insI_ok t n h'.2
    rw [insI_cons]
    split
    · rename_i hlt
      refine ⟨List.pairwise_cons.2 ⟨fun x hx => ?_, h1⟩, fun x => ?_⟩
      · rcases (h2 x).1 hx with g | g
        · exact h'.1 x g
        · omega
      · rw [List.mem_cons, h2 x, List.mem_cons, or_assoc]
    · rename_i hge
      split
      · rename_i e
        refine ⟨h, fun x => ⟨fun hx => .inl hx, fun hx => ?_⟩⟩
        rcases hx with hx | hx
        · exact hx
        · subst hx e; exact List.mem_cons_self
      · rename_i hne
        refine ⟨List.pairwise_cons.2 ⟨fun x hx => ?_, h⟩, fun x => ?_⟩
        · rcases List.mem_cons.1 hx with g | g
          · omega
          · have := h'.1 x g; omega
        · rw [List.mem_cons]
          exact or_comm
theorem liveL_ok : ∀ (l : List Seg) (out : List Int), out.Pairwise (· < ·) → (liveL l out).Pairwise (· < ·) ∧ ∀ x, x ∈ liveL l out ↔ x ∈ out ∨ ∃ s ∈ l, s.id = x
  | [], out, h => ⟨h, fun x => by simp [liveL]⟩
  | s :: l, out, h => by
    obtain ⟨h1, h2⟩ := insI_ok out s.id h
    obtain ⟨h3, h4⟩ := liveL_ok l (insI out s.id) h1
    have e : liveL (s :: l) out = liveL l (insI out s.id) := rfl
    rw [e]
    refine ⟨h3, fun x => ?_⟩
    rw [h4 x, h2 x]
    constructor
    · rintro ((g | g) | ⟨a, ha, g⟩)
      · exact .inl g
      · exact .inr ⟨s, List.mem_cons_self, g.symm⟩
      · exact .inr ⟨a, List.mem_cons_of_mem _ ha, g⟩
    · rintro (g | ⟨a, ha, g⟩)
      · exact .inl (.inl g)
      · rcases List.mem_cons.1 ha with rfl | ha
        · exact .inl (.inr g.symm)
        · exact .inr ⟨a, ha, g⟩
theorem liveF_ok : ∀ (ls : List (List Seg)) (out : List Int), out.Pairwise (· < ·) → (ls.foldl (fun o l => liveL l o) out).Pairwise (· < ·) ∧ ∀ x, x ∈ ls.foldl (fun o l => liveL l o) out ↔ x ∈ out ∨ ∃ l ∈ ls, ∃ s ∈ l, s.id = x
  | [], out, h => ⟨h, fun x => by simp⟩
  | l :: ls, out, h => by
    obtain ⟨h1, h2⟩ := liveL_ok l out h
    obtain ⟨h3, h4⟩ := liveF_ok ls (liveL l out) h1
    rw [List.foldl_cons]
    refine ⟨h3, fun x => ?_⟩
    rw [h4 x, h2 x]
    constructor
    · rintro ((g | g) | ⟨a, ha, g⟩)
      · exact .inl g
      · exact .inr ⟨l, List.mem_cons_self, g⟩
      · exact .inr ⟨a, List.mem_cons_of_mem _ ha, g⟩
    · rintro (g | ⟨a, ha, g⟩)
      · exact .inl (.inl g)
      · rcases List.mem_cons.1 ha with rfl | ha
        · exact .inl (.inr g)
        · exact .inr ⟨a, ha, g⟩
theorem last_le {D : List Int} {x y : Int} (h : D.Pairwise (· < ·)) (hl : D.getLast? = some y) (hx : x ∈ D) : x ≤ y := by
  obtain ⟨E, rfl⟩ : ∃ E, D = E ++ [y] := List.getLast?_eq_some_iff.1 hl
  rcases List.mem_append.1 hx with g | g
  · have := (List.pairwise_append.1 h).2.2 x g y (by simp)
    omega
  · simp at g; omega
theorem dd_ok : ∀ (l : List Int) (D : List Int), D.Pairwise (· < ·) → l.Pairwise (· ≤ ·) → (∀ d ∈ D, ∀ x ∈ l, d ≤ x) → (l.foldl ddSI D).Pairwise (· < ·) ∧ ∀ x, x ∈ l.foldl ddSI D ↔ x ∈ D ∨ x ∈ l
  | [], D, h, _, _ => ⟨h, fun x => by simp⟩
  | a :: l, D, h, hl, hd => by
    have hl' := List.pairwise_cons.1 hl
    rw [List.foldl_cons]
    have key : (ddSI D a).Pairwise (· < ·) ∧ ∀ x, x ∈ ddSI D a ↔ x ∈ D ∨ x = a := by
      unfold ddSI
      split
      · rename_i e
        refine ⟨h, fun x => ⟨fun g => .inl g, fun g => ?_⟩⟩
        rcases g with g | g
        · exact g
        · subst g; exact List.mem_of_getLast? e
      · rename_i e
        refine ⟨List.pairwise_append.2 ⟨h, by simp, fun x hx y hy => ?_⟩, fun x => by simp⟩
        simp at hy
        subst hy
        have h1 := hd x hx y List.mem_cons_self
        rcases Classical.em (x = y) with g | g
        · exfalso
          subst g
          apply e
          obtain ⟨z, hz⟩ : ∃ z, D.getLast? = some z := by
            cases hD : D.getLast? with
            | none => rw [List.getLast?_eq_none_iff] at hD; subst hD; simp at hx
            | some z => exact ⟨z, rfl⟩
          have h2 := last_le h hz hx
          have h3 := hd z (List.mem_of_getLast? hz) x List.mem_cons_self
          rw [hz]
          congr 1
          omega
        · omega
    obtain ⟨k1, k2⟩ := key
    obtain ⟨h3, h4⟩ := dd_ok l (ddSI D a) k1 hl'.2 (fun d hd2 x hx => by
      rcases (k2 d).1 hd2 with g | g
      · exact hd d g x (List.mem_cons_of_mem _ hx)
      · subst g; exact hl'.1 x hx)
    refine ⟨h3, fun x => ?_⟩
    rw [h4 x, k2 x, List.mem_cons, or_assoc]
/-- Insertion and sorting give the same ids. -/
theorem live_eq (m : Sh) : liveR m = liveM m := by
  have h1 := liveF_ok m.lists [] List.Pairwise.nil
  have hs : (sortZ (m.lists.flatten.map (·.id))).Pairwise (· ≤ ·) := by
    have := List.pairwise_mergeSort (le := fun x y : Int => decide (x ≤ y)) (by intro a b c; simp; omega) (by intro a b; simp; omega) (m.lists.flatten.map (·.id))
    exact this.imp (by intro a b h; simpa using h)
  have h2 := dd_ok (sortZ (m.lists.flatten.map (·.id))) [] List.Pairwise.nil hs (by simp)
  refine srt_ext _ _ h2.1 h1.1 fun x => ?_
  have e1 : x ∈ liveR m ↔ x ∈ sortZ (m.lists.flatten.map (·.id)) := ⟨fun hx => by
    rcases (h2.2 x).1 hx with g | g
    · cases g
    · exact g, fun hx => (h2.2 x).2 (.inr hx)⟩
  have e2 : x ∈ liveM m ↔ ∃ l ∈ m.lists, ∃ s ∈ l, s.id = x := ⟨fun hx => by
    rcases (h1.2 x).1 hx with g | g
    · cases g
    · exact g, fun hx => (h1.2 x).2 (.inr hx)⟩
  refine e1.trans (Iff.trans ?_ e2.symm)
  unfold sortZ
  rw [List.mem_mergeSort, List.mem_map]
  constructor
  · rintro ⟨s, hs, g⟩
    obtain ⟨l, hl, h⟩ := List.mem_flatten.1 hs
    exact ⟨l, hl, s, h, g⟩
  · rintro ⟨l, hl, s, h, g⟩
    exact ⟨s, List.mem_flatten.2 ⟨l, hl, h⟩, g⟩
end Go.Proofs.YtbibemijcdkjhaaGreatDoor
end
