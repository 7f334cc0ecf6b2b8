/- ReportMisses: for any list of reports, any object and any number the law hands back true. Conditions: none. -/
import Derived.Test.YtmjckbokjjnmeaaZ5
set_option maxRecDepth 100000
set_option linter.unusedSimpArgs false
set_option linter.unusedVariables false
namespace Go.Proofs.Ytmjckbokjjnmeaa
open Go.Am Go.RowKit Go.ChangeShapes Go.WideShapes Go.ChangeAt

namespace L5
theorem there_take {l : List R} {ob k : Int} {i : Nat} (h : i < l.length) : ((l.take (i + 1)).any fun r => decide (r.o = ob ∧ r.s = k)) = (((l.take i).any fun r => decide (r.o = ob ∧ r.s = k)) || decide (l[i].o = ob ∧ l[i].s = k)) := by
  rw [List.take_succ_eq_append_getElem h, List.any_append]; simp
theorem there_eq (l : List R) (ob k : Int) : (l.any fun r => decide (r.o = ob ∧ r.s = k)) = decide (k ∈ (haveM ob l).1) := by
  rw [Bool.eq_iff_iff, decide_eq_true_eq, mem_haveM, List.any_eq_true]
  simp
theorem g_take {l : List R} {ob : Int} {i : Nat} (h : i < l.length) : (haveM ob (l.take (i + 1))).2 = if l[i].o = ob then max (haveM ob (l.take i)).2 l[i].s else (haveM ob (l.take i)).2 := by
  rw [List.take_succ_eq_append_getElem h, haveM_snoc]
  unfold stepH
  split <;> rfl
set_option maxHeartbeats 8000000 in
theorem s (l : List R) (ob m : Int) (hw : ∀ r ∈ l, WF r) (hm0 : 0 ≤ m) (hm1 : m ≤ 255) : PSpec Try.prog 5 [.sl 8 (l.map encR), iA ob, .v (.int .u8 m)] (bA true) := by
  by_cases h1 : l.length ≤ 20
  · obtain ⟨n, hn⟩ : ∃ n, n = m.tmod 102 - 1 := ⟨_, rfl⟩
    have hn1 : -1 ≤ n ∧ n ≤ 100 := by
      rw [hn, Int.tmod_eq_emod_of_nonneg hm0]
      have := Int.emod_nonneg m (show (102 : Int) ≠ 0 by omega)
      have := Int.emod_lt_of_pos m (show (0 : Int) < 102 by omega)
      omega
    have hb : ∀ r ∈ l, r.s ≤ 9223372036854775807 := fun r hr => (hw r hr).2.2
    have hlo : ∀ i (h : i < l.length), -9223372036854775808 ≤ l[i].s ∧ l[i].s ≤ 9223372036854775807 := fun i h => (hw _ (List.getElem_mem h)).2
    have t1 := s24 l ob n (by omega) hb (by omega)
    have hlast : (haveM ob l).2 ≤ 9223372036854775807 := (haveM_max ob l _).2 ⟨by omega, fun r hr _ => hb r hr⟩
    have hlast0 : -1 ≤ (haveM ob l).2 := ((haveM_max ob l _).1 (Int.le_refl _)).1
    have hmis : missL (haveM ob l).1 (haveM ob l).2 n ((haveM ob l).2 + 1).toNat 0 [] = missing l ob n := rfl
    have hth := there_eq l ob
    obtain ⟨g, hg⟩ : ∃ g : Nat → Int, ∀ i, g i = (haveM ob (l.take i)).2 := ⟨_, fun _ => rfl⟩
    have hg0 : g 0 = -1 := by rw [hg]; rfl
    have hge : g l.length = (haveM ob l).2 := by rw [hg, List.take_length]
    have hgs : ∀ i (h : i < l.length), g (i + 1) = if l[i].o = ob then max (g i) l[i].s else g i := by intro i h; rw [hg, hg, g_take h]
    clear hg
    generalize hH : (haveM ob l).1 = H at *
    generalize hL : (haveM ob l).2 = last at *
    clear hH hL hb hw
    obtain ⟨T, hT⟩ : ∃ T : Int → Nat → Bool, ∀ k i, T k i = ((l.take i).any fun r => decide (r.o = ob ∧ r.s = k)) := ⟨_, fun _ _ => rfl⟩
    have hT0 : ∀ k, T k 0 = false := by intro k; rw [hT]; rfl
    have hTe : ∀ k, T k l.length = decide (k ∈ H) := by intro k; rw [hT, List.take_length, hth]
    have hTs : ∀ k i (h : i < l.length), T k (i + 1) = (T k i || decide (l[i].o = ob ∧ l[i].s = k)) := by intro k i h; rw [hT, hT, there_take h]
    clear hT hth
    obtain ⟨M, hM⟩ : ∃ M, M = missing l ob n := ⟨_, rfl⟩
    rw [← hM] at t1 hmis
    clear hM
    have hmm : IntKind.wrap .i64 (m.tmod 102) = n + 1 := by
      rw [hn]
      have := hn1
      rw [wrap_in _ (by show (-9223372036854775808 : Int) ≤ _; omega) (by show _ ≤ (9223372036854775807 : Int); omega)]; omega
    replace hn := Hld.mk hn
    replace t1 := Hld.mk t1
    replace hmis := Hld.mk hmis
    replace hgs := Hld.mk hgs
    replace hTs := Hld.mk hTs
    replace hTe := Hld.mk hTe
    replace hge := Hld.mk hge
    replace hlo := Hld.mk hlo
    refine PSpec_of Try.func5 rfl rfl (Nat.le_of_ble_eq_true rfl) (Nat.le_of_ble_eq_true rfl) ?_
    intro E hE
    repeat' (first
      | with_reducible refine useK (by assumption) ?_
      | with_reducible refine useK2 (by assumption) ?_
      | with_reducible refine useX (by assumption) ?_
      | with_reducible refine AW_seqk fun K hK => ?_
      | (with_reducible refine AW_regionS rfl (by rw [hE]; decide) ?_; simp [*])
      | with_reducible refine AW_region (by rw [hE]; decide) ?_
      | ((with_reducible show RK _ _ _ _ _ _); refine RK_nilk ?_; simp [*])
      | ((with_reducible show RK _ _ _ _ _ _); refine RK_stepk fun K' hK' => ?_; simp [*])
      | with_reducible refine AW_drawq mixed (by rw [hE]; decide) (by simp [newOK]) ?_
      | ((with_reducible show RKQ _ _ _ _ _ _); refine RKQ_nilk ⟨by decide, ?_⟩)
      | ((with_reducible show RKQ _ _ _ _ _ _); refine RKQ_stepk fun K' hK' => ?_; simp [*])
      | (with_reducible refine AW_if fun X Y hX hY => ?_; simp [*])
      | with_reducible refine AW_block ?_
      | (with_reducible refine AW_ret ?_; simp [*])
      | (with_reducible refine AW_skip ?_; simp [*])
      | (with_reducible refine AW_exit ?_; simp [*])
      | (refine acall_same (s14) ?_ ?_ ?_; (focus (simp [*] <;> fail)); (focus (simp [*] <;> fail)); simp [*])
      | (refine call_same (s14) ?_ ?_ ?_; (focus (simp [*] <;> fail)); (focus (simp [*] <;> fail)); simp [*])
      | (refine acall_view (s14) ?_ ?_ ?_; (focus (simp [*] <;> fail)); (focus (simp [*] <;> fail)); simp [*])
      | (refine call_view (s14) ?_ ?_ ?_; (focus (simp [*] <;> fail)); (focus (simp [*] <;> fail)); simp [*])
      | with_reducible refine And.intro ?_ ?_
      | omega
      | (refine imp1 fun h => ?_))
    refine AW_loopk (G := Nat) (fun i => ⟨[(10, iA i), (9, iA (g i)), (8, .v (.slice none 0 0)), (7, iA n), (0, .sl 8 (l.map encR)), (1, iA ob)], []⟩)
      (fun i => i ≤ l.length) (fun i => l.length - i) 0 (by simp) (by simp [hg0]) ?_
    intro i hi K hK
    clear hmm hn hg0
    by_cases hlt : i < l.length
    · have hs := hgs.out i hlt
      have hl2 := hlo.out i hlt
      clear hgs hT0 hmis
      by_cases ho : l[i].o = ob
      · rw [if_pos ho] at hs
        replace hs := Hld.mk hs
        repeat' (first
          | with_reducible refine useK (by assumption) ?_
          | with_reducible refine useK2 (by assumption) ?_
          | with_reducible refine useX (by assumption) ?_
          | with_reducible refine AW_seqk fun K hK => ?_
          | (with_reducible refine AW_regionS rfl (by rw [hE]; decide) ?_; simp [*])
          | with_reducible refine AW_region (by rw [hE]; decide) ?_
          | ((with_reducible show RK _ _ _ _ _ _); refine RK_nilk ?_; simp [*])
          | ((with_reducible show RK _ _ _ _ _ _); refine RK_stepk fun K' hK' => ?_; simp [*])
          | with_reducible refine AW_drawq mixed (by rw [hE]; decide) (by simp [newOK]) ?_
          | ((with_reducible show RKQ _ _ _ _ _ _); refine RKQ_nilk ⟨by decide, ?_⟩)
          | ((with_reducible show RKQ _ _ _ _ _ _); refine RKQ_stepk fun K' hK' => ?_; simp [*])
          | (with_reducible refine AW_if fun X Y hX hY => ?_; simp [*])
          | with_reducible refine AW_block ?_
          | (with_reducible refine AW_ret ?_; simp [*])
          | (with_reducible refine AW_skip ?_; simp [*])
          | (with_reducible refine AW_exit ?_; simp [*])
          | with_reducible refine And.intro ?_ ?_
          | omega
          | (refine imp1 fun h => ?_))
        all_goals exact ⟨i + 1, by omega, by omega, by simp [hs.out]⟩
      · rw [if_neg ho] at hs
        replace hs := Hld.mk hs
        repeat' (first
          | with_reducible refine useK (by assumption) ?_
          | with_reducible refine useK2 (by assumption) ?_
          | with_reducible refine useX (by assumption) ?_
          | with_reducible refine AW_seqk fun K hK => ?_
          | (with_reducible refine AW_regionS rfl (by rw [hE]; decide) ?_; simp [*])
          | with_reducible refine AW_region (by rw [hE]; decide) ?_
          | ((with_reducible show RK _ _ _ _ _ _); refine RK_nilk ?_; simp [*])
          | ((with_reducible show RK _ _ _ _ _ _); refine RK_stepk fun K' hK' => ?_; simp [*])
          | with_reducible refine AW_drawq mixed (by rw [hE]; decide) (by simp [newOK]) ?_
          | ((with_reducible show RKQ _ _ _ _ _ _); refine RKQ_nilk ⟨by decide, ?_⟩)
          | ((with_reducible show RKQ _ _ _ _ _ _); refine RKQ_stepk fun K' hK' => ?_; simp [*])
          | (with_reducible refine AW_if fun X Y hX hY => ?_; simp [*])
          | with_reducible refine AW_block ?_
          | (with_reducible refine AW_ret ?_; simp [*])
          | (with_reducible refine AW_skip ?_; simp [*])
          | (with_reducible refine AW_exit ?_; simp [*])
          | with_reducible refine And.intro ?_ ?_
          | omega
          | (refine imp1 fun h => ?_))
        all_goals exact ⟨i + 1, by omega, by omega, by simp [hs.out]⟩
    · obtain rfl : i = l.length := by omega
      rw [hge.out]
      clear hge hgs
      repeat' (first
        | with_reducible refine useK (by assumption) ?_
        | with_reducible refine useK2 (by assumption) ?_
        | with_reducible refine useX (by assumption) ?_
        | with_reducible refine AW_seqk fun K hK => ?_
        | (with_reducible refine AW_regionS rfl (by rw [hE]; decide) ?_; simp [*])
        | with_reducible refine AW_region (by rw [hE]; decide) ?_
        | ((with_reducible show RK _ _ _ _ _ _); refine RK_nilk ?_; simp [*])
        | ((with_reducible show RK _ _ _ _ _ _); refine RK_stepk fun K' hK' => ?_; simp [*])
        | with_reducible refine AW_drawq mixed (by rw [hE]; decide) (by simp [newOK]) ?_
        | ((with_reducible show RKQ _ _ _ _ _ _); refine RKQ_nilk ⟨by decide, ?_⟩)
        | ((with_reducible show RKQ _ _ _ _ _ _); refine RKQ_stepk fun K' hK' => ?_; simp [*])
        | (with_reducible refine AW_if fun X Y hX hY => ?_; simp [*])
        | with_reducible refine AW_block ?_
        | (with_reducible refine AW_ret ?_; simp [*])
        | (with_reducible refine AW_skip ?_; simp [*])
        | (with_reducible refine AW_exit ?_; simp [*])
        | with_reducible refine And.intro ?_ ?_
        | omega
        | (refine imp1 fun h => ?_))
      refine AW_mkrow 8 60 3 1 (by simp) (by simp) (by simp) (by omega) ?_
      refine AW_loopk (G := Int × List Int) (fun p => ⟨[(11, iA p.1), (9, iA last), (8, .own 60 1 0 p.2.length), (7, iA n), (0, .sl 8 (l.map encR)), (1, iA ob)], [(60, .arr 3 1 (p.2.map iA))]⟩)
        (fun p => 0 ≤ p.1 ∧ (p.1 ≤ last ∨ p.1 = 0) ∧ p.2.length ≤ 101 ∧ missL H last n (last + 1 - p.1).toNat p.1 p.2 = M) (fun p => (last - p.1).toNat) (0, []) ⟨by omega, .inr rfl, by simp, by simpa using hmis.out⟩ (by simp) ?_
      rintro ⟨k, out⟩ ⟨hk0, hk1, hlen, heq⟩ K hK
      simp only at hk0 hk1 hlen heq
      clear hmis
      by_cases hc1 : k < last
      · by_cases hc2 : (out.length : Int) < n
        · have hnext : missL H last n (last + 1 - (k + 1)).toNat (k + 1) (if k ∈ H then out else out ++ [k]) = M := by
            rw [← heq, show (last + 1 - k).toNat = (last + 1 - (k + 1)).toNat + 1 by omega, missL, if_pos (show k < last ∧ (out.length : Int) < n from ⟨hc1, hc2⟩)]
          clear heq
          replace hnext := Hld.mk hnext
          have hT0k := hT0 k
          clear hT0
          repeat' (first
            | with_reducible refine useK (by assumption) ?_
            | with_reducible refine useK2 (by assumption) ?_
            | with_reducible refine useX (by assumption) ?_
            | with_reducible refine AW_seqk fun K hK => ?_
            | (with_reducible refine AW_regionS rfl (by rw [hE]; decide) ?_; simp [*])
            | with_reducible refine AW_region (by rw [hE]; decide) ?_
            | ((with_reducible show RK _ _ _ _ _ _); refine RK_nilk ?_; simp [*])
            | ((with_reducible show RK _ _ _ _ _ _); refine RK_stepk fun K' hK' => ?_; simp [*])
            | with_reducible refine AW_drawq mixed (by rw [hE]; decide) (by simp [newOK]) ?_
            | ((with_reducible show RKQ _ _ _ _ _ _); refine RKQ_nilk ⟨by decide, ?_⟩)
            | ((with_reducible show RKQ _ _ _ _ _ _); refine RKQ_stepk fun K' hK' => ?_; simp [*])
            | (with_reducible refine AW_if fun X Y hX hY => ?_; simp [*])
            | with_reducible refine AW_block ?_
            | (with_reducible refine AW_ret ?_; simp [*])
            | (with_reducible refine AW_skip ?_; simp [*])
            | (with_reducible refine AW_exit ?_; simp [*])
            | with_reducible refine And.intro ?_ ?_
            | omega
            | (refine imp1 fun h => ?_))
          refine AW_loopk (G := Nat) (fun i => ⟨[(13, iA i), (12, bA (T k i)), (11, iA k), (9, iA last), (8, .own 60 1 0 out.length), (7, iA n), (0, .sl 8 (l.map encR)), (1, iA ob)], [(60, .arr 3 1 (out.map iA))]⟩)
            (fun i => i ≤ l.length) (fun i => l.length - i) 0 (by simp) (by simp [hT0k]) ?_
          intro i hi K hK
          clear hT0k
          by_cases hlt : i < l.length
          · have hs := hTs.out k i hlt
            clear hTs
            cases hti : T k i with
            | true =>
              rw [hti] at hs
              replace hs := Hld.mk hs
              repeat' (first
                | with_reducible refine useK (by assumption) ?_
                | with_reducible refine useK2 (by assumption) ?_
                | with_reducible refine useX (by assumption) ?_
                | with_reducible refine AW_seqk fun K hK => ?_
                | (with_reducible refine AW_regionS rfl (by rw [hE]; decide) ?_; simp [*])
                | with_reducible refine AW_region (by rw [hE]; decide) ?_
                | ((with_reducible show RK _ _ _ _ _ _); refine RK_nilk ?_; simp [*])
                | ((with_reducible show RK _ _ _ _ _ _); refine RK_stepk fun K' hK' => ?_; simp [*])
                | with_reducible refine AW_drawq mixed (by rw [hE]; decide) (by simp [newOK]) ?_
                | ((with_reducible show RKQ _ _ _ _ _ _); refine RKQ_nilk ⟨by decide, ?_⟩)
                | ((with_reducible show RKQ _ _ _ _ _ _); refine RKQ_stepk fun K' hK' => ?_; simp [*])
                | (with_reducible refine AW_if fun X Y hX hY => ?_; simp [*])
                | with_reducible refine AW_block ?_
                | (with_reducible refine AW_ret ?_; simp [*])
                | (with_reducible refine AW_skip ?_; simp [*])
                | (with_reducible refine AW_exit ?_; simp [*])
                | with_reducible refine And.intro ?_ ?_
                | omega
                | (refine imp1 fun h => ?_))
              all_goals exact ⟨i + 1, by omega, by omega, by simp [hs.out]⟩
            | false =>
              rw [hti] at hs
              by_cases ho : l[i].o = ob
              · by_cases hq : l[i].s = k
                · simp [ho, hq] at hs
                  replace hs := Hld.mk hs
                  repeat' (first
                    | with_reducible refine useK (by assumption) ?_
                    | with_reducible refine useK2 (by assumption) ?_
                    | with_reducible refine useX (by assumption) ?_
                    | with_reducible refine AW_seqk fun K hK => ?_
                    | (with_reducible refine AW_regionS rfl (by rw [hE]; decide) ?_; simp [*])
                    | with_reducible refine AW_region (by rw [hE]; decide) ?_
                    | ((with_reducible show RK _ _ _ _ _ _); refine RK_nilk ?_; simp [*])
                    | ((with_reducible show RK _ _ _ _ _ _); refine RK_stepk fun K' hK' => ?_; simp [*])
                    | with_reducible refine AW_drawq mixed (by rw [hE]; decide) (by simp [newOK]) ?_
                    | ((with_reducible show RKQ _ _ _ _ _ _); refine RKQ_nilk ⟨by decide, ?_⟩)
                    | ((with_reducible show RKQ _ _ _ _ _ _); refine RKQ_stepk fun K' hK' => ?_; simp [*])
                    | (with_reducible refine AW_if fun X Y hX hY => ?_; simp [*])
                    | with_reducible refine AW_block ?_
                    | (with_reducible refine AW_ret ?_; simp [*])
                    | (with_reducible refine AW_skip ?_; simp [*])
                    | (with_reducible refine AW_exit ?_; simp [*])
                    | with_reducible refine And.intro ?_ ?_
                    | omega
                    | (refine imp1 fun h => ?_))
                  all_goals exact ⟨i + 1, by omega, by omega, by simp [hs.out]⟩
                · simp [ho, hq] at hs
                  replace hs := Hld.mk hs
                  repeat' (first
                    | with_reducible refine useK (by assumption) ?_
                    | with_reducible refine useK2 (by assumption) ?_
                    | with_reducible refine useX (by assumption) ?_
                    | with_reducible refine AW_seqk fun K hK => ?_
                    | (with_reducible refine AW_regionS rfl (by rw [hE]; decide) ?_; simp [*])
                    | with_reducible refine AW_region (by rw [hE]; decide) ?_
                    | ((with_reducible show RK _ _ _ _ _ _); refine RK_nilk ?_; simp [*])
                    | ((with_reducible show RK _ _ _ _ _ _); refine RK_stepk fun K' hK' => ?_; simp [*])
                    | with_reducible refine AW_drawq mixed (by rw [hE]; decide) (by simp [newOK]) ?_
                    | ((with_reducible show RKQ _ _ _ _ _ _); refine RKQ_nilk ⟨by decide, ?_⟩)
                    | ((with_reducible show RKQ _ _ _ _ _ _); refine RKQ_stepk fun K' hK' => ?_; simp [*])
                    | (with_reducible refine AW_if fun X Y hX hY => ?_; simp [*])
                    | with_reducible refine AW_block ?_
                    | (with_reducible refine AW_ret ?_; simp [*])
                    | (with_reducible refine AW_skip ?_; simp [*])
                    | (with_reducible refine AW_exit ?_; simp [*])
                    | with_reducible refine And.intro ?_ ?_
                    | omega
                    | (refine imp1 fun h => ?_))
                  all_goals exact ⟨i + 1, by omega, by omega, by simp [hs.out]⟩
              · simp [ho] at hs
                replace hs := Hld.mk hs
                repeat' (first
                  | with_reducible refine useK (by assumption) ?_
                  | with_reducible refine useK2 (by assumption) ?_
                  | with_reducible refine useX (by assumption) ?_
                  | with_reducible refine AW_seqk fun K hK => ?_
                  | (with_reducible refine AW_regionS rfl (by rw [hE]; decide) ?_; simp [*])
                  | with_reducible refine AW_region (by rw [hE]; decide) ?_
                  | ((with_reducible show RK _ _ _ _ _ _); refine RK_nilk ?_; simp [*])
                  | ((with_reducible show RK _ _ _ _ _ _); refine RK_stepk fun K' hK' => ?_; simp [*])
                  | with_reducible refine AW_drawq mixed (by rw [hE]; decide) (by simp [newOK]) ?_
                  | ((with_reducible show RKQ _ _ _ _ _ _); refine RKQ_nilk ⟨by decide, ?_⟩)
                  | ((with_reducible show RKQ _ _ _ _ _ _); refine RKQ_stepk fun K' hK' => ?_; simp [*])
                  | (with_reducible refine AW_if fun X Y hX hY => ?_; simp [*])
                  | with_reducible refine AW_block ?_
                  | (with_reducible refine AW_ret ?_; simp [*])
                  | (with_reducible refine AW_skip ?_; simp [*])
                  | (with_reducible refine AW_exit ?_; simp [*])
                  | with_reducible refine And.intro ?_ ?_
                  | omega
                  | (refine imp1 fun h => ?_))
                all_goals exact ⟨i + 1, by omega, by omega, by simp [hs.out]⟩
          · obtain rfl : i = l.length := by omega
            rw [hTe.out]
            clear hTs hTe
            by_cases hm : k ∈ H
            · have hnx := hnext.out
              rw [if_pos hm] at hnx
              replace hnx := Hld.mk hnx
              clear hnext
              repeat' (first
                | with_reducible refine useK (by assumption) ?_
                | with_reducible refine useK2 (by assumption) ?_
                | with_reducible refine useX (by assumption) ?_
                | with_reducible refine AW_seqk fun K hK => ?_
                | (with_reducible refine AW_regionS rfl (by rw [hE]; decide) ?_; simp [*])
                | with_reducible refine AW_region (by rw [hE]; decide) ?_
                | ((with_reducible show RK _ _ _ _ _ _); refine RK_nilk ?_; simp [*])
                | ((with_reducible show RK _ _ _ _ _ _); refine RK_stepk fun K' hK' => ?_; simp [*])
                | with_reducible refine AW_drawq mixed (by rw [hE]; decide) (by simp [newOK]) ?_
                | ((with_reducible show RKQ _ _ _ _ _ _); refine RKQ_nilk ⟨by decide, ?_⟩)
                | ((with_reducible show RKQ _ _ _ _ _ _); refine RKQ_stepk fun K' hK' => ?_; simp [*])
                | (with_reducible refine AW_if fun X Y hX hY => ?_; simp [*])
                | with_reducible refine AW_block ?_
                | (with_reducible refine AW_ret ?_; simp [*])
                | (with_reducible refine AW_skip ?_; simp [*])
                | (with_reducible refine AW_exit ?_; simp [*])
                | with_reducible refine And.intro ?_ ?_
                | omega
                | (refine imp1 fun h => ?_))
              all_goals exact ⟨(k + 1, out), ⟨by simp only; omega, by simp only; omega, hlen, hnx.out⟩, by simp only; omega, by simp⟩
            · have hnx := hnext.out
              rw [if_neg hm] at hnx
              replace hnx := Hld.mk hnx
              clear hnext
              repeat' (first
                | with_reducible refine useK (by assumption) ?_
                | with_reducible refine useK2 (by assumption) ?_
                | with_reducible refine useX (by assumption) ?_
                | with_reducible refine AW_seqk fun K hK => ?_
                | (with_reducible refine AW_regionS rfl (by rw [hE]; decide) ?_; simp [*])
                | with_reducible refine AW_region (by rw [hE]; decide) ?_
                | ((with_reducible show RK _ _ _ _ _ _); refine RK_nilk ?_; simp [*])
                | ((with_reducible show RK _ _ _ _ _ _); refine RK_stepk fun K' hK' => ?_; simp [*])
                | with_reducible refine AW_drawq mixed (by rw [hE]; decide) (by simp [newOK]) ?_
                | ((with_reducible show RKQ _ _ _ _ _ _); refine RKQ_nilk ⟨by decide, ?_⟩)
                | ((with_reducible show RKQ _ _ _ _ _ _); refine RKQ_stepk fun K' hK' => ?_; simp [*])
                | (with_reducible refine AW_if fun X Y hX hY => ?_; simp [*])
                | with_reducible refine AW_block ?_
                | (with_reducible refine AW_ret ?_; simp [*])
                | (with_reducible refine AW_skip ?_; simp [*])
                | (with_reducible refine AW_exit ?_; simp [*])
                | with_reducible refine And.intro ?_ ?_
                | omega
                | (refine imp1 fun h => ?_))
              all_goals exact ⟨(k + 1, out ++ [k]), ⟨by simp only; omega, by simp only; omega, by simp; omega, hnx.out⟩, by simp only; omega, by simp⟩
        · have hend : out = M := by
            rw [← heq]
            cases (last + 1 - k).toNat with
            | zero => rfl
            | succ f => rw [missL, if_neg (fun h => hc2 h.2)]
          subst hend
          clear heq
          repeat' (first
            | with_reducible refine useK (by assumption) ?_
            | with_reducible refine useK2 (by assumption) ?_
            | with_reducible refine useX (by assumption) ?_
            | with_reducible refine AW_seqk fun K hK => ?_
            | (with_reducible refine AW_regionS rfl (by rw [hE]; decide) ?_; simp [*])
            | with_reducible refine AW_region (by rw [hE]; decide) ?_
            | ((with_reducible show RK _ _ _ _ _ _); refine RK_nilk ?_; simp [*])
            | ((with_reducible show RK _ _ _ _ _ _); refine RK_stepk fun K' hK' => ?_; simp [*])
            | with_reducible refine AW_drawq mixed (by rw [hE]; decide) (by simp [newOK]) ?_
            | ((with_reducible show RKQ _ _ _ _ _ _); refine RKQ_nilk ⟨by decide, ?_⟩)
            | ((with_reducible show RKQ _ _ _ _ _ _); refine RKQ_stepk fun K' hK' => ?_; simp [*])
            | (with_reducible refine AW_if fun X Y hX hY => ?_; simp [*])
            | with_reducible refine AW_block ?_
            | (with_reducible refine AW_ret ?_; simp [*])
            | (with_reducible refine AW_skip ?_; simp [*])
            | (with_reducible refine AW_exit ?_; simp [*])
            | (refine acall_same (t1.out) ?_ ?_ ?_; (focus (simp [*] <;> fail)); (focus (simp [*] <;> fail)); simp [*])
            | (refine call_same (t1.out) ?_ ?_ ?_; (focus (simp [*] <;> fail)); (focus (simp [*] <;> fail)); simp [*])
            | (refine acall_view (t1.out) ?_ ?_ ?_; (focus (simp [*] <;> fail)); (focus (simp [*] <;> fail)); simp [*])
            | (refine call_view (t1.out) ?_ ?_ ?_; (focus (simp [*] <;> fail)); (focus (simp [*] <;> fail)); simp [*])
            | (refine acall_same (s23 out out (by omega)) ?_ ?_ ?_; (focus (simp [*] <;> fail)); (focus (simp [*] <;> fail)); simp [*])
            | (refine call_same (s23 out out (by omega)) ?_ ?_ ?_; (focus (simp [*] <;> fail)); (focus (simp [*] <;> fail)); simp [*])
            | (refine acall_view (s23 out out (by omega)) ?_ ?_ ?_; (focus (simp [*] <;> fail)); (focus (simp [*] <;> fail)); simp [*])
            | (refine call_view (s23 out out (by omega)) ?_ ?_ ?_; (focus (simp [*] <;> fail)); (focus (simp [*] <;> fail)); simp [*])
            | with_reducible refine And.intro ?_ ?_
            | omega
            | (refine imp1 fun h => ?_))
      · have hend : out = M := by
          rw [← heq]
          cases (last + 1 - k).toNat with
          | zero => rfl
          | succ f => rw [missL, if_neg (fun h => hc1 h.1)]
        subst hend
        clear heq
        repeat' (first
          | with_reducible refine useK (by assumption) ?_
          | with_reducible refine useK2 (by assumption) ?_
          | with_reducible refine useX (by assumption) ?_
          | with_reducible refine AW_seqk fun K hK => ?_
          | (with_reducible refine AW_regionS rfl (by rw [hE]; decide) ?_; simp [*])
          | with_reducible refine AW_region (by rw [hE]; decide) ?_
          | ((with_reducible show RK _ _ _ _ _ _); refine RK_nilk ?_; simp [*])
          | ((with_reducible show RK _ _ _ _ _ _); refine RK_stepk fun K' hK' => ?_; simp [*])
          | with_reducible refine AW_drawq mixed (by rw [hE]; decide) (by simp [newOK]) ?_
          | ((with_reducible show RKQ _ _ _ _ _ _); refine RKQ_nilk ⟨by decide, ?_⟩)
          | ((with_reducible show RKQ _ _ _ _ _ _); refine RKQ_stepk fun K' hK' => ?_; simp [*])
          | (with_reducible refine AW_if fun X Y hX hY => ?_; simp [*])
          | with_reducible refine AW_block ?_
          | (with_reducible refine AW_ret ?_; simp [*])
          | (with_reducible refine AW_skip ?_; simp [*])
          | (with_reducible refine AW_exit ?_; simp [*])
          | (refine acall_same (t1.out) ?_ ?_ ?_; (focus (simp [*] <;> fail)); (focus (simp [*] <;> fail)); simp [*])
          | (refine call_same (t1.out) ?_ ?_ ?_; (focus (simp [*] <;> fail)); (focus (simp [*] <;> fail)); simp [*])
          | (refine acall_view (t1.out) ?_ ?_ ?_; (focus (simp [*] <;> fail)); (focus (simp [*] <;> fail)); simp [*])
          | (refine call_view (t1.out) ?_ ?_ ?_; (focus (simp [*] <;> fail)); (focus (simp [*] <;> fail)); simp [*])
          | (refine acall_same (s23 out out (by omega)) ?_ ?_ ?_; (focus (simp [*] <;> fail)); (focus (simp [*] <;> fail)); simp [*])
          | (refine call_same (s23 out out (by omega)) ?_ ?_ ?_; (focus (simp [*] <;> fail)); (focus (simp [*] <;> fail)); simp [*])
          | (refine acall_view (s23 out out (by omega)) ?_ ?_ ?_; (focus (simp [*] <;> fail)); (focus (simp [*] <;> fail)); simp [*])
          | (refine call_view (s23 out out (by omega)) ?_ ?_ ?_; (focus (simp [*] <;> fail)); (focus (simp [*] <;> fail)); simp [*])
          | with_reducible refine And.intro ?_ ?_
          | omega
          | (refine imp1 fun h => ?_))
  · refine PSpec_of Try.func5 rfl rfl (Nat.le_of_ble_eq_true rfl) (Nat.le_of_ble_eq_true rfl) ?_
    intro E hE
    repeat' (first
      | with_reducible refine useK (by assumption) ?_
      | with_reducible refine useK2 (by assumption) ?_
      | with_reducible refine useX (by assumption) ?_
      | with_reducible refine AW_seqk fun K hK => ?_
      | (with_reducible refine AW_regionS rfl (by rw [hE]; decide) ?_; simp [*])
      | with_reducible refine AW_region (by rw [hE]; decide) ?_
      | ((with_reducible show RK _ _ _ _ _ _); refine RK_nilk ?_; simp [*])
      | ((with_reducible show RK _ _ _ _ _ _); refine RK_stepk fun K' hK' => ?_; simp [*])
      | with_reducible refine AW_drawq mixed (by rw [hE]; decide) (by simp [newOK]) ?_
      | ((with_reducible show RKQ _ _ _ _ _ _); refine RKQ_nilk ⟨by decide, ?_⟩)
      | ((with_reducible show RKQ _ _ _ _ _ _); refine RKQ_stepk fun K' hK' => ?_; simp [*])
      | (with_reducible refine AW_if fun X Y hX hY => ?_; simp [*])
      | with_reducible refine AW_block ?_
      | (with_reducible refine AW_ret ?_; simp [*])
      | (with_reducible refine AW_skip ?_; simp [*])
      | (with_reducible refine AW_exit ?_; simp [*])
      | (refine acall_same (s14) ?_ ?_ ?_; (focus (simp [*] <;> fail)); (focus (simp [*] <;> fail)); simp [*])
      | (refine call_same (s14) ?_ ?_ ?_; (focus (simp [*] <;> fail)); (focus (simp [*] <;> fail)); simp [*])
      | (refine acall_view (s14) ?_ ?_ ?_; (focus (simp [*] <;> fail)); (focus (simp [*] <;> fail)); simp [*])
      | (refine call_view (s14) ?_ ?_ ?_; (focus (simp [*] <;> fail)); (focus (simp [*] <;> fail)); simp [*])
      | with_reducible refine And.intro ?_ ?_
      | omega
      | (refine imp1 fun h => ?_))
theorem spec (avs : List AV) (h : ShapeL Try.prog 6 Try.f5.params.toList avs) : PSpec Try.prog 5 avs (.v (.bool true)) := by
  rw [Try.params5] at h
  obtain ⟨c1, r1, rfl, h1, c2, r2, rfl, h2, c3, r3, rfl, h3, rfl⟩ := h
  obtain ⟨a, ha, hw, -⟩ := avRs h1
  obtain ⟨b, hb, -⟩ := avI h2
  obtain ⟨c, hc, hc0, hc1⟩ := avB h3
  rw [ha, hb, hc]
  exact s a b c hw hc0 hc1
theorem contract (H : Type) (enc : TypeId × Value → H) (W : World) (base : Nat) (args : Array Value) (ds gs : List (DataW H)) (before : List MemPlace)
    (hval : ∀ (j : Nat) t v, Try.f5.params[j]? = some t → args[j]? = some v → Value.okWide Try.prog W .any base t v)
    (hW : DataW.Whole enc Try.prog Try.f5.params.toList Rows.reportMissesSpec.vars false W args.toList ds gs before) :
    Calls Try.prog 5 args W fun e W' => ∃ v, e = .returned v ∧ Rows.reportMissesSpec.post enc Try.prog Try.f5 false true false false W args v W' :=
  law_contract (m := 6) (tb := 4) spec (by rw [Try.params5]; intro t ht; simp at ht; rcases ht with rfl | rfl | rfl <;> kernel_rfl) rfl laidK
    (by rw [Try.params5]; intro t ht; simp at ht; rcases ht with rfl | rfl | rfl <;> exact ⟨by kernel_rfl, by decide +kernel⟩)
    (fun ds hd => by
      rw [Try.params5] at hd
      match ds, hd with
      | [d1, d2, d3], _ => rfl) (by kernel_rfl) Try.underlying4 hval hW
theorem lifted (os : Os) (started : os.Started) (H : Type) (enc : TypeId × Value → H) :
    ReturnsInHanded {} Try.checked os 5 .any (Rows.reportMissesSpec.pre6 enc Try.prog Try.f5 Rows.reportMissesRow.domain false) (Rows.reportMissesSpec.post enc Try.prog Try.f5 false true false false) := by
  refine returnsInHanded_of_change (C := Try.checked) ownK started (by kernel_rfl) Try.func5
    (ChangeSpec.witness6 (enc := enc) (C := Try.checked) false ⟨#[], #[.slice .none 0 0, .int .i64 0, .int .u8 0], []⟩ 8 (by kernel_rfl) (by kernel_rfl) (by kernel_rfl) (by kernel_rfl)) ?_
  intro W base args ds gs before hval hW hcnd _
  exact contract H enc W base args ds gs before hval hW
theorem said : Rows.ReportMissesSaid :=
  OpenClaim.holds_of_wide 5 Try.f5 rfl rfl rfl rfl rfl rfl rfl ⟨rfl, rfl, rfl, rfl, rfl⟩ rfl rfl rfl rfl rfl (by kernel_rfl) Try.func5 (by kernel_rfl)
    (of_decide_eq_true (by kernel_rfl)) (by unfold Func.isWrapper; first | (rw [if_pos (by decide +kernel)]; kernel_rfl) | (rw [if_neg (by decide +kernel)]; exact ⟨rfl, rfl⟩))
    (fun os started H enc _ => lifted os started H enc)
end L5
end Go.Proofs.Ytmjckbokjjnmeaa
