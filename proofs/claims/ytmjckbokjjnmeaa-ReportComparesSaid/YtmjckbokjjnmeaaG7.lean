/- Changed. -/
import Derived.Test.YtmjckbokjjnmeaaG6
set_option maxRecDepth 100000
namespace Go.Proofs.Ytmjckbokjjnmeaa
open Go.Am

theorem w52 (l : List Int) (n : Nat) (hn : l.length = n) (hl : n ≤ 1000000000) : MSpec Try.prog 52 [.own 1000000 1 0 n] [(1000000, .arr 3 1 (l.map iA))] (fun res bf => res = .tup [] ∧ bf 1000000 = some (.arr 3 1 ((sortZ l).map iA))) := by
  subst hn
  exact sortInts_m Try.sortInts (f := 52) rfl (ent_of Try.func52 (by kernel_rfl) rfl) 3 l (by omega)
theorem sortZ_len (l : List Int) : (sortZ l).length = l.length := List.length_mergeSort l
theorem cntR_SS (l : List R) : SS (cntR l) := setR_SS _
def allD (a b : List R) : List Int := difR (cntR b) (cntR a) ++ difR (cntR a) (cntR b)
def chgR (a b : List R) : List Int := ddI (sortZ (allD a b))
theorem r35 (a b : List R) (ha : a.length ≤ 10000000) (hb : b.length ≤ 10000000) : RSpec Try.prog 35 [.sl 8 (a.map encR), .sl 8 (b.map encR)] 3 1 ((chgR a b).map iA) := by
  have hca := cntR_len a
  have hcb := cntR_len b
  have h1 := difR_len (cntR b) (cntR a)
  have h2 := difR_len (cntR a) (cntR b)
  refine MSpec_of Try.func35 rfl rfl (Nat.le_of_ble_eq_true rfl) (Nat.le_of_ble_eq_true rfl) ?_
  intro E hE
  refine AW_seqk fun K hK => ?_
  refine AW_region (by rw [hE]; decide) ?_
  simp
  refine useK (by assumption) ?_
  refine AW_seqk fun K hK => ?_
  refine AW_region (by rw [hE]; decide) ?_
  simp
  refine acall_row (r18' a (by omega)) (by simp) (.inl (by simp)) (by simp) ?_
  simp
  refine acall_row (r18' b (by omega)) (by simp) (.inl (by simp)) (by simp) ?_
  simp
  refine useK (by assumption) ?_
  refine AW_freeze 10 (t := ⟨[(5, .sl 8 ((cntR a).map encR)), (6, .own 12 8 0 (cntR b).length), (4, .v (.slice none 0 0))], [(12, .arr 23 8 ((cntR b).map encR))]⟩) rfl (by simp) (by simp) ?_
  refine AW_freeze 12 (t := ⟨[(5, .sl 8 ((cntR a).map encR)), (6, .sl 8 ((cntR b).map encR)), (4, .v (.slice none 0 0))], []⟩) rfl (by simp) (by simp) ?_
  refine AW_seqk fun K hK => ?_
  refine AW_region (by rw [hE]; decide) ?_
  simp
  refine useK (by assumption) ?_
  refine AW_mkrowB 7 61 3 1 33 rfl (by simp) (by simp) (by omega) ?_
  refine AW_seqk fun K hK => ?_
  refine AW_region (by rw [hE]; decide) ?_
  simp
  refine useK (by assumption) ?_
  refine AW_seqk fun K hK => ?_
  refine AW_region (by rw [hE]; decide) ?_
  simp
  refine acall_boxes (m50 (cntR a) (cntR b) [] (cntR_SS b) (by omega) (by omega) (by simp)) (nm [(1000000, 7), (1000001, 61)]) (nm [(1000000, 7), (60, 62)])
    [(1000000, .box 33 (.own 60 1 0 ([] ++ difR (cntR b) (cntR a)).length)), (60, .arr 3 1 (([] ++ difR (cntR b) (cntR a)).map iA))] (.tup []) (by simp) (by simp) (by simp) (by simp) (by simp) (by simp) (by simp) (by simp) ?_
  simp
  refine useK (by assumption) ?_
  refine AW_seqk fun K hK => ?_
  refine AW_region (by rw [hE]; decide) ?_
  simp
  refine acall_boxes (m50 (cntR b) (cntR a) (difR (cntR b) (cntR a)) (cntR_SS a) (by omega) (by omega) (by omega)) (nm [(1000000, 7), (1000001, 62)]) (nm [(1000000, 7), (60, 63)])
    [(1000000, .box 33 (.own 60 1 0 (allD a b).length)), (60, .arr 3 1 ((allD a b).map iA))] (.tup []) (by simp [allD]) (by simp) (by simp) (by simp) (by simp) (by simp) (by simp) (by simp) ?_
  simp
  refine useK (by assumption) ?_
  have h3 : (allD a b).length ≤ 1000000000 := by unfold allD; rw [List.length_append]; omega
  have h4 : (sortZ (allD a b)).length ≤ 1000000000 := by rw [sortZ_len]; exact h3
  have h5 : (allD a b).length = (sortZ (allD a b)).length := (sortZ_len _).symm
  refine AW_seqk fun K hK => ?_
  refine AW_region (by rw [hE]; decide) ?_
  simp
  refine acall_mrow (w52 (allD a b) _ rfl h3) (by simp) (by simp) (by simp) (by simp) (by simp) ?_
  simp
  refine useK (by assumption) ?_
  refine AW_seqk fun K hK => ?_
  refine AW_region (by rw [hE]; decide) ?_
  simp
  refine acall_mrow (w47 (sortZ (allD a b)) _ h5.symm h3) (by simp) (by simp) (by simp) (by simp) (by simp) ?_
  simp
  refine useK (by assumption) ?_
  repeat' (first
    | with_reducible refine useK (by assumption) ?_
    | with_reducible refine useK2 (by assumption) ?_
    | with_reducible refine useX (by assumption) ?_
    | with_reducible refine AW_seqk fun K hK => ?_
    | (with_reducible refine AW_regionS rfl (by rw [hE]; decide) ?_; simp [*])
    | with_reducible refine AW_region (by rw [hE]; decide) ?_
    | ((with_reducible show RK _ _ _ _ _ _); refine RK_nilk ?_; simp [*])
    | ((with_reducible show RK _ _ _ _ _ _); refine RK_stepk fun K' hK' => ?_; simp [*])
    | with_reducible refine AW_drawq mixed (by rw [hE]; decide) (by simp [newOK]) ?_
    | ((with_reducible show RKQ _ _ _ _ _ _); refine RKQ_nilk ⟨by decide, ?_⟩)
    | ((with_reducible show RKQ _ _ _ _ _ _); refine RKQ_stepk fun K' hK' => ?_; simp [*])
    | (with_reducible refine AW_if fun X Y hX hY => ?_; simp [*])
    | with_reducible refine AW_block ?_
    | (with_reducible refine AW_ret ?_; simp [*])
    | (with_reducible refine AW_skip ?_; simp [*])
    | (with_reducible refine AW_exit ?_; simp [*])
    | with_reducible refine And.intro ?_ ?_
    | omega
    | (refine imp1 fun h => ?_))
  exact ⟨63, ⟨rfl, rfl⟩, _, rfl, take_len iA _⟩
end Go.Proofs.Ytmjckbokjjnmeaa
