/- Concat, Union. -/
import Derived.Test.YtmjckbokjjnmeaaG1
set_option maxRecDepth 100000
namespace Go.Proofs.Ytmjckbokjjnmeaa
open Go.Am

theorem r56 (n : Nat) (hn : n ≤ 1000000000) : RSpec Try.prog 56 [.v (.slice none 0 0), iA n] 23 8 [] := by
  refine MSpec_of Try.func56 rfl rfl (Nat.le_of_ble_eq_true rfl) (Nat.le_of_ble_eq_true rfl) ?_
  intro E hE
  repeat' (first
    | with_reducible refine useK (by assumption) ?_
    | with_reducible refine useK2 (by assumption) ?_
    | with_reducible refine useX (by assumption) ?_
    | with_reducible refine AW_seqk fun K hK => ?_
    | (with_reducible refine AW_regionS rfl (by rw [hE]; decide) ?_; simp [*])
    | with_reducible refine AW_region (by rw [hE]; decide) ?_
    | ((with_reducible show RK _ _ _ _ _ _); refine RK_nilk ?_; simp [*])
    | ((with_reducible show RK _ _ _ _ _ _); refine RK_stepk fun K' hK' => ?_; simp [*])
    | with_reducible refine AW_drawq mixed (by rw [hE]; decide) (by simp [newOK]) ?_
    | ((with_reducible show RKQ _ _ _ _ _ _); refine RKQ_nilk ⟨by decide, ?_⟩)
    | ((with_reducible show RKQ _ _ _ _ _ _); refine RKQ_stepk fun K' hK' => ?_; simp [*])
    | (with_reducible refine AW_if fun X Y hX hY => ?_; simp [*])
    | with_reducible refine AW_block ?_
    | (with_reducible refine AW_ret ?_; simp [*])
    | (with_reducible refine AW_skip ?_; simp [*])
    | (with_reducible refine AW_exit ?_; simp [*])
    | with_reducible refine And.intro ?_ ?_
    | omega
    | (refine imp1 fun h => ?_))

def catR (ls : List (List R)) : List R := ls.flatten
theorem cat_take {ls : List (List R)} {i : Nat} (h : i < ls.length) : catR (ls.take (i + 1)) = catR (ls.take i) ++ ls[i] := by
  unfold catR
  rw [List.take_succ_eq_append_getElem h, List.flatten_append]
  simp
theorem cat_le (ls : List (List R)) (i : Nat) : (catR (ls.take i)).length ≤ (catR ls).length := by
  unfold catR
  conv => rhs; rw [← List.take_append_drop i ls, List.flatten_append, List.length_append]
  omega
@[simp] theorem cat_nil : catR [] = [] := rfl
def encRs (l : List R) : AV := .sl 8 (l.map encR)
@[simp] theorem cells_encRs (l : List R) : (encRs l).cells = [encRs l] := rfl
@[simp] theorem isSt_encRs (l : List R) : (encRs l).isSt = false := rfl
theorem r44 (ls : List (List R)) (h0 : ls.length ≤ 1000000000) (hl : (catR ls).length ≤ 1000000000) : RSpec Try.prog 44 [.sl 1 (ls.map encRs)] 23 8 ((catR ls).map encR) := by
  refine MSpec_of Try.func44 rfl rfl (Nat.le_of_ble_eq_true rfl) (Nat.le_of_ble_eq_true rfl) ?_
  intro E hE
  repeat' (first
    | with_reducible refine useK (by assumption) ?_
    | with_reducible refine useK2 (by assumption) ?_
    | with_reducible refine useX (by assumption) ?_
    | with_reducible refine AW_seqk fun K hK => ?_
    | (with_reducible refine AW_regionS rfl (by rw [hE]; decide) ?_; simp [*])
    | with_reducible refine AW_region (by rw [hE]; decide) ?_
    | ((with_reducible show RK _ _ _ _ _ _); refine RK_nilk ?_; simp [*])
    | ((with_reducible show RK _ _ _ _ _ _); refine RK_stepk fun K' hK' => ?_; simp [*])
    | with_reducible refine AW_drawq mixed (by rw [hE]; decide) (by simp [newOK]) ?_
    | ((with_reducible show RKQ _ _ _ _ _ _); refine RKQ_nilk ⟨by decide, ?_⟩)
    | ((with_reducible show RKQ _ _ _ _ _ _); refine RKQ_stepk fun K' hK' => ?_; simp [*])
    | (with_reducible refine AW_if fun X Y hX hY => ?_; simp [*])
    | with_reducible refine AW_block ?_
    | (with_reducible refine AW_ret ?_; simp [*])
    | (with_reducible refine AW_skip ?_; simp [*])
    | (with_reducible refine AW_exit ?_; simp [*])
    | with_reducible refine And.intro ?_ ?_
    | omega
    | (refine imp1 fun h => ?_))
  refine AW_loopk (G := Nat) (fun i => ⟨[(11, iA i), (10, iA ls.length), (9, .sl 1 (ls.map encRs)), (3, iA (catR (ls.take i)).length), (2, .v (.slice none 0 0)), (0, .sl 1 (ls.map encRs))], []⟩)
    (fun i => i ≤ ls.length) (fun i => ls.length - i) 0 (by simp) (by simp) ?_
  intro i hi K hK
  have hsl := cat_le ls i
  by_cases hlt : i < ls.length
  · have hs := cat_take hlt
    have hsl := cat_le ls (i + 1)
    rw [hs, List.length_append] at hsl
    replace hs := Hld.mk hs
    repeat' (first
      | with_reducible refine useK (by assumption) ?_
      | with_reducible refine useK2 (by assumption) ?_
      | with_reducible refine useX (by assumption) ?_
      | with_reducible refine AW_seqk fun K hK => ?_
      | (with_reducible refine AW_regionS rfl (by rw [hE]; decide) ?_; simp [*, encRs])
      | with_reducible refine AW_region (by rw [hE]; decide) ?_
      | ((with_reducible show RK _ _ _ _ _ _); refine RK_nilk ?_; simp [*, encRs])
      | ((with_reducible show RK _ _ _ _ _ _); refine RK_stepk fun K' hK' => ?_; simp [*, encRs])
      | with_reducible refine AW_drawq mixed (by rw [hE]; decide) (by simp [newOK]) ?_
      | ((with_reducible show RKQ _ _ _ _ _ _); refine RKQ_nilk ⟨by decide, ?_⟩)
      | ((with_reducible show RKQ _ _ _ _ _ _); refine RKQ_stepk fun K' hK' => ?_; simp [*, encRs])
      | (with_reducible refine AW_if fun X Y hX hY => ?_; simp [*, encRs])
      | with_reducible refine AW_block ?_
      | (with_reducible refine AW_ret ?_; simp [*, encRs])
      | (with_reducible refine AW_skip ?_; simp [*, encRs])
      | (with_reducible refine AW_exit ?_; simp [*, encRs])
      | with_reducible refine And.intro ?_ ?_
      | omega
      | (refine imp1 fun h => ?_))
    exact ⟨i + 1, by omega, by omega, by simp [hs.out]⟩
  · obtain rfl : i = ls.length := by omega
    repeat' (first
      | with_reducible refine useK (by assumption) ?_
      | with_reducible refine useK2 (by assumption) ?_
      | with_reducible refine useX (by assumption) ?_
      | with_reducible refine AW_seqk fun K hK => ?_
      | (with_reducible refine AW_regionS rfl (by rw [hE]; decide) ?_; simp [*])
      | with_reducible refine AW_region (by rw [hE]; decide) ?_
      | ((with_reducible show RK _ _ _ _ _ _); refine RK_nilk ?_; simp [*])
      | ((with_reducible show RK _ _ _ _ _ _); refine RK_stepk fun K' hK' => ?_; simp [*])
      | with_reducible refine AW_drawq mixed (by rw [hE]; decide) (by simp [newOK]) ?_
      | ((with_reducible show RKQ _ _ _ _ _ _); refine RKQ_nilk ⟨by decide, ?_⟩)
      | ((with_reducible show RKQ _ _ _ _ _ _); refine RKQ_stepk fun K' hK' => ?_; simp [*])
      | (with_reducible refine AW_if fun X Y hX hY => ?_; simp [*])
      | with_reducible refine AW_block ?_
      | (with_reducible refine AW_ret ?_; simp [*])
      | (with_reducible refine AW_skip ?_; simp [*])
      | (with_reducible refine AW_exit ?_; simp [*])
      | (refine acall_row (r56 (catR (ls.take ls.length)).length (by omega)) ?_ (.inl ?_) ?_ ?_; (focus (simp [*] <;> fail)); (focus (simp [*] <;> fail)); (focus (simp [*] <;> fail)); simp [*])
      | with_reducible refine And.intro ?_ ?_
      | omega
      | (refine imp1 fun h => ?_))
    refine AW_loopk (G := Nat) (fun i => ⟨[(27, iA i), (26, iA ls.length), (25, .sl 1 (ls.map encRs)), (6, .own 24 8 0 (catR (ls.take i)).length), (2, .v (.slice none 0 0))], [(24, .arr 23 8 ((catR (ls.take i)).map encR))]⟩)
      (fun i => i ≤ ls.length) (fun i => ls.length - i) 0 (by simp) (by simp) ?_
    intro i hi K hK
    have hsl := cat_le ls i
    by_cases hlt : i < ls.length
    · have hs := cat_take hlt
      have hsl := cat_le ls (i + 1)
      rw [hs, List.length_append] at hsl
      replace hs := Hld.mk hs
      repeat' (first
        | with_reducible refine useK (by assumption) ?_
        | with_reducible refine useK2 (by assumption) ?_
        | with_reducible refine useX (by assumption) ?_
        | with_reducible refine AW_seqk fun K hK => ?_
        | (with_reducible refine AW_regionS rfl (by rw [hE]; decide) ?_; simp [*, encRs])
        | with_reducible refine AW_region (by rw [hE]; decide) ?_
        | ((with_reducible show RK _ _ _ _ _ _); refine RK_nilk ?_; simp [*, encRs])
        | ((with_reducible show RK _ _ _ _ _ _); refine RK_stepk fun K' hK' => ?_; simp [*, encRs])
        | with_reducible refine AW_drawq mixed (by rw [hE]; decide) (by simp [newOK]) ?_
        | ((with_reducible show RKQ _ _ _ _ _ _); refine RKQ_nilk ⟨by decide, ?_⟩)
        | ((with_reducible show RKQ _ _ _ _ _ _); refine RKQ_stepk fun K' hK' => ?_; simp [*, encRs])
        | (with_reducible refine AW_if fun X Y hX hY => ?_; simp [*, encRs])
        | with_reducible refine AW_block ?_
        | (with_reducible refine AW_ret ?_; simp [*, encRs])
        | (with_reducible refine AW_skip ?_; simp [*, encRs])
        | (with_reducible refine AW_exit ?_; simp [*, encRs])
        | with_reducible refine And.intro ?_ ?_
        | omega
        | (refine imp1 fun h => ?_))
      exact ⟨i + 1, by omega, by omega, by simp [hs.out]⟩
    · obtain rfl : i = ls.length := by omega
      repeat' (first
        | with_reducible refine useK (by assumption) ?_
        | with_reducible refine useK2 (by assumption) ?_
        | with_reducible refine useX (by assumption) ?_
        | with_reducible refine AW_seqk fun K hK => ?_
        | (with_reducible refine AW_regionS rfl (by rw [hE]; decide) ?_; simp [*])
        | with_reducible refine AW_region (by rw [hE]; decide) ?_
        | ((with_reducible show RK _ _ _ _ _ _); refine RK_nilk ?_; simp [*])
        | ((with_reducible show RK _ _ _ _ _ _); refine RK_stepk fun K' hK' => ?_; simp [*])
        | with_reducible refine AW_drawq mixed (by rw [hE]; decide) (by simp [newOK]) ?_
        | ((with_reducible show RKQ _ _ _ _ _ _); refine RKQ_nilk ⟨by decide, ?_⟩)
        | ((with_reducible show RKQ _ _ _ _ _ _); refine RKQ_stepk fun K' hK' => ?_; simp [*])
        | (with_reducible refine AW_if fun X Y hX hY => ?_; simp [*])
        | with_reducible refine AW_block ?_
        | (with_reducible refine AW_ret ?_; simp [*])
        | (with_reducible refine AW_skip ?_; simp [*])
        | (with_reducible refine AW_exit ?_; simp [*])
        | with_reducible refine And.intro ?_ ?_
        | omega
        | (refine imp1 fun h => ?_))
end Go.Proofs.Ytmjckbokjjnmeaa
