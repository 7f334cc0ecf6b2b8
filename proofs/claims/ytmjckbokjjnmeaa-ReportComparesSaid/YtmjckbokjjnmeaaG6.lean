/- Changed. -/
import Derived.Test.YtmjckbokjjnmeaaG5
set_option maxRecDepth 100000
namespace Go.Proofs.Ytmjckbokjjnmeaa
open Go.Am

theorem difR_take {other l : List R} {i : Nat} (h : i < l.length) : difR other (l.take (i + 1)) = difR other (l.take i) ++ (if l[i] ∈ other then [] else [l[i].o]) := by
  unfold difR
  rw [List.take_succ_eq_append_getElem h, List.filter_append, List.map_append]
  congr 1
  by_cases hm : l[i] ∈ other <;> simp [hm]
theorem difR_len (other l : List R) : (difR other l).length ≤ l.length := by
  unfold difR
  rw [List.length_map]
  exact List.length_filter_le _ _
theorem m50 (a b : List R) (xs : List Int) (hs : SS b) (ha : a.length ≤ 100000000) (hb : b.length ≤ 100000000) (hx : xs.length ≤ 100000000) :
    MSpec Try.prog 50 [.sl 8 (a.map encR), .sl 8 (b.map encR), .loc 1000000 0] [(1000000, .box 33 (.own 1000001 1 0 xs.length)), (1000001, .arr 3 1 (xs.map iA))]
      (fun res bf => res = .tup [] ∧ bf 1000000 = some (.box 33 (.own 60 1 0 (xs ++ difR b a).length)) ∧ bf 60 = some (.arr 3 1 ((xs ++ difR b a).map iA))) := by
  refine MSpec_of Try.func50 rfl rfl (Nat.le_of_ble_eq_true rfl) (Nat.le_of_ble_eq_true rfl) ?_
  intro E hE
  repeat' (first
    | with_reducible refine useK (by assumption) ?_
    | with_reducible refine useK2 (by assumption) ?_
    | with_reducible refine useX (by assumption) ?_
    | with_reducible refine AW_seqk fun K hK => ?_
    | (with_reducible refine AW_regionS rfl (by rw [hE]; decide) ?_; simp [*])
    | with_reducible refine AW_region (by rw [hE]; decide) ?_
    | ((with_reducible show RK _ _ _ _ _ _); refine RK_nilk ?_; simp [*])
    | ((with_reducible show RK _ _ _ _ _ _); refine RK_stepk fun K' hK' => ?_; simp [*])
    | with_reducible refine AW_drawq mixed (by rw [hE]; decide) (by simp [newOK]) ?_
    | ((with_reducible show RKQ _ _ _ _ _ _); refine RKQ_nilk ⟨by decide, ?_⟩)
    | ((with_reducible show RKQ _ _ _ _ _ _); refine RKQ_stepk fun K' hK' => ?_; simp [*])
    | (with_reducible refine AW_if fun X Y hX hY => ?_; simp [*])
    | with_reducible refine AW_block ?_
    | (with_reducible refine AW_ret ?_; simp [*])
    | (with_reducible refine AW_skip ?_; simp [*])
    | (with_reducible refine AW_exit ?_; simp [*])
    | with_reducible refine And.intro ?_ ?_
    | omega
    | (refine imp1 fun h => ?_))
  obtain ⟨F, hF⟩ : ∃ F : Nat → List Int, ∀ i, F i = xs ++ difR b (a.take i) := ⟨_, fun _ => rfl⟩
  have hF0 : F 0 = xs := by rw [hF]; simp [difR]
  have hFe : F a.length = xs ++ difR b a := by rw [hF, List.take_length]
  have hFl : ∀ i, (F i).length ≤ 1000000000 := by intro i; rw [hF, List.length_append]; have := difR_len b (a.take i); simp at this; omega
  have hFs : ∀ i (h : i < a.length), F (i + 1) = F i ++ (if a[i] ∈ b then [] else [a[i].o]) := by intro i h; rw [hF, hF, difR_take h, List.append_assoc]
  clear hF
  rw [← hFe]
  replace hFe := Hld.mk hFe
  replace hFs := Hld.mk hFs
  refine AW_ren 1000001 60 (t := ⟨[(11, .v (.int .i64 0)), (10, .v (.int .i64 a.length)), (9, .sl 8 (a.map encR)), (1, .sl 8 (b.map encR)), (2, .loc 1000000 0)], [(1000000, .box 33 (.own 60 1 0 xs.length)), (60, .arr 3 1 (xs.map iA))]⟩) rfl (by simp) (by omega) (by simp [sw]) (by simp [sw]) ?_
  refine AW_loopk (G := Nat) (fun i => ⟨[(11, iA i), (10, iA a.length), (9, .sl 8 (a.map encR)), (1, .sl 8 (b.map encR)), (2, .loc 1000000 0)], [(1000000, .box 33 (.own 60 1 0 (F i).length)), (60, .arr 3 1 ((F i).map iA))]⟩)
    (fun i => i ≤ a.length) (fun i => a.length - i) 0 (by simp) (by simp [hF0]) ?_
  intro i hi K hK
  have hl := hFl i
  by_cases hlt : i < a.length
  · have hs2 := hFs.out i hlt
    replace hs2 := Hld.mk hs2
    obtain ⟨n, hn⟩ := s51' b a[i] (by omega) hs
    clear hFs hFl
    repeat' (first
      | with_reducible refine useK (by assumption) ?_
      | with_reducible refine useK2 (by assumption) ?_
      | with_reducible refine useX (by assumption) ?_
      | with_reducible refine AW_seqk fun K hK => ?_
      | (with_reducible refine AW_regionS rfl (by rw [hE]; decide) ?_; simp [*])
      | with_reducible refine AW_region (by rw [hE]; decide) ?_
      | ((with_reducible show RK _ _ _ _ _ _); refine RK_nilk ?_; simp [*])
      | ((with_reducible show RK _ _ _ _ _ _); refine RK_stepk fun K' hK' => ?_; simp [*])
      | with_reducible refine AW_drawq mixed (by rw [hE]; decide) (by simp [newOK]) ?_
      | ((with_reducible show RKQ _ _ _ _ _ _); refine RKQ_nilk ⟨by decide, ?_⟩)
      | ((with_reducible show RKQ _ _ _ _ _ _); refine RKQ_stepk fun K' hK' => ?_; simp [*])
      | (with_reducible refine AW_if fun X Y hX hY => ?_; simp [*])
      | with_reducible refine AW_block ?_
      | (with_reducible refine AW_ret ?_; simp [*])
      | (with_reducible refine AW_skip ?_; simp [*])
      | (with_reducible refine AW_exit ?_; simp [*])
      | (refine acall_same (hn) ?_ ?_ ?_; (focus (simp [*] <;> fail)); (focus (simp [*] <;> fail)); simp [*])
      | (refine call_same (hn) ?_ ?_ ?_; (focus (simp [*] <;> fail)); (focus (simp [*] <;> fail)); simp [*])
      | (refine acall_view (hn) ?_ ?_ ?_; (focus (simp [*] <;> fail)); (focus (simp [*] <;> fail)); simp [*])
      | (refine call_view (hn) ?_ ?_ ?_; (focus (simp [*] <;> fail)); (focus (simp [*] <;> fail)); simp [*])
      | with_reducible refine And.intro ?_ ?_
      | omega
      | (refine imp1 fun h => ?_))
    all_goals exact ⟨i + 1, by omega, by omega, by simp [hs2.out, *]⟩
  · obtain rfl : i = a.length := by omega
    clear hFs hFl
    repeat' (first
      | with_reducible refine useK (by assumption) ?_
      | with_reducible refine useK2 (by assumption) ?_
      | with_reducible refine useX (by assumption) ?_
      | with_reducible refine AW_seqk fun K hK => ?_
      | (with_reducible refine AW_regionS rfl (by rw [hE]; decide) ?_; simp [*])
      | with_reducible refine AW_region (by rw [hE]; decide) ?_
      | ((with_reducible show RK _ _ _ _ _ _); refine RK_nilk ?_; simp [*])
      | ((with_reducible show RK _ _ _ _ _ _); refine RK_stepk fun K' hK' => ?_; simp [*])
      | with_reducible refine AW_drawq mixed (by rw [hE]; decide) (by simp [newOK]) ?_
      | ((with_reducible show RKQ _ _ _ _ _ _); refine RKQ_nilk ⟨by decide, ?_⟩)
      | ((with_reducible show RKQ _ _ _ _ _ _); refine RKQ_stepk fun K' hK' => ?_; simp [*])
      | (with_reducible refine AW_if fun X Y hX hY => ?_; simp [*])
      | with_reducible refine AW_block ?_
      | (with_reducible refine AW_ret ?_; simp [*])
      | (with_reducible refine AW_skip ?_; simp [*])
      | (with_reducible refine AW_exit ?_; simp [*])
      | with_reducible refine And.intro ?_ ?_
      | omega
      | (refine imp1 fun h => ?_))
end Go.Proofs.Ytmjckbokjjnmeaa
