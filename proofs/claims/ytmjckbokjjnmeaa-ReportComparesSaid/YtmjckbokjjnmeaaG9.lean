/- The law's set, counting. -/
import Derived.Test.YtmjckbokjjnmeaaG8
set_option maxRecDepth 100000
namespace Go.Proofs.Ytmjckbokjjnmeaa
open Go.Am

theorem take_foldS {last : Option R} {l : List R} {i : Nat} (h : i < l.length) : (l.take (i + 1)).foldl (minS last) none = minS last ((l.take i).foldl (minS last) none) l[i] := by
  rw [List.take_succ_eq_append_getElem h, List.foldl_append]
  rfl
def accR (o : Option R) : R := o.getD zeroR
/-- What the last one is, in the program's words. -/
def LastIs (o : List R) (last : Option R) : Prop := (last = none ∧ o.length = 0) ∨ ∃ k, ∃ h : k < o.length, o.length = k + 1 ∧ last = some o[k]
theorem lastIs (o : List R) : LastIs o o.getLast? := by
  by_cases h : o = []
  · subst h; exact .inl ⟨rfl, rfl⟩
  · have h0 : 0 < o.length := List.length_pos_iff.2 h
    refine .inr ⟨o.length - 1, by omega, by omega, ?_⟩
    rw [List.getLast?_eq_some_getLast h, List.getLast_eq_getElem]

set_option maxHeartbeats 4000000 in
theorem r26 (l : List R) (hl : l.length ≤ 100000000) : RSpec Try.prog 26 [.sl 8 (l.map encR)] 23 8 ((setR l).map encR) := by
  have hsl := setR_len l
  refine MSpec_of Try.func26 rfl rfl (Nat.le_of_ble_eq_true rfl) (Nat.le_of_ble_eq_true rfl) ?_
  intro E hE
  repeat' (first
    | with_reducible refine useK (by assumption) ?_
    | with_reducible refine useK2 (by assumption) ?_
    | with_reducible refine useX (by assumption) ?_
    | with_reducible refine AW_seqk fun K hK => ?_
    | (with_reducible refine AW_regionS rfl (by rw [hE]; decide) ?_; simp [*])
    | with_reducible refine AW_region (by rw [hE]; decide) ?_
    | ((with_reducible show RK _ _ _ _ _ _); refine RK_nilk ?_; simp [*])
    | ((with_reducible show RK _ _ _ _ _ _); refine RK_stepk fun K' hK' => ?_; simp [*])
    | with_reducible refine AW_drawq mixed (by rw [hE]; decide) (by simp [newOK]) ?_
    | ((with_reducible show RKQ _ _ _ _ _ _); refine RKQ_nilk ⟨by decide, ?_⟩)
    | ((with_reducible show RKQ _ _ _ _ _ _); refine RKQ_stepk fun K' hK' => ?_; simp [*])
    | (with_reducible refine AW_if fun X Y hX hY => ?_; simp [*])
    | with_reducible refine AW_block ?_
    | (with_reducible refine AW_ret ?_; simp [*])
    | (with_reducible refine AW_skip ?_; simp [*])
    | (with_reducible refine AW_exit ?_; simp [*])
    | with_reducible refine And.intro ?_ ?_
    | omega
    | (refine imp1 fun h => ?_))
  refine AW_mkrow 3 60 23 8 (by simp) (by simp) (by simp) (by omega) ?_
  obtain ⟨O, hO⟩ : ∃ O : Nat → List R, ∀ m, O m = (setR l).take m := ⟨_, fun _ => rfl⟩
  have hOl : ∀ m, m ≤ (setR l).length → (O m).length = m := by intro m h; rw [hO]; simp; omega
  have hOs : ∀ m (h : m < (setR l).length), O (m + 1) = O m ++ [(setR l)[m]] := by intro m h; rw [hO, hO, List.take_succ_eq_append_getElem h]
  have hO0 : O 0 = [] := by rw [hO]; rfl
  have hOe : O (setR l).length = setR l := by rw [hO, List.take_length]
  have hnext := next_set l
  simp only [← hO] at hnext
  clear hO
  refine AW_loopk (G := Nat) (fun m => ⟨[(3, .own 60 8 0 (O m).length), (0, .sl 8 (l.map encR))], [(60, .arr 23 8 ((O m).map encR))]⟩)
    (fun m => m ≤ (setR l).length) (fun m => (setR l).length - m) 0 (by simp) (by simp [hO0]) ?_
  intro m hm K hK
  have hml := hOl m hm
  have hnx := hnext m hm
  obtain ⟨last, hlast⟩ : ∃ last, last = (O m).getLast? := ⟨_, rfl⟩
  rw [← hlast] at hnx
  have hli := lastIs (O m)
  rw [← hlast] at hli
  have hOsm := hOs m
  have hOb : (O m).length ≤ l.length := by omega
  clear hlast hnext hOl hOs
  replace hml := Hld.mk hml
  replace hnx := Hld.mk hnx
  replace hOsm := Hld.mk hOsm
  replace hOe := Hld.mk hOe
  replace hli := Hld.mk hli
  clear hO0
  repeat' (first
    | with_reducible refine useK (by assumption) ?_
    | with_reducible refine useK2 (by assumption) ?_
    | with_reducible refine useX (by assumption) ?_
    | with_reducible refine AW_seqk fun K hK => ?_
    | (with_reducible refine AW_regionS rfl (by rw [hE]; decide) ?_; simp [*])
    | with_reducible refine AW_region (by rw [hE]; decide) ?_
    | ((with_reducible show RK _ _ _ _ _ _); refine RK_nilk ?_; simp [*])
    | ((with_reducible show RK _ _ _ _ _ _); refine RK_stepk fun K' hK' => ?_; simp [*])
    | with_reducible refine AW_drawq mixed (by rw [hE]; decide) (by simp [newOK]) ?_
    | ((with_reducible show RKQ _ _ _ _ _ _); refine RKQ_nilk ⟨by decide, ?_⟩)
    | ((with_reducible show RKQ _ _ _ _ _ _); refine RKQ_stepk fun K' hK' => ?_; simp [*])
    | (with_reducible refine AW_if fun X Y hX hY => ?_; simp [*])
    | with_reducible refine AW_block ?_
    | (with_reducible refine AW_ret ?_; simp [*])
    | (with_reducible refine AW_skip ?_; simp [*])
    | (with_reducible refine AW_exit ?_; simp [*])
    | with_reducible refine And.intro ?_ ?_
    | omega
    | (refine imp1 fun h => ?_))
  obtain ⟨A, hA⟩ : ∃ A : Nat → Option R, ∀ i, A i = (l.take i).foldl (minS last) none := ⟨_, fun _ => rfl⟩
  have hA0 : A 0 = none := by rw [hA]; rfl
  have hAe : A l.length = l.foldl (minS last) none := by rw [hA, List.take_length]
  have hAs : ∀ i (h : i < l.length), A (i + 1) = minS last (A i) l[i] := by intro i h; rw [hA, hA, take_foldS h]
  clear hA
  replace hAe := Hld.mk hAe
  replace hAs := Hld.mk hAs
  refine AW_loopk (G := Nat) (fun i => ⟨[(6, iA i), (5, .loc 5 0), (4, bA (A i).isSome), (3, .own 60 8 0 (O m).length), (0, .sl 8 (l.map encR))], [(5, .box 23 (encR (accR (A i)))), (60, .arr 23 8 ((O m).map encR))]⟩)
    (fun i => i ≤ l.length) (fun i => l.length - i) 0 (by simp) (by simp [hA0]; exact encR_zero.symm) ?_
  intro i hi K hK
  by_cases hlt : i < l.length
  · have hs := hAs.out i hlt
    clear hAs
    replace hs := Hld.mk hs
    obtain ⟨ac, hac⟩ : ∃ ac, ac = A i := ⟨_, rfl⟩
    rw [← hac] at hs
    rw [← hac]
    clear hac
    rcases hli.out with ⟨rfl, ho⟩ | ⟨k, hk, ho, rfl⟩
    · clear hli
      rcases ac with _ | v
      · repeat' (first
          | with_reducible refine useK (by assumption) ?_
          | with_reducible refine useK2 (by assumption) ?_
          | with_reducible refine useX (by assumption) ?_
          | with_reducible refine AW_seqk fun K hK => ?_
          | (with_reducible refine AW_regionS rfl (by rw [hE]; decide) ?_; simp [*])
          | with_reducible refine AW_region (by rw [hE]; decide) ?_
          | ((with_reducible show RK _ _ _ _ _ _); refine RK_nilk ?_; simp [*])
          | ((with_reducible show RK _ _ _ _ _ _); refine RK_stepk fun K' hK' => ?_; simp [*])
          | with_reducible refine AW_drawq mixed (by rw [hE]; decide) (by simp [newOK]) ?_
          | ((with_reducible show RKQ _ _ _ _ _ _); refine RKQ_nilk ⟨by decide, ?_⟩)
          | ((with_reducible show RKQ _ _ _ _ _ _); refine RKQ_stepk fun K' hK' => ?_; simp [*])
          | (with_reducible refine AW_if fun X Y hX hY => ?_; simp [*])
          | with_reducible refine AW_block ?_
          | (with_reducible refine AW_ret ?_; simp [*])
          | (with_reducible refine AW_skip ?_; simp [*])
          | (with_reducible refine AW_exit ?_; simp [*])
          | (refine acall_same (s15 _ _) ?_ ?_ ?_; (focus (simp [*] <;> fail)); (focus (simp [*] <;> fail)); simp [*])
          | (refine call_same (s15 _ _) ?_ ?_ ?_; (focus (simp [*] <;> fail)); (focus (simp [*] <;> fail)); simp [*])
          | (refine acall_view (s15 _ _) ?_ ?_ ?_; (focus (simp [*] <;> fail)); (focus (simp [*] <;> fail)); simp [*])
          | (refine call_view (s15 _ _) ?_ ?_ ?_; (focus (simp [*] <;> fail)); (focus (simp [*] <;> fail)); simp [*])
          | with_reducible refine And.intro ?_ ?_
          | omega
          | (refine imp1 fun h => ?_))
        all_goals exact ⟨i + 1, by omega, by omega, by simp [hs.out, minS, okL, betR, accR, *]; try (split <;> first | omega | simp)⟩
      · repeat' (first
          | with_reducible refine useK (by assumption) ?_
          | with_reducible refine useK2 (by assumption) ?_
          | with_reducible refine useX (by assumption) ?_
          | with_reducible refine AW_seqk fun K hK => ?_
          | (with_reducible refine AW_regionS rfl (by rw [hE]; decide) ?_; simp [*, accR])
          | with_reducible refine AW_region (by rw [hE]; decide) ?_
          | ((with_reducible show RK _ _ _ _ _ _); refine RK_nilk ?_; simp [*, accR])
          | ((with_reducible show RK _ _ _ _ _ _); refine RK_stepk fun K' hK' => ?_; simp [*, accR])
          | with_reducible refine AW_drawq mixed (by rw [hE]; decide) (by simp [newOK]) ?_
          | ((with_reducible show RKQ _ _ _ _ _ _); refine RKQ_nilk ⟨by decide, ?_⟩)
          | ((with_reducible show RKQ _ _ _ _ _ _); refine RKQ_stepk fun K' hK' => ?_; simp [*, accR])
          | (with_reducible refine AW_if fun X Y hX hY => ?_; simp [*, accR])
          | with_reducible refine AW_block ?_
          | (with_reducible refine AW_ret ?_; simp [*, accR])
          | (with_reducible refine AW_skip ?_; simp [*, accR])
          | (with_reducible refine AW_exit ?_; simp [*, accR])
          | (refine acall_same (s15 _ _) ?_ ?_ ?_; (focus (simp [*, accR] <;> fail)); (focus (simp [*, accR] <;> fail)); simp [*, accR])
          | (refine call_same (s15 _ _) ?_ ?_ ?_; (focus (simp [*, accR] <;> fail)); (focus (simp [*, accR] <;> fail)); simp [*, accR])
          | (refine acall_view (s15 _ _) ?_ ?_ ?_; (focus (simp [*, accR] <;> fail)); (focus (simp [*, accR] <;> fail)); simp [*, accR])
          | (refine call_view (s15 _ _) ?_ ?_ ?_; (focus (simp [*, accR] <;> fail)); (focus (simp [*, accR] <;> fail)); simp [*, accR])
          | with_reducible refine And.intro ?_ ?_
          | omega
          | (refine imp1 fun h => ?_))
        all_goals exact ⟨i + 1, by omega, by omega, by simp [hs.out, minS, okL, betR, accR, *]; try (split <;> first | omega | simp)⟩
    · clear hli
      have hk2 : ((O m).length : Int) - 1 = k := by omega
      rcases ac with _ | v
      · repeat' (first
          | with_reducible refine useK (by assumption) ?_
          | with_reducible refine useK2 (by assumption) ?_
          | with_reducible refine useX (by assumption) ?_
          | with_reducible refine AW_seqk fun K hK => ?_
          | (with_reducible refine AW_regionS rfl (by rw [hE]; decide) ?_; simp [*])
          | with_reducible refine AW_region (by rw [hE]; decide) ?_
          | ((with_reducible show RK _ _ _ _ _ _); refine RK_nilk ?_; simp [*])
          | ((with_reducible show RK _ _ _ _ _ _); refine RK_stepk fun K' hK' => ?_; simp [*])
          | with_reducible refine AW_drawq mixed (by rw [hE]; decide) (by simp [newOK]) ?_
          | ((with_reducible show RKQ _ _ _ _ _ _); refine RKQ_nilk ⟨by decide, ?_⟩)
          | ((with_reducible show RKQ _ _ _ _ _ _); refine RKQ_stepk fun K' hK' => ?_; simp [*])
          | (with_reducible refine AW_if fun X Y hX hY => ?_; simp [*])
          | with_reducible refine AW_block ?_
          | (with_reducible refine AW_ret ?_; simp [*])
          | (with_reducible refine AW_skip ?_; simp [*])
          | (with_reducible refine AW_exit ?_; simp [*])
          | (refine acall_same (s15 _ _) ?_ ?_ ?_; (focus (simp [*] <;> fail)); (focus (simp [*] <;> fail)); simp [*])
          | (refine call_same (s15 _ _) ?_ ?_ ?_; (focus (simp [*] <;> fail)); (focus (simp [*] <;> fail)); simp [*])
          | (refine acall_view (s15 _ _) ?_ ?_ ?_; (focus (simp [*] <;> fail)); (focus (simp [*] <;> fail)); simp [*])
          | (refine call_view (s15 _ _) ?_ ?_ ?_; (focus (simp [*] <;> fail)); (focus (simp [*] <;> fail)); simp [*])
          | with_reducible refine And.intro ?_ ?_
          | omega
          | (refine imp1 fun h => ?_))
        all_goals exact ⟨i + 1, by omega, by omega, by simp [hs.out, minS, okL, betR, accR, *]; try (split <;> first | omega | simp)⟩
      · repeat' (first
          | with_reducible refine useK (by assumption) ?_
          | with_reducible refine useK2 (by assumption) ?_
          | with_reducible refine useX (by assumption) ?_
          | with_reducible refine AW_seqk fun K hK => ?_
          | (with_reducible refine AW_regionS rfl (by rw [hE]; decide) ?_; simp [*, accR])
          | with_reducible refine AW_region (by rw [hE]; decide) ?_
          | ((with_reducible show RK _ _ _ _ _ _); refine RK_nilk ?_; simp [*, accR])
          | ((with_reducible show RK _ _ _ _ _ _); refine RK_stepk fun K' hK' => ?_; simp [*, accR])
          | with_reducible refine AW_drawq mixed (by rw [hE]; decide) (by simp [newOK]) ?_
          | ((with_reducible show RKQ _ _ _ _ _ _); refine RKQ_nilk ⟨by decide, ?_⟩)
          | ((with_reducible show RKQ _ _ _ _ _ _); refine RKQ_stepk fun K' hK' => ?_; simp [*, accR])
          | (with_reducible refine AW_if fun X Y hX hY => ?_; simp [*, accR])
          | with_reducible refine AW_block ?_
          | (with_reducible refine AW_ret ?_; simp [*, accR])
          | (with_reducible refine AW_skip ?_; simp [*, accR])
          | (with_reducible refine AW_exit ?_; simp [*, accR])
          | (refine acall_same (s15 _ _) ?_ ?_ ?_; (focus (simp [*, accR] <;> fail)); (focus (simp [*, accR] <;> fail)); simp [*, accR])
          | (refine call_same (s15 _ _) ?_ ?_ ?_; (focus (simp [*, accR] <;> fail)); (focus (simp [*, accR] <;> fail)); simp [*, accR])
          | (refine acall_view (s15 _ _) ?_ ?_ ?_; (focus (simp [*, accR] <;> fail)); (focus (simp [*, accR] <;> fail)); simp [*, accR])
          | (refine call_view (s15 _ _) ?_ ?_ ?_; (focus (simp [*, accR] <;> fail)); (focus (simp [*, accR] <;> fail)); simp [*, accR])
          | with_reducible refine And.intro ?_ ?_
          | omega
          | (refine imp1 fun h => ?_))
        all_goals exact ⟨i + 1, by omega, by omega, by simp [hs.out, minS, okL, betR, accR, *]; try (split <;> first | omega | simp)⟩
  · obtain rfl : i = l.length := by omega
    rw [hAe.out]
    rcases hnx.out with ⟨h1, h2⟩ | ⟨h1, h2⟩
    · rw [h2]
      clear hnx hAe hli
      repeat' (first
        | with_reducible refine useK (by assumption) ?_
        | with_reducible refine useK2 (by assumption) ?_
        | with_reducible refine useX (by assumption) ?_
        | with_reducible refine AW_seqk fun K hK => ?_
        | (with_reducible refine AW_regionS rfl (by rw [hE]; decide) ?_; simp [*])
        | with_reducible refine AW_region (by rw [hE]; decide) ?_
        | ((with_reducible show RK _ _ _ _ _ _); refine RK_nilk ?_; simp [*])
        | ((with_reducible show RK _ _ _ _ _ _); refine RK_stepk fun K' hK' => ?_; simp [*])
        | with_reducible refine AW_drawq mixed (by rw [hE]; decide) (by simp [newOK]) ?_
        | ((with_reducible show RKQ _ _ _ _ _ _); refine RKQ_nilk ⟨by decide, ?_⟩)
        | ((with_reducible show RKQ _ _ _ _ _ _); refine RKQ_stepk fun K' hK' => ?_; simp [*])
        | (with_reducible refine AW_if fun X Y hX hY => ?_; simp [*])
        | with_reducible refine AW_block ?_
        | (with_reducible refine AW_ret ?_; simp [*])
        | (with_reducible refine AW_skip ?_; simp [*])
        | (with_reducible refine AW_exit ?_; simp [*])
        | with_reducible refine And.intro ?_ ?_
        | omega
        | (refine imp1 fun h => ?_))
      subst h1
      have e : O (setR l).length = setR l := hOe.out
      rw [e]
      exact ⟨60, ⟨rfl, rfl⟩, _, rfl, take_len encR _⟩
    · rw [h2]
      have hs := hOsm.out h1
      clear hnx hAe hli
      replace hs := Hld.mk hs
      repeat' (first
        | with_reducible refine useK (by assumption) ?_
        | with_reducible refine useK2 (by assumption) ?_
        | with_reducible refine useX (by assumption) ?_
        | with_reducible refine AW_seqk fun K hK => ?_
        | (with_reducible refine AW_regionS rfl (by rw [hE]; decide) ?_; simp [*])
        | with_reducible refine AW_region (by rw [hE]; decide) ?_
        | ((with_reducible show RK _ _ _ _ _ _); refine RK_nilk ?_; simp [*])
        | ((with_reducible show RK _ _ _ _ _ _); refine RK_stepk fun K' hK' => ?_; simp [*])
        | with_reducible refine AW_drawq mixed (by rw [hE]; decide) (by simp [newOK]) ?_
        | ((with_reducible show RKQ _ _ _ _ _ _); refine RKQ_nilk ⟨by decide, ?_⟩)
        | ((with_reducible show RKQ _ _ _ _ _ _); refine RKQ_stepk fun K' hK' => ?_; simp [*])
        | (with_reducible refine AW_if fun X Y hX hY => ?_; simp [*])
        | with_reducible refine AW_block ?_
        | (with_reducible refine AW_ret ?_; simp [*])
        | (with_reducible refine AW_skip ?_; simp [*])
        | (with_reducible refine AW_exit ?_; simp [*])
        | with_reducible refine And.intro ?_ ?_
        | omega
        | (refine imp1 fun h => ?_))
      exact ⟨m + 1, by omega, by omega, by simp [hs.out, accR]⟩

theorem s26 (l : List R) (hl : l.length ≤ 100000000) : PSpec Try.prog 26 [.sl 8 (l.map encR)] (.sl 8 ((setR l).map encR)) := (r26 l hl).toP (by simp)
theorem r16 (l : List R) (hl : l.length ≤ 100000000) : RSpec Try.prog 16 [.sl 8 (l.map encR)] 23 8 ((cntR l).map encR) := by
  have hsl := setR_len l
  refine MSpec_of Try.func16 rfl rfl (Nat.le_of_ble_eq_true rfl) (Nat.le_of_ble_eq_true rfl) ?_
  intro E hE
  repeat' (first
    | with_reducible refine useK (by assumption) ?_
    | with_reducible refine useK2 (by assumption) ?_
    | with_reducible refine useX (by assumption) ?_
    | with_reducible refine AW_seqk fun K hK => ?_
    | (with_reducible refine AW_regionS rfl (by rw [hE]; decide) ?_; simp [*])
    | with_reducible refine AW_region (by rw [hE]; decide) ?_
    | ((with_reducible show RK _ _ _ _ _ _); refine RK_nilk ?_; simp [*])
    | ((with_reducible show RK _ _ _ _ _ _); refine RK_stepk fun K' hK' => ?_; simp [*])
    | with_reducible refine AW_drawq mixed (by rw [hE]; decide) (by simp [newOK]) ?_
    | ((with_reducible show RKQ _ _ _ _ _ _); refine RKQ_nilk ⟨by decide, ?_⟩)
    | ((with_reducible show RKQ _ _ _ _ _ _); refine RKQ_stepk fun K' hK' => ?_; simp [*])
    | (with_reducible refine AW_if fun X Y hX hY => ?_; simp [*])
    | with_reducible refine AW_block ?_
    | (with_reducible refine AW_ret ?_; simp [*])
    | (with_reducible refine AW_skip ?_; simp [*])
    | (with_reducible refine AW_exit ?_; simp [*])
    | (refine acall_same (s26 l hl) ?_ ?_ ?_; (focus (simp [*] <;> fail)); (focus (simp [*] <;> fail)); simp [*])
    | (refine call_same (s26 l hl) ?_ ?_ ?_; (focus (simp [*] <;> fail)); (focus (simp [*] <;> fail)); simp [*])
    | (refine acall_view (s26 l hl) ?_ ?_ ?_; (focus (simp [*] <;> fail)); (focus (simp [*] <;> fail)); simp [*])
    | (refine call_view (s26 l hl) ?_ ?_ ?_; (focus (simp [*] <;> fail)); (focus (simp [*] <;> fail)); simp [*])
    | with_reducible refine And.intro ?_ ?_
    | omega
    | (refine imp1 fun h => ?_))
  refine AW_mkrow 4 60 23 8 (by simp) (by simp) (by simp) (by omega) ?_
  obtain ⟨O, hO⟩ : ∃ O : Nat → List R, ∀ m, O m = ((setR l).take m).filter fun r => winB (setR l) r && !r.c := ⟨_, fun _ => rfl⟩
  have hOl : ∀ m, (O m).length ≤ 1000000000 := by
    intro m; rw [hO]
    have := List.length_filter_le (fun r => winB (setR l) r && !r.c) ((setR l).take m)
    simp at this ⊢
    omega
  have hOs : ∀ m (h : m < (setR l).length), O (m + 1) = O m ++ (if winB (setR l) (setR l)[m] && !(setR l)[m].c then [(setR l)[m]] else []) := by
    intro m h; rw [hO, hO, List.take_succ_eq_append_getElem h, List.filter_append]
    congr 1
    simp only [List.filter_cons, List.filter_nil]
  have hO0 : O 0 = [] := by rw [hO]; rfl
  have hOe : O (setR l).length = cntR l := by rw [hO, List.take_length, cntR_eq]
  clear hO
  replace hOs := Hld.mk hOs
  replace hOe := Hld.mk hOe
  refine AW_loopk (G := Nat) (fun m => ⟨[(5, iA m), (4, .own 60 8 0 (O m).length), (3, .sl 8 ((setR l).map encR))], [(60, .arr 23 8 ((O m).map encR))]⟩)
    (fun m => m ≤ (setR l).length) (fun m => (setR l).length - m) 0 (by simp) (by simp [hO0]) ?_
  intro m hm K hK
  have hml := hOl m
  clear hO0
  by_cases hlt : m < (setR l).length
  · have hs := hOs.out m hlt
    clear hOs hOl
    replace hs := Hld.mk hs
    repeat' (first
      | with_reducible refine useK (by assumption) ?_
      | with_reducible refine useK2 (by assumption) ?_
      | with_reducible refine useX (by assumption) ?_
      | with_reducible refine AW_seqk fun K hK => ?_
      | (with_reducible refine AW_regionS rfl (by rw [hE]; decide) ?_; simp [*])
      | with_reducible refine AW_region (by rw [hE]; decide) ?_
      | ((with_reducible show RK _ _ _ _ _ _); refine RK_nilk ?_; simp [*])
      | ((with_reducible show RK _ _ _ _ _ _); refine RK_stepk fun K' hK' => ?_; simp [*])
      | with_reducible refine AW_drawq mixed (by rw [hE]; decide) (by simp [newOK]) ?_
      | ((with_reducible show RKQ _ _ _ _ _ _); refine RKQ_nilk ⟨by decide, ?_⟩)
      | ((with_reducible show RKQ _ _ _ _ _ _); refine RKQ_stepk fun K' hK' => ?_; simp [*])
      | (with_reducible refine AW_if fun X Y hX hY => ?_; simp [*])
      | with_reducible refine AW_block ?_
      | (with_reducible refine AW_ret ?_; simp [*])
      | (with_reducible refine AW_skip ?_; simp [*])
      | (with_reducible refine AW_exit ?_; simp [*])
      | (refine acall_same (s21 (setR l) _ (by omega)) ?_ ?_ ?_; (focus (simp [*] <;> fail)); (focus (simp [*] <;> fail)); simp [*])
      | (refine call_same (s21 (setR l) _ (by omega)) ?_ ?_ ?_; (focus (simp [*] <;> fail)); (focus (simp [*] <;> fail)); simp [*])
      | (refine acall_view (s21 (setR l) _ (by omega)) ?_ ?_ ?_; (focus (simp [*] <;> fail)); (focus (simp [*] <;> fail)); simp [*])
      | (refine call_view (s21 (setR l) _ (by omega)) ?_ ?_ ?_; (focus (simp [*] <;> fail)); (focus (simp [*] <;> fail)); simp [*])
      | with_reducible refine And.intro ?_ ?_
      | omega
      | (refine imp1 fun h => ?_))
    all_goals exact ⟨m + 1, by omega, by omega, by simp [hs.out, *]⟩
  · obtain rfl : m = (setR l).length := by omega
    clear hOs hOl
    repeat' (first
      | with_reducible refine useK (by assumption) ?_
      | with_reducible refine useK2 (by assumption) ?_
      | with_reducible refine useX (by assumption) ?_
      | with_reducible refine AW_seqk fun K hK => ?_
      | (with_reducible refine AW_regionS rfl (by rw [hE]; decide) ?_; simp [*])
      | with_reducible refine AW_region (by rw [hE]; decide) ?_
      | ((with_reducible show RK _ _ _ _ _ _); refine RK_nilk ?_; simp [*])
      | ((with_reducible show RK _ _ _ _ _ _); refine RK_stepk fun K' hK' => ?_; simp [*])
      | with_reducible refine AW_drawq mixed (by rw [hE]; decide) (by simp [newOK]) ?_
      | ((with_reducible show RKQ _ _ _ _ _ _); refine RKQ_nilk ⟨by decide, ?_⟩)
      | ((with_reducible show RKQ _ _ _ _ _ _); refine RKQ_stepk fun K' hK' => ?_; simp [*])
      | (with_reducible refine AW_if fun X Y hX hY => ?_; simp [*])
      | with_reducible refine AW_block ?_
      | (with_reducible refine AW_ret ?_; simp [*])
      | (with_reducible refine AW_skip ?_; simp [*])
      | (with_reducible refine AW_exit ?_; simp [*])
      | with_reducible refine And.intro ?_ ?_
      | omega
      | (refine imp1 fun h => ?_))
    have e : O (setR l).length = cntR l := hOe.out
    rw [e]
    exact ⟨60, ⟨rfl, rfl⟩, _, ⟨rfl, rfl⟩, take_len encR _⟩
theorem s16 (l : List R) (hl : l.length ≤ 100000000) : PSpec Try.prog 16 [.sl 8 (l.map encR)] (.sl 8 ((cntR l).map encR)) := (r16 l hl).toP (by simp)
end Go.Proofs.Ytmjckbokjjnmeaa
