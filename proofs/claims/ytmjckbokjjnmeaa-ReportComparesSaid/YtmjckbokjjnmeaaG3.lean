/- IndexFunc, DeleteFunc, Of, Last. -/
import Derived.Test.YtmjckbokjjnmeaaG2
set_option maxRecDepth 100000
namespace Go.Proofs.Ytmjckbokjjnmeaa
open Go.Am

def idxF (p : R → Bool) (i : Nat) : List R → Int
  | [] => -1
  | x :: l => if p x then i else idxF p (i + 1) l
theorem idxF_drop {p : R → Bool} {l : List R} {i : Nat} (h : i < l.length) : idxF p i (l.drop i) = if p l[i] then (i : Int) else idxF p (i + 1) (l.drop (i + 1)) := by
  rw [List.drop_eq_getElem_cons h]; rfl

theorem s60 (p : R → Bool) (g : FuncId) (cs : List AV) (hcs : idfL cs = true) (hp : ∀ r, PSpec Try.prog g (encR r :: cs) (bA (p r))) (l : List R) (hl : l.length ≤ 1000000000) :
    PSpec Try.prog 60 [.sl 8 (l.map encR), .fn (.func g) [] cs] (iA (idxF p 0 l)) := by
  refine PSpec_of Try.func60 rfl rfl (Nat.le_of_ble_eq_true rfl) (Nat.le_of_ble_eq_true rfl) ?_
  intro E hE
  repeat' (first
    | with_reducible refine useK (by assumption) ?_
    | with_reducible refine useK2 (by assumption) ?_
    | with_reducible refine useX (by assumption) ?_
    | with_reducible refine AW_seqk fun K hK => ?_
    | (with_reducible refine AW_regionS rfl (by rw [hE]; decide) ?_; simp [*])
    | with_reducible refine AW_region (by rw [hE]; decide) ?_
    | ((with_reducible show RK _ _ _ _ _ _); refine RK_nilk ?_; simp [*])
    | ((with_reducible show RK _ _ _ _ _ _); refine RK_stepk fun K' hK' => ?_; simp [*])
    | with_reducible refine AW_drawq mixed (by rw [hE]; decide) (by simp [newOK]) ?_
    | ((with_reducible show RKQ _ _ _ _ _ _); refine RKQ_nilk ⟨by decide, ?_⟩)
    | ((with_reducible show RKQ _ _ _ _ _ _); refine RKQ_stepk fun K' hK' => ?_; simp [*])
    | (with_reducible refine AW_if fun X Y hX hY => ?_; simp [*])
    | with_reducible refine AW_block ?_
    | (with_reducible refine AW_ret ?_; simp [*])
    | (with_reducible refine AW_skip ?_; simp [*])
    | (with_reducible refine AW_exit ?_; simp [*])
    | with_reducible refine And.intro ?_ ?_
    | omega
    | (refine imp1 fun h => ?_))
  refine AW_loopk (G := Nat) (fun i => ⟨[(8, iA i), (7, iA l.length), (0, .sl 8 (l.map encR)), (1, .fn (.func g) [] cs)], []⟩)
    (fun i => i ≤ l.length ∧ idxF p i (l.drop i) = idxF p 0 l) (fun i => l.length - i) 0 (by simp) (by simp) ?_
  rintro i ⟨hi, heq⟩ K hK
  by_cases hlt : i < l.length
  · have hd := idxF_drop (p := p) hlt
    rw [heq] at hd
    replace hd := Hld.mk hd
    replace heq := Hld.mk heq
    repeat' (first
      | with_reducible refine useK (by assumption) ?_
      | with_reducible refine useK2 (by assumption) ?_
      | with_reducible refine useX (by assumption) ?_
      | with_reducible refine AW_seqk fun K hK => ?_
      | (with_reducible refine AW_regionS rfl (by rw [hE]; decide) ?_; simp [*])
      | with_reducible refine AW_region (by rw [hE]; decide) ?_
      | ((with_reducible show RK _ _ _ _ _ _); refine RK_nilk ?_; simp [*])
      | ((with_reducible show RK _ _ _ _ _ _); refine RK_stepk fun K' hK' => ?_; simp [*])
      | with_reducible refine AW_drawq mixed (by rw [hE]; decide) (by simp [newOK]) ?_
      | ((with_reducible show RKQ _ _ _ _ _ _); refine RKQ_nilk ⟨by decide, ?_⟩)
      | ((with_reducible show RKQ _ _ _ _ _ _); refine RKQ_stepk fun K' hK' => ?_; simp [*])
      | (with_reducible refine AW_if fun X Y hX hY => ?_; simp [*])
      | with_reducible refine AW_block ?_
      | (with_reducible refine AW_ret ?_; simp [*])
      | (with_reducible refine AW_skip ?_; simp [*])
      | (with_reducible refine AW_exit ?_; simp [*])
      | (refine acall_same (hp _) ?_ ?_ ?_; (focus (simp [*] <;> fail)); (focus (simp [*] <;> fail)); simp [*])
      | (refine call_same (hp _) ?_ ?_ ?_; (focus (simp [*] <;> fail)); (focus (simp [*] <;> fail)); simp [*])
      | (refine acall_view (hp _) ?_ ?_ ?_; (focus (simp [*] <;> fail)); (focus (simp [*] <;> fail)); simp [*])
      | (refine call_view (hp _) ?_ ?_ ?_; (focus (simp [*] <;> fail)); (focus (simp [*] <;> fail)); simp [*])
      | with_reducible refine And.intro ?_ ?_
      | omega
      | (refine imp1 fun h => ?_))
    · rw [hd.out]; simp [*]
    · exact ⟨i + 1, ⟨by omega, by rw [hd.out]; simp [*]⟩, by omega, by simp⟩
  · obtain rfl : i = l.length := by omega
    rw [List.drop_length] at heq
    replace heq := Hld.mk heq
    repeat' (first
      | with_reducible refine useK (by assumption) ?_
      | with_reducible refine useK2 (by assumption) ?_
      | with_reducible refine useX (by assumption) ?_
      | with_reducible refine AW_seqk fun K hK => ?_
      | (with_reducible refine AW_regionS rfl (by rw [hE]; decide) ?_; simp [*])
      | with_reducible refine AW_region (by rw [hE]; decide) ?_
      | ((with_reducible show RK _ _ _ _ _ _); refine RK_nilk ?_; simp [*])
      | ((with_reducible show RK _ _ _ _ _ _); refine RK_stepk fun K' hK' => ?_; simp [*])
      | with_reducible refine AW_drawq mixed (by rw [hE]; decide) (by simp [newOK]) ?_
      | ((with_reducible show RKQ _ _ _ _ _ _); refine RKQ_nilk ⟨by decide, ?_⟩)
      | ((with_reducible show RKQ _ _ _ _ _ _); refine RKQ_stepk fun K' hK' => ?_; simp [*])
      | (with_reducible refine AW_if fun X Y hX hY => ?_; simp [*])
      | with_reducible refine AW_block ?_
      | (with_reducible refine AW_ret ?_; simp [*])
      | (with_reducible refine AW_skip ?_; simp [*])
      | (with_reducible refine AW_exit ?_; simp [*])
      | with_reducible refine And.intro ?_ ?_
      | omega
      | (refine imp1 fun h => ?_))
    exact heq.out.symm
theorem s49 (r : R) (ob : Int) : PSpec Try.prog 49 [encR r, .ep (iA ob)] (bA (!decide (r.o = ob))) := by
  refine PSpec_of Try.func49 rfl rfl (Nat.le_of_ble_eq_true rfl) (Nat.le_of_ble_eq_true rfl) ?_
  intro E hE
  repeat' (first
    | with_reducible refine useK (by assumption) ?_
    | with_reducible refine useK2 (by assumption) ?_
    | with_reducible refine useX (by assumption) ?_
    | with_reducible refine AW_seqk fun K hK => ?_
    | (with_reducible refine AW_regionS rfl (by rw [hE]; decide) ?_; simp [*])
    | with_reducible refine AW_region (by rw [hE]; decide) ?_
    | ((with_reducible show RK _ _ _ _ _ _); refine RK_nilk ?_; simp [*])
    | ((with_reducible show RK _ _ _ _ _ _); refine RK_stepk fun K' hK' => ?_; simp [*])
    | with_reducible refine AW_drawq mixed (by rw [hE]; decide) (by simp [newOK]) ?_
    | ((with_reducible show RKQ _ _ _ _ _ _); refine RKQ_nilk ⟨by decide, ?_⟩)
    | ((with_reducible show RKQ _ _ _ _ _ _); refine RKQ_stepk fun K' hK' => ?_; simp [*])
    | (with_reducible refine AW_if fun X Y hX hY => ?_; simp [*])
    | with_reducible refine AW_block ?_
    | (with_reducible refine AW_ret ?_; simp [*])
    | (with_reducible refine AW_skip ?_; simp [*])
    | (with_reducible refine AW_exit ?_; simp [*])
    | with_reducible refine And.intro ?_ ?_
    | omega
    | (refine imp1 fun h => ?_))

theorem idxF_none {p : R → Bool} : ∀ {l : List R} {i : Nat}, idxF p i l = -1 → ∀ x ∈ l, p x = false
  | [], _, _ => by simp
  | x :: l, i, h => by
    simp only [idxF] at h
    split at h
    · omega
    · rename_i hx
      intro y hy
      rcases List.mem_cons.1 hy with rfl | hy
      · simpa using hx
      · exact idxF_none h y hy
theorem idxF_some {p : R → Bool} : ∀ {l : List R} {i : Nat}, idxF p i l ≠ -1 → ∃ j, idxF p i l = (i + j : Nat) ∧ ∃ h : j < l.length, p l[j] = true ∧ ∀ x ∈ l.take j, p x = false
  | [], _, h => by simp [idxF] at h
  | x :: l, i, h => by
    simp only [idxF] at h ⊢
    by_cases hx : p x = true
    · rw [if_pos hx] at h ⊢
      exact ⟨0, by simp, by simp, by simpa using hx, by simp⟩
    · rw [if_neg hx] at h ⊢
      obtain ⟨j, h1, h2, h3, h4⟩ := idxF_some h
      refine ⟨j + 1, by rw [h1]; congr 1; omega, by simpa using h2, by simpa using h3, ?_⟩
      intro y hy
      rw [List.take_succ_cons] at hy
      rcases List.mem_cons.1 hy with rfl | hy
      · simpa using hx
      · exact h4 y hy

theorem w48 (p : R → Bool) (g : FuncId) (cs : List AV) (hcs : idfL cs = true) (hp : ∀ r, PSpec Try.prog g (encR r :: cs) (bA (p r))) (l : List R) (n : Nat) (hn : l.length = n) (hl : n ≤ 1000000000) :
    MSpec Try.prog 48 [.own 1000000 8 0 n, .fn (.func g) [] cs] [(1000000, .arr 23 8 (l.map encR))] (fun res bf => res = .own 1000000 8 0 (l.filter fun r => !p r).length ∧ bf 1000000 = some (.arr 23 8 ((l.filter fun r => !p r).map encR))) := by
  subst hn
  have hcm : ∀ d, mentL d cs = false := fun d => idfL_ment d cs hcs
  refine MSpec.cut ?_
  by_cases h0 : idxF p 0 l = -1
  · have hf : (l.filter fun r => !p r) = l := List.filter_eq_self.2 (fun x hx => by simp [idxF_none h0 x hx])
    rw [hf]
    refine MSpec_of Try.func48 rfl rfl (Nat.le_of_ble_eq_true rfl) (Nat.le_of_ble_eq_true rfl) ?_
    intro E hE
    repeat' (first
      | with_reducible refine useK (by assumption) ?_
      | with_reducible refine useK2 (by assumption) ?_
      | with_reducible refine useX (by assumption) ?_
      | with_reducible refine AW_seqk fun K hK => ?_
      | (with_reducible refine AW_regionS rfl (by rw [hE]; decide) ?_; simp [*])
      | with_reducible refine AW_region (by rw [hE]; decide) ?_
      | ((with_reducible show RK _ _ _ _ _ _); refine RK_nilk ?_; simp [*])
      | ((with_reducible show RK _ _ _ _ _ _); refine RK_stepk fun K' hK' => ?_; simp [*])
      | with_reducible refine AW_drawq mixed (by rw [hE]; decide) (by simp [newOK]) ?_
      | ((with_reducible show RKQ _ _ _ _ _ _); refine RKQ_nilk ⟨by decide, ?_⟩)
      | ((with_reducible show RKQ _ _ _ _ _ _); refine RKQ_stepk fun K' hK' => ?_; simp [*])
      | (with_reducible refine AW_if fun X Y hX hY => ?_; simp [*])
      | with_reducible refine AW_block ?_
      | (with_reducible refine AW_ret ?_; simp [*])
      | (with_reducible refine AW_skip ?_; simp [*])
      | (with_reducible refine AW_exit ?_; simp [*])
      | (refine acall_same (s60 p g cs hcs hp l hl) ?_ ?_ ?_; (focus (simp [*] <;> fail)); (focus (simp [*] <;> fail)); simp [*])
      | (refine call_same (s60 p g cs hcs hp l hl) ?_ ?_ ?_; (focus (simp [*] <;> fail)); (focus (simp [*] <;> fail)); simp [*])
      | (refine acall_view (s60 p g cs hcs hp l hl) ?_ ?_ ?_; (focus (simp [*] <;> fail)); (focus (simp [*] <;> fail)); simp [*])
      | (refine call_view (s60 p g cs hcs hp l hl) ?_ ?_ ?_; (focus (simp [*] <;> fail)); (focus (simp [*] <;> fail)); simp [*])
      | with_reducible refine And.intro ?_ ?_
      | omega
      | (refine imp1 fun h => ?_))
    exact ⟨l.length, take_len encR l⟩
  · obtain ⟨j, hj, hjl, hpj, hjt⟩ := idxF_some h0
    rw [Nat.zero_add] at hj
    have hft : (l.take j).filter (fun r => !p r) = l.take j := List.filter_eq_self.2 (fun x hx => by simp [hjt x hx])
    have hf1 : (l.take (j + 1)).filter (fun r => !p r) = l.take j := by rw [List.take_succ_eq_append_getElem hjl, List.filter_append, hft]; simp [hpj]
    refine MSpec_of Try.func48 rfl rfl (Nat.le_of_ble_eq_true rfl) (Nat.le_of_ble_eq_true rfl) ?_
    intro E hE
    repeat' (first
      | with_reducible refine useK (by assumption) ?_
      | with_reducible refine useK2 (by assumption) ?_
      | with_reducible refine useX (by assumption) ?_
      | with_reducible refine AW_seqk fun K hK => ?_
      | (with_reducible refine AW_regionS rfl (by rw [hE]; decide) ?_; simp [*])
      | with_reducible refine AW_region (by rw [hE]; decide) ?_
      | ((with_reducible show RK _ _ _ _ _ _); refine RK_nilk ?_; simp [*])
      | ((with_reducible show RK _ _ _ _ _ _); refine RK_stepk fun K' hK' => ?_; simp [*])
      | with_reducible refine AW_drawq mixed (by rw [hE]; decide) (by simp [newOK]) ?_
      | ((with_reducible show RKQ _ _ _ _ _ _); refine RKQ_nilk ⟨by decide, ?_⟩)
      | ((with_reducible show RKQ _ _ _ _ _ _); refine RKQ_stepk fun K' hK' => ?_; simp [*])
      | (with_reducible refine AW_if fun X Y hX hY => ?_; simp [*])
      | with_reducible refine AW_block ?_
      | (with_reducible refine AW_ret ?_; simp [*])
      | (with_reducible refine AW_skip ?_; simp [*])
      | (with_reducible refine AW_exit ?_; simp [*])
      | (refine acall_same (s60 p g cs hcs hp l hl) ?_ ?_ ?_; (focus (simp [*] <;> fail)); (focus (simp [*] <;> fail)); simp [*])
      | (refine call_same (s60 p g cs hcs hp l hl) ?_ ?_ ?_; (focus (simp [*] <;> fail)); (focus (simp [*] <;> fail)); simp [*])
      | (refine acall_view (s60 p g cs hcs hp l hl) ?_ ?_ ?_; (focus (simp [*] <;> fail)); (focus (simp [*] <;> fail)); simp [*])
      | (refine call_view (s60 p g cs hcs hp l hl) ?_ ?_ ?_; (focus (simp [*] <;> fail)); (focus (simp [*] <;> fail)); simp [*])
      | with_reducible refine And.intro ?_ ?_
      | omega
      | (refine imp1 fun h => ?_))
    obtain ⟨F, hFd⟩ : ∃ F : Nat → List R, ∀ i, F i = (l.take i).filter fun r => !p r := ⟨_, fun _ => rfl⟩
    have hF0 : F (j + 1) = l.take j := by rw [hFd, hf1]
    have hFe : F l.length = l.filter fun r => !p r := by rw [hFd, List.take_length]
    have hFl : ∀ i, j + 1 ≤ i → i ≤ l.length → (F i).length < i := by
      intro i h1 h2
      rw [hFd, ← List.take_append_drop (j + 1) (l.take i), List.filter_append, List.length_append, List.take_take, Nat.min_eq_left h1, hf1]
      have := List.length_filter_le (fun r => !p r) (List.drop (j + 1) (l.take i))
      simp at this ⊢
      omega
    have hFs : ∀ i (h : i < l.length), F (i + 1) = if p l[i] then F i else F i ++ [l[i]] := by
      intro i h
      rw [hFd, hFd, List.take_succ_eq_append_getElem h, List.filter_append]
      by_cases hp : p l[i] <;> simp [hp]
    obtain ⟨B, hB⟩ : ∃ B : Nat → List R, ∀ i, B i = F i ++ l.drop (F i).length := ⟨_, fun _ => rfl⟩
    have hB0 : B (j + 1) = l := by
      have : (l.take j).length = j := by simp; omega
      rw [hB, hF0, this, List.take_append_drop]
    have hBl : ∀ i, j + 1 ≤ i → i ≤ l.length → (B i).length = l.length := by
      intro i h1 h2
      have := hFl i h1 h2
      rw [hB]; simp; omega
    have hBg : ∀ i (h : i < l.length), j + 1 ≤ i → ∃ h' : i < (B i).length, (B i)[i] = l[i] := by
      intro i h h1
      have h2 := hFl i h1 (by omega)
      refine ⟨by rw [hBl i h1 (by omega)]; exact h, ?_⟩
      have : ∀ A, A = F i ++ l.drop (F i).length → ∀ h' : i < A.length, A[i] = l[i] := by
        rintro A rfl h'
        rw [List.getElem_append_right (by omega), List.getElem_drop]
        congr 1
        omega
      exact this _ (hB i) _
    have hBs : ∀ i (h : i < l.length), j + 1 ≤ i → B (i + 1) = if p l[i] then B i else (B i).set (F i).length l[i] := by
      intro i h h1
      have h2 := hFl i h1 (by omega)
      have i3 : (F i).length < l.length := by omega
      by_cases hpi : p l[i]
      · rw [if_pos hpi, hB, hFs i h, if_pos hpi, ← hB]
      · rw [if_neg hpi, hB, hFs i h, if_neg hpi, hB]
        have e0 : (l.drop (F i).length).set 0 l[i] = l[i] :: l.drop ((F i).length + 1) := by
          rw [List.drop_eq_getElem_cons i3]
          rfl
        rw [List.set_append_right _ _ (Nat.le_refl _), Nat.sub_self, e0]
        simp
    have hBe : (B l.length).take (F l.length).length = F l.length := by rw [hB, List.take_left]
    replace hFs := Hld.mk hFs
    replace hFe := Hld.mk hFe
    replace hBs := Hld.mk hBs
    clear hFd hB
    refine AW_loopk (G := Nat) (fun i => ⟨[(6, iA i), (5, iA (F i).length), (0, .own 1000000 8 0 l.length), (1, .fn (.func g) [] cs)], [(1000000, .arr 23 8 ((B i).map encR))]⟩)
      (fun i => j + 1 ≤ i ∧ i ≤ l.length) (fun i => l.length - i) (j + 1) ⟨by omega, by omega⟩ (by
        have : (l.take j).length = j := by simp; omega
        simp [hF0, hB0]; omega) ?_
    rintro i ⟨hi1, hi⟩ K hK
    have hFli := hFl i hi1 hi
    have hA := hBl i hi1 hi
    by_cases hlt : i < l.length
    · obtain ⟨i1, f1⟩ := hBg i hlt hi1
      have i2 : (F i).length < l.length := by omega
      have hs := hFs.out i hlt
      have hs2 := hBs.out i hlt hi1
      replace hs := Hld.mk hs
      replace hs2 := Hld.mk hs2
      clear hBg hFl hBl hFs hBs
      repeat' (first
        | with_reducible refine useK (by assumption) ?_
        | with_reducible refine useK2 (by assumption) ?_
        | with_reducible refine useX (by assumption) ?_
        | with_reducible refine AW_seqk fun K hK => ?_
        | (with_reducible refine AW_regionS rfl (by rw [hE]; decide) ?_; simp [*])
        | with_reducible refine AW_region (by rw [hE]; decide) ?_
        | ((with_reducible show RK _ _ _ _ _ _); refine RK_nilk ?_; simp [*])
        | ((with_reducible show RK _ _ _ _ _ _); refine RK_stepk fun K' hK' => ?_; simp [*])
        | with_reducible refine AW_drawq mixed (by rw [hE]; decide) (by simp [newOK]) ?_
        | ((with_reducible show RKQ _ _ _ _ _ _); refine RKQ_nilk ⟨by decide, ?_⟩)
        | ((with_reducible show RKQ _ _ _ _ _ _); refine RKQ_stepk fun K' hK' => ?_; simp [*])
        | (with_reducible refine AW_if fun X Y hX hY => ?_; simp [*])
        | with_reducible refine AW_block ?_
        | (with_reducible refine AW_ret ?_; simp [*])
        | (with_reducible refine AW_skip ?_; simp [*])
        | (with_reducible refine AW_exit ?_; simp [*])
        | (refine acall_same (hp _) ?_ ?_ ?_; (focus (simp [*] <;> fail)); (focus (simp [*] <;> fail)); simp [*])
        | (refine call_same (hp _) ?_ ?_ ?_; (focus (simp [*] <;> fail)); (focus (simp [*] <;> fail)); simp [*])
        | (refine acall_view (hp _) ?_ ?_ ?_; (focus (simp [*] <;> fail)); (focus (simp [*] <;> fail)); simp [*])
        | (refine call_view (hp _) ?_ ?_ ?_; (focus (simp [*] <;> fail)); (focus (simp [*] <;> fail)); simp [*])
        | with_reducible refine And.intro ?_ ?_
        | omega
        | (refine imp1 fun h => ?_))
      all_goals first | exact ⟨i + 1, ⟨by omega, by omega⟩, by omega, by simp [hs.out, hs2.out, *]⟩ | trace_state
    · obtain rfl : i = l.length := by omega
      clear hBg hFl hBl hFs hBs
      replace hBe := Hld.mk hBe
      repeat' (first
        | with_reducible refine useK (by assumption) ?_
        | with_reducible refine useK2 (by assumption) ?_
        | with_reducible refine useX (by assumption) ?_
        | with_reducible refine AW_seqk fun K hK => ?_
        | (with_reducible refine AW_regionS rfl (by rw [hE]; decide) ?_; simp [*])
        | with_reducible refine AW_region (by rw [hE]; decide) ?_
        | ((with_reducible show RK _ _ _ _ _ _); refine RK_nilk ?_; simp [*])
        | ((with_reducible show RK _ _ _ _ _ _); refine RK_stepk fun K' hK' => ?_; simp [*])
        | with_reducible refine AW_drawq mixed (by rw [hE]; decide) (by simp [newOK]) ?_
        | ((with_reducible show RKQ _ _ _ _ _ _); refine RKQ_nilk ⟨by decide, ?_⟩)
        | ((with_reducible show RKQ _ _ _ _ _ _); refine RKQ_stepk fun K' hK' => ?_; simp [*])
        | (with_reducible refine AW_if fun X Y hX hY => ?_; simp [*])
        | with_reducible refine AW_block ?_
        | (with_reducible refine AW_ret ?_; simp [*])
        | (with_reducible refine AW_skip ?_; simp [*])
        | (with_reducible refine AW_exit ?_; simp [*])
        | with_reducible refine And.intro ?_ ?_
        | omega
        | (refine imp1 fun h => ?_))
      · rw [hFe.out]
      · refine ⟨(F l.length).length, ?_⟩
        rw [List.take_append_of_le_length (by simp; omega), ← List.map_take, hBe.out, hFe.out]
        exact take_len _ _

def cntR (l : List R) : List R := setR ((winM l).filter fun r => !r.c)
def ofR (l : List R) (ob : Int) : List R := (cntR l).filter fun r => decide (r.o = ob)
theorem cntR_len (l : List R) : (cntR l).length ≤ l.length := by
  unfold cntR
  exact Nat.le_trans (setR_len _) (Nat.le_trans (List.length_filter_le _ _) (winM_len l))
theorem r18' (l : List R) (hl : l.length ≤ 1000000000) : RSpec Try.prog 18 [.sl 8 (l.map encR)] 23 8 ((cntR l).map encR) := r18 l hl
theorem r34 (l : List R) (ob : Int) (hl : l.length ≤ 1000000000) : RSpec Try.prog 34 [.sl 8 (l.map encR), iA ob] 23 8 ((ofR l ob).map encR) := by
  have hc := cntR_len l
  refine MSpec_of Try.func34 rfl rfl (Nat.le_of_ble_eq_true rfl) (Nat.le_of_ble_eq_true rfl) ?_
  intro E hE
  refine AW_seqk fun K hK => ?_
  refine AW_region (by rw [hE]; decide) ?_
  simp
  refine useK (by assumption) ?_
  refine AW_freeze 3 (t := ⟨[(3, .ep (iA ob)), (0, .sl 8 (l.map encR)), (1, iA ob), (4, .v (.slice none 0 0))], []⟩) rfl (by simp) (by simp) ?_
  repeat' (first
    | with_reducible refine useK (by assumption) ?_
    | with_reducible refine useK2 (by assumption) ?_
    | with_reducible refine useX (by assumption) ?_
    | with_reducible refine AW_seqk fun K hK => ?_
    | (with_reducible refine AW_regionS rfl (by rw [hE]; decide) ?_; simp [*])
    | with_reducible refine AW_region (by rw [hE]; decide) ?_
    | ((with_reducible show RK _ _ _ _ _ _); refine RK_nilk ?_; simp [*])
    | ((with_reducible show RK _ _ _ _ _ _); refine RK_stepk fun K' hK' => ?_; simp [*])
    | with_reducible refine AW_drawq mixed (by rw [hE]; decide) (by simp [newOK]) ?_
    | ((with_reducible show RKQ _ _ _ _ _ _); refine RKQ_nilk ⟨by decide, ?_⟩)
    | ((with_reducible show RKQ _ _ _ _ _ _); refine RKQ_stepk fun K' hK' => ?_; simp [*])
    | (with_reducible refine AW_if fun X Y hX hY => ?_; simp [*])
    | with_reducible refine AW_block ?_
    | (with_reducible refine AW_ret ?_; simp [*])
    | (with_reducible refine AW_skip ?_; simp [*])
    | (with_reducible refine AW_exit ?_; simp [*])
    | (refine acall_row (r18' l hl) ?_ (.inl ?_) ?_ ?_; (focus (simp [*] <;> fail)); (focus (simp [*] <;> fail)); (focus (simp [*] <;> fail)); simp [*])
    | (refine acall_mrow (w48 (fun r => !decide (r.o = ob)) 49 [.ep (iA ob)] rfl (fun r => s49 r ob) (cntR l) _ rfl (by omega)) ?_ ?_ ?_ ?_ ?_ ?_; (focus (simp [*] <;> fail)); (focus (simp [*] <;> fail)); (focus (simp [*] <;> fail)); (focus (simp [*] <;> fail)); (focus (simp [*] <;> fail)); simp [*])
    | with_reducible refine And.intro ?_ ?_
    | omega
    | (refine imp1 fun h => ?_))
  simp [ofR]
end Go.Proofs.Ytmjckbokjjnmeaa
