/- ManifestKeeps: for any steps and any further step the law hands back true. Conditions: none. -/
import Derived.Test.YtbibemijcdkjhaaDoorZA
import Derived.Test.YtbibemijcdkjhaaDoorZ9
import Derived.Test.YtbibemijcdkjhaaDoorTie
import Derived.Test.YtbibemijcdkjhaaDoorCards
import Derived.LaidMore
import Derived.Stop.Joined
set_option maxRecDepth 100000
set_option linter.unusedSimpArgs false
set_option linter.unusedVariables false
namespace Go.Proofs.YtbibemijcdkjhaaDoor
open Go.Am Go.RowKit Go.ChangeShapes Go.WideShapes Go.ChangeAt

def laid3 : List (String × DataW Unit) := [("math/bits.deBruijn32tab", Rows.laid_math_bits_deBruijn32tab), ("math/bits.deBruijn64tab", Rows.laid_math_bits_deBruijn64tab), ("internal/strconv.uint64pow10", Rows.laid_internal_strconv_uint64pow10)]
theorem ownK : ownKnob Tryd.prog.godebug = none := by kernel_rfl
theorem laidK : laidOutB Tryd.prog = true := by kernel_rfl
theorem door_met (os : Os) (args : Array Value) : laidMetH Tryd.prog laid3 ((World.doorLaid Tryd.prog 400 os).forCall (fun _ _ => 0) ⟨#[], args, []⟩).memory :=
  laidMetH_of_parts3 (fuel := 8) (laidMet_of_run' 8 (by kernel_rfl) (by kernel_rfl)) (by kernel_rfl) (by kernel_rfl)
namespace L4
/-- At, on a manifest that is changed later. -/
theorem m_atI (m : Sh) (h : WF m) (b : Int) (i : Nat) (hi : i < m.lists.length) (hb : b = m.first + i) : MSpec Tryd.prog 22 [.loc 1000000 0, iA b] [(1000000, rnM m 1000001), (1000001, mrowC m.lists)]
    (fun res bf => res = .tup [segL m.lists[i], iA 0] ∧ bf 1000000 = some (rnM m 1000001) ∧ bf 1000001 = some (mrowC m.lists)) := by
  have h1 := h.first
  have h2 := h.len
  have hlb : lastB m = m.first + (m.lists.length : Int) - 1 := rfl
  have hin : inB b m.first (lastB m) = true := by
    unfold inB
    simp only [decide_eq_true_eq]
    omega
  have hsub : b - m.first = (i : Int) := by omega
  have hlen := (h.srt m.lists[i] (List.getElem_mem hi)).2
  have hcl := Hld.mk (s_cloneS m.lists[i] (by omega))
  have hs1 := Hld.mk (s_last m h)
  have hw := Hld.mk (s_within b m.first (lastB m))
  rw [hin] at hw
  clear hin hlb hb
  refine MSpec_of Tryd.func22 rfl rfl (Nat.le_of_ble_eq_true rfl) (Nat.le_of_ble_eq_true rfl) ?_
  intro E hE
  refine AW_seqt ⟨[(0, .loc 1000000 0), (1, iA b), (4, .v (.slice none 0 0)), (5, iA 0)], [(1000000, rnM m 1000001), (1000001, mrowC m.lists)]⟩ ?_ (by
    intro K hK
    repeat' (first
     | (with_reducible first | refine uK ?_ | refine uX ?_ | refine AW_seqk fun K hK => ?_ | refine AW_block ?_) | ((with_reducible first | refine rS hE ?_ | refine RK_nilk ?_ | refine RK_stepk fun K' hK' => ?_ | refine AW_if fun X Y hX hY => ?_ | refine AW_ret ?_ | refine AW_skip ?_ | refine AW_exit ?_); simp [*]) | with_reducible refine rL hE ?_ | with_reducible refine And.intro ?_ ?_ | omega | (refine imp1 fun h => ?_))
    all_goals simp)
  refine AW_seqt ⟨[(0, .loc 1000000 0), (1, iA b)], [(1000000, rnM m 1000001), (1000001, mrowC m.lists)]⟩ ?_ ?_
  · repeat' (first
     | (with_reducible first | refine useK (by assumption) ?_ | refine useK2 (by assumption) ?_ | refine useX (by assumption) ?_ | refine AW_seqk fun K hK => ?_ | refine AW_block ?_) | (with_reducible refine AW_regionS rfl (by rw [hE]; decide) ?_; simp [*]) | with_reducible refine AW_region (by rw [hE]; decide) ?_ | ((with_reducible show RK _ _ _ _ _ _); first | (refine RK_nilk ?_; simp [*]) | (refine RK_stepk fun K' hK' => ?_; simp [*])) | with_reducible refine AW_drawq mixed (by rw [hE]; decide) (by simp [newOK]) ?_ | ((with_reducible show RKQ _ _ _ _ _ _); first | refine RKQ_nilk ⟨by decide, ?_⟩ | (refine RKQ_stepk fun K' hK' => ?_; simp [*])) | ((with_reducible first | refine AW_if fun X Y hX hY => ?_ | refine AW_ret ?_ | refine AW_skip ?_ | refine AW_exit ?_); simp [*]) | ((first | refine acall_same (hcl.out) ?_ ?_ ?_ | refine call_same (hcl.out) ?_ ?_ ?_); (focus (simp [*] <;> fail)); (focus (simp [*] <;> fail)); simp [*]) | ((first | refine acall_view (hcl.out) ?_ ?_ ?_ | refine call_view (hcl.out) ?_ ?_ ?_); (focus (simp [*] <;> fail)); (focus (simp [*] <;> fail)); simp [*]) | with_reducible refine And.intro ?_ ?_ | omega | (refine imp1 fun h => ?_))
    all_goals simp
  · intro K hK
    refine AW_block ?_
    refine AW_seqt ⟨[(6, bA false), (0, .loc 1000000 0), (1, iA b)], [(1000000, rnM m 1000001), (1000001, mrowC m.lists)]⟩ ?_ (by
      intro K2 hK2
      repeat' (first
       | (with_reducible first | refine uK ?_ | refine uX ?_ | refine AW_seqk fun K hK => ?_ | refine AW_block ?_) | ((with_reducible first | refine rS hE ?_ | refine RK_nilk ?_ | refine RK_stepk fun K' hK' => ?_ | refine AW_if fun X Y hX hY => ?_ | refine AW_ret ?_ | refine AW_skip ?_ | refine AW_exit ?_); simp [*]) | with_reducible refine rL hE ?_ | with_reducible refine And.intro ?_ ?_ | omega | (refine imp1 fun h => ?_))
      all_goals simp)
    refine AW_if fun X Y hX hY => ?_
    simp
    refine hY.h ?_
    refine AW_seqt ⟨[(9, bA false), (0, .loc 1000000 0), (1, iA b)], [(1000000, rnM m 1000001), (1000001, mrowC m.lists)]⟩ ?_ (by
      intro K2 hK2
      refine AW_drawHd ⟨[(1, iA b)], []⟩ mixed (by simp) fun E' hE' => ?_
      have hEn := hE'.trans hE
      repeat' (first
       | (with_reducible first | refine useK (by assumption) ?_ | refine useK3 (by assumption) ?_) | ((with_reducible show DHd _ _ _ _ _ _ _); first | (refine DHd_done (by decide +kernel) ?_; try simp only [thenK, inBlk]) | (refine dt hEn 0 fun K' hK' => ?_; simp [*]; fail_if_success (with_reducible show False)) | (refine dt hEn 1 fun K' hK' => ?_; simp [*]; fail_if_success (with_reducible show False)) | (refine dt hEn 2 fun K' hK' => ?_; simp [*]; fail_if_success (with_reducible show False)) | (refine dt hEn 3 fun K' hK' => ?_; simp [*]; fail_if_success (with_reducible show False)) | (refine dt hEn 4 fun K' hK' => ?_; simp [*]; fail_if_success (with_reducible show False)) | (refine dt hEn 5 fun K' hK' => ?_; simp [*]; fail_if_success (with_reducible show False)) | (refine dt hEn 6 fun K' hK' => ?_; simp [*]; fail_if_success (with_reducible show False)) | (refine dt hEn 7 fun K' hK' => ?_; simp [*]; fail_if_success (with_reducible show False)) | (refine dt hEn 8 fun K' hK' => ?_; simp [*]; fail_if_success (with_reducible show False)) | (refine dt hEn 9 fun K' hK' => ?_; simp [*]; fail_if_success (with_reducible show False)) | (refine dp hEn 0 fun K' hK' => ?_; simp [*]; fail_if_success (with_reducible show False)) | (refine dp hEn 1 fun K' hK' => ?_; simp [*]; fail_if_success (with_reducible show False)) | (refine dp hEn 2 fun K' hK' => ?_; simp [*]; fail_if_success (with_reducible show False)) | (refine dp hEn 3 fun K' hK' => ?_; simp [*]; fail_if_success (with_reducible show False)) | (refine dp hEn 4 fun K' hK' => ?_; simp [*]; fail_if_success (with_reducible show False)) | (refine dp hEn 5 fun K' hK' => ?_; simp [*]; fail_if_success (with_reducible show False)) | (refine dp hEn 6 fun K' hK' => ?_; simp [*]; fail_if_success (with_reducible show False)) | (refine dp hEn 7 fun K' hK' => ?_; simp [*]; fail_if_success (with_reducible show False)) | (refine dp hEn 8 fun K' hK' => ?_; simp [*]; fail_if_success (with_reducible show False)) | (refine dp hEn 9 fun K' hK' => ?_; simp [*]; fail_if_success (with_reducible show False)) | refine DHd_any rfl (by decide +kernel) ?_) | exact DHsome_nil | refine DHsome_no (by decide +kernel) ?_ | (refine DHsome_yes (by exact rfl) rfl (by rw [hEn]; decide) (fun K' hK' => ?_) ?_; simp [*]; fail_if_success (with_reducible show False)) | (refine DHsome_yesG (by exact rfl) rfl (by exact rfl) (by rw [hEn]; decide) (fun K' hK' => ?_) ?_; simp [*]; fail_if_success (with_reducible show False)) | (refine acall_dv (hs1.out) ⟨dv_m (j := 1000001) (by simp) (by simp), trivial⟩ rfl ?_; simp [*]) | (refine acall_same (hw.out) ?_ ?_ ?_; (focus (simp [*] <;> fail)); (focus (simp [*] <;> fail)); simp [*]) | (refine acall_view (hw.out) ?_ ?_ ?_; (focus (simp [*] <;> fail)); (focus (simp [*] <;> fail)); simp [*]) | with_reducible refine And.intro ?_ ?_ | omega | (with_reducible refine imp1 fun h => ?_))
      all_goals simp)
    repeat' (first
     | (with_reducible first | refine uK ?_ | refine uX ?_ | refine AW_seqk fun K hK => ?_ | refine AW_block ?_) | ((with_reducible first | refine rS hE ?_ | refine RK_nilk ?_ | refine RK_stepk fun K' hK' => ?_ | refine AW_if fun X Y hX hY => ?_ | refine AW_ret ?_ | refine AW_skip ?_ | refine AW_exit ?_); simp [*]) | with_reducible refine rL hE ?_ | with_reducible refine And.intro ?_ ?_ | omega | (refine imp1 fun h => ?_))
    all_goals simp
theorem m_atN (m : Sh) (h : WF m) (b : Int) (hb : inB b m.first (lastB m) = false) : MSpec Tryd.prog 22 [.loc 1000000 0, iA b] [(1000000, rnM m 1000001), (1000001, mrowC m.lists)]
    (fun res bf => res = .tup [.v (.slice none 0 0), iA 35] ∧ bf 1000000 = some (rnM m 1000001) ∧ bf 1000001 = some (mrowC m.lists)) := by
  have hs1 := Hld.mk (s_last m h)
  have hw := Hld.mk (s_within b m.first (lastB m))
  rw [hb] at hw
  clear hb
  refine MSpec_of Tryd.func22 rfl rfl (Nat.le_of_ble_eq_true rfl) (Nat.le_of_ble_eq_true rfl) ?_
  intro E hE
  refine AW_seqt ⟨[(0, .loc 1000000 0), (1, iA b), (4, .v (.slice none 0 0)), (5, iA 0)], [(1000000, rnM m 1000001), (1000001, mrowC m.lists)]⟩ ?_ (by
    intro K hK
    repeat' (first
     | (with_reducible first | refine uK ?_ | refine uX ?_ | refine AW_seqk fun K hK => ?_ | refine AW_block ?_) | ((with_reducible first | refine rS hE ?_ | refine RK_nilk ?_ | refine RK_stepk fun K' hK' => ?_ | refine AW_if fun X Y hX hY => ?_ | refine AW_ret ?_ | refine AW_skip ?_ | refine AW_exit ?_); simp [*]) | with_reducible refine rL hE ?_ | with_reducible refine And.intro ?_ ?_ | omega | (refine imp1 fun h => ?_))
    all_goals simp)
  refine AW_seqx (fun _ => False) (fun t ht => ht.elim) ?_
  intro K hK
  clear hK
  refine AW_block ?_
  refine AW_seqt ⟨[(6, bA false), (0, .loc 1000000 0), (1, iA b)], [(1000000, rnM m 1000001), (1000001, mrowC m.lists)]⟩ ?_ (by
    intro K2 hK2
    repeat' (first
     | (with_reducible first | refine uK ?_ | refine uX ?_ | refine AW_seqk fun K hK => ?_ | refine AW_block ?_) | ((with_reducible first | refine rS hE ?_ | refine RK_nilk ?_ | refine RK_stepk fun K' hK' => ?_ | refine AW_if fun X Y hX hY => ?_ | refine AW_ret ?_ | refine AW_skip ?_ | refine AW_exit ?_); simp [*]) | with_reducible refine rL hE ?_ | with_reducible refine And.intro ?_ ?_ | omega | (refine imp1 fun h => ?_))
    all_goals simp)
  refine AW_if fun X Y hX hY => ?_
  simp
  refine hY.h ?_
  refine AW_seqt ⟨[(9, bA true), (0, .loc 1000000 0), (1, iA b)], [(1000000, rnM m 1000001), (1000001, mrowC m.lists)]⟩ ?_ (by
    intro K2 hK2
    refine AW_drawHd ⟨[(1, iA b)], []⟩ mixed (by simp) fun E' hE' => ?_
    have hEn := hE'.trans hE
    repeat' (first
     | (with_reducible first | refine useK (by assumption) ?_ | refine useK3 (by assumption) ?_) | ((with_reducible show DHd _ _ _ _ _ _ _); first | (refine DHd_done (by decide +kernel) ?_; try simp only [thenK, inBlk]) | (refine dt hEn 0 fun K' hK' => ?_; simp [*]; fail_if_success (with_reducible show False)) | (refine dt hEn 1 fun K' hK' => ?_; simp [*]; fail_if_success (with_reducible show False)) | (refine dt hEn 2 fun K' hK' => ?_; simp [*]; fail_if_success (with_reducible show False)) | (refine dt hEn 3 fun K' hK' => ?_; simp [*]; fail_if_success (with_reducible show False)) | (refine dt hEn 4 fun K' hK' => ?_; simp [*]; fail_if_success (with_reducible show False)) | (refine dt hEn 5 fun K' hK' => ?_; simp [*]; fail_if_success (with_reducible show False)) | (refine dt hEn 6 fun K' hK' => ?_; simp [*]; fail_if_success (with_reducible show False)) | (refine dt hEn 7 fun K' hK' => ?_; simp [*]; fail_if_success (with_reducible show False)) | (refine dt hEn 8 fun K' hK' => ?_; simp [*]; fail_if_success (with_reducible show False)) | (refine dt hEn 9 fun K' hK' => ?_; simp [*]; fail_if_success (with_reducible show False)) | (refine dp hEn 0 fun K' hK' => ?_; simp [*]; fail_if_success (with_reducible show False)) | (refine dp hEn 1 fun K' hK' => ?_; simp [*]; fail_if_success (with_reducible show False)) | (refine dp hEn 2 fun K' hK' => ?_; simp [*]; fail_if_success (with_reducible show False)) | (refine dp hEn 3 fun K' hK' => ?_; simp [*]; fail_if_success (with_reducible show False)) | (refine dp hEn 4 fun K' hK' => ?_; simp [*]; fail_if_success (with_reducible show False)) | (refine dp hEn 5 fun K' hK' => ?_; simp [*]; fail_if_success (with_reducible show False)) | (refine dp hEn 6 fun K' hK' => ?_; simp [*]; fail_if_success (with_reducible show False)) | (refine dp hEn 7 fun K' hK' => ?_; simp [*]; fail_if_success (with_reducible show False)) | (refine dp hEn 8 fun K' hK' => ?_; simp [*]; fail_if_success (with_reducible show False)) | (refine dp hEn 9 fun K' hK' => ?_; simp [*]; fail_if_success (with_reducible show False)) | refine DHd_any rfl (by decide +kernel) ?_) | exact DHsome_nil | refine DHsome_no (by decide +kernel) ?_ | (refine DHsome_yes (by exact rfl) rfl (by rw [hEn]; decide) (fun K' hK' => ?_) ?_; simp [*]; fail_if_success (with_reducible show False)) | (refine DHsome_yesG (by exact rfl) rfl (by exact rfl) (by rw [hEn]; decide) (fun K' hK' => ?_) ?_; simp [*]; fail_if_success (with_reducible show False)) | (refine acall_dv (hs1.out) ⟨dv_m (j := 1000001) (by simp) (by simp), trivial⟩ rfl ?_; simp [*]) | (refine acall_same (hw.out) ?_ ?_ ?_; (focus (simp [*] <;> fail)); (focus (simp [*] <;> fail)); simp [*]) | (refine acall_view (hw.out) ?_ ?_ ?_; (focus (simp [*] <;> fail)); (focus (simp [*] <;> fail)); simp [*]) | with_reducible refine And.intro ?_ ?_ | omega | (with_reducible refine imp1 fun h => ?_))
    all_goals simp)
  repeat' (first
   | (with_reducible first | refine uK ?_ | refine uX ?_ | refine AW_seqk fun K hK => ?_ | refine AW_block ?_) | ((with_reducible first | refine rS hE ?_ | refine RK_nilk ?_ | refine RK_stepk fun K' hK' => ?_ | refine AW_if fun X Y hX hY => ?_ | refine AW_ret ?_ | refine AW_skip ?_ | refine AW_exit ?_); simp [*]) | with_reducible refine rL hE ?_ | with_reducible refine And.intro ?_ ?_ | omega | (refine imp1 fun h => ?_))
  all_goals simp
theorem wrW_kind (m : Sh) (x : Stp) (e : Ed) : (wrW m x e).kind = e.kind := by
  unfold wrW
  repeat' split
  all_goals rfl
theorem edW_kind (m : Sh) (x : Stp) : (edW m x).kind = 1 ∨ (edW m x).kind = 2 ∨ (edW m x).kind = 3 := by
  unfold edW
  split
  · exact .inr (.inr rfl)
  · split
    · exact .inl (wrW_kind _ _ _)
    · exact .inr (.inl (wrW_kind _ _ _))
/-- What an edit leaves of the lists of the beliefs before it. -/
theorem keep {m : Sh} {e : Ed} (hw : WF m) (h : ChkOK m e) (hk : e.kind = 1 ∨ e.kind = 2 ∨ e.kind = 3) (i : Nat) (hi : i < m.lists.length) :
    (inB (m.first + i) (appE m e).first (lastB (appE m e)) = false ∧ e.kind = 3 ∧ m.first + i < e.belief) ∨
    (∃ j : Nat, ∃ hj : j < (appE m e).lists.length, m.first + i = (appE m e).first + j ∧ (¬ (e.kind = 2 ∧ hasAllB m.lists[i] e.rem = true) → (appE m e).lists[j] = m.lists[i])) := by
  obtain ⟨b1, b2, b3, b4⟩ := belief_zero h.belief
  rcases hk with hk | hk | hk
  · have e1 : (appE m e).lists = m.lists ++ [chgM (lastL m) e] := by simp [appE, appB, hk]
    have e2 : (appE m e).first = m.first := by simp [appE, appB, hk]
    rw [e2]
    refine .inr ⟨i, by rw [e1]; simp; omega, rfl, fun _ => ?_⟩
    simp only [e1]
    rw [List.getElem_append_left hi]
  · have e1 : (appE m e).lists = m.lists.map fun l => if hasAllB l e.rem then chgM l e else l := by simp [appE, appB, hk]
    have e2 : (appE m e).first = m.first := by simp [appE, appB, hk]
    rw [e2]
    refine .inr ⟨i, by rw [e1]; simpa using hi, rfl, fun hn => ?_⟩
    simp only [e1, List.getElem_map]
    rw [if_neg (fun g => hn ⟨hk, g⟩)]
  · have e1 : (appE m e).lists = m.lists.drop (e.belief - m.first).toNat := by simp [appE, appB, hk]
    have e2 : (appE m e).first = e.belief := by simp [appE, appB, hk]
    have hb := b3 hk
    simp [inB] at hb
    rcases Classical.em (m.first + i < e.belief) with g | g
    · refine .inl ⟨?_, hk, g⟩
      rw [e2]
      unfold inB
      simp only [decide_eq_false_iff_not]
      omega
    · refine .inr ⟨i - (e.belief - m.first).toNat, ?_, ?_, fun _ => ?_⟩
      · rw [e1]; simp; omega
      · rw [e2]; omega
      · simp only [e1, List.getElem_drop]
        congr 1
        omega
theorem used_ge {m : Sh} {e : Ed} (hk : e.kind = 1 ∨ e.kind = 2 ∨ e.kind = 3) : m.used ≤ (appE m e).used := by
  have h := maxU_ge e.add (appB m e).used
  have h2 : (appB m e).used = m.used := by
    unfold appB
    rcases hk with hk | hk | hk <;> simp [hk]
  rw [h2] at h
  have h3 : (appE m e).used = maxU (appB m e).used e.add := rfl
  rw [h3, h2]
  exact h
set_option maxHeartbeats 4000000 in
theorem law (l : List Stp) (hl : ∀ x ∈ l, StpOK x) (hll : l.length ≤ 9223372036854775807) (x : Stp) (hx : StpOK x) : PSpec Tryd.prog 6 [.sl 10 (l.map encX), encX x] (bA true) := by
  have hkn := Hld.mk s_known
  have hin := run_inv l (min l.length 24) (by omega)
  have hrun := m_run l hl hll
  generalize (runS l (min l.length 24)).2 = d at *
  generalize (runS l (min l.length 24)).1 = m at *
  have hed := Hld.mk (s_edit m x hin.wf hx hin.len hin.each)
  have hok := edW_ok m x
  have hkd := edW_kind m x
  generalize edW m x = e at *
  have hin' := step_inv (e := e) hin (by omega)
  have hm0 := m_apply m e hin.wf hok
  have hfst := Hld.mk (s_first m)
  have hlst := Hld.mk (s_last m hin.wf)
  have hnxt := Hld.mk (s_next m hin.wf)
  have hat := fun (i : Nat) (hi : i < m.lists.length) => m_atI m hin.wf (m.first + i) i hi rfl
  have hgt : chkE m e = 0 → stepE m e = appE m e := fun h => by unfold stepE; rw [if_pos h]
  have hkeep : chkE m e = 0 → ∀ (i : Nat) (hi : i < m.lists.length), (inB (m.first + i) (stepE m e).first (lastB (stepE m e)) = false ∧ e.kind = 3 ∧ m.first + i < e.belief) ∨
      (∃ j : Nat, ∃ hj : j < (stepE m e).lists.length, m.first + i = (stepE m e).first + j ∧ (¬ (e.kind = 2 ∧ hasAllB m.lists[i] e.rem = true) → (stepE m e).lists[j] = m.lists[i])) := by
    intro h i hi
    rw [hgt h]
    exact keep hin.wf (chk_zero h) hkd i hi
  have huse : chkE m e = 0 → m.used ≤ (stepE m e).used := fun h => by rw [hgt h]; exact used_ge hkd
  have hnxt' := Hld.mk (s_next (stepE m e) hin'.wf)
  have hatI' := fun (b : Int) (j : Nat) (hj : j < (stepE m e).lists.length) (hb : b = (stepE m e).first + j) => m_atI (stepE m e) hin'.wf b j hj hb
  have hatN' := fun (b : Int) (hb : inB b (stepE m e).first (lastB (stepE m e)) = false) => m_atN (stepE m e) hin'.wf b hb
  have hlb : lastB m = m.first + (m.lists.length : Int) - 1 := rfl
  have hf0 := hin.wf.first
  have hlen := hin.len
  have hne := hin.wf.ne
  have hwha := fun (i : Nat) (hi : i < m.lists.length) => s_whasAll m.lists[i] e.rem (by have := (hin.wf.srt m.lists[i] (List.getElem_mem hi)).2; omega) (by have := hok.rem; omega)
  have hll' := fun (l : List Seg) (hl : l ∈ m.lists) => (hin.wf.srt l hl).2
  have hll2 := fun (l : List Seg) (hl : l ∈ (stepE m e).lists) => (hin'.wf.srt l hl).2
  clear hgt hin hin' hok
  generalize stepE m e = m' at *
  generalize chkE m e = c at *
  replace hm0 := Hld.mk hm0
  replace hrun := Hld.mk hrun
  replace hat := Hld.mk hat
  replace hatI' := Hld.mk hatI'
  replace hatN' := Hld.mk hatN'
  replace hkeep := Hld.mk hkeep
  replace huse := Hld.mk huse
  replace hlb := Hld.mk hlb
  replace hwha := Hld.mk hwha
  replace hll' := Hld.mk hll'
  replace hll2 := Hld.mk hll2
  refine PSpec_of Tryd.func6 rfl rfl (Nat.le_of_ble_eq_true rfl) (Nat.le_of_ble_eq_true rfl) ?_
  intro E hE
  refine AW_seqt ⟨[(0, .sl 10 (l.map encX)), (3, .loc 3 0), (4, bA false)], [(3, .box 53 (encX x))]⟩ ?_ (by
    intro K hK
    repeat' (first
     | (with_reducible first | refine uK ?_ | refine uX ?_ | refine AW_seqk fun K hK => ?_ | refine AW_block ?_) | ((with_reducible first | refine rS hE ?_ | refine RK_nilk ?_ | refine RK_stepk fun K' hK' => ?_ | refine AW_if fun X Y hX hY => ?_ | refine AW_ret ?_ | refine AW_skip ?_ | refine AW_exit ?_); simp [*]) | with_reducible refine rL hE ?_ | with_reducible refine And.intro ?_ ?_ | omega | (refine imp1 fun h => ?_))
    all_goals simp)
  refine AW_freeze 3 (cb := .box 53 (encX x)) (t := ⟨[(0, .sl 10 (l.map encX)), (3, .ep (encX x)), (4, bA false)], []⟩) (by simp) (by simp) (by simp) ?_
  refine AW_seqt ⟨[(5, .loc 911 0), (6, .loc 6 0), (8, bA true), (3, .ep (encX x)), (4, bA false)], [(6, .box 39 (encH m)), (911, rnM m 912), (912, mrowC m.lists)]⟩ ?_ (by
    intro K hK
    repeat' (first
     | (with_reducible first | refine uK ?_ | refine uX ?_ | refine AW_seqk fun K hK => ?_ | refine AW_block ?_) | ((with_reducible first | refine rS hE ?_ | refine RK_nilk ?_ | refine RK_stepk fun K' hK' => ?_ | refine AW_if fun X Y hX hY => ?_ | refine AW_ret ?_ | refine AW_skip ?_ | refine AW_exit ?_); simp [*]) | with_reducible refine rL hE ?_ | with_reducible refine And.intro ?_ ?_ | omega | (refine imp1 fun h => ?_))
    refine acall_boxes hrun.out (nm []) (nm [(901, 911), (902, 912), (905, 915)]) [(901, rnM m 902), (902, mrowC m.lists), (905, rnE d)] (.tup [.loc 901 0, encH m, .own 905 5 0 d.length, bA true]) (by
      rintro res bf ⟨rfl, h1, h2, h3⟩
      refine ⟨rfl, ?_⟩
      simp
      exact ⟨h1, h2, h3⟩) (by simp) (by simp) (by simp) (by simp) (by simp) (by simp) (by simp) ?_
    simp
    repeat' (first
     | (with_reducible first | refine uK ?_ | refine uX ?_ | refine AW_seqk fun K hK => ?_ | refine AW_block ?_) | ((with_reducible first | refine rS hE ?_ | refine RK_nilk ?_ | refine RK_stepk fun K' hK' => ?_ | refine AW_if fun X Y hX hY => ?_ | refine AW_ret ?_ | refine AW_skip ?_ | refine AW_exit ?_); simp [*]) | with_reducible refine rL hE ?_ | with_reducible refine And.intro ?_ ?_ | omega | (refine imp1 fun h => ?_))
    all_goals simp)
  refine AW_seqt ⟨[(5, .loc 911 0), (6, .loc 6 0), (3, .ep (encX x)), (4, bA false)], [(6, .box 39 (encH m)), (911, rnM m 912), (912, mrowC m.lists)]⟩ ?_ (by
    intro K hK
    repeat' (first
     | (with_reducible first | refine uK ?_ | refine uX ?_ | refine AW_seqk fun K hK => ?_ | refine AW_block ?_) | ((with_reducible first | refine rS hE ?_ | refine RK_nilk ?_ | refine RK_stepk fun K' hK' => ?_ | refine AW_if fun X Y hX hY => ?_ | refine AW_ret ?_ | refine AW_skip ?_ | refine AW_exit ?_); simp [*]) | with_reducible refine rL hE ?_ | (refine acall_same (hkn.out) ?_ ?_ ?_; (iterate 2 (focus (simp [*] <;> fail))); simp [*]) | (refine acall_view (hkn.out) ?_ ?_ ?_; (iterate 2 (focus (simp [*] <;> fail))); simp [*]) | with_reducible refine And.intro ?_ ?_ | omega | (refine imp1 fun h => ?_))
    all_goals simp)
  refine AW_seqt ⟨[(9, .loc 9 0), (5, .loc 911 0), (4, bA false)], [(9, .box 34 (encE e)), (911, rnM m 912), (912, mrowC m.lists)]⟩ ?_ (by
    intro K hK
    repeat' (first
     | (with_reducible first | refine uK ?_ | refine uX ?_ | refine AW_seqk fun K hK => ?_ | refine AW_block ?_) | ((with_reducible first | refine rS hE ?_ | refine RK_nilk ?_ | refine RK_stepk fun K' hK' => ?_ | refine AW_if fun X Y hX hY => ?_ | refine AW_ret ?_ | refine AW_skip ?_ | refine AW_exit ?_); simp [*]) | with_reducible refine rL hE ?_ | (refine acall_same (hed.out) ?_ ?_ ?_; (iterate 2 (focus (simp [*] <;> fail))); simp [*]) | (refine acall_view (hed.out) ?_ ?_ ?_; (iterate 2 (focus (simp [*] <;> fail))); simp [*]) | with_reducible refine And.intro ?_ ?_ | omega | (refine imp1 fun h => ?_))
    all_goals simp)
  refine AW_freeze 9 (cb := .box 34 (encE e)) (t := ⟨[(9, .ep (encE e)), (5, .loc 911 0), (4, bA false)], [(911, rnM m 912), (912, mrowC m.lists)]⟩) (by simp) (by simp) (by simp) ?_
  refine AW_seqt ⟨[(10, .v (.slice none 0 0)), (9, .ep (encE e)), (5, .loc 911 0), (4, bA false)], [(911, rnM m 912), (912, mrowC m.lists)]⟩ ?_ (by
    intro K hK
    repeat' (first
     | (with_reducible first | refine uK ?_ | refine uX ?_ | refine AW_seqk fun K hK => ?_ | refine AW_block ?_) | ((with_reducible first | refine rS hE ?_ | refine RK_nilk ?_ | refine RK_stepk fun K' hK' => ?_ | refine AW_if fun X Y hX hY => ?_ | refine AW_ret ?_ | refine AW_skip ?_ | refine AW_exit ?_); simp [*]) | with_reducible refine rL hE ?_ | with_reducible refine And.intro ?_ ?_ | omega | (refine imp1 fun h => ?_))
    all_goals simp)
  refine AW_mkrow 10 921 32 1 rfl (by simp) (by simp) (by omega) ?_
  -- the lists before
  refine AW_seqt ⟨[(10, .own 921 1 0 m.lists.length), (9, .ep (encE e)), (5, .loc 911 0), (4, bA false)], [(911, rnM m 912), (912, mrowC m.lists), (921, rowO m.lists)]⟩ ?_ ?_
  rotate_left
  · intro K0 hK0
    clear hkeep huse hatI' hatN' hm0
    refine AW_seqt ⟨[(11, iA m.first), (10, .own 921 1 0 0), (9, .ep (encE e)), (5, .loc 911 0), (4, bA false)], [(911, rnM m 912), (912, mrowC m.lists), (921, rowO [])]⟩ ?_ (by
      intro K hK
      repeat' (first
       | (with_reducible first | refine uK ?_ | refine uX ?_ | refine AW_seqk fun K hK => ?_ | refine AW_block ?_) | ((with_reducible first | refine rS hE ?_ | refine RK_nilk ?_ | refine RK_stepk fun K' hK' => ?_ | refine AW_if fun X Y hX hY => ?_ | refine AW_ret ?_ | refine AW_skip ?_ | refine AW_exit ?_); simp [*]) | with_reducible refine rL hE ?_ | with_reducible refine And.intro ?_ ?_ | omega | (refine imp1 fun h => ?_))
      refine acall_dv hfst.out ⟨dv_m (j := 912) (by simp) (by simp), trivial⟩ rfl ?_
      simp
      repeat' (first
       | (with_reducible first | refine uK ?_ | refine uX ?_ | refine AW_seqk fun K hK => ?_ | refine AW_block ?_) | ((with_reducible first | refine rS hE ?_ | refine RK_nilk ?_ | refine RK_stepk fun K' hK' => ?_ | refine AW_if fun X Y hX hY => ?_ | refine AW_ret ?_ | refine AW_skip ?_ | refine AW_exit ?_); simp [*]) | with_reducible refine rL hE ?_ | with_reducible refine And.intro ?_ ?_ | omega | (refine imp1 fun h => ?_))
      all_goals simp)
    refine AW_block ?_
    refine AW_loopk (G := Nat) (fun i => ⟨[(11, iA (m.first + i)), (10, .own 921 1 0 (m.lists.take i).length), (9, .ep (encE e)), (5, .loc 911 0), (4, bA false)], [(911, rnM m 912), (912, mrowC m.lists), (921, rowO (m.lists.take i))]⟩)
      (fun i => i ≤ m.lists.length) (fun i => m.lists.length - i) 0 (by omega) (by simp) ?_
    intro i hi K2 hK2
    have htl : (m.lists.take i).length = i := by simp; omega
    by_cases hlt : i < m.lists.length
    · have hb : m.first + (i : Int) ≤ lastB m := by rw [hlb.out]; omega
      have hai := Hld.mk (hat.out i hlt)
      have hts : m.lists.take (i + 1) = m.lists.take i ++ [m.lists[i]] := List.take_succ_eq_append_getElem hlt
      refine AW_seqt ⟨[(11, iA (m.first + i)), (10, .own 921 1 0 (m.lists.take i).length), (9, .ep (encE e)), (5, .loc 911 0), (4, bA false)], [(911, rnM m 912), (912, mrowC m.lists), (921, rowO (m.lists.take i))]⟩ ?_ (by
        intro K3 hK3
        clear hts htl
        generalize m.lists.take i = T at *
        repeat' (first
         | (with_reducible first | refine uK ?_ | refine uX ?_ | refine AW_seqk fun K hK => ?_ | refine AW_block ?_) | ((with_reducible first | refine rS hE ?_ | refine RK_nilk ?_ | refine RK_stepk fun K' hK' => ?_ | refine AW_if fun X Y hX hY => ?_ | refine AW_ret ?_ | refine AW_skip ?_ | refine AW_exit ?_); simp [*]) | with_reducible refine rL hE ?_ | with_reducible refine And.intro ?_ ?_ | omega | (refine imp1 fun h => ?_))
        refine acall_dv hlst.out ⟨dv_m (j := 912) (by simp) (by simp), trivial⟩ rfl ?_
        simp [hb]
        repeat' (first
         | (with_reducible first | refine uK ?_ | refine uX ?_ | refine AW_seqk fun K hK => ?_ | refine AW_block ?_) | ((with_reducible first | refine rS hE ?_ | refine RK_nilk ?_ | refine RK_stepk fun K' hK' => ?_ | refine AW_if fun X Y hX hY => ?_ | refine AW_ret ?_ | refine AW_skip ?_ | refine AW_exit ?_); simp [*]) | with_reducible refine rL hE ?_ | with_reducible refine And.intro ?_ ?_ | omega | (refine imp1 fun h => ?_))
        all_goals simp)
      clear hb
      refine AW_seqt ⟨[(11, iA (m.first + i)), (10, .own 921 1 0 (m.lists.take (i + 1)).length), (9, .ep (encE e)), (5, .loc 911 0), (4, bA false)], [(911, rnM m 912), (912, mrowC m.lists), (921, rowO (m.lists.take (i + 1)))]⟩ ?_ ?_
      · clear hts htl
        have hadd : m.first + (i : Int) + 1 = m.first + ((i + 1 : Nat) : Int) := by omega
        replace hadd := Hld.mk hadd
        repeat' (first
         | (with_reducible first | refine uK ?_ | refine uX ?_ | refine AW_seqk fun K hK => ?_ | refine AW_block ?_) | ((with_reducible first | refine rS hE ?_ | refine RK_nilk ?_ | refine RK_stepk fun K' hK' => ?_ | refine AW_if fun X Y hX hY => ?_ | refine AW_ret ?_ | refine AW_skip ?_ | refine AW_exit ?_); simp [*]) | with_reducible refine rL hE ?_ | with_reducible refine And.intro ?_ ?_ | omega | (refine imp1 fun h => ?_))
        all_goals exact ⟨i + 1, by omega, by omega, by simp; omega⟩
      intro K3 hK3
      generalize m.lists.take (i + 1) = T1 at *
      generalize m.lists.take i = T at *
      generalize m.lists[i] = L at *
      have htk : List.take (T.length + 1) (List.map segL T ++ [segL L]) = List.map segL T ++ [segL L] := List.take_of_length_le (by simp)
      have htb : T.length ≤ 256 := by omega
      clear htl
      subst hts
      refine AW_block ?_
      refine AW_seqt ⟨[(12, segL L), (11, iA (m.first + i)), (10, .own 921 1 0 T.length), (9, .ep (encE e)), (5, .loc 911 0), (4, bA false)], [(911, rnM m 912), (912, mrowC m.lists), (921, rowO T)]⟩ ?_ (by
        intro K4 hK4
        clear htk
        repeat' (first
         | (with_reducible first | refine uK ?_ | refine uX ?_ | refine AW_seqk fun K hK => ?_ | refine AW_block ?_) | ((with_reducible first | refine rS hE ?_ | refine RK_nilk ?_ | refine RK_stepk fun K' hK' => ?_ | refine AW_if fun X Y hX hY => ?_ | refine AW_ret ?_ | refine AW_skip ?_ | refine AW_exit ?_); simp [*]) | with_reducible refine rL hE ?_ | with_reducible refine And.intro ?_ ?_ | omega | (refine imp1 fun h => ?_))
        refine acall_boxes hai.out (nm [(1000000, 911), (1000001, 912)]) (nm [(1000000, 911), (1000001, 912)]) [(1000000, rnM m 1000001), (1000001, mrowC m.lists)] (.tup [segL L, iA 0]) (by
          rintro res bf ⟨rfl, h1, h2⟩
          refine ⟨rfl, ?_⟩
          simp
          exact ⟨h1, h2⟩) (by simp) (by simp) (by simp) (by simp) (by simp) (by simp) (by simp) ?_
        simp
        repeat' (first
         | (with_reducible first | refine uK ?_ | refine uX ?_ | refine AW_seqk fun K hK => ?_ | refine AW_block ?_) | ((with_reducible first | refine rS hE ?_ | refine RK_nilk ?_ | refine RK_stepk fun K' hK' => ?_ | refine AW_if fun X Y hX hY => ?_ | refine AW_ret ?_ | refine AW_skip ?_ | refine AW_exit ?_); simp [*]) | with_reducible refine rL hE ?_ | with_reducible refine And.intro ?_ ?_ | omega | (refine imp1 fun h => ?_))
        all_goals simp)
      repeat' (first
       | (with_reducible first | refine uK ?_ | refine uX ?_ | refine AW_seqk fun K hK => ?_ | refine AW_block ?_) | ((with_reducible first | refine rS hE ?_ | refine RK_nilk ?_ | refine RK_stepk fun K' hK' => ?_ | refine AW_if fun X Y hX hY => ?_ | refine AW_ret ?_ | refine AW_skip ?_ | refine AW_exit ?_); simp [*]) | with_reducible refine rL hE ?_ | with_reducible refine And.intro ?_ ?_ | omega | (refine imp1 fun h => ?_))
      all_goals simp
    · have hie : i = m.lists.length := by omega
      subst hie
      have hb : ¬ m.first + (m.lists.length : Int) ≤ lastB m := by rw [hlb.out]; omega
      repeat' (first
       | (with_reducible first | refine uK ?_ | refine uX ?_ | refine AW_seqk fun K hK => ?_ | refine AW_block ?_) | ((with_reducible first | refine rS hE ?_ | refine RK_nilk ?_ | refine RK_stepk fun K' hK' => ?_ | refine AW_if fun X Y hX hY => ?_ | refine AW_ret ?_ | refine AW_skip ?_ | refine AW_exit ?_); simp [*]) | with_reducible refine rL hE ?_ | with_reducible refine And.intro ?_ ?_ | omega | (refine imp1 fun h => ?_))
      refine acall_dv hlst.out ⟨dv_m (j := 912) (by simp) (by simp), trivial⟩ rfl ?_
      simp [hb]
      repeat' (first
       | (with_reducible first | refine uK ?_ | refine uX ?_ | refine AW_seqk fun K hK => ?_ | refine AW_block ?_) | ((with_reducible first | refine rS hE ?_ | refine RK_nilk ?_ | refine RK_stepk fun K' hK' => ?_ | refine AW_if fun X Y hX hY => ?_ | refine AW_ret ?_ | refine AW_skip ?_ | refine AW_exit ?_); simp [*]) | with_reducible refine rL hE ?_ | with_reducible refine And.intro ?_ ?_ | omega | (refine imp1 fun h => ?_))
      all_goals simp
  clear hat hrun
  refine AW_freeze 921 (cb := rowO m.lists) (t := ⟨[(10, .sl 1 (m.lists.map segL)), (9, .ep (encE e)), (5, .loc 911 0), (4, bA false)], [(911, rnM m 912), (912, mrowC m.lists)]⟩) (by simp) (by simp) (by simp) ?_
  refine AW_seqt ⟨[(14, iA m.first), (15, iA (m.used + 1)), (10, .sl 1 (m.lists.map segL)), (9, .ep (encE e)), (5, .loc 911 0), (4, bA false)], [(911, rnM m 912), (912, mrowC m.lists)]⟩ ?_ (by
    intro K hK
    repeat' (first
     | (with_reducible first | refine uK ?_ | refine uX ?_ | refine AW_seqk fun K hK => ?_ | refine AW_block ?_) | ((with_reducible first | refine rS hE ?_ | refine RK_nilk ?_ | refine RK_stepk fun K' hK' => ?_ | refine AW_if fun X Y hX hY => ?_ | refine AW_ret ?_ | refine AW_skip ?_ | refine AW_exit ?_); simp [*]) | with_reducible refine rL hE ?_ | with_reducible refine And.intro ?_ ?_ | omega | (refine imp1 fun h => ?_))
    refine acall_dv hfst.out ⟨dv_m (j := 912) (by simp) (by simp), trivial⟩ rfl ?_
    simp
    repeat' (first
     | (with_reducible first | refine uK ?_ | refine uX ?_ | refine AW_seqk fun K hK => ?_ | refine AW_block ?_) | ((with_reducible first | refine rS hE ?_ | refine RK_nilk ?_ | refine RK_stepk fun K' hK' => ?_ | refine AW_if fun X Y hX hY => ?_ | refine AW_ret ?_ | refine AW_skip ?_ | refine AW_exit ?_); simp [*]) | with_reducible refine rL hE ?_ | with_reducible refine And.intro ?_ ?_ | omega | (refine imp1 fun h => ?_))
    refine acall_dv hnxt.out ⟨dv_m (j := 912) (by simp) (by simp), trivial⟩ rfl ?_
    simp
    repeat' (first
     | (with_reducible first | refine uK ?_ | refine uX ?_ | refine AW_seqk fun K hK => ?_ | refine AW_block ?_) | ((with_reducible first | refine rS hE ?_ | refine RK_nilk ?_ | refine RK_stepk fun K' hK' => ?_ | refine AW_if fun X Y hX hY => ?_ | refine AW_ret ?_ | refine AW_skip ?_ | refine AW_exit ?_); simp [*]) | with_reducible refine rL hE ?_ | with_reducible refine And.intro ?_ ?_ | omega | (refine imp1 fun h => ?_))
    all_goals simp)
  by_cases hc : c = 0
  case neg =>
    repeat' (first
     | (with_reducible first | refine uK ?_ | refine uX ?_ | refine AW_seqk fun K hK => ?_ | refine AW_block ?_) | ((with_reducible first | refine rS hE ?_ | refine RK_nilk ?_ | refine RK_stepk fun K' hK' => ?_ | refine AW_if fun X Y hX hY => ?_ | refine AW_ret ?_ | refine AW_skip ?_ | refine AW_exit ?_); simp [*]) | with_reducible refine rL hE ?_ | with_reducible refine And.intro ?_ ?_ | omega | (refine imp1 fun h => ?_))
    refine acall_boxes hm0.out (nm [(1000000, 911), (1000001, 912)]) (nm [(1000000, 911), (900, 913)]) [(1000000, mboxC m'.first m'.used m'.lists.length 900), (900, mrowC m'.lists)] (iA c) (by
      rintro res bf ⟨rfl, h1, h2⟩
      refine ⟨rfl, ?_⟩
      simp
      exact ⟨h1, h2⟩) (by simp) (by simp) (by simp) (by simp) (by simp) (by simp) (by simp) ?_
    simp
    repeat' (first
     | (with_reducible first | refine uK ?_ | refine uX ?_ | refine AW_seqk fun K hK => ?_ | refine AW_block ?_) | ((with_reducible first | refine rS hE ?_ | refine RK_nilk ?_ | refine RK_stepk fun K' hK' => ?_ | refine AW_if fun X Y hX hY => ?_ | refine AW_ret ?_ | refine AW_skip ?_ | refine AW_exit ?_); simp [*]) | with_reducible refine rL hE ?_ | with_reducible refine And.intro ?_ ?_ | omega | (refine imp1 fun h => ?_))
  have hkp := Hld.mk (hkeep.out hc)
  have hus := huse.out hc
  clear hkeep huse
  subst hc
  refine AW_seqt ⟨[(14, iA m.first), (15, iA (m.used + 1)), (10, .sl 1 (m.lists.map segL)), (9, .ep (encE e)), (5, .loc 911 0), (4, bA false)], [(911, rnM m' 913), (913, mrowC m'.lists)]⟩ ?_ (by
    intro K hK
    repeat' (first
     | (with_reducible first | refine uK ?_ | refine uX ?_ | refine AW_seqk fun K hK => ?_ | refine AW_block ?_) | ((with_reducible first | refine rS hE ?_ | refine RK_nilk ?_ | refine RK_stepk fun K' hK' => ?_ | refine AW_if fun X Y hX hY => ?_ | refine AW_ret ?_ | refine AW_skip ?_ | refine AW_exit ?_); simp [*]) | with_reducible refine rL hE ?_ | with_reducible refine And.intro ?_ ?_ | omega | (refine imp1 fun h => ?_))
    refine acall_boxes hm0.out (nm [(1000000, 911), (1000001, 912)]) (nm [(1000000, 911), (900, 913)]) [(1000000, mboxC m'.first m'.used m'.lists.length 900), (900, mrowC m'.lists)] (iA 0) (by
      rintro res bf ⟨rfl, h1, h2⟩
      refine ⟨rfl, ?_⟩
      simp
      exact ⟨h1, h2⟩) (by simp) (by simp) (by simp) (by simp) (by simp) (by simp) (by simp) ?_
    simp
    repeat' (first
     | (with_reducible first | refine uK ?_ | refine uX ?_ | refine AW_seqk fun K hK => ?_ | refine AW_block ?_) | ((with_reducible first | refine rS hE ?_ | refine RK_nilk ?_ | refine RK_stepk fun K' hK' => ?_ | refine AW_if fun X Y hX hY => ?_ | refine AW_ret ?_ | refine AW_skip ?_ | refine AW_exit ?_); simp [*]) | with_reducible refine rL hE ?_ | with_reducible refine And.intro ?_ ?_ | omega | (refine imp1 fun h => ?_))
    all_goals simp)
  refine AW_seqt ⟨[(14, iA m.first), (15, iA (m.used + 1)), (10, .sl 1 (m.lists.map segL)), (9, .ep (encE e)), (5, .loc 911 0), (4, bA false)], [(911, rnM m' 913), (913, mrowC m'.lists)]⟩ ?_ ?_
  · have hle : m.used + 1 ≤ m'.used + 1 := by omega
    repeat' (first
     | (with_reducible first | refine uK ?_ | refine uX ?_ | refine AW_seqk fun K hK => ?_ | refine AW_block ?_) | ((with_reducible first | refine rS hE ?_ | refine RK_nilk ?_ | refine RK_stepk fun K' hK' => ?_ | refine AW_if fun X Y hX hY => ?_ | refine AW_ret ?_ | refine AW_skip ?_ | refine AW_exit ?_); simp [*]) | with_reducible refine rL hE ?_ | with_reducible refine And.intro ?_ ?_ | omega | (refine imp1 fun h => ?_))
    refine acall_dv hnxt'.out ⟨dv_m (j := 913) (by simp) (by simp), trivial⟩ rfl ?_
    simp
    repeat' (first
     | (with_reducible first | refine uK ?_ | refine uX ?_ | refine AW_seqk fun K hK => ?_ | refine AW_block ?_) | ((with_reducible first | refine rS hE ?_ | refine RK_nilk ?_ | refine RK_stepk fun K' hK' => ?_ | refine AW_if fun X Y hX hY => ?_ | refine AW_ret ?_ | refine AW_skip ?_ | refine AW_exit ?_); simp [*]) | with_reducible refine rL hE ?_ | with_reducible refine And.intro ?_ ?_ | omega | (refine imp1 fun h => ?_))
    all_goals simp [hus]
  intro K0 hK0
  repeat' (first
   | (with_reducible first | refine uK ?_ | refine uX ?_ | refine AW_seqk fun K hK => ?_ | refine AW_block ?_) | ((with_reducible first | refine rS hE ?_ | refine RK_nilk ?_ | refine RK_stepk fun K' hK' => ?_ | refine AW_if fun X Y hX hY => ?_ | refine AW_ret ?_ | refine AW_skip ?_ | refine AW_exit ?_); simp [*]) | with_reducible refine rL hE ?_ | with_reducible refine And.intro ?_ ?_ | omega | (refine imp1 fun h => ?_))
  refine AW_loopk (G := Nat) (fun i => ⟨[(16, iA i), (14, iA m.first), (15, iA (m.used + 1)), (10, .sl 1 (m.lists.map segL)), (9, .ep (encE e)), (5, .loc 911 0), (4, bA false)], [(911, rnM m' 913), (913, mrowC m'.lists)]⟩)
    (fun i => i ≤ m.lists.length) (fun i => m.lists.length - i) 0 (by omega) (by simp) ?_
  intro i hi K2 hK2
  by_cases hlt : i < m.lists.length
  · refine AW_seqt ⟨[(16, iA i), (14, iA m.first), (15, iA (m.used + 1)), (10, .sl 1 (m.lists.map segL)), (9, .ep (encE e)), (5, .loc 911 0), (4, bA false)], [(911, rnM m' 913), (913, mrowC m'.lists)]⟩ ?_ (by
      intro K3 hK3
      repeat' (first
       | (with_reducible first | refine uK ?_ | refine uX ?_ | refine AW_seqk fun K hK => ?_ | refine AW_block ?_) | ((with_reducible first | refine rS hE ?_ | refine RK_nilk ?_ | refine RK_stepk fun K' hK' => ?_ | refine AW_if fun X Y hX hY => ?_ | refine AW_ret ?_ | refine AW_skip ?_ | refine AW_exit ?_); simp [*]) | with_reducible refine rL hE ?_ | with_reducible refine And.intro ?_ ?_ | omega | (refine imp1 fun h => ?_))
      all_goals simp)
    refine AW_seqt ⟨[(16, iA i), (14, iA m.first), (15, iA (m.used + 1)), (10, .sl 1 (m.lists.map segL)), (9, .ep (encE e)), (5, .loc 911 0), (4, bA false)], [(911, rnM m' 913), (913, mrowC m'.lists)]⟩ ?_ ?_
    · repeat' (first
       | (with_reducible first | refine uK ?_ | refine uX ?_ | refine AW_seqk fun K hK => ?_ | refine AW_block ?_) | ((with_reducible first | refine rS hE ?_ | refine RK_nilk ?_ | refine RK_stepk fun K' hK' => ?_ | refine AW_if fun X Y hX hY => ?_ | refine AW_ret ?_ | refine AW_skip ?_ | refine AW_exit ?_); simp [*]) | with_reducible refine rL hE ?_ | with_reducible refine And.intro ?_ ?_ | omega | (refine imp1 fun h => ?_))
      all_goals exact ⟨i + 1, by omega, by omega, by simp⟩
    intro K3 hK3
    refine AW_block ?_
    rcases hkp.out i hlt with ⟨hN, hk3, hlt3⟩ | ⟨j, hj, hbj, heq⟩
    · have haN := Hld.mk (hatN'.out (m.first + i) hN)
      refine AW_seqt ⟨[(18, iA 35), (16, iA i), (14, iA m.first), (15, iA (m.used + 1)), (10, .sl 1 (m.lists.map segL)), (9, .ep (encE e)), (5, .loc 911 0), (4, bA false)], [(911, rnM m' 913), (913, mrowC m'.lists)]⟩ ?_ (by
        intro K4 hK4
        repeat' (first
         | (with_reducible first | refine uK ?_ | refine uX ?_ | refine AW_seqk fun K hK => ?_ | refine AW_block ?_) | ((with_reducible first | refine rS hE ?_ | refine RK_nilk ?_ | refine RK_stepk fun K' hK' => ?_ | refine AW_if fun X Y hX hY => ?_ | refine AW_ret ?_ | refine AW_skip ?_ | refine AW_exit ?_); simp [*]) | with_reducible refine rL hE ?_ | with_reducible refine And.intro ?_ ?_ | omega | (refine imp1 fun h => ?_))
        refine acall_boxes haN.out (nm [(1000000, 911), (1000001, 913)]) (nm [(1000000, 911), (1000001, 913)]) [(1000000, rnM m' 1000001), (1000001, mrowC m'.lists)] (.tup [.v (.slice none 0 0), iA 35]) (by
          rintro res bf ⟨rfl, h1, h2⟩
          refine ⟨rfl, ?_⟩
          simp
          exact ⟨h1, h2⟩) (by simp) (by simp) (by simp) (by simp) (by simp) (by simp) (by simp) ?_
        simp
        repeat' (first
         | (with_reducible first | refine uK ?_ | refine uX ?_ | refine AW_seqk fun K hK => ?_ | refine AW_block ?_) | ((with_reducible first | refine rS hE ?_ | refine RK_nilk ?_ | refine RK_stepk fun K' hK' => ?_ | refine AW_if fun X Y hX hY => ?_ | refine AW_ret ?_ | refine AW_skip ?_ | refine AW_exit ?_); simp [*]) | with_reducible refine rL hE ?_ | with_reducible refine And.intro ?_ ?_ | omega | (refine imp1 fun h => ?_))
        all_goals simp)
      have hlt4 : ¬ e.belief ≤ m.first + (i : Int) := by omega
      repeat' (first
       | (with_reducible first | refine uK ?_ | refine uX ?_ | refine AW_seqk fun K hK => ?_ | refine AW_block ?_) | ((with_reducible first | refine rS hE ?_ | refine RK_nilk ?_ | refine RK_stepk fun K' hK' => ?_ | refine AW_if fun X Y hX hY => ?_ | refine AW_ret ?_ | refine AW_skip ?_ | refine AW_exit ?_); simp [*]) | with_reducible refine rL hE ?_ | with_reducible refine And.intro ?_ ?_ | omega | (refine imp1 fun h => ?_))
      all_goals simp
    · have haI := Hld.mk (hatI'.out (m.first + i) j hj hbj)
      clear hbj
      have hwi := Hld.mk (hwha.out i hlt)
      have hsl := hll2.out m'.lists[j] (List.getElem_mem hj)
      have hss := Hld.mk (s_same m'.lists[j] m'.lists[j] hsl hsl)
      rw [decide_eq_true rfl] at hss
      replace heq := Hld.mk heq
      refine AW_seqt ⟨[(17, segL m'.lists[j]), (18, iA 0), (16, iA i), (14, iA m.first), (15, iA (m.used + 1)), (10, .sl 1 (m.lists.map segL)), (9, .ep (encE e)), (5, .loc 911 0), (4, bA false)], [(911, rnM m' 913), (913, mrowC m'.lists)]⟩ ?_ (by
        intro K4 hK4
        repeat' (first
         | (with_reducible first | refine uK ?_ | refine uX ?_ | refine AW_seqk fun K hK => ?_ | refine AW_block ?_) | ((with_reducible first | refine rS hE ?_ | refine RK_nilk ?_ | refine RK_stepk fun K' hK' => ?_ | refine AW_if fun X Y hX hY => ?_ | refine AW_ret ?_ | refine AW_skip ?_ | refine AW_exit ?_); simp [*]) | with_reducible refine rL hE ?_ | with_reducible refine And.intro ?_ ?_ | omega | (refine imp1 fun h => ?_))
        refine acall_boxes haI.out (nm [(1000000, 911), (1000001, 913)]) (nm [(1000000, 911), (1000001, 913)]) [(1000000, rnM m' 1000001), (1000001, mrowC m'.lists)] (.tup [segL m'.lists[j], iA 0]) (by
          rintro res bf ⟨rfl, h1, h2⟩
          refine ⟨rfl, ?_⟩
          simp
          exact ⟨h1, h2⟩) (by simp) (by simp) (by simp) (by simp) (by simp) (by simp) (by simp) ?_
        simp
        repeat' (first
         | (with_reducible first | refine uK ?_ | refine uX ?_ | refine AW_seqk fun K hK => ?_ | refine AW_block ?_) | ((with_reducible first | refine rS hE ?_ | refine RK_nilk ?_ | refine RK_stepk fun K' hK' => ?_ | refine AW_if fun X Y hX hY => ?_ | refine AW_ret ?_ | refine AW_skip ?_ | refine AW_exit ?_); simp [*]) | with_reducible refine rL hE ?_ | with_reducible refine And.intro ?_ ?_ | omega | (refine imp1 fun h => ?_))
        all_goals simp)
      refine AW_seqt ⟨[(17, segL m'.lists[j]), (16, iA i), (14, iA m.first), (15, iA (m.used + 1)), (10, .sl 1 (m.lists.map segL)), (9, .ep (encE e)), (5, .loc 911 0), (4, bA false)], [(911, rnM m' 913), (913, mrowC m'.lists)]⟩ ?_ (by
        intro K4 hK4
        repeat' (first
         | (with_reducible first | refine uK ?_ | refine uX ?_ | refine AW_seqk fun K hK => ?_ | refine AW_block ?_) | ((with_reducible first | refine rS hE ?_ | refine RK_nilk ?_ | refine RK_stepk fun K' hK' => ?_ | refine AW_if fun X Y hX hY => ?_ | refine AW_ret ?_ | refine AW_skip ?_ | refine AW_exit ?_); simp [*]) | with_reducible refine rL hE ?_ | with_reducible refine And.intro ?_ ?_ | omega | (refine imp1 fun h => ?_))
        all_goals simp)
      by_cases hk2 : e.kind = 2
      · rcases hha : hasAllB m.lists[i] e.rem with _ | _
        · have hq := heq.out (by rw [hha]; simp)
          rw [hha] at hwi
          clear heq hha
          rw [hq] at hss ⊢
          repeat' (first
           | (with_reducible first | refine useK (by assumption) ?_ | refine useK2 (by assumption) ?_ | refine useX (by assumption) ?_ | refine AW_seqk fun K hK => ?_ | refine AW_block ?_) | (with_reducible refine AW_regionS rfl (by rw [hE]; decide) ?_; simp [*]) | with_reducible refine AW_region (by rw [hE]; decide) ?_ | ((with_reducible show RK _ _ _ _ _ _); first | (refine RK_nilk ?_; simp [*]) | (refine RK_stepk fun K' hK' => ?_; simp [*])) | with_reducible refine AW_drawq mixed (by rw [hE]; decide) (by simp [newOK]) ?_ | ((with_reducible show RKQ _ _ _ _ _ _); first | refine RKQ_nilk ⟨by decide, ?_⟩ | (refine RKQ_stepk fun K' hK' => ?_; simp [*])) | ((with_reducible first | refine AW_if fun X Y hX hY => ?_ | refine AW_ret ?_ | refine AW_skip ?_ | refine AW_exit ?_); simp [*]) | ((first | refine acall_same (hwi.out) ?_ ?_ ?_ | refine call_same (hwi.out) ?_ ?_ ?_); (focus (simp [*] <;> fail)); (focus (simp [*] <;> fail)); simp [*]) | ((first | refine acall_view (hwi.out) ?_ ?_ ?_ | refine call_view (hwi.out) ?_ ?_ ?_); (focus (simp [*] <;> fail)); (focus (simp [*] <;> fail)); simp [*]) | ((first | refine acall_same (hss.out) ?_ ?_ ?_ | refine call_same (hss.out) ?_ ?_ ?_); (focus (simp [*] <;> fail)); (focus (simp [*] <;> fail)); simp [*]) | ((first | refine acall_view (hss.out) ?_ ?_ ?_ | refine call_view (hss.out) ?_ ?_ ?_); (focus (simp [*] <;> fail)); (focus (simp [*] <;> fail)); simp [*]) | with_reducible refine And.intro ?_ ?_ | omega | (refine imp1 fun h => ?_))
          all_goals simp
        · rw [hha] at hwi
          clear heq hha
          repeat' (first
           | (with_reducible first | refine useK (by assumption) ?_ | refine useK2 (by assumption) ?_ | refine useX (by assumption) ?_ | refine AW_seqk fun K hK => ?_ | refine AW_block ?_) | (with_reducible refine AW_regionS rfl (by rw [hE]; decide) ?_; simp [*]) | with_reducible refine AW_region (by rw [hE]; decide) ?_ | ((with_reducible show RK _ _ _ _ _ _); first | (refine RK_nilk ?_; simp [*]) | (refine RK_stepk fun K' hK' => ?_; simp [*])) | with_reducible refine AW_drawq mixed (by rw [hE]; decide) (by simp [newOK]) ?_ | ((with_reducible show RKQ _ _ _ _ _ _); first | refine RKQ_nilk ⟨by decide, ?_⟩ | (refine RKQ_stepk fun K' hK' => ?_; simp [*])) | ((with_reducible first | refine AW_if fun X Y hX hY => ?_ | refine AW_ret ?_ | refine AW_skip ?_ | refine AW_exit ?_); simp [*]) | ((first | refine acall_same (hwi.out) ?_ ?_ ?_ | refine call_same (hwi.out) ?_ ?_ ?_); (focus (simp [*] <;> fail)); (focus (simp [*] <;> fail)); simp [*]) | ((first | refine acall_view (hwi.out) ?_ ?_ ?_ | refine call_view (hwi.out) ?_ ?_ ?_); (focus (simp [*] <;> fail)); (focus (simp [*] <;> fail)); simp [*]) | with_reducible refine And.intro ?_ ?_ | omega | (refine imp1 fun h => ?_))
          all_goals simp
      · have hq := heq.out (fun g => hk2 g.1)
        clear heq hwi
        rw [hq] at hss ⊢
        repeat' (first
         | (with_reducible first | refine useK (by assumption) ?_ | refine useK2 (by assumption) ?_ | refine useX (by assumption) ?_ | refine AW_seqk fun K hK => ?_ | refine AW_block ?_) | (with_reducible refine AW_regionS rfl (by rw [hE]; decide) ?_; simp [*]) | with_reducible refine AW_region (by rw [hE]; decide) ?_ | ((with_reducible show RK _ _ _ _ _ _); first | (refine RK_nilk ?_; simp [*]) | (refine RK_stepk fun K' hK' => ?_; simp [*])) | with_reducible refine AW_drawq mixed (by rw [hE]; decide) (by simp [newOK]) ?_ | ((with_reducible show RKQ _ _ _ _ _ _); first | refine RKQ_nilk ⟨by decide, ?_⟩ | (refine RKQ_stepk fun K' hK' => ?_; simp [*])) | ((with_reducible first | refine AW_if fun X Y hX hY => ?_ | refine AW_ret ?_ | refine AW_skip ?_ | refine AW_exit ?_); simp [*]) | ((first | refine acall_same (hss.out) ?_ ?_ ?_ | refine call_same (hss.out) ?_ ?_ ?_); (focus (simp [*] <;> fail)); (focus (simp [*] <;> fail)); simp [*]) | ((first | refine acall_view (hss.out) ?_ ?_ ?_ | refine call_view (hss.out) ?_ ?_ ?_); (focus (simp [*] <;> fail)); (focus (simp [*] <;> fail)); simp [*]) | with_reducible refine And.intro ?_ ?_ | omega | (refine imp1 fun h => ?_))
        all_goals simp
  · have hie : i = m.lists.length := by omega
    subst hie
    repeat' (first
     | (with_reducible first | refine uK ?_ | refine uX ?_ | refine AW_seqk fun K hK => ?_ | refine AW_block ?_) | ((with_reducible first | refine rS hE ?_ | refine RK_nilk ?_ | refine RK_stepk fun K' hK' => ?_ | refine AW_if fun X Y hX hY => ?_ | refine AW_ret ?_ | refine AW_skip ?_ | refine AW_exit ?_); simp [*]) | with_reducible refine rL hE ?_ | with_reducible refine And.intro ?_ ?_ | omega | (refine imp1 fun h => ?_))
    all_goals simp
theorem spec (avs : List AV) (h : ShapeL Tryd.prog 6 Tryd.f6.params.toList avs) : PSpec Tryd.prog 6 avs (.v (.bool true)) := by
  rw [Tryd.params6] at h
  obtain ⟨c1, r1, rfl, h1, c2, r2, rfl, h2, rfl⟩ := h
  obtain ⟨l, rfl, hl, hll⟩ := avXs h1
  obtain ⟨x, hx, hxo⟩ := avX h2
  rw [hx, show mkAV Tryd.prog 30 [.sl 10 (l.map encX)] = .sl 10 (l.map encX) by simp [mkAV]]
  exact law l hl hll x hxo
theorem contract (H : Type) (enc : TypeId × Value → H) (W : World) (base : Nat) (args : Array Value) (ds gs : List (DataW H)) (before : List MemPlace)
    (hval : ∀ (j : Nat) t v, Tryd.f6.params[j]? = some t → args[j]? = some v → Value.okWide Tryd.prog W .any base t v)
    (hW : DataW.Whole enc Tryd.prog Tryd.f6.params.toList Rows.manifestKeepsSpec.vars false W args.toList ds gs before) :
    Calls Tryd.prog 6 args W fun e W' => ∃ v, e = .returned v ∧ Rows.manifestKeepsSpec.post enc Tryd.prog Tryd.f6 false true false false W args v W' :=
  law_contract (m := 6) (tb := 4) spec (by rw [Tryd.params6]; intro t ht; simp at ht; rcases ht with rfl | rfl <;> kernel_rfl) rfl laidK
    (by rw [Tryd.params6]; intro t ht; simp at ht; rcases ht with rfl | rfl <;> exact ⟨by kernel_rfl, by decide +kernel⟩)
    (fun ds hd => by
      rw [Tryd.params6] at hd
      match ds, hd with
      | [d1, d2], _ => rfl) (by kernel_rfl) Tryd.underlying4 hval hW
theorem lifted (os : Os) (started : os.Started) (H : Type) (enc : TypeId × Value → H) :
    ReturnsInHanded {} Tryd.checked os 6 .any (fun w args => (Rows.manifestKeepsSpec.pre enc Tryd.prog Tryd.f6 [] false w args ∧ laidMetH Tryd.prog laid3 w) ∧ sizedMet enc Tryd.prog Tryd.f6 (OpenSpec.ofChange Rows.manifestKeepsSpec) false w args) (Rows.manifestKeepsSpec.post enc Tryd.prog Tryd.f6 false true false false) := by
  refine returnsInHanded_of_change_and (C := Tryd.checked) (X := fun w _ => laidMetH Tryd.prog laid3 w) (fun _ _ _ hh h => h.of_heap hh) ownK started (by kernel_rfl) Tryd.func6
    (ChangeSpec.witness_shaped (enc := enc) (C := Tryd.checked) (os := os) (X := fun w _ => laidMetH Tryd.prog laid3 w) false (World.doorLaid Tryd.prog 400 os) #[.slice .none 0 0, .agg #[.int .u8 0, .int .u8 0, .int .u8 0, .int .u8 0, .int .i8 0, .int .i8 0, .int .i8 0, .int .i8 0, .int .i8 0, .int .i8 0]] 8 rfl (World.shaped_of_RefB (by kernel_rfl) (by kernel_rfl)) (by kernel_rfl) (by kernel_rfl) (by kernel_rfl) (door_met os _)) ?_
  intro W base args ds gs before hval hW _ _ _ _
  exact contract H enc W base args ds gs before hval hW
theorem bare : Rows.ManifestKeepsSaid :=
  OpenClaim.holds_of_wide 6 Tryd.f6 rfl rfl rfl rfl rfl rfl rfl ⟨rfl, rfl, rfl, rfl, rfl⟩ rfl rfl rfl rfl rfl (by kernel_rfl) Tryd.func6 (by kernel_rfl)
    (of_decide_eq_true (by kernel_rfl)) (by unfold Func.isWrapper; first | (rw [if_pos (by decide +kernel)]; kernel_rfl) | (rw [if_neg (by decide +kernel)]; exact ⟨rfl, rfl⟩))
    (fun os started H enc _ => lifted os started H enc)
theorem said : Rows.ManifestKeepsCardSaid :=
  Claim7.holds_tied_plain_at .later [] [.data, .data, .data] true (true, "bed98e2bdd95d3798d9478b6aad4cae063d4204527223458f55f11a21005a8ff") false
    bare (fun _ h => by cases h) (by kernel_rfl) (fun _ h => by cases h) manifestKeeps_row_tie rfl ⟨rfl, rfl⟩ (by kernel_rfl) rfl
    (fun f fn hf hfn => by
      obtain rfl : f = 6 := Option.some.inj ((show Tryd.prog.funcNamed "viator/viatorlaw40.ManifestKeeps" = some 6 by kernel_rfl).symm.trans hf) |>.symm
      obtain rfl : fn = Tryd.f6 := (Option.some.inj (Tryd.func6.symm.trans hfn)).symm
      exact ⟨by kernel_rfl, fun j t ht => by
        rw [Tryd.params6] at ht
        have hm : t ∈ Tryd.f6.params.toList := by rw [Tryd.params6]; simpa using Array.mem_of_getElem? ht
        have hall : (Tryd.f6.params.toList.all fun u => !Tryd.prog.wantsStandIn u) = true := by kernel_rfl
        exact (show Tryd.prog.wantsStandIn t = false by simpa using List.all_eq_true.1 hall t hm)⟩)
    (by kernel_rfl)
end L4
end Go.Proofs.YtbibemijcdkjhaaDoor
