/- ReportOrderless: for any list of reports and any two numbers the law hands back true. Conditions: none. -/
import Derived.Test.YtmjckbokjjnmeaaZ5
set_option maxRecDepth 100000
set_option linter.unusedSimpArgs false
set_option linter.unusedVariables false
namespace Go.Proofs.Ytmjckbokjjnmeaa
open Go.Am Go.RowKit Go.ChangeShapes Go.WideShapes Go.ChangeAt

namespace L12
/-- The list turned: the law's m behind so many rounds. -/
def turn (l : List R) (b : Nat) : Nat → List R
  | 0 => []
  | i + 1 => l.getD ((i + b) % l.length) default :: turn l b i
theorem turn_len (l : List R) (b : Nat) : ∀ i, (turn l b i).length = i
  | 0 => rfl
  | i + 1 => by simp [turn, turn_len l b i]
theorem mem_turn {l : List R} {b : Nat} {x : R} : ∀ {i : Nat}, x ∈ turn l b i ↔ ∃ j < i, x = l.getD ((j + b) % l.length) default
  | 0 => by simp [turn]
  | i + 1 => by
    simp only [turn, List.mem_cons, mem_turn (i := i)]
    constructor
    · rintro (rfl | ⟨j, hj, rfl⟩)
      · exact ⟨i, by omega, rfl⟩
      · exact ⟨j, by omega, rfl⟩
    · rintro ⟨j, hj, rfl⟩
      by_cases h : j = i
      · subst h; exact .inl rfl
      · exact .inr ⟨j, by omega, rfl⟩
theorem mem_turn_all {l : List R} (b : Nat) (h0 : 0 < l.length) (x : R) : x ∈ turn l b l.length ↔ x ∈ l := by
  rw [mem_turn]
  constructor
  · rintro ⟨j, hj, rfl⟩
    have := Nat.mod_lt (j + b) h0
    rw [List.getD_eq_getElem?_getD, List.getElem?_eq_getElem this, Option.getD_some]
    exact List.getElem_mem this
  · intro hx
    obtain ⟨k, hk, rfl⟩ := List.getElem_of_mem hx
    -- j with (j + b) mod n = k
    have hb := Nat.mod_lt b h0
    refine ⟨(k + (l.length - b % l.length)) % l.length, Nat.mod_lt _ h0, ?_⟩
    have e : ((k + (l.length - b % l.length)) % l.length + b) % l.length = k := by
      rw [Nat.mod_add_mod, Nat.add_assoc, Nat.add_mod, ← Nat.add_mod]
      have h1 : k + (l.length - b % l.length + b) = k + l.length * (1 + b / l.length) := by
        have := Nat.mod_add_div b l.length
        rw [Nat.mul_add]
        omega
      rw [h1, Nat.add_mul_mod_self_left, Nat.mod_eq_of_lt hk]
    rw [e, List.getD_eq_getElem?_getD, List.getElem?_eq_getElem hk, Option.getD_some]
theorem missL_len {h : List Int} {last most : Int} : ∀ {f : Nat} {n : Int} {out : List Int}, out.length ≤ most.toNat → (missL h last most f n out).length ≤ most.toNat
  | 0, _, _, hl => hl
  | f + 1, n, out, hl => by
    simp only [missL]
    split
    · rename_i hc
      refine missL_len ?_
      split
      · exact hl
      · rw [List.length_append, List.length_singleton]; omega
    · exact hl
theorem obj_len (l : List R) : (objR l).length ≤ l.length := by
  unfold objR
  have h := dd_lenI (l := (cntR l).map R.o) (i := ((cntR l).map R.o).length) (Nat.le_refl _)
  rw [List.take_length] at h
  rw [List.length_map] at h
  exact Nat.le_trans h (cntR_len l)
set_option maxHeartbeats 8000000 in
theorem s (l : List R) (b t : Nat) (hw : ∀ r ∈ l, WF r) (hb : b ≤ 255) (ht : t ≤ 255) : PSpec Try.prog 12 [.sl 8 (l.map encR), .v (.int .u8 b), .v (.int .u8 t)] (bA true) := by
  by_cases h1 : l.length ≤ 20
  · by_cases h0 : 0 < l.length
    · have hne : l ≠ [] := List.length_pos_iff.1 h0
      have hbs : ∀ r ∈ l, r.s ≤ 9223372036854775807 := fun r hr => (hw r hr).2.2
      have i1 : b % l.length < l.length := Nat.mod_lt _ h0
      have i2 : t % l.length < l.length := Nat.mod_lt _ h0
      obtain ⟨B, hB⟩ : ∃ B, B = turn l b l.length ++ [l[t % l.length]] := ⟨_, rfl⟩
      have hBl : B.length ≤ 21 := by rw [hB, List.length_append, turn_len]; simp; omega
      have hm : ∀ x, x ∈ l ↔ x ∈ B := by
        intro x
        rw [hB, List.mem_append, mem_turn_all b h0]
        constructor
        · exact .inl
        · rintro (h | h)
          · exact h
          · simp at h; subst h; exact List.getElem_mem i2
      have hbs2 : ∀ r ∈ B, r.s ≤ 9223372036854775807 := fun r hr => hbs r ((hm r).2 hr)
      obtain ⟨r, hr⟩ : ∃ r, r = l[b % l.length] := ⟨_, rfl⟩
      have a1 := s25 l (by omega)
      have a2 : PSpec Try.prog 25 [.sl 8 (B.map encR)] (.sl 8 ((setR l).map encR)) := by rw [setR_congr hm]; exact s25 B (by omega)
      have a3 := s18 l (by omega)
      have a4 : PSpec Try.prog 18 [.sl 8 (B.map encR)] (.sl 8 ((cntR l).map encR)) := by rw [cntR_congr hm]; exact s18 B (by omega)
      have a5 := s32 l (by omega)
      have a6 : PSpec Try.prog 32 [.sl 8 (B.map encR)] (.sl 1 ((objR l).map iA)) := by rw [objR_congr hm]; exact s32 B (by omega)
      have a7 := s22 l r (by omega)
      have a8 : PSpec Try.prog 22 [.sl 8 (B.map encR), encR r] (iA (statusR l r)) := by rw [statusR_congr hm]; exact s22 B r (by omega)
      have a9 := s34 l r.o (by omega)
      have b1 : PSpec Try.prog 34 [.sl 8 (B.map encR), iA r.o] (.sl 8 ((ofR l r.o).map encR)) := by rw [ofR_congr hm]; exact s34 B r.o (by omega)
      have b2 := s24 l r.o 9 (by omega) hbs (by omega)
      have b3 : PSpec Try.prog 24 [.sl 8 (B.map encR), iA r.o, iA 9] (.sl 1 ((missing l r.o 9).map iA)) := by rw [missing_congr hm]; exact s24 B r.o 9 (by omega) hbs2 (by omega)
      have b4 : PSpec Try.prog 35 [.sl 8 (l.map encR), .sl 8 (B.map encR)] (.sl 1 []) := by have := s35 l B (by omega) (by omega); rw [chgR_nil (cntR_congr hm)] at this; exact this
      have c1 := setR_len l
      have c2 := cntR_len l
      have c3 := ofR_len l r.o
      have d1 := s17 (setR l) (setR l) (by omega)
      have d2 := s17 (cntR l) (cntR l) (by omega)
      have d3 := s17 (ofR l r.o) (ofR l r.o) (by omega)
      have d4 := s23 (objR l) (objR l) (by have := obj_len l; omega)
      have d5 := s23 (missing l r.o 9) (missing l r.o 9) (by have : (missing l r.o 9).length ≤ (9 : Int).toNat := missL_len (by simp); omega)
      obtain ⟨M, hM⟩ : ∃ M, M = turn l b := ⟨_, rfl⟩
      have hM0 : M 0 = [] := by rw [hM]; rfl
      have hMl : ∀ i : Nat, (M i).length = i := by intro i; rw [hM]; exact turn_len l b i
      have hMs : ∀ i : Nat, ∃ j, ∃ hj : j < l.length, Int.tmod ((i : Int) + (b : Int)) (l.length : Int) = (j : Int) ∧ M (i + 1) = l[j] :: M i := by
        intro i
        have hj := Nat.mod_lt (i + b) h0
        refine ⟨(i + b) % l.length, hj, ?_, ?_⟩
        · rw [Int.tmod_eq_emod_of_nonneg (by omega)]; simp
        · rw [hM]
          simp only [turn]
          rw [List.getD_eq_getElem?_getD, List.getElem?_eq_getElem hj, Option.getD_some]
      rw [← hM] at hB
      obtain ⟨jb, hjb, e1, e2⟩ : ∃ j, ∃ hj : j < l.length, Int.tmod (b : Int) (l.length : Int) = (j : Int) ∧ r = l[j] := ⟨_, i1, by rw [Int.tmod_eq_emod_of_nonneg (by omega)]; simp, hr⟩
      obtain ⟨jt, hjt, e3, e4⟩ : ∃ j, ∃ hj : j < l.length, Int.tmod (t : Int) (l.length : Int) = (j : Int) ∧ B = M l.length ++ [l[j]] := ⟨_, i2, by rw [Int.tmod_eq_emod_of_nonneg (by omega)]; simp, hB⟩
      have w1 : IntKind.wrap .i64 (b : Int) = b := wrap_in _ (by show (-9223372036854775808 : Int) ≤ _; omega) (by show _ ≤ (9223372036854775807 : Int); omega)
      have w2 : IntKind.wrap .i64 (t : Int) = t := wrap_in _ (by show (-9223372036854775808 : Int) ≤ _; omega) (by show _ ≤ (9223372036854775807 : Int); omega)
      clear hM hB hr hm hbs hbs2 hw c1 c2 c3 i1 i2
      replace a1 := Hld.mk a1
      replace a2 := Hld.mk a2
      replace a3 := Hld.mk a3
      replace a4 := Hld.mk a4
      replace a5 := Hld.mk a5
      replace a6 := Hld.mk a6
      replace a7 := Hld.mk a7
      replace a8 := Hld.mk a8
      replace a9 := Hld.mk a9
      replace b1 := Hld.mk b1
      replace b2 := Hld.mk b2
      replace b3 := Hld.mk b3
      replace b4 := Hld.mk b4
      replace d1 := Hld.mk d1
      replace d2 := Hld.mk d2
      replace d3 := Hld.mk d3
      replace d4 := Hld.mk d4
      replace d5 := Hld.mk d5
      replace hMs := Hld.mk hMs
      replace e2 := Hld.mk e2
      replace e4 := Hld.mk e4
      refine PSpec_of Try.func12 rfl rfl (Nat.le_of_ble_eq_true rfl) (Nat.le_of_ble_eq_true rfl) ?_
      intro E hE
      refine AW_seqk fun K hK => ?_
      refine AW_region (by rw [hE]; decide) ?_
      simp
      refine useK (by assumption) ?_
      clear hK
      refine AW_seqt ⟨[(0, .sl 8 (l.map encR)), (1, .v (.int .u8 b)), (2, .v (.int .u8 t))], []⟩ ?_ ?_
      rotate_left
      · intro K hK
        repeat' (first
          | with_reducible refine useK (by assumption) ?_
          | with_reducible refine useK2 (by assumption) ?_
          | with_reducible refine useX (by assumption) ?_
          | with_reducible refine AW_seqk fun K hK => ?_
          | (with_reducible refine AW_regionS rfl (by rw [hE]; decide) ?_; simp [*])
          | with_reducible refine AW_region (by rw [hE]; decide) ?_
          | ((with_reducible show RK _ _ _ _ _ _); refine RK_nilk ?_; simp [*])
          | ((with_reducible show RK _ _ _ _ _ _); refine RK_stepk fun K' hK' => ?_; simp [*])
          | with_reducible refine AW_drawq mixed (by rw [hE]; decide) (by simp [newOK]) ?_
          | ((with_reducible show RKQ _ _ _ _ _ _); refine RKQ_nilk ⟨by decide, ?_⟩)
          | ((with_reducible show RKQ _ _ _ _ _ _); refine RKQ_stepk fun K' hK' => ?_; simp [*])
          | (with_reducible refine AW_if fun X Y hX hY => ?_; simp [*])
          | with_reducible refine AW_block ?_
          | (with_reducible refine AW_ret ?_; simp [*])
          | (with_reducible refine AW_skip ?_; simp [*])
          | (with_reducible refine AW_exit ?_; simp [*])
          | (refine acall_same (s14) ?_ ?_ ?_; (focus (simp [*] <;> fail)); (focus (simp [*] <;> fail)); simp [*])
          | (refine call_same (s14) ?_ ?_ ?_; (focus (simp [*] <;> fail)); (focus (simp [*] <;> fail)); simp [*])
          | (refine acall_view (s14) ?_ ?_ ?_; (focus (simp [*] <;> fail)); (focus (simp [*] <;> fail)); simp [*])
          | (refine call_view (s14) ?_ ?_ ?_; (focus (simp [*] <;> fail)); (focus (simp [*] <;> fail)); simp [*])
          | with_reducible refine And.intro ?_ ?_
          | omega
          | (refine imp1 fun h => ?_))
        all_goals simp
      refine AW_seqk fun K hK => ?_
      refine AW_region (by rw [hE]; decide) ?_
      simp
      refine useK (by assumption) ?_
      clear hK
      refine AW_seqt ⟨[(7, .own 39 8 0 (M l.length).length), (0, .sl 8 (l.map encR)), (1, .v (.int .u8 b)), (2, .v (.int .u8 t))], [(39, .arr 23 8 ((M l.length).map encR))]⟩ ?_ ?_
      rotate_left
      · intro K hK
        repeat' (first
          | with_reducible refine useK (by assumption) ?_
          | with_reducible refine useK2 (by assumption) ?_
          | with_reducible refine useX (by assumption) ?_
          | with_reducible refine AW_seqk fun K hK => ?_
          | (with_reducible refine AW_regionS rfl (by rw [hE]; decide) ?_; simp [*])
          | with_reducible refine AW_region (by rw [hE]; decide) ?_
          | ((with_reducible show RK _ _ _ _ _ _); refine RK_nilk ?_; simp [*])
          | ((with_reducible show RK _ _ _ _ _ _); refine RK_stepk fun K' hK' => ?_; simp [*])
          | with_reducible refine AW_drawq mixed (by rw [hE]; decide) (by simp [newOK]) ?_
          | ((with_reducible show RKQ _ _ _ _ _ _); refine RKQ_nilk ⟨by decide, ?_⟩)
          | ((with_reducible show RKQ _ _ _ _ _ _); refine RKQ_stepk fun K' hK' => ?_; simp [*])
          | (with_reducible refine AW_if fun X Y hX hY => ?_; simp [*])
          | with_reducible refine AW_block ?_
          | (with_reducible refine AW_ret ?_; simp [*])
          | (with_reducible refine AW_skip ?_; simp [*])
          | (with_reducible refine AW_exit ?_; simp [*])
          | with_reducible refine And.intro ?_ ?_
          | omega
          | (refine imp1 fun h => ?_))
        refine AW_mkrow 7 39 23 8 (by simp) (by simp) (by simp) (by omega) ?_
        refine AW_loopk (G := Nat) (fun i => ⟨[(8, iA i), (7, .own 39 8 0 (M i).length), (0, .sl 8 (l.map encR)), (1, .v (.int .u8 b)), (2, .v (.int .u8 t))], [(39, .arr 23 8 ((M i).map encR))]⟩)
          (fun i => i ≤ l.length) (fun i => l.length - i) 0 (by simp) (by simp [hM0]) ?_
        intro i hi K hK
        have hMi : (M i).length ≤ 20 := by rw [hMl i]; omega
        clear hMl hM0
        by_cases hlt : i < l.length
        · obtain ⟨j, hj, g1, g2⟩ := hMs.out i
          replace g2 := Hld.mk g2
          clear hMs e1 e3
          refine AW_ren 39 60 (t := ⟨[(8, iA i), (7, .own 60 8 0 (M i).length), (0, .sl 8 (l.map encR)), (1, .v (.int .u8 b)), (2, .v (.int .u8 t))], [(60, .arr 23 8 ((M i).map encR))]⟩) rfl (by simp) (by omega) (by simp) (by simp) ?_
          repeat' (first
            | with_reducible refine useK (by assumption) ?_
            | with_reducible refine useK2 (by assumption) ?_
            | with_reducible refine useX (by assumption) ?_
            | with_reducible refine AW_seqk fun K hK => ?_
            | (with_reducible refine AW_regionS rfl (by rw [hE]; decide) ?_; simp [*])
            | with_reducible refine AW_region (by rw [hE]; decide) ?_
            | ((with_reducible show RK _ _ _ _ _ _); refine RK_nilk ?_; simp [*])
            | ((with_reducible show RK _ _ _ _ _ _); refine RK_stepk fun K' hK' => ?_; simp [*])
            | with_reducible refine AW_drawq mixed (by rw [hE]; decide) (by simp [newOK]) ?_
            | ((with_reducible show RKQ _ _ _ _ _ _); refine RKQ_nilk ⟨by decide, ?_⟩)
            | ((with_reducible show RKQ _ _ _ _ _ _); refine RKQ_stepk fun K' hK' => ?_; simp [*])
            | (with_reducible refine AW_if fun X Y hX hY => ?_; simp [*])
            | with_reducible refine AW_block ?_
            | (with_reducible refine AW_ret ?_; simp [*])
            | (with_reducible refine AW_skip ?_; simp [*])
            | (with_reducible refine AW_exit ?_; simp [*])
            | with_reducible refine And.intro ?_ ?_
            | omega
            | (refine imp1 fun h => ?_))
          all_goals exact ⟨i + 1, by omega, by omega, by simp [g2.out]; try omega⟩
        · obtain rfl : i = l.length := by omega
          clear hMs
          repeat' (first
            | with_reducible refine useK (by assumption) ?_
            | with_reducible refine useK2 (by assumption) ?_
            | with_reducible refine useX (by assumption) ?_
            | with_reducible refine AW_seqk fun K hK => ?_
            | (with_reducible refine AW_regionS rfl (by rw [hE]; decide) ?_; simp [*])
            | with_reducible refine AW_region (by rw [hE]; decide) ?_
            | ((with_reducible show RK _ _ _ _ _ _); refine RK_nilk ?_; simp [*])
            | ((with_reducible show RK _ _ _ _ _ _); refine RK_stepk fun K' hK' => ?_; simp [*])
            | with_reducible refine AW_drawq mixed (by rw [hE]; decide) (by simp [newOK]) ?_
            | ((with_reducible show RKQ _ _ _ _ _ _); refine RKQ_nilk ⟨by decide, ?_⟩)
            | ((with_reducible show RKQ _ _ _ _ _ _); refine RKQ_stepk fun K' hK' => ?_; simp [*])
            | (with_reducible refine AW_if fun X Y hX hY => ?_; simp [*])
            | with_reducible refine AW_block ?_
            | (with_reducible refine AW_ret ?_; simp [*])
            | (with_reducible refine AW_skip ?_; simp [*])
            | (with_reducible refine AW_exit ?_; simp [*])
            | with_reducible refine And.intro ?_ ?_
            | omega
            | (refine imp1 fun h => ?_))
          all_goals simp
      have hMi : (M l.length).length ≤ 20 := by rw [hMl]; omega
      clear hMl hM0 hMs
      refine AW_seqt ⟨[(7, .own 39 8 0 B.length), (0, .sl 8 (l.map encR)), (1, .v (.int .u8 b))], [(39, .arr 23 8 (B.map encR))]⟩ ?_ ?_
      rotate_left
      · intro K hK
        repeat' (first
          | with_reducible refine useK (by assumption) ?_
          | with_reducible refine useK2 (by assumption) ?_
          | with_reducible refine useX (by assumption) ?_
          | with_reducible refine AW_seqk fun K hK => ?_
          | (with_reducible refine AW_regionS rfl (by rw [hE]; decide) ?_; simp [*])
          | with_reducible refine AW_region (by rw [hE]; decide) ?_
          | ((with_reducible show RK _ _ _ _ _ _); refine RK_nilk ?_; simp [*])
          | ((with_reducible show RK _ _ _ _ _ _); refine RK_stepk fun K' hK' => ?_; simp [*])
          | with_reducible refine AW_drawq mixed (by rw [hE]; decide) (by simp [newOK]) ?_
          | ((with_reducible show RKQ _ _ _ _ _ _); refine RKQ_nilk ⟨by decide, ?_⟩)
          | ((with_reducible show RKQ _ _ _ _ _ _); refine RKQ_stepk fun K' hK' => ?_; simp [*])
          | (with_reducible refine AW_if fun X Y hX hY => ?_; simp [*])
          | with_reducible refine AW_block ?_
          | (with_reducible refine AW_ret ?_; simp [*])
          | (with_reducible refine AW_skip ?_; simp [*])
          | (with_reducible refine AW_exit ?_; simp [*])
          | with_reducible refine And.intro ?_ ?_
          | omega
          | (refine imp1 fun h => ?_))
        all_goals simp [e4.out, *]
      refine AW_seqt ⟨[(7, .own 39 8 0 B.length), (0, .sl 8 (l.map encR)), (9, .loc 9 0)], [(39, .arr 23 8 (B.map encR)), (9, .box 23 (encR r))]⟩ ?_ ?_
      rotate_left
      · intro K hK
        repeat' (first
          | with_reducible refine useK (by assumption) ?_
          | with_reducible refine useK2 (by assumption) ?_
          | with_reducible refine useX (by assumption) ?_
          | with_reducible refine AW_seqk fun K hK => ?_
          | (with_reducible refine AW_regionS rfl (by rw [hE]; decide) ?_; simp [*])
          | with_reducible refine AW_region (by rw [hE]; decide) ?_
          | ((with_reducible show RK _ _ _ _ _ _); refine RK_nilk ?_; simp [*])
          | ((with_reducible show RK _ _ _ _ _ _); refine RK_stepk fun K' hK' => ?_; simp [*])
          | with_reducible refine AW_drawq mixed (by rw [hE]; decide) (by simp [newOK]) ?_
          | ((with_reducible show RKQ _ _ _ _ _ _); refine RKQ_nilk ⟨by decide, ?_⟩)
          | ((with_reducible show RKQ _ _ _ _ _ _); refine RKQ_stepk fun K' hK' => ?_; simp [*])
          | (with_reducible refine AW_if fun X Y hX hY => ?_; simp [*])
          | with_reducible refine AW_block ?_
          | (with_reducible refine AW_ret ?_; simp [*])
          | (with_reducible refine AW_skip ?_; simp [*])
          | (with_reducible refine AW_exit ?_; simp [*])
          | with_reducible refine And.intro ?_ ?_
          | omega
          | (refine imp1 fun h => ?_))
        all_goals simp [e2.out, *]
      refine AW_freeze 39 (t := ⟨[(7, .sl 8 (B.map encR)), (0, .sl 8 (l.map encR)), (9, .loc 9 0)], [(9, .box 23 (encR r))]⟩) rfl (by simp) (by simp) ?_
      clear e1 e2 e3 e4 w1 w2 hMi
      repeat' (first
        | with_reducible refine useK (by assumption) ?_
        | with_reducible refine useK2 (by assumption) ?_
        | with_reducible refine useX (by assumption) ?_
        | with_reducible refine AW_seqk fun K hK => ?_
        | (with_reducible refine AW_regionS rfl (by rw [hE]; decide) ?_; simp [*])
        | with_reducible refine AW_region (by rw [hE]; decide) ?_
        | ((with_reducible show RK _ _ _ _ _ _); refine RK_nilk ?_; simp [*])
        | ((with_reducible show RK _ _ _ _ _ _); refine RK_stepk fun K' hK' => ?_; simp [*])
        | with_reducible refine AW_drawq mixed (by rw [hE]; decide) (by simp [newOK]) ?_
        | ((with_reducible show RKQ _ _ _ _ _ _); refine RKQ_nilk ⟨by decide, ?_⟩)
        | ((with_reducible show RKQ _ _ _ _ _ _); refine RKQ_stepk fun K' hK' => ?_; simp [*])
        | (with_reducible refine AW_if fun X Y hX hY => ?_; simp [*])
        | with_reducible refine AW_block ?_
        | (with_reducible refine AW_ret ?_; simp [*])
        | (with_reducible refine AW_skip ?_; simp [*])
        | (with_reducible refine AW_exit ?_; simp [*])
        | (refine acall_same (a1.out) ?_ ?_ ?_; (focus (simp [*] <;> fail)); (focus (simp [*] <;> fail)); simp [*])
        | (refine call_same (a1.out) ?_ ?_ ?_; (focus (simp [*] <;> fail)); (focus (simp [*] <;> fail)); simp [*])
        | (refine acall_view (a1.out) ?_ ?_ ?_; (focus (simp [*] <;> fail)); (focus (simp [*] <;> fail)); simp [*])
        | (refine call_view (a1.out) ?_ ?_ ?_; (focus (simp [*] <;> fail)); (focus (simp [*] <;> fail)); simp [*])
        | (refine acall_same (a2.out) ?_ ?_ ?_; (focus (simp [*] <;> fail)); (focus (simp [*] <;> fail)); simp [*])
        | (refine call_same (a2.out) ?_ ?_ ?_; (focus (simp [*] <;> fail)); (focus (simp [*] <;> fail)); simp [*])
        | (refine acall_view (a2.out) ?_ ?_ ?_; (focus (simp [*] <;> fail)); (focus (simp [*] <;> fail)); simp [*])
        | (refine call_view (a2.out) ?_ ?_ ?_; (focus (simp [*] <;> fail)); (focus (simp [*] <;> fail)); simp [*])
        | (refine acall_same (a3.out) ?_ ?_ ?_; (focus (simp [*] <;> fail)); (focus (simp [*] <;> fail)); simp [*])
        | (refine call_same (a3.out) ?_ ?_ ?_; (focus (simp [*] <;> fail)); (focus (simp [*] <;> fail)); simp [*])
        | (refine acall_view (a3.out) ?_ ?_ ?_; (focus (simp [*] <;> fail)); (focus (simp [*] <;> fail)); simp [*])
        | (refine call_view (a3.out) ?_ ?_ ?_; (focus (simp [*] <;> fail)); (focus (simp [*] <;> fail)); simp [*])
        | (refine acall_same (a4.out) ?_ ?_ ?_; (focus (simp [*] <;> fail)); (focus (simp [*] <;> fail)); simp [*])
        | (refine call_same (a4.out) ?_ ?_ ?_; (focus (simp [*] <;> fail)); (focus (simp [*] <;> fail)); simp [*])
        | (refine acall_view (a4.out) ?_ ?_ ?_; (focus (simp [*] <;> fail)); (focus (simp [*] <;> fail)); simp [*])
        | (refine call_view (a4.out) ?_ ?_ ?_; (focus (simp [*] <;> fail)); (focus (simp [*] <;> fail)); simp [*])
        | (refine acall_same (a5.out) ?_ ?_ ?_; (focus (simp [*] <;> fail)); (focus (simp [*] <;> fail)); simp [*])
        | (refine call_same (a5.out) ?_ ?_ ?_; (focus (simp [*] <;> fail)); (focus (simp [*] <;> fail)); simp [*])
        | (refine acall_view (a5.out) ?_ ?_ ?_; (focus (simp [*] <;> fail)); (focus (simp [*] <;> fail)); simp [*])
        | (refine call_view (a5.out) ?_ ?_ ?_; (focus (simp [*] <;> fail)); (focus (simp [*] <;> fail)); simp [*])
        | (refine acall_same (a6.out) ?_ ?_ ?_; (focus (simp [*] <;> fail)); (focus (simp [*] <;> fail)); simp [*])
        | (refine call_same (a6.out) ?_ ?_ ?_; (focus (simp [*] <;> fail)); (focus (simp [*] <;> fail)); simp [*])
        | (refine acall_view (a6.out) ?_ ?_ ?_; (focus (simp [*] <;> fail)); (focus (simp [*] <;> fail)); simp [*])
        | (refine call_view (a6.out) ?_ ?_ ?_; (focus (simp [*] <;> fail)); (focus (simp [*] <;> fail)); simp [*])
        | (refine acall_same (a7.out) ?_ ?_ ?_; (focus (simp [*] <;> fail)); (focus (simp [*] <;> fail)); simp [*])
        | (refine call_same (a7.out) ?_ ?_ ?_; (focus (simp [*] <;> fail)); (focus (simp [*] <;> fail)); simp [*])
        | (refine acall_view (a7.out) ?_ ?_ ?_; (focus (simp [*] <;> fail)); (focus (simp [*] <;> fail)); simp [*])
        | (refine call_view (a7.out) ?_ ?_ ?_; (focus (simp [*] <;> fail)); (focus (simp [*] <;> fail)); simp [*])
        | (refine acall_same (a8.out) ?_ ?_ ?_; (focus (simp [*] <;> fail)); (focus (simp [*] <;> fail)); simp [*])
        | (refine call_same (a8.out) ?_ ?_ ?_; (focus (simp [*] <;> fail)); (focus (simp [*] <;> fail)); simp [*])
        | (refine acall_view (a8.out) ?_ ?_ ?_; (focus (simp [*] <;> fail)); (focus (simp [*] <;> fail)); simp [*])
        | (refine call_view (a8.out) ?_ ?_ ?_; (focus (simp [*] <;> fail)); (focus (simp [*] <;> fail)); simp [*])
        | (refine acall_same (a9.out) ?_ ?_ ?_; (focus (simp [*] <;> fail)); (focus (simp [*] <;> fail)); simp [*])
        | (refine call_same (a9.out) ?_ ?_ ?_; (focus (simp [*] <;> fail)); (focus (simp [*] <;> fail)); simp [*])
        | (refine acall_view (a9.out) ?_ ?_ ?_; (focus (simp [*] <;> fail)); (focus (simp [*] <;> fail)); simp [*])
        | (refine call_view (a9.out) ?_ ?_ ?_; (focus (simp [*] <;> fail)); (focus (simp [*] <;> fail)); simp [*])
        | (refine acall_same (b1.out) ?_ ?_ ?_; (focus (simp [*] <;> fail)); (focus (simp [*] <;> fail)); simp [*])
        | (refine call_same (b1.out) ?_ ?_ ?_; (focus (simp [*] <;> fail)); (focus (simp [*] <;> fail)); simp [*])
        | (refine acall_view (b1.out) ?_ ?_ ?_; (focus (simp [*] <;> fail)); (focus (simp [*] <;> fail)); simp [*])
        | (refine call_view (b1.out) ?_ ?_ ?_; (focus (simp [*] <;> fail)); (focus (simp [*] <;> fail)); simp [*])
        | (refine acall_same (b2.out) ?_ ?_ ?_; (focus (simp [*] <;> fail)); (focus (simp [*] <;> fail)); simp [*])
        | (refine call_same (b2.out) ?_ ?_ ?_; (focus (simp [*] <;> fail)); (focus (simp [*] <;> fail)); simp [*])
        | (refine acall_view (b2.out) ?_ ?_ ?_; (focus (simp [*] <;> fail)); (focus (simp [*] <;> fail)); simp [*])
        | (refine call_view (b2.out) ?_ ?_ ?_; (focus (simp [*] <;> fail)); (focus (simp [*] <;> fail)); simp [*])
        | (refine acall_same (b3.out) ?_ ?_ ?_; (focus (simp [*] <;> fail)); (focus (simp [*] <;> fail)); simp [*])
        | (refine call_same (b3.out) ?_ ?_ ?_; (focus (simp [*] <;> fail)); (focus (simp [*] <;> fail)); simp [*])
        | (refine acall_view (b3.out) ?_ ?_ ?_; (focus (simp [*] <;> fail)); (focus (simp [*] <;> fail)); simp [*])
        | (refine call_view (b3.out) ?_ ?_ ?_; (focus (simp [*] <;> fail)); (focus (simp [*] <;> fail)); simp [*])
        | (refine acall_same (b4.out) ?_ ?_ ?_; (focus (simp [*] <;> fail)); (focus (simp [*] <;> fail)); simp [*])
        | (refine call_same (b4.out) ?_ ?_ ?_; (focus (simp [*] <;> fail)); (focus (simp [*] <;> fail)); simp [*])
        | (refine acall_view (b4.out) ?_ ?_ ?_; (focus (simp [*] <;> fail)); (focus (simp [*] <;> fail)); simp [*])
        | (refine call_view (b4.out) ?_ ?_ ?_; (focus (simp [*] <;> fail)); (focus (simp [*] <;> fail)); simp [*])
        | (refine acall_same (d1.out) ?_ ?_ ?_; (focus (simp [*] <;> fail)); (focus (simp [*] <;> fail)); simp [*])
        | (refine call_same (d1.out) ?_ ?_ ?_; (focus (simp [*] <;> fail)); (focus (simp [*] <;> fail)); simp [*])
        | (refine acall_view (d1.out) ?_ ?_ ?_; (focus (simp [*] <;> fail)); (focus (simp [*] <;> fail)); simp [*])
        | (refine call_view (d1.out) ?_ ?_ ?_; (focus (simp [*] <;> fail)); (focus (simp [*] <;> fail)); simp [*])
        | (refine acall_same (d2.out) ?_ ?_ ?_; (focus (simp [*] <;> fail)); (focus (simp [*] <;> fail)); simp [*])
        | (refine call_same (d2.out) ?_ ?_ ?_; (focus (simp [*] <;> fail)); (focus (simp [*] <;> fail)); simp [*])
        | (refine acall_view (d2.out) ?_ ?_ ?_; (focus (simp [*] <;> fail)); (focus (simp [*] <;> fail)); simp [*])
        | (refine call_view (d2.out) ?_ ?_ ?_; (focus (simp [*] <;> fail)); (focus (simp [*] <;> fail)); simp [*])
        | (refine acall_same (d3.out) ?_ ?_ ?_; (focus (simp [*] <;> fail)); (focus (simp [*] <;> fail)); simp [*])
        | (refine call_same (d3.out) ?_ ?_ ?_; (focus (simp [*] <;> fail)); (focus (simp [*] <;> fail)); simp [*])
        | (refine acall_view (d3.out) ?_ ?_ ?_; (focus (simp [*] <;> fail)); (focus (simp [*] <;> fail)); simp [*])
        | (refine call_view (d3.out) ?_ ?_ ?_; (focus (simp [*] <;> fail)); (focus (simp [*] <;> fail)); simp [*])
        | (refine acall_same (d4.out) ?_ ?_ ?_; (focus (simp [*] <;> fail)); (focus (simp [*] <;> fail)); simp [*])
        | (refine call_same (d4.out) ?_ ?_ ?_; (focus (simp [*] <;> fail)); (focus (simp [*] <;> fail)); simp [*])
        | (refine acall_view (d4.out) ?_ ?_ ?_; (focus (simp [*] <;> fail)); (focus (simp [*] <;> fail)); simp [*])
        | (refine call_view (d4.out) ?_ ?_ ?_; (focus (simp [*] <;> fail)); (focus (simp [*] <;> fail)); simp [*])
        | (refine acall_same (d5.out) ?_ ?_ ?_; (focus (simp [*] <;> fail)); (focus (simp [*] <;> fail)); simp [*])
        | (refine call_same (d5.out) ?_ ?_ ?_; (focus (simp [*] <;> fail)); (focus (simp [*] <;> fail)); simp [*])
        | (refine acall_view (d5.out) ?_ ?_ ?_; (focus (simp [*] <;> fail)); (focus (simp [*] <;> fail)); simp [*])
        | (refine call_view (d5.out) ?_ ?_ ?_; (focus (simp [*] <;> fail)); (focus (simp [*] <;> fail)); simp [*])
        | with_reducible refine And.intro ?_ ?_
        | omega
        | (refine imp1 fun h => ?_))
    · have hl : l = [] := List.eq_nil_of_length_eq_zero (by omega)
      subst hl
      refine PSpec_of Try.func12 rfl rfl (Nat.le_of_ble_eq_true rfl) (Nat.le_of_ble_eq_true rfl) ?_
      intro E hE
      repeat' (first
        | with_reducible refine useK (by assumption) ?_
        | with_reducible refine useK2 (by assumption) ?_
        | with_reducible refine useX (by assumption) ?_
        | with_reducible refine AW_seqk fun K hK => ?_
        | (with_reducible refine AW_regionS rfl (by rw [hE]; decide) ?_; simp [*])
        | with_reducible refine AW_region (by rw [hE]; decide) ?_
        | ((with_reducible show RK _ _ _ _ _ _); refine RK_nilk ?_; simp [*])
        | ((with_reducible show RK _ _ _ _ _ _); refine RK_stepk fun K' hK' => ?_; simp [*])
        | with_reducible refine AW_drawq mixed (by rw [hE]; decide) (by simp [newOK]) ?_
        | ((with_reducible show RKQ _ _ _ _ _ _); refine RKQ_nilk ⟨by decide, ?_⟩)
        | ((with_reducible show RKQ _ _ _ _ _ _); refine RKQ_stepk fun K' hK' => ?_; simp [*])
        | (with_reducible refine AW_if fun X Y hX hY => ?_; simp [*])
        | with_reducible refine AW_block ?_
        | (with_reducible refine AW_ret ?_; simp [*])
        | (with_reducible refine AW_skip ?_; simp [*])
        | (with_reducible refine AW_exit ?_; simp [*])
        | (refine acall_same (s14) ?_ ?_ ?_; (focus (simp [*] <;> fail)); (focus (simp [*] <;> fail)); simp [*])
        | (refine call_same (s14) ?_ ?_ ?_; (focus (simp [*] <;> fail)); (focus (simp [*] <;> fail)); simp [*])
        | (refine acall_view (s14) ?_ ?_ ?_; (focus (simp [*] <;> fail)); (focus (simp [*] <;> fail)); simp [*])
        | (refine call_view (s14) ?_ ?_ ?_; (focus (simp [*] <;> fail)); (focus (simp [*] <;> fail)); simp [*])
        | with_reducible refine And.intro ?_ ?_
        | omega
        | (refine imp1 fun h => ?_))
  · refine PSpec_of Try.func12 rfl rfl (Nat.le_of_ble_eq_true rfl) (Nat.le_of_ble_eq_true rfl) ?_
    intro E hE
    repeat' (first
      | with_reducible refine useK (by assumption) ?_
      | with_reducible refine useK2 (by assumption) ?_
      | with_reducible refine useX (by assumption) ?_
      | with_reducible refine AW_seqk fun K hK => ?_
      | (with_reducible refine AW_regionS rfl (by rw [hE]; decide) ?_; simp [*])
      | with_reducible refine AW_region (by rw [hE]; decide) ?_
      | ((with_reducible show RK _ _ _ _ _ _); refine RK_nilk ?_; simp [*])
      | ((with_reducible show RK _ _ _ _ _ _); refine RK_stepk fun K' hK' => ?_; simp [*])
      | with_reducible refine AW_drawq mixed (by rw [hE]; decide) (by simp [newOK]) ?_
      | ((with_reducible show RKQ _ _ _ _ _ _); refine RKQ_nilk ⟨by decide, ?_⟩)
      | ((with_reducible show RKQ _ _ _ _ _ _); refine RKQ_stepk fun K' hK' => ?_; simp [*])
      | (with_reducible refine AW_if fun X Y hX hY => ?_; simp [*])
      | with_reducible refine AW_block ?_
      | (with_reducible refine AW_ret ?_; simp [*])
      | (with_reducible refine AW_skip ?_; simp [*])
      | (with_reducible refine AW_exit ?_; simp [*])
      | (refine acall_same (s14) ?_ ?_ ?_; (focus (simp [*] <;> fail)); (focus (simp [*] <;> fail)); simp [*])
      | (refine call_same (s14) ?_ ?_ ?_; (focus (simp [*] <;> fail)); (focus (simp [*] <;> fail)); simp [*])
      | (refine acall_view (s14) ?_ ?_ ?_; (focus (simp [*] <;> fail)); (focus (simp [*] <;> fail)); simp [*])
      | (refine call_view (s14) ?_ ?_ ?_; (focus (simp [*] <;> fail)); (focus (simp [*] <;> fail)); simp [*])
      | with_reducible refine And.intro ?_ ?_
      | omega
      | (refine imp1 fun h => ?_))
theorem spec (avs : List AV) (h : ShapeL Try.prog 6 Try.f12.params.toList avs) : PSpec Try.prog 12 avs (.v (.bool true)) := by
  rw [Try.params12] at h
  obtain ⟨c1, r1, rfl, h1, c2, r2, rfl, h2, c3, r3, rfl, h3, rfl⟩ := h
  obtain ⟨a, ha, hw, -⟩ := avRs h1
  obtain ⟨b, hb, hb0, hb1⟩ := avB h2
  obtain ⟨c, hc, hc0, hc1⟩ := avB h3
  rw [ha, hb, hc]
  have := s a b.toNat c.toNat hw (by omega) (by omega)
  rw [Int.toNat_of_nonneg hb0, Int.toNat_of_nonneg hc0] at this
  exact this
theorem contract (H : Type) (enc : TypeId × Value → H) (W : World) (base : Nat) (args : Array Value) (ds gs : List (DataW H)) (before : List MemPlace)
    (hval : ∀ (j : Nat) t v, Try.f12.params[j]? = some t → args[j]? = some v → Value.okWide Try.prog W .any base t v)
    (hW : DataW.Whole enc Try.prog Try.f12.params.toList Rows.reportOrderlessSpec.vars false W args.toList ds gs before) :
    Calls Try.prog 12 args W fun e W' => ∃ v, e = .returned v ∧ Rows.reportOrderlessSpec.post enc Try.prog Try.f12 false true false false W args v W' :=
  law_contract (m := 6) (tb := 4) spec (by rw [Try.params12]; intro t ht; simp at ht; rcases ht with rfl | rfl | rfl <;> kernel_rfl) rfl laidK
    (by rw [Try.params12]; intro t ht; simp at ht; rcases ht with rfl | rfl | rfl <;> exact ⟨by kernel_rfl, by decide +kernel⟩)
    (fun ds hd => by
      rw [Try.params12] at hd
      match ds, hd with
      | [d1, d2, d3], _ => rfl) (by kernel_rfl) Try.underlying4 hval hW
theorem lifted (os : Os) (started : os.Started) (H : Type) (enc : TypeId × Value → H) :
    ReturnsInHanded {} Try.checked os 12 .any (Rows.reportOrderlessSpec.pre6 enc Try.prog Try.f12 Rows.reportOrderlessRow.domain false) (Rows.reportOrderlessSpec.post enc Try.prog Try.f12 false true false false) := by
  refine returnsInHanded_of_change (C := Try.checked) ownK started (by kernel_rfl) Try.func12
    (ChangeSpec.witness6 (enc := enc) (C := Try.checked) false ⟨#[], #[.slice .none 0 0, .int .u8 0, .int .u8 0], []⟩ 8 (by kernel_rfl) (by kernel_rfl) (by kernel_rfl) (by kernel_rfl)) ?_
  intro W base args ds gs before hval hW hcnd _
  exact contract H enc W base args ds gs before hval hW
theorem said : Rows.ReportOrderlessSaid :=
  OpenClaim.holds_of_wide 12 Try.f12 rfl rfl rfl rfl rfl rfl rfl ⟨rfl, rfl, rfl, rfl, rfl⟩ rfl rfl rfl rfl rfl (by kernel_rfl) Try.func12 (by kernel_rfl)
    (of_decide_eq_true (by kernel_rfl)) (by unfold Func.isWrapper; first | (rw [if_pos (by decide +kernel)]; kernel_rfl) | (rw [if_neg (by decide +kernel)]; exact ⟨rfl, rfl⟩))
    (fun os started H enc _ => lifted os started H enc)
end L12
end Go.Proofs.Ytmjckbokjjnmeaa
