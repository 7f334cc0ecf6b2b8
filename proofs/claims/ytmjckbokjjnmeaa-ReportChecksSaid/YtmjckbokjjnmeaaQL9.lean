/- ReportChecks: for any report and any exchange the law hands back true. Conditions: none. -/
import Derived.Test.YtmjckbokjjnmeaaZ5
set_option maxRecDepth 100000
set_option linter.unusedSimpArgs false
set_option linter.unusedVariables false
namespace Go.Proofs.Ytmjckbokjjnmeaa
open Go.Am Go.RowKit Go.ChangeShapes Go.WideShapes Go.ChangeAt

theorem avX {n : Nat} {cs : List AV} (h : ShapeC Try.prog (n + 2) 39 cs) : ∃ x : XC, mkAV Try.prog 39 cs = encX x := by
  simp [ShapeC, ShapeF] at h
  obtain ⟨_, _, rfl, ⟨a, rfl, -⟩, -, h⟩ := h
  obtain ⟨_, _, rfl, ⟨b, rfl, -⟩, -, h⟩ := h
  obtain ⟨_, _, rfl, ⟨c, rfl, -⟩, -, h⟩ := h
  obtain ⟨_, _, rfl, ⟨d, rfl, -⟩, -, h⟩ := h
  obtain ⟨_, _, rfl, ⟨e, rfl, -⟩, -, rfl⟩ := h
  exact ⟨⟨a, b, c, d, e⟩, by simp [mkAV, encX]⟩
theorem outI_not (a b n : Int) : outI a b n = !decide (a ≤ n ∧ n ≤ b) := by
  unfold outI
  by_cases h1 : n < a <;> by_cases h2 : b < n <;> simp [h1, h2] <;> omega
@[simp] theorem cells_encX (x : XC) : (encX x).cells = [iA x.f, iA x.t, iA x.s, iA x.r, iA x.l] := rfl
@[simp] theorem isSt_encX (x : XC) : (encX x).isSt = true := rfl
@[simp] theorem sto_encX (x : XC) : (encX x).sto = true := rfl
@[simp] theorem idf_encX (x : XC) : (encX x).idf = true := rfl
@[simp] theorem flat_encX (x : XC) : (encX x).flat = true := rfl
@[simp] theorem ment_encX (d : Nat) (x : XC) : (encX x).ment d = false := by simp [encX]
@[simp] theorem idsOf_encX (x : XC) : idsOf (encX x) = [] := by simp [encX]
def wantR (r : R) : Int := if ¬ (1 ≤ r.o ∧ r.o ≤ 1073741824) then 27 else if ¬ (0 ≤ r.s ∧ r.s ≤ 1073741824) ∨ ¬ (0 ≤ r.v ∧ r.v ≤ 1073741824) ∨ ¬ (0 ≤ r.d ∧ r.d ≤ 1073741824) then 2 else if ¬ (0 ≤ r.t ∧ r.t ≤ 1073741824) then 26 else if ¬ (-1048576 ≤ r.x ∧ r.x ≤ 1048576) ∨ ¬ (-1048576 ≤ r.y ∧ r.y ≤ 1048576) then 2 else 0
theorem chkR_eq (r : R) : chkR r = wantR r := by
  unfold chkR wantR
  simp only [outI_not, Bool.or_eq_true, Bool.not_eq_true', decide_eq_false_iff_not, or_assoc]
def otherX (x : XC) : Int := if ¬ (0 ≤ x.f ∧ x.f ≤ 1073741824) ∨ ¬ (0 ≤ x.t ∧ x.t ≤ 1073741824) then 2 else if x.f = x.t then 8 else if ¬ (0 ≤ x.s ∧ x.s ≤ 1073741824) ∨ ¬ (0 ≤ x.r ∧ x.r ≤ 1073741824) ∨ ¬ (0 ≤ x.l ∧ x.l ≤ 1073741824) then 26 else 0
theorem chkX_eq (x : XC) : chkX x = otherX x := by
  unfold chkX otherX
  simp only [outI_not, Bool.or_eq_true, Bool.not_eq_true', decide_eq_false_iff_not, or_assoc]
set_option maxHeartbeats 4000000 in
theorem s9 (r : R) (x : XC) : PSpec Try.prog 9 [encR r, encX x] (bA true) := by
  have hr := chkR_eq r
  have hx := chkX_eq x
  replace hr := Hld.mk hr
  replace hx := Hld.mk hx
  refine PSpec_of Try.func9 rfl rfl (Nat.le_of_ble_eq_true rfl) (Nat.le_of_ble_eq_true rfl) ?_
  intro E hE
  refine AW_seqk fun K hK => ?_
  refine AW_region (by rw [hE]; decide) ?_
  simp
  refine useK (by assumption) ?_
  refine AW_seqk fun K hK => ?_
  refine AW_region (by rw [hE]; decide) ?_
  simp
  refine useK (by assumption) ?_
  refine AW_seqt ⟨[(5, iA (wantR r)), (6, .v (.int .i64 0)), (2, .loc 2 0), (3, .loc 3 0)], [(2, .box 23 (encR r)), (3, .box 39 (encX x))]⟩ ?_ ?_
  · refine AW_seqt ⟨[(5, iA (wantR r)), (6, iA (otherX x)), (2, .loc 2 0), (3, .loc 3 0)], [(2, .box 23 (encR r)), (3, .box 39 (encX x))]⟩ ?_ ?_
    · rw [← hr.out, ← hx.out]
      repeat' (first
        | with_reducible refine useK (by assumption) ?_
        | with_reducible refine useK2 (by assumption) ?_
        | with_reducible refine useX (by assumption) ?_
        | with_reducible refine AW_seqk fun K hK => ?_
        | (with_reducible refine AW_regionS rfl (by rw [hE]; decide) ?_; simp [*])
        | with_reducible refine AW_region (by rw [hE]; decide) ?_
        | ((with_reducible show RK _ _ _ _ _ _); refine RK_nilk ?_; simp [*])
        | ((with_reducible show RK _ _ _ _ _ _); refine RK_stepk fun K' hK' => ?_; simp [*])
        | with_reducible refine AW_drawq mixed (by rw [hE]; decide) (by simp [newOK]) ?_
        | ((with_reducible show RKQ _ _ _ _ _ _); refine RKQ_nilk ⟨by decide, ?_⟩)
        | ((with_reducible show RKQ _ _ _ _ _ _); refine RKQ_stepk fun K' hK' => ?_; simp [*])
        | (with_reducible refine AW_if fun X Y hX hY => ?_; simp [*])
        | with_reducible refine AW_block ?_
        | (with_reducible refine AW_ret ?_; simp [*])
        | (with_reducible refine AW_skip ?_; simp [*])
        | (with_reducible refine AW_exit ?_; simp [*])
        | (refine acall_same (s14) ?_ ?_ ?_; (focus (simp [*] <;> fail)); (focus (simp [*] <;> fail)); simp [*])
        | (refine call_same (s14) ?_ ?_ ?_; (focus (simp [*] <;> fail)); (focus (simp [*] <;> fail)); simp [*])
        | (refine acall_view (s14) ?_ ?_ ?_; (focus (simp [*] <;> fail)); (focus (simp [*] <;> fail)); simp [*])
        | (refine call_view (s14) ?_ ?_ ?_; (focus (simp [*] <;> fail)); (focus (simp [*] <;> fail)); simp [*])
        | (refine acall_same (s30 r) ?_ ?_ ?_; (focus (simp [*] <;> fail)); (focus (simp [*] <;> fail)); simp [*])
        | (refine call_same (s30 r) ?_ ?_ ?_; (focus (simp [*] <;> fail)); (focus (simp [*] <;> fail)); simp [*])
        | (refine acall_view (s30 r) ?_ ?_ ?_; (focus (simp [*] <;> fail)); (focus (simp [*] <;> fail)); simp [*])
        | (refine call_view (s30 r) ?_ ?_ ?_; (focus (simp [*] <;> fail)); (focus (simp [*] <;> fail)); simp [*])
        | (refine acall_same (s31 x) ?_ ?_ ?_; (focus (simp [*] <;> fail)); (focus (simp [*] <;> fail)); simp [*])
        | (refine call_same (s31 x) ?_ ?_ ?_; (focus (simp [*] <;> fail)); (focus (simp [*] <;> fail)); simp [*])
        | (refine acall_view (s31 x) ?_ ?_ ?_; (focus (simp [*] <;> fail)); (focus (simp [*] <;> fail)); simp [*])
        | (refine call_view (s31 x) ?_ ?_ ?_; (focus (simp [*] <;> fail)); (focus (simp [*] <;> fail)); simp [*])
        | with_reducible refine And.intro ?_ ?_
        | omega
        | (refine imp1 fun h => ?_))
    · intro K hK
      repeat' (first
        | with_reducible refine useK (by assumption) ?_
        | with_reducible refine useK2 (by assumption) ?_
        | with_reducible refine useX (by assumption) ?_
        | with_reducible refine AW_seqk fun K hK => ?_
        | (with_reducible refine AW_regionS rfl (by rw [hE]; decide) ?_; simp [*])
        | with_reducible refine AW_region (by rw [hE]; decide) ?_
        | ((with_reducible show RK _ _ _ _ _ _); refine RK_nilk ?_; simp [*])
        | ((with_reducible show RK _ _ _ _ _ _); refine RK_stepk fun K' hK' => ?_; simp [*])
        | with_reducible refine AW_drawq mixed (by rw [hE]; decide) (by simp [newOK]) ?_
        | ((with_reducible show RKQ _ _ _ _ _ _); refine RKQ_nilk ⟨by decide, ?_⟩)
        | ((with_reducible show RKQ _ _ _ _ _ _); refine RKQ_stepk fun K' hK' => ?_; simp [*])
        | (with_reducible refine AW_if fun X Y hX hY => ?_; simp [*])
        | with_reducible refine AW_block ?_
        | (with_reducible refine AW_ret ?_; simp [*])
        | (with_reducible refine AW_skip ?_; simp [*])
        | (with_reducible refine AW_exit ?_; simp [*])
        | (refine acall_same (s29 _ _ _) ?_ ?_ ?_; (focus (simp [*] <;> fail)); (focus (simp [*] <;> fail)); simp [*])
        | (refine call_same (s29 _ _ _) ?_ ?_ ?_; (focus (simp [*] <;> fail)); (focus (simp [*] <;> fail)); simp [*])
        | (refine acall_view (s29 _ _ _) ?_ ?_ ?_; (focus (simp [*] <;> fail)); (focus (simp [*] <;> fail)); simp [*])
        | (refine call_view (s29 _ _ _) ?_ ?_ ?_; (focus (simp [*] <;> fail)); (focus (simp [*] <;> fail)); simp [*])
        | with_reducible refine And.intro ?_ ?_
        | omega
        | (refine imp1 fun h => ?_))
      all_goals (simp [otherX, *] <;> intros <;> (repeat' split) <;> omega)
  · intro K hK
    repeat' (first
      | with_reducible refine useK (by assumption) ?_
      | with_reducible refine useK2 (by assumption) ?_
      | with_reducible refine useX (by assumption) ?_
      | with_reducible refine AW_seqk fun K hK => ?_
      | (with_reducible refine AW_regionS rfl (by rw [hE]; decide) ?_; simp [*])
      | with_reducible refine AW_region (by rw [hE]; decide) ?_
      | ((with_reducible show RK _ _ _ _ _ _); refine RK_nilk ?_; simp [*])
      | ((with_reducible show RK _ _ _ _ _ _); refine RK_stepk fun K' hK' => ?_; simp [*])
      | with_reducible refine AW_drawq mixed (by rw [hE]; decide) (by simp [newOK]) ?_
      | ((with_reducible show RKQ _ _ _ _ _ _); refine RKQ_nilk ⟨by decide, ?_⟩)
      | ((with_reducible show RKQ _ _ _ _ _ _); refine RKQ_stepk fun K' hK' => ?_; simp [*])
      | (with_reducible refine AW_if fun X Y hX hY => ?_; simp [*])
      | with_reducible refine AW_block ?_
      | (with_reducible refine AW_ret ?_; simp [*])
      | (with_reducible refine AW_skip ?_; simp [*])
      | (with_reducible refine AW_exit ?_; simp [*])
      | (refine acall_same (s29 _ _ _) ?_ ?_ ?_; (focus (simp [*] <;> fail)); (focus (simp [*] <;> fail)); simp [*])
      | (refine call_same (s29 _ _ _) ?_ ?_ ?_; (focus (simp [*] <;> fail)); (focus (simp [*] <;> fail)); simp [*])
      | (refine acall_view (s29 _ _ _) ?_ ?_ ?_; (focus (simp [*] <;> fail)); (focus (simp [*] <;> fail)); simp [*])
      | (refine call_view (s29 _ _ _) ?_ ?_ ?_; (focus (simp [*] <;> fail)); (focus (simp [*] <;> fail)); simp [*])
      | with_reducible refine And.intro ?_ ?_
      | omega
      | (refine imp1 fun h => ?_))
    all_goals (simp [wantR, *] <;> intros <;> (repeat' split) <;> omega)
namespace L9
theorem spec (avs : List AV) (h : ShapeL Try.prog 6 Try.f9.params.toList avs) : PSpec Try.prog 9 avs (.v (.bool true)) := by
  rw [Try.params9] at h
  obtain ⟨c1, r1, rfl, h1, c2, r2, rfl, h2, rfl⟩ := h
  obtain ⟨a, ha, -⟩ := avR h1
  obtain ⟨b, hb⟩ := avX h2
  rw [ha, hb]
  exact s9 a b
theorem contract (H : Type) (enc : TypeId × Value → H) (W : World) (base : Nat) (args : Array Value) (ds gs : List (DataW H)) (before : List MemPlace)
    (hval : ∀ (j : Nat) t v, Try.f9.params[j]? = some t → args[j]? = some v → Value.okWide Try.prog W .any base t v)
    (hW : DataW.Whole enc Try.prog Try.f9.params.toList Rows.reportChecksSpec.vars false W args.toList ds gs before) :
    Calls Try.prog 9 args W fun e W' => ∃ v, e = .returned v ∧ Rows.reportChecksSpec.post enc Try.prog Try.f9 false true false false W args v W' :=
  law_contract (m := 6) (tb := 4) spec (by rw [Try.params9]; intro t ht; simp at ht; rcases ht with rfl | rfl <;> kernel_rfl) rfl laidK
    (by rw [Try.params9]; intro t ht; simp at ht; rcases ht with rfl | rfl <;> exact ⟨by kernel_rfl, by decide +kernel⟩)
    (fun ds hd => by
      rw [Try.params9] at hd
      match ds, hd with
      | [d1, d2], _ => rfl) (by kernel_rfl) Try.underlying4 hval hW
theorem lifted (os : Os) (started : os.Started) (H : Type) (enc : TypeId × Value → H) :
    ReturnsInHanded {} Try.checked os 9 .any (Rows.reportChecksSpec.pre6 enc Try.prog Try.f9 Rows.reportChecksRow.domain false) (Rows.reportChecksSpec.post enc Try.prog Try.f9 false true false false) := by
  refine returnsInHanded_of_change (C := Try.checked) ownK started (by kernel_rfl) Try.func9
    (ChangeSpec.witness6 (enc := enc) (C := Try.checked) false ⟨#[], #[zR, .agg #[.int .i64 0, .int .i64 0, .int .i64 0, .int .i64 0, .int .i64 0]], []⟩ 8 (by kernel_rfl) (by kernel_rfl) (by kernel_rfl) (by kernel_rfl)) ?_
  intro W base args ds gs before hval hW hcnd _
  exact contract H enc W base args ds gs before hval hW
theorem said : Rows.ReportChecksSaid :=
  OpenClaim.holds_of_wide 9 Try.f9 rfl rfl rfl rfl rfl rfl rfl ⟨rfl, rfl, rfl, rfl, rfl⟩ rfl rfl rfl rfl rfl (by kernel_rfl) Try.func9 (by kernel_rfl)
    (of_decide_eq_true (by kernel_rfl)) (by unfold Func.isWrapper; first | (rw [if_pos (by decide +kernel)]; kernel_rfl) | (rw [if_neg (by decide +kernel)]; exact ⟨rfl, rfl⟩))
    (fun os started H enc _ => lifted os started H enc)
end L9
end Go.Proofs.Ytmjckbokjjnmeaa
