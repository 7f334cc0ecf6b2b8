/- What the laws' arguments are. -/
import Derived.Test.YtmjckbokjjnmeaaAmLaw
import Derived.Test.YtmjckbokjjnmeaaG11
set_option maxRecDepth 100000
namespace Go.Proofs.Ytmjckbokjjnmeaa
open Go.Am
def WF (r : R) : Prop := (-9223372036854775808 ≤ r.o ∧ r.o ≤ 9223372036854775807) ∧ (-9223372036854775808 ≤ r.s ∧ r.s ≤ 9223372036854775807)
theorem shapeR {n : Nat} {cs : List AV} (h : ShapeC Try.prog (n + 2) 23 cs) : ∃ r : R, cs = [iA r.o, iA r.s, iA r.v, iA r.d, iA r.t, iA r.x, iA r.y, bA r.c] ∧ WF r := by
  simp [ShapeC, ShapeF] at h
  obtain ⟨_, _, rfl, ⟨o, rfl, ho⟩, -, h⟩ := h
  obtain ⟨_, _, rfl, ⟨s, rfl, hs⟩, -, h⟩ := h
  obtain ⟨_, _, rfl, ⟨v, rfl, -⟩, -, h⟩ := h
  obtain ⟨_, _, rfl, ⟨d, rfl, -⟩, -, h⟩ := h
  obtain ⟨_, _, rfl, ⟨t, rfl, -⟩, -, h⟩ := h
  obtain ⟨_, _, rfl, ⟨x, rfl, -⟩, -, h⟩ := h
  obtain ⟨_, _, rfl, ⟨y, rfl, -⟩, -, h⟩ := h
  obtain ⟨_, _, rfl, hc, -, rfl⟩ := h
  rcases hc with rfl | rfl
  · exact ⟨⟨o, s, v, d, t, x, y, false⟩, rfl, ho, hs⟩
  · exact ⟨⟨o, s, v, d, t, x, y, true⟩, rfl, ho, hs⟩
theorem avR {n : Nat} {cs : List AV} (h : ShapeC Try.prog (n + 2) 23 cs) : ∃ r : R, mkAV Try.prog 23 cs = encR r ∧ WF r := by
  obtain ⟨r, rfl, hw⟩ := shapeR h
  exact ⟨r, by simp [mkAV, encR], hw⟩
theorem avRs {n : Nat} {cs : List AV} (h : ShapeC Try.prog (n + 3) 27 cs) : ∃ l : List R, mkAV Try.prog 27 cs = .sl 8 (l.map encR) ∧ (∀ r ∈ l, WF r) ∧ l.length ≤ 9223372036854775807 := by
  have e : ShapeC Try.prog (n + 3) 27 cs = (∃ xs, cs = [.sl (Try.prog.cellsOf 23) xs] ∧ xs.length ≤ maxLen ∧ ∀ x ∈ xs, ∃ cs', ShapeC Try.prog (n + 2) 23 cs' ∧ x = (if aggB Try.prog 23 then .st cs' else cs'.headD .u)) := by
    rw [ShapeC, Try.underlying27]
  rw [e] at h
  obtain ⟨xs, rfl, hl, hx⟩ := h
  have key : ∀ xs : List AV, (∀ x ∈ xs, ∃ cs', ShapeC Try.prog (n + 2) 23 cs' ∧ x = (if aggB Try.prog 23 then .st cs' else cs'.headD .u)) → ∃ l : List R, xs = l.map encR ∧ ∀ r ∈ l, WF r := by
    intro xs
    induction xs with
    | nil => intro _; exact ⟨[], rfl, by simp⟩
    | cons x xs ih =>
      intro h
      obtain ⟨l, rfl, hl⟩ := ih (fun y hy => h y (List.mem_cons_of_mem _ hy))
      obtain ⟨cs', h1, h2⟩ := h x List.mem_cons_self
      obtain ⟨r, hr, hw⟩ := avR h1
      refine ⟨r :: l, by rw [h2]; simp only [List.map_cons]; rw [← hr]; rfl, ?_⟩
      intro r' hr'
      rcases List.mem_cons.1 hr' with rfl | hr'
      · exact hw
      · exact hl r' hr'
  obtain ⟨l, rfl, hw⟩ := key xs hx
  refine ⟨l, ?_, hw, by unfold maxLen at hl; simpa using hl⟩
  simp [mkAV]

/-! ### the first law -/
@[simp high] theorem stepBin_R {P : Program} {o : Oper} {op : BinOp} {T : TypeId} {a b : R} {s : AState} {K : AState → Prop} : stepBin P o op T (encR a) (encR b) s K = qstep P o s K := rfl
theorem cmpL_val : ∀ l m : List Int, -1 ≤ cmpL l m ∧ cmpL l m ≤ 1
  | [], [] => by simp [cmpL]
  | [], _ :: _ => by simp [cmpL]
  | _ :: _, [] => by simp [cmpL]
  | a :: l, b :: m => by
    simp only [cmpL]
    have := cmpI_val a b
    split
    · omega
    · exact cmpL_val l m
theorem cmpR_val (a b : R) : -1 ≤ cmpR a b ∧ cmpR a b ≤ 1 := cmpL_val _ _
set_option maxHeartbeats 1000000 in
theorem s3 (a b c : R) : PSpec Try.prog 3 [encR a, encR b, encR c] (bA true) := by
  have h1 := cmpR_swap a b
  have h2 := cmpR_zero (a := a) (b := b)
  have h3 := @cmpR_trans a b c
  have h4 := cmpR_zero (a := a) (b := c)
  obtain ⟨h5, h6⟩ := cmpR_val a b
  have h7 : (decide (cmpR a b = 0) == decide (a = b)) = true := by rw [beq_iff_eq, decide_eq_decide]; exact h2
  replace h1 := Hld.mk h1
  replace h2 := Hld.mk h2
  replace h3 := Hld.mk h3
  replace h4 := Hld.mk h4
  refine PSpec_of Try.func3 rfl rfl (Nat.le_of_ble_eq_true rfl) (Nat.le_of_ble_eq_true rfl) ?_
  intro E hE
  repeat' (first
    | with_reducible refine useK (by assumption) ?_
    | with_reducible refine useK2 (by assumption) ?_
    | with_reducible refine useX (by assumption) ?_
    | with_reducible refine AW_seqk fun K hK => ?_
    | (with_reducible refine AW_regionS rfl (by rw [hE]; decide) ?_; simp [*])
    | with_reducible refine AW_region (by rw [hE]; decide) ?_
    | ((with_reducible show RK _ _ _ _ _ _); refine RK_nilk ?_; simp [*])
    | ((with_reducible show RK _ _ _ _ _ _); refine RK_stepk fun K' hK' => ?_; simp [*])
    | with_reducible refine AW_drawq mixed (by rw [hE]; decide) (by simp [newOK]) ?_
    | ((with_reducible show RKQ _ _ _ _ _ _); refine RKQ_nilk ⟨by decide, ?_⟩)
    | ((with_reducible show RKQ _ _ _ _ _ _); refine RKQ_stepk fun K' hK' => ?_; simp [*])
    | (with_reducible refine AW_if fun X Y hX hY => ?_; simp [*])
    | with_reducible refine AW_block ?_
    | (with_reducible refine AW_ret ?_; simp [*])
    | (with_reducible refine AW_skip ?_; simp [*])
    | (with_reducible refine AW_exit ?_; simp [*])
    | (refine acall_same (s13 _ _) ?_ ?_ ?_; (focus (simp [*] <;> fail)); (focus (simp [*] <;> fail)); simp [*])
    | (refine call_same (s13 _ _) ?_ ?_ ?_; (focus (simp [*] <;> fail)); (focus (simp [*] <;> fail)); simp [*])
    | (refine acall_view (s13 _ _) ?_ ?_ ?_; (focus (simp [*] <;> fail)); (focus (simp [*] <;> fail)); simp [*])
    | (refine call_view (s13 _ _) ?_ ?_ ?_; (focus (simp [*] <;> fail)); (focus (simp [*] <;> fail)); simp [*])
    | (refine acall_same (s15 _ _) ?_ ?_ ?_; (focus (simp [*] <;> fail)); (focus (simp [*] <;> fail)); simp [*])
    | (refine call_same (s15 _ _) ?_ ?_ ?_; (focus (simp [*] <;> fail)); (focus (simp [*] <;> fail)); simp [*])
    | (refine acall_view (s15 _ _) ?_ ?_ ?_; (focus (simp [*] <;> fail)); (focus (simp [*] <;> fail)); simp [*])
    | (refine call_view (s15 _ _) ?_ ?_ ?_; (focus (simp [*] <;> fail)); (focus (simp [*] <;> fail)); simp [*])
    | (refine acall_same (s14) ?_ ?_ ?_; (focus (simp [*] <;> fail)); (focus (simp [*] <;> fail)); simp [*])
    | (refine call_same (s14) ?_ ?_ ?_; (focus (simp [*] <;> fail)); (focus (simp [*] <;> fail)); simp [*])
    | (refine acall_view (s14) ?_ ?_ ?_; (focus (simp [*] <;> fail)); (focus (simp [*] <;> fail)); simp [*])
    | (refine call_view (s14) ?_ ?_ ?_; (focus (simp [*] <;> fail)); (focus (simp [*] <;> fail)); simp [*])
    | with_reducible refine And.intro ?_ ?_
    | omega
    | (refine imp1 fun h => ?_))
  · exact h3.out (by assumption) (by assumption)
  · exact absurd h1.out (by assumption)
end Go.Proofs.Ytmjckbokjjnmeaa
