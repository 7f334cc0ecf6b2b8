/- RtreeBoxes: for any two boxes the law hands back true. Conditions: none. -/
import Derived.Test.YtlkijcflfnnbaaaZC
set_option maxRecDepth 100000
set_option linter.unusedSimpArgs false
set_option linter.unusedVariables false
namespace Go.Proofs.Ytlkijcflfnnbaaa
open Go.Am Go.RowKit Go.ChangeShapes Go.WideShapes Go.ChangeAt
namespace L1
def zX : Value := .agg #[.int .i64 0, .int .i64 0, .int .i64 0, .int .i64 0, .int .i64 0, .int .i64 0]
@[simp high] theorem stepBin_X {P : Program} {o : Oper} {op : BinOp} {T : TypeId} {a b : Bx} {s : AState} {K : AState → Prop} : stepBin P o op T (encX a) (encX b) s K = qstep P o s K := rfl
theorem law (a b : Bx) : PSpec Try.prog 3 [encX a, encX b] (bA true) := by
  have hk := Hld.mk s_known
  have h1 := Hld.mk (s_chk1 a)
  have h2 := Hld.mk (s_chk2 a)
  have h3 := Hld.mk (s_chk2 b)
  have m1 := Hld.mk (s_meets a b)
  have m2 := Hld.mk (s_meets b a)
  have m3 := Hld.mk (s_meets2 a b)
  have m4 := Hld.mk (s_meets2 b a)
  have r1 := Hld.mk (s_around a b)
  have r2 := Hld.mk (s_around2 a b)
  obtain ⟨ca, hca⟩ : ∃ c, chkX a = c := ⟨_, rfl⟩
  obtain ⟨cb, hcb⟩ : ∃ c, chkX b = c := ⟨_, rfl⟩
  obtain ⟨M1, hM1⟩ : ∃ c, meetX a b = c := ⟨_, rfl⟩
  have hc : meetX b a = meetX a b := by
    rw [Bool.eq_iff_iff, meetX_iff, meetX_iff]
    omega
  obtain ⟨A, hA⟩ : ∃ c, arX a b = c := ⟨_, rfl⟩
  rw [hca] at h1 h2
  rw [hcb] at h3
  rw [hM1] at m1 m3
  rw [hc, hM1] at m2 m4
  rw [hA] at r1 r2
  clear hca hcb hM1 hA hc
  refine PSpec_of Try.func3 rfl rfl (Nat.le_of_ble_eq_true rfl) (Nat.le_of_ble_eq_true rfl) ?_
  intro E hE
  refine AW_seqt ⟨[(3, .loc 3 0), (2, .loc 2 0)], [(3, .box 23 (encX b)), (2, .box 23 (encX a))]⟩ ?_ (by
    intro K hK
    repeat' (first
     | (with_reducible first | refine uK ?_ | refine uX ?_ | refine AW_seqk fun K hK => ?_ | refine AW_block ?_) | ((with_reducible first | refine rS hE ?_ | refine RK_nilk ?_ | refine RK_stepk fun K' hK' => ?_ | refine AW_if fun X Y hX hY => ?_ | refine AW_ret ?_ | refine AW_skip ?_ | refine AW_exit ?_); simp [*]) | with_reducible refine rL hE ?_ | with_reducible refine And.intro ?_ ?_ | omega | (refine imp1 fun h => ?_))
    all_goals simp)
  refine AW_freeze 3 (cb := .box 23 (encX b)) (t := ⟨[(3, .ep (encX b)), (2, .loc 2 0)], [(2, .box 23 (encX a))]⟩) (by simp) (by simp) (by simp) ?_
  refine AW_freeze 2 (cb := .box 23 (encX a)) (t := ⟨[(3, .ep (encX b)), (2, .ep (encX a))], []⟩) (by simp) (by simp) (by simp) ?_
  repeat' (first
   | (with_reducible first | refine useK (by assumption) ?_ | refine useK2 (by assumption) ?_ | refine useX (by assumption) ?_ | refine AW_seqk fun K hK => ?_ | refine AW_block ?_) | (with_reducible refine AW_regionS rfl (by rw [hE]; decide) ?_; simp [*, encX]) | with_reducible refine AW_region (by rw [hE]; decide) ?_ | ((with_reducible show RK _ _ _ _ _ _); first | (refine RK_nilk ?_; simp [*, encX]) | (refine RK_stepk fun K' hK' => ?_; simp [*, encX])) | with_reducible refine AW_drawq mixed (by rw [hE]; decide) (by simp [newOK]) ?_ | ((with_reducible show RKQ _ _ _ _ _ _); first | refine RKQ_nilk ⟨by decide, ?_⟩ | (refine RKQ_stepk fun K' hK' => ?_; simp [*, encX])) | ((with_reducible first | refine AW_if fun X Y hX hY => ?_ | refine AW_ret ?_ | refine AW_skip ?_ | refine AW_exit ?_); simp [*, encX]) | ((first | refine acall_same (hk.out) ?_ ?_ ?_ | refine call_same (hk.out) ?_ ?_ ?_); (focus (simp [*, encX] <;> fail)); (focus (simp [*, encX] <;> fail)); simp [*, encX]) | ((first | refine acall_view (hk.out) ?_ ?_ ?_ | refine call_view (hk.out) ?_ ?_ ?_); (focus (simp [*, encX] <;> fail)); (focus (simp [*, encX] <;> fail)); simp [*, encX]) | ((first | refine acall_same (h1.out) ?_ ?_ ?_ | refine call_same (h1.out) ?_ ?_ ?_); (focus (simp [*, encX] <;> fail)); (focus (simp [*, encX] <;> fail)); simp [*, encX]) | ((first | refine acall_view (h1.out) ?_ ?_ ?_ | refine call_view (h1.out) ?_ ?_ ?_); (focus (simp [*, encX] <;> fail)); (focus (simp [*, encX] <;> fail)); simp [*, encX]) | ((first | refine acall_same (h2.out) ?_ ?_ ?_ | refine call_same (h2.out) ?_ ?_ ?_); (focus (simp [*, encX] <;> fail)); (focus (simp [*, encX] <;> fail)); simp [*, encX]) | ((first | refine acall_view (h2.out) ?_ ?_ ?_ | refine call_view (h2.out) ?_ ?_ ?_); (focus (simp [*, encX] <;> fail)); (focus (simp [*, encX] <;> fail)); simp [*, encX]) | ((first | refine acall_same (h3.out) ?_ ?_ ?_ | refine call_same (h3.out) ?_ ?_ ?_); (focus (simp [*, encX] <;> fail)); (focus (simp [*, encX] <;> fail)); simp [*, encX]) | ((first | refine acall_view (h3.out) ?_ ?_ ?_ | refine call_view (h3.out) ?_ ?_ ?_); (focus (simp [*, encX] <;> fail)); (focus (simp [*, encX] <;> fail)); simp [*, encX]) | ((first | refine acall_same (m1.out) ?_ ?_ ?_ | refine call_same (m1.out) ?_ ?_ ?_); (focus (simp [*, encX] <;> fail)); (focus (simp [*, encX] <;> fail)); simp [*, encX]) | ((first | refine acall_view (m1.out) ?_ ?_ ?_ | refine call_view (m1.out) ?_ ?_ ?_); (focus (simp [*, encX] <;> fail)); (focus (simp [*, encX] <;> fail)); simp [*, encX]) | ((first | refine acall_same (m2.out) ?_ ?_ ?_ | refine call_same (m2.out) ?_ ?_ ?_); (focus (simp [*, encX] <;> fail)); (focus (simp [*, encX] <;> fail)); simp [*, encX]) | ((first | refine acall_view (m2.out) ?_ ?_ ?_ | refine call_view (m2.out) ?_ ?_ ?_); (focus (simp [*, encX] <;> fail)); (focus (simp [*, encX] <;> fail)); simp [*, encX]) | ((first | refine acall_same (m3.out) ?_ ?_ ?_ | refine call_same (m3.out) ?_ ?_ ?_); (focus (simp [*, encX] <;> fail)); (focus (simp [*, encX] <;> fail)); simp [*, encX]) | ((first | refine acall_view (m3.out) ?_ ?_ ?_ | refine call_view (m3.out) ?_ ?_ ?_); (focus (simp [*, encX] <;> fail)); (focus (simp [*, encX] <;> fail)); simp [*, encX]) | ((first | refine acall_same (m4.out) ?_ ?_ ?_ | refine call_same (m4.out) ?_ ?_ ?_); (focus (simp [*, encX] <;> fail)); (focus (simp [*, encX] <;> fail)); simp [*, encX]) | ((first | refine acall_view (m4.out) ?_ ?_ ?_ | refine call_view (m4.out) ?_ ?_ ?_); (focus (simp [*, encX] <;> fail)); (focus (simp [*, encX] <;> fail)); simp [*, encX]) | ((first | refine acall_same (r1.out) ?_ ?_ ?_ | refine call_same (r1.out) ?_ ?_ ?_); (focus (simp [*, encX] <;> fail)); (focus (simp [*, encX] <;> fail)); simp [*, encX]) | ((first | refine acall_view (r1.out) ?_ ?_ ?_ | refine call_view (r1.out) ?_ ?_ ?_); (focus (simp [*, encX] <;> fail)); (focus (simp [*, encX] <;> fail)); simp [*, encX]) | ((first | refine acall_same (r2.out) ?_ ?_ ?_ | refine call_same (r2.out) ?_ ?_ ?_); (focus (simp [*, encX] <;> fail)); (focus (simp [*, encX] <;> fail)); simp [*, encX]) | ((first | refine acall_view (r2.out) ?_ ?_ ?_ | refine call_view (r2.out) ?_ ?_ ?_); (focus (simp [*, encX] <;> fail)); (focus (simp [*, encX] <;> fail)); simp [*, encX]) | with_reducible refine And.intro ?_ ?_ | omega | (refine imp1 fun h => ?_))
theorem spec (avs : List AV) (h : ShapeL Try.prog 6 Try.f3.params.toList avs) : PSpec Try.prog 3 avs (.v (.bool true)) := by
  rw [Try.params3] at h
  obtain ⟨c1, r1, rfl, h1, c2, r2, rfl, h2, rfl⟩ := h
  obtain ⟨a, ha, -⟩ := avX h1
  obtain ⟨b, hb, -⟩ := avX h2
  rw [ha, hb]
  exact law a b
theorem contract (H : Type) (enc : TypeId × Value → H) (W : World) (base : Nat) (args : Array Value) (ds gs : List (DataW H)) (before : List MemPlace)
    (hval : ∀ (j : Nat) t v, Try.f3.params[j]? = some t → args[j]? = some v → Value.okWide Try.prog W .any base t v)
    (hW : DataW.Whole enc Try.prog Try.f3.params.toList Rows.rtreeBoxesSpec.vars false W args.toList ds gs before) :
    Calls Try.prog 3 args W fun e W' => ∃ v, e = .returned v ∧ Rows.rtreeBoxesSpec.post enc Try.prog Try.f3 false true false false W args v W' :=
  law_contract (m := 6) (tb := 4) spec (by rw [Try.params3]; intro t ht; simp at ht; rcases ht with rfl | rfl <;> kernel_rfl) rfl laidK
    (by rw [Try.params3]; intro t ht; simp at ht; rcases ht with rfl | rfl <;> exact ⟨by kernel_rfl, by decide +kernel⟩)
    (fun ds hd => by
      rw [Try.params3] at hd
      match ds, hd with
      | [d1, d2], _ => rfl) (by kernel_rfl) Try.underlying4 hval hW
theorem lifted (os : Os) (started : os.Started) (H : Type) (enc : TypeId × Value → H) :
    ReturnsInHanded {} Try.checked os 3 .any (Rows.rtreeBoxesSpec.pre6 enc Try.prog Try.f3 Rows.rtreeBoxesRow.domain false) (Rows.rtreeBoxesSpec.post enc Try.prog Try.f3 false true false false) := by
  refine returnsInHanded_of_change (C := Try.checked) ownK started (by kernel_rfl) Try.func3
    (ChangeSpec.witness6 (enc := enc) (C := Try.checked) false ⟨#[], #[zX, zX], []⟩ 8 (by kernel_rfl) (by kernel_rfl) (by kernel_rfl) (by kernel_rfl)) ?_
  intro W base args ds gs before hval hW hcnd _
  exact contract H enc W base args ds gs before hval hW
theorem said : Rows.RtreeBoxesSaid :=
  OpenClaim.holds_of_wide 3 Try.f3 rfl rfl rfl rfl rfl rfl rfl ⟨rfl, rfl, rfl, rfl, rfl⟩ rfl rfl rfl rfl rfl (by kernel_rfl) Try.func3 (by kernel_rfl)
    (of_decide_eq_true (by kernel_rfl)) (by unfold Func.isWrapper; first | (rw [if_pos (by decide +kernel)]; kernel_rfl) | (rw [if_neg (by decide +kernel)]; exact ⟨rfl, rfl⟩))
    (fun os started H enc _ => lifted os started H enc)
end L1
end Go.Proofs.Ytlkijcflfnnbaaa
