/- ReportCompares: for any three reports the law hands back true. Conditions: none. -/
import Derived.Test.YtmjckbokjjnmeaaL0
set_option maxRecDepth 100000
namespace Go.Proofs.Ytmjckbokjjnmeaa
open Go.Am Go.RowKit Go.ChangeShapes Go.WideShapes Go.ChangeAt

def zR : Value := .agg #[.int .i64 0, .int .i64 0, .int .i64 0, .int .i64 0, .int .i64 0, .int .i64 0, .int .i64 0, .bool false]
theorem ownK : ownKnob Try.prog.godebug = none := by kernel_rfl
theorem laidK : laidOutB Try.prog = true := by kernel_rfl
namespace L3
theorem spec (avs : List AV) (h : ShapeL Try.prog 6 Try.f3.params.toList avs) : PSpec Try.prog 3 avs (.v (.bool true)) := by
  rw [Try.params3] at h
  obtain ⟨c1, r1, rfl, h1, c2, r2, rfl, h2, c3, r3, rfl, h3, rfl⟩ := h
  obtain ⟨a, ha, -⟩ := avR h1
  obtain ⟨b, hb, -⟩ := avR h2
  obtain ⟨c, hc, -⟩ := avR h3
  rw [ha, hb, hc]
  exact s3 a b c
theorem contract (H : Type) (enc : TypeId × Value → H) (W : World) (base : Nat) (args : Array Value) (ds gs : List (DataW H)) (before : List MemPlace)
    (hval : ∀ (j : Nat) t v, Try.f3.params[j]? = some t → args[j]? = some v → Value.okWide Try.prog W .any base t v)
    (hW : DataW.Whole enc Try.prog Try.f3.params.toList Rows.reportComparesSpec.vars false W args.toList ds gs before) :
    Calls Try.prog 3 args W fun e W' => ∃ v, e = .returned v ∧ Rows.reportComparesSpec.post enc Try.prog Try.f3 false true false false W args v W' :=
  law_contract (m := 6) (tb := 4) spec (by rw [Try.params3]; intro t ht; simp at ht; subst ht; kernel_rfl) rfl laidK
    (by rw [Try.params3]; intro t ht; simp at ht; subst ht; exact ⟨by kernel_rfl, by decide +kernel⟩)
    (fun ds hd => by
      rw [Try.params3] at hd
      match ds, hd with
      | [d1, d2, d3], _ => rfl) (by kernel_rfl) Try.underlying4 hval hW
theorem lifted (os : Os) (started : os.Started) (H : Type) (enc : TypeId × Value → H) :
    ReturnsInHanded {} Try.checked os 3 .any (Rows.reportComparesSpec.pre6 enc Try.prog Try.f3 Rows.reportComparesRow.domain false) (Rows.reportComparesSpec.post enc Try.prog Try.f3 false true false false) := by
  refine returnsInHanded_of_change (C := Try.checked) ownK started (by kernel_rfl) Try.func3
    (ChangeSpec.witness6 (enc := enc) (C := Try.checked) false ⟨#[], #[zR, zR, zR], []⟩ 8 (by kernel_rfl) (by kernel_rfl) (by kernel_rfl) (by kernel_rfl)) ?_
  intro W base args ds gs before hval hW hcnd _
  exact contract H enc W base args ds gs before hval hW
theorem said : Rows.ReportComparesSaid :=
  OpenClaim.holds_of_wide 3 Try.f3 rfl rfl rfl rfl rfl rfl rfl ⟨rfl, rfl, rfl, rfl, rfl⟩ rfl rfl rfl rfl rfl (by kernel_rfl) Try.func3 (by kernel_rfl)
    (of_decide_eq_true (by kernel_rfl)) (by unfold Func.isWrapper; first | (rw [if_pos (by decide +kernel)]; kernel_rfl) | (rw [if_neg (by decide +kernel)]; exact ⟨rfl, rfl⟩))
    (fun os started H enc _ => lifted os started H enc)
end L3
end Go.Proofs.Ytmjckbokjjnmeaa
