/- RtreeSearches: for any entries, splits and box the law hands back true. Conditions: none. -/
import Derived.Test.YtlkijcflfnnbaaaZE
set_option maxRecDepth 100000
set_option linter.unusedSimpArgs false
set_option linter.unusedVariables false
namespace Go.Proofs.Ytlkijcflfnnbaaa
open Go.Am Go.RowKit Go.ChangeShapes Go.WideShapes Go.ChangeAt
namespace L2
def zC : Value := .agg #[.int .u8 0, .int .u8 0, .int .u8 0, .int .u8 0, .int .u8 0, .int .u8 0]
def zN : Value := .slice none 0 0
abbrev uL (T : List UInt8) : List AV := T.map fun u => uA u.toNat
set_option maxHeartbeats 4000000 in
theorem walk (l : List It) (T : List UInt8) (c : Cu) (L : List En) (U : List Int) (B : Bx) (S : List Int) (W : List En) (p : Tr → Prop)
    (hbt : ∀ {E : Env} {s : AState} {d : Option Tmp} {K : AState → Prop}, (∀ tr, Hld (p tr) → K (s.put d (.tup [.ep (encT tr), iA 0]))) → ACall Try.prog E 20 [.sl 7 (L.map encE), .sl 1 (U.map iA)] s d K)
    (h1 : Hld (PSpec Try.prog 18 [.sl 7 (l.map encI)] (.sl 7 (L.map encE)))) (h2 : Hld (PSpec Try.prog 19 [encC c] (encX B))) (h3 : Hld (PSpec Try.prog 21 [.sl 1 (uL T)] (.sl 1 (U.map iA))))
    (hsc : Hld (PSpec Try.prog 24 [.sl 7 (L.map encE), encX B] (.sl 1 (S.map iA)))) (hpr : Hld (PSpec Try.prog 27 [.sl 7 (L.map encE), .sl 1 (U.map iA)] (.sl 7 (W.map encE)))) (hsm : Hld (PSpec Try.prog 22 [.sl 1 (S.map iA), .sl 1 (S.map iA)] (bA true)))
    (hsr : ∀ tr, p tr → PSpec Try.prog 23 [.ep (encT tr), encX B] (.sl 1 (S.map iA))) (hln : ∀ tr, p tr → PSpec Try.prog 25 [.ep (encT tr)] (iA L.length)) (hpa : ∀ tr, p tr → PSpec Try.prog 26 [.ep (encT tr)] (iA W.length)) :
    PSpec Try.prog 4 [.sl 7 (l.map encI), .sl 1 (uL T), encC c] (bA true) := by
  have hk := Hld.mk s_known
  refine PSpec_of Try.func4 rfl rfl (Nat.le_of_ble_eq_true rfl) (Nat.le_of_ble_eq_true rfl) ?_
  intro E hE
  refine AW_seqt ⟨[(5, .loc 5 0), (1, .sl 1 (uL T)), (0, .sl 7 (l.map encI))], [(5, .box 32 (encC c))]⟩ ?_ (by
    intro K hK
    repeat' (first
     | (with_reducible first | refine uK ?_ | refine uX ?_ | refine AW_seqk fun K hK => ?_ | refine AW_block ?_) | ((with_reducible first | refine rS hE ?_ | refine RK_nilk ?_ | refine RK_stepk fun K' hK' => ?_ | refine AW_if fun X Y hX hY => ?_ | refine AW_ret ?_ | refine AW_skip ?_ | refine AW_exit ?_); simp [*]) | with_reducible refine rL hE ?_ | with_reducible refine And.intro ?_ ?_ | omega | (refine imp1 fun h => ?_))
    all_goals simp)
  refine AW_freeze 5 (cb := .box 32 (encC c)) (t := ⟨[(5, .ep (encC c)), (1, .sl 1 (uL T)), (0, .sl 7 (l.map encI))], []⟩) (by simp) (by simp) (by simp) ?_
  refine AW_seqt ⟨[(5, .ep (encC c)), (1, .sl 1 (uL T)), (0, .sl 7 (l.map encI))], []⟩ ?_ (by
    intro K hK
    repeat' (first
     | (with_reducible first | refine uK ?_ | refine uX ?_ | refine AW_seqk fun K hK => ?_ | refine AW_block ?_) | ((with_reducible first | refine rS hE ?_ | refine RK_nilk ?_ | refine RK_stepk fun K' hK' => ?_ | refine AW_if fun X Y hX hY => ?_ | refine AW_ret ?_ | refine AW_skip ?_ | refine AW_exit ?_); simp [*]) | with_reducible refine rL hE ?_ | (refine acall_same (hk.out) ?_ ?_ ?_; (iterate 2 (focus (simp [*] <;> fail))); simp [*]) | (refine acall_view (hk.out) ?_ ?_ ?_; (iterate 2 (focus (simp [*] <;> fail))); simp [*]) | with_reducible refine And.intro ?_ ?_ | omega | (refine imp1 fun h => ?_))
    all_goals simp)
  refine AW_seqt ⟨[(8, .loc 8 0), (7, .sl 7 (L.map encE)), (1, .sl 1 (uL T))], [(8, .box 23 (encX B))]⟩ ?_ (by
    intro K hK
    refine AW_drawHd ⟨[], []⟩ mixed (by simp) fun E' hE' => ?_
    have hEn := hE'.trans hE
    repeat' (first
     | (with_reducible first | refine useK (by assumption) ?_ | refine useK3 (by assumption) ?_) | ((with_reducible show DHd _ _ _ _ _ _ _); first | (refine DHd_done (by decide +kernel) ?_; try simp only [thenK, inBlk]) | (refine dt hEn 0 fun K' hK' => ?_; simp [*, encC, encX]; fail_if_success (with_reducible show False)) | (refine dt hEn 1 fun K' hK' => ?_; simp [*, encC, encX]; fail_if_success (with_reducible show False)) | (refine dt hEn 2 fun K' hK' => ?_; simp [*, encC, encX]; fail_if_success (with_reducible show False)) | (refine dt hEn 3 fun K' hK' => ?_; simp [*, encC, encX]; fail_if_success (with_reducible show False)) | (refine dt hEn 4 fun K' hK' => ?_; simp [*, encC, encX]; fail_if_success (with_reducible show False)) | (refine dt hEn 5 fun K' hK' => ?_; simp [*, encC, encX]; fail_if_success (with_reducible show False)) | (refine dt hEn 6 fun K' hK' => ?_; simp [*, encC, encX]; fail_if_success (with_reducible show False)) | (refine dp hEn 0 fun K' hK' => ?_; simp [*, encC, encX]; fail_if_success (with_reducible show False)) | (refine dp hEn 1 fun K' hK' => ?_; simp [*, encC, encX]; fail_if_success (with_reducible show False)) | (refine dp hEn 2 fun K' hK' => ?_; simp [*, encC, encX]; fail_if_success (with_reducible show False)) | (refine dp hEn 3 fun K' hK' => ?_; simp [*, encC, encX]; fail_if_success (with_reducible show False)) | (refine dp hEn 4 fun K' hK' => ?_; simp [*, encC, encX]; fail_if_success (with_reducible show False)) | (refine dp hEn 5 fun K' hK' => ?_; simp [*, encC, encX]; fail_if_success (with_reducible show False)) | (refine dp hEn 6 fun K' hK' => ?_; simp [*, encC, encX]; fail_if_success (with_reducible show False)) | refine DHd_any rfl (by decide +kernel) ?_) | exact DHsome_nil | refine DHsome_no (by decide +kernel) ?_ | (refine DHsome_yes (by exact rfl) rfl (by rw [hEn]; decide) (fun K' hK' => ?_) ?_; simp [*, encC, encX]; fail_if_success (with_reducible show False)) | (refine DHsome_yesG (by exact rfl) rfl (by exact rfl) (by rw [hEn]; decide) (fun K' hK' => ?_) ?_; simp [*, encC, encX]; fail_if_success (with_reducible show False)) | (refine acall_same (h1.out) ?_ ?_ ?_; (focus (simp [*, encC, encX] <;> fail)); (focus (simp [*, encC, encX] <;> fail)); simp [*, encC, encX]) | (refine acall_view (h1.out) ?_ ?_ ?_; (focus (simp [*, encC, encX] <;> fail)); (focus (simp [*, encC, encX] <;> fail)); simp [*, encC, encX]) | (refine acall_same (h2.out) ?_ ?_ ?_; (focus (simp [*, encC, encX] <;> fail)); (focus (simp [*, encC, encX] <;> fail)); simp [*, encC, encX]) | (refine acall_view (h2.out) ?_ ?_ ?_; (focus (simp [*, encC, encX] <;> fail)); (focus (simp [*, encC, encX] <;> fail)); simp [*, encC, encX]) | with_reducible refine And.intro ?_ ?_ | omega | (with_reducible refine imp1 fun h => ?_))
    all_goals simp [encX])
  refine AW_seqE (G := Tr) (fun tr => ⟨[(10, iA 0), (9, .ep (encT tr)), (8, .loc 8 0), (7, .sl 7 (L.map encE)), (1, .sl 1 (uL T))], [(8, .box 23 (encX B))]⟩) p ?_ (by
    intro K hK
    repeat' (first
     | (with_reducible first | refine uK ?_ | refine uX ?_ | refine AW_seqk fun K hK => ?_ | refine AW_block ?_) | ((with_reducible first | refine rS hE ?_ | refine RK_nilk ?_ | refine RK_stepk fun K' hK' => ?_ | refine AW_if fun X Y hX hY => ?_ | refine AW_ret ?_ | refine AW_skip ?_ | refine AW_exit ?_); simp [*]) | with_reducible refine rL hE ?_ | (refine acall_same (h3.out) ?_ ?_ ?_; (iterate 2 (focus (simp [*] <;> fail))); simp [*]) | (refine acall_view (h3.out) ?_ ?_ ?_; (iterate 2 (focus (simp [*] <;> fail))); simp [*]) | with_reducible refine And.intro ?_ ?_ | omega | (refine imp1 fun h => ?_))
    refine hbt fun tr htr => ?_
    simp
    repeat' (first
     | (with_reducible first | refine uK ?_ | refine uX ?_ | refine AW_seqk fun K hK => ?_ | refine AW_block ?_) | ((with_reducible first | refine rS hE ?_ | refine RK_nilk ?_ | refine RK_stepk fun K' hK' => ?_ | refine AW_if fun X Y hX hY => ?_ | refine AW_ret ?_ | refine AW_skip ?_ | refine AW_exit ?_); simp [*]) | with_reducible refine rL hE ?_ | with_reducible refine And.intro ?_ ?_ | omega | (refine imp1 fun h => ?_))
    exact ⟨tr, htr.out, by simp⟩)
  intro tr htr
  have g1 := Hld.mk (hsr tr htr)
  have g2 := Hld.mk (hln tr htr)
  have g3 := Hld.mk (hpa tr htr)
  clear hsr hln hpa hbt
  refine AW_freeze 8 (cb := .box 23 (encX B)) (t := ⟨[(10, iA 0), (9, .ep (encT tr)), (8, .ep (encX B)), (7, .sl 7 (L.map encE)), (1, .sl 1 (uL T))], []⟩) (by simp) (by simp) (by simp) ?_
  repeat' (first
   | (with_reducible first | refine useK (by assumption) ?_ | refine useK2 (by assumption) ?_ | refine useX (by assumption) ?_ | refine AW_seqk fun K hK => ?_ | refine AW_block ?_) | (with_reducible refine AW_regionS rfl (by rw [hE]; decide) ?_; simp [*]) | with_reducible refine AW_region (by rw [hE]; decide) ?_ | ((with_reducible show RK _ _ _ _ _ _); first | (refine RK_nilk ?_; simp [*]) | (refine RK_stepk fun K' hK' => ?_; simp [*])) | with_reducible refine AW_drawq mixed (by rw [hE]; decide) (by simp [newOK]) ?_ | ((with_reducible show RKQ _ _ _ _ _ _); first | refine RKQ_nilk ⟨by decide, ?_⟩ | (refine RKQ_stepk fun K' hK' => ?_; simp [*])) | ((with_reducible first | refine AW_if fun X Y hX hY => ?_ | refine AW_ret ?_ | refine AW_skip ?_ | refine AW_exit ?_); simp [*]) | ((first | refine acall_same (g1.out) ?_ ?_ ?_ | refine call_same (g1.out) ?_ ?_ ?_); (focus (simp [*] <;> fail)); (focus (simp [*] <;> fail)); simp [*]) | ((first | refine acall_view (g1.out) ?_ ?_ ?_ | refine call_view (g1.out) ?_ ?_ ?_); (focus (simp [*] <;> fail)); (focus (simp [*] <;> fail)); simp [*]) | ((first | refine acall_same (g2.out) ?_ ?_ ?_ | refine call_same (g2.out) ?_ ?_ ?_); (focus (simp [*] <;> fail)); (focus (simp [*] <;> fail)); simp [*]) | ((first | refine acall_view (g2.out) ?_ ?_ ?_ | refine call_view (g2.out) ?_ ?_ ?_); (focus (simp [*] <;> fail)); (focus (simp [*] <;> fail)); simp [*]) | ((first | refine acall_same (g3.out) ?_ ?_ ?_ | refine call_same (g3.out) ?_ ?_ ?_); (focus (simp [*] <;> fail)); (focus (simp [*] <;> fail)); simp [*]) | ((first | refine acall_view (g3.out) ?_ ?_ ?_ | refine call_view (g3.out) ?_ ?_ ?_); (focus (simp [*] <;> fail)); (focus (simp [*] <;> fail)); simp [*]) | ((first | refine acall_same (hsc.out) ?_ ?_ ?_ | refine call_same (hsc.out) ?_ ?_ ?_); (focus (simp [*] <;> fail)); (focus (simp [*] <;> fail)); simp [*]) | ((first | refine acall_view (hsc.out) ?_ ?_ ?_ | refine call_view (hsc.out) ?_ ?_ ?_); (focus (simp [*] <;> fail)); (focus (simp [*] <;> fail)); simp [*]) | ((first | refine acall_same (hpr.out) ?_ ?_ ?_ | refine call_same (hpr.out) ?_ ?_ ?_); (focus (simp [*] <;> fail)); (focus (simp [*] <;> fail)); simp [*]) | ((first | refine acall_view (hpr.out) ?_ ?_ ?_ | refine call_view (hpr.out) ?_ ?_ ?_); (focus (simp [*] <;> fail)); (focus (simp [*] <;> fail)); simp [*]) | ((first | refine acall_same (hsm.out) ?_ ?_ ?_ | refine call_same (hsm.out) ?_ ?_ ?_); (focus (simp [*] <;> fail)); (focus (simp [*] <;> fail)); simp [*]) | ((first | refine acall_view (hsm.out) ?_ ?_ ?_ | refine call_view (hsm.out) ?_ ?_ ?_); (focus (simp [*] <;> fail)); (focus (simp [*] <;> fail)); simp [*]) | ((first | refine acall_same (h3.out) ?_ ?_ ?_ | refine call_same (h3.out) ?_ ?_ ?_); (focus (simp [*] <;> fail)); (focus (simp [*] <;> fail)); simp [*]) | ((first | refine acall_view (h3.out) ?_ ?_ ?_ | refine call_view (h3.out) ?_ ?_ ?_); (focus (simp [*] <;> fail)); (focus (simp [*] <;> fail)); simp [*]) | with_reducible refine And.intro ?_ ?_ | omega | (refine imp1 fun h => ?_))
theorem law (l : List It) (T : List UInt8) (c : Cu) (hl : l.length ≤ maxLen) (hT : T.length ≤ maxLen) : PSpec Try.prog 4 [.sl 7 (l.map encI), .sl 1 (uL T), encC c] (bA true) := by
  have hEl := ents_len l
  have hTl := timesS_len T
  have hpl := parts_len l T
  have hpr := s_prt (entS l) (timesS T) (by omega) (by omega)
  rw [prtL_eq (timesS_inc T)] at hpr
  have hsl : (srch (entS l) (bxC c)).length ≤ 200 := by have := srch_len (entS l) (bxC c); omega
  have hsm := s_same (srch (entS l) (bxC c)) (srch (entS l) (bxC c)) (by omega) (by omega)
  refine walk l T c (entS l) (timesS T) (bxC c) (srch (entS l) (bxC c)) (partsL (entS l) (timesS T)) (TreeB (entS l) (timesS T)) acall_bt ⟨s_entries l (by unfold maxLen at hl; omega)⟩ ⟨s_bx c⟩ ⟨s_times T (by unfold maxLen at hT; omega)⟩ ⟨s_scan _ _ (by omega)⟩ ⟨hpr⟩ ⟨by simpa using hsm⟩ (fun tr h => ?_) (fun tr h => ?_) (fun tr h => ?_)
  · have := h.search (errL_ents l) (timesS_inc T) (by omega) (bxC c)
    rwa [if_pos (chk_bxC c)] at this
  · have := s_len tr; rwa [h.en] at this
  · have := s_parts tr; rwa [h.parts] at this
theorem spec (avs : List AV) (h : ShapeL Try.prog 6 Try.f4.params.toList avs) : PSpec Try.prog 4 avs (.v (.bool true)) := by
  rw [Try.params4] at h
  obtain ⟨c1, r1, rfl, h1, c2, r2, rfl, h2, c3, r3, rfl, h3, rfl⟩ := h
  obtain ⟨l, hl, hl2⟩ := avIts h1
  obtain ⟨T, hT, hT2⟩ := avUs h2
  obtain ⟨c, hc, -⟩ := avC h3
  rw [hl, hT, hc]
  exact law l T c hl2 hT2
theorem contract (H : Type) (enc : TypeId × Value → H) (W : World) (base : Nat) (args : Array Value) (ds gs : List (DataW H)) (before : List MemPlace)
    (hval : ∀ (j : Nat) t v, Try.f4.params[j]? = some t → args[j]? = some v → Value.okWide Try.prog W .any base t v)
    (hW : DataW.Whole enc Try.prog Try.f4.params.toList Rows.rtreeSearchesSpec.vars false W args.toList ds gs before) :
    Calls Try.prog 4 args W fun e W' => ∃ v, e = .returned v ∧ Rows.rtreeSearchesSpec.post enc Try.prog Try.f4 false true false false W args v W' :=
  law_contract (m := 6) (tb := 4) spec (by rw [Try.params4]; intro t ht; simp at ht; rcases ht with rfl | rfl | rfl <;> kernel_rfl) rfl laidK
    (by rw [Try.params4]; intro t ht; simp at ht; rcases ht with rfl | rfl | rfl <;> exact ⟨by kernel_rfl, by decide +kernel⟩)
    (fun ds hd => by
      rw [Try.params4] at hd
      match ds, hd with
      | [d1, d2, d3], _ => rfl) (by kernel_rfl) Try.underlying4 hval hW
theorem lifted (os : Os) (started : os.Started) (H : Type) (enc : TypeId × Value → H) :
    ReturnsInHanded {} Try.checked os 4 .any (Rows.rtreeSearchesSpec.pre6 enc Try.prog Try.f4 Rows.rtreeSearchesRow.domain false) (Rows.rtreeSearchesSpec.post enc Try.prog Try.f4 false true false false) := by
  refine returnsInHanded_of_change (C := Try.checked) ownK started (by kernel_rfl) Try.func4
    (ChangeSpec.witness6 (enc := enc) (C := Try.checked) false ⟨#[], #[zN, zN, zC], []⟩ 8 (by kernel_rfl) (by kernel_rfl) (by kernel_rfl) (by kernel_rfl)) ?_
  intro W base args ds gs before hval hW hcnd _
  exact contract H enc W base args ds gs before hval hW
theorem said : Rows.RtreeSearchesSaid :=
  OpenClaim.holds_of_wide 4 Try.f4 rfl rfl rfl rfl rfl rfl rfl ⟨rfl, rfl, rfl, rfl, rfl⟩ rfl rfl rfl rfl rfl (by kernel_rfl) Try.func4 (by kernel_rfl)
    (of_decide_eq_true (by kernel_rfl)) (by unfold Func.isWrapper; first | (rw [if_pos (by decide +kernel)]; kernel_rfl) | (rw [if_neg (by decide +kernel)]; exact ⟨rfl, rfl⟩))
    (fun os started H enc _ => lifted os started H enc)
end L2
end Go.Proofs.Ytlkijcflfnnbaaa
