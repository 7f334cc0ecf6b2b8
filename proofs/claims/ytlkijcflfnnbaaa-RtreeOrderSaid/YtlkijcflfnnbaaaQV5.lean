/- RtreeOrder: for any entries, splits and box the law hands back true. Conditions: none. -/
import Derived.Test.YtlkijcflfnnbaaaZE
set_option maxRecDepth 100000
set_option linter.unusedSimpArgs false
set_option linter.unusedVariables false
namespace Go.Proofs.Ytlkijcflfnnbaaa
open Go.Am Go.RowKit Go.ChangeShapes Go.WideShapes Go.ChangeAt
namespace L4
def zN : Value := .slice none 0 0
def zC : Value := .agg #[.int .u8 0, .int .u8 0, .int .u8 0, .int .u8 0, .int .u8 0, .int .u8 0]
abbrev uL (T : List UInt8) : List AV := T.map fun u => uA u.toNat
set_option maxHeartbeats 4000000 in
theorem walk (l : List It) (T : List UInt8) (c : Cu) (L R : List En) (U : List Int) (B : Bx) (S A : List Int) (p q : Tr → Prop) (hL : L.length ≤ 200) (hRl : R.length = L.length) (hRs : ∀ j (h : L.length - 1 - j < L.length), j < L.length → R.take (j + 1) = R.take j ++ [L[L.length - 1 - j]])
    (hbt : ∀ {E : Env} {s : AState} {d : Option Tmp} {K : AState → Prop}, (∀ tr, Hld (p tr) → K (s.put d (.tup [.ep (encT tr), iA 0]))) → ACall Try.prog E 20 [.sl 7 (L.map encE), .sl 1 (U.map iA)] s d K)
    (hbu : ∀ {E : Env} {s : AState} {d : Option Tmp} {K : AState → Prop}, (∀ tr, Hld (q tr) → K (s.put d (.tup [.ep (encT tr), iA 0]))) → ACall Try.prog E 20 [.sl 7 (R.map encE), .v (.slice none 0 0)] s d K)
    (h1 : Hld (PSpec Try.prog 18 [.sl 7 (l.map encI)] (.sl 7 (L.map encE)))) (h2 : Hld (PSpec Try.prog 19 [encC c] (encX B))) (h3 : Hld (PSpec Try.prog 21 [.sl 1 (uL T)] (.sl 1 (U.map iA))))
    (hsm : Hld (PSpec Try.prog 22 [.sl 1 (S.map iA), .sl 1 (S.map iA)] (bA true))) (hsm2 : Hld (PSpec Try.prog 22 [.sl 1 (A.map iA), .sl 1 (A.map iA)] (bA true)))
    (hst : ∀ tr, p tr → PSpec Try.prog 23 [.ep (encT tr), encX B] (.sl 1 (S.map iA))) (hsu : ∀ tr, q tr → PSpec Try.prog 23 [.ep (encT tr), encX B] (.sl 1 (S.map iA)))
    (hat : ∀ tr, p tr → PSpec Try.prog 29 [.ep (encT tr), iA B.t0] (.sl 1 (A.map iA))) (hau : ∀ tr, q tr → PSpec Try.prog 29 [.ep (encT tr), iA B.t0] (.sl 1 (A.map iA))) :
    PSpec Try.prog 6 [.sl 7 (l.map encI), .sl 1 (uL T), encC c] (bA true) := by
  have hk := Hld.mk s_known
  replace hRs := Hld.mk hRs
  refine PSpec_of Try.func6 rfl rfl (Nat.le_of_ble_eq_true rfl) (Nat.le_of_ble_eq_true rfl) ?_
  intro E hE
  refine AW_seqt ⟨[(5, .loc 5 0), (1, .sl 1 (uL T)), (0, .sl 7 (l.map encI))], [(5, .box 32 (encC c))]⟩ ?_ (by
    intro K hK
    repeat' (first
     | (with_reducible first | refine uK ?_ | refine uX ?_ | refine jq fun K hK => ?_ | refine jb ?_) | ((with_reducible first | refine rS hE ?_ | refine jn ?_ | refine js fun K' hK' => ?_ | refine ji fun X Y hX hY => ?_ | refine jr ?_ | refine jk ?_ | refine jx ?_); simp [*]) | with_reducible refine rL hE ?_ | with_reducible refine And.intro ?_ ?_ | omega | (refine imp1 fun h => ?_))
    all_goals simp)
  refine AW_freeze 5 (cb := .box 32 (encC c)) (t := ⟨[(5, .ep (encC c)), (1, .sl 1 (uL T)), (0, .sl 7 (l.map encI))], []⟩) (by simp) (by simp) (by simp) ?_
  refine AW_seqt ⟨[(5, .ep (encC c)), (1, .sl 1 (uL T)), (0, .sl 7 (l.map encI))], []⟩ ?_ (by
    intro K hK
    repeat' (first
     | (with_reducible first | refine uK ?_ | refine uX ?_ | refine jq fun K hK => ?_ | refine jb ?_) | ((with_reducible first | refine rS hE ?_ | refine jn ?_ | refine js fun K' hK' => ?_ | refine ji fun X Y hX hY => ?_ | refine jr ?_ | refine jk ?_ | refine jx ?_); simp [*]) | with_reducible refine rL hE ?_ | (refine jC (hk.out) ?_ ?_ ?_; (iterate 2 focus (simp [*] <;> fail)); simp [*]) | with_reducible refine And.intro ?_ ?_ | omega | (refine imp1 fun h => ?_))
    all_goals simp)
  refine AW_seqt ⟨[(8, .loc 8 0), (7, .sl 7 (L.map encE)), (1, .sl 1 (uL T))], [(8, .box 23 (encX B))]⟩ ?_ (by
    intro K hK
    refine AW_drawHd ⟨[], []⟩ mixed (by simp) fun E' hE' => ?_
    have hEn := hE'.trans hE
    repeat' (first
     | (with_reducible first | refine useK (by assumption) ?_ | refine useK3 (by assumption) ?_) | ((with_reducible show DHd _ _ _ _ _ _ _); first | (refine DHd_done (by decide +kernel) ?_; try simp only [thenK, inBlk]) | (refine dt hEn 0 fun K' hK' => ?_; simp [*, encC, encX]; fail_if_success (with_reducible show False)) | (refine dt hEn 1 fun K' hK' => ?_; simp [*, encC, encX]; fail_if_success (with_reducible show False)) | (refine dt hEn 2 fun K' hK' => ?_; simp [*, encC, encX]; fail_if_success (with_reducible show False)) | (refine dt hEn 3 fun K' hK' => ?_; simp [*, encC, encX]; fail_if_success (with_reducible show False)) | (refine dt hEn 4 fun K' hK' => ?_; simp [*, encC, encX]; fail_if_success (with_reducible show False)) | (refine dt hEn 5 fun K' hK' => ?_; simp [*, encC, encX]; fail_if_success (with_reducible show False)) | (refine dt hEn 6 fun K' hK' => ?_; simp [*, encC, encX]; fail_if_success (with_reducible show False)) | (refine dp hEn 0 fun K' hK' => ?_; simp [*, encC, encX]; fail_if_success (with_reducible show False)) | (refine dp hEn 1 fun K' hK' => ?_; simp [*, encC, encX]; fail_if_success (with_reducible show False)) | (refine dp hEn 2 fun K' hK' => ?_; simp [*, encC, encX]; fail_if_success (with_reducible show False)) | (refine dp hEn 3 fun K' hK' => ?_; simp [*, encC, encX]; fail_if_success (with_reducible show False)) | (refine dp hEn 4 fun K' hK' => ?_; simp [*, encC, encX]; fail_if_success (with_reducible show False)) | (refine dp hEn 5 fun K' hK' => ?_; simp [*, encC, encX]; fail_if_success (with_reducible show False)) | (refine dp hEn 6 fun K' hK' => ?_; simp [*, encC, encX]; fail_if_success (with_reducible show False)) | refine DHd_any rfl (by decide +kernel) ?_) | exact DHsome_nil | refine DHsome_no (by decide +kernel) ?_ | (refine DHsome_yes (by exact rfl) rfl (by rw [hEn]; decide) (fun K' hK' => ?_) ?_; simp [*, encC, encX]; fail_if_success (with_reducible show False)) | (refine DHsome_yesG (by exact rfl) rfl (by exact rfl) (by rw [hEn]; decide) (fun K' hK' => ?_) ?_; simp [*, encC, encX]; fail_if_success (with_reducible show False)) | (refine acall_same (h1.out) ?_ ?_ ?_; (focus (simp [*, encC, encX] <;> fail)); (focus (simp [*, encC, encX] <;> fail)); simp [*, encC, encX]) | (refine acall_view (h1.out) ?_ ?_ ?_; (focus (simp [*, encC, encX] <;> fail)); (focus (simp [*, encC, encX] <;> fail)); simp [*, encC, encX]) | (refine acall_same (h2.out) ?_ ?_ ?_; (focus (simp [*, encC, encX] <;> fail)); (focus (simp [*, encC, encX] <;> fail)); simp [*, encC, encX]) | (refine acall_view (h2.out) ?_ ?_ ?_; (focus (simp [*, encC, encX] <;> fail)); (focus (simp [*, encC, encX] <;> fail)); simp [*, encC, encX]) | with_reducible refine And.intro ?_ ?_ | omega | (with_reducible refine imp1 fun h => ?_))
    all_goals simp [encX])
  refine AW_freeze 8 (cb := .box 23 (encX B)) (t := ⟨[(8, .ep (encX B)), (7, .sl 7 (L.map encE)), (1, .sl 1 (uL T))], []⟩) (by simp) (by simp) (by simp) ?_
  refine AW_seqt ⟨[(9, .v (.slice none 0 0)), (8, .ep (encX B)), (7, .sl 7 (L.map encE)), (1, .sl 1 (uL T))], []⟩ ?_ (by
    intro K hK
    repeat' (first
     | (with_reducible first | refine uK ?_ | refine uX ?_ | refine jq fun K hK => ?_ | refine jb ?_) | ((with_reducible first | refine rS hE ?_ | refine jn ?_ | refine js fun K' hK' => ?_ | refine ji fun X Y hX hY => ?_ | refine jr ?_ | refine jk ?_ | refine jx ?_); simp [*]) | with_reducible refine rL hE ?_ | with_reducible refine And.intro ?_ ?_ | omega | (refine imp1 fun h => ?_))
    all_goals simp)
  refine AW_mkrow 9 34 51 7 (by simp) (by simp) (by simp) (by omega) ?_
  refine AW_seqt ⟨[(9, .own 34 7 0 L.length), (8, .ep (encX B)), (7, .sl 7 (L.map encE)), (1, .sl 1 (uL T))], [(34, .arr 51 7 ((R.take L.length).map encE))]⟩ ?_ (by
    intro K hK
    repeat' (first
     | (with_reducible first | refine uK ?_ | refine uX ?_ | refine jq fun K hK => ?_ | refine jb ?_) | ((with_reducible first | refine rS hE ?_ | refine jn ?_ | refine js fun K' hK' => ?_ | refine ji fun X Y hX hY => ?_ | refine jr ?_ | refine jk ?_ | refine jx ?_); simp [*]) | with_reducible refine rL hE ?_ | with_reducible refine And.intro ?_ ?_ | omega | (refine imp1 fun h => ?_))
    refine AW_loopk (G := Nat) (fun j => ⟨[(10, iA ((L.length : Int) - 1 - j)), (9, .own 34 7 0 j), (8, .ep (encX B)), (7, .sl 7 (L.map encE)), (1, .sl 1 (uL T))], [(34, .arr 51 7 ((R.take j).map encE))]⟩) (fun j => j ≤ L.length) (fun j => L.length - j) 0 (Nat.zero_le _) (by simp) ?_
    intro j hj K hK
    by_cases hlt : j < L.length
    · have hr := hRs.out j (by omega) hlt
      obtain ⟨i, hi⟩ : ∃ i, L.length - 1 - j = i := ⟨_, rfl⟩
      have hiI : (L.length : Int) - 1 - j = i := by omega
      have hiL : i < L.length := by omega
      have hiI2 : (L.length : Int) - 1 - ((j + 1 : Nat) : Int) = (i : Int) - 1 := by omega
      simp only [hi] at hr
      obtain ⟨M, hM⟩ : ∃ M, R.take j = M := ⟨_, rfl⟩
      have hMl : M.length = j := by rw [← hM, List.length_take]; omega
      rw [hM] at hr
      have hMt : (M.map encE).take j = M.map encE := List.take_of_length_le (by simp [hMl])
      replace hr : Hld (R.take (j + 1) = M ++ [L[i]'hiL]) := ⟨hr⟩
      refine AW_le (t := ⟨[(10, iA i), (9, .own 34 7 0 j), (8, .ep (encX B)), (7, .sl 7 (L.map encE)), (1, .sl 1 (uL T))], [(34, .arr 51 7 (M.map encE))]⟩) (by simp [hiI, hM]) ?_
      clear hM hi
      repeat' (first
       | (with_reducible first | refine uK ?_ | refine uX ?_ | refine jq fun K hK => ?_ | refine jb ?_) | ((with_reducible first | refine rS hE ?_ | refine jn ?_ | refine js fun K' hK' => ?_ | refine ji fun X Y hX hY => ?_ | refine jr ?_ | refine jk ?_ | refine jx ?_); simp [*]) | with_reducible refine rL hE ?_ | with_reducible refine And.intro ?_ ?_ | omega | (refine imp1 fun h => ?_))
      exact ⟨j + 1, by omega, by omega, by rw [hiI2]; simp [hr.out, hMl]⟩
    · have hie : j = L.length := by omega
      subst hie
      have hiI : (L.length : Int) - 1 - L.length = -1 := by omega
      repeat' (first
       | (with_reducible first | refine uK ?_ | refine uX ?_ | refine jq fun K hK => ?_ | refine jb ?_) | ((with_reducible first | refine rS hE ?_ | refine jn ?_ | refine js fun K' hK' => ?_ | refine ji fun X Y hX hY => ?_ | refine jr ?_ | refine jk ?_ | refine jx ?_); simp [*]) | with_reducible refine rL hE ?_ | with_reducible refine And.intro ?_ ?_ | omega | (refine imp1 fun h => ?_))
      all_goals simp)
  have hRt : R.take L.length = R := List.take_of_length_le (by omega)
  rw [hRt]
  clear hRt hRs
  refine AW_freeze 34 (cb := .arr 51 7 (R.map encE)) (t := ⟨[(9, .sl 7 (R.map encE)), (8, .ep (encX B)), (7, .sl 7 (L.map encE)), (1, .sl 1 (uL T))], []⟩) (by simp) (by simp [List.take_of_length_le, hRl]) (by simp) ?_
  refine AW_seqE (G := Tr) (fun tr => ⟨[(12, iA 0), (11, .ep (encT tr)), (9, .sl 7 (R.map encE)), (8, .ep (encX B))], []⟩) p ?_ (by
    intro K hK
    repeat' (first
     | (with_reducible first | refine uK ?_ | refine uX ?_ | refine jq fun K hK => ?_ | refine jb ?_) | ((with_reducible first | refine rS hE ?_ | refine jn ?_ | refine js fun K' hK' => ?_ | refine ji fun X Y hX hY => ?_ | refine jr ?_ | refine jk ?_ | refine jx ?_); simp [*]) | with_reducible refine rL hE ?_ | (refine jC (h3.out) ?_ ?_ ?_; (iterate 2 focus (simp [*] <;> fail)); simp [*]) | with_reducible refine And.intro ?_ ?_ | omega | (refine imp1 fun h => ?_))
    refine hbt fun tr htr => ?_
    simp
    repeat' (first
     | (with_reducible first | refine uK ?_ | refine uX ?_ | refine jq fun K hK => ?_ | refine jb ?_) | ((with_reducible first | refine rS hE ?_ | refine jn ?_ | refine js fun K' hK' => ?_ | refine ji fun X Y hX hY => ?_ | refine jr ?_ | refine jk ?_ | refine jx ?_); simp [*]) | with_reducible refine rL hE ?_ | with_reducible refine And.intro ?_ ?_ | omega | (refine imp1 fun h => ?_))
    exact ⟨tr, htr.out, by simp⟩)
  intro tr htr
  have g1 := Hld.mk (hst tr htr)
  have g2 := Hld.mk (hat tr htr)
  clear hst hat hbt
  refine AW_seqE (G := Tr) (fun tu => ⟨[(14, iA 0), (13, .ep (encT tu)), (12, iA 0), (11, .ep (encT tr)), (8, .ep (encX B))], []⟩) q ?_ (by
    intro K hK
    repeat' (first
     | (with_reducible first | refine uK ?_ | refine uX ?_ | refine jq fun K hK => ?_ | refine jb ?_) | ((with_reducible first | refine rS hE ?_ | refine jn ?_ | refine js fun K' hK' => ?_ | refine ji fun X Y hX hY => ?_ | refine jr ?_ | refine jk ?_ | refine jx ?_); simp [*]) | with_reducible refine rL hE ?_ | with_reducible refine And.intro ?_ ?_ | omega | (refine imp1 fun h => ?_))
    refine hbu fun tu htu => ?_
    simp
    repeat' (first
     | (with_reducible first | refine uK ?_ | refine uX ?_ | refine jq fun K hK => ?_ | refine jb ?_) | ((with_reducible first | refine rS hE ?_ | refine jn ?_ | refine js fun K' hK' => ?_ | refine ji fun X Y hX hY => ?_ | refine jr ?_ | refine jk ?_ | refine jx ?_); simp [*]) | with_reducible refine rL hE ?_ | with_reducible refine And.intro ?_ ?_ | omega | (refine imp1 fun h => ?_))
    exact ⟨tu, htu.out, by simp⟩)
  intro tu htu
  have g3 := Hld.mk (hsu tu htu)
  have g4 := Hld.mk (hau tu htu)
  clear hsu hau hbu
  refine AW_seqt ⟨[(13, .ep (encT tu)), (11, .ep (encT tr)), (8, .ep (encX B))], []⟩ ?_ (by
    intro K hK
    repeat' (first
     | (with_reducible first | refine uK ?_ | refine uX ?_ | refine jq fun K hK => ?_ | refine jb ?_) | ((with_reducible first | refine rS hE ?_ | refine jn ?_ | refine js fun K' hK' => ?_ | refine ji fun X Y hX hY => ?_ | refine jr ?_ | refine jk ?_ | refine jx ?_); simp [*]) | with_reducible refine rL hE ?_ | with_reducible refine And.intro ?_ ?_ | omega | (refine imp1 fun h => ?_))
    all_goals simp)
  repeat' (first
   | (with_reducible first | refine uK ?_ | refine uQ ?_ | refine uX ?_ | refine jq fun K hK => ?_ | refine jb ?_) | (with_reducible refine rS hE ?_; simp [*, encX]) | with_reducible refine rL hE ?_ | (((with_reducible show RK _ _ _ _ _ _); first | refine jn ?_ | refine js fun K' hK' => ?_); simp [*, encX]) | with_reducible refine rD mixed hE ?_ | ((with_reducible show RKQ _ _ _ _ _ _); first | refine RKQ_nilk ⟨by decide, ?_⟩ | (refine jv fun K' hK' => ?_; simp [*, encX])) | ((with_reducible first | refine ji fun X Y hX hY => ?_ | refine jr ?_ | refine jk ?_ | refine jx ?_); simp [*, encX]) | ((first | refine jC (g1.out) ?_ ?_ ?_ | refine jQ (g1.out) ?_ ?_ ?_); (iterate 2 focus (simp [*, encX] <;> fail)); simp [*, encX]) | ((first | refine jC (g2.out) ?_ ?_ ?_ | refine jQ (g2.out) ?_ ?_ ?_); (iterate 2 focus (simp [*, encX] <;> fail)); simp [*, encX]) | ((first | refine jC (g3.out) ?_ ?_ ?_ | refine jQ (g3.out) ?_ ?_ ?_); (iterate 2 focus (simp [*, encX] <;> fail)); simp [*, encX]) | ((first | refine jC (g4.out) ?_ ?_ ?_ | refine jQ (g4.out) ?_ ?_ ?_); (iterate 2 focus (simp [*, encX] <;> fail)); simp [*, encX]) | ((first | refine jC (hsm.out) ?_ ?_ ?_ | refine jQ (hsm.out) ?_ ?_ ?_); (iterate 2 focus (simp [*, encX] <;> fail)); simp [*, encX]) | ((first | refine jC (hsm2.out) ?_ ?_ ?_ | refine jQ (hsm2.out) ?_ ?_ ?_); (iterate 2 focus (simp [*, encX] <;> fail)); simp [*, encX]) | with_reducible refine And.intro ?_ ?_ | omega | (refine imp1 fun h => ?_))
theorem acall_bt0 {E : Env} {s : AState} {d : Option Tmp} {K : AState → Prop} {R : List En} (hR : R.length ≤ 200) (hc : ∀ x ∈ R, chkX x.b = 0) (hk : ∀ tr, Hld (TreeB R [] tr) → K (s.put d (.tup [.ep (encT tr), iA 0]))) :
    ACall Try.prog E 20 [.sl 7 (R.map encE), .v (.slice none 0 0)] s d K := by
  have hp := partsL_len R []
  simp only [List.length_nil, Nat.zero_add, Nat.mul_one] at hp
  have hm := (m_build R [] (by omega) (by simp) (by omega)).args (xs := [.sl 7 (R.map encE), .v (.slice none 0 0)]) (by simp)
  refine acall_rel hm (by simp) (fun r h => h.idf) fun r hr => ?_
  obtain ⟨tr, rfl, ht⟩ := hr.ok (errL_of fun b hb => by
    obtain ⟨x, hx, rfl⟩ := List.mem_map.1 hb
    exact hc x hx) rfl
  exact hk tr ⟨ht⟩
theorem alive_of {L : List En} {ss : List Int} {tr : Tr} (h : TreeB L ss tr) (h1 : errL (L.map En.b) = 0) (h2 : incB ss = true) (hp : (partsL L ss).length ≤ 262144) {H : Bx} (hH : L ≠ [] → Hull H (L.map En.b)) {t : Int} (ht : inL t = true) : PSpec Try.prog 29 [.ep (encT tr), iA t] (.sl 1 ((if L = [] then [] else srch L (lineX H t)).map iA)) := by
  by_cases hne : L = []
  · have hn : tr.nd = [] := (TreeB.none (hne ▸ h)).1
    have := s_alive tr t [] (fun h1 _ => absurd hn h1)
    rw [if_neg (fun hh => hh.1 hn)] at this
    rw [if_pos hne]
    exact this
  · have := h.alive h1 h2 hp (hH hne) hne t
    rw [if_pos ht] at this
    rw [if_neg hne]
    exact this
theorem srch_mem {L R : List En} (h : ∀ x, x ∈ L ↔ x ∈ R) (q : Bx) : srch L q = srch R q :=
  eq_of_mem (srch_lt _ _) (srch_lt _ _) fun k => by
    rw [mem_srch, mem_srch]
    constructor <;> rintro ⟨x, hx, hh⟩
    · exact ⟨x, (h x).1 hx, hh⟩
    · exact ⟨x, (h x).2 hx, hh⟩
theorem law (l : List It) (T : List UInt8) (c : Cu) (hl : l.length ≤ maxLen) (hT : T.length ≤ maxLen) : PSpec Try.prog 6 [.sl 7 (l.map encI), .sl 1 (uL T), encC c] (bA true) := by
  have hEl := ents_len l
  have hTl := timesS_len T
  have hpl := parts_len l T
  have hpr := partsL_len (entS l).reverse []
  simp only [List.length_nil, Nat.zero_add, Nat.mul_one, List.length_reverse] at hpr
  have hmem : ∀ x, x ∈ entS l ↔ x ∈ (entS l).reverse := fun x => by simp
  have hcr : ∀ x ∈ (entS l).reverse, chkX x.b = 0 := fun x hx => ents_chk l x (by simpa using hx)
  have her : errL ((entS l).reverse.map En.b) = 0 := errL_of fun b hb => by
    obtain ⟨x, hx, rfl⟩ := List.mem_map.1 hb
    exact hcr x hx
  have hin : inL (bxC c).t0 = true := by
    have := bxC_in c
    simp only [inL, Bool.and_eq_true, decide_eq_true_eq]
    omega
  have hH : entS l ≠ [] → Hull (accB (hdB (entS l)) (entS l)) ((entS l).map En.b) := fun h => hull_acc h
  have hHr : (entS l).reverse ≠ [] → Hull (accB (hdB (entS l)) (entS l)) ((entS l).reverse.map En.b) := fun h => (hH (by simpa using h)).sub fun b => by simp
  obtain ⟨A, hA⟩ : ∃ A, (if entS l = [] then [] else srch (entS l) (lineX (accB (hdB (entS l)) (entS l)) (bxC c).t0)) = A := ⟨_, rfl⟩
  have hA2 : (if (entS l).reverse = [] then [] else srch (entS l).reverse (lineX (accB (hdB (entS l)) (entS l)) (bxC c).t0)) = A := by
    rw [← hA, srch_mem hmem]
    simp
  have hAl : A.length ≤ 200 := by
    rw [← hA]
    split
    · simp
    · have := srch_len (entS l) (lineX (accB (hdB (entS l)) (entS l)) (bxC c).t0); omega
  have hsl : (srch (entS l) (bxC c)).length ≤ 200 := by have := srch_len (entS l) (bxC c); omega
  have hsm := s_same (srch (entS l) (bxC c)) (srch (entS l) (bxC c)) (by omega) (by omega)
  have hsm2 := s_same A A (by omega) (by omega)
  refine walk l T c (entS l) (entS l).reverse (timesS T) (bxC c) (srch (entS l) (bxC c)) A (TreeB (entS l) (timesS T)) (TreeB (entS l).reverse []) hEl (by simp) (fun j h hj => ?_) acall_bt (fun h => acall_bt0 (by simpa using hEl) hcr h) ⟨s_entries l (by unfold maxLen at hl; omega)⟩ ⟨s_bx c⟩ ⟨s_times T (by unfold maxLen at hT; omega)⟩ ⟨by simpa using hsm⟩ ⟨by simpa using hsm2⟩ (fun tr h => ?_) (fun tr h => ?_) (fun tr h => ?_) (fun tr h => ?_)
  · rw [List.take_succ_eq_append_getElem (by simpa using hj)]
    simp
  · have := h.search (errL_ents l) (timesS_inc T) (by omega) (bxC c)
    rwa [if_pos (chk_bxC c)] at this
  · have := h.search her rfl (by omega) (bxC c)
    rw [if_pos (chk_bxC c), ← srch_mem hmem] at this
    exact this
  · have := alive_of h (errL_ents l) (timesS_inc T) (by omega) hH hin
    rwa [hA] at this
  · have := alive_of h her rfl (by omega) hHr hin
    rwa [hA2] at this
theorem spec (avs : List AV) (h : ShapeL Try.prog 6 Try.f6.params.toList avs) : PSpec Try.prog 6 avs (.v (.bool true)) := by
  rw [Try.params6] at h
  obtain ⟨c1, r1, rfl, h1, c2, r2, rfl, h2, c3, r3, rfl, h3, rfl⟩ := h
  obtain ⟨l, hl, hl2⟩ := avIts h1
  obtain ⟨T, hT, hT2⟩ := avUs h2
  obtain ⟨c, hc, -⟩ := avC h3
  rw [hl, hT, hc]
  exact law l T c hl2 hT2
theorem contract (H : Type) (enc : TypeId × Value → H) (W : World) (base : Nat) (args : Array Value) (ds gs : List (DataW H)) (before : List MemPlace)
    (hval : ∀ (j : Nat) t v, Try.f6.params[j]? = some t → args[j]? = some v → Value.okWide Try.prog W .any base t v)
    (hW : DataW.Whole enc Try.prog Try.f6.params.toList Rows.rtreeOrderSpec.vars false W args.toList ds gs before) :
    Calls Try.prog 6 args W fun e W' => ∃ v, e = .returned v ∧ Rows.rtreeOrderSpec.post enc Try.prog Try.f6 false true false false W args v W' :=
  law_contract (m := 6) (tb := 4) spec (by rw [Try.params6]; intro t ht; simp at ht; rcases ht with rfl | rfl | rfl <;> kernel_rfl) rfl laidK
    (by rw [Try.params6]; intro t ht; simp at ht; rcases ht with rfl | rfl | rfl <;> exact ⟨by kernel_rfl, by decide +kernel⟩)
    (fun ds hd => by
      rw [Try.params6] at hd
      match ds, hd with
      | [d1, d2, d3], _ => rfl) (by kernel_rfl) Try.underlying4 hval hW
theorem lifted (os : Os) (started : os.Started) (H : Type) (enc : TypeId × Value → H) :
    ReturnsInHanded {} Try.checked os 6 .any (Rows.rtreeOrderSpec.pre6 enc Try.prog Try.f6 Rows.rtreeOrderRow.domain false) (Rows.rtreeOrderSpec.post enc Try.prog Try.f6 false true false false) := by
  refine returnsInHanded_of_change (C := Try.checked) ownK started (by kernel_rfl) Try.func6
    (ChangeSpec.witness6 (enc := enc) (C := Try.checked) false ⟨#[], #[zN, zN, zC], []⟩ 8 (by kernel_rfl) (by kernel_rfl) (by kernel_rfl) (by kernel_rfl)) ?_
  intro W base args ds gs before hval hW hcnd _
  exact contract H enc W base args ds gs before hval hW
theorem said : Rows.RtreeOrderSaid :=
  OpenClaim.holds_of_wide 6 Try.f6 rfl rfl rfl rfl rfl rfl rfl ⟨rfl, rfl, rfl, rfl, rfl⟩ rfl rfl rfl rfl rfl (by kernel_rfl) Try.func6 (by kernel_rfl)
    (of_decide_eq_true (by kernel_rfl)) (by unfold Func.isWrapper; first | (rw [if_pos (by decide +kernel)]; kernel_rfl) | (rw [if_neg (by decide +kernel)]; exact ⟨rfl, rfl⟩))
    (fun os started H enc _ => lifted os started H enc)
end L4
end Go.Proofs.Ytlkijcflfnnbaaa
