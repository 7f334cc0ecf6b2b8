/- DERIVED: THE SHELF's CONTRACTS AT THIS DUMP, IN PLAIN WORDS (tools/lay-plain.mjs out of 'TryShelf.lean', which tools/lay-shelf.mjs wrote): THE SAME DECLARATIONS UNDER THE SAME NAMES: 'import', 'namespace', 'open', 'def', 'theorem' AND NOTHING ELSE: no command of the shelf's: FOR A HAND-IN. Each laying: the table of numbers ('.._ren') and one theorem, a field a fact of the dump's own or the kernel's comparison; each contract: ONE APPLICATION. slices.Compact at ints. slices.Clone, SortFunc, Compact as calls; report.Set. Concat, Union. IndexFunc, DeleteFunc, Of, Last. Last, Objects. BinarySearchFunc, Changed. Changed. Changed. Plain Lean: what counts; the law's set. The law's winner, counting, set, join. The law's set, counting. within, Check, CheckExchange. CheckExchange; known. What the laws' arguments are. ReportCompares: for any three reports the law hands back true. Conditions: none. Plain Lean: what the laws of the layer say of the functions. Nothing of the program stands here. The functions as values, for the laws. -/
import Derived.Test.YtmjckbokjjnmeaaRows
import Derived.Shelf.SlSortCmp.NoneTotal
import Derived.Shelf.SortM.Plain
import Derived.Shelf.SortM.SortNone
import Derived.Ground.SlsfProg
import Derived.Ground.SlgmProg
import Derived.Test.YtmjckbokjjnmeaaZ4
import Derived.Test.YtmjckbokjjnmeaaZ3
set_option maxRecDepth 100000
set_option linter.unusedSimpArgs false
set_option linter.unusedVariables false
section
namespace Go.Proofs
open Go.Shelf
def Try.sortFunc_ren : Go.Shelf.Ren := ⟨fun | 6 => 42 | 15 => 55 | 14 => 54 | 28 => 71 | 29 => 72 | 20 => 63 | 21 => 64 | 22 => 65 | 23 => 66 | 24 => 67 | 25 => 68 | 26 => 69 | 27 => 70 | 46 => 83 | 47 => 84 | 48 => 85 | 49 => 86 | 50 => 87 | 57 => 91 | n => n, fun | 22 => 27 | 24 => 23 | 25 => 24 | 3 => 3 | 39 => 74 | 0 => 0 | 53 => 88 | 55 => 90 | 4 => 4 | 46 => 82 | 45 => 81 | 50 => 67 | 5 => 5 | 9 => 9 | 66 => 98 | 70 => 102 | 76 => 106 | 77 => 107 | n => n, fun | n => n⟩
theorem Try.sortFunc : Go.Proofs.SlLaysF0.n6 Try.prog Try.sortFunc_ren := {
  mixed := by kernel_rfl
  f6 := ⟨Try.f42.name, by decide, Try.func42.trans (congrArg some (by kernel_rfl))⟩
  f14 := ⟨Try.f54.name, by decide, Try.func54.trans (congrArg some (by kernel_rfl))⟩
  f15 := Try.func55.trans (congrArg some (by kernel_rfl))
  f20 := ⟨Try.f63.name, by decide, Try.func63.trans (congrArg some (by kernel_rfl))⟩
  f21 := ⟨Try.f64.name, by decide, Try.func64.trans (congrArg some (by kernel_rfl))⟩
  f22 := ⟨Try.f65.name, by decide, Try.func65.trans (congrArg some (by kernel_rfl))⟩
  f23 := ⟨Try.f66.name, by decide, Try.func66.trans (congrArg some (by kernel_rfl))⟩
  f24 := ⟨Try.f67.name, by decide, Try.func67.trans (congrArg some (by kernel_rfl))⟩
  f25 := ⟨Try.f68.name, by decide, Try.func68.trans (congrArg some (by kernel_rfl))⟩
  f26 := ⟨Try.f69.name, by decide, Try.func69.trans (congrArg some (by kernel_rfl))⟩
  f27 := ⟨Try.f70.name, by decide, Try.func70.trans (congrArg some (by kernel_rfl))⟩
  f28 := Try.func71.trans (congrArg some (by kernel_rfl))
  f29 := Try.func72.trans (congrArg some (by kernel_rfl))
  f46 := ⟨Try.f83.name, by decide, Try.func83.trans (congrArg some (by kernel_rfl))⟩
  f47 := Try.func84.trans (congrArg some (by kernel_rfl))
  f48 := Try.func85.trans (congrArg some (by kernel_rfl))
  f49 := ⟨Try.f86.name, by decide, Try.func86.trans (congrArg some (by kernel_rfl))⟩
  f50 := ⟨Try.f87.name, by decide, Try.func87.trans (congrArg some (by kernel_rfl))⟩
  f57 := ⟨Try.f91.name, by decide, Try.func91.trans (congrArg some (by kernel_rfl))⟩
  t0 := Try.underlying0
  a0 := Try.isAgg0
  z0 := Try.sizeOf0
  v0 := Try.zeroValue0
  t3 := Try.underlying3
  a3 := Try.isAgg3
  z3 := Try.sizeOf3
  v3 := Try.zeroValue3
  t4 := Try.underlying4
  a4 := Try.isAgg4
  z4 := Try.sizeOf4
  v4 := Try.zeroValue4
  t5 := Try.underlying5
  a5 := Try.isAgg5
  z5 := Try.sizeOf5
  v5 := Try.zeroValue5
  t9 := Try.underlying9
  a9 := Try.isAgg9
  z9 := Try.sizeOf9
  v9 := Try.zeroValue9
  t22 := Try.underlying27
  a22 := Try.isAgg27
  z22 := Try.sizeOf27
  v22 := Try.zeroValue27
  t25 := Try.underlying24
  a25 := Try.isAgg24
  z25 := Try.sizeOf24
  v25 := Try.zeroValue24
  t39 := Try.underlying74
  a39 := Try.isAgg74
  z39 := Try.sizeOf74
  v39 := Try.zeroValue74
  t45 := Try.underlying81
  a45 := Try.isAgg81
  z45 := Try.sizeOf81
  v45 := Try.zeroValue81
  t46 := Try.underlying82
  a46 := Try.isAgg82
  z46 := Try.sizeOf82
  v46 := Try.zeroValue82
  t50 := Try.underlying67
  a50 := Try.isAgg67
  z50 := Try.sizeOf67
  v50 := Try.zeroValue67
  t53 := Try.underlying88
  a53 := Try.isAgg88
  z53 := Try.sizeOf88
  v53 := Try.zeroValue88
  t55 := Try.underlying90
  a55 := Try.isAgg90
  z55 := Try.sizeOf90
  v55 := Try.zeroValue90
  t66 := Try.underlying98
  a66 := Try.isAgg98
  z66 := Try.sizeOf98
  v66 := Try.zeroValue98
  t70 := Try.underlying102
  a70 := Try.isAgg102
  z70 := Try.sizeOf102
  v70 := Try.zeroValue102
  t76 := Try.underlying106
  a76 := Try.isAgg106
  z76 := Try.sizeOf106
  v76 := Try.zeroValue106
  t77 := Try.underlying107
  a77 := Try.isAgg107
  z77 := Try.sizeOf107
  v77 := Try.zeroValue107 }
def Try.sortInts_ren : Go.Shelf.Ren := ⟨fun | 5 => 52 | 8 => 55 | 7 => 61 | 19 => 71 | 20 => 72 | 10 => 74 | 11 => 75 | 12 => 76 | 13 => 77 | 14 => 78 | 15 => 79 | 16 => 80 | 17 => 81 | 18 => 82 | 30 => 88 | 31 => 84 | 32 => 85 | 33 => 89 | 34 => 90 | 35 => 62 | 40 => 92 | n => n, fun | 23 => 33 | 25 => 3 | 3 => 3 | 32 => 74 | 22 => 33 | 0 => 0 | 44 => 88 | 46 => 90 | 4 => 4 | 36 => 82 | 35 => 81 | 41 => 67 | 5 => 5 | 9 => 9 | 53 => 98 | 57 => 102 | 63 => 106 | 64 => 107 | n => n, fun | n => n⟩
theorem Try.sortInts : Go.Proofs.SlLaysM.n5 Try.prog Try.sortInts_ren := {
  mixed := by kernel_rfl
  f5 := ⟨Try.f52.name, by decide, Try.func52.trans (congrArg some (by kernel_rfl))⟩
  f7 := ⟨Try.f61.name, by decide, Try.func61.trans (congrArg some (by kernel_rfl))⟩
  f8 := Try.func55.trans (congrArg some (by kernel_rfl))
  f10 := ⟨Try.f74.name, by decide, Try.func74.trans (congrArg some (by kernel_rfl))⟩
  f11 := ⟨Try.f75.name, by decide, Try.func75.trans (congrArg some (by kernel_rfl))⟩
  f12 := ⟨Try.f76.name, by decide, Try.func76.trans (congrArg some (by kernel_rfl))⟩
  f13 := ⟨Try.f77.name, by decide, Try.func77.trans (congrArg some (by kernel_rfl))⟩
  f14 := ⟨Try.f78.name, by decide, Try.func78.trans (congrArg some (by kernel_rfl))⟩
  f15 := ⟨Try.f79.name, by decide, Try.func79.trans (congrArg some (by kernel_rfl))⟩
  f16 := ⟨Try.f80.name, by decide, Try.func80.trans (congrArg some (by kernel_rfl))⟩
  f17 := ⟨Try.f81.name, by decide, Try.func81.trans (congrArg some (by kernel_rfl))⟩
  f18 := ⟨Try.f82.name, by decide, Try.func82.trans (congrArg some (by kernel_rfl))⟩
  f19 := Try.func71.trans (congrArg some (by kernel_rfl))
  f20 := Try.func72.trans (congrArg some (by kernel_rfl))
  f30 := ⟨Try.f88.name, by decide, Try.func88.trans (congrArg some (by kernel_rfl))⟩
  f31 := Try.func84.trans (congrArg some (by kernel_rfl))
  f32 := Try.func85.trans (congrArg some (by kernel_rfl))
  f33 := ⟨Try.f89.name, by decide, Try.func89.trans (congrArg some (by kernel_rfl))⟩
  f34 := ⟨Try.f90.name, by decide, Try.func90.trans (congrArg some (by kernel_rfl))⟩
  f35 := ⟨Try.f62.name, by decide, Try.func62.trans (congrArg some (by kernel_rfl))⟩
  f40 := ⟨Try.f92.name, by decide, Try.func92.trans (congrArg some (by kernel_rfl))⟩
  t0 := Try.underlying0
  a0 := Try.isAgg0
  z0 := Try.sizeOf0
  v0 := Try.zeroValue0
  t3 := Try.underlying3
  a3 := Try.isAgg3
  z3 := Try.sizeOf3
  v3 := Try.zeroValue3
  t4 := Try.underlying4
  a4 := Try.isAgg4
  z4 := Try.sizeOf4
  v4 := Try.zeroValue4
  t5 := Try.underlying5
  a5 := Try.isAgg5
  z5 := Try.sizeOf5
  v5 := Try.zeroValue5
  t9 := Try.underlying9
  a9 := Try.isAgg9
  z9 := Try.sizeOf9
  v9 := Try.zeroValue9
  t22 := Try.underlying33
  a22 := Try.isAgg33
  z22 := Try.sizeOf33
  v22 := Try.zeroValue33
  t23 := Try.underlying33
  a23 := Try.isAgg33
  z23 := Try.sizeOf33
  v23 := Try.zeroValue33
  t25 := Try.underlying3
  a25 := Try.isAgg3
  z25 := Try.sizeOf3
  v25 := Try.zeroValue3
  t32 := Try.underlying74
  a32 := Try.isAgg74
  z32 := Try.sizeOf74
  v32 := Try.zeroValue74
  t35 := Try.underlying81
  a35 := Try.isAgg81
  z35 := Try.sizeOf81
  v35 := Try.zeroValue81
  t36 := Try.underlying82
  a36 := Try.isAgg82
  z36 := Try.sizeOf82
  v36 := Try.zeroValue82
  t41 := Try.underlying67
  a41 := Try.isAgg67
  z41 := Try.sizeOf67
  v41 := Try.zeroValue67
  t44 := Try.underlying88
  a44 := Try.isAgg88
  z44 := Try.sizeOf88
  v44 := Try.zeroValue88
  t46 := Try.underlying90
  a46 := Try.isAgg90
  z46 := Try.sizeOf90
  v46 := Try.zeroValue90
  t53 := Try.underlying98
  a53 := Try.isAgg98
  z53 := Try.sizeOf98
  v53 := Try.zeroValue98
  t57 := Try.underlying102
  a57 := Try.isAgg102
  z57 := Try.sizeOf102
  v57 := Try.zeroValue102
  t63 := Try.underlying106
  a63 := Try.isAgg106
  z63 := Try.sizeOf106
  v63 := Try.zeroValue106
  t64 := Try.underlying107
  a64 := Try.isAgg107
  z64 := Try.sizeOf107
  v64 := Try.zeroValue107 }
end Go.Proofs
end
section
namespace Go.Proofs.Ytmjckbokjjnmeaa
open Go.Am
def zeroI : Int := 0
theorem zeroI_eq : iA zeroI = .v (.int .i64 0) := rfl
/-! ### Compact -/
def ddSI (D : List Int) (x : Int) : List Int := if D.getLast? = some x then D else D ++ [x]
def ddI (l : List Int) : List Int := l.foldl ddSI []
theorem dd_takeI {l : List Int} {i : Nat} (h : i < l.length) : ddI (l.take (i + 1)) = ddSI (ddI (l.take i)) l[i] := by
  unfold ddI
  rw [List.take_succ_eq_append_getElem h, List.foldl_append]
  rfl
theorem ddS_lastI (D : List Int) (x : Int) : (ddSI D x).getLast? = some x := by
  unfold ddSI
  split
  · assumption
  · simp
theorem dd_lastI {l : List Int} {i : Nat} (h : i < l.length) : (ddI (l.take (i + 1))).getLast? = some l[i] := by rw [dd_takeI h, ddS_lastI]
theorem dd_lenI {l : List Int} : ∀ {i : Nat}, i ≤ l.length → (ddI (l.take i)).length ≤ i
  | 0, _ => by simp [ddI]
  | i + 1, h => by
    have := dd_lenI (l := l) (i := i) (by omega)
    rw [dd_takeI (by omega)]
    unfold ddSI
    split
    · omega
    · simp; omega

theorem m47 (l : List Int) (hl : l.length ≤ 1000000000) : MSpec Try.prog 47 [.own 1000000 1 0 l.length] [(1000000, .arr 3 1 (l.map iA))] (fun res bf => ∃ tail : List Int, res = .own 1000000 1 0 (ddI l).length ∧ bf 1000000 = some (.arr 3 1 ((ddI l ++ tail).map iA))) := by
  refine MSpec_of Try.func47 rfl rfl (Nat.le_of_ble_eq_true rfl) (Nat.le_of_ble_eq_true rfl) ?_
  intro E hE
  refine AW_seq fun K hK => ?_
  refine AW_region (by rw [hE]; decide) ?_
  simp
  refine hK _ ?_
  clear hK
  refine AW_seq fun K hK => ?_
  refine AW_seq fun K hK => ?_
  refine AW_region (by rw [hE]; decide) ?_
  simp
  refine hK _ ?_
  clear hK
  refine AW_cond (t := decide ((l.length : Int) < 2)) (by simp) ?_ ?_
  · intro h
    have h : l.length < 2 := by have := of_decide_eq_true h; omega
    have hdd : ddI l = l := by
      rcases l with _ | ⟨a, _ | ⟨b, l⟩⟩
      · rfl
      · simp [ddI, ddSI]
      · simp at h
        omega
    refine AW_seq fun K hK => ?_
    refine AW_region (by rw [hE]; decide) ?_
    simp
    refine hK _ ?_
    clear hK
    refine AW_ret ?_
    simp [hdd]
  intro h
  have h : 2 ≤ l.length := by have := of_decide_eq_false h; omega
  refine AW_skip ?_
  simp
  refine hK _ ?_
  clear hK
  refine AW_seq fun K0 hK0 => ?_
  refine AW_seq fun K hK => ?_
  refine AW_region (by rw [hE]; decide) ?_
  simp
  refine hK _ ?_
  clear hK
  refine AW_block ?_
  refine AW_loop (G := Nat) (fun k => ⟨[(3, iA k), (0, .own 1000000 1 0 l.length)], [(1000000, .arr 3 1 (l.map iA))]⟩)
    (fun k => 1 ≤ k ∧ k ≤ l.length ∧ ddI (l.take k) = l.take k) (fun k => l.length - k) 1 ⟨by omega, by omega, by
      match l, h with
      | a :: l, _ => simp [ddI, ddSI]⟩ (by simp) ?_
  rintro k ⟨hk1, hk, hdk⟩
  refine AW_seq fun K1 hK1 => ?_
  refine AW_seq fun K2 hK2 => ?_
  refine AW_region (by rw [hE]; decide) ?_
  simp
  refine hK2 _ ?_
  clear hK2
  refine AW_cond (t := decide (k < l.length)) (by simp) ?_ ?_
  · intro hlt
    have hlt := of_decide_eq_true hlt
    obtain ⟨j, rfl⟩ : ∃ j, k = j + 1 := ⟨k - 1, by omega⟩
    have hj : j < l.length := by omega
    have hjj : ((j + 1 : Nat) : Int) - 1 = j := by omega
    refine AW_skip ?_
    simp
    refine hK1 _ ?_
    clear hK1
    refine AW_seq fun K1 hK1 => ?_
    refine AW_block ?_
    refine AW_seq fun K hK => ?_
    refine AW_draw 10 mixed (by rw [hE]; decide) (by simp [newOK]) ?_
    simp [hlt, hj]
    repeat' apply And.intro
    all_goals try omega
    all_goals try decide
    refine hK _ ?_
    clear hK
    have hdl := dd_lastI hj
    rw [hdk] at hdl
    refine AW_cond (t := decide (l[j + 1] = l[j])) (by simp) ?_ ?_
    · intro heq
      have heq := of_decide_eq_true heq
      have hD1 : ddI (l.take (j + 1 + 1)) = l.take (j + 1) := by
        rw [dd_takeI hlt, hdk]
        unfold ddSI
        rw [if_pos (by rw [hdl, heq])]
      have hD1l : (l.take (j + 1)).length = j + 1 := by rw [List.length_take]; omega
      refine AW_seq fun K3 hK3 => ?_
      refine AW_region (by rw [hE]; decide) ?_
      simp
      have ht : ((l.length : Int) - ((j : Int) + 1)).toNat = l.length - (j + 1) := by omega
      refine ⟨by omega, fun _ => ?_, fun _ h0 => absurd h0 (by omega)⟩
      rw [ht]
      refine hK3 _ ?_
      clear hK3
      refine AW_seq fun K3 hK3 => ?_
      refine AW_seq fun K hK => ?_
      refine AW_region (by rw [hE]; decide) ?_
      simp
      refine hK _ ?_
      clear hK
      refine AW_block ?_
      refine AW_loop (G := Nat) (fun m => ⟨[(5, iA m), (4, .own 1000000 1 (j + 1) (l.length - (j + 1))), (3, iA (ddI (l.take (j + 1 + m))).length), (0, .own 1000000 1 0 l.length)], [(1000000, .arr 3 1 ((ddI (l.take (j + 1 + m)) ++ l.drop (ddI (l.take (j + 1 + m))).length).map iA))]⟩)
        (fun m => 1 ≤ m ∧ j + 1 + m ≤ l.length ∧ (ddI (l.take (j + 1 + m))).length ≤ j + m) (fun m => l.length - (j + 1 + m)) 1 ⟨by omega, by omega, by rw [hD1, hD1l]; omega⟩ (by
          rw [hD1, hD1l, List.take_append_drop]
          simp) ?_
      rintro m ⟨hm1, hm, hDl⟩
      generalize hD : ddI (l.take (j + 1 + m)) = D at hDl ⊢
      obtain ⟨A, hAA⟩ : ∃ A, A = D ++ l.drop D.length := ⟨_, rfl⟩
      have hA : A.length = l.length := by rw [hAA]; simp; omega
      have e1 : ∀ i, D.length ≤ i → (h1 : i < A.length) → (h2 : i < l.length) → A[i] = l[i] := by
        subst hAA
        intro i h0 h1 h2
        rw [List.getElem_append_right h0, List.getElem_drop]
        congr 1
        omega
      rw [← hAA]
      refine AW_seq fun K1 hK1 => ?_
      refine AW_seq fun K2 hK2 => ?_
      refine AW_region (by rw [hE]; decide) ?_
      simp
      refine hK2 _ ?_
      clear hK2
      refine AW_cond (t := decide (m < l.length - (j + 1))) (by simp) ?_ ?_
      · intro hlm
        have hlm : j + 1 + m < l.length := by have := of_decide_eq_true hlm; omega
        obtain ⟨m, rfl⟩ : ∃ m', m = m' + 1 := ⟨m - 1, by omega⟩
        have i1 : j + 1 + (m + 1) < A.length := by omega
        have i2 : j + 1 + m < A.length := by omega
        have i3 : m + 1 < l.length - (j + 1) := by omega
        have i4 : m < l.length - (j + 1) := by omega
        have f1 := e1 (j + 1 + (m + 1)) (by omega) i1 (by omega)
        have f2 := e1 (j + 1 + m) (by omega) i2 (by omega)
        have j1 : j + 1 + (m + 1) < l.length := by omega
        have j2 : j + 1 + m < l.length := by omega
        have hDn : ddI (l.take (j + 1 + (m + 1 + 1))) = ddSI D l[j + 1 + (m + 1)] := by rw [← hD]; exact dd_takeI j1
        have hDlast : D.getLast? = some l[j + 1 + m] := by rw [← hD]; exact dd_lastI j2
        refine AW_skip ?_
        simp
        refine hK1 _ ?_
        clear hK1
        refine AW_seq fun K1 hK1 => ?_
        refine AW_block ?_
        refine AW_seq fun K hK => ?_
        refine AW_draw 10 mixed (by rw [hE]; decide) (by simp [newOK]) ?_
        simp [i1, i2, i3, i4, f1, f2]
        repeat' apply And.intro
        all_goals try omega
        all_goals try decide
        refine hK _ ?_
        clear hK
        have hDl2 : D.length < l.length := by omega
        have hDl3 : D.length < A.length := by omega
        refine AW_cond (t := !decide (l[j + 1 + (m + 1)] = l[j + 1 + m])) (by simp) ?_ ?_
        · intro hne
          have hne : l[j + 1 + (m + 1)] ≠ l[j + 1 + m] := by simpa using hne
          have hDn2 : ddI (l.take (j + 1 + (m + 1 + 1))) = D ++ [l[j + 1 + (m + 1)]] := by
            rw [hDn]
            unfold ddSI
            rw [if_neg (by rw [hDlast]; simpa using Ne.symm hne)]
          have hset : A.set D.length l[j + 1 + (m + 1)] = (D ++ [l[j + 1 + (m + 1)]]) ++ l.drop (D ++ [l[j + 1 + (m + 1)]]).length := by
            have e0 : (l.drop D.length).set 0 l[j + 1 + (m + 1)] = l[j + 1 + (m + 1)] :: l.drop (D.length + 1) := by
              rw [List.drop_eq_getElem_cons hDl2]
              rfl
            rw [hAA, List.set_append_right _ _ (Nat.le_refl _), Nat.sub_self, e0]
            simp
          refine AW_seq fun K hK => ?_
          refine AW_region (by rw [hE]; decide) ?_
          simp [i1, f1, hDl3, hDl2]
          repeat' apply And.intro
          all_goals try omega
          all_goals try decide
          refine hK _ ?_
          refine AW_region (by rw [hE]; decide) ?_
          simp
          repeat' apply And.intro
          all_goals try omega
          all_goals try decide
          refine hK1 _ ?_
          refine AW_region (by rw [hE]; decide) ?_
          simp
          refine ⟨by omega, m + 2, ⟨by omega, by omega, ?_⟩, by omega, ?_⟩
          · rw [hDn2]; simp; omega
          · have hset2 := congrArg (List.map iA) hset
            rw [List.map_set, List.map_append, List.map_drop] at hset2
            rw [hDn2]
            exact ⟨⟨by omega, by simp⟩, hset2⟩
        · intro he
          have he : l[j + 1 + (m + 1)] = l[j + 1 + m] := by simpa using he
          have hDn2 : ddI (l.take (j + 1 + (m + 1 + 1))) = D := by
            rw [hDn]
            unfold ddSI
            rw [if_pos (by rw [hDlast, he])]
          refine AW_skip ?_
          simp
          refine hK1 _ ?_
          refine AW_region (by rw [hE]; decide) ?_
          simp
          refine ⟨by omega, m + 2, ⟨by omega, by omega, ?_⟩, by omega, ?_⟩
          · rw [hDn2]; omega
          · rw [hDn2]
            exact ⟨⟨by omega, rfl⟩, by rw [hAA, List.map_append, List.map_drop]⟩
      · intro hlm
        have hlm : j + 1 + m = l.length := by have := of_decide_eq_false hlm; omega
        rw [hlm, List.take_length] at hD
        refine AW_exit ?_
        simp
        refine hK3 _ ?_
        have hc : List.take D.length (List.map iA A) ++ (List.replicate (l.length - D.length) (iA zeroI) ++ List.drop (D.length + (l.length - D.length)) (List.map iA A)) = List.map iA (D ++ List.replicate (l.length - D.length) zeroI) := by
          have h1 : List.take D.length (List.map iA A) = List.map iA D := by rw [hAA, List.map_append, List.take_left' (by simp)]
          have h2 : List.drop (D.length + (l.length - D.length)) (List.map iA A) = [] := List.drop_eq_nil_of_le (by rw [List.length_map, hA]; omega)
          rw [h1, h2, List.map_append, List.map_replicate, List.append_nil]
        rw [zeroI_eq] at hc
        refine AW_seq fun K hK => ?_
        refine AW_region (by rw [hE]; decide) ?_
        simp
        refine ⟨by omega, fun _ => ⟨by omega, ?_⟩, fun _ h => absurd h (by omega)⟩
        rw [hc]
        refine hK _ ?_
        clear hK
        refine AW_seq fun K hK => ?_
        refine AW_region (by rw [hE]; decide) ?_
        simp
        repeat' apply And.intro
        all_goals try omega
        all_goals try decide
        refine hK _ ?_
        clear hK
        refine AW_ret ?_
        simp [hD]
        exact ⟨List.replicate (l.length - D.length) zeroI, (List.map_replicate).symm⟩
    · intro hne
      have hne := of_decide_eq_false hne
      refine AW_skip ?_
      simp
      refine hK1 _ ?_
      refine AW_region (by rw [hE]; decide) ?_
      simp
      refine ⟨by omega, j + 2, ⟨by omega, by omega, ?_⟩, by omega, by simp; omega⟩
      rw [dd_takeI hlt, hdk]
      unfold ddSI
      rw [if_neg (by rw [hdl]; simpa using Ne.symm hne), ← List.take_succ_eq_append_getElem hlt]
  · intro hlt
    have hlt := of_decide_eq_false hlt
    have : k = l.length := by omega
    subst this
    rw [List.take_length] at hdk
    refine AW_exit ?_
    simp
    refine hK0 _ ?_
    refine AW_seq fun K hK => ?_
    refine AW_region (by rw [hE]; decide) ?_
    simp
    refine hK _ ?_
    clear hK
    refine AW_ret ?_
    simp [hdk]
end Go.Proofs.Ytmjckbokjjnmeaa
end
section
namespace Go.Proofs.Ytmjckbokjjnmeaa
open Go.Am

theorem r41 (l : List R) (hl : l.length ≤ 1000000000) : RSpec Try.prog 41 [.sl 8 (l.map encR)] 23 8 (l.map encR) :=
  MSpec.mono (m41 l hl) (by
    rintro res bf (⟨rfl, h⟩ | ⟨rfl, rfl⟩)
    · exact .inl ⟨5, _, by simp, h, by simp⟩
    · exact .inr ⟨rfl, rfl⟩)
theorem w43 (l : List R) (n : Nat) (hn : l.length = n) (hl : n ≤ 1000000000) : MSpec Try.prog 43 [.own 1000000 8 0 n] [(1000000, .arr 23 8 (l.map encR))] (fun res bf => res = .own 1000000 8 0 (dd l).length ∧ bf 1000000 = some (.arr 23 8 ((dd l).map encR))) :=
  MSpec.cut (MSpec.mono (hn ▸ m43 l (hn ▸ hl)) (by
    rintro res bf ⟨tail, rfl, h⟩
    exact ⟨rfl, _, (dd l).length, h, by rw [List.map_append, ← List.length_map (f := encR), List.take_left]⟩))

def valR (r : R) : List Value := [.int .i64 r.o, .int .i64 r.s, .int .i64 r.v, .int .i64 r.d, .int .i64 r.t, .int .i64 r.x, .int .i64 r.y, .bool r.c]
theorem encS_R : Go.Am.encS valR = encR := rfl
theorem w42 (l : List R) (hl : l.length ≤ 1000000000) : MSpec Try.prog 42 [.own 1000000 8 0 l.length, .fn (.func 13) [] []] [(1000000, .arr 23 8 (l.map encR))] (fun res bf => res = .tup [] ∧ bf 1000000 = some (.arr 23 8 ((sortL cmpR l).map encR))) := by
  have h := sortFunc_m Try.sortFunc (f := 42) (g := 13) (T := 23) rfl rfl (ent_of Try.func42 (by kernel_rfl) rfl) (by simp) (by simp) valR 8 (fun _ => rfl) (by simp) (fun x v hv => by simp only [valR, List.mem_cons, List.not_mem_nil, or_false] at hv; rcases hv with rfl | rfl | rfl | rfl | rfl | rfl | rfl | rfl <;> rfl)
    cmpR swoR totR (fun x y => s13 x y) 23 l (by omega)
  rw [encS_R] at h
  exact h
theorem s13e : Ent Try.prog 13 := (s13 default default).1

theorem r25 (l : List R) (hl : l.length ≤ 1000000000) : RSpec Try.prog 25 [.sl 8 (l.map encR)] 23 8 ((setR l).map encR) := by
  refine MSpec_of Try.func25 rfl rfl (Nat.le_of_ble_eq_true rfl) (Nat.le_of_ble_eq_true rfl) ?_
  intro E hE
  repeat' (first
    | with_reducible refine useK (by assumption) ?_
    | with_reducible refine useK2 (by assumption) ?_
    | with_reducible refine useX (by assumption) ?_
    | with_reducible refine AW_seqk fun K hK => ?_
    | (with_reducible refine AW_regionS rfl (by rw [hE]; decide) ?_; simp [*])
    | with_reducible refine AW_region (by rw [hE]; decide) ?_
    | ((with_reducible show RK _ _ _ _ _ _); refine RK_nilk ?_; simp [*])
    | ((with_reducible show RK _ _ _ _ _ _); refine RK_stepk fun K' hK' => ?_; simp [*])
    | with_reducible refine AW_drawq mixed (by rw [hE]; decide) (by simp [newOK]) ?_
    | ((with_reducible show RKQ _ _ _ _ _ _); refine RKQ_nilk ⟨by decide, ?_⟩)
    | ((with_reducible show RKQ _ _ _ _ _ _); refine RKQ_stepk fun K' hK' => ?_; simp [*])
    | (with_reducible refine AW_if fun X Y hX hY => ?_; simp [*])
    | with_reducible refine AW_block ?_
    | (with_reducible refine AW_ret ?_; simp [*])
    | (with_reducible refine AW_skip ?_; simp [*])
    | (with_reducible refine AW_exit ?_; simp [*])
    | (refine acall_row ((r41 l hl)) ?_ (.inl ?_) ?_ ?_; (focus (simp [*] <;> fail)); (focus (simp [*] <;> fail)); (focus (simp [*] <;> fail)); simp [*])
    | (refine acall_mrow ((w42 l hl)) ?_ ?_ ?_ ?_ ?_ ?_; (focus (simp [*] <;> fail)); (focus (simp [*] <;> fail)); (focus (simp [*] <;> fail)); (focus (simp [*] <;> fail)); (focus (simp [*] <;> fail)); simp [*])
    | (refine acall_mrow ((w43 (sortL cmpR l) _ (sortL_len l) hl)) ?_ ?_ ?_ ?_ ?_ ?_; (focus (simp [*] <;> fail)); (focus (simp [*] <;> fail)); (focus (simp [*] <;> fail)); (focus (simp [*] <;> fail)); (focus (simp [*] <;> fail)); simp [*])
    | with_reducible refine And.intro ?_ ?_
    | omega
    | (refine imp1 fun h => ?_))
  exact ⟨5, ⟨rfl, rfl⟩, _, ⟨rfl, rfl⟩, take_len encR (setR l)⟩

def visR (m : List R) (vis : List Nat) : List R := (vis.map fun i => m.getD i default).filter fun r => !r.c
theorem visR_snoc {m : List R} {vis : List Nat} {i : Nat} (h : i < m.length) : visR m (vis ++ [i]) = visR m vis ++ (if !m[i].c then [m[i]] else []) := by
  unfold visR
  rw [List.map_append, List.filter_append]
  congr 1
  simp only [List.map_cons, List.map_nil, List.filter_cons, List.filter_nil]
  rw [List.getD_eq_getElem?_getD, List.getElem?_eq_getElem h]
  rfl
theorem visR_len (m : List R) (vis : List Nat) : (visR m vis).length ≤ vis.length := Nat.le_trans (List.length_filter_le _ _) (by simp)
theorem vis_lt {vis : List Nat} {n i : Nat} (h1 : vis.Nodup) (h2 : ∀ i ∈ vis, i < n) (hi : i < n) (hv : i ∉ vis) : vis.length < n := by
  have := List.Nodup.length_le_of_subset (List.nodup_cons.2 ⟨hv, h1⟩) (l₂ := List.range n) (by
    intro x hx
    rw [List.mem_range]
    rcases List.mem_cons.1 hx with rfl | hx
    · exact hi
    · exact h2 x hx)
  simp at this
  omega
theorem vis_le {vis : List Nat} {n : Nat} (h1 : vis.Nodup) (h2 : ∀ i ∈ vis, i < n) : vis.length ≤ n := by
  have := List.Nodup.length_le_of_subset h1 (l₂ := List.range n) (by
    intro x hx
    rw [List.mem_range]
    exact h2 x hx)
  simpa using this
theorem mem_visR {m : List R} {vis : List Nat} (h2 : ∀ i ∈ vis, i < m.length) (hall : ∀ i, i < m.length → i ∈ vis) (x : R) : x ∈ visR m vis ↔ x ∈ m.filter fun r => !r.c := by
  unfold visR
  simp only [List.mem_filter, List.mem_map]
  refine and_congr_left fun _ => ⟨?_, fun hx => ?_⟩
  · rintro ⟨i, hi, rfl⟩
    rw [List.getD_eq_getElem?_getD, List.getElem?_eq_getElem (h2 i hi)]
    exact List.getElem_mem _
  · obtain ⟨i, hi, rfl⟩ := List.getElem_of_mem hx
    exact ⟨i, hall i hi, by rw [List.getD_eq_getElem?_getD, List.getElem?_eq_getElem hi]; rfl⟩
@[simp] theorem encM_get (m : List R) (i : Nat) (h : i < (encM m).length) : (encM m)[i] = (.st [iA (m[i]'(by simpa using h)).o, iA (m[i]'(by simpa using h)).s], encR (m[i]'(by simpa using h))) := by
  simp [encM]
theorem updM_len (r : R) : ∀ m : List R, (updM r m).length ≤ m.length + 1
  | [] => by simp [updM]
  | w :: m => by
    simp only [updM]
    split
    · simp
    · have := updM_len r m; simp; omega
theorem winM_len (l : List R) : (winM l).length ≤ l.length := by
  have key : ∀ (l m : List R), (l.foldl stepW m).length ≤ m.length + l.length := by
    intro l
    induction l with
    | nil => intro m; simp
    | cons r l ih =>
      intro m
      rw [List.foldl_cons]
      have h1 := ih (stepW m r)
      have h2 : (stepW m r).length ≤ m.length + 1 := by
        unfold stepW
        split
        · exact updM_len r m
        · split
          · exact updM_len r m
          · omega
      simp
      omega
  have := key l []
  simpa [winM] using this
theorem r18 (l : List R) (hl : l.length ≤ 1000000000) : RSpec Try.prog 18 [.sl 8 (l.map encR)] 23 8 ((setR ((winM l).filter fun r => !r.c)).map encR) := by
  refine MSpec_of Try.func18 rfl rfl (Nat.le_of_ble_eq_true rfl) (Nat.le_of_ble_eq_true rfl) ?_
  intro E hE
  repeat' (first
    | with_reducible refine useK (by assumption) ?_
    | with_reducible refine useK2 (by assumption) ?_
    | with_reducible refine useX (by assumption) ?_
    | with_reducible refine AW_seqk fun K hK => ?_
    | (with_reducible refine AW_regionS rfl (by rw [hE]; decide) ?_; simp [*])
    | with_reducible refine AW_region (by rw [hE]; decide) ?_
    | ((with_reducible show RK _ _ _ _ _ _); refine RK_nilk ?_; simp [*])
    | ((with_reducible show RK _ _ _ _ _ _); refine RK_stepk fun K' hK' => ?_; simp [*])
    | with_reducible refine AW_drawq mixed (by rw [hE]; decide) (by simp [newOK]) ?_
    | ((with_reducible show RKQ _ _ _ _ _ _); refine RKQ_nilk ⟨by decide, ?_⟩)
    | ((with_reducible show RKQ _ _ _ _ _ _); refine RKQ_stepk fun K' hK' => ?_; simp [*])
    | (with_reducible refine AW_if fun X Y hX hY => ?_; simp [*])
    | with_reducible refine AW_block ?_
    | (with_reducible refine AW_ret ?_; simp [*])
    | (with_reducible refine AW_skip ?_; simp [*])
    | (with_reducible refine AW_exit ?_; simp [*])
    | (refine acall_box (n39 l (by omega)) ?_ (flat_M _) ?_ ?_; (focus (simp [*] <;> fail)); (focus (simp [*] <;> fail)); simp [*])
    | with_reducible refine And.intro ?_ ?_
    | omega
    | (refine imp1 fun h => ?_))
  intro bs ck hbl hbn
  refine useK (by assumption) ?_
  refine AW_block ?_
  refine AW_mkrow 3 60 23 8 (by simp) (by simp) (by simp) (by omega) ?_
  refine AW_loopk (G := List Nat) (fun vis => ⟨[(8, .loc 8 0), (3, .own 60 8 0 (visR (winM l) vis).length), (2, .v (.slice none 0 0))], [(8, .it 7 bs ck vis), (7, .map (encM (winM l)) (some (bs, ck))), (60, .arr 23 8 ((visR (winM l) vis).map encR))]⟩)
    (fun vis => vis.Nodup ∧ ∀ i ∈ vis, i < (winM l).length) (fun vis => (winM l).length - vis.length) [] (by simp) (by simp [visR]) ?_
  rintro vis ⟨hv1, hv2⟩ K hK
  refine AW_seqk fun K1 hK1 => ?_
  refine AW_region (by rw [hE]; decide) ?_
  simp
  refine ⟨fun i hi hiv => ?_, fun hall => ?_⟩
  · have hlt := vis_lt hv1 hv2 hi hiv
    have hle : (visR (winM l) vis).length ≤ 1000000000 := Nat.le_trans (visR_len _ _) (by have := winM_len l; omega)
    have hb : (visR (winM l) (vis ++ [i])) = visR (winM l) vis ++ (if !(winM l)[i].c then [(winM l)[i]] else []) := visR_snoc hi
    replace hb := Hld.mk hb
    refine useK hK1 ?_
    repeat' (first
      | with_reducible refine useK (by assumption) ?_
      | with_reducible refine useK2 (by assumption) ?_
      | with_reducible refine useX (by assumption) ?_
      | with_reducible refine AW_seqk fun K hK => ?_
      | (with_reducible refine AW_regionS rfl (by rw [hE]; decide) ?_; simp [*])
      | with_reducible refine AW_region (by rw [hE]; decide) ?_
      | ((with_reducible show RK _ _ _ _ _ _); refine RK_nilk ?_; simp [*])
      | ((with_reducible show RK _ _ _ _ _ _); refine RK_stepk fun K' hK' => ?_; simp [*])
      | with_reducible refine AW_drawq mixed (by rw [hE]; decide) (by simp [newOK]) ?_
      | ((with_reducible show RKQ _ _ _ _ _ _); refine RKQ_nilk ⟨by decide, ?_⟩)
      | ((with_reducible show RKQ _ _ _ _ _ _); refine RKQ_stepk fun K' hK' => ?_; simp [*])
      | (with_reducible refine AW_if fun X Y hX hY => ?_; simp [*])
      | with_reducible refine AW_block ?_
      | (with_reducible refine AW_ret ?_; simp [*])
      | (with_reducible refine AW_skip ?_; simp [*])
      | (with_reducible refine AW_exit ?_; simp [*])
      | with_reducible refine And.intro ?_ ?_
      | omega
      | (refine imp1 fun h => ?_))
    all_goals
      refine ⟨vis ++ [i], ⟨?_, ?_⟩, by simp; omega, by simp [hb.out, *]⟩
      · rw [List.nodup_append]; simp; exact ⟨hv1, fun a ha e => hiv (e ▸ ha)⟩
      · intro j hj; rcases List.mem_append.1 hj with hj | hj
        · exact hv2 j hj
        · simp at hj; subst hj; exact hi
  · have hle : (visR (winM l) vis).length ≤ 1000000000 := Nat.le_trans (visR_len _ _) (by have := winM_len l; have := vis_le hv1 hv2; omega)
    repeat' (first
      | with_reducible refine useK (by assumption) ?_
      | with_reducible refine useK2 (by assumption) ?_
      | with_reducible refine useX (by assumption) ?_
      | with_reducible refine AW_seqk fun K hK => ?_
      | (with_reducible refine AW_regionS rfl (by rw [hE]; decide) ?_; simp [*])
      | with_reducible refine AW_region (by rw [hE]; decide) ?_
      | ((with_reducible show RK _ _ _ _ _ _); refine RK_nilk ?_; simp [*])
      | ((with_reducible show RK _ _ _ _ _ _); refine RK_stepk fun K' hK' => ?_; simp [*])
      | with_reducible refine AW_drawq mixed (by rw [hE]; decide) (by simp [newOK]) ?_
      | ((with_reducible show RKQ _ _ _ _ _ _); refine RKQ_nilk ⟨by decide, ?_⟩)
      | ((with_reducible show RKQ _ _ _ _ _ _); refine RKQ_stepk fun K' hK' => ?_; simp [*])
      | (with_reducible refine AW_if fun X Y hX hY => ?_; simp [*])
      | with_reducible refine AW_block ?_
      | (with_reducible refine AW_ret ?_; simp [*])
      | (with_reducible refine AW_skip ?_; simp [*])
      | (with_reducible refine AW_exit ?_; simp [*])
      | (refine acall_row (r25 (visR (winM l) vis) hle) ?_ (.inl ?_) ?_ ?_; (focus (simp [*] <;> fail)); (focus (simp [*] <;> fail)); (focus (simp [*] <;> fail)); simp [*])
      | with_reducible refine And.intro ?_ ?_
      | omega
      | (refine imp1 fun h => ?_))
    simp [setR_congr (mem_visR hv2 hall)]
end Go.Proofs.Ytmjckbokjjnmeaa
end
section
namespace Go.Proofs.Ytmjckbokjjnmeaa
open Go.Am

theorem r56 (n : Nat) (hn : n ≤ 1000000000) : RSpec Try.prog 56 [.v (.slice none 0 0), iA n] 23 8 [] := by
  refine MSpec_of Try.func56 rfl rfl (Nat.le_of_ble_eq_true rfl) (Nat.le_of_ble_eq_true rfl) ?_
  intro E hE
  repeat' (first
    | with_reducible refine useK (by assumption) ?_
    | with_reducible refine useK2 (by assumption) ?_
    | with_reducible refine useX (by assumption) ?_
    | with_reducible refine AW_seqk fun K hK => ?_
    | (with_reducible refine AW_regionS rfl (by rw [hE]; decide) ?_; simp [*])
    | with_reducible refine AW_region (by rw [hE]; decide) ?_
    | ((with_reducible show RK _ _ _ _ _ _); refine RK_nilk ?_; simp [*])
    | ((with_reducible show RK _ _ _ _ _ _); refine RK_stepk fun K' hK' => ?_; simp [*])
    | with_reducible refine AW_drawq mixed (by rw [hE]; decide) (by simp [newOK]) ?_
    | ((with_reducible show RKQ _ _ _ _ _ _); refine RKQ_nilk ⟨by decide, ?_⟩)
    | ((with_reducible show RKQ _ _ _ _ _ _); refine RKQ_stepk fun K' hK' => ?_; simp [*])
    | (with_reducible refine AW_if fun X Y hX hY => ?_; simp [*])
    | with_reducible refine AW_block ?_
    | (with_reducible refine AW_ret ?_; simp [*])
    | (with_reducible refine AW_skip ?_; simp [*])
    | (with_reducible refine AW_exit ?_; simp [*])
    | with_reducible refine And.intro ?_ ?_
    | omega
    | (refine imp1 fun h => ?_))

def catR (ls : List (List R)) : List R := ls.flatten
theorem cat_take {ls : List (List R)} {i : Nat} (h : i < ls.length) : catR (ls.take (i + 1)) = catR (ls.take i) ++ ls[i] := by
  unfold catR
  rw [List.take_succ_eq_append_getElem h, List.flatten_append]
  simp
theorem cat_le (ls : List (List R)) (i : Nat) : (catR (ls.take i)).length ≤ (catR ls).length := by
  unfold catR
  conv => rhs; rw [← List.take_append_drop i ls, List.flatten_append, List.length_append]
  omega
@[simp] theorem cat_nil : catR [] = [] := rfl
def encRs (l : List R) : AV := .sl 8 (l.map encR)
@[simp] theorem cells_encRs (l : List R) : (encRs l).cells = [encRs l] := rfl
@[simp] theorem isSt_encRs (l : List R) : (encRs l).isSt = false := rfl
theorem r44 (ls : List (List R)) (h0 : ls.length ≤ 1000000000) (hl : (catR ls).length ≤ 1000000000) : RSpec Try.prog 44 [.sl 1 (ls.map encRs)] 23 8 ((catR ls).map encR) := by
  refine MSpec_of Try.func44 rfl rfl (Nat.le_of_ble_eq_true rfl) (Nat.le_of_ble_eq_true rfl) ?_
  intro E hE
  repeat' (first
    | with_reducible refine useK (by assumption) ?_
    | with_reducible refine useK2 (by assumption) ?_
    | with_reducible refine useX (by assumption) ?_
    | with_reducible refine AW_seqk fun K hK => ?_
    | (with_reducible refine AW_regionS rfl (by rw [hE]; decide) ?_; simp [*])
    | with_reducible refine AW_region (by rw [hE]; decide) ?_
    | ((with_reducible show RK _ _ _ _ _ _); refine RK_nilk ?_; simp [*])
    | ((with_reducible show RK _ _ _ _ _ _); refine RK_stepk fun K' hK' => ?_; simp [*])
    | with_reducible refine AW_drawq mixed (by rw [hE]; decide) (by simp [newOK]) ?_
    | ((with_reducible show RKQ _ _ _ _ _ _); refine RKQ_nilk ⟨by decide, ?_⟩)
    | ((with_reducible show RKQ _ _ _ _ _ _); refine RKQ_stepk fun K' hK' => ?_; simp [*])
    | (with_reducible refine AW_if fun X Y hX hY => ?_; simp [*])
    | with_reducible refine AW_block ?_
    | (with_reducible refine AW_ret ?_; simp [*])
    | (with_reducible refine AW_skip ?_; simp [*])
    | (with_reducible refine AW_exit ?_; simp [*])
    | with_reducible refine And.intro ?_ ?_
    | omega
    | (refine imp1 fun h => ?_))
  refine AW_loopk (G := Nat) (fun i => ⟨[(11, iA i), (10, iA ls.length), (9, .sl 1 (ls.map encRs)), (3, iA (catR (ls.take i)).length), (2, .v (.slice none 0 0)), (0, .sl 1 (ls.map encRs))], []⟩)
    (fun i => i ≤ ls.length) (fun i => ls.length - i) 0 (by simp) (by simp) ?_
  intro i hi K hK
  have hsl := cat_le ls i
  by_cases hlt : i < ls.length
  · have hs := cat_take hlt
    have hsl := cat_le ls (i + 1)
    rw [hs, List.length_append] at hsl
    replace hs := Hld.mk hs
    repeat' (first
      | with_reducible refine useK (by assumption) ?_
      | with_reducible refine useK2 (by assumption) ?_
      | with_reducible refine useX (by assumption) ?_
      | with_reducible refine AW_seqk fun K hK => ?_
      | (with_reducible refine AW_regionS rfl (by rw [hE]; decide) ?_; simp [*, encRs])
      | with_reducible refine AW_region (by rw [hE]; decide) ?_
      | ((with_reducible show RK _ _ _ _ _ _); refine RK_nilk ?_; simp [*, encRs])
      | ((with_reducible show RK _ _ _ _ _ _); refine RK_stepk fun K' hK' => ?_; simp [*, encRs])
      | with_reducible refine AW_drawq mixed (by rw [hE]; decide) (by simp [newOK]) ?_
      | ((with_reducible show RKQ _ _ _ _ _ _); refine RKQ_nilk ⟨by decide, ?_⟩)
      | ((with_reducible show RKQ _ _ _ _ _ _); refine RKQ_stepk fun K' hK' => ?_; simp [*, encRs])
      | (with_reducible refine AW_if fun X Y hX hY => ?_; simp [*, encRs])
      | with_reducible refine AW_block ?_
      | (with_reducible refine AW_ret ?_; simp [*, encRs])
      | (with_reducible refine AW_skip ?_; simp [*, encRs])
      | (with_reducible refine AW_exit ?_; simp [*, encRs])
      | with_reducible refine And.intro ?_ ?_
      | omega
      | (refine imp1 fun h => ?_))
    exact ⟨i + 1, by omega, by omega, by simp [hs.out]⟩
  · obtain rfl : i = ls.length := by omega
    repeat' (first
      | with_reducible refine useK (by assumption) ?_
      | with_reducible refine useK2 (by assumption) ?_
      | with_reducible refine useX (by assumption) ?_
      | with_reducible refine AW_seqk fun K hK => ?_
      | (with_reducible refine AW_regionS rfl (by rw [hE]; decide) ?_; simp [*])
      | with_reducible refine AW_region (by rw [hE]; decide) ?_
      | ((with_reducible show RK _ _ _ _ _ _); refine RK_nilk ?_; simp [*])
      | ((with_reducible show RK _ _ _ _ _ _); refine RK_stepk fun K' hK' => ?_; simp [*])
      | with_reducible refine AW_drawq mixed (by rw [hE]; decide) (by simp [newOK]) ?_
      | ((with_reducible show RKQ _ _ _ _ _ _); refine RKQ_nilk ⟨by decide, ?_⟩)
      | ((with_reducible show RKQ _ _ _ _ _ _); refine RKQ_stepk fun K' hK' => ?_; simp [*])
      | (with_reducible refine AW_if fun X Y hX hY => ?_; simp [*])
      | with_reducible refine AW_block ?_
      | (with_reducible refine AW_ret ?_; simp [*])
      | (with_reducible refine AW_skip ?_; simp [*])
      | (with_reducible refine AW_exit ?_; simp [*])
      | (refine acall_row (r56 (catR (ls.take ls.length)).length (by omega)) ?_ (.inl ?_) ?_ ?_; (focus (simp [*] <;> fail)); (focus (simp [*] <;> fail)); (focus (simp [*] <;> fail)); simp [*])
      | with_reducible refine And.intro ?_ ?_
      | omega
      | (refine imp1 fun h => ?_))
    refine AW_loopk (G := Nat) (fun i => ⟨[(27, iA i), (26, iA ls.length), (25, .sl 1 (ls.map encRs)), (6, .own 24 8 0 (catR (ls.take i)).length), (2, .v (.slice none 0 0))], [(24, .arr 23 8 ((catR (ls.take i)).map encR))]⟩)
      (fun i => i ≤ ls.length) (fun i => ls.length - i) 0 (by simp) (by simp) ?_
    intro i hi K hK
    have hsl := cat_le ls i
    by_cases hlt : i < ls.length
    · have hs := cat_take hlt
      have hsl := cat_le ls (i + 1)
      rw [hs, List.length_append] at hsl
      replace hs := Hld.mk hs
      repeat' (first
        | with_reducible refine useK (by assumption) ?_
        | with_reducible refine useK2 (by assumption) ?_
        | with_reducible refine useX (by assumption) ?_
        | with_reducible refine AW_seqk fun K hK => ?_
        | (with_reducible refine AW_regionS rfl (by rw [hE]; decide) ?_; simp [*, encRs])
        | with_reducible refine AW_region (by rw [hE]; decide) ?_
        | ((with_reducible show RK _ _ _ _ _ _); refine RK_nilk ?_; simp [*, encRs])
        | ((with_reducible show RK _ _ _ _ _ _); refine RK_stepk fun K' hK' => ?_; simp [*, encRs])
        | with_reducible refine AW_drawq mixed (by rw [hE]; decide) (by simp [newOK]) ?_
        | ((with_reducible show RKQ _ _ _ _ _ _); refine RKQ_nilk ⟨by decide, ?_⟩)
        | ((with_reducible show RKQ _ _ _ _ _ _); refine RKQ_stepk fun K' hK' => ?_; simp [*, encRs])
        | (with_reducible refine AW_if fun X Y hX hY => ?_; simp [*, encRs])
        | with_reducible refine AW_block ?_
        | (with_reducible refine AW_ret ?_; simp [*, encRs])
        | (with_reducible refine AW_skip ?_; simp [*, encRs])
        | (with_reducible refine AW_exit ?_; simp [*, encRs])
        | with_reducible refine And.intro ?_ ?_
        | omega
        | (refine imp1 fun h => ?_))
      exact ⟨i + 1, by omega, by omega, by simp [hs.out]⟩
    · obtain rfl : i = ls.length := by omega
      repeat' (first
        | with_reducible refine useK (by assumption) ?_
        | with_reducible refine useK2 (by assumption) ?_
        | with_reducible refine useX (by assumption) ?_
        | with_reducible refine AW_seqk fun K hK => ?_
        | (with_reducible refine AW_regionS rfl (by rw [hE]; decide) ?_; simp [*])
        | with_reducible refine AW_region (by rw [hE]; decide) ?_
        | ((with_reducible show RK _ _ _ _ _ _); refine RK_nilk ?_; simp [*])
        | ((with_reducible show RK _ _ _ _ _ _); refine RK_stepk fun K' hK' => ?_; simp [*])
        | with_reducible refine AW_drawq mixed (by rw [hE]; decide) (by simp [newOK]) ?_
        | ((with_reducible show RKQ _ _ _ _ _ _); refine RKQ_nilk ⟨by decide, ?_⟩)
        | ((with_reducible show RKQ _ _ _ _ _ _); refine RKQ_stepk fun K' hK' => ?_; simp [*])
        | (with_reducible refine AW_if fun X Y hX hY => ?_; simp [*])
        | with_reducible refine AW_block ?_
        | (with_reducible refine AW_ret ?_; simp [*])
        | (with_reducible refine AW_skip ?_; simp [*])
        | (with_reducible refine AW_exit ?_; simp [*])
        | with_reducible refine And.intro ?_ ?_
        | omega
        | (refine imp1 fun h => ?_))
end Go.Proofs.Ytmjckbokjjnmeaa
end
section
namespace Go.Proofs.Ytmjckbokjjnmeaa
open Go.Am

def idxF (p : R → Bool) (i : Nat) : List R → Int
  | [] => -1
  | x :: l => if p x then i else idxF p (i + 1) l
theorem idxF_drop {p : R → Bool} {l : List R} {i : Nat} (h : i < l.length) : idxF p i (l.drop i) = if p l[i] then (i : Int) else idxF p (i + 1) (l.drop (i + 1)) := by
  rw [List.drop_eq_getElem_cons h]; rfl

theorem s60 (p : R → Bool) (g : FuncId) (cs : List AV) (hcs : idfL cs = true) (hp : ∀ r, PSpec Try.prog g (encR r :: cs) (bA (p r))) (l : List R) (hl : l.length ≤ 1000000000) :
    PSpec Try.prog 60 [.sl 8 (l.map encR), .fn (.func g) [] cs] (iA (idxF p 0 l)) := by
  refine PSpec_of Try.func60 rfl rfl (Nat.le_of_ble_eq_true rfl) (Nat.le_of_ble_eq_true rfl) ?_
  intro E hE
  repeat' (first
    | with_reducible refine useK (by assumption) ?_
    | with_reducible refine useK2 (by assumption) ?_
    | with_reducible refine useX (by assumption) ?_
    | with_reducible refine AW_seqk fun K hK => ?_
    | (with_reducible refine AW_regionS rfl (by rw [hE]; decide) ?_; simp [*])
    | with_reducible refine AW_region (by rw [hE]; decide) ?_
    | ((with_reducible show RK _ _ _ _ _ _); refine RK_nilk ?_; simp [*])
    | ((with_reducible show RK _ _ _ _ _ _); refine RK_stepk fun K' hK' => ?_; simp [*])
    | with_reducible refine AW_drawq mixed (by rw [hE]; decide) (by simp [newOK]) ?_
    | ((with_reducible show RKQ _ _ _ _ _ _); refine RKQ_nilk ⟨by decide, ?_⟩)
    | ((with_reducible show RKQ _ _ _ _ _ _); refine RKQ_stepk fun K' hK' => ?_; simp [*])
    | (with_reducible refine AW_if fun X Y hX hY => ?_; simp [*])
    | with_reducible refine AW_block ?_
    | (with_reducible refine AW_ret ?_; simp [*])
    | (with_reducible refine AW_skip ?_; simp [*])
    | (with_reducible refine AW_exit ?_; simp [*])
    | with_reducible refine And.intro ?_ ?_
    | omega
    | (refine imp1 fun h => ?_))
  refine AW_loopk (G := Nat) (fun i => ⟨[(8, iA i), (7, iA l.length), (0, .sl 8 (l.map encR)), (1, .fn (.func g) [] cs)], []⟩)
    (fun i => i ≤ l.length ∧ idxF p i (l.drop i) = idxF p 0 l) (fun i => l.length - i) 0 (by simp) (by simp) ?_
  rintro i ⟨hi, heq⟩ K hK
  by_cases hlt : i < l.length
  · have hd := idxF_drop (p := p) hlt
    rw [heq] at hd
    replace hd := Hld.mk hd
    replace heq := Hld.mk heq
    repeat' (first
      | with_reducible refine useK (by assumption) ?_
      | with_reducible refine useK2 (by assumption) ?_
      | with_reducible refine useX (by assumption) ?_
      | with_reducible refine AW_seqk fun K hK => ?_
      | (with_reducible refine AW_regionS rfl (by rw [hE]; decide) ?_; simp [*])
      | with_reducible refine AW_region (by rw [hE]; decide) ?_
      | ((with_reducible show RK _ _ _ _ _ _); refine RK_nilk ?_; simp [*])
      | ((with_reducible show RK _ _ _ _ _ _); refine RK_stepk fun K' hK' => ?_; simp [*])
      | with_reducible refine AW_drawq mixed (by rw [hE]; decide) (by simp [newOK]) ?_
      | ((with_reducible show RKQ _ _ _ _ _ _); refine RKQ_nilk ⟨by decide, ?_⟩)
      | ((with_reducible show RKQ _ _ _ _ _ _); refine RKQ_stepk fun K' hK' => ?_; simp [*])
      | (with_reducible refine AW_if fun X Y hX hY => ?_; simp [*])
      | with_reducible refine AW_block ?_
      | (with_reducible refine AW_ret ?_; simp [*])
      | (with_reducible refine AW_skip ?_; simp [*])
      | (with_reducible refine AW_exit ?_; simp [*])
      | (refine acall_same (hp _) ?_ ?_ ?_; (focus (simp [*] <;> fail)); (focus (simp [*] <;> fail)); simp [*])
      | (refine call_same (hp _) ?_ ?_ ?_; (focus (simp [*] <;> fail)); (focus (simp [*] <;> fail)); simp [*])
      | (refine acall_view (hp _) ?_ ?_ ?_; (focus (simp [*] <;> fail)); (focus (simp [*] <;> fail)); simp [*])
      | (refine call_view (hp _) ?_ ?_ ?_; (focus (simp [*] <;> fail)); (focus (simp [*] <;> fail)); simp [*])
      | with_reducible refine And.intro ?_ ?_
      | omega
      | (refine imp1 fun h => ?_))
    · rw [hd.out]; simp [*]
    · exact ⟨i + 1, ⟨by omega, by rw [hd.out]; simp [*]⟩, by omega, by simp⟩
  · obtain rfl : i = l.length := by omega
    rw [List.drop_length] at heq
    replace heq := Hld.mk heq
    repeat' (first
      | with_reducible refine useK (by assumption) ?_
      | with_reducible refine useK2 (by assumption) ?_
      | with_reducible refine useX (by assumption) ?_
      | with_reducible refine AW_seqk fun K hK => ?_
      | (with_reducible refine AW_regionS rfl (by rw [hE]; decide) ?_; simp [*])
      | with_reducible refine AW_region (by rw [hE]; decide) ?_
      | ((with_reducible show RK _ _ _ _ _ _); refine RK_nilk ?_; simp [*])
      | ((with_reducible show RK _ _ _ _ _ _); refine RK_stepk fun K' hK' => ?_; simp [*])
      | with_reducible refine AW_drawq mixed (by rw [hE]; decide) (by simp [newOK]) ?_
      | ((with_reducible show RKQ _ _ _ _ _ _); refine RKQ_nilk ⟨by decide, ?_⟩)
      | ((with_reducible show RKQ _ _ _ _ _ _); refine RKQ_stepk fun K' hK' => ?_; simp [*])
      | (with_reducible refine AW_if fun X Y hX hY => ?_; simp [*])
      | with_reducible refine AW_block ?_
      | (with_reducible refine AW_ret ?_; simp [*])
      | (with_reducible refine AW_skip ?_; simp [*])
      | (with_reducible refine AW_exit ?_; simp [*])
      | with_reducible refine And.intro ?_ ?_
      | omega
      | (refine imp1 fun h => ?_))
    exact heq.out.symm
theorem s49 (r : R) (ob : Int) : PSpec Try.prog 49 [encR r, .ep (iA ob)] (bA (!decide (r.o = ob))) := by
  refine PSpec_of Try.func49 rfl rfl (Nat.le_of_ble_eq_true rfl) (Nat.le_of_ble_eq_true rfl) ?_
  intro E hE
  repeat' (first
    | with_reducible refine useK (by assumption) ?_
    | with_reducible refine useK2 (by assumption) ?_
    | with_reducible refine useX (by assumption) ?_
    | with_reducible refine AW_seqk fun K hK => ?_
    | (with_reducible refine AW_regionS rfl (by rw [hE]; decide) ?_; simp [*])
    | with_reducible refine AW_region (by rw [hE]; decide) ?_
    | ((with_reducible show RK _ _ _ _ _ _); refine RK_nilk ?_; simp [*])
    | ((with_reducible show RK _ _ _ _ _ _); refine RK_stepk fun K' hK' => ?_; simp [*])
    | with_reducible refine AW_drawq mixed (by rw [hE]; decide) (by simp [newOK]) ?_
    | ((with_reducible show RKQ _ _ _ _ _ _); refine RKQ_nilk ⟨by decide, ?_⟩)
    | ((with_reducible show RKQ _ _ _ _ _ _); refine RKQ_stepk fun K' hK' => ?_; simp [*])
    | (with_reducible refine AW_if fun X Y hX hY => ?_; simp [*])
    | with_reducible refine AW_block ?_
    | (with_reducible refine AW_ret ?_; simp [*])
    | (with_reducible refine AW_skip ?_; simp [*])
    | (with_reducible refine AW_exit ?_; simp [*])
    | with_reducible refine And.intro ?_ ?_
    | omega
    | (refine imp1 fun h => ?_))

theorem idxF_none {p : R → Bool} : ∀ {l : List R} {i : Nat}, idxF p i l = -1 → ∀ x ∈ l, p x = false
  | [], _, _ => by simp
  | x :: l, i, h => by
    simp only [idxF] at h
    split at h
    · omega
    · rename_i hx
      intro y hy
      rcases List.mem_cons.1 hy with rfl | hy
      · simpa using hx
      · exact idxF_none h y hy
theorem idxF_some {p : R → Bool} : ∀ {l : List R} {i : Nat}, idxF p i l ≠ -1 → ∃ j, idxF p i l = (i + j : Nat) ∧ ∃ h : j < l.length, p l[j] = true ∧ ∀ x ∈ l.take j, p x = false
  | [], _, h => by simp [idxF] at h
  | x :: l, i, h => by
    simp only [idxF] at h ⊢
    by_cases hx : p x = true
    · rw [if_pos hx] at h ⊢
      exact ⟨0, by simp, by simp, by simpa using hx, by simp⟩
    · rw [if_neg hx] at h ⊢
      obtain ⟨j, h1, h2, h3, h4⟩ := idxF_some h
      refine ⟨j + 1, by rw [h1]; congr 1; omega, by simpa using h2, by simpa using h3, ?_⟩
      intro y hy
      rw [List.take_succ_cons] at hy
      rcases List.mem_cons.1 hy with rfl | hy
      · simpa using hx
      · exact h4 y hy

theorem w48 (p : R → Bool) (g : FuncId) (cs : List AV) (hcs : idfL cs = true) (hp : ∀ r, PSpec Try.prog g (encR r :: cs) (bA (p r))) (l : List R) (n : Nat) (hn : l.length = n) (hl : n ≤ 1000000000) :
    MSpec Try.prog 48 [.own 1000000 8 0 n, .fn (.func g) [] cs] [(1000000, .arr 23 8 (l.map encR))] (fun res bf => res = .own 1000000 8 0 (l.filter fun r => !p r).length ∧ bf 1000000 = some (.arr 23 8 ((l.filter fun r => !p r).map encR))) := by
  subst hn
  have hcm : ∀ d, mentL d cs = false := fun d => idfL_ment d cs hcs
  refine MSpec.cut ?_
  by_cases h0 : idxF p 0 l = -1
  · have hf : (l.filter fun r => !p r) = l := List.filter_eq_self.2 (fun x hx => by simp [idxF_none h0 x hx])
    rw [hf]
    refine MSpec_of Try.func48 rfl rfl (Nat.le_of_ble_eq_true rfl) (Nat.le_of_ble_eq_true rfl) ?_
    intro E hE
    repeat' (first
      | with_reducible refine useK (by assumption) ?_
      | with_reducible refine useK2 (by assumption) ?_
      | with_reducible refine useX (by assumption) ?_
      | with_reducible refine AW_seqk fun K hK => ?_
      | (with_reducible refine AW_regionS rfl (by rw [hE]; decide) ?_; simp [*])
      | with_reducible refine AW_region (by rw [hE]; decide) ?_
      | ((with_reducible show RK _ _ _ _ _ _); refine RK_nilk ?_; simp [*])
      | ((with_reducible show RK _ _ _ _ _ _); refine RK_stepk fun K' hK' => ?_; simp [*])
      | with_reducible refine AW_drawq mixed (by rw [hE]; decide) (by simp [newOK]) ?_
      | ((with_reducible show RKQ _ _ _ _ _ _); refine RKQ_nilk ⟨by decide, ?_⟩)
      | ((with_reducible show RKQ _ _ _ _ _ _); refine RKQ_stepk fun K' hK' => ?_; simp [*])
      | (with_reducible refine AW_if fun X Y hX hY => ?_; simp [*])
      | with_reducible refine AW_block ?_
      | (with_reducible refine AW_ret ?_; simp [*])
      | (with_reducible refine AW_skip ?_; simp [*])
      | (with_reducible refine AW_exit ?_; simp [*])
      | (refine acall_same (s60 p g cs hcs hp l hl) ?_ ?_ ?_; (focus (simp [*] <;> fail)); (focus (simp [*] <;> fail)); simp [*])
      | (refine call_same (s60 p g cs hcs hp l hl) ?_ ?_ ?_; (focus (simp [*] <;> fail)); (focus (simp [*] <;> fail)); simp [*])
      | (refine acall_view (s60 p g cs hcs hp l hl) ?_ ?_ ?_; (focus (simp [*] <;> fail)); (focus (simp [*] <;> fail)); simp [*])
      | (refine call_view (s60 p g cs hcs hp l hl) ?_ ?_ ?_; (focus (simp [*] <;> fail)); (focus (simp [*] <;> fail)); simp [*])
      | with_reducible refine And.intro ?_ ?_
      | omega
      | (refine imp1 fun h => ?_))
    exact ⟨l.length, take_len encR l⟩
  · obtain ⟨j, hj, hjl, hpj, hjt⟩ := idxF_some h0
    rw [Nat.zero_add] at hj
    have hft : (l.take j).filter (fun r => !p r) = l.take j := List.filter_eq_self.2 (fun x hx => by simp [hjt x hx])
    have hf1 : (l.take (j + 1)).filter (fun r => !p r) = l.take j := by rw [List.take_succ_eq_append_getElem hjl, List.filter_append, hft]; simp [hpj]
    refine MSpec_of Try.func48 rfl rfl (Nat.le_of_ble_eq_true rfl) (Nat.le_of_ble_eq_true rfl) ?_
    intro E hE
    repeat' (first
      | with_reducible refine useK (by assumption) ?_
      | with_reducible refine useK2 (by assumption) ?_
      | with_reducible refine useX (by assumption) ?_
      | with_reducible refine AW_seqk fun K hK => ?_
      | (with_reducible refine AW_regionS rfl (by rw [hE]; decide) ?_; simp [*])
      | with_reducible refine AW_region (by rw [hE]; decide) ?_
      | ((with_reducible show RK _ _ _ _ _ _); refine RK_nilk ?_; simp [*])
      | ((with_reducible show RK _ _ _ _ _ _); refine RK_stepk fun K' hK' => ?_; simp [*])
      | with_reducible refine AW_drawq mixed (by rw [hE]; decide) (by simp [newOK]) ?_
      | ((with_reducible show RKQ _ _ _ _ _ _); refine RKQ_nilk ⟨by decide, ?_⟩)
      | ((with_reducible show RKQ _ _ _ _ _ _); refine RKQ_stepk fun K' hK' => ?_; simp [*])
      | (with_reducible refine AW_if fun X Y hX hY => ?_; simp [*])
      | with_reducible refine AW_block ?_
      | (with_reducible refine AW_ret ?_; simp [*])
      | (with_reducible refine AW_skip ?_; simp [*])
      | (with_reducible refine AW_exit ?_; simp [*])
      | (refine acall_same (s60 p g cs hcs hp l hl) ?_ ?_ ?_; (focus (simp [*] <;> fail)); (focus (simp [*] <;> fail)); simp [*])
      | (refine call_same (s60 p g cs hcs hp l hl) ?_ ?_ ?_; (focus (simp [*] <;> fail)); (focus (simp [*] <;> fail)); simp [*])
      | (refine acall_view (s60 p g cs hcs hp l hl) ?_ ?_ ?_; (focus (simp [*] <;> fail)); (focus (simp [*] <;> fail)); simp [*])
      | (refine call_view (s60 p g cs hcs hp l hl) ?_ ?_ ?_; (focus (simp [*] <;> fail)); (focus (simp [*] <;> fail)); simp [*])
      | with_reducible refine And.intro ?_ ?_
      | omega
      | (refine imp1 fun h => ?_))
    obtain ⟨F, hFd⟩ : ∃ F : Nat → List R, ∀ i, F i = (l.take i).filter fun r => !p r := ⟨_, fun _ => rfl⟩
    have hF0 : F (j + 1) = l.take j := by rw [hFd, hf1]
    have hFe : F l.length = l.filter fun r => !p r := by rw [hFd, List.take_length]
    have hFl : ∀ i, j + 1 ≤ i → i ≤ l.length → (F i).length < i := by
      intro i h1 h2
      rw [hFd, ← List.take_append_drop (j + 1) (l.take i), List.filter_append, List.length_append, List.take_take, Nat.min_eq_left h1, hf1]
      have := List.length_filter_le (fun r => !p r) (List.drop (j + 1) (l.take i))
      simp at this ⊢
      omega
    have hFs : ∀ i (h : i < l.length), F (i + 1) = if p l[i] then F i else F i ++ [l[i]] := by
      intro i h
      rw [hFd, hFd, List.take_succ_eq_append_getElem h, List.filter_append]
      by_cases hp : p l[i] <;> simp [hp]
    obtain ⟨B, hB⟩ : ∃ B : Nat → List R, ∀ i, B i = F i ++ l.drop (F i).length := ⟨_, fun _ => rfl⟩
    have hB0 : B (j + 1) = l := by
      have : (l.take j).length = j := by simp; omega
      rw [hB, hF0, this, List.take_append_drop]
    have hBl : ∀ i, j + 1 ≤ i → i ≤ l.length → (B i).length = l.length := by
      intro i h1 h2
      have := hFl i h1 h2
      rw [hB]; simp; omega
    have hBg : ∀ i (h : i < l.length), j + 1 ≤ i → ∃ h' : i < (B i).length, (B i)[i] = l[i] := by
      intro i h h1
      have h2 := hFl i h1 (by omega)
      refine ⟨by rw [hBl i h1 (by omega)]; exact h, ?_⟩
      have : ∀ A, A = F i ++ l.drop (F i).length → ∀ h' : i < A.length, A[i] = l[i] := by
        rintro A rfl h'
        rw [List.getElem_append_right (by omega), List.getElem_drop]
        congr 1
        omega
      exact this _ (hB i) _
    have hBs : ∀ i (h : i < l.length), j + 1 ≤ i → B (i + 1) = if p l[i] then B i else (B i).set (F i).length l[i] := by
      intro i h h1
      have h2 := hFl i h1 (by omega)
      have i3 : (F i).length < l.length := by omega
      by_cases hpi : p l[i]
      · rw [if_pos hpi, hB, hFs i h, if_pos hpi, ← hB]
      · rw [if_neg hpi, hB, hFs i h, if_neg hpi, hB]
        have e0 : (l.drop (F i).length).set 0 l[i] = l[i] :: l.drop ((F i).length + 1) := by
          rw [List.drop_eq_getElem_cons i3]
          rfl
        rw [List.set_append_right _ _ (Nat.le_refl _), Nat.sub_self, e0]
        simp
    have hBe : (B l.length).take (F l.length).length = F l.length := by rw [hB, List.take_left]
    replace hFs := Hld.mk hFs
    replace hFe := Hld.mk hFe
    replace hBs := Hld.mk hBs
    clear hFd hB
    refine AW_loopk (G := Nat) (fun i => ⟨[(6, iA i), (5, iA (F i).length), (0, .own 1000000 8 0 l.length), (1, .fn (.func g) [] cs)], [(1000000, .arr 23 8 ((B i).map encR))]⟩)
      (fun i => j + 1 ≤ i ∧ i ≤ l.length) (fun i => l.length - i) (j + 1) ⟨by omega, by omega⟩ (by
        have : (l.take j).length = j := by simp; omega
        simp [hF0, hB0]; omega) ?_
    rintro i ⟨hi1, hi⟩ K hK
    have hFli := hFl i hi1 hi
    have hA := hBl i hi1 hi
    by_cases hlt : i < l.length
    · obtain ⟨i1, f1⟩ := hBg i hlt hi1
      have i2 : (F i).length < l.length := by omega
      have hs := hFs.out i hlt
      have hs2 := hBs.out i hlt hi1
      replace hs := Hld.mk hs
      replace hs2 := Hld.mk hs2
      clear hBg hFl hBl hFs hBs
      repeat' (first
        | with_reducible refine useK (by assumption) ?_
        | with_reducible refine useK2 (by assumption) ?_
        | with_reducible refine useX (by assumption) ?_
        | with_reducible refine AW_seqk fun K hK => ?_
        | (with_reducible refine AW_regionS rfl (by rw [hE]; decide) ?_; simp [*])
        | with_reducible refine AW_region (by rw [hE]; decide) ?_
        | ((with_reducible show RK _ _ _ _ _ _); refine RK_nilk ?_; simp [*])
        | ((with_reducible show RK _ _ _ _ _ _); refine RK_stepk fun K' hK' => ?_; simp [*])
        | with_reducible refine AW_drawq mixed (by rw [hE]; decide) (by simp [newOK]) ?_
        | ((with_reducible show RKQ _ _ _ _ _ _); refine RKQ_nilk ⟨by decide, ?_⟩)
        | ((with_reducible show RKQ _ _ _ _ _ _); refine RKQ_stepk fun K' hK' => ?_; simp [*])
        | (with_reducible refine AW_if fun X Y hX hY => ?_; simp [*])
        | with_reducible refine AW_block ?_
        | (with_reducible refine AW_ret ?_; simp [*])
        | (with_reducible refine AW_skip ?_; simp [*])
        | (with_reducible refine AW_exit ?_; simp [*])
        | (refine acall_same (hp _) ?_ ?_ ?_; (focus (simp [*] <;> fail)); (focus (simp [*] <;> fail)); simp [*])
        | (refine call_same (hp _) ?_ ?_ ?_; (focus (simp [*] <;> fail)); (focus (simp [*] <;> fail)); simp [*])
        | (refine acall_view (hp _) ?_ ?_ ?_; (focus (simp [*] <;> fail)); (focus (simp [*] <;> fail)); simp [*])
        | (refine call_view (hp _) ?_ ?_ ?_; (focus (simp [*] <;> fail)); (focus (simp [*] <;> fail)); simp [*])
        | with_reducible refine And.intro ?_ ?_
        | omega
        | (refine imp1 fun h => ?_))
      all_goals first | exact ⟨i + 1, ⟨by omega, by omega⟩, by omega, by simp [hs.out, hs2.out, *]⟩ | trace_state
    · obtain rfl : i = l.length := by omega
      clear hBg hFl hBl hFs hBs
      replace hBe := Hld.mk hBe
      repeat' (first
        | with_reducible refine useK (by assumption) ?_
        | with_reducible refine useK2 (by assumption) ?_
        | with_reducible refine useX (by assumption) ?_
        | with_reducible refine AW_seqk fun K hK => ?_
        | (with_reducible refine AW_regionS rfl (by rw [hE]; decide) ?_; simp [*])
        | with_reducible refine AW_region (by rw [hE]; decide) ?_
        | ((with_reducible show RK _ _ _ _ _ _); refine RK_nilk ?_; simp [*])
        | ((with_reducible show RK _ _ _ _ _ _); refine RK_stepk fun K' hK' => ?_; simp [*])
        | with_reducible refine AW_drawq mixed (by rw [hE]; decide) (by simp [newOK]) ?_
        | ((with_reducible show RKQ _ _ _ _ _ _); refine RKQ_nilk ⟨by decide, ?_⟩)
        | ((with_reducible show RKQ _ _ _ _ _ _); refine RKQ_stepk fun K' hK' => ?_; simp [*])
        | (with_reducible refine AW_if fun X Y hX hY => ?_; simp [*])
        | with_reducible refine AW_block ?_
        | (with_reducible refine AW_ret ?_; simp [*])
        | (with_reducible refine AW_skip ?_; simp [*])
        | (with_reducible refine AW_exit ?_; simp [*])
        | with_reducible refine And.intro ?_ ?_
        | omega
        | (refine imp1 fun h => ?_))
      · rw [hFe.out]
      · refine ⟨(F l.length).length, ?_⟩
        rw [List.take_append_of_le_length (by simp; omega), ← List.map_take, hBe.out, hFe.out]
        exact take_len _ _

def cntR (l : List R) : List R := setR ((winM l).filter fun r => !r.c)
def ofR (l : List R) (ob : Int) : List R := (cntR l).filter fun r => decide (r.o = ob)
theorem cntR_len (l : List R) : (cntR l).length ≤ l.length := by
  unfold cntR
  exact Nat.le_trans (setR_len _) (Nat.le_trans (List.length_filter_le _ _) (winM_len l))
theorem r18' (l : List R) (hl : l.length ≤ 1000000000) : RSpec Try.prog 18 [.sl 8 (l.map encR)] 23 8 ((cntR l).map encR) := r18 l hl
theorem r34 (l : List R) (ob : Int) (hl : l.length ≤ 1000000000) : RSpec Try.prog 34 [.sl 8 (l.map encR), iA ob] 23 8 ((ofR l ob).map encR) := by
  have hc := cntR_len l
  refine MSpec_of Try.func34 rfl rfl (Nat.le_of_ble_eq_true rfl) (Nat.le_of_ble_eq_true rfl) ?_
  intro E hE
  refine AW_seqk fun K hK => ?_
  refine AW_region (by rw [hE]; decide) ?_
  simp
  refine useK (by assumption) ?_
  refine AW_freeze 3 (t := ⟨[(3, .ep (iA ob)), (0, .sl 8 (l.map encR)), (1, iA ob), (4, .v (.slice none 0 0))], []⟩) rfl (by simp) (by simp) ?_
  repeat' (first
    | with_reducible refine useK (by assumption) ?_
    | with_reducible refine useK2 (by assumption) ?_
    | with_reducible refine useX (by assumption) ?_
    | with_reducible refine AW_seqk fun K hK => ?_
    | (with_reducible refine AW_regionS rfl (by rw [hE]; decide) ?_; simp [*])
    | with_reducible refine AW_region (by rw [hE]; decide) ?_
    | ((with_reducible show RK _ _ _ _ _ _); refine RK_nilk ?_; simp [*])
    | ((with_reducible show RK _ _ _ _ _ _); refine RK_stepk fun K' hK' => ?_; simp [*])
    | with_reducible refine AW_drawq mixed (by rw [hE]; decide) (by simp [newOK]) ?_
    | ((with_reducible show RKQ _ _ _ _ _ _); refine RKQ_nilk ⟨by decide, ?_⟩)
    | ((with_reducible show RKQ _ _ _ _ _ _); refine RKQ_stepk fun K' hK' => ?_; simp [*])
    | (with_reducible refine AW_if fun X Y hX hY => ?_; simp [*])
    | with_reducible refine AW_block ?_
    | (with_reducible refine AW_ret ?_; simp [*])
    | (with_reducible refine AW_skip ?_; simp [*])
    | (with_reducible refine AW_exit ?_; simp [*])
    | (refine acall_row (r18' l hl) ?_ (.inl ?_) ?_ ?_; (focus (simp [*] <;> fail)); (focus (simp [*] <;> fail)); (focus (simp [*] <;> fail)); simp [*])
    | (refine acall_mrow (w48 (fun r => !decide (r.o = ob)) 49 [.ep (iA ob)] rfl (fun r => s49 r ob) (cntR l) _ rfl (by omega)) ?_ ?_ ?_ ?_ ?_ ?_; (focus (simp [*] <;> fail)); (focus (simp [*] <;> fail)); (focus (simp [*] <;> fail)); (focus (simp [*] <;> fail)); (focus (simp [*] <;> fail)); simp [*])
    | with_reducible refine And.intro ?_ ?_
    | omega
    | (refine imp1 fun h => ?_))
  simp [ofR]
end Go.Proofs.Ytmjckbokjjnmeaa
end
section
namespace Go.Proofs.Ytmjckbokjjnmeaa
open Go.Am

theorem ofR_len (l : List R) (ob : Int) : (ofR l ob).length ≤ l.length := Nat.le_trans (List.length_filter_le _ _) (cntR_len l)
def lastR (o : List R) : R := o.getLastD zeroR
theorem lastR_get {o : List R} (h : o ≠ []) : ∃ h' : o.length - 1 < o.length, lastR o = o[o.length - 1] := by
  have h0 : 0 < o.length := List.length_pos_iff.2 h
  refine ⟨by omega, ?_⟩
  unfold lastR
  rw [List.getLastD_eq_getLast?, List.getLast?_eq_some_getLast h, Option.getD_some, List.getLast_eq_getElem]
theorem s33 (l : List R) (ob : Int) (hl : l.length ≤ 1000000000) : PSpec Try.prog 33 [.sl 8 (l.map encR), iA ob] (.tup [encR (lastR (ofR l ob)), bA (!decide (ofR l ob = []))]) := by
  have ho := ofR_len l ob
  refine PSpec_of Try.func33 rfl rfl (Nat.le_of_ble_eq_true rfl) (Nat.le_of_ble_eq_true rfl) ?_
  intro E hE
  by_cases h0 : ofR l ob = []
  · repeat' (first
      | with_reducible refine useK (by assumption) ?_
      | with_reducible refine useK2 (by assumption) ?_
      | with_reducible refine useX (by assumption) ?_
      | with_reducible refine AW_seqk fun K hK => ?_
      | (with_reducible refine AW_regionS rfl (by rw [hE]; decide) ?_; simp [*, encR_zero])
      | with_reducible refine AW_region (by rw [hE]; decide) ?_
      | ((with_reducible show RK _ _ _ _ _ _); refine RK_nilk ?_; simp [*, encR_zero])
      | ((with_reducible show RK _ _ _ _ _ _); refine RK_stepk fun K' hK' => ?_; simp [*, encR_zero])
      | with_reducible refine AW_drawq mixed (by rw [hE]; decide) (by simp [newOK]) ?_
      | ((with_reducible show RKQ _ _ _ _ _ _); refine RKQ_nilk ⟨by decide, ?_⟩)
      | ((with_reducible show RKQ _ _ _ _ _ _); refine RKQ_stepk fun K' hK' => ?_; simp [*, encR_zero])
      | (with_reducible refine AW_if fun X Y hX hY => ?_; simp [*, encR_zero])
      | with_reducible refine AW_block ?_
      | (with_reducible refine AW_ret ?_; simp [*, encR_zero])
      | (with_reducible refine AW_skip ?_; simp [*, encR_zero])
      | (with_reducible refine AW_exit ?_; simp [*, encR_zero])
      | (refine acall_row (r34 l ob hl) ?_ (.inl ?_) ?_ ?_; (focus (simp [*, encR_zero] <;> fail)); (focus (simp [*, encR_zero] <;> fail)); (focus (simp [*, encR_zero] <;> fail)); simp [*, encR_zero])
      | with_reducible refine And.intro ?_ ?_
      | omega
      | (refine imp1 fun h => ?_))
    rfl
  · obtain ⟨h1, h2⟩ := lastR_get h0
    have h3 : 0 < (ofR l ob).length := by omega
    have h4 : ((ofR l ob).length : Int) - 1 = ((ofR l ob).length - 1 : Nat) := by omega
    repeat' (first
      | with_reducible refine useK (by assumption) ?_
      | with_reducible refine useK2 (by assumption) ?_
      | with_reducible refine useX (by assumption) ?_
      | with_reducible refine AW_seqk fun K hK => ?_
      | (with_reducible refine AW_regionS rfl (by rw [hE]; decide) ?_; simp [*])
      | with_reducible refine AW_region (by rw [hE]; decide) ?_
      | ((with_reducible show RK _ _ _ _ _ _); refine RK_nilk ?_; simp [*])
      | ((with_reducible show RK _ _ _ _ _ _); refine RK_stepk fun K' hK' => ?_; simp [*])
      | with_reducible refine AW_drawq mixed (by rw [hE]; decide) (by simp [newOK]) ?_
      | ((with_reducible show RKQ _ _ _ _ _ _); refine RKQ_nilk ⟨by decide, ?_⟩)
      | ((with_reducible show RKQ _ _ _ _ _ _); refine RKQ_stepk fun K' hK' => ?_; simp [*])
      | (with_reducible refine AW_if fun X Y hX hY => ?_; simp [*])
      | with_reducible refine AW_block ?_
      | (with_reducible refine AW_ret ?_; simp [*])
      | (with_reducible refine AW_skip ?_; simp [*])
      | (with_reducible refine AW_exit ?_; simp [*])
      | (refine acall_row (r34 l ob hl) ?_ (.inl ?_) ?_ ?_; (focus (simp [*] <;> fail)); (focus (simp [*] <;> fail)); (focus (simp [*] <;> fail)); simp [*])
      | with_reducible refine And.intro ?_ ?_
      | omega
      | (refine imp1 fun h => ?_))

def objR (l : List R) : List Int := ddI ((cntR l).map R.o)
theorem w47 (l : List Int) (n : Nat) (hn : l.length = n) (hl : n ≤ 1000000000) : MSpec Try.prog 47 [.own 1000000 1 0 n] [(1000000, .arr 3 1 (l.map iA))] (fun res bf => res = .own 1000000 1 0 (ddI l).length ∧ bf 1000000 = some (.arr 3 1 ((ddI l).map iA))) :=
  MSpec.cut (MSpec.mono (hn ▸ m47 l (hn ▸ hl)) (by
    rintro res bf ⟨tail, rfl, h⟩
    exact ⟨rfl, _, (ddI l).length, h, by rw [List.map_append, ← List.length_map (f := iA), List.take_left]⟩))
theorem take_map_snoc {α β : Type} (f : α → β) {l : List α} {i : Nat} (h : i < l.length) : (l.take (i + 1)).map f = (l.take i).map f ++ [f l[i]] := by
  rw [List.take_succ_eq_append_getElem h, List.map_append]; rfl
theorem r32 (l : List R) (hl : l.length ≤ 1000000000) : RSpec Try.prog 32 [.sl 8 (l.map encR)] 3 1 ((objR l).map iA) := by
  have hc := cntR_len l
  refine MSpec_of Try.func32 rfl rfl (Nat.le_of_ble_eq_true rfl) (Nat.le_of_ble_eq_true rfl) ?_
  intro E hE
  repeat' (first
    | with_reducible refine useK (by assumption) ?_
    | with_reducible refine useK2 (by assumption) ?_
    | with_reducible refine useX (by assumption) ?_
    | with_reducible refine AW_seqk fun K hK => ?_
    | (with_reducible refine AW_regionS rfl (by rw [hE]; decide) ?_; simp [*])
    | with_reducible refine AW_region (by rw [hE]; decide) ?_
    | ((with_reducible show RK _ _ _ _ _ _); refine RK_nilk ?_; simp [*])
    | ((with_reducible show RK _ _ _ _ _ _); refine RK_stepk fun K' hK' => ?_; simp [*])
    | with_reducible refine AW_drawq mixed (by rw [hE]; decide) (by simp [newOK]) ?_
    | ((with_reducible show RKQ _ _ _ _ _ _); refine RKQ_nilk ⟨by decide, ?_⟩)
    | ((with_reducible show RKQ _ _ _ _ _ _); refine RKQ_stepk fun K' hK' => ?_; simp [*])
    | (with_reducible refine AW_if fun X Y hX hY => ?_; simp [*])
    | with_reducible refine AW_block ?_
    | (with_reducible refine AW_ret ?_; simp [*])
    | (with_reducible refine AW_skip ?_; simp [*])
    | (with_reducible refine AW_exit ?_; simp [*])
    | (refine acall_row (r18' l hl) ?_ (.inl ?_) ?_ ?_; (focus (simp [*] <;> fail)); (focus (simp [*] <;> fail)); (focus (simp [*] <;> fail)); simp [*])
    | with_reducible refine And.intro ?_ ?_
    | omega
    | (refine imp1 fun h => ?_))
  refine AW_mkrow 3 60 3 1 (by simp) (by simp) (by simp) (by omega) ?_
  obtain ⟨F, hF⟩ : ∃ F : Nat → List Int, ∀ i, F i = ((cntR l).take i).map R.o := ⟨_, fun _ => rfl⟩
  have hF0 : F 0 = [] := by rw [hF]; simp
  have hFe : F (cntR l).length = (cntR l).map R.o := by rw [hF, List.take_length]
  have hFl : ∀ i, i ≤ (cntR l).length → (F i).length = i := by intro i h; rw [hF]; simp; omega
  have hFs : ∀ i (h : i < (cntR l).length), F (i + 1) = F i ++ [(cntR l)[i].o] := by intro i h; rw [hF, hF, take_map_snoc _ h]
  clear hF
  replace hFe := Hld.mk hFe
  replace hFs := Hld.mk hFs
  refine AW_loopk (G := Nat) (fun i => ⟨[(9, iA i), (8, iA (cntR l).length), (7, .own 7 8 0 (cntR l).length), (3, .own 60 1 0 (F i).length), (2, .v (.slice none 0 0))], [(7, .arr 23 8 ((cntR l).map encR)), (60, .arr 3 1 ((F i).map iA))]⟩)
    (fun i => i ≤ (cntR l).length) (fun i => (cntR l).length - i) 0 (by simp) (by simp [hF0]) ?_
  intro i hi K hK
  have hi2 : (F i).length ≤ 1000000000 := by have := hFl i hi; omega
  by_cases hlt : i < (cntR l).length
  · have hs := hFs.out i hlt
    replace hs := Hld.mk hs
    clear hFl hFs
    repeat' (first
      | with_reducible refine useK (by assumption) ?_
      | with_reducible refine useK2 (by assumption) ?_
      | with_reducible refine useX (by assumption) ?_
      | with_reducible refine AW_seqk fun K hK => ?_
      | (with_reducible refine AW_regionS rfl (by rw [hE]; decide) ?_; simp [*])
      | with_reducible refine AW_region (by rw [hE]; decide) ?_
      | ((with_reducible show RK _ _ _ _ _ _); refine RK_nilk ?_; simp [*])
      | ((with_reducible show RK _ _ _ _ _ _); refine RK_stepk fun K' hK' => ?_; simp [*])
      | with_reducible refine AW_drawq mixed (by rw [hE]; decide) (by simp [newOK]) ?_
      | ((with_reducible show RKQ _ _ _ _ _ _); refine RKQ_nilk ⟨by decide, ?_⟩)
      | ((with_reducible show RKQ _ _ _ _ _ _); refine RKQ_stepk fun K' hK' => ?_; simp [*])
      | (with_reducible refine AW_if fun X Y hX hY => ?_; simp [*])
      | with_reducible refine AW_block ?_
      | (with_reducible refine AW_ret ?_; simp [*])
      | (with_reducible refine AW_skip ?_; simp [*])
      | (with_reducible refine AW_exit ?_; simp [*])
      | with_reducible refine And.intro ?_ ?_
      | omega
      | (refine imp1 fun h => ?_))
    exact ⟨i + 1, by omega, by omega, by simp [hs.out]⟩
  · obtain rfl : i = (cntR l).length := by omega
    clear hFl hFs
    repeat' (first
      | with_reducible refine useK (by assumption) ?_
      | with_reducible refine useK2 (by assumption) ?_
      | with_reducible refine useX (by assumption) ?_
      | with_reducible refine AW_seqk fun K hK => ?_
      | (with_reducible refine AW_regionS rfl (by rw [hE]; decide) ?_; simp [*])
      | with_reducible refine AW_region (by rw [hE]; decide) ?_
      | ((with_reducible show RK _ _ _ _ _ _); refine RK_nilk ?_; simp [*])
      | ((with_reducible show RK _ _ _ _ _ _); refine RK_stepk fun K' hK' => ?_; simp [*])
      | with_reducible refine AW_drawq mixed (by rw [hE]; decide) (by simp [newOK]) ?_
      | ((with_reducible show RKQ _ _ _ _ _ _); refine RKQ_nilk ⟨by decide, ?_⟩)
      | ((with_reducible show RKQ _ _ _ _ _ _); refine RKQ_stepk fun K' hK' => ?_; simp [*])
      | (with_reducible refine AW_if fun X Y hX hY => ?_; simp [*])
      | with_reducible refine AW_block ?_
      | (with_reducible refine AW_ret ?_; simp [*])
      | (with_reducible refine AW_skip ?_; simp [*])
      | (with_reducible refine AW_exit ?_; simp [*])
      | (refine acall_mrow (w47 (F (cntR l).length) _ rfl (by omega)) ?_ ?_ ?_ ?_ ?_ ?_; (focus (simp [*] <;> fail)); (focus (simp [*] <;> fail)); (focus (simp [*] <;> fail)); (focus (simp [*] <;> fail)); (focus (simp [*] <;> fail)); simp [*])
      | with_reducible refine And.intro ?_ ?_
      | omega
      | (refine imp1 fun h => ?_))
    have e : ddI (F (cntR l).length) = objR l := by rw [hFe.out]; rfl
    rw [e]
    exact ⟨60, ⟨rfl, rfl⟩, _, rfl, take_len iA _⟩
end Go.Proofs.Ytmjckbokjjnmeaa
end
section
namespace Go.Proofs.Ytmjckbokjjnmeaa
open Go.Am

set_option maxHeartbeats 1000000 in
theorem s51 (l : List R) (r : R) (n : Nat) (b : Bool) (hl : l.length ≤ 1000000000) (hn : n ≤ l.length) (h1 : ∀ i (h : i < l.length), cmpR l[i] r < 0 ↔ i < n) (h2 : b = true ↔ ∃ h : n < l.length, cmpR l[n] r = 0) :
    PSpec Try.prog 51 [.sl 8 (l.map encR), encR r, .fn (.func 13) [] []] (.tup [iA n, bA b]) := by
  replace h1 := Hld.mk h1
  replace h2 := Hld.mk h2
  refine PSpec_of Try.func51 rfl rfl (Nat.le_of_ble_eq_true rfl) (Nat.le_of_ble_eq_true rfl) ?_
  intro E hE
  repeat' (first
    | with_reducible refine useK (by assumption) ?_
    | with_reducible refine useK2 (by assumption) ?_
    | with_reducible refine useX (by assumption) ?_
    | with_reducible refine AW_seqk fun K hK => ?_
    | (with_reducible refine AW_regionS rfl (by rw [hE]; decide) ?_; simp [*])
    | with_reducible refine AW_region (by rw [hE]; decide) ?_
    | ((with_reducible show RK _ _ _ _ _ _); refine RK_nilk ?_; simp [*])
    | ((with_reducible show RK _ _ _ _ _ _); refine RK_stepk fun K' hK' => ?_; simp [*])
    | with_reducible refine AW_drawq mixed (by rw [hE]; decide) (by simp [newOK]) ?_
    | ((with_reducible show RKQ _ _ _ _ _ _); refine RKQ_nilk ⟨by decide, ?_⟩)
    | ((with_reducible show RKQ _ _ _ _ _ _); refine RKQ_stepk fun K' hK' => ?_; simp [*])
    | (with_reducible refine AW_if fun X Y hX hY => ?_; simp [*])
    | with_reducible refine AW_block ?_
    | (with_reducible refine AW_ret ?_; simp [*])
    | (with_reducible refine AW_skip ?_; simp [*])
    | (with_reducible refine AW_exit ?_; simp [*])
    | with_reducible refine And.intro ?_ ?_
    | omega
    | (refine imp1 fun h => ?_))
  refine AW_loopk (G := Nat × Nat) (fun p => ⟨[(9, iA p.1), (10, iA p.2), (8, iA l.length), (0, .sl 8 (l.map encR)), (2, .fn (.func 13) [] []), (4, .loc 4 0)], [(4, .box 23 (encR r))]⟩)
    (fun p => p.1 ≤ n ∧ n ≤ p.2 ∧ p.2 ≤ l.length) (fun p => p.2 - p.1) (0, l.length) ⟨by simp, hn, by simp⟩ (by simp) ?_
  rintro ⟨i, j⟩ ⟨hi, hj, hjl⟩ K hK
  simp only at hi hj hjl
  by_cases hij : i < j
  · have hw : IntKind.wrap .u64 ((i : Int) + j) = i + j := wrap_in _ (by show (0 : Int) ≤ _; omega) (by show _ ≤ (18446744073709551615 : Int); omega)
    have hf : Int.fdiv ((i : Int) + j) 2 = (((i + j) / 2 : Nat) : Int) := by rw [Int.fdiv_eq_ediv_of_nonneg _ (by omega)]; omega
    have hw2 : IntKind.wrap .i64 (((i + j) / 2 : Nat) : Int) = ((i + j) / 2 : Nat) := wrap_in _ (by show (-9223372036854775808 : Int) ≤ _; omega) (by show _ ≤ (9223372036854775807 : Int); omega)
    have hm : (i + j) / 2 < l.length := by omega
    have hmj : (i + j) / 2 < j := by omega
    have hmi : i ≤ (i + j) / 2 := by omega
    generalize (i + j) / 2 = m at *
    have h1 := h1.out m hm
    replace h1 := Hld.mk h1
    repeat' (first
      | with_reducible refine useK (by assumption) ?_
      | with_reducible refine useK2 (by assumption) ?_
      | with_reducible refine useX (by assumption) ?_
      | with_reducible refine AW_seqk fun K hK => ?_
      | (with_reducible refine AW_regionS rfl (by rw [hE]; decide) ?_; simp [*])
      | with_reducible refine AW_region (by rw [hE]; decide) ?_
      | ((with_reducible show RK _ _ _ _ _ _); refine RK_nilk ?_; simp [*])
      | ((with_reducible show RK _ _ _ _ _ _); refine RK_stepk fun K' hK' => ?_; simp [*])
      | with_reducible refine AW_drawq mixed (by rw [hE]; decide) (by simp [newOK]) ?_
      | ((with_reducible show RKQ _ _ _ _ _ _); refine RKQ_nilk ⟨by decide, ?_⟩)
      | ((with_reducible show RKQ _ _ _ _ _ _); refine RKQ_stepk fun K' hK' => ?_; simp [*])
      | (with_reducible refine AW_if fun X Y hX hY => ?_; simp [*])
      | with_reducible refine AW_block ?_
      | (with_reducible refine AW_ret ?_; simp [*])
      | (with_reducible refine AW_skip ?_; simp [*])
      | (with_reducible refine AW_exit ?_; simp [*])
      | (refine acall_same (s13 _ _) ?_ ?_ ?_; (focus (simp [*] <;> fail)); (focus (simp [*] <;> fail)); simp [*])
      | (refine call_same (s13 _ _) ?_ ?_ ?_; (focus (simp [*] <;> fail)); (focus (simp [*] <;> fail)); simp [*])
      | (refine acall_view (s13 _ _) ?_ ?_ ?_; (focus (simp [*] <;> fail)); (focus (simp [*] <;> fail)); simp [*])
      | (refine call_view (s13 _ _) ?_ ?_ ?_; (focus (simp [*] <;> fail)); (focus (simp [*] <;> fail)); simp [*])
      | with_reducible refine And.intro ?_ ?_
      | omega
      | (refine imp1 fun h => ?_))
    · have := h1.out.1 (by assumption)
      exact ⟨(m + 1, j), ⟨by simp only; omega, hj, hjl⟩, by simp only; omega, by simp⟩
    · have : ¬ m < n := fun h => by have := h1.out.2 h; omega
      exact ⟨(i, m), ⟨hi, by simp only; omega, by simp only; omega⟩, by simp only; omega, by simp⟩
  · obtain rfl : i = n := by omega
    obtain rfl : i = j := by omega
    by_cases hlt : i < l.length
    · have h3 : b = decide (cmpR l[i] r = 0) := by
        rw [Bool.eq_iff_iff, h2.out, decide_eq_true_eq]
        exact ⟨fun ⟨_, h⟩ => h, fun h => ⟨hlt, h⟩⟩
      replace h3 := Hld.mk h3
      repeat' (first
        | with_reducible refine useK (by assumption) ?_
        | with_reducible refine useK2 (by assumption) ?_
        | with_reducible refine useX (by assumption) ?_
        | with_reducible refine AW_seqk fun K hK => ?_
        | (with_reducible refine AW_regionS rfl (by rw [hE]; decide) ?_; simp [*])
        | with_reducible refine AW_region (by rw [hE]; decide) ?_
        | ((with_reducible show RK _ _ _ _ _ _); refine RK_nilk ?_; simp [*])
        | ((with_reducible show RK _ _ _ _ _ _); refine RK_stepk fun K' hK' => ?_; simp [*])
        | with_reducible refine AW_drawq mixed (by rw [hE]; decide) (by simp [newOK]) ?_
        | ((with_reducible show RKQ _ _ _ _ _ _); refine RKQ_nilk ⟨by decide, ?_⟩)
        | ((with_reducible show RKQ _ _ _ _ _ _); refine RKQ_stepk fun K' hK' => ?_; simp [*])
        | (with_reducible refine AW_if fun X Y hX hY => ?_; simp [*])
        | with_reducible refine AW_block ?_
        | (with_reducible refine AW_ret ?_; simp [*])
        | (with_reducible refine AW_skip ?_; simp [*])
        | (with_reducible refine AW_exit ?_; simp [*])
        | (refine acall_same (s13 _ _) ?_ ?_ ?_; (focus (simp [*] <;> fail)); (focus (simp [*] <;> fail)); simp [*])
        | (refine call_same (s13 _ _) ?_ ?_ ?_; (focus (simp [*] <;> fail)); (focus (simp [*] <;> fail)); simp [*])
        | (refine acall_view (s13 _ _) ?_ ?_ ?_; (focus (simp [*] <;> fail)); (focus (simp [*] <;> fail)); simp [*])
        | (refine call_view (s13 _ _) ?_ ?_ ?_; (focus (simp [*] <;> fail)); (focus (simp [*] <;> fail)); simp [*])
        | with_reducible refine And.intro ?_ ?_
        | omega
        | (refine imp1 fun h => ?_))
      exact h3.out
    · have h3 : b = false := by
        rw [Bool.eq_false_iff]
        intro h
        obtain ⟨h, _⟩ := h2.out.1 h
        exact hlt h
      repeat' (first
        | with_reducible refine useK (by assumption) ?_
        | with_reducible refine useK2 (by assumption) ?_
        | with_reducible refine useX (by assumption) ?_
        | with_reducible refine AW_seqk fun K hK => ?_
        | (with_reducible refine AW_regionS rfl (by rw [hE]; decide) ?_; simp [*])
        | with_reducible refine AW_region (by rw [hE]; decide) ?_
        | ((with_reducible show RK _ _ _ _ _ _); refine RK_nilk ?_; simp [*])
        | ((with_reducible show RK _ _ _ _ _ _); refine RK_stepk fun K' hK' => ?_; simp [*])
        | with_reducible refine AW_drawq mixed (by rw [hE]; decide) (by simp [newOK]) ?_
        | ((with_reducible show RKQ _ _ _ _ _ _); refine RKQ_nilk ⟨by decide, ?_⟩)
        | ((with_reducible show RKQ _ _ _ _ _ _); refine RKQ_stepk fun K' hK' => ?_; simp [*])
        | (with_reducible refine AW_if fun X Y hX hY => ?_; simp [*])
        | with_reducible refine AW_block ?_
        | (with_reducible refine AW_ret ?_; simp [*])
        | (with_reducible refine AW_skip ?_; simp [*])
        | (with_reducible refine AW_exit ?_; simp [*])
        | with_reducible refine And.intro ?_ ?_
        | omega
        | (refine imp1 fun h => ?_))

/-! ### Changed -/
/-- What the reports of l that other has not add to the list. -/
def difR (other : List R) (l : List R) : List Int := (l.filter fun r => !decide (r ∈ other)).map R.o
theorem low_of (l : List R) (hs : SS l) (r : R) : ∃ n, n ≤ l.length ∧ (∀ i (h : i < l.length), cmpR l[i] r < 0 ↔ i < n) ∧ (decide (r ∈ l) = true ↔ ∃ h : n < l.length, cmpR l[n] r = 0) := by
  induction l with
  | nil => exact ⟨0, by simp, by simp, by simp⟩
  | cons x l ih =>
    obtain ⟨hx, hl⟩ := List.pairwise_cons.1 hs
    obtain ⟨n, h1, h2, h3⟩ := ih hl
    by_cases hc : cmpR x r < 0
    · refine ⟨n + 1, by simpa using h1, fun i h => ?_, ?_⟩
      · cases i with
        | zero => simp [hc]
        | succ i => simpa using h2 i (by simpa using h)
      · have hne : r ≠ x := by rintro rfl; simp at hc
        simp only [decide_eq_true_eq] at h3 ⊢
        rw [List.mem_cons, or_iff_right hne, h3]
        simp
    · refine ⟨0, by simp, fun i h => ?_, ?_⟩
      · constructor
        · intro hi
          cases i with
          | zero => exact absurd hi hc
          | succ i =>
            exfalso
            simp only [List.getElem_cons_succ] at hi
            have h4 := hx _ (List.getElem_mem (by simpa using h : i < l.length))
            exact hc (cmpR_lt_trans h4 hi)
        · omega
      · simp only [decide_eq_true_eq, List.mem_cons]
        constructor
        · rintro (rfl | hr)
          · exact ⟨by simp, by simp⟩
          · have := hx r hr
            exact absurd this hc
        · rintro ⟨_, h⟩
          exact .inl (cmpR_zero.1 h).symm
theorem s51' (l : List R) (r : R) (hl : l.length ≤ 1000000000) (hs : SS l) : ∃ n : Nat, PSpec Try.prog 51 [.sl 8 (l.map encR), encR r, .fn (.func 13) [] []] (.tup [iA n, bA (decide (r ∈ l))]) := by
  obtain ⟨n, h1, h2, h3⟩ := low_of l hs r
  exact ⟨n, s51 l r n _ hl h1 h2 h3⟩
end Go.Proofs.Ytmjckbokjjnmeaa
end
section
namespace Go.Proofs.Ytmjckbokjjnmeaa
open Go.Am

theorem difR_take {other l : List R} {i : Nat} (h : i < l.length) : difR other (l.take (i + 1)) = difR other (l.take i) ++ (if l[i] ∈ other then [] else [l[i].o]) := by
  unfold difR
  rw [List.take_succ_eq_append_getElem h, List.filter_append, List.map_append]
  congr 1
  by_cases hm : l[i] ∈ other <;> simp [hm]
theorem difR_len (other l : List R) : (difR other l).length ≤ l.length := by
  unfold difR
  rw [List.length_map]
  exact List.length_filter_le _ _
theorem m50 (a b : List R) (xs : List Int) (hs : SS b) (ha : a.length ≤ 100000000) (hb : b.length ≤ 100000000) (hx : xs.length ≤ 100000000) :
    MSpec Try.prog 50 [.sl 8 (a.map encR), .sl 8 (b.map encR), .loc 1000000 0] [(1000000, .box 33 (.own 1000001 1 0 xs.length)), (1000001, .arr 3 1 (xs.map iA))]
      (fun res bf => res = .tup [] ∧ bf 1000000 = some (.box 33 (.own 60 1 0 (xs ++ difR b a).length)) ∧ bf 60 = some (.arr 3 1 ((xs ++ difR b a).map iA))) := by
  refine MSpec_of Try.func50 rfl rfl (Nat.le_of_ble_eq_true rfl) (Nat.le_of_ble_eq_true rfl) ?_
  intro E hE
  repeat' (first
    | with_reducible refine useK (by assumption) ?_
    | with_reducible refine useK2 (by assumption) ?_
    | with_reducible refine useX (by assumption) ?_
    | with_reducible refine AW_seqk fun K hK => ?_
    | (with_reducible refine AW_regionS rfl (by rw [hE]; decide) ?_; simp [*])
    | with_reducible refine AW_region (by rw [hE]; decide) ?_
    | ((with_reducible show RK _ _ _ _ _ _); refine RK_nilk ?_; simp [*])
    | ((with_reducible show RK _ _ _ _ _ _); refine RK_stepk fun K' hK' => ?_; simp [*])
    | with_reducible refine AW_drawq mixed (by rw [hE]; decide) (by simp [newOK]) ?_
    | ((with_reducible show RKQ _ _ _ _ _ _); refine RKQ_nilk ⟨by decide, ?_⟩)
    | ((with_reducible show RKQ _ _ _ _ _ _); refine RKQ_stepk fun K' hK' => ?_; simp [*])
    | (with_reducible refine AW_if fun X Y hX hY => ?_; simp [*])
    | with_reducible refine AW_block ?_
    | (with_reducible refine AW_ret ?_; simp [*])
    | (with_reducible refine AW_skip ?_; simp [*])
    | (with_reducible refine AW_exit ?_; simp [*])
    | with_reducible refine And.intro ?_ ?_
    | omega
    | (refine imp1 fun h => ?_))
  obtain ⟨F, hF⟩ : ∃ F : Nat → List Int, ∀ i, F i = xs ++ difR b (a.take i) := ⟨_, fun _ => rfl⟩
  have hF0 : F 0 = xs := by rw [hF]; simp [difR]
  have hFe : F a.length = xs ++ difR b a := by rw [hF, List.take_length]
  have hFl : ∀ i, (F i).length ≤ 1000000000 := by intro i; rw [hF, List.length_append]; have := difR_len b (a.take i); simp at this; omega
  have hFs : ∀ i (h : i < a.length), F (i + 1) = F i ++ (if a[i] ∈ b then [] else [a[i].o]) := by intro i h; rw [hF, hF, difR_take h, List.append_assoc]
  clear hF
  rw [← hFe]
  replace hFe := Hld.mk hFe
  replace hFs := Hld.mk hFs
  refine AW_ren 1000001 60 (t := ⟨[(11, .v (.int .i64 0)), (10, .v (.int .i64 a.length)), (9, .sl 8 (a.map encR)), (1, .sl 8 (b.map encR)), (2, .loc 1000000 0)], [(1000000, .box 33 (.own 60 1 0 xs.length)), (60, .arr 3 1 (xs.map iA))]⟩) rfl (by simp) (by omega) (by simp [sw]) (by simp [sw]) ?_
  refine AW_loopk (G := Nat) (fun i => ⟨[(11, iA i), (10, iA a.length), (9, .sl 8 (a.map encR)), (1, .sl 8 (b.map encR)), (2, .loc 1000000 0)], [(1000000, .box 33 (.own 60 1 0 (F i).length)), (60, .arr 3 1 ((F i).map iA))]⟩)
    (fun i => i ≤ a.length) (fun i => a.length - i) 0 (by simp) (by simp [hF0]) ?_
  intro i hi K hK
  have hl := hFl i
  by_cases hlt : i < a.length
  · have hs2 := hFs.out i hlt
    replace hs2 := Hld.mk hs2
    obtain ⟨n, hn⟩ := s51' b a[i] (by omega) hs
    clear hFs hFl
    repeat' (first
      | with_reducible refine useK (by assumption) ?_
      | with_reducible refine useK2 (by assumption) ?_
      | with_reducible refine useX (by assumption) ?_
      | with_reducible refine AW_seqk fun K hK => ?_
      | (with_reducible refine AW_regionS rfl (by rw [hE]; decide) ?_; simp [*])
      | with_reducible refine AW_region (by rw [hE]; decide) ?_
      | ((with_reducible show RK _ _ _ _ _ _); refine RK_nilk ?_; simp [*])
      | ((with_reducible show RK _ _ _ _ _ _); refine RK_stepk fun K' hK' => ?_; simp [*])
      | with_reducible refine AW_drawq mixed (by rw [hE]; decide) (by simp [newOK]) ?_
      | ((with_reducible show RKQ _ _ _ _ _ _); refine RKQ_nilk ⟨by decide, ?_⟩)
      | ((with_reducible show RKQ _ _ _ _ _ _); refine RKQ_stepk fun K' hK' => ?_; simp [*])
      | (with_reducible refine AW_if fun X Y hX hY => ?_; simp [*])
      | with_reducible refine AW_block ?_
      | (with_reducible refine AW_ret ?_; simp [*])
      | (with_reducible refine AW_skip ?_; simp [*])
      | (with_reducible refine AW_exit ?_; simp [*])
      | (refine acall_same (hn) ?_ ?_ ?_; (focus (simp [*] <;> fail)); (focus (simp [*] <;> fail)); simp [*])
      | (refine call_same (hn) ?_ ?_ ?_; (focus (simp [*] <;> fail)); (focus (simp [*] <;> fail)); simp [*])
      | (refine acall_view (hn) ?_ ?_ ?_; (focus (simp [*] <;> fail)); (focus (simp [*] <;> fail)); simp [*])
      | (refine call_view (hn) ?_ ?_ ?_; (focus (simp [*] <;> fail)); (focus (simp [*] <;> fail)); simp [*])
      | with_reducible refine And.intro ?_ ?_
      | omega
      | (refine imp1 fun h => ?_))
    all_goals exact ⟨i + 1, by omega, by omega, by simp [hs2.out, *]⟩
  · obtain rfl : i = a.length := by omega
    clear hFs hFl
    repeat' (first
      | with_reducible refine useK (by assumption) ?_
      | with_reducible refine useK2 (by assumption) ?_
      | with_reducible refine useX (by assumption) ?_
      | with_reducible refine AW_seqk fun K hK => ?_
      | (with_reducible refine AW_regionS rfl (by rw [hE]; decide) ?_; simp [*])
      | with_reducible refine AW_region (by rw [hE]; decide) ?_
      | ((with_reducible show RK _ _ _ _ _ _); refine RK_nilk ?_; simp [*])
      | ((with_reducible show RK _ _ _ _ _ _); refine RK_stepk fun K' hK' => ?_; simp [*])
      | with_reducible refine AW_drawq mixed (by rw [hE]; decide) (by simp [newOK]) ?_
      | ((with_reducible show RKQ _ _ _ _ _ _); refine RKQ_nilk ⟨by decide, ?_⟩)
      | ((with_reducible show RKQ _ _ _ _ _ _); refine RKQ_stepk fun K' hK' => ?_; simp [*])
      | (with_reducible refine AW_if fun X Y hX hY => ?_; simp [*])
      | with_reducible refine AW_block ?_
      | (with_reducible refine AW_ret ?_; simp [*])
      | (with_reducible refine AW_skip ?_; simp [*])
      | (with_reducible refine AW_exit ?_; simp [*])
      | with_reducible refine And.intro ?_ ?_
      | omega
      | (refine imp1 fun h => ?_))
end Go.Proofs.Ytmjckbokjjnmeaa
end
section
namespace Go.Proofs.Ytmjckbokjjnmeaa
open Go.Am

theorem w52 (l : List Int) (n : Nat) (hn : l.length = n) (hl : n ≤ 1000000000) : MSpec Try.prog 52 [.own 1000000 1 0 n] [(1000000, .arr 3 1 (l.map iA))] (fun res bf => res = .tup [] ∧ bf 1000000 = some (.arr 3 1 ((sortZ l).map iA))) := by
  subst hn
  exact sortInts_m Try.sortInts (f := 52) rfl (ent_of Try.func52 (by kernel_rfl) rfl) 3 l (by omega)
theorem sortZ_len (l : List Int) : (sortZ l).length = l.length := List.length_mergeSort l
theorem cntR_SS (l : List R) : SS (cntR l) := setR_SS _
def allD (a b : List R) : List Int := difR (cntR b) (cntR a) ++ difR (cntR a) (cntR b)
def chgR (a b : List R) : List Int := ddI (sortZ (allD a b))
theorem r35 (a b : List R) (ha : a.length ≤ 10000000) (hb : b.length ≤ 10000000) : RSpec Try.prog 35 [.sl 8 (a.map encR), .sl 8 (b.map encR)] 3 1 ((chgR a b).map iA) := by
  have hca := cntR_len a
  have hcb := cntR_len b
  have h1 := difR_len (cntR b) (cntR a)
  have h2 := difR_len (cntR a) (cntR b)
  refine MSpec_of Try.func35 rfl rfl (Nat.le_of_ble_eq_true rfl) (Nat.le_of_ble_eq_true rfl) ?_
  intro E hE
  refine AW_seqk fun K hK => ?_
  refine AW_region (by rw [hE]; decide) ?_
  simp
  refine useK (by assumption) ?_
  refine AW_seqk fun K hK => ?_
  refine AW_region (by rw [hE]; decide) ?_
  simp
  refine acall_row (r18' a (by omega)) (by simp) (.inl (by simp)) (by simp) ?_
  simp
  refine acall_row (r18' b (by omega)) (by simp) (.inl (by simp)) (by simp) ?_
  simp
  refine useK (by assumption) ?_
  refine AW_freeze 10 (t := ⟨[(5, .sl 8 ((cntR a).map encR)), (6, .own 12 8 0 (cntR b).length), (4, .v (.slice none 0 0))], [(12, .arr 23 8 ((cntR b).map encR))]⟩) rfl (by simp) (by simp) ?_
  refine AW_freeze 12 (t := ⟨[(5, .sl 8 ((cntR a).map encR)), (6, .sl 8 ((cntR b).map encR)), (4, .v (.slice none 0 0))], []⟩) rfl (by simp) (by simp) ?_
  refine AW_seqk fun K hK => ?_
  refine AW_region (by rw [hE]; decide) ?_
  simp
  refine useK (by assumption) ?_
  refine AW_mkrowB 7 61 3 1 33 rfl (by simp) (by simp) (by omega) ?_
  refine AW_seqk fun K hK => ?_
  refine AW_region (by rw [hE]; decide) ?_
  simp
  refine useK (by assumption) ?_
  refine AW_seqk fun K hK => ?_
  refine AW_region (by rw [hE]; decide) ?_
  simp
  refine acall_boxes (m50 (cntR a) (cntR b) [] (cntR_SS b) (by omega) (by omega) (by simp)) (nm [(1000000, 7), (1000001, 61)]) (nm [(1000000, 7), (60, 62)])
    [(1000000, .box 33 (.own 60 1 0 ([] ++ difR (cntR b) (cntR a)).length)), (60, .arr 3 1 (([] ++ difR (cntR b) (cntR a)).map iA))] (.tup []) (by simp) (by simp) (by simp) (by simp) (by simp) (by simp) (by simp) (by simp) ?_
  simp
  refine useK (by assumption) ?_
  refine AW_seqk fun K hK => ?_
  refine AW_region (by rw [hE]; decide) ?_
  simp
  refine acall_boxes (m50 (cntR b) (cntR a) (difR (cntR b) (cntR a)) (cntR_SS a) (by omega) (by omega) (by omega)) (nm [(1000000, 7), (1000001, 62)]) (nm [(1000000, 7), (60, 63)])
    [(1000000, .box 33 (.own 60 1 0 (allD a b).length)), (60, .arr 3 1 ((allD a b).map iA))] (.tup []) (by simp [allD]) (by simp) (by simp) (by simp) (by simp) (by simp) (by simp) (by simp) ?_
  simp
  refine useK (by assumption) ?_
  have h3 : (allD a b).length ≤ 1000000000 := by unfold allD; rw [List.length_append]; omega
  have h4 : (sortZ (allD a b)).length ≤ 1000000000 := by rw [sortZ_len]; exact h3
  have h5 : (allD a b).length = (sortZ (allD a b)).length := (sortZ_len _).symm
  refine AW_seqk fun K hK => ?_
  refine AW_region (by rw [hE]; decide) ?_
  simp
  refine acall_mrow (w52 (allD a b) _ rfl h3) (by simp) (by simp) (by simp) (by simp) (by simp) ?_
  simp
  refine useK (by assumption) ?_
  refine AW_seqk fun K hK => ?_
  refine AW_region (by rw [hE]; decide) ?_
  simp
  refine acall_mrow (w47 (sortZ (allD a b)) _ h5.symm h3) (by simp) (by simp) (by simp) (by simp) (by simp) ?_
  simp
  refine useK (by assumption) ?_
  repeat' (first
    | with_reducible refine useK (by assumption) ?_
    | with_reducible refine useK2 (by assumption) ?_
    | with_reducible refine useX (by assumption) ?_
    | with_reducible refine AW_seqk fun K hK => ?_
    | (with_reducible refine AW_regionS rfl (by rw [hE]; decide) ?_; simp [*])
    | with_reducible refine AW_region (by rw [hE]; decide) ?_
    | ((with_reducible show RK _ _ _ _ _ _); refine RK_nilk ?_; simp [*])
    | ((with_reducible show RK _ _ _ _ _ _); refine RK_stepk fun K' hK' => ?_; simp [*])
    | with_reducible refine AW_drawq mixed (by rw [hE]; decide) (by simp [newOK]) ?_
    | ((with_reducible show RKQ _ _ _ _ _ _); refine RKQ_nilk ⟨by decide, ?_⟩)
    | ((with_reducible show RKQ _ _ _ _ _ _); refine RKQ_stepk fun K' hK' => ?_; simp [*])
    | (with_reducible refine AW_if fun X Y hX hY => ?_; simp [*])
    | with_reducible refine AW_block ?_
    | (with_reducible refine AW_ret ?_; simp [*])
    | (with_reducible refine AW_skip ?_; simp [*])
    | (with_reducible refine AW_exit ?_; simp [*])
    | with_reducible refine And.intro ?_ ?_
    | omega
    | (refine imp1 fun h => ?_))
  exact ⟨63, ⟨rfl, rfl⟩, _, rfl, take_len iA _⟩
end Go.Proofs.Ytmjckbokjjnmeaa
end
section
namespace Go.Proofs.Ytmjckbokjjnmeaa
open Go.Am

def sid (a b : R) : Prop := a.o = b.o ∧ a.s = b.s
instance (a b : R) : Decidable (sid a b) := inferInstanceAs (Decidable (_ ∧ _))
def winB (l : List R) (r : R) : Bool := l.all fun x => !decide (sid x r ∧ 0 < cmpR x r)
theorem winB_iff {l : List R} {r : R} : winB l r = true ↔ ∀ x ∈ l, sid x r → cmpR x r ≤ 0 := by
  simp only [winB, List.all_eq_true, Bool.not_eq_true', decide_eq_false_iff_not]
  constructor
  · intro h x hx hs
    have := h x hx
    by_cases hc : 0 < cmpR x r
    · exact absurd ⟨hs, hc⟩ this
    · omega
  · rintro h x hx ⟨hs, hc⟩
    have := h x hx hs
    omega
theorem winB_congr {a b : List R} (h : ∀ x, x ∈ a ↔ x ∈ b) (r : R) : winB a r = winB b r := by
  rw [Bool.eq_iff_iff, winB_iff, winB_iff]
  exact ⟨fun g x hx => g x ((h x).2 hx), fun g x hx => g x ((h x).1 hx)⟩

structure WInv (m p : List R) : Prop where
  a : ∀ w ∈ m, w ∈ p ∧ ∀ y ∈ p, sid y w → cmpR y w ≤ 0
  b : ∀ y ∈ p, ∃ w ∈ m, sid w y
  c : m.Pairwise fun x y => ¬ sid x y
theorem findM_none {a b : Int} : ∀ {m : List R}, findM a b m = none → ∀ w ∈ m, ¬ (a = w.o ∧ b = w.s)
  | [], _ => by simp
  | x :: m, h => by
    simp only [findM] at h
    split at h
    · cases h
    · rename_i hx
      intro w hw
      rcases List.mem_cons.1 hw with rfl | hw
      · exact hx
      · exact findM_none h w hw
theorem findM_some {a b : Int} {w : R} : ∀ {m : List R}, findM a b m = some w → w ∈ m ∧ a = w.o ∧ b = w.s
  | [], h => by simp [findM] at h
  | x :: m, h => by
    simp only [findM] at h
    split at h
    · rename_i hx; cases h; exact ⟨List.mem_cons_self, hx⟩
    · exact ⟨List.mem_cons_of_mem _ (findM_some h).1, (findM_some h).2⟩
theorem mem_updM {r x : R} : ∀ {m : List R}, m.Pairwise (fun x y => ¬ sid x y) → (x ∈ updM r m ↔ x = r ∨ (x ∈ m ∧ ¬ sid r x))
  | [], _ => by simp [updM]
  | w :: m, h => by
    obtain ⟨h1, h2⟩ := List.pairwise_cons.1 h
    simp only [updM]
    by_cases hw : r.o = w.o ∧ r.s = w.s
    · rw [if_pos hw]
      simp only [List.mem_cons]
      constructor
      · rintro (rfl | hx)
        · exact .inl rfl
        · exact .inr ⟨.inr hx, fun hs => h1 x hx ⟨hw.1.symm.trans hs.1, hw.2.symm.trans hs.2⟩⟩
      · rintro (rfl | ⟨rfl | hx, hs⟩)
        · exact .inl rfl
        · exact absurd hw hs
        · exact .inr hx
    · rw [if_neg hw]
      simp only [List.mem_cons, mem_updM h2]
      constructor
      · rintro (rfl | rfl | ⟨hx, hs⟩)
        · exact .inr ⟨.inl rfl, hw⟩
        · exact .inl rfl
        · exact .inr ⟨.inr hx, hs⟩
      · rintro (rfl | ⟨rfl | hx, hs⟩)
        · exact .inr (.inl rfl)
        · exact .inl rfl
        · exact .inr (.inr ⟨hx, hs⟩)
theorem updM_pw {r : R} : ∀ {m : List R}, m.Pairwise (fun x y => ¬ sid x y) → (updM r m).Pairwise fun x y => ¬ sid x y
  | [], _ => by simp [updM]
  | w :: m, h => by
    obtain ⟨h1, h2⟩ := List.pairwise_cons.1 h
    simp only [updM]
    by_cases hw : r.o = w.o ∧ r.s = w.s
    · rw [if_pos hw]
      exact List.pairwise_cons.2 ⟨fun x hx hs => h1 x hx ⟨hw.1.symm.trans hs.1, hw.2.symm.trans hs.2⟩, h2⟩
    · rw [if_neg hw]
      refine List.pairwise_cons.2 ⟨fun x hx hs => ?_, updM_pw h2⟩
      rcases (mem_updM h2).1 hx with rfl | ⟨hx, _⟩
      · exact hw ⟨hs.1.symm, hs.2.symm⟩
      · exact h1 x hx hs
theorem sid_symm {a b : R} (h : sid a b) : sid b a := ⟨h.1.symm, h.2.symm⟩
theorem sid_trans {a b c : R} (h : sid a b) (k : sid b c) : sid a c := ⟨h.1.trans k.1, h.2.trans k.2⟩
theorem WInv.step {m p : List R} (h : WInv m p) (r : R) : WInv (stepW m r) (p ++ [r]) := by
  have put : (∀ w ∈ m, sid r w → cmpR w r ≤ 0) → WInv (updM r m) (p ++ [r]) := by
    intro hr
    refine ⟨fun w hw => ?_, fun y hy => ?_, updM_pw h.c⟩
    · rcases (mem_updM h.c).1 hw with rfl | ⟨hw, hs⟩
      · refine ⟨by simp, fun y hy hyr => ?_⟩
        rcases List.mem_append.1 hy with hy | hy
        · obtain ⟨v, hv, hvy⟩ := h.b y hy
          have h1 := (h.a v hv).2 y hy (sid_symm hvy)
          have h2 := hr v hv (sid_symm (sid_trans hvy hyr))
          exact cmpR_trans h1 h2
        · simp at hy; subst hy; simp
      · refine ⟨by simp [(h.a w hw).1], fun y hy hyw => ?_⟩
        rcases List.mem_append.1 hy with hy | hy
        · exact (h.a w hw).2 y hy hyw
        · simp at hy; subst hy; exact absurd hyw hs
    · rcases List.mem_append.1 hy with hy | hy
      · obtain ⟨v, hv, hvy⟩ := h.b y hy
        by_cases hs : sid r v
        · exact ⟨r, (mem_updM h.c).2 (.inl rfl), sid_trans hs hvy⟩
        · exact ⟨v, (mem_updM h.c).2 (.inr ⟨hv, hs⟩), hvy⟩
      · simp at hy; subst hy
        exact ⟨y, (mem_updM h.c).2 (.inl rfl), rfl, rfl⟩
  unfold stepW
  split
  · rename_i hf
    exact put (fun w hw hs => absurd hs (findM_none hf w hw))
  · rename_i v hf
    obtain ⟨hv, hvo⟩ := findM_some hf
    split
    · rename_i hc
      refine put (fun w hw hs => ?_)
      have : cmpR w v ≤ 0 := (h.a v hv).2 w (h.a w hw).1 (sid_trans (sid_symm hs) hvo)
      have h2 := cmpR_swap r v
      exact cmpR_trans this (by omega)
    · rename_i hc
      refine ⟨fun w hw => ⟨by simp [(h.a w hw).1], fun y hy hyw => ?_⟩, fun y hy => ?_, h.c⟩
      · rcases List.mem_append.1 hy with hy | hy
        · exact (h.a w hw).2 y hy hyw
        · simp at hy; subst hy
          have h1 := (h.a w hw).2 v (h.a v hv).1 (sid_trans (sid_symm hvo) hyw)
          exact cmpR_trans (by omega) h1
      · rcases List.mem_append.1 hy with hy | hy
        · exact h.b y hy
        · simp at hy; subst hy; exact ⟨v, hv, sid_symm hvo⟩
theorem winM_inv (l : List R) : WInv (winM l) l := by
  have key : ∀ (l m p : List R), WInv m p → WInv (l.foldl stepW m) (p ++ l) := by
    intro l
    induction l with
    | nil => intro m p h; simpa using h
    | cons r l ih =>
      intro m p h
      have := ih _ _ (h.step r)
      simpa using this
  have := key l [] [] ⟨by simp, by simp, List.Pairwise.nil⟩
  simpa [winM] using this
theorem mem_winM {l : List R} {x : R} : x ∈ winM l ↔ x ∈ l ∧ winB l x = true := by
  have h := winM_inv l
  rw [winB_iff]
  constructor
  · intro hx; exact h.a x hx
  · rintro ⟨hx, hm⟩
    obtain ⟨w, hw, hs⟩ := h.b x hx
    have h1 := (h.a w hw).2 x hx (sid_symm hs)
    have h2 := hm w (h.a w hw).1 hs
    have h3 := cmpR_swap x w
    have : x = w := cmpR_zero.1 (by omega)
    rw [this]; exact hw
theorem mem_cntR {l : List R} {x : R} : x ∈ cntR l ↔ x ∈ l ∧ winB l x = true ∧ x.c = false := by
  unfold cntR
  simp only [mem_setR, List.mem_filter, mem_winM, Bool.not_eq_true', and_assoc]
theorem cntR_eq (l : List R) : cntR l = (setR l).filter fun r => winB (setR l) r && !r.c := by
  refine (cntR_SS l).ext ((setR_SS l).filter _) (fun x => ?_)
  rw [mem_cntR]
  simp only [List.mem_filter, mem_setR, Bool.and_eq_true, Bool.not_eq_true', winB_congr (fun x => mem_setR (l := l) (x := x)) x]
theorem cntR_congr {a b : List R} (h : ∀ x, x ∈ a ↔ x ∈ b) : cntR a = cntR b := by
  refine (cntR_SS a).ext (cntR_SS b) (fun x => ?_)
  rw [mem_cntR, mem_cntR, h x, winB_congr h x]

/-! ### the law's set: the least one beyond the last one -/
def okL (last : Option R) (x : R) : Bool := match last with
  | none => true
  | some y => decide (0 < cmpR x y)
def betR (acc : Option R) (x : R) : Bool := match acc with
  | none => true
  | some v => decide (cmpR x v < 0)
def minS (last acc : Option R) (x : R) : Option R := if okL last x && betR acc x then some x else acc
theorem minS_fold (last : Option R) (l : List R) : (l.foldl (minS last) none = none ∧ ∀ x ∈ l, okL last x = false) ∨ ∃ v ∈ l, l.foldl (minS last) none = some v ∧ okL last v = true ∧ ∀ x ∈ l, okL last x = true → cmpR v x ≤ 0 := by
  have key : ∀ n, ∀ l : List R, l.length = n → (l.foldl (minS last) none = none ∧ ∀ x ∈ l, okL last x = false) ∨ ∃ v ∈ l, l.foldl (minS last) none = some v ∧ okL last v = true ∧ ∀ x ∈ l, okL last x = true → cmpR v x ≤ 0 := by
    intro n
    induction n with
    | zero => intro l h; rw [List.eq_nil_of_length_eq_zero h]; exact .inl (by simp)
    | succ n ih =>
      intro l h
      have hne : l ≠ [] := by rintro rfl; simp at h
      obtain ⟨p, x, rfl⟩ : ∃ p x, l = p ++ [x] := ⟨l.dropLast, l.getLast hne, (List.dropLast_concat_getLast hne).symm⟩
      rw [List.foldl_append]
      simp only [List.foldl_cons, List.foldl_nil]
      rcases ih p (by simpa using h) with ⟨h1, h2⟩ | ⟨v, hv, h1, h2, h3⟩
      · rw [h1]
        cases hx : okL last x with
        | false =>
          refine .inl ⟨by simp [minS, hx], fun y hy => ?_⟩
          rcases List.mem_append.1 hy with hy | hy
          · exact h2 y hy
          · simp at hy; rw [hy]; exact hx
        | true =>
          refine .inr ⟨x, by simp, by simp [minS, hx, betR], hx, fun y hy hoy => ?_⟩
          rcases List.mem_append.1 hy with hy | hy
          · rw [h2 y hy] at hoy; cases hoy
          · simp at hy; rw [hy]; simp
      · rw [h1]
        by_cases hc : okL last x = true ∧ cmpR x v < 0
        · refine .inr ⟨x, by simp, by simp [minS, hc.1, betR, hc.2], hc.1, fun y hy hoy => ?_⟩
          rcases List.mem_append.1 hy with hy | hy
          · exact cmpR_trans (by omega) (h3 y hy hoy)
          · simp at hy; rw [hy]; simp
        · refine .inr ⟨v, by simp [hv], ?_, h2, fun y hy hoy => ?_⟩
          · simp only [minS, betR, Bool.and_eq_true, decide_eq_true_eq, if_neg hc]
          · rcases List.mem_append.1 hy with hy | hy
            · exact h3 y hy hoy
            · simp at hy; subst hy
              have := cmpR_swap y v
              by_cases h4 : cmpR y v < 0
              · exact absurd ⟨hoy, h4⟩ hc
              · omega
  exact key _ l rfl
/-- The last one of the first m. -/
theorem SS_get {l : List R} (h : SS l) {i j : Nat} (hi : i < l.length) (hj : j < l.length) (hij : i < j) : cmpR l[i] l[j] < 0 := List.pairwise_iff_getElem.1 h i j hi hj hij
theorem next_set (l : List R) (m : Nat) (hm : m ≤ (setR l).length) :
    (m = (setR l).length ∧ l.foldl (minS ((setR l).take m).getLast?) none = none) ∨ ∃ h : m < (setR l).length, l.foldl (minS ((setR l).take m).getLast?) none = some (setR l)[m] := by
  have hS := setR_SS l
  -- what is beyond the last one
  have hok : ∀ (j : Nat) (hj : j < (setR l).length), okL ((setR l).take m).getLast? (setR l)[j] = decide (m ≤ j) := by
    intro j hj
    cases m with
    | zero => simp [okL]
    | succ k =>
      have hk : k < (setR l).length := by omega
      rw [List.take_succ_eq_append_getElem hk]
      simp only [List.getLast?_append, List.getLast?_singleton, Option.some_or, okL]
      rw [Bool.eq_iff_iff, decide_eq_true_eq, decide_eq_true_eq]
      have sw := cmpR_swap (setR l)[k] (setR l)[j]
      by_cases hkj : k < j
      · have := SS_get hS hk hj hkj
        omega
      · by_cases he : k = j
        · subst he; simp
        · have := SS_get hS hj hk (by omega)
          have s2 := cmpR_swap (setR l)[j] (setR l)[k]
          omega
  have mem_of : ∀ x ∈ l, ∃ j, ∃ hj : j < (setR l).length, (setR l)[j] = x := fun x hx => List.getElem_of_mem (mem_setR.2 hx)
  rcases minS_fold ((setR l).take m).getLast? l with ⟨h1, h2⟩ | ⟨v, hv, h1, h2, h3⟩
  · refine .inl ⟨?_, h1⟩
    by_cases hlt : m < (setR l).length
    · have := h2 (setR l)[m] (mem_setR.1 (List.getElem_mem hlt))
      rw [hok m hlt] at this
      simp at this
    · omega
  · obtain ⟨j, hj, rfl⟩ := mem_of v hv
    rw [hok j hj, decide_eq_true_eq] at h2
    refine .inr ⟨by omega, ?_⟩
    rw [h1]
    have hmS : m < (setR l).length := by omega
    have h4 := h3 (setR l)[m] (mem_setR.1 (List.getElem_mem hmS)) (by rw [hok m hmS]; simp)
    by_cases he : m = j
    · subst he; rfl
    · have := SS_get hS hmS hj (by omega)
      have := cmpR_swap (setR l)[m] (setR l)[j]
      omega
end Go.Proofs.Ytmjckbokjjnmeaa
end
section
namespace Go.Proofs.Ytmjckbokjjnmeaa
open Go.Am

theorem winB_drop {l : List R} {r : R} {i : Nat} (h : i < l.length) : winB (l.drop i) r = (!decide (sid l[i] r ∧ 0 < cmpR l[i] r) && winB (l.drop (i + 1)) r) := by
  rw [List.drop_eq_getElem_cons h]; rfl

set_option maxHeartbeats 2000000 in
theorem s21 (l : List R) (r : R) (hl : l.length ≤ 1000000000) : PSpec Try.prog 21 [.sl 8 (l.map encR), encR r] (bA (winB l r)) := by
  refine PSpec_of Try.func21 rfl rfl (Nat.le_of_ble_eq_true rfl) (Nat.le_of_ble_eq_true rfl) ?_
  intro E hE
  repeat' (first
    | with_reducible refine useK (by assumption) ?_
    | with_reducible refine useK2 (by assumption) ?_
    | with_reducible refine useX (by assumption) ?_
    | with_reducible refine AW_seqk fun K hK => ?_
    | (with_reducible refine AW_regionS rfl (by rw [hE]; decide) ?_; simp [*])
    | with_reducible refine AW_region (by rw [hE]; decide) ?_
    | ((with_reducible show RK _ _ _ _ _ _); refine RK_nilk ?_; simp [*])
    | ((with_reducible show RK _ _ _ _ _ _); refine RK_stepk fun K' hK' => ?_; simp [*])
    | with_reducible refine AW_drawq mixed (by rw [hE]; decide) (by simp [newOK]) ?_
    | ((with_reducible show RKQ _ _ _ _ _ _); refine RKQ_nilk ⟨by decide, ?_⟩)
    | ((with_reducible show RKQ _ _ _ _ _ _); refine RKQ_stepk fun K' hK' => ?_; simp [*])
    | (with_reducible refine AW_if fun X Y hX hY => ?_; simp [*])
    | with_reducible refine AW_block ?_
    | (with_reducible refine AW_ret ?_; simp [*])
    | (with_reducible refine AW_skip ?_; simp [*])
    | (with_reducible refine AW_exit ?_; simp [*])
    | with_reducible refine And.intro ?_ ?_
    | omega
    | (refine imp1 fun h => ?_))
  refine AW_loopk (G := Nat) (fun i => ⟨[(5, iA i), (0, .sl 8 (l.map encR)), (3, .loc 3 0)], [(3, .box 23 (encR r))]⟩)
    (fun i => i ≤ l.length ∧ winB (l.drop i) r = winB l r) (fun i => l.length - i) 0 (by simp) (by simp) ?_
  rintro i ⟨hi, heq⟩ K hK
  by_cases hlt : i < l.length
  · have hd := winB_drop (r := r) hlt
    rw [heq] at hd
    replace hd := Hld.mk hd
    replace heq := Hld.mk heq
    repeat' (first
      | with_reducible refine useK (by assumption) ?_
      | with_reducible refine useK2 (by assumption) ?_
      | with_reducible refine useX (by assumption) ?_
      | with_reducible refine AW_seqk fun K hK => ?_
      | (with_reducible refine AW_regionS rfl (by rw [hE]; decide) ?_; simp [*])
      | with_reducible refine AW_region (by rw [hE]; decide) ?_
      | ((with_reducible show RK _ _ _ _ _ _); refine RK_nilk ?_; simp [*])
      | ((with_reducible show RK _ _ _ _ _ _); refine RK_stepk fun K' hK' => ?_; simp [*])
      | with_reducible refine AW_drawq mixed (by rw [hE]; decide) (by simp [newOK]) ?_
      | ((with_reducible show RKQ _ _ _ _ _ _); refine RKQ_nilk ⟨by decide, ?_⟩)
      | ((with_reducible show RKQ _ _ _ _ _ _); refine RKQ_stepk fun K' hK' => ?_; simp [*])
      | (with_reducible refine AW_if fun X Y hX hY => ?_; simp [*])
      | with_reducible refine AW_block ?_
      | (with_reducible refine AW_ret ?_; simp [*])
      | (with_reducible refine AW_skip ?_; simp [*])
      | (with_reducible refine AW_exit ?_; simp [*])
      | (refine acall_same (s15 _ _) ?_ ?_ ?_; (focus (simp [*] <;> fail)); (focus (simp [*] <;> fail)); simp [*])
      | (refine call_same (s15 _ _) ?_ ?_ ?_; (focus (simp [*] <;> fail)); (focus (simp [*] <;> fail)); simp [*])
      | (refine acall_view (s15 _ _) ?_ ?_ ?_; (focus (simp [*] <;> fail)); (focus (simp [*] <;> fail)); simp [*])
      | (refine call_view (s15 _ _) ?_ ?_ ?_; (focus (simp [*] <;> fail)); (focus (simp [*] <;> fail)); simp [*])
      | with_reducible refine And.intro ?_ ?_
      | omega
      | (refine imp1 fun h => ?_))
    · rw [hd.out]; simp [sid, *]
    all_goals exact ⟨i + 1, ⟨by omega, by rw [hd.out]; simp [sid, *]⟩, by omega, by simp⟩
  · obtain rfl : i = l.length := by omega
    rw [List.drop_length] at heq
    replace heq := Hld.mk heq
    repeat' (first
      | with_reducible refine useK (by assumption) ?_
      | with_reducible refine useK2 (by assumption) ?_
      | with_reducible refine useX (by assumption) ?_
      | with_reducible refine AW_seqk fun K hK => ?_
      | (with_reducible refine AW_regionS rfl (by rw [hE]; decide) ?_; simp [*])
      | with_reducible refine AW_region (by rw [hE]; decide) ?_
      | ((with_reducible show RK _ _ _ _ _ _); refine RK_nilk ?_; simp [*])
      | ((with_reducible show RK _ _ _ _ _ _); refine RK_stepk fun K' hK' => ?_; simp [*])
      | with_reducible refine AW_drawq mixed (by rw [hE]; decide) (by simp [newOK]) ?_
      | ((with_reducible show RKQ _ _ _ _ _ _); refine RKQ_nilk ⟨by decide, ?_⟩)
      | ((with_reducible show RKQ _ _ _ _ _ _); refine RKQ_stepk fun K' hK' => ?_; simp [*])
      | (with_reducible refine AW_if fun X Y hX hY => ?_; simp [*])
      | with_reducible refine AW_block ?_
      | (with_reducible refine AW_ret ?_; simp [*])
      | (with_reducible refine AW_skip ?_; simp [*])
      | (with_reducible refine AW_exit ?_; simp [*])
      | with_reducible refine And.intro ?_ ?_
      | omega
      | (refine imp1 fun h => ?_))
    exact heq.out.symm
theorem r19 (a b : List R) (hl : a.length + b.length ≤ 1000000000) : RSpec Try.prog 19 [.sl 8 (a.map encR), .sl 8 (b.map encR)] 23 8 ((a ++ b).map encR) := by
  refine MSpec_of Try.func19 rfl rfl (Nat.le_of_ble_eq_true rfl) (Nat.le_of_ble_eq_true rfl) ?_
  intro E hE
  repeat' (first
    | with_reducible refine useK (by assumption) ?_
    | with_reducible refine useK2 (by assumption) ?_
    | with_reducible refine useX (by assumption) ?_
    | with_reducible refine AW_seqk fun K hK => ?_
    | (with_reducible refine AW_regionS rfl (by rw [hE]; decide) ?_; simp [*])
    | with_reducible refine AW_region (by rw [hE]; decide) ?_
    | ((with_reducible show RK _ _ _ _ _ _); refine RK_nilk ?_; simp [*])
    | ((with_reducible show RK _ _ _ _ _ _); refine RK_stepk fun K' hK' => ?_; simp [*])
    | with_reducible refine AW_drawq mixed (by rw [hE]; decide) (by simp [newOK]) ?_
    | ((with_reducible show RKQ _ _ _ _ _ _); refine RKQ_nilk ⟨by decide, ?_⟩)
    | ((with_reducible show RKQ _ _ _ _ _ _); refine RKQ_stepk fun K' hK' => ?_; simp [*])
    | (with_reducible refine AW_if fun X Y hX hY => ?_; simp [*])
    | with_reducible refine AW_block ?_
    | (with_reducible refine AW_ret ?_; simp [*])
    | (with_reducible refine AW_skip ?_; simp [*])
    | (with_reducible refine AW_exit ?_; simp [*])
    | with_reducible refine And.intro ?_ ?_
    | omega
    | (refine imp1 fun h => ?_))
  rw [← List.map_append, ← List.length_append]; exact take_len _ _
end Go.Proofs.Ytmjckbokjjnmeaa
end
section
namespace Go.Proofs.Ytmjckbokjjnmeaa
open Go.Am

theorem take_foldS {last : Option R} {l : List R} {i : Nat} (h : i < l.length) : (l.take (i + 1)).foldl (minS last) none = minS last ((l.take i).foldl (minS last) none) l[i] := by
  rw [List.take_succ_eq_append_getElem h, List.foldl_append]
  rfl
def accR (o : Option R) : R := o.getD zeroR
/-- What the last one is, in the program's words. -/
def LastIs (o : List R) (last : Option R) : Prop := (last = none ∧ o.length = 0) ∨ ∃ k, ∃ h : k < o.length, o.length = k + 1 ∧ last = some o[k]
theorem lastIs (o : List R) : LastIs o o.getLast? := by
  by_cases h : o = []
  · subst h; exact .inl ⟨rfl, rfl⟩
  · have h0 : 0 < o.length := List.length_pos_iff.2 h
    refine .inr ⟨o.length - 1, by omega, by omega, ?_⟩
    rw [List.getLast?_eq_some_getLast h, List.getLast_eq_getElem]

set_option maxHeartbeats 4000000 in
theorem r26 (l : List R) (hl : l.length ≤ 100000000) : RSpec Try.prog 26 [.sl 8 (l.map encR)] 23 8 ((setR l).map encR) := by
  have hsl := setR_len l
  refine MSpec_of Try.func26 rfl rfl (Nat.le_of_ble_eq_true rfl) (Nat.le_of_ble_eq_true rfl) ?_
  intro E hE
  repeat' (first
    | with_reducible refine useK (by assumption) ?_
    | with_reducible refine useK2 (by assumption) ?_
    | with_reducible refine useX (by assumption) ?_
    | with_reducible refine AW_seqk fun K hK => ?_
    | (with_reducible refine AW_regionS rfl (by rw [hE]; decide) ?_; simp [*])
    | with_reducible refine AW_region (by rw [hE]; decide) ?_
    | ((with_reducible show RK _ _ _ _ _ _); refine RK_nilk ?_; simp [*])
    | ((with_reducible show RK _ _ _ _ _ _); refine RK_stepk fun K' hK' => ?_; simp [*])
    | with_reducible refine AW_drawq mixed (by rw [hE]; decide) (by simp [newOK]) ?_
    | ((with_reducible show RKQ _ _ _ _ _ _); refine RKQ_nilk ⟨by decide, ?_⟩)
    | ((with_reducible show RKQ _ _ _ _ _ _); refine RKQ_stepk fun K' hK' => ?_; simp [*])
    | (with_reducible refine AW_if fun X Y hX hY => ?_; simp [*])
    | with_reducible refine AW_block ?_
    | (with_reducible refine AW_ret ?_; simp [*])
    | (with_reducible refine AW_skip ?_; simp [*])
    | (with_reducible refine AW_exit ?_; simp [*])
    | with_reducible refine And.intro ?_ ?_
    | omega
    | (refine imp1 fun h => ?_))
  refine AW_mkrow 3 60 23 8 (by simp) (by simp) (by simp) (by omega) ?_
  obtain ⟨O, hO⟩ : ∃ O : Nat → List R, ∀ m, O m = (setR l).take m := ⟨_, fun _ => rfl⟩
  have hOl : ∀ m, m ≤ (setR l).length → (O m).length = m := by intro m h; rw [hO]; simp; omega
  have hOs : ∀ m (h : m < (setR l).length), O (m + 1) = O m ++ [(setR l)[m]] := by intro m h; rw [hO, hO, List.take_succ_eq_append_getElem h]
  have hO0 : O 0 = [] := by rw [hO]; rfl
  have hOe : O (setR l).length = setR l := by rw [hO, List.take_length]
  have hnext := next_set l
  simp only [← hO] at hnext
  clear hO
  refine AW_loopk (G := Nat) (fun m => ⟨[(3, .own 60 8 0 (O m).length), (0, .sl 8 (l.map encR))], [(60, .arr 23 8 ((O m).map encR))]⟩)
    (fun m => m ≤ (setR l).length) (fun m => (setR l).length - m) 0 (by simp) (by simp [hO0]) ?_
  intro m hm K hK
  have hml := hOl m hm
  have hnx := hnext m hm
  obtain ⟨last, hlast⟩ : ∃ last, last = (O m).getLast? := ⟨_, rfl⟩
  rw [← hlast] at hnx
  have hli := lastIs (O m)
  rw [← hlast] at hli
  have hOsm := hOs m
  have hOb : (O m).length ≤ l.length := by omega
  clear hlast hnext hOl hOs
  replace hml := Hld.mk hml
  replace hnx := Hld.mk hnx
  replace hOsm := Hld.mk hOsm
  replace hOe := Hld.mk hOe
  replace hli := Hld.mk hli
  clear hO0
  repeat' (first
    | with_reducible refine useK (by assumption) ?_
    | with_reducible refine useK2 (by assumption) ?_
    | with_reducible refine useX (by assumption) ?_
    | with_reducible refine AW_seqk fun K hK => ?_
    | (with_reducible refine AW_regionS rfl (by rw [hE]; decide) ?_; simp [*])
    | with_reducible refine AW_region (by rw [hE]; decide) ?_
    | ((with_reducible show RK _ _ _ _ _ _); refine RK_nilk ?_; simp [*])
    | ((with_reducible show RK _ _ _ _ _ _); refine RK_stepk fun K' hK' => ?_; simp [*])
    | with_reducible refine AW_drawq mixed (by rw [hE]; decide) (by simp [newOK]) ?_
    | ((with_reducible show RKQ _ _ _ _ _ _); refine RKQ_nilk ⟨by decide, ?_⟩)
    | ((with_reducible show RKQ _ _ _ _ _ _); refine RKQ_stepk fun K' hK' => ?_; simp [*])
    | (with_reducible refine AW_if fun X Y hX hY => ?_; simp [*])
    | with_reducible refine AW_block ?_
    | (with_reducible refine AW_ret ?_; simp [*])
    | (with_reducible refine AW_skip ?_; simp [*])
    | (with_reducible refine AW_exit ?_; simp [*])
    | with_reducible refine And.intro ?_ ?_
    | omega
    | (refine imp1 fun h => ?_))
  obtain ⟨A, hA⟩ : ∃ A : Nat → Option R, ∀ i, A i = (l.take i).foldl (minS last) none := ⟨_, fun _ => rfl⟩
  have hA0 : A 0 = none := by rw [hA]; rfl
  have hAe : A l.length = l.foldl (minS last) none := by rw [hA, List.take_length]
  have hAs : ∀ i (h : i < l.length), A (i + 1) = minS last (A i) l[i] := by intro i h; rw [hA, hA, take_foldS h]
  clear hA
  replace hAe := Hld.mk hAe
  replace hAs := Hld.mk hAs
  refine AW_loopk (G := Nat) (fun i => ⟨[(6, iA i), (5, .loc 5 0), (4, bA (A i).isSome), (3, .own 60 8 0 (O m).length), (0, .sl 8 (l.map encR))], [(5, .box 23 (encR (accR (A i)))), (60, .arr 23 8 ((O m).map encR))]⟩)
    (fun i => i ≤ l.length) (fun i => l.length - i) 0 (by simp) (by simp [hA0]; exact encR_zero.symm) ?_
  intro i hi K hK
  by_cases hlt : i < l.length
  · have hs := hAs.out i hlt
    clear hAs
    replace hs := Hld.mk hs
    obtain ⟨ac, hac⟩ : ∃ ac, ac = A i := ⟨_, rfl⟩
    rw [← hac] at hs
    rw [← hac]
    clear hac
    rcases hli.out with ⟨rfl, ho⟩ | ⟨k, hk, ho, rfl⟩
    · clear hli
      rcases ac with _ | v
      · repeat' (first
          | with_reducible refine useK (by assumption) ?_
          | with_reducible refine useK2 (by assumption) ?_
          | with_reducible refine useX (by assumption) ?_
          | with_reducible refine AW_seqk fun K hK => ?_
          | (with_reducible refine AW_regionS rfl (by rw [hE]; decide) ?_; simp [*])
          | with_reducible refine AW_region (by rw [hE]; decide) ?_
          | ((with_reducible show RK _ _ _ _ _ _); refine RK_nilk ?_; simp [*])
          | ((with_reducible show RK _ _ _ _ _ _); refine RK_stepk fun K' hK' => ?_; simp [*])
          | with_reducible refine AW_drawq mixed (by rw [hE]; decide) (by simp [newOK]) ?_
          | ((with_reducible show RKQ _ _ _ _ _ _); refine RKQ_nilk ⟨by decide, ?_⟩)
          | ((with_reducible show RKQ _ _ _ _ _ _); refine RKQ_stepk fun K' hK' => ?_; simp [*])
          | (with_reducible refine AW_if fun X Y hX hY => ?_; simp [*])
          | with_reducible refine AW_block ?_
          | (with_reducible refine AW_ret ?_; simp [*])
          | (with_reducible refine AW_skip ?_; simp [*])
          | (with_reducible refine AW_exit ?_; simp [*])
          | (refine acall_same (s15 _ _) ?_ ?_ ?_; (focus (simp [*] <;> fail)); (focus (simp [*] <;> fail)); simp [*])
          | (refine call_same (s15 _ _) ?_ ?_ ?_; (focus (simp [*] <;> fail)); (focus (simp [*] <;> fail)); simp [*])
          | (refine acall_view (s15 _ _) ?_ ?_ ?_; (focus (simp [*] <;> fail)); (focus (simp [*] <;> fail)); simp [*])
          | (refine call_view (s15 _ _) ?_ ?_ ?_; (focus (simp [*] <;> fail)); (focus (simp [*] <;> fail)); simp [*])
          | with_reducible refine And.intro ?_ ?_
          | omega
          | (refine imp1 fun h => ?_))
        all_goals exact ⟨i + 1, by omega, by omega, by simp [hs.out, minS, okL, betR, accR, *]; try (split <;> first | omega | simp)⟩
      · repeat' (first
          | with_reducible refine useK (by assumption) ?_
          | with_reducible refine useK2 (by assumption) ?_
          | with_reducible refine useX (by assumption) ?_
          | with_reducible refine AW_seqk fun K hK => ?_
          | (with_reducible refine AW_regionS rfl (by rw [hE]; decide) ?_; simp [*, accR])
          | with_reducible refine AW_region (by rw [hE]; decide) ?_
          | ((with_reducible show RK _ _ _ _ _ _); refine RK_nilk ?_; simp [*, accR])
          | ((with_reducible show RK _ _ _ _ _ _); refine RK_stepk fun K' hK' => ?_; simp [*, accR])
          | with_reducible refine AW_drawq mixed (by rw [hE]; decide) (by simp [newOK]) ?_
          | ((with_reducible show RKQ _ _ _ _ _ _); refine RKQ_nilk ⟨by decide, ?_⟩)
          | ((with_reducible show RKQ _ _ _ _ _ _); refine RKQ_stepk fun K' hK' => ?_; simp [*, accR])
          | (with_reducible refine AW_if fun X Y hX hY => ?_; simp [*, accR])
          | with_reducible refine AW_block ?_
          | (with_reducible refine AW_ret ?_; simp [*, accR])
          | (with_reducible refine AW_skip ?_; simp [*, accR])
          | (with_reducible refine AW_exit ?_; simp [*, accR])
          | (refine acall_same (s15 _ _) ?_ ?_ ?_; (focus (simp [*, accR] <;> fail)); (focus (simp [*, accR] <;> fail)); simp [*, accR])
          | (refine call_same (s15 _ _) ?_ ?_ ?_; (focus (simp [*, accR] <;> fail)); (focus (simp [*, accR] <;> fail)); simp [*, accR])
          | (refine acall_view (s15 _ _) ?_ ?_ ?_; (focus (simp [*, accR] <;> fail)); (focus (simp [*, accR] <;> fail)); simp [*, accR])
          | (refine call_view (s15 _ _) ?_ ?_ ?_; (focus (simp [*, accR] <;> fail)); (focus (simp [*, accR] <;> fail)); simp [*, accR])
          | with_reducible refine And.intro ?_ ?_
          | omega
          | (refine imp1 fun h => ?_))
        all_goals exact ⟨i + 1, by omega, by omega, by simp [hs.out, minS, okL, betR, accR, *]; try (split <;> first | omega | simp)⟩
    · clear hli
      have hk2 : ((O m).length : Int) - 1 = k := by omega
      rcases ac with _ | v
      · repeat' (first
          | with_reducible refine useK (by assumption) ?_
          | with_reducible refine useK2 (by assumption) ?_
          | with_reducible refine useX (by assumption) ?_
          | with_reducible refine AW_seqk fun K hK => ?_
          | (with_reducible refine AW_regionS rfl (by rw [hE]; decide) ?_; simp [*])
          | with_reducible refine AW_region (by rw [hE]; decide) ?_
          | ((with_reducible show RK _ _ _ _ _ _); refine RK_nilk ?_; simp [*])
          | ((with_reducible show RK _ _ _ _ _ _); refine RK_stepk fun K' hK' => ?_; simp [*])
          | with_reducible refine AW_drawq mixed (by rw [hE]; decide) (by simp [newOK]) ?_
          | ((with_reducible show RKQ _ _ _ _ _ _); refine RKQ_nilk ⟨by decide, ?_⟩)
          | ((with_reducible show RKQ _ _ _ _ _ _); refine RKQ_stepk fun K' hK' => ?_; simp [*])
          | (with_reducible refine AW_if fun X Y hX hY => ?_; simp [*])
          | with_reducible refine AW_block ?_
          | (with_reducible refine AW_ret ?_; simp [*])
          | (with_reducible refine AW_skip ?_; simp [*])
          | (with_reducible refine AW_exit ?_; simp [*])
          | (refine acall_same (s15 _ _) ?_ ?_ ?_; (focus (simp [*] <;> fail)); (focus (simp [*] <;> fail)); simp [*])
          | (refine call_same (s15 _ _) ?_ ?_ ?_; (focus (simp [*] <;> fail)); (focus (simp [*] <;> fail)); simp [*])
          | (refine acall_view (s15 _ _) ?_ ?_ ?_; (focus (simp [*] <;> fail)); (focus (simp [*] <;> fail)); simp [*])
          | (refine call_view (s15 _ _) ?_ ?_ ?_; (focus (simp [*] <;> fail)); (focus (simp [*] <;> fail)); simp [*])
          | with_reducible refine And.intro ?_ ?_
          | omega
          | (refine imp1 fun h => ?_))
        all_goals exact ⟨i + 1, by omega, by omega, by simp [hs.out, minS, okL, betR, accR, *]; try (split <;> first | omega | simp)⟩
      · repeat' (first
          | with_reducible refine useK (by assumption) ?_
          | with_reducible refine useK2 (by assumption) ?_
          | with_reducible refine useX (by assumption) ?_
          | with_reducible refine AW_seqk fun K hK => ?_
          | (with_reducible refine AW_regionS rfl (by rw [hE]; decide) ?_; simp [*, accR])
          | with_reducible refine AW_region (by rw [hE]; decide) ?_
          | ((with_reducible show RK _ _ _ _ _ _); refine RK_nilk ?_; simp [*, accR])
          | ((with_reducible show RK _ _ _ _ _ _); refine RK_stepk fun K' hK' => ?_; simp [*, accR])
          | with_reducible refine AW_drawq mixed (by rw [hE]; decide) (by simp [newOK]) ?_
          | ((with_reducible show RKQ _ _ _ _ _ _); refine RKQ_nilk ⟨by decide, ?_⟩)
          | ((with_reducible show RKQ _ _ _ _ _ _); refine RKQ_stepk fun K' hK' => ?_; simp [*, accR])
          | (with_reducible refine AW_if fun X Y hX hY => ?_; simp [*, accR])
          | with_reducible refine AW_block ?_
          | (with_reducible refine AW_ret ?_; simp [*, accR])
          | (with_reducible refine AW_skip ?_; simp [*, accR])
          | (with_reducible refine AW_exit ?_; simp [*, accR])
          | (refine acall_same (s15 _ _) ?_ ?_ ?_; (focus (simp [*, accR] <;> fail)); (focus (simp [*, accR] <;> fail)); simp [*, accR])
          | (refine call_same (s15 _ _) ?_ ?_ ?_; (focus (simp [*, accR] <;> fail)); (focus (simp [*, accR] <;> fail)); simp [*, accR])
          | (refine acall_view (s15 _ _) ?_ ?_ ?_; (focus (simp [*, accR] <;> fail)); (focus (simp [*, accR] <;> fail)); simp [*, accR])
          | (refine call_view (s15 _ _) ?_ ?_ ?_; (focus (simp [*, accR] <;> fail)); (focus (simp [*, accR] <;> fail)); simp [*, accR])
          | with_reducible refine And.intro ?_ ?_
          | omega
          | (refine imp1 fun h => ?_))
        all_goals exact ⟨i + 1, by omega, by omega, by simp [hs.out, minS, okL, betR, accR, *]; try (split <;> first | omega | simp)⟩
  · obtain rfl : i = l.length := by omega
    rw [hAe.out]
    rcases hnx.out with ⟨h1, h2⟩ | ⟨h1, h2⟩
    · rw [h2]
      clear hnx hAe hli
      repeat' (first
        | with_reducible refine useK (by assumption) ?_
        | with_reducible refine useK2 (by assumption) ?_
        | with_reducible refine useX (by assumption) ?_
        | with_reducible refine AW_seqk fun K hK => ?_
        | (with_reducible refine AW_regionS rfl (by rw [hE]; decide) ?_; simp [*])
        | with_reducible refine AW_region (by rw [hE]; decide) ?_
        | ((with_reducible show RK _ _ _ _ _ _); refine RK_nilk ?_; simp [*])
        | ((with_reducible show RK _ _ _ _ _ _); refine RK_stepk fun K' hK' => ?_; simp [*])
        | with_reducible refine AW_drawq mixed (by rw [hE]; decide) (by simp [newOK]) ?_
        | ((with_reducible show RKQ _ _ _ _ _ _); refine RKQ_nilk ⟨by decide, ?_⟩)
        | ((with_reducible show RKQ _ _ _ _ _ _); refine RKQ_stepk fun K' hK' => ?_; simp [*])
        | (with_reducible refine AW_if fun X Y hX hY => ?_; simp [*])
        | with_reducible refine AW_block ?_
        | (with_reducible refine AW_ret ?_; simp [*])
        | (with_reducible refine AW_skip ?_; simp [*])
        | (with_reducible refine AW_exit ?_; simp [*])
        | with_reducible refine And.intro ?_ ?_
        | omega
        | (refine imp1 fun h => ?_))
      subst h1
      have e : O (setR l).length = setR l := hOe.out
      rw [e]
      exact ⟨60, ⟨rfl, rfl⟩, _, rfl, take_len encR _⟩
    · rw [h2]
      have hs := hOsm.out h1
      clear hnx hAe hli
      replace hs := Hld.mk hs
      repeat' (first
        | with_reducible refine useK (by assumption) ?_
        | with_reducible refine useK2 (by assumption) ?_
        | with_reducible refine useX (by assumption) ?_
        | with_reducible refine AW_seqk fun K hK => ?_
        | (with_reducible refine AW_regionS rfl (by rw [hE]; decide) ?_; simp [*])
        | with_reducible refine AW_region (by rw [hE]; decide) ?_
        | ((with_reducible show RK _ _ _ _ _ _); refine RK_nilk ?_; simp [*])
        | ((with_reducible show RK _ _ _ _ _ _); refine RK_stepk fun K' hK' => ?_; simp [*])
        | with_reducible refine AW_drawq mixed (by rw [hE]; decide) (by simp [newOK]) ?_
        | ((with_reducible show RKQ _ _ _ _ _ _); refine RKQ_nilk ⟨by decide, ?_⟩)
        | ((with_reducible show RKQ _ _ _ _ _ _); refine RKQ_stepk fun K' hK' => ?_; simp [*])
        | (with_reducible refine AW_if fun X Y hX hY => ?_; simp [*])
        | with_reducible refine AW_block ?_
        | (with_reducible refine AW_ret ?_; simp [*])
        | (with_reducible refine AW_skip ?_; simp [*])
        | (with_reducible refine AW_exit ?_; simp [*])
        | with_reducible refine And.intro ?_ ?_
        | omega
        | (refine imp1 fun h => ?_))
      exact ⟨m + 1, by omega, by omega, by simp [hs.out, accR]⟩

theorem s26 (l : List R) (hl : l.length ≤ 100000000) : PSpec Try.prog 26 [.sl 8 (l.map encR)] (.sl 8 ((setR l).map encR)) := (r26 l hl).toP (by simp)
theorem r16 (l : List R) (hl : l.length ≤ 100000000) : RSpec Try.prog 16 [.sl 8 (l.map encR)] 23 8 ((cntR l).map encR) := by
  have hsl := setR_len l
  refine MSpec_of Try.func16 rfl rfl (Nat.le_of_ble_eq_true rfl) (Nat.le_of_ble_eq_true rfl) ?_
  intro E hE
  repeat' (first
    | with_reducible refine useK (by assumption) ?_
    | with_reducible refine useK2 (by assumption) ?_
    | with_reducible refine useX (by assumption) ?_
    | with_reducible refine AW_seqk fun K hK => ?_
    | (with_reducible refine AW_regionS rfl (by rw [hE]; decide) ?_; simp [*])
    | with_reducible refine AW_region (by rw [hE]; decide) ?_
    | ((with_reducible show RK _ _ _ _ _ _); refine RK_nilk ?_; simp [*])
    | ((with_reducible show RK _ _ _ _ _ _); refine RK_stepk fun K' hK' => ?_; simp [*])
    | with_reducible refine AW_drawq mixed (by rw [hE]; decide) (by simp [newOK]) ?_
    | ((with_reducible show RKQ _ _ _ _ _ _); refine RKQ_nilk ⟨by decide, ?_⟩)
    | ((with_reducible show RKQ _ _ _ _ _ _); refine RKQ_stepk fun K' hK' => ?_; simp [*])
    | (with_reducible refine AW_if fun X Y hX hY => ?_; simp [*])
    | with_reducible refine AW_block ?_
    | (with_reducible refine AW_ret ?_; simp [*])
    | (with_reducible refine AW_skip ?_; simp [*])
    | (with_reducible refine AW_exit ?_; simp [*])
    | (refine acall_same (s26 l hl) ?_ ?_ ?_; (focus (simp [*] <;> fail)); (focus (simp [*] <;> fail)); simp [*])
    | (refine call_same (s26 l hl) ?_ ?_ ?_; (focus (simp [*] <;> fail)); (focus (simp [*] <;> fail)); simp [*])
    | (refine acall_view (s26 l hl) ?_ ?_ ?_; (focus (simp [*] <;> fail)); (focus (simp [*] <;> fail)); simp [*])
    | (refine call_view (s26 l hl) ?_ ?_ ?_; (focus (simp [*] <;> fail)); (focus (simp [*] <;> fail)); simp [*])
    | with_reducible refine And.intro ?_ ?_
    | omega
    | (refine imp1 fun h => ?_))
  refine AW_mkrow 4 60 23 8 (by simp) (by simp) (by simp) (by omega) ?_
  obtain ⟨O, hO⟩ : ∃ O : Nat → List R, ∀ m, O m = ((setR l).take m).filter fun r => winB (setR l) r && !r.c := ⟨_, fun _ => rfl⟩
  have hOl : ∀ m, (O m).length ≤ 1000000000 := by
    intro m; rw [hO]
    have := List.length_filter_le (fun r => winB (setR l) r && !r.c) ((setR l).take m)
    simp at this ⊢
    omega
  have hOs : ∀ m (h : m < (setR l).length), O (m + 1) = O m ++ (if winB (setR l) (setR l)[m] && !(setR l)[m].c then [(setR l)[m]] else []) := by
    intro m h; rw [hO, hO, List.take_succ_eq_append_getElem h, List.filter_append]
    congr 1
    simp only [List.filter_cons, List.filter_nil]
  have hO0 : O 0 = [] := by rw [hO]; rfl
  have hOe : O (setR l).length = cntR l := by rw [hO, List.take_length, cntR_eq]
  clear hO
  replace hOs := Hld.mk hOs
  replace hOe := Hld.mk hOe
  refine AW_loopk (G := Nat) (fun m => ⟨[(5, iA m), (4, .own 60 8 0 (O m).length), (3, .sl 8 ((setR l).map encR))], [(60, .arr 23 8 ((O m).map encR))]⟩)
    (fun m => m ≤ (setR l).length) (fun m => (setR l).length - m) 0 (by simp) (by simp [hO0]) ?_
  intro m hm K hK
  have hml := hOl m
  clear hO0
  by_cases hlt : m < (setR l).length
  · have hs := hOs.out m hlt
    clear hOs hOl
    replace hs := Hld.mk hs
    repeat' (first
      | with_reducible refine useK (by assumption) ?_
      | with_reducible refine useK2 (by assumption) ?_
      | with_reducible refine useX (by assumption) ?_
      | with_reducible refine AW_seqk fun K hK => ?_
      | (with_reducible refine AW_regionS rfl (by rw [hE]; decide) ?_; simp [*])
      | with_reducible refine AW_region (by rw [hE]; decide) ?_
      | ((with_reducible show RK _ _ _ _ _ _); refine RK_nilk ?_; simp [*])
      | ((with_reducible show RK _ _ _ _ _ _); refine RK_stepk fun K' hK' => ?_; simp [*])
      | with_reducible refine AW_drawq mixed (by rw [hE]; decide) (by simp [newOK]) ?_
      | ((with_reducible show RKQ _ _ _ _ _ _); refine RKQ_nilk ⟨by decide, ?_⟩)
      | ((with_reducible show RKQ _ _ _ _ _ _); refine RKQ_stepk fun K' hK' => ?_; simp [*])
      | (with_reducible refine AW_if fun X Y hX hY => ?_; simp [*])
      | with_reducible refine AW_block ?_
      | (with_reducible refine AW_ret ?_; simp [*])
      | (with_reducible refine AW_skip ?_; simp [*])
      | (with_reducible refine AW_exit ?_; simp [*])
      | (refine acall_same (s21 (setR l) _ (by omega)) ?_ ?_ ?_; (focus (simp [*] <;> fail)); (focus (simp [*] <;> fail)); simp [*])
      | (refine call_same (s21 (setR l) _ (by omega)) ?_ ?_ ?_; (focus (simp [*] <;> fail)); (focus (simp [*] <;> fail)); simp [*])
      | (refine acall_view (s21 (setR l) _ (by omega)) ?_ ?_ ?_; (focus (simp [*] <;> fail)); (focus (simp [*] <;> fail)); simp [*])
      | (refine call_view (s21 (setR l) _ (by omega)) ?_ ?_ ?_; (focus (simp [*] <;> fail)); (focus (simp [*] <;> fail)); simp [*])
      | with_reducible refine And.intro ?_ ?_
      | omega
      | (refine imp1 fun h => ?_))
    all_goals exact ⟨m + 1, by omega, by omega, by simp [hs.out, *]⟩
  · obtain rfl : m = (setR l).length := by omega
    clear hOs hOl
    repeat' (first
      | with_reducible refine useK (by assumption) ?_
      | with_reducible refine useK2 (by assumption) ?_
      | with_reducible refine useX (by assumption) ?_
      | with_reducible refine AW_seqk fun K hK => ?_
      | (with_reducible refine AW_regionS rfl (by rw [hE]; decide) ?_; simp [*])
      | with_reducible refine AW_region (by rw [hE]; decide) ?_
      | ((with_reducible show RK _ _ _ _ _ _); refine RK_nilk ?_; simp [*])
      | ((with_reducible show RK _ _ _ _ _ _); refine RK_stepk fun K' hK' => ?_; simp [*])
      | with_reducible refine AW_drawq mixed (by rw [hE]; decide) (by simp [newOK]) ?_
      | ((with_reducible show RKQ _ _ _ _ _ _); refine RKQ_nilk ⟨by decide, ?_⟩)
      | ((with_reducible show RKQ _ _ _ _ _ _); refine RKQ_stepk fun K' hK' => ?_; simp [*])
      | (with_reducible refine AW_if fun X Y hX hY => ?_; simp [*])
      | with_reducible refine AW_block ?_
      | (with_reducible refine AW_ret ?_; simp [*])
      | (with_reducible refine AW_skip ?_; simp [*])
      | (with_reducible refine AW_exit ?_; simp [*])
      | with_reducible refine And.intro ?_ ?_
      | omega
      | (refine imp1 fun h => ?_))
    have e : O (setR l).length = cntR l := hOe.out
    rw [e]
    exact ⟨60, ⟨rfl, rfl⟩, _, ⟨rfl, rfl⟩, take_len encR _⟩
theorem s16 (l : List R) (hl : l.length ≤ 100000000) : PSpec Try.prog 16 [.sl 8 (l.map encR)] (.sl 8 ((cntR l).map encR)) := (r16 l hl).toP (by simp)
end Go.Proofs.Ytmjckbokjjnmeaa
end
section
namespace Go.Proofs.Ytmjckbokjjnmeaa
open Go.Am

def idxI (p : Int → Bool) (i : Nat) : List Int → Int
  | [] => -1
  | x :: l => if p x then i else idxI p (i + 1) l
theorem idxI_drop {p : Int → Bool} {l : List Int} {i : Nat} (h : i < l.length) : idxI p i (l.drop i) = if p l[i] then (i : Int) else idxI p (i + 1) (l.drop (i + 1)) := by
  rw [List.drop_eq_getElem_cons h]; rfl
theorem idxI_any' {p : Int → Bool} : ∀ {l : List Int} {i : Nat}, 0 ≤ idxI p i l ↔ l.any p = true
  | [], _ => by simp [idxI]
  | x :: l, i => by
    have ih := idxI_any' (p := p) (l := l) (i := i + 1)
    cases h : p x with
    | true => simp [idxI, h]
    | false => simp only [idxI, h, List.any_cons, Bool.false_or]; exact ih
theorem idxI_any {p : Int → Bool} {l : List Int} {i : Nat} : decide (0 ≤ idxI p i l) = l.any p := by
  rw [Bool.eq_iff_iff, decide_eq_true_eq]; exact idxI_any'
theorem s73 (p : Int → Bool) (g : FuncId) (cs : List AV) (hcs : idfL cs = true) (hp : ∀ r, PSpec Try.prog g (iA r :: cs) (bA (p r))) (l : List Int) (hl : l.length ≤ 1000000000) :
    PSpec Try.prog 73 [.sl 1 (l.map iA), .fn (.func g) [] cs] (iA (idxI p 0 l)) := by
  refine PSpec_of Try.func73 rfl rfl (Nat.le_of_ble_eq_true rfl) (Nat.le_of_ble_eq_true rfl) ?_
  intro E hE
  repeat' (first
    | with_reducible refine useK (by assumption) ?_
    | with_reducible refine useK2 (by assumption) ?_
    | with_reducible refine useX (by assumption) ?_
    | with_reducible refine AW_seqk fun K hK => ?_
    | (with_reducible refine AW_regionS rfl (by rw [hE]; decide) ?_; simp [*])
    | with_reducible refine AW_region (by rw [hE]; decide) ?_
    | ((with_reducible show RK _ _ _ _ _ _); refine RK_nilk ?_; simp [*])
    | ((with_reducible show RK _ _ _ _ _ _); refine RK_stepk fun K' hK' => ?_; simp [*])
    | with_reducible refine AW_drawq mixed (by rw [hE]; decide) (by simp [newOK]) ?_
    | ((with_reducible show RKQ _ _ _ _ _ _); refine RKQ_nilk ⟨by decide, ?_⟩)
    | ((with_reducible show RKQ _ _ _ _ _ _); refine RKQ_stepk fun K' hK' => ?_; simp [*])
    | (with_reducible refine AW_if fun X Y hX hY => ?_; simp [*])
    | with_reducible refine AW_block ?_
    | (with_reducible refine AW_ret ?_; simp [*])
    | (with_reducible refine AW_skip ?_; simp [*])
    | (with_reducible refine AW_exit ?_; simp [*])
    | with_reducible refine And.intro ?_ ?_
    | omega
    | (refine imp1 fun h => ?_))
  refine AW_loopk (G := Nat) (fun i => ⟨[(8, iA i), (7, iA l.length), (0, .sl 1 (l.map iA)), (1, .fn (.func g) [] cs)], []⟩)
    (fun i => i ≤ l.length ∧ idxI p i (l.drop i) = idxI p 0 l) (fun i => l.length - i) 0 (by simp) (by simp) ?_
  rintro i ⟨hi, heq⟩ K hK
  by_cases hlt : i < l.length
  · have hd := idxI_drop (p := p) hlt
    rw [heq] at hd
    replace hd := Hld.mk hd
    replace heq := Hld.mk heq
    repeat' (first
      | with_reducible refine useK (by assumption) ?_
      | with_reducible refine useK2 (by assumption) ?_
      | with_reducible refine useX (by assumption) ?_
      | with_reducible refine AW_seqk fun K hK => ?_
      | (with_reducible refine AW_regionS rfl (by rw [hE]; decide) ?_; simp [*])
      | with_reducible refine AW_region (by rw [hE]; decide) ?_
      | ((with_reducible show RK _ _ _ _ _ _); refine RK_nilk ?_; simp [*])
      | ((with_reducible show RK _ _ _ _ _ _); refine RK_stepk fun K' hK' => ?_; simp [*])
      | with_reducible refine AW_drawq mixed (by rw [hE]; decide) (by simp [newOK]) ?_
      | ((with_reducible show RKQ _ _ _ _ _ _); refine RKQ_nilk ⟨by decide, ?_⟩)
      | ((with_reducible show RKQ _ _ _ _ _ _); refine RKQ_stepk fun K' hK' => ?_; simp [*])
      | (with_reducible refine AW_if fun X Y hX hY => ?_; simp [*])
      | with_reducible refine AW_block ?_
      | (with_reducible refine AW_ret ?_; simp [*])
      | (with_reducible refine AW_skip ?_; simp [*])
      | (with_reducible refine AW_exit ?_; simp [*])
      | (refine acall_same (hp _) ?_ ?_ ?_; (focus (simp [*] <;> fail)); (focus (simp [*] <;> fail)); simp [*])
      | (refine call_same (hp _) ?_ ?_ ?_; (focus (simp [*] <;> fail)); (focus (simp [*] <;> fail)); simp [*])
      | (refine acall_view (hp _) ?_ ?_ ?_; (focus (simp [*] <;> fail)); (focus (simp [*] <;> fail)); simp [*])
      | (refine call_view (hp _) ?_ ?_ ?_; (focus (simp [*] <;> fail)); (focus (simp [*] <;> fail)); simp [*])
      | with_reducible refine And.intro ?_ ?_
      | omega
      | (refine imp1 fun h => ?_))
    · rw [hd.out]; simp [*]
    · exact ⟨i + 1, ⟨by omega, by rw [hd.out]; simp [*]⟩, by omega, by simp⟩
  · obtain rfl : i = l.length := by omega
    rw [List.drop_length] at heq
    replace heq := Hld.mk heq
    repeat' (first
      | with_reducible refine useK (by assumption) ?_
      | with_reducible refine useK2 (by assumption) ?_
      | with_reducible refine useX (by assumption) ?_
      | with_reducible refine AW_seqk fun K hK => ?_
      | (with_reducible refine AW_regionS rfl (by rw [hE]; decide) ?_; simp [*])
      | with_reducible refine AW_region (by rw [hE]; decide) ?_
      | ((with_reducible show RK _ _ _ _ _ _); refine RK_nilk ?_; simp [*])
      | ((with_reducible show RK _ _ _ _ _ _); refine RK_stepk fun K' hK' => ?_; simp [*])
      | with_reducible refine AW_drawq mixed (by rw [hE]; decide) (by simp [newOK]) ?_
      | ((with_reducible show RKQ _ _ _ _ _ _); refine RKQ_nilk ⟨by decide, ?_⟩)
      | ((with_reducible show RKQ _ _ _ _ _ _); refine RKQ_stepk fun K' hK' => ?_; simp [*])
      | (with_reducible refine AW_if fun X Y hX hY => ?_; simp [*])
      | with_reducible refine AW_block ?_
      | (with_reducible refine AW_ret ?_; simp [*])
      | (with_reducible refine AW_skip ?_; simp [*])
      | (with_reducible refine AW_exit ?_; simp [*])
      | with_reducible refine And.intro ?_ ?_
      | omega
      | (refine imp1 fun h => ?_))
    exact heq.out.symm
theorem s58 (p : Int → Bool) (g : FuncId) (cs : List AV) (hcs : idfL cs = true) (hp : ∀ r, PSpec Try.prog g (iA r :: cs) (bA (p r))) (l : List Int) (hl : l.length ≤ 1000000000) :
    PSpec Try.prog 58 [.sl 1 (l.map iA), .fn (.func g) [] cs] (bA (l.any p)) := by
  have ha := idxI_any (p := p) (l := l) (i := 0)
  refine PSpec_of Try.func58 rfl rfl (Nat.le_of_ble_eq_true rfl) (Nat.le_of_ble_eq_true rfl) ?_
  intro E hE
  repeat' (first
    | with_reducible refine useK (by assumption) ?_
    | with_reducible refine useK2 (by assumption) ?_
    | with_reducible refine useX (by assumption) ?_
    | with_reducible refine AW_seqk fun K hK => ?_
    | (with_reducible refine AW_regionS rfl (by rw [hE]; decide) ?_; simp [*])
    | with_reducible refine AW_region (by rw [hE]; decide) ?_
    | ((with_reducible show RK _ _ _ _ _ _); refine RK_nilk ?_; simp [*])
    | ((with_reducible show RK _ _ _ _ _ _); refine RK_stepk fun K' hK' => ?_; simp [*])
    | with_reducible refine AW_drawq mixed (by rw [hE]; decide) (by simp [newOK]) ?_
    | ((with_reducible show RKQ _ _ _ _ _ _); refine RKQ_nilk ⟨by decide, ?_⟩)
    | ((with_reducible show RKQ _ _ _ _ _ _); refine RKQ_stepk fun K' hK' => ?_; simp [*])
    | (with_reducible refine AW_if fun X Y hX hY => ?_; simp [*])
    | with_reducible refine AW_block ?_
    | (with_reducible refine AW_ret ?_; simp [*])
    | (with_reducible refine AW_skip ?_; simp [*])
    | (with_reducible refine AW_exit ?_; simp [*])
    | (refine acall_same (s73 p g cs hcs hp l hl) ?_ ?_ ?_; (focus (simp [*] <;> fail)); (focus (simp [*] <;> fail)); simp [*])
    | (refine call_same (s73 p g cs hcs hp l hl) ?_ ?_ ?_; (focus (simp [*] <;> fail)); (focus (simp [*] <;> fail)); simp [*])
    | (refine acall_view (s73 p g cs hcs hp l hl) ?_ ?_ ?_; (focus (simp [*] <;> fail)); (focus (simp [*] <;> fail)); simp [*])
    | (refine call_view (s73 p g cs hcs hp l hl) ?_ ?_ ?_; (focus (simp [*] <;> fail)); (focus (simp [*] <;> fail)); simp [*])
    | with_reducible refine And.intro ?_ ?_
    | omega
    | (refine imp1 fun h => ?_))
theorem s59 (n a b : Int) : PSpec Try.prog 59 [iA n, .ep (iA a), .ep (iA b)] (bA (decide (n < a) || decide (b < n))) := by
  refine PSpec_of Try.func59 rfl rfl (Nat.le_of_ble_eq_true rfl) (Nat.le_of_ble_eq_true rfl) ?_
  intro E hE
  by_cases h : n < a
  · repeat' (first
      | with_reducible refine useK (by assumption) ?_
      | with_reducible refine useK2 (by assumption) ?_
      | with_reducible refine useX (by assumption) ?_
      | with_reducible refine AW_seqk fun K hK => ?_
      | (with_reducible refine AW_regionS rfl (by rw [hE]; decide) ?_; simp [*])
      | with_reducible refine AW_region (by rw [hE]; decide) ?_
      | ((with_reducible show RK _ _ _ _ _ _); refine RK_nilk ?_; simp [*])
      | ((with_reducible show RK _ _ _ _ _ _); refine RK_stepk fun K' hK' => ?_; simp [*])
      | with_reducible refine AW_drawq mixed (by rw [hE]; decide) (by simp [newOK]) ?_
      | ((with_reducible show RKQ _ _ _ _ _ _); refine RKQ_nilk ⟨by decide, ?_⟩)
      | ((with_reducible show RKQ _ _ _ _ _ _); refine RKQ_stepk fun K' hK' => ?_; simp [*])
      | (with_reducible refine AW_if fun X Y hX hY => ?_; simp [*])
      | with_reducible refine AW_block ?_
      | (with_reducible refine AW_ret ?_; simp [*])
      | (with_reducible refine AW_skip ?_; simp [*])
      | (with_reducible refine AW_exit ?_; simp [*])
      | with_reducible refine And.intro ?_ ?_
      | omega
      | (refine imp1 fun h => ?_))
  · repeat' (first
      | with_reducible refine useK (by assumption) ?_
      | with_reducible refine useK2 (by assumption) ?_
      | with_reducible refine useX (by assumption) ?_
      | with_reducible refine AW_seqk fun K hK => ?_
      | (with_reducible refine AW_regionS rfl (by rw [hE]; decide) ?_; simp [*])
      | with_reducible refine AW_region (by rw [hE]; decide) ?_
      | ((with_reducible show RK _ _ _ _ _ _); refine RK_nilk ?_; simp [*])
      | ((with_reducible show RK _ _ _ _ _ _); refine RK_stepk fun K' hK' => ?_; simp [*])
      | with_reducible refine AW_drawq mixed (by rw [hE]; decide) (by simp [newOK]) ?_
      | ((with_reducible show RKQ _ _ _ _ _ _); refine RKQ_nilk ⟨by decide, ?_⟩)
      | ((with_reducible show RKQ _ _ _ _ _ _); refine RKQ_stepk fun K' hK' => ?_; simp [*])
      | (with_reducible refine AW_if fun X Y hX hY => ?_; simp [*])
      | with_reducible refine AW_block ?_
      | (with_reducible refine AW_ret ?_; simp [*])
      | (with_reducible refine AW_skip ?_; simp [*])
      | (with_reducible refine AW_exit ?_; simp [*])
      | with_reducible refine And.intro ?_ ?_
      | omega
      | (refine imp1 fun h => ?_))
theorem s46 (a b : Int) (l : List Int) (hl : l.length ≤ 1000000000) : PSpec Try.prog 46 [iA a, iA b, .sl 1 (l.map iA)] (bA (!l.any fun n => decide (n < a) || decide (b < n))) := by
  refine PSpec_of Try.func46 rfl rfl (Nat.le_of_ble_eq_true rfl) (Nat.le_of_ble_eq_true rfl) ?_
  intro E hE
  refine AW_seqk fun K hK => ?_
  refine AW_region (by rw [hE]; decide) ?_
  simp
  refine useK (by assumption) ?_
  refine AW_freeze 3 (t := ⟨[(3, .ep (iA a)), (4, .loc 4 0), (2, .sl 1 (l.map iA))], [(4, .box 3 (iA b))]⟩) rfl (by simp) (by simp) ?_
  refine AW_freeze 4 (t := ⟨[(3, .ep (iA a)), (4, .ep (iA b)), (2, .sl 1 (l.map iA))], []⟩) rfl (by simp) (by simp) ?_
  repeat' (first
    | with_reducible refine useK (by assumption) ?_
    | with_reducible refine useK2 (by assumption) ?_
    | with_reducible refine useX (by assumption) ?_
    | with_reducible refine AW_seqk fun K hK => ?_
    | (with_reducible refine AW_regionS rfl (by rw [hE]; decide) ?_; simp [*])
    | with_reducible refine AW_region (by rw [hE]; decide) ?_
    | ((with_reducible show RK _ _ _ _ _ _); refine RK_nilk ?_; simp [*])
    | ((with_reducible show RK _ _ _ _ _ _); refine RK_stepk fun K' hK' => ?_; simp [*])
    | with_reducible refine AW_drawq mixed (by rw [hE]; decide) (by simp [newOK]) ?_
    | ((with_reducible show RKQ _ _ _ _ _ _); refine RKQ_nilk ⟨by decide, ?_⟩)
    | ((with_reducible show RKQ _ _ _ _ _ _); refine RKQ_stepk fun K' hK' => ?_; simp [*])
    | (with_reducible refine AW_if fun X Y hX hY => ?_; simp [*])
    | with_reducible refine AW_block ?_
    | (with_reducible refine AW_ret ?_; simp [*])
    | (with_reducible refine AW_skip ?_; simp [*])
    | (with_reducible refine AW_exit ?_; simp [*])
    | (refine acall_same (s58 (fun n => decide (n < a) || decide (b < n)) 59 [.ep (iA a), .ep (iA b)] rfl (fun r => s59 r a b) l hl) ?_ ?_ ?_; (focus (simp [*] <;> fail)); (focus (simp [*] <;> fail)); simp [*])
    | (refine call_same (s58 (fun n => decide (n < a) || decide (b < n)) 59 [.ep (iA a), .ep (iA b)] rfl (fun r => s59 r a b) l hl) ?_ ?_ ?_; (focus (simp [*] <;> fail)); (focus (simp [*] <;> fail)); simp [*])
    | (refine acall_view (s58 (fun n => decide (n < a) || decide (b < n)) 59 [.ep (iA a), .ep (iA b)] rfl (fun r => s59 r a b) l hl) ?_ ?_ ?_; (focus (simp [*] <;> fail)); (focus (simp [*] <;> fail)); simp [*])
    | (refine call_view (s58 (fun n => decide (n < a) || decide (b < n)) 59 [.ep (iA a), .ep (iA b)] rfl (fun r => s59 r a b) l hl) ?_ ?_ ?_; (focus (simp [*] <;> fail)); (focus (simp [*] <;> fail)); simp [*])
    | with_reducible refine And.intro ?_ ?_
    | omega
    | (refine imp1 fun h => ?_))
def outI (a b n : Int) : Bool := decide (n < a) || decide (b < n)
def chkR (r : R) : Int := if outI 1 1073741824 r.o then 27 else if outI 0 1073741824 r.s || outI 0 1073741824 r.v || outI 0 1073741824 r.d then 2 else if outI 0 1073741824 r.t then 26 else if outI (-1048576) 1048576 r.x || outI (-1048576) 1048576 r.y then 2 else 0
theorem any1 (a b x : Int) : (!([x].any fun n => decide (n < a) || decide (b < n))) = !outI a b x := by simp [outI]
theorem any2 (a b x y : Int) : (!([x, y].any fun n => decide (n < a) || decide (b < n))) = (!(outI a b x || outI a b y)) := by simp [outI]
theorem any3 (a b x y z : Int) : (!([x, y, z].any fun n => decide (n < a) || decide (b < n))) = (!(outI a b x || outI a b y || outI a b z)) := by simp [outI, Bool.or_assoc]
theorem s46a (a b x : Int) : PSpec Try.prog 46 [iA a, iA b, .sl 1 [iA x]] (bA (!outI a b x)) := by have := s46 a b [x] (by simp); rw [any1] at this; exact this
theorem s46b (a b x y : Int) : PSpec Try.prog 46 [iA a, iA b, .sl 1 [iA x, iA y]] (bA (!(outI a b x || outI a b y))) := by have := s46 a b [x, y] (by simp); rw [any2] at this; exact this
theorem s46c (a b x y z : Int) : PSpec Try.prog 46 [iA a, iA b, .sl 1 [iA x, iA y, iA z]] (bA (!(outI a b x || outI a b y || outI a b z))) := by have := s46 a b [x, y, z] (by simp); rw [any3] at this; exact this
theorem s30 (r : R) : PSpec Try.prog 30 [encR r] (iA (chkR r)) := by
  refine PSpec_of Try.func30 rfl rfl (Nat.le_of_ble_eq_true rfl) (Nat.le_of_ble_eq_true rfl) ?_
  intro E hE
  repeat' (first
    | with_reducible refine useK (by assumption) ?_
    | with_reducible refine useK2 (by assumption) ?_
    | with_reducible refine useX (by assumption) ?_
    | with_reducible refine AW_seqk fun K hK => ?_
    | (with_reducible refine AW_regionS rfl (by rw [hE]; decide) ?_; simp [*])
    | with_reducible refine AW_region (by rw [hE]; decide) ?_
    | ((with_reducible show RK _ _ _ _ _ _); refine RK_nilk ?_; simp [*])
    | ((with_reducible show RK _ _ _ _ _ _); refine RK_stepk fun K' hK' => ?_; simp [*])
    | with_reducible refine AW_drawq mixed (by rw [hE]; decide) (by simp [newOK]) ?_
    | ((with_reducible show RKQ _ _ _ _ _ _); refine RKQ_nilk ⟨by decide, ?_⟩)
    | ((with_reducible show RKQ _ _ _ _ _ _); refine RKQ_stepk fun K' hK' => ?_; simp [*])
    | (with_reducible refine AW_if fun X Y hX hY => ?_; simp [*])
    | with_reducible refine AW_block ?_
    | (with_reducible refine AW_ret ?_; simp [*])
    | (with_reducible refine AW_skip ?_; simp [*])
    | (with_reducible refine AW_exit ?_; simp [*])
    | (refine acall_same (s46a 1 1073741824 r.o) ?_ ?_ ?_; (focus (simp [*] <;> fail)); (focus (simp [*] <;> fail)); simp [*])
    | (refine call_same (s46a 1 1073741824 r.o) ?_ ?_ ?_; (focus (simp [*] <;> fail)); (focus (simp [*] <;> fail)); simp [*])
    | (refine acall_view (s46a 1 1073741824 r.o) ?_ ?_ ?_; (focus (simp [*] <;> fail)); (focus (simp [*] <;> fail)); simp [*])
    | (refine call_view (s46a 1 1073741824 r.o) ?_ ?_ ?_; (focus (simp [*] <;> fail)); (focus (simp [*] <;> fail)); simp [*])
    | (refine acall_same (s46c 0 1073741824 r.s r.v r.d) ?_ ?_ ?_; (focus (simp [*] <;> fail)); (focus (simp [*] <;> fail)); simp [*])
    | (refine call_same (s46c 0 1073741824 r.s r.v r.d) ?_ ?_ ?_; (focus (simp [*] <;> fail)); (focus (simp [*] <;> fail)); simp [*])
    | (refine acall_view (s46c 0 1073741824 r.s r.v r.d) ?_ ?_ ?_; (focus (simp [*] <;> fail)); (focus (simp [*] <;> fail)); simp [*])
    | (refine call_view (s46c 0 1073741824 r.s r.v r.d) ?_ ?_ ?_; (focus (simp [*] <;> fail)); (focus (simp [*] <;> fail)); simp [*])
    | (refine acall_same (s46a 0 1073741824 r.t) ?_ ?_ ?_; (focus (simp [*] <;> fail)); (focus (simp [*] <;> fail)); simp [*])
    | (refine call_same (s46a 0 1073741824 r.t) ?_ ?_ ?_; (focus (simp [*] <;> fail)); (focus (simp [*] <;> fail)); simp [*])
    | (refine acall_view (s46a 0 1073741824 r.t) ?_ ?_ ?_; (focus (simp [*] <;> fail)); (focus (simp [*] <;> fail)); simp [*])
    | (refine call_view (s46a 0 1073741824 r.t) ?_ ?_ ?_; (focus (simp [*] <;> fail)); (focus (simp [*] <;> fail)); simp [*])
    | (refine acall_same (s46b (-1048576) 1048576 r.x r.y) ?_ ?_ ?_; (focus (simp [*] <;> fail)); (focus (simp [*] <;> fail)); simp [*])
    | (refine call_same (s46b (-1048576) 1048576 r.x r.y) ?_ ?_ ?_; (focus (simp [*] <;> fail)); (focus (simp [*] <;> fail)); simp [*])
    | (refine acall_view (s46b (-1048576) 1048576 r.x r.y) ?_ ?_ ?_; (focus (simp [*] <;> fail)); (focus (simp [*] <;> fail)); simp [*])
    | (refine call_view (s46b (-1048576) 1048576 r.x r.y) ?_ ?_ ?_; (focus (simp [*] <;> fail)); (focus (simp [*] <;> fail)); simp [*])
    | with_reducible refine And.intro ?_ ?_
    | omega
    | (refine imp1 fun h => ?_))
  all_goals simp [chkR, *]
end Go.Proofs.Ytmjckbokjjnmeaa
end
section
namespace Go.Proofs.Ytmjckbokjjnmeaa
open Go.Am

structure XC where
  (f t s r l : Int)
def encX (x : XC) : AV := .st [iA x.f, iA x.t, iA x.s, iA x.r, iA x.l]
def chkX (x : XC) : Int := if outI 0 1073741824 x.f || outI 0 1073741824 x.t then 2 else if x.f = x.t then 8 else if outI 0 1073741824 x.s || outI 0 1073741824 x.r || outI 0 1073741824 x.l then 26 else 0
theorem s31 (x : XC) : PSpec Try.prog 31 [encX x] (iA (chkX x)) := by
  refine PSpec_of Try.func31 rfl rfl (Nat.le_of_ble_eq_true rfl) (Nat.le_of_ble_eq_true rfl) ?_
  intro E hE
  repeat' (first
    | with_reducible refine useK (by assumption) ?_
    | with_reducible refine useK2 (by assumption) ?_
    | with_reducible refine useX (by assumption) ?_
    | with_reducible refine AW_seqk fun K hK => ?_
    | (with_reducible refine AW_regionS rfl (by rw [hE]; decide) ?_; simp [*, encX])
    | with_reducible refine AW_region (by rw [hE]; decide) ?_
    | ((with_reducible show RK _ _ _ _ _ _); refine RK_nilk ?_; simp [*, encX])
    | ((with_reducible show RK _ _ _ _ _ _); refine RK_stepk fun K' hK' => ?_; simp [*, encX])
    | with_reducible refine AW_drawq mixed (by rw [hE]; decide) (by simp [newOK]) ?_
    | ((with_reducible show RKQ _ _ _ _ _ _); refine RKQ_nilk ⟨by decide, ?_⟩)
    | ((with_reducible show RKQ _ _ _ _ _ _); refine RKQ_stepk fun K' hK' => ?_; simp [*, encX])
    | (with_reducible refine AW_if fun X Y hX hY => ?_; simp [*, encX])
    | with_reducible refine AW_block ?_
    | (with_reducible refine AW_ret ?_; simp [*, encX])
    | (with_reducible refine AW_skip ?_; simp [*, encX])
    | (with_reducible refine AW_exit ?_; simp [*, encX])
    | (refine acall_same (s46b 0 1073741824 x.f x.t) ?_ ?_ ?_; (focus (simp [*, encX] <;> fail)); (focus (simp [*, encX] <;> fail)); simp [*, encX])
    | (refine call_same (s46b 0 1073741824 x.f x.t) ?_ ?_ ?_; (focus (simp [*, encX] <;> fail)); (focus (simp [*, encX] <;> fail)); simp [*, encX])
    | (refine acall_view (s46b 0 1073741824 x.f x.t) ?_ ?_ ?_; (focus (simp [*, encX] <;> fail)); (focus (simp [*, encX] <;> fail)); simp [*, encX])
    | (refine call_view (s46b 0 1073741824 x.f x.t) ?_ ?_ ?_; (focus (simp [*, encX] <;> fail)); (focus (simp [*, encX] <;> fail)); simp [*, encX])
    | (refine acall_same (s46c 0 1073741824 x.s x.r x.l) ?_ ?_ ?_; (focus (simp [*, encX] <;> fail)); (focus (simp [*, encX] <;> fail)); simp [*, encX])
    | (refine call_same (s46c 0 1073741824 x.s x.r x.l) ?_ ?_ ?_; (focus (simp [*, encX] <;> fail)); (focus (simp [*, encX] <;> fail)); simp [*, encX])
    | (refine acall_view (s46c 0 1073741824 x.s x.r x.l) ?_ ?_ ?_; (focus (simp [*, encX] <;> fail)); (focus (simp [*, encX] <;> fail)); simp [*, encX])
    | (refine call_view (s46c 0 1073741824 x.s x.r x.l) ?_ ?_ ?_; (focus (simp [*, encX] <;> fail)); (focus (simp [*, encX] <;> fail)); simp [*, encX])
    | with_reducible refine And.intro ?_ ?_
    | omega
    | (refine imp1 fun h => ?_))
  all_goals simp [chkX, *]

def k1 : R := ⟨1, 5, 0, 0, 0, 10, 0, false⟩
def k2 : R := ⟨1, 5, 1, 0, 0, 11, 0, false⟩
def k3 : R := ⟨1, 6, 0, 0, 0, 12, 0, true⟩
def kl : List R := [k1, k2, k3]
theorem cnt_kl : cntR kl = [k2] := by decide +kernel
theorem kl_len : kl.length = 3 := rfl
theorem st0 : statusR kl k1 = 2 := by decide +kernel
theorem st2 : statusR kl k3 = 3 := by decide +kernel
set_option maxHeartbeats 2000000 in
theorem s14 : PSpec Try.prog 14 [] (bA true) := by
  have l0 : 0 < kl.length := by rw [kl_len]; omega
  have l1 : 1 < kl.length := by rw [kl_len]; omega
  have l2 : 2 < kl.length := by rw [kl_len]; omega
  have a0 : statusR kl kl[0] = 2 := st0
  have a2 : statusR kl kl[2] = 3 := st2
  have hk : kl.length < 1000 := by rw [kl_len]; omega
  have am : missing kl 1 3 = [0, 1, 2] := by decide +kernel
  have hb : ∀ r ∈ kl, r.s ≤ 9223372036854775807 := by intro r hr; simp [kl] at hr; rcases hr with rfl | rfl | rfl <;> simp [k1, k2, k3]
  replace hb := Hld.mk hb
  have ac : (cntR kl).length = 1 := by rw [cnt_kl]; rfl
  have ac0 : 0 < (cntR kl).length := by omega
  have ac1 : (cntR kl)[0] = kl[1] := by simp only [cnt_kl]; rfl
  refine PSpec_of Try.func14 rfl rfl (Nat.le_of_ble_eq_true rfl) (Nat.le_of_ble_eq_true rfl) ?_
  intro E hE
  refine AW_seqk fun K hK => ?_
  refine AW_region (by rw [hE]; decide) ?_
  simp
  refine useK (by assumption) ?_
  refine AW_seqk fun K hK => ?_
  refine AW_region (by rw [hE]; decide) ?_
  simp
  refine useK (by assumption) ?_
  refine AW_freeze 6 (t := ⟨[(1, .sl 8 (kl.map encR)), (0, .v (.bool false))], []⟩) rfl (by simp [kl, k1, k2, k3, encR]) (by simp) ?_
  refine AW_seqk fun K hK => ?_
  refine AW_region (by rw [hE]; decide) ?_
  simp
  refine acall_row (r18' kl (by omega)) (by simp) (.inl (by simp)) (by simp) ?_
  simp
  refine useK (by assumption) ?_
  refine AW_freeze 8 (t := ⟨[(2, .sl 8 ((cntR kl).map encR)), (1, .sl 8 (kl.map encR)), (0, .v (.bool false))], []⟩) rfl (by simp) (by simp) ?_
  repeat' (first
    | with_reducible refine useK (by assumption) ?_
    | with_reducible refine useK2 (by assumption) ?_
    | with_reducible refine useX (by assumption) ?_
    | with_reducible refine AW_seqk fun K hK => ?_
    | (with_reducible refine AW_regionS rfl (by rw [hE]; decide) ?_; simp [*])
    | with_reducible refine AW_region (by rw [hE]; decide) ?_
    | ((with_reducible show RK _ _ _ _ _ _); refine RK_nilk ?_; simp [*])
    | ((with_reducible show RK _ _ _ _ _ _); refine RK_stepk fun K' hK' => ?_; simp [*])
    | with_reducible refine AW_drawq mixed (by rw [hE]; decide) (by simp [newOK]) ?_
    | ((with_reducible show RKQ _ _ _ _ _ _); refine RKQ_nilk ⟨by decide, ?_⟩)
    | ((with_reducible show RKQ _ _ _ _ _ _); refine RKQ_stepk fun K' hK' => ?_; simp [*])
    | (with_reducible refine AW_if fun X Y hX hY => ?_; simp [*])
    | with_reducible refine AW_block ?_
    | (with_reducible refine AW_ret ?_; simp [*])
    | (with_reducible refine AW_skip ?_; simp [*])
    | (with_reducible refine AW_exit ?_; simp [*])
    | (refine acall_same (s22 kl kl[0] (by omega)) ?_ ?_ ?_; (focus (simp [*] <;> fail)); (focus (simp [*] <;> fail)); simp [*])
    | (refine call_same (s22 kl kl[0] (by omega)) ?_ ?_ ?_; (focus (simp [*] <;> fail)); (focus (simp [*] <;> fail)); simp [*])
    | (refine acall_view (s22 kl kl[0] (by omega)) ?_ ?_ ?_; (focus (simp [*] <;> fail)); (focus (simp [*] <;> fail)); simp [*])
    | (refine call_view (s22 kl kl[0] (by omega)) ?_ ?_ ?_; (focus (simp [*] <;> fail)); (focus (simp [*] <;> fail)); simp [*])
    | (refine acall_same (s22 kl kl[2] (by omega)) ?_ ?_ ?_; (focus (simp [*] <;> fail)); (focus (simp [*] <;> fail)); simp [*])
    | (refine call_same (s22 kl kl[2] (by omega)) ?_ ?_ ?_; (focus (simp [*] <;> fail)); (focus (simp [*] <;> fail)); simp [*])
    | (refine acall_view (s22 kl kl[2] (by omega)) ?_ ?_ ?_; (focus (simp [*] <;> fail)); (focus (simp [*] <;> fail)); simp [*])
    | (refine call_view (s22 kl kl[2] (by omega)) ?_ ?_ ?_; (focus (simp [*] <;> fail)); (focus (simp [*] <;> fail)); simp [*])
    | (refine acall_same (s24 kl 1 3 (by omega) hb.out (by omega)) ?_ ?_ ?_; (focus (simp [*] <;> fail)); (focus (simp [*] <;> fail)); simp [*])
    | (refine call_same (s24 kl 1 3 (by omega) hb.out (by omega)) ?_ ?_ ?_; (focus (simp [*] <;> fail)); (focus (simp [*] <;> fail)); simp [*])
    | (refine acall_view (s24 kl 1 3 (by omega) hb.out (by omega)) ?_ ?_ ?_; (focus (simp [*] <;> fail)); (focus (simp [*] <;> fail)); simp [*])
    | (refine call_view (s24 kl 1 3 (by omega) hb.out (by omega)) ?_ ?_ ?_; (focus (simp [*] <;> fail)); (focus (simp [*] <;> fail)); simp [*])
    | (refine acall_same (s23 [0, 1, 2] [0, 1, 2] (by simp)) ?_ ?_ ?_; (focus (simp [*] <;> fail)); (focus (simp [*] <;> fail)); simp [*])
    | (refine call_same (s23 [0, 1, 2] [0, 1, 2] (by simp)) ?_ ?_ ?_; (focus (simp [*] <;> fail)); (focus (simp [*] <;> fail)); simp [*])
    | (refine acall_view (s23 [0, 1, 2] [0, 1, 2] (by simp)) ?_ ?_ ?_; (focus (simp [*] <;> fail)); (focus (simp [*] <;> fail)); simp [*])
    | (refine call_view (s23 [0, 1, 2] [0, 1, 2] (by simp)) ?_ ?_ ?_; (focus (simp [*] <;> fail)); (focus (simp [*] <;> fail)); simp [*])
    | with_reducible refine And.intro ?_ ?_
    | omega
    | (refine imp1 fun h => ?_))
end Go.Proofs.Ytmjckbokjjnmeaa
end
section
namespace Go.Proofs.Ytmjckbokjjnmeaa
open Go.Am
def WF (r : R) : Prop := (-9223372036854775808 ≤ r.o ∧ r.o ≤ 9223372036854775807) ∧ (-9223372036854775808 ≤ r.s ∧ r.s ≤ 9223372036854775807)
theorem shapeR {n : Nat} {cs : List AV} (h : ShapeC Try.prog (n + 2) 23 cs) : ∃ r : R, cs = [iA r.o, iA r.s, iA r.v, iA r.d, iA r.t, iA r.x, iA r.y, bA r.c] ∧ WF r := by
  simp [ShapeC, ShapeF] at h
  obtain ⟨_, _, rfl, ⟨o, rfl, ho⟩, -, h⟩ := h
  obtain ⟨_, _, rfl, ⟨s, rfl, hs⟩, -, h⟩ := h
  obtain ⟨_, _, rfl, ⟨v, rfl, -⟩, -, h⟩ := h
  obtain ⟨_, _, rfl, ⟨d, rfl, -⟩, -, h⟩ := h
  obtain ⟨_, _, rfl, ⟨t, rfl, -⟩, -, h⟩ := h
  obtain ⟨_, _, rfl, ⟨x, rfl, -⟩, -, h⟩ := h
  obtain ⟨_, _, rfl, ⟨y, rfl, -⟩, -, h⟩ := h
  obtain ⟨_, _, rfl, hc, -, rfl⟩ := h
  rcases hc with rfl | rfl
  · exact ⟨⟨o, s, v, d, t, x, y, false⟩, rfl, ho, hs⟩
  · exact ⟨⟨o, s, v, d, t, x, y, true⟩, rfl, ho, hs⟩
theorem avR {n : Nat} {cs : List AV} (h : ShapeC Try.prog (n + 2) 23 cs) : ∃ r : R, mkAV Try.prog 23 cs = encR r ∧ WF r := by
  obtain ⟨r, rfl, hw⟩ := shapeR h
  exact ⟨r, by simp [mkAV, encR], hw⟩
theorem avRs {n : Nat} {cs : List AV} (h : ShapeC Try.prog (n + 3) 27 cs) : ∃ l : List R, mkAV Try.prog 27 cs = .sl 8 (l.map encR) ∧ (∀ r ∈ l, WF r) ∧ l.length ≤ 9223372036854775807 := by
  have e : ShapeC Try.prog (n + 3) 27 cs = (∃ xs, cs = [.sl (Try.prog.cellsOf 23) xs] ∧ xs.length ≤ maxLen ∧ ∀ x ∈ xs, ∃ cs', ShapeC Try.prog (n + 2) 23 cs' ∧ x = (if aggB Try.prog 23 then .st cs' else cs'.headD .u)) := by
    rw [ShapeC, Try.underlying27]
  rw [e] at h
  obtain ⟨xs, rfl, hl, hx⟩ := h
  have key : ∀ xs : List AV, (∀ x ∈ xs, ∃ cs', ShapeC Try.prog (n + 2) 23 cs' ∧ x = (if aggB Try.prog 23 then .st cs' else cs'.headD .u)) → ∃ l : List R, xs = l.map encR ∧ ∀ r ∈ l, WF r := by
    intro xs
    induction xs with
    | nil => intro _; exact ⟨[], rfl, by simp⟩
    | cons x xs ih =>
      intro h
      obtain ⟨l, rfl, hl⟩ := ih (fun y hy => h y (List.mem_cons_of_mem _ hy))
      obtain ⟨cs', h1, h2⟩ := h x List.mem_cons_self
      obtain ⟨r, hr, hw⟩ := avR h1
      refine ⟨r :: l, by rw [h2]; simp only [List.map_cons]; rw [← hr]; rfl, ?_⟩
      intro r' hr'
      rcases List.mem_cons.1 hr' with rfl | hr'
      · exact hw
      · exact hl r' hr'
  obtain ⟨l, rfl, hw⟩ := key xs hx
  refine ⟨l, ?_, hw, by unfold maxLen at hl; simpa using hl⟩
  simp [mkAV]

/-! ### the first law -/
@[simp high] theorem stepBin_R {P : Program} {o : Oper} {op : BinOp} {T : TypeId} {a b : R} {s : AState} {K : AState → Prop} : stepBin P o op T (encR a) (encR b) s K = qstep P o s K := rfl
theorem cmpL_val : ∀ l m : List Int, -1 ≤ cmpL l m ∧ cmpL l m ≤ 1
  | [], [] => by simp [cmpL]
  | [], _ :: _ => by simp [cmpL]
  | _ :: _, [] => by simp [cmpL]
  | a :: l, b :: m => by
    simp only [cmpL]
    have := cmpI_val a b
    split
    · omega
    · exact cmpL_val l m
theorem cmpR_val (a b : R) : -1 ≤ cmpR a b ∧ cmpR a b ≤ 1 := cmpL_val _ _
set_option maxHeartbeats 1000000 in
theorem s3 (a b c : R) : PSpec Try.prog 3 [encR a, encR b, encR c] (bA true) := by
  have h1 := cmpR_swap a b
  have h2 := cmpR_zero (a := a) (b := b)
  have h3 := @cmpR_trans a b c
  have h4 := cmpR_zero (a := a) (b := c)
  obtain ⟨h5, h6⟩ := cmpR_val a b
  have h7 : (decide (cmpR a b = 0) == decide (a = b)) = true := by rw [beq_iff_eq, decide_eq_decide]; exact h2
  replace h1 := Hld.mk h1
  replace h2 := Hld.mk h2
  replace h3 := Hld.mk h3
  replace h4 := Hld.mk h4
  refine PSpec_of Try.func3 rfl rfl (Nat.le_of_ble_eq_true rfl) (Nat.le_of_ble_eq_true rfl) ?_
  intro E hE
  repeat' (first
    | with_reducible refine useK (by assumption) ?_
    | with_reducible refine useK2 (by assumption) ?_
    | with_reducible refine useX (by assumption) ?_
    | with_reducible refine AW_seqk fun K hK => ?_
    | (with_reducible refine AW_regionS rfl (by rw [hE]; decide) ?_; simp [*])
    | with_reducible refine AW_region (by rw [hE]; decide) ?_
    | ((with_reducible show RK _ _ _ _ _ _); refine RK_nilk ?_; simp [*])
    | ((with_reducible show RK _ _ _ _ _ _); refine RK_stepk fun K' hK' => ?_; simp [*])
    | with_reducible refine AW_drawq mixed (by rw [hE]; decide) (by simp [newOK]) ?_
    | ((with_reducible show RKQ _ _ _ _ _ _); refine RKQ_nilk ⟨by decide, ?_⟩)
    | ((with_reducible show RKQ _ _ _ _ _ _); refine RKQ_stepk fun K' hK' => ?_; simp [*])
    | (with_reducible refine AW_if fun X Y hX hY => ?_; simp [*])
    | with_reducible refine AW_block ?_
    | (with_reducible refine AW_ret ?_; simp [*])
    | (with_reducible refine AW_skip ?_; simp [*])
    | (with_reducible refine AW_exit ?_; simp [*])
    | (refine acall_same (s13 _ _) ?_ ?_ ?_; (focus (simp [*] <;> fail)); (focus (simp [*] <;> fail)); simp [*])
    | (refine call_same (s13 _ _) ?_ ?_ ?_; (focus (simp [*] <;> fail)); (focus (simp [*] <;> fail)); simp [*])
    | (refine acall_view (s13 _ _) ?_ ?_ ?_; (focus (simp [*] <;> fail)); (focus (simp [*] <;> fail)); simp [*])
    | (refine call_view (s13 _ _) ?_ ?_ ?_; (focus (simp [*] <;> fail)); (focus (simp [*] <;> fail)); simp [*])
    | (refine acall_same (s15 _ _) ?_ ?_ ?_; (focus (simp [*] <;> fail)); (focus (simp [*] <;> fail)); simp [*])
    | (refine call_same (s15 _ _) ?_ ?_ ?_; (focus (simp [*] <;> fail)); (focus (simp [*] <;> fail)); simp [*])
    | (refine acall_view (s15 _ _) ?_ ?_ ?_; (focus (simp [*] <;> fail)); (focus (simp [*] <;> fail)); simp [*])
    | (refine call_view (s15 _ _) ?_ ?_ ?_; (focus (simp [*] <;> fail)); (focus (simp [*] <;> fail)); simp [*])
    | (refine acall_same (s14) ?_ ?_ ?_; (focus (simp [*] <;> fail)); (focus (simp [*] <;> fail)); simp [*])
    | (refine call_same (s14) ?_ ?_ ?_; (focus (simp [*] <;> fail)); (focus (simp [*] <;> fail)); simp [*])
    | (refine acall_view (s14) ?_ ?_ ?_; (focus (simp [*] <;> fail)); (focus (simp [*] <;> fail)); simp [*])
    | (refine call_view (s14) ?_ ?_ ?_; (focus (simp [*] <;> fail)); (focus (simp [*] <;> fail)); simp [*])
    | with_reducible refine And.intro ?_ ?_
    | omega
    | (refine imp1 fun h => ?_))
  · exact h3.out (by assumption) (by assumption)
  · exact absurd h1.out (by assumption)
end Go.Proofs.Ytmjckbokjjnmeaa
end
section
namespace Go.Proofs.Ytmjckbokjjnmeaa
open Go.Am Go.RowKit Go.ChangeShapes Go.WideShapes Go.ChangeAt

def zR : Value := .agg #[.int .i64 0, .int .i64 0, .int .i64 0, .int .i64 0, .int .i64 0, .int .i64 0, .int .i64 0, .bool false]
theorem ownK : ownKnob Try.prog.godebug = none := by kernel_rfl
theorem laidK : laidOutB Try.prog = true := by kernel_rfl
namespace L3
theorem spec (avs : List AV) (h : ShapeL Try.prog 6 Try.f3.params.toList avs) : PSpec Try.prog 3 avs (.v (.bool true)) := by
  rw [Try.params3] at h
  obtain ⟨c1, r1, rfl, h1, c2, r2, rfl, h2, c3, r3, rfl, h3, rfl⟩ := h
  obtain ⟨a, ha, -⟩ := avR h1
  obtain ⟨b, hb, -⟩ := avR h2
  obtain ⟨c, hc, -⟩ := avR h3
  rw [ha, hb, hc]
  exact s3 a b c
theorem contract (H : Type) (enc : TypeId × Value → H) (W : World) (base : Nat) (args : Array Value) (ds gs : List (DataW H)) (before : List MemPlace)
    (hval : ∀ (j : Nat) t v, Try.f3.params[j]? = some t → args[j]? = some v → Value.okWide Try.prog W .any base t v)
    (hW : DataW.Whole enc Try.prog Try.f3.params.toList Rows.reportComparesSpec.vars false W args.toList ds gs before) :
    Calls Try.prog 3 args W fun e W' => ∃ v, e = .returned v ∧ Rows.reportComparesSpec.post enc Try.prog Try.f3 false true false false W args v W' :=
  law_contract (m := 6) (tb := 4) spec (by rw [Try.params3]; intro t ht; simp at ht; subst ht; kernel_rfl) rfl laidK
    (by rw [Try.params3]; intro t ht; simp at ht; subst ht; exact ⟨by kernel_rfl, by decide +kernel⟩)
    (fun ds hd => by
      rw [Try.params3] at hd
      match ds, hd with
      | [d1, d2, d3], _ => rfl) (by kernel_rfl) Try.underlying4 hval hW
theorem lifted (os : Os) (started : os.Started) (H : Type) (enc : TypeId × Value → H) :
    ReturnsInHanded {} Try.checked os 3 .any (Rows.reportComparesSpec.pre6 enc Try.prog Try.f3 Rows.reportComparesRow.domain false) (Rows.reportComparesSpec.post enc Try.prog Try.f3 false true false false) := by
  refine returnsInHanded_of_change (C := Try.checked) ownK started (by kernel_rfl) Try.func3
    (ChangeSpec.witness6 (enc := enc) (C := Try.checked) false ⟨#[], #[zR, zR, zR], []⟩ 8 (by kernel_rfl) (by kernel_rfl) (by kernel_rfl) (by kernel_rfl)) ?_
  intro W base args ds gs before hval hW hcnd _
  exact contract H enc W base args ds gs before hval hW
theorem said : Rows.ReportComparesSaid :=
  OpenClaim.holds_of_wide 3 Try.f3 rfl rfl rfl rfl rfl rfl rfl ⟨rfl, rfl, rfl, rfl, rfl⟩ rfl rfl rfl rfl rfl (by kernel_rfl) Try.func3 (by kernel_rfl)
    (of_decide_eq_true (by kernel_rfl)) (by unfold Func.isWrapper; first | (rw [if_pos (by decide +kernel)]; kernel_rfl) | (rw [if_neg (by decide +kernel)]; exact ⟨rfl, rfl⟩))
    (fun os started H enc _ => lifted os started H enc)
end L3
end Go.Proofs.Ytmjckbokjjnmeaa
end
section
namespace Go.Proofs.Ytmjckbokjjnmeaa
open Go.Am

/-! ### Status -/
theorem statusR_eq (l : List R) (x : R) : statusR l x = if x ∈ l then (if winB l x = true then (if x.c = true then 3 else 1) else 2) else 0 := by
  unfold statusR
  by_cases hx : x ∈ l
  · rw [if_neg (by simpa using hx), if_pos hx]
    have hI := winM_inv l
    obtain ⟨w, hw, hs⟩ := hI.b x hx
    cases hf : findM x.o x.s (winM l) with
    | none => exact absurd ⟨hs.1.symm, hs.2.symm⟩ (findM_none hf w hw)
    | some v =>
      obtain ⟨hv, hvo⟩ := findM_some hf
      obtain ⟨hvl, hvw⟩ := mem_winM.1 hv
      rw [Option.getD_some]
      have key : v = x ↔ winB l x = true := by
        constructor
        · rintro rfl; exact hvw
        · intro h
          have h1 := winB_iff.1 h v hvl (sid_symm hvo)
          have h2 := winB_iff.1 hvw x hx hvo
          have h3 := cmpR_swap v x
          exact cmpR_zero.1 (by omega)
      by_cases hw : winB l x = true
      · rw [if_neg (fun h => h (key.2 hw)), if_pos hw]
      · rw [if_pos (fun h => hw (key.1 h)), if_neg hw]
  · rw [if_pos hx, if_neg hx]

/-! ### what counts -/
theorem winB_sub {a b : List R} (h : ∀ x, x ∈ a → x ∈ b) {r : R} (hw : winB b r = true) : winB a r = true :=
  winB_iff.2 fun x hx => winB_iff.1 hw x (h x hx)
theorem cntR_sub {l : List R} {x : R} (h : x ∈ cntR l) : x ∈ l := (mem_cntR.1 h).1
theorem cntR_cntR (l : List R) : cntR (cntR l) = cntR l := by
  refine (cntR_SS _).ext (cntR_SS l) (fun x => ?_)
  rw [mem_cntR (l := cntR l)]
  exact ⟨fun h => h.1, fun h => ⟨h, winB_sub (fun y hy => cntR_sub hy) (mem_cntR.1 h).2.1, (mem_cntR.1 h).2.2⟩⟩
theorem cntR_add {l : List R} {r x : R} (h : ¬ sid x r) : x ∈ cntR (l ++ [r]) ↔ x ∈ cntR l := by
  have hne : x ≠ r := by rintro rfl; exact h ⟨rfl, rfl⟩
  have hw : winB (l ++ [r]) x = winB l x := by
    rw [Bool.eq_iff_iff, winB_iff, winB_iff]
    constructor
    · exact fun g y hy => g y (by simp [hy])
    · intro g y hy hs
      rcases List.mem_append.1 hy with hy | hy
      · exact g y hy hs
      · simp at hy; subst hy; exact absurd (sid_symm hs) h
  rw [mem_cntR, mem_cntR, hw]
  simp [hne]
def notSup (l : List R) : List R := l.filter fun x => !decide (statusR l x = 2)
theorem mem_notSup {l : List R} {x : R} : x ∈ notSup l ↔ x ∈ l ∧ winB l x = true := by
  unfold notSup
  simp only [List.mem_filter, Bool.not_eq_true', decide_eq_false_iff_not]
  constructor
  · rintro ⟨h1, h2⟩
    rw [statusR_eq, if_pos h1] at h2
    refine ⟨h1, ?_⟩
    by_cases hw : winB l x = true
    · exact hw
    · rw [if_neg hw] at h2; exact absurd rfl h2
  · rintro ⟨h1, h2⟩
    refine ⟨h1, ?_⟩
    rw [statusR_eq, if_pos h1, if_pos h2]
    split <;> omega
theorem above_notSup {l : List R} {y : R} (hy : y ∈ l) : ∃ w ∈ notSup l, sid w y ∧ cmpR y w ≤ 0 := by
  have hI := winM_inv l
  obtain ⟨w, hw, hs⟩ := hI.b y hy
  exact ⟨w, mem_notSup.2 (mem_winM.1 hw), hs, (hI.a w hw).2 y hy (sid_symm hs)⟩
theorem cntR_merge (a b : List R) : cntR (notSup a ++ notSup b) = cntR (a ++ b) := by
  have hsub : ∀ x, x ∈ notSup a ++ notSup b → x ∈ a ++ b := by
    intro x hx
    rcases List.mem_append.1 hx with hx | hx
    · exact List.mem_append_left _ (mem_notSup.1 hx).1
    · exact List.mem_append_right _ (mem_notSup.1 hx).1
  have hab : ∀ y ∈ a ++ b, ∃ w ∈ notSup a ++ notSup b, sid w y ∧ cmpR y w ≤ 0 := by
    intro y hy
    rcases List.mem_append.1 hy with hy | hy
    · obtain ⟨w, hw, h⟩ := above_notSup hy
      exact ⟨w, List.mem_append_left _ hw, h⟩
    · obtain ⟨w, hw, h⟩ := above_notSup hy
      exact ⟨w, List.mem_append_right _ hw, h⟩
  refine (cntR_SS _).ext (cntR_SS _) (fun x => ?_)
  rw [mem_cntR, mem_cntR]
  constructor
  · rintro ⟨h1, h2, h3⟩
    refine ⟨hsub x h1, winB_iff.2 fun y hy hs => ?_, h3⟩
    obtain ⟨w, hw, hwy, hc⟩ := hab y hy
    exact cmpR_trans hc (winB_iff.1 h2 w hw (sid_trans hwy hs))
  · rintro ⟨h1, h2, h3⟩
    refine ⟨?_, winB_sub hsub h2, h3⟩
    rcases List.mem_append.1 h1 with h1 | h1
    · exact List.mem_append_left _ (mem_notSup.2 ⟨h1, winB_sub (fun y hy => List.mem_append_left _ hy) h2⟩)
    · exact List.mem_append_right _ (mem_notSup.2 ⟨h1, winB_sub (fun y hy => List.mem_append_right _ hy) h2⟩)

/-! ### sorted lists of numbers -/
def SI (l : List Int) : Prop := l.Pairwise fun a b => a < b
theorem SI.ext : ∀ {a b : List Int}, SI a → SI b → (∀ x, x ∈ a ↔ x ∈ b) → a = b
  | [], [], _, _, _ => rfl
  | [], y :: b, _, _, h => by simpa using (h y).2 List.mem_cons_self
  | x :: a, [], _, _, h => by simpa using (h x).1 List.mem_cons_self
  | x :: a, y :: b, ha, hb, h => by
    have ha1 := (List.pairwise_cons.1 ha).1
    have hb1 := (List.pairwise_cons.1 hb).1
    have hxy : x = y := by
      have hx := (h x).1 List.mem_cons_self
      have hy := (h y).2 List.mem_cons_self
      rcases List.mem_cons.1 hx with e | hx
      · exact e
      · rcases List.mem_cons.1 hy with e | hy
        · exact e.symm
        · have := hb1 x hx
          have := ha1 y hy
          omega
    subst hxy
    have hnot : ∀ l : List Int, (∀ z ∈ l, x < z) → x ∉ l := fun l hl hx => by have := hl x hx; omega
    have e : a = b := SI.ext (List.pairwise_cons.1 ha).2 (List.pairwise_cons.1 hb).2 (fun z => by
      have hz := h z
      simp only [List.mem_cons] at hz
      constructor
      · intro hza
        have : z ≠ x := by rintro rfl; exact hnot a ha1 hza
        exact ((hz.1 (.inr hza)).resolve_left this)
      · intro hzb
        have : z ≠ x := by rintro rfl; exact hnot b hb1 hzb
        exact ((hz.2 (.inr hzb)).resolve_left this))
    rw [e]
theorem ddI_snoc (l : List Int) (x : Int) : ddI (l ++ [x]) = ddSI (ddI l) x := by unfold ddI; rw [List.foldl_append]; rfl
theorem mem_ddSI {D : List Int} {x y : Int} : y ∈ ddSI D x ↔ y ∈ D ∨ y = x := by
  unfold ddSI
  split
  · rename_i h
    have := List.mem_of_getLast? h
    constructor
    · exact .inl
    · rintro (h | rfl)
      · exact h
      · exact this
  · simp
theorem ddI_ind (P : List Int → List Int → Prop) (h0 : P [] []) (hs : ∀ l x, P l (ddI l) → P (l ++ [x]) (ddSI (ddI l) x)) (l : List Int) : P l (ddI l) := by
  have key : ∀ n, ∀ l : List Int, l.length = n → P l (ddI l) := by
    intro n
    induction n with
    | zero => intro l h; rw [List.eq_nil_of_length_eq_zero h]; exact h0
    | succ n ih =>
      intro l h
      have hne : l ≠ [] := by rintro rfl; simp at h
      rw [← List.dropLast_concat_getLast hne, ddI_snoc]
      exact hs _ _ (ih _ (by simp [h]))
  exact key _ l rfl
theorem mem_ddI (l : List Int) (x : Int) : x ∈ ddI l ↔ x ∈ l :=
  ddI_ind (fun l D => x ∈ D ↔ x ∈ l) (by simp) (fun l y ih => by rw [mem_ddSI, ih]; simp) l
theorem ddI_SI (l : List Int) (h : l.Pairwise fun a b => a ≤ b) : SI (ddI l) := by
  refine ddI_ind (fun l D => (l.Pairwise fun a b => a ≤ b) → SI D) (fun _ => List.Pairwise.nil) (fun l y ih h => ?_) l h
  have hl := (List.pairwise_append.1 h).1
  have hy : ∀ a ∈ l, a ≤ y := fun a ha => (List.pairwise_append.1 h).2.2 a ha y (by simp)
  have hss := ih hl
  unfold ddSI
  split
  · exact hss
  · rename_i hne
    refine List.pairwise_append.2 ⟨hss, List.pairwise_singleton _ _, fun a ha b hb => ?_⟩
    rw [List.mem_singleton] at hb
    subst hb
    have h1 := hy a ((mem_ddI l a).1 ha)
    by_cases h0 : a = b
    · exfalso
      subst h0
      have hD : ddI l ≠ [] := List.ne_nil_of_mem ha
      have hlast := List.getLast_mem hD
      have h2 := hy _ ((mem_ddI l _).1 hlast)
      have h3 : a = (ddI l).getLast hD ∨ a < (ddI l).getLast hD := by
        have hsp := List.dropLast_concat_getLast hD
        rw [← hsp] at ha hss
        rcases List.mem_append.1 ha with ha | ha
        · exact .inr ((List.pairwise_append.1 hss).2.2 a ha _ (by simp))
        · exact .inl (by simpa using ha)
      rcases h3 with h3 | h3
      · rw [List.getLast?_eq_some_getLast hD] at hne
        exact hne (congrArg some h3.symm)
      · omega
    · omega
theorem mem_sortZ (l : List Int) (x : Int) : x ∈ sortZ l ↔ x ∈ l := (List.mergeSort_perm l _).mem_iff
theorem cmpR_o {a b : R} (h : cmpR a b < 0) : a.o ≤ b.o := by
  unfold cmpR at h
  simp only [fieldsR, cmpL] at h
  by_cases h0 : cmpI a.o b.o ≠ 0
  · rw [if_pos h0] at h
    have := cmpI_neg.1 h
    omega
  · have := cmpI_zero.1 (Decidable.of_not_not h0)
    omega
theorem SS_o {l : List R} (h : SS l) : (l.map R.o).Pairwise fun a b => a ≤ b := List.Pairwise.map R.o (fun _ _ h => cmpR_o h) h

/-! ### Changed -/
def difB (x y : List R) (r : R) : Bool := !(decide (r ∈ x) == decide (r ∈ y))
def wantC (x y all : List R) : List Int := ddI ((all.filter (difB x y)).map R.o)
theorem sortZ_le (l : List Int) : (sortZ l).Pairwise fun a b => a ≤ b := by
  have h := List.pairwise_mergeSort (le := fun x y => decide (x ≤ y)) (by
    intro a b c h1 h2
    simp only [decide_eq_true_eq] at *
    omega) (by
    intro a b
    simp only [Bool.or_eq_true, decide_eq_true_eq]
    omega) l
  exact List.Pairwise.imp (fun {a b} hab => by simpa using hab) h
theorem wantC_eq (a b : List R) : wantC (cntR a) (cntR b) (setR (cntR a ++ cntR b)) = chgR a b := by
  unfold wantC chgR
  refine SI.ext (ddI_SI _ (SS_o ((setR_SS _).filter _))) (ddI_SI _ (sortZ_le _)) (fun x => ?_)
  rw [mem_ddI, mem_ddI, mem_sortZ]
  unfold allD difR
  simp only [List.mem_map, List.mem_filter, mem_setR, List.mem_append, difB, Bool.not_eq_true', decide_eq_false_iff_not]
  constructor
  · rintro ⟨r, ⟨h1, h2⟩, rfl⟩
    by_cases ha : r ∈ cntR a
    · by_cases hb : r ∈ cntR b
      · simp [ha, hb] at h2
      · exact .inl ⟨r, ⟨ha, hb⟩, rfl⟩
    · exact .inr ⟨r, ⟨h1.resolve_left ha, ha⟩, rfl⟩
  · rintro (⟨r, ⟨h1, h2⟩, rfl⟩ | ⟨r, ⟨h1, h2⟩, rfl⟩)
    · exact ⟨r, ⟨.inl h1, by simp [h1, h2]⟩, rfl⟩
    · exact ⟨r, ⟨.inr h1, by simp [h1, h2]⟩, rfl⟩
theorem chgR_comm (a b : List R) : chgR b a = chgR a b := by
  unfold chgR
  refine SI.ext (ddI_SI _ (sortZ_le _)) (ddI_SI _ (sortZ_le _)) (fun x => ?_)
  rw [mem_ddI, mem_ddI, mem_sortZ, mem_sortZ]
  unfold allD
  simp only [List.mem_append]
  exact Or.comm
theorem chgR_nil {a b : List R} (h : cntR a = cntR b) : chgR a b = [] := by
  have : allD a b = [] := by unfold allD difR; rw [h]; simp
  unfold chgR
  rw [this]; simp [sortZ, ddI]
theorem wantC_len (x y all : List R) : (wantC x y all).length ≤ all.length := by
  unfold wantC
  have h := dd_lenI (l := (all.filter (difB x y)).map R.o) (i := ((all.filter (difB x y)).map R.o).length) (Nat.le_refl _)
  rw [List.take_length] at h
  simp at h
  exact Nat.le_trans h (List.length_filter_le _ _)
theorem wantC_take {x y all : List R} {i : Nat} (h : i < all.length) : wantC x y (all.take (i + 1)) = if difB x y all[i] = true then ddSI (wantC x y (all.take i)) all[i].o else wantC x y (all.take i) := by
  unfold wantC
  rw [List.take_succ_eq_append_getElem h, List.filter_append, List.map_append]
  by_cases hd : difB x y all[i] = true
  · rw [if_pos hd]
    simp only [List.filter_cons, hd, if_true, List.filter_nil, List.map_cons, List.map_nil]
    rw [ddI_snoc]
  · rw [if_neg hd]
    simp [hd]

/-! ### Missing -/
theorem haveM_snoc (ob : Int) (l : List R) (r : R) : haveM ob (l ++ [r]) = stepH ob (haveM ob l) r := by unfold haveM; rw [List.foldl_append]; rfl
theorem haveM_ind (ob : Int) (P : List R → List Int × Int → Prop) (h0 : P [] ([], -1)) (hs : ∀ l x, P l (haveM ob l) → P (l ++ [x]) (stepH ob (haveM ob l) x)) (l : List R) : P l (haveM ob l) := by
  have key : ∀ n, ∀ l : List R, l.length = n → P l (haveM ob l) := by
    intro n
    induction n with
    | zero => intro l h; rw [List.eq_nil_of_length_eq_zero h]; exact h0
    | succ n ih =>
      intro l h
      have hne : l ≠ [] := by rintro rfl; simp at h
      rw [← List.dropLast_concat_getLast hne, haveM_snoc]
      exact hs _ _ (ih _ (by simp [h]))
  exact key _ l rfl
theorem mem_haveM (ob : Int) (l : List R) (k : Int) : k ∈ (haveM ob l).1 ↔ ∃ r ∈ l, r.o = ob ∧ r.s = k := by
  refine haveM_ind ob (fun l g => k ∈ g.1 ↔ ∃ r ∈ l, r.o = ob ∧ r.s = k) (by simp) (fun l x ih => ?_) l
  unfold stepH
  by_cases hx : x.o = ob
  · rw [if_pos hx]
    simp only [mem_updH, ih, List.mem_append, List.mem_singleton]
    constructor
    · rintro (rfl | ⟨r, h1, h2⟩)
      · exact ⟨x, .inr rfl, hx, rfl⟩
      · exact ⟨r, .inl h1, h2⟩
    · rintro ⟨r, h1 | rfl, h2, h3⟩
      · exact .inr ⟨r, h1, h2, h3⟩
      · exact .inl h3.symm
  · rw [if_neg hx, ih]
    constructor
    · rintro ⟨r, h1, h2⟩
      exact ⟨r, by simp [h1], h2⟩
    · rintro ⟨r, h1, h2, h3⟩
      rcases List.mem_append.1 h1 with h1 | h1
      · exact ⟨r, h1, h2, h3⟩
      · simp at h1; subst h1; exact absurd h2 hx
theorem haveM_max (ob : Int) (l : List R) (z : Int) : (haveM ob l).2 ≤ z ↔ -1 ≤ z ∧ ∀ r ∈ l, r.o = ob → r.s ≤ z := by
  refine haveM_ind ob (fun l g => g.2 ≤ z ↔ -1 ≤ z ∧ ∀ r ∈ l, r.o = ob → r.s ≤ z) (by simp) (fun l x ih => ?_) l
  unfold stepH
  by_cases hx : x.o = ob
  · rw [if_pos hx]
    simp only [Int.max_le, ih, List.mem_append, List.mem_singleton]
    constructor
    · rintro ⟨⟨h1, h2⟩, h3⟩
      refine ⟨h1, fun r hr ho => ?_⟩
      rcases hr with hr | rfl
      · exact h2 r hr ho
      · exact h3
    · rintro ⟨h1, h2⟩
      exact ⟨⟨h1, fun r hr => h2 r (.inl hr)⟩, h2 x (.inr rfl) hx⟩
  · rw [if_neg hx, ih]
    constructor
    · rintro ⟨h1, h2⟩
      refine ⟨h1, fun r hr ho => ?_⟩
      rcases List.mem_append.1 hr with hr | hr
      · exact h2 r hr ho
      · simp at hr; subst hr; exact absurd ho hx
    · rintro ⟨h1, h2⟩
      exact ⟨h1, fun r hr => h2 r (by simp [hr])⟩
theorem missL_congr {h h' : List Int} (he : ∀ k, k ∈ h ↔ k ∈ h') (last most : Int) : ∀ (f : Nat) (n : Int) (out : List Int), missL h last most f n out = missL h' last most f n out
  | 0, _, _ => rfl
  | f + 1, n, out => by
    simp only [missL]
    have e : (if n ∈ h then out else out ++ [n]) = (if n ∈ h' then out else out ++ [n]) := by
      by_cases hn : n ∈ h
      · rw [if_pos hn, if_pos ((he n).1 hn)]
      · rw [if_neg hn, if_neg (fun g => hn ((he n).2 g))]
    rw [e, missL_congr he last most f]
theorem missing_congr {a b : List R} (h : ∀ x, x ∈ a ↔ x ∈ b) (ob most : Int) : missing a ob most = missing b ob most := by
  have h2 : (haveM ob a).2 = (haveM ob b).2 := by
    have h1 : ∀ z, (haveM ob a).2 ≤ z ↔ (haveM ob b).2 ≤ z := by
      intro z
      rw [haveM_max, haveM_max]
      exact ⟨fun ⟨p, q⟩ => ⟨p, fun r hr => q r ((h r).2 hr)⟩, fun ⟨p, q⟩ => ⟨p, fun r hr => q r ((h r).1 hr)⟩⟩
    have i1 := (h1 (haveM ob b).2).2 (Int.le_refl _)
    have i2 := (h1 (haveM ob a).2).1 (Int.le_refl _)
    omega
  unfold missing
  rw [h2]
  exact missL_congr (fun k => by
    rw [mem_haveM, mem_haveM]
    exact ⟨fun ⟨r, p, q⟩ => ⟨r, (h r).1 p, q⟩, fun ⟨r, p, q⟩ => ⟨r, (h r).2 p, q⟩⟩) _ _ _ _ _
theorem ofR_congr {a b : List R} (h : ∀ x, x ∈ a ↔ x ∈ b) (ob : Int) : ofR a ob = ofR b ob := by unfold ofR; rw [cntR_congr h]
theorem objR_congr {a b : List R} (h : ∀ x, x ∈ a ↔ x ∈ b) : objR a = objR b := by unfold objR; rw [cntR_congr h]
theorem statusR_congr {a b : List R} (h : ∀ x, x ∈ a ↔ x ∈ b) (r : R) : statusR a r = statusR b r := by
  rw [statusR_eq, statusR_eq, winB_congr h r]
  by_cases hr : r ∈ a
  · rw [if_pos hr, if_pos ((h r).1 hr)]
  · rw [if_neg hr, if_neg (fun g => hr ((h r).2 g))]
end Go.Proofs.Ytmjckbokjjnmeaa
end
section
namespace Go.Proofs.Ytmjckbokjjnmeaa
open Go.Am

@[simp] theorem view_encR {bf : Nat → Option Ct} {r : R} : View bf (encR r) (encR r) := view_self rfl
theorem s18 (l : List R) (hl : l.length ≤ 1000) : PSpec Try.prog 18 [.sl 8 (l.map encR)] (.sl 8 ((cntR l).map encR)) := (r18' l (by omega)).toP (by simp)
theorem s25 (l : List R) (hl : l.length ≤ 1000) : PSpec Try.prog 25 [.sl 8 (l.map encR)] (.sl 8 ((setR l).map encR)) := (r25 l (by omega)).toP (by simp)
theorem s19 (a b c : List R) (hc : c = a ++ b) (hl : a.length + b.length ≤ 1000) : PSpec Try.prog 19 [.sl 8 (a.map encR), .sl 8 (b.map encR)] (.sl 8 (c.map encR)) := by
  have h := r19 a b (by omega)
  rw [← hc] at h
  exact h.toP (by simp)
theorem s19s (a : List R) (r : R) (c : List R) (hc : c = a ++ [r]) (hl : a.length ≤ 1000) : RSpec Try.prog 19 [.sl 8 (a.map encR), .sl 8 [encR r]] 23 8 (c.map encR) := by
  have h := r19 a [r] (by simp; omega)
  rw [← hc] at h
  exact h
theorem n19s (a : List R) (r : R) (c : List R) (hc : c = a ++ [r]) (hl : a.length ≤ 1000) : NSpec Try.prog 19 [.sl 8 (a.map encR), .sl 8 [encR r]] (fun t => .own t 8 0 c.length) (.arr 23 8 (c.map encR)) := by
  have h := (s19s a r c hc hl).toN (by rw [hc]; simp) (by simp)
  rw [List.length_map] at h
  exact h
theorem s34 (l : List R) (ob : Int) (hl : l.length ≤ 1000) : PSpec Try.prog 34 [.sl 8 (l.map encR), iA ob] (.sl 8 ((ofR l ob).map encR)) := (r34 l ob (by omega)).toP (by simp)
theorem s32 (l : List R) (hl : l.length ≤ 1000) : PSpec Try.prog 32 [.sl 8 (l.map encR)] (.sl 1 ((objR l).map iA)) := (r32 l (by omega)).toP (by simp)
theorem s35 (a b : List R) (ha : a.length ≤ 1000) (hb : b.length ≤ 1000) : PSpec Try.prog 35 [.sl 8 (a.map encR), .sl 8 (b.map encR)] (.sl 1 ((chgR a b).map iA)) := (r35 a b (by omega) (by omega)).toP (by simp)
theorem r44' (a b : List R) (c : List R) (hc : c = a ++ b) (hl : a.length + b.length ≤ 1000) : RSpec Try.prog 44 [.sl 1 [.sl 8 (a.map encR), .sl 8 (b.map encR)]] 23 8 (c.map encR) := by
  have h : catR [a, b] = c := by simp [catR, hc]
  have := r44 [a, b] (by simp) (by rw [h, hc, List.length_append]; omega)
  rw [h] at this
  exact this
theorem r27 (a b : List R) (c : List R) (hc : c = a ++ b) (hl : a.length + b.length ≤ 1000) : RSpec Try.prog 27 [.sl 8 (a.map encR), .sl 8 (b.map encR)] 23 8 ((setR c).map encR) := by
  have hcl : c.length ≤ 1000 := by rw [hc, List.length_append]; omega
  replace hc := Hld.mk hc
  refine MSpec_of Try.func27 rfl rfl (Nat.le_of_ble_eq_true rfl) (Nat.le_of_ble_eq_true rfl) ?_
  intro E hE
  repeat' (first
    | with_reducible refine useK (by assumption) ?_
    | with_reducible refine useK2 (by assumption) ?_
    | with_reducible refine useX (by assumption) ?_
    | with_reducible refine AW_seqk fun K hK => ?_
    | (with_reducible refine AW_regionS rfl (by rw [hE]; decide) ?_; simp [*])
    | with_reducible refine AW_region (by rw [hE]; decide) ?_
    | ((with_reducible show RK _ _ _ _ _ _); refine RK_nilk ?_; simp [*])
    | ((with_reducible show RK _ _ _ _ _ _); refine RK_stepk fun K' hK' => ?_; simp [*])
    | with_reducible refine AW_drawq mixed (by rw [hE]; decide) (by simp [newOK]) ?_
    | ((with_reducible show RKQ _ _ _ _ _ _); refine RKQ_nilk ⟨by decide, ?_⟩)
    | ((with_reducible show RKQ _ _ _ _ _ _); refine RKQ_stepk fun K' hK' => ?_; simp [*])
    | (with_reducible refine AW_if fun X Y hX hY => ?_; simp [*])
    | with_reducible refine AW_block ?_
    | (with_reducible refine AW_ret ?_; simp [*])
    | (with_reducible refine AW_skip ?_; simp [*])
    | (with_reducible refine AW_exit ?_; simp [*])
    | (refine acall_row (r44' a b c hc.out hl) ?_ (.inl ?_) ?_ ?_; (focus (simp [*] <;> fail)); (focus (simp [*] <;> fail)); (focus (simp [*] <;> fail)); simp [*])
    | (refine acall_row (r25 c (by omega)) ?_ (.inl ?_) ?_ ?_; (focus (simp [*] <;> fail)); (focus (simp [*] <;> fail)); (focus (simp [*] <;> fail)); simp [*])
    | with_reducible refine And.intro ?_ ?_
    | omega
    | (refine imp1 fun h => ?_))
  all_goals exact ⟨9, ⟨rfl, rfl⟩, _, ⟨rfl, rfl⟩, take_len encR (setR c)⟩
theorem s27 (a b : List R) (c : List R) (hc : c = a ++ b) (hl : a.length + b.length ≤ 1000) : PSpec Try.prog 27 [.sl 8 (a.map encR), .sl 8 (b.map encR)] (.sl 8 ((setR c).map encR)) := (r27 a b c hc hl).toP (by simp)
theorem avI {n : Nat} {cs : List AV} (h : ShapeC Try.prog (n + 2) 3 cs) : ∃ a : Int, mkAV Try.prog 3 cs = iA a ∧ -9223372036854775808 ≤ a ∧ a ≤ 9223372036854775807 := by
  simp [ShapeC] at h
  obtain ⟨a, rfl, h1, h2⟩ := h
  exact ⟨a, by simp [mkAV], h1, h2⟩
theorem avB {n : Nat} {cs : List AV} (h : ShapeC Try.prog (n + 2) 5 cs) : ∃ a : Int, mkAV Try.prog 5 cs = .v (.int .u8 a) ∧ 0 ≤ a ∧ a ≤ 255 := by
  simp [ShapeC] at h
  obtain ⟨a, rfl, h1, h2⟩ := h
  exact ⟨a, by simp [mkAV], h1, h2⟩
end Go.Proofs.Ytmjckbokjjnmeaa
end
