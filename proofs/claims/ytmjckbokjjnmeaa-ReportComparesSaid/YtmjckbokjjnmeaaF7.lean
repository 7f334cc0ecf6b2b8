/- report.Missing. -/
import Derived.Test.YtmjckbokjjnmeaaF6
namespace Go.Proofs.Ytmjckbokjjnmeaa
open Go.Am

def stepH (ob : Int) (g : List Int × Int) (r : R) : List Int × Int := if r.o = ob then (updH r.s g.1, max g.2 r.s) else g
def haveM (ob : Int) (l : List R) : List Int × Int := l.foldl (stepH ob) ([], -1)
def missL (h : List Int) (last most : Int) : Nat → Int → List Int → List Int
  | 0, _, out => out
  | f + 1, n, out => if n < last ∧ (out.length : Int) < most then missL h last most f (n + 1) (if n ∈ h then out else out ++ [n]) else out
def missing (l : List R) (ob most : Int) : List Int := missL (haveM ob l).1 (haveM ob l).2 most ((haveM ob l).2 + 1).toNat 0 []

theorem take_foldH {ob : Int} {l : List R} {i : Nat} (h : i < l.length) : (l.take (i + 1)).foldl (stepH ob) ([], -1) = stepH ob ((l.take i).foldl (stepH ob) ([], -1)) l[i] := by
  rw [List.take_succ_eq_append_getElem h, List.foldl_append]
  rfl

@[simp] theorem take_len {α β : Type} (f : α → β) (l : List α) : (l.map f).take l.length = l.map f := by
  rw [← List.length_map (f := f), List.take_length]

theorem haveM_le (ob : Int) : ∀ (l : List R) (g : List Int × Int), g.2 ≤ 9223372036854775807 → (∀ r ∈ l, r.s ≤ 9223372036854775807) → (l.foldl (stepH ob) g).2 ≤ 9223372036854775807
  | [], g, h, _ => h
  | r :: l, g, h, hl => by
    refine haveM_le ob l _ ?_ (fun x hx => hl x (List.mem_cons_of_mem _ hx))
    have := hl r List.mem_cons_self
    unfold stepH
    split
    · simp only; omega
    · exact h

/-- A row that grows from nil: its value and its box. -/
def growA (id k : Nat) (xs : List AV) : AV := if xs = [] then .v (.slice none 0 0) else .own id k 0 xs.length
def growB (id T k : Nat) (xs : List AV) : List (Nat × Ct) := if xs = [] then [] else [(id, .arr T k xs)]

theorem s24 (l : List R) (ob most : Int) (hl : l.length < 4611686018427387904) (hb : ∀ r ∈ l, r.s ≤ 9223372036854775807) (hm : most ≤ 1000000) : PSpec Try.prog 24 [.sl 8 (l.map encR), iA ob, iA most] (.sl 1 ((missing l ob most).map iA)) := by
  refine PSpec_of Try.func24 rfl rfl (Nat.le_of_ble_eq_true rfl) (Nat.le_of_ble_eq_true rfl) ?_
  intro E hE
  refine AW_seq fun K hK => ?_
  refine AW_region (by rw [hE]; decide) ?_
  simp
  refine hK _ ?_
  clear hK
  refine AW_seq fun K hK => ?_
  refine AW_region (by rw [hE]; decide) ?_
  simp
  refine hK _ ?_
  clear hK
  refine AW_seq fun K hK => ?_
  refine AW_region (by rw [hE]; decide) ?_
  simp
  refine hK _ ?_
  clear hK
  refine AW_seq fun K0 hK0 => ?_
  refine AW_seq fun K hK => ?_
  refine AW_region (by rw [hE]; decide) ?_
  simp
  refine hK _ ?_
  clear hK
  refine AW_block ?_
  refine AW_loop (G := Nat) (fun i => ⟨[(16, iA i), (15, iA l.length), (14, .sl 8 (l.map encR)), (7, .mp 13), (8, iA ((l.take i).foldl (stepH ob) ([], -1)).2), (1, iA ob), (2, iA most)], [(13, .map (encH ((l.take i).foldl (stepH ob) ([], -1)).1) none)]⟩)
    (fun i => i ≤ l.length) (fun i => l.length - i) 0 (Nat.zero_le _) (by simp) ?_
  intro i hi
  generalize hg : (l.take i).foldl (stepH ob) ([], -1) = g
  refine AW_seq fun K1 hK1 => ?_
  refine AW_region (by rw [hE]; decide) ?_
  simp
  refine hK1 _ ?_
  clear hK1
  refine AW_seq fun K1 hK1 => ?_
  refine AW_cond (t := decide (i < l.length)) (by simp) ?_ ?_
  · intro hlt
    have hlt := of_decide_eq_true hlt
    have hf := take_foldH (ob := ob) hlt
    rw [hg] at hf
    refine AW_skip ?_
    simp
    refine hK1 _ ?_
    clear hK1
    refine AW_seq fun K1 hK1 => ?_
    refine AW_block ?_
    refine AW_seq fun K hK => ?_
    refine AW_region (by rw [hE]; decide) ?_
    simp [hlt]
    refine hK _ ?_
    clear hK
    refine AW_seq fun K hK => ?_
    refine AW_region (by rw [hE]; decide) ?_
    simp
    refine hK _ ?_
    clear hK
    refine AW_cond (t := decide (l[i].o = ob)) (by simp) ?_ ?_
    · intro h
      have h := of_decide_eq_true h
      have hf : (l.take (i + 1)).foldl (stepH ob) ([], -1) = (updH l[i].s g.1, max g.2 l[i].s) := by rw [hf]; simp [stepH, h]
      refine AW_seq fun K hK => ?_
      refine AW_region (by rw [hE]; decide) ?_
      simp
      refine hK _ ?_
      clear hK
      refine AW_region (by rw [hE]; decide) ?_
      simp
      refine hK1 _ ?_
      refine AW_region (by rw [hE]; decide) ?_
      simp
      refine ⟨by omega, i + 1, by omega, by omega, ?_⟩
      simp [hf]
    · intro h
      have h := of_decide_eq_false h
      have hf : (l.take (i + 1)).foldl (stepH ob) ([], -1) = g := by rw [hf]; simp [stepH, h]
      refine AW_skip ?_
      simp
      refine hK1 _ ?_
      refine AW_region (by rw [hE]; decide) ?_
      simp
      refine ⟨by omega, i + 1, by omega, by omega, ?_⟩
      simp [hf]
  · intro hlt
    have hlt := of_decide_eq_false hlt
    have : i = l.length := by omega
    subst this
    rw [List.take_length] at hg
    refine AW_exit ?_
    simp
    refine hK0 _ ?_
    clear hK0
    refine AW_seq fun K hK => ?_
    refine AW_region (by rw [hE]; decide) ?_
    simp
    refine hK _ ?_
    clear hK
    refine AW_seq fun K0 hK0 => ?_
    refine AW_seq fun K hK => ?_
    refine AW_region (by rw [hE]; decide) ?_
    simp
    refine hK _ ?_
    clear hK
    refine AW_block ?_
    refine AW_loop (G := Int × List Int) (fun p => ⟨[(12, iA p.1), (8, iA g.2), (11, growA 50 1 (p.2.map iA)), (7, .mp 13), (2, iA most)], (13, .map (encH g.1) none) :: growB 50 3 1 (p.2.map iA)⟩)
      (fun p => 0 ≤ p.1 ∧ (p.1 ≤ g.2 ∨ p.1 = 0) ∧ (p.2.length : Int) ≤ max most 0 ∧ missL g.1 g.2 most (g.2 + 1 - p.1).toNat p.1 p.2 = missing l ob most) (fun p => (g.2 - p.1).toNat) (0, []) ⟨by omega, .inr rfl, by simp; omega, by unfold missing; rw [show haveM ob l = g from hg]; simp⟩ (by simp [growA, growB]) ?_
    rintro ⟨n, out⟩ ⟨hn0, hn1, hlen, heq⟩
    simp only at hn0 hn1 hlen heq
    have hg2 : g.2 ≤ 9223372036854775807 := by rw [← hg]; exact haveM_le ob l _ (by simp) hb
    refine AW_seq fun K1 hK1 => ?_
    refine AW_seq fun K2 hK2 => ?_
    have fin : ∀ s', s'.le ⟨[(40, bA (decide (n < g.2 ∧ (out.length : Int) < most))), (12, iA n), (8, iA g.2), (11, growA 50 1 (out.map iA)), (7, .mp 13), (2, iA most)], (13, .map (encH g.1) none) :: growB 50 3 1 (out.map iA)⟩ → K2 s' := by
      intro s' hs'
      refine hK2 _ ?_
      refine AW_le hs' ?_
      clear hK2
      refine AW_cond (t := decide (n < g.2 ∧ (out.length : Int) < most)) (by simp) ?_ ?_
      · intro hc
        have hc := of_decide_eq_true hc
        have hnext : missL g.1 g.2 most (g.2 + 1 - (n + 1)).toNat (n + 1) (if n ∈ g.1 then out else out ++ [n]) = missing l ob most := by
          rw [← heq, show (g.2 + 1 - n).toNat = (g.2 + 1 - (n + 1)).toNat + 1 by omega, missL, if_pos hc]
        refine AW_skip ?_
        simp
        refine hK1 _ ?_
        clear hK1
        refine AW_seq fun K1 hK1 => ?_
        refine AW_block ?_
        by_cases hh : n ∈ g.1
        · rw [if_pos hh] at hnext
          refine AW_seq fun K hK => ?_
          refine AW_region (by rw [hE]; decide) ?_
          simp [findH, hh]
          refine hK _ ?_
          clear hK
          refine AW_cond (t := false) (by simp) ?_ ?_
          · intro h; cases h
          intro _
          refine AW_skip ?_
          simp
          refine hK1 _ ?_
          refine AW_region (by rw [hE]; decide) ?_
          simp
          refine ⟨by omega, n + 1, out, ⟨by omega, by omega, by omega, hnext⟩, by omega, by by_cases ho : out = [] <;> simp [growA, growB, ho]⟩
        · rw [if_neg hh] at hnext
          refine AW_seq fun K hK => ?_
          refine AW_region (by rw [hE]; decide) ?_
          simp [findH, hh]
          refine hK _ ?_
          clear hK
          refine AW_cond (t := true) (by simp) ?_ ?_
          rotate_left
          · intro h; cases h
          intro _
          by_cases ho : out = []
          · subst ho
            refine AW_region (by rw [hE]; decide) ?_
            simp [growA, growB]
            refine hK1 _ ?_
            refine AW_region (by rw [hE]; decide) ?_
            simp
            refine ⟨by omega, n + 1, [n], ⟨by omega, by omega, by simp; omega, hnext⟩, by omega, by simp [growA, growB]⟩
          · refine AW_region (by rw [hE]; decide) ?_
            simp [growA, growB, ho]
            repeat' apply And.intro
            all_goals try omega
            all_goals try decide
            refine hK1 _ ?_
            refine AW_region (by rw [hE]; decide) ?_
            simp
            refine ⟨by omega, n + 1, out ++ [n], ⟨by omega, by omega, by simp; omega, hnext⟩, by omega, by simp [growA, growB]⟩
      · intro hc
        have hc := of_decide_eq_false hc
        have hend : out = missing l ob most := by
          rw [← heq]
          cases (g.2 + 1 - n).toNat with
          | zero => rfl
          | succ f => rw [missL, if_neg hc]
        refine AW_exit ?_
        simp
        refine hK0 _ ?_
        by_cases ho : out = []
        · subst ho
          refine AW_seq fun K hK => ?_
          refine AW_region (by rw [hE]; decide) ?_
          simp [growA]
          refine hK _ ?_
          clear hK
          refine AW_ret ?_
          simp
          rw [← hend]
        · refine AW_seq fun K hK => ?_
          refine AW_region (by rw [hE]; decide) ?_
          simp [growA, ho]
          refine hK _ ?_
          clear hK
          refine AW_ret ?_
          simp [growB, ho]
          exact hend.symm ▸ rfl
    by_cases ho : out = []
    · subst ho
      refine AW_region (by rw [hE]; decide) ?_
      simp [growA, growB]
      constructor
      · intro h
        refine fin _ (by simp [growA, growB, h])
      · intro h
        refine fin _ (by simp [growA, growB]; omega)
    · refine AW_region (by rw [hE]; decide) ?_
      simp [growA, growB, ho]
      constructor
      · intro h
        refine fin _ (by simp [growA, growB, h, ho])
      · intro h
        refine fin _ (by simp [growA, growB, ho]; omega)
end Go.Proofs.Ytmjckbokjjnmeaa
