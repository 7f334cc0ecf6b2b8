/- The abstract machine, part 23: a box that is never written again is a value; a function that hands back a new row hands back a value. -/
import Derived.Test.YtmjckbokjjnmeaaAmAuto
namespace Go.Am
open Go.RowKit

/-- A row's new box seen as a value. -/
theorem MSpec.toP {P : Program} {f : FuncId} {args : List AV} {R : AV → (Nat → Option Ct) → Prop} {d : AV} (h : MSpec P f args [] R) (hv : ∀ res bf, R res bf → View bf res d) : PSpec P f args d := by
  refine ⟨h.1, fun H w vs he hr => ?_⟩
  refine Calls.mono (h.2 H rho0 w vs he ⟨fun id c hc => by simp [lk] at hc, fun id c b cap hc => by simp [lk] at hc, fun id id' c c' b cap cap' hc => by simp [lk] at hc⟩ hr) ?_
  rintro e w' ⟨H', ρ', res, bf', v, rfl, hR, hle, hnew, hext, hB, hrep, hfr, _⟩
  have hno : ∀ b, ¬ OwnB rho0 (lk ([] : List (Nat × Ct))) b := by rintro b ⟨id, c, cap, hc, _⟩; simp [lk] at hc
  have hle' : H'.le (thaw H' w.heap.size w') := fun b o u hu => by simp [thaw, hu]
  refine ⟨thaw H' w.heap.size w', v, rfl, fun b o u hu => hle' _ _ _ (hle b o u hu), ?_, ?_, ?_, ?_⟩
  · intro b o u hu hu0
    simp only [thaw] at hu
    split at hu
    · exact (hnew b o u hu hu0).resolve_right (hno b)
    · split at hu
      · assumption
      · cases hu
  · intro b o u hu
    simp only [thaw] at hu
    split at hu
    · exact hext b o u hu
    · split at hu
      · exact hu
      · cases hu
  · refine view_rep2 (hv _ _ hR) hrep hB.rep hle' ?_
    intro id c b cap hc hbd o u hu
    have h1 := hB.apart id c b cap hc hbd
    simp [thaw, h1.1 o, h1.2.2.resolve_right (hno b), hu]
  · exact FrameBut.below ⟨hfr.os, hfr.tape, hfr.output, hfr.size, fun k hk _ => hfr.block k hk (hno k)⟩

/-- One box alone. -/
def oneB (id : Nat) (c : Ct) : Nat → Option Ct := fun j => if j = id then some c else none
@[simp] theorem oneB_same (id : Nat) (c : Ct) : oneB id c id = some c := by simp [oneB]
/-- What a slot is when the box id is a value. -/
def fr1 (id : Nat) (c : Ct) (x y : AV) : Prop := (x = y ∧ y.ment id = false) ∨ View (oneB id c) x y
def frS (s : AState) (id : Nat) (c : Ct) : List (Nat × AV) → Prop
  | [] => True
  | (i, y) :: l => fr1 id c (s.slot i) y ∧ frS s id c l
def frB (s : AState) (id : Nat) : List (Nat × Ct) → Prop
  | [] => True
  | (i, c) :: l => (i ≠ id ∧ s.box i = some c ∧ c.ment id = false) ∧ frB s id l

theorem frS_lk {s : AState} {id : Nat} {c : Ct} : ∀ {l : List (Nat × AV)} {i : Nat} {x : AV}, frS s id c l → lk l i = some x → fr1 id c (s.slot i) x
  | [], _, _, _, h => by simp [lk] at h
  | (j, y) :: l, i, x, hl, h => by
    simp only [lk] at h
    split at h
    · rename_i e; subst e; cases h; exact hl.1
    · exact frS_lk hl.2 h
theorem frB_lk {s : AState} {id : Nat} : ∀ {l : List (Nat × Ct)} {i : Nat} {x : Ct}, frB s id l → lk l i = some x → i ≠ id ∧ s.box i = some x ∧ x.ment id = false
  | [], _, _, _, h => by simp [lk] at h
  | (j, y) :: l, i, x, hl, h => by
    simp only [lk] at h
    split at h
    · rename_i e; subst e; cases h; exact hl.1
    · exact frB_lk hl.2 h

theorem view_idf {bf : Nat → Option Ct} {x d : AV} (h : View bf x d) : d.idf = true := by
  rcases h with ⟨rfl, h⟩ | ⟨_, _, _, _, _, _, _, _, _, rfl, h⟩ | ⟨_, _, _, _, _, _, _, rfl, h⟩ | ⟨_, _, _, _, _, rfl, h⟩ | ⟨_, _, _, _, _, rfl⟩
  · exact h
  all_goals rfl

section
variable {P : Program} {E : Env} {s : AState} {Q : AExit → AState → Prop}

theorem AW_freeze (id : Nat) {cb : Ct} {c : Code} {t : AState} (hb : s.box id = some cb) (hs : frS s id cb t.s) (hB : frB s id t.b) (h : AW P E c t Q) : AW P E c s Q := by
  intro H ρ a w hS
  obtain ⟨G, hle, hG, hB1, hB2⟩ : ∃ G : Heap, H.le G ∧ (∀ b o u, G b o = some u → H b o = some u ∨ ((∃ cap, ρ id = .at b cap) ∧ w.cell? ⟨b, o, none⟩ = some u)) ∧
      (∀ b cap, ρ id = .at b cap → ∀ o u, w.cell? ⟨b, o, none⟩ = some u → G b o = some u) ∧ (∀ b, (∀ cap, ρ id ≠ .at b cap) → ∀ o, G b o = H b o) := by
    cases hρ : ρ id with
    | no => exact ⟨H, H.le_refl, fun _ _ _ h => .inl h, fun b cap h => by simp at h, fun _ _ _ => rfl⟩
    | nil => exact ⟨H, H.le_refl, fun _ _ _ h => .inl h, fun b cap h => by simp at h, fun _ _ _ => rfl⟩
    | «at» b cap =>
      have h0 := (hS.boxes.apart _ _ _ _ hb hρ).1
      refine ⟨fun b' o => if b' = b then w.cell? ⟨b, o, none⟩ else H b' o, fun b' o u hu => ?_, fun b' o u hu => ?_, fun b' cap' h o u hu => ?_, fun b' h o => ?_⟩
      · have : b' ≠ b := by rintro rfl; rw [h0] at hu; cases hu
        simp [this, hu]
      · simp only at hu
        split at hu
        · rename_i e; subst e; exact .inr ⟨⟨cap, rfl⟩, hu⟩
        · exact .inl hu
      · simp at h
        obtain ⟨rfl, rfl⟩ := h
        simp [hu]
      · have : b' ≠ b := by rintro rfl; exact h cap rfl
        simp [this]
  have hone : ∀ j c', oneB id cb j = some c' → j = id ∧ s.box j = some c' := by
    intro j c' h
    unfold oneB at h
    by_cases e : j = id
    · subst e
      rw [if_pos rfl] at h
      cases h
      exact ⟨rfl, hb⟩
    · rw [if_neg e] at h
      cases h
  refine h G ρ a w ⟨?_, ?_, hS.size, hS.defers, ?_, fun b o u hu => hle _ _ _ (hS.h0 b o u hu), ?_, hS.frame, hS.keep, hS.nle⟩
  · intro b o u hu
    rcases hG b o u hu with h | ⟨_, h⟩
    · exact hS.ext b o u h
    · exact h
  · intro i
    have hsl := hS.slots i
    show Rep G ρ ((lk t.s i).getD .u) _
    cases hl : lk t.s i with
    | none => exact .u
    | some y =>
      rcases frS_lk hs hl with ⟨he, _⟩ | hv
      · rw [he] at hsl
        exact hsl.mono hle
      · have := view_rep2 (G := G) hv hsl (fun id' c' h => hS.boxes.rep _ _ (hone _ _ h).2) hle
          (fun id' c' b cap hc hbd o u hu => by
            obtain ⟨rfl, _⟩ := hone _ _ hc
            exact hB1 b cap hbd o u hu)
        exact this.idf (view_idf hv)
  · refine ⟨fun i c hc => ?_, fun i c b cap hc hbd => ?_, fun i i' c c' b cap cap' hc hc' h1 h2 => ?_⟩
    · obtain ⟨_, h2, _⟩ := frB_lk hB hc
      exact (hS.boxes.rep _ _ h2).mono hle (fun _ _ => rfl) (fun _ _ _ => rfl)
    · obtain ⟨h1, h2, _⟩ := frB_lk hB hc
      obtain ⟨h3, h4⟩ := hS.boxes.apart _ _ _ _ h2 hbd
      refine ⟨fun o => ?_, h4⟩
      rw [hB2 b (fun cap' hh => h1 (hS.boxes.inj _ _ _ _ _ _ _ h2 hb hbd hh))]
      exact h3 o
    · exact hS.boxes.inj _ _ _ _ _ _ _ (frB_lk hB hc).2.1 (frB_lk hB hc').2.1 h1 h2
  · intro b o u hu h0
    rcases hG b o u hu with h | ⟨⟨cap, h⟩, _⟩
    · exact hS.new b o u h h0
    · exact (hS.boxes.apart _ _ _ _ hb h).2.2
end
attribute [simp] fr1 frS frB
end Go.Am
