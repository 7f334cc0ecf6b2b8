/- The abstract machine, part 24: rows: nil as a row, rows cut short, functions that hand back a new row, functions that rewrite one row. -/
import Derived.Test.YtmjckbokjjnmeaaAmFrz
namespace Go.Am
open Go.RowKit

section
variable {P : Program} {E : Env} {s : AState} {Q : AExit → AState → Prop}

/-- The nil slice as an own row. -/
theorem AW_mkrow (i d T k : Nat) {c : Code} (hs : s.slot i = .v (.slice none 0 0)) (hm : s.ment d = false) (hb : s.box d = none) (hd : d < 1000000) (h : AW P E c ⟨(i, .own d k 0 0) :: s.s, (d, .arr T k []) :: s.b⟩ Q) : AW P E c s Q := by
  intro H ρ a w hS
  obtain ⟨hm1, hm2⟩ := fresh2 hm
  have hat : ∀ j b cap, (ρ.upd d .nil) j = .at b cap → j ≠ d ∧ ρ j = .at b cap := by
    intro j b cap h
    simp only [Rho.upd] at h
    split at h
    · cases h
    · rename_i e; exact ⟨e, h⟩
  have hbx : ∀ j c', lk ((d, Ct.arr T k []) :: s.b) j = some c' → (j = d ∧ c' = .arr T k []) ∨ (j ≠ d ∧ s.box j = some c') := by
    intro j c' h
    simp only [lk] at h
    split at h
    · rename_i e; cases h; exact .inl ⟨e.symm, rfl⟩
    · rename_i e; exact .inr ⟨fun e' => e e'.symm, h⟩
  refine h H (ρ.upd d .nil) a w ⟨hS.ext, fun j => ?_, hS.size, hS.defers, ⟨fun j c' hc => ?_, fun j c' b cap hc hbd => ?_, fun j j' c' c'' b cap cap' hc hc' h1 h2 => ?_⟩, hS.h0, hS.new, hS.frame, fun j hj => ?_, hS.nle⟩
  · show Rep H _ ((lk ((i, .own d k 0 0) :: s.s) j).getD .u) _
    simp only [lk]
    split
    · rename_i e
      subst e
      have := hS.slots i
      rw [hs] at this
      rw [Rep.v_inv this]
      exact .ownNil (Rho.upd_same _ _ _)
    · exact (hS.slots j).upd (hm1 j)
  · rcases hbx j c' hc with ⟨rfl, rfl⟩ | ⟨h1, h2⟩
    · exact .inl ⟨Rho.upd_same _ _ _, rfl⟩
    · have e : (ρ.upd d .nil) j = ρ j := by simp [Rho.upd, h1]
      rw [e]
      refine (hS.boxes.rep _ _ h2).mono H.le_refl (fun x hx => ?_) (fun _ _ _ => rfl)
      have : x ≠ d := by rintro rfl; rw [hm2 _ _ h2] at hx; cases hx
      simp [Rho.upd, this]
  · obtain ⟨h1, h2⟩ := hat _ _ _ hbd
    rcases hbx j c' hc with ⟨h3, _⟩ | ⟨_, h4⟩
    · exact absurd h3 h1
    · exact hS.boxes.apart _ _ _ _ h4 h2
  · obtain ⟨h3, h4⟩ := hat _ _ _ h1
    obtain ⟨h5, h6⟩ := hat _ _ _ h2
    rcases hbx j c' hc with ⟨h7, _⟩ | ⟨_, h7⟩
    · exact absurd h7 h3
    · rcases hbx j' c'' hc' with ⟨h8, _⟩ | ⟨_, h8⟩
      · exact absurd h8 h5
      · exact hS.boxes.inj _ _ _ _ _ _ _ h7 h8 h4 h6
  · have : j ≠ d := by omega
    simp [Rho.upd, this, hS.keep j hj]

theorem AW_mkrowB (i d T k T' : Nat) {c : Code} (hs : s.box i = some (.box T' (.v (.slice none 0 0)))) (hm : s.ment d = false) (hb : s.box d = none) (hd : d < 1000000) (h : AW P E c ⟨s.s, (i, .box T' (.own d k 0 0)) :: (d, .arr T k []) :: s.b⟩ Q) : AW P E c s Q := by
  intro H ρ a w hS
  obtain ⟨hm1, hm2⟩ := fresh2 hm
  have hid : i ≠ d := by rintro rfl; rw [hb] at hs; cases hs
  have hat : ∀ j b cap, (ρ.upd d .nil) j = .at b cap → j ≠ d ∧ ρ j = .at b cap := by
    intro j b cap h
    simp only [Rho.upd] at h
    split at h
    · cases h
    · rename_i e; exact ⟨e, h⟩
  have hbx : ∀ j c', lk ((i, Ct.box T' (.own d k 0 0)) :: (d, Ct.arr T k []) :: s.b) j = some c' → (j = i ∧ c' = .box T' (.own d k 0 0)) ∨ (j = d ∧ c' = .arr T k []) ∨ (j ≠ d ∧ s.box j = some c') := by
    intro j c' h
    simp only [lk] at h
    split at h
    · rename_i e; cases h; exact .inl ⟨e.symm, rfl⟩
    · split at h
      · rename_i e; cases h; exact .inr (.inl ⟨e.symm, rfl⟩)
      · rename_i e; exact .inr (.inr ⟨fun e' => e e'.symm, h⟩)
  have hold : ∀ j c', lk ((i, Ct.box T' (.own d k 0 0)) :: (d, Ct.arr T k []) :: s.b) j = some c' → j ≠ d → ∃ c0, s.box j = some c0 := by
    intro j c' h hj
    rcases hbx j c' h with ⟨rfl, _⟩ | ⟨h, _⟩ | ⟨_, h⟩
    · exact ⟨_, hs⟩
    · exact absurd h hj
    · exact ⟨_, h⟩
  refine h H (ρ.upd d .nil) a w ⟨hS.ext, fun j => (hS.slots j).upd (hm1 j), hS.size, hS.defers, ⟨fun j c' hc => ?_, fun j c' b cap hc hbd => ?_, fun j j' c' c'' b cap cap' hc hc' h1 h2 => ?_⟩, hS.h0, hS.new, hS.frame, fun j hj => ?_, hS.nle⟩
  · rcases hbx j c' hc with ⟨rfl, rfl⟩ | ⟨rfl, rfl⟩ | ⟨h1, h2⟩
    · have e : (ρ.upd d .nil) j = ρ j := by simp [Rho.upd, hid]
      rw [e]
      obtain ⟨b, cap, vs, g1, g2, g3, g4, g5⟩ := hS.boxes.rep _ _ hs
      simp only [AV.cells] at g3 g5
      obtain ⟨u, us, rfl, g6, g7⟩ := g3.cons_inv
      rw [Rep.v_inv g6] at g2
      rw [g7.nil_inv] at g2
      exact ⟨b, cap, [.slice none 0 0], g1, g2, RepL.cons (.ownNil (Rho.upd_same _ _ _)) RepL.nil, by intro c hc; simp [AV.cells] at hc; subst hc; rfl, g5⟩
    · exact .inl ⟨Rho.upd_same _ _ _, rfl⟩
    · have e : (ρ.upd d .nil) j = ρ j := by simp [Rho.upd, h1]
      rw [e]
      refine (hS.boxes.rep _ _ h2).mono H.le_refl (fun x hx => ?_) (fun _ _ _ => rfl)
      have : x ≠ d := by rintro rfl; rw [hm2 _ _ h2] at hx; cases hx
      simp [Rho.upd, this]
  · obtain ⟨h1, h2⟩ := hat _ _ _ hbd
    obtain ⟨c0, h3⟩ := hold j c' hc h1
    exact hS.boxes.apart _ _ _ _ h3 h2
  · obtain ⟨h3, h4⟩ := hat _ _ _ h1
    obtain ⟨h5, h6⟩ := hat _ _ _ h2
    obtain ⟨c0, h7⟩ := hold j c' hc h3
    obtain ⟨c1, h8⟩ := hold j' c'' hc' h5
    exact hS.boxes.inj _ _ _ _ _ _ _ h7 h8 h4 h6
  · have : j ≠ d := by omega
    simp [Rho.upd, this, hS.keep j hj]

theorem CtRep.trunc {H : Heap} {ρ : Rho} {w : World} {bd : Bd} {T k : Nat} {ys : List AV} (m : Nat) (h : CtRep H ρ w bd (.arr T k ys)) : CtRep H ρ w bd (.arr T k (ys.take m)) := by
  rcases h with ⟨h1, rfl⟩ | ⟨b, cap, cur, h1, h2, h3, h4, h5, h6, h7⟩
  · exact .inl ⟨h1, by simp⟩
  · refine .inr ⟨b, cap, cur, h1, h2, h3, by simp; omega, h5, ?_, fun x hx => h7 x (List.mem_of_mem_take hx)⟩
    have e : (ys.take m).flatMap AV.cells = (ys.flatMap AV.cells).take ((ys.take m).length * k) := by
      have key : ∀ (ys : List AV) (m : Nat), (∀ x ∈ ys, x.cells.length = k) → (ys.take m).flatMap AV.cells = (ys.flatMap AV.cells).take ((ys.take m).length * k) := by
        intro ys
        induction ys with
        | nil => intro m _; simp
        | cons y ys ih =>
          intro m hy
          cases m with
          | zero => simp
          | succ m =>
            have h1 := hy y List.mem_cons_self
            rw [List.take_succ_cons, List.flatMap_cons, List.flatMap_cons, List.length_cons, Nat.add_mul, Nat.one_mul, Nat.add_comm, ← h1, List.take_length_add_append, h1, ← ih m (fun x hx => hy x (List.mem_cons_of_mem _ hx))]
      exact key ys m (fun x hx => (h7 x hx).1)
    rw [e]
    have := h6.take ((ys.take m).length * k)
    rw [List.take_take, Nat.min_eq_left (by simp; exact Nat.mul_le_mul_right _ (Nat.min_le_right _ _))] at this
    exact this

/-- A row cut short: what lies behind is forgotten. -/
theorem AW_trunc (id m : Nat) {T k : Nat} {ys : List AV} {c : Code} (hb : s.box id = some (.arr T k ys)) (h : AW P E c ⟨s.s, (id, .arr T k (ys.take m)) :: s.b⟩ Q) : AW P E c s Q := by
  intro H ρ a w hS
  exact h H ρ a w (hS.rebox hb ((hS.boxes.rep _ _ hb).trunc m))

theorem RepL.flat {H : Heap} {ρ : Rho} {cs : List AV} {vs : List Value} (h : RepL H ρ cs vs) (hf : flatL cs = true) {H' : Heap} {ρ' : Rho} : RepL H' ρ' cs vs :=
  ⟨h.1, fun i c u hc hu => (h.2 i c u hc hu).flat (flat_of_mem hf hc)⟩
theorem flatL_mk : ∀ {l : List AV}, (∀ x ∈ l, x.flat = true) → flatL l = true
  | [], _ => rfl
  | x :: l, h => by simp only [flatL, Bool.and_eq_true]; exact ⟨h x List.mem_cons_self, flatL_mk (fun y hy => h y (List.mem_cons_of_mem _ hy))⟩
theorem idfL_mk : ∀ {l : List AV}, (∀ x ∈ l, x.idf = true) → idfL l = true
  | [], _ => rfl
  | x :: l, h => by simp only [idfL, Bool.and_eq_true]; exact ⟨h x List.mem_cons_self, idfL_mk (fun y hy => h y (List.mem_cons_of_mem _ hy))⟩
theorem flatL_cells {xs : List AV} (h : flatL xs = true) : flatL (xs.flatMap AV.cells) = true := by
  refine flatL_mk (fun c hc => ?_)
  obtain ⟨x, hx, hcx⟩ := List.mem_flatMap.1 hc
  obtain ⟨i, hi⟩ := List.getElem?_of_mem hx
  have hf := flat_of_mem h hi
  cases x with
  | st cs =>
    simp only [AV.cells] at hcx
    obtain ⟨j, hj⟩ := List.getElem?_of_mem hcx
    exact flat_of_mem (by simpa only [AV.flat] using hf) hj
  | _ => simp only [AV.cells, List.mem_singleton] at hcx; subst hcx; exact hf
theorem idfL_cells {xs : List AV} (h : idfL xs = true) : idfL (xs.flatMap AV.cells) = true := by
  refine idfL_mk (fun c hc => ?_)
  obtain ⟨x, hx, hcx⟩ := List.mem_flatMap.1 hc
  obtain ⟨i, hi⟩ := List.getElem?_of_mem hx
  have hf := idf_of_mem h hi
  cases x with
  | st cs =>
    simp only [AV.cells] at hcx
    obtain ⟨j, hj⟩ := List.getElem?_of_mem hcx
    exact idf_of_mem (by simpa only [AV.idf] using hf) hj
  | _ => simp only [AV.cells, List.mem_singleton] at hcx; subst hcx; exact hf

theorem CtRep.arr_flat {H H' : Heap} {ρ ρ' : Rho} {w : World} {bd : Bd} {T k : Nat} {xs : List AV} (h : CtRep H ρ w bd (.arr T k xs)) (hf : flatL xs = true) : CtRep H' ρ' w bd (.arr T k xs) := by
  rcases h with h | ⟨b, cap, cur, h1, h2, h3, h4, h5, h6, h7⟩
  · exact .inl h
  · exact .inr ⟨b, cap, cur, h1, h2, h3, h4, h5, h6.flat (flatL_cells hf), h7⟩
theorem CtRep.arr_idf {H : Heap} {ρ ρ' : Rho} {w : World} {bd : Bd} {T k : Nat} {xs : List AV} (h : CtRep H ρ w bd (.arr T k xs)) (hf : idfL xs = true) : CtRep H ρ' w bd (.arr T k xs) := by
  rcases h with h | ⟨b, cap, cur, h1, h2, h3, h4, h5, h6, h7⟩
  · exact .inl h
  · exact .inr ⟨b, cap, cur, h1, h2, h3, h4, h5, h6.idf (idfL_cells hf), h7⟩

mutual
theorem ids_ment (d : Nat) : ∀ x : AV, d ∈ x.ids → x.ment d = true
  | .st cs, h => by simp only [AV.ids] at h; simp only [AV.ment]; exact idsA_ment d cs h
  | .own .., h => by simp [AV.ids] at h; simp [AV.ment, h]
  | .loc .., h => by simp [AV.ids] at h; simp [AV.ment, h]
  | .eloc .., h => by simp [AV.ids] at h; simp [AV.ment, h]
  | .mp _, h => by simp [AV.ids] at h; simp [AV.ment, h]
  | .fn _ a b, h => by
    simp only [AV.ids, List.mem_append] at h
    simp only [AV.ment, Bool.or_eq_true]
    rcases h with h | h
    · exact .inl (idsA_ment d a h)
    · exact .inr (idsA_ment d b h)
  | .tup vs, h => by simp only [AV.ids] at h; simp only [AV.ment]; exact idsA_ment d vs h
  | .ifc _ x, h => by simp only [AV.ids] at h; simp only [AV.ment]; exact ids_ment d x h
  | .v _, h => by simp [AV.ids] at h
  | .sl _ _, h => by simp [AV.ids] at h
  | .ep _, h => by simp [AV.ids] at h
  | .w, h => by simp [AV.ids] at h
  | .u, h => by simp [AV.ids] at h
theorem idsA_ment (d : Nat) : ∀ cs : List AV, d ∈ idsA cs → mentL d cs = true
  | [], h => by simp [idsA] at h
  | c :: cs, h => by
    simp only [idsA, List.mem_append] at h
    simp only [mentL, Bool.or_eq_true]
    rcases h with h | h
    · exact .inl (ids_ment d c h)
    · exact .inr (idsA_ment d cs h)
end
theorem ids_mentP (d : Nat) : ∀ {es : List (AV × AV)}, d ∈ idsA (es.map (·.1)) ∨ d ∈ idsA (es.map (·.2)) → mentP d es = true
  | [], h => by simp [idsA] at h
  | e :: es, h => by
    simp only [List.map_cons, idsA, List.mem_append] at h
    simp only [mentP, Bool.or_eq_true]
    rcases h with (h | h) | (h | h)
    · exact .inl (.inl (ids_ment d _ h))
    · exact .inr (ids_mentP d (.inl h))
    · exact .inl (.inr (ids_ment d _ h))
    · exact .inr (ids_mentP d (.inr h))
theorem ids_mentC (d : Nat) {c : Ct} (h : d ∈ c.ids) : c.ment d = true := by
  cases c with
  | box T x => exact ids_ment d x h
  | arr T k xs => exact idsA_ment d xs h
  | map es st => exact ids_mentP d (by simpa [Ct.ids] using h)
  | it m bs ck vis => simp [Ct.ids] at h; simp [Ct.ment, h]
  | raw o => simp [Ct.ids] at h

/-- Another name for a box: d for id. -/
def sw (id d : Nat) : Nat → Nat := fun i => if i = id then d else i
@[simp] theorem sw_same (id d : Nat) : sw id d id = d := by simp [sw]
def rnS (s : AState) (id d : Nat) : List (Nat × AV) → Prop
  | [] => True
  | (i, y) :: l => y = (s.slot i).ren (sw id d) ∧ rnS s id d l
def rnB (s : AState) (id d : Nat) (cb : Ct) : List (Nat × Ct) → Prop
  | [] => True
  | (i, c) :: l => ((i = d ∧ c = cb.ren (sw id d)) ∨ (i ≠ id ∧ i ≠ d ∧ ∃ c0, s.box i = some c0 ∧ c = c0.ren (sw id d))) ∧ rnB s id d cb l
theorem rnS_lk {s : AState} {id d : Nat} : ∀ {l : List (Nat × AV)} {i : Nat} {x : AV}, rnS s id d l → lk l i = some x → x = (s.slot i).ren (sw id d)
  | [], _, _, _, h => by simp [lk] at h
  | (j, y) :: l, i, x, hl, h => by
    simp only [lk] at h
    split at h
    · rename_i e; subst e; cases h; exact hl.1
    · exact rnS_lk hl.2 h
theorem rnB_lk {s : AState} {id d : Nat} {cb : Ct} : ∀ {l : List (Nat × Ct)} {i : Nat} {c : Ct}, rnB s id d cb l → lk l i = some c → (i = d ∧ c = cb.ren (sw id d)) ∨ (i ≠ id ∧ i ≠ d ∧ ∃ c0, s.box i = some c0 ∧ c = c0.ren (sw id d))
  | [], _, _, _, h => by simp [lk] at h
  | (j, y) :: l, i, x, hl, h => by
    simp only [lk] at h
    split at h
    · rename_i e; subst e; cases h; exact hl.1
    · exact rnB_lk hl.2 h

theorem AW_ren (id d : Nat) {cb : Ct} {c : Code} {t : AState} (hb : s.box id = some cb) (hd : s.ment d = false) (hdl : d < 1000000) (hs : rnS s id d t.s) (hB : rnB s id d cb t.b) (h : AW P E c t Q) : AW P E c s Q := by
  intro H ρ a w hS
  obtain ⟨hd1, hd2⟩ := fresh2 hd
  have key : ∀ i, i ≠ d → (ρ.upd d (ρ id)) (sw id d i) = ρ i := by
    intro i hi
    unfold sw
    by_cases e : i = id
    · subst e; rw [if_pos rfl, Rho.upd_same]
    · rw [if_neg e]; simp [Rho.upd, hi]
  have k1 : ∀ x : AV, x.ment d = false → ∀ i ∈ x.ids, (ρ.upd d (ρ id)) (sw id d i) = ρ i := by
    intro x hx i hi
    refine key i ?_
    rintro rfl
    rw [ids_ment _ x hi] at hx
    cases hx
  have k2 : ∀ x : Ct, x.ment d = false → ∀ i ∈ x.ids, (ρ.upd d (ρ id)) (sw id d i) = ρ i := by
    intro x hx i hi
    refine key i ?_
    rintro rfl
    rw [ids_mentC _ hi] at hx
    cases hx
  have hbd : ∀ i c, lk t.b i = some c → ∃ j c0, s.box j = some c0 ∧ c = c0.ren (sw id d) ∧ (ρ.upd d (ρ id)) i = ρ j ∧ (i = d → j = id) ∧ (i ≠ d → j = i) := by
    intro i c hc
    rcases rnB_lk hB hc with ⟨rfl, rfl⟩ | ⟨h1, h2, c0, h3, rfl⟩
    · exact ⟨id, cb, hb, rfl, Rho.upd_same _ _ _, fun _ => rfl, fun h => absurd rfl h⟩
    · exact ⟨i, c0, h3, rfl, by simp [Rho.upd, h2], fun h => absurd h h2, fun _ => rfl⟩
  refine h H (ρ.upd d (ρ id)) a w ⟨hS.ext, fun i => ?_, hS.size, hS.defers, ⟨fun i c hc => ?_, fun i c b cap hc hbb => ?_, fun i i' c c' b cap cap' hc hc' h1 h2 => ?_⟩, hS.h0, hS.new, hS.frame, fun i hi => ?_, hS.nle⟩
  · show Rep H _ ((lk t.s i).getD .u) _
    cases hl : lk t.s i with
    | none => exact .u
    | some y =>
      rw [Option.getD_some, rnS_lk hs hl]
      exact (hS.slots i).ren (k1 _ (hd1 i))
  · obtain ⟨j, c0, h1, rfl, h2, _⟩ := hbd i c hc
    rw [h2]
    exact (hS.boxes.rep _ _ h1).ren (k2 _ (hd2 _ _ h1))
  · obtain ⟨j, c0, h1, rfl, h2, _⟩ := hbd i c hc
    rw [h2] at hbb
    exact hS.boxes.apart _ _ _ _ h1 hbb
  · obtain ⟨j, c0, g1, rfl, g2, g3, g4⟩ := hbd i c hc
    obtain ⟨j', c0', g1', rfl, g2', g3', g4'⟩ := hbd i' c' hc'
    rw [g2] at h1
    rw [g2'] at h2
    have hj := hS.boxes.inj _ _ _ _ _ _ _ g1 g1' h1 h2
    by_cases e : i = d
    · by_cases e' : i' = d
      · rw [e, e']
      · have e1 := g3 e
        have e2 := g4' e'
        rcases rnB_lk hB hc' with ⟨h, _⟩ | ⟨h, _⟩
        · exact absurd h e'
        · exact absurd (e2.symm.trans (hj.symm.trans e1)) h
    · by_cases e' : i' = d
      · have e1 := g3' e'
        have e2 := g4 e
        rcases rnB_lk hB hc with ⟨h, _⟩ | ⟨h, _⟩
        · exact absurd h e
        · exact absurd (e2.symm.trans (hj.trans e1)) h
      · rw [← g4 e, ← g4' e', hj]
  · have : i ≠ d := by omega
    simp [Rho.upd, this, hS.keep i hi]
attribute [simp] rnS rnB

/-- A function that hands back a new row (it may be nil). -/
def RSpec (P : Program) (f : FuncId) (args : List AV) (T k : Nat) (xs : List AV) : Prop :=
  MSpec P f args [] (fun res bf => (∃ j ys, res = .own j k 0 xs.length ∧ bf j = some (.arr T k ys) ∧ ys.take xs.length = xs) ∨ (xs = [] ∧ res = .v (.slice none 0 0)))

theorem RSpec.toP {f : FuncId} {args : List AV} {T k : Nat} {xs : List AV} (h : RSpec P f args T k xs) (hi : idfL xs = true) : PSpec P f args (.sl k xs) :=
  MSpec.toP h (by
    rintro res bf (⟨j, ys, rfl, hb, he⟩ | ⟨rfl, rfl⟩)
    · have hl := congrArg List.length he
      rw [List.length_take] at hl
      exact .inr (.inl ⟨j, k, 0, xs.length, T, ys, rfl, hb, by omega, by rw [List.drop_zero, he], by rw [List.drop_zero, he]; exact hi⟩)
    · exact .inr (.inr (.inr (.inr ⟨_, _, _, rfl, rfl, rfl⟩))))

/-- Behind a call that has made one box. -/
theorem Sim.after {H : Heap} {ρ : Rho} {a : Act} {w w' : World} {t : Nat} {x : AV} {ct : Ct} {G : Heap} {bd : Bd} {v : Value} (hs : Sim E H ρ s.slot s.box a w) (hm : s.ment t = false) (htn : t < E.n) (hle : H.le G) (hnew : ∀ b o u, G b o = some u → H b o = none → w.heap.size ≤ b) (hext : Ext G w')
    (hrep : Rep G (ρ.upd t bd) x v) (hct : CtRep G (ρ.upd t bd) w' bd ct) (hbd : ∀ b cap, bd = .at b cap → w.heap.size ≤ b ∧ b < w'.heap.size ∧ ∀ o, G b o = none) (hbel : Bel w.heap.size w w') :
    Sim E G (ρ.upd t bd) ((s.put (some t) x).addBox (some t) (some ct)).slot ((s.put (some t) x).addBox (some t) (some ct)).box (a.put (some t) v) w' := by
  obtain ⟨hm1, hm2⟩ := fresh2 hm
  have hne : ∀ i, 1000000 ≤ i → i ≠ t := fun i hi => by have := hs.nle; omega
  have hold : ∀ j c, s.box j = some c → j ≠ t → CtRep G (ρ.upd t bd) w' ((ρ.upd t bd) j) c ∧ (ρ.upd t bd) j = ρ j := by
    intro j c hc hj
    have e : (ρ.upd t bd) j = ρ j := by simp [Rho.upd, hj]
    rw [e]
    refine ⟨(hs.boxes.rep _ _ hc).mono hle (fun x hx => ?_) (fun b cap hb => hbel.block b (hs.boxes.apart _ _ _ _ hc hb).2.1), rfl⟩
    have : x ≠ t := by rintro rfl; rw [hm2 _ _ hc] at hx; cases hx
    simp [Rho.upd, this]
  have hbx : ∀ j c, ((s.put (some t) x).addBox (some t) (some ct)).box j = some c → (j = t ∧ c = ct) ∨ (j ≠ t ∧ s.box j = some c) := by
    intro j c hc
    have hc : lk ((t, ct) :: s.b) j = some c := hc
    simp only [lk] at hc
    split at hc
    · rename_i e; cases hc; exact .inl ⟨e.symm, rfl⟩
    · rename_i e; exact .inr ⟨fun e' => e e'.symm, hc⟩
  have hfr : FrameBut E.may E.w0 w' := hs.frame.trans (FrameBut.of_below (may := fun _ => False) hbel) (fun _ _ h => h.elim)
  refine ⟨hext, fun j => ?_, by simpa [Act.put] using hs.size, hs.defers, ⟨fun j c hc => ?_, fun j c b cap hc hb => ?_, fun j j' c c' b cap cap' hc hc' h1 h2 => ?_⟩, fun b o u hu => hle _ _ _ (hs.h0 b o u hu), fun b o u hu h0 => ?_, hfr, fun i hi => ?_, hs.nle⟩
  · rw [AState.slot_addBox, AState.slot_put, put_get (by rw [hs.size]; exact htn)]
    simp only [putF]
    split
    · exact hrep
    · exact ((hs.slots j).mono hle).upd (hm1 j)
  · rcases hbx j c hc with ⟨rfl, rfl⟩ | ⟨hj, hc⟩
    · rw [Rho.upd_same]; exact hct
    · exact (hold j c hc hj).1
  · rcases hbx j c hc with ⟨rfl, rfl⟩ | ⟨hj, hc⟩
    · rw [Rho.upd_same] at hb
      obtain ⟨h1, h2, h3⟩ := hbd b cap hb
      exact ⟨h3, h2, .inl (Nat.le_trans hs.frame.size h1)⟩
    · rw [(hold j c hc hj).2] at hb
      obtain ⟨h1, h2, h3⟩ := hs.boxes.apart _ _ _ _ hc hb
      refine ⟨fun o => ?_, Nat.lt_of_lt_of_le h2 hbel.size, h3⟩
      cases hg : G b o with
      | none => rfl
      | some u => have := hnew b o u hg (h1 o); omega
  · rcases hbx j c hc with ⟨e1, _⟩ | ⟨hj, hc⟩
    · rcases hbx j' c' hc' with ⟨e2, _⟩ | ⟨hj', hc'⟩
      · rw [e1, e2]
      · rw [e1, Rho.upd_same] at h1
        rw [(hold j' c' hc' hj').2] at h2
        have := (hbd b cap h1).1
        have := (hs.boxes.apart _ _ _ _ hc' h2).2.1
        omega
    · rw [(hold j c hc hj).2] at h1
      rcases hbx j' c' hc' with ⟨e2, _⟩ | ⟨hj', hc'⟩
      · rw [e2, Rho.upd_same] at h2
        have := (hbd b cap' h2).1
        have := (hs.boxes.apart _ _ _ _ hc h1).2.1
        omega
      · rw [(hold j' c' hc' hj').2] at h2
        exact hs.boxes.inj _ _ _ _ _ _ _ hc hc' h1 h2
  · cases hH : H b o with
    | none => exact .inl (Nat.le_trans hs.frame.size (hnew b o u hu hH))
    | some u' =>
      have := hle _ _ _ hH
      rw [hu] at this
      cases this
      exact hs.new b o u hH h0
  · simp [Rho.upd, hne i hi, hs.keep i hi]

/-- .. called: the row is the caller's own. -/
theorem acall_row {g : FuncId} {args ds : List AV} {T k : Nat} {xs : List AV} {t : Nat} {K : AState → Prop} (h : RSpec P g ds T k xs) (hv : ViewL s.box args ds) (hf : flatL xs = true ∨ (ds = args ∧ idfL args = true ∧ idfL xs = true)) (hm : s.ment t = false)
    (hk : K ((s.put (some t) (.own t k 0 xs.length)).addBox (some t) (some (.arr T k xs)))) : ACall P E g args s (some t) K := by
  refine ⟨h.1, fun H ρ a w vs hs hr hd => ?_⟩
  have hno : ∀ b, ¬ OwnB rho0 (lk ([] : List (Nat × Ct))) b := by rintro b ⟨id, c, cap, hc, _⟩; simp [lk] at hc
  have hb0 : ∀ (H : Heap) (w : World), Boxes H rho0 (lk []) w (fun _ => True) := fun H w => ⟨fun id c hc => by simp [lk] at hc, fun id c b cap hc => by simp [lk] at hc, fun id id' c c' b cap cap' hc => by simp [lk] at hc⟩
  have htn : t < E.n := hd t rfl
  -- the caller's state behind the call
  have fin : ∀ (G : Heap) (bd : Bd) (v : Value) (w' : World), H.le G → (∀ b o u, G b o = some u → H b o = none → w.heap.size ≤ b) → Ext G w' → Rep G (ρ.upd t bd) (.own t k 0 xs.length) v → CtRep G (ρ.upd t bd) w' bd (.arr T k xs) →
      (∀ b cap, bd = .at b cap → w.heap.size ≤ b ∧ b < w'.heap.size ∧ ∀ o, G b o = none) → Bel w.heap.size w w' →
      ∃ s' H' ρ', K s' ∧ Sim E H' ρ' s'.slot s'.box (a.put (some t) v) w' :=
    fun G bd v w' h1 h2 h3 h4 h5 h6 h7 => ⟨_, G, ρ.upd t bd, hk, hs.after hm htn h1 h2 h3 h4 h5 h6 h7⟩
  have own_mv : ∀ {G G' : Heap} {ρ1 : Rho} {j : Nat} {v : Value}, Rep G ρ1 (.own j k 0 xs.length) v → Rep G' (ρ.upd t (ρ1 j)) (.own t k 0 xs.length) v := by
    intro G G' ρ1 j v h
    generalize hn : xs.length = n at h
    cases h with
    | ownNil h => exact .ownNil (by rw [Rho.upd_same, h])
    | own h h1 h2 => exact .own (by rw [Rho.upd_same, h]) h1 h2
  have nil_mv : ∀ {G G' : Heap} {ρ1 : Rho} {v : Value}, Rep G ρ1 (.v (.slice none 0 0)) v → Rep G' (ρ.upd t .nil) (.own t k 0 ([] : List AV).length) v := by
    intro G G' ρ1 v h
    rw [Rep.v_inv h]
    exact .ownNil (Rho.upd_same _ _ _)
  rcases hf with hf | ⟨rfl, hi, hxi⟩
  · refine Calls.mono (h.2 (snap w) rho0 w vs (snap_ext w) (hb0 _ _) (viewL_rep hv hr hs.ext hs.boxes.rep)) ?_
    rintro e w' ⟨H', ρ1, res, bf', v, rfl, hR, hle, hnew, hext, hB, hrep, hfr, _⟩
    have hbel : Bel w.heap.size w w' := FrameBut.below ⟨hfr.os, hfr.tape, hfr.output, hfr.size, fun k hk _ => hfr.block k hk (hno k)⟩
    rcases hR with ⟨j, ys, rfl, hbf, hye⟩ | ⟨rfl, rfl⟩
    rotate_left
    · exact ⟨v, rfl, fin H .nil v w' H.le_refl (fun b o u h1 h2 => by rw [h2] at h1; cases h1) (hs.ext.of_below hbel) (nil_mv hrep) (.inl ⟨rfl, rfl⟩) (fun b cap hb => by cases hb) hbel⟩
    refine ⟨v, rfl, fin H (ρ1 j) v w' H.le_refl (fun b o u h1 h2 => by rw [h2] at h1; cases h1) (hs.ext.of_below hbel) (own_mv hrep) ((hye ▸ (hB.rep _ _ hbf).trunc xs.length : CtRep H' ρ1 w' (ρ1 j) (.arr T k xs)).arr_flat hf) (fun b cap hb => ?_) hbel⟩
    obtain ⟨h1, h2, h3⟩ := hB.apart _ _ _ _ hbf hb
    refine ⟨h3.resolve_right (hno b), h2, fun o => ?_⟩
    cases hg : H b o with
    | none => rfl
    | some u =>
      have := World.block_lt_of_cell? w _ (hs.ext _ _ _ hg)
      have := h3.resolve_right (hno b)
      simp at *
      omega
  · refine Calls.mono (h.2 H rho0 w vs hs.ext (hb0 _ _) (hr.idf hi)) ?_
    rintro e w' ⟨H', ρ1, res, bf', v, rfl, hR, hle, hnew, hext, hB, hrep, hfr, _⟩
    have hbel : Bel w.heap.size w w' := FrameBut.below ⟨hfr.os, hfr.tape, hfr.output, hfr.size, fun k hk _ => hfr.block k hk (hno k)⟩
    rcases hR with ⟨j, ys, rfl, hbf, hye⟩ | ⟨rfl, rfl⟩
    rotate_left
    · exact ⟨v, rfl, fin H' .nil v w' hle (fun b o u h1 h2 => (hnew b o u h1 h2).resolve_right (hno b)) hext (nil_mv hrep) (.inl ⟨rfl, rfl⟩) (fun b cap hb => by cases hb) hbel⟩
    refine ⟨v, rfl, fin H' (ρ1 j) v w' hle (fun b o u h1 h2 => (hnew b o u h1 h2).resolve_right (hno b)) hext (own_mv hrep) ((hye ▸ (hB.rep _ _ hbf).trunc xs.length : CtRep H' ρ1 w' (ρ1 j) (.arr T k xs)).arr_idf hxi) (fun b cap hb => ?_) hbel⟩
    obtain ⟨h1, h2, h3⟩ := hB.apart _ _ _ _ hbf hb
    exact ⟨h3.resolve_right (hno b), h2, h1⟩

/-- A function that hands back one new box. -/
theorem acall_box {g : FuncId} {args ds : List AV} {mk : Nat → AV} {c : Ct} {t : Nat} {K : AState → Prop} (h : NSpec P g ds mk c) (hv : ViewL s.box args ds) (hf : ∀ (H H' : Heap) (ρ ρ' : Rho) (w : World) (bd : Bd), CtRep H ρ w bd c → CtRep H' ρ' w bd c) (hm : s.ment t = false)
    (hk : K ((s.put (some t) (mk t)).addBox (some t) (some c))) : ACall P E g args s (some t) K := by
  refine ⟨h.1, fun H ρ a w vs hs hr hd => ?_⟩
  refine Calls.mono (h.2 (snap w) w vs (snap_ext w) (viewL_rep hv hr hs.ext hs.boxes.rep)) ?_
  rintro e w' ⟨H', v, b, cap, rfl, hle, hnew, hext, hrep, hct, hb1, hb2, hb3, hbel⟩
  refine ⟨v, rfl, _, H, ρ.upd t (.at b cap), hk, hs.after hm (hd t rfl) H.le_refl (fun b o u h1 h2 => by rw [h2] at h1; cases h1) (hs.ext.of_below hbel) (hrep _ _ _ (Rho.upd_same _ _ _)) (hf _ _ _ _ _ _ (hct rho0)) (fun b' cap' e => ?_) hbel⟩
  cases e
  refine ⟨hb1, hb2, fun o => ?_⟩
  cases hg : H b o with
  | none => rfl
  | some u =>
    have := World.block_lt_of_cell? w _ (hs.ext _ _ _ hg)
    simp at *
    omega

/-- Names by a list. -/
def nm (l : List (Nat × Nat)) : Nat → Nat := fun i => (lk l i).getD i
@[simp] theorem nm_nil (i : Nat) : nm [] i = i := rfl
@[simp] theorem nm_cons (a b : Nat) (l : List (Nat × Nat)) (i : Nat) : nm ((a, b) :: l) i = if a = i then b else nm l i := by
  simp only [nm, lk]
  split <;> rfl
/-- A function over boxes, called. -/
theorem acall_boxes {g : FuncId} {args cargs : List AV} {bx : List (Nat × Ct)} {R : AV → (Nat → Option Ct) → Prop} {d : Option Tmp} {K : AState → Prop} (h : MSpec P g args bx R) (σ τ : Nat → Nat) (L : List (Nat × Ct)) (r : AV)
    (hR : ∀ res bf, R res bf → res = r ∧ ∀ p ∈ L, bf p.1 = some p.2) (hargs : cargs = args.map (AV.ren σ)) (hbx : ∀ p ∈ bx, s.box (σ p.1) = some (p.2.ren σ)) (hinj : ∀ p ∈ bx, ∀ q ∈ bx, σ p.1 = σ q.1 → p.1 = q.1)
    (hname : ∀ p ∈ L, (1000000 ≤ p.1 ∧ (lk bx p.1).isSome = true ∧ τ p.1 = σ p.1) ∨ (p.1 < 1000000 ∧ s.ment (τ p.1) = false ∧ s.box (τ p.1) = none ∧ τ p.1 < 1000000)) (hinj2 : ∀ p ∈ L, ∀ q ∈ L, τ p.1 = τ q.1 → p.1 = q.1)
    (hids : ∀ i ∈ r.ids, i ∈ L.map (·.1)) (hids2 : ∀ p ∈ L, ∀ i ∈ p.2.ids, i ∈ L.map (·.1))
    (hk : K ((AState.mk s.s (L.map (fun p => (τ p.1, p.2.ren τ)) ++ dropB (bx.map fun p => σ p.1) s.b)).put d (r.ren τ))) : ACall P E g cargs s d K := by
  refine ACall_mut h σ hargs (fun i c hc => hbx _ (lk_mem hc)) (fun i i' h1 h2 e => ?_) (fun res bf hr => ?_)
  · obtain ⟨c, hc⟩ := Option.isSome_iff_exists.1 h1
    obtain ⟨c', hc'⟩ := Option.isSome_iff_exists.1 h2
    exact hinj _ (lk_mem hc) _ (lk_mem hc') e
  · obtain ⟨rfl, hL⟩ := hR res bf hr
    exact ⟨L, τ, ⟨hL, hname, hinj2, hids, hids2⟩, hk⟩

mutual
theorem idf_ren (σ : Nat → Nat) : ∀ x : AV, x.idf = true → x.ren σ = x
  | .v _, _ => rfl
  | .st cs, h => by simp only [AV.ren]; rw [idfL_ren σ cs (by simpa only [AV.idf] using h)]
  | .sl _ _, _ => rfl
  | .ep _, _ => rfl
  | .own .., h => by simp [AV.idf] at h
  | .loc .., h => by simp [AV.idf] at h
  | .eloc .., h => by simp [AV.idf] at h
  | .mp _, h => by simp [AV.idf] at h
  | .fn _ a b, h => by
    simp only [AV.idf, Bool.and_eq_true] at h
    simp only [AV.ren]; rw [idfL_ren σ a h.1, idfL_ren σ b h.2]
  | .tup vs, h => by simp only [AV.ren]; rw [idfL_ren σ vs (by simpa only [AV.idf] using h)]
  | .ifc _ x, h => by simp only [AV.ren]; rw [idf_ren σ x (by simpa only [AV.idf] using h)]
  | .w, _ => rfl
  | .u, _ => rfl
theorem idfL_ren (σ : Nat → Nat) : ∀ cs : List AV, idfL cs = true → renL σ cs = cs
  | [], _ => rfl
  | c :: cs, h => by
    simp only [idfL, Bool.and_eq_true] at h
    simp only [renL]; rw [idf_ren σ c h.1, idfL_ren σ cs h.2]
end
mutual
theorem idf_ids : ∀ x : AV, x.idf = true → x.ids = []
  | .v _, _ => rfl
  | .st cs, h => by simp only [AV.ids]; rw [idfL_ids cs (by simpa only [AV.idf] using h)]
  | .sl _ _, _ => rfl
  | .ep _, _ => rfl
  | .own .., h => by simp [AV.idf] at h
  | .loc .., h => by simp [AV.idf] at h
  | .eloc .., h => by simp [AV.idf] at h
  | .mp _, h => by simp [AV.idf] at h
  | .fn _ a b, h => by
    simp only [AV.idf, Bool.and_eq_true] at h
    simp only [AV.ids]; rw [idfL_ids a h.1, idfL_ids b h.2]; rfl
  | .tup vs, h => by simp only [AV.ids]; rw [idfL_ids vs (by simpa only [AV.idf] using h)]
  | .ifc _ x, h => by simp only [AV.ids]; rw [idf_ids x (by simpa only [AV.idf] using h)]
  | .w, _ => rfl
  | .u, _ => rfl
theorem idfL_ids : ∀ cs : List AV, idfL cs = true → idsA cs = []
  | [], _ => rfl
  | c :: cs, h => by
    simp only [idfL, Bool.and_eq_true] at h
    simp only [idsA]; rw [idf_ids c h.1, idfL_ids cs h.2]; rfl
end

theorem MSpec.mono {f : FuncId} {args : List AV} {bx : List (Nat × Ct)} {R R' : AV → (Nat → Option Ct) → Prop} (h : MSpec P f args bx R) (hR : ∀ res bf, R res bf → R' res bf) : MSpec P f args bx R' :=
  ⟨h.1, fun H ρ w vs he hb hr => Calls.mono (h.2 H ρ w vs he hb hr) (by
    rintro e w' ⟨H', ρ', res, bf', v, h1, h2, h3⟩
    exact ⟨H', ρ', res, bf', v, h1, hR _ _ h2, h3⟩)⟩
/-- What lies behind the result is forgotten. -/
theorem MSpec.cut {f : FuncId} {args : List AV} {bx : List (Nat × Ct)} {id T k : Nat} {ys : List AV} {r : AV}
    (h : MSpec P f args bx (fun res bf => res = r ∧ ∃ zs m, bf id = some (.arr T k zs) ∧ zs.take m = ys)) : MSpec P f args bx (fun res bf => res = r ∧ bf id = some (.arr T k ys)) := by
  refine ⟨h.1, fun H ρ w vs he hb hr => Calls.mono (h.2 H ρ w vs he hb hr) ?_⟩
  rintro e w' ⟨H', ρ', res, bf', v, rfl, ⟨rfl, zs, m, hz, hy⟩, h3, h4, h5, hB, h7⟩
  have hbx : ∀ i c, (fun i => if i = id then some (Ct.arr T k ys) else none) i = some c → i = id ∧ c = .arr T k ys := by
    intro i c hc
    have hc : (if i = id then some (Ct.arr T k ys) else none) = some c := hc
    split at hc
    · rename_i e; cases hc; exact ⟨e, rfl⟩
    · cases hc
  refine ⟨H', ρ', res, fun i => if i = id then some (Ct.arr T k ys) else none, v, rfl, ⟨rfl, by simp⟩, h3, h4, h5, ⟨fun i c hc => ?_, fun i c b cap hc hbd => ?_, fun i i' c c' b cap cap' hc hc' _ _ => ?_⟩, h7⟩
  · obtain ⟨rfl, rfl⟩ := hbx i c hc
    have := (hB.rep _ _ hz).trunc m
    rw [hy] at this
    exact this
  · obtain ⟨rfl, rfl⟩ := hbx i c hc
    exact hB.apart _ _ _ _ hz hbd
  · rw [(hbx i c hc).1, (hbx i' c' hc').1]

/-- A function that rewrites one row. -/
theorem acall_mrow {g : FuncId} {es : List AV} {id T k n : Nat} {xs ys : List AV} {r : AV} {d : Option Tmp} {K : AState → Prop}
    (h : MSpec P g (.own 1000000 k 0 n :: es) [(1000000, .arr T k xs)] (fun res bf => res = r ∧ bf 1000000 = some (.arr T k ys))) (hb : s.box id = some (.arr T k xs)) (he : idfL es = true) (hx : idfL xs = true) (hy : idfL ys = true)
    (hr : ∀ i ∈ r.ids, i = 1000000)
    (hk : K ((AState.mk s.s ((id, .arr T k ys) :: dropB [id] s.b)).put d (r.ren (fun _ => id)))) : ACall P E g (.own id k 0 n :: es) s d K := by
  have ren0 : ∀ (σ : Nat → Nat) (l : List AV), idfL l = true → renL σ l = l ∧ idsA l = [] := fun σ l h => ⟨idfL_ren σ l h, idfL_ids l h⟩
  have hlk : ∀ i c, lk [(1000000, Ct.arr T k xs)] i = some c → i = 1000000 ∧ c = .arr T k xs := by
    intro i c h
    simp only [lk] at h
    split at h
    · rename_i e; cases h; exact ⟨e.symm, rfl⟩
    · cases h
  refine ACall_mut h (fun _ => id) ?_ ?_ ?_ ?_
  · rw [← renL_map]; simp only [renL, AV.ren, (ren0 _ es he).1]
  · intro i c hc
    obtain ⟨rfl, rfl⟩ := hlk _ _ hc
    simp only [Ct.ren, (ren0 _ xs hx).1, hb]
  · intro i i' h1 h2 _
    obtain ⟨c, hc⟩ := Option.isSome_iff_exists.1 h1
    obtain ⟨c', hc'⟩ := Option.isSome_iff_exists.1 h2
    rw [(hlk _ _ hc).1, (hlk _ _ hc').1]
  · rintro res bf ⟨rfl, hbf⟩
    refine ⟨[(1000000, .arr T k ys)], fun _ => id, ⟨?_, ?_, ?_, ?_, ?_⟩, ?_⟩
    · intro p hp; simp at hp; subst hp; exact hbf
    · intro p hp; simp at hp; subst hp; exact .inl ⟨Nat.le_refl _, rfl, rfl⟩
    · intro p hp q hq _; simp at hp hq; subst hp; subst hq; rfl
    · intro i hi; simp [hr i hi]
    · intro p hp i hi; simp at hp; subst hp; simp [Ct.ids, (ren0 (fun _ => id) ys hy).2] at hi
    · simp only [List.map_cons, List.map_nil, Ct.ren, (ren0 _ ys hy).1]
      exact hk
end
end Go.Am
