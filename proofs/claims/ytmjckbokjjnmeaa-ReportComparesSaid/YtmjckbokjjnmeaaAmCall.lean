/- The abstract machine, part 19: calls of functions over boxes: the callee's names of the boxes for the caller's. -/
import Derived.Test.YtmjckbokjjnmeaaAmFn
namespace Go.Am
open Go.RowKit

mutual
/-- Other names. -/
def AV.ren (σ : Nat → Nat) : AV → AV
  | .v x => .v x
  | .st cs => .st (renL σ cs)
  | .sl k xs => .sl k xs
  | .ep x => .ep x
  | .own id k off n => .own (σ id) k off n
  | .loc id off => .loc (σ id) off
  | .eloc id k i off => .eloc (σ id) k i off
  | .mp id => .mp (σ id)
  | .fn f a b => .fn f (renL σ a) (renL σ b)
  | .tup vs => .tup (renL σ vs)
  | .ifc t x => .ifc t (x.ren σ)
  | .w => .w
  | .u => .u
def renL (σ : Nat → Nat) : List AV → List AV
  | [] => []
  | c :: cs => c.ren σ :: renL σ cs
end

theorem renL_map (σ : Nat → Nat) : ∀ cs : List AV, renL σ cs = cs.map (AV.ren σ)
  | [] => rfl
  | c :: cs => by simp [renL, renL_map σ cs]

mutual
def AV.ids : AV → List Nat
  | .st cs => idsA cs
  | .own id _ _ _ => [id]
  | .loc id _ => [id]
  | .eloc id _ _ _ => [id]
  | .mp id => [id]
  | .fn _ a b => idsA a ++ idsA b
  | .tup vs => idsA vs
  | .ifc _ x => x.ids
  | _ => []
def idsA : List AV → List Nat
  | [] => []
  | c :: cs => c.ids ++ idsA cs
end

theorem idsA_mem {cs : List AV} {i : Nat} {c : AV} {d : Nat} (h : cs[i]? = some c) (hd : d ∈ c.ids) : d ∈ idsA cs := by
  induction cs generalizing i with
  | nil => simp at h
  | cons x cs ih =>
    simp only [idsA, List.mem_append]
    cases i with
    | zero => simp at h; subst h; exact .inl hd
    | succ i => exact .inr (ih (by simpa using h))

theorem ren_one (σ : Nat → Nat) (x : AV) : (x.ren σ).one = x.one := by cases x <;> rfl
theorem ren_cells (σ : Nat → Nat) (x : AV) : (x.ren σ).cells = x.cells.map (AV.ren σ) := by
  cases x <;> simp [AV.ren, AV.cells, renL_map]

/-- What the callee hands back stands under the caller's names. -/
theorem Rep.ren {H : Heap} {ρ : Rho} {x : AV} {v : Value} (h : Rep H ρ x v) : ∀ {σ : Nat → Nat} {ρ' : Rho}, (∀ d ∈ x.ids, ρ' (σ d) = ρ d) → Rep H ρ' (x.ren σ) v := by
  induction h with
  | v h => intro _ _ _; exact .v h
  | st hl h1 _ ih =>
    intro σ ρ' hr
    simp only [AV.ren, renL_map]
    refine .st (by simpa using hl) (by simpa [ren_one] using h1) (fun i c u hc hu => ?_)
    rw [List.getElem?_map, Option.map_eq_some_iff] at hc
    obtain ⟨c0, hc0, rfl⟩ := hc
    exact ih i c0 u hc0 hu (fun d hd => hr d (by simp only [AV.ids]; exact idsA_mem hc0 hd))
  | slNil => intro _ _ _; exact .slNil
  | sl cell hcap hmax hk h1 hH h _ => intro _ _ _; exact .sl cell hcap hmax hk h1 hH h
  | ep cell h1 hH h _ => intro _ _ _; exact .ep cell h1 hH h
  | ownNil h => intro σ ρ' hr; exact .ownNil ((hr _ (by simp [AV.ids])).trans h)
  | own h hn hm => intro σ ρ' hr; exact .own ((hr _ (by simp [AV.ids])).trans h) hn hm
  | loc h => intro σ ρ' hr; exact .loc ((hr _ (by simp [AV.ids])).trans h)
  | eloc h => intro σ ρ' hr; exact .eloc ((hr _ (by simp [AV.ids])).trans h)
  | mp h => intro σ ρ' hr; exact .mp ((hr _ (by simp [AV.ids])).trans h)
  | fn hl1 hl2 _ _ ih1 ih2 =>
    intro σ ρ' hr
    simp only [AV.ren, renL_map]
    refine .fn (by simpa using hl1) (by simpa using hl2) (fun i c u hc hu => ?_) (fun i c u hc hu => ?_)
    · rw [List.getElem?_map, Option.map_eq_some_iff] at hc
      obtain ⟨c0, hc0, rfl⟩ := hc
      exact ih1 i c0 u hc0 hu (fun d hd => hr d (by simp only [AV.ids]; exact List.mem_append_left _ (idsA_mem hc0 hd)))
    · rw [List.getElem?_map, Option.map_eq_some_iff] at hc
      obtain ⟨c0, hc0, rfl⟩ := hc
      exact ih2 i c0 u hc0 hu (fun d hd => hr d (by simp only [AV.ids]; exact List.mem_append_right _ (idsA_mem hc0 hd)))
  | tup hl _ ih =>
    intro σ ρ' hr
    simp only [AV.ren, renL_map]
    refine .tup (by simpa using hl) (fun i c u hc hu => ?_)
    rw [List.getElem?_map, Option.map_eq_some_iff] at hc
    obtain ⟨c0, hc0, rfl⟩ := hc
    exact ih i c0 u hc0 hu (fun d hd => hr d (by simp only [AV.ids]; exact idsA_mem hc0 hd))
  | ifc _ ih => intro σ ρ' hr; exact .ifc (ih (fun d hd => hr d (by simpa only [AV.ids] using hd)))
  | w h => intro _ _ _; exact .w h
  | u => intro _ _ _; exact .u

mutual
/-- What the caller hands on stands under the callee's names. -/
theorem Rep.unren {H : Heap} {ρ : Rho} {σ : Nat → Nat} : ∀ (x : AV) {v : Value}, Rep H ρ (x.ren σ) v → Rep H (fun i => ρ (σ i)) x v
  | .v x, v, h => by cases h with | v h => exact .v h
  | .st cs, v, h => by
    simp only [AV.ren, renL_map] at h
    cases h with
    | st hl h1 h =>
      have := RepL.unren (H := H) (ρ := ρ) (σ := σ) cs ⟨by simpa [renL_map] using hl, fun i c u hc hu => h i c u (by rwa [renL_map] at hc) hu⟩
      exact .st this.1 (by simpa [ren_one] using h1) this.2
  | .sl k xs, v, h => by
    simp only [AV.ren] at h
    cases h with
    | slNil => exact .slNil
    | sl cell hcap hmax hk h1 hH h => exact .sl cell hcap hmax hk h1 hH h
  | .ep x, v, h => by
    simp only [AV.ren] at h
    cases h with
    | ep cell h1 hH h => exact .ep cell h1 hH h
  | .own id k off n, v, h => by
    simp only [AV.ren] at h
    cases h with
    | ownNil h => exact .ownNil h
    | own h hn hm => exact .own h hn hm
  | .loc id off, v, h => by simp only [AV.ren] at h; cases h with | loc h => exact .loc h
  | .eloc id k i off, v, h => by simp only [AV.ren] at h; cases h with | eloc h => exact .eloc h
  | .mp id, v, h => by simp only [AV.ren] at h; cases h with | mp h => exact .mp h
  | .fn f a b, v, h => by
    simp only [AV.ren, renL_map] at h
    cases h with
    | fn hl1 hl2 h1 h2 =>
      have t1 := RepL.unren (H := H) (ρ := ρ) (σ := σ) a ⟨by simpa [renL_map] using hl1, fun i c u hc hu => h1 i c u (by rwa [renL_map] at hc) hu⟩
      have t2 := RepL.unren (H := H) (ρ := ρ) (σ := σ) b ⟨by simpa [renL_map] using hl2, fun i c u hc hu => h2 i c u (by rwa [renL_map] at hc) hu⟩
      exact .fn t1.1 t2.1 t1.2 t2.2
  | .tup vs, v, h => by
    simp only [AV.ren, renL_map] at h
    cases h with
    | tup hl h =>
      have := RepL.unren (H := H) (ρ := ρ) (σ := σ) vs ⟨by simpa [renL_map] using hl, fun i c u hc hu => h i c u (by rwa [renL_map] at hc) hu⟩
      exact .tup this.1 this.2
  | .ifc t x, v, h => by
    simp only [AV.ren] at h
    cases h with
    | ifc h => exact .ifc (Rep.unren x h)
  | .w, v, h => by
    simp only [AV.ren] at h
    cases h with
    | w h => exact .w h
  | .u, v, h => .u
theorem RepL.unren {H : Heap} {ρ : Rho} {σ : Nat → Nat} : ∀ (cs : List AV) {vs : List Value}, RepL H ρ (renL σ cs) vs → RepL H (fun i => ρ (σ i)) cs vs
  | [], vs, h => by rw [h.nil_inv]; exact RepL.nil
  | c :: cs, vs, h => by
    obtain ⟨u, us, rfl, h1, h2⟩ := RepL.cons_inv (by simpa only [renL] using h)
    exact RepL.cons (Rep.unren c h1) (RepL.unren cs h2)
end

def Ct.ren (σ : Nat → Nat) : Ct → Ct
  | .box T x => .box T (x.ren σ)
  | .arr T k xs => .arr T k (renL σ xs)
  | .map es st => .map (es.map fun e => (e.1.ren σ, e.2.ren σ)) st
  | .it m bs ck vis => .it (σ m) bs ck vis
  | .raw o => .raw o

def Ct.ids : Ct → List Nat
  | .box _ x => x.ids
  | .arr _ _ xs => idsA xs
  | .map es _ => idsA (es.map (·.1)) ++ idsA (es.map (·.2))
  | .it m _ _ _ => [m]
  | .raw _ => []

theorem RepL.ren {H : Heap} {ρ ρ' : Rho} {σ : Nat → Nat} {cs : List AV} {vs : List Value} (h : RepL H ρ cs vs) (hr : ∀ d ∈ idsA cs, ρ' (σ d) = ρ d) : RepL H ρ' (cs.map (AV.ren σ)) vs := by
  refine ⟨by simpa using h.1, fun i c u hc hu => ?_⟩
  rw [List.getElem?_map, Option.map_eq_some_iff] at hc
  obtain ⟨c0, hc0, rfl⟩ := hc
  exact (h.2 i c0 u hc0 hu).ren (fun d hd => hr d (idsA_mem hc0 hd))

theorem idsA_append : ∀ a b : List AV, idsA (a ++ b) = idsA a ++ idsA b
  | [], b => rfl
  | x :: a, b => by simp [idsA, idsA_append a b]

theorem ids_cells (x : AV) : idsA x.cells = x.ids := by
  cases x <;> simp [AV.cells, idsA, AV.ids]

theorem ids_flat : ∀ xs : List AV, idsA (xs.flatMap AV.cells) = idsA xs
  | [] => rfl
  | x :: xs => by simp [idsA, idsA_append, ids_cells, ids_flat xs]

theorem oneAll_ren {σ : Nat → Nat} {x : AV} : oneAll (x.ren σ) ↔ oneAll x := by
  simp [oneAll, ren_cells, ren_one]

theorem flat_ren (σ : Nat → Nat) (xs : List AV) : (renL σ xs).flatMap AV.cells = (xs.flatMap AV.cells).map (AV.ren σ) := by
  induction xs with
  | nil => rfl
  | cons x xs ih => simp [renL, ren_cells, ih]

theorem CtRep.ren {H : Heap} {ρ ρ' : Rho} {w : World} {bd : Bd} {c : Ct} {σ : Nat → Nat} (h : CtRep H ρ w bd c) (hr : ∀ d ∈ c.ids, ρ' (σ d) = ρ d) : CtRep H ρ' w bd (c.ren σ) := by
  cases c with
  | box T x =>
    obtain ⟨b, cap, vs, h1, h2, h3, h4, h5⟩ := h
    refine ⟨b, cap, vs, h1, h2, ?_, oneAll_ren.2 h4, by rw [ren_cells]; simpa using h5⟩
    rw [ren_cells]
    exact h3.ren (by rw [ids_cells]; exact hr)
  | arr T k xs =>
    rcases h with ⟨h, rfl⟩ | ⟨b, cap, cur, h1, h2, h3, h4, h5, h6, h7⟩
    · exact .inl ⟨h, rfl⟩
    · refine .inr ⟨b, cap, cur, h1, h2, h3, by rw [renL_map]; simpa using h4, h5, ?_, ?_⟩
      · rw [flat_ren, renL_map, List.length_map]
        exact h6.ren (by rw [ids_flat]; exact hr)
      · rw [renL_map]
        intro x hx
        obtain ⟨y, hy, rfl⟩ := List.mem_map.1 hx
        obtain ⟨h8, h9⟩ := h7 y hy
        exact ⟨by rw [ren_cells]; simpa using h8, oneAll_ren.2 h9⟩
  | map es st =>
    obtain ⟨b, cap, ents, clock, h1, h2, h3, h4, h5⟩ := h
    refine ⟨b, cap, ents, clock, h1, h2, ?_, ?_, h5⟩
    · have := h3.ren (ρ' := ρ') (σ := σ) (fun d hd => hr d (List.mem_append_left _ hd))
      simpa [List.map_map, Function.comp_def] using this
    · have := h4.ren (ρ' := ρ') (σ := σ) (fun d hd => hr d (List.mem_append_right _ hd))
      simpa [List.map_map, Function.comp_def] using this
  | it m bs ck vis =>
    obtain ⟨b, cap, mb, capm, seen, h1, h2, h3, h4, h5⟩ := h
    exact ⟨b, cap, mb, capm, seen, h1, (hr m (by simp [Ct.ids])).trans h2, h3, h4, h5⟩
  | raw o => exact h

theorem CtRep.unren {H : Heap} {ρ : Rho} {w : World} {bd : Bd} {c : Ct} {σ : Nat → Nat} (h : CtRep H ρ w bd (c.ren σ)) : CtRep H (fun i => ρ (σ i)) w bd c := by
  cases c with
  | box T x =>
    obtain ⟨b, cap, vs, h1, h2, h3, h4, h5⟩ := h
    refine ⟨b, cap, vs, h1, h2, ?_, oneAll_ren.1 h4, by rw [ren_cells] at h5; simpa using h5⟩
    rw [ren_cells, ← renL_map] at h3
    exact RepL.unren _ h3
  | arr T k xs =>
    rcases h with ⟨h, h'⟩ | ⟨b, cap, cur, h1, h2, h3, h4, h5, h6, h7⟩
    · exact .inl ⟨h, by cases xs with | nil => rfl | cons => simp [renL] at h'⟩
    · refine .inr ⟨b, cap, cur, h1, h2, h3, by rw [renL_map] at h4; simpa using h4, h5, ?_, ?_⟩
      · rw [flat_ren, ← renL_map, renL_map σ xs, List.length_map] at h6
        exact RepL.unren _ h6
      · intro x hx
        obtain ⟨h8, h9⟩ := h7 (x.ren σ) (by rw [renL_map]; exact List.mem_map_of_mem hx)
        exact ⟨by rw [ren_cells] at h8; simpa using h8, oneAll_ren.1 h9⟩
  | map es st =>
    obtain ⟨b, cap, ents, clock, h1, h2, h3, h4, h5⟩ := h
    refine ⟨b, cap, ents, clock, h1, h2, ?_, ?_, h5⟩
    · have e : (es.map fun e => (e.1.ren σ, e.2.ren σ)).map (·.1) = renL σ (es.map (·.1)) := by simp [renL_map, List.map_map, Function.comp_def]
      rw [e] at h3
      exact RepL.unren _ h3
    · have e : (es.map fun e => (e.1.ren σ, e.2.ren σ)).map (·.2) = renL σ (es.map (·.2)) := by simp [renL_map, List.map_map, Function.comp_def]
      rw [e] at h4
      exact RepL.unren _ h4
  | it m bs ck vis =>
    obtain ⟨b, cap, mb, capm, seen, h1, h2, h3, h4, h5⟩ := h
    exact ⟨b, cap, mb, capm, seen, h1, h2, h3, h4, h5⟩
  | raw o => exact h

def dropB (ids : List Nat) : List (Nat × Ct) → List (Nat × Ct)
  | [] => []
  | (i, c) :: l => if ids.contains i then dropB ids l else (i, c) :: dropB ids l

theorem lk_dropB {ids : List Nat} : ∀ {l : List (Nat × Ct)} {i : Nat}, lk (dropB ids l) i = if ids.contains i then none else lk l i
  | [], i => by simp [dropB, lk]
  | (j, c) :: l, i => by
    simp only [dropB]
    split
    · rename_i h
      rw [lk_dropB]
      split
      · rfl
      · rename_i h2
        simp only [lk]
        rw [if_neg (fun (e : j = i) => h2 (e ▸ h))]
    · rename_i h
      simp only [lk]
      by_cases e : j = i
      · subst e
        rw [if_pos rfl, if_neg h, if_pos rfl]
      · rw [if_neg e, if_neg e, lk_dropB]

theorem lk_append {α : Type} : ∀ {a b : List (Nat × α)} {i : Nat}, lk (a ++ b) i = match lk a i with | some c => some c | none => lk b i
  | [], b, i => by simp [lk]
  | (j, c) :: a, b, i => by
    simp only [List.cons_append, lk]
    by_cases e : j = i
    · simp [e]
    · simp [e, lk_append (a := a)]

theorem lk_mem {α : Type} : ∀ {a : List (Nat × α)} {i : Nat} {c : α}, lk a i = some c → (i, c) ∈ a
  | [], i, c, h => by simp [lk] at h
  | (j, x) :: a, i, c, h => by
    simp only [lk] at h
    split at h
    · rename_i e; cases h; subst e; exact List.mem_cons_self
    · exact List.mem_cons_of_mem _ (lk_mem h)

theorem lk_ren {τ : Nat → Nat} : ∀ {L : List (Nat × Ct)} {i : Nat} {c : Ct}, lk (L.map fun p => (τ p.1, p.2.ren τ)) i = some c → ∃ p ∈ L, τ p.1 = i ∧ c = p.2.ren τ
  | [], i, c, h => by simp [lk] at h
  | p :: L, i, c, h => by
    simp only [List.map_cons, lk] at h
    split at h
    · rename_i e; cases h; exact ⟨p, List.mem_cons_self, e, rfl⟩
    · obtain ⟨q, hq, h1, h2⟩ := lk_ren h
      exact ⟨q, List.mem_cons_of_mem _ hq, h1, h2⟩

/-- How a call's boxes come back: L under the names that τ gives. -/
structure MBack (s : AState) (bx : List (Nat × Ct)) (σ : Nat → Nat) (res : AV) (bf : Nat → Option Ct) (L : List (Nat × Ct)) (τ : Nat → Nat) : Prop where
  known : ∀ p ∈ L, bf p.1 = some p.2
  name : ∀ p ∈ L, (1000000 ≤ p.1 ∧ (lk bx p.1).isSome = true ∧ τ p.1 = σ p.1) ∨ (p.1 < 1000000 ∧ s.ment (τ p.1) = false ∧ s.box (τ p.1) = none ∧ τ p.1 < 1000000)
  inj : ∀ p ∈ L, ∀ q ∈ L, τ p.1 = τ q.1 → p.1 = q.1
  ids : ∀ i ∈ res.ids, i ∈ L.map (·.1)
  ids2 : ∀ p ∈ L, ∀ i ∈ p.2.ids, i ∈ L.map (·.1)

section
variable {P : Program} {E : Env}

theorem ACall_mut {g : FuncId} {args cargs : List AV} {bx : List (Nat × Ct)} {R : AV → (Nat → Option Ct) → Prop} {s : AState} {d : Option Tmp} {K : AState → Prop} (hsp : MSpec P g args bx R) (σ : Nat → Nat) (hargs : cargs = args.map (AV.ren σ))
    (hbx : ∀ i c, lk bx i = some c → s.box (σ i) = some (c.ren σ)) (hinj : ∀ i i', (lk bx i).isSome = true → (lk bx i').isSome = true → σ i = σ i' → i = i')
    (hk : ∀ res bf, R res bf → ∃ (L : List (Nat × Ct)) (τ : Nat → Nat), MBack s bx σ res bf L τ ∧ K ((AState.mk s.s (L.map (fun p => (τ p.1, p.2.ren τ)) ++ dropB (bx.map fun p => σ p.1) s.b)).put d (res.ren τ))) :
    ACall P E g cargs s d K := by
  refine ⟨hsp.1, fun H ρ a w vs hs hr hd => ?_⟩
  subst hargs
  have hOwn : ∀ b, OwnB (fun i => ρ (σ i)) (lk bx) b → ∃ i c cap, (lk bx i).isSome = true ∧ s.box (σ i) = some c ∧ ρ (σ i) = .at b cap := by
    rintro b ⟨i, c, cap, hc, hb⟩
    exact ⟨i, _, cap, by simp [hc], hbx i c hc, hb⟩
  refine Calls.mono (hsp.2 H (fun i => ρ (σ i)) w vs hs.ext ⟨fun i c hc => (hs.boxes.rep _ _ (hbx i c hc)).unren, fun i c b cap hc hb => ?_, fun i i' c c' b cap cap' hc hc' hb hb' => ?_⟩ (RepL.unren args (by rw [renL_map]; exact hr))) ?_
  · obtain ⟨h1, h2, _⟩ := hs.boxes.apart _ _ b cap (hbx i c hc) hb
    exact ⟨h1, h2, trivial⟩
  · exact hinj i i' (by simp [hc]) (by simp [hc']) (hs.boxes.inj _ _ _ _ b cap cap' (hbx i c hc) (hbx i' c' hc') hb hb')
  rintro e w' ⟨H', ρ', res, bf', v, rfl, hR, hle, hnew, hext, hB, hrep, hfr, hkeep⟩
  obtain ⟨L, τ, hM, hK⟩ := hk res bf' hR
  refine ⟨v, rfl, (AState.mk s.s (L.map (fun p => (τ p.1, p.2.ren τ)) ++ dropB (bx.map fun p => σ p.1) s.b)).put d (res.ren τ), H', ?_⟩
  -- the caller's binding behind the call
  let isNew : Nat → Prop := fun i => ∃ p ∈ L, p.1 < 1000000 ∧ τ p.1 = i
  have hex : ∀ i, ∃ bd, (∀ p ∈ L, p.1 < 1000000 → τ p.1 = i → bd = ρ' p.1) ∧ ((¬ isNew i) → bd = ρ i) := by
    intro i
    by_cases h : isNew i
    · obtain ⟨p, hp, hlt, rfl⟩ := h
      exact ⟨ρ' p.1, fun q hq _ e => by rw [hM.inj q hq p hp e], fun hn => absurd ⟨p, hp, hlt, rfl⟩ hn⟩
    · exact ⟨ρ i, fun p hp hlt e => absurd ⟨p, hp, hlt, e⟩ h, fun _ => rfl⟩
  let ρc : Rho := fun i => Classical.choose (hex i)
  have hρnew : ∀ p ∈ L, p.1 < 1000000 → ρc (τ p.1) = ρ' p.1 := fun p hp hlt => (Classical.choose_spec (hex (τ p.1))).1 p hp hlt rfl
  have hρold : ∀ i, ¬ isNew i → ρc i = ρ i := fun i h => (Classical.choose_spec (hex i)).2 h
  have hnewfresh : ∀ i, isNew i → s.ment i = false ∧ s.box i = none ∧ i < 1000000 := by
    rintro i ⟨p, hp, hlt, rfl⟩
    rcases hM.name p hp with ⟨h, _⟩ | ⟨_, h1, h2, h3⟩
    · omega
    · exact ⟨h1, h2, h3⟩
  have hρL : ∀ p ∈ L, ρc (τ p.1) = ρ' p.1 := by
    intro p hp
    by_cases hlt : p.1 < 1000000
    · exact hρnew p hp hlt
    · rcases hM.name p hp with ⟨h, h1, h2⟩ | ⟨h, _⟩
      · have hn : ¬ isNew (τ p.1) := by
          intro hn
          have := (hnewfresh _ hn).2.1
          rw [h2] at this
          cases hc : lk bx p.1 with
          | none => rw [hc] at h1; cases h1
          | some c => rw [hbx _ _ hc] at this; cases this
        rw [hρold _ hn, h2, hkeep p.1 h]
      · exact absurd h hlt
  have hρids : ∀ i ∈ L.map (·.1), ρc (τ i) = ρ' i := by
    intro i hi
    obtain ⟨p, hp, rfl⟩ := List.mem_map.1 hi
    exact hρL p hp
  have hsz := hs.frame.size
  have hmine : ∀ b, (w.heap.size ≤ b ∨ OwnB (fun i => ρ (σ i)) (lk bx) b) → E.mine b := by
    rintro b (h | h)
    · exact .inl (by omega)
    · obtain ⟨i, c, cap, _, hc, hb⟩ := hOwn b h
      exact (hs.boxes.apart _ _ b cap hc hb).2.2
  -- what is not handed over stands as it stood
  have hrest : ∀ i c, ¬ (bx.map fun p => σ p.1).contains i = true → s.box i = some c → ∀ b cap, ρ i = .at b cap → b < w.heap.size ∧ ¬ OwnB (fun i => ρ (σ i)) (lk bx) b := by
    intro i c hni hc b cap hb
    refine ⟨(hs.boxes.apart i c b cap hc hb).2.1, fun h => hni ?_⟩
    obtain ⟨j, c', cap', hj, hc', hb'⟩ := hOwn b h
    have := hs.boxes.inj _ _ _ _ b cap' cap hc' hc hb' hb
    subst this
    cases hjj : lk bx j with
    | none => rw [hjj] at hj; cases hj
    | some c2 =>
      have := lk_mem hjj
      simp only [List.contains_iff_mem, List.mem_map]
      exact ⟨(j, c2), this, rfl⟩
  let s1 : AState := AState.mk s.s (L.map (fun p => (τ p.1, p.2.ren τ)) ++ dropB (bx.map fun p => σ p.1) s.b)
  have hbox1 : ∀ i c, s1.box i = some c → (∃ p ∈ L, τ p.1 = i ∧ c = p.2.ren τ) ∨ (¬ (bx.map fun p => σ p.1).contains i = true ∧ s.box i = some c) := by
    intro i c hc
    have hc' : lk (L.map (fun p => (τ p.1, p.2.ren τ)) ++ dropB (bx.map fun p => σ p.1) s.b) i = some c := hc
    rw [lk_append] at hc'
    split at hc'
    · rename_i c1 h1
      cases hc'
      exact .inl (lk_ren h1)
    · rw [lk_dropB] at hc'
      split at hc'
      · cases hc'
      · exact .inr ⟨by assumption, hc'⟩
  have hsim : Sim E H' ρc s1.slot s1.box a w' := by
    refine ⟨hext, fun i => ?_, hs.size, hs.defers, ⟨fun i c hc => ?_, fun i c b cap hc hb => ?_, fun i i' c c' b cap cap' hc hc' hb hb' => ?_⟩, Heap.le_trans hs.h0 hle, ?_, ?_, fun i hi => ?_, hs.nle⟩
    · refine ((hs.slots i).mono hle).rho (fun d hd => ?_)
      refine hρold d (fun hn => ?_)
      rw [AState.ment_slot (hnewfresh d hn).1] at hd
      cases hd
    · rcases hbox1 i c hc with ⟨p, hp, rfl, rfl⟩ | ⟨hni, hc⟩
      · rw [hρL p hp]
        exact (hB.rep p.1 p.2 (hM.known p hp)).ren (fun d hd => hρids d (hM.ids2 p hp d hd))
      · have hn : ¬ isNew i := fun hn => by rw [(hnewfresh i hn).2.1] at hc; cases hc
        rw [hρold i hn]
        refine (hs.boxes.rep i c hc).mono hle (fun d hd => hρold d (fun hn => ?_)) (fun b cap hb => ?_)
        · rw [AState.ment_box (hnewfresh d hn).1 hc] at hd
          cases hd
        · obtain ⟨h1, h2⟩ := hrest i c hni hc b cap hb
          exact hfr.block b h1 h2
    · rcases hbox1 i c hc with ⟨p, hp, rfl, rfl⟩ | ⟨hni, hc⟩
      · rw [hρL p hp] at hb
        obtain ⟨h1, h2, h3⟩ := hB.apart p.1 p.2 b cap (hM.known p hp) hb
        exact ⟨h1, h2, hmine b h3⟩
      · have hn : ¬ isNew i := fun hn => by rw [(hnewfresh i hn).2.1] at hc; cases hc
        rw [hρold i hn] at hb
        obtain ⟨h1, h2, h3⟩ := hs.boxes.apart i c b cap hc hb
        obtain ⟨h4, h5⟩ := hrest i c hni hc b cap hb
        refine ⟨fun o => ?_, Nat.lt_of_lt_of_le h2 hfr.size, h3⟩
        cases hh : H' b o with
        | none => rfl
        | some u =>
          rcases hnew b o u hh (h1 o) with h | h
          · omega
          · exact absurd h h5
    · have cross : ∀ p ∈ L, ∀ i c, ¬ (bx.map fun p => σ p.1).contains i = true → s.box i = some c → ∀ b cap cap', ρc (τ p.1) = .at b cap → ρc i = .at b cap' → False := by
        intro p hp i c hni hc b cap cap' hb hb'
        rw [hρL p hp] at hb
        have hn : ¬ isNew i := fun hn => by rw [(hnewfresh i hn).2.1] at hc; cases hc
        rw [hρold i hn] at hb'
        obtain ⟨h4, h5⟩ := hrest i c hni hc b cap' hb'
        rcases (hB.apart p.1 p.2 b cap (hM.known p hp) hb).2.2 with h | h
        · omega
        · exact h5 h
      rcases hbox1 i c hc with ⟨p, hp, rfl, rfl⟩ | ⟨hni, hc⟩ <;> rcases hbox1 i' c' hc' with ⟨q, hq, rfl, rfl⟩ | ⟨hni', hc'⟩
      · rw [hρL p hp] at hb
        rw [hρL q hq] at hb'
        rw [hB.inj p.1 q.1 _ _ b cap cap' (hM.known p hp) (hM.known q hq) hb hb']
      · exact (cross p hp i' c' hni' hc' b cap cap' hb hb').elim
      · exact (cross q hq i c hni hc b cap' cap hb' hb).elim
      · have hn : ¬ isNew i := fun hn => by rw [(hnewfresh i hn).2.1] at hc; cases hc
        have hn' : ¬ isNew i' := fun hn => by rw [(hnewfresh i' hn).2.1] at hc'; cases hc'
        rw [hρold i hn] at hb
        rw [hρold i' hn'] at hb'
        exact hs.boxes.inj i i' c c' b cap cap' hc hc' hb hb'
    · intro b o u hu h0
      cases hh : H b o with
      | some u' => exact hs.new b o u' hh h0
      | none => exact hmine b (hnew b o u hu hh)
    · refine hs.frame.trans hfr (fun k hk hown => ?_)
      obtain ⟨i, c, cap, _, hc, hb⟩ := hOwn k hown
      rcases (hs.boxes.apart _ _ k cap hc hb).2.2 with h | h
      · omega
      · exact h
    · have hn : ¬ isNew i := fun hn => by have := (hnewfresh i hn).2.2; omega
      rw [hρold i hn]
      exact hs.keep i hi
  refine ⟨ρc, hK, ?_⟩
  rw [AState.slot_put, AState.box_put]
  exact hsim.put hd (hrep.ren (fun d hd => hρids d (hM.ids d hd)))

end

end Go.Am
