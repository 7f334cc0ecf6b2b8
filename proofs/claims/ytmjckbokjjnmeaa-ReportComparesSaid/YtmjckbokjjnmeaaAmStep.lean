/- The abstract machine, part 11: a step keeps what the state stands for. -/
import Derived.Test.YtmjckbokjjnmeaaAmQA
namespace Go.Am
open Go.RowKit

def putF (sf : Nat → AV) (d : Option Tmp) (x : AV) : Nat → AV := match d with
  | some d => fun i => if d = i then x else sf i
  | none => sf
def addF (bf : Nat → Option Ct) (d : Option Tmp) (n : Option Ct) : Nat → Option Ct := match d, n with
  | some d, some c => fun i => if d = i then some c else bf i
  | _, _ => bf

theorem AState.slot_put (s : AState) (d : Option Tmp) (x : AV) : (s.put d x).slot = putF s.slot d x := by
  cases d with
  | none => rfl
  | some d =>
    funext i
    simp only [AState.put, AState.slot, lk, putF]
    split <;> rfl
theorem AState.box_put (s : AState) (d : Option Tmp) (x : AV) : (s.put d x).box = s.box := by cases d <;> rfl
theorem AState.slot_addBox (s : AState) (d : Option Tmp) (n : Option Ct) : (s.addBox d n).slot = s.slot := by cases d <;> cases n <;> rfl
theorem AState.box_addBox (s : AState) (d : Option Tmp) (n : Option Ct) : (s.addBox d n).box = addF s.box d n := by
  cases d <;> cases n <;> rfl

theorem put_get {a : Act} {d i : Nat} {u : Value} (hd : d < a.tmps.size) : (a.put (some d) u).tmps.getD i undef = if d = i then u else a.tmps.getD i undef := by
  simp only [Act.put, Array.getD_eq_getD_getElem?, Array.getElem?_setIfInBounds]
  split
  · rename_i e; subst e; simp
  · rfl

section
variable {P : Program} {E : Env}

theorem Sim.put {H : Heap} {ρ : Rho} {sf : Nat → AV} {bf : Nat → Option Ct} {a : Act} {w : World} (h : Sim E H ρ sf bf a w) {d : Option Tmp} (hd : ∀ t, d = some t → t < E.n) {x : AV} {u : Value} (hr : Rep H ρ x u) :
    Sim E H ρ (putF sf d x) bf (a.put d u) w := by
  cases d with
  | none => exact h
  | some d =>
    have hlt : d < a.tmps.size := by rw [h.size]; exact hd d rfl
    refine ⟨h.ext, fun i => ?_, by simp [Act.put, h.size], h.defers, h.boxes, h.h0, h.new, h.frame, h.keep, h.nle⟩
    rw [put_get hlt]
    simp only [putF]
    split
    · exact hr
    · exact h.slots i

theorem Rep.undef {H : Heap} {ρ : Rho} : Rep H ρ (.tup []) undef := Rep.tup (vs := []) rfl (by simp)

/-- Behind a quiet operation. -/
theorem Sim.quiet2 {H : Heap} {ρ : Rho} {sf : Nat → AV} {bf : Nat → Option Ct} {a a' : Act} {w w' : World} {o : Oper} {k : AV → Option Ct → Prop} (h : Sim E H ρ sf bf a w) (hd : ∀ t, o.dst = some t → t < E.n)
    (hfr : ∀ x c, k x (some c) → ∀ t, o.dst = some t → (∀ i, (sf i).ment t = false) ∧ (∀ id c, bf id = some c → c.ment t = false)) (hq : QPost o a w H ρ k a' w') :
    ∃ x n H' ρ', k x n ∧ (∀ d, n = none ∨ o.dst ≠ some d → ρ' d = ρ d) ∧ Sim E H' ρ' (putF sf o.dst x) (addF bf o.dst n) a' w' := by
  obtain ⟨x, n, H', ρ', u, hk, rfl, hle, hnew, hext, hr, hbel, hnb⟩ := hq
  refine ⟨x, n, H', ρ', hk, ?_, ?_⟩
  · intro d hd'
    cases n with
    | none => have : ρ' = ρ := hnb; rw [this]
    | some c =>
      obtain ⟨t, b0, cap0, ht, rfl, _⟩ := hnb
      rcases hd' with h | h
      · cases h
      · have : d ≠ t := fun e => h (by rw [ht, e])
        simp [Rho.upd, this]
  have hsz := h.frame.size
  have hnew' : ∀ b o v, H' b o = some v → E.H0 b o = none → E.mine b := by
    intro b o v hv h0
    cases hh : H b o with
    | some v' => exact h.new b o v' hh h0
    | none => exact .inl (Nat.le_trans hsz (hnew b o v hv hh))
  have hfrm : FrameBut E.may E.w0 w' := h.frame.trans (may' := fun _ => False) (.of_below hbel) (fun _ _ x => x.elim)
  have keepH : ∀ b, b < w.heap.size → (∀ o, H b o = none) → ∀ o, H' b o = none := by
    intro b hb hn o
    cases hh : H' b o with
    | none => rfl
    | some v => have := hnew b o v hh (hn o); omega
  cases n with
  | none =>
    have hρ : ρ' = ρ := hnb
    subst hρ
    have h2 : Sim E H' ρ' sf bf a w' := by
      refine ⟨hext, fun i => (h.slots i).mono hle, h.size, h.defers, ⟨fun id c hc => ?_, fun id c b cap hc hb => ?_, h.boxes.inj⟩, Heap.le_trans h.h0 hle, hnew', hfrm, h.keep, h.nle⟩
      · exact (h.boxes.rep id c hc).mono hle (fun _ _ => rfl) (fun b cap hb => hbel.block b (h.boxes.apart id c b cap hc hb).2.1)
      · obtain ⟨h1, h2, h3⟩ := h.boxes.apart id c b cap hc hb
        exact ⟨keepH b h2 h1, Nat.lt_of_lt_of_le h2 hbel.size, h3⟩
    have h3 := h2.put hd hr
    have : addF bf o.dst none = bf := by cases o.dst <;> rfl
    rw [this]
    exact h3
  | some c =>
    obtain ⟨t, b0, cap0, ht, rfl, hb0, hb1, hbn, hcr⟩ := hnb
    obtain ⟨hf1, hf2⟩ := hfr x c hk t ht
    have htn := hd t ht
    rw [ht]
    have hlt : t < a.tmps.size := by rw [h.size]; exact htn
    have hρne : ∀ id, id ≠ t → (ρ.upd t (.at b0 cap0)) id = ρ id := fun id hne => by simp [Rho.upd, hne]
    refine ⟨hext, fun i => ?_, by simp [Act.put, h.size], h.defers, ⟨fun id c' hc => ?_, fun id c' b cap hc hb => ?_, fun id id' c1 c2 b cap cap' hc hc' hb hb' => ?_⟩, Heap.le_trans h.h0 hle, hnew', hfrm, fun i hi => (hρne i (fun e => absurd (Nat.lt_of_lt_of_le htn h.nle) (Nat.not_lt.2 (e ▸ hi)))).trans (h.keep i hi), h.nle⟩
    · rw [put_get hlt]
      simp only [putF]
      split
      · exact hr
      · exact ((h.slots i).mono hle).upd (hf1 i)
    · simp only [addF] at hc
      split at hc
      · rename_i e
        subst e
        cases hc
        rw [Rho.upd_same]
        exact hcr
      · rename_i hne
        rw [hρne id (fun e => hne e.symm)]
        refine (h.boxes.rep id c' hc).mono hle (fun d hdm => hρne d (fun e => ?_)) (fun b cap hb => hbel.block b (h.boxes.apart id c' b cap hc hb).2.1)
        subst e
        rw [hf2 id c' hc] at hdm
        cases hdm
    · simp only [addF] at hc
      split at hc
      · rename_i e
        subst e
        rw [Rho.upd_same] at hb
        cases hb
        exact ⟨hbn, hb1, .inl (Nat.le_trans hsz hb0)⟩
      · rename_i hne
        rw [hρne id (fun e => hne e.symm)] at hb
        obtain ⟨h1, h2, h3⟩ := h.boxes.apart id c' b cap hc hb
        exact ⟨keepH b h2 h1, Nat.lt_of_lt_of_le h2 hbel.size, h3⟩
    · simp only [addF] at hc hc'
      split at hc
      · rename_i e
        split at hc'
        · rename_i e'; exact e.symm.trans e'
        · rename_i hne'
          exfalso
          subst e
          rw [Rho.upd_same] at hb
          cases hb
          rw [hρne id' (fun e => hne' e.symm)] at hb'
          have := (h.boxes.apart id' c2 _ _ hc' hb').2.1
          omega
      · rename_i hne
        rw [hρne id (fun e => hne e.symm)] at hb
        split at hc'
        · rename_i e'
          exfalso
          subst e'
          rw [Rho.upd_same] at hb'
          cases hb'
          have := (h.boxes.apart id c1 _ _ hc hb).2.1
          omega
        · rename_i hne'
          rw [hρne id' (fun e => hne' e.symm)] at hb'
          exact h.boxes.inj id id' c1 c2 b cap cap' hc hc' hb hb'

theorem Sim.quiet {H : Heap} {ρ : Rho} {sf : Nat → AV} {bf : Nat → Option Ct} {a a' : Act} {w w' : World} {o : Oper} {k : AV → Option Ct → Prop} (h : Sim E H ρ sf bf a w) (hd : ∀ t, o.dst = some t → t < E.n)
    (hfr : ∀ x c, k x (some c) → ∀ t, o.dst = some t → (∀ i, (sf i).ment t = false) ∧ (∀ id c, bf id = some c → c.ment t = false)) (hq : QPost o a w H ρ k a' w') :
    ∃ x n H' ρ', k x n ∧ Sim E H' ρ' (putF sf o.dst x) (addF bf o.dst n) a' w' := by
  obtain ⟨x, n, H', ρ', hk, _, hs⟩ := h.quiet2 hd hfr hq
  exact ⟨x, n, H', ρ', hk, hs⟩

/-! ### calls -/

/-- A call of the function g. -/
structure ACall (P : Program) (E : Env) (g : FuncId) (args : List AV) (s : AState) (d : Option Tmp) (K : AState → Prop) : Prop where
  ent : Ent P g
  run : ∀ H ρ a w vs, Sim E H ρ s.slot s.box a w → RepL H ρ args vs → (∀ t, d = some t → t < E.n) →
    Calls P g vs.toArray w fun e w' => ∃ v, e = .returned v ∧ ∃ s' H' ρ', K s' ∧ Sim E H' ρ' s'.slot s'.box (a.put d v) w'

theorem ACall.mono {g : FuncId} {args : List AV} {s : AState} {d : Option Tmp} {K K' : AState → Prop} (h : ACall P E g args s d K) (hk : ∀ s, K s → K' s) : ACall P E g args s d K' :=
  ⟨h.ent, fun H ρ a w vs hs hr hd => Calls.mono (h.run H ρ a w vs hs hr hd) (fun _ _ ⟨v, he, s', H', ρ', hks, hs'⟩ => ⟨v, he, s', H', ρ', hk _ hks, hs'⟩)⟩

/-- By the contract of a function of values. -/
theorem ACall_pure {g : FuncId} {args ds : List AV} {res : AV} {s : AState} {d : Option Tmp} {K : AState → Prop} (hsp : PSpec P g ds res) (hv : ViewL s.box args ds) (hfl : res.flat = true ∨ (ds = args ∧ idfL args = true ∧ res.idf = true))
    (hk : K (s.put d res)) : ACall P E g args s d K := by
  refine ⟨hsp.1, fun H ρ a w vs hs hr hd => ?_⟩
  have he := hs.ext
  have hb := hs.boxes.rep
  rcases hfl with hfl | ⟨rfl, hi, hri⟩
  · refine Calls.mono (hsp.2 (snap w) w vs (snap_ext w) (viewL_rep hv hr he hb)) ?_
    rintro e w' ⟨H', v, rfl, hle, hnew, hext, hrep, hbel⟩
    obtain ⟨x, n, H2, ρ2, ⟨rfl, rfl⟩, hs'⟩ := hs.quiet (o := { (default : Oper) with dst := d }) (k := fun x n => x = res ∧ n = none) hd (by rintro x c ⟨_, h⟩; cases h)
      ⟨res, none, H, ρ, v, ⟨rfl, rfl⟩, rfl, H.le_refl, fun b i u h h' => by rw [h'] at h; simp at h, he.of_below hbel, hrep.flat hfl, hbel, rfl⟩
    refine ⟨v, rfl, _, H2, ρ2, hk, ?_⟩
    rw [AState.slot_put, AState.box_put]
    have : addF s.box d none = s.box := by cases d <;> rfl
    rw [this] at hs'
    exact hs'
  · refine Calls.mono (hsp.2 H w vs he (hr.idf hi)) ?_
    rintro e w' ⟨H', v, rfl, hle, hnew, hext, hrep, hbel⟩
    obtain ⟨x, n, H2, ρ2, ⟨rfl, rfl⟩, hs'⟩ := hs.quiet (o := { (default : Oper) with dst := d }) (k := fun x n => x = res ∧ n = none) hd (by rintro x c ⟨_, h⟩; cases h)
      ⟨res, none, H', ρ, v, ⟨rfl, rfl⟩, rfl, hle, hnew, hext, hrep.idf hri, hbel, rfl⟩
    refine ⟨v, rfl, _, H2, ρ2, hk, ?_⟩
    rw [AState.slot_put, AState.box_put]
    have : addF s.box d none = s.box := by cases d <;> rfl
    rw [this] at hs'
    exact hs'

end
end Go.Am
