/- The abstract machine, part 6: the quiet operations do what part 5 says: loads, addresses, parts. -/
import Derived.Test.YtmjckbokjjnmeaaAmQop
namespace Go.Am
open Go.RowKit

section
variable {P : Program} {w : World} {H : Heap} {ρ : Rho} {bf : Nat → Option Ct}

/-- The elements of a row, one by one. -/
theorem flat_get {k : Nat} : ∀ {xs : List AV} {i : Nat} {x : AV}, (∀ x ∈ xs, x.cells.length = k) → xs[i]? = some x → ((xs.flatMap AV.cells).drop (i * k)).take k = x.cells
  | [], i, x, _, h => by simp at h
  | y :: ys, 0, x, hk, h => by
    simp only [List.getElem?_cons_zero, Option.some.injEq] at h
    subst h
    have := hk y (by simp)
    simp only [Nat.zero_mul, List.drop_zero, List.flatMap_cons]
    rw [← this, List.take_left]
  | y :: ys, i + 1, x, hk, h => by
    have hy := hk y (by simp)
    have ih := flat_get (i := i) (x := x) (fun z hz => hk z (List.mem_cons_of_mem _ hz)) (by simpa using h)
    rw [List.flatMap_cons, show (i + 1) * k = y.cells.length + i * k by rw [hy, Nat.add_mul]; omega, ← List.drop_drop, List.drop_left]
    exact ih

theorem flat_len {k : Nat} : ∀ {xs : List AV}, (∀ x ∈ xs, x.cells.length = k) → (xs.flatMap AV.cells).length = xs.length * k
  | [], _ => by simp
  | y :: ys, hk => by
    rw [List.flatMap_cons, List.length_append, hk y (by simp), flat_len (fun z hz => hk z (List.mem_cons_of_mem _ hz)), List.length_cons, Nat.add_mul]
    omega

theorem rho_at {id b cap : Nat} {ρ : Rho} (h : ρ id = .at b cap) {b' cap' : Nat} (h' : ρ id = .at b' cap') : b = b' ∧ cap = cap' := by
  rw [h] at h'; cases h'; exact ⟨rfl, rfl⟩

theorem run_loadAt {T : TypeId} {b o : Nat} {vs : List Value} (hT : okT P T = true) (hl : vs.length = P.cellsOf T) (h1 : aggB P T = true ∨ P.cellsOf T = 1)
    (hc : ∀ j v, vs[j]? = some v → w.cell? ⟨b, o + j, none⟩ = some v) :
    (Instr.loadAt T (.pointer (some ⟨b, o, none⟩))).run P w = .ok (if aggB P T then .agg vs.toArray else vs.headD undef) w := by
  have h := run_loadVar' (w := w) hT hl h1 hc
  simp only [Instr.loadAt, Instr.sureAddr, Sem.run_bind, Sem.run_pure, Result.andThen_ok]
  exact h

theorem qload_sound {T : TypeId} {p : AV} {v : Value} {cont : AV → Prop} (hr : Rep H ρ p v) (he : Ext H w) (hb : ∀ id c, bf id = some c → CtRep H ρ w (ρ id) c)
    (h : qload P T p (lkA bf p) cont) : ∃ x u, cont x ∧ Rep H ρ x u ∧ (Instr.loadAt T v).run P w = .ok u w := by
  obtain ⟨hT, h⟩ := h
  have hd1 : ∀ (l : List Value), (aggB P T = true ∨ P.cellsOf T = 1) → (if aggB P T then Value.agg (l.take (P.cellsOf T)).toArray else (l.take (P.cellsOf T)).headD undef) = (if aggB P T then Value.agg (l.take (P.cellsOf T)).toArray else l.headD undef) := by
    intro l hh
    cases ha : aggB P T with
    | true => rfl
    | false =>
      have : P.cellsOf T = 1 := by simpa [ha] using hh
      rw [this]
      cases l <;> rfl
  split at h
  · rename_i id off
    split at h
    · rename_i T' x hbf
      obtain ⟨⟨hlen, h1⟩, hk⟩ := h
      cases hr with
      | loc hρ =>
        rename_i b cap
        obtain ⟨b', cap', vs, hbd, hheap, hrep, hone, _⟩ := hb _ _ hbf
        obtain ⟨rfl, rfl⟩ := rho_at hρ hbd
        have hl := hrep.1
        refine ⟨_, _, hk, aload_rep hrep hone hlen h1, ?_⟩
        rw [run_loadAt (vs := (vs.drop off).take (P.cellsOf T)) hT (by simp; omega) h1, hd1 _ h1]
        intro j v hj
        rw [List.getElem?_take] at hj
        split at hj
        · rw [cell_of_row w b _ _ _ _ hheap]
          simpa [List.getElem?_drop] using hj
        · cases hj
    · exact h.elim
  · rename_i id kk i off
    split at h
    · rename_i T' k' xs hbf
      obtain ⟨⟨rfl, hi, hlen, h1⟩, hk⟩ := h
      cases hr with
      | eloc hρ =>
        rename_i b cap
        rcases hb _ _ hbf with ⟨hnil, _⟩ | ⟨b', cap', cur, hbd, hheap, hmax, hcap, hsz, hrep, hall⟩
        · rw [hnil] at hρ; cases hρ
        obtain ⟨rfl, rfl⟩ := rho_at hρ hbd
        have hx : xs[i]? = some xs[i] := List.getElem?_eq_getElem hi
        have hfl := flat_len (fun x hx => (hall x hx).1)
        have hseg := (hrep.drop (i * kk)).take kk
        rw [flat_get (fun x hx => (hall x hx).1) hx] at hseg
        have hxk : xs[i].cells.length = kk := (hall _ (List.getElem_mem hi)).1
        have hxd : xs.getD i .u = xs[i] := by simp [hi]
        rw [hxd] at hk
        refine ⟨_, _, hk, aload_rep hseg (hall _ (List.getElem_mem hi)).2 (by omega) h1, ?_⟩
        have hsl := hseg.1
        rw [run_loadAt (vs := ((((cur.toList.take (xs.length * kk)).drop (i * kk)).take kk).drop off).take (P.cellsOf T)) hT (by rw [List.length_take, List.length_drop, ← hsl]; omega) h1, hd1 _ h1]
        intro j v hj
        rw [List.getElem?_take] at hj
        split at hj
        · rw [cell_of_row w b _ _ _ _ hheap]
          rw [List.getElem?_drop, List.getElem?_take] at hj
          split at hj
          · rw [List.getElem?_drop, List.getElem?_take] at hj
            split at hj
            · rw [← hj]
              simp only [Array.getElem?_toList]
              congr 1
              omega
            · cases hj
          · cases hj
        · cases hj
    · exact h.elim
  · rename_i x
    obtain ⟨⟨hlen, hst, h1⟩, hk⟩ := h
    cases hr with
    | ep cell hone hH hrep =>
      rename_i blk off
      have hrl : RepL H ρ x.cells ((List.range x.cells.length).map cell) := by
        refine ⟨by simp, fun i c u hc hu => ?_⟩
        have hi : i < x.cells.length := (List.getElem?_eq_some_iff.1 hc).1
        have hu' : u = cell i := by
          rw [List.getElem?_map, List.getElem?_range hi] at hu
          simpa using hu.symm
        rw [hu']
        exact (hrep i c hc).any (fun _ => rfl) ρ
      refine ⟨x, _, hk, ?_, run_loadAt (vs := (List.range x.cells.length).map cell) hT (by simp [hlen]) h1 ?_⟩
      · have := aload_rep (off := 0) (n := P.cellsOf T) (agg := aggB P T) hrl hone (by omega) h1
        have hfull : ((List.range x.cells.length).map cell).take (P.cellsOf T) = (List.range x.cells.length).map cell := List.take_of_length_le (by simp [hlen])
        have ha : aload x 0 (P.cellsOf T) (aggB P T) = x := by simp [aload, hlen, hst]
        rw [List.drop_zero, hfull, ha] at this
        exact this
      · intro j v hj
        have hjl : j < x.cells.length := by
          have := (List.getElem?_eq_some_iff.1 hj).1
          simpa using this
        rw [List.getElem?_map, List.getElem?_range hjl] at hj
        simp at hj
        subst hj
        exact he _ _ _ (hH j _ (List.getElem?_eq_getElem hjl))
  · exact h.elim

end
end Go.Am
