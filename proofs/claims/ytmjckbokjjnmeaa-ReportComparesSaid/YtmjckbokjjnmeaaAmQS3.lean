/- The abstract machine, part 8: rows, slices, look-ups, lengths, calls. -/
import Derived.Test.YtmjckbokjjnmeaaAmMap
namespace Go.Am
open Go.RowKit

section
variable {P : Program} {w : World} {H : Heap} {ρ : Rho} {bf : Nat → Option Ct}

/-! ### rows -/
theorem flat_set {k : Nat} : ∀ {es : List AV} {i : Nat} {x : AV}, (∀ e ∈ es, e.cells.length = k) → x.cells.length = k → i < es.length →
    (es.set i x).flatMap AV.cells = setPart (es.flatMap AV.cells) (i * k) x.cells
  | [], i, x, _, _, h => by simp at h
  | e :: es, 0, x, he, hx, _ => by
    have h1 := he e (by simp)
    simp only [List.set_cons_zero, List.flatMap_cons, Am.setPart, Nat.zero_mul, List.take_zero, List.nil_append, Nat.zero_add]
    rw [hx, ← h1, List.drop_left]
  | e :: es, i + 1, x, he, hx, hi => by
    have h1 := he e (by simp)
    have ih := flat_set (i := i) (fun z hz => he z (List.mem_cons_of_mem _ hz)) hx (by simpa using hi)
    simp only [List.set_cons_succ, List.flatMap_cons, ih, Am.setPart]
    rw [show (i + 1) * k = e.cells.length + i * k by rw [h1, Nat.add_mul]; omega, List.take_length_add_append, Nat.add_assoc, List.drop_length_add_append]
    simp

theorem buildK_elems {k len : Nat} : ∀ (parts : List (Nat × AV)) (es : List AV), es.length = len → (∀ e ∈ es, e.cells.length = k) → partsOK len k parts →
    buildK (fun i => some (i * k, k)) (es.flatMap AV.cells) parts (fun cs => cs = (fillElems es parts).flatMap AV.cells)
  | [], es, _, _, _ => rfl
  | (i, x) :: rest, es, hl, he, hp => by
    obtain ⟨⟨hi, hs, hx⟩, hrest⟩ := hp
    have hfl := flat_len he
    refine ⟨⟨hs, hx, ?_⟩, ?_⟩
    · rw [hfl, hl]
      have := Nat.mul_le_mul_right k (Nat.succ_le_of_lt hi)
      rw [Nat.succ_mul] at this
      exact this
    · rw [← flat_set he hx (by omega)]
      exact buildK_elems rest (es.set i x) (by simpa using hl) (fun e hm => by
        rcases List.mem_or_eq_of_mem_set hm with h | h
        · exact he e h
        · subst h; exact hx) hrest

theorem fillElems_all {Q : AV → Prop} : ∀ (parts : List (Nat × AV)) (es : List AV), (∀ e ∈ es, Q e) → (∀ p ∈ parts, Q p.2) → ∀ e ∈ fillElems es parts, Q e
  | [], es, h, _ => h
  | (i, x) :: rest, es, h, hp => fillElems_all rest (es.set i x) (fun e hm => by
      rcases List.mem_or_eq_of_mem_set hm with h' | h'
      · exact h e h'
      · subst h'; exact hp (i, e) (by simp)) (fun p hm => hp p (List.mem_cons_of_mem _ hm))

theorem fillElems_length : ∀ (parts : List (Nat × AV)) (es : List AV), (fillElems es parts).length = es.length
  | [], _ => rfl
  | (i, x) :: rest, es => by rw [fillElems, fillElems_length rest]; simp

theorem partsOK_mem {len k : Nat} : ∀ {parts : List (Nat × AV)}, partsOK len k parts → ∀ p ∈ parts, p.2.sto = true ∧ p.2.cells.length = k
  | [], _, p, hp => by simp at hp
  | (i, x) :: rest, h, p, hp => by
    rcases List.mem_cons.1 hp with rfl | hp
    · exact ⟨h.1.2.1, h.1.2.2⟩
    · exact partsOK_mem h.2 p hp

mutual
theorem flat_ment (d : Nat) : ∀ x : AV, x.flat = true → x.ment d = false
  | .v _, _ => by simp [AV.ment]
  | .st cs, h => by simp only [AV.ment]; exact flatL_ment d cs (by simpa only [AV.flat] using h)
  | .sl _ _, _ => by simp [AV.ment]
  | .ep _, _ => by simp [AV.ment]
  | .own .., h => by simp [AV.flat] at h
  | .loc .., h => by simp [AV.flat] at h
  | .eloc .., h => by simp [AV.flat] at h
  | .mp _, h => by simp [AV.flat] at h
  | .fn _ a b, h => by simp [AV.flat] at h
  | .tup vs, h => by simp only [AV.ment]; exact flatL_ment d vs (by simpa only [AV.flat] using h)
  | .ifc _ x, h => by simp only [AV.ment]; exact flat_ment d x (by simpa only [AV.flat] using h)
  | .w, _ => by simp [AV.ment]
  | .u, _ => by simp [AV.ment]
theorem flatL_ment (d : Nat) : ∀ cs : List AV, flatL cs = true → mentL d cs = false
  | [], _ => by simp [mentL]
  | c :: cs, h => by
    simp only [flatL, Bool.and_eq_true] at h
    simp [mentL, flat_ment d c h.1, flatL_ment d cs h.2]
end

theorem mentL_map_v (d : Nat) : ∀ (l : List Value), mentL d (l.map .v) = false
  | [] => rfl
  | x :: l => by simp [mentL, AV.ment, mentL_map_v d l]

theorem ofVal_ment (d : Nat) (v : Value) : (ofVal v).ment d = false := by
  cases v with
  | agg vs =>
    simp only [ofVal]
    split
    · simp only [AV.ment]; exact mentL_map_v d _
    · rfl
  | func f a b => simp only [ofVal]; split <;> simp [AV.ment, mentL]
  | tuple vs => simp only [ofVal]; split <;> simp [AV.ment, mentL]
  | _ => rfl

theorem zeroAV_ment {T : TypeId} {z : AV} (h : zeroAV P T = some z) (d : Nat) : z.ment d = false := by
  obtain ⟨i, v, _, _, rfl⟩ := zeroAV_inv h
  exact ofVal_ment d v

theorem PartsRep.get : ∀ {l : List (Nat × AV)} {m : List (Nat × Value)}, PartsRep H ρ l m → ∀ p ∈ l, ∃ v, Rep H ρ p.2 v
  | [], [], _, p, hp => by simp at hp
  | [], _ :: _, h, _, _ => h.elim
  | _ :: _, [], h, _, _ => h.elim
  | (i, x) :: l, (j, v) :: m, h, p, hp => by
    rcases List.mem_cons.1 hp with rfl | hp
    · exact ⟨v, h.2.1⟩
    · exact PartsRep.get h.2.2 p hp

theorem mentL_false_of {d : Nat} : ∀ {cs : List AV}, (∀ c ∈ cs, c.ment d = false) → mentL d cs = false
  | [], _ => rfl
  | c :: cs, h => by simp [mentL, h c (by simp), mentL_false_of (fun x hx => h x (List.mem_cons_of_mem _ hx))]

theorem flat_zero (zs : Array Value) (len : Nat) :
    ((Array.range (len * zs.size)).map (fun i => zs[i % zs.size]!)).toList = (List.replicate len zs.toList).flatten := by
  rw [Array.toList_map, Array.toList_range]
  induction len with
  | zero => simp
  | succ n ih =>
    rw [Nat.succ_mul, List.range_add, List.map_append, ih, List.replicate_succ', List.flatten_append]
    congr 1
    simp only [List.map_map, List.flatten_cons, List.flatten_nil, List.append_nil]
    apply List.ext_getElem
    · simp
    · intro i h1 h2
      have hi : i < zs.size := by simpa using h1
      simp only [List.getElem_map, List.getElem_range, Function.comp_apply, Array.getElem_toList]
      rw [show (n * zs.size + i) % zs.size = i by rw [Nat.mul_comm, Nat.mul_add_mod]; exact Nat.mod_eq_of_lt hi]
      exact getElem!_pos zs i hi

theorem RepL.replicate {z : AV} {zs : List Value} (h : RepL H ρ z.cells zs) : ∀ len, RepL H ρ ((List.replicate len z).flatMap AV.cells) ((List.replicate len zs).flatten)
  | 0 => by simpa using RepL.nil
  | n + 1 => by
    rw [List.replicate_succ, List.replicate_succ, List.flatMap_cons, List.flatten_cons]
    exact h.append (RepL.replicate h n)

theorem qbslice_sound {T : TypeId} {len d : Nat} {parts : List (Nat × AV)} {vparts : Array (Nat × Value)} {k : AV → Option Ct → Prop} (hp : PartsRep H ρ parts vparts.toList) (hm : ∀ p ∈ parts, p.2.ment d = false)
    (h : qbslice P T len parts d k) : ∃ x c u obj cap, k x (some c) ∧ Rep H (ρ.upd d (.at w.heap.size cap)) x u ∧ CtRep H (ρ.upd d (.at w.heap.size cap)) (w.alloc obj) (.at w.heap.size cap) c ∧ (Instr.buildSlice T len vparts).run P w = .ok u (w.alloc obj) := by
  unfold qbslice at h
  split at h
  · rename_i e hT
    obtain ⟨⟨hok, hsz, hbig⟩, h⟩ := h
    split at h
    · rename_i z hz
      obtain ⟨⟨hzs, hzl⟩, hpo, hk⟩ := h
      obtain ⟨zv, hzr, hzrep, _⟩ := run_zeroValue' hz w
      have hzc := (hzrep H ρ).cellsL hzs
      have hes : ∀ e' ∈ List.replicate len z, e'.cells.length = P.cellsOf e := fun e' he' => by rw [(List.mem_replicate.1 he').2]; exact hzl
      have hone0 : ∀ e' ∈ List.replicate len z, oneAll e' := fun e' he' => by rw [(List.mem_replicate.1 he').2]; exact hzc.2
      have hb := buildK_elems parts (List.replicate len z) (by simp) hes hpo
      have hzsize : zv.cells.size = P.cellsOf e := by have := hzc.1.1; rw [hzl] at this; simpa using this.symm
      have hinit : RepL H ρ ((List.replicate len z).flatMap AV.cells) (((Array.range (len * P.cellsOf e)).map (fun i => zv.cells[i % zv.cells.size]!)).toList) := by
        rw [← hzsize, flat_zero]
        exact RepL.replicate hzc.1 len
      have hone1 : ∀ c ∈ (List.replicate len z).flatMap AV.cells, c.one = true := by
        intro c hc
        obtain ⟨e', he', hc'⟩ := List.mem_flatMap.1 hc
        exact hone0 e' he' c hc'
      obtain ⟨cs', arr', rfl, hf, hr', h1'⟩ := fill_sound (H := H) (ρ := ρ) (fun i => rfl) parts vparts.toList _ _ _ hp hinit hone1 hb
      have hrun : (Instr.buildSlice T len vparts).run P w = .ok (.slice (some ⟨w.heap.size, 0, none⟩) len len) (w.alloc (.cells arr' e)) := by
        have hbig' : ¬ len * P.cellsOf e > 2 ^ 24 := by omega
        simp only [Instr.buildSlice, Sem.run_bind, run_underlying hT, Result.andThen_ok, run_sizeOf' hok, hbig', if_false]
        by_cases h0 : len * P.cellsOf e = 0
        · have hlen0 : len = 0 := by
            rcases Nat.mul_eq_zero.1 h0 with h | h
            · exact h
            · omega
          subst hlen0
          have hr0 : Array.range 0 = #[] := rfl
          have hf' : Instr.fill (fun i => some (i * P.cellsOf e, P.cellsOf e)) #[] vparts.toList = some arr' := by simpa [hr0] using hf
          simp [hr0, hf', newRow]
        · simp [h0, hzr, hf, newRow]
      have hel : ∀ x ∈ fillElems (List.replicate len z) parts, x.cells.length = P.cellsOf e ∧ oneAll x := by
        refine fillElems_all parts _ (fun e' he' => ⟨hes e' he', hone0 e' he'⟩) (fun p hp' => ⟨(partsOK_mem hpo p hp').2, ?_⟩)
        obtain ⟨v, hv⟩ := hp.get p hp'
        exact (hv.cellsL (partsOK_mem hpo p hp').1).2
      have hmel : ∀ x ∈ fillElems (List.replicate len z) parts, x.ment d = false :=
        fillElems_all parts _ (fun e' he' => by rw [(List.mem_replicate.1 he').2]; exact zeroAV_ment hz d) hm
      have hlen : (fillElems (List.replicate len z) parts).length = len := by rw [fillElems_length]; simp
      have hlenmax : len ≤ maxLen := by
        have := Nat.le_mul_of_pos_right len hsz
        unfold maxLen; omega
      have hfl := flat_len (k := P.cellsOf e) (fun x hx => (hel x hx).1)
      refine ⟨_, _, _, _, len, hk, ?_, ?_, hrun⟩
      · have := Rep.own (H := H) (ρ := ρ.upd d (.at w.heap.size len)) (id := d) (k := P.cellsOf e) (off := 0) (n := len) (b := w.heap.size) (cap := len) (Rho.upd_same _ _ _) (by omega) hlenmax
        simpa using this
      · refine .inr ⟨w.heap.size, len, arr', rfl, heap_alloc_new w _, hlenmax, by omega, ?_, ?_, hel⟩
        · have := hr'.1; rw [hfl, hlen] at this; simpa using this.symm
        · have hfull : arr'.toList.take ((fillElems (List.replicate len z) parts).length * P.cellsOf e) = arr'.toList := by
            apply List.take_of_length_le
            have := hr'.1; rw [hfl] at this; omega
          rw [hfull]
          exact hr'.upd (mentL_false_of (fun c hc => by
            obtain ⟨x, hx, hcx⟩ := List.mem_flatMap.1 hc
            have hml := mentL_of_cells (hmel x hx)
            cases hmc : c.ment d with
            | false => rfl
            | true =>
              obtain ⟨i, hi⟩ := List.getElem?_of_mem hcx
              rw [ment_of_mem hi hmc] at hml
              cases hml))
    · exact h.elim
  · exact h.elim

end
end Go.Am
