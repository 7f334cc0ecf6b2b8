/- The abstract machine, part 3: the operations that turn nothing that was there: what each does to abstract values, and that it does so. -/
import Derived.Test.YtmjckbokjjnmeaaAmState
namespace Go.Am
open Go.RowKit

/-! ### types -/
def okT (P : Program) (T : TypeId) : Bool := (P.underlying T).isSome
def aggB (P : Program) (T : TypeId) : Bool := match P.underlying T with | some (.struct _) | some (.array _ _) => true | _ => false
def zeroAV (P : Program) (T : TypeId) : Option AV := ((P.info? T).bind (·.zero)).map ofVal

theorem info_of_okT {P : Program} {T : TypeId} (h : okT P T = true) : ∃ i, P.info? T = some i := by
  unfold okT Program.underlying at h
  cases hi : P.info? T with
  | none => rw [hi] at h; simp at h
  | some i => exact ⟨i, rfl⟩

theorem run_isAgg' {P : Program} {T : TypeId} (h : okT P T = true) (w : World) : (isAgg T).run P w = .ok (aggB P T) w := by
  unfold okT at h
  obtain ⟨d, hd⟩ := Option.isSome_iff_exists.1 h
  unfold aggB
  rw [hd]
  cases d <;> simp [isAgg, run_underlying hd]

theorem run_sizeOf' {P : Program} {T : TypeId} (h : okT P T = true) (w : World) : (sizeOf T).run P w = .ok (P.cellsOf T) w := by
  obtain ⟨i, hi⟩ := info_of_okT h
  simp [sizeOf, typeInfo, hi, Program.cellsOf]

/-! ### parts -/
def AV.isSt : AV → Bool | .st _ => true | _ => false
def AV.part (x : AV) (off n : Nat) (agg : Bool) : AV := if agg then .st ((x.cells.drop off).take n) else (x.cells.drop off).headD .u
/-- What a load of type T (n cells) reads out of the variable x. -/
def aload (x : AV) (off n : Nat) (agg : Bool) : AV := if off = 0 ∧ x.cells.length = n ∧ x.isSt = agg then x else x.part off n agg

theorem RepL.drop {H : Heap} {ρ : Rho} {cs : List AV} {vs : List Value} (h : RepL H ρ cs vs) (n : Nat) : RepL H ρ (cs.drop n) (vs.drop n) :=
  ⟨by simp [h.1], fun i c u hc hu => h.2 (n + i) c u (by simpa [List.getElem?_drop] using hc) (by simpa [List.getElem?_drop] using hu)⟩
theorem RepL.take {H : Heap} {ρ : Rho} {cs : List AV} {vs : List Value} (h : RepL H ρ cs vs) (n : Nat) : RepL H ρ (cs.take n) (vs.take n) := by
  refine ⟨by simp [h.1], fun i c u hc hu => ?_⟩
  rw [List.getElem?_take] at hc hu
  split at hc
  · rename_i hi; rw [if_pos hi] at hu; exact h.2 i c u hc hu
  · cases hc
theorem RepL.append {H : Heap} {ρ : Rho} {cs ds : List AV} {vs us : List Value} (h : RepL H ρ cs vs) (h' : RepL H ρ ds us) : RepL H ρ (cs ++ ds) (vs ++ us) := by
  refine ⟨by simp [h.1, h'.1], fun i c u hc hu => ?_⟩
  by_cases hi : i < cs.length
  · rw [List.getElem?_append_left hi] at hc
    rw [List.getElem?_append_left (h.1 ▸ hi)] at hu
    exact h.2 i c u hc hu
  · rw [List.getElem?_append_right (by omega)] at hc
    rw [List.getElem?_append_right (by have := h.1; omega)] at hu
    rw [← h.1] at hu
    exact h'.2 _ c u hc hu

theorem mem_drop_take {α : Type} {l : List α} {n m : Nat} {x : α} (h : x ∈ (l.drop n).take m) : x ∈ l := List.mem_of_mem_drop (List.mem_of_mem_take h)

/-- A struct's value out of its cells. -/
theorem Rep.st' {H : Heap} {ρ : Rho} {cs : List AV} {vs : List Value} (h : RepL H ρ cs vs) (h1 : ∀ c ∈ cs, c.one = true) : Rep H ρ (.st cs) (.agg vs.toArray) := .st h.1 h1 h.2

theorem part_rep {H : Heap} {ρ : Rho} {x : AV} {vs : List Value} {off n : Nat} {agg : Bool} (h : RepL H ρ x.cells vs) (h1 : oneAll x) (hn : off + n ≤ x.cells.length) (ha : agg = true ∨ n = 1) :
    Rep H ρ (x.part off n agg) (if agg then .agg ((vs.drop off).take n).toArray else (vs.drop off).headD undef) := by
  cases agg with
  | true => simp only [AV.part, if_true]; exact Rep.st' ((h.drop off).take n) (fun c hc => h1 c (mem_drop_take hc))
  | false =>
    simp only [AV.part, Bool.false_eq_true, if_false]
    have hn1 : n = 1 := by simpa using ha
    have hd := h.drop off
    have hlt : off < x.cells.length := by omega
    cases hx : x.cells.drop off with
    | nil => have := congrArg List.length hx; simp at this; omega
    | cons c cs =>
      rw [hx] at hd
      obtain ⟨u, us, hu, hr, _⟩ := hd.cons_inv
      rw [hu]
      exact hr

theorem aload_rep {H : Heap} {ρ : Rho} {x : AV} {vs : List Value} {off n : Nat} {agg : Bool} (h : RepL H ρ x.cells vs) (h1 : oneAll x) (hn : off + n ≤ x.cells.length) (ha : agg = true ∨ n = 1) :
    Rep H ρ (aload x off n agg) (if agg then .agg ((vs.drop off).take n).toArray else (vs.drop off).headD undef) := by
  unfold aload
  split
  · rename_i hc
    obtain ⟨rfl, hl, hs⟩ := hc
    have hp := part_rep h h1 hn ha
    have : x.part 0 n agg = x := by
      cases agg with
      | true =>
        cases x with
        | st cs => simp only [AV.part, if_true, AV.cells, List.drop_zero]; rw [List.take_of_length_le (by simp only [AV.cells] at hl; omega)]
        | _ => simp [AV.isSt] at hs
      | false =>
        have hx1 : n = 1 := by simpa using ha
        cases x with
        | st cs => simp [AV.isSt] at hs
        | _ => rfl
    rw [this] at hp
    exact hp
  · exact part_rep h h1 hn ha

theorem Addr.add_mk (b o n : Nat) : (⟨b, o, none⟩ : Addr).add n = ⟨b, o + n, none⟩ := by
  unfold Addr.add; split <;> simp_all

/-- A load of a variable whose cells are known. -/
theorem run_loadVar' {P : Program} {w : World} {T : TypeId} {b o : Nat} {vs : List Value} (hT : okT P T = true) (hl : vs.length = P.cellsOf T) (h1 : aggB P T = true ∨ P.cellsOf T = 1)
    (hc : ∀ j v, vs[j]? = some v → w.cell? ⟨b, o + j, none⟩ = some v) :
    (loadVar T ⟨b, o, none⟩).run P w = .ok (if aggB P T then .agg vs.toArray else vs.headD undef) w := by
  unfold loadVar
  simp only [Sem.run_bind, run_isAgg' hT, Result.andThen_ok]
  cases ha : aggB P T with
  | true =>
    have hcl : (loadCells ⟨b, o, none⟩ (P.cellsOf T)).run P w = .ok vs.toArray w := by
      rw [← hl]
      exact run_loadCells_list w ⟨b, o, none⟩ vs (fun j v hj => by rw [Addr.add_mk]; exact hc j v hj)
    simp [run_sizeOf' hT, hcl]
  | false =>
    have hn1 : P.cellsOf T = 1 := by simpa [ha] using h1
    rw [hn1] at hl
    match vs, hl with
    | [v], _ =>
      have := hc 0 v (by simp)
      simp only [Nat.add_zero] at this
      simp [this]

/-! ### the posts -/
def NewBox (d : Option Tmp) (H' : Heap) (ρ ρ' : Rho) (w w' : World) : Option Ct → Prop
  | none => ρ' = ρ
  | some c => ∃ t b cap, d = some t ∧ ρ' = ρ.upd t (.at b cap) ∧ w.heap.size ≤ b ∧ b < w'.heap.size ∧ (∀ i, H' b i = none) ∧ CtRep H' ρ' w' (.at b cap) c

def QPost (o : Oper) (a : Act) (w : World) (H : Heap) (ρ : Rho) (k : AV → Option Ct → Prop) (a' : Act) (w' : World) : Prop :=
  ∃ x n H' ρ' u, k x n ∧ a' = a.put o.dst u ∧ H.le H' ∧ (∀ b i v, H' b i = some v → H b i = none → w.heap.size ≤ b) ∧ Ext H' w' ∧ Rep H' ρ' x u ∧ Bel w.heap.size w w' ∧ NewBox o.dst H' ρ ρ' w w' n

theorem q_val {P : Program} {o : Oper} {a : Act} {w : World} {H : Heap} {ρ : Rho} {k : AV → Option Ct → Prop} {Q : Exit → Act → World → Prop} {u : Value} {x : AV}
    (hrun : (execOp a.eval o).run P w = .ok (.value u) w) (hr : Rep H ρ x u) (he : Ext H w) (hk : k x none) : o.wp P a w (QPost o a w H ρ k) Q := by
  unfold Oper.wp
  rw [hrun]
  exact ⟨x, none, H, ρ, u, hk, rfl, H.le_refl, fun b i v h h' => by rw [h'] at h; (first | (cases h; done) | (simp at h)), he, hr, Bel.refl _ _, rfl⟩

theorem q_new {P : Program} {o : Oper} {a : Act} {w : World} {H : Heap} {ρ : Rho} {k : AV → Option Ct → Prop} {Q : Exit → Act → World → Prop} {u : Value} {x : AV} {c : Ct} {obj : Obj} {d cap : Nat}
    (hd : o.dst = some d) (hrun : (execOp a.eval o).run P w = .ok (.value u) (w.alloc obj)) (hr : Rep H (ρ.upd d (.at w.heap.size cap)) x u) (he : Ext H w)
    (hc : CtRep H (ρ.upd d (.at w.heap.size cap)) (w.alloc obj) (.at w.heap.size cap) c) (hk : k x (some c)) : o.wp P a w (QPost o a w H ρ k) Q := by
  unfold Oper.wp
  rw [hrun]
  have hno : ∀ i, H w.heap.size i = none := by
    intro i
    cases h : H w.heap.size i with
    | none => rfl
    | some v => have := World.block_lt_of_cell? w _ (he _ _ _ h); simp at this
  refine ⟨x, some c, H, _, u, hk, rfl, H.le_refl, fun b i v h h' => by rw [h'] at h; simp at h, ?_, hr, (Bel.refl _ _).alloc (Nat.le_refl _) _, d, w.heap.size, cap, hd, rfl, Nat.le_refl _, by simp, hno, hc⟩
  intro b i v h
  have h0 := he b i v h
  rw [World.cell?_alloc_lt _ _ _ (World.block_lt_of_cell? w _ h0)]
  exact h0

/-- Extensions reach further. -/
theorem Ext.of_below {H : Heap} {w w' : World} (h : Ext H w) (hb : Bel w.heap.size w w') : Ext H w' := by
  intro b o v hv
  have h0 := h b o v hv
  rw [hb.cell (p := ⟨b, o, none⟩) (World.block_lt_of_cell? w _ h0)]
  exact h0

theorem Rep.upd {H : Heap} {ρ : Rho} {d : Nat} {x : AV} {v : Value} {bd : Bd} (h : Rep H ρ x v) (hm : x.ment d = false) : Rep H (ρ.upd d bd) x v :=
  h.rho (fun i hi => by unfold Rho.upd; split; (rename_i e; subst e; rw [hm] at hi; cases hi); rfl)
theorem RepL.upd {H : Heap} {ρ : Rho} {d : Nat} {cs : List AV} {vs : List Value} {bd : Bd} (h : RepL H ρ cs vs) (hm : mentL d cs = false) : RepL H (ρ.upd d bd) cs vs :=
  h.rho (fun i hi => by unfold Rho.upd; split; (rename_i e; subst e; rw [hm] at hi; cases hi); rfl)
theorem Rho.upd_same (ρ : Rho) (d : Nat) (x : Bd) : (ρ.upd d x) d = x := by simp [Rho.upd]

theorem mentL_of_cells {d : Nat} {x : AV} (h : x.ment d = false) : mentL d x.cells = false := by
  cases hm : mentL d x.cells with
  | false => rfl
  | true => rw [mentL_cells hm] at h; cases h

end Go.Am
