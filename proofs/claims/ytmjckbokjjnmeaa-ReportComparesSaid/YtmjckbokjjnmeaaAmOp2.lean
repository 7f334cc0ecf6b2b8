/- The abstract machine, part 13b: iterators over maps and strings, clear, the nil row's own operations. -/
import Derived.Test.YtmjckbokjjnmeaaAmMapU
import Derived.Maps.RangeRun
import Derived.Lib.AppendZeros
namespace Go.Am
open Go.RowKit

def aRange (P : Program) (T : TypeId) (x : AV) (s : AState) (d : Option Tmp) (K : AState → Prop) : Prop :=
  match P.underlying T, d with
  | some (.map _ _), some t => s.ment t = false ∧ (match x with
    | .mp m => (match s.box m with
      | some (.map es none) => m ≠ t ∧ ∀ bs ck, bs.length = es.length → bs.Nodup → K (((s.setBox m (.map es (some (bs, ck)))).put d (.loc t 0)).addBox d (some (.it m bs ck [])))
      | _ => False)
    | .v (.map none) => K ((s.put d (.loc t 0)).addBox d (some (.raw (.mapIter none 0 #[] 0))))
    | _ => False)
  | some .string, some t => s.ment t = false ∧ (match x with
    | .v (.string str) => K ((s.put d (.loc t 0)).addBox d (some (.raw (.stringIter str 0))))
    | _ => False)
  | _, _ => False

def aNext (it : AV) (isStr : Bool) (s : AState) (d : Option Tmp) (K : AState → Prop) : Prop :=
  match it with
  | .loc t 0 => (match s.box t with
    | some (.it m bs ck vis) => isStr = false ∧ (match s.box m with
      | some (.map es (some (bs', ck'))) => (bs' = bs ∧ ck' = ck ∧ m ≠ t) ∧
          (∀ i, i < es.length → i ∉ vis → K ((s.setBox t (.it m bs ck (vis ++ [i]))).put d (.tup [.v (.bool true), (es.getD i default).1, (es.getD i default).2]))) ∧
          ((∀ i, i < es.length → i ∈ vis) → K (s.put d (.tup [.v (.bool false)])))
      | _ => False)
    | some (.raw (.mapIter none _ _ _)) => isStr = false ∧ K (s.put d (.tup [.v (.bool false)]))
    | some (.raw (.stringIter str pos)) => isStr = true ∧
        (pos < str.size → K ((s.setBox t (.raw (.stringIter str (pos + (Utf8.decode str pos).2)))).put d (.tup [.v (.bool true), .v (.int .i64 pos), .v (.int .i32 (Utf8.decode str pos).1)]))) ∧
        (¬ pos < str.size → K (s.put d (.tup [.v (.bool false)])))
    | _ => False)
  | _ => False

def aEntry (it : AV) (s : AState) (d : Option Tmp) (K : AState → Prop) : Prop :=
  match it with
  | .loc t 0 => (match s.box t with
    | some (.it m bs ck vis) => (match s.box m, vis.getLast? with
      | some (.map es (some (bs', ck'))), some i => (bs' = bs ∧ ck' = ck) ∧ K (s.put d (.tup [(es.getD i default).1, (es.getD i default).2]))
      | _, _ => False)
    | _ => False)
  | _ => False

def aClear (P : Program) (T : TypeId) (x : AV) (s : AState) (K : AState → Prop) : Prop :=
  match P.underlying T, x with
  | some (.slice _), .sl _ [] => K s
  | some (.slice _), .v (.slice none _ _) => K s
  | some (.slice e), .own id k off n => (match zeroAV P e, s.box id with
    | some z, some (.arr e' k' xs) => (k' = k ∧ z.sto = true ∧ z.cells.length = k ∧ off + n ≤ xs.length) ∧ K (s.setBox id (.arr e' k (xs.take off ++ (List.replicate n z ++ xs.drop (off + n)))))
    | _, _ => False)
  | _, _ => False

/-- A slice beside nil. -/
def aSlNil (P : Program) (op : BinOp) (T : TypeId) (emp : Prop) (s : AState) (d : Option Tmp) (K : AState → Prop) : Prop :=
  (∃ e, P.underlying T = some (.slice e)) ∧ match op with
  | .eql => (¬ emp → K (s.put d (.v (.bool false)))) ∧ (emp → ∀ b, K (s.put d (.v (.bool b))))
  | .neq => (¬ emp → K (s.put d (.v (.bool true)))) ∧ (emp → ∀ b, K (s.put d (.v (.bool b))))
  | _ => False

def aAppendN (P : Program) (T T' : TypeId) (v x : AV) (s : AState) (d : Option Tmp) (K : AState → Prop) : Prop :=
  match P.underlying T, P.underlying T', d with
  | some (.slice e), some (.int .i64), some t => (match v, x, zeroAV P e with
    | .v (.slice none 0 0), .v (.int .i64 n), some z => (okT P e = true ∧ 0 < P.cellsOf e ∧ z.sto = true ∧ z.cells.length = P.cellsOf e ∧ 0 < n ∧ n ≤ 4611686018427387904 ∧ n * P.bytesOf e ≤ 140737488355328 ∧ s.ment t = false) ∧
        K ((s.put d (.own t (P.cellsOf e) 0 n.toNat)).addBox d (some (.arr e (P.cellsOf e) (List.replicate n.toNat z))))
    | _, _, _ => False)
  | _, _, _ => False

section
variable {P : Program} {E : Env} {H : Heap} {ρ : Rho} {s : AState} {a : Act} {w : World} {d : Option Tmp} {K : AState → Prop}

/-- What an operation has come to. -/
def Came (E : Env) (K : AState → Prop) (a : Act) (d : Option Tmp) (u : Value) (w' : World) : Prop := ∃ s' H' ρ', K s' ∧ Sim E H' ρ' s'.slot s'.box (a.put d u) w'

theorem fresh2 {t : Nat} (h : s.ment t = false) : (∀ i, (s.slot i).ment t = false) ∧ (∀ id c, s.box id = some c → c.ment t = false) :=
  ⟨fun _ => AState.ment_slot h, fun _ _ hc => AState.ment_box h hc⟩

/-- A new block, and its box. -/
theorem Came.new {t cap : Nat} {x : AV} {c : Ct} {u : Value} {w1 : World} {obj : Obj} (hs : Sim E H ρ s.slot s.box a w) (hd : ∀ t, d = some t → t < E.n) (hdt : d = some t) (hf : s.ment t = false)
    (h1 : w1 = w ∨ w1 = w.drew) (hr : Rep H (ρ.upd t (.at w.heap.size cap)) x u) (hc : CtRep H (ρ.upd t (.at w.heap.size cap)) (w1.alloc obj) (.at w.heap.size cap) c) (hk : K ((s.put d x).addBox d (some c))) : Came E K a d u (w1.alloc obj) := by
  have hh : w1.heap = w.heap := by rcases h1 with rfl | rfl <;> rfl
  have hno : ∀ i, H w.heap.size i = none := by
    intro i
    cases h : H w.heap.size i with
    | none => rfl
    | some v => have := World.block_lt_of_cell? w _ (hs.ext _ _ _ h); simp at this
  have hbel : Bel w.heap.size w (w1.alloc obj) := by
    have hb0 : Bel w.heap.size w w1 := by rcases h1 with rfl | rfl <;> first | exact Bel.refl _ _ | exact ⟨⟨rfl, rfl, rfl, Nat.le_refl _, fun _ _ => rfl⟩, Nat.le_succ _⟩
    exact hb0.alloc (by rw [hh]; exact Nat.le_refl _) _
  obtain ⟨x', n', H2, ρ2, ⟨rfl, rfl⟩, hs'⟩ := hs.quiet (o := { (default : Oper) with dst := d }) (k := fun y n => y = x ∧ n = some c) (a' := a.put d u) (w' := w1.alloc obj) hd
    (by rintro y c' ⟨rfl, h⟩ t' ht'; have ht2 : d = some t' := ht'; rw [hdt] at ht2; cases ht2; exact fresh2 hf)
    ⟨x, some c, H, _, u, ⟨rfl, rfl⟩, rfl, H.le_refl, fun b i v h h' => (by rw [h'] at h; cases h), hs.ext.of_below hbel, hr, hbel, t, w.heap.size, cap, hdt, rfl, Nat.le_refl _, by simp [hh], hno, hc⟩
  refine ⟨_, H2, ρ2, hk, ?_⟩
  rw [AState.slot_addBox, AState.box_addBox, AState.slot_put, AState.box_put]
  exact hs'

theorem Came.put {u : Value} {x : AV} {s' : AState} {w' : World} (hs : Sim E H ρ s'.slot s'.box a w') (hd : ∀ t, d = some t → t < E.n) (hr : Rep H ρ x u) (hk : K (s'.put d x)) : Came E K a d u w' := by
  refine ⟨_, H, ρ, hk, ?_⟩
  rw [AState.slot_put, AState.box_put]
  exact hs.put hd hr

/-- A world in which nothing but the draws has turned. -/
theorem Sim.drawn {sf : Nat → AV} {bf : Nat → Option Ct} (h : Sim E H ρ sf bf a w) : Sim E H ρ sf bf a w.drew :=
  ⟨h.ext, h.slots, h.size, h.defers, ⟨h.boxes.rep, h.boxes.apart, h.boxes.inj⟩, h.h0, h.new, ⟨h.frame.os, h.frame.tape, ⟨h.frame.output.1, Nat.le_succ_of_le h.frame.output.2⟩, h.frame.size, h.frame.block⟩, h.keep, h.nle⟩

/-- Another box for an id in the same world. -/
theorem Sim.rebox {id : Nat} {c c' : Ct} (hs : Sim E H ρ s.slot s.box a w) (hc : s.box id = some c) (h : CtRep H ρ w (ρ id) c') : Sim E H ρ (s.setBox id c').slot (s.setBox id c').box a w := by
  rw [AState.box_setBox, AState.slot_setBox]
  refine ⟨hs.ext, hs.slots, hs.size, hs.defers, ⟨fun j cj hj => ?_, fun j cj b cap hj hb => ?_, fun i j ci cj b cap cap' hi hj hbi hbj => ?_⟩, hs.h0, hs.new, hs.frame, hs.keep, hs.nle⟩
  · simp only [addF] at hj
    split at hj
    · rename_i e; subst e; cases hj; exact h
    · exact hs.boxes.rep j cj hj
  · simp only [addF] at hj
    split at hj
    · rename_i e; subst e; exact hs.boxes.apart id c b cap hc hb
    · exact hs.boxes.apart j cj b cap hj hb
  · have lift : ∀ j cj, addF s.box (some id) (some c') j = some cj → ∃ cj', s.box j = some cj' := by
      intro j cj hj
      simp only [addF] at hj
      split at hj
      · rename_i e; subst e; exact ⟨c, hc⟩
      · exact ⟨cj, hj⟩
    obtain ⟨ci', hi'⟩ := lift i ci hi
    obtain ⟨cj', hj'⟩ := lift j cj hj
    exact hs.boxes.inj i j ci' cj' b cap cap' hi' hj' hbi hbj

theorem aRange_sound {T : TypeId} {x : AV} {v : Value} (hs : Sim E H ρ s.slot s.box a w) (hd : ∀ t, d = some t → t < E.n) (hx : Rep H ρ x v) (h : aRange P T x s d K) :
    ∃ u w', (Instr.range T v).run P w = .ok u w' ∧ Came E K a d u w' := by
  unfold aRange at h
  split at h
  · rename_i kt et t hT
    obtain ⟨hf, h⟩ := h
    split at h
    · rename_i m
      split at h
      · rename_i es hbx
        obtain ⟨hmt, h⟩ := h
        obtain ⟨b, cap, ents, clock, hbd, hheap, hk1, hk2, hborn, hnd, _⟩ := hs.boxes.rep _ _ hbx
        cases hx with
        | mp hρ =>
          rename_i b' cap'
          obtain ⟨rfl, rfl⟩ := rho_at hρ hbd
          refine ⟨_, _, run_range_map w T kt et b' ents clock hT hheap, ?_⟩
          have hlen : (ents.toList.map (·.born)).length = es.length := by have := hk1.1; simp at this ⊢; omega
          have h2 := h (ents.toList.map (·.born)) clock hlen hnd
          have hs2 := hs.rebox (c' := .map es (some (ents.toList.map (·.born), clock))) hbx (by
            rw [hρ]
            exact ⟨b', cap', ents, clock, rfl, hheap, hk1, hk2, hborn, hnd, fun bs ck e => by cases e; exact ⟨rfl, rfl⟩⟩)
          have hf2 : (s.setBox m (.map es (some (ents.toList.map (·.born), clock)))).ment t = false := by
            have h3 := AState.ment_box hf hbx
            simp only [AState.ment, Bool.or_eq_false_iff] at hf ⊢
            refine ⟨hf.1, ?_⟩
            simp only [AState.setBox, mentB, Bool.or_eq_false_iff]
            exact ⟨by simpa only [Ct.ment] using h3, hf.2⟩
          refine Came.new (s := s.setBox m (.map es (some (ents.toList.map (·.born), clock)))) (cap := 0) hs2 hd rfl hf2 (Or.inl rfl) (.loc (Rho.upd_same _ _ _)) ?_ h2
          refine ⟨w.heap.size, 0, b', cap', #[], rfl, ?_, heap_alloc_new w _, by simp, by simp⟩
          simp [Rho.upd, hmt, hρ]
      · exact h.elim
    · rw [hx.v_inv]
      refine ⟨_, _, run_range_nilMap w T kt et hT, ?_⟩
      exact Came.new (cap := 0) (c := .raw _) hs hd rfl hf (Or.inl rfl) (.loc (Rho.upd_same _ _ _)) ⟨w.heap.size, 0, rfl, heap_alloc_new w _⟩ h
    · exact h.elim
  · rename_i t hT
    obtain ⟨hf, h⟩ := h
    split at h
    · rename_i str
      rw [hx.v_inv]
      refine ⟨_, _, run_range_string w T str hT, ?_⟩
      exact Came.new (cap := 0) (c := .raw _) hs hd rfl hf (Or.inl rfl) (.loc (Rho.upd_same _ _ _)) ⟨w.heap.size, 0, rfl, heap_alloc_new w _⟩ h
    · exact h.elim
  · exact h.elim

theorem bool_rep {b : Bool} : Rep H ρ (.v (.bool b)) (.bool b) := .v rfl

theorem setBlock_write {id b cap : Nat} {c c' : Ct} {obj : Obj} (hs : Sim E H ρ s.slot s.box a w) (hc : s.box id = some c) (hb : ρ id = .at b cap) (hc' : ∀ w' : World, w'.heap[b]? = some obj → CtRep H ρ w' (.at b cap) c') :
    Sim E H ρ (s.setBox id c').slot (s.setBox id c').box a (ChangeMaps.setBlock w b obj) := by
  rw [AState.box_setBox, AState.slot_setBox]
  have hlt := (hs.boxes.apart id c b cap hc hb).2.1
  exact hs.write hc hb rfl rfl ⟨rfl, Nat.le_refl _⟩ (by simp [ChangeMaps.setBlock]) (fun k hk => by simp [ChangeMaps.setBlock, Array.getElem?_setIfInBounds_ne (Ne.symm hk)]) (hc' _ (by simp [ChangeMaps.setBlock, hlt]))

theorem aNext_sound {it : AV} {v : Value} {isStr : Bool} {ty : TypeId} (hs : Sim E H ρ s.slot s.box a w) (hd : ∀ t, d = some t → t < E.n) (hx : Rep H ρ it v) (h : aNext it isStr s d K) :
    ∃ u w', (Instr.next v isStr ty).run P w = .ok u w' ∧ Came E K a d u w' := by
  unfold aNext at h
  split at h
  · rename_i t
    cases hx with
    | loc hρt =>
      rename_i r capr
      split at h
      · rename_i m bs ck vis hbt
        obtain ⟨rfl, h⟩ := h
        split at h
        · rename_i es bs' ck' hbm
          obtain ⟨⟨rfl, rfl, hmt⟩, hnext, hover⟩ := h
          obtain ⟨r', capr', mb, capm, seen, hbd, hρm, hheapr, hseen, hvis⟩ := hs.boxes.rep _ _ hbt
          obtain ⟨rfl, rfl⟩ := rho_at hρt hbd
          obtain ⟨b', cap', ents, clock, hbd2, hheapm, hk1, hk2, hborn, hnd, hst⟩ := hs.boxes.rep _ _ hbm
          obtain ⟨rfl, rfl⟩ := rho_at hρm hbd2
          obtain ⟨hbs, hck⟩ := hst bs' ck' rfl
          subst hck
          have hlen : ents.toList.length = es.length := by have := hk1.1; simp at this ⊢; omega
          have hbl : bs'.length = es.length := by rw [← hbs, List.length_map, hlen]
          have hbget : ∀ i (hi : i < ents.toList.length), bs'.getD i 0 = (ents.toList[i]).born := by
            intro i hi
            rw [← hbs]
            simp [List.getD_eq_getElem?_getD, List.getElem?_map, List.getElem?_eq_getElem hi]
          have hmem : ∀ i (hi : i < ents.toList.length), (ents.toList[i]).born ∈ seen.toList ↔ i ∈ vis := by
            intro i hi
            rw [hseen, List.mem_map]
            constructor
            · rintro ⟨j, hj, hjb⟩
              have hjl : j < ents.toList.length := by have := hvis j hj; omega
              rw [hbget j hjl] at hjb
              have hnd2 := hnd
              have : j = i := by
                have h3 : j < (ents.toList.map (·.born)).length := by simpa using hjl
                have h4 : i < (ents.toList.map (·.born)).length := by simpa using hi
                refine (List.getElem_inj (h₀ := h3) (h₁ := h4) hnd2).1 ?_
                rw [List.getElem_map, List.getElem_map]
                exact hjb
              subst this
              exact hj
            · intro hi'
              exact ⟨i, hi', hbget i hi⟩
          rcases run_next_at (P := P) w ty r mb clock clock seen ents clock hheapr hheapm hborn (Nat.le_refl _) with ⟨h0, hrun⟩ | ⟨e, he, w1, hw1, hrun⟩
          · refine ⟨_, _, hrun, Came.put hs hd ?_ (hover ?_)⟩
            · exact .tup (vs := [.bool false]) rfl (RepL.cons bool_rep RepL.nil).2
            · intro i hi
              have hi' : i < ents.toList.length := by omega
              refine (hmem i hi').1 ?_
              rw [Array.mem_toList_iff]
              have : leftOf ents seen = #[] := Array.eq_empty_of_size_eq_zero h0
              unfold leftOf at this
              rw [Array.filter_eq_empty_iff] at this
              have := this (ents.toList[i]) (by simp)
              simpa using this
          · have hem : e ∈ ents.toList ∧ e.born ∉ seen := by
              unfold leftOf at he
              simpa using he
            obtain ⟨i, hi, hie⟩ := List.mem_iff_getElem.1 hem.1
            have hiv : i ∉ vis := by
              intro hv
              have := (hmem i hi).2 hv
              rw [hie] at this
              exact hem.2 (by simpa using this)
            have hs1 : Sim E H ρ s.slot s.box a w1 := by
              rcases hw1 with rfl | rfl
              · exact hs
              · exact hs.drawn
            have hs2 := setBlock_write (id := t) (c' := .it m bs' clock (vis ++ [i])) (obj := .mapIter (some mb) clock (seen.push e.born) clock) hs1 hbt hρt (fun w' hw' => by
              refine ⟨r, _, mb, capm, seen.push e.born, rfl, hρm, hw', ?_, ?_⟩
              · simp only [Array.toList_push, List.map_append, List.map_cons, List.map_nil, hseen]
                rw [hbget i hi, hie]
              · intro j hj
                rcases List.mem_append.1 hj with hj | hj
                · exact hvis j hj
                · simp at hj; omega)
            refine ⟨_, _, hrun, Came.put hs2 hd ?_ (hnext i (by omega) hiv)⟩
            have g1 : (es.map (·.1))[i]? = some (es.getD i default).1 := by
              have : i < es.length := by omega
              simp [List.getD_eq_getElem?_getD, List.getElem?_eq_getElem this]
            have g2 : (es.map (·.2))[i]? = some (es.getD i default).2 := by
              have : i < es.length := by omega
              simp [List.getD_eq_getElem?_getD, List.getElem?_eq_getElem this]
            have r1 := hk1.2 i _ e.key g1 (by simp [List.getElem?_map, List.getElem?_eq_getElem hi, hie])
            have r2 := hk2.2 i _ e.val g2 (by simp [List.getElem?_map, List.getElem?_eq_getElem hi, hie])
            exact .tup (vs := [.bool true, e.key, e.val]) rfl (RepL.cons bool_rep (RepL.cons r1 (RepL.cons r2 RepL.nil))).2
        · exact h.elim
      · rename_i a1 a2 a3 hbt
        obtain ⟨rfl, h⟩ := h
        obtain ⟨r', capr', hbd, hheapr⟩ := hs.boxes.rep _ _ hbt
        obtain ⟨rfl, rfl⟩ := rho_at hρt hbd
        refine ⟨.tuple #[.bool false], w, ?_, Came.put hs hd ?_ h⟩
        · simp only [Instr.next, getObj, Sem.run_bind, Sem.run, hheapr, Result.andThen]
          rfl
        · exact .tup (vs := [.bool false]) rfl (RepL.cons bool_rep RepL.nil).2
      · rename_i str pos hbt
        obtain ⟨rfl, h1, h2⟩ := h
        obtain ⟨r', capr', hbd, hheapr⟩ := hs.boxes.rep _ _ hbt
        obtain ⟨rfl, rfl⟩ := rho_at hρt hbd
        by_cases hpos : pos < str.size
        · have hs2 := setBlock_write (id := t) (c' := .raw (.stringIter str (pos + (Utf8.decode str pos).2))) (obj := .stringIter str (pos + (Utf8.decode str pos).2)) hs hbt hρt (fun w' hw' => ⟨r, _, rfl, hw'⟩)
          refine ⟨.tuple #[.bool true, .int .i64 pos, .int .i32 (Utf8.decode str pos).1], _, ?_, Came.put hs2 hd ?_ (h1 hpos)⟩
          · simp only [Instr.next, getObj, setObj, Sem.run_bind, Sem.run, hheapr, Result.andThen, hpos, if_true]
            rfl
          · exact .tup (vs := [.bool true, .int .i64 pos, .int .i32 (Utf8.decode str pos).1]) rfl (RepL.cons bool_rep (RepL.cons (.v rfl) (RepL.cons (.v rfl) RepL.nil))).2
        · refine ⟨.tuple #[.bool false], w, ?_, Came.put hs hd ?_ (h2 hpos)⟩
          · simp [Instr.next, getObj, Sem.run, hheapr, hpos]
          · exact .tup (vs := [.bool false]) rfl (RepL.cons bool_rep RepL.nil).2
      · exact h.elim
  · exact h.elim

theorem aEntry_sound {it : AV} {v : Value} (hs : Sim E H ρ s.slot s.box a w) (hd : ∀ t, d = some t → t < E.n) (hx : Rep H ρ it v) (h : aEntry it s d K) :
    ∃ u w', (Instr.entry v).run P w = .ok u w' ∧ Came E K a d u w' := by
  unfold aEntry at h
  split at h
  · rename_i t
    cases hx with
    | loc hρt =>
      rename_i r capr
      split at h
      · rename_i m bs ck vis hbt
        split at h
        · rename_i es bs' ck' i hbm hlast
          obtain ⟨⟨rfl, rfl⟩, hK⟩ := h
          obtain ⟨r', capr', mb, capm, seen, hbd, hρm, hheapr, hseen, hvis⟩ := hs.boxes.rep _ _ hbt
          obtain ⟨rfl, rfl⟩ := rho_at hρt hbd
          obtain ⟨b', cap', ents, clock, hbd2, hheapm, hk1, hk2, hborn, hnd, hst⟩ := hs.boxes.rep _ _ hbm
          obtain ⟨rfl, rfl⟩ := rho_at hρm hbd2
          obtain ⟨hbs, hck⟩ := hst bs' ck' rfl
          subst hck
          have hlen : ents.toList.length = es.length := by have := hk1.1; simp at this ⊢; omega
          have hbl : bs'.length = es.length := by rw [← hbs, List.length_map, hlen]
          have him : i ∈ vis := List.mem_of_getLast? hlast
          have hi : i < ents.toList.length := by have := hvis i him; omega
          obtain ⟨pre, hpre⟩ : ∃ pre, vis = pre ++ [i] := by
            obtain ⟨ys, hys⟩ := List.getLast?_eq_some_iff.1 hlast
            exact ⟨ys, hys⟩
          have hbi : bs'.getD i 0 = (ents.toList[i]).born := by
            rw [← hbs]
            simp [List.getD_eq_getElem?_getD, List.getElem?_map, List.getElem?_eq_getElem hi]
          have hsp : seen = (pre.map (fun j => bs'.getD j 0)).toArray.push (ents.toList[i]).born := by
            apply Array.toList_inj.1
            rw [hseen, hpre, Array.toList_push, List.toList_toArray, List.map_append, List.map_cons, List.map_nil, hbi]
          rw [hsp] at hheapr
          refine ⟨_, _, run_entry_at (P := P) w r mb clock _ ents clock (ents.toList[i]) hheapr hheapm (List.getElem_mem hi) hnd, Came.put hs hd ?_ hK⟩
          have g1 : (es.map (·.1))[i]? = some (es.getD i default).1 := by
            have : i < es.length := by omega
            simp [List.getD_eq_getElem?_getD, List.getElem?_eq_getElem this]
          have g2 : (es.map (·.2))[i]? = some (es.getD i default).2 := by
            have : i < es.length := by omega
            simp [List.getD_eq_getElem?_getD, List.getElem?_eq_getElem this]
          have r1 := hk1.2 i _ (ents.toList[i]).key g1 (by simp [List.getElem?_map, List.getElem?_eq_getElem hi])
          have r2 := hk2.2 i _ (ents.toList[i]).val g2 (by simp [List.getElem?_map, List.getElem?_eq_getElem hi])
          exact .tup (vs := [(ents.toList[i]).key, (ents.toList[i]).val]) rfl (RepL.cons r1 (RepL.cons r2 RepL.nil)).2
        · exact h.elim
      · exact h.elim
  · exact h.elim

theorem flat_splice {k : Nat} {xs ys : List AV} {off : Nat} (hx : ∀ x ∈ xs, x.cells.length = k) (hy : ∀ y ∈ ys, y.cells.length = k) (hfit : off + ys.length ≤ xs.length) :
    (xs.take off ++ (ys ++ xs.drop (off + ys.length))).flatMap AV.cells = setPart (xs.flatMap AV.cells) (off * k) (ys.flatMap AV.cells) := by
  have hyl := flat_len hy
  have e1 : (xs.flatMap AV.cells).take (off * k) = (xs.take off).flatMap AV.cells := by
    conv => lhs; rw [← List.take_append_drop off xs]
    rw [List.flatMap_append]
    have : ((xs.take off).flatMap AV.cells).length = off * k := by
      rw [flat_len (fun x h => hx x (List.mem_of_mem_take h)), List.length_take]
      congr 1
      omega
    rw [← this, List.take_left]
  have e2 : (xs.flatMap AV.cells).drop (off * k + (ys.flatMap AV.cells).length) = (xs.drop (off + ys.length)).flatMap AV.cells := by
    conv => lhs; rw [← List.take_append_drop (off + ys.length) xs]
    rw [List.flatMap_append]
    have : ((xs.take (off + ys.length)).flatMap AV.cells).length = off * k + (ys.flatMap AV.cells).length := by
      rw [flat_len (fun x h => hx x (List.mem_of_mem_take h)), List.length_take, hyl, ← Nat.add_mul]
      congr 1
      omega
    rw [← this, List.drop_left]
  unfold Am.setPart
  rw [e1, e2, List.flatMap_append, List.flatMap_append]

/-- Elements laid over elements of an own row. -/
theorem Sim.splice {id b cap T k off : Nat} {xs ys : List AV} {cur : Array Value} {nv : List Value} (hs : Sim E H ρ s.slot s.box a w) (hbx : s.box id = some (.arr T k xs)) (hρ : ρ id = .at b cap) (hheap : w.heap[b]? = some (.cells cur T (0, 0)))
    (hmax : cap ≤ maxLen) (hcap : xs.length ≤ cap) (hsz : cur.size = cap * k) (hrep : RepL H ρ (xs.flatMap AV.cells) (cur.toList.take (xs.length * k))) (hall : ∀ x ∈ xs, x.cells.length = k ∧ oneAll x)
    (hys : ∀ y ∈ ys, y.cells.length = k ∧ oneAll y) (hnv : RepL H ρ (ys.flatMap AV.cells) nv) (hfit : off + ys.length ≤ xs.length) :
    Sim E H ρ (s.setBox id (.arr T k (xs.take off ++ (ys ++ xs.drop (off + ys.length))))).slot (s.setBox id (.arr T k (xs.take off ++ (ys ++ xs.drop (off + ys.length))))).box a
      (w.setRow b (cur.toList.take (off * k) ++ nv ++ cur.toList.drop (off * k + nv.length)).toArray) := by
  have hyl := flat_len (fun y hy => (hys y hy).1)
  have hnl : nv.length = ys.length * k := by rw [← hnv.1]; exact hyl
  have hlen : (xs.take off ++ (ys ++ xs.drop (off + ys.length))).length = xs.length := by simp; omega
  have hm1 : (off + ys.length) * k ≤ xs.length * k := Nat.mul_le_mul_right _ hfit
  have hm2 : xs.length * k ≤ cap * k := Nat.mul_le_mul_right _ hcap
  rw [Nat.add_mul] at hm1
  rw [AState.box_setBox, AState.slot_setBox]
  refine hs.write hbx hρ rfl rfl ⟨rfl, Nat.le_refl _⟩ (setRow_size _ _ _) (fun k hk => setRow_other w b k _ hk) (.inr ⟨b, cap, _, rfl, setRow_heap w b _ _ _ _ hheap, hmax, by rw [hlen]; exact hcap, ?_, ?_, ?_⟩)
  · simp only [List.size_toArray, List.length_append, List.length_take, List.length_drop, Array.length_toList]
    omega
  · rw [hlen, flat_splice (fun x h => (hall x h).1) (fun y h => (hys y h).1) hfit]
    have hr2 := hrep.setPart' (off := off * k) hnv
    have e3 : (cur.toList.take (off * k) ++ nv ++ cur.toList.drop (off * k + nv.length)).take (xs.length * k) =
        (cur.toList.take (xs.length * k)).take (off * k) ++ nv ++ (cur.toList.take (xs.length * k)).drop (off * k + nv.length) := by
      rw [List.append_assoc, List.append_assoc, List.take_append, List.take_append, List.take_take, List.drop_take]
      have l1 : (cur.toList.take (off * k)).length = off * k := by simp; omega
      rw [l1, List.take_take]
      have l2 : min (xs.length * k) (off * k) = off * k := by omega
      have l2' : min (off * k) (xs.length * k) = off * k := by omega
      rw [l2, l2']
      congr 1
      have l3 : nv.take (xs.length * k - off * k) = nv := List.take_of_length_le (by omega)
      rw [l3]
      congr 2
      omega
    show RepL H ρ _ (List.take (xs.length * k) (List.toArray _).toList)
    rw [List.toList_toArray, e3]
    exact hr2
  · intro z hz
    simp only [List.mem_append] at hz
    rcases hz with h | h | h
    · exact hall z (List.mem_of_mem_take h)
    · exact hys z h
    · exact hall z (List.mem_of_mem_drop h)

theorem zero_facts {e : TypeId} {z : AV} (h : zeroAV P e = some z) (hsto : z.sto = true) : ∃ i zv, P.info? e = some i ∧ i.zero = some zv ∧ (∀ (H : Heap) (ρ : Rho), RepL H ρ z.cells zv.cells.toList) ∧ oneAll z := by
  obtain ⟨i, zv, hi, hz, rfl⟩ := zeroAV_inv h
  refine ⟨i, zv, hi, hz, fun H ρ => ((Rep.ofVal (H := H) (ρ := ρ) zv).cellsL hsto).1, ((Rep.ofVal (H := fun _ _ => none) (ρ := rho0) zv).cellsL hsto).2⟩

theorem zeroCells_rep {z : AV} {zv : Value} (h : RepL H ρ z.cells zv.cells.toList) (n : Nat) : RepL H ρ ((List.replicate n z).flatMap AV.cells) (Builtin.zeroCells zv.cells n).toList := by
  have := RepL.replicate h n
  rw [← flat_zero] at this
  exact this

theorem aClear_sound {T ty : TypeId} {x : AV} {v : Value} (hs : Sim E H ρ s.slot s.box a w) (hd : ∀ t, d = some t → t < E.n) (hx : Rep H ρ x v) (h : aClear P T x s (fun s' => K (s'.put d (.tup [])))) :
    ∃ u w', (Builtin.clear_ #[T] ty #[v]).run P w = .ok u w' ∧ Came E K a d u w' := by
  unfold aClear at h
  split at h
  · rename_i e k hT
    have hv : ∃ p c, v = .slice p 0 c := by
      generalize hy : AV.sl k [] = y at hx
      cases hx with
      | slNil => exact ⟨_, _, rfl⟩
      | sl => cases hy; exact ⟨_, _, rfl⟩
      | _ => cases hy
    obtain ⟨p, c, rfl⟩ := hv
    refine ⟨.tuple #[], w, ?_, Came.put hs hd Rep.undef h⟩
    cases p <;> simp [Builtin.clear_, run_underlying hT]
  · rename_i e n c hT
    rw [hx.v_inv]
    refine ⟨.tuple #[], w, ?_, Came.put hs hd Rep.undef h⟩
    simp [Builtin.clear_, run_underlying hT]
  · rename_i e id k off n hT
    split at h
    · rename_i z e' k' xs hz hbx
      obtain ⟨⟨rfl, hsto, hzl, hfit⟩, hK⟩ := h
      obtain ⟨i, zv, hi, hzv, hzr, hz1⟩ := zero_facts hz hsto
      have hlr : (List.replicate n z).length = n := by simp
      have triv : xs.take off ++ (List.replicate 0 z ++ xs.drop (off + 0)) = xs := by simp
      have same : n = 0 → (Builtin.clear_ #[T] ty #[v]).run P w = .ok (.tuple #[]) w → ∃ u w', (Builtin.clear_ #[T] ty #[v]).run P w = .ok u w' ∧ Came E K a d u w' := by
        rintro rfl hrun
        rw [triv] at hK
        refine ⟨_, _, hrun, Came.put (hs.rebox hbx (hs.boxes.rep _ _ hbx)) hd Rep.undef hK⟩
      cases hx with
      | ownNil hρ => exact same rfl (by simp [Builtin.clear_, run_underlying hT])
      | own hρ hn hm =>
        rename_i b cap
        rcases hs.boxes.rep _ _ hbx with ⟨hnil, hxs⟩ | ⟨b', cap', cur, hbd, hheap, hmax, hcap, hsz, hrep, hall⟩
        · rw [hnil] at hρ; cases hρ
        obtain ⟨rfl, rfl⟩ := rho_at hρ hbd
        by_cases hn0 : n = 0
        · subst hn0
          exact same rfl (by simp [Builtin.clear_, run_underlying hT])
        · have hzs : (Builtin.zeroCells zv.cells n).toList.length = n * k' := by
            have h1 := (hzr H ρ).1
            rw [hzl, Array.length_toList] at h1
            rw [Array.length_toList, size_zeroCells, ← h1]
          have hnv := zeroCells_rep (hzr H ρ) n
          have hm1 : (off + n) * k' ≤ xs.length * k' := Nat.mul_le_mul_right _ hfit
          have hm2 : xs.length * k' ≤ cap * k' := Nat.mul_le_mul_right _ hcap
          rw [Nat.add_mul] at hm1
          have hone : ∀ u ∈ (Builtin.zeroCells zv.cells n).toList, u.oneCell' = true := by
            intro u hu
            refine okV_oneCell (hnv.ok ?_ u hu)
            intro c hc
            obtain ⟨y, hy, hcy⟩ := List.mem_flatMap.1 hc
            rw [(List.mem_replicate.1 hy).2] at hcy
            exact hz1 c hcy
          have hst := run_storeCells_at P b (off * k') e' (Builtin.zeroCells zv.cells n).toList 0 cur w hheap (by rw [hzs, hsz]; omega) hone
          simp only [Nat.add_zero] at hst
          have hsim := hs.splice (off := off) (ys := List.replicate n z) (nv := (Builtin.zeroCells zv.cells n).toList) hbx hρ hheap hmax hcap hsz hrep hall
            (fun y hy => by rw [(List.mem_replicate.1 hy).2]; exact ⟨hzl, hz1⟩) hnv (by simpa using hfit)
          rw [hlr] at hsim
          refine ⟨.tuple #[], _, ?_, Came.put hsim hd Rep.undef hK⟩
          have hzrun : (zeroValue e).run P w = .ok zv w := by simp [zeroValue, typeInfo, hi, hzv]
          cases n with
          | zero => exact absurd rfl hn0
          | succ n =>
            simp only [Builtin.clear_, run_underlying hT, Sem.run_bind, Result.andThen_ok]
            simp only [List.getElem?_toArray, List.getElem?_cons_zero, Sem.run_bind, run_underlying hT, hzrun, Result.andThen_ok, hst, Sem.run_pure]
    · exact h.elim
  · exact h.elim

theorem eqIn_slice (dd : Nat) {T e : TypeId} (hT : P.underlying T = some (.slice e)) (p : Option Addr) (n c m c' : Nat) :
    (Op.equalIn (dd + 1) T (.slice p n c) (.slice none m c')).run P w = .ok p.isNone w := by
  cases p <;> simp [Op.equalIn, run_underlying hT]

/-- A slice's value: nil, or not. -/
theorem slNil_sound {op : BinOp} {T : TypeId} {ox oy : Operand} {p : Option Addr} {n c m c' : Nat} {emp : Prop} (hs : Sim E H ρ s.slot s.box a w) (hd : ∀ t, d = some t → t < E.n) (hp : ¬ emp → p ≠ none) (h : aSlNil P op T emp s d K) :
    ∃ u, (eqGuard op T ox oy (.slice p n c) (.slice none m c')).run P w = .ok () w ∧ (binOp op T (.slice p n c) (.slice none m c')).run P w = .ok u w ∧ Came E K a d u w := by
  obtain ⟨⟨e, hT⟩, h⟩ := h
  have hg := run_eqGuard_other (P := P) (w := w) (op := op) (T := T) (x := ox) (y := oy) (a := .slice p n c) (b := .slice none m c') (by simp) (by simp)
  have he : (Op.equal T (.slice p n c) (.slice none m c')).run P w = .ok p.isNone w := by
    unfold Op.equal Op.maxDepth
    rw [show (10000 : Nat) = 9999 + 1 from rfl]
    exact eqIn_slice 9999 hT p n c m c'
  have hb := run_binOp_eq (op := op) (v := .slice none m c') (by simp) he
  by_cases hem : emp
  · split at h
    · exact ⟨_, hg, hb.1 rfl, Came.put hs hd (.v rfl) (h.2 hem _)⟩
    · exact ⟨_, hg, hb.2 rfl, Came.put hs hd (.v rfl) (h.2 hem _)⟩
    · exact h.elim
  · have hp' : p.isNone = false := by
      cases p with
      | none => exact absurd rfl (hp hem)
      | some _ => rfl
    rw [hp'] at hb
    split at h
    · exact ⟨_, hg, hb.1 rfl, Came.put hs hd (.v rfl) (h.1 hem)⟩
    · exact ⟨_, hg, hb.2 rfl, Came.put hs hd (.v rfl) (h.1 hem)⟩
    · exact h.elim

theorem sl_val {k : Nat} {xs : List AV} {v : Value} (h : Rep H ρ (.sl k xs) v) : ∃ p n c, v = .slice p n c ∧ (¬ xs = [] → p ≠ none) := by
  generalize hy : AV.sl k xs = y at h
  cases h with
  | slNil => cases hy; exact ⟨_, _, _, rfl, fun h => absurd rfl h⟩
  | sl => cases hy; exact ⟨_, _, _, rfl, fun _ => by simp⟩
  | _ => cases hy

theorem own_val {id k off n : Nat} {v : Value} (h : Rep H ρ (.own id k off n) v) : ∃ p n' c, v = .slice p n' c ∧ (¬ n = 0 → p ≠ none) := by
  cases h with
  | ownNil => exact ⟨_, _, _, rfl, fun h => absurd rfl h⟩
  | own => exact ⟨_, _, _, rfl, fun _ => by simp⟩

theorem aAppendN_sound {T T' ty : TypeId} {v x : AV} {vv vx : Value} (hs : Sim E H ρ s.slot s.box a w) (hd : ∀ t, d = some t → t < E.n) (hv : Rep H ρ v vv) (hx : Rep H ρ x vx) (h : aAppendN P T T' v x s d K) :
    ∃ u w', (Builtin.append_ #[T, T'] ty #[vv, vx]).run P w = .ok u w' ∧ Came E K a d u w' := by
  unfold aAppendN at h
  split at h
  · rename_i e t hT hT'
    split at h
    · rename_i n z hz
      obtain ⟨⟨hok, hk0, hsto, hzl, hn0, hn62, h47, hf⟩, hK⟩ := h
      obtain ⟨i, zv, hi, hzv, hzr, hz1⟩ := zero_facts hz hsto
      rw [hv.v_inv, hx.v_inv]
      have hsize : i.size = P.cellsOf e := by simp [Program.cellsOf, hi]
      have hbytes : i.bytes = P.bytesOf e := by simp [Program.bytesOf, hi]
      obtain ⟨m, rfl⟩ : ∃ m : Nat, n = m := ⟨n.toNat, by omega⟩
      rw [Int.toNat_natCast] at hK
      rw [← Int.natCast_mul] at h47
      have hrun := Go.Lib.run_append_nil_zeros (P := P) w T T' ty e i zv .i64 .i64 hT hT' hi hzv m (by omega) (by omega) (by omega) (by rw [hbytes]; omega)
      refine ⟨_, _, hrun, ?_⟩
      have hge := grownCap_ge w m 0 e
      have hmax := grownCap_le_maxLen w m 0 e (by unfold maxLen; omega)
      have hzc : zv.cells.size = P.cellsOf e := by
        have := (hzr H ρ).1
        rw [hzl, Array.length_toList] at this
        exact this.symm
      refine Came.new (cap := grownCap w m 0 e) (c := .arr e (P.cellsOf e) (List.replicate m z)) hs hd rfl hf (Or.inr rfl) ?_ (Or.inr ⟨w.heap.size, _, _, rfl, heap_alloc_new w.drew _, hmax, by simpa using hge, ?_, ?_, ?_⟩) hK
      · have := Rep.own (H := H) (ρ := ρ.upd t (.at w.heap.size (grownCap w m 0 e))) (id := t) (k := P.cellsOf e) (off := 0) (n := m) (Rho.upd_same _ _ _) (by omega) hmax
        simpa using this
      · simp only [Array.size_append, size_zeroCells, hzc, ← Nat.add_mul]
        congr 1
        omega
      · have : (Builtin.zeroCells zv.cells m ++ Builtin.zeroCells zv.cells (grownCap w m 0 e - m)).toList.take ((List.replicate m z).length * P.cellsOf e) = (Builtin.zeroCells zv.cells m).toList := by
          rw [Array.toList_append, List.length_replicate]
          have : m * P.cellsOf e = (Builtin.zeroCells zv.cells m).toList.length := by rw [Array.length_toList, size_zeroCells, hzc]
          rw [this, List.take_left]
        rw [this]
        exact zeroCells_rep (hzr H _) m
      · intro y hy
        rw [(List.mem_replicate.1 hy).2]
        exact ⟨hzl, hz1⟩
    · exact h.elim
  · exact h.elim

/-- cap of nil, and a piece of nil. -/
theorem run_cap_nil {T e ty : TypeId} {n c : Nat} (hT : P.underlying T = some (.slice e)) : (Builtin.cap_ #[T] ty #[.slice none n c]).run P w = .ok (.int .i64 c) w := by
  simp [Builtin.cap_, run_underlying hT, goInt]

theorem run_slice_nil {T e : TypeId} {k : IntKind} (hT : P.underlying T = some (.slice e)) (hok : okT P e = true) : (Instr.sliceAt T (.slice none 0 0) none (some (.int k 0)) none).run P w = .ok (.slice none 0 0) w := by
  obtain ⟨i, hi⟩ := info_of_okT hok
  simp [Instr.sliceAt, Instr.slice, run_underlying hT, Instr.sliceBounds, Instr.sliceBound, asIntOf, Go.sizeOf, typeInfo, hi]

end
end Go.Am
