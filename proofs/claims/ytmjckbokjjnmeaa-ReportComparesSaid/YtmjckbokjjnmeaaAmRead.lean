/- The abstract machine, part 25: what can be read as data is a value of the machine; the end of a law's row. -/
import Derived.Test.YtmjckbokjjnmeaaAmRow
import Derived.OpenShut
import Derived.Carry
import Derived.ChangeSame
namespace Go.Am
open Go.RowKit Go.ChangeShapes

def ShapeF (S : TypeId → List AV → Prop) (sz : TypeId → Nat) : List Field → List AV → Prop
  | [], cs => cs = []
  | f :: fs, cs => ∃ a b, cs = a ++ b ∧ S f.type a ∧ a.length = sz f.type ∧ ShapeF S sz fs b
def ShapeA (S : List AV → Prop) (k : Nat) : Nat → List AV → Prop
  | 0, cs => cs = []
  | n + 1, cs => ∃ a b, cs = a ++ b ∧ S a ∧ a.length = k ∧ ShapeA S k n b
/-- The cells of a value of the type. -/
def ShapeC (P : Program) : Nat → TypeId → List AV → Prop
  | 0, _, _ => False
  | n + 1, t, cs => match P.underlying t with
    | some .bool => ∃ b, cs = [.v (.bool b)]
    | some (.int k) => ∃ i, cs = [.v (.int k i)] ∧ k.min ≤ i ∧ i ≤ k.max
    | some .string => ∃ s, cs = [.v (.string s)] ∧ s.size ≤ maxLen
    | some (.slice e) => ∃ xs, cs = [.sl (P.cellsOf e) xs] ∧ xs.length ≤ maxLen ∧ ∀ x ∈ xs, ∃ cs', ShapeC P n e cs' ∧ x = (if aggB P e then .st cs' else cs'.headD .u)
    | some (.struct fs) => ShapeF (ShapeC P n) P.cellsOf fs.toList cs
    | some (.array m e) => ShapeA (ShapeC P n e) (P.cellsOf e) m cs
    | _ => False

def layF (sz : TypeId → Nat) : List Field → Nat → Option Nat
  | [], off => some off
  | f :: fs, off => if f.offset = off then layF sz fs (off + sz f.type) else none
def layB (P : Program) : Nat → TypeId → Bool
  | 0, _ => false
  | n + 1, t => match P.underlying t with
    | some .bool | some (.int _) | some .string => P.cellsOf t == 1
    | some (.slice e) => P.cellsOf t == 1 && decide (0 < P.cellsOf e) && (aggB P e || P.cellsOf e == 1) && layB P n e
    | some (.struct fs) => layF P.cellsOf fs.toList 0 == some (P.cellsOf t) && fs.toList.all fun f => layB P n f.type
    | some (.array m e) => P.cellsOf t == m * P.cellsOf e && layB P n e
    | _ => false

theorem ShapeC.len {P : Program} : ∀ {n : Nat} {t : TypeId} {cs : List AV}, layB P n t = true → ShapeC P n t cs → cs.length = P.cellsOf t
  | 0, _, _, _, h => h.elim
  | n + 1, t, cs, hl, h => by
    simp only [ShapeC, layB] at h hl
    split at h
    · rename_i hu; rw [hu] at hl; obtain ⟨b, rfl⟩ := h; simpa using (beq_iff_eq.1 hl).symm
    · rename_i hu; rw [hu] at hl; obtain ⟨b, rfl, _⟩ := h; simpa using (beq_iff_eq.1 hl).symm
    · rename_i hu; rw [hu] at hl; obtain ⟨b, rfl, _⟩ := h; simpa using (beq_iff_eq.1 hl).symm
    · rename_i hu; rw [hu] at hl; obtain ⟨b, rfl, _⟩ := h
      simp only [Bool.and_eq_true, beq_iff_eq] at hl
      simpa using hl.1.1.1.symm
    · rename_i fs hu
      rw [hu] at hl
      simp only [Bool.and_eq_true, beq_iff_eq] at hl
      have key : ∀ (fs : List Field) (off : Nat) (cs : List AV) (e : Nat), ShapeF (ShapeC P n) P.cellsOf fs cs → layF P.cellsOf fs off = some e → off + cs.length = e := by
        intro fs
        induction fs with
        | nil => intro off cs e h hl; simp only [ShapeF] at h; simp only [layF, Option.some.injEq] at hl; subst h; simpa using hl
        | cons f fs ih =>
          intro off cs e h hl
          obtain ⟨a, b, rfl, _, h2, h3⟩ := h
          simp only [layF] at hl
          split at hl
          · have := ih _ _ _ h3 hl
            rw [List.length_append, h2]; omega
          · cases hl
      have := key _ _ _ _ h hl.1
      omega
    · rename_i m e hu
      rw [hu] at hl
      simp only [Bool.and_eq_true, beq_iff_eq] at hl
      rw [hl.1]
      have key : ∀ (m : Nat) (cs : List AV), ShapeA (ShapeC P n e) (P.cellsOf e) m cs → cs.length = m * P.cellsOf e := by
        intro m
        induction m with
        | zero => intro cs h; simp only [ShapeA] at h; subst h; simp
        | succ m ih =>
          intro cs h
          obtain ⟨a, b, rfl, _, h2, h3⟩ := h
          rw [List.length_append, h2, ih _ h3, Nat.add_mul, Nat.one_mul, Nat.add_comm]
      exact key _ _ h
    · exact h.elim

section
variable {H : Type} {enc : TypeId × Value → H} {P : Program} {W : World} {base : Nat} {spare : Nat → Bool} {held : Bool}

/-- WHAT CAN BE READ IS A VALUE OF THE MACHINE. -/
theorem read_rep : ∀ (n : Nat) (t : TypeId), layB P n t = true → ∀ (fuel : Nat) (cs : List Value) (x : DataW H × List MemPlace), DataW.trod enc P W base spare held fuel t cs = some x →
    ∃ avs, ShapeC P n t avs ∧ RepL (snap W) rho0 avs cs ∧ ∀ c ∈ avs, c.one = true
  | 0, _, h => by simp [layB] at h
  | n + 1, t, hl => by
    intro fuel cs x h
    simp only [layB] at hl
    split at hl
    · rename_i hu
      obtain ⟨b, rfl, _⟩ := DataW.trod_bool hu h
      exact ⟨[.v (.bool b)], by simp only [ShapeC, hu]; exact ⟨b, rfl⟩, RepL.cons (.v rfl) RepL.nil, by simp [AV.one]⟩
    · rename_i k hu
      obtain ⟨i, rfl, _, hw⟩ := DataW.trod_int hu h
      simp only [Lit.wf, Bool.and_eq_true, decide_eq_true_eq] at hw
      exact ⟨[.v (.int k i)], by simp only [ShapeC, hu]; exact ⟨i, rfl, hw.1, hw.2⟩, RepL.cons (.v rfl) RepL.nil, by simp [AV.one]⟩
    · rename_i hu
      obtain ⟨s, rfl, _, hw⟩ := DataW.trod_string hu h
      exact ⟨[.v (.string s)], by simp only [ShapeC, hu]; exact ⟨s, rfl, hw⟩, RepL.cons (.v rfl) RepL.nil, by simp [AV.one]⟩
    · rename_i e hu
      simp only [Bool.and_eq_true, Bool.or_eq_true, beq_iff_eq, decide_eq_true_eq] at hl
      obtain ⟨⟨⟨_, hk⟩, hagg⟩, hle⟩ := hl
      rcases DataW.trod_slice hu h with ⟨rfl, _⟩ | ⟨a, len, cap, elems, rest, m, _, rfl, _, _, hlc, hcm, hel, hg, _, _⟩
      · exact ⟨[.sl (P.cellsOf e) []], by simp only [ShapeC, hu]; exact ⟨[], rfl, by simp, by simp⟩, RepL.cons .slNil RepL.nil, by simp [AV.one]⟩
      · by_cases hlen : len = 0
        · subst hlen
          exact ⟨[.sl (P.cellsOf e) []], by simp only [ShapeC, hu]; exact ⟨[], rfl, by simp, by simp⟩, RepL.cons .slNil RepL.nil, by simp [AV.one]⟩
        · -- its place has no spot
          obtain ⟨b0, o0, rfl⟩ : ∃ b o, a = ⟨b, o, none⟩ := by
            have h0 := hg 0 (by omega)
            obtain ⟨y, hy⟩ : ∃ y, elems[0]? = some y := ⟨_, List.getElem?_eq_getElem (by omega)⟩
            rw [hy, Option.bind_eq_some_iff] at h0
            obtain ⟨vs, hvs, ht⟩ := h0
            obtain ⟨_, hl0, hc⟩ := World.cells?_some hvs
            have hc0 := hc 0 hk
            rw [List.getElem?_eq_getElem (by omega)] at hc0
            cases a with
            | mk b o sp =>
              cases sp with
              | none => exact ⟨b, o, rfl⟩
              | some s =>
                exfalso
                simp only [Addr.add, Nat.zero_mul, if_true, World.cell?] at hc0
                split at hc0
                · simp at hc0
                · cases hc0
          have each : ∀ i, i < len → ∃ cs', ShapeC P n e cs' ∧ cs'.length = P.cellsOf e ∧ (∀ c ∈ cs', c.one = true) ∧ ∃ vs, RepL (snap W) rho0 cs' vs ∧ ∀ j, j < P.cellsOf e → W.cell? ⟨b0, o0 + (i * P.cellsOf e + j), none⟩ = vs[j]? := by
            intro i hi
            have := hg i hi
            obtain ⟨y, hy⟩ : ∃ y, elems[i]? = some y := ⟨_, List.getElem?_eq_getElem (by omega)⟩
            rw [hy, Option.bind_eq_some_iff] at this
            obtain ⟨vs, hvs, ht⟩ := this
            obtain ⟨cs', h1, h2, h3⟩ := read_rep n e hle _ _ _ ht
            obtain ⟨_, _, hc⟩ := World.cells?_some hvs
            refine ⟨cs', h1, h1.len hle, h3, vs, h2, fun j hj => ?_⟩
            have := hc j hj
            rw [Addr.add_mk, Addr.add_mk, Nat.add_assoc] at this
            exact this
          -- the elements, chosen
          have hch : ∃ f : Nat → List AV, ∀ i, i < len → ShapeC P n e (f i) ∧ (f i).length = P.cellsOf e ∧ (∀ c ∈ f i, c.one = true) ∧ ∃ vs, RepL (snap W) rho0 (f i) vs ∧ ∀ j, j < P.cellsOf e → W.cell? ⟨b0, o0 + (i * P.cellsOf e + j), none⟩ = vs[j]? := by
            refine ⟨fun i => if h : i < len then Classical.choose (each i h) else [], fun i hi => ?_⟩
            simp only [hi, dif_pos]
            exact Classical.choose_spec (each i hi)
          obtain ⟨f, hf⟩ := hch
          obtain ⟨mk, hmk⟩ : ∃ mk : List AV → AV, ∀ cs', mk cs' = if aggB P e then .st cs' else cs'.headD .u := ⟨_, fun _ => rfl⟩
          have hmc : ∀ i, i < len → (mk (f i)).cells = f i := by
            intro i hi
            rw [hmk]
            by_cases ha : aggB P e = true
            · rw [if_pos ha]; rfl
            · rw [if_neg ha]
              obtain ⟨_, h2, h3, _⟩ := hf i hi
              rw [hagg.resolve_left ha] at h2
              match hfi : f i, h2 with
              | [c], _ =>
                rw [hfi] at h3
                exact AV.one_cells (h3 c (by simp))
          refine ⟨[.sl (P.cellsOf e) ((List.range len).map fun i => mk (f i))], ?_, RepL.cons ?_ RepL.nil, by simp [AV.one]⟩
          · simp only [ShapeC, hu]
            refine ⟨_, rfl, by simp; omega, fun y hy => ?_⟩
            obtain ⟨i, hi, rfl⟩ := List.mem_map.1 hy
            exact ⟨f i, (hf i (List.mem_range.1 hi)).1, hmk _⟩
          · have hlr : ((List.range len).map fun i => mk (f i)).length = len := by simp
            have hget : ∀ (i : Nat) (x : AV), ((List.range len).map fun i => mk (f i))[i]? = some x → i < len ∧ x = mk (f i) := by
              intro i x hx
              have hi : i < len := by have := (List.getElem?_eq_some_iff.1 hx).1; simpa using this
              rw [List.getElem?_map, List.getElem?_range hi] at hx
              exact ⟨hi, by simpa using hx.symm⟩
            have hcell : ∀ (i j : Nat) (c : AV), i < len → (f i)[j]? = some c → ∃ u, W.cell? ⟨b0, o0 + i * P.cellsOf e + j, none⟩ = some u ∧ Rep (snap W) (fun _ => Bd.no) c u := by
              intro i j c hi hc
              obtain ⟨_, h2, _, vs, hvs, hcc⟩ := hf i hi
              have hj : j < P.cellsOf e := by have := (List.getElem?_eq_some_iff.1 hc).1; omega
              obtain ⟨u, hu1, hu2⟩ := hvs.get hc
              refine ⟨u, ?_, hu2⟩
              have := hcc j hj
              rw [← hu1, ← this, Nat.add_assoc]
            have := Rep.sl (H := snap W) (ρ := rho0) (k := P.cellsOf e) (xs := (List.range len).map fun i => mk (f i)) (blk := b0) (off := o0) (cap := cap)
              (fun i j => (W.cell? ⟨b0, o0 + i * P.cellsOf e + j, none⟩).getD undef) (by rw [hlr]; exact hlc) hcm
              (fun x hx => by obtain ⟨i, hi, rfl⟩ := List.mem_map.1 hx; rw [hmc i (List.mem_range.1 hi)]; exact (hf i (List.mem_range.1 hi)).2.1)
              (fun x hx c hc => by obtain ⟨i, hi, rfl⟩ := List.mem_map.1 hx; rw [hmc i (List.mem_range.1 hi)] at hc; exact (hf i (List.mem_range.1 hi)).2.2.1 c hc)
              (fun i j x c hx hc => by
                obtain ⟨hi, rfl⟩ := hget i x hx
                rw [hmc i hi] at hc
                obtain ⟨u, h1, _⟩ := hcell i j c hi hc
                show W.cell? _ = _
                rw [h1]; rfl)
              (fun i j x c hx hc => by
                obtain ⟨hi, rfl⟩ := hget i x hx
                rw [hmc i hi] at hc
                obtain ⟨u, h1, h2⟩ := hcell i j c hi hc
                rw [h1]
                exact h2)
            rw [hlr] at this
            exact this
    · rename_i fs hu
      simp only [Bool.and_eq_true, beq_iff_eq, List.all_eq_true] at hl
      obtain ⟨hlay, hall⟩ := hl
      obtain ⟨xs, m, _, _, hlen, hxl, hg⟩ := DataW.trod_struct hu h
      have key : ∀ (gs : List Field) (off : Nat), (∀ f ∈ gs, layB P n f.type = true ∧ ∃ y, DataW.trod enc P W base spare held m f.type ((cs.drop f.offset).take (P.cellsOf f.type)) = some y) → layF P.cellsOf gs off = some cs.length →
          ∃ avs, ShapeF (ShapeC P n) P.cellsOf gs avs ∧ RepL (snap W) rho0 avs (cs.drop off) ∧ ∀ c ∈ avs, c.one = true := by
        intro gs
        induction gs with
        | nil =>
          intro off _ hl
          simp only [layF, Option.some.injEq] at hl
          exact ⟨[], rfl, by rw [hl, List.drop_length]; exact RepL.nil, by simp⟩
        | cons f gs ih =>
          intro off hgs hl
          simp only [layF] at hl
          split at hl
          · rename_i ho
            obtain ⟨hb, y, hy⟩ := hgs f List.mem_cons_self
            obtain ⟨a, h1, h2, h3⟩ := read_rep n f.type hb _ _ _ hy
            obtain ⟨b, h4, h5, h6⟩ := ih _ (fun g hg => hgs g (List.mem_cons_of_mem _ hg)) hl
            refine ⟨a ++ b, ⟨a, b, rfl, h1, h1.len hb, h4⟩, ?_, fun c hc => (List.mem_append.1 hc).elim (h3 c) (h6 c)⟩
            have := h2.append h5
            rw [ho] at this
            rw [← List.drop_drop, List.take_append_drop] at this
            exact this
          · cases hl
      have hfs : ∀ f ∈ fs.toList, layB P n f.type = true ∧ ∃ y, DataW.trod enc P W base spare held m f.type ((cs.drop f.offset).take (P.cellsOf f.type)) = some y := by
        intro f hf
        refine ⟨hall f hf, ?_⟩
        obtain ⟨i, hi⟩ := List.getElem?_of_mem hf
        rw [Array.getElem?_toList] at hi
        have := hg i f hi
        have hi' : i < xs.length := by rw [hxl]; exact (Array.getElem?_eq_some_iff.1 hi).1
        rw [List.getElem?_eq_getElem hi'] at this
        exact ⟨_, this⟩
      obtain ⟨avs, h1, h2, h3⟩ := key fs.toList 0 hfs (by rw [hlay, hlen])
      exact ⟨avs, by simp only [ShapeC, hu]; exact h1, by simpa using h2, h3⟩
    · rename_i m e hu
      simp only [Bool.and_eq_true, beq_iff_eq] at hl
      obtain ⟨hsz, hle⟩ := hl
      obtain ⟨xs, q, _, _, hlen, hxl, hg⟩ := DataW.trod_array hu h
      have key : ∀ (r i : Nat), i + r = m → ∃ avs, ShapeA (ShapeC P n e) (P.cellsOf e) r avs ∧ RepL (snap W) rho0 avs (cs.drop (i * P.cellsOf e)) ∧ ∀ c ∈ avs, c.one = true := by
        intro r
        induction r with
        | zero =>
          intro i hi
          exact ⟨[], rfl, by rw [show i = m by omega, ← hsz, ← hlen, List.drop_length]; exact RepL.nil, by simp⟩
        | succ r ih =>
          intro i hi
          have hi' : i < m := by omega
          have ht := hg i hi'
          rw [List.getElem?_eq_getElem (by omega)] at ht
          obtain ⟨a, h1, h2, h3⟩ := read_rep n e hle _ _ _ ht
          obtain ⟨b, h4, h5, h6⟩ := ih (i + 1) (by omega)
          refine ⟨a ++ b, ⟨a, b, rfl, h1, h1.len hle, h4⟩, ?_, fun c hc => (List.mem_append.1 hc).elim (h3 c) (h6 c)⟩
          have := h2.append h5
          rw [Nat.add_mul, Nat.one_mul, ← List.drop_drop, List.take_append_drop] at this
          exact this
      obtain ⟨avs, h1, h2, h3⟩ := key m 0 (by omega)
      exact ⟨avs, by simp only [ShapeC, hu]; exact h1, by simpa using h2, h3⟩
    · cases hl
end
end Go.Am
