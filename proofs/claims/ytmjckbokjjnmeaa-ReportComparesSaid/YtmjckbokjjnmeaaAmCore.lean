/- The abstract machine, part 1: abstract values, what they stand for, and how that is kept. Conditions: none; plain definitions and lemmas over the given model. -/
import Derived.WalkKit
namespace Go.Am


/-- Cells that are never written again: block, offset, value. -/
abbrev Heap := Nat → Nat → Option Value
def Heap.le (H H' : Heap) : Prop := ∀ b o v, H b o = some v → H' b o = some v
theorem Heap.le_refl (H : Heap) : H.le H := fun _ _ _ h => h
theorem Heap.le_trans {A B C : Heap} (h : A.le B) (k : B.le C) : A.le C := fun b o v x => k b o v (h b o v x)

/-- What an id is bound to: nothing, the nil row, a block with room for so many elements. -/
inductive Bd where
  | no
  | nil
  | at (b cap : Nat)
  deriving Inhabited

abbrev Rho := Nat → Bd
def rho0 : Rho := fun _ => .no
def Rho.upd (ρ : Rho) (d : Nat) (x : Bd) : Rho := fun i => if i = d then x else ρ i

inductive AV where
  | v (x : Value)
  | st (cs : List AV)
  | sl (k : Nat) (xs : List AV)
  | ep (x : AV)
  | own (id k off n : Nat)
  | loc (id off : Nat)
  | eloc (id k i off : Nat)
  | mp (id : Nat)
  | fn (f : Fn) (first caps : List AV)
  | tup (vs : List AV)
  | ifc (t : TypeId) (x : AV)
  | w
  | u
  deriving Inhabited

/-- The value of one cell that is no function value and no struct. -/
def okV : Value → Bool
  | .agg _ | .tuple _ => false
  | _ => true

/-- Does it take one cell? -/
def AV.one : AV → Bool
  | .st _ | .tup _ | .u => false
  | _ => true

def AV.cells : AV → List AV
  | .st cs => cs
  | x => [x]

mutual
/-- Does it name the id? -/
def AV.ment (d : Nat) : AV → Bool
  | .st cs => mentL d cs
  | .own id _ _ _ => id == d
  | .loc id _ => id == d
  | .eloc id _ _ _ => id == d
  | .mp id => id == d
  | .fn _ a b => mentL d a || mentL d b
  | .tup vs => mentL d vs
  | .ifc _ x => x.ment d
  | _ => false
def mentL (d : Nat) : List AV → Bool
  | [] => false
  | c :: cs => c.ment d || mentL d cs
end

mutual
/-- It names no id. -/
def AV.idf : AV → Bool
  | .st cs => idfL cs
  | .own _ _ _ _ => false
  | .loc _ _ => false
  | .eloc _ _ _ _ => false
  | .mp _ => false
  | .fn _ a b => idfL a && idfL b
  | .tup vs => idfL vs
  | .ifc _ x => x.idf
  | _ => true
def idfL : List AV → Bool
  | [] => true
  | c :: cs => c.idf && idfL cs
end

mutual
/-- It names no id and no memory. -/
def AV.flat : AV → Bool
  | .v _ => true
  | .st cs => flatL cs
  | .tup vs => flatL vs
  | .ifc _ x => x.flat
  | .w => true
  | .u => true
  | _ => false
def flatL : List AV → Bool
  | [] => true
  | c :: cs => c.flat && flatL cs
end

/-- THE ABSTRACT VALUE av STANDS FOR THE VALUE. -/
inductive Rep (H : Heap) : Rho → AV → Value → Prop
  | v {ρ : Rho} {x : Value} (h : okV x = true) : Rep H ρ (.v x) x
  | st {ρ : Rho} {cs : List AV} {vs : List Value} (hl : cs.length = vs.length) (h1 : ∀ c ∈ cs, c.one = true)
      (h : ∀ (i : Nat) (c : AV) (u : Value), cs[i]? = some c → vs[i]? = some u → Rep H ρ c u) : Rep H ρ (.st cs) (.agg vs.toArray)
  | slNil {ρ : Rho} {k : Nat} {a : Option Addr} {cap : Nat} : Rep H ρ (.sl k []) (.slice a 0 cap)
  | sl {ρ : Rho} {k : Nat} {xs : List AV} {blk off cap : Nat} (cell : Nat → Nat → Value) (hcap : xs.length ≤ cap) (hmax : cap ≤ maxLen)
      (hk : ∀ x ∈ xs, x.cells.length = k) (h1 : ∀ x ∈ xs, ∀ c ∈ x.cells, c.one = true)
      (hH : ∀ (i j : Nat) (x c : AV), xs[i]? = some x → x.cells[j]? = some c → H blk (off + i * k + j) = some (cell i j))
      (h : ∀ (i j : Nat) (x c : AV), xs[i]? = some x → x.cells[j]? = some c → Rep H (fun _ => Bd.no) c (cell i j)) : Rep H ρ (.sl k xs) (.slice (some ⟨blk, off, none⟩) xs.length cap)
  | ep {ρ : Rho} {x : AV} {blk off : Nat} (cell : Nat → Value) (h1 : ∀ c ∈ x.cells, c.one = true)
      (hH : ∀ (j : Nat) (c : AV), x.cells[j]? = some c → H blk (off + j) = some (cell j))
      (h : ∀ (j : Nat) (c : AV), x.cells[j]? = some c → Rep H (fun _ => Bd.no) c (cell j)) : Rep H ρ (.ep x) (.pointer (some ⟨blk, off, none⟩))
  | ownNil {ρ : Rho} {id k : Nat} (h : ρ id = .nil) : Rep H ρ (.own id k 0 0) (.slice none 0 0)
  | own {ρ : Rho} {id k off n b cap : Nat} (h : ρ id = .at b cap) (hn : off + n ≤ cap) (hmax : cap ≤ maxLen) : Rep H ρ (.own id k off n) (.slice (some ⟨b, off * k, none⟩) n (cap - off))
  | loc {ρ : Rho} {id off b cap : Nat} (h : ρ id = .at b cap) : Rep H ρ (.loc id off) (.pointer (some ⟨b, off, none⟩))
  | eloc {ρ : Rho} {id k i off b cap : Nat} (h : ρ id = .at b cap) : Rep H ρ (.eloc id k i off) (.pointer (some ⟨b, i * k + off, none⟩))
  | mp {ρ : Rho} {id b cap : Nat} (h : ρ id = .at b cap) : Rep H ρ (.mp id) (.map (some b))
  | fn {ρ : Rho} {f : Fn} {fs cs : List AV} {us vs : List Value} (hl1 : fs.length = us.length) (hl2 : cs.length = vs.length)
      (h1 : ∀ (i : Nat) (c : AV) (u : Value), fs[i]? = some c → us[i]? = some u → Rep H ρ c u)
      (h2 : ∀ (i : Nat) (c : AV) (u : Value), cs[i]? = some c → vs[i]? = some u → Rep H ρ c u) : Rep H ρ (.fn f fs cs) (.func f us.toArray vs.toArray)
  | tup {ρ : Rho} {cs : List AV} {vs : List Value} (hl : cs.length = vs.length)
      (h : ∀ (i : Nat) (c : AV) (u : Value), cs[i]? = some c → vs[i]? = some u → Rep H ρ c u) : Rep H ρ (.tup cs) (.tuple vs.toArray)
  | ifc {ρ : Rho} {t : TypeId} {x : AV} {v : Value} (h : Rep H ρ x v) : Rep H ρ (.ifc t x) (.iface t v)
  | w {ρ : Rho} {v : Value} (h : okV v = true) : Rep H ρ .w v
  | u {ρ : Rho} {v : Value} : Rep H ρ .u v

/-- A list of them. -/
def RepL (H : Heap) (ρ : Rho) (cs : List AV) (vs : List Value) : Prop :=
  cs.length = vs.length ∧ ∀ (i : Nat) (c : AV) (u : Value), cs[i]? = some c → vs[i]? = some u → Rep H ρ c u

theorem RepL.nil {H : Heap} {ρ : Rho} : RepL H ρ [] [] := ⟨rfl, fun i c u h => by simp at h⟩
theorem RepL.cons {H : Heap} {ρ : Rho} {c : AV} {cs : List AV} {u : Value} {us : List Value} (h : Rep H ρ c u) (hs : RepL H ρ cs us) : RepL H ρ (c :: cs) (u :: us) := by
  refine ⟨by simp [hs.1], fun i x y hx hy => ?_⟩
  cases i with
  | zero => simp at hx hy; subst hx; subst hy; exact h
  | succ i => exact hs.2 i x y (by simpa using hx) (by simpa using hy)
theorem RepL.cons_inv {H : Heap} {ρ : Rho} {c : AV} {cs : List AV} {us : List Value} (h : RepL H ρ (c :: cs) us) : ∃ u us', us = u :: us' ∧ Rep H ρ c u ∧ RepL H ρ cs us' := by
  obtain ⟨hl, h⟩ := h
  cases us with
  | nil => simp at hl
  | cons u us' =>
    refine ⟨u, us', rfl, h 0 c u (by simp) (by simp), by simpa using hl, fun i x y hx hy => h (i + 1) x y (by simpa using hx) (by simpa using hy)⟩
theorem RepL.nil_inv {H : Heap} {ρ : Rho} {us : List Value} (h : RepL H ρ [] us) : us = [] := by
  cases us with
  | nil => rfl
  | cons => have := h.1; simp at this
theorem RepL.get {H : Heap} {ρ : Rho} {cs : List AV} {vs : List Value} (h : RepL H ρ cs vs) {i : Nat} {c : AV} (hc : cs[i]? = some c) : ∃ u, vs[i]? = some u ∧ Rep H ρ c u := by
  have hi : i < cs.length := (List.getElem?_eq_some_iff.1 hc).1
  have hi' : i < vs.length := h.1 ▸ hi
  exact ⟨vs[i], List.getElem?_eq_getElem hi', h.2 i c _ hc (List.getElem?_eq_getElem hi')⟩
theorem RepL.getV {H : Heap} {ρ : Rho} {cs : List AV} {vs : List Value} (h : RepL H ρ cs vs) {i : Nat} {u : Value} (hu : vs[i]? = some u) : ∃ c, cs[i]? = some c ∧ Rep H ρ c u := by
  have hi : i < vs.length := (List.getElem?_eq_some_iff.1 hu).1
  have hi' : i < cs.length := h.1 ▸ hi
  exact ⟨cs[i], List.getElem?_eq_getElem hi', h.2 i _ u (List.getElem?_eq_getElem hi') hu⟩

theorem Rep.mono {H H' : Heap} (hle : H.le H') {ρ : Rho} {x : AV} {v : Value} (h : Rep H ρ x v) : Rep H' ρ x v := by
  induction h with
  | v h => exact .v h
  | st hl h1 _ ih => exact .st hl h1 ih
  | slNil => exact .slNil
  | sl cell hcap hmax hk h1 hH _ ih => exact .sl cell hcap hmax hk h1 (fun i j x c hx hc => hle _ _ _ (hH i j x c hx hc)) ih
  | ep cell h1 hH _ ih => exact .ep cell h1 (fun j c hc => hle _ _ _ (hH j c hc)) ih
  | ownNil h => exact .ownNil h
  | own h hn hm => exact .own h hn hm
  | loc h => exact .loc h
  | eloc h => exact .eloc h
  | mp h => exact .mp h
  | fn hl1 hl2 _ _ ih1 ih2 => exact .fn hl1 hl2 ih1 ih2
  | tup hl _ ih => exact .tup hl ih
  | ifc _ ih => exact .ifc ih
  | w h => exact .w h
  | u => exact .u

theorem RepL.mono {H H' : Heap} (hle : H.le H') {ρ : Rho} {cs : List AV} {vs : List Value} (h : RepL H ρ cs vs) : RepL H' ρ cs vs := ⟨h.1, fun i c u hc hu => (h.2 i c u hc hu).mono hle⟩

theorem ment_of_mem {d : Nat} : ∀ {cs : List AV} {i : Nat} {c : AV}, cs[i]? = some c → c.ment d = true → mentL d cs = true
  | [], i, c, h, _ => by simp at h
  | x :: cs, 0, c, h, hm => by simp at h; subst h; simp [mentL, hm]
  | x :: cs, i + 1, c, h, hm => by simp at h; simp [mentL, ment_of_mem (cs := cs) h hm]

theorem idf_of_mem : ∀ {cs : List AV} {i : Nat} {c : AV}, idfL cs = true → cs[i]? = some c → c.idf = true
  | [], i, c, _, h => by simp at h
  | x :: cs, 0, c, hi, h => by simp at h; subst h; simp [idfL] at hi; exact hi.1
  | x :: cs, i + 1, c, hi, h => by simp at h; simp [idfL] at hi; exact idf_of_mem hi.2 h

theorem flat_of_mem : ∀ {cs : List AV} {i : Nat} {c : AV}, flatL cs = true → cs[i]? = some c → c.flat = true
  | [], i, c, _, h => by simp at h
  | x :: cs, 0, c, hi, h => by simp at h; subst h; simp [flatL] at hi; exact hi.1
  | x :: cs, i + 1, c, hi, h => by simp at h; simp [flatL] at hi; exact flat_of_mem hi.2 h

/-- Only what is named of the binding counts. -/
theorem Rep.rho {H : Heap} {ρ : Rho} {x : AV} {v : Value} (h : Rep H ρ x v) : ∀ {ρ' : Rho}, (∀ d, x.ment d = true → ρ' d = ρ d) → Rep H ρ' x v := by
  induction h with
  | v h => intro _ _; exact .v h
  | st hl h1 _ ih => intro ρ' hr; exact .st hl h1 (fun i c u hc hu => ih i c u hc hu (fun d hd => hr d (by simp only [AV.ment]; exact ment_of_mem hc hd)))
  | slNil => intro _ _; exact .slNil
  | sl cell hcap hmax hk h1 hH h _ => intro _ _; exact .sl cell hcap hmax hk h1 hH h
  | ep cell h1 hH h _ => intro _ _; exact .ep cell h1 hH h
  | ownNil h => intro ρ' hr; exact .ownNil ((hr _ (by simp [AV.ment])).trans h)
  | own h hn hm => intro ρ' hr; exact .own ((hr _ (by simp [AV.ment])).trans h) hn hm
  | loc h => intro ρ' hr; exact .loc ((hr _ (by simp [AV.ment])).trans h)
  | eloc h => intro ρ' hr; exact .eloc ((hr _ (by simp [AV.ment])).trans h)
  | mp h => intro ρ' hr; exact .mp ((hr _ (by simp [AV.ment])).trans h)
  | fn hl1 hl2 _ _ ih1 ih2 =>
    intro ρ' hr
    exact .fn hl1 hl2 (fun i c u hc hu => ih1 i c u hc hu (fun d hd => hr d (by simp [AV.ment, ment_of_mem hc hd])))
      (fun i c u hc hu => ih2 i c u hc hu (fun d hd => hr d (by simp [AV.ment, ment_of_mem hc hd])))
  | tup hl _ ih => intro ρ' hr; exact .tup hl (fun i c u hc hu => ih i c u hc hu (fun d hd => hr d (by simp only [AV.ment]; exact ment_of_mem hc hd)))
  | ifc _ ih => intro ρ' hr; exact .ifc (ih (fun d hd => hr d (by simpa only [AV.ment] using hd)))
  | w h => intro _ _; exact .w h
  | u => intro _ _; exact .u

/-- What stands under no binding stands under every one. -/
theorem Rep.any {H : Heap} {ρ0 : Rho} {x : AV} {v : Value} (h : Rep H ρ0 x v) : (∀ d, ρ0 d = .no) → ∀ ρ : Rho, Rep H ρ x v := by
  induction h with
  | v h => intro _ _; exact .v h
  | st hl h1 _ ih => intro h0 ρ; exact .st hl h1 (fun i c u hc hu => ih i c u hc hu h0 ρ)
  | slNil => intro _ _; exact .slNil
  | sl cell hcap hmax hk h1 hH h _ => intro _ _; exact .sl cell hcap hmax hk h1 hH h
  | ep cell h1 hH h _ => intro _ _; exact .ep cell h1 hH h
  | ownNil h => intro h0; rw [h0] at h; cases h
  | own h => intro h0; rw [h0] at h; cases h
  | loc h => intro h0; rw [h0] at h; cases h
  | eloc h => intro h0; rw [h0] at h; cases h
  | mp h => intro h0; rw [h0] at h; cases h
  | fn hl1 hl2 _ _ ih1 ih2 => intro h0 ρ; exact .fn hl1 hl2 (fun i c u hc hu => ih1 i c u hc hu h0 ρ) (fun i c u hc hu => ih2 i c u hc hu h0 ρ)
  | tup hl _ ih => intro h0 ρ; exact .tup hl (fun i c u hc hu => ih i c u hc hu h0 ρ)
  | ifc _ ih => intro h0 ρ; exact .ifc (ih h0 ρ)
  | w h => intro _ _; exact .w h
  | u => intro _ _; exact .u

theorem RepL.rho {H : Heap} {ρ ρ' : Rho} {cs : List AV} {vs : List Value} (h : RepL H ρ cs vs) (hr : ∀ d, mentL d cs = true → ρ' d = ρ d) : RepL H ρ' cs vs :=
  ⟨h.1, fun i c u hc hu => (h.2 i c u hc hu).rho (fun d hd => hr d (ment_of_mem hc hd))⟩

mutual
theorem idf_ment (d : Nat) : ∀ x : AV, x.idf = true → x.ment d = false
  | .v _, _ => by simp [AV.ment]
  | .st cs, h => by simp only [AV.ment]; exact idfL_ment d cs (by simpa only [AV.idf] using h)
  | .sl _ _, _ => by simp [AV.ment]
  | .ep _, _ => by simp [AV.ment]
  | .own .., h => by simp [AV.idf] at h
  | .loc .., h => by simp [AV.idf] at h
  | .eloc .., h => by simp [AV.idf] at h
  | .mp _, h => by simp [AV.idf] at h
  | .fn _ a b, h => by
    simp only [AV.idf, Bool.and_eq_true] at h
    simp [AV.ment, idfL_ment d a h.1, idfL_ment d b h.2]
  | .tup vs, h => by simp only [AV.ment]; exact idfL_ment d vs (by simpa only [AV.idf] using h)
  | .ifc _ x, h => by simp only [AV.ment]; exact idf_ment d x (by simpa only [AV.idf] using h)
  | .w, _ => by simp [AV.ment]
  | .u, _ => by simp [AV.ment]
theorem idfL_ment (d : Nat) : ∀ cs : List AV, idfL cs = true → mentL d cs = false
  | [], _ => by simp [mentL]
  | c :: cs, h => by
    simp only [idfL, Bool.and_eq_true] at h
    simp [mentL, idf_ment d c h.1, idfL_ment d cs h.2]
end

theorem Rep.idf {H : Heap} {ρ ρ' : Rho} {x : AV} {v : Value} (h : Rep H ρ x v) (hi : x.idf = true) : Rep H ρ' x v := h.rho (fun d hd => by rw [idf_ment d x hi] at hd; cases hd)
theorem RepL.idf {H : Heap} {ρ ρ' : Rho} {cs : List AV} {vs : List Value} (h : RepL H ρ cs vs) (hi : idfL cs = true) : RepL H ρ' cs vs := h.rho (fun d hd => by rw [idfL_ment d cs hi] at hd; cases hd)

theorem Rep.flat {H : Heap} {ρ : Rho} {x : AV} {v : Value} (h : Rep H ρ x v) : ∀ {H' : Heap} {ρ' : Rho}, x.flat = true → Rep H' ρ' x v := by
  induction h with
  | v h => intro _ _ _; exact .v h
  | st hl h1 _ ih => intro _ _ hf; exact .st hl h1 (fun i c u hc hu => ih i c u hc hu (flat_of_mem (by simpa only [AV.flat] using hf) hc))
  | tup hl _ ih => intro _ _ hf; exact .tup hl (fun i c u hc hu => ih i c u hc hu (flat_of_mem (by simpa only [AV.flat] using hf) hc))
  | ifc _ ih => intro _ _ hf; exact .ifc (ih (by simpa only [AV.flat] using hf))
  | w h => intro _ _ _; exact .w h
  | u => intro _ _ _; exact .u
  | _ => intro _ _ hf; simp [AV.flat] at hf

theorem Rep.okV {H : Heap} {ρ : Rho} {x : AV} {v : Value} (h : Rep H ρ x v) (h1 : x.one = true) : okV v = true := by
  cases h <;> first | rfl | assumption | (simp [AV.one] at h1)

theorem okV_cells {v : Value} (h : okV v = true) : v.cells = #[v] := by cases v <;> first | rfl | (simp [Am.okV] at h)
theorem okV_oneCell {v : Value} (h : okV v = true) : v.oneCell' = true := by cases v <;> first | rfl | (simp [Am.okV] at h)
theorem AV.one_cells {x : AV} (h : x.one = true) : x.cells = [x] := by cases x <;> first | rfl | (simp [AV.one] at h)

/-- The cells of what it stands for. -/
def AV.sto : AV → Bool
  | .tup _ | .u => false
  | _ => true

theorem Rep.cellsL {H : Heap} {ρ : Rho} {x : AV} {v : Value} (h : Rep H ρ x v) (hs : x.sto = true) : RepL H ρ x.cells v.cells.toList ∧ ∀ c ∈ x.cells, c.one = true := by
  by_cases h1 : x.one = true
  · rw [AV.one_cells h1, okV_cells (h.okV h1)]
    exact ⟨RepL.cons h RepL.nil, by simpa using h1⟩
  · cases h with
    | st hl h2 h => exact ⟨⟨by simpa [AV.cells, Value.cells] using hl, by simpa [AV.cells, Value.cells] using h⟩, h2⟩
    | tup => simp [AV.sto] at hs
    | u => simp [AV.sto] at hs
    | _ => simp [AV.one] at h1

theorem RepL.ok {H : Heap} {ρ : Rho} {cs : List AV} {vs : List Value} (h : RepL H ρ cs vs) (h1 : ∀ c ∈ cs, c.one = true) : ∀ u ∈ vs, okV u = true := by
  intro u hu
  obtain ⟨i, hi⟩ := List.getElem?_of_mem hu
  obtain ⟨c, hc, hr⟩ := h.getV hi
  exact hr.okV (h1 c (List.mem_of_getElem? hc))

end Go.Am
