/- The abstract machine, part 16: a region that draws its order: every order leads to the state that the text's order leads to. -/
import Derived.Test.YtmjckbokjjnmeaaAmEx
namespace Go.Am
open Go.RowKit

/-! ### what names no bound id -/
theorem Rep.noment {H : Heap} {ρ : Rho} {x : AV} {v : Value} {d : Nat} (h : Rep H ρ x v) : ρ d = .no → x.ment d = false := by
  induction h with
  | v h => intro _; rfl
  | st hl h1 _ ih =>
    intro h0
    simp only [AV.ment]
    refine mentL_false_of (fun c hc => ?_)
    obtain ⟨i, hi⟩ := List.getElem?_of_mem hc
    exact ih i c _ hi (List.getElem?_eq_getElem (hl ▸ (List.getElem?_eq_some_iff.1 hi).1)) h0
  | slNil => intro _; rfl
  | sl => intro _; rfl
  | ep => intro _; rfl
  | ownNil h => intro h0; simp only [AV.ment, beq_eq_false_iff_ne]; rintro rfl; rw [h0] at h; cases h
  | own h => intro h0; simp only [AV.ment, beq_eq_false_iff_ne]; rintro rfl; rw [h0] at h; cases h
  | loc h => intro h0; simp only [AV.ment, beq_eq_false_iff_ne]; rintro rfl; rw [h0] at h; cases h
  | eloc h => intro h0; simp only [AV.ment, beq_eq_false_iff_ne]; rintro rfl; rw [h0] at h; cases h
  | mp h => intro h0; simp only [AV.ment, beq_eq_false_iff_ne]; rintro rfl; rw [h0] at h; cases h
  | fn hl1 hl2 _ _ ih1 ih2 =>
    intro h0
    simp only [AV.ment, Bool.or_eq_false_iff]
    refine ⟨mentL_false_of (fun c hc => ?_), mentL_false_of (fun c hc => ?_)⟩
    · obtain ⟨i, hi⟩ := List.getElem?_of_mem hc
      exact ih1 i c _ hi (List.getElem?_eq_getElem (hl1 ▸ (List.getElem?_eq_some_iff.1 hi).1)) h0
    · obtain ⟨i, hi⟩ := List.getElem?_of_mem hc
      exact ih2 i c _ hi (List.getElem?_eq_getElem (hl2 ▸ (List.getElem?_eq_some_iff.1 hi).1)) h0
  | tup hl _ ih =>
    intro h0
    simp only [AV.ment]
    refine mentL_false_of (fun c hc => ?_)
    obtain ⟨i, hi⟩ := List.getElem?_of_mem hc
    exact ih i c _ hi (List.getElem?_eq_getElem (hl ▸ (List.getElem?_eq_some_iff.1 hi).1)) h0
  | ifc _ ih => intro h0; simp only [AV.ment]; exact ih h0
  | w _ => intro _; rfl
  | u => intro _; rfl

theorem RepL.noment {H : Heap} {ρ : Rho} {cs : List AV} {vs : List Value} {d : Nat} (h : RepL H ρ cs vs) (h0 : ρ d = .no) : mentL d cs = false :=
  mentL_false_of (fun c hc => by
    obtain ⟨i, hi⟩ := List.getElem?_of_mem hc
    obtain ⟨u, _, hr⟩ := h.get hi
    exact hr.noment h0)

theorem ment_of_cells {d : Nat} {x : AV} (h : mentL d x.cells = false) : x.ment d = false := by
  cases x with
  | st cs => simpa only [AV.ment, AV.cells] using h
  | _ => simpa only [AV.cells, mentL, Bool.or_false] using h

theorem mentL_of_flat {d : Nat} : ∀ {xs : List AV}, mentL d (xs.flatMap AV.cells) = false → mentL d xs = false
  | [], _ => rfl
  | x :: xs, h => by
    rw [List.flatMap_cons, mentL_append, Bool.or_eq_false_iff] at h
    simp only [mentL, Bool.or_eq_false_iff]
    exact ⟨ment_of_cells h.1, mentL_of_flat h.2⟩

theorem mentP_of {d : Nat} : ∀ {es : List (AV × AV)}, mentL d (es.map (·.1)) = false → mentL d (es.map (·.2)) = false → mentP d es = false
  | [], _, _ => rfl
  | e :: es, h1, h2 => by
    simp only [List.map_cons, mentL, Bool.or_eq_false_iff] at h1 h2
    simp only [mentP, Bool.or_eq_false_iff]
    exact ⟨⟨h1.1, h2.1⟩, mentP_of h1.2 h2.2⟩

theorem CtRep.noment {H : Heap} {ρ : Rho} {w : World} {bd : Bd} {c : Ct} {d : Nat} (h : CtRep H ρ w bd c) (h0 : ρ d = .no) : c.ment d = false := by
  cases c with
  | box T x => obtain ⟨_, _, _, _, _, h3, _⟩ := h; simp only [Ct.ment]; exact ment_of_cells (h3.noment h0)
  | arr T k xs =>
    simp only [Ct.ment]
    rcases h with ⟨_, rfl⟩ | ⟨_, _, _, _, _, _, _, _, h6, _⟩
    · rfl
    · exact mentL_of_flat (h6.noment h0)
  | it m bs ck vis =>
    obtain ⟨_, _, _, _, _, _, h2, _⟩ := h
    simp only [Ct.ment, beq_eq_false_iff_ne]
    rintro rfl
    rw [h0] at h2
    cases h2
  | map es st => obtain ⟨_, _, _, _, _, _, h3, h4, _⟩ := h; simp only [Ct.ment]; exact mentP_of (h3.noment h0) (h4.noment h0)
  | raw o => rfl

/-! ### the run in the text's order -/
structure Fp where
  r : List Nat
  n : List Nat
  deriving Inhabited

def newIds (o : Oper) : List Nat := if newOp o.op then o.dst.toList else []

def qd (P : Program) (o : Oper) (s : AState) (k : AState → Fp → Prop) : Prop :=
  qop P o s.eval s.box (fun x n => k ((s.put o.dst x).addBox o.dst n) ⟨rids o s.eval, newIds o⟩)

def RKQ (P : Program) (ops : Array Oper) : List Oper → AState → List Fp → (AState → List Fp → Prop) → Prop
  | [], s, acc, K => K s acc
  | o :: rest, s, acc, K => match o.guard with
    | none => qd P o s (fun s' f => RKQ P ops rest s' (acc ++ [f]) K)
    | some (j, want) => match (ops[j]?).bind (·.dst) with
      | some t => (match s.slot t with
        | .v (.bool b) => (b = want → qd P o (s.put (some t) (.v (.bool want))) (fun s' f => RKQ P ops rest s' (acc ++ [f]) K)) ∧
            (b = (!want) → RKQ P ops rest ((s.put (some t) (.v (.bool (!want)))).put o.dst (.tup [])) (acc ++ [⟨[], []⟩]) K)
        | .tup [] => RKQ P ops rest (s.put o.dst (.tup [])) (acc ++ [⟨[], []⟩]) K
        | _ => False)
      | none => RKQ P ops rest (s.put o.dst (.tup [])) (acc ++ [⟨[], []⟩]) K

/-- The guard says yes, or no, by the slots. -/
def gOn (ops : Array Oper) (o : Oper) (sf : Nat → AV) : Prop :=
  match o.guard with
  | none => True
  | some (j, want) => ∃ t, (ops[j]?).bind (·.dst) = some t ∧ sf t = .v (.bool want)
def gOff (ops : Array Oper) (o : Oper) (sf : Nat → AV) : Prop :=
  match o.guard with
  | none => False
  | some (j, want) => (ops[j]?).bind (·.dst) = none ∨ ∃ t, (ops[j]?).bind (·.dst) = some t ∧ (sf t = .tup [] ∨ sf t = .v (.bool (!want)))

/-- What one operation came to. -/
structure Ev where
  on : Bool
  x : AV
  n : Option Ct
  f : Fp
  deriving Inhabited

def evOK (P : Program) (ops : Array Oper) (o : Oper) (sf : Nat → AV) (bf : Nat → Option Ct) (e : Ev) : Prop :=
  if e.on then gOn ops o sf ∧ qop P o (evalF sf) bf (fun y m => y = e.x ∧ m = e.n) ∧ (e.n ≠ none → newOp o.op = true) ∧ e.f = ⟨rids o (evalF sf), newIds o⟩
  else gOff ops o sf ∧ e.x = .tup [] ∧ e.n = none ∧ e.f = ⟨[], []⟩

def RunQ (P : Program) (ops : Array Oper) : List Oper → (Nat → AV) → (Nat → Option Ct) → List Ev → (Nat → AV) → (Nat → Option Ct) → Prop
  | [], sf, bf, [], sf', bf' => sf = sf' ∧ bf = bf'
  | o :: l, sf, bf, e :: es, sf', bf' => evOK P ops o sf bf e ∧ RunQ P ops l (putF sf o.dst e.x) (addF bf o.dst e.n) es sf' bf'
  | _, _, _, _, _, _ => False

theorem slot_same {s : AState} {t : Nat} {x : AV} (h : s.slot t = x) : (s.put (some t) x).slot = s.slot := by
  rw [AState.slot_put]
  funext i
  simp only [putF]
  split
  · rename_i e; subst e; exact h.symm
  · rfl

section
variable {P : Program} {E : Env} {ops : Array Oper}

theorem RKQ_run : ∀ (l : List Oper) (s : AState) (acc : List Fp) (K : AState → List Fp → Prop), RKQ P ops l s acc K → ∃ es s', RunQ P ops l s.slot s.box es s'.slot s'.box ∧ K s' (acc ++ es.map (·.f))
  | [], s, acc, K, h => ⟨[], s, ⟨rfl, rfl⟩, by simpa [RKQ] using h⟩
  | o :: rest, s, acc, K, h => by
    simp only [RKQ] at h
    have take : ∀ {s1 : AState}, s1.slot = s.slot → s1.box = s.box → gOn ops o s.slot → qd P o s1 (fun s' f => RKQ P ops rest s' (acc ++ [f]) K) →
        ∃ es s', RunQ P ops (o :: rest) s.slot s.box es s'.slot s'.box ∧ K s' (acc ++ es.map (·.f)) := by
      intro s1 h1 h2 hg hq
      obtain ⟨x, n, hk, hn, hq⟩ := qop_ex hq
      obtain ⟨es, s', hr, hK⟩ := RKQ_run rest _ _ K hk
      refine ⟨⟨true, x, n, ⟨rids o s1.eval, newIds o⟩⟩ :: es, s', ⟨?_, ?_⟩, by simpa using hK⟩
      · have he : s1.eval = evalF s.slot := by unfold AState.eval; rw [h1]
        simp only [evOK, if_true]
        rw [he, h2] at hq
        exact ⟨hg, hq, hn, by rw [he]⟩
      · rw [AState.slot_addBox, AState.box_addBox, AState.slot_put, AState.box_put, h1, h2] at hr
        exact hr
    have skip : ∀ {s1 : AState}, s1.slot = s.slot → s1.box = s.box → gOff ops o s.slot → RKQ P ops rest (s1.put o.dst (.tup [])) (acc ++ [⟨[], []⟩]) K →
        ∃ es s', RunQ P ops (o :: rest) s.slot s.box es s'.slot s'.box ∧ K s' (acc ++ es.map (·.f)) := by
      intro s1 h1 h2 hg hq
      obtain ⟨es, s', hr, hK⟩ := RKQ_run rest _ _ K hq
      refine ⟨⟨false, .tup [], none, ⟨[], []⟩⟩ :: es, s', ⟨?_, ?_⟩, by simpa using hK⟩
      · simp only [evOK, Bool.false_eq_true, if_false]
        exact ⟨hg, by simp⟩
      · have : addF s.box o.dst none = s.box := by cases o.dst <;> rfl
        rw [AState.slot_put, AState.box_put, h1, h2] at hr
        simp only [this]
        exact hr
    split at h
    · rename_i hg
      exact take rfl rfl (by simp [gOn, hg]) h
    · rename_i j want hg
      split at h
      · rename_i t ht
        split at h
        · rename_i b hb
          by_cases hbw : b = want
          · subst hbw
            exact take (slot_same hb) (AState.box_put _ _ _) (by simp only [gOn, hg]; exact ⟨t, ht, hb⟩) (h.1 rfl)
          · have hbn : b = !want := by cases b <;> cases want <;> simp_all
            subst hbn
            exact skip (slot_same hb) (AState.box_put _ _ _) (by simp only [gOff, hg]; exact .inr ⟨t, ht, .inr hb⟩) (h.2 rfl)
        · rename_i hb
          exact skip rfl rfl (by simp only [gOff, hg]; exact .inr ⟨t, ht, .inl hb⟩) h
        · exact h.elim
      · rename_i ht
        exact skip rfl rfl (by simp only [gOff, hg]; exact .inl ht) h

/-! ### masks: who must come before -/
def edgeMask (m : List Nat) (j : Nat) (es : List Edge) (s : Nat) : Nat :=
  match es with
  | [] => s
  | e :: es => edgeMask m j es (if Region.binds .any e && decide (e.on < j) then s ||| (2 ^ e.on) ||| m.getD e.on 0 else s)
def masksOK (ops : List Oper) (m : List Nat) : Bool :=
  ops.zipIdx.all fun (o, j) => m.getD j 0 == edgeMask m j o.after.toList 0
def mkMasks : List Oper → Nat → List Nat → List Nat
  | [], _, acc => acc
  | o :: l, j, acc => mkMasks l (j + 1) (acc ++ [edgeMask acc j o.after.toList 0])

theorem edgeMask_spec {m : List Nat} {j i : Nat} : ∀ {es : List Edge} {s : Nat}, (edgeMask m j es s).testBit i = true → s.testBit i = true ∨ ∃ e ∈ es, Region.binds .any e = true ∧ e.on < j ∧ (i = e.on ∨ (m.getD e.on 0).testBit i = true)
  | [], s, h => .inl h
  | e :: es, s, h => by
    simp only [edgeMask] at h
    rcases edgeMask_spec h with h | ⟨e', he', h⟩
    · split at h
      · rename_i hb
        simp only [Bool.and_eq_true, decide_eq_true_eq] at hb
        simp only [Nat.testBit_or, Bool.or_eq_true] at h
        rcases h with (h | h) | h
        · exact .inl h
        · refine .inr ⟨e, by simp, hb.1, hb.2, .inl ?_⟩
          rw [Nat.testBit_two_pow] at h
          exact (of_decide_eq_true h).symm
        · exact .inr ⟨e, by simp, hb.1, hb.2, .inr h⟩
      · exact .inl h
    · exact .inr ⟨e', List.mem_cons_of_mem _ he', h⟩

theorem masksOK_spec {l : List Oper} {m : List Nat} (h : masksOK l m = true) {j : Nat} {o : Oper} (ho : l[j]? = some o) {i : Nat} (hi : (m.getD j 0).testBit i = true) :
    ∃ e ∈ o.after, Region.binds .any e = true ∧ e.on < j ∧ (i = e.on ∨ (m.getD e.on 0).testBit i = true) := by
  have h1 := List.all_eq_true.1 h (o, j) (by
    rw [List.mem_iff_getElem?]
    exact ⟨j, by simp [List.getElem?_zipIdx, ho]⟩)
  simp only [beq_iff_eq] at h1
  rw [h1] at hi
  rcases edgeMask_spec hi with h | ⟨e, he, h⟩
  · simp at h
  · exact ⟨e, by simpa using he, h⟩

/-- What must have come before has come. -/
theorem mask_listed {l : List Oper} {m : List Nat} (hm : masksOK l m = true) {listed : Nat → Bool} (hcl : ∀ j o, l[j]? = some o → listed j = true → ∀ e ∈ o.after, Region.binds .any e = true → listed e.on = true) (hlt : ∀ j, listed j = true → j < l.length) :
    ∀ (j : Nat) (o : Oper), l[j]? = some o → (∀ e ∈ o.after, Region.binds .any e = true → listed e.on = true) → ∀ i, (m.getD j 0).testBit i = true → listed i = true := by
  intro j
  induction j using Nat.strongRecOn with
  | _ j ih =>
    intro o ho hall i hi
    obtain ⟨e, he, hb, hlt', h | h⟩ := masksOK_spec hm ho hi
    · rw [h]; exact hall e he hb
    · have hon := hall e he hb
      have hlen := hlt _ hon
      have hoe : l[e.on]? = some l[e.on] := List.getElem?_eq_getElem hlen
      exact ih e.on hlt' _ hoe (hcl e.on _ hoe hon) i h

/-! ### the check -/
def headOK (ops : Array Oper) (m : List Nat) (l : List Oper) (fps : List Fp) : Bool :=
  l.zipIdx.all fun (o, j) => l.zipIdx.all fun (o', i) =>
    (match o'.dst with
     | some d => (!(o.looksAt ops).contains d || (m.getD j 0).testBit i) && (i == j || o.dst != some d) &&
        (!newOp o'.op || !((fps.getD j ⟨[], []⟩).r).contains d || (m.getD j 0).testBit i)
     | none => true)
def tailOK (m : List Nat) (n N : Nat) : Bool :=
  (List.range N).all fun t => decide (t < n) || (List.range t).all fun i => (m.getD t 0).testBit i
def newOK (l : List Oper) (s : AState) : Bool := l.all fun o => (newIds o).all fun d => !s.ment d && (s.box d).isNone
def backOK (ops : List Oper) : Bool := ops.zipIdx.all fun (o, j) => o.after.toList.all fun e => !Region.binds .any e || decide (e.on < j)
def drawOK (ops : List Oper) (n : Nat) (fps : List Fp) : Bool :=
  masksOK ops (mkMasks ops 0 []) && headOK ops.toArray (mkMasks ops 0 []) (ops.take n) fps && tailOK (mkMasks ops 0 []) n ops.length && backOK ops

theorem RunQ_len : ∀ {l : List Oper} {sf sf' : Nat → AV} {bf bf' : Nat → Option Ct} {es : List Ev}, RunQ P ops l sf bf es sf' bf' → es.length = l.length
  | [], _, _, _, _, [], _ => rfl
  | [], _, _, _, _, _ :: _, h => h.elim
  | _ :: _, _, _, _, _, [], h => h.elim
  | _ :: l, _, _, _, _, _ :: es, h => by simp [RunQ_len h.2]

/-- The state as it stands when the operations that S names have been carried out, whatever their order. -/
structure Cur (l : List Oper) (es : List Ev) (sf0 : Nat → AV) (bf0 : Nat → Option Ct) (S : Nat → Prop) (sf : Nat → AV) (bf : Nat → Option Ct) : Prop where
  s1 : ∀ i o e d, l[i]? = some o → es[i]? = some e → S i → o.dst = some d → sf d = e.x
  s0 : ∀ x, (∀ i o, l[i]? = some o → S i → o.dst ≠ some x) → sf x = sf0 x
  b1 : ∀ i o e d c, l[i]? = some o → es[i]? = some e → S i → o.dst = some d → e.n = some c → bf d = some c
  b0 : ∀ x, (∀ i o e, l[i]? = some o → es[i]? = some e → S i → e.n ≠ none → o.dst ≠ some x) → bf x = bf0 x

def dstApart (l : List Oper) : Prop := ∀ (i j : Nat) (o o' : Oper) (d : Nat), l[i]? = some o → l[j]? = some o' → o.dst = some d → o'.dst = some d → i = j

theorem Cur.step {l : List Oper} {es : List Ev} {sf0 sf : Nat → AV} {bf0 bf : Nat → Option Ct} {S : Nat → Prop} (h : Cur l es sf0 bf0 S sf bf) (hap : dstApart l) {j : Nat} {o : Oper} {e : Ev} (ho : l[j]? = some o) (he : es[j]? = some e) (hj : ¬ S j) :
    Cur l es sf0 bf0 (fun i => S i ∨ i = j) (putF sf o.dst e.x) (addF bf o.dst e.n) := by
  refine ⟨fun i o' e' d ho' he' hs hd => ?_, fun x hx => ?_, fun i o' e' d c ho' he' hs hd hn => ?_, fun x hx => ?_⟩
  · rcases hs with hs | rfl
    · cases hod : o.dst with
      | none => exact h.s1 i o' e' d ho' he' hs hd
      | some d' =>
        simp only [putF]
        split
        · rename_i e2; subst e2
          have := hap i j o' o _ ho' ho hd hod
          subst this
          exact absurd hs hj
        · exact h.s1 i o' e' d ho' he' hs hd
    · rw [ho] at ho'; cases ho'
      rw [he] at he'; cases he'
      rw [hd]; simp [putF]
  · cases hod : o.dst with
    | none => exact h.s0 x (fun i o' ho' hs => hx i o' ho' (.inl hs))
    | some d' =>
      simp only [putF]
      split
      · rename_i e2; subst e2
        exact absurd hod (hx j o ho (.inr rfl))
      · exact h.s0 x (fun i o' ho' hs => hx i o' ho' (.inl hs))
  · rcases hs with hs | rfl
    · cases hod : o.dst with
      | none => exact h.b1 i o' e' d c ho' he' hs hd hn
      | some d' =>
        cases hen : e.n with
        | none => exact h.b1 i o' e' d c ho' he' hs hd hn
        | some c' =>
          simp only [addF]
          split
          · rename_i e2; subst e2
            have := hap i j o' o _ ho' ho hd hod
            subst this
            exact absurd hs hj
          · exact h.b1 i o' e' d c ho' he' hs hd hn
    · rw [ho] at ho'; cases ho'
      rw [he] at he'; cases he'
      rw [hd, hn]; simp [addF]
  · cases hod : o.dst with
    | none => exact h.b0 x (fun i o' e' ho' he' hs => hx i o' e' ho' he' (.inl hs))
    | some d' =>
      cases hen : e.n with
      | none => exact h.b0 x (fun i o' e' ho' he' hs => hx i o' e' ho' he' (.inl hs))
      | some c' =>
        simp only [addF]
        split
        · rename_i e2; subst e2
          exact absurd hod (hx j o e ho he (.inr rfl) (by rw [hen]; simp))
        · exact h.b0 x (fun i o' e' ho' he' hs => hx i o' e' ho' he' (.inl hs))

/-- The run, seen at each of its operations. -/
theorem RunQ_at {l : List Oper} {es : List Ev} {sf0 sf' : Nat → AV} {bf0 bf' : Nat → Option Ct} (hap : dstApart l) : ∀ (k : Nat) (sf : Nat → AV) (bf : Nat → Option Ct), RunQ P ops (l.drop k) sf bf (es.drop k) sf' bf' → Cur l es sf0 bf0 (fun i => i < k) sf bf → es.length = l.length → k ≤ l.length →
    (∀ j o e, k ≤ j → l[j]? = some o → es[j]? = some e → ∃ sj bj, Cur l es sf0 bf0 (fun i => i < j) sj bj ∧ evOK P ops o sj bj e) ∧ Cur l es sf0 bf0 (fun i => i < l.length) sf' bf' := by
  intro k
  generalize hn : l.length - k = n
  induction n generalizing k with
  | zero =>
    intro sf bf hr hc hlen hk
    have hkl : k = l.length := by omega
    subst hkl
    have e1 : l.drop l.length = [] := by simp
    have e2 : es.drop l.length = [] := by rw [← hlen]; simp
    rw [e1, e2] at hr
    obtain ⟨rfl, rfl⟩ := hr
    refine ⟨fun j o e hj ho => ?_, hc⟩
    have := (List.getElem?_eq_some_iff.1 ho).1
    omega
  | succ n ih =>
    intro sf bf hr hc hlen hk
    have hkl : k < l.length := by omega
    have hke : k < es.length := by omega
    rw [List.drop_eq_getElem_cons hkl, List.drop_eq_getElem_cons hke] at hr
    obtain ⟨hev, hr⟩ := hr
    have ho : l[k]? = some l[k] := List.getElem?_eq_getElem hkl
    have he : es[k]? = some es[k] := List.getElem?_eq_getElem hke
    have hc2 := hc.step hap ho he (by omega)
    have hc3 : Cur l es sf0 bf0 (fun i => i < k + 1) (putF sf l[k].dst es[k].x) (addF bf l[k].dst es[k].n) := by
      have : (fun i => i < k ∨ i = k) = (fun i => i < k + 1) := by funext i; apply propext; omega
      rw [this] at hc2
      exact hc2
    obtain ⟨h1, h2⟩ := ih (k + 1) (by omega) _ _ hr hc3 hlen (by omega)
    refine ⟨fun j o e hj ho' he' => ?_, h2⟩
    by_cases hjk : j = k
    · subst hjk
      rw [ho] at ho'; cases ho'
      rw [he] at he'; cases he'
      exact ⟨sf, bf, hc, hev⟩
    · exact h1 j o e (by omega) ho' he'

theorem headOK_spec {m : List Nat} {l : List Oper} {fps : List Fp} (h : headOK ops m l fps = true) {i j : Nat} {o o' : Oper} {d : Nat} (ho : l[j]? = some o) (ho' : l[i]? = some o') (hd : o'.dst = some d) :
    (d ∈ o.looksAt ops → (m.getD j 0).testBit i = true) ∧ (i = j ∨ o.dst ≠ some d) ∧ (newOp o'.op = true → d ∈ (fps.getD j ⟨[], []⟩).r → (m.getD j 0).testBit i = true) := by
  have h1 := List.all_eq_true.1 h (o, j) (by rw [List.mem_iff_getElem?]; exact ⟨j, by simp [List.getElem?_zipIdx, ho]⟩)
  have h2 := List.all_eq_true.1 h1 (o', i) (by rw [List.mem_iff_getElem?]; exact ⟨i, by simp [List.getElem?_zipIdx, ho']⟩)
  simp only [hd, Bool.and_eq_true, Bool.or_eq_true, Bool.not_eq_true', beq_iff_eq, bne_iff_ne, ne_eq] at h2
  obtain ⟨⟨h3, h4⟩, h5⟩ := h2
  refine ⟨fun hm => ?_, h4, fun hn hm => ?_⟩
  · rcases h3 with h3 | h3
    · rw [List.contains_iff_mem.2 hm] at h3; cases h3
    · exact h3
  · rcases h5 with (h5 | h5) | h5
    · rw [hn] at h5; cases h5
    · rw [List.contains_iff_mem.2 hm] at h5; cases h5
    · exact h5

theorem headOK_apart {m : List Nat} {l : List Oper} {fps : List Fp} (h : headOK ops m l fps = true) : dstApart l := by
  intro i j o o' d ho ho' hd hd'
  rcases (headOK_spec h ho' ho hd).2.1 with e | e
  · exact e
  · exact absurd hd' e

theorem tailOK_spec {m : List Nat} {n N t : Nat} (h : tailOK m n N = true) (ht : t < N) (hn : n ≤ t) : ∀ i, i < t → (m.getD t 0).testBit i = true := by
  have h1 := List.all_eq_true.1 h t (List.mem_range.2 ht)
  simp only [Bool.or_eq_true, decide_eq_true_eq] at h1
  rcases h1 with h1 | h1
  · omega
  · intro i hi
    exact List.all_eq_true.1 h1 i (List.mem_range.2 hi)

theorem looksAt_operand {o : Oper} {t : Tmp} (h : .tmp t ∈ o.op.operands.toList) : t ∈ o.looksAt ops := by
  unfold Oper.looksAt
  refine List.mem_append_left _ (List.mem_filterMap.2 ⟨.tmp t, h, rfl⟩)
theorem looksAt_guard {o : Oper} {j t : Nat} {want : Bool} (hg : o.guard = some (j, want)) (ht : (ops[j]?).bind (·.dst) = some t) : t ∈ o.looksAt ops := by
  unfold Oper.looksAt
  refine List.mem_append_right _ ?_
  simp [hg, ht]

theorem rids_congr {o : Oper} {av av' : Operand → AV} (hav : ∀ x ∈ o.op.operands.toList, av' x = av x) : rids o av' = rids o av := by
  unfold rids
  cases hop : o.op <;> rw [hop] at hav <;> simp only
  case load T p => rw [hav p (by simp [Op.operands])]
  case slice T x lo hi mx => rw [hav x (by simp [Op.operands])]
  case lookup T x i ok => rw [hav x (by simp [Op.operands])]
  case call c =>
    have h1 : c.args.toList.map av' = c.args.toList.map av := List.map_congr_left fun x hx => hav x (by simp only [Op.operands, Call.operands, Array.toList_append]; exact List.mem_append_right _ hx)
    rw [h1]
    cases hc : c.callee with
    | value f => simp only; rw [hav f (by simp only [Op.operands, Call.operands, hc, Array.toList_append]; exact List.mem_append_left _ (by simp))]
    | _ => rfl

/-- One operation of the head, at whatever time it comes. -/
theorem head_op {l : List Oper} {es : List Ev} {sf0 : Nat → AV} {bf0 : Nat → Option Ct} {m : List Nat} (hok : headOK ops m l (es.map (·.f)) = true) {S : Nat → Prop} {sf sj : Nat → AV} {bf bj : Nat → Option Ct} {j : Nat} {o : Oper} {e : Ev}
    (ho : l[j]? = some o) (he : es[j]? = some e) (hcur : Cur l es sf0 bf0 S sf bf) (hcj : Cur l es sf0 bf0 (fun i => i < j) sj bj) (hev : evOK P ops o sj bj e)
    (hS : ∀ i, (m.getD j 0).testBit i = true → S i) (hlow : ∀ i, (m.getD j 0).testBit i = true → i < j) (hlen : es.length = l.length)
    (hnews : ∀ (i : Nat) (o : Oper) (e : Ev), l[i]? = some o → es[i]? = some e → e.n ≠ none → newOp o.op = true) : evOK P ops o sf bf e := by
  have slotEq : ∀ t, t ∈ o.looksAt ops → sf t = sj t := by
    intro t ht
    by_cases hex : ∃ (i : Nat) (o' : Oper), l[i]? = some o' ∧ o'.dst = some t
    · obtain ⟨i, o', ho', hd⟩ := hex
      have hb := (headOK_spec hok ho ho' hd).1 ht
      have hie : i < es.length := by rw [hlen]; exact (List.getElem?_eq_some_iff.1 ho').1
      have he' : es[i]? = some es[i] := List.getElem?_eq_getElem hie
      rw [hcur.s1 i o' _ t ho' he' (hS i hb) hd, hcj.s1 i o' _ t ho' he' (hlow i hb) hd]
    · have hno : ∀ (i : Nat) (o' : Oper), l[i]? = some o' → o'.dst ≠ some t := fun i o' ho' hd => hex ⟨i, o', ho', hd⟩
      rw [hcur.s0 t (fun i o' ho' _ => hno i o' ho'), hcj.s0 t (fun i o' ho' _ => hno i o' ho')]
  have evalEq : ∀ x ∈ o.op.operands.toList, evalF sf x = evalF sj x := by
    intro x hx
    cases x with
    | tmp t => exact slotEq t (looksAt_operand hx)
    | _ => rfl
  have gOnEq : gOn ops o sj → gOn ops o sf := by
    intro h
    unfold gOn at h ⊢
    split at h
    · trivial
    · rename_i j' want hg
      obtain ⟨t, ht, hb⟩ := h
      exact ⟨t, ht, by rw [slotEq t (looksAt_guard hg ht)]; exact hb⟩
  have gOffEq : gOff ops o sj → gOff ops o sf := by
    intro h
    unfold gOff at h ⊢
    split at h
    · exact h
    · rename_i j' want hg
      rcases h with h | ⟨t, ht, hb⟩
      · exact .inl h
      · exact .inr ⟨t, ht, by rw [slotEq t (looksAt_guard hg ht)]; exact hb⟩
  unfold evOK at hev ⊢
  by_cases hon : e.on = true
  · rw [if_pos hon] at hev ⊢
    obtain ⟨hg, hq, hn, hf⟩ := hev
    have hrids : rids o (evalF sf) = rids o (evalF sj) := rids_congr evalEq
    refine ⟨gOnEq hg, qop_congr evalEq (fun id hid => ?_) hq, hn, by rw [hrids]; exact hf⟩
    by_cases hex : ∃ (i : Nat) (o' : Oper) (e' : Ev), l[i]? = some o' ∧ es[i]? = some e' ∧ e'.n ≠ none ∧ o'.dst = some id
    · obtain ⟨i, o', e', ho', he', hn', hd⟩ := hex
      cases hen : e'.n with
      | none => exact absurd hen hn'
      | some c =>
        have hnew : newOp o'.op = true := hnews i o' e' ho' he' hn'
        have hb := (headOK_spec hok ho ho' hd).2.2 hnew (by
          rw [List.getD_eq_getElem?_getD, List.getElem?_map, he, Option.map_some, Option.getD_some, hf]
          exact hid)
        rw [hcur.b1 i o' e' id c ho' he' (hS i hb) hd hen, hcj.b1 i o' e' id c ho' he' (hlow i hb) hd hen]
    · have hno : ∀ (i : Nat) (o' : Oper) (e' : Ev), l[i]? = some o' → es[i]? = some e' → e'.n ≠ none → o'.dst ≠ some id := fun i o' e' ho' he' hn' hd => hex ⟨i, o', e', ho', he', hn', hd⟩
      rw [hcur.b0 id (fun i o' e' ho' he' _ => hno i o' e' ho' he'), hcj.b0 id (fun i o' e' ho' he' _ => hno i o' e' ho' he')]
  · rw [if_neg hon] at hev ⊢
    exact ⟨gOffEq hev.1, hev.2⟩

end
end Go.Am
