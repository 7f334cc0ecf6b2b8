/- The abstract machine: == on structs of bools, integers and strings goes cell by cell. -/
import Derived.Test.YtmjckbokjjnmeaaAmQ
namespace Go.Am
open Go.RowKit

/-- The kinds of cells that == compares one by one. -/
inductive SK where
  | b | i | s
  deriving DecidableEq

def kindsF (g : TypeId → Option (List SK)) (sz : TypeId → Nat) : List Field → Nat → Option (List SK)
  | [], _ => some []
  | f :: fs, off =>
    if f.name == "_" || f.offset != off then none
    else match g f.type with
      | some a => if a.length = sz f.type then (kindsF g sz fs (off + sz f.type)).map (a ++ ·) else none
      | none => none

def kinds (P : Program) : Nat → TypeId → Option (List SK)
  | 0, _ => none
  | d + 1, T =>
    match P.underlying T with
    | some .bool => some [.b]
    | some (.int _) => some [.i]
    | some .string => some [.s]
    | some (.struct fs) => if P.stoodInHeld T then none else kindsF (kinds P d) P.cellsOf fs.toList 0
    | _ => none

def eq1 : SK → Value → Value → Option Bool
  | .b, .bool a, .bool b => some (a == b)
  | .i, .int k a, .int k' b => if k = k' then some (decide (a = b)) else none
  | .s, .string a, .string b => some (decide (a = b))
  | _, _, _ => none

def eqCells : List SK → List Value → List Value → Option Bool
  | [], [], [] => some true
  | k :: ks, x :: xs, y :: ys => match eq1 k x y with
    | some a => (eqCells ks xs ys).map (a && ·)
    | none => none
  | _, _, _ => none

theorem eqCells_len : ∀ {ks : List SK} {xs ys : List Value} {r : Bool}, eqCells ks xs ys = some r → xs.length = ks.length ∧ ys.length = ks.length
  | [], [], [], _, _ => ⟨rfl, rfl⟩
  | [], [], _ :: _, _, h => by simp [eqCells] at h
  | [], _ :: _, _, _, h => by simp [eqCells] at h
  | _ :: _, [], _, _, h => by simp [eqCells] at h
  | _ :: _, _ :: _, [], _, h => by simp [eqCells] at h
  | k :: ks, x :: xs, y :: ys, r, h => by
    simp only [eqCells] at h
    split at h
    · cases hr : eqCells ks xs ys with
      | none => rw [hr] at h; simp at h
      | some r' => have := eqCells_len hr; simp [this.1, this.2]
    · cases h

theorem eqCells_append : ∀ {a b : List SK} {xs ys : List Value} {r : Bool}, eqCells (a ++ b) xs ys = some r →
    ∃ r1 r2, eqCells a (xs.take a.length) (ys.take a.length) = some r1 ∧ eqCells b (xs.drop a.length) (ys.drop a.length) = some r2 ∧ r = (r1 && r2)
  | [], b, xs, ys, r, h => ⟨true, r, by simp [eqCells], by simpa using h, by simp⟩
  | k :: a, b, [], ys, r, h => by simp [eqCells] at h
  | k :: a, b, x :: xs, [], r, h => by simp [eqCells] at h
  | k :: a, b, x :: xs, y :: ys, r, h => by
    simp only [List.cons_append, eqCells] at h
    split at h
    · rename_i a1 he
      cases hr : eqCells (a ++ b) xs ys with
      | none => rw [hr] at h; simp at h
      | some r' =>
        rw [hr] at h
        obtain ⟨r1, r2, h1, h2, h3⟩ := eqCells_append hr
        refine ⟨a1 && r1, r2, by simp [eqCells, he, h1], by simpa using h2, ?_⟩
        simp at h
        rw [← h, h3, Bool.and_assoc]
    · cases h

theorem ba_beq (a b : ByteArray) : (a == b) = decide (a = b) := by
  obtain ⟨⟨x⟩⟩ := a
  obtain ⟨⟨y⟩⟩ := b
  show ((⟨x⟩ : Array UInt8) == ⟨y⟩) = _
  rw [Bool.eq_iff_iff]
  simp

/-- A value of the type out of its cells. -/
def valOf (P : Program) (T : TypeId) (xs : List Value) : Value := if aggB P T then .agg xs.toArray else xs.headD undef

theorem run_part {P : Program} {w : World} {T : TypeId} {xs : List Value} {off : Nat} (hT : okT P T = true) (h1 : aggB P T = true ∨ P.cellsOf T = 1) (hl : off + P.cellsOf T ≤ xs.length) :
    (part T xs.toArray off).run P w = .ok (valOf P T ((xs.drop off).take (P.cellsOf T))) w := by
  unfold part valOf
  simp only [Sem.run_bind, run_isAgg' hT, Result.andThen_ok]
  cases ha : aggB P T with
  | true =>
    simp only [if_true, Sem.run_bind, run_sizeOf' hT, Result.andThen_ok, Sem.run_pure]
    congr 2
    simp [List.extract_eq_take_drop]
  | false =>
    have hn1 : P.cellsOf T = 1 := by simpa [ha] using h1
    rw [hn1] at hl ⊢
    have hlt : off < xs.length := by omega
    simp only [Bool.false_eq_true, if_false, List.getElem?_toArray, List.getElem?_eq_getElem hlt, Sem.run_pure]
    rw [List.drop_eq_getElem_cons hlt]
    rfl

theorem kinds_ok {P : Program} : ∀ {n : Nat} {T : TypeId} {ks : List SK}, kinds P n T = some ks → okT P T = true
  | 0, _, _, h => by simp [kinds] at h
  | n + 1, T, ks, h => by
    unfold okT
    simp only [kinds] at h
    cases hu : P.underlying T with
    | none => rw [hu] at h; simp at h
    | some d => rfl

theorem kinds_one {P : Program} {n : Nat} {T : TypeId} {ks : List SK} (h : kinds P n T = some ks) (hl : ks.length = P.cellsOf T) : aggB P T = true ∨ P.cellsOf T = 1 := by
  cases n with
  | zero => simp [kinds] at h
  | succ n =>
    simp only [kinds] at h
    unfold aggB
    cases hu : P.underlying T with
    | none => rw [hu] at h; simp at h
    | some d =>
      rw [hu] at h
      cases d <;> simp at h ⊢ <;> (subst h; simpa using hl.symm)

theorem run_equalIn_kinds {P : Program} : ∀ (n : Nat) (T : TypeId) (ks : List SK), kinds P n T = some ks → ∀ (d : Nat), n ≤ d → ∀ (xs ys : List Value) (r : Bool) (w : World),
    eqCells ks xs ys = some r → (Op.equalIn d T (valOf P T xs) (valOf P T ys)).run P w = .ok r w := by
  intro n
  induction n with
  | zero => intro T ks h; simp [kinds] at h
  | succ n ih =>
    intro T ks h d hd xs ys r w he
    obtain ⟨d, rfl⟩ : ∃ d', d = d' + 1 := ⟨d - 1, by omega⟩
    simp only [kinds] at h
    cases hu : P.underlying T with
    | none => rw [hu] at h; simp at h
    | some de =>
      rw [hu] at h
      have single : ∀ k : SK, ks = [k] → aggB P T = false → ∃ x y, xs = [x] ∧ ys = [y] ∧ eq1 k x y = some r ∧ valOf P T xs = x ∧ valOf P T ys = y := by
        intro k hk ha
        subst hk
        obtain ⟨hx, hy⟩ := eqCells_len he
        match xs, ys, hx, hy with
        | [x], [y], _, _ =>
          refine ⟨x, y, rfl, rfl, ?_, by simp [valOf, ha], by simp [valOf, ha]⟩
          simp only [eqCells] at he
          split at he
          · rename_i a h1; simp at he; rw [h1, he]
          · cases he
      cases de <;> simp only at h <;> try (cases h; done)
      case bool =>
        obtain ⟨x, y, _, _, h1, hx, hy⟩ := single .b (by simpa using h.symm) (by simp [aggB, hu])
        rw [hx, hy]
        cases x <;> cases y <;> simp [eq1] at h1
        subst h1
        exact run_equalIn_bool w d T _ _ hu
      case int k =>
        obtain ⟨x, y, _, _, h1, hx, hy⟩ := single .i (by simpa using h.symm) (by simp [aggB, hu])
        rw [hx, hy]
        cases x <;> cases y <;> simp only [eq1, reduceCtorEq] at h1
        split at h1
        · rename_i e; subst e
          rw [run_equalIn_int w d T _ _ _ _ hu]
          simp at h1; rw [← h1]
          congr 1
        · cases h1
      case string =>
        obtain ⟨x, y, _, _, h1, hx, hy⟩ := single .s (by simpa using h.symm) (by simp [aggB, hu])
        rw [hx, hy]
        cases x <;> cases y <;> simp only [eq1, reduceCtorEq] at h1
        rw [run_equalIn_string w d T _ _ hu, ← beq_toListBytes]
        simp at h1; rw [← h1]
        rw [ba_beq]
      case struct fs =>
        split at h
        · cases h
        · rename_i hs
          have ha : aggB P T = true := by simp [aggB, hu]
          have hf : P.fieldsOf T = fs := by simp [Program.fieldsOf, hu]
          simp only [valOf, ha, if_true]
          rw [run_equalIn_struct w d T _ _ (by rw [hf]; exact hu) (by simpa using hs), hf]
          have key : ∀ (l : List Field) (off : Nat) (ks : List SK) (r : Bool), kindsF (kinds P n) P.cellsOf l off = some ks → off + ks.length = xs.length → off + ks.length = ys.length →
              eqCells ks (xs.drop off) (ys.drop off) = some r → (Op.eqFields d xs.toArray ys.toArray l).run P w = .ok r w := by
            intro l
            induction l with
            | nil =>
              intro off ks r hk hx hy he
              simp only [kindsF, Option.some.injEq] at hk
              subst hk
              have h1 : xs.drop off = [] := by simp at hx; simp [hx]
              have h2 : ys.drop off = [] := by simp at hy; simp [hy]
              rw [h1, h2] at he
              simp [eqCells] at he
              subst he
              simp [Op.eqFields]
            | cons f l ihl =>
              intro off ks r hk hx hy he
              simp only [kindsF] at hk
              split at hk
              · cases hk
              · rename_i hno
                simp only [Bool.or_eq_true, beq_iff_eq, bne_iff_ne, ne_eq, not_or, Decidable.not_not] at hno
                obtain ⟨hname, hoff⟩ := hno
                split at hk
                · rename_i a hka
                  split at hk
                  · rename_i hal
                    cases hr : kindsF (kinds P n) P.cellsOf l (off + P.cellsOf f.type) with
                    | none => rw [hr] at hk; simp at hk
                    | some b =>
                      rw [hr] at hk
                      simp at hk
                      subst hk
                      obtain ⟨r1, r2, h1, h2, h3⟩ := eqCells_append he
                      have hok := kinds_ok hka
                      have hone := kinds_one hka hal
                      simp only [List.length_append] at hx hy
                      have p1 := run_part (P := P) (w := w) (xs := xs) (off := off) hok hone (by omega)
                      have p2 := run_part (P := P) (w := w) (xs := ys) (off := off) hok hone (by omega)
                      have e1 := ih f.type a hka d (by omega) _ _ r1 w h1
                      rw [hal] at e1 h2
                      simp only [Op.eqFields, hname, ne_eq, not_false_eq_true, if_true, Sem.run_bind, hoff, p1, p2, e1, Result.andThen_ok]
                      have e2 := ihl (off + P.cellsOf f.type) b r2 hr (by omega) (by omega) (by simpa [List.drop_drop] using h2)
                      subst h3
                      cases r1 <;> simp [e2]
                  · cases hk
                · cases hk
          have hl := eqCells_len he
          exact key fs.toList 0 ks r h (by omega) (by omega) (by simpa using he)

end Go.Am
