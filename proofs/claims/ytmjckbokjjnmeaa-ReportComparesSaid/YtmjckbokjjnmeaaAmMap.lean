/- The abstract machine: keys of maps that are bools, integers, strings or structs of these. -/
import Derived.Test.YtmjckbokjjnmeaaAmQS2
namespace Go.Am
open Go.RowKit

section
variable {P : Program} {H : Heap} {ρ : Rho}

theorem run_checkKey : ∀ (n : Nat) (T : TypeId) (ks : List SK), kinds P n T = some ks → ∀ (d : Nat), n ≤ d → ∀ (e : Bool) (xs ys : List Value) (r : Bool) (w : World),
    eqCells ks xs ys = some r → (Instr.checkKey e d T (valOf P T xs)).run P w = .ok () w := by
  intro n
  induction n with
  | zero => intro T ks h; simp [kinds] at h
  | succ n ih =>
    intro T ks h d hd e xs ys r w he
    obtain ⟨d, rfl⟩ : ∃ d', d = d' + 1 := ⟨d - 1, by omega⟩
    simp only [kinds] at h
    cases hu : P.underlying T with
    | none => rw [hu] at h; simp at h
    | some de =>
      rw [hu] at h
      cases de <;> simp only at h <;> try (cases h; done)
      case bool => simp only [Instr.checkKey, Sem.run_bind, run_underlying hu, Result.andThen_ok]; rfl
      case int k => simp only [Instr.checkKey, Sem.run_bind, run_underlying hu, Result.andThen_ok]; rfl
      case string => simp only [Instr.checkKey, Sem.run_bind, run_underlying hu, Result.andThen_ok]; rfl
      case struct fs =>
        split at h
        · cases h
        · have ha : aggB P T = true := by simp [aggB, hu]
          simp only [valOf, ha, if_true]
          simp only [Instr.checkKey, Sem.run_bind, run_underlying hu, Result.andThen_ok]
          rw [← Array.forIn_toList]
          have key : ∀ (l : List Field) (off : Nat) (ks : List SK) (r : Bool), kindsF (kinds P n) P.cellsOf l off = some ks → off + ks.length = xs.length → off + ks.length = ys.length →
              eqCells ks (xs.drop off) (ys.drop off) = some r →
              Sem.run P (forIn l PUnit.unit fun f _ => if f.name ≠ "_" then do
                let __do_lift ← part f.type xs.toArray f.offset
                Instr.checkKey e d f.type __do_lift
                pure (ForInStep.yield PUnit.unit) else pure (ForInStep.yield PUnit.unit)) w = .ok PUnit.unit w := by
            intro l
            induction l with
            | nil => intro off ks r hk hx hy he; simp
            | cons f l ihl =>
              intro off ks r hk hx hy he
              simp only [kindsF] at hk
              split at hk
              · cases hk
              · rename_i hno
                simp only [Bool.or_eq_true, beq_iff_eq, bne_iff_ne, ne_eq, not_or, Decidable.not_not] at hno
                obtain ⟨hname, hoff⟩ := hno
                split at hk
                · rename_i a hka
                  split at hk
                  · rename_i hal
                    cases hr : kindsF (kinds P n) P.cellsOf l (off + P.cellsOf f.type) with
                    | none => rw [hr] at hk; simp at hk
                    | some b =>
                      rw [hr] at hk
                      simp at hk
                      subst hk
                      obtain ⟨r1, r2, h1, h2, h3⟩ := eqCells_append he
                      have hok := kinds_ok hka
                      have hone := kinds_one hka hal
                      simp only [List.length_append] at hx hy
                      have p1 := run_part (P := P) (w := w) (xs := xs) (off := off) hok hone (by omega)
                      have e1 := ih f.type a hka d (by omega) e _ _ r1 w h1
                      rw [hal] at e1 h2
                      have e2 := ihl (off + P.cellsOf f.type) b r2 hr (by omega) (by omega) (by simpa [List.drop_drop] using h2)
                      simp only [List.forIn_cons, hname, ne_eq, not_false_eq_true, if_true, Sem.run_bind, hoff, p1, e1, Result.andThen_ok, Sem.run_pure]
                      exact e2
                  · cases hk
                · cases hk
          have hl := eqCells_len he
          have := key fs.toList 0 ks r h (by omega) (by omega) (by simpa using he)
          rw [this]
          rfl

/-- Which entry has the key: over values. -/
def findV (ks : List SK) (xs : List Value) (P : Program) (T : TypeId) : List MapEntry → Nat → Option (Nat × Value)
  | [], _ => none
  | e :: es, i => if eqCells ks xs e.key.cells.toList = some true then some (i, e.val) else findV ks xs P T es (i + 1)

/-- The entry's key is a value of the type that can be compared. -/
def keyFit (P : Program) (T : TypeId) (ks : List SK) (xs : List Value) (e : MapEntry) : Prop :=
  e.key = valOf P T e.key.cells.toList ∧ (eqCells ks xs e.key.cells.toList).isSome = true

theorem run_findAsking {T : TypeId} {ks : List SK} (hk : kinds P 12 T = some ks) {xs : List Value} (w : World) : ∀ (es : List MapEntry) (i : Nat), (∀ e ∈ es, keyFit P T ks xs e) →
    (Instr.findAsking T (valOf P T xs) es i).run P w = .ok (findV ks xs P T es i) w
  | [], i, _ => rfl
  | e :: es, i, h => by
    obtain ⟨h1, h2⟩ := h e (by simp)
    obtain ⟨r, hr⟩ := Option.isSome_iff_exists.1 h2
    have he : (Op.equal T (valOf P T xs) e.key).run P w = .ok r w := by
      rw [h1]
      exact run_equalIn_kinds 12 T ks hk 10000 (by omega) xs _ r w hr
    have ih := run_findAsking hk w es (i + 1) (fun e' he' => h e' (List.mem_cons_of_mem _ he'))
    simp only [Instr.findAsking, Sem.run_bind, he, Result.andThen_ok, findV, hr]
    cases r
    · simpa using ih
    · simp

theorem findNow_eq {T : TypeId} {ks : List SK} (hk : kinds P 12 T = some ks) {xs : List Value} {kd : TypeDesc} (hu : P.underlying T = some kd) : ∀ (es : List MapEntry) (i : Nat), (∀ e ∈ es, keyFit P T ks xs e) →
    Instr.findNow kd (valOf P T xs) es i = none ∨ Instr.findNow kd (valOf P T xs) es i = some (findV ks xs P T es i)
  | [], i, _ => .inr rfl
  | e :: es, i, h => by
    obtain ⟨h1, h2⟩ := h e (by simp)
    obtain ⟨r, hr⟩ := Option.isSome_iff_exists.1 h2
    have ih := findNow_eq hk hu es (i + 1) (fun e' he' => h e' (List.mem_cons_of_mem _ he'))
    have hsame : Instr.sameNow kd (valOf P T xs) e.key = none ∨ Instr.sameNow kd (valOf P T xs) e.key = some r := by
      simp only [kinds, hu] at hk
      have single : ∀ k : SK, ks = [k] → aggB P T = false → ∃ x y, valOf P T xs = x ∧ e.key = y ∧ eq1 k x y = some r := by
        intro k hk ha
        subst hk
        obtain ⟨hx, hy⟩ := eqCells_len hr
        rw [h1]
        generalize e.key.cells.toList = ys at hr hy
        match xs, ys, hx, hy with
        | [x], [y], _, _ =>
          refine ⟨x, y, by simp [valOf, ha], by simp [valOf, ha], ?_⟩
          simp only [eqCells] at hr
          split at hr
          · rename_i a h1; simp at hr; rw [h1, hr]
          · cases hr
      cases kd <;> simp only at hk <;> try (cases hk; done)
      case bool =>
        obtain ⟨x, y, hx, hy, h1⟩ := single .b (by simpa using hk.symm) (by simp [aggB, hu])
        rw [hx, hy]
        cases x <;> cases y <;> simp [eq1] at h1
        right; simp [Instr.sameNow, h1]
      case int k =>
        obtain ⟨x, y, hx, hy, h1⟩ := single .i (by simpa using hk.symm) (by simp [aggB, hu])
        rw [hx, hy]
        cases x <;> cases y <;> simp only [eq1, reduceCtorEq] at h1
        split at h1
        · rename_i e; subst e
          right
          simp at h1; rw [← h1]
          simp [Instr.sameNow]
          rfl
        · cases h1
      case string =>
        obtain ⟨x, y, hx, hy, h1⟩ := single .s (by simpa using hk.symm) (by simp [aggB, hu])
        rw [hx, hy]
        cases x <;> cases y <;> simp only [eq1, reduceCtorEq] at h1
        right
        simp at h1; rw [← h1]
        simp [Instr.sameNow, ba_beq]
      case struct fs => left; rfl
    simp only [Instr.findNow, findV, hr]
    rcases hsame with hs | hs
    · left; rw [hs]
    · rw [hs]
      cases r
      · simpa using ih
      · simp

theorem run_findKey {T : TypeId} {ks : List SK} (hk : kinds P 12 T = some ks) {xs : List Value} (w : World) {es : List MapEntry} (h : ∀ e ∈ es, keyFit P T ks xs e) :
    (Instr.findKey T (valOf P T xs) es).run P w = .ok (findV ks xs P T es 0) w := by
  have hok := kinds_ok hk
  unfold okT at hok
  obtain ⟨kd, hu⟩ := Option.isSome_iff_exists.1 hok
  unfold Instr.findKey
  simp only [Sem.run_bind, run_underlying hu, Result.andThen_ok]
  rcases findNow_eq hk hu es 0 h with hn | hn
  · rw [hn]; exact run_findAsking hk w es 0 h
  · rw [hn]; rfl

theorem valOf_cells {T : TypeId} {x : AV} {v : Value} (hr : Rep H ρ x v) (hs : x.isSt = aggB P T) (hsto : x.sto = true) : v = valOf P T v.cells.toList ∧ RepL H ρ x.cells v.cells.toList := by
  obtain ⟨hc, _⟩ := hr.cellsL hsto
  refine ⟨?_, hc⟩
  cases hx : x.isSt with
  | true =>
    obtain ⟨vs, rfl, _, _⟩ := isSt_inv hr hx
    rw [hx] at hs
    simp [valOf, ← hs, Value.cells]
  | false =>
    have h1 : x.one = true := by cases x <;> simp_all [AV.isSt, AV.one, AV.sto]
    have := okV_cells (hr.okV h1)
    rw [hx] at hs
    simp [valOf, ← hs, this]

/-- The two finds agree. -/
theorem find_agree {ks : List SK} {T : TypeId} {key : AV} {kx : List Value} (hkey : RepL H ρ key.cells kx) : ∀ (es : List (AV × AV)) (ents : List MapEntry) (i : Nat), RepL H ρ (es.map (·.1)) (ents.map (·.key)) → RepL H ρ (es.map (·.2)) (ents.map (·.val)) →
    keysOK ks (aggB P T) key es → (∀ e ∈ ents, keyFit P T ks kx e) ∧ ((findA ks key es = none ∧ findV ks kx P T ents i = none) ∨ ∃ x j v, findA ks key es = some x ∧ findV ks kx P T ents i = some (j, v) ∧ Rep H ρ x v)
  | [], ents, i, hk, _, _ => by
    have : ents = [] := by simpa using hk.nil_inv
    subst this
    exact ⟨by simp, .inl ⟨rfl, rfl⟩⟩
  | (k, v) :: es, [], i, hk, _, _ => by have := hk.1; simp at this
  | (k, v) :: es, e :: ents, i, hk, hv, hok => by
    obtain ⟨⟨hsome, hst, hsto⟩, hrest⟩ := hok
    obtain ⟨ek, ks', hek, hk1, hk2⟩ := hk.cons_inv
    obtain ⟨ev, vs', hev, hv1, hv2⟩ := hv.cons_inv
    simp only [List.map_cons, List.cons.injEq] at hek hev
    obtain ⟨rfl, rfl⟩ := hek
    obtain ⟨rfl, rfl⟩ := hev
    obtain ⟨r, hr⟩ := Option.isSome_iff_exists.1 hsome
    obtain ⟨hval, hcl⟩ := valOf_cells (P := P) (T := T) hk1 hst hsto
    have he := eqA_rep hkey hcl hr
    have ih := find_agree (T := T) hkey es ents (i + 1) hk2 hv2 hrest
    refine ⟨fun e' he' => ?_, ?_⟩
    · rcases List.mem_cons.1 he' with rfl | he'
      · exact ⟨hval, by rw [he]; rfl⟩
      · exact ih.1 e' he'
    · simp only [findA, findV, hr, he]
      cases r
      · simpa using ih.2
      · right; exact ⟨v, i, e.val, by simp, by simp, hv1⟩

end
end Go.Am
