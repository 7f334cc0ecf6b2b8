/- The abstract machine, part 13: map updates. -/
import Derived.Test.YtmjckbokjjnmeaaAmMut
namespace Go.Am
open Go.RowKit

theorem eq1_true {k : SK} {x y : Value} (h : eq1 k x y = some true) : x = y ∧ ∀ n, Instr.sameBits n x y = true := by
  unfold eq1 at h
  split at h
  · simp at h; subst h; exact ⟨rfl, fun n => by cases n <;> simp [Instr.sameBits]⟩
  · split at h
    · rename_i e; subst e; simp at h; subst h; exact ⟨rfl, fun n => by cases n <;> simp [Instr.sameBits]⟩
    · cases h
  · simp at h; subst h; exact ⟨rfl, fun n => by cases n <;> simp [Instr.sameBits, ba_beq]⟩
  · cases h

theorem eqCells_true : ∀ {ks : List SK} {xs ys : List Value}, eqCells ks xs ys = some true → xs = ys ∧ ∀ n, (xs.zip ys).all (fun (x, y) => Instr.sameBits n x y) = true
  | [], [], [], _ => ⟨rfl, fun _ => rfl⟩
  | [], [], _ :: _, h => by simp [eqCells] at h
  | [], _ :: _, _, h => by simp [eqCells] at h
  | _ :: _, [], _, h => by simp [eqCells] at h
  | _ :: _, _ :: _, [], h => by simp [eqCells] at h
  | k :: ks, x :: xs, y :: ys, h => by
    simp only [eqCells] at h
    split at h
    · rename_i a ha
      cases hr : eqCells ks xs ys with
      | none => rw [hr] at h; simp at h
      | some r =>
        rw [hr] at h
        simp at h
        obtain ⟨rfl, rfl⟩ := h
        obtain ⟨h1, h2⟩ := eq1_true ha
        obtain ⟨h3, h4⟩ := eqCells_true hr
        refine ⟨by rw [h1, h3], fun n => ?_⟩
        simp only [List.zip_cons_cons, List.all_cons, Bool.and_eq_true]
        exact ⟨h2 n, h4 n⟩
    · cases h

theorem run_keyThatStays {P : Program} {T : TypeId} {ks : List SK} (hk : kinds P 12 T = some ks) {xs ys : List Value} (h : eqCells ks xs ys = some true) (w : World) :
    (Instr.keyThatStays (valOf P T ys) (valOf P T xs)).run P w = .ok (valOf P T xs) w := by
  obtain ⟨rfl, hall⟩ := eqCells_true h
  have hs : Instr.sameBits 10000 (valOf P T xs) (valOf P T xs) = true := by
    unfold valOf
    cases ha : aggB P T with
    | true =>
      simp only [if_true]
      rw [show (10000 : Nat) = 9999 + 1 from rfl]
      simp only [Instr.sameBits, List.size_toArray, beq_self_eq_true, Bool.true_and]
      exact hall 9999
    | false =>
      simp only [Bool.false_eq_true, if_false]
      have hl : ks.length = 1 := by
        simp only [kinds] at hk
        unfold aggB at ha
        cases hu : P.underlying T with
        | none => rw [hu] at hk; simp at hk
        | some d =>
          rw [hu] at hk ha
          cases d <;> simp at hk ha <;> (subst hk; rfl)
      have hx := (eqCells_len h).1
      match xs, hx, hall with
      | [x], _, hall => simpa using hall 10000
      | [], hx, _ => simp at hx; omega
      | _ :: _ :: _, hx, _ => simp at hx; omega
  simp [Instr.keyThatStays, hs]

def updV (ks : List SK) (kx : List Value) (key val : Value) (clock : Nat) : List MapEntry → List MapEntry
  | [] => [{ key, val, born := clock }]
  | e :: es => if eqCells ks kx e.key.cells.toList = some true then { e with key, val } :: es else e :: updV ks kx key val clock es

theorem updV_none {ks : List SK} {kx : List Value} {key val : Value} {clock : Nat} {P : Program} {T : TypeId} : ∀ {es : List MapEntry} {i : Nat}, findV ks kx P T es i = none → updV ks kx key val clock es = es ++ [{ key, val, born := clock }]
  | [], _, _ => rfl
  | e :: es, i, h => by
    simp only [findV] at h
    split at h
    · cases h
    · rename_i hne
      simp only [updV, if_neg hne, List.cons_append, updV_none h]

theorem updV_some {ks : List SK} {kx : List Value} {key val : Value} {clock : Nat} {P : Program} {T : TypeId} : ∀ {es : List MapEntry} {i j : Nat} {v : Value}, findV ks kx P T es i = some (j, v) →
    i ≤ j ∧ ∃ e, es[j - i]? = some e ∧ eqCells ks kx e.key.cells.toList = some true ∧ updV ks kx key val clock es = es.set (j - i) { e with key, val }
  | [], _, _, _, h => by simp [findV] at h
  | e :: es, i, j, v, h => by
    simp only [findV] at h
    split at h
    · rename_i he
      simp at h
      obtain ⟨rfl, _⟩ := h
      exact ⟨Nat.le_refl _, e, by simp, he, by simp [updV, he]⟩
    · rename_i hne
      obtain ⟨h1, e', h2, h3, h4⟩ := updV_some (key := key) (val := val) (clock := clock) h
      refine ⟨by omega, e', ?_, h3, ?_⟩
      · rw [show j - i = (j - (i + 1)) + 1 by omega]; simpa using h2
      · rw [show j - i = (j - (i + 1)) + 1 by omega]
        simp only [updV, if_neg hne, h4, List.set_cons_succ]

section
variable {P : Program} {E : Env} {H : Heap} {ρ : Rho} {a : Act} {w : World}

theorem upd_agree {ks : List SK} {T : TypeId} {key val : AV} {kv vv : Value} {clock : Nat} (hkv : Rep H ρ key kv) (hvv : Rep H ρ val vv) (hkey : RepL H ρ key.cells kv.cells.toList) : ∀ (es : List (AV × AV)) (ents : List MapEntry), RepL H ρ (es.map (·.1)) (ents.map (·.key)) → RepL H ρ (es.map (·.2)) (ents.map (·.val)) →
    keysOK ks (aggB P T) key es → RepL H ρ ((updA ks key val es).map (·.1)) ((updV ks kv.cells.toList kv vv clock ents).map (·.key)) ∧ RepL H ρ ((updA ks key val es).map (·.2)) ((updV ks kv.cells.toList kv vv clock ents).map (·.val))
  | [], ents, hk, _, _ => by
    have : ents = [] := by simpa using hk.nil_inv
    subst this
    exact ⟨RepL.cons hkv RepL.nil, RepL.cons hvv RepL.nil⟩
  | (k, v) :: es, [], hk, _, _ => by have := hk.1; simp at this
  | (k, v) :: es, e :: ents, hk, hv, hok => by
    obtain ⟨⟨hsome, hst, hsto⟩, hrest⟩ := hok
    obtain ⟨ek, ks', hek, hk1, hk2⟩ := hk.cons_inv
    obtain ⟨ev, vs', hev, hv1, hv2⟩ := hv.cons_inv
    simp only [List.map_cons, List.cons.injEq] at hek hev
    obtain ⟨rfl, rfl⟩ := hek
    obtain ⟨rfl, rfl⟩ := hev
    obtain ⟨r, hr⟩ := Option.isSome_iff_exists.1 hsome
    obtain ⟨hval, hcl⟩ := valOf_cells (P := P) (T := T) hk1 hst hsto
    have he := eqA_rep hkey hcl hr
    have ih := upd_agree (T := T) (clock := clock) hkv hvv hkey es ents hk2 hv2 hrest
    simp only [updA, updV, hr, he]
    cases r
    · simp only [Option.some.injEq, Bool.false_eq_true, if_false, List.map_cons]
      exact ⟨RepL.cons hk1 ih.1, RepL.cons hv1 ih.2⟩
    · simp only [if_true, List.map_cons]
      exact ⟨RepL.cons hkv hk2, RepL.cons hvv hv2⟩

theorem run_setObj_map {b : Nat} {es es' : Array MapEntry} {clock clock' : Nat} (h : w.heap[b]? = some (.map es clock)) : (setObj b (.map es' clock')).run P w = .ok () { w with heap := w.heap.setIfInBounds b (.map es' clock') } := by
  simp [setObj, Sem.run, h]

theorem aMapUpd_sound {T : TypeId} {m key val : AV} {vm kv vv : Value} {s : AState} {K : AState → Prop} (hs : Sim E H ρ s.slot s.box a w) (hm : Rep H ρ m vm) (hkv : Rep H ρ key kv) (hvv : Rep H ρ val vv) (h : aMapUpd P T m key val s K) :
    ∃ w' s', K s' ∧ Sim E H ρ s'.slot s'.box a w' ∧ (Instr.mapUpdate T vm kv vv).run P w = .ok () w' := by
  unfold aMapUpd at h
  split at h
  · rename_i kt et hT
    split at h
    · rename_i ks hks
      obtain ⟨⟨hst, hsto, hself⟩, h⟩ := h
      obtain ⟨hval, hcl⟩ := valOf_cells (P := P) (T := kt) hkv hst hsto
      split at h
      · rename_i id
        split at h
        · rename_i es st hbx
          obtain ⟨hkeys, hK⟩ := h
          cases hm with
          | mp hρ =>
            rename_i b cap
            obtain ⟨b', cap', ents, clock, hbd, hheap, hk1, hk2, hborn, hnd, _⟩ := hs.boxes.rep _ _ hbx
            obtain ⟨rfl, rfl⟩ := rho_at hρ hbd
            obtain ⟨hfit, hag⟩ := find_agree (P := P) (T := kt) hcl es ents.toList 0 hk1 hk2 hkeys
            have hup := upd_agree (P := P) (T := kt) (clock := clock) hkv hvv hcl es ents.toList hk1 hk2 hkeys
            obtain ⟨rs, hrs⟩ := Option.isSome_iff_exists.1 hself
            have hck : (Instr.checkKey false 10000 kt kv).run P w = .ok () w := by
              rw [hval]; exact run_checkKey 12 kt ks hks 10000 (by omega) false _ _ rs w (eqA_rep hcl hcl hrs)
            have hfk : (Instr.findKey kt kv ents.toList).run P w = .ok (findV ks kv.cells.toList P kt ents.toList 0) w := by
              have := run_findKey hks w hfit
              rw [← hval] at this
              exact this
            have fin : ∀ (ents' : Array MapEntry) (clock' : Nat), ents'.toList = updV ks kv.cells.toList kv vv clock ents.toList → (∀ e ∈ ents'.toList, e.born < clock') → (ents'.toList.map (·.born)).Nodup →
                Sim E H ρ (s.setBox id (.map (updA ks key val es) none)).slot (s.setBox id (.map (updA ks key val es) none)).box a { w with heap := w.heap.setIfInBounds b (.map ents' clock') } := by
              intro ents' clock' he h1 h2
              rw [AState.box_setBox, AState.slot_setBox]
              have hlt : b < w.heap.size := (Array.getElem?_eq_some_iff.1 hheap).1
              refine hs.write hbx hρ rfl rfl ⟨rfl, Nat.le_refl _⟩ (by simp) (fun k hk => by simp [Array.getElem?_setIfInBounds_ne (Ne.symm hk)]) ⟨b, cap, ents', clock', rfl, by simp [hlt], ?_, ?_, h1, h2, fun _ _ e => by cases e⟩
              · rw [he]; exact hup.1
              · rw [he]; exact hup.2
            rcases hag with ⟨_, hn⟩ | ⟨y, j, r, _, hn, _⟩
            · refine ⟨_, _, hK, fin (ents.push { key := kv, val := vv, born := clock }) (clock + 1) ?_ ?_ ?_, ?_⟩
              · rw [updV_none hn]; simp
              · intro e he
                simp at he
                rcases he with he | rfl
                · have := hborn e (by simpa using he); omega
                · exact Nat.lt_succ_self _
              · simp only [Array.toList_push, List.map_append, List.map_cons, List.map_nil]
                rw [List.nodup_append]
                refine ⟨hnd, by simp, ?_⟩
                intro x hx y hy
                obtain ⟨e, he, rfl⟩ := List.mem_map.1 hx
                simp at hy
                subst hy
                have := hborn e he
                omega
              · simp only [Instr.mapUpdate, Sem.run_bind, run_underlying hT, Result.andThen_ok, run_getObj_map hheap, hck, hfk, hn, run_setObj_map hheap]
            · obtain ⟨_, e, he1, he2, he3⟩ := updV_some (key := kv) (val := vv) (clock := clock) hn
              simp only [Nat.sub_zero] at he1 he3
              have hej : ents[j]? = some e := by simpa using he1
              have hold := (hfit e (List.mem_of_getElem? he1)).1
              have hkeep : (Instr.keyThatStays (((ents[j]?).map (·.key)).getD kv) kv).run P w = .ok kv w := by
                rw [hej]
                simp only [Option.map_some, Option.getD_some]
                have := run_keyThatStays (P := P) hks he2 w
                rw [← hold, ← hval] at this
                exact this
              have hmod : (ents.modify j fun e => { e with key := kv, val := vv }).toList = updV ks kv.cells.toList kv vv clock ents.toList := by
                rw [he3, Array.toList_modify]
                apply List.ext_getElem?
                intro i
                simp only [List.getElem?_modify, List.getElem?_set]
                by_cases hij : j = i
                · subst hij
                  have hlt : j < ents.toList.length := (List.getElem?_eq_some_iff.1 he1).1
                  rw [if_pos rfl, if_pos hlt, he1]
                  simp
                · rw [if_neg hij]
                  simp [hij]
              have hbornmod : ((ents.modify j fun e => { e with key := kv, val := vv }).toList.map (·.born)) = ents.toList.map (·.born) := by
                rw [Array.toList_modify]
                apply List.ext_getElem?
                intro i
                simp only [List.getElem?_map, List.getElem?_modify]
                cases hi : ents.toList[i]? with
                | none => simp
                | some e2 => simp; split <;> rfl
              refine ⟨_, _, hK, fin (ents.modify j fun e => { e with key := kv, val := vv }) clock hmod ?_ ?_, ?_⟩
              · intro e2 he2'
                have : e2.born ∈ ((ents.modify j fun e => { e with key := kv, val := vv }).toList.map (·.born)) := List.mem_map.2 ⟨e2, he2', rfl⟩
                rw [hbornmod] at this
                obtain ⟨e3, he3', h3⟩ := List.mem_map.1 this
                rw [← h3]
                exact hborn e3 he3'
              · rw [hbornmod]; exact hnd
              · simp only [Instr.mapUpdate, Sem.run_bind, run_underlying hT, Result.andThen_ok, run_getObj_map hheap, hck, hfk, hn, hkeep, run_setObj_map hheap]
        · exact h.elim
      · exact h.elim
    · exact h.elim
  · exact h.elim

end
end Go.Am
