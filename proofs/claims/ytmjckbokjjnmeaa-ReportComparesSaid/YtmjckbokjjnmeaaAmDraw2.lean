/- The abstract machine, part 17: the rule for a region that draws its order. -/
import Derived.Test.YtmjckbokjjnmeaaAmDraw
namespace Go.Am
open Go.RowKit

section
variable {P : Program} {E : Env}

theorem backOK_spec {l : List Oper} (h : backOK l = true) {j : Nat} {o : Oper} (ho : l[j]? = some o) {e : Edge} (he : e ∈ o.after) (hb : Region.binds .any e = true) : e.on < j := by
  have h1 := List.all_eq_true.1 h (o, j) (by rw [List.mem_iff_getElem?]; exact ⟨j, by simp [List.getElem?_zipIdx, ho]⟩)
  have h2 := List.all_eq_true.1 h1 e (by simpa using he)
  simpa [hb] using h2

theorem newOK_spec {l : List Oper} {s : AState} (h : newOK l s = true) {i : Nat} {o : Oper} (ho : l[i]? = some o) (hn : newOp o.op = true) {d : Nat} (hd : o.dst = some d) : s.ment d = false ∧ s.box d = none := by
  have h1 := List.all_eq_true.1 h o (List.mem_of_getElem? ho)
  have h2 := List.all_eq_true.1 h1 d (by simp [newIds, hn, hd])
  simpa using h2

theorem wanted_on {ops : Array Oper} {o : Oper} {H : Heap} {ρ : Rho} {sf : Nat → AV} {bf : Nat → Option Ct} {a : Act} {w : World} (hs : Sim E H ρ sf bf a w) (h : gOn ops o sf) : Region.wanted o (yielded ops a.tmps) = true := by
  unfold gOn at h
  split at h
  · rename_i hg; simp [Region.wanted, hg]
  · rename_i j want hg
    obtain ⟨t, ht, hb⟩ := h
    have := hs.slots t
    rw [hb] at this
    have hy := (yielded_of (a := a) ht).1 want this.v_inv
    simp [Region.wanted, hg, hy]

theorem wanted_off {ops : Array Oper} {o : Oper} {H : Heap} {ρ : Rho} {sf : Nat → AV} {bf : Nat → Option Ct} {a : Act} {w : World} (hs : Sim E H ρ sf bf a w) (h : gOff ops o sf) : Region.wanted o (yielded ops a.tmps) = false := by
  unfold gOff at h
  split at h
  · exact h.elim
  · rename_i j want hg
    rcases h with h | ⟨t, ht, hb | hb⟩
    · have : yielded ops a.tmps j = none := by unfold yielded; rw [h]; rfl
      simp [Region.wanted, hg, this]
    · have := hs.slots t
      rw [hb] at this
      have hu : a.tmps.getD t undef = undef := by
        generalize a.tmps.getD t undef = u at this
        cases this with
        | tup hl hh =>
          rename_i vs
          have : vs = [] := by cases vs with | nil => rfl | cons => simp at hl
          subst this
          rfl
      have hy := (yielded_of (a := a) ht).2 hu
      simp [Region.wanted, hg, hy]
    · have := hs.slots t
      rw [hb] at this
      have hy := (yielded_of (a := a) ht).1 _ this.v_inv
      simp [Region.wanted, hg, hy]

/-- The tail, in its one order. -/
theorem wpAny_tail {l : List Oper} {Q : Exit → Act → World → Prop} {m : List Nat} {n : Nat} (hmk : masksOK l m = true) (htl : tailOK m n l.length = true) (hbk : backOK l = true) : ∀ (f k : Nat) (listed : Array Bool) (a : Act) (w : World),
    n ≤ k → k ≤ l.length → l.length - k ≤ f → listed.size = l.length → (∀ i, i < l.length → listed.getD i true = decide (i < k)) → wpList P l.toArray Q (l.drop k) a w → wpAny P .any l.toArray Q f listed a w := by
  have ready_iff : ∀ (k : Nat) (listed : Array Bool), n ≤ k → listed.size = l.length → (∀ i, i < l.length → listed.getD i true = decide (i < k)) → ∀ i, i ∈ Region.ready .any l.toArray listed → i = k ∧ k < l.length := by
    intro k listed hk hsz hli i hi
    obtain ⟨hun, o, ho, hall⟩ := mem_ready.1 hi
    have ho' : l[i]? = some o := by simpa using ho
    have hil := (List.getElem?_eq_some_iff.1 ho').1
    have hik : k ≤ i := by
      rw [hli i hil] at hun
      simpa using hun
    refine ⟨?_, by omega⟩
    by_cases hne : i = k
    · exact hne
    · exfalso
      have hcl : ∀ (j : Nat) (o : Oper), l[j]? = some o → decide (j < k ∧ j < l.length) = true → ∀ e ∈ o.after, Region.binds .any e = true → decide (e.on < k ∧ e.on < l.length) = true := by
        intro j o hj hl e he hb
        have := backOK_spec hbk hj he hb
        simp at hl ⊢
        omega
      have hl2 : ∀ e ∈ o.after, Region.binds .any e = true → decide (e.on < k ∧ e.on < l.length) = true := by
        intro e he hb
        have h1 := hall e he hb
        have h2 := backOK_spec hbk ho' he hb
        have h3 : listed.getD e.on true = true := by
          have : e.on < listed.size := by omega
          simp only [Array.getD_eq_getD_getElem?, Array.getElem?_eq_getElem this] at h1 ⊢
          exact h1
        rw [hli e.on (by omega)] at h3
        simp at h3 ⊢
        omega
      have := mask_listed hmk (listed := fun j => decide (j < k ∧ j < l.length)) hcl (fun j hj => by simp at hj; exact hj.2) i o ho' hl2 k (tailOK_spec htl hil (by omega) k (by omega))
      simp at this
  intro f
  induction f with
  | zero =>
    intro k listed a w hk hkl hf hsz hli h
    have hkl' : k = l.length := by omega
    have e1 : l.drop k = [] := by rw [hkl']; simp
    rw [e1] at h
    refine ⟨?_, h⟩
    cases hr : Region.ready .any l.toArray listed with
    | nil => rfl
    | cons i is =>
      have := ready_iff k listed hk hsz hli i (by rw [hr]; simp)
      omega
  | succ f ih =>
    intro k listed a w hk hkl hf hsz hli h
    by_cases hkl' : k = l.length
    · have e1 : l.drop k = [] := by rw [hkl']; simp
      rw [e1] at h
      refine ⟨fun _ => h, fun i hi => ?_⟩
      have := ready_iff k listed hk hsz hli i hi
      omega
    · have hlt : k < l.length := by omega
      rw [List.drop_eq_getElem_cons hlt] at h
      have hok : l[k]? = some l[k] := List.getElem?_eq_getElem hlt
      refine ⟨fun h0 => ?_, fun i hi => ?_⟩
      · exfalso
        have : k ∈ Region.ready .any l.toArray listed := mem_ready.2 ⟨by rw [hli k hlt]; simp, l[k], by simp, fun e he hb => by
          have := backOK_spec hbk hok he hb
          have h3 := hli e.on (by omega)
          have h4 : e.on < listed.size := by omega
          simp only [Array.getD_eq_getD_getElem?, Array.getElem?_eq_getElem h4] at h3 ⊢
          rw [Option.getD_some] at h3 ⊢
          rw [h3]
          simpa using this⟩
        rw [h0] at this
        cases this
      · obtain ⟨rfl, _⟩ := ready_iff k listed hk hsz hli i hi
        unfold wpOp
        simp only [List.getElem?_toArray, hok]
        have hnext : ∀ a w, wpList P l.toArray Q (l.drop (i + 1)) a w → wpAny P .any l.toArray Q f (listed.setIfInBounds i true) a w := fun a w hw =>
          ih (i + 1) _ a w (by omega) (by omega) (by omega) (by simpa using hsz) (fun j hj => by
            by_cases hji : i = j
            · subst hji
              have : i < listed.size := by omega
              simp [Array.getElem?_setIfInBounds_self_of_lt this]
            · rw [getD_set_ne true hji, hli j hj]
              simp; omega) hw
        unfold wpList at h
        split
        · rename_i hw
          rw [if_pos hw] at h
          exact h.imp (Oper.wp_mono hnext) id
        · rename_i hw
          rw [if_neg hw] at h
          exact hnext _ _ h

theorem Sim.drew {H : Heap} {ρ : Rho} {sf : Nat → AV} {bf : Nat → Option Ct} {a : Act} {w : World} (h : Sim E H ρ sf bf a w) : Sim E H ρ sf bf a { w with drawn := w.drawn + 1 } :=
  ⟨h.ext, h.slots, h.size, h.defers, ⟨h.boxes.rep, h.boxes.apart, h.boxes.inj⟩, h.h0, h.new, ⟨h.frame.os, h.frame.tape, ⟨h.frame.output.1, Nat.le_succ_of_le h.frame.output.2⟩, h.frame.size, h.frame.block⟩, h.keep, h.nle⟩

/-- A region that draws its order; its first n operations are quiet, the others wait for all before them. -/
theorem AW_draw {s : AState} {Q : AExit → AState → Prop} {id : Nat} {l : List Oper} (n : Nat) (hm : P.follows .mixedOrders = true) (hdst : dstOK E.n l = true) (hnew : newOK (l.take n) s = true)
    (h : RKQ P l.toArray (l.take n) s [] (fun s' fps => drawOK l n fps = true ∧ RK P E l.toArray (l.drop n) s' (Q .normal))) : AW P E (.region id l.toArray true) s Q := by
  intro H ρ a w hs0
  obtain ⟨es, s', hrun, hok, hrk⟩ := RKQ_run (P := P) (ops := l.toArray) (l.take n) s [] _ h
  simp only [List.nil_append] at hok
  simp only [drawOK, Bool.and_eq_true] at hok
  obtain ⟨⟨⟨hmk, hhd⟩, htl⟩, hbk⟩ := hok
  generalize hmasks : mkMasks l 0 [] = m at hmk hhd htl
  have hlen := RunQ_len hrun
  have hap := headOK_apart hhd
  have hds := dstOK_spec hdst
  obtain ⟨hat, hend⟩ := RunQ_at (sf0 := s.slot) (bf0 := s.box) hap 0 s.slot s.box (by simpa using hrun) ⟨fun _ _ _ _ _ _ h => by omega, fun _ _ => rfl, fun _ _ _ _ _ _ _ h => by omega, fun _ _ => rfl⟩ hlen (Nat.zero_le _)
  have hnews : ∀ (i : Nat) (o : Oper) (e : Ev), (l.take n)[i]? = some o → es[i]? = some e → e.n ≠ none → newOp o.op = true := by
    intro i o e ho he hn
    obtain ⟨sj, bj, _, hev⟩ := hat i o e (Nat.zero_le _) ho he
    unfold evOK at hev
    split at hev
    · exact hev.2.2.1 hn
    · exact absurd hev.2.2.1 hn
  have hlow : ∀ j (o : Oper), l[j]? = some o → ∀ i, (m.getD j 0).testBit i = true → i < j := by
    intro j
    induction j using Nat.strongRecOn with
    | _ j ih =>
      intro o ho i hi
      obtain ⟨e, he, hb, hlt, h | h⟩ := masksOK_spec hmk ho hi
      · omega
      · have hel : e.on < l.length := by have := (List.getElem?_eq_some_iff.1 ho).1; omega
        have := ih e.on hlt _ (List.getElem?_eq_getElem hel) i h
        omega
  -- the ids that the region makes are bound to nothing yet
  let ρ0 : Rho := fun d => if s.ment d = false ∧ s.box d = none ∧ d < 1000000 then .no else ρ d
  have hρ0 : ∀ d, s.ment d = true → ρ0 d = ρ d := fun d hd => by simp [ρ0, hd]
  have hs : Sim E H ρ0 s.slot s.box a { w with drawn := w.drawn + 1 } := by
    have hs1 := hs0.drew
    refine ⟨hs1.ext, fun i => (hs1.slots i).rho (fun d hd => hρ0 d ?_), hs1.size, hs1.defers, ⟨fun id c hc => ?_, fun id c b cap hc hb => ?_, fun i j ci cj bi capi capj hi hj hbi hbj => ?_⟩, hs1.h0, hs1.new, hs1.frame, fun i hi => (by simp only [ρ0]; rw [if_neg (by omega)]; exact hs1.keep i hi), hs1.nle⟩
    · cases hm : s.ment d with
      | true => rfl
      | false => rw [AState.ment_slot hm] at hd; cases hd
    · have hid : ρ0 id = ρ id := by simp [ρ0, hc]
      rw [hid]
      refine (hs1.boxes.rep id c hc).mono H.le_refl (fun d hd => hρ0 d ?_) (fun _ _ _ => rfl)
      cases hm : s.ment d with
      | true => rfl
      | false => rw [AState.ment_box hm hc] at hd; cases hd
    · have hid : ρ0 id = ρ id := by simp [ρ0, hc]
      rw [hid] at hb
      exact hs1.boxes.apart id c b cap hc hb
    · have hid : ρ0 i = ρ i := by simp [ρ0, hi]
      have hjd : ρ0 j = ρ j := by simp [ρ0, hj]
      rw [hid] at hbi
      rw [hjd] at hbj
      exact hs1.boxes.inj i j ci cj bi capi capj hi hj hbi hbj
  have hno0 : ∀ (i : Nat) (o : Oper) (d : Nat), (l.take n)[i]? = some o → newOp o.op = true → o.dst = some d → ρ0 d = .no ∧ s.box d = none := by
    intro i o d ho hn hd
    have := newOK_spec hnew ho hn hd
    have hlt : d < 1000000 := Nat.lt_of_lt_of_le (hds o (List.mem_of_mem_take (List.mem_of_getElem? ho)) d hd) hs0.nle
    exact ⟨by simp [ρ0, this.1, this.2, hlt], this.2⟩
  refine wp_region_any hm ?_
  have htk : ∀ (i : Nat) (o : Oper), (l.take n)[i]? = some o → l[i]? = some o ∧ i < n := by
    intro i o h
    rw [List.getElem?_take] at h
    split at h
    · exact ⟨h, by assumption⟩
    · cases h
  have key : ∀ (f : Nat) (listed : Array Bool) (U : List Nat) (a : Act) (w : World) (H : Heap) (ρ : Rho) (sf : Nat → AV) (bf : Nat → Option Ct), U.Nodup → U.length ≤ f → listed.size = l.length →
      (∀ i, i ∈ U ↔ i < l.length ∧ listed.getD i true = false) → (∀ i, n ≤ i → i < l.length → listed.getD i true = false) →
      (∀ (j : Nat) (o : Oper), l[j]? = some o → listed.getD j true = true → ∀ e ∈ o.after, Region.binds .any e = true → listed.getD e.on true = true) →
      Sim E H ρ sf bf a w → Cur (l.take n) es s.slot s.box (fun i => i < l.length ∧ listed.getD i true = true) sf bf →
      (∀ (i : Nat) (o : Oper) (d : Nat), (l.take n)[i]? = some o → listed.getD i true = false → newOp o.op = true → o.dst = some d → ρ d = .no ∧ bf d = none) →
      wpAny P .any l.toArray (post E Q) f listed a w := by
    intro f
    induction f with
    | zero =>
      intro listed U a w H ρ sf bf hnd hU hsz hmem htail hcl hsim hcur hno
      -- all have come: there is no tail
      have hU0 : U = [] := List.eq_nil_of_length_eq_zero (by omega)
      have hall : ∀ i, i < l.length → listed.getD i true = true := by
        intro i hi
        cases hb : listed.getD i true with
        | true => rfl
        | false => have := (hmem i).2 ⟨hi, hb⟩; rw [hU0] at this; cases this
      have hnl : l.length ≤ n := by
        rcases Nat.lt_or_ge n l.length with h | h
        · have h1 := hall n h
          rw [htail n (Nat.le_refl _) h] at h1
          cases h1
        · exact h
      have htake : l.take n = l := List.take_of_length_le hnl
      refine ⟨?_, ?_⟩
      · cases hr : Region.ready .any l.toArray listed with
        | nil => rfl
        | cons i is =>
          have hi : i ∈ Region.ready .any l.toArray listed := by rw [hr]; simp
          obtain ⟨hun, o, ho, _⟩ := mem_ready.1 hi
          have ho' : l[i]? = some o := by simpa using ho
          rw [hall i (List.getElem?_eq_some_iff.1 ho').1] at hun
          cases hun
      · rw [htake] at hend hcur
        have hrk' : Q .normal s' := by
          rw [List.drop_of_length_le hnl] at hrk
          exact hrk
        refine ⟨s', H, ρ, hrk', ?_⟩
        have e1 : sf = s'.slot := by
          funext x
          by_cases hex : ∃ (i : Nat) (o' : Oper), l[i]? = some o' ∧ o'.dst = some x
          · obtain ⟨i, o', ho', hd⟩ := hex
            have hil := (List.getElem?_eq_some_iff.1 ho').1
            have hie : i < es.length := by rw [hlen, htake]; exact hil
            have he' : es[i]? = some es[i] := List.getElem?_eq_getElem hie
            rw [hcur.s1 i o' _ x ho' he' ⟨hil, hall i hil⟩ hd, hend.s1 i o' _ x ho' he' hil hd]
          · have hno' : ∀ (i : Nat) (o' : Oper), l[i]? = some o' → o'.dst ≠ some x := fun i o' ho' hd => hex ⟨i, o', ho', hd⟩
            rw [hcur.s0 x (fun i o' ho' _ => hno' i o' ho'), hend.s0 x (fun i o' ho' _ => hno' i o' ho')]
        have e2 : bf = s'.box := by
          funext x
          by_cases hex : ∃ (i : Nat) (o' : Oper) (e' : Ev), l[i]? = some o' ∧ es[i]? = some e' ∧ e'.n ≠ none ∧ o'.dst = some x
          · obtain ⟨i, o', e', ho', he', hn', hd⟩ := hex
            have hil := (List.getElem?_eq_some_iff.1 ho').1
            cases hen : e'.n with
            | none => exact absurd hen hn'
            | some c => rw [hcur.b1 i o' e' x c ho' he' ⟨hil, hall i hil⟩ hd hen, hend.b1 i o' e' x c ho' he' hil hd hen]
          · have hno' : ∀ (i : Nat) (o' : Oper) (e' : Ev), l[i]? = some o' → es[i]? = some e' → e'.n ≠ none → o'.dst ≠ some x := fun i o' e' ho' he' hn' hd => hex ⟨i, o', e', ho', he', hn', hd⟩
            rw [hcur.b0 x (fun i o' e' ho' he' _ => hno' i o' e' ho' he'), hend.b0 x (fun i o' e' ho' he' _ => hno' i o' e' ho' he')]
        rw [← e1, ← e2]
        exact hsim
    | succ f ih =>
      intro listed U a w H ρ sf bf hnd hU hsz hmem htail hcl hsim hcur hno
      by_cases hdone : ∀ i, i < n → i < l.length → listed.getD i true = true
      · -- the head is done: the tail
        have hnn : min n l.length ≤ l.length := by omega
        have hli : ∀ i, i < l.length → listed.getD i true = decide (i < min n l.length) := by
          intro i hi
          by_cases hin : i < n
          · rw [hdone i hin hi]; simp; omega
          · rw [htail i (by omega) hi]; simp; omega
        have hUl : l.length - min n l.length ≤ f + 1 := by
          have hsub : (List.range' n (l.length - n)).length ≤ U.length := by
            apply List.Nodup.length_le_of_subset List.nodup_range'
            intro i hi
            rw [List.mem_range'_1] at hi
            exact (hmem i).2 ⟨by omega, htail i hi.1 (by omega)⟩
          simp at hsub
          omega
        refine wpAny_tail (P := P) (n := min n l.length) hmk (by
          unfold tailOK at htl ⊢
          rw [List.all_eq_true] at htl ⊢
          intro t ht
          have := htl t ht
          simp only [Bool.or_eq_true, decide_eq_true_eq] at this ⊢
          rcases this with h | h
          · left; have := List.mem_range.1 ht; omega
          · right; exact h) hbk (f + 1) (min n l.length) listed a w (Nat.le_refl _) hnn hUl hsz hli ?_
        have e1 : sf = s'.slot := by
          funext x
          by_cases hex : ∃ (i : Nat) (o' : Oper), (l.take n)[i]? = some o' ∧ o'.dst = some x
          · obtain ⟨i, o', ho', hd⟩ := hex
            have hil := (htk i o' ho')
            have hie : i < es.length := by rw [hlen]; exact (List.getElem?_eq_some_iff.1 ho').1
            have hill := (List.getElem?_eq_some_iff.1 hil.1).1
            have he' : es[i]? = some es[i] := List.getElem?_eq_getElem hie
            rw [hcur.s1 i o' _ x ho' he' ⟨hill, hdone i hil.2 hill⟩ hd, hend.s1 i o' _ x ho' he' (List.getElem?_eq_some_iff.1 ho').1 hd]
          · have hno' : ∀ (i : Nat) (o' : Oper), (l.take n)[i]? = some o' → o'.dst ≠ some x := fun i o' ho' hd => hex ⟨i, o', ho', hd⟩
            rw [hcur.s0 x (fun i o' ho' _ => hno' i o' ho'), hend.s0 x (fun i o' ho' _ => hno' i o' ho')]
        have e2 : bf = s'.box := by
          funext x
          by_cases hex : ∃ (i : Nat) (o' : Oper) (e' : Ev), (l.take n)[i]? = some o' ∧ es[i]? = some e' ∧ e'.n ≠ none ∧ o'.dst = some x
          · obtain ⟨i, o', e', ho', he', hn', hd⟩ := hex
            have hil := (htk i o' ho')
            have hill := (List.getElem?_eq_some_iff.1 hil.1).1
            cases hen : e'.n with
            | none => exact absurd hen hn'
            | some c => rw [hcur.b1 i o' e' x c ho' he' ⟨hill, hdone i hil.2 hill⟩ hd hen, hend.b1 i o' e' x c ho' he' (List.getElem?_eq_some_iff.1 ho').1 hd hen]
          · have hno' : ∀ (i : Nat) (o' : Oper) (e' : Ev), (l.take n)[i]? = some o' → es[i]? = some e' → e'.n ≠ none → o'.dst ≠ some x := fun i o' e' ho' he' hn' hd => hex ⟨i, o', e', ho', he', hn', hd⟩
            rw [hcur.b0 x (fun i o' e' ho' he' _ => hno' i o' e' ho' he'), hend.b0 x (fun i o' e' ho' he' _ => hno' i o' e' ho' he')]
        have hdrop : l.drop (min n l.length) = l.drop n := by
          rcases Nat.lt_or_ge n l.length with h | h
          · rw [Nat.min_eq_left (by omega)]
          · rw [Nat.min_eq_right h, List.drop_of_length_le h, List.drop_length]
        rw [hdrop]
        rw [e1, e2] at hsim
        exact RK_sound (P := P) (fun o ho => hds o (by simpa using ho)) (l.drop n) s' _ (fun o ho => by simpa using List.mem_of_mem_drop ho) hrk hsim (fun s2 H2 ρ2 a2 w2 hk2 hs2 => ⟨s2, H2, ρ2, hk2, hs2⟩)
      · -- something of the head is to come
        have hex : ∃ j, j < n ∧ j < l.length ∧ listed.getD j true = false := by
          apply Classical.byContradiction
          intro hc
          apply hdone
          intro i h1 h2
          cases hb : listed.getD i true with
          | true => rfl
          | false => exact absurd ⟨i, h1, h2, hb⟩ hc
        refine ⟨fun h0 => ?_, fun i hi => ?_⟩
        · exfalso
          -- the least that is to come may come
          have least : ∀ k, (∃ j, j ≤ k ∧ j < l.length ∧ listed.getD j true = false) → ∃ j, j < l.length ∧ listed.getD j true = false ∧ ∀ i, i < j → listed.getD i true = true := by
            intro k
            induction k with
            | zero =>
              rintro ⟨j, h1, h2, h3⟩
              have : j = 0 := by omega
              subst this
              exact ⟨0, h2, h3, fun i hi => by omega⟩
            | succ k ihk =>
              rintro ⟨j, h1, h2, h3⟩
              by_cases hlt : ∃ j, j ≤ k ∧ j < l.length ∧ listed.getD j true = false
              · exact ihk hlt
              · refine ⟨j, h2, h3, fun i hi => ?_⟩
                cases hb : listed.getD i true with
                | true => rfl
                | false => exact absurd ⟨i, by omega, by omega, hb⟩ hlt
          obtain ⟨j0, hj0, hj1, hj2⟩ := hex
          obtain ⟨j, h2, h3, h4⟩ := least j0 ⟨j0, Nat.le_refl _, hj1, hj2⟩
          have hoj : l[j]? = some l[j] := List.getElem?_eq_getElem h2
          have : j ∈ Region.ready .any l.toArray listed := mem_ready.2 ⟨h3, l[j], by simp, fun e he hb => by
            have hlt := backOK_spec hbk hoj he hb
            have h5 := h4 e.on hlt
            have h6 : e.on < listed.size := by omega
            simp only [Array.getD_eq_getD_getElem?, Array.getElem?_eq_getElem h6] at h5 ⊢
            exact h5⟩
          rw [h0] at this
          cases this
        · obtain ⟨hun, o, ho, hall⟩ := mem_ready.1 hi
          have ho' : l[i]? = some o := by simpa using ho
          have hil := (List.getElem?_eq_some_iff.1 ho').1
          have hall' : ∀ e ∈ o.after, Region.binds .any e = true → listed.getD e.on true = true := by
            intro e he hb
            have h1 := hall e he hb
            have h2 := backOK_spec hbk ho' he hb
            have h6 : e.on < listed.size := by omega
            simp only [Array.getD_eq_getD_getElem?, Array.getElem?_eq_getElem h6] at h1 ⊢
            exact h1
          have hmask := mask_listed hmk (listed := fun j => decide (j < l.length) && listed.getD j true) (fun j o hj hl e he hb => by
            simp only [Bool.and_eq_true, decide_eq_true_eq] at hl ⊢
            have := backOK_spec hbk hj he hb
            exact ⟨by omega, hcl j o hj hl.2 e he hb⟩) (fun j hj => by simp only [Bool.and_eq_true, decide_eq_true_eq] at hj; exact hj.1) i o ho' (fun e he hb => by
            simp only [Bool.and_eq_true, decide_eq_true_eq]
            have := backOK_spec hbk ho' he hb
            exact ⟨by omega, hall' e he hb⟩)
          have hin : i < n := by
            rcases Nat.lt_or_ge i n with h | h
            · exact h
            · exfalso
              obtain ⟨j, hj1, hj2, hj3⟩ := hex
              have := hmask j (tailOK_spec htl hil h j (by omega))
              simp only [Bool.and_eq_true, decide_eq_true_eq] at this
              rw [hj3] at this
              cases this.2
          have hot : (l.take n)[i]? = some o := by rw [List.getElem?_take, if_pos hin]; exact ho'
          have hie : i < es.length := by rw [hlen]; exact (List.getElem?_eq_some_iff.1 hot).1
          have hee : es[i]? = some es[i] := List.getElem?_eq_getElem hie
          obtain ⟨sj, bj, hcj, hevj⟩ := hat i o es[i] (Nat.zero_le _) hot hee
          have hev := head_op (P := P) (ops := l.toArray) hhd hot hee hcur hcj hevj (fun k hk => by
            have := hmask k hk
            simpa using this) (hlow i o ho') hlen hnews
          have hd := hds o (List.mem_of_getElem? ho')
          have hU' : i ∈ U := (hmem i).2 ⟨hil, hun⟩
          -- the step
          have next : ∀ {a' : Act} {w' : World} {H' : Heap} {ρ' : Rho}, Sim E H' ρ' (putF sf o.dst (es[i]).x) (addF bf o.dst (es[i]).n) a' w' →
              (∀ d, o.dst ≠ some d ∨ newOp o.op = false → ρ' d = ρ d) → wpAny P .any l.toArray (post E Q) f (listed.setIfInBounds i true) a' w' := by
            intro a' w' H' ρ' hsim' hρ'
            have hset : ∀ j, (listed.setIfInBounds i true).getD j true = if i = j then true else listed.getD j true := by
              intro j
              split
              · rename_i e; subst e
                have : i < listed.size := by omega
                simp [Array.getElem?_setIfInBounds_self_of_lt this]
              · rename_i e; rw [getD_set_ne true e]
            refine ih (listed.setIfInBounds i true) (U.erase i) a' w' H' ρ' _ _ (hnd.erase i) (by rw [List.length_erase_of_mem hU']; omega) (by simpa using hsz) (fun j => ?_) (fun j hj hjl => ?_) (fun j o2 ho2 hl2 e he hb => ?_) hsim' ?_ (fun j o2 d ho2 hl2 hn2 hd2 => ?_)
            · rw [hnd.mem_erase_iff, hmem, hset]
              constructor
              · rintro ⟨h1, h2, h3⟩
                exact ⟨h2, by rw [if_neg (Ne.symm h1)]; exact h3⟩
              · rintro ⟨h1, h2⟩
                split at h2
                · cases h2
                · rename_i e; exact ⟨Ne.symm e, h1, h2⟩
            · rw [hset, if_neg (by omega)]; exact htail j hj hjl
            · rw [hset] at hl2 ⊢
              split
              · rfl
              · split at hl2
                · rename_i e2; subst e2
                  rw [ho'] at ho2; cases ho2
                  exact hall' e he hb
                · exact hcl j o2 ho2 hl2 e he hb
            · have hstep := hcur.step hap hot hee (fun hc => by rw [hun] at hc; cases hc.2)
              have : (fun j => (j < l.length ∧ listed.getD j true = true) ∨ j = i) = (fun j => j < l.length ∧ (listed.setIfInBounds i true).getD j true = true) := by
                funext j
                apply propext
                rw [hset]
                constructor
                · rintro (⟨h1, h2⟩ | rfl)
                  · exact ⟨h1, by split; rfl; exact h2⟩
                  · exact ⟨hil, by rw [if_pos rfl]⟩
                · rintro ⟨h1, h2⟩
                  split at h2
                  · rename_i e; exact .inr e.symm
                  · exact .inl ⟨h1, h2⟩
              rw [this] at hstep
              exact hstep
            · rw [hset] at hl2
              split at hl2
              · cases hl2
              · rename_i hne
                have hdn : o.dst ≠ some d := fun hod => hne (hap i j o o2 d hot ho2 hod hd2)
                obtain ⟨h1, h2⟩ := hno j o2 d ho2 hl2 hn2 hd2
                refine ⟨by rw [hρ' d (.inl hdn)]; exact h1, ?_⟩
                cases hod : o.dst with
                | none => exact h2
                | some d' =>
                  cases (es[i]).n with
                  | none => exact h2
                  | some c =>
                    simp only [addF]
                    split
                    · rename_i e; subst e; exact absurd hod hdn
                    · exact h2
          unfold wpOp
          simp only [ho]
          unfold evOK at hev
          split at hev
          · obtain ⟨hg, hq, hn, _⟩ := hev
            rw [if_pos (wanted_on hsim hg)]
            refine .inl ?_
            have hfr2 : newOp o.op = true → ∀ d, o.dst = some d → ρ d = .no := fun hn2 d hd2 => (hno i o d hot hun hn2 hd2).1
            refine Oper.wp_mono ?_ (qop_sound (Q := post E Q) (fun x _ => hsim.eval x) hsim.ext hsim.boxes.rep (fun hn2 d hd2 x _ => (hsim.eval x).noment (hfr2 hn2 d hd2)) hq)
            intro a' w' hqp
            obtain ⟨x, n', H', ρ', ⟨hx, hn'⟩, hρ', hsim'⟩ := hsim.quiet2 hd (fun x c hxc t ht => by
              have hnw : newOp o.op = true := hn (by rw [← hxc.2]; simp)
              have h0 := hfr2 hnw t ht
              exact ⟨fun j => (hsim.slots j).noment h0, fun id c hc => (hsim.boxes.rep id c hc).noment h0⟩) hqp
            rw [hx, hn'] at hsim'
            refine next hsim' (fun d hd' => hρ' d ?_)
            rcases hd' with hd' | hd'
            · exact .inr hd'
            · left
              rw [hn']
              cases hen : (es[i]).n with
              | none => rfl
              | some c => have := hn (by rw [hen]; simp); rw [hd'] at this; cases this
          · obtain ⟨hg, hx, hn, _⟩ := hev
            rw [if_neg (by rw [wanted_off hsim hg]; simp)]
            refine next (H' := H) (ρ' := ρ) ?_ (fun _ _ => rfl)
            rw [hx, hn]
            have : addF bf o.dst none = bf := by cases o.dst <;> rfl
            rw [this]
            exact hsim.put hd Rep.undef
  have hrep : ∀ i, i < l.length → (Array.replicate l.toArray.size false).getD i true = false := fun i hi => by simp [Array.getElem?_replicate, hi]
  refine key l.toArray.size (Array.replicate l.toArray.size false) (List.range l.length) a _ H ρ0 s.slot s.box List.nodup_range (by simp) (by simp) (fun i => ?_) (fun i _ hi => hrep i hi) (fun j o ho hl => ?_) hs
    ⟨fun i o e d ho he h => ?_, fun _ _ => rfl, fun i o e d c ho he h => ?_, fun _ _ => rfl⟩ (fun i o d ho _ hn hd => hno0 i o d ho hn hd)
  · rw [List.mem_range]
    exact ⟨fun h => ⟨h, hrep i h⟩, fun h => h.1⟩
  · rw [hrep j (List.getElem?_eq_some_iff.1 ho).1] at hl; cases hl
  · rw [hrep i h.1] at h; cases h.2
  · rw [hrep i h.1] at h; cases h.2

end
end Go.Am
