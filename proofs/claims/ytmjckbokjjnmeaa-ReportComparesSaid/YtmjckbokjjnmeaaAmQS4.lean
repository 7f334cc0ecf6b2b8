/- The abstract machine, part 9: slices, look-ups, lengths, calls; and the quiet operations as one law. -/
import Derived.Test.YtmjckbokjjnmeaaAmQS3
namespace Go.Am
open Go.RowKit

section
variable {P : Program} {w : World} {H : Heap} {ρ : Rho} {bf : Nat → Option Ct}

/-! ### slices -/
def OptRep (H : Heap) (ρ : Rho) : Option AV → Option Value → Prop
  | none, none => True
  | some x, some v => Rep H ρ x v
  | _, _ => False

theorem slBound_inv {x : Option AV} {v : Option Value} {dflt : Nat} {n : Int} (hr : OptRep H ρ x v) (h : slBound x dflt = some n) : (v = none ∧ n = dflt) ∨ ∃ k, v = some (.int k n) := by
  unfold slBound at h
  split at h
  · cases v with
    | none => left; simpa using h.symm
    | some v => exact hr.elim
  · cases v with
    | none => exact hr.elim
    | some v =>
      have h' : Rep H ρ (.v (.int _ _)) v := hr
      rw [h'.v_inv]
      right
      simp at h
      exact ⟨_, by rw [h]⟩
  · cases h

theorem run_sliceBound {k : IntKind} {i : Int} {y : Nat} {code : BoundsCode} (h0 : 0 ≤ i) (h1 : i ≤ y) : (Instr.sliceBound (.int k i) y code).run P w = .ok i.toNat w := by
  simp [Instr.sliceBound, asIntOf, h0, h1]

theorem run_sliceBounds {isS : Bool} {len cap : Nat} {lo hi : Option Value} {l h : Int} (hlo : (lo = none ∧ l = (0 : Nat)) ∨ ∃ k, lo = some (.int k l)) (hhi : (hi = none ∧ h = len) ∨ ∃ k, hi = some (.int k h))
    (h0 : 0 ≤ l) (h1 : l ≤ h) (h2 : h ≤ len) (hc : len ≤ cap) : (Instr.sliceBounds isS len cap lo hi none).run P w = .ok (l.toNat, h.toNat, cap) w := by
  have e1 : ∀ code k, (Instr.sliceBound (.int k h) cap code).run P w = .ok h.toNat w := fun code k => run_sliceBound (by omega) (by omega)
  have e2 : ∀ code k, (Instr.sliceBound (.int k l) h.toNat code).run P w = .ok l.toNat w := fun code k => run_sliceBound (by omega) (by omega)
  unfold Instr.sliceBounds
  rcases hlo with ⟨rfl, hl⟩ | ⟨k1, rfl⟩ <;> rcases hhi with ⟨rfl, hh⟩ | ⟨k2, rfl⟩
  · subst hl; subst hh; simp
  · subst hl; simp [e1]
  · subst hh
    have e2' : ∀ code, (Instr.sliceBound (.int k1 l) len code).run P w = .ok l.toNat w := fun code => by have := e2 code k1; simpa using this
    cases isS <;> simp [e2']
  · cases isS <;> simp [e1, e2]

theorem take_drop_get {α : Type} {l : List α} {lo hi i : Nat} {x : α} (h : ((l.take hi).drop lo)[i]? = some x) : l[lo + i]? = some x := by
  rw [List.getElem?_drop, List.getElem?_take] at h
  split at h
  · exact h
  · cases h

theorem qslice_sound {T : TypeId} {x : AV} {lo hi : Option AV} {v : Value} {vlo vhi : Option Value} {cont : AV → Prop} (hr : Rep H ρ x v) (hlo : OptRep H ρ lo vlo) (hhi : OptRep H ρ hi vhi)
    (hb : ∀ id c, bf id = some c → CtRep H ρ w (ρ id) c) (h : qslice P T x lo hi (lkA bf x) cont) : ∃ y u, cont y ∧ Rep H ρ y u ∧ (Instr.sliceAt T v vlo vhi none).run P w = .ok u w := by
  unfold qslice at h
  split at h
  · rename_i e k xs hT
    obtain ⟨⟨hok, hk⟩, h⟩ := h
    split at h
    · rename_i l hh hl1 hh1
      obtain ⟨⟨h0, h1, h2⟩, hc⟩ := h
      have b1 := slBound_inv hlo hl1
      have b2 := slBound_inv hhi hh1
      cases hr with
      | slNil =>
        rename_i a cap
        have hl0 : l = 0 := by simp at h2; omega
        have hh0 : hh = 0 := by simp at h2; omega
        refine ⟨_, .slice (if cap = 0 then a else a.map (·.add 0)) 0 (cap - 0), hc, by simpa using Rep.slNil, ?_⟩
        have hs := run_sliceBounds (P := P) (w := w) (isS := true) (cap := cap) b1 (by simpa using b2) h0 h1 (by simpa using h2) (Nat.zero_le _)
        simp [Instr.sliceAt, Instr.slice, run_underlying hT, hs, run_sizeOf' hok, hl0, hh0]
      | sl cell hcap hmax hkk hone hH hrep =>
        rename_i b o cap
        have hs := run_sliceBounds (P := P) (w := w) (isS := true) (cap := cap) b1 b2 h0 h1 h2 hcap
        have hlen : ((xs.take hh.toNat).drop l.toNat).length = hh.toNat - l.toNat := by simp; omega
        refine ⟨_, .slice (some (if cap = l.toNat then ⟨b, o, none⟩ else ⟨b, o + l.toNat * P.cellsOf e, none⟩)) (hh.toNat - l.toNat) (cap - l.toNat), hc, ?_, ?_⟩
        · by_cases he : (xs.take hh.toNat).drop l.toNat = []
          · rw [he] at hlen ⊢
            rw [← hlen]
            exact Rep.slNil
          · have hne : cap ≠ l.toNat := by
              intro e
              apply he
              apply List.eq_nil_of_length_eq_zero
              rw [hlen]; omega
            rw [if_neg hne, ← hlen]
            refine Rep.sl (fun i j => cell (l.toNat + i) j) (by rw [hlen]; omega) (by omega) (fun y hy => hkk y (List.mem_of_mem_take (List.mem_of_mem_drop hy))) (fun y hy => hone y (List.mem_of_mem_take (List.mem_of_mem_drop hy))) ?_ ?_
            · intro i j y c hy hc'
              have := hH _ j y c (take_drop_get hy) hc'
              rw [hk, Nat.add_assoc o, ← Nat.add_mul]
              exact this
            · intro i j y c hy hc'
              exact hrep _ j y c (take_drop_get hy) hc'
        · simp only [Instr.sliceAt, Instr.slice, run_underlying hT, hs, run_sizeOf' hok, Sem.run_bind, Result.andThen_ok, Sem.run_pure, Option.map_some, Addr.add_mk]
          split <;> rfl
    · exact h.elim
  · rename_i e id k off n hT
    obtain ⟨⟨hok, hk⟩, h⟩ := h
    split at h
    · rename_i l hh hl1 hh1
      obtain ⟨⟨h0, h1, h2⟩, hc1, hc2⟩ := h
      have b1 := slBound_inv hlo hl1
      have b2 := slBound_inv hhi hh1
      cases hr with
      | ownNil hρ =>
        have hl0 : l = 0 := by omega
        have hh0 : hh = 0 := by omega
        subst hl0 hh0
        have hs := run_sliceBounds (P := P) (w := w) (isS := true) (cap := 0) b1 b2 h0 h1 h2 (Nat.zero_le _)
        refine ⟨_, .slice none 0 0, hc1 (.inl rfl), by simpa using Rep.ownNil (k := k) hρ, ?_⟩
        simp only [Int.toNat_zero] at hs
        simp [Instr.sliceAt, Instr.slice, run_underlying hT, hs, run_sizeOf' hok]
      | own hρ hn hm =>
        rename_i b cap
        have hs := run_sliceBounds (P := P) (w := w) (isS := true) (cap := cap - off) b1 b2 h0 h1 h2 (by omega)
        by_cases hcase : l = 0 ∨ l < n
        · refine ⟨_, .slice (some ⟨b, (off + l.toNat) * k, none⟩) (hh - l).toNat (cap - (off + l.toNat)), hc1 hcase, .own hρ (by omega) hm, ?_⟩
          simp only [Instr.sliceAt, Instr.slice, run_underlying hT, hs, run_sizeOf' hok, Sem.run_bind, Result.andThen_ok, Sem.run_pure, Option.map_some, Addr.add_mk, hk]
          have e1 : hh.toNat - l.toNat = (hh - l).toNat := by omega
          have e2 : cap - off - l.toNat = cap - (off + l.toNat) := by omega
          rw [e1, e2]
          split
          · have : l.toNat = 0 := by omega
            rw [this, Nat.add_zero]
          · rw [Nat.add_mul]
        · refine ⟨_, .slice (if cap - off = l.toNat then some ⟨b, off * k, none⟩ else some ⟨b, off * k + l.toNat * k, none⟩) 0 (cap - off - l.toNat), hc2 hcase, .slNil, ?_⟩
          simp only [Instr.sliceAt, Instr.slice, run_underlying hT, hs, run_sizeOf' hok, Sem.run_bind, Result.andThen_ok, Sem.run_pure, Option.map_some, Addr.add_mk, hk]
          have e1 : hh.toNat - l.toNat = 0 := by omega
          rw [e1]
    · exact h.elim
  · rename_i s hT
    split at h
    · rename_i l hh hl1 hh1
      obtain ⟨⟨h0, h1, h2⟩, hc⟩ := h
      have b1 := slBound_inv hlo hl1
      have b2 := slBound_inv hhi hh1
      rw [hr.v_inv]
      have hs := run_sliceBounds (P := P) (w := w) (isS := false) (cap := s.size) b1 b2 h0 h1 h2 (Nat.le_refl _)
      refine ⟨_, _, hc, .v rfl, ?_⟩
      simp [Instr.sliceAt, Instr.slice, run_underlying hT, hs]
    · exact h.elim
  · rename_i n e id off hT
    obtain ⟨⟨hok, hk1, rfl, rfl, rfl, hn0⟩, h⟩ := h
    split at h
    · rename_i T' y hbf
      obtain ⟨hyl, hmax, hc⟩ := h
      cases hr with
      | loc hρ =>
        rename_i b cap
        obtain ⟨b', cap', vs, hbd, hheap, hrep, hone, hcap⟩ := hb _ _ hbf
        obtain ⟨rfl, rfl⟩ := rho_at hρ hbd
        have hlo0 : vlo = none := by cases vlo with | none => rfl | some _ => exact hlo.elim
        have hhi0 : vhi = none := by cases vhi with | none => rfl | some _ => exact hhi.elim
        subst hlo0 hhi0
        refine ⟨_, .slice (some ⟨b, 0, none⟩) n n, hc, ?_, ?_⟩
        · have := Rep.own (H := H) (ρ := ρ) (id := id) (k := 1) (off := 0) (n := n) hρ (by omega) (by unfold maxLen; omega)
          rw [hcap, hyl] at this
          simpa using this
        · have hs := run_sliceBounds (P := P) (w := w) (isS := false) (len := n) (cap := n) (lo := none) (hi := none) (l := 0) (h := n) (.inl ⟨rfl, rfl⟩) (.inl ⟨rfl, rfl⟩) (by omega) (by omega) (by omega) (Nat.le_refl _)
          simp only [Int.toNat_zero, Int.toNat_natCast] at hs
          simp [Instr.sliceAt, run_underlying hT, Instr.sureAddr, hs, run_sizeOf' hok, hn0, Addr.add_mk]
    · exact h.elim
  · exact h.elim

/-! ### look-ups and lengths -/
theorem run_getObj_map {b : Nat} {es : Array MapEntry} {clock : Nat} (h : w.heap[b]? = some (.map es clock)) : (getObj b).run P w = .ok (.map es clock) w := by
  simp [getObj, Sem.run, h]

theorem qlookup_sound {T : TypeId} {x i : AV} {v u : Value} {ok : Bool} {cont : AV → Prop} (hr : Rep H ρ x v) (hi : Rep H ρ i u) (hb : ∀ id c, bf id = some c → CtRep H ρ w (ρ id) c)
    (h : qlookup P T x i ok (lkA bf x) cont) : ∃ y r, cont y ∧ Rep H ρ y r ∧ (Instr.lookup T v u ok).run P w = .ok r w := by
  unfold qlookup at h
  split at h
  · rename_i kt e hT
    split at h
    · rename_i ks z hks hz
      obtain ⟨⟨hkl, hst, hsto⟩, h⟩ := h
      obtain ⟨hval, hcl⟩ := valOf_cells (P := P) (T := kt) hi hst hsto
      obtain ⟨zv, hzr, hzrep, _⟩ := run_zeroValue' hz w
      have tupR : ∀ (y : AV) (r : Value) (t : Bool), Rep H ρ y r → Rep H ρ (if ok then .tup [y, .v (.bool t)] else y) (if ok then .tuple #[r, .bool t] else r) := by
        intro y r t hy
        cases ok with
        | true =>
          have := RepL.cons hy (RepL.cons (Rep.v (H := H) (ρ := ρ) (x := .bool t) rfl) RepL.nil)
          exact Rep.tup (vs := [r, .bool t]) this.1 this.2
        | false => exact hy
      split at h
      · rename_i id
        split at h
        · rename_i es st hbf
          obtain ⟨hself, hkeys, h⟩ := h
          cases hr with
          | mp hρ =>
            rename_i b cap
            obtain ⟨b', cap', ents, clock, hbd, hheap, hk1, hk2, _⟩ := hb _ _ hbf
            obtain ⟨rfl, rfl⟩ := rho_at hρ hbd
            obtain ⟨hfit, hag⟩ := find_agree (P := P) (T := kt) hcl es ents.toList 0 hk1 hk2 hkeys
            obtain ⟨rs, hrs⟩ := Option.isSome_iff_exists.1 hself
            have hck : ∀ em, (Instr.checkKey em 10000 kt u).run P w = .ok () w := fun em => by
              rw [hval]; exact run_checkKey 12 kt ks hks 10000 (by omega) em _ _ rs w (eqA_rep hcl hcl hrs)
            have hfk : (Instr.findKey kt u ents.toList).run P w = .ok (findV ks u.cells.toList P kt ents.toList 0) w := by
              have := run_findKey hks w hfit
              rw [← hval] at this
              exact this
            rcases hag with ⟨hn1, hn2⟩ | ⟨y, j, r, hn1, hn2, hrep⟩
            · rw [hn1] at h
              refine ⟨_, _, h, tupR z zv false (hzrep H ρ), ?_⟩
              simp only [Instr.lookup, Sem.run_bind, run_underlying hT, Result.andThen_ok, run_getObj_map hheap, Sem.run_pure, hck, hfk, hn2, hzr]
            · rw [hn1] at h
              refine ⟨_, _, h, tupR y r true hrep, ?_⟩
              simp only [Instr.lookup, Sem.run_bind, run_underlying hT, Result.andThen_ok, run_getObj_map hheap, Sem.run_pure, hck, hfk, hn2]
        · exact h.elim
      · obtain ⟨hself, h⟩ := h
        rw [hr.v_inv]
        obtain ⟨rs, hrs⟩ := Option.isSome_iff_exists.1 hself
        have hck : ∀ em, (Instr.checkKey em 10000 kt u).run P w = .ok () w := fun em => by
          rw [hval]; exact run_checkKey 12 kt ks hks 10000 (by omega) em _ _ rs w (eqA_rep hcl hcl hrs)
        have hfk : (Instr.findKey kt u []).run P w = .ok none w := by
          have := run_findKey (xs := u.cells.toList) hks w (es := []) (by simp)
          rw [← hval] at this
          exact this
        refine ⟨_, _, h, tupR z zv false (hzrep H ρ), ?_⟩
        simp only [Instr.lookup, Sem.run_bind, run_underlying hT, Result.andThen_ok, Sem.run_pure, hck, hfk, hzr]
      · exact h.elim
    · exact h.elim
  · exact h.elim

theorem qlen_sound {T ty : TypeId} {x : AV} {v : Value} {cont : AV → Prop} (hr : Rep H ρ x v) (hb : ∀ id c, bf id = some c → CtRep H ρ w (ρ id) c) (h : qlen P T x (lkA bf x) cont) (ts : Array TypeId) (hts : ts[0]? = some T) :
    ∃ y r, cont y ∧ Rep H ρ y r ∧ (Builtin.len_ ts ty #[v]).run P w = .ok r w := by
  unfold qlen at h
  unfold Builtin.len_
  simp only [hts, List.getElem?_toArray, List.getElem?_cons_zero]
  split at h
  · rename_i e hT
    split at h
    · rename_i k xs
      cases hr with
      | slNil => exact ⟨_, _, h, .v rfl, by simp [run_underlying hT, goInt]⟩
      | sl => exact ⟨_, _, h, .v rfl, by simp [run_underlying hT, goInt]⟩
    · cases hr with
      | ownNil => exact ⟨_, _, h, .v rfl, by simp [run_underlying hT, goInt]⟩
      | own => exact ⟨_, _, h, .v rfl, by simp [run_underlying hT, goInt]⟩
    · rw [hr.v_inv]; exact ⟨_, _, h, .v rfl, by simp [run_underlying hT, goInt]⟩
    · exact h.elim
  · rename_i hT
    split at h
    · rw [hr.v_inv]; exact ⟨_, _, h, .v rfl, by simp [run_underlying hT, goInt]⟩
    · exact h.elim
  · rename_i k e hT
    split at h
    · split at h
      · rename_i es st hbf
        cases hr with
        | mp hρ =>
          rename_i b cap
          obtain ⟨b', cap', ents, clock, hbd, hheap, hk1, hk2, _⟩ := hb _ _ hbf
          obtain ⟨rfl, rfl⟩ := rho_at hρ hbd
          refine ⟨_, _, h, .v rfl, ?_⟩
          have hl : es.length = ents.size := by have := hk1.1; simpa using this
          simp [run_underlying hT, goInt, run_getObj_map hheap, hl]
      · exact h.elim
    · rw [hr.v_inv]; exact ⟨_, _, h, .v rfl, by simp [run_underlying hT, goInt]⟩
    · exact h.elim
  · rename_i n e hT
    exact ⟨_, _, h, .v rfl, by simp [run_underlying hT, goInt]⟩
  · exact h.elim

theorem foldInts_sound {f : Int → Int → Int} {g : Value → Value → Sem Value} (hg : ∀ k a b w, (g (.int k a) (.int k b)).run P w = .ok (.int k (f a b)) w) : ∀ (xs : List AV) (vs : List Value) (k : IntKind) (n : Int) (cont : Int → Prop), RepL H ρ xs vs →
    foldInts f k n xs cont → ∃ m, cont m ∧ (vs.foldlM g (.int k n)).run P w = .ok (.int k m) w
  | [], vs, k, n, cont, hr, h => by
    rw [hr.nil_inv]; exact ⟨n, h, rfl⟩
  | x :: xs, vs, k, n, cont, hr, h => by
    obtain ⟨u, us, rfl, h1, h2⟩ := hr.cons_inv
    cases x with
    | v x =>
      cases x with
      | int k' m =>
        simp only [foldInts] at h
        obtain ⟨rfl, h⟩ := h
        obtain ⟨m', hc, hrun⟩ := foldInts_sound hg xs us k _ cont h2 h
        refine ⟨m', hc, ?_⟩
        rw [h1.v_inv, List.foldlM_cons, Sem.run_bind, hg]
        exact hrun
      | _ => simp [foldInts] at h
    | _ => simp [foldInts] at h

theorem qfold_sound {f : Int → Int → Int} {g : Value → Value → Sem Value} (hg : ∀ k a b w, (g (.int k a) (.int k b)).run P w = .ok (.int k (f a b)) w) {xs : List AV} {vs : List Value} {cont : AV → Prop} (hr : RepL H ρ xs vs)
    (h : qfold f xs cont) : ∃ y u v vs', vs = v :: vs' ∧ cont y ∧ Rep H ρ y u ∧ (vs'.foldlM g v).run P w = .ok u w := by
  cases xs with
  | nil => simp [qfold] at h
  | cons x xs =>
    cases x with
    | v x =>
      cases x with
      | int k n =>
        obtain ⟨u, us, rfl, h1, h2⟩ := hr.cons_inv
        obtain ⟨m, hc, hrun⟩ := foldInts_sound hg xs us k n _ h2 h
        refine ⟨_, _, u, us, rfl, hc, .v rfl, ?_⟩
        rw [h1.v_inv]
        exact hrun
      | _ => simp [qfold] at h
    | _ => simp [qfold] at h

/-! ### calls of functions of values -/
def snap (w : World) : Heap := fun b o => w.cell? ⟨b, o, none⟩
theorem snap_ext (w : World) : Ext (snap w) w := fun _ _ _ h => h
theorem snap_le (h : Ext H w) : H.le (snap w) := fun b o v hv => h b o v hv

theorem view_rep {x d : AV} {v : Value} (hv : View bf x d) (hr : Rep H ρ x v) (he : Ext H w) (hb : ∀ id c, bf id = some c → CtRep H ρ w (ρ id) c) : Rep (snap w) rho0 d v := by
  have lift : ∀ {cs : List AV} {vs : List Value}, RepL H ρ cs vs → idfL cs = true → ∀ (i : Nat) (c : AV) (u : Value), cs[i]? = some c → vs[i]? = some u → Rep (snap w) (fun _ => Bd.no) c u := by
    intro cs vs hrl hi i c u hc hu
    exact ((hrl.2 i c u hc hu).mono (snap_le he)).idf (idf_of_mem hi hc)
  rcases hv with ⟨rfl, hi⟩ | ⟨id, k, off, n, T, xs, rfl, hbf, hn, rfl, hi⟩ | ⟨id, n, T, y, rfl, hbf, hn, rfl, hi⟩ | ⟨id, T, y, rfl, hbf, rfl, hi⟩ | ⟨k, n, c, rfl, rfl, rfl⟩
  · exact (hr.mono (snap_le he)).idf hi
  · rcases hb _ _ hbf with ⟨hnil, hxs⟩ | ⟨b', cap', cur, hbd, hheap, hmax, hcap, hsz, hrep, hall⟩
    · subst hxs
      cases hr with
      | ownNil => simpa using Rep.slNil
      | own hρ => rw [hnil] at hρ; cases hρ
    · cases hr with
      | ownNil hρ => rw [hbd] at hρ; cases hρ
      | own hρ hn' hm =>
        rename_i b cap
        obtain ⟨rfl, rfl⟩ := rho_at hρ hbd
        have hlen : ((xs.drop off).take n).length = n := by simp; omega
        have hfl := flat_len (fun x hx => (hall x hx).1)
        have main : ∀ (i j : Nat) (x c : AV), ((xs.drop off).take n)[i]? = some x → x.cells[j]? = some c → ∃ u, w.cell? ⟨b, off * k + i * k + j, none⟩ = some u ∧ Rep (snap w) (fun _ => Bd.no) c u := by
          intro i j x c hx hc
          have hx' : xs[off + i]? = some x := by
            rw [List.getElem?_take] at hx
            split at hx
            · simpa [List.getElem?_drop] using hx
            · cases hx
          have hxm := List.mem_of_getElem? hx'
          have hseg := (hrep.drop ((off + i) * k)).take k
          rw [flat_get (fun x hx => (hall x hx).1) hx'] at hseg
          obtain ⟨u, hu, hru⟩ := hseg.get hc
          refine ⟨u, ?_, ?_⟩
          · rw [cell_of_row w b _ _ _ _ hheap]
            rw [List.getElem?_take] at hu
            split at hu
            · rw [List.getElem?_drop, List.getElem?_take] at hu
              split at hu
              · rw [← hu, ← Nat.add_mul]; simp
              · cases hu
            · cases hu
          · have hix : x.idf = true := idf_of_mem hi hx
            have hic : c.idf = true := by
              cases x with
              | st cs => exact idf_of_mem (cs := cs) (by simpa only [AV.idf] using hix) hc
              | _ =>
                simp only [AV.cells] at hc
                cases j with
                | zero => simp at hc; subst hc; exact hix
                | succ j => simp at hc
            exact (hru.mono (snap_le he)).idf hic
        have hgoal : Rep (snap w) rho0 (.sl k ((xs.drop off).take n)) (.slice (some ⟨b, off * k, none⟩) ((xs.drop off).take n).length (cap - off)) := by
          refine Rep.sl (fun i j => (w.cell? ⟨b, off * k + i * k + j, none⟩).getD undef) (by omega) (by omega) (fun x hx => (hall x (mem_drop_take hx)).1) (fun x hx => (hall x (mem_drop_take hx)).2) ?_ ?_
          · intro i j x c hx hc
            obtain ⟨u, hu, _⟩ := main i j x c hx hc
            simp [snap, hu]
          · intro i j x c hx hc
            obtain ⟨u, hu, hru⟩ := main i j x c hx hc
            simpa [hu] using hru
        rw [hlen] at hgoal
        exact hgoal
  · obtain ⟨b', cap', vs, hbd, hheap, hrep, hone, hcap⟩ := hb _ _ hbf
    cases hr with
    | ownNil hρ => rw [hbd] at hρ; cases hρ
    | own hρ hn' hm =>
      rename_i b cap
      obtain ⟨rfl, rfl⟩ := rho_at hρ hbd
      have hgoal : Rep (snap w) rho0 (.sl 1 y.cells) (.slice (some ⟨b, 0 * 1, none⟩) y.cells.length (cap - 0)) := by
        have hc1 : ∀ x ∈ y.cells, x.cells = [x] := fun x hx => AV.one_cells (hone x hx)
        refine Rep.sl (fun i j => (vs[i]?).getD undef) (by omega) (by omega) (fun x hx => by rw [hc1 x hx]; rfl) (fun x hx c hc => by rw [hc1 x hx] at hc; simp at hc; subst hc; exact hone _ hx) ?_ ?_
        · intro i j x c hx hc
          have hxm := List.mem_of_getElem? hx
          rw [hc1 x hxm] at hc
          cases j with
          | succ j => simp at hc
          | zero =>
            obtain ⟨u, hu, _⟩ := hrep.get hx
            simp [snap, cell_of_row w b _ _ _ _ hheap, hu]
        · intro i j x c hx hc
          have hxm := List.mem_of_getElem? hx
          rw [hc1 x hxm] at hc
          cases j with
          | succ j => simp at hc
          | zero =>
            simp at hc
            subst hc
            obtain ⟨u, hu, _⟩ := hrep.get hx
            simpa [hu] using lift hrep hi i _ u hx hu
      rw [← hn] at hgoal
      simpa using hgoal
  · obtain ⟨b', cap', vs, hbd, hheap, hrep, hone, hcap⟩ := hb _ _ hbf
    cases hr with
    | loc hρ =>
      rename_i b cap
      obtain ⟨rfl, rfl⟩ := rho_at hρ hbd
      have hic : idfL y.cells = true := by
        cases y with
        | st cs => simpa only [AV.idf, AV.cells] using hi
        | _ => simp only [AV.cells, idfL, Bool.and_true]; exact hi
      refine Rep.ep (fun j => (vs[j]?).getD undef) hone ?_ ?_
      · intro j c hc
        obtain ⟨u, hu, _⟩ := hrep.get hc
        simp [snap, cell_of_row w b _ _ _ _ hheap, hu]
      · intro j c hc
        obtain ⟨u, hu, _⟩ := hrep.get hc
        simpa [hu] using lift hrep hic j c u hc hu
  · rw [hr.v_inv]; exact .slNil

theorem viewL_rep : ∀ {xs ds : List AV} {vs : List Value}, ViewL bf xs ds → RepL H ρ xs vs → Ext H w → (∀ id c, bf id = some c → CtRep H ρ w (ρ id) c) → RepL (snap w) rho0 ds vs
  | [], [], vs, _, hr, _, _ => by rw [hr.nil_inv]; exact RepL.nil
  | [], _ :: _, _, h, _, _, _ => h.elim
  | _ :: _, [], _, h, _, _, _ => h.elim
  | x :: xs, d :: ds, vs, h, hr, he, hb => by
    obtain ⟨u, us, rfl, h1, h2⟩ := hr.cons_inv
    exact RepL.cons (view_rep h.1 h1 he hb) (viewL_rep h.2 h2 he hb)

end
end Go.Am
