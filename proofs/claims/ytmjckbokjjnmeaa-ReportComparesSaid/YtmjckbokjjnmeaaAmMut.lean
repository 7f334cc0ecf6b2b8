/- The abstract machine, part 12: stores, appends, map updates. -/
import Derived.Test.YtmjckbokjjnmeaaAmStep
namespace Go.Am
open Go.RowKit

def astore (y : AV) (off : Nat) (x : AV) : AV := if off = 0 ∧ x.cells.length = y.cells.length ∧ x.isSt = y.isSt then x else .st (setPart y.cells off x.cells)

def AState.setBox (s : AState) (id : Nat) (c : Ct) : AState := ⟨s.s, (id, c) :: s.b⟩

def aStore (P : Program) (T : TypeId) (p x : AV) (s : AState) (K : AState → Prop) : Prop :=
  (okT P T = true ∧ x.sto = true ∧ x.cells.length = P.cellsOf T) ∧ match p with
  | .loc id off => (match s.box id with
    | some (.box T' y) => (off + x.cells.length ≤ y.cells.length ∧ ((off = 0 ∧ x.cells.length = y.cells.length ∧ x.isSt = y.isSt) ∨ y.isSt = true)) ∧ K (s.setBox id (.box T' (astore y off x)))
    | _ => False)
  | .eloc id kk i off => (match s.box id with
    | some (.arr T' k xs) => (kk = k ∧ i < xs.length ∧ off + x.cells.length ≤ k ∧ ((off = 0 ∧ x.cells.length = (xs.getD i .u).cells.length ∧ x.isSt = (xs.getD i .u).isSt) ∨ (xs.getD i .u).isSt = true)) ∧
        K (s.setBox id (.arr T' k (xs.set i (astore (xs.getD i .u) off x))))
    | _ => False)
  | _ => False

def killL (id : Nat) : List (Nat × AV) → List (Nat × AV)
  | [] => []
  | (i, x) :: l => (i, if x.ment id then .u else x) :: killL id l

/-- The elements that are appended. -/
def aSrc (s : AState) (x : AV) (K : List AV → Prop) (k : Nat) : Prop :=
  match x with
  | .sl k' ys => k' = k ∧ K ys
  | .own id k' off m => (match s.box id with
    | some (.arr _ k2 xs) => (k' = k ∧ k2 = k ∧ off + m ≤ xs.length) ∧ K ((xs.drop off).take m)
    | _ => False)
  | .v (.slice none n _) => n = 0 ∧ K []
  | _ => False

def aAppend (P : Program) (T : TypeId) (v x : AV) (s : AState) (d : Option Tmp) (K : AState → Prop) : Prop :=
  match P.underlying T with
  | some (.slice e) => (okT P e = true ∧ 0 < P.cellsOf e ∧ (zeroAV P e).any (fun z => z.sto && z.cells.length == P.cellsOf e) = true) ∧ (match v with
    | .own id k off n => (match s.box id with
      | some (.arr e' k' xs) => aSrc s x (fun ys => (e' = e ∧ k = P.cellsOf e ∧ k' = k ∧ off = 0 ∧ id < 1000000 ∧ n ≤ xs.length ∧ n + ys.length ≤ 9223372036854775807 ∧ (n + ys.length) * P.bytesOf e ≤ 140737488355328 ∧ mentB id s.b = false ∧ mentL id ys = false) ∧
          K ((AState.mk (killL id s.s) ((id, .arr e k (xs.take n ++ ys)) :: s.b)).put d (.own id k 0 (n + ys.length)))) k
      | _ => False)
    | .v (.slice none n c) => (match d with
      | some t => aSrc s x (fun ys => (n = 0 ∧ c = 0 ∧ ys.length ≤ 9223372036854775807 ∧ ys.length * P.bytesOf e ≤ 140737488355328 ∧ mentB t s.b = false ∧ mentL t ys = false) ∧
          K ((AState.mk (killL t s.s) ((t, .arr e (P.cellsOf e) ys) :: s.b)).put d (.own t (P.cellsOf e) 0 ys.length))) (P.cellsOf e)
      | none => False)
    | _ => False)
  | _ => False

def updA (ks : List SK) (key val : AV) : List (AV × AV) → List (AV × AV)
  | [] => [(key, val)]
  | (k, v) :: es => if eqA ks key.cells k.cells = some true then (key, val) :: es else (k, v) :: updA ks key val es

def aMapUpd (P : Program) (T : TypeId) (m key val : AV) (s : AState) (K : AState → Prop) : Prop :=
  match P.underlying T with
  | some (.map kt _) => (match eqKinds P kt with
    | some ks => (key.isSt = aggB P kt ∧ key.sto = true ∧ (eqA ks key.cells key.cells).isSome = true) ∧ (match m with
      | .mp id => (match s.box id with
        | some (.map es _) => keysOK ks (aggB P kt) key es ∧ K (s.setBox id (.map (updA ks key val es) none))
        | _ => False)
      | _ => False)
    | none => False)
  | _ => False

section
variable {P : Program} {E : Env} {H : Heap} {ρ : Rho} {sf : Nat → AV} {bf : Nat → Option Ct} {a : Act} {w : World}

theorem Ext.not_owned (h : Sim E H ρ sf bf a w) {id b cap : Nat} {c : Ct} (hc : bf id = some c) (hb : ρ id = .at b cap) {b' o : Nat} {v : Value} (hv : H b' o = some v) : b' ≠ b := by
  rintro rfl
  rw [(h.boxes.apart id c _ cap hc hb).1] at hv
  cases hv

/-- The box of id is written; its place stays. -/
theorem Sim.write (h : Sim E H ρ sf bf a w) {id b cap : Nat} {c c' : Ct} {w' : World} (hc : bf id = some c) (hb : ρ id = .at b cap) (hos : w'.os = w.os) (htape : w'.tape = w.tape) (hout : w'.output = w.output ∧ w.drawn ≤ w'.drawn)
    (hsz : w'.heap.size = w.heap.size) (hoth : ∀ k, k ≠ b → w'.heap[k]? = w.heap[k]?) (hc' : CtRep H ρ w' (.at b cap) c') : Sim E H ρ sf (addF bf (some id) (some c')) a w' := by
  have hmine := (h.boxes.apart id c b cap hc hb).2.2
  refine ⟨fun b' o v hv => ?_, h.slots, h.size, h.defers, ⟨fun id' c2 hc2 => ?_, fun id' c2 b' cap' hc2 hb' => ?_, fun i j ci cj bi capi capj hi hj hbi hbj => ?_⟩, h.h0, h.new, ?_, h.keep, h.nle⟩
  · have hne := Ext.not_owned h hc hb hv
    have := h.ext b' o v hv
    rw [World.cell?_of_block (w := w) (a := ⟨b', o, none⟩) (hoth b' hne)]
    exact this
  · simp only [addF] at hc2
    split at hc2
    · rename_i e; subst e; cases hc2; rw [hb]; exact hc'
    · rename_i hne
      refine (h.boxes.rep id' c2 hc2).mono H.le_refl (fun _ _ => rfl) (fun b2 cap2 hb2 => hoth b2 ?_)
      rintro rfl
      exact hne (h.boxes.inj id id' c c2 _ cap cap2 hc hc2 hb hb2)
  · simp only [addF] at hc2
    rw [hsz]
    split at hc2
    · rename_i e; subst e; exact h.boxes.apart id c b' cap' hc hb'
    · exact h.boxes.apart id' c2 b' cap' hc2 hb'
  · have lift : ∀ j cj, addF bf (some id) (some c') j = some cj → ∃ cj', bf j = some cj' := by
      intro j cj hj
      simp only [addF] at hj
      split at hj
      · rename_i e; subst e; exact ⟨c, hc⟩
      · exact ⟨cj, hj⟩
    obtain ⟨ci', hi'⟩ := lift i ci hi
    obtain ⟨cj', hj'⟩ := lift j cj hj
    exact h.boxes.inj i j ci' cj' bi capi capj hi' hj' hbi hbj
  · refine ⟨hos.trans h.frame.os, htape.trans h.frame.tape, ⟨hout.1.trans h.frame.output.1, Nat.le_trans h.frame.output.2 hout.2⟩, by rw [hsz]; exact h.frame.size, fun k hk hm => ?_⟩
    rw [hoth k (fun e => by subst e; exact hmine.elim (fun h1 => by omega) hm)]
    exact h.frame.block k hk hm

/-- The box of id goes to another place. -/
theorem Sim.rebind (h : Sim E H ρ sf bf a w) {id b cap : Nat} {c' : Ct} {w' : World} (hidl : id < 1000000) (hos : w'.os = w.os) (htape : w'.tape = w.tape) (hout : w'.output = w.output ∧ w.drawn ≤ w'.drawn)
    (hoth : ∀ k, k < w.heap.size → w'.heap[k]? = w.heap[k]?) (hb0 : w.heap.size ≤ b) (hb1 : b < w'.heap.size) (hm : ∀ j c, bf j = some c → c.ment id = false) {sf' : Nat → AV} (hsf : ∀ i, sf' i = .u ∨ (sf' i = sf i ∧ (sf i).ment id = false))
    (hc' : CtRep H (ρ.upd id (.at b cap)) w' (.at b cap) c') : Sim E H (ρ.upd id (.at b cap)) sf' (addF bf (some id) (some c')) a w' := by
  have hw0 := h.frame.size
  have hρne : ∀ j, j ≠ id → (ρ.upd id (.at b cap)) j = ρ j := fun j hne => by simp [Rho.upd, hne]
  have hHb : ∀ o, H b o = none := by
    intro o
    cases hh : H b o with
    | none => rfl
    | some v => have := World.block_lt_of_cell? w _ (h.ext b o v hh); simp at this; omega
  refine ⟨fun b' o v hv => ?_, fun i => ?_, h.size, h.defers, ⟨fun id' c2 hc2 => ?_, fun id' c2 b' cap' hc2 hb' => ?_, fun i j ci cj bi capi capj hi hj hbi hbj => ?_⟩, h.h0, h.new, ?_, fun i hi => (hρne i (by omega)).trans (h.keep i hi), h.nle⟩
  · have h0 := h.ext b' o v hv
    have hlt := World.block_lt_of_cell? w _ h0
    rw [World.cell?_of_block (w := w) (a := ⟨b', o, none⟩) (hoth b' hlt)]
    exact h0
  · rcases hsf i with e | ⟨e, hme⟩
    · rw [e]; exact .u
    · rw [e]; exact (h.slots i).upd hme
  · simp only [addF] at hc2
    split at hc2
    · rename_i e; subst e; cases hc2; rw [Rho.upd_same]; exact hc'
    · rename_i hne
      rw [hρne id' (fun e => hne e.symm)]
      refine (h.boxes.rep id' c2 hc2).mono H.le_refl (fun d hd => hρne d (fun e => ?_)) (fun b2 cap2 hb2 => hoth b2 (h.boxes.apart id' c2 b2 cap2 hc2 hb2).2.1)
      subst e
      rw [hm id' c2 hc2] at hd
      cases hd
  · simp only [addF] at hc2
    split at hc2
    · rename_i e; subst e
      rw [Rho.upd_same] at hb'
      cases hb'
      exact ⟨hHb, hb1, .inl (by omega)⟩
    · rename_i hne
      rw [hρne id' (fun e => hne e.symm)] at hb'
      obtain ⟨h1, h2, h3⟩ := h.boxes.apart id' c2 b' cap' hc2 hb'
      exact ⟨h1, by omega, h3⟩
  · simp only [addF] at hi hj
    split at hi
    · rename_i e
      split at hj
      · rename_i e'; exact e.symm.trans e'
      · rename_i hne'
        exfalso
        subst e
        rw [Rho.upd_same] at hbi
        cases hbi
        rw [hρne j (fun e => hne' e.symm)] at hbj
        have := (h.boxes.apart j cj _ _ hj hbj).2.1
        omega
    · rename_i hne
      rw [hρne i (fun e => hne e.symm)] at hbi
      split at hj
      · rename_i e'
        exfalso
        subst e'
        rw [Rho.upd_same] at hbj
        cases hbj
        have := (h.boxes.apart i ci _ _ hi hbi).2.1
        omega
      · rename_i hne'
        rw [hρne j (fun e => hne' e.symm)] at hbj
        exact h.boxes.inj i j ci cj bi capi capj hi hj hbi hbj
  · refine ⟨hos.trans h.frame.os, htape.trans h.frame.tape, ⟨hout.1.trans h.frame.output.1, Nat.le_trans h.frame.output.2 hout.2⟩, by omega, fun k hk hmay => ?_⟩
    rw [hoth k (by omega)]
    exact h.frame.block k hk hmay

theorem setRow_size (w : World) (g : Nat) (cs : Array Value) : (w.setRow g cs).heap.size = w.heap.size := by simp [World.setRow]

theorem RepL.setPart' {cs : List AV} {vs : List Value} {off : Nat} {new : List AV} {nv : List Value} (h : RepL H ρ cs vs) (hn : RepL H ρ new nv) :
    RepL H ρ (Am.setPart cs off new) (vs.take off ++ nv ++ vs.drop (off + nv.length)) := by
  rw [List.append_assoc]; exact h.setPart hn

theorem astore_cells {y x : AV} {off : Nat} (hfit : off + x.cells.length ≤ y.cells.length) (hc : (off = 0 ∧ x.cells.length = y.cells.length ∧ x.isSt = y.isSt) ∨ y.isSt = true) : (astore y off x).cells = setPart y.cells off x.cells := by
  unfold astore
  split
  · rename_i h
    obtain ⟨rfl, hl, _⟩ := h
    simp only [Am.setPart, List.take_zero, List.nil_append, Nat.zero_add]
    rw [hl, List.drop_length, List.append_nil]
  · rfl

theorem AState.box_setBox (s : AState) (id : Nat) (c : Ct) : (s.setBox id c).box = addF s.box (some id) (some c) := rfl
theorem AState.slot_setBox (s : AState) (id : Nat) (c : Ct) : (s.setBox id c).slot = s.slot := rfl

theorem run_storeAt {T : TypeId} {b o : Nat} {v : Value} {cur : Array Value} {t : TypeId} (hT : okT P T = true) (hl : v.cells.size = P.cellsOf T) (hg : w.heap[b]? = some (.cells cur t (0, 0))) (hfit : o + v.cells.size ≤ cur.size) (h1 : ∀ u ∈ v.cells.toList, okV u = true) :
    (Instr.storeAt T (.pointer (some ⟨b, o, none⟩)) v).run P w = .ok () (w.setRow b (cur.toList.take o ++ v.cells.toList ++ cur.toList.drop (o + v.cells.toList.length)).toArray) := by
  have hst := run_storeCells_at P b o t v.cells.toList 0 cur w hg (by simpa using hfit) (fun u hu => okV_oneCell (h1 u hu))
  simp only [Nat.add_zero] at hst
  simp only [Instr.storeAt, Instr.sureAddr, Sem.run_bind, Sem.run_pure, Result.andThen_ok, storeVar, run_sizeOf' hT, hl, ne_eq, not_true_eq_false, if_false]
  exact hst

theorem aStore_sound {T : TypeId} {p x : AV} {vp vx : Value} {s : AState} {K : AState → Prop} (hs : Sim E H ρ s.slot s.box a w) (hp : Rep H ρ p vp) (hx : Rep H ρ x vx) (h : aStore P T p x s K) :
    ∃ w' s', K s' ∧ Sim E H ρ s'.slot s'.box a w' ∧ (Instr.storeAt T vp vx).run P w = .ok () w' := by
  obtain ⟨⟨hT, hsto, hlen⟩, h⟩ := h
  obtain ⟨hxc, hx1⟩ := hx.cellsL hsto
  have hvl : vx.cells.size = P.cellsOf T := by have := hxc.1; rw [hlen] at this; simpa using this.symm
  have hok := hxc.ok hx1
  split at h
  · rename_i id off
    split at h
    · rename_i T' y hbx
      obtain ⟨⟨hfit, hcase⟩, hk⟩ := h
      cases hp with
      | loc hρ =>
        rename_i b cap
        obtain ⟨b', cap', vs, hbd, hheap, hrep, hone, hcap⟩ := hs.boxes.rep _ _ hbx
        obtain ⟨rfl, rfl⟩ := rho_at hρ hbd
        have hrun := run_storeAt (P := P) (w := w) (o := off) hT hvl hheap (by rw [hvl, ← hlen]; have := hrep.1; simp; omega) hok
        refine ⟨_, _, hk, ?_, hrun⟩
        rw [AState.box_setBox, AState.slot_setBox]
        have hac := astore_cells hfit hcase
        refine hs.write hbx hρ rfl rfl ⟨rfl, Nat.le_refl _⟩ (setRow_size _ _ _) (fun k hk => setRow_other w b k _ hk) ⟨b, cap, _, rfl, setRow_heap w b _ _ _ _ hheap, ?_, ?_, ?_⟩
        · rw [hac]
          exact hrep.setPart' hxc
        · intro c hc
          rw [hac] at hc
          exact setPart_one hone hx1 c hc
        · rw [hac, setPart_len hfit]; exact hcap
    · exact h.elim
  · rename_i id kk i off
    split at h
    · rename_i T' k xs hbx
      obtain ⟨⟨rfl, hi, hfit, hcase⟩, hkk⟩ := h
      cases hp with
      | eloc hρ =>
        rename_i b cap
        rcases hs.boxes.rep _ _ hbx with ⟨hnil, _⟩ | ⟨b', cap', cur, hbd, hheap, hmax, hcap, hsz, hrep, hall⟩
        · rw [hnil] at hρ; cases hρ
        obtain ⟨rfl, rfl⟩ := rho_at hρ hbd
        have hxi : xs.getD i .u = xs[i] := by simp [hi]
        rw [hxi] at hcase hkk
        have hik := hall _ (List.getElem_mem hi)
        have hfl := flat_len (fun x hx => (hall x hx).1)
        have hmul : (i + 1) * kk ≤ cap * kk := Nat.mul_le_mul_right _ (by omega)
        rw [Nat.add_mul, Nat.one_mul] at hmul
        have hrun := run_storeAt (P := P) (w := w) (o := i * kk + off) hT hvl hheap (by rw [hvl, ← hlen, hsz]; omega) hok
        refine ⟨_, _, hkk, ?_, hrun⟩
        rw [AState.box_setBox, AState.slot_setBox]
        have hac := astore_cells (by rw [hik.1]; exact hfit) hcase
        have hackk : (astore xs[i] off x).cells.length = kk := by rw [hac, setPart_len (by rw [hik.1]; exact hfit)]; exact hik.1
        have hvlx : vx.cells.toList.length = x.cells.length := by rw [← hxc.1]
        refine hs.write hbx hρ rfl rfl ⟨rfl, Nat.le_refl _⟩ (setRow_size _ _ _) (fun k hk => setRow_other w b k _ hk) (.inr ⟨b, cap, _, rfl, setRow_heap w b _ _ _ _ hheap, hmax, by simpa using hcap, ?_, ?_, ?_⟩)
        · simp only [List.size_toArray, List.length_append, List.length_take, List.length_drop, Array.length_toList, hvl]
          omega
        · have hfs := flat_set (fun x hx => (hall x hx).1) hackk hi
          rw [hfs, hac, List.length_set]
          -- one store of a part of an element
          have hm2 : (i + 1) * kk ≤ xs.length * kk := Nat.mul_le_mul_right _ (by omega)
          rw [Nat.add_mul, Nat.one_mul] at hm2
          have hseg : setPart (xs.flatMap AV.cells) (i * kk) (setPart xs[i].cells off x.cells) = setPart (xs.flatMap AV.cells) (i * kk + off) x.cells := by
            have hg := flat_get (fun x hx => (hall x hx).1) (List.getElem?_eq_getElem hi)
            have hsl := setPart_len (cs := xs[i].cells) (off := off) (new := x.cells) (by rw [hik.1]; exact hfit)
            unfold Am.setPart at hsl ⊢
            rw [hsl, hik.1]
            have e1 : (xs.flatMap AV.cells).take (i * kk + off) = (xs.flatMap AV.cells).take (i * kk) ++ xs[i].cells.take off := by
              rw [List.take_add, ← hg, List.take_take]
              congr 2
              omega
            have e2 : xs[i].cells.drop (off + x.cells.length) ++ (xs.flatMap AV.cells).drop (i * kk + kk) = (xs.flatMap AV.cells).drop (i * kk + off + x.cells.length) := by
              rw [← hg, ← List.drop_drop (i := kk), List.drop_take]
              have : (xs.flatMap AV.cells).drop (i * kk + off + x.cells.length) = ((xs.flatMap AV.cells).drop (i * kk)).drop (off + x.cells.length) := by rw [List.drop_drop]; congr 1; omega
              rw [this]
              generalize (xs.flatMap AV.cells).drop (i * kk) = L
              have h3 : L.drop kk = (L.drop (off + x.cells.length)).drop (kk - (off + x.cells.length)) := by rw [List.drop_drop]; congr 1; omega
              rw [h3, List.take_append_drop]
            rw [e1, ← e2]
            simp only [List.append_assoc]
          rw [hseg]
          have hr2 := hrep.setPart' (off := i * kk + off) hxc
          have e3 : (cur.toList.take (i * kk + off) ++ vx.cells.toList ++ cur.toList.drop (i * kk + off + vx.cells.toList.length)).take (xs.length * kk) =
              (cur.toList.take (xs.length * kk)).take (i * kk + off) ++ vx.cells.toList ++ (cur.toList.take (xs.length * kk)).drop (i * kk + off + vx.cells.toList.length) := by
            rw [List.append_assoc, List.append_assoc, List.take_append, List.take_append, List.take_take, List.drop_take]
            have l1 : (cur.toList.take (i * kk + off)).length = i * kk + off := by simp; omega
            rw [l1, List.take_take]
            have l2 : min (xs.length * kk) (i * kk + off) = i * kk + off := by omega
            have l2' : min (i * kk + off) (xs.length * kk) = i * kk + off := by omega
            rw [l2, l2']
            congr 1
            have l3 : vx.cells.toList.take (xs.length * kk - (i * kk + off)) = vx.cells.toList := List.take_of_length_le (by rw [hvlx]; omega)
            rw [l3]
            congr 2
            omega
          show RepL H ρ _ (List.take (xs.length * kk) (List.toArray _).toList)
          rw [List.toList_toArray, e3]
          exact hr2
        · intro z hz
          rcases List.mem_or_eq_of_mem_set hz with h | h
          · exact hall z h
          · subst h
            refine ⟨hackk, fun c hc => ?_⟩
            rw [hac] at hc
            exact setPart_one hik.2 hx1 c hc
    · exact h.elim
  · exact h.elim

theorem mentB_box {s : AState} {id j : Nat} {c : Ct} (h : mentB id s.b = false) (hc : s.box j = some c) : c.ment id = false := mentB_lk hc h

theorem killL_slot {id : Nat} : ∀ (l : List (Nat × AV)) (i : Nat), (lk (killL id l) i).getD .u = .u ∨ ((lk (killL id l) i).getD .u = (lk l i).getD .u ∧ ((lk l i).getD .u).ment id = false)
  | [], i => .inl rfl
  | (j, x) :: l, i => by
    simp only [killL, lk]
    split
    · cases hm : x.ment id
      · right; simp [hm]
      · left; simp
    · exact killL_slot l i

/-- A slice value that has so many elements, and its cells. -/
def SrcRep (H : Heap) (ρ : Rho) (w : World) (k : Nat) (ys : List AV) (v : Value) : Prop :=
  (∀ y ∈ ys, y.cells.length = k ∧ oneAll y) ∧ ∃ base c, v = .slice base ys.length c ∧ (ys ≠ [] → ∃ ad, base = some ad ∧ ∃ news : List Value, RepL H ρ (ys.flatMap AV.cells) news ∧ ∀ j u, news[j]? = some u → w.cell? (ad.add j) = some u)

theorem aSrc_sound {s : AState} {x : AV} {vx : Value} {K : List AV → Prop} {k : Nat} (hs : Sim E H ρ s.slot s.box a w) (hx : Rep H ρ x vx) (h : aSrc s x K k) : ∃ ys, K ys ∧ SrcRep H ρ w k ys vx := by
  unfold aSrc at h
  split at h
  · rename_i k' ys
    obtain ⟨rfl, hk⟩ := h
    refine ⟨ys, hk, ?_⟩
    cases hx with
    | slNil => exact ⟨by simp, _, _, rfl, fun h => absurd rfl h⟩
    | sl cell hcap hmax hkk hone hH hrep =>
      rename_i blk off cap
      refine ⟨fun y hy => ⟨hkk y hy, hone y hy⟩, _, _, rfl, fun _ => ⟨_, rfl, ?_⟩⟩
      have hfl := flat_len hkk
      have hel : ∀ j c, (ys.flatMap AV.cells)[j]? = some c → ∃ x, ys[j / k']? = some x ∧ x.cells[j % k']? = some c := by
        intro j c hc
        have hj : j < ys.length * k' := by rw [← hfl]; exact (List.getElem?_eq_some_iff.1 hc).1
        have hk0 : 0 < k' := by
          rcases Nat.eq_zero_or_pos k' with h | h
          · subst h; simp at hj
          · exact h
        have hi : j / k' < ys.length := (Nat.div_lt_iff_lt_mul hk0).2 hj
        have hg := flat_get hkk (List.getElem?_eq_getElem hi)
        refine ⟨ys[j / k'], List.getElem?_eq_getElem hi, ?_⟩
        rw [← hg, List.getElem?_take, if_pos (Nat.mod_lt _ hk0), List.getElem?_drop]
        rw [show j / k' * k' + j % k' = j by rw [Nat.mul_comm]; exact Nat.div_add_mod j k']
        exact hc
      refine ⟨(List.range (ys.length * k')).map (fun j => cell (j / k') (j % k')), ⟨by rw [hfl]; simp, fun j c u hc hu => ?_⟩, fun j u hu => ?_⟩
      · obtain ⟨x, hx1, hx2⟩ := hel j c hc
        have hj : j < ys.length * k' := by rw [← hfl]; exact (List.getElem?_eq_some_iff.1 hc).1
        rw [List.getElem?_map, List.getElem?_range hj] at hu
        simp at hu
        subst hu
        exact (hrep _ _ _ _ hx1 hx2).any (fun _ => rfl) ρ
      · have hj : j < ys.length * k' := by
          have := (List.getElem?_eq_some_iff.1 hu).1
          simpa using this
        rw [List.getElem?_map, List.getElem?_range hj] at hu
        simp at hu
        subst hu
        obtain ⟨x, hx1, hx2⟩ := hel j _ (List.getElem?_eq_getElem (by rw [hfl]; exact hj))
        have := hs.ext _ _ _ (hH _ _ _ _ hx1 hx2)
        rw [Addr.add_mk]
        rw [Nat.add_assoc, show j / k' * k' + j % k' = j by rw [Nat.mul_comm]; exact Nat.div_add_mod j k'] at this
        exact this
  · rename_i id k' off m
    split at h
    · rename_i T k2 xs hbx
      obtain ⟨⟨rfl, rfl, hlen⟩, hk⟩ := h
      refine ⟨_, hk, ?_⟩
      have hyl : ((xs.drop off).take m).length = m := by simp; omega
      rcases hs.boxes.rep _ _ hbx with ⟨hnil, hxs⟩ | ⟨b', cap', cur, hbd, hheap, hmax, hcap, hsz, hrep, hall⟩
      · subst hxs
        have hm0 : m = 0 := by simpa using hyl.symm
        refine ⟨by simp, ?_⟩
        rw [hyl]
        cases hx with
        | ownNil => exact ⟨_, _, rfl, fun h => absurd (by simp) h⟩
        | own hρ => rw [hnil] at hρ; cases hρ
      · refine ⟨fun y hy => hall y (mem_drop_take hy), ?_⟩
        rw [hyl]
        cases hx with
        | ownNil => exact ⟨_, _, rfl, fun h => absurd (by simp) h⟩
        | own hρ hn hm =>
          rename_i b cap
          obtain ⟨rfl, rfl⟩ := rho_at hρ hbd
          refine ⟨_, _, rfl, fun _ => ⟨_, rfl, ?_⟩⟩
          have hfl := flat_len (fun x hx => (hall x hx).1)
          have hseg := (hrep.drop (off * k2)).take (m * k2)
          have e1 : ((xs.flatMap AV.cells).drop (off * k2)).take (m * k2) = ((xs.drop off).take m).flatMap AV.cells := by
            have hd : (xs.flatMap AV.cells).drop (off * k2) = (xs.drop off).flatMap AV.cells := by
              conv => lhs; rw [← List.take_append_drop off xs]
              rw [List.flatMap_append]
              have : ((xs.take off).flatMap AV.cells).length = off * k2 := by
                rw [flat_len (fun x hx => (hall x (List.mem_of_mem_take hx)).1)]
                rw [List.length_take]; congr 1; omega
              rw [← this, List.drop_left]
            rw [hd]
            conv => lhs; rw [← List.take_append_drop m (xs.drop off)]
            rw [List.flatMap_append]
            have : (((xs.drop off).take m).flatMap AV.cells).length = m * k2 := by
              rw [flat_len (fun x hx => (hall x (mem_drop_take hx)).1), hyl]
            rw [← this, List.take_left]
          rw [e1] at hseg
          refine ⟨_, hseg, fun j u hu => ?_⟩
          rw [Addr.add_mk, cell_of_row w b _ _ _ _ hheap]
          rw [List.getElem?_take] at hu
          split at hu
          · rw [List.getElem?_drop, List.getElem?_take] at hu
            split at hu
            · simpa using hu
            · cases hu
          · cases hu
    · exact h.elim
  · obtain ⟨rfl, hk⟩ := h
    rw [hx.v_inv]
    exact ⟨[], hk, by simp, _, _, rfl, fun h => absurd rfl h⟩
  · exact h.elim

theorem run_append_zero {t ty e : TypeId} {sb xb : Option Addr} {n c xc : Nat} (ht : P.underlying t = some (.slice e)) (hok : okT P e = true) (hc : n ≤ c) :
    (Builtin.append_ #[t, t] ty #[.slice sb n c, .slice xb 0 xc]).run P w = .ok (.slice sb n c) w := by
  obtain ⟨i, hi⟩ := info_of_okT hok
  cases sb <;> cases xb <;> simp [Builtin.append_, run_underlying ht, Go.sizeOf, typeInfo, hi, Builtin.lenOf, hc, Builtin.firstCells, loadCells, loadCellsFrom, storeCells]

theorem mentL_flat_false {d : Nat} {xs : List AV} (h : mentL d xs = false) : mentL d (xs.flatMap AV.cells) = false := by
  cases hm : mentL d (xs.flatMap AV.cells) with
  | false => rfl
  | true => rw [mentL_flat hm] at h; cases h

theorem mentL_append (d : Nat) : ∀ (a b : List AV), mentL d (a ++ b) = (mentL d a || mentL d b)
  | [], b => by simp [mentL]
  | c :: a, b => by simp [mentL, mentL_append d a b, Bool.or_assoc]

theorem mentL_take {d n : Nat} : ∀ {xs : List AV}, mentL d xs = false → mentL d (xs.take n) = false
  | [], _ => by simp [mentL]
  | x :: xs, h => by
    cases n with
    | zero => simp [mentL]
    | succ n =>
      simp only [mentL, Bool.or_eq_false_iff] at h
      simp [mentL, h.1, mentL_take h.2]

/-- A variable's cells that name the id are not known any more. -/
def AV.forg (id : Nat) (x : AV) : AV := if x.isSt then .st (x.cells.map fun c => if c.ment id then .w else c) else if x.ment id then .w else x
def killB (id : Nat) : List (Nat × Ct) → List (Nat × Ct)
  | [] => []
  | (i, .box T x) :: l => (i, if x.ment id then .box T (x.forg id) else .box T x) :: killB id l
  | (i, c) :: l => (i, c) :: killB id l
def AState.forget (s : AState) (v : AV) : AState := match v with
  | .own id _ _ _ => ⟨s.s, killB id s.b⟩
  | _ => s

theorem killB_lk {id : Nat} : ∀ {l : List (Nat × Ct)} {i : Nat} {c : Ct}, lk (killB id l) i = some c → lk l i = some c ∨ ∃ T x, lk l i = some (.box T x) ∧ c = .box T (x.forg id)
  | [], _, _, h => by simp [killB, lk] at h
  | (j, e) :: l, i, c, h => by
    have step : ∀ e', lk ((j, e') :: killB id l) i = some c → (e' = e ∨ ∃ T x, e = .box T x ∧ e' = .box T (x.forg id)) → lk ((j, e) :: l) i = some c ∨ ∃ T x, lk ((j, e) :: l) i = some (.box T x) ∧ c = .box T (x.forg id) := by
      intro e' h he
      by_cases hji : j = i
      · simp only [lk, if_pos hji] at h ⊢
        have h := Option.some.inj h
        subst h
        rcases he with rfl | ⟨T, x, rfl, rfl⟩
        · exact .inl rfl
        · exact .inr ⟨T, x, rfl, rfl⟩
      · simp only [lk, if_neg hji] at h ⊢
        exact killB_lk h
    cases e with
    | box T x =>
      simp only [killB] at h
      by_cases hm : x.ment id = true
      · rw [if_pos hm] at h; exact step _ h (.inr ⟨T, x, rfl, rfl⟩)
      · rw [if_neg hm] at h; exact step _ h (.inl rfl)
    | _ => simp only [killB] at h; exact step _ h (.inl rfl)

theorem forg_len {id : Nat} {x : AV} (h : oneAll x) : (x.forg id).cells.length = x.cells.length := by
  unfold AV.forg
  by_cases hs : x.isSt = true
  · rw [if_pos hs]; simp [AV.cells]
  · rw [if_neg hs]
    split
    · cases x <;> simp_all [AV.isSt, AV.cells]
    · rfl
theorem forg_cells {id : Nat} {x : AV} {i : Nat} {c : AV} (h : (x.forg id).cells[i]? = some c) : x.cells[i]? = some c ∨ (c = .w ∧ i < x.cells.length) := by
  unfold AV.forg at h
  by_cases hs : x.isSt = true
  · rw [if_pos hs] at h
    simp only [AV.cells, List.getElem?_map] at h
    cases hx : x.cells[i]? with
    | none =>
      cases x <;> simp_all [AV.cells, AV.isSt]
    | some y =>
      have hi := (List.getElem?_eq_some_iff.1 hx).1
      cases x with
      | st cs =>
        simp only [AV.cells] at hx hi h
        rw [hx] at h
        simp only [Option.map_some, Option.some.injEq] at h
        split at h
        · exact .inr ⟨h.symm, hi⟩
        · subst h; exact .inl rfl
      | _ => simp [AV.isSt] at hs
  · rw [if_neg hs] at h
    split at h
    · cases x with
      | st cs => simp [AV.isSt] at hs
      | _ =>
        simp only [AV.cells] at h ⊢
        cases i with
        | zero => simp at h; exact .inr ⟨h.symm, by simp⟩
        | succ i => simp at h
    · exact .inl h

theorem CtRep.forg {id : Nat} {T : TypeId} {x : AV} {bd : Bd} (h : CtRep H ρ w bd (.box T x)) : CtRep H ρ w bd (.box T (x.forg id)) := by
  obtain ⟨b, cap, vs, h1, h2, h3, h4, h5⟩ := h
  have hl := forg_len (id := id) h4
  refine ⟨b, cap, vs, h1, h2, ⟨by rw [hl]; exact h3.1, fun i c u hc hu => ?_⟩, fun c hc => ?_, by rw [hl]; exact h5⟩
  · rcases forg_cells hc with h | ⟨rfl, hi⟩
    · exact h3.2 i c u h hu
    · exact .w ((h3.2 i _ u (List.getElem?_eq_getElem hi) hu).okV (h4 _ (List.getElem_mem hi)))
  · obtain ⟨i, hi⟩ := List.getElem?_of_mem hc
    rcases forg_cells hi with h | ⟨rfl, _⟩
    · exact h4 c (List.mem_of_getElem? h)
    · rfl

theorem Sim.forget {s : AState} (hs : Sim E H ρ s.slot s.box a w) (v : AV) : Sim E H ρ (s.forget v).slot (s.forget v).box a w := by
  unfold AState.forget
  split
  · rename_i id _ _ _
    have hb : ∀ i c, lk (killB id s.b) i = some c → s.box i = some c ∨ ∃ T x, s.box i = some (.box T x) ∧ c = .box T (x.forg id) := fun i c h => killB_lk h
    refine ⟨hs.ext, hs.slots, hs.size, hs.defers, ⟨fun i c hc => ?_, fun i c b cap hc hbd => ?_, fun i i' c c' b cap cap' hc hc' h1 h2 => ?_⟩, hs.h0, hs.new, hs.frame, hs.keep, hs.nle⟩
    · rcases hb i c hc with h | ⟨T, x, h, rfl⟩
      · exact hs.boxes.rep i c h
      · exact (hs.boxes.rep i _ h).forg
    · rcases hb i c hc with h | ⟨T, x, h, rfl⟩
      · exact hs.boxes.apart i c b cap h hbd
      · exact hs.boxes.apart i _ b cap h hbd
    · have g : ∀ i c, lk (killB id s.b) i = some c → ∃ c0, s.box i = some c0 := fun i c h => (hb i c h).elim (fun h => ⟨_, h⟩) (fun ⟨T, x, h, _⟩ => ⟨_, h⟩)
      obtain ⟨c0, h0⟩ := g i c hc
      obtain ⟨c1, h3⟩ := g i' c' hc'
      exact hs.boxes.inj i i' c0 c1 b cap cap' h0 h3 h1 h2
  · exact hs

theorem aAppend_sound {T ty : TypeId} {v x : AV} {vv vx : Value} {s : AState} {d : Option Tmp} {K : AState → Prop} (hs : Sim E H ρ s.slot s.box a w) (hd : ∀ t, d = some t → t < E.n) (hv : Rep H ρ v vv) (hx : Rep H ρ x vx) (h : aAppend P T v x s d K) :
    ∃ u w' s' ρ', K s' ∧ Sim E H ρ' s'.slot s'.box (a.put d u) w' ∧ (Builtin.append_ #[T, T] ty #[vv, vx]).run P w = .ok u w' := by
  unfold aAppend at h
  split at h
  · rename_i e hT
    obtain ⟨⟨hok, hk0, hz⟩, h⟩ := h
    obtain ⟨i, hi⟩ := info_of_okT hok
    have hsize : i.size = P.cellsOf e := by simp [Program.cellsOf, hi]
    have hbytes : i.bytes = P.bytesOf e := by simp [Program.bytesOf, hi]
    obtain ⟨z, hzeq, hzc⟩ : ∃ z, i.zero = some z ∧ z.cells.size = P.cellsOf e := by
      cases hza : zeroAV P e with
      | none => rw [hza] at hz; simp at hz
      | some za =>
        rw [hza] at hz
        simp at hz
        obtain ⟨i', zv, hi', hzv, rfl⟩ := zeroAV_inv hza
        rw [hi] at hi'
        cases hi'
        refine ⟨zv, hzv, ?_⟩
        have := ((Rep.ofVal (H := H) (ρ := ρ) zv).cellsL hz.1).1.1
        rw [hz.2] at this
        simpa using this.symm
    split at h
    · rename_i id k off n
      split at h
      · rename_i e' k' xs hbx
        obtain ⟨ys, ⟨⟨rfl, hk, hk', rfl, hidl, hn, h63, h48, hmb, hmy⟩, hK⟩, hsy, base, c, rfl, hnews⟩ := aSrc_sound hs hx h
        have hk'' := hk'.symm
        subst hk''
        have hsl : ∀ i, (AState.mk (killL id s.s) ((id, .arr e' k (xs.take n ++ ys)) :: s.b)).slot i = .u ∨ ((AState.mk (killL id s.s) ((id, .arr e' k (xs.take n ++ ys)) :: s.b)).slot i = s.slot i ∧ (s.slot i).ment id = false) := fun i => killL_slot s.s i
        have hbxf : (AState.mk (killL id s.s) ((id, .arr e' k (xs.take n ++ ys)) :: s.b)).box = addF s.box (some id) (some (.arr e' k (xs.take n ++ ys))) := rfl
        have hmx : mentL id xs = false := by have := mentB_box hmb hbx; simpa only [Ct.ment] using this
        have hmnew : mentL id ((xs.take n ++ ys).flatMap AV.cells) = false := mentL_flat_false (by rw [mentL_append, mentL_take hmx, hmy]; rfl)
        have hnl : (xs.take n).length = n := by simp; omega
        by_cases hy0 : ys = []
        · -- nothing is appended
          subst hy0
          have hrunz : ∀ sb cc, n ≤ cc → (Builtin.append_ #[T, T] ty #[.slice sb n cc, .slice base 0 c]).run P w = .ok (.slice sb n cc) w := fun sb cc hcc => run_append_zero hT hok hcc
          rcases hs.boxes.rep _ _ hbx with ⟨hnil, hxs⟩ | ⟨b', cap', cur, hbd, hheap, hmax, hcap, hsz, hrep, hall⟩
          · subst hxs
            have hn0 : n = 0 := by simpa using hn
            subst hn0
            cases hv with
            | own hρ => rw [hnil] at hρ; cases hρ
            | ownNil hρ =>
              refine ⟨_, w, _, ρ, hK, ?_, hrunz _ _ (Nat.zero_le _)⟩
              rw [AState.slot_put, AState.box_put]
              refine Sim.put ?_ hd (.ownNil hρ)
              refine hs.weaken (fun i => ?_) (fun j cj hj => Or.inl ?_)
              · rcases hsl i with h | h
                · exact .inl h
                · exact .inr h.1
              · rw [hbxf] at hj
                simp only [addF] at hj
                split at hj
                · rename_i e; subst e; rw [hbx]; simpa using hj
                · exact hj
          · cases hv with
            | ownNil hρ => rw [hbd] at hρ; cases hρ
            | own hρ hn' hm' =>
              rename_i b cap
              obtain ⟨rfl, rfl⟩ := rho_at hρ hbd
              refine ⟨_, w, _, ρ, hK, ?_, hrunz _ _ (by omega)⟩
              rw [AState.slot_put, AState.box_put]
              have hsim : Sim E H ρ s.slot (addF s.box (some id) (some (.arr e' k (xs.take n ++ [])))) a w := by
                refine hs.write hbx hρ rfl rfl ⟨rfl, Nat.le_refl _⟩ rfl (fun _ _ => rfl) (.inr ⟨b, cap, cur, rfl, hheap, hmax, by simp; omega, hsz, ?_, ?_⟩)
                · have hfl := flat_len (fun x hx => (hall x hx).1)
                  have e1 : (xs.take n).flatMap AV.cells = (xs.flatMap AV.cells).take (n * k) := by
                    conv => rhs; rw [← List.take_append_drop n xs]
                    rw [List.flatMap_append]
                    have : ((xs.take n).flatMap AV.cells).length = n * k := by rw [flat_len (fun x hx => (hall x (List.mem_of_mem_take hx)).1), hnl]
                    rw [← this, List.take_left]
                  rw [List.append_nil, hnl, e1]
                  have := hrep.take (n * k)
                  rw [List.take_take, show min (n * k) (xs.length * k) = n * k from Nat.min_eq_left (Nat.mul_le_mul_right _ hn)] at this
                  exact this
                · intro y hy
                  rw [List.append_nil] at hy
                  exact hall y (List.mem_of_mem_take hy)
              refine Sim.put (hsim.weaken (fun i => ?_) (fun j cj hj => Or.inl hj)) hd (.own hρ (by simp; omega) hm')
              rcases hsl i with h | h
              · exact .inl h
              · exact .inr h.1
        · obtain ⟨ad, rfl, news, hnr, hnc⟩ := hnews hy0
          have hyfl := flat_len (fun y hy => (hsy y hy).1)
          have hnl2 : news.length = ys.length * k := by rw [← hnr.1]; exact hyfl
          have hn1 : ∀ u ∈ news, u.oneCell' = true := fun u hu => okV_oneCell (hnr.ok (fun c hc => by
            obtain ⟨y, hy, hcy⟩ := List.mem_flatMap.1 hc
            exact (hsy y hy).2 c hcy) u hu)
          have hypos : 0 < ys.length := by cases ys with | nil => exact absurd rfl hy0 | cons => simp
          -- what is known of the old elements
          have grown : ∀ (w2 : World) (cap2 : Nat) (olds : List Value), RepL H ρ ((xs.take n).flatMap AV.cells) olds → w2.heap.size = w.heap.size → (∀ k : Nat, w2.heap[k]? = w.heap[k]?) → w2.os = w.os → w2.tape = w.tape → (w2.output = w.output ∧ w.drawn ≤ w2.drawn) →
              n + ys.length ≤ cap2 → cap2 ≤ maxLen → (∀ y ∈ xs.take n, y.cells.length = k ∧ oneAll y) →
              Sim E H (ρ.upd id (.at w.heap.size cap2)) ((AState.mk (killL id s.s) ((id, .arr e' k (xs.take n ++ ys)) :: s.b)).put d (.own id k 0 (n + ys.length))).slot
                ((AState.mk (killL id s.s) ((id, .arr e' k (xs.take n ++ ys)) :: s.b)).put d (.own id k 0 (n + ys.length))).box (a.put d (.slice (some ⟨w.heap.size, 0, none⟩) (n + ys.length) cap2))
                (w2.alloc (.cells (olds.toArray ++ news.toArray ++ Builtin.zeroCells z.cells (cap2 - (n + ys.length))) e')) := by
            intro w2 cap2 olds hor hsz2 hheq hos htape hout hcap2 hmax2 hallx
            have hol : olds.length = n * k := by rw [← hor.1, flat_len (fun y hy => (hallx y hy).1), hnl]
            rw [AState.slot_put, AState.box_put]
            have hno : ∀ k, k < w.heap.size → (w2.alloc (.cells (olds.toArray ++ news.toArray ++ Builtin.zeroCells z.cells (cap2 - (n + ys.length))) e')).heap[k]? = w.heap[k]? := by
              intro k hk
              rw [heap_alloc_old _ _ (by omega)]
              exact hheq k
            have hnb : (w2.alloc (.cells (olds.toArray ++ news.toArray ++ Builtin.zeroCells z.cells (cap2 - (n + ys.length))) e')).heap[w.heap.size]? = some (.cells (olds.toArray ++ news.toArray ++ Builtin.zeroCells z.cells (cap2 - (n + ys.length))) e') := by
              rw [← hsz2]; exact heap_alloc_new _ _
            have hsim := hs.rebind (hidl := hidl) (id := id) (b := w.heap.size) (cap := cap2) (c' := .arr e' k (xs.take n ++ ys)) (w' := w2.alloc (.cells (olds.toArray ++ news.toArray ++ Builtin.zeroCells z.cells (cap2 - (n + ys.length))) e'))
              hos htape hout hno (Nat.le_refl _) (by simp [hsz2]) (fun j c hc => mentB_box hmb hc) hsl (by
                refine .inr ⟨w.heap.size, cap2, _, rfl, hnb, hmax2, by simp [hnl]; omega, ?_, ?_, ?_⟩
                · simp only [Array.size_append, List.size_toArray, size_zeroCells, hzc, hol, hnl2, ← hk, ← Nat.add_mul]
                  congr 1
                  omega
                · rw [List.flatMap_append]
                  have : (olds.toArray ++ news.toArray ++ Builtin.zeroCells z.cells (cap2 - (n + ys.length))).toList.take ((xs.take n ++ ys).length * k) = olds ++ news := by
                    rw [Array.toList_append, Array.toList_append, List.toList_toArray, List.toList_toArray]
                    have : (xs.take n ++ ys).length * k = (olds ++ news).length := by rw [List.length_append, List.length_append, hnl, hol, hnl2, Nat.add_mul]
                    rw [this, List.take_left]
                  rw [this]
                  rw [List.flatMap_append] at hmnew
                  exact (hor.append hnr).upd hmnew
                · intro y hy
                  rcases List.mem_append.1 hy with h | h
                  · exact hallx y h
                  · exact hsy y h)
            rw [hbxf]
            refine hsim.put hd ?_
            have := Rep.own (H := H) (ρ := ρ.upd id (.at w.heap.size cap2)) (id := id) (k := k) (off := 0) (n := n + ys.length) (b := w.heap.size) (cap := cap2) (Rho.upd_same _ _ _) (by omega) hmax2
            simpa using this
          rcases hs.boxes.rep _ _ hbx with ⟨hnil, hxs⟩ | ⟨b', cap', cur, hbd, hheap, hmax, hcap, hsz, hrep, hall⟩
          · subst hxs
            have hn0 : n = 0 := by simpa using hn
            subst hn0
            cases hv with
            | own hρ => rw [hnil] at hρ; cases hρ
            | ownNil hρ =>
              have hr := run_append_nil (P := P) w T ty e' i z hT hi hzeq ad ys.length c news (by rw [hnl2, hsize, hk]) hnc hypos (by omega) (by rw [hbytes]; simp only [Nat.zero_add] at h48; omega)
              have hg := grown w.drew (grownCap w ys.length 0 e') [] (by simpa using RepL.nil) rfl (fun _ => rfl) rfl rfl ⟨rfl, Nat.le_succ _⟩ (by have := grownCap_ge w ys.length 0 e'; omega) (grownCap_le_maxLen w _ _ _ (by unfold maxLen; omega)) (by simp)
              refine ⟨_, _, _, ρ.upd id (.at w.heap.size (grownCap w ys.length 0 e')), hK, ?_, hr⟩
              simpa using hg
          · cases hv with
            | ownNil hρ => rw [hbd] at hρ; cases hρ
            | own hρ hn' hm' =>
              rename_i b cap
              obtain ⟨rfl, rfl⟩ := rho_at hρ hbd
              have hfl := flat_len (fun x hx => (hall x hx).1)
              have e1 : (xs.take n).flatMap AV.cells = (xs.flatMap AV.cells).take (n * k) := by
                conv => rhs; rw [← List.take_append_drop n xs]
                rw [List.flatMap_append]
                have : ((xs.take n).flatMap AV.cells).length = n * k := by rw [flat_len (fun x hx => (hall x (List.mem_of_mem_take hx)).1), hnl]
                rw [← this, List.take_left]
              have hold : RepL H ρ ((xs.take n).flatMap AV.cells) (cur.toList.take (n * k)) := by
                have := hrep.take (n * k)
                rw [List.take_take, show min (n * k) (xs.length * k) = n * k from Nat.min_eq_left (Nat.mul_le_mul_right _ hn)] at this
                rw [e1]; exact this
              have hncap : n * k ≤ cap * k := Nat.mul_le_mul_right _ (by omega)
              simp only [Nat.zero_mul, Nat.sub_zero]
              by_cases hroom : n + ys.length ≤ cap
              · have hrk : (n + ys.length) * k ≤ cap * k := Nat.mul_le_mul_right _ hroom
                rw [Nat.add_mul] at hrk
                have hr := run_append_room (P := P) w T ty e' i hT hi b n cap cur hheap ad ys.length c news (by rw [hnl2, hsize, hk]) hnc hn1 hroom (by rw [hsize, ← hk, hnl2, hsz]; omega)
                refine ⟨_, _, _, ρ, hK, ?_, hr⟩
                rw [AState.slot_put, AState.box_put, hbxf]
                have hsim := hs.write (c' := .arr e' k (xs.take n ++ ys)) (w' := w.setRow b (cur.toList.take (n * i.size) ++ news ++ cur.toList.drop (n * i.size + news.length)).toArray) hbx hρ rfl rfl ⟨rfl, Nat.le_refl _⟩ (setRow_size _ _ _) (fun j hj => setRow_other w b j _ hj)
                  (.inr ⟨b, cap, _, rfl, setRow_heap w b _ _ _ _ hheap, hmax, by simp [hnl]; omega, by
                    have hcl : cur.toList.length = cap * k := by simpa using hsz
                    rw [hsize, ← hk, List.size_toArray, List.length_append, List.length_append, List.length_take, List.length_drop, hnl2]
                    omega, by
                    rw [hsize, ← hk, List.flatMap_append]
                    have : ((cur.toList.take (n * k) ++ news ++ cur.toList.drop (n * k + news.length)).toArray.toList.take ((xs.take n ++ ys).length * k)) = cur.toList.take (n * k) ++ news := by
                      rw [List.toList_toArray]
                      have : (xs.take n ++ ys).length * k = (cur.toList.take (n * k) ++ news).length := by
                        have hcl : cur.toList.length = cap * k := by simpa using hsz
                        rw [List.length_append, List.length_append, hnl, hnl2, Nat.add_mul, List.length_take]
                        omega
                      rw [this, List.take_left]
                    rw [this]
                    exact hold.append hnr, by
                    intro y hy
                    rcases List.mem_append.1 hy with h | h
                    · exact hall y (List.mem_of_mem_take h)
                    · exact hsy y h⟩)
                refine Sim.put (hsim.weaken (fun i => ?_) (fun j cj hj => Or.inl hj)) hd ?_
                · rcases hsl i with h | h
                  · exact .inl h
                  · exact .inr h.1
                · have := Rep.own (H := H) (ρ := ρ) (id := id) (k := k) (off := 0) (n := n + ys.length) hρ (by omega) hm'
                  simpa using this
              · have hr := run_append_grow (P := P) w T ty e' i z hT hi hzeq ⟨b, 0, none⟩ n cap (cur.toList.take (n * k)) (by rw [hsize, ← hk, List.length_take, Array.length_toList]; omega)
                  (fun j u hu => by
                    rw [Addr.add_mk, cell_of_row w b _ _ _ _ hheap]
                    rw [List.getElem?_take] at hu
                    split at hu
                    · simpa using hu
                    · cases hu) ad ys.length c news (by rw [hnl2, hsize, hk]) hnc (by omega) (by omega) (growslice_fits (by omega) (by rw [hbytes]; exact h48))
                have hg := grown w.drew (grownCap w (n + ys.length) cap e') (cur.toList.take (n * k)) hold rfl (fun _ => rfl) rfl rfl ⟨rfl, Nat.le_succ _⟩ (grownCap_ge w _ _ _) (grownCap_le_maxLen w _ _ _ (by unfold maxLen; omega)) (fun y hy => hall y (List.mem_of_mem_take hy))
                exact ⟨_, _, _, _, hK, hg, hr⟩
      · exact h.elim
    · rename_i n c
      split at h
      · rename_i t
        obtain ⟨ys, ⟨⟨rfl, rfl, h63, h48, hmb, hmy⟩, hK⟩, hsy, base, c, rfl, hnews⟩ := aSrc_sound hs hx h
        rw [hv.v_inv]
        have hsl : ∀ i, (AState.mk (killL t s.s) ((t, .arr e (P.cellsOf e) ys) :: s.b)).slot i = .u ∨ ((AState.mk (killL t s.s) ((t, .arr e (P.cellsOf e) ys) :: s.b)).slot i = s.slot i ∧ (s.slot i).ment t = false) := fun i => killL_slot s.s i
        have hbxf : (AState.mk (killL t s.s) ((t, .arr e (P.cellsOf e) ys) :: s.b)).box = addF s.box (some t) (some (.arr e (P.cellsOf e) ys)) := rfl
        by_cases hy0 : ys = []
        · subst hy0
          -- the nil row
          refine ⟨.slice none 0 0, w, _, ρ.upd t .nil, hK, ?_, run_append_zero hT hok (Nat.le_refl _)⟩
          rw [AState.slot_put, AState.box_put, hbxf]
          refine Sim.put ?_ hd (.ownNil (Rho.upd_same _ _ _))
          have hρne : ∀ j, j ≠ t → (ρ.upd t .nil) j = ρ j := fun j hne => by simp [Rho.upd, hne]
          refine ⟨hs.ext, fun i => ?_, hs.size, hs.defers, ⟨fun id' c2 hc2 => ?_, fun id' c2 b' cap' hc2 hb' => ?_, fun i j ci cj bi capi capj hi hj hbi hbj => ?_⟩, hs.h0, hs.new, hs.frame, fun i hi => (hρne i (fun e => absurd (Nat.lt_of_lt_of_le (hd t rfl) hs.nle) (Nat.not_lt.2 (e ▸ hi)))).trans (hs.keep i hi), hs.nle⟩
          · rcases hsl i with e | ⟨e, hme⟩
            · rw [e]; exact .u
            · rw [e]; exact (hs.slots i).upd hme
          · simp only [addF] at hc2
            split at hc2
            · rename_i e; subst e; cases hc2; rw [Rho.upd_same]; exact .inl ⟨rfl, rfl⟩
            · rename_i hne
              rw [hρne id' (fun e => hne e.symm)]
              refine (hs.boxes.rep id' c2 hc2).mono H.le_refl (fun j hj => hρne j (fun e => ?_)) (fun _ _ _ => rfl)
              rw [e, mentB_box hmb hc2] at hj
              cases hj
          · simp only [addF] at hc2
            split at hc2
            · rename_i e; subst e; rw [Rho.upd_same] at hb'; cases hb'
            · rename_i hne
              rw [hρne id' (fun e => hne e.symm)] at hb'
              exact hs.boxes.apart id' c2 b' cap' hc2 hb'
          · simp only [addF] at hi hj
            split at hi
            · rename_i e; subst e; rw [Rho.upd_same] at hbi; cases hbi
            · rename_i hne
              split at hj
              · rename_i e; subst e; rw [Rho.upd_same] at hbj; cases hbj
              · rename_i hne'
                rw [hρne i (fun e => hne e.symm)] at hbi
                rw [hρne j (fun e => hne' e.symm)] at hbj
                exact hs.boxes.inj i j ci cj bi capi capj hi hj hbi hbj
        · obtain ⟨ad, rfl, news, hnr, hnc⟩ := hnews hy0
          have hyfl := flat_len (fun y hy => (hsy y hy).1)
          have hnl2 : news.length = ys.length * P.cellsOf e := by rw [← hnr.1]; exact hyfl
          have hypos : 0 < ys.length := by cases ys with | nil => exact absurd rfl hy0 | cons => simp
          have hr := run_append_nil (P := P) w T ty e i z hT hi hzeq ad ys.length c news (by rw [hnl2, hsize]) hnc hypos (by omega) (by rw [hbytes]; omega)
          refine ⟨_, _, _, ρ.upd t (.at w.heap.size (grownCap w ys.length 0 e)), hK, ?_, hr⟩
          rw [AState.slot_put, AState.box_put, hbxf]
          have hge := grownCap_ge w ys.length 0 e
          have hmax2 := grownCap_le_maxLen w ys.length 0 e (by unfold maxLen; omega)
          have hsim := hs.rebind (hidl := Nat.lt_of_lt_of_le (hd t rfl) hs.nle) (id := t) (b := w.heap.size) (cap := grownCap w ys.length 0 e) (c' := .arr e (P.cellsOf e) ys) (w' := w.drew.alloc (.cells (news.toArray ++ Builtin.zeroCells z.cells (grownCap w ys.length 0 e - ys.length)) e))
            rfl rfl ⟨rfl, Nat.le_succ _⟩ (fun k hk => heap_alloc_old _ _ (by simpa using hk)) (Nat.le_refl _) (by simp) (fun j c hc => mentB_box hmb hc) hsl (by
              refine .inr ⟨w.heap.size, _, _, rfl, heap_alloc_new w.drew _, hmax2, hge, ?_, ?_, hsy⟩
              · simp only [Array.size_append, List.size_toArray, size_zeroCells, hzc, hnl2, ← Nat.add_mul]
                congr 1
                omega
              · have : (news.toArray ++ Builtin.zeroCells z.cells (grownCap w ys.length 0 e - ys.length)).toList.take (ys.length * P.cellsOf e) = news := by
                  rw [Array.toList_append, List.toList_toArray, ← hnl2, List.take_left]
                rw [this]
                exact hnr.upd (mentL_flat_false hmy))
          refine hsim.put hd ?_
          have := Rep.own (H := H) (ρ := ρ.upd t (.at w.heap.size (grownCap w ys.length 0 e))) (id := t) (k := P.cellsOf e) (off := 0) (n := ys.length) (Rho.upd_same _ _ _) (by omega) hmax2
          simpa using this
      · exact h.elim
    · exact h.elim
  · exact h.elim

end
end Go.Am
