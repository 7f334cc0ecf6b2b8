/- The abstract machine, part 22: slices.SortFunc on a row of flat structs, out of the library's own contract. -/
import Derived.Test.YtmjckbokjjnmeaaAmAuto
import Derived.Shelf.SlSortCmp.NoneTotal
import Derived.Shelf.SortM.Plain
import Derived.Shelf.SortM.SortNone
namespace Go.Am
open Go.RowKit Go.Proofs Go.Sort

theorem grow_of_bel {w w' : World} (h : Bel w.heap.size w w') : ∃ q os, w' = grow (w.drewN q) os := by
  obtain ⟨⟨h1, h2, h3, h4, h5⟩, h6⟩ := h
  refine ⟨w'.drawn - w.drawn, w'.heap.extract w.heap.size w'.heap.size, ?_⟩
  have hh : w'.heap = w.heap ++ w'.heap.extract w.heap.size w'.heap.size := by
    apply Array.ext_getElem?
    intro i
    by_cases hi : i < w.heap.size
    · rw [Array.getElem?_append_left hi, h5 i hi]
    · rw [Array.getElem?_append_right (by omega), Array.getElem?_extract]
      by_cases hj : i < w'.heap.size
      · simp only [Nat.min_self]
        rw [if_pos (by omega)]
        congr 1; omega
      · simp only [Nat.min_self]
        rw [if_neg (by omega), Array.getElem?_eq_none (by omega)]
  cases w
  cases w'
  simp only [grow, World.drewN] at *
  subst h1; subst h2; subst h3
  simp only [World.mk.injEq, true_and, and_true]
  refine ⟨hh, ?_⟩
  omega

variable {P : Program} {ρs : Go.Shelf.Ren} {α : Type}

theorem flatK_list [Inhabited α] {enc : α → List Value} {k : Nat} (hk : ∀ x, (enc x).length = k) (l : List α) : (flatK enc k l.toArray).toList = l.flatMap enc := by
  apply List.ext_getElem?
  intro i
  have hlen : (l.flatMap enc).length = l.length * k := by
    induction l with
    | nil => simp
    | cons x l ih => simp [List.flatMap_cons, hk, ih, Nat.add_mul, Nat.add_comm]
  by_cases hi : i < l.length * k
  · have h0 : 0 < k := by rcases Nat.eq_zero_or_pos k with h | h
                          · subst h; simp at hi
                          · exact h
    have hd : i / k < l.length := (Nat.div_lt_iff_lt_mul h0).2 hi
    have hm : i % k < k := Nat.mod_lt _ h0
    have e1 := get_flatK enc k l.toArray i (by simpa using hi)
    have hsz : i < (flatK enc k l.toArray).size := by simpa using hi
    rw [getElem!_pos (flatK enc k l.toArray) i hsz] at e1
    have e2 : (flatK enc k l.toArray).toList[i]? = some ((enc l.toArray[i / k]!)[i % k]!) := by
      rw [Array.getElem?_toList, Array.getElem?_eq_getElem hsz, e1]
    rw [e2]
    have key : ∀ (l : List α) (i : Nat), i / k < l.length → (l.flatMap enc)[i]? = some ((enc l[i / k]!)[i % k]!) := by
      intro l
      induction l with
      | nil => intro i h; simp at h
      | cons x l ih =>
        intro i h
        rw [List.flatMap_cons]
        by_cases hik : i < k
        · rw [List.getElem?_append_left (by rw [hk]; exact hik), Nat.div_eq_of_lt hik, Nat.mod_eq_of_lt hik]
          have : i < (enc x).length := by rw [hk]; exact hik
          simp [this]
        · have e : i / k = (i - k) / k + 1 := by rw [Nat.div_eq_sub_div h0 (by omega)]
          have e' : i % k = (i - k) % k := by rw [Nat.mod_eq_sub_mod (by omega)]
          rw [List.getElem?_append_right (by rw [hk]; omega), hk, ih (i - k) (by rw [e] at h; simpa using h), e, e']
          simp
    rw [key l i hd]
    simp [hd]
  · rw [List.getElem?_eq_none (by simp; omega), List.getElem?_eq_none (by omega)]

/-- A struct of plain cells. -/
def encS (enc : α → List Value) (x : α) : AV := .st ((enc x).map .v)

theorem repL_v {H : Heap} {ρ : Rho} : ∀ {vs us : List Value}, RepL H ρ (vs.map .v) us → us = vs
  | [], us, h => h.nil_inv
  | v :: vs, us, h => by
    obtain ⟨u, us', rfl, h1, h2⟩ := h.cons_inv
    rw [Rep.v_inv h1, repL_v h2]
theorem repL_v_mk {H : Heap} {ρ : Rho} : ∀ {vs : List Value}, (∀ v ∈ vs, okV v = true) → RepL H ρ (vs.map .v) vs
  | [], _ => RepL.nil
  | v :: vs, h => RepL.cons (.v (h v List.mem_cons_self)) (repL_v_mk (fun u hu => h u (List.mem_cons_of_mem _ hu)))

theorem flatMap_encS (enc : α → List Value) (l : List α) : (l.map (encS enc)).flatMap AV.cells = (l.flatMap enc).map .v := by
  induction l with
  | nil => rfl
  | cons x l ih => simp only [List.map_cons, List.flatMap_cons, List.map_append, ih]; rfl

theorem length_flatMap_enc {enc : α → List Value} {k : Nat} (hk : ∀ x, (enc x).length = k) (l : List α) : (l.flatMap enc).length = l.length * k := by
  induction l with
  | nil => simp
  | cons x l ih => simp [List.flatMap_cons, hk, ih, Nat.add_mul, Nat.add_comm]

/-- The sorted list. -/
def sortL (cf : α → α → Int) (l : List α) : List α := l.mergeSort fun x y => !(ltOf cf) y x

/-- SLICES.SORTFUNC on a whole row: sorted, in place. -/
theorem sortFunc_m [Inhabited α] (L : SlLaysF0.n6 P ρs) {f g : FuncId} {T : TypeId} (hf : ρs.f 6 = f) (hT : ρs.t 24 = T) (ent : Ent P f) (hokT : okT P T = true) (hagg : aggB P T = true) (enc : α → List Value) (k : Nat) (hk : ∀ x, (enc x).length = k) (hkT : P.cellsOf T = k)
    (h1 : ∀ x, ∀ v ∈ enc x, okV v = true) (cf : α → α → Int) (hO : SWO (ltOf cf)) (hT' : ∀ x y, (ltOf cf) x y = false → (ltOf cf) y x = false → x = y) (hcmp : ∀ x y, PSpec P g [encS enc x, encS enc y] (.v (.int .i64 (cf x y))))
    (T' : TypeId) (l : List α) (hl : l.length < 4611686018427387904) :
    MSpec P f [.own 1000000 k 0 l.length, .fn (.func g) [] []] [(1000000, .arr T' k (l.map (encS enc)))] (fun res bf => res = .tup [] ∧ bf 1000000 = some (.arr T' k ((sortL cf l).map (encS enc)))) := by
  refine ⟨ent, ?_⟩
  intro H ρ w vs he hb hr
  obtain ⟨v1, vs1, rfl, hv1, hr⟩ := hr.cons_inv
  obtain ⟨v2, vs2, rfl, hv2, hr⟩ := hr.cons_inv
  rw [hr.nil_inv]
  have hfv : v2 = .func (.func g) #[] #[] := by
    cases hv2 with
    | fn hl1 hl2 _ _ =>
      have e1 := List.eq_nil_of_length_eq_zero hl1.symm
      have e2 := List.eq_nil_of_length_eq_zero hl2.symm
      rw [e1, e2]
  subst hfv
  have hbox : lk [(1000000, Ct.arr T' k (l.map (encS enc)))] 1000000 = some (.arr T' k (l.map (encS enc))) := rfl
  have hrep := hb.rep _ _ hbox
  have hlkid : ∀ i c, lk [(1000000, Ct.arr T' k (l.map (encS enc)))] i = some c → i = 1000000 ∧ c = .arr T' k (l.map (encS enc)) := by
    intro i c h
    simp only [lk] at h
    split at h
    · rename_i e; cases h; exact ⟨e.symm, rfl⟩
    · cases h
  by_cases hnil : l = []
  · subst hnil
    obtain ⟨p, cap, rfl⟩ : ∃ p cap, v1 = .slice p 0 cap := by
      cases hv1 with
      | ownNil => exact ⟨none, 0, rfl⟩
      | own => exact ⟨_, _, rfl⟩
    have := AnyF.slices_SortFunc_none L p cap (.func (.func g) #[] #[]) w
    rw [hf] at this
    refine this.mono fun e w' hh => ?_
    obtain ⟨rfl, n, rfl⟩ : e = .returned (.tuple #[]) ∧ ∃ n, w' = w.drewN n := by
      first
        | exact ⟨hh.1, 0, hh.2⟩
        | exact ⟨hh.1, hh.2⟩
        | (obtain ⟨a, b, c⟩ := hh; exact ⟨a, b, c⟩)
    refine ⟨H, ρ, .tup [], lk [(1000000, .arr T' k [])], _, rfl, ⟨rfl, by simp [sortL]⟩, H.le_refl, (fun b o u h1 h2 => by rw [h1] at h2; cases h2), he, ?_, .tup (vs := []) rfl (by simp), ?_, fun i _ => rfl⟩
    · refine ⟨hb.rep, fun id c b cap h1 h2 => ?_, hb.inj⟩
      obtain ⟨h3, h4, _⟩ := hb.apart id c b cap h1 h2
      exact ⟨h3, h4, .inr ⟨id, c, cap, h1, h2⟩⟩
    · exact ⟨rfl, rfl, ⟨rfl, by simp [World.drewN]⟩, Nat.le_refl _, fun _ _ _ => rfl⟩
  · rcases hrep with ⟨_, hx⟩ | ⟨b, cap, cur, hbd, hheap, hmax, hcap, hsz, hcells, hall⟩
    · exact absurd (List.map_eq_nil_iff.1 hx) hnil
    rw [List.length_map] at hcap hcells
    rw [flatMap_encS] at hcells
    have hcur := repL_v hcells
    generalize hn0 : l.length = n0 at hv1
    have hv1' : v1 = .slice (some ⟨b, 0, none⟩) n0 cap := by
      cases hv1 with
      | ownNil h => rw [hbd] at h; cases h
      | own h hn hm =>
        rw [hbd] at h
        cases h
        rw [Nat.zero_mul, Nat.sub_zero]
    subst hn0
    subst hv1'
    obtain ⟨hH0, hbs, _⟩ := hb.apart _ _ _ _ hbox hbd
    have hne : cur.size = cap * k := hsz
    have hlk : l.length * k ≤ cap * k := Nat.mul_le_mul_right _ hcap
    have hholds : HoldsK enc k w b 0 l.toArray := by
      intro j hj
      have hj' : j < l.length * k := by simpa using hj
      have hjc : j < cur.size := by omega
      rw [Nat.zero_add]
      constructor
      · simp only [World.cell?, hheap]
        simp only [Option.isSome_none, Bool.false_eq_true, if_false]
        have e1 : (cur.toList.take (l.length * k))[j]? = (l.flatMap enc)[j]? := by rw [hcur]
        rw [List.getElem?_take_of_lt hj', ← flatK_list hk l, Array.getElem?_toList, Array.getElem?_toList] at e1
        rw [e1, Array.getElem?_eq_getElem hj, getElem!_pos (flatK enc k l.toArray) j hj]
        rfl
      · simp [World.frozen?, hheap]
    have hcm : CmpLays P g #[] enc k cf b 0 l.toArray.size w := by
      intro m os dk hdk x y
      have hx := hcmp x y
      have := hx.2 (fun _ _ => none) (sortWorldK enc k w b 0 m dk os) [.agg (enc x).toArray, .agg (enc y).toArray] (fun _ _ _ h => by cases h)
        (RepL.cons (Rep.st' (repL_v_mk (h1 x)) (by intro c hc; obtain ⟨v, _, rfl⟩ := List.mem_map.1 hc; rfl)) (RepL.cons (Rep.st' (repL_v_mk (h1 y)) (by intro c hc; obtain ⟨v, _, rfl⟩ := List.mem_map.1 hc; rfl)) RepL.nil))
      refine Calls.mono this fun e w' hh => ?_
      obtain ⟨H', v, rfl, _, _, _, hv, hbel⟩ := hh
      rw [Rep.v_inv hv]
      exact ⟨rfl, grow_of_bel hbel⟩
    have hrun := AnyQ.slices_SortFunc_total L k (fun w => by rw [hT, run_isAgg' hokT, hagg]) (fun w => by rw [hT, run_sizeOf' hokT, hkT]) enc hk (fun x v hv => okV_oneCell (h1 x v hv)) cf hO g #[] b 0 cap l.toArray w (hcmp default default).1 hcm hholds hbs (by simpa using hl) hT'
    rw [hf] at hrun
    have e0 : l.toArray.size = l.length := by simp
    rw [e0] at hrun
    refine hrun.mono fun e w' hh => ?_
    obtain ⟨rfl, n, os, rfl⟩ := hh
    have e1 : l.toArray.toList.mergeSort (fun x y => !(ltOf cf) y x) = sortL cf l := rfl
    rw [e1]
    generalize hd : sortL cf l = d
    have hdl : d.length = l.length := by rw [← hd]; exact List.length_mergeSort _
    have hsize : (sortWorldK enc k w b 0 n d.toArray os).heap.size = w.heap.size + os.size := by
      simp [sortWorldK, grow, putRowK, putRow, mapBlock, Sort.ahead]
    have hother : ∀ i, i < w.heap.size → i ≠ b → (sortWorldK enc k w b 0 n d.toArray os).heap[i]? = w.heap[i]? := by
      intro i hi hib
      simp only [sortWorldK, grow, putRowK, putRow, mapBlock, Sort.ahead]
      rw [Array.getElem?_append_left (by simpa using hi), Array.getElem?_modify, if_neg (Ne.symm hib)]
    have hthis : (sortWorldK enc k w b 0 n d.toArray os).heap[b]? = some (.cells (putCells id 0 (flatK enc k d.toArray) cur) T' (0, 0)) := by
      simp only [sortWorldK, grow, putRowK, putRow, mapBlock, Sort.ahead]
      rw [Array.getElem?_append_left (by simpa using hbs), Array.getElem?_modify, if_pos rfl, hheap]
      rfl
    have hcells' : (putCells id 0 (flatK enc k d.toArray) cur).toList.take (d.length * k) = d.flatMap enc := by
      rw [← flatK_list hk d]
      apply List.ext_getElem?
      intro i
      by_cases hi : i < d.length * k
      · have hif : i < (flatK enc k d.toArray).size := by simpa using hi
        have hic : i < cur.size := by rw [hdl] at hi; omega
        rw [List.getElem?_take_of_lt hi, Array.getElem?_toList, Array.getElem?_toList]
        simp only [putCells, Array.getElem?_mapIdx, Array.getElem?_eq_getElem hic, Option.map_some]
        rw [if_pos ⟨Nat.zero_le _, by omega⟩, Nat.sub_zero, getElem!_pos (flatK enc k d.toArray) i hif, Array.getElem?_eq_getElem hif]
        rfl
      · rw [List.getElem?_eq_none (by simp; omega), List.getElem?_eq_none (by simp; omega)]
    have hfr : FrameBut (OwnB ρ (lk [(1000000, Ct.arr T' k (l.map (encS enc)))])) w (sortWorldK enc k w b 0 n d.toArray os) := by
      refine ⟨rfl, rfl, ⟨rfl, by simp [sortWorldK, grow, putRowK, putRow, mapBlock, Sort.ahead]⟩, by rw [hsize]; omega, fun i hi hn => hother i hi ?_⟩
      rintro rfl
      exact hn ⟨1000000, _, cap, hbox, hbd⟩
    have hlk2 : ∀ i c, lk [(1000000, Ct.arr T' k (d.map (encS enc)))] i = some c → i = 1000000 ∧ c = .arr T' k (d.map (encS enc)) := by
      intro i c h
      simp only [lk] at h
      split at h
      · rename_i e; cases h; exact ⟨e.symm, rfl⟩
      · cases h
    refine ⟨H, ρ, .tup [], lk [(1000000, .arr T' k (d.map (encS enc)))], _, rfl, ⟨rfl, rfl⟩, H.le_refl, (fun b o u h1 h2 => by rw [h1] at h2; cases h2), ?_, ?_, .tup (vs := []) rfl (by simp), hfr, fun i _ => rfl⟩
    · intro b' o v hv
      have hne' : b' ≠ b := by rintro rfl; rw [hH0] at hv; cases hv
      have := he b' o v hv
      simp only [World.cell?] at this ⊢
      have hlt : b' < w.heap.size := by
        by_cases hlt : b' < w.heap.size
        · exact hlt
        · rw [Array.getElem?_eq_none (by omega)] at this; cases this
      rw [hother b' hlt hne']
      exact this
    · refine ⟨fun id c h => ?_, fun id c b' cap' h1 h2 => ?_, fun i i' c c' _ _ _ h1 h2 _ _ => by rw [(hlk2 _ _ h1).1, (hlk2 _ _ h2).1]⟩
      · obtain ⟨rfl, rfl⟩ := hlk2 _ _ h
        refine .inr ⟨b, cap, _, hbd, hthis, hmax, by simp only [List.length_map]; omega, by simp [putCells, hsz], ?_, ?_⟩
        · rw [flatMap_encS, List.length_map, hcells']
          exact repL_v_mk (fun v hv => by obtain ⟨x, _, hx⟩ := List.mem_flatMap.1 hv; exact h1 x v hx)
        · intro x hx
          obtain ⟨y, _, rfl⟩ := List.mem_map.1 hx
          exact ⟨by simp [encS, AV.cells, hk], by intro c hc; simp only [encS, AV.cells] at hc; obtain ⟨v, _, rfl⟩ := List.mem_map.1 hc; rfl⟩
      · obtain ⟨rfl, rfl⟩ := hlk2 _ _ h1
        rw [hbd] at h2
        cases h2
        exact ⟨hH0, by rw [hsize]; omega, .inr ⟨1000000, _, cap, hbox, hbd⟩⟩

def sortZ (l : List Int) : List Int := l.mergeSort fun x y => decide (x ≤ y)
def encZ (n : Int) : AV := .v (.int .i64 n)
theorem flatMap_encZ (l : List Int) : (l.map encZ).flatMap AV.cells = (l.map (Value.int .i64)).map .v := by
  induction l with
  | nil => rfl
  | cons x l ih => simp only [List.map_cons, List.flatMap_cons, ih]; rfl
/-- SLICES.SORT on a whole row of ints. -/
theorem sortInts_m (L : SlLaysM.n5 P ρs) {f : FuncId} (hf : ρs.f 5 = f) (ent : Ent P f) (T' : TypeId) (l : List Int) (hl : l.length < 4611686018427387904) :
    MSpec P f [.own 1000000 1 0 l.length] [(1000000, .arr T' 1 (l.map encZ))] (fun res bf => res = .tup [] ∧ bf 1000000 = some (.arr T' 1 ((sortZ l).map encZ))) := by
  refine ⟨ent, ?_⟩
  intro H ρ w vs he hb hr
  obtain ⟨v1, vs1, rfl, hv1, hr⟩ := hr.cons_inv
  rw [hr.nil_inv]
  have hbox : lk [(1000000, Ct.arr T' 1 (l.map (encZ)))] 1000000 = some (.arr T' 1 (l.map (encZ))) := rfl
  have hrep := hb.rep _ _ hbox
  have hlkid : ∀ i c, lk [(1000000, Ct.arr T' 1 (l.map (encZ)))] i = some c → i = 1000000 ∧ c = .arr T' 1 (l.map (encZ)) := by
    intro i c h
    simp only [lk] at h
    split at h
    · rename_i e; cases h; exact ⟨e.symm, rfl⟩
    · cases h
  by_cases hnil : l = []
  · subst hnil
    obtain ⟨p, cap, rfl⟩ : ∃ p cap, v1 = .slice p 0 cap := by
      cases hv1 with
      | ownNil => exact ⟨none, 0, rfl⟩
      | own => exact ⟨_, _, rfl⟩
    have := AnyM.slices_Sort_int_none L p cap w
    rw [hf] at this
    refine this.mono fun e w' hh => ?_
    obtain ⟨rfl, rfl⟩ := hh
    refine ⟨H, ρ, .tup [], lk [(1000000, .arr T' 1 [])], _, rfl, ⟨rfl, by simp [sortZ]⟩, H.le_refl, (fun b o u h1 h2 => by rw [h1] at h2; cases h2), he, ?_, .tup (vs := []) rfl (by simp), ?_, fun i _ => rfl⟩
    · refine ⟨hb.rep, fun id c b cap h1 h2 => ?_, hb.inj⟩
      obtain ⟨h3, h4, _⟩ := hb.apart id c b cap h1 h2
      exact ⟨h3, h4, .inr ⟨id, c, cap, h1, h2⟩⟩
    · exact ⟨rfl, rfl, ⟨rfl, Nat.le_refl _⟩, Nat.le_refl _, fun _ _ _ => rfl⟩
  · rcases hrep with ⟨_, hx⟩ | ⟨b, cap, cur, hbd, hheap, hmax, hcap, hsz, hcells, hall⟩
    · exact absurd (List.map_eq_nil_iff.1 hx) hnil
    rw [List.length_map] at hcap hcells
    rw [flatMap_encZ] at hcells
    have hcur := repL_v hcells
    generalize hn0 : l.length = n0 at hv1
    have hv1' : v1 = .slice (some ⟨b, 0, none⟩) n0 cap := by
      cases hv1 with
      | ownNil h => rw [hbd] at h; cases h
      | own h hn hm =>
        rw [hbd] at h
        cases h
        rw [Nat.zero_mul, Nat.sub_zero]
    subst hn0
    subst hv1'
    obtain ⟨hH0, hbs, _⟩ := hb.apart _ _ _ _ hbox hbd
    rw [Nat.mul_one] at hsz hcur
    have hholds : Holds (Value.int .i64) w b 0 l.toArray := by
      intro j hj
      have hj' : j < l.length := by simpa using hj
      have hjc : j < cur.size := by omega
      rw [Nat.zero_add]
      constructor
      · simp only [World.cell?, hheap]
        simp only [Option.isSome_none, Bool.false_eq_true, if_false]
        have e1 : (cur.toList.take l.length)[j]? = (l.map (Value.int .i64))[j]? := by rw [hcur]
        rw [List.getElem?_take_of_lt hj', Array.getElem?_toList] at e1
        rw [e1]
        simp [hj']
      · simp [World.frozen?, hheap]
    have hrun := AnyM.slices_Sort_int L b 0 cap l w hholds hbs hl
    rw [hf] at hrun
    refine hrun.mono fun e w' hh => ?_
    obtain ⟨rfl, n, os, rfl⟩ := hh
    have e1 : l.mergeSort (fun x y => decide (x ≤ y)) = sortZ l := rfl
    rw [e1]
    generalize hd : sortZ l = d
    have hdl : d.length = l.length := by rw [← hd]; exact List.length_mergeSort _
    have hsize : (grow (putRow (Value.int .i64) (Sort.ahead w n) b 0 d.toArray) os).heap.size = w.heap.size + os.size := by
      simp [grow, putRow, mapBlock, Sort.ahead]
    have hother : ∀ i, i < w.heap.size → i ≠ b → (grow (putRow (Value.int .i64) (Sort.ahead w n) b 0 d.toArray) os).heap[i]? = w.heap[i]? := by
      intro i hi hib
      simp only [grow, putRow, mapBlock, Sort.ahead]
      rw [Array.getElem?_append_left (by simpa using hi), Array.getElem?_modify, if_neg (Ne.symm hib)]
    have hthis : (grow (putRow (Value.int .i64) (Sort.ahead w n) b 0 d.toArray) os).heap[b]? = some (.cells (putCells (Value.int .i64) 0 d.toArray cur) T' (0, 0)) := by
      simp only [grow, putRow, mapBlock, Sort.ahead]
      rw [Array.getElem?_append_left (by simpa using hbs), Array.getElem?_modify, if_pos rfl, hheap]
      rfl
    have hcells' : (putCells (Value.int .i64) 0 d.toArray cur).toList.take d.length = d.map (Value.int .i64) := by
      apply List.ext_getElem?
      intro i
      by_cases hi : i < d.length
      · have hic : i < cur.size := by omega
        rw [List.getElem?_take_of_lt hi, Array.getElem?_toList]
        simp only [putCells, Array.getElem?_mapIdx, Array.getElem?_eq_getElem hic, Option.map_some]
        rw [if_pos ⟨Nat.zero_le _, by simpa using hi⟩, Nat.sub_zero]
        simp [hi]
      · rw [List.getElem?_eq_none (by simp; omega), List.getElem?_eq_none (by simp; omega)]
    have hfr : FrameBut (OwnB ρ (lk [(1000000, Ct.arr T' 1 (l.map (encZ)))])) w (grow (putRow (Value.int .i64) (Sort.ahead w n) b 0 d.toArray) os) := by
      refine ⟨rfl, rfl, ⟨rfl, by simp [grow, putRow, mapBlock, Sort.ahead]⟩, by rw [hsize]; omega, fun i hi hn => hother i hi ?_⟩
      rintro rfl
      exact hn ⟨1000000, _, cap, hbox, hbd⟩
    have hlk2 : ∀ i c, lk [(1000000, Ct.arr T' 1 (d.map (encZ)))] i = some c → i = 1000000 ∧ c = .arr T' 1 (d.map (encZ)) := by
      intro i c h
      simp only [lk] at h
      split at h
      · rename_i e; cases h; exact ⟨e.symm, rfl⟩
      · cases h
    refine ⟨H, ρ, .tup [], lk [(1000000, .arr T' 1 (d.map (encZ)))], _, rfl, ⟨rfl, rfl⟩, H.le_refl, (fun b o u h1 h2 => by rw [h1] at h2; cases h2), ?_, ?_, .tup (vs := []) rfl (by simp), hfr, fun i _ => rfl⟩
    · intro b' o v hv
      have hne' : b' ≠ b := by rintro rfl; rw [hH0] at hv; cases hv
      have := he b' o v hv
      simp only [World.cell?] at this ⊢
      have hlt : b' < w.heap.size := by
        by_cases hlt : b' < w.heap.size
        · exact hlt
        · rw [Array.getElem?_eq_none (by omega)] at this; cases this
      rw [hother b' hlt hne']
      exact this
    · refine ⟨fun id c h => ?_, fun id c b' cap' h1 h2 => ?_, fun i i' c c' _ _ _ h1 h2 _ _ => by rw [(hlk2 _ _ h1).1, (hlk2 _ _ h2).1]⟩
      · obtain ⟨rfl, rfl⟩ := hlk2 _ _ h
        refine .inr ⟨b, cap, _, hbd, hthis, hmax, by simp only [List.length_map]; omega, by simp [putCells, hsz], ?_, ?_⟩
        · rw [flatMap_encZ, List.length_map, Nat.mul_one, hcells']
          exact repL_v_mk (fun v hv => by obtain ⟨x, _, rfl⟩ := List.mem_map.1 hv; rfl)
        · intro x hx
          obtain ⟨y, _, rfl⟩ := List.mem_map.1 hx
          exact ⟨rfl, by intro c hc; simp only [encZ, AV.cells, List.mem_singleton] at hc; subst hc; rfl⟩
      · obtain ⟨rfl, rfl⟩ := hlk2 _ _ h1
        rw [hbd] at h2
        cases h2
        exact ⟨hH0, by rw [hsize]; omega, .inr ⟨1000000, _, cap, hbox, hbd⟩⟩
end Go.Am
