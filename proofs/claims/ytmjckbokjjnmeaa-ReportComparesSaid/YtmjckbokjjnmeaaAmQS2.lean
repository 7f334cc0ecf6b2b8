/- The abstract machine, part 7: fields, indexes, built values, slices, look-ups: they do what part 5 says. -/
import Derived.Test.YtmjckbokjjnmeaaAmQS
namespace Go.Am
open Go.RowKit

section
variable {P : Program} {w : World} {H : Heap} {ρ : Rho} {bf : Nat → Option Ct}

theorem part_cells {y : AV} {off n : Nat} {agg : Bool} (hn : off + n ≤ y.cells.length) (ha : agg = true ∨ n = 1) (h1 : oneAll y) : (y.part off n agg).cells = (y.cells.drop off).take n := by
  cases agg with
  | true => simp [AV.part, AV.cells]
  | false =>
    have hn1 : n = 1 := by simpa using ha
    subst hn1
    simp only [AV.part, Bool.false_eq_true, if_false]
    have hlt : off < y.cells.length := by omega
    rw [List.drop_eq_getElem_cons hlt]
    simp only [List.headD_cons, List.take_succ_cons, List.take_zero]
    exact AV.one_cells (h1 _ (List.getElem_mem hlt))

theorem ep_part {y : AV} {v : Value} {off n : Nat} {agg : Bool} (hr : Rep H ρ (.ep y) v) (hn : off + n ≤ y.cells.length) (ha : agg = true ∨ n = 1) :
    ∃ b o, v = .pointer (some ⟨b, o, none⟩) ∧ Rep H ρ (.ep (y.part off n agg)) (.pointer (some ⟨b, o + off, none⟩)) := by
  cases hr with
  | ep cell hone hH hrep =>
    rename_i b o
    have hc := part_cells hn ha hone
    refine ⟨b, o, rfl, .ep (fun j => cell (off + j)) ?_ ?_ ?_⟩
    · intro c hc'
      rw [hc] at hc'
      exact hone c (mem_drop_take hc')
    · intro j c hj
      rw [hc, List.getElem?_take] at hj
      split at hj
      · rw [List.getElem?_drop] at hj
        rw [Nat.add_assoc]
        exact hH _ c hj
      · cases hj
    · intro j c hj
      rw [hc, List.getElem?_take] at hj
      split at hj
      · rw [List.getElem?_drop] at hj
        exact hrep _ c hj
      · cases hj

theorem run_fieldAt {T : TypeId} {fs : Array Field} {f : Nat} {fld : Field} {b o : Nat} (hT : P.underlying T = some (.struct fs)) (hf : fs[f]? = some fld) (hok : okT P fld.type = true) (hs : P.cellsOf fld.type ≠ 0) :
    (Instr.fieldAt T (.pointer (some ⟨b, o, none⟩)) f).run P w = .ok (.pointer (some ⟨b, o + fld.offset, none⟩)) w := by
  simp [Instr.fieldAt, run_underlying hT, hf, Instr.sureAddr, fieldPlace, run_sizeOf' hok, hs, Addr.add_mk]

theorem qfaddr_sound {T : TypeId} {x : AV} {v : Value} {f : Nat} {cont : AV → Prop} (hr : Rep H ρ x v) (h : qfaddr P T x f cont) :
    ∃ y u, cont y ∧ Rep H ρ y u ∧ (Instr.fieldAt T v f).run P w = .ok u w := by
  unfold qfaddr at h
  split at h
  · rename_i fs hT
    split at h
    · rename_i fld hf
      obtain ⟨⟨hok, hs⟩, h⟩ := h
      split at h
      · cases hr with
        | loc hρ => exact ⟨_, _, h, .loc hρ, run_fieldAt hT hf hok hs⟩
      · cases hr with
        | eloc hρ =>
          refine ⟨_, _, h, .eloc hρ, ?_⟩
          rw [run_fieldAt hT hf hok hs, Nat.add_assoc]
      · rename_i y
        obtain ⟨⟨hn, ha⟩, hk⟩ := h
        obtain ⟨b, o, rfl, hrep⟩ := ep_part hr hn ha
        exact ⟨_, _, hk, hrep, run_fieldAt hT hf hok hs⟩
      · exact h.elim
    · exact h.elim
  · exact h.elim

theorem run_indexAt_slice {T e : TypeId} {ik : IntKind} {n : Int} {b o m cap : Nat} (hT : P.underlying T = some (.slice e)) (hok : okT P e = true) (h0 : 0 ≤ n) (h1 : n < m) :
    (Instr.indexAt T (.slice (some ⟨b, o, none⟩) m cap) (.int ik n)).run P w = .ok (.pointer (some ⟨b, o + n.toNat * P.cellsOf e, none⟩)) w := by
  simp [Instr.indexAt, asIntOf, run_underlying hT, h0, h1, run_sizeOf' hok, Addr.add_mk]
theorem run_indexAt_array {T e : TypeId} {ik : IntKind} {n : Int} {b o len : Nat} (hT : P.underlying T = some (.array len e)) (hok : okT P e = true) (h0 : 0 ≤ n) (h1 : n < len) :
    (Instr.indexAt T (.pointer (some ⟨b, o, none⟩)) (.int ik n)).run P w = .ok (.pointer (some ⟨b, o + n.toNat * P.cellsOf e, none⟩)) w := by
  simp [Instr.indexAt, asIntOf, run_underlying hT, h0, h1, run_sizeOf' hok, Addr.add_mk, Instr.sureAddr]

theorem qiaddr_sound {T : TypeId} {x i : AV} {v u : Value} {cont : AV → Prop} (hr : Rep H ρ x v) (hi : Rep H ρ i u) (h : qiaddr P T x i cont) :
    ∃ y r, cont y ∧ Rep H ρ y r ∧ (Instr.indexAt T v u).run P w = .ok r w := by
  unfold qiaddr at h
  split at h
  · rename_i e ik n hT
    rw [hi.v_inv]
    obtain ⟨hok, h⟩ := h
    split at h
    · rename_i k xs
      obtain ⟨hk, ⟨h0, h1⟩, hc⟩ := h
      have hlt : n.toNat < xs.length := by omega
      cases hr with
      | slNil => simp at hlt
      | sl cell hcap hmax hkk hone hH hrep =>
        rename_i b o cap
        refine ⟨_, _, hc, ?_, run_indexAt_slice hT hok h0 h1⟩
        have hx : xs[n.toNat]? = some (xs.getD n.toNat .u) := by simp [hlt]
        rw [hk]
        exact .ep (fun j => cell n.toNat j) (hone _ (List.mem_of_getElem? hx)) (fun j c hj => by rw [Nat.add_assoc]; have := hH _ j _ c hx hj; rw [Nat.add_assoc] at this; exact this) (fun j c hj => hrep _ j _ c hx hj)
    · rename_i id k off m
      obtain ⟨hk, ⟨h0, h1⟩, hc⟩ := h
      cases hr with
      | ownNil => omega
      | own hρ hn hm =>
        refine ⟨_, _, hc, ?_, run_indexAt_slice hT hok h0 h1⟩
        have := Rep.eloc (H := H) (ρ := ρ) (k := k) (i := off + n.toNat) (off := 0) hρ
        rw [hk, ← Nat.add_mul]
        exact this
    · exact h.elim
  · rename_i len e ik n hT
    rw [hi.v_inv]
    obtain ⟨hok, h⟩ := h
    split at h
    · obtain ⟨⟨h0, h1⟩, hc⟩ := h
      cases hr with
      | loc hρ => exact ⟨_, _, hc, .loc hρ, run_indexAt_array hT hok h0 h1⟩
    · obtain ⟨⟨h0, h1⟩, ⟨hn, ha⟩, hc⟩ := h
      obtain ⟨b, o, rfl, hrep⟩ := ep_part hr hn ha
      exact ⟨_, _, hc, hrep, run_indexAt_array hT hok h0 h1⟩
    · exact h.elim
  · exact h.elim

theorem valOf_take {T : TypeId} {vs : List Value} {off : Nat} (h1 : aggB P T = true ∨ P.cellsOf T = 1) :
    valOf P T ((vs.drop off).take (P.cellsOf T)) = (if aggB P T then .agg ((vs.drop off).take (P.cellsOf T)).toArray else (vs.drop off).headD undef) := by
  unfold valOf
  cases ha : aggB P T with
  | true => rfl
  | false =>
    have : P.cellsOf T = 1 := by simpa [ha] using h1
    rw [this]
    cases vs.drop off <;> rfl

theorem isSt_inv {x : AV} {v : Value} (hr : Rep H ρ x v) (h : x.isSt = true) : ∃ vs, v = .agg (List.toArray vs) ∧ RepL H ρ x.cells vs ∧ oneAll x := by
  cases hr with
  | st hl h1 hh => exact ⟨_, rfl, ⟨hl, hh⟩, h1⟩
  | _ => simp [AV.isSt] at h

theorem qfield_sound {T : TypeId} {x : AV} {v : Value} {f : Nat} {cont : AV → Prop} (hr : Rep H ρ x v) (h : qfield P T x f cont) :
    ∃ y u, cont y ∧ Rep H ρ y u ∧ (Instr.field T v f).run P w = .ok u w := by
  unfold qfield at h
  split at h
  · rename_i fs hT
    split at h
    · rename_i fld hf
      obtain ⟨hst, ⟨hok, hn, ha⟩, hk⟩ := h
      obtain ⟨vs, rfl, hrep, hone⟩ := isSt_inv hr hst
      refine ⟨_, _, hk, part_rep hrep hone hn ha, ?_⟩
      have := run_part (P := P) (w := w) (xs := vs) (off := fld.offset) hok ha (by rw [← hrep.1]; exact hn)
      rw [valOf_take ha] at this
      simp only [Instr.field, Sem.run_bind, run_underlying hT, Result.andThen_ok, hf, asAgg, Sem.run_pure]
      exact this
    · exact h.elim
  · exact h.elim

theorem qindex_sound {T : TypeId} {x i : AV} {v u : Value} {cont : AV → Prop} (hr : Rep H ρ x v) (hi : Rep H ρ i u) (h : qindex P T x i cont) :
    ∃ y r, cont y ∧ Rep H ρ y r ∧ (Instr.index T v u).run P w = .ok r w := by
  unfold qindex at h
  split at h
  · rename_i s ik n hT
    rw [hr.v_inv, hi.v_inv]
    obtain ⟨⟨h0, h1⟩, hk⟩ := h
    refine ⟨_, _, hk, .v rfl, ?_⟩
    have hlt : n.toNat < s.size := by omega
    have hlt' : n.toNat < s.data.toList.length := by simpa using hlt
    have e1 : s[n.toNat]? = some (s.data.toList.getD n.toNat 0) := by
      rw [List.getD_eq_getElem?_getD, List.getElem?_eq_getElem hlt', Option.getD_some]
      rw [getElem?_pos s n.toNat hlt]
      rfl
    simp only [Instr.index, asIntOf, Sem.run_bind, Sem.run_pure, Result.andThen_ok, run_underlying hT, if_pos h0, e1]
  · rename_i len e cs ik n hT
    rw [hi.v_inv]
    obtain ⟨⟨hok, h0, h1, hn, ha⟩, hk⟩ := h
    obtain ⟨vs, rfl, hrep, hone⟩ := isSt_inv hr rfl
    refine ⟨_, _, hk, part_rep hrep hone hn ha, ?_⟩
    have := run_part (P := P) (w := w) (xs := vs) (off := n.toNat * P.cellsOf e) hok ha (by rw [← hrep.1]; exact hn)
    rw [valOf_take ha] at this
    simp only [Instr.index, asIntOf, Sem.run_bind, Sem.run_pure, Result.andThen_ok, run_underlying hT, h0, h1, and_self, if_true, run_sizeOf' hok]
    exact this
  · exact h.elim

theorem qun_sound {op : UnOp} {x : AV} {v : Value} {cont : AV → Prop} (hr : Rep H ρ x v) (h : qun op x cont) : ∃ y u, cont y ∧ Rep H ρ y u ∧ (Op.unary op v).run P w = .ok u w := by
  unfold qun at h
  split at h
  · rw [hr.v_inv]; exact ⟨_, _, h, .v rfl, rfl⟩
  · rw [hr.v_inv]; exact ⟨_, _, arith_sound h, .v rfl, rfl⟩
  · exact h.elim

theorem qconv_sound {src dst : TypeId} {x : AV} {v : Value} {cont : AV → Prop} (hr : Rep H ρ x v) (h : qconv P src dst x cont) : ∃ y u, cont y ∧ Rep H ρ y u ∧ (convert src dst v).run P w = .ok u w := by
  obtain ⟨hs, h⟩ := h
  unfold okT at hs
  obtain ⟨ds, hs⟩ := Option.isSome_iff_exists.1 hs
  split at h
  · rename_i k k' n hd
    rw [hr.v_inv]
    refine ⟨_, _, h, .v rfl, ?_⟩
    simp only [convert, Sem.run_bind, run_underlying hs, run_underlying hd, Result.andThen_ok]
    cases ds <;> rfl
  · rename_i s hd
    rw [hr.v_inv]
    refine ⟨_, _, h, .v rfl, ?_⟩
    simp only [convert, Sem.run_bind, run_underlying hs, run_underlying hd, Result.andThen_ok]
    cases ds <;> rfl
  · exact h.elim

/-! ### building -/

theorem set_seg : ∀ (new : List Value) (j off : Nat) (arr : Array Value), off + j + new.length ≤ arr.size →
    ((new.zipIdx j).foldl (fun (cs : Array Value) (x : Value × Nat) => cs.setIfInBounds (off + x.2) x.1) arr).toList = arr.toList.take (off + j) ++ (new ++ arr.toList.drop (off + j + new.length))
  | [], j, off, arr, _ => by simp
  | v :: new, j, off, arr, h => by
    simp only [List.length_cons] at h
    rw [List.zipIdx_cons, List.foldl_cons, set_seg new (j + 1) off _ (by simp; omega)]
    have hlt : off + j < arr.toList.length := by simp; omega
    simp only [Array.toList_setIfInBounds, List.length_cons]
    rw [show off + (j + 1) = (off + j) + 1 by omega]
    have e1 : (arr.toList.set (off + j) v).take (off + j + 1) = arr.toList.take (off + j) ++ [v] := by
      rw [List.take_succ_eq_append_getElem (by simpa using hlt)]
      simp [List.take_set_of_le]
    have e2 : (arr.toList.set (off + j) v).drop (off + j + 1 + new.length) = arr.toList.drop (off + j + (new.length + 1)) := by
      rw [List.drop_set_of_lt (by omega)]
      congr 1
      omega
    rw [e1, e2]
    simp

theorem RepL.setPart {cs : List AV} {vs : List Value} {off : Nat} {new : List AV} {nv : List Value} (h : RepL H ρ cs vs) (hn : RepL H ρ new nv) :
    RepL H ρ (setPart cs off new) (vs.take off ++ (nv ++ vs.drop (off + nv.length))) := by
  unfold Am.setPart
  rw [hn.1]
  exact (h.take off).append (hn.append (h.drop _))

theorem setPart_one {cs : List AV} {off : Nat} {new : List AV} (h : ∀ c ∈ cs, c.one = true) (hn : ∀ c ∈ new, c.one = true) : ∀ c ∈ setPart cs off new, c.one = true := by
  intro c hc
  unfold Am.setPart at hc
  simp only [List.mem_append] at hc
  rcases hc with hc | hc | hc
  · exact h c (List.mem_of_mem_take hc)
  · exact hn c hc
  · exact h c (List.mem_of_mem_drop hc)

theorem setPart_len {cs : List AV} {off : Nat} {new : List AV} (h : off + new.length ≤ cs.length) : (setPart cs off new).length = cs.length := by
  unfold Am.setPart
  simp only [List.length_append, List.length_take, List.length_drop]
  omega

/-- The parts' values. -/
def PartsRep (H : Heap) (ρ : Rho) : List (Nat × AV) → List (Nat × Value) → Prop
  | [], [] => True
  | (i, x) :: l, (j, v) :: m => i = j ∧ Rep H ρ x v ∧ PartsRep H ρ l m
  | _, _ => False

theorem fill_sound {place place' : Nat → Option (Nat × Nat)} (hp : ∀ i, place i = place' i) : ∀ (parts : List (Nat × AV)) (vparts : List (Nat × Value)) (cs : List AV) (arr : Array Value) (cont : List AV → Prop), PartsRep H ρ parts vparts → RepL H ρ cs arr.toList →
    (∀ c ∈ cs, c.one = true) → buildK place cs parts cont → ∃ cs' arr', cont cs' ∧ Instr.fill place' arr vparts = some arr' ∧ RepL H ρ cs' arr'.toList ∧ (∀ c ∈ cs', c.one = true)
  | [], [], cs, arr, cont, _, hr, h1, h => ⟨cs, arr, h, rfl, hr, h1⟩
  | [], _ :: _, _, _, _, hpr, _, _, _ => hpr.elim
  | _ :: _, [], _, _, _, hpr, _, _, _ => hpr.elim
  | (i, x) :: rest, (j, v) :: vrest, cs, arr, cont, hpr, hr, h1, h => by
    obtain ⟨rfl, hx, hrest⟩ := hpr
    simp only [buildK] at h
    split at h
    · rename_i off sz hpl
      obtain ⟨⟨hsto, hlen, hfit⟩, h⟩ := h
      obtain ⟨hcl, hone⟩ := hx.cellsL hsto
      have hvl : v.cells.toList.length = sz := by rw [← hcl.1]; exact hlen
      have hsz : arr.toList.length = cs.length := hr.1.symm
      have hseg := set_seg v.cells.toList 0 off arr (by rw [hvl]; simp only [Array.length_toList] at hsz; omega)
      have hz : v.cells.zipIdx.foldl (fun cs (x : Value × Nat) => cs.setIfInBounds (off + x.2) x.1) arr = (v.cells.toList.zipIdx 0).foldl (fun (cs : Array Value) (x : Value × Nat) => cs.setIfInBounds (off + x.2) x.1) arr := by
        rw [← Array.foldl_toList, Array.toList_zipIdx]
      have hrep' := hr.setPart (off := off) hcl
      simp only [Nat.add_zero] at hseg
      rw [← hseg] at hrep'
      obtain ⟨cs', arr', hc, hf, hr', h1'⟩ := fill_sound hp rest vrest _ _ cont hrest hrep' (setPart_one h1 hone) h
      refine ⟨cs', arr', hc, ?_, hr', h1'⟩
      simp only [Instr.fill, ← hp, hpl]
      rw [if_neg]
      · rw [hz]; exact hf
      · simp only [Array.length_toList] at hvl hsz
        simp [hvl]
        omega
    · exact h.elim

theorem zeroAV_inv {T : TypeId} {z : AV} (h : zeroAV P T = some z) : ∃ i v, P.info? T = some i ∧ i.zero = some v ∧ z = ofVal v := by
  unfold zeroAV at h
  cases hi : P.info? T with
  | none => rw [hi] at h; simp at h
  | some i =>
    rw [hi] at h
    cases hz : i.zero with
    | none => simp [hz] at h
    | some v => simp [hz] at h; exact ⟨i, v, rfl, hz, h.symm⟩

theorem run_zeroValue' {T : TypeId} {z : AV} (h : zeroAV P T = some z) (w : World) : ∃ v, (zeroValue T).run P w = .ok v w ∧ (∀ (H : Heap) (ρ : Rho), Rep H ρ z v) ∧ ∃ i, P.info? T = some i ∧ i.zero = some v := by
  obtain ⟨i, v, hi, hz, rfl⟩ := zeroAV_inv h
  exact ⟨v, by simp [zeroValue, typeInfo, hi, hz], fun H ρ => Rep.ofVal v, i, hi, hz⟩

theorem mapM_places {fs : List Field} (h : fs.all (fun f => okT P f.type) = true) (w : World) :
    ((fs.mapM fun f => do pure (f.offset, ← Go.sizeOf f.type) : Sem (List (Nat × Nat)))).run P w = .ok (fs.map fun f => (f.offset, P.cellsOf f.type)) w := by
  induction fs with
  | nil => simp
  | cons f fs ih =>
    simp only [List.all_cons, Bool.and_eq_true] at h
    simp only [List.mapM_cons, Sem.run_bind, run_sizeOf' h.1, Result.andThen_ok, Sem.run_pure, ih h.2, List.map_cons]

theorem mapM_placesA {fs : Array Field} (h : fs.toList.all (fun f => okT P f.type) = true) (w : World) :
    ((fs.mapM fun f => do pure (f.offset, ← Go.sizeOf f.type) : Sem (Array (Nat × Nat)))).run P w = .ok (fs.map fun f => (f.offset, P.cellsOf f.type)) w := by
  obtain ⟨l⟩ := fs
  have := mapM_places (P := P) (fs := l) (by simpa using h) w
  simp only [List.mapM_toArray, Sem.run_map, this]
  simp

theorem qbuild_sound {T : TypeId} {parts : List (Nat × AV)} {vparts : Array (Nat × Value)} {cont : AV → Prop} (hp : PartsRep H ρ parts vparts.toList) (h : qbuild P T parts cont) :
    ∃ y u, cont y ∧ Rep H ρ y u ∧ (Instr.build T vparts).run P w = .ok u w := by
  unfold qbuild at h
  split at h
  · rename_i cs hz
    obtain ⟨hT, h⟩ := h
    obtain ⟨zv, hzr, hzrep, _⟩ := run_zeroValue' hz w
    obtain ⟨zs, rfl, hzl, hz1⟩ := isSt_inv (hzrep H ρ) rfl
    split at h
    · rename_i fs hu
      obtain ⟨hok, h⟩ := h
      obtain ⟨cs', arr', hc, hf, hr', h1'⟩ := fill_sound (H := H) (ρ := ρ) (place' := ((fs.map fun f => (f.offset, P.cellsOf f.type))[·]?)) (fun i => by simp [fplace]) parts vparts.toList cs zs.toArray (fun cs' => cont (.st cs')) hp (show RepL H ρ cs zs.toArray.toList from hzl) hz1 h
      refine ⟨_, _, hc, Rep.st' (vs := arr'.toList) hr' h1', ?_⟩
      simp only [Instr.build, Sem.run_bind, hzr, Result.andThen_ok, run_underlying hu, mapM_placesA hok, Value.cells, hf, Sem.run_pure]
    · rename_i len e hu
      obtain ⟨hok, h⟩ := h
      obtain ⟨cs', arr', hc, hf, hr', h1'⟩ := fill_sound (H := H) (ρ := ρ) (fun i => rfl) parts vparts.toList cs zs.toArray (fun cs' => cont (.st cs')) hp (show RepL H ρ cs zs.toArray.toList from hzl) hz1 h
      refine ⟨_, _, hc, Rep.st' (vs := arr'.toList) hr' h1', ?_⟩
      simp only [Instr.build, Sem.run_bind, hzr, Result.andThen_ok, run_underlying hu, run_sizeOf' hok, Value.cells, hf, Sem.run_pure]
    · exact h.elim
  · exact h.elim

end
end Go.Am
