/- The abstract machine, part 26: a law's row, out of the law's contract. -/
import Derived.Test.YtmjckbokjjnmeaaAmRead
import Derived.JoinedCond
import Derived.ProofKit
import Derived.Deep.DeepHandedRow
namespace Go.Am
open Go.RowKit Go.ChangeShapes Go.WideShapes Go.ChangeAt

def mkAV (P : Program) (t : TypeId) (cs : List AV) : AV := if aggB P t then .st cs else cs.headD .u

section
variable {H : Type} {enc : TypeId × Value → H} {P : Program} {W W' : World} {base : Nat} {spare : Nat → Bool} {held : Bool}

theorem read_arg {m b0 : Nat} {r : Reach} {t : TypeId} {v : Value} {d : DataW H} {ps : List MemPlace} (hl : layB P m t = true) (hval : Value.okWide P W r b0 t v) (hd : DataW.Trod enc P W base spare held t v d ps) :
    ∃ cs, ShapeC P m t cs ∧ Rep (snap W) rho0 (mkAV P t cs) v := by
  obtain ⟨fuel, hf⟩ := hd
  obtain ⟨avs, h1, h2, h3⟩ := read_rep m t hl _ _ _ hf
  refine ⟨avs, h1, ?_⟩
  unfold mkAV
  by_cases ha : aggB P t = true
  · rw [if_pos ha]
    obtain ⟨cs, rfl⟩ : ∃ cs, v = .agg cs := by
      unfold aggB at ha
      unfold Value.okWide at hval
      split at ha
      · rename_i hu; rw [hu] at hval; obtain ⟨cs, rfl, _⟩ := hval; exact ⟨cs, rfl⟩
      · rename_i hu; rw [hu] at hval; obtain ⟨cs, rfl, _⟩ := hval; exact ⟨cs, rfl⟩
      · cases ha
    have := Rep.st' h2 h3
    simpa [Value.cells] using this
  · rw [if_neg ha]
    have hna : ∀ cs, v ≠ .agg cs := by
      rintro cs rfl
      unfold aggB at ha
      unfold Value.okWide at hval
      split at hval
      · rename_i hu; rw [hu] at ha; exact ha rfl
      · rename_i hu; rw [hu] at ha; exact ha rfl
      · unfold Cell.okWide Cell.ok at hval
        split at hval <;> first | exact hval | (rename_i he; cases he) | (split at hval <;> first | exact hval | (rename_i he; cases he))
    have hc : v.cells = #[v] := by
      cases v <;> first | rfl | exact absurd rfl (hna _)
    rw [hc] at h2
    have hlen := h2.1
    match avs, hlen, h2, h3 with
    | [c], _, h2, _ => exact h2.2 0 c v rfl rfl

/-- The arguments of a law, as values of the machine. -/
def ShapeL (P : Program) (m : Nat) : List TypeId → List AV → Prop
  | [], avs => avs = []
  | t :: ts, avs => ∃ cs rest, avs = mkAV P t cs :: rest ∧ ShapeC P m t cs ∧ ShapeL P m ts rest

theorem read_args {m b0 : Nat} {r : Reach} : ∀ {ts : List TypeId} {vs : List Value} {ds : List (DataW H)} {ps : List MemPlace}, (∀ t ∈ ts, layB P m t = true) → (∀ (j : Nat) t v, ts[j]? = some t → vs[j]? = some v → Value.okWide P W r b0 t v) → DataW.TrodAll enc P W base spare held ts vs ds ps →
    ∃ avs, ShapeL P m ts avs ∧ RepL (snap W) rho0 avs vs
  | [], vs, ds, ps, _, _, h => by
    obtain ⟨rfl, rfl, rfl⟩ := trodAll_nil h
    exact ⟨[], rfl, RepL.nil⟩
  | t :: ts, vs, ds, ps, hl, hv, h => by
    obtain ⟨v, vs', d, ds', p, q, rfl, rfl, rfl, h0, r0⟩ := trodAll_cons h
    obtain ⟨cs, h1, h2⟩ := read_arg (hl t List.mem_cons_self) (hv 0 t v rfl rfl) h0
    obtain ⟨avs, h3, h4⟩ := read_args (fun t ht => hl t (List.mem_cons_of_mem _ ht)) (fun j t v hj hvj => hv (j + 1) t v hj hvj) r0
    exact ⟨mkAV P t cs :: avs, ⟨cs, avs, rfl, h1, h3⟩, RepL.cons h2 h4⟩

theorem frozen_of_block {w w' : World} {b off : Nat} (h : w'.heap[b]? = w.heap[b]?) : w'.frozen? ⟨b, off, none⟩ = w.frozen? ⟨b, off, none⟩ := by
  simp only [World.frozen?, h]

theorem stays_all {sp : Nat → Bool} (hl : laidOutB P = true) : ∀ {ts : List TypeId} {vs : List Value} {ds : List (DataW H)} {ps : List MemPlace}, (∀ t ∈ ts, P.readableRec t = true ∧ t < P.types.size) → DataW.TrodAll enc P W 0 (fun _ => true) true ts vs ds ps →
    (∀ p ∈ ps, W.sameAt W' p) → (∀ p ∈ ps, sp p.block = true) → DataW.TrodAll enc P W' 0 sp true ts vs ds ps
  | [], vs, ds, ps, _, h, _, _ => by
    obtain ⟨rfl, rfl, rfl⟩ := trodAll_nil h
    exact trodAll_mk0
  | t :: ts, vs, ds, ps, hr, h, hs, hp => by
    obtain ⟨v, vs', d, ds', p, q, rfl, rfl, rfl, h0, r0⟩ := trodAll_cons h
    refine trodAll_cons_mk ?_ (stays_all hl (fun t ht => hr t (List.mem_cons_of_mem _ ht)) r0 (fun x hx => hs x (List.mem_append_right _ hx)) (fun x hx => hp x (List.mem_append_right _ hx)))
    exact WideElems.Trod_stays hl (hr t List.mem_cons_self).1 (hr t List.mem_cons_self).2 h0 (fun x hx => hs x (List.mem_append_left _ hx)) (fun x hx => hp x (List.mem_append_left _ hx))

theorem law_post {f : Func} {s : ChangeSpec} {apart fresh handsOn again : Bool} {args : Array Value} {ds gs : List (DataW H)} {before : List MemPlace} {tb : TypeId} (hW : DataW.Whole enc P f.params.toList s.vars apart W args.toList ds gs before) (hv : s.vars = []) (hb : Bel W.heap.size W W') (hl : laidOutB P = true)
    (hr : ∀ t ∈ f.params.toList, P.readableRec t = true ∧ t < P.types.size) (hs : s.fn H ds = { results := [.lit (.bool true)], args := ds }) (hres : f.resultTypes = #[tb]) (htb : P.underlying tb = some .bool) : s.post enc P f apart fresh handsOn again W args (.bool true) W' := by
  have hW' := hW
  obtain ⟨p, q, hA, hV, rfl, hz, hn⟩ := hW
  rw [hv] at hV
  obtain ⟨rfl, rfl⟩ := trodVars_none hV
  have hlt : ∀ x ∈ p ++ [], x.block < W.heap.size := fun x hx => hW'.lt x hx
  have hold : ∀ x ∈ p, (fun b => decide (b < W.heap.size)) x.block = true := fun x hx => by simpa using hlt x (by simpa using hx)
  have hargs : ∀ sp : Nat → Bool, (∀ x ∈ p, sp x.block = true) → DataW.TrodAll enc P W' 0 sp true f.params.toList args.toList ds p := fun sp hsp =>
    stays_all hl hr hA (fun x hx => hb.toBelow.same (hlt x (by simpa using hx))) hsp
  have hres' : ∀ (b : Nat) (sp : Nat → Bool) (hd : Bool), DataW.TrodAll enc P W' b sp hd f.resultTypes.toList ((Value.bool true).resultList f.resultTypes.size) [.lit (.bool true)] [] := by
    intro b sp hd
    rw [hres]
    exact trodAll_cons_mk (shut_bool htb true) trodAll_mk0
  have hfn : s.fn H (ds ++ []) = { results := [.lit (.bool true)], args := ds } := by rw [List.append_nil]; exact hs
  refine ⟨ds, [], p ++ [], [], p, [], hW', by rw [hfn]; exact hres' _ _ _, by rw [hfn]; exact hargs _ hold, by rw [hfn, hv]; rfl, World.keptBut_mono (fun x hx => ⟨hx, Or.inr (by simpa using hx)⟩) (hb.toBelow.frame _), fun _ => ?_⟩
  refine ⟨ok_one hres rfl (okWide_bool_mk htb _), [.lit (.bool true)] ++ ds, [], ([] ++ p) ++ [], ⟨[] ++ p, [], ?_, by rw [hv]; rfl, rfl, ?_, ?_⟩, ?_⟩
  · exact trodAll_append (hargs _ (fun _ _ => rfl)) (hres' _ _ _)
  · intro b off hp
    rw [frozen_of_block (hb.block b (show b < W.heap.size from hlt (.cell b off) (by simpa using hp)))]
    exact hz b off (by simpa using hp)
  · intro ha
    simpa using hn ha
  · intro x hx _
    simpa using hx

/-- A LAW: for whatever arguments it hands back true. -/
theorem law_contract {m : Nat} {f : FuncId} {fn : Func} {s : ChangeSpec} {apart fresh handsOn again : Bool} {tb : TypeId} (hspec : ∀ avs, ShapeL P m fn.params.toList avs → PSpec P f avs (.v (.bool true))) (hlay : ∀ t ∈ fn.params.toList, layB P m t = true) (hv : s.vars = []) (hl : laidOutB P = true)
    (hr : ∀ t ∈ fn.params.toList, P.readableRec t = true ∧ t < P.types.size) (hs : ∀ ds : List (DataW H), ds.length = fn.params.size → s.fn H ds = { results := [.lit (.bool true)], args := ds }) (hres : fn.resultTypes = #[tb]) (htb : P.underlying tb = some .bool)
    {b0 : Nat} {args : Array Value} {ds gs : List (DataW H)} {before : List MemPlace} (hval : ∀ (j : Nat) t v, fn.params[j]? = some t → args[j]? = some v → Value.okWide P W .any b0 t v) (hW : DataW.Whole enc P fn.params.toList s.vars apart W args.toList ds gs before) :
    Calls P f args W fun e W' => ∃ v, e = .returned v ∧ s.post enc P fn apart fresh handsOn again W args v W' := by
  obtain ⟨p, q, hA, hV, hpq, hz, hn⟩ := hW
  have hlen : ds.length = fn.params.size := by
    have key : ∀ {ts : List TypeId} {vs : List Value} {ds : List (DataW H)} {ps : List MemPlace}, DataW.TrodAll enc P W 0 (fun _ => true) true ts vs ds ps → ds.length = ts.length := by
      intro ts
      induction ts with
      | nil => intro vs ds ps h; obtain ⟨_, rfl, _⟩ := trodAll_nil h; rfl
      | cons t ts ih => intro vs ds ps h; obtain ⟨v, vs', d, ds', p, q, _, rfl, _, _, r0⟩ := trodAll_cons h; simp [ih r0]
    simpa using key hA
  obtain ⟨avs, h1, h2⟩ := read_args hlay (fun j t v hj hvj => hval j t v (by simpa using hj) (by simpa using hvj)) hA
  have hrun := (hspec avs h1).2 (snap W) W args.toList (snap_ext W) h2
  refine Calls.mono hrun ?_
  rintro e W' ⟨H', v, rfl, _, _, _, hrep, hbel⟩
  rw [Rep.v_inv hrep]
  exact ⟨_, rfl, law_post ⟨p, q, hA, hV, hpq, hz, hn⟩ hv hbel hl hr (hs ds hlen) hres htb⟩
end
end Go.Am
