/- The abstract machine, part 18: entry and exit of functions. -/
import Derived.Test.YtmjckbokjjnmeaaAmDraw2
namespace Go.Am
open Go.RowKit

def argSlots : Nat → List AV → List (Nat × AV)
  | _, [] => []
  | k, x :: xs => (k, x) :: argSlots (k + 1) xs

theorem argSlots_lk : ∀ {args : List AV} {k i : Nat}, lk (argSlots k args) i = if k ≤ i then args[i - k]? else none
  | [], k, i => by simp [argSlots, lk]
  | x :: xs, k, i => by
    simp only [argSlots, lk]
    by_cases h : k = i
    · subst h; simp
    · rw [if_neg h, argSlots_lk]
      by_cases h2 : k ≤ i
      · have h3 : k + 1 ≤ i := by omega
        rw [if_pos h2, if_pos h3, show i - k = (i - (k + 1)) + 1 by omega, List.getElem?_cons_succ]
      · rw [if_neg h2, if_neg (by omega)]

/-- The values that a body hands back. -/
def retK (P : Program) : List ResultVar → AState → (List AV → Prop) → Prop
  | [], _, K => K []
  | .tmp t :: rs, s, K => retK P rs s (fun xs => K (s.slot t :: xs))
  | .cell a T :: rs, s, K => qload P T (s.slot a) (lkA s.box (s.slot a)) (fun x => retK P rs s (fun xs => K (x :: xs)))
def tupAV : List AV → AV
  | [x] => x
  | xs => .tup xs

section
variable {P : Program}

theorem loadVar_of {T : TypeId} {v u : Value} {w : World} {H : Heap} {ρ : Rho} {p : AV} {c : Option Ct} {cont : AV → Prop} (hr : Rep H ρ p v) (hq : qload P T p c cont) (h : (Instr.loadAt T v).run P w = .ok u w) :
    (do loadVar T (← asAddr v) : Sem Value).run P w = .ok u w := by
  have hv : ∃ a, v = .pointer (some a) := by
    obtain ⟨_, hq⟩ := hq
    cases hr <;> first
      | exact ⟨_, rfl⟩
      | exact hq.elim
  obtain ⟨a, rfl⟩ := hv
  exact h

def resOne (tmps : Array Value) : ResultVar → Sem Value
  | .tmp t => pure (tmps.getD t undef)
  | .cell a t => do loadVar t (← asAddr (tmps.getD a undef))

theorem retK_run {E : Env} {H : Heap} {ρ : Rho} {s : AState} {a : Act} {w : World} (hs : Sim E H ρ s.slot s.box a w) : ∀ {rs : List ResultVar} {K : List AV → Prop}, retK P rs s K →
    ∃ xs vs, K xs ∧ RepL H ρ xs vs ∧ (rs.mapM (resOne a.tmps)).run P w = .ok vs w
  | [], K, h => ⟨[], [], h, RepL.nil, rfl⟩
  | .tmp t :: rs, K, h => by
    obtain ⟨xs, vs, hk, hr, hrun⟩ := retK_run hs (rs := rs) h
    refine ⟨_, _, hk, RepL.cons (hs.slots t) hr, ?_⟩
    simp only [List.mapM_cons, Sem.run_bind, resOne, Sem.run_pure, Result.andThen_ok, hrun]
  | .cell b T :: rs, K, h => by
    simp only [retK] at h
    obtain ⟨x, u, hk, hr, hrun⟩ := qload_sound (P := P) (hs.slots b) hs.ext hs.boxes.rep h
    obtain ⟨xs, vs, hk2, hr2, hrun2⟩ := retK_run hs (rs := rs) hk
    refine ⟨_, _, hk2, RepL.cons hr hr2, ?_⟩
    have := loadVar_of (P := P) (hs.slots b) h hrun
    simp only [List.mapM_cons, Sem.run_bind, resOne, Sem.run_pure, Result.andThen_ok]
    simp only [Sem.run_bind] at this
    simp only [this, Result.andThen_ok, hrun2]

theorem results_run {fn : Func} {tmps : Array Value} {vs : List Value} {w : World} (h : (fn.results.toList.mapM (resOne tmps)).run P w = .ok vs w) :
    (results fn tmps).run P w = .ok (if h : vs.length = 1 then vs[0] else .tuple vs.toArray) w := by
  have e : results fn tmps = (fn.results.mapM (resOne tmps) >>= fun vs => pure (if h : vs.size = 1 then vs[0] else .tuple vs)) := by
    unfold results
    congr 1
  have e2 : fn.results = fn.results.toList.toArray := by simp
  rw [e, e2, List.mapM_toArray]
  simp only [map_eq_pure_bind, Sem.run_bind, h, Sem.run_pure, Result.andThen_ok]
  simp

theorem tup_rep {H : Heap} {ρ : Rho} {xs : List AV} {vs : List Value} (h : RepL H ρ xs vs) : Rep H ρ (tupAV xs) (if h : vs.length = 1 then vs[0] else .tuple vs.toArray) := by
  have hl := h.1
  match xs, vs, h with
  | [], [], h => exact .tup hl h.2
  | [x], [v], h => exact h.2 0 x v rfl rfl
  | x :: y :: xs, a :: b :: vs, h =>
    rw [dif_neg (by simp)]
    exact .tup hl h.2
  | [], _ :: _, _ => simp at hl
  | [_], [], _ => simp at hl
  | [_], _ :: _ :: _, _ => simp at hl
  | _ :: _ :: _, [], _ => simp at hl
  | _ :: _ :: _, [_], _ => simp at hl

/-- What a body may come to: its end, or a return. -/
def retQ (P : Program) (fn : Func) (K : AV → AState → Prop) : AExit → AState → Prop
  | .exit _, _ => False
  | _, s => retK P fn.results.toList s (fun xs => K (tupAV xs) s)

/-- A view stands in every heap that knows the boxes' cells. -/
theorem view_rep2 {H G : Heap} {ρ : Rho} {w : World} {bf : Nat → Option Ct} {x d : AV} {v : Value} (hv : View bf x d) (hr : Rep H ρ x v) (hb : ∀ id c, bf id = some c → CtRep H ρ w (ρ id) c)
    (hG : H.le G) (hB : ∀ id c b cap, bf id = some c → ρ id = .at b cap → ∀ o u, w.cell? ⟨b, o, none⟩ = some u → G b o = some u) : Rep G rho0 d v := by
  have lift : ∀ {cs : List AV} {vs : List Value}, RepL H ρ cs vs → idfL cs = true → ∀ (i : Nat) (c : AV) (u : Value), cs[i]? = some c → vs[i]? = some u → Rep G (fun _ => Bd.no) c u := by
    intro cs vs hrl hi i c u hc hu
    exact ((hrl.2 i c u hc hu).mono hG).idf (idf_of_mem hi hc)
  rcases hv with ⟨rfl, hi⟩ | ⟨id, k, off, n, T, xs, rfl, hbf, hn, rfl, hi⟩ | ⟨id, n, T, y, rfl, hbf, hn, rfl, hi⟩ | ⟨id, T, y, rfl, hbf, rfl, hi⟩ | ⟨k, n, c, rfl, rfl, rfl⟩
  · exact (hr.mono hG).idf hi
  · rcases hb _ _ hbf with ⟨hnil, hxs⟩ | ⟨b', cap', cur, hbd, hheap, hmax, hcap, hsz, hrep, hall⟩
    · subst hxs
      cases hr with
      | ownNil => simpa using Rep.slNil
      | own hρ => rw [hnil] at hρ; cases hρ
    · cases hr with
      | ownNil hρ => rw [hbd] at hρ; cases hρ
      | own hρ hn' hm =>
        rename_i b cap
        obtain ⟨rfl, rfl⟩ := rho_at hρ hbd
        have hlen : ((xs.drop off).take n).length = n := by simp; omega
        have main : ∀ (i j : Nat) (x c : AV), ((xs.drop off).take n)[i]? = some x → x.cells[j]? = some c → ∃ u, w.cell? ⟨b, off * k + i * k + j, none⟩ = some u ∧ Rep G (fun _ => Bd.no) c u := by
          intro i j x c hx hc
          have hx' : xs[off + i]? = some x := by
            rw [List.getElem?_take] at hx
            split at hx
            · simpa [List.getElem?_drop] using hx
            · cases hx
          have hseg := (hrep.drop ((off + i) * k)).take k
          rw [flat_get (fun x hx => (hall x hx).1) hx'] at hseg
          obtain ⟨u, hu, hru⟩ := hseg.get hc
          refine ⟨u, ?_, ?_⟩
          · rw [cell_of_row w b _ _ _ _ hheap]
            rw [List.getElem?_take] at hu
            split at hu
            · rw [List.getElem?_drop, List.getElem?_take] at hu
              split at hu
              · rw [← hu, ← Nat.add_mul]; simp
              · cases hu
            · cases hu
          · have hix : x.idf = true := idf_of_mem hi hx
            have hic : c.idf = true := by
              cases x with
              | st cs => exact idf_of_mem (cs := cs) (by simpa only [AV.idf] using hix) hc
              | _ =>
                simp only [AV.cells] at hc
                cases j with
                | zero => simp at hc; subst hc; exact hix
                | succ j => simp at hc
            exact (hru.mono hG).idf hic
        have hgoal : Rep G rho0 (.sl k ((xs.drop off).take n)) (.slice (some ⟨b, off * k, none⟩) ((xs.drop off).take n).length (cap - off)) := by
          refine Rep.sl (fun i j => (w.cell? ⟨b, off * k + i * k + j, none⟩).getD undef) (by omega) (by omega) (fun x hx => (hall x (mem_drop_take hx)).1) (fun x hx => (hall x (mem_drop_take hx)).2) ?_ ?_
          · intro i j x c hx hc
            obtain ⟨u, hu, _⟩ := main i j x c hx hc
            rw [hB _ _ _ _ hbf hbd _ _ hu]
            simp [hu]
          · intro i j x c hx hc
            obtain ⟨u, hu, hru⟩ := main i j x c hx hc
            simpa [hu] using hru
        rw [hlen] at hgoal
        exact hgoal
  · obtain ⟨b', cap', vs, hbd, hheap, hrep, hone, hcap⟩ := hb _ _ hbf
    cases hr with
    | ownNil hρ => rw [hbd] at hρ; cases hρ
    | own hρ hn' hm =>
      rename_i b cap
      obtain ⟨rfl, rfl⟩ := rho_at hρ hbd
      have hgoal : Rep G rho0 (.sl 1 y.cells) (.slice (some ⟨b, 0 * 1, none⟩) y.cells.length (cap - 0)) := by
        have hc1 : ∀ x ∈ y.cells, x.cells = [x] := fun x hx => AV.one_cells (hone x hx)
        refine Rep.sl (fun i j => (vs[i]?).getD undef) (by omega) (by omega) (fun x hx => by rw [hc1 x hx]; rfl) (fun x hx c hc => by rw [hc1 x hx] at hc; simp at hc; subst hc; exact hone _ hx) ?_ ?_
        · intro i j x c hx hc
          have hxm := List.mem_of_getElem? hx
          rw [hc1 x hxm] at hc
          cases j with
          | succ j => simp at hc
          | zero =>
            obtain ⟨u, hu, _⟩ := hrep.get hx
            have hcell : w.cell? ⟨b, i, none⟩ = some u := by rw [cell_of_row w b _ _ _ _ hheap]; simpa using hu
            have := hB _ _ _ _ hbf hbd _ _ hcell
            simp [this, hu]
        · intro i j x c hx hc
          have hxm := List.mem_of_getElem? hx
          rw [hc1 x hxm] at hc
          cases j with
          | succ j => simp at hc
          | zero =>
            simp at hc
            subst hc
            obtain ⟨u, hu, _⟩ := hrep.get hx
            simpa [hu] using lift hrep hi i _ u hx hu
      rw [← hn] at hgoal
      simpa using hgoal
  · obtain ⟨b', cap', vs, hbd, hheap, hrep, hone, hcap⟩ := hb _ _ hbf
    cases hr with
    | loc hρ =>
      rename_i b cap
      obtain ⟨rfl, rfl⟩ := rho_at hρ hbd
      have hic : idfL y.cells = true := by
        cases y with
        | st cs => simpa only [AV.idf, AV.cells] using hi
        | _ => simp only [AV.cells, idfL, Bool.and_true]; exact hi
      refine Rep.ep (fun j => (vs[j]?).getD undef) hone ?_ ?_
      · intro j c hc
        obtain ⟨u, hu, _⟩ := hrep.get hc
        have hcell : w.cell? ⟨b, j, none⟩ = some u := by rw [cell_of_row w b _ _ _ _ hheap]; simpa using hu
        have := hB _ _ _ _ hbf hbd _ _ hcell
        simp [this, hu]
      · intro j c hc
        obtain ⟨u, hu, _⟩ := hrep.get hc
        simpa [hu] using lift hrep hic j c u hc hu
  · rw [hr.v_inv]; exact .slNil

/-- What is known at the entry. -/
theorem entry {f : FuncId} {fn : Func} {c : Code} {H : Heap} {ρ : Rho} {w : World} {args : List AV} {bx : List (Nat × Ct)} {vs : List Value} {R : Ending → World → Prop}
    (hf : P.funcs[f]? = some fn) (hb : fn.body = some c) (he : Ext H w) (hbx : Boxes H ρ (lk bx) w (fun _ => True)) (hr : RepL H ρ args vs) (hn : args.length ≤ fn.ntmps) (hnl : fn.ntmps ≤ 1000000)
    (K : AV → AState → Prop) (haw : AW P ⟨w, H, OwnB ρ (lk bx), fn.ntmps, ρ⟩ c ⟨argSlots 0 args, bx⟩ (retQ P fn K))
    (hk : ∀ x s H' ρ' a' w' v, K x s → Sim ⟨w, H, OwnB ρ (lk bx), fn.ntmps, ρ⟩ H' ρ' s.slot s.box a' w' → Rep H' ρ' x v → R (.returned v) w') : Calls P f vs.toArray w R := by
  refine calls_of_wp hf hb ?_
  have hs : Sim ⟨w, H, OwnB ρ (lk bx), fn.ntmps, ρ⟩ H ρ (AState.mk (argSlots 0 args) bx).slot (AState.mk (argSlots 0 args) bx).box { tmps := vs.toArray ++ Array.replicate (fn.ntmps - vs.toArray.size) undef, defers := [] } w := by
    refine ⟨he, fun i => ?_, ?_, rfl, ⟨hbx.rep, fun id c b cap hc hb => ⟨(hbx.apart id c b cap hc hb).1, (hbx.apart id c b cap hc hb).2.1, .inr ⟨id, c, cap, hc, hb⟩⟩, hbx.inj⟩, H.le_refl, fun b o v h h' => (by rw [show H b o = none from h'] at h; cases h), FrameBut.refl _ _, fun _ _ => rfl, hnl⟩
    · show Rep H ρ ((lk (argSlots 0 args) i).getD .u) _
      rw [argSlots_lk]
      simp only [Nat.zero_le, if_true, Nat.sub_zero]
      cases hx : args[i]? with
      | none => exact .u
      | some x =>
        obtain ⟨u, hu, hru⟩ := hr.get hx
        have hi : i < vs.length := (List.getElem?_eq_some_iff.1 hu).1
        have : (vs.toArray ++ Array.replicate (fn.ntmps - vs.toArray.size) undef).getD i undef = u := by
          rw [Array.getD_eq_getD_getElem?, Array.getElem?_append_left (by simpa using hi)]
          simp [hu]
        simp only [Option.getD_some]
        rw [this]
        exact hru
    · have := hr.1
      simp
      omega
  refine wp_mono (haw H ρ _ w hs) ?_
  have fin : ∀ s H' ρ' a w', retK P fn.results.toList s (fun xs => K (tupAV xs) s) → Sim ⟨w, H, OwnB ρ (lk bx), fn.ntmps, ρ⟩ H' ρ' s.slot s.box a w' → a.defers = [] ∧ ∃ v, (results fn a.tmps).run P w' = .ok v w' ∧ R (.returned v) w' := by
    intro s H' ρ' a w' hq hs'
    obtain ⟨xs, us, hkx, hru, hrun⟩ := retK_run hs' hq
    exact ⟨hs'.defers, _, results_run hrun, hk _ s H' ρ' a w' _ hkx hs' (tup_rep hru)⟩
  intro e a w' hp
  cases e <;> simp only [post, bodyPost] at hp ⊢
  · obtain ⟨s, H', ρ', hq, hs'⟩ := hp
    exact fin s H' ρ' a w' hq hs'
  · obtain ⟨s, H', ρ', hq, _⟩ := hp
    exact hq.elim
  · obtain ⟨s, H', ρ', hq, hs'⟩ := hp
    exact fin s H' ρ' a w' hq hs'

/-- The heap that knows the new boxes too. -/
def thaw (H : Heap) (n : Nat) (w : World) : Heap := fun b o => if (H b o).isSome then H b o else if n ≤ b then w.cell? ⟨b, o, none⟩ else none

/-- A FUNCTION OF VALUES, by its walk. -/
theorem PSpec_of {f : FuncId} {fn : Func} {c : Code} {args : List AV} {res : AV} (hf : P.funcs[f]? = some fn) (hb : fn.body = some c) (hname : (fn.name == "runtime.NumGoroutine") = false) (hn : args.length ≤ fn.ntmps) (hnl : fn.ntmps ≤ 1000000)
    (h : ∀ E : Env, E.n = fn.ntmps → AW P E c ⟨argSlots 0 args, []⟩ (retQ P fn (fun x s => View s.box x res))) : PSpec P f args res := by
  refine ⟨ent_of hf hname hb, fun H w vs he hr => ?_⟩
  refine entry (P := P) (bx := []) hf hb he ⟨fun id c hc => by simp [lk] at hc, fun id c b cap hc => by simp [lk] at hc, fun id id' c c' b cap cap' hc => by simp [lk] at hc⟩ hr hn hnl _ (h _ rfl) ?_
  intro x s H' ρ' a' w' v hv hs hrx
  have hno : ∀ b, ¬ OwnB rho0 (lk ([] : List (Nat × Ct))) b := by rintro b ⟨id, c, cap, hc, _⟩; simp [lk] at hc
  have hmine : ∀ b, (Env.mine ⟨w, H, OwnB rho0 (lk []), fn.ntmps, rho0⟩ b) → w.heap.size ≤ b := by
    rintro b (h | h)
    · exact h
    · exact (hno b h).elim
  have hle : H'.le (thaw H' w.heap.size w') := fun b o u hu => by simp [thaw, hu]
  refine ⟨thaw H' w.heap.size w', v, rfl, fun b o u hu => hle _ _ _ (hs.h0 b o u hu), ?_, ?_, ?_, ?_⟩
  · intro b o u hu hu0
    simp only [thaw] at hu
    split at hu
    · exact hmine b (hs.new b o u hu hu0)
    · split at hu
      · assumption
      · cases hu
  · intro b o u hu
    simp only [thaw] at hu
    split at hu
    · exact hs.ext b o u hu
    · split at hu
      · exact hu
      · cases hu
  · refine view_rep2 hv hrx hs.boxes.rep hle ?_
    intro id c b cap hc hbd o u hu
    have h1 := hs.boxes.apart id c b cap hc hbd
    simp [thaw, h1.1 o, hmine b h1.2.2, hu]
  · refine FrameBut.below ⟨hs.frame.os, hs.frame.tape, hs.frame.output, hs.frame.size, fun k hk _ => hs.frame.block k hk (hno k)⟩

/-- A FUNCTION OVER BOXES, by its walk: what it hands back, and what is in the boxes then. -/
def MOut (P : Program) (fn : Func) (R : AV → (Nat → Option Ct) → Prop) : AExit → AState → Prop := retQ P fn (fun x s => R x s.box)

theorem MSpec_of {f : FuncId} {fn : Func} {c : Code} {args : List AV} {bx : List (Nat × Ct)} {R : AV → (Nat → Option Ct) → Prop} (hf : P.funcs[f]? = some fn) (hb : fn.body = some c) (hname : (fn.name == "runtime.NumGoroutine") = false) (hn : args.length ≤ fn.ntmps) (hnl : fn.ntmps ≤ 1000000)
    (h : ∀ E : Env, E.n = fn.ntmps → AW P E c ⟨argSlots 0 args, bx⟩ (MOut P fn R)) : MSpec P f args bx R := by
  refine ⟨ent_of hf hname hb, fun H ρ w vs he hbx hr => ?_⟩
  refine entry (P := P) hf hb he hbx hr hn hnl _ (h _ rfl) ?_
  intro x s H' ρ' a' w' v hv hs hrx
  exact ⟨H', ρ', x, s.box, v, rfl, hv, hs.h0, hs.new, hs.ext, hs.boxes, hrx, hs.frame, hs.keep⟩

end
end Go.Am
