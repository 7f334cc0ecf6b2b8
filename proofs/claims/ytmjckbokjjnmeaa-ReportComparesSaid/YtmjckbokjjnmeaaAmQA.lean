/- The abstract machine, part 10: one law for all quiet operations; what they look at. -/
import Derived.Test.YtmjckbokjjnmeaaAmQS4
namespace Go.Am
open Go.RowKit

section
variable {P : Program} {w : World} {H : Heap} {ρ : Rho} {bf : Nat → Option Ct}

theorem RepL.mapOps {av : Operand → AV} {ev : Operand → Value} : ∀ {xs : List Operand}, (∀ x ∈ xs, Rep H ρ (av x) (ev x)) → RepL H ρ (xs.map av) (xs.map ev)
  | [], _ => RepL.nil
  | x :: xs, h => RepL.cons (h x (by simp)) (RepL.mapOps (fun y hy => h y (List.mem_cons_of_mem _ hy)))

theorem parts_rep {av : Operand → AV} {ev : Operand → Value} : ∀ {l : List (Nat × Operand)}, (∀ p ∈ l, Rep H ρ (av p.2) (ev p.2)) → PartsRep H ρ (l.map fun p => (p.1, av p.2)) (l.map fun p => (p.1, ev p.2))
  | [], _ => trivial
  | p :: l, h => ⟨rfl, h p (by simp), parts_rep (fun q hq => h q (List.mem_cons_of_mem _ hq))⟩

theorem opt_rep {av : Operand → AV} {ev : Operand → Value} {x : Option Operand} (h : ∀ y, x = some y → Rep H ρ (av y) (ev y)) : OptRep H ρ (x.map av) (x.map ev) := by
  cases x with
  | none => trivial
  | some y => exact h y rfl

/-- A call of a function of values, from its contract. -/
theorem qcall_fun {o : Oper} {a : Act} {k : AV → Option Ct → Prop} {Q : Exit → Act → World → Prop} {g : FuncId} {args : List AV} {vs : List Value} (hr : RepL H ρ args vs) (he : Ext H w)
    (hb : ∀ id c, bf id = some c → CtRep H ρ w (ρ id) c) (hrun : (execOp a.eval o).run P w = (callFunc g vs.toArray).run P w) (h : QCall P g args bf o.dst k) :
    o.wp P a w (QPost o a w H ρ k) Q := by
  rcases h.ex with ⟨ds, res, hv, ⟨hent, hspec⟩, hfl, hk⟩ | ⟨ds, mk, c, t, hv, ⟨hent, hspec⟩, hdt, hfl, hk⟩
  rotate_left
  · unfold Oper.wp
    rw [hrun, hent]
    simp only [Oper.upon]
    rcases hfl with hfl | ⟨rfl, hi⟩
    · refine Calls.mono (hspec (snap w) w vs (snap_ext w) (viewL_rep hv hr he hb)) ?_
      rintro e w' ⟨H', v, b, cap, rfl, hle, hnew, hext, hrep, hct, hb0, hb1, hno, hbel⟩
      have hnoH : ∀ i, H b i = none := fun i => by
        cases hh : H b i with
        | none => rfl
        | some u => have := World.block_lt_of_cell? w _ (he _ _ _ hh); simp at this; omega
      exact ⟨mk t, some c, H, ρ.upd t (.at b cap), v, hk, rfl, H.le_refl, fun b i u h h' => by rw [h'] at h; simp at h, he.of_below hbel, hrep _ _ _ (Rho.upd_same _ _ _), hbel, t, b, cap, hdt, rfl, hb0, hb1, hnoH, hfl _ _ _ _ _ _ (hct ρ)⟩
    · refine Calls.mono (hspec H w vs he (hr.idf hi)) ?_
      rintro e w' ⟨H', v, b, cap, rfl, hle, hnew, hext, hrep, hct, hb0, hb1, hno, hbel⟩
      exact ⟨mk t, some c, H', ρ.upd t (.at b cap), v, hk, rfl, hle, hnew, hext, hrep _ _ _ (Rho.upd_same _ _ _), hbel, t, b, cap, hdt, rfl, hb0, hb1, hno, hct _⟩
  unfold Oper.wp
  rw [hrun, hent]
  simp only [Oper.upon]
  rcases hfl with hfl | ⟨rfl, hi, hri⟩
  · refine Calls.mono (hspec (snap w) w vs (snap_ext w) (viewL_rep hv hr he hb)) ?_
    rintro e w' ⟨H', v, rfl, hle, hnew, hext, hrep, hbel⟩
    exact ⟨res, none, H, ρ, v, hk, rfl, H.le_refl, fun b i u h h' => by rw [h'] at h; simp at h, he.of_below hbel, hrep.flat hfl, hbel, rfl⟩
  · refine Calls.mono (hspec H w vs he (hr.idf hi)) ?_
    rintro e w' ⟨H', v, rfl, hle, hnew, hext, hrep, hbel⟩
    exact ⟨res, none, H', ρ, v, hk, rfl, hle, hnew, hext, hrep.idf hri, hbel, rfl⟩

theorem resolve_fun {ρ' : Operand → Value} {c : Call} {f : Operand} {ty : TypeId} {g : FuncId} {us vs : Array Value} (hc : c.callee = .value f) (hf : ρ' f = .func (.func g) us vs) :
    (do let d ← resolve ρ' c ty; invoke d.target d.args : Sem Next).run P w = (callFunc g (us ++ c.args.map ρ' ++ vs)).run P w := by
  simp [resolve, hc, hf, Deferred.ofValue, invoke]

theorem fn_inv {f : Fn} {xs cs : List AV} {v : Value} (h : Rep H ρ (.fn f xs cs) v) : ∃ us vs, v = .func f (List.toArray us) (List.toArray vs) ∧ RepL H ρ xs us ∧ RepL H ρ cs vs := by
  cases h with
  | fn hl1 hl2 h1 h2 => exact ⟨_, _, rfl, ⟨hl1, h1⟩, ⟨hl2, h2⟩⟩

theorem run_min2 (k : IntKind) (a b : Int) (w : World) : (Builtin.min2 (.int k a) (.int k b)).run P w = .ok (.int k (min a b)) w := by
  simp only [Builtin.min2, Sem.run_pure]
  congr 2
  split <;> omega
theorem run_max2 (k : IntKind) (a b : Int) (w : World) : (Builtin.max2 (.int k a) (.int k b)).run P w = .ok (.int k (max a b)) w := by
  simp only [Builtin.max2, Sem.run_pure]
  congr 2
  split <;> omega

theorem qop_sound {o : Oper} {a : Act} {av : Operand → AV} {k : AV → Option Ct → Prop} {Q : Exit → Act → World → Prop} (hav : ∀ x ∈ o.op.operands.toList, Rep H ρ (av x) (a.eval x)) (he : Ext H w)
    (hb : ∀ id c, bf id = some c → CtRep H ρ w (ρ id) c) (hfr : newOp o.op = true → ∀ d, o.dst = some d → ∀ x ∈ o.op.operands.toList, (av x).ment d = false) (h : qop P o av bf k) :
    o.wp P a w (QPost o a w H ρ k) Q := by
  have fin : ∀ {s : Sem Value} {x : AV} {u : Value}, (∀ w, (execOp a.eval o).run P w = (do pure (.value (← s)) : Sem Next).run P w) → s.run P w = .ok u w → Rep H ρ x u → k x none → o.wp P a w (QPost o a w H ρ k) Q := by
    intro s x u he1 hs hr hk
    exact q_val (by rw [he1]; simp [hs]) hr he hk
  unfold qop at h
  cases hop : o.op with
  | move x =>
    rw [hop] at h hav
    exact q_val (by simp [execOp, hop]) (hav x (by simp [Op.operands])) he h
  | assign x =>
    rw [hop] at h hav
    exact q_val (by simp [execOp, hop]) (hav x (by simp [Op.operands])) he h
  | pick c x y =>
    rw [hop] at h hav
    have hc := hav c (by simp [Op.operands])
    simp only at h
    split at h
    · rename_i t ht
      rw [ht] at hc
      cases t with
      | true => exact q_val (u := a.eval x) (by simp [execOp, hop, hc.v_inv, asBool]) (hav x (by simp [Op.operands])) he (h.1 rfl)
      | false => exact q_val (u := a.eval y) (by simp [execOp, hop, hc.v_inv, asBool]) (hav y (by simp [Op.operands])) he (h.2 rfl)
    · exact h.elim
  | alloc T =>
    rw [hop] at h
    simp only at h
    split at h
    · rename_i d z hd hz
      obtain ⟨hs, hk⟩ := h
      obtain ⟨zv, hzr, hzrep, _⟩ := run_zeroValue' hz w
      have hc := (hzrep H (ρ.upd d (.at w.heap.size z.cells.length))).cellsL hs
      refine q_new (c := .box T z) (cap := z.cells.length) (obj := .cells zv.cells T) hd (u := .pointer (some ⟨w.heap.size, 0, none⟩)) (by simp [execOp, hop, Instr.alloc, hzr, newVar, newRow]) (.loc (Rho.upd_same _ _ _)) he ⟨w.heap.size, _, zv.cells.toList, rfl, by rw [heap_alloc_new], hc.1, hc.2, rfl⟩ hk
    · exact h.elim
  | box T x =>
    rw [hop] at h hav hfr
    simp only at h
    split at h
    · rename_i d hd
      obtain ⟨hs, hk⟩ := h
      have hx := hav x (by simp [Op.operands])
      have hm := hfr rfl d hd x (by simp [Op.operands])
      have hc := hx.cellsL hs
      exact q_new (c := .box T (av x)) (cap := (av x).cells.length) (obj := .cells (a.eval x).cells T) hd (u := .pointer (some ⟨w.heap.size, 0, none⟩)) (by simp [execOp, hop, Instr.box, newVar, newRow]) (.loc (Rho.upd_same _ _ _)) he
        ⟨w.heap.size, _, (a.eval x).cells.toList, rfl, by rw [heap_alloc_new], hc.1.upd (mentL_of_cells hm), hc.2, rfl⟩ hk
    · exact h.elim
  | load T p =>
    rw [hop] at h hav
    obtain ⟨x, u, hk, hr, hrun⟩ := qload_sound (hav p (by simp [Op.operands])) he hb h
    exact fin (s := Instr.loadAt T (a.eval p)) (by simp [execOp, hop]) hrun hr hk
  | fieldAddr T x f =>
    rw [hop] at h hav
    obtain ⟨y, u, hk, hr, hrun⟩ := qfaddr_sound (w := w) (hav x (by simp [Op.operands])) h
    exact fin (s := Instr.fieldAt T (a.eval x) f) (by simp [execOp, hop]) hrun hr hk
  | indexAddr T x i =>
    rw [hop] at h hav
    obtain ⟨y, u, hk, hr, hrun⟩ := qiaddr_sound (w := w) (hav x (by simp [Op.operands])) (hav i (by simp [Op.operands])) h
    exact fin (s := Instr.indexAt T (a.eval x) (a.eval i)) (by simp [execOp, hop]) hrun hr hk
  | buildSlice T len parts =>
    rw [hop] at h hav hfr
    simp only at h
    split at h
    · rename_i d hd
      have hp : PartsRep H ρ (parts.toList.map fun p => (p.1, av p.2)) (parts.map fun (i, x) => (i, a.eval x)).toList := by
        rw [Array.toList_map]
        exact parts_rep (fun p hp => hav p.2 (by simp only [Op.operands]; simp; exact ⟨p.1, by simpa using hp⟩))
      obtain ⟨x, c, u, obj, cap, hk, hr, hc, hrun⟩ := qbslice_sound (w := w) hp (fun p hp' => by
        obtain ⟨q, hq, rfl⟩ := List.mem_map.1 hp'
        exact hfr rfl d hd q.2 (by simp only [Op.operands]; simp; exact ⟨q.1, by simpa using hq⟩)) h
      exact q_new hd (by simp only [execOp, hop, Sem.run_bind, hrun, Result.andThen_ok, Sem.run_pure]) hr he hc hk
    · exact h.elim
  | build T parts =>
    rw [hop] at h hav
    have hp : PartsRep H ρ (parts.toList.map fun p => (p.1, av p.2)) (parts.map fun (i, x) => (i, a.eval x)).toList := by
      rw [Array.toList_map]
      exact parts_rep (fun p hp => hav p.2 (by simp only [Op.operands]; simp; exact ⟨p.1, by simpa using hp⟩))
    obtain ⟨y, u, hk, hr, hrun⟩ := qbuild_sound (w := w) hp h
    exact fin (s := Instr.build T (parts.map fun (i, x) => (i, a.eval x))) (by simp [execOp, hop]) hrun hr hk
  | field T x f =>
    rw [hop] at h hav
    obtain ⟨y, u, hk, hr, hrun⟩ := qfield_sound (w := w) (hav x (by simp [Op.operands])) h
    exact fin (s := Instr.field T (a.eval x) f) (by simp [execOp, hop]) hrun hr hk
  | index T x i =>
    rw [hop] at h hav
    obtain ⟨y, u, hk, hr, hrun⟩ := qindex_sound (w := w) (hav x (by simp [Op.operands])) (hav i (by simp [Op.operands])) h
    exact fin (s := Instr.index T (a.eval x) (a.eval i)) (by simp [execOp, hop]) hrun hr hk
  | extract t i =>
    rw [hop] at h hav
    have ht := hav t (by simp [Op.operands])
    simp only at h
    split at h
    · rename_i xs hx
      rw [hx] at ht
      split at h
      · rename_i x hxi
        cases hv : a.eval t with
        | tuple vs =>
          rw [hv] at ht
          cases ht with
          | tup hl hh =>
            rename_i vs
            obtain ⟨u, hu, hr⟩ := RepL.get ⟨hl, hh⟩ hxi
            exact q_val (u := u) (by simp [execOp, hop, Instr.extract, hv, hu]) hr he h
        | _ => rw [hv] at ht; cases ht
      · exact h.elim
    · exact h.elim
  | binOp op T x y ty =>
    rw [hop] at h hav
    obtain ⟨r, hk, hok, hg, hrun⟩ := qbin_sound (P := P) (w := w) (ox := x) (oy := y) (hav x (by simp [Op.operands])) (hav y (by simp [Op.operands])) h
    exact q_val (u := r) (by simp [execOp, hop, hg, hrun]) (.v hok) he hk
  | unOp op T x =>
    rw [hop] at h hav
    obtain ⟨y, u, hk, hr, hrun⟩ := qun_sound (P := P) (w := w) (hav x (by simp [Op.operands])) h
    exact fin (s := Op.unary op (a.eval x)) (by simp [execOp, hop]) hrun hr hk
  | convert sT dT x =>
    rw [hop] at h hav
    obtain ⟨y, u, hk, hr, hrun⟩ := qconv_sound (P := P) (w := w) (hav x (by simp [Op.operands])) h
    exact fin (s := convert sT dT (a.eval x)) (by simp [execOp, hop]) hrun hr hk
  | makeInterface T x =>
    rw [hop] at h hav
    obtain ⟨⟨hok, hni⟩, hk⟩ := h
    unfold okT at hok
    obtain ⟨d, hd⟩ := Option.isSome_iff_exists.1 hok
    rw [hd] at hni
    refine fin (s := Instr.makeInterface T (a.eval x)) (u := .iface T (a.eval x)) (by simp [execOp, hop]) ?_ (.ifc (hav x (by simp [Op.operands]))) hk
    cases d <;> first | (exact hni.elim) | (simp [Instr.makeInterface, run_underlying hd])
  | makeFunc fn first caps =>
    rw [hop] at h hav
    have h1 := RepL.mapOps (H := H) (ρ := ρ) (av := av) (ev := a.eval) (xs := first.toList) (fun x hx => hav x (by simp only [Op.operands, Array.toList_append]; exact List.mem_append_left _ hx))
    have h2 := RepL.mapOps (H := H) (ρ := ρ) (av := av) (ev := a.eval) (xs := caps.toList) (fun x hx => hav x (by simp only [Op.operands, Array.toList_append]; exact List.mem_append_right _ hx))
    refine q_val (u := .func fn (first.map a.eval) (caps.map a.eval)) (by simp [execOp, hop, Instr.makeFunc]) ?_ he h
    have := Rep.fn (f := fn) h1.1 h2.1 h1.2 h2.2
    have e1 : (first.toList.map a.eval).toArray = first.map a.eval := by apply Array.toList_inj.1; simp
    have e2 : (caps.toList.map a.eval).toArray = caps.map a.eval := by apply Array.toList_inj.1; simp
    rw [e1, e2] at this
    exact this
  | makeMap T r =>
    rw [hop] at h
    cases r with
    | some r => exact h.elim
    | none =>
      simp only at h
      split at h
      · rename_i d hd
        refine q_new (c := .map [] none) (cap := 0) (obj := .map #[] 0) hd (u := .map (some w.heap.size)) (by simp [execOp, hop, Instr.makeMap]) (.mp (Rho.upd_same _ _ _)) he ⟨w.heap.size, 0, #[], 0, rfl, heap_alloc_new w _, RepL.nil, RepL.nil, by simp, by simp, fun _ _ e => by cases e⟩ h
      · exact h.elim
  | slice T x lo hi mx =>
    cases mx with
    | some m => rw [hop] at h; exact h.elim
    | none =>
      rw [hop] at h hav
      obtain ⟨y, u, hk, hr, hrun⟩ := qslice_sound (w := w) (hav x (by simp [Op.operands])) (opt_rep (x := lo) (fun y hy => hav y (by subst hy; simp [Op.operands]))) (opt_rep (x := hi) (fun y hy => hav y (by subst hy; simp [Op.operands]))) hb h
      exact fin (s := Instr.sliceAt T (a.eval x) (lo.map a.eval) (hi.map a.eval) none) (by simp [execOp, hop]) hrun hr hk
  | lookup T x i ok =>
    rw [hop] at h hav
    obtain ⟨y, u, hk, hr, hrun⟩ := qlookup_sound (w := w) (hav x (by simp [Op.operands])) (hav i (by simp [Op.operands])) hb h
    exact fin (s := Instr.lookup T (a.eval x) (a.eval i) ok) (by simp [execOp, hop]) hrun hr hk
  | call c =>
    rw [hop] at h hav
    have hargs := RepL.mapOps (H := H) (ρ := ρ) (av := av) (ev := a.eval) (xs := c.args.toList) (fun x hx => hav x (by simp only [Op.operands, Call.operands, Array.toList_append]; exact List.mem_append_right _ hx))
    simp only [qcall] at h
    split at h
    · rename_i x hc hx
      rw [hx] at hargs
      obtain ⟨v, vs', hvs, hr, hnil⟩ := hargs.cons_inv
      rw [hnil.nil_inv] at hvs
      have hva : c.args.map a.eval = #[v] := by
        apply Array.toList_inj.1
        rw [Array.toList_map]
        exact hvs
      split at h
      · rename_i T hT
        obtain ⟨y, r, hk, hrep, hrun⟩ := qlen_sound (ty := o.type) hr hb h c.argTypes hT
        exact q_val (u := r) (by simp [execOp, hop, resolve, hc, invoke, builtin, hva, hrun]) hrep he hk
      · exact h.elim
    · rename_i xs hc
      obtain ⟨y, u, v, vs', hvs, hk, hrep, hrun⟩ := qfold_sound (P := P) (w := w) (g := Builtin.min2) run_min2 hargs h
      have hva : (c.args.map a.eval).toList = v :: vs' := by rw [Array.toList_map]; exact hvs
      exact q_val (u := u) (by simp only [execOp, hop, resolve, hc, invoke, builtin, Builtin.min_, Sem.run_bind, Sem.run_pure, Result.andThen_ok, hva, hrun]) hrep he hk
    · rename_i xs hc
      obtain ⟨y, u, v, vs', hvs, hk, hrep, hrun⟩ := qfold_sound (P := P) (w := w) (g := Builtin.max2) run_max2 hargs h
      have hva : (c.args.map a.eval).toList = v :: vs' := by rw [Array.toList_map]; exact hvs
      exact q_val (u := u) (by simp only [execOp, hop, resolve, hc, invoke, builtin, Builtin.max_, Sem.run_bind, Sem.run_pure, Result.andThen_ok, hva, hrun]) hrep he hk
    · rename_i xs f hc
      have hf := hav f (by simp only [Op.operands, Call.operands, hc, Array.toList_append]; exact List.mem_append_left _ (by simp))
      split at h
      · rename_i g first caps hfn
        rw [hfn] at hf
        obtain ⟨us, vs, hv, hus, hvs⟩ := fn_inv hf
        refine qcall_fun (vs := us ++ c.args.toList.map a.eval ++ vs) ((hus.append hargs).append hvs) he hb ?_ h
        have := resolve_fun (P := P) (w := w) (ty := o.type) hc hv
        simp only [execOp, hop]
        rw [this]
        congr 1
        congr 1
        apply Array.toList_inj.1
        simp
      · exact h.elim
    · exact h.elim
  | _ => rw [hop] at h; exact h.elim

theorem view_congr {bf' : Nat → Option Ct} {x d : AV} (hbf : ∀ id ∈ idsOf x, bf' id = bf id) (h : View bf x d) : View bf' x d := by
  rcases h with h | ⟨id, k, off, n, T, xs, rfl, hb, h⟩ | ⟨id, n, T, y, rfl, hb, h⟩ | ⟨id, T, y, rfl, hb, h⟩ | h
  · exact .inl h
  · exact .inr (.inl ⟨id, k, off, n, T, xs, rfl, (hbf id (by simp [idsOf])).trans hb, h⟩)
  · exact .inr (.inr (.inl ⟨id, n, T, y, rfl, (hbf id (by simp [idsOf])).trans hb, h⟩))
  · exact .inr (.inr (.inr (.inl ⟨id, T, y, rfl, (hbf id (by simp [idsOf])).trans hb, h⟩)))
  · exact .inr (.inr (.inr (.inr h)))

theorem viewL_congr {bf' : Nat → Option Ct} : ∀ {xs ds : List AV}, (∀ id ∈ idsL xs, bf' id = bf id) → ViewL bf xs ds → ViewL bf' xs ds
  | [], [], _, _ => trivial
  | [], _ :: _, _, h => h.elim
  | _ :: _, [], _, h => h.elim
  | x :: xs, d :: ds, hbf, h => by
    simp only [idsL, List.mem_append] at hbf
    exact ⟨view_congr (fun id hid => hbf id (.inl hid)) h.1, viewL_congr (fun id hid => hbf id (.inr hid)) h.2⟩

theorem qcall_congr {bf' : Nat → Option Ct} {f : FuncId} {args : List AV} {d : Option Tmp} {k : AV → Option Ct → Prop} (hbf : ∀ id ∈ idsL args, bf' id = bf id) (h : QCall P f args bf d k) : QCall P f args bf' d k := by
  rcases h.ex with ⟨ds, res, hv, h⟩ | ⟨ds, mk, c, t, hv, h⟩
  · exact ⟨.inl ⟨ds, res, viewL_congr hbf hv, h⟩⟩
  · exact ⟨.inr ⟨ds, mk, c, t, viewL_congr hbf hv, h⟩⟩

theorem lkA_congr {bf' : Nat → Option Ct} {x : AV} (hbf : ∀ id ∈ idsOf x, bf' id = bf id) : lkA bf' x = lkA bf x := by
  cases x <;> simp [idsOf] at hbf <;> simp [lkA, hbf]

theorem idsL_append : ∀ (a b : List AV), idsL (a ++ b) = idsL a ++ idsL b
  | [], b => rfl
  | x :: a, b => by simp [idsL, idsL_append a b]

/-- It looks at its operands and at the boxes that 'rids' names. -/
theorem qop_congr {o : Oper} {av av' : Operand → AV} {bf' : Nat → Option Ct} {k : AV → Option Ct → Prop} (hav : ∀ x ∈ o.op.operands.toList, av' x = av x) (hbf : ∀ id ∈ rids o av, bf' id = bf id) (h : qop P o av bf k) : qop P o av' bf' k := by
  unfold qop at h ⊢
  unfold rids at hbf
  cases hop : o.op with
  | move x => rw [hop] at h hav; simp only at h ⊢; rw [hav x (by simp [Op.operands])]; exact h
  | assign x => rw [hop] at h hav; simp only at h ⊢; rw [hav x (by simp [Op.operands])]; exact h
  | pick c x y => rw [hop] at h hav; simp only at h ⊢; rw [hav c (by simp [Op.operands]), hav x (by simp [Op.operands]), hav y (by simp [Op.operands])]; exact h
  | alloc T => rw [hop] at h; exact h
  | box T x => rw [hop] at h hav; simp only at h ⊢; rw [hav x (by simp [Op.operands])]; exact h
  | load T p =>
    rw [hop] at h hav hbf
    simp only at h hbf ⊢
    rw [hav p (by simp [Op.operands]), lkA_congr hbf]
    exact h
  | fieldAddr T x f => rw [hop] at h hav; simp only at h ⊢; rw [hav x (by simp [Op.operands])]; exact h
  | indexAddr T x i => rw [hop] at h hav; simp only at h ⊢; rw [hav x (by simp [Op.operands]), hav i (by simp [Op.operands])]; exact h
  | buildSlice T len parts =>
    rw [hop] at h hav
    simp only at h ⊢
    have : (parts.toList.map fun p => (p.1, av' p.2)) = (parts.toList.map fun p => (p.1, av p.2)) := List.map_congr_left fun p hp => by
      rw [hav p.2 (by simp only [Op.operands]; simp; exact ⟨p.1, by simpa using hp⟩)]
    rw [this]; exact h
  | build T parts =>
    rw [hop] at h hav
    simp only at h ⊢
    have : (parts.toList.map fun p => (p.1, av' p.2)) = (parts.toList.map fun p => (p.1, av p.2)) := List.map_congr_left fun p hp => by
      rw [hav p.2 (by simp only [Op.operands]; simp; exact ⟨p.1, by simpa using hp⟩)]
    rw [this]; exact h
  | field T x f => rw [hop] at h hav; simp only at h ⊢; rw [hav x (by simp [Op.operands])]; exact h
  | index T x i => rw [hop] at h hav; simp only at h ⊢; rw [hav x (by simp [Op.operands]), hav i (by simp [Op.operands])]; exact h
  | extract t i => rw [hop] at h hav; simp only at h ⊢; rw [hav t (by simp [Op.operands])]; exact h
  | binOp op T x y ty => rw [hop] at h hav; simp only at h ⊢; rw [hav x (by simp [Op.operands]), hav y (by simp [Op.operands])]; exact h
  | unOp op T x => rw [hop] at h hav; simp only at h ⊢; rw [hav x (by simp [Op.operands])]; exact h
  | convert sT dT x => rw [hop] at h hav; simp only at h ⊢; rw [hav x (by simp [Op.operands])]; exact h
  | makeInterface T x => rw [hop] at h hav; simp only at h ⊢; rw [hav x (by simp [Op.operands])]; exact h
  | makeFunc fn first caps =>
    rw [hop] at h hav
    simp only at h ⊢
    have h1 : first.toList.map av' = first.toList.map av := List.map_congr_left fun x hx => hav x (by simp only [Op.operands, Array.toList_append]; exact List.mem_append_left _ hx)
    have h2 : caps.toList.map av' = caps.toList.map av := List.map_congr_left fun x hx => hav x (by simp only [Op.operands, Array.toList_append]; exact List.mem_append_right _ hx)
    rw [h1, h2]; exact h
  | makeMap T r => rw [hop] at h; cases r <;> exact h
  | slice T x lo hi mx =>
    cases mx with
    | some m => rw [hop] at h; exact h.elim
    | none =>
      rw [hop] at h hav hbf
      simp only at h hbf ⊢
      have h1 : lo.map av' = lo.map av := by cases lo with | none => rfl | some y => simp [hav y (by simp [Op.operands])]
      have h2 : hi.map av' = hi.map av := by cases hi with | none => rfl | some y => simp [hav y (by simp [Op.operands])]
      rw [h1, h2, hav x (by simp [Op.operands]), lkA_congr hbf]
      exact h
  | lookup T x i ok =>
    rw [hop] at h hav hbf
    simp only at h hbf ⊢
    rw [hav x (by simp [Op.operands]), hav i (by simp [Op.operands]), lkA_congr hbf]
    exact h
  | call c =>
    rw [hop] at h hav hbf
    simp only at h hbf ⊢
    have h1 : c.args.toList.map av' = c.args.toList.map av := List.map_congr_left fun x hx => hav x (by simp only [Op.operands, Call.operands, Array.toList_append]; exact List.mem_append_right _ hx)
    unfold qcall at h ⊢
    rw [h1]
    have hbf2 : ∀ id ∈ idsL (c.args.toList.map av), bf' id = bf id := fun id hid => hbf id (List.mem_append_right _ hid)
    generalize c.args.toList.map av = xs at *
    cases hc : c.callee with
    | builtin b =>
      rw [hc] at h
      cases b with
      | len =>
        match xs, h with
        | [x], h =>
          simp only at h ⊢
          rw [lkA_congr (fun id hid => hbf2 id (by simp [idsL, hid]))]
          exact h
        | [], h => exact h
        | _ :: _ :: _, h => exact h
      | _ => exact h
    | value f =>
      rw [hc] at h hbf
      simp only at h hbf ⊢
      rw [hav f (by simp only [Op.operands, Call.operands, hc, Array.toList_append]; exact List.mem_append_left _ (by simp))]
      cases hf : av f with
      | fn fk first caps =>
        rw [hf] at h hbf
        cases fk with
        | func g =>
          simp only at h ⊢
          refine qcall_congr (fun id hid => ?_) h
          rw [idsL_append, idsL_append] at hid
          simp only [List.mem_append] at hid
          rcases hid with (hid | hid) | hid
          · exact hbf id (List.mem_append_left _ (by simp only [idsOf, List.mem_append]; exact .inl hid))
          · exact hbf2 id hid
          · exact hbf id (List.mem_append_left _ (by simp only [idsOf, List.mem_append]; exact .inr hid))
        | _ => exact h
      | _ => rw [hf] at h; exact h
    | invoke r m => rw [hc] at h; exact h
  | _ => rw [hop] at h; exact h.elim

end
end Go.Am
