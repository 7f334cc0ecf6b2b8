/- The abstract machine, part 14: regions in the order of the text. -/
import Derived.Test.YtmjckbokjjnmeaaAmOp2
namespace Go.Am
open Go.RowKit

def AState.fresh (s : AState) (d : Option Tmp) : Prop := match d with
  | some d => s.ment d = false
  | none => True

def qstep (P : Program) (o : Oper) (s : AState) (K : AState → Prop) : Prop :=
  (newOp o.op = true → s.fresh o.dst) ∧ qop P o s.eval s.box (fun x n => K ((s.put o.dst x).addBox o.dst n))

/-- A call of a Go function, to be met by a contract. -/
def aCall (P : Program) (E : Env) (f : AV) (args : List AV) (s : AState) (d : Option Tmp) (K : AState → Prop) : Prop :=
  match f with
  | .fn (.func g) first caps => ACall P E g (first ++ args ++ caps) s d K
  | _ => False

/-- A pointer, an interface value or a function value that is not nil. -/
def aThere : AV → Bool
  | .loc _ _ | .eloc _ _ _ _ | .ep _ | .ifc _ _ | .fn (.func _) _ _ => true
  | _ => false

def stepBin (P : Program) (o : Oper) (op : BinOp) (T : TypeId) (x y : AV) (s : AState) (K : AState → Prop) : Prop :=
  match x, y with
  | .sl _ xs, .v (.slice none _ _) => aSlNil P op T (xs = []) s o.dst K
  | .own _ _ _ n, .v (.slice none _ _) => aSlNil P op T (n = 0) s o.dst K
  | _, _ => qstep P o s K

def stepSlice (P : Program) (o : Oper) (T : TypeId) (x : AV) (lo hi : Option AV) (s : AState) (K : AState → Prop) : Prop :=
  match x, lo, hi with
  | .v (.slice none 0 0), none, some (.v (.int _ 0)) => (∃ e, P.underlying T = some (.slice e) ∧ okT P e = true) ∧ K (s.put o.dst (.v (.slice none 0 0)))
  | _, _, _ => qstep P o s K

def stepCap (P : Program) (T : TypeId) (x : AV) (s : AState) (d : Option Tmp) (K : AState → Prop) : Prop :=
  match x with
  | .v (.slice none _ c) => (∃ e, P.underlying T = some (.slice e)) ∧ K (s.put d (.v (.int .i64 c)))
  | _ => False

def stepCall (P : Program) (E : Env) (o : Oper) (c : Call) (s : AState) (K : AState → Prop) : Prop :=
  match c.callee with
  | .builtin .append => (match c.args.toList, c.argTypes.toList with
    | [v, x], [T, T'] => if T = T' then aAppend P T (s.eval v) (s.eval x) (s.forget (s.eval v)) o.dst K else aAppendN P T T' (s.eval v) (s.eval x) s o.dst K
    | _, _ => False)
  | .builtin .clear => (match c.args.toList, c.argTypes.toList with
    | [x], [T] => aClear P T (s.eval x) s (fun s' => K (s'.put o.dst (.tup [])))
    | _, _ => False)
  | .builtin .cap => (match c.args.toList, c.argTypes.toList with
    | [x], [T] => stepCap P T (s.eval x) s o.dst K
    | _, _ => False)
  | .value f => aCall P E (s.eval f) (c.args.toList.map s.eval) s o.dst K
  | _ => qstep P o s K

def stepOp (P : Program) (E : Env) (o : Oper) (s : AState) (K : AState → Prop) : Prop :=
  match o.op with
  | .store T p x => aStore P T (s.eval p) (s.eval x) s (fun s' => K (s'.put o.dst (.tup [])))
  | .mapUpdate T m k x => aMapUpd P T (s.eval m) (s.eval k) (s.eval x) s (fun s' => K (s'.put o.dst (.tup [])))
  | .insert T m k x => aMapUpd P T (s.eval m) (s.eval k) (s.eval x) s (fun s' => K (s'.put o.dst (.tup [])))
  | .nilCheck x => aThere (s.eval x) = true ∧ K (s.put o.dst (s.eval x))
  | .range T x => aRange P T (s.eval x) s o.dst K
  | .next it str => aNext (s.eval it) str s o.dst K
  | .entry it => aEntry (s.eval it) s o.dst K
  | .binOp op T x y _ => stepBin P o op T (s.eval x) (s.eval y) s K
  | .slice T x lo hi none => stepSlice P o T (s.eval x) (lo.map s.eval) (hi.map s.eval) s K
  | .call c => stepCall P E o c s K
  | _ => qstep P o s K

def RK (P : Program) (E : Env) (ops : Array Oper) : List Oper → AState → (AState → Prop) → Prop
  | [], s, K => K s
  | o :: rest, s, K => match o.guard with
    | none => stepOp P E o s (fun s' => RK P E ops rest s' K)
    | some (j, want) => match (ops[j]?).bind (·.dst) with
      | some t => (match s.slot t with
        | .v (.bool b) => (b = want → stepOp P E o (s.put (some t) (.v (.bool want))) (fun s' => RK P E ops rest s' K)) ∧ (b = (!want) → RK P E ops rest ((s.put (some t) (.v (.bool (!want)))).put o.dst (.tup [])) K)
        | .tup [] => RK P E ops rest (s.put o.dst (.tup [])) K
        | _ => False)
      | none => RK P E ops rest (s.put o.dst (.tup [])) K

section
variable {P : Program} {E : Env}

theorem fresh_all {s : AState} {t : Nat} (h : s.ment t = false) : (∀ i, (s.slot i).ment t = false) ∧ (∀ id c, s.box id = some c → c.ment t = false) :=
  ⟨fun _ => AState.ment_slot h, fun _ _ hc => AState.ment_box h hc⟩

/-- An operation that makes no box hands none on. -/
theorem qop_old {o : Oper} {av : Operand → AV} {bf : Nat → Option Ct} {k : AV → Option Ct → Prop} (hn : newOp o.op = false) (h : qop P o av bf k) : qop P o av bf (fun x n => k x none ∧ n = none) := by
  unfold qop at h ⊢
  cases hop : o.op <;> rw [hop] at h hn <;> simp only [newOp, reduceCtorEq] at hn <;> simp only [and_true] at h ⊢ <;> first | exact h | skip
  case slice T x lo hi mx => cases mx <;> exact h
  case call c =>
    unfold qcall at h ⊢
    split at h
    · split at h
      · simpa using h
      · exact h.elim
    · simpa using h
    · simpa using h
    · rename_i hc
      simp [hc] at hn
    · exact h.elim

theorem qstep_sound {H : Heap} {ρ : Rho} {a : Act} {w : World} {o : Oper} {s : AState} {K : AState → Prop} {Q : Exit → Act → World → Prop} (hs : Sim E H ρ s.slot s.box a w) (hd : ∀ t, o.dst = some t → t < E.n) (h : qstep P o s K) :
    o.wp P a w (fun a' w' => ∃ s' H' ρ', K s' ∧ Sim E H' ρ' s'.slot s'.box a' w') Q := by
  obtain ⟨hf, h⟩ := h
  have hfr : newOp o.op = true → ∀ d, o.dst = some d → s.ment d = false := by
    intro hn d hd'
    have := hf hn
    rw [hd'] at this
    exact this
  have hm : newOp o.op = true → ∀ d, o.dst = some d → ∀ x ∈ o.op.operands.toList, (s.eval x).ment d = false := by
    intro hn d hd' x _
    cases x with
    | tmp t => exact AState.ment_slot (hfr hn d hd')
    | const v => exact ofVal_ment d v
    | global g => rfl
    | func f => simp [AState.eval, evalF, AV.ment, mentL]
  by_cases hn : newOp o.op = true
  · refine Oper.wp_mono ?_ (qop_sound (Q := Q) (fun x _ => hs.eval x) hs.ext hs.boxes.rep hm h)
    intro a' w' hq
    obtain ⟨x, n, H', ρ', hk, hs'⟩ := hs.quiet hd (fun x c _ t ht => fresh_all (hfr hn t ht)) hq
    refine ⟨_, H', ρ', hk, ?_⟩
    rw [AState.slot_addBox, AState.box_addBox, AState.slot_put, AState.box_put]
    exact hs'
  · refine Oper.wp_mono ?_ (qop_sound (Q := Q) (fun x _ => hs.eval x) hs.ext hs.boxes.rep hm (qop_old (by simpa using hn) h))
    intro a' w' hq
    obtain ⟨x, n, H', ρ', ⟨hk, rfl⟩, hs'⟩ := hs.quiet hd (by rintro x c ⟨_, h⟩; cases h) hq
    refine ⟨_, H', ρ', hk, ?_⟩
    rw [AState.slot_addBox, AState.box_addBox, AState.slot_put, AState.box_put]
    have : addF s.box o.dst none = s.box := by cases o.dst <;> rfl
    rw [this] at hs' ⊢
    exact hs'

theorem stepOp_sound {H : Heap} {ρ : Rho} {a : Act} {w : World} {o : Oper} {s : AState} {K : AState → Prop} {Q : Exit → Act → World → Prop} (hs : Sim E H ρ s.slot s.box a w) (hd : ∀ t, o.dst = some t → t < E.n) (h : stepOp P E o s K) :
    o.wp P a w (fun a' w' => ∃ s' H' ρ', K s' ∧ Sim E H' ρ' s'.slot s'.box a' w') Q := by
  have putU : ∀ {s' : AState} {w' : World}, Sim E H ρ s'.slot s'.box a w' → Sim E H ρ (s'.put o.dst (.tup [])).slot (s'.put o.dst (.tup [])).box (a.put o.dst undef) w' := by
    intro s' w' h'
    rw [AState.slot_put, AState.box_put]
    exact h'.put hd Rep.undef
  unfold stepOp at h
  cases hop : o.op with
  | store T p x =>
    rw [hop] at h
    obtain ⟨w', s', hk, hs', hrun⟩ := aStore_sound (P := P) hs (hs.eval p) (hs.eval x) h
    unfold Oper.wp
    simp only [execOp, hop, Sem.run_bind, hrun, Result.andThen_ok, Sem.run_pure, Oper.upon]
    exact ⟨_, H, ρ, hk, putU hs'⟩
  | mapUpdate T m k x =>
    rw [hop] at h
    obtain ⟨w', s', hk, hs', hrun⟩ := aMapUpd_sound (P := P) hs (hs.eval m) (hs.eval k) (hs.eval x) h
    unfold Oper.wp
    simp only [execOp, hop, Sem.run_bind, hrun, Result.andThen_ok, Sem.run_pure, Oper.upon]
    exact ⟨_, H, ρ, hk, putU hs'⟩
  | insert T m k x =>
    rw [hop] at h
    obtain ⟨w', s', hk, hs', hrun⟩ := aMapUpd_sound (P := P) hs (hs.eval m) (hs.eval k) (hs.eval x) h
    unfold Oper.wp
    simp only [execOp, hop, Sem.run_bind, hrun, Result.andThen_ok, Sem.run_pure, Oper.upon]
    exact ⟨_, H, ρ, hk, putU hs'⟩
  | nilCheck x =>
    rw [hop] at h
    obtain ⟨ht, h⟩ := h
    have hr := hs.eval x
    have hrun : (execOp a.eval o).run P w = .ok (.value (a.eval x)) w := by
      simp only [execOp, hop]
      have hr2 : Rep H ρ (s.eval x) (a.eval x) := hr
      generalize s.eval x = y at hr2 ht
      generalize a.eval x = v at hr2
      cases hr2 <;> first | rfl | (simp [aThere] at ht; done) | skip
      rename_i f fs cs us vs _ _ _ _
      cases f <;> first | rfl | (simp [aThere] at ht; done)
    unfold Oper.wp
    rw [hrun]
    simp only [Oper.upon]
    exact Came.put hs hd hr h
  | range T x =>
    rw [hop] at h
    obtain ⟨u, w', hrun, hc⟩ := aRange_sound hs hd (hs.eval x) h
    unfold Oper.wp
    simp only [execOp, hop, Sem.run_bind, hrun, Result.andThen_ok, Sem.run_pure, Oper.upon]
    exact hc
  | next it str =>
    rw [hop] at h
    obtain ⟨u, w', hrun, hc⟩ := aNext_sound (P := P) (ty := o.type) hs hd (hs.eval it) h
    unfold Oper.wp
    simp only [execOp, hop, Sem.run_bind, hrun, Result.andThen_ok, Sem.run_pure, Oper.upon]
    exact hc
  | entry it =>
    rw [hop] at h
    obtain ⟨u, w', hrun, hc⟩ := aEntry_sound (P := P) hs hd (hs.eval it) h
    unfold Oper.wp
    simp only [execOp, hop, Sem.run_bind, hrun, Result.andThen_ok, Sem.run_pure, Oper.upon]
    exact hc
  | binOp op T x y T2 =>
    rw [hop] at h
    have hrx := hs.eval x
    have hry := hs.eval y
    simp only at h
    unfold stepBin at h
    have two : ∀ {emp : Prop} {p : Option Addr} {n c m c' : Nat}, a.eval x = .slice p n c → a.eval y = .slice none m c' → (¬ emp → p ≠ none) → aSlNil P op T emp s o.dst K →
        o.wp P a w (fun a' w' => ∃ s' H' ρ', K s' ∧ Sim E H' ρ' s'.slot s'.box a' w') Q := by
      intro emp p n c m c' e1 e2 hp h
      obtain ⟨u, hg, hb, hc⟩ := slNil_sound (P := P) (ox := x) (oy := y) (n := n) (c := c) (m := m) (c' := c') hs hd hp h
      unfold Oper.wp
      simp only [execOp, hop, e1, e2, Sem.run_bind, hg, hb, Result.andThen_ok, Sem.run_pure, Oper.upon]
      exact hc
    split at h
    · rename_i k xs m c' hx hy
      unfold AState.eval at hx hy
      rw [hx] at hrx
      rw [hy] at hry
      obtain ⟨p, n, c, hv, hp⟩ := sl_val hrx
      exact two hv hry.v_inv hp h
    · rename_i id k off n m c' hx hy
      unfold AState.eval at hx hy
      rw [hx] at hrx
      rw [hy] at hry
      obtain ⟨p, n', c, hv, hp⟩ := own_val hrx
      exact two hv hry.v_inv hp h
    · exact qstep_sound hs hd h
  | slice T x lo hi mx =>
    rw [hop] at h
    cases mx with
    | some m => exact qstep_sound hs hd h
    | none =>
      simp only at h
      unfold stepSlice at h
      split at h
      · rename_i kk hx hlo hhi
        obtain ⟨⟨e, hT, hok⟩, hK⟩ := h
        cases lo with
        | some l => cases hlo
        | none =>
          cases hi with
          | none => cases hhi
          | some hh =>
            simp only [Option.map_some, Option.some.injEq] at hhi
            have hrx := hs.eval x
            have hrh := hs.eval hh
            unfold AState.eval at hx hhi
            rw [hx] at hrx
            rw [hhi] at hrh
            have hrun := run_slice_nil (P := P) (w := w) (k := kk) hT hok
            unfold Oper.wp
            simp only [execOp, hop, Option.map_some, Option.map_none, hrx.v_inv, hrh.v_inv, Sem.run_bind, hrun, Result.andThen_ok, Sem.run_pure, Oper.upon]
            exact Came.put hs hd (.v rfl) hK
      · exact qstep_sound hs hd h
  | call c =>
    rw [hop] at h
    simp only at h
    unfold stepCall at h
    split at h
    · rename_i hc
      split at h
      · rename_i v x T T' hargs htys
        have e1 : c.args.map a.eval = #[a.eval v, a.eval x] := by
          apply Array.toList_inj.1
          rw [Array.toList_map, hargs]
          rfl
        have e2 : c.argTypes = #[T, T'] := Array.toList_inj.1 htys
        split at h
        · rename_i hTT
          subst hTT
          obtain ⟨u, w', s', ρ', hk, hs', hrun⟩ := aAppend_sound (P := P) (ty := o.type) (hs.forget (s.eval v)) hd (hs.eval v) (hs.eval x) h
          unfold Oper.wp
          simp only [execOp, hop, resolve, hc, invoke, builtin, Sem.run_bind, Sem.run_pure, Result.andThen_ok, e1, e2, hrun, Oper.upon]
          exact ⟨s', H, ρ', hk, hs'⟩
        · obtain ⟨u, w', hrun, hcm⟩ := aAppendN_sound (P := P) (ty := o.type) hs hd (hs.eval v) (hs.eval x) h
          unfold Oper.wp
          simp only [execOp, hop, resolve, hc, invoke, builtin, Sem.run_bind, Sem.run_pure, Result.andThen_ok, e1, e2, hrun, Oper.upon]
          exact hcm
      · exact h.elim
    · rename_i hc
      split at h
      · rename_i x T hargs htys
        have e1 : c.args.map a.eval = #[a.eval x] := by
          apply Array.toList_inj.1
          rw [Array.toList_map, hargs]
          rfl
        have e2 : c.argTypes = #[T] := Array.toList_inj.1 htys
        obtain ⟨u, w', hrun, hcm⟩ := aClear_sound (P := P) (ty := o.type) hs hd (hs.eval x) h
        unfold Oper.wp
        simp only [execOp, hop, resolve, hc, invoke, builtin, Sem.run_bind, Sem.run_pure, Result.andThen_ok, e1, e2, hrun, Oper.upon]
        exact hcm
      · exact h.elim
    · rename_i hc
      split at h
      · rename_i x T hargs htys
        have e1 : c.args.map a.eval = #[a.eval x] := by
          apply Array.toList_inj.1
          rw [Array.toList_map, hargs]
          rfl
        have e2 : c.argTypes = #[T] := Array.toList_inj.1 htys
        unfold stepCap at h
        split at h
        · rename_i n cc hx
          obtain ⟨⟨e, hT⟩, hK⟩ := h
          have hrx := hs.eval x
          unfold AState.eval at hx
          rw [hx] at hrx
          have hrun := run_cap_nil (P := P) (w := w) (ty := o.type) (n := n) (c := cc) hT
          unfold Oper.wp
          simp only [execOp, hop, resolve, hc, invoke, builtin, Sem.run_bind, Sem.run_pure, Result.andThen_ok, e1, e2, hrx.v_inv, hrun, Oper.upon]
          exact Came.put hs hd (.v rfl) hK
        · exact h.elim
      · exact h.elim
    · rename_i f hc
      unfold aCall at h
      split at h
      · rename_i g first caps hf
        have hfr := hs.eval f
        unfold AState.eval at hf
        rw [hf] at hfr
        obtain ⟨us, vs, hv, hus, hvs⟩ := fn_inv hfr
        have hargs := RepL.mapOps (H := H) (ρ := ρ) (av := s.eval) (ev := a.eval) (xs := c.args.toList) (fun x _ => hs.eval x)
        have hrun : ∀ w, (execOp a.eval o).run P w = (callFunc g (us ++ c.args.toList.map a.eval ++ vs).toArray).run P w := by
          intro w
          have := resolve_fun (P := P) (w := w) (ty := o.type) hc hv
          simp only [execOp, hop]
          rw [this]
          congr 1
          congr 1
          apply Array.toList_inj.1
          simp
        unfold Oper.wp
        rw [hrun, h.ent]
        simp only [Oper.upon]
        refine Calls.mono (h.run H ρ a w _ hs ((hus.append hargs).append hvs) hd) ?_
        rintro e w' ⟨v, rfl, s', H', ρ', hk, hs'⟩
        exact ⟨s', H', ρ', hk, hs'⟩
      · exact h.elim
    · exact qstep_sound hs hd h
  | _ => rw [hop] at h; exact qstep_sound hs hd h

theorem undef_slot {H : Heap} {ρ : Rho} {s : AState} {a : Act} {w : World} {t : Nat} (hs : Sim E H ρ s.slot s.box a w) (h : s.slot t = .tup []) : a.tmps.getD t undef = undef := by
  have := hs.slots t
  rw [h] at this
  generalize a.tmps.getD t undef = u at this
  cases this with
  | tup hl hh =>
    rename_i vs
    have : vs = [] := by cases vs with | nil => rfl | cons => simp at hl
    subst this
    rfl

theorem bool_slot {H : Heap} {ρ : Rho} {s : AState} {a : Act} {w : World} {t : Nat} {b : Bool} (hs : Sim E H ρ s.slot s.box a w) (h : s.slot t = .v (.bool b)) : a.tmps.getD t undef = .bool b := by
  have := hs.slots t
  rw [h] at this
  exact this.v_inv

/-- A slot whose value is known anew. -/
theorem Sim.setSlot {H : Heap} {ρ : Rho} {s : AState} {a : Act} {w : World} {t : Nat} {x : AV} (hs : Sim E H ρ s.slot s.box a w) (hr : Rep H ρ x (a.tmps.getD t undef)) : Sim E H ρ (s.put (some t) x).slot (s.put (some t) x).box a w := by
  rw [AState.slot_put, AState.box_put]
  refine ⟨hs.ext, fun i => ?_, hs.size, hs.defers, hs.boxes, hs.h0, hs.new, hs.frame, hs.keep, hs.nle⟩
  simp only [putF]
  split
  · rename_i e; subst e; exact hr
  · exact hs.slots i

theorem yielded_of {ops : Array Oper} {a : Act} {j t : Nat} (hg : (ops[j]?).bind (·.dst) = some t) : (∀ b, a.tmps.getD t undef = .bool b → yielded ops a.tmps j = some b) ∧ (a.tmps.getD t undef = undef → yielded ops a.tmps j = none) := by
  unfold yielded
  rw [hg]
  simp only [Option.bind_some]
  constructor
  · intro b hb
    cases h : a.tmps[t]? with
    | none => simp [h, undef] at hb
    | some v => simp [h] at hb; subst hb; rfl
  · intro hu
    cases h : a.tmps[t]? with
    | none => rfl
    | some v => simp [h, undef] at hu; subst hu; rfl

theorem RK_sound {ops : Array Oper} {Q : Exit → Act → World → Prop} (hdst : ∀ o ∈ ops.toList, ∀ t, o.dst = some t → t < E.n) : ∀ (l : List Oper) (s : AState) (K : AState → Prop), (∀ o ∈ l, o ∈ ops.toList) → RK P E ops l s K → ∀ {H : Heap} {ρ : Rho} {a : Act} {w : World}, Sim E H ρ s.slot s.box a w →
    (∀ s' H' ρ' a' w', K s' → Sim E H' ρ' s'.slot s'.box a' w' → Q .normal a' w') → wpList P ops Q l a w
  | [], s, K, _, h, H, ρ, a, w, hs, hQ => hQ s H ρ a w h hs
  | o :: rest, s, K, hl, h, H, ρ, a, w, hs, hQ => by
    have hd := hdst o (hl o (by simp))
    have hrest : ∀ o ∈ rest, o ∈ ops.toList := fun o ho => hl o (List.mem_cons_of_mem _ ho)
    simp only [RK] at h
    have take : ∀ {s1 : AState}, Sim E H ρ s1.slot s1.box a w → stepOp P E o s1 (fun s' => RK P E ops rest s' K) → o.wp P a w (wpList P ops Q rest) Q := by
      intro s1 hs1 h1
      refine Oper.wp_mono ?_ (stepOp_sound (Q := Q) hs1 hd h1)
      rintro a' w' ⟨s', H', ρ', hk, hs'⟩
      exact RK_sound hdst rest s' K hrest hk hs' hQ
    have skip : ∀ {s1 : AState}, Sim E H ρ s1.slot s1.box a w → RK P E ops rest (s1.put o.dst (.tup [])) K → wpList P ops Q rest (a.put o.dst undef) w := by
      intro s1 hs1 h1
      refine RK_sound hdst rest _ K hrest h1 (H := H) (ρ := ρ) ?_ hQ
      rw [AState.slot_put, AState.box_put]
      exact hs1.put hd Rep.undef
    unfold wpList
    split at h
    · rename_i hg
      rw [if_pos (by simp [Region.wanted, hg])]
      exact .inl (take hs h)
    · rename_i j want hg
      split at h
      · rename_i t ht
        have hy := yielded_of (a := a) ht
        split at h
        · rename_i b hb
          have hbv := bool_slot hs hb
          have hyb := hy.1 b hbv
          by_cases hbw : b = want
          · rw [if_pos (by simp [Region.wanted, hg, hyb, hbw])]
            refine .inl (take (hs.setSlot (t := t) (x := .v (.bool want)) ?_) (h.1 hbw))
            rw [hbv, hbw]
            exact .v rfl
          · rw [if_neg (by simp [Region.wanted, hg, hyb, hbw])]
            have hbn : b = !want := by cases b <;> cases want <;> simp_all
            refine skip (hs.setSlot (t := t) (x := .v (.bool (!want))) ?_) (h.2 hbn)
            rw [hbv, hbn]
            exact .v rfl
        · rename_i hb
          have hyn := hy.2 (undef_slot hs hb)
          rw [if_neg (by simp [Region.wanted, hg, hyn])]
          exact skip hs h
        · exact h.elim
      · rename_i ht
        have hyn : yielded ops a.tmps j = none := by unfold yielded; rw [ht]; rfl
        rw [if_neg (by simp [Region.wanted, hg, hyn])]
        exact skip hs h

def dstOK (n : Nat) (ops : List Oper) : Bool := ops.all fun o => match o.dst with | some t => decide (t < n) | none => true

theorem dstOK_spec {n : Nat} {ops : List Oper} (h : dstOK n ops = true) : ∀ o ∈ ops, ∀ t, o.dst = some t → t < n := by
  intro o ho t ht
  have := List.all_eq_true.1 h o ho
  rw [ht] at this
  simpa using this

/-- A region in the order of its text. -/
theorem AW_region {s : AState} {Q : AExit → AState → Prop} {id : Nat} {l : List Oper} (hd : dstOK E.n l = true) (h : RK P E l.toArray l s (Q .normal)) : AW P E (.region id l.toArray false) s Q := by
  intro H ρ a w hs
  refine wp_region_lit ?_
  exact RK_sound (P := P) (fun o ho => dstOK_spec hd o (by simpa using ho)) l s _ (fun o ho => by simpa using ho) h hs (fun s' H' ρ' a' w' hk hs' => ⟨s', H', ρ', hk, hs'⟩)

end
end Go.Am
