/- The abstract machine, part 15: a quiet operation hands on ONE value. -/
import Derived.Test.YtmjckbokjjnmeaaAmRun
namespace Go.Am
open Go.RowKit

section
variable {P : Program}

theorem arith_ex {k : IntKind} {n : Int} {cont : AV → Prop} (h : arith k n cont) : ∃ x, cont x ∧ arith k n (· = x) := by
  unfold arith at h ⊢
  split at h
  · exact ⟨_, h.2, by rw [if_pos (by assumption)]; exact ⟨h.1, rfl⟩⟩
  · exact ⟨_, h, by rw [if_neg (by assumption)]⟩

theorem binInt_ex {op : BinOp} {k : IntKind} {a b : Int} {cont : AV → Prop} (h : binInt op k a b cont) : ∃ x, cont x ∧ binInt op k a b (· = x) := by
  unfold binInt at h ⊢
  cases op <;> simp only at h ⊢ <;> first
    | exact h.elim
    | exact arith_ex h
    | exact ⟨_, h, rfl⟩
    | exact ⟨_, h.2, h.1, rfl⟩
    | (obtain ⟨x, h1, h2⟩ := arith_ex h.2; exact ⟨x, h1, h.1, h2⟩)

theorem shiftInt_ex {op : BinOp} {k : IntKind} {a b : Int} {cont : AV → Prop} (h : shiftInt op k a b cont) : ∃ x, cont x ∧ shiftInt op k a b (· = x) := by
  unfold shiftInt at h ⊢
  obtain ⟨h0, h⟩ := h
  cases op <;> simp only at h ⊢ <;> first
    | exact h.elim
    | exact ⟨_, h, h0, rfl⟩
    | (obtain ⟨x, h1, h2⟩ := arith_ex h; exact ⟨x, h1, h0, h2⟩)

theorem strOp_ex {op : BinOp} {a b : ByteArray} {cont : AV → Prop} (h : strOp op a b cont) : ∃ x, cont x ∧ strOp op a b (· = x) := by
  unfold strOp at h ⊢
  cases op <;> simp only at h ⊢ <;> first
    | exact h.elim
    | exact ⟨_, h, rfl⟩
    | exact ⟨_, h.2, h.1, rfl⟩

theorem nilCmp_ex {T : TypeId} {x y : AV} {xc yc : Bool} {cont : Bool → Prop} (h : nilCmp P T x y xc yc cont) : ∃ r, cont r ∧ nilCmp P T x y xc yc (· = r) := by
  unfold nilCmp at h ⊢
  split at h <;> first
    | exact h.elim
    | (split at h <;> first
        | exact h.elim
        | exact ⟨_, h.2, h.1, rfl⟩
        | exact ⟨_, h.2.2, h.1, h.2.1, rfl⟩)

theorem nilCmp_mono {T : TypeId} {x y : AV} {xc yc : Bool} {c c' : Bool → Prop} (hc : ∀ r, c r → c' r) (h : nilCmp P T x y xc yc c) : nilCmp P T x y xc yc c' := by
  unfold nilCmp at h ⊢
  split at h <;> first
    | exact h.elim
    | (split at h <;> first
        | exact h.elim
        | exact ⟨h.1, hc _ h.2⟩
        | exact ⟨h.1, h.2.1, hc _ h.2.2⟩)

theorem qbin_ex {op : BinOp} {T : TypeId} {x y : AV} {xc yc : Bool} {cont : AV → Prop} (h : qbin P op T x y xc yc cont) : ∃ z, cont z ∧ qbin P op T x y xc yc (· = z) := by
  unfold qbin at h ⊢
  split at h
  · split at h
    · rename_i hsft
      obtain ⟨z, h1, h2⟩ := shiftInt_ex h
      exact ⟨z, h1, by simp only [hsft, if_true]; exact h2⟩
    · rename_i hsft
      obtain ⟨z, h1, h2⟩ := binInt_ex h.2
      exact ⟨z, h1, by simp only [hsft, if_false]; exact ⟨h.1, h2⟩⟩
  · exact strOp_ex h
  · obtain ⟨h0, h⟩ := h
    cases op <;> simp only at h ⊢ <;> first
      | exact h.elim
      | exact ⟨_, h, h0, rfl⟩
  · obtain ⟨h0, h1, h⟩ := h
    split at h
    · rename_i ks hks
      split at h
      · rename_i r hr
        cases op <;> simp only at h <;> first
          | exact h.elim
          | exact ⟨_, h, h0, h1, by simp only [hks, hr]⟩
      · exact h.elim
    · exact h.elim
  · rename_i hn1 hn2 hn3 hn4
    cases op <;> simp only at h <;> try exact h.elim
    · obtain ⟨r, h1, h2⟩ := nilCmp_ex h
      refine ⟨_, h1, ?_⟩
      split <;> first
        | exact (hn1 _ _ _ _ rfl rfl).elim
        | exact (hn2 _ _ rfl rfl).elim
        | exact (hn3 _ _ rfl rfl).elim
        | exact (hn4 _ _ rfl rfl).elim
        | (rename_i heq; cases heq; done)
        | exact nilCmp_mono (fun r' e => by rw [e]) h2
    · obtain ⟨r, h1, h2⟩ := nilCmp_ex h
      refine ⟨_, h1, ?_⟩
      split <;> first
        | exact (hn1 _ _ _ _ rfl rfl).elim
        | exact (hn2 _ _ rfl rfl).elim
        | exact (hn3 _ _ rfl rfl).elim
        | exact (hn4 _ _ rfl rfl).elim
        | (rename_i heq; cases heq; done)
        | exact nilCmp_mono (fun r' e => by rw [e]) h2

theorem qload_ex {T : TypeId} {p : AV} {c : Option Ct} {cont : AV → Prop} (h : qload P T p c cont) : ∃ x, cont x ∧ qload P T p c (· = x) := by
  unfold qload at h ⊢
  obtain ⟨h0, h⟩ := h
  split at h
  · split at h
    · exact ⟨_, h.2, h0, h.1, rfl⟩
    · exact h.elim
  · split at h
    · exact ⟨_, h.2, h0, h.1, rfl⟩
    · exact h.elim
  · exact ⟨_, h.2, h0, h.1, rfl⟩
  · exact h.elim

theorem qfaddr_ex {T : TypeId} {x : AV} {f : Nat} {cont : AV → Prop} (h : qfaddr P T x f cont) : ∃ y, cont y ∧ qfaddr P T x f (· = y) := by
  unfold qfaddr at h ⊢
  split at h
  · split at h
    · obtain ⟨h0, h⟩ := h
      split at h
      · exact ⟨_, h, h0, rfl⟩
      · exact ⟨_, h, h0, rfl⟩
      · exact ⟨_, h.2, h0, h.1, rfl⟩
      · exact h.elim
    · exact h.elim
  · exact h.elim

theorem qiaddr_ex {T : TypeId} {x i : AV} {cont : AV → Prop} (h : qiaddr P T x i cont) : ∃ y, cont y ∧ qiaddr P T x i (· = y) := by
  unfold qiaddr at h ⊢
  split at h
  · obtain ⟨h0, h⟩ := h
    split at h
    · exact ⟨_, h.2.2, h0, h.1, h.2.1, rfl⟩
    · exact ⟨_, h.2.2, h0, h.1, h.2.1, rfl⟩
    · exact h.elim
  · obtain ⟨h0, h⟩ := h
    split at h
    · exact ⟨_, h.2, h0, h.1, rfl⟩
    · exact ⟨_, h.2.2, h0, h.1, h.2.1, rfl⟩
    · exact h.elim
  · exact h.elim

theorem qbslice_ex {T : TypeId} {len d : Nat} {parts : List (Nat × AV)} {k : AV → Option Ct → Prop} (h : qbslice P T len parts d k) : ∃ x n, k x n ∧ qbslice P T len parts d (fun y m => y = x ∧ m = n) := by
  unfold qbslice at h ⊢
  split at h
  · obtain ⟨h0, h⟩ := h
    split at h
    · exact ⟨_, _, h.2.2, h0, h.1, h.2.1, rfl, rfl⟩
    · exact h.elim
  · exact h.elim

theorem buildK_ex {place : Nat → Option (Nat × Nat)} : ∀ {parts : List (Nat × AV)} {cs : List AV} {cont : List AV → Prop}, buildK place cs parts cont → ∃ x, cont x ∧ buildK place cs parts (· = x)
  | [], cs, cont, h => ⟨cs, h, rfl⟩
  | (i, x) :: rest, cs, cont, h => by
    simp only [buildK] at h ⊢
    split at h
    · obtain ⟨z, h1, h2⟩ := buildK_ex h.2
      exact ⟨z, h1, h.1, h2⟩
    · exact h.elim

theorem buildK_mono {place : Nat → Option (Nat × Nat)} : ∀ {parts : List (Nat × AV)} {cs : List AV} {cont cont' : List AV → Prop}, (∀ x, cont x → cont' x) → buildK place cs parts cont → buildK place cs parts cont'
  | [], cs, cont, cont', hc, h => hc _ h
  | (i, x) :: rest, cs, cont, cont', hc, h => by
    simp only [buildK] at h ⊢
    split at h
    · exact ⟨h.1, buildK_mono hc h.2⟩
    · exact h.elim

theorem qbuild_ex {T : TypeId} {parts : List (Nat × AV)} {cont : AV → Prop} (h : qbuild P T parts cont) : ∃ y, cont y ∧ qbuild P T parts (· = y) := by
  unfold qbuild at h ⊢
  split at h
  · obtain ⟨h0, h⟩ := h
    split at h
    · obtain ⟨z, h1, h2⟩ := buildK_ex h.2
      exact ⟨_, h1, h0, h.1, buildK_mono (fun x e => by rw [e]) h2⟩
    · obtain ⟨z, h1, h2⟩ := buildK_ex h.2
      exact ⟨_, h1, h0, h.1, buildK_mono (fun x e => by rw [e]) h2⟩
    · exact h.elim
  · exact h.elim

theorem qfield_ex {T : TypeId} {x : AV} {f : Nat} {cont : AV → Prop} (h : qfield P T x f cont) : ∃ y, cont y ∧ qfield P T x f (· = y) := by
  unfold qfield at h ⊢
  split at h
  · split at h
    · exact ⟨_, h.2.2, h.1, h.2.1, rfl⟩
    · exact h.elim
  · exact h.elim

theorem qindex_ex {T : TypeId} {x i : AV} {cont : AV → Prop} (h : qindex P T x i cont) : ∃ y, cont y ∧ qindex P T x i (· = y) := by
  unfold qindex at h ⊢
  split at h
  · exact ⟨_, h.2, h.1, rfl⟩
  · exact ⟨_, h.2, h.1, rfl⟩
  · exact h.elim

theorem qun_ex {op : UnOp} {x : AV} {cont : AV → Prop} (h : qun op x cont) : ∃ y, cont y ∧ qun op x (· = y) := by
  unfold qun at h ⊢
  split at h
  · exact ⟨_, h, rfl⟩
  · exact arith_ex h
  · exact h.elim

theorem qconv_ex {s d : TypeId} {x : AV} {cont : AV → Prop} (h : qconv P s d x cont) : ∃ y, cont y ∧ qconv P s d x (· = y) := by
  unfold qconv at h ⊢
  obtain ⟨h0, h⟩ := h
  split at h
  · exact ⟨_, h, h0, rfl⟩
  · exact ⟨_, h, h0, rfl⟩
  · exact h.elim

theorem qslice_ex {T : TypeId} {x : AV} {lo hi : Option AV} {c : Option Ct} {cont : AV → Prop} (h : qslice P T x lo hi c cont) : ∃ y, cont y ∧ qslice P T x lo hi c (· = y) := by
  unfold qslice at h ⊢
  split at h
  · obtain ⟨h0, h⟩ := h
    split at h
    · exact ⟨_, h.2, h0, h.1, rfl⟩
    · exact h.elim
  · obtain ⟨h0, h⟩ := h
    split at h
    · rename_i n hT _ _ l hh hl1 hh1
      by_cases hcase : l = 0 ∨ l < n
      · exact ⟨_, h.2.1 hcase, h0, h.1, fun _ => rfl, fun hn => absurd hcase hn⟩
      · exact ⟨_, h.2.2 hcase, h0, h.1, fun hn => absurd hn hcase, fun _ => rfl⟩
    · exact h.elim
  · split at h
    · exact ⟨_, h.2, h.1, rfl⟩
    · exact h.elim
  · obtain ⟨h0, h⟩ := h
    split at h
    · exact ⟨_, h.2.2, h0, h.1, h.2.1, rfl⟩
    · exact h.elim
  · exact h.elim

theorem qlookup_ex {T : TypeId} {x i : AV} {ok : Bool} {c : Option Ct} {cont : AV → Prop} (h : qlookup P T x i ok c cont) : ∃ y, cont y ∧ qlookup P T x i ok c (· = y) := by
  unfold qlookup at h ⊢
  split at h
  · split at h
    · obtain ⟨h0, h⟩ := h
      split at h
      · split at h
        · obtain ⟨h1, h2, h⟩ := h
          split at h
          · exact ⟨_, h, h0, h1, h2, rfl⟩
          · exact ⟨_, h, h0, h1, h2, rfl⟩
        · exact h.elim
      · exact ⟨_, h.2, h0, h.1, rfl⟩
      · exact h.elim
    · exact h.elim
  · exact h.elim

theorem qlen_ex {T : TypeId} {x : AV} {c : Option Ct} {cont : AV → Prop} (h : qlen P T x c cont) : ∃ y, cont y ∧ qlen P T x c (· = y) := by
  unfold qlen at h ⊢
  split at h
  · split at h <;> first | exact h.elim | exact ⟨_, h, rfl⟩
  · split at h <;> first | exact h.elim | exact ⟨_, h, rfl⟩
  · split at h
    · split at h <;> first | exact h.elim | exact ⟨_, h, rfl⟩
    · exact ⟨_, h, rfl⟩
    · exact h.elim
  · exact ⟨_, h, rfl⟩
  · exact h.elim

theorem foldInts_ex {f : Int → Int → Int} {k : IntKind} : ∀ {xs : List AV} {n : Int} {cont : Int → Prop}, foldInts f k n xs cont → ∃ m, cont m ∧ ∀ cont' : Int → Prop, cont' m → foldInts f k n xs cont'
  | [], n, cont, h => ⟨n, h, fun _ h => h⟩
  | x :: xs, n, cont, h => by
    cases x with
    | v x =>
      cases x with
      | int k' m =>
        simp only [foldInts] at h
        obtain ⟨m', h1, h2⟩ := foldInts_ex h.2
        exact ⟨m', h1, fun c hc => ⟨h.1, h2 c hc⟩⟩
      | _ => simp [foldInts] at h
    | _ => simp [foldInts] at h

theorem qfold_ex {f : Int → Int → Int} {xs : List AV} {cont : AV → Prop} (h : qfold f xs cont) : ∃ y, cont y ∧ qfold f xs (· = y) := by
  cases xs with
  | nil => simp [qfold] at h
  | cons x xs =>
    cases x with
    | v x =>
      cases x with
      | int k n =>
        simp only [qfold] at h ⊢
        obtain ⟨m, h1, h2⟩ := foldInts_ex h
        exact ⟨_, h1, h2 _ rfl⟩
      | _ => simp [qfold] at h
    | _ => simp [qfold] at h

theorem qcall_ex {c : Call} {av : Operand → AV} {bf : Nat → Option Ct} {d : Option Tmp} {k : AV → Option Ct → Prop} (h : qcall P c av bf d k) : ∃ y n, k y n ∧ (n ≠ none → newOp (.call c) = true) ∧ qcall P c av bf d (fun z m => z = y ∧ m = n) := by
  have one : ∀ {F : (AV → Prop) → Prop}, (∃ x, k x none ∧ F (· = x)) → ∃ x, k x none ∧ F (fun y => y = x ∧ (none : Option Ct) = none) :=
    fun ⟨x, h1, h2⟩ => ⟨x, h1, by have e : (fun y : AV => y = x ∧ (none : Option Ct) = none) = (· = x) := funext fun y => by simp
                                  rw [e]; exact h2⟩
  unfold qcall at h ⊢
  split at h
  · split at h
    · obtain ⟨x, h1, h2⟩ := one (qlen_ex h)
      exact ⟨x, none, h1, fun h => absurd rfl h, h2⟩
    · exact h.elim
  · obtain ⟨x, h1, h2⟩ := one (qfold_ex h)
    exact ⟨x, none, h1, fun h => absurd rfl h, h2⟩
  · obtain ⟨x, h1, h2⟩ := one (qfold_ex h)
    exact ⟨x, none, h1, fun h => absurd rfl h, h2⟩
  · rename_i hc
    have hn : newOp (.call c) = true := by simp only [newOp, hc]
    split at h
    · rcases h.ex with ⟨ds, res, h1, h2, h3, h4⟩ | ⟨ds, mk, ct, t, h1, h2, h3, h4, h5⟩
      · exact ⟨res, none, h4, fun _ => hn, ⟨.inl ⟨ds, res, h1, h2, h3, rfl, rfl⟩⟩⟩
      · exact ⟨mk t, some ct, h5, fun _ => hn, ⟨.inr ⟨ds, mk, ct, t, h1, h2, h3, h4, rfl, rfl⟩⟩⟩
    · exact h.elim
  · exact h.elim

/-- A quiet operation hands on one value and one box. -/
theorem qop_ex {o : Oper} {av : Operand → AV} {bf : Nat → Option Ct} {k : AV → Option Ct → Prop} (h : qop P o av bf k) : ∃ x n, k x n ∧ (n ≠ none → newOp o.op = true) ∧ qop P o av bf (fun y m => y = x ∧ m = n) := by
  have one : ∀ {F : (AV → Prop) → Prop}, (∃ x, k x none ∧ F (· = x)) → (∀ {c c' : AV → Prop}, (∀ x, c x = c' x) → F c → F c') → ∃ x, k x none ∧ F (fun y => y = x ∧ (none : Option Ct) = none) :=
    fun ⟨x, h1, h2⟩ hc => ⟨x, h1, hc (fun y => by simp) h2⟩
  have cg : ∀ {F : (AV → Prop) → Prop} {c c' : AV → Prop}, (∀ x, c x = c' x) → F c → F c' := fun h hF => by rw [← funext h]; exact hF
  unfold qop at h ⊢
  cases hop : o.op with
  | move x => rw [hop] at h; exact ⟨_, _, h, fun h => absurd rfl h, rfl, rfl⟩
  | assign x => rw [hop] at h; exact ⟨_, _, h, fun h => absurd rfl h, rfl, rfl⟩
  | pick c x y =>
    rw [hop] at h
    simp only at h ⊢
    split at h
    · rename_i t ht
      cases t with
      | true => exact ⟨_, _, h.1 rfl, fun h => absurd rfl h, fun _ => ⟨rfl, rfl⟩, (fun h => by cases h)⟩
      | false => exact ⟨_, _, h.2 rfl, fun h => absurd rfl h, (fun h => by cases h), fun _ => ⟨rfl, rfl⟩⟩
    · exact h.elim
  | alloc T =>
    rw [hop] at h
    simp only at h ⊢
    split at h
    · exact ⟨_, _, h.2, fun _ => rfl, h.1, rfl, rfl⟩
    · exact h.elim
  | box T x =>
    rw [hop] at h
    simp only at h ⊢
    split at h
    · exact ⟨_, _, h.2, fun _ => rfl, h.1, rfl, rfl⟩
    · exact h.elim
  | load T p => rw [hop] at h; obtain ⟨x, h1, h2⟩ := one (qload_ex h) cg; exact ⟨x, none, h1, fun h => absurd rfl h, h2⟩
  | fieldAddr T x f => rw [hop] at h; obtain ⟨x, h1, h2⟩ := one (qfaddr_ex h) cg; exact ⟨x, none, h1, fun h => absurd rfl h, h2⟩
  | indexAddr T x i => rw [hop] at h; obtain ⟨x, h1, h2⟩ := one (qiaddr_ex h) cg; exact ⟨x, none, h1, fun h => absurd rfl h, h2⟩
  | buildSlice T len parts =>
    rw [hop] at h
    simp only at h ⊢
    split at h
    · obtain ⟨x, n, h1, h2⟩ := qbslice_ex h
      exact ⟨x, n, h1, fun _ => rfl, h2⟩
    · exact h.elim
  | build T parts => rw [hop] at h; obtain ⟨x, h1, h2⟩ := one (qbuild_ex h) cg; exact ⟨x, none, h1, fun h => absurd rfl h, h2⟩
  | field T x f => rw [hop] at h; obtain ⟨x, h1, h2⟩ := one (qfield_ex h) cg; exact ⟨x, none, h1, fun h => absurd rfl h, h2⟩
  | index T x i => rw [hop] at h; obtain ⟨x, h1, h2⟩ := one (qindex_ex h) cg; exact ⟨x, none, h1, fun h => absurd rfl h, h2⟩
  | extract t i =>
    rw [hop] at h
    simp only at h ⊢
    split at h
    · split at h
      · exact ⟨_, _, h, fun h => absurd rfl h, rfl, rfl⟩
      · exact h.elim
    · exact h.elim
  | binOp op T x y ty => rw [hop] at h; obtain ⟨x, h1, h2⟩ := one (qbin_ex h) cg; exact ⟨x, none, h1, fun h => absurd rfl h, h2⟩
  | unOp op T x => rw [hop] at h; obtain ⟨x, h1, h2⟩ := one (qun_ex h) cg; exact ⟨x, none, h1, fun h => absurd rfl h, h2⟩
  | convert sT dT x => rw [hop] at h; obtain ⟨x, h1, h2⟩ := one (qconv_ex h) cg; exact ⟨x, none, h1, fun h => absurd rfl h, h2⟩
  | makeInterface T x => rw [hop] at h; exact ⟨_, _, h.2, fun h => absurd rfl h, h.1, rfl, rfl⟩
  | makeFunc fn first caps => rw [hop] at h; exact ⟨_, _, h, fun h => absurd rfl h, rfl, rfl⟩
  | makeMap T r =>
    rw [hop] at h
    cases r with
    | some r => exact h.elim
    | none =>
      simp only at h ⊢
      split at h
      · exact ⟨_, _, h, fun _ => rfl, rfl, rfl⟩
      · exact h.elim
  | slice T x lo hi mx =>
    rw [hop] at h
    cases mx with
    | some m => exact h.elim
    | none => obtain ⟨x, h1, h2⟩ := one (qslice_ex h) cg; exact ⟨x, none, h1, fun h => absurd rfl h, h2⟩
  | lookup T x i ok => rw [hop] at h; obtain ⟨x, h1, h2⟩ := one (qlookup_ex h) cg; exact ⟨x, none, h1, fun h => absurd rfl h, h2⟩
  | call c => rw [hop] at h; exact qcall_ex h
  | _ => rw [hop] at h; exact h.elim

end
end Go.Am
