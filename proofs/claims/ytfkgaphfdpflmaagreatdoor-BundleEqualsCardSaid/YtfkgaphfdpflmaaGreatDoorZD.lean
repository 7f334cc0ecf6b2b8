/- The abstract machine, part 15: a quiet operation hands on ONE value -/
import Derived.Test.YtfkgaphfdpflmaaGreatDoorZ2
import Derived.RangeFuncRecord
import Derived.Lib.Bytealg
set_option linter.unusedSimpArgs false
set_option linter.unusedVariables false
section
namespace Go.Am
open Go.RowKit
section
variable {P : Program}
theorem arith_ex {k : IntKind} {n : Int} {cont : AV → Prop} (h : arith k n cont) : ∃ x,cont x ∧ arith k n (· = x):=by
 unfold arith at h ⊢
 split at h
 ·exact ⟨_,h.2,by rw [if_pos (by assumption)];exact ⟨h.1,rfl⟩⟩
 ·exact ⟨_,h,by rw [if_neg (by assumption)]⟩
theorem binInt_ex {op : BinOp} {k : IntKind} {a b : Int} {cont : AV → Prop} (h : binInt op k a b cont) : ∃ x,cont x ∧ binInt op k a b (· = x):=by
 unfold binInt at h ⊢
 cases op <;> simp only at h ⊢ <;> first
  |exact h.elim
  |exact arith_ex h
  |exact ⟨_,h,rfl⟩
  |exact ⟨_,h.2,h.1,rfl⟩
  |(obtain ⟨x,h1,h2⟩:=arith_ex h.2;exact ⟨x,h1,h.1,h2⟩)
theorem shiftInt_ex {op : BinOp} {k : IntKind} {a b : Int} {cont : AV → Prop} (h : shiftInt op k a b cont) : ∃ x,cont x ∧ shiftInt op k a b (· = x):=by
 unfold shiftInt at h ⊢
 obtain ⟨h0,h⟩:=h
 cases op <;> simp only at h ⊢ <;> first
  |exact h.elim
  |exact ⟨_,h,h0,rfl⟩
  |(obtain ⟨x,h1,h2⟩:=arith_ex h;exact ⟨x,h1,h0,h2⟩)
theorem strOp_ex {op : BinOp} {a b : ByteArray} {cont : AV → Prop} (h : strOp op a b cont) : ∃ x,cont x ∧ strOp op a b (· = x):=by
 unfold strOp at h ⊢
 cases op <;> simp only at h ⊢ <;> first
  |exact h.elim
  |exact ⟨_,h,rfl⟩
  |exact ⟨_,h.2,h.1,rfl⟩
theorem nilCmp_ex {T : TypeId} {x y : AV} {xc yc : Bool} {cont : Bool → Prop} (h : nilCmp P T x y xc yc cont) : ∃ r,cont r ∧ nilCmp P T x y xc yc (· = r):=by
 unfold nilCmp at h ⊢
 split at h <;> first
  |exact h.elim
  |(split at h <;> first
     |exact h.elim
     |exact ⟨_,h.2,h.1,rfl⟩
     |exact ⟨_,h.2.2,h.1,h.2.1,rfl⟩)
theorem nilCmp_mono {T : TypeId} {x y : AV} {xc yc : Bool} {c c' : Bool → Prop} (hc : ∀ r,c r → c' r) (h : nilCmp P T x y xc yc c) : nilCmp P T x y xc yc c':=by
 unfold nilCmp at h ⊢
 split at h <;> first
  |exact h.elim
  |(split at h <;> first
     |exact h.elim
     |exact ⟨h.1,hc _ h.2⟩
     |exact ⟨h.1,h.2.1,hc _ h.2.2⟩)
theorem qbin_ex {op : BinOp} {T : TypeId} {x y : AV} {xc yc : Bool} {cont : AV → Prop} (h : qbin P op T x y xc yc cont) : ∃ z,cont z ∧ qbin P op T x y xc yc (· = z):=by
 unfold qbin at h ⊢
 split at h
 ·split at h
  ·rename_i hsft
   obtain ⟨z,h1,h2⟩:=shiftInt_ex h
   exact ⟨z,h1,by simp only [hsft,if_true];exact h2⟩
  ·rename_i hsft
   obtain ⟨z,h1,h2⟩:=binInt_ex h.2
   exact ⟨z,h1,by simp only [hsft,if_false];exact ⟨h.1,h2⟩⟩
 ·exact strOp_ex h
 ·obtain ⟨h0,h⟩:=h
  cases op <;> simp only at h ⊢ <;> first
   |exact h.elim
   |exact ⟨_,h,h0,rfl⟩
 ·obtain ⟨h0,h1,h⟩:=h
  split at h
  ·rename_i ks hks
   split at h
   ·rename_i r hr
    cases op <;> simp only at h <;> first
     |exact h.elim
     |exact ⟨_,h,h0,h1,by simp only [hks,hr]⟩
   ·exact h.elim
  ·exact h.elim
 ·rename_i hn1 hn2 hn3 hn4
  cases op <;> simp only at h <;> try exact h.elim
  ·obtain ⟨r,h1,h2⟩:=nilCmp_ex h
   refine ⟨_,h1,?_⟩
   split <;> first
    |exact (hn1 _ _ _ _ rfl rfl).elim
    |exact (hn2 _ _ rfl rfl).elim
    |exact (hn3 _ _ rfl rfl).elim
    |exact (hn4 _ _ rfl rfl).elim
    |(rename_i heq;cases heq;done)
    |exact nilCmp_mono (fun r' e=>by rw [e]) h2
  ·obtain ⟨r,h1,h2⟩:=nilCmp_ex h
   refine ⟨_,h1,?_⟩
   split <;> first
    |exact (hn1 _ _ _ _ rfl rfl).elim
    |exact (hn2 _ _ rfl rfl).elim
    |exact (hn3 _ _ rfl rfl).elim
    |exact (hn4 _ _ rfl rfl).elim
    |(rename_i heq;cases heq;done)
    |exact nilCmp_mono (fun r' e=>by rw [e]) h2
theorem qload_ex {T : TypeId} {p : AV} {c : Option Ct} {cont : AV → Prop} (h : qload P T p c cont) : ∃ x,cont x ∧ qload P T p c (· = x):=by
 unfold qload at h ⊢
 obtain ⟨h0,h⟩:=h
 split at h
 ·split at h
  ·exact ⟨_,h.2,h0,h.1,rfl⟩
  ·exact h.elim
 ·split at h
  ·exact ⟨_,h.2,h0,h.1,rfl⟩
  ·exact h.elim
 ·exact ⟨_,h.2,h0,h.1,rfl⟩
 ·exact h.elim
theorem qfaddr_ex {T : TypeId} {x : AV} {f : Nat} {cont : AV → Prop} (h : qfaddr P T x f cont) : ∃ y,cont y ∧ qfaddr P T x f (· = y):=by
 unfold qfaddr at h ⊢
 split at h
 ·split at h
  ·obtain ⟨h0,h⟩:=h
   split at h
   ·exact ⟨_,h,h0,rfl⟩
   ·exact ⟨_,h,h0,rfl⟩
   ·exact ⟨_,h.2,h0,h.1,rfl⟩
   ·exact h.elim
  ·exact h.elim
 ·exact h.elim
theorem qiaddr_ex {T : TypeId} {x i : AV} {cont : AV → Prop} (h : qiaddr P T x i cont) : ∃ y,cont y ∧ qiaddr P T x i (· = y):=by
 unfold qiaddr at h ⊢
 split at h
 ·obtain ⟨h0,h⟩:=h
  split at h
  ·exact ⟨_,h.2.2,h0,h.1,h.2.1,rfl⟩
  ·exact ⟨_,h.2.2,h0,h.1,h.2.1,rfl⟩
  ·exact h.elim
 ·obtain ⟨h0,h⟩:=h
  split at h
  ·exact ⟨_,h.2,h0,h.1,rfl⟩
  ·exact ⟨_,h.2.2,h0,h.1,h.2.1,rfl⟩
  ·exact h.elim
 ·exact h.elim
theorem qbslice_ex {T : TypeId} {len d : Nat} {parts : List (Nat × AV)} {k : AV → Option Ct → Prop} (h : qbslice P T len parts d k) : ∃ x n,k x n ∧ qbslice P T len parts d (fun y m=>y = x ∧ m = n):=by
 unfold qbslice at h ⊢
 split at h
 ·obtain ⟨h0,h⟩:=h
  split at h
  ·exact ⟨_,_,h.2.2,h0,h.1,h.2.1,rfl,rfl⟩
  ·exact h.elim
 ·exact h.elim
theorem buildK_ex {place : Nat → Option (Nat × Nat)} : ∀ {parts : List (Nat × AV)} {cs : List AV} {cont : List AV → Prop},buildK place cs parts cont → ∃ x,cont x ∧ buildK place cs parts (· = x)
 |[],cs,cont,h=>⟨cs,h,rfl⟩
 |(i,x) :: rest,cs,cont,h=>by
  simp only [buildK] at h ⊢
  split at h
  ·obtain ⟨z,h1,h2⟩:=buildK_ex h.2
   exact ⟨z,h1,h.1,h2⟩
  ·exact h.elim
theorem buildK_mono {place : Nat → Option (Nat × Nat)} : ∀ {parts : List (Nat × AV)} {cs : List AV} {cont cont' : List AV → Prop},(∀ x,cont x → cont' x) → buildK place cs parts cont → buildK place cs parts cont'
 |[],cs,cont,cont',hc,h=>hc _ h
 |(i,x) :: rest,cs,cont,cont',hc,h=>by
  simp only [buildK] at h ⊢
  split at h
  ·exact ⟨h.1,buildK_mono hc h.2⟩
  ·exact h.elim
theorem qbuild_ex {T : TypeId} {parts : List (Nat × AV)} {cont : AV → Prop} (h : qbuild P T parts cont) : ∃ y,cont y ∧ qbuild P T parts (· = y):=by
 unfold qbuild at h ⊢
 split at h
 ·obtain ⟨h0,h⟩:=h
  split at h
  ·obtain ⟨z,h1,h2⟩:=buildK_ex h.2
   exact ⟨_,h1,h0,h.1,buildK_mono (fun x e=>by rw [e]) h2⟩
  ·obtain ⟨z,h1,h2⟩:=buildK_ex h.2
   exact ⟨_,h1,h0,h.1,buildK_mono (fun x e=>by rw [e]) h2⟩
  ·exact h.elim
 ·exact h.elim
theorem qfield_ex {T : TypeId} {x : AV} {f : Nat} {cont : AV → Prop} (h : qfield P T x f cont) : ∃ y,cont y ∧ qfield P T x f (· = y):=by
 unfold qfield at h ⊢
 split at h
 ·split at h
  ·exact ⟨_,h.2.2,h.1,h.2.1,rfl⟩
  ·exact h.elim
 ·exact h.elim
theorem qindex_ex {T : TypeId} {x i : AV} {cont : AV → Prop} (h : qindex P T x i cont) : ∃ y,cont y ∧ qindex P T x i (· = y):=by
 unfold qindex at h ⊢
 split at h
 ·exact ⟨_,h.2,h.1,rfl⟩
 ·exact ⟨_,h.2,h.1,rfl⟩
 ·exact h.elim
theorem qun_ex {op : UnOp} {x : AV} {cont : AV → Prop} (h : qun op x cont) : ∃ y,cont y ∧ qun op x (· = y):=by
 unfold qun at h ⊢
 split at h
 ·exact ⟨_,h,rfl⟩
 ·exact arith_ex h
 ·exact h.elim
theorem qconv_ex {s d : TypeId} {x : AV} {cont : AV → Prop} (h : qconv P s d x cont) : ∃ y,cont y ∧ qconv P s d x (· = y):=by
 unfold qconv at h ⊢
 obtain ⟨h0,h⟩:=h
 split at h
 ·exact ⟨_,h,h0,rfl⟩
 ·exact ⟨_,h,h0,rfl⟩
 ·exact h.elim
theorem qslice_ex {T : TypeId} {x : AV} {lo hi : Option AV} {c : Option Ct} {cont : AV → Prop} (h : qslice P T x lo hi c cont) : ∃ y,cont y ∧ qslice P T x lo hi c (· = y):=by
 unfold qslice at h ⊢
 split at h
 ·obtain ⟨h0,h⟩:=h
  split at h
  ·exact ⟨_,h.2,h0,h.1,rfl⟩
  ·exact h.elim
 ·obtain ⟨h0,h⟩:=h
  split at h
  ·rename_i n hT _ _ l hh hl1 hh1
   by_cases hcase : l = 0 ∨ l < n
   ·exact ⟨_,h.2.1 hcase,h0,h.1,fun _=>rfl,fun hn=>absurd hcase hn⟩
   ·exact ⟨_,h.2.2 hcase,h0,h.1,fun hn=>absurd hn hcase,fun _=>rfl⟩
  ·exact h.elim
 ·split at h
  ·exact ⟨_,h.2,h.1,rfl⟩
  ·exact h.elim
 ·obtain ⟨h0,h⟩:=h
  split at h
  ·exact ⟨_,h.2,h0,h.1,rfl⟩
  ·exact h.elim
 ·obtain ⟨h0,h⟩:=h
  split at h
  ·exact ⟨_,h.2,h0,h.1,rfl⟩
  ·exact h.elim
 ·exact h.elim
theorem qlookup_ex {T : TypeId} {x i : AV} {ok : Bool} {c : Option Ct} {cont : AV → Prop} (h : qlookup P T x i ok c cont) : ∃ y,cont y ∧ qlookup P T x i ok c (· = y):=by
 unfold qlookup at h ⊢
 split at h
 ·split at h
  ·obtain ⟨h0,h⟩:=h
   split at h
   ·split at h
    ·obtain ⟨h1,h2,h⟩:=h
     split at h
     ·exact ⟨_,h,h0,h1,h2,rfl⟩
     ·exact ⟨_,h,h0,h1,h2,rfl⟩
    ·exact h.elim
   ·exact ⟨_,h.2,h0,h.1,rfl⟩
   ·exact h.elim
  ·exact h.elim
 ·exact h.elim
theorem qlen_ex {T : TypeId} {x : AV} {c : Option Ct} {cont : AV → Prop} (h : qlen P T x c cont) : ∃ y,cont y ∧ qlen P T x c (· = y):=by
 unfold qlen at h ⊢
 split at h
 ·split at h <;> first|exact h.elim|exact ⟨_,h,rfl⟩
 ·split at h <;> first|exact h.elim|exact ⟨_,h,rfl⟩
 ·split at h
  ·split at h <;> first|exact h.elim|exact ⟨_,h,rfl⟩
  ·exact ⟨_,h,rfl⟩
  ·exact h.elim
 ·exact ⟨_,h,rfl⟩
 ·exact h.elim
theorem foldInts_ex {f : Int → Int → Int} {k : IntKind} : ∀ {xs : List AV} {n : Int} {cont : Int → Prop},foldInts f k n xs cont → ∃ m,cont m ∧ ∀ cont' : Int → Prop,cont' m → foldInts f k n xs cont'
 |[],n,cont,h=>⟨n,h,fun _ h=>h⟩
 |x :: xs,n,cont,h=>by
  cases x with
  |v x =>
   cases x with
   |int k' m =>
    simp only [foldInts] at h
    obtain ⟨m',h1,h2⟩:=foldInts_ex h.2
    exact ⟨m',h1,fun c hc=>⟨h.1,h2 c hc⟩⟩
   |_=>simp [foldInts] at h
  |_=>simp [foldInts] at h
theorem qfold_ex {f : Int → Int → Int} {xs : List AV} {cont : AV → Prop} (h : qfold f xs cont) : ∃ y,cont y ∧ qfold f xs (· = y):=by
 cases xs with
 |nil=>simp [qfold] at h
 |cons x xs =>
  cases x with
  |v x =>
   cases x with
   |int k n =>
    simp only [qfold] at h ⊢
    obtain ⟨m,h1,h2⟩:=foldInts_ex h
    exact ⟨_,h1,h2 _ rfl⟩
   |_=>simp [qfold] at h
  |_=>simp [qfold] at h
theorem qcall_ex {c : Call} {av : Operand → AV} {bf : Nat → Option Ct} {d : Option Tmp} {k : AV → Option Ct → Prop} (h : qcall P c av bf d k) : ∃ y n,k y n ∧ (n ≠ none → newOp (.call c) = true) ∧ qcall P c av bf d (fun z m=>z = y ∧ m = n):=by
 have one : ∀ {F : (AV → Prop) → Prop},(∃ x,k x none ∧ F (· = x)) → ∃ x,k x none ∧ F (fun y=>y = x ∧ (none : Option Ct) = none) :=
  fun ⟨x,h1,h2⟩=>⟨x,h1,by have e : (fun y : AV=>y = x ∧ (none : Option Ct) = none) = (· = x):=funext fun y=>by simp
                          rw [e];exact h2⟩
 unfold qcall at h ⊢
 split at h
 ·split at h
  ·obtain ⟨x,h1,h2⟩:=one (qlen_ex h)
   exact ⟨x,none,h1,fun h=>absurd rfl h,h2⟩
  ·exact h.elim
 ·split at h
  ·exact ⟨_,none,h.2,fun h=>absurd rfl h,h.1,rfl,rfl⟩
  ·exact h.elim
 ·obtain ⟨x,h1,h2⟩:=one (qfold_ex h)
  exact ⟨x,none,h1,fun h=>absurd rfl h,h2⟩
 ·obtain ⟨x,h1,h2⟩:=one (qfold_ex h)
  exact ⟨x,none,h1,fun h=>absurd rfl h,h2⟩
 ·rename_i hc
  have hn : newOp (.call c) = true:=by simp only [newOp,hc]
  split at h
  ·rcases h.ex with ⟨ds,res,h1,h2,h3,h4⟩|⟨ds,mk,ct,t,h1,h2,h3,h4,h5⟩
   ·exact ⟨res,none,h4,fun _=>hn,⟨.inl ⟨ds,res,h1,h2,h3,rfl,rfl⟩⟩⟩
   ·exact ⟨mk t,some ct,h5,fun _=>hn,⟨.inr ⟨ds,mk,ct,t,h1,h2,h3,h4,rfl,rfl⟩⟩⟩
  ·exact h.elim
 ·rename_i hc
  have hn : newOp (.call c) = true:=by simp only [newOp,hc]
  split at h
  ·split at h
   ·rcases h.ex with ⟨ds,res,h1,h2,h3,h4⟩|⟨ds,mk,ct,t,h1,h2,h3,h4,h5⟩
    ·exact ⟨res,none,h4,fun _=>hn,⟨.inl ⟨ds,res,h1,h2,h3,rfl,rfl⟩⟩⟩
    ·exact ⟨mk t,some ct,h5,fun _=>hn,⟨.inr ⟨ds,mk,ct,t,h1,h2,h3,h4,rfl,rfl⟩⟩⟩
   ·exact h.elim
  ·exact h.elim
 ·exact h.elim
theorem qop_ex {o : Oper} {av : Operand → AV} {bf : Nat → Option Ct} {k : AV → Option Ct → Prop} (h : qop P o av bf k) : ∃ x n,k x n ∧ (n ≠ none → newOp o.op = true) ∧ qop P o av bf (fun y m=>y = x ∧ m = n):=by
 have one : ∀ {F : (AV → Prop) → Prop},(∃ x,k x none ∧ F (· = x)) → (∀ {c c' : AV → Prop},(∀ x,c x = c' x) → F c → F c') → ∃ x,k x none ∧ F (fun y=>y = x ∧ (none : Option Ct) = none) :=
  fun ⟨x,h1,h2⟩ hc=>⟨x,h1,hc (fun y=>by simp) h2⟩
 have cg : ∀ {F : (AV → Prop) → Prop} {c c' : AV → Prop},(∀ x,c x = c' x) → F c → F c':=fun h hF=>by rw [← funext h];exact hF
 unfold qop at h ⊢
 cases hop : o.op with
 |move x=>rw [hop] at h;exact ⟨_,_,h,fun h=>absurd rfl h,rfl,rfl⟩
 |assign x=>rw [hop] at h;exact ⟨_,_,h,fun h=>absurd rfl h,rfl,rfl⟩
 |nilCheck x=>rw [hop] at h;exact ⟨_,_,h.2,fun h=>absurd rfl h,h.1,rfl,rfl⟩
 |pick c x y =>
  rw [hop] at h
  simp only at h ⊢
  split at h
  ·rename_i t ht
   cases t with
   |true=>exact ⟨_,_,h.1 rfl,fun h=>absurd rfl h,fun _=>⟨rfl,rfl⟩,(fun h=>by cases h)⟩
   |false=>exact ⟨_,_,h.2 rfl,fun h=>absurd rfl h,(fun h=>by cases h),fun _=>⟨rfl,rfl⟩⟩
  ·exact h.elim
 |alloc T =>
  rw [hop] at h
  simp only at h ⊢
  split at h
  ·exact ⟨_,_,h.2,fun _=>rfl,h.1,rfl,rfl⟩
  ·exact h.elim
 |box T x =>
  rw [hop] at h
  simp only at h ⊢
  split at h
  ·exact ⟨_,_,h.2,fun _=>rfl,h.1,rfl,rfl⟩
  ·exact h.elim
 |load T p=>rw [hop] at h;obtain ⟨x,h1,h2⟩:=one (qload_ex h) cg;exact ⟨x,none,h1,fun h=>absurd rfl h,h2⟩
 |fieldAddr T x f=>rw [hop] at h;obtain ⟨x,h1,h2⟩:=one (qfaddr_ex h) cg;exact ⟨x,none,h1,fun h=>absurd rfl h,h2⟩
 |indexAddr T x i=>rw [hop] at h;obtain ⟨x,h1,h2⟩:=one (qiaddr_ex h) cg;exact ⟨x,none,h1,fun h=>absurd rfl h,h2⟩
 |buildSlice T len parts =>
  rw [hop] at h
  simp only at h ⊢
  split at h
  ·obtain ⟨x,n,h1,h2⟩:=qbslice_ex h
   exact ⟨x,n,h1,fun _=>rfl,h2⟩
  ·exact h.elim
 |build T parts=>rw [hop] at h;obtain ⟨x,h1,h2⟩:=one (qbuild_ex h) cg;exact ⟨x,none,h1,fun h=>absurd rfl h,h2⟩
 |field T x f=>rw [hop] at h;obtain ⟨x,h1,h2⟩:=one (qfield_ex h) cg;exact ⟨x,none,h1,fun h=>absurd rfl h,h2⟩
 |index T x i=>rw [hop] at h;obtain ⟨x,h1,h2⟩:=one (qindex_ex h) cg;exact ⟨x,none,h1,fun h=>absurd rfl h,h2⟩
 |extract t i =>
  rw [hop] at h
  simp only at h ⊢
  split at h
  ·split at h
   ·exact ⟨_,_,h,fun h=>absurd rfl h,rfl,rfl⟩
   ·exact h.elim
  ·exact h.elim
 |binOp op T x y ty=>rw [hop] at h;obtain ⟨x,h1,h2⟩:=one (qbin_ex h) cg;exact ⟨x,none,h1,fun h=>absurd rfl h,h2⟩
 |unOp op T x=>rw [hop] at h;obtain ⟨x,h1,h2⟩:=one (qun_ex h) cg;exact ⟨x,none,h1,fun h=>absurd rfl h,h2⟩
 |convert sT dT x=>rw [hop] at h;obtain ⟨x,h1,h2⟩:=one (qconv_ex h) cg;exact ⟨x,none,h1,fun h=>absurd rfl h,h2⟩
 |makeInterface T x=>rw [hop] at h;exact ⟨_,_,h.2,fun h=>absurd rfl h,h.1,rfl,rfl⟩
 |makeFunc fn first caps=>rw [hop] at h;exact ⟨_,_,h,fun h=>absurd rfl h,rfl,rfl⟩
 |makeMap T r =>
  rw [hop] at h
  cases r with
  |some r=>exact h.elim
  |none =>
   simp only at h ⊢
   split at h
   ·exact ⟨_,_,h,fun _=>rfl,rfl,rfl⟩
   ·exact h.elim
 |slice T x lo hi mx =>
  rw [hop] at h
  cases mx with
  |some m=>exact h.elim
  |none=>obtain ⟨x,h1,h2⟩:=one (qslice_ex h) cg;exact ⟨x,none,h1,fun h=>absurd rfl h,h2⟩
 |lookup T x i ok=>rw [hop] at h;obtain ⟨x,h1,h2⟩:=one (qlookup_ex h) cg;exact ⟨x,none,h1,fun h=>absurd rfl h,h2⟩
 |call c=>rw [hop] at h;exact qcall_ex h
 |_=>rw [hop] at h;exact h.elim
end
end Go.Am
end
section
namespace Go.Am
open Go.RowKit
theorem Rep.noment {H : Heap} {ρ : Rho} {x : AV} {v : Value} {d : Nat} (h : Rep H ρ x v) : ρ d = .no → x.ment d = false:=by
 induction h with
 |v h=>intro _;rfl
 |st hl h1 _ ih =>
  intro h0
  simp only [AV.ment]
  refine mentL_false_of (fun c hc=>?_)
  obtain ⟨i,hi⟩:=List.getElem?_of_mem hc
  exact ih i c _ hi (List.getElem?_eq_getElem (hl ▸ (List.getElem?_eq_some_iff.1 hi).1)) h0
 |slNil=>intro _;rfl
 |sl=>intro _;rfl
 |ep=>intro _;rfl
 |ownNil h=>intro h0;simp only [AV.ment,beq_eq_false_iff_ne];rintro rfl;rw [h0] at h;cases h
 |own h=>intro h0;simp only [AV.ment,beq_eq_false_iff_ne];rintro rfl;rw [h0] at h;cases h
 |loc h=>intro h0;simp only [AV.ment,beq_eq_false_iff_ne];rintro rfl;rw [h0] at h;cases h
 |eloc h=>intro h0;simp only [AV.ment,beq_eq_false_iff_ne];rintro rfl;rw [h0] at h;cases h
 |mp h=>intro h0;simp only [AV.ment,beq_eq_false_iff_ne];rintro rfl;rw [h0] at h;cases h
 |fn hl1 hl2 _ _ ih1 ih2 =>
  intro h0
  simp only [AV.ment,Bool.or_eq_false_iff]
  refine ⟨mentL_false_of (fun c hc=>?_),mentL_false_of (fun c hc=>?_)⟩
  ·obtain ⟨i,hi⟩:=List.getElem?_of_mem hc
   exact ih1 i c _ hi (List.getElem?_eq_getElem (hl1 ▸ (List.getElem?_eq_some_iff.1 hi).1)) h0
  ·obtain ⟨i,hi⟩:=List.getElem?_of_mem hc
   exact ih2 i c _ hi (List.getElem?_eq_getElem (hl2 ▸ (List.getElem?_eq_some_iff.1 hi).1)) h0
 |tup hl _ ih =>
  intro h0
  simp only [AV.ment]
  refine mentL_false_of (fun c hc=>?_)
  obtain ⟨i,hi⟩:=List.getElem?_of_mem hc
  exact ih i c _ hi (List.getElem?_eq_getElem (hl ▸ (List.getElem?_eq_some_iff.1 hi).1)) h0
 |ifc _ ih=>intro h0;simp only [AV.ment];exact ih h0
 |w _=>intro _;rfl
 |u=>intro _;rfl
theorem RepL.noment {H : Heap} {ρ : Rho} {cs : List AV} {vs : List Value} {d : Nat} (h : RepL H ρ cs vs) (h0 : ρ d = .no) : mentL d cs = false :=
 mentL_false_of (fun c hc=>by
  obtain ⟨i,hi⟩:=List.getElem?_of_mem hc
  obtain ⟨u,_,hr⟩:=h.get hi
  exact hr.noment h0)
theorem ment_of_cells {d : Nat} {x : AV} (h : mentL d x.cells = false) : x.ment d = false:=by
 cases x with
 |st cs=>simpa only [AV.ment,AV.cells] using h
 |_=>simpa only [AV.cells,mentL,Bool.or_false] using h
theorem mentL_of_flat {d : Nat} : ∀ {xs : List AV},mentL d (xs.flatMap AV.cells) = false → mentL d xs = false
 |[],_=>rfl
 |x :: xs,h=>by
  rw [List.flatMap_cons,mentL_append,Bool.or_eq_false_iff] at h
  simp only [mentL,Bool.or_eq_false_iff]
  exact ⟨ment_of_cells h.1,mentL_of_flat h.2⟩
theorem mentP_of {d : Nat} : ∀ {es : List (AV × AV)},mentL d (es.map (·.1)) = false → mentL d (es.map (·.2)) = false → mentP d es = false
 |[],_,_=>rfl
 |e :: es,h1,h2=>by
  simp only [List.map_cons,mentL,Bool.or_eq_false_iff] at h1 h2
  simp only [mentP,Bool.or_eq_false_iff]
  exact ⟨⟨h1.1,h2.1⟩,mentP_of h1.2 h2.2⟩
theorem CtRep.noment {H : Heap} {ρ : Rho} {w : World} {bd : Bd} {c : Ct} {d : Nat} (h : CtRep H ρ w bd c) (h0 : ρ d = .no) : c.ment d = false:=by
 cases c with
 |box T x=>obtain ⟨_,_,_,_,_,h3,_⟩:=h;simp only [Ct.ment];exact ment_of_cells (h3.noment h0)
 |arr T k xs =>
  simp only [Ct.ment]
  rcases h with ⟨_,rfl⟩|⟨_,_,_,_,_,_,_,_,h6,_⟩
  ·rfl
  ·exact mentL_of_flat (h6.noment h0)
 |it m bs ck vis =>
  obtain ⟨_,_,_,_,_,_,h2,_⟩:=h
  simp only [Ct.ment,beq_eq_false_iff_ne]
  rintro rfl
  rw [h0] at h2
  cases h2
 |map es st=>obtain ⟨_,_,_,_,_,_,h3,h4,_⟩:=h;simp only [Ct.ment];exact mentP_of (h3.noment h0) (h4.noment h0)
 |raw o=>rfl
 |pin b o=>rfl
 |hp H'=>rfl
structure Fp where
 r : List Nat
 n : List Nat
 deriving Inhabited
def newIds (o : Oper) : List Nat:=if newOp o.op then o.dst.toList else []
def qd (P : Program) (o : Oper) (s : AState) (k : AState → Fp → Prop) : Prop :=
 qop P o s.eval s.box (fun x n=>k ((s.put o.dst x).addBox o.dst n) ⟨rids o s.eval,newIds o⟩)
def RKQ (P : Program) (ops : Array Oper) : List Oper → AState → List Fp → (AState → List Fp → Prop) → Prop
 |[],s,acc,K=>K s acc
 |o :: rest,s,acc,K=>match o.guard with
  |none=>qd P o s (fun s' f=>RKQ P ops rest s' (acc ++ [f]) K)
  |some (j,want)=>match (ops[j]?).bind (·.dst) with
   |some t=>(match s.slot t with
    |.v (.bool b)=>(b = want → qd P o (s.put (some t) (.v (.bool want))) (fun s' f=>RKQ P ops rest s' (acc ++ [f]) K)) ∧
      (b = (!want) → RKQ P ops rest ((s.put (some t) (.v (.bool (!want)))).put o.dst (.tup [])) (acc ++ [⟨[],[]⟩]) K)
    |.tup []=>RKQ P ops rest (s.put o.dst (.tup [])) (acc ++ [⟨[],[]⟩]) K
    |_=>False)
   |none=>RKQ P ops rest (s.put o.dst (.tup [])) (acc ++ [⟨[],[]⟩]) K
def gOn (ops : Array Oper) (o : Oper) (sf : Nat → AV) : Prop :=
 match o.guard with
 |none=>True
 |some (j,want)=>∃ t,(ops[j]?).bind (·.dst) = some t ∧ sf t = .v (.bool want)
def gOff (ops : Array Oper) (o : Oper) (sf : Nat → AV) : Prop :=
 match o.guard with
 |none=>False
 |some (j,want)=>(ops[j]?).bind (·.dst) = none ∨ ∃ t,(ops[j]?).bind (·.dst) = some t ∧ (sf t = .tup [] ∨ sf t = .v (.bool (!want)))
structure Ev where
 on : Bool
 x : AV
 n : Option Ct
 f : Fp
 deriving Inhabited
def evOK (P : Program) (ops : Array Oper) (o : Oper) (sf : Nat → AV) (bf : Nat → Option Ct) (e : Ev) : Prop :=
 if e.on then gOn ops o sf ∧ qop P o (evalF sf) bf (fun y m=>y = e.x ∧ m = e.n) ∧ (e.n ≠ none → newOp o.op = true) ∧ e.f = ⟨rids o (evalF sf),newIds o⟩
 else gOff ops o sf ∧ e.x = .tup [] ∧ e.n = none ∧ e.f = ⟨[],[]⟩
def RunQ (P : Program) (ops : Array Oper) : List Oper → (Nat → AV) → (Nat → Option Ct) → List Ev → (Nat → AV) → (Nat → Option Ct) → Prop
 |[],sf,bf,[],sf',bf'=>sf = sf' ∧ bf = bf'
 |o :: l,sf,bf,e :: es,sf',bf'=>evOK P ops o sf bf e ∧ RunQ P ops l (putF sf o.dst e.x) (addF bf o.dst e.n) es sf' bf'
 |_,_,_,_,_,_=>False
theorem slot_same {s : AState} {t : Nat} {x : AV} (h : s.slot t = x) : (s.put (some t) x).slot = s.slot:=by
 rw [AState.slot_put]
 funext i
 simp only [putF]
 split
 ·rename_i e;subst e;exact h.symm
 ·rfl
section
variable {P : Program} {E : Env} {ops : Array Oper}
theorem RKQ_run : ∀ (l : List Oper) (s : AState) (acc : List Fp) (K : AState → List Fp → Prop),RKQ P ops l s acc K → ∃ es s',RunQ P ops l s.slot s.box es s'.slot s'.box ∧ K s' (acc ++ es.map (·.f))
 |[],s,acc,K,h=>⟨[],s,⟨rfl,rfl⟩,by simpa [RKQ] using h⟩
 |o :: rest,s,acc,K,h=>by
  simp only [RKQ] at h
  have take : ∀ {s1 : AState},s1.slot = s.slot → s1.box = s.box → gOn ops o s.slot → qd P o s1 (fun s' f=>RKQ P ops rest s' (acc ++ [f]) K) →
   ∃ es s',RunQ P ops (o :: rest) s.slot s.box es s'.slot s'.box ∧ K s' (acc ++ es.map (·.f)):=by
   intro s1 h1 h2 hg hq
   obtain ⟨x,n,hk,hn,hq⟩:=qop_ex hq
   obtain ⟨es,s',hr,hK⟩:=RKQ_run rest _ _ K hk
   refine ⟨⟨true,x,n,⟨rids o s1.eval,newIds o⟩⟩ :: es,s',⟨?_,?_⟩,by simpa using hK⟩
   ·have he : s1.eval = evalF s.slot:=by unfold AState.eval;rw [h1]
    simp only [evOK,if_true]
    rw [he,h2] at hq
    exact ⟨hg,hq,hn,by rw [he]⟩
   ·rw [AState.slot_addBox,AState.box_addBox,AState.slot_put,AState.box_put,h1,h2] at hr
    exact hr
  have skip : ∀ {s1 : AState},s1.slot = s.slot → s1.box = s.box → gOff ops o s.slot → RKQ P ops rest (s1.put o.dst (.tup [])) (acc ++ [⟨[],[]⟩]) K →
   ∃ es s',RunQ P ops (o :: rest) s.slot s.box es s'.slot s'.box ∧ K s' (acc ++ es.map (·.f)):=by
   intro s1 h1 h2 hg hq
   obtain ⟨es,s',hr,hK⟩:=RKQ_run rest _ _ K hq
   refine ⟨⟨false,.tup [],none,⟨[],[]⟩⟩ :: es,s',⟨?_,?_⟩,by simpa using hK⟩
   ·simp only [evOK,Bool.false_eq_true,if_false]
    exact ⟨hg,by simp⟩
   ·have : addF s.box o.dst none = s.box:=by cases o.dst <;> rfl
    rw [AState.slot_put,AState.box_put,h1,h2] at hr
    simp only [this]
    exact hr
  split at h
  ·rename_i hg
   exact take rfl rfl (by simp [gOn,hg]) h
  ·rename_i j want hg
   split at h
   ·rename_i t ht
    split at h
    ·rename_i b hb
     by_cases hbw : b = want
     ·subst hbw
      exact take (slot_same hb) (AState.box_put _ _ _) (by simp only [gOn,hg];exact ⟨t,ht,hb⟩) (h.1 rfl)
     ·have hbn : b = !want:=by cases b <;> cases want <;> simp_all
      subst hbn
      exact skip (slot_same hb) (AState.box_put _ _ _) (by simp only [gOff,hg];exact .inr ⟨t,ht,.inr hb⟩) (h.2 rfl)
    ·rename_i hb
     exact skip rfl rfl (by simp only [gOff,hg];exact .inr ⟨t,ht,.inl hb⟩) h
    ·exact h.elim
   ·rename_i ht
    exact skip rfl rfl (by simp only [gOff,hg];exact .inl ht) h
def edgeMask (m : List Nat) (j : Nat) (es : List Edge) (s : Nat) : Nat :=
 match es with
 |[]=>s
 |e :: es=>edgeMask m j es (if Region.binds .any e && decide (e.on < j) then s ||| (2 ^ e.on) ||| m.getD e.on 0 else s)
def masksOK (ops : List Oper) (m : List Nat) : Bool :=
 ops.zipIdx.all fun (o,j)=>m.getD j 0 == edgeMask m j o.after.toList 0
def mkMasks : List Oper → Nat → List Nat → List Nat
 |[],_,acc=>acc
 |o :: l,j,acc=>mkMasks l (j + 1) (acc ++ [edgeMask acc j o.after.toList 0])
theorem edgeMask_spec {m : List Nat} {j i : Nat} : ∀ {es : List Edge} {s : Nat},(edgeMask m j es s).testBit i = true → s.testBit i = true ∨ ∃ e ∈ es,Region.binds .any e = true ∧ e.on < j ∧ (i = e.on ∨ (m.getD e.on 0).testBit i = true)
 |[],s,h=>.inl h
 |e :: es,s,h=>by
  simp only [edgeMask] at h
  rcases edgeMask_spec h with h|⟨e',he',h⟩
  ·split at h
   ·rename_i hb
    simp only [Bool.and_eq_true,decide_eq_true_eq] at hb
    simp only [Nat.testBit_or,Bool.or_eq_true] at h
    rcases h with (h|h)|h
    ·exact .inl h
    ·refine .inr ⟨e,by simp,hb.1,hb.2,.inl ?_⟩
     rw [Nat.testBit_two_pow] at h
     exact (of_decide_eq_true h).symm
    ·exact .inr ⟨e,by simp,hb.1,hb.2,.inr h⟩
   ·exact .inl h
  ·exact .inr ⟨e',List.mem_cons_of_mem _ he',h⟩
theorem masksOK_spec {l : List Oper} {m : List Nat} (h : masksOK l m = true) {j : Nat} {o : Oper} (ho : l[j]? = some o) {i : Nat} (hi : (m.getD j 0).testBit i = true) :
 ∃ e ∈ o.after,Region.binds .any e = true ∧ e.on < j ∧ (i = e.on ∨ (m.getD e.on 0).testBit i = true):=by
 have h1:=List.all_eq_true.1 h (o,j) (by
  rw [List.mem_iff_getElem?]
  exact ⟨j,by simp [List.getElem?_zipIdx,ho]⟩)
 simp only [beq_iff_eq] at h1
 rw [h1] at hi
 rcases edgeMask_spec hi with h|⟨e,he,h⟩
 ·simp at h
 ·exact ⟨e,by simpa using he,h⟩
theorem mask_listed {l : List Oper} {m : List Nat} (hm : masksOK l m = true) {listed : Nat → Bool} (hcl : ∀ j o,l[j]? = some o → listed j = true → ∀ e ∈ o.after,Region.binds .any e = true → listed e.on = true) (hlt : ∀ j,listed j = true → j < l.length) :
 ∀ (j : Nat) (o : Oper),l[j]? = some o → (∀ e ∈ o.after,Region.binds .any e = true → listed e.on = true) → ∀ i,(m.getD j 0).testBit i = true → listed i = true:=by
 intro j
 induction j using Nat.strongRecOn with
 |_ j ih =>
  intro o ho hall i hi
  obtain ⟨e,he,hb,hlt',h|h⟩:=masksOK_spec hm ho hi
  ·rw [h];exact hall e he hb
  ·have hon:=hall e he hb
   have hlen:=hlt _ hon
   have hoe : l[e.on]? = some l[e.on]:=List.getElem?_eq_getElem hlen
   exact ih e.on hlt' _ hoe (hcl e.on _ hoe hon) i h
def headOK (ops : Array Oper) (m : List Nat) (l : List Oper) (fps : List Fp) : Bool :=
 l.zipIdx.all fun (o,j)=>l.zipIdx.all fun (o',i) =>
  (match o'.dst with
   |some d=>(!(o.looksAt ops).contains d || (m.getD j 0).testBit i) && (i == j || o.dst != some d) &&
     (!newOp o'.op || !((fps.getD j ⟨[],[]⟩).r).contains d || (m.getD j 0).testBit i)
   |none=>true)
def tailOK (m : List Nat) (n N : Nat) : Bool :=
 (List.range N).all fun t=>decide (t < n) || (List.range t).all fun i=>(m.getD t 0).testBit i
def newOK (l : List Oper) (s : AState) : Bool:=l.all fun o=>(newIds o).all fun d=>!s.ment d && (s.box d).isNone
def backOK (ops : List Oper) : Bool:=ops.zipIdx.all fun (o,j)=>o.after.toList.all fun e=>!Region.binds .any e || decide (e.on < j)
def lateOp : Op → Bool
 |.extract (.tmp _) _=>true
 |.move _=>true
 |_=>false
def latePOK (l : List Oper) (m : List Nat) (n p : Nat) : Bool :=
 (match l[p]? with
  |some o=>o.guard.isNone && lateOp o.op &&
   (List.range l.length).all (fun j=>decide (j < n) || (match l[j]? with|some oj=>oj.after.toList.any (fun e=>Region.binds .any e && e.on == p) || o.apart l.toArray oj|none=>true))
  |none=>false) &&
 (List.range l.length).all (fun t=>decide (t < n) || (List.range t).all fun i=>i == p || (m.getD t 0).testBit i) && l.all fun o=>match o.op with|.select _ _=>false|_=>true
def lateQ (l : List Oper) (p : Nat) : Bool:=match l[p]? with
 |some o=>o.guard.isNone && (match o.op with|.move _=>true|_=>false) && o.after.toList.all (fun e=>!Region.binds .any e) &&
   (List.range l.length).all (fun j=>j == p || match l[j]? with|some oj=>oj.after.toList.any (fun e=>Region.binds .any e && e.on == p) || o.apart l.toArray oj|none=>true)
 |none=>false
def lateMOK (l : List Oper) (m : List Nat) (n : Nat) : Bool :=
 (List.range l.length).all (fun t=>decide (t < n) || (List.range t).all fun i=>(decide (i < n) && lateQ l i) || (m.getD t 0).testBit i) && l.all fun o=>match o.op with|.select _ _=>false|_=>true
def lateOK (l : List Oper) (m : List Nat) (n : Nat) : Bool:=((List.range n).any fun p=>latePOK l m n p) || lateMOK l m n
def drawOK (ops : List Oper) (n : Nat) (fps : List Fp) : Bool :=
 masksOK ops (mkMasks ops 0 []) && headOK ops.toArray (mkMasks ops 0 []) (ops.take n) fps && (tailOK (mkMasks ops 0 []) n ops.length || lateOK ops (mkMasks ops 0 []) n) && backOK ops
theorem RunQ_len : ∀ {l : List Oper} {sf sf' : Nat → AV} {bf bf' : Nat → Option Ct} {es : List Ev},RunQ P ops l sf bf es sf' bf' → es.length = l.length
 |[],_,_,_,_,[],_=>rfl
 |[],_,_,_,_,_ :: _,h=>h.elim
 |_ :: _,_,_,_,_,[],h=>h.elim
 |_ :: l,_,_,_,_,_ :: es,h=>by simp [RunQ_len h.2]
structure Cur (l : List Oper) (es : List Ev) (sf0 : Nat → AV) (bf0 : Nat → Option Ct) (S : Nat → Prop) (sf : Nat → AV) (bf : Nat → Option Ct) : Prop where
 s1 : ∀ i o e d,l[i]? = some o → es[i]? = some e → S i → o.dst = some d → sf d = e.x
 s0 : ∀ x,(∀ i o,l[i]? = some o → S i → o.dst ≠ some x) → sf x = sf0 x
 b1 : ∀ i o e d c,l[i]? = some o → es[i]? = some e → S i → o.dst = some d → e.n = some c → bf d = some c
 b0 : ∀ x,(∀ i o e,l[i]? = some o → es[i]? = some e → S i → e.n ≠ none → o.dst ≠ some x) → bf x = bf0 x
def dstApart (l : List Oper) : Prop:=∀ (i j : Nat) (o o' : Oper) (d : Nat),l[i]? = some o → l[j]? = some o' → o.dst = some d → o'.dst = some d → i = j
theorem Cur.step {l : List Oper} {es : List Ev} {sf0 sf : Nat → AV} {bf0 bf : Nat → Option Ct} {S : Nat → Prop} (h : Cur l es sf0 bf0 S sf bf) (hap : dstApart l) {j : Nat} {o : Oper} {e : Ev} (ho : l[j]? = some o) (he : es[j]? = some e) (hj : ¬ S j) :
 Cur l es sf0 bf0 (fun i=>S i ∨ i = j) (putF sf o.dst e.x) (addF bf o.dst e.n):=by
 refine ⟨fun i o' e' d ho' he' hs hd=>?_,fun x hx=>?_,fun i o' e' d c ho' he' hs hd hn=>?_,fun x hx=>?_⟩
 ·rcases hs with hs|rfl
  ·cases hod : o.dst with
   |none=>exact h.s1 i o' e' d ho' he' hs hd
   |some d' =>
    simp only [putF]
    split
    ·rename_i e2;subst e2
     have:=hap i j o' o _ ho' ho hd hod
     subst this
     exact absurd hs hj
    ·exact h.s1 i o' e' d ho' he' hs hd
  ·rw [ho] at ho';cases ho'
   rw [he] at he';cases he'
   rw [hd];simp [putF]
 ·cases hod : o.dst with
  |none=>exact h.s0 x (fun i o' ho' hs=>hx i o' ho' (.inl hs))
  |some d' =>
   simp only [putF]
   split
   ·rename_i e2;subst e2
    exact absurd hod (hx j o ho (.inr rfl))
   ·exact h.s0 x (fun i o' ho' hs=>hx i o' ho' (.inl hs))
 ·rcases hs with hs|rfl
  ·cases hod : o.dst with
   |none=>exact h.b1 i o' e' d c ho' he' hs hd hn
   |some d' =>
    cases hen : e.n with
    |none=>exact h.b1 i o' e' d c ho' he' hs hd hn
    |some c' =>
     simp only [addF]
     split
     ·rename_i e2;subst e2
      have:=hap i j o' o _ ho' ho hd hod
      subst this
      exact absurd hs hj
     ·exact h.b1 i o' e' d c ho' he' hs hd hn
  ·rw [ho] at ho';cases ho'
   rw [he] at he';cases he'
   rw [hd,hn];simp [addF]
 ·cases hod : o.dst with
  |none=>exact h.b0 x (fun i o' e' ho' he' hs=>hx i o' e' ho' he' (.inl hs))
  |some d' =>
   cases hen : e.n with
   |none=>exact h.b0 x (fun i o' e' ho' he' hs=>hx i o' e' ho' he' (.inl hs))
   |some c' =>
    simp only [addF]
    split
    ·rename_i e2;subst e2
     exact absurd hod (hx j o e ho he (.inr rfl) (by rw [hen];simp))
    ·exact h.b0 x (fun i o' e' ho' he' hs=>hx i o' e' ho' he' (.inl hs))
theorem RunQ_at {l : List Oper} {es : List Ev} {sf0 sf' : Nat → AV} {bf0 bf' : Nat → Option Ct} (hap : dstApart l) : ∀ (k : Nat) (sf : Nat → AV) (bf : Nat → Option Ct),RunQ P ops (l.drop k) sf bf (es.drop k) sf' bf' → Cur l es sf0 bf0 (fun i=>i < k) sf bf → es.length = l.length → k ≤ l.length →
 (∀ j o e,k ≤ j → l[j]? = some o → es[j]? = some e → ∃ sj bj,Cur l es sf0 bf0 (fun i=>i < j) sj bj ∧ evOK P ops o sj bj e) ∧ Cur l es sf0 bf0 (fun i=>i < l.length) sf' bf':=by
 intro k
 generalize hn : l.length - k = n
 induction n generalizing k with
 |zero =>
  intro sf bf hr hc hlen hk
  have hkl : k = l.length:=by omega
  subst hkl
  have e1 : l.drop l.length = []:=by simp
  have e2 : es.drop l.length = []:=by rw [← hlen];simp
  rw [e1,e2] at hr
  obtain ⟨rfl,rfl⟩:=hr
  refine ⟨fun j o e hj ho=>?_,hc⟩
  have:=(List.getElem?_eq_some_iff.1 ho).1
  omega
 |succ n ih =>
  intro sf bf hr hc hlen hk
  have hkl : k < l.length:=by omega
  have hke : k < es.length:=by omega
  rw [List.drop_eq_getElem_cons hkl,List.drop_eq_getElem_cons hke] at hr
  obtain ⟨hev,hr⟩:=hr
  have ho : l[k]? = some l[k]:=List.getElem?_eq_getElem hkl
  have he : es[k]? = some es[k]:=List.getElem?_eq_getElem hke
  have hc2:=hc.step hap ho he (by omega)
  have hc3 : Cur l es sf0 bf0 (fun i=>i < k + 1) (putF sf l[k].dst es[k].x) (addF bf l[k].dst es[k].n):=by
   have : (fun i=>i < k ∨ i = k) = (fun i=>i < k + 1):=by funext i;apply propext;omega
   rw [this] at hc2
   exact hc2
  obtain ⟨h1,h2⟩:=ih (k + 1) (by omega) _ _ hr hc3 hlen (by omega)
  refine ⟨fun j o e hj ho' he'=>?_,h2⟩
  by_cases hjk : j = k
  ·subst hjk
   rw [ho] at ho';cases ho'
   rw [he] at he';cases he'
   exact ⟨sf,bf,hc,hev⟩
  ·exact h1 j o e (by omega) ho' he'
theorem headOK_spec {m : List Nat} {l : List Oper} {fps : List Fp} (h : headOK ops m l fps = true) {i j : Nat} {o o' : Oper} {d : Nat} (ho : l[j]? = some o) (ho' : l[i]? = some o') (hd : o'.dst = some d) :
 (d ∈ o.looksAt ops → (m.getD j 0).testBit i = true) ∧ (i = j ∨ o.dst ≠ some d) ∧ (newOp o'.op = true → d ∈ (fps.getD j ⟨[],[]⟩).r → (m.getD j 0).testBit i = true):=by
 have h1:=List.all_eq_true.1 h (o,j) (by rw [List.mem_iff_getElem?];exact ⟨j,by simp [List.getElem?_zipIdx,ho]⟩)
 have h2:=List.all_eq_true.1 h1 (o',i) (by rw [List.mem_iff_getElem?];exact ⟨i,by simp [List.getElem?_zipIdx,ho']⟩)
 simp only [hd,Bool.and_eq_true,Bool.or_eq_true,Bool.not_eq_true',beq_iff_eq,bne_iff_ne,ne_eq] at h2
 obtain ⟨⟨h3,h4⟩,h5⟩:=h2
 refine ⟨fun hm=>?_,h4,fun hn hm=>?_⟩
 ·rcases h3 with h3|h3
  ·rw [List.contains_iff_mem.2 hm] at h3;cases h3
  ·exact h3
 ·rcases h5 with (h5|h5)|h5
  ·rw [hn] at h5;cases h5
  ·rw [List.contains_iff_mem.2 hm] at h5;cases h5
  ·exact h5
theorem headOK_apart {m : List Nat} {l : List Oper} {fps : List Fp} (h : headOK ops m l fps = true) : dstApart l:=by
 intro i j o o' d ho ho' hd hd'
 rcases (headOK_spec h ho' ho hd).2.1 with e|e
 ·exact e
 ·exact absurd hd' e
theorem tailOK_spec {m : List Nat} {n N t : Nat} (h : tailOK m n N = true) (ht : t < N) (hn : n ≤ t) : ∀ i,i < t → (m.getD t 0).testBit i = true:=by
 have h1:=List.all_eq_true.1 h t (List.mem_range.2 ht)
 simp only [Bool.or_eq_true,decide_eq_true_eq] at h1
 rcases h1 with h1|h1
 ·omega
 ·intro i hi
  exact List.all_eq_true.1 h1 i (List.mem_range.2 hi)
theorem looksAt_operand {o : Oper} {t : Tmp} (h : .tmp t ∈ o.op.operands.toList) : t ∈ o.looksAt ops:=by
 unfold Oper.looksAt
 refine List.mem_append_left _ (List.mem_filterMap.2 ⟨.tmp t,h,rfl⟩)
theorem looksAt_guard {o : Oper} {j t : Nat} {want : Bool} (hg : o.guard = some (j,want)) (ht : (ops[j]?).bind (·.dst) = some t) : t ∈ o.looksAt ops:=by
 unfold Oper.looksAt
 refine List.mem_append_right _ ?_
 simp [hg,ht]
theorem rids_congr {o : Oper} {av av' : Operand → AV} (hav : ∀ x ∈ o.op.operands.toList,av' x = av x) : rids o av' = rids o av:=by
 unfold rids
 cases hop : o.op <;> rw [hop] at hav <;> simp only
 case load T p=>rw [hav p (by simp [Op.operands])]
 case slice T x lo hi mx=>rw [hav x (by simp [Op.operands])]
 case lookup T x i ok=>rw [hav x (by simp [Op.operands])]
 case call c =>
  have h1 : c.args.toList.map av' = c.args.toList.map av:=List.map_congr_left fun x hx=>hav x (by simp only [Op.operands,Call.operands,Array.toList_append];exact List.mem_append_right _ hx)
  rw [h1]
  cases hc : c.callee with
  |value f=>simp only;rw [hav f (by simp only [Op.operands,Call.operands,hc,Array.toList_append];exact List.mem_append_left _ (by simp))]
  |invoke r m=>simp only;rw [hav r (by simp only [Op.operands,Call.operands,hc,Array.toList_append];exact List.mem_append_left _ (by simp))]
  |_=>rfl
theorem head_op {l : List Oper} {es : List Ev} {sf0 : Nat → AV} {bf0 : Nat → Option Ct} {m : List Nat} (hok : headOK ops m l (es.map (·.f)) = true) {S : Nat → Prop} {sf sj : Nat → AV} {bf bj : Nat → Option Ct} {j : Nat} {o : Oper} {e : Ev}
 (ho : l[j]? = some o) (he : es[j]? = some e) (hcur : Cur l es sf0 bf0 S sf bf) (hcj : Cur l es sf0 bf0 (fun i=>i < j) sj bj) (hev : evOK P ops o sj bj e)
 (hS : ∀ i,(m.getD j 0).testBit i = true → S i) (hlow : ∀ i,(m.getD j 0).testBit i = true → i < j) (hlen : es.length = l.length)
 (hnews : ∀ (i : Nat) (o : Oper) (e : Ev),l[i]? = some o → es[i]? = some e → e.n ≠ none → newOp o.op = true) : evOK P ops o sf bf e:=by
 have slotEq : ∀ t,t ∈ o.looksAt ops → sf t = sj t:=by
  intro t ht
  by_cases hex : ∃ (i : Nat) (o' : Oper),l[i]? = some o' ∧ o'.dst = some t
  ·obtain ⟨i,o',ho',hd⟩:=hex
   have hb:=(headOK_spec hok ho ho' hd).1 ht
   have hie : i < es.length:=by rw [hlen];exact (List.getElem?_eq_some_iff.1 ho').1
   have he' : es[i]? = some es[i]:=List.getElem?_eq_getElem hie
   rw [hcur.s1 i o' _ t ho' he' (hS i hb) hd,hcj.s1 i o' _ t ho' he' (hlow i hb) hd]
  ·have hno : ∀ (i : Nat) (o' : Oper),l[i]? = some o' → o'.dst ≠ some t:=fun i o' ho' hd=>hex ⟨i,o',ho',hd⟩
   rw [hcur.s0 t (fun i o' ho' _=>hno i o' ho'),hcj.s0 t (fun i o' ho' _=>hno i o' ho')]
 have evalEq : ∀ x ∈ o.op.operands.toList,evalF sf x = evalF sj x:=by
  intro x hx
  cases x with
  |tmp t=>exact slotEq t (looksAt_operand hx)
  |_=>rfl
 have gOnEq : gOn ops o sj → gOn ops o sf:=by
  intro h
  unfold gOn at h ⊢
  split at h
  ·trivial
  ·rename_i j' want hg
   obtain ⟨t,ht,hb⟩:=h
   exact ⟨t,ht,by rw [slotEq t (looksAt_guard hg ht)];exact hb⟩
 have gOffEq : gOff ops o sj → gOff ops o sf:=by
  intro h
  unfold gOff at h ⊢
  split at h
  ·exact h
  ·rename_i j' want hg
   rcases h with h|⟨t,ht,hb⟩
   ·exact .inl h
   ·exact .inr ⟨t,ht,by rw [slotEq t (looksAt_guard hg ht)];exact hb⟩
 unfold evOK at hev ⊢
 by_cases hon : e.on = true
 ·rw [if_pos hon] at hev ⊢
  obtain ⟨hg,hq,hn,hf⟩:=hev
  have hrids : rids o (evalF sf) = rids o (evalF sj):=rids_congr evalEq
  refine ⟨gOnEq hg,qop_congr evalEq (fun id hid=>?_) hq,hn,by rw [hrids];exact hf⟩
  by_cases hex : ∃ (i : Nat) (o' : Oper) (e' : Ev),l[i]? = some o' ∧ es[i]? = some e' ∧ e'.n ≠ none ∧ o'.dst = some id
  ·obtain ⟨i,o',e',ho',he',hn',hd⟩:=hex
   cases hen : e'.n with
   |none=>exact absurd hen hn'
   |some c =>
    have hnew : newOp o'.op = true:=hnews i o' e' ho' he' hn'
    have hb:=(headOK_spec hok ho ho' hd).2.2 hnew (by
     rw [List.getD_eq_getElem?_getD,List.getElem?_map,he,Option.map_some,Option.getD_some,hf]
     exact hid)
    rw [hcur.b1 i o' e' id c ho' he' (hS i hb) hd hen,hcj.b1 i o' e' id c ho' he' (hlow i hb) hd hen]
  ·have hno : ∀ (i : Nat) (o' : Oper) (e' : Ev),l[i]? = some o' → es[i]? = some e' → e'.n ≠ none → o'.dst ≠ some id:=fun i o' e' ho' he' hn' hd=>hex ⟨i,o',e',ho',he',hn',hd⟩
   rw [hcur.b0 id (fun i o' e' ho' he' _=>hno i o' e' ho' he'),hcj.b0 id (fun i o' e' ho' he' _=>hno i o' e' ho' he')]
 ·rw [if_neg hon] at hev ⊢
  exact ⟨gOffEq hev.1,hev.2⟩
end
end Go.Am
end
section
namespace Go.Am
open Go.RowKit
section
variable {P : Program} {E : Env}
theorem backOK_spec {l : List Oper} (h : backOK l = true) {j : Nat} {o : Oper} (ho : l[j]? = some o) {e : Edge} (he : e ∈ o.after) (hb : Region.binds .any e = true) : e.on < j:=by
 have h1:=List.all_eq_true.1 h (o,j) (by rw [List.mem_iff_getElem?];exact ⟨j,by simp [List.getElem?_zipIdx,ho]⟩)
 have h2:=List.all_eq_true.1 h1 e (by simpa using he)
 simpa [hb] using h2
theorem newOK_spec {l : List Oper} {s : AState} (h : newOK l s = true) {i : Nat} {o : Oper} (ho : l[i]? = some o) (hn : newOp o.op = true) {d : Nat} (hd : o.dst = some d) : s.ment d = false ∧ s.box d = none:=by
 have h1:=List.all_eq_true.1 h o (List.mem_of_getElem? ho)
 have h2:=List.all_eq_true.1 h1 d (by simp [newIds,hn,hd])
 simpa using h2
theorem wanted_on {ops : Array Oper} {o : Oper} {H : Heap} {ρ : Rho} {sf : Nat → AV} {bf : Nat → Option Ct} {a : Act} {w : World} (hs : Sim E H ρ sf bf a w) (h : gOn ops o sf) : Region.wanted o (yielded ops a.tmps) = true:=by
 unfold gOn at h
 split at h
 ·rename_i hg;simp [Region.wanted,hg]
 ·rename_i j want hg
  obtain ⟨t,ht,hb⟩:=h
  have:=hs.slots t
  rw [hb] at this
  have hy:=(yielded_of (a:=a) ht).1 want this.v_inv
  simp [Region.wanted,hg,hy]
theorem wanted_off {ops : Array Oper} {o : Oper} {H : Heap} {ρ : Rho} {sf : Nat → AV} {bf : Nat → Option Ct} {a : Act} {w : World} (hs : Sim E H ρ sf bf a w) (h : gOff ops o sf) : Region.wanted o (yielded ops a.tmps) = false:=by
 unfold gOff at h
 split at h
 ·exact h.elim
 ·rename_i j want hg
  rcases h with h|⟨t,ht,hb|hb⟩
  ·have : yielded ops a.tmps j = none:=by unfold yielded;rw [h];rfl
   simp [Region.wanted,hg,this]
  ·have:=hs.slots t
   rw [hb] at this
   have hu : a.tmps.getD t undef = undef:=by
    generalize a.tmps.getD t undef = u at this
    cases this with
    |tup hl hh =>
     rename_i vs
     have : vs = []:=by cases vs with|nil=>rfl|cons=>simp at hl
     subst this
     rfl
   have hy:=(yielded_of (a:=a) ht).2 hu
   simp [Region.wanted,hg,hy]
  ·have:=hs.slots t
   rw [hb] at this
   have hy:=(yielded_of (a:=a) ht).1 _ this.v_inv
   simp [Region.wanted,hg,hy]
theorem wpAny_tail {l : List Oper} {Q : Exit → Act → World → Prop} {m : List Nat} {n : Nat} (hmk : masksOK l m = true) (htl : ∀ t i,n ≤ i → i < t → t < l.length → (m.getD t 0).testBit i = true) (hbk : backOK l = true) : ∀ (f k : Nat) (listed : Array Bool) (a : Act) (w : World),
 n ≤ k → k ≤ l.length → l.length - k ≤ f → listed.size = l.length → (∀ i,i < l.length → listed.getD i true = decide (i < k)) → wpList P l.toArray Q (l.drop k) a w → wpAny P .any l.toArray Q f listed a w:=by
 have ready_iff : ∀ (k : Nat) (listed : Array Bool),n ≤ k → listed.size = l.length → (∀ i,i < l.length → listed.getD i true = decide (i < k)) → ∀ i,i ∈ Region.ready .any l.toArray listed → i = k ∧ k < l.length:=by
  intro k listed hk hsz hli i hi
  obtain ⟨hun,o,ho,hall⟩:=mem_ready.1 hi
  have ho' : l[i]? = some o:=by simpa using ho
  have hil:=(List.getElem?_eq_some_iff.1 ho').1
  have hik : k ≤ i:=by
   rw [hli i hil] at hun
   simpa using hun
  refine ⟨?_,by omega⟩
  by_cases hne : i = k
  ·exact hne
  ·exfalso
   have hcl : ∀ (j : Nat) (o : Oper),l[j]? = some o → decide (j < k ∧ j < l.length) = true → ∀ e ∈ o.after,Region.binds .any e = true → decide (e.on < k ∧ e.on < l.length) = true:=by
    intro j o hj hl e he hb
    have:=backOK_spec hbk hj he hb
    simp at hl ⊢
    omega
   have hl2 : ∀ e ∈ o.after,Region.binds .any e = true → decide (e.on < k ∧ e.on < l.length) = true:=by
    intro e he hb
    have h1:=hall e he hb
    have h2:=backOK_spec hbk ho' he hb
    have h3 : listed.getD e.on true = true:=by
     have : e.on < listed.size:=by omega
     simp only [Array.getD_eq_getD_getElem?,Array.getElem?_eq_getElem this] at h1 ⊢
     exact h1
    rw [hli e.on (by omega)] at h3
    simp at h3 ⊢
    omega
   have:=mask_listed hmk (listed:=fun j=>decide (j < k ∧ j < l.length)) hcl (fun j hj=>by simp at hj;exact hj.2) i o ho' hl2 k (htl i k (by omega) (by omega) hil)
   simp at this
 intro f
 induction f with
 |zero =>
  intro k listed a w hk hkl hf hsz hli h
  have hkl' : k = l.length:=by omega
  have e1 : l.drop k = []:=by rw [hkl'];simp
  rw [e1] at h
  refine ⟨?_,h⟩
  cases hr : Region.ready .any l.toArray listed with
  |nil=>rfl
  |cons i is =>
   have:=ready_iff k listed hk hsz hli i (by rw [hr];simp)
   omega
 |succ f ih =>
  intro k listed a w hk hkl hf hsz hli h
  by_cases hkl' : k = l.length
  ·have e1 : l.drop k = []:=by rw [hkl'];simp
   rw [e1] at h
   refine ⟨fun _=>h,fun i hi=>?_⟩
   have:=ready_iff k listed hk hsz hli i hi
   omega
  ·have hlt : k < l.length:=by omega
   rw [List.drop_eq_getElem_cons hlt] at h
   have hok : l[k]? = some l[k]:=List.getElem?_eq_getElem hlt
   refine ⟨fun h0=>?_,fun i hi=>?_⟩
   ·exfalso
    have : k ∈ Region.ready .any l.toArray listed:=mem_ready.2 ⟨by rw [hli k hlt];simp,l[k],by simp,fun e he hb=>by
     have:=backOK_spec hbk hok he hb
     have h3:=hli e.on (by omega)
     have h4 : e.on < listed.size:=by omega
     simp only [Array.getD_eq_getD_getElem?,Array.getElem?_eq_getElem h4] at h3 ⊢
     rw [Option.getD_some] at h3 ⊢
     rw [h3]
     simpa using this⟩
    rw [h0] at this
    cases this
   ·obtain ⟨rfl,_⟩:=ready_iff k listed hk hsz hli i hi
    unfold wpOp
    simp only [List.getElem?_toArray,hok]
    have hnext : ∀ a w,wpList P l.toArray Q (l.drop (i + 1)) a w → wpAny P .any l.toArray Q f (listed.setIfInBounds i true) a w:=fun a w hw =>
     ih (i + 1) _ a w (by omega) (by omega) (by omega) (by simpa using hsz) (fun j hj=>by
      by_cases hji : i = j
      ·subst hji
       have : i < listed.size:=by omega
       simp [Array.getElem?_setIfInBounds_self_of_lt this]
      ·rw [getD_set_ne true hji,hli j hj]
       simp;omega) hw
    unfold wpList at h
    split
    ·rename_i hw
     rw [if_pos hw] at h
     exact h.imp (Oper.wp_mono hnext) id
    ·rename_i hw
     rw [if_neg hw] at h
     exact hnext _ _ h
theorem Sim.drew {H : Heap} {ρ : Rho} {sf : Nat → AV} {bf : Nat → Option Ct} {a : Act} {w : World} (h : Sim E H ρ sf bf a w) : Sim E H ρ sf bf a { w with drawn:=w.drawn + 1 } :=
 ⟨h.ext,h.slots,h.size,h.defers,⟨h.boxes.rep,h.boxes.apart,h.boxes.inj⟩,h.h0,h.new,⟨h.frame.os,h.frame.tape,⟨h.frame.output.1,Nat.le_succ_of_le h.frame.output.2⟩,h.frame.size,h.frame.block⟩,h.keep,h.nle⟩
theorem draw_any {s : AState} {Q : AExit → AState → Prop} {l : List Oper} (n : Nat) (hdst : dstOK E.n l = true) (hnew : newOK (l.take n) s = true)
 (h : RKQ P l.toArray (l.take n) s [] (fun s' fps=>drawOK l n fps = true ∧ RK P E l.toArray (l.drop n) s' (Q .normal))) :
 ∀ (H : Heap) (ρ : Rho) (a : Act) (w : World),Sim E H ρ s.slot s.box a w → wpAny P .any l.toArray (post E Q) l.toArray.size (Array.replicate l.toArray.size false) a { w with drawn:=w.drawn + 1 }:=by
 intro H ρ a w hs0
 obtain ⟨es,s',hrun,hok,hrk⟩:=RKQ_run (P:=P) (ops:=l.toArray) (l.take n) s [] _ h
 simp only [List.nil_append] at hok
 simp only [drawOK,Bool.and_eq_true] at hok
 obtain ⟨⟨⟨hmk,hhd⟩,htl⟩,hbk⟩:=hok
 generalize hmasks : mkMasks l 0 [] = m at hmk hhd htl
 have hlate : (∀ t i,n ≤ t → t < l.length → i < t → (m.getD t 0).testBit i = true) ∨ (∃ p oi,l[p]? = some oi ∧ p < n ∧ oi.guard = none ∧ lateOp oi.op = true ∧
  (∀ t i,n ≤ t → t < l.length → i < t → i ≠ p → (m.getD t 0).testBit i = true) ∧ (∀ (j : Nat) (o : Oper) cs b,l.toArray[j]? = some o → o.op ≠ .select cs b) ∧
  (∀ j oj,l[j]? = some oj → n ≤ j → (∀ e ∈ oj.after,Region.binds .any e = true → e.on ≠ p) → oi.apart l.toArray oj = true)) ∨
  ((∀ t i,n ≤ t → t < l.length → i < t → (i < n ∧ lateQ l i = true) ∨ (m.getD t 0).testBit i = true) ∧ (∀ (j : Nat) (o : Oper) cs b,l.toArray[j]? = some o → o.op ≠ .select cs b)):=by
  rcases Bool.or_eq_true_iff.1 htl with h|h
  ·exact .inl fun t i h1 h2 h3=>tailOK_spec h h2 h1 i h3
  unfold lateOK at h
  rcases Bool.or_eq_true_iff.1 h with h|h
  rotate_left
  ·unfold lateMOK at h
   simp only [Bool.and_eq_true] at h
   obtain ⟨h1,h3⟩:=h
   refine .inr (.inr ⟨fun t i g1 g2 g3=>?_,fun j o cs b ho heq=>?_⟩)
   ·have:=List.all_eq_true.1 h1 t (List.mem_range.2 g2)
    simp only [Bool.or_eq_true,decide_eq_true_eq] at this
    rcases this with h|h
    ·omega
    ·have:=List.all_eq_true.1 h i (List.mem_range.2 g3)
     simp only [Bool.or_eq_true,Bool.and_eq_true,decide_eq_true_eq] at this
     exact this
   ·have:=List.all_eq_true.1 h3 o (List.mem_of_getElem? (by simpa using ho))
    rw [heq] at this
    cases this
  ·obtain ⟨p,hp,hpo⟩:=List.any_eq_true.1 h
   rw [List.mem_range] at hp
   unfold latePOK at hpo
   simp only [Bool.and_eq_true] at hpo
   obtain ⟨⟨h1,h2⟩,h3⟩:=hpo
   split at h1
   ·rename_i oi hoi
    simp only [Bool.and_eq_true,Option.isNone_iff_eq_none] at h1
    obtain ⟨⟨h4,h5⟩,h6⟩:=h1
    ·refine .inr (.inl ⟨p,oi,hoi,hp,h4,h5,fun t i g1 g2 g3 g4=>?_,fun j o cs b ho heq=>?_,fun j oj hj g1 g2=>?_⟩)
     ·have:=List.all_eq_true.1 h2 t (List.mem_range.2 g2)
      simp only [Bool.or_eq_true,decide_eq_true_eq] at this
      rcases this with h|h
      ·omega
      ·have:=List.all_eq_true.1 h i (List.mem_range.2 g3)
       simp only [Bool.or_eq_true,beq_iff_eq] at this
       rcases this with h|h
       ·exact absurd h g4
       ·exact h
     ·have:=List.all_eq_true.1 h3 o (List.mem_of_getElem? (by simpa using ho))
      rw [heq] at this
      cases this
     ·have:=List.all_eq_true.1 h6 j (List.mem_range.2 (List.getElem?_eq_some_iff.1 hj).1)
      simp only [hj,Bool.or_eq_true,decide_eq_true_eq] at this
      rcases this with h|h|h
      ·omega
      ·obtain ⟨e,he,hb⟩:=List.any_eq_true.1 h
       simp only [Bool.and_eq_true,beq_iff_eq] at hb
       exact absurd hb.2 (g2 e (by simpa using he) hb.1)
      ·exact h
   ·cases h1
 have htl1 : ∀ t i,n ≤ i → i < t → t < l.length → (m.getD t 0).testBit i = true:=by
  intro t i h1 h2 h3
  rcases hlate with h|⟨p,oi,_,hp,_,_,h,_⟩|⟨h,_⟩
  ·exact h t i (by omega) h3 h2
  ·exact h t i (by omega) h3 h2 (by omega)
  ·exact (h t i (by omega) h3 h2).resolve_left (fun h=>by omega)
 have hlen:=RunQ_len hrun
 have hap:=headOK_apart hhd
 have hds:=dstOK_spec hdst
 obtain ⟨hat,hend⟩:=RunQ_at (sf0:=s.slot) (bf0:=s.box) hap 0 s.slot s.box (by simpa using hrun) ⟨fun _ _ _ _ _ _ h=>by omega,fun _ _=>rfl,fun _ _ _ _ _ _ _ h=>by omega,fun _ _=>rfl⟩ hlen (Nat.zero_le _)
 have hnews : ∀ (i : Nat) (o : Oper) (e : Ev),(l.take n)[i]? = some o → es[i]? = some e → e.n ≠ none → newOp o.op = true:=by
  intro i o e ho he hn
  obtain ⟨sj,bj,_,hev⟩:=hat i o e (Nat.zero_le _) ho he
  unfold evOK at hev
  split at hev
  ·exact hev.2.2.1 hn
  ·exact absurd hev.2.2.1 hn
 have hlow : ∀ j (o : Oper),l[j]? = some o → ∀ i,(m.getD j 0).testBit i = true → i < j:=by
  intro j
  induction j using Nat.strongRecOn with
  |_ j ih =>
   intro o ho i hi
   obtain ⟨e,he,hb,hlt,h|h⟩:=masksOK_spec hmk ho hi
   ·omega
   ·have hel : e.on < l.length:=by have:=(List.getElem?_eq_some_iff.1 ho).1;omega
    have:=ih e.on hlt _ (List.getElem?_eq_getElem hel) i h
    omega
 let ρ0 : Rho:=fun d=>if s.ment d = false ∧ s.box d = none ∧ d < 1000000 then .no else ρ d
 have hρ0 : ∀ d,s.ment d = true → ρ0 d = ρ d:=fun d hd=>by simp [ρ0,hd]
 have hs : Sim E H ρ0 s.slot s.box a { w with drawn:=w.drawn + 1 }:=by
  have hs1:=hs0.drew
  refine ⟨hs1.ext,fun i=>(hs1.slots i).rho (fun d hd=>hρ0 d ?_),hs1.size,hs1.defers,⟨fun id c hc=>?_,fun id c b cap hc hb=>?_,fun i j ci cj bi capi capj hi hj hbi hbj=>?_⟩,hs1.h0,hs1.new,hs1.frame,fun i hi hi2=>(by simp only [ρ0];rw [if_neg (by omega)];exact hs1.keep i hi hi2),hs1.nle⟩
  ·cases hm : s.ment d with
   |true=>rfl
   |false=>rw [AState.ment_slot hm] at hd;cases hd
  ·have hid : ρ0 id = ρ id:=by simp [ρ0,hc]
   rw [hid]
   refine (hs1.boxes.rep id c hc).mono H.le_refl (fun d hd=>hρ0 d ?_) (fun _ _ _=>rfl)
   cases hm : s.ment d with
   |true=>rfl
   |false=>rw [AState.ment_box hm hc] at hd;cases hd
  ·have hid : ρ0 id = ρ id:=by simp [ρ0,hc]
   rw [hid] at hb
   exact hs1.boxes.apart id c b cap hc hb
  ·have hid : ρ0 i = ρ i:=by simp [ρ0,hi]
   have hjd : ρ0 j = ρ j:=by simp [ρ0,hj]
   rw [hid] at hbi
   rw [hjd] at hbj
   exact hs1.boxes.inj i j ci cj bi capi capj hi hj hbi hbj
 have hno0 : ∀ (i : Nat) (o : Oper) (d : Nat),(l.take n)[i]? = some o → newOp o.op = true → o.dst = some d → ρ0 d = .no ∧ s.box d = none:=by
  intro i o d ho hn hd
  have:=newOK_spec hnew ho hn hd
  have hlt : d < 1000000:=Nat.lt_of_lt_of_le (hds o (List.mem_of_mem_take (List.mem_of_getElem? ho)) d hd) hs0.nle
  exact ⟨by simp [ρ0,this.1,this.2,hlt],this.2⟩
 have htk : ∀ (i : Nat) (o : Oper),(l.take n)[i]? = some o → l[i]? = some o ∧ i < n:=by
  intro i o h
  rw [List.getElem?_take] at h
  split at h
  ·exact ⟨h,by assumption⟩
  ·cases h
 have key : ∀ (f : Nat) (listed : Array Bool) (U : List Nat) (a : Act) (w : World) (H : Heap) (ρ : Rho) (sf : Nat → AV) (bf : Nat → Option Ct),U.Nodup → U.length ≤ f → listed.size = l.length →
  (∀ i,i ∈ U ↔ i < l.length ∧ listed.getD i true = false) → (∀ i,n ≤ i → i < l.length → listed.getD i true = false) →
  (∀ (j : Nat) (o : Oper),l[j]? = some o → listed.getD j true = true → ∀ e ∈ o.after,Region.binds .any e = true → listed.getD e.on true = true) →
  Sim E H ρ sf bf a w → Cur (l.take n) es s.slot s.box (fun i=>i < l.length ∧ listed.getD i true = true) sf bf →
  (∀ (i : Nat) (o : Oper) (d : Nat),(l.take n)[i]? = some o → listed.getD i true = false → newOp o.op = true → o.dst = some d → ρ d = .no ∧ bf d = none) →
  wpAny P .any l.toArray (post E Q) f listed a w:=by
  intro f
  induction f with
  |zero =>
   intro listed U a w H ρ sf bf hnd hU hsz hmem htail hcl hsim hcur hno
   have hU0 : U = []:=List.eq_nil_of_length_eq_zero (by omega)
   have hall : ∀ i,i < l.length → listed.getD i true = true:=by
    intro i hi
    cases hb : listed.getD i true with
    |true=>rfl
    |false=>have:=(hmem i).2 ⟨hi,hb⟩;rw [hU0] at this;cases this
   have hnl : l.length ≤ n:=by
    rcases Nat.lt_or_ge n l.length with h|h
    ·have h1:=hall n h
     rw [htail n (Nat.le_refl _) h] at h1
     cases h1
    ·exact h
   have htake : l.take n = l:=List.take_of_length_le hnl
   refine ⟨?_,?_⟩
   ·cases hr : Region.ready .any l.toArray listed with
    |nil=>rfl
    |cons i is =>
     have hi : i ∈ Region.ready .any l.toArray listed:=by rw [hr];simp
     obtain ⟨hun,o,ho,_⟩:=mem_ready.1 hi
     have ho' : l[i]? = some o:=by simpa using ho
     rw [hall i (List.getElem?_eq_some_iff.1 ho').1] at hun
     cases hun
   ·rw [htake] at hend hcur
    have hrk' : Q .normal s':=by
     rw [List.drop_of_length_le hnl] at hrk
     exact hrk
    refine ⟨s',H,ρ,hrk',?_⟩
    have e1 : sf = s'.slot:=by
     funext x
     by_cases hex : ∃ (i : Nat) (o' : Oper),l[i]? = some o' ∧ o'.dst = some x
     ·obtain ⟨i,o',ho',hd⟩:=hex
      have hil:=(List.getElem?_eq_some_iff.1 ho').1
      have hie : i < es.length:=by rw [hlen,htake];exact hil
      have he' : es[i]? = some es[i]:=List.getElem?_eq_getElem hie
      rw [hcur.s1 i o' _ x ho' he' ⟨hil,hall i hil⟩ hd,hend.s1 i o' _ x ho' he' hil hd]
     ·have hno' : ∀ (i : Nat) (o' : Oper),l[i]? = some o' → o'.dst ≠ some x:=fun i o' ho' hd=>hex ⟨i,o',ho',hd⟩
      rw [hcur.s0 x (fun i o' ho' _=>hno' i o' ho'),hend.s0 x (fun i o' ho' _=>hno' i o' ho')]
    have e2 : bf = s'.box:=by
     funext x
     by_cases hex : ∃ (i : Nat) (o' : Oper) (e' : Ev),l[i]? = some o' ∧ es[i]? = some e' ∧ e'.n ≠ none ∧ o'.dst = some x
     ·obtain ⟨i,o',e',ho',he',hn',hd⟩:=hex
      have hil:=(List.getElem?_eq_some_iff.1 ho').1
      cases hen : e'.n with
      |none=>exact absurd hen hn'
      |some c=>rw [hcur.b1 i o' e' x c ho' he' ⟨hil,hall i hil⟩ hd hen,hend.b1 i o' e' x c ho' he' hil hd hen]
     ·have hno' : ∀ (i : Nat) (o' : Oper) (e' : Ev),l[i]? = some o' → es[i]? = some e' → e'.n ≠ none → o'.dst ≠ some x:=fun i o' e' ho' he' hn' hd=>hex ⟨i,o',e',ho',he',hn',hd⟩
      rw [hcur.b0 x (fun i o' e' ho' he' _=>hno' i o' e' ho' he'),hend.b0 x (fun i o' e' ho' he' _=>hno' i o' e' ho' he')]
    rw [← e1,← e2]
    exact hsim
  |succ f ih =>
   intro listed U a w H ρ sf bf hnd hU hsz hmem htail hcl hsim hcur hno
   by_cases hdone : ∀ i,i < n → i < l.length → listed.getD i true = true
   ·
    have hnn : min n l.length ≤ l.length:=by omega
    have hli : ∀ i,i < l.length → listed.getD i true = decide (i < min n l.length):=by
     intro i hi
     by_cases hin : i < n
     ·rw [hdone i hin hi];simp;omega
     ·rw [htail i (by omega) hi];simp;omega
    have hUl : l.length - min n l.length ≤ f + 1:=by
     have hsub : (List.range' n (l.length - n)).length ≤ U.length:=by
      apply List.Nodup.length_le_of_subset List.nodup_range'
      intro i hi
      rw [List.mem_range'_1] at hi
      exact (hmem i).2 ⟨by omega,htail i hi.1 (by omega)⟩
     simp at hsub
     omega
    refine wpAny_tail (P:=P) (n:=min n l.length) hmk (fun t i h1 h2 h3=>htl1 t i (by omega) h2 h3) hbk (f + 1) (min n l.length) listed a w (Nat.le_refl _) hnn hUl hsz hli ?_
    have e1 : sf = s'.slot:=by
     funext x
     by_cases hex : ∃ (i : Nat) (o' : Oper),(l.take n)[i]? = some o' ∧ o'.dst = some x
     ·obtain ⟨i,o',ho',hd⟩:=hex
      have hil:=(htk i o' ho')
      have hie : i < es.length:=by rw [hlen];exact (List.getElem?_eq_some_iff.1 ho').1
      have hill:=(List.getElem?_eq_some_iff.1 hil.1).1
      have he' : es[i]? = some es[i]:=List.getElem?_eq_getElem hie
      rw [hcur.s1 i o' _ x ho' he' ⟨hill,hdone i hil.2 hill⟩ hd,hend.s1 i o' _ x ho' he' (List.getElem?_eq_some_iff.1 ho').1 hd]
     ·have hno' : ∀ (i : Nat) (o' : Oper),(l.take n)[i]? = some o' → o'.dst ≠ some x:=fun i o' ho' hd=>hex ⟨i,o',ho',hd⟩
      rw [hcur.s0 x (fun i o' ho' _=>hno' i o' ho'),hend.s0 x (fun i o' ho' _=>hno' i o' ho')]
    have e2 : bf = s'.box:=by
     funext x
     by_cases hex : ∃ (i : Nat) (o' : Oper) (e' : Ev),(l.take n)[i]? = some o' ∧ es[i]? = some e' ∧ e'.n ≠ none ∧ o'.dst = some x
     ·obtain ⟨i,o',e',ho',he',hn',hd⟩:=hex
      have hil:=(htk i o' ho')
      have hill:=(List.getElem?_eq_some_iff.1 hil.1).1
      cases hen : e'.n with
      |none=>exact absurd hen hn'
      |some c=>rw [hcur.b1 i o' e' x c ho' he' ⟨hill,hdone i hil.2 hill⟩ hd hen,hend.b1 i o' e' x c ho' he' (List.getElem?_eq_some_iff.1 ho').1 hd hen]
     ·have hno' : ∀ (i : Nat) (o' : Oper) (e' : Ev),(l.take n)[i]? = some o' → es[i]? = some e' → e'.n ≠ none → o'.dst ≠ some x:=fun i o' e' ho' he' hn' hd=>hex ⟨i,o',e',ho',he',hn',hd⟩
      rw [hcur.b0 x (fun i o' e' ho' he' _=>hno' i o' e' ho' he'),hend.b0 x (fun i o' e' ho' he' _=>hno' i o' e' ho' he')]
    have hdrop : l.drop (min n l.length) = l.drop n:=by
     rcases Nat.lt_or_ge n l.length with h|h
     ·rw [Nat.min_eq_left (by omega)]
     ·rw [Nat.min_eq_right h,List.drop_of_length_le h,List.drop_length]
    rw [hdrop]
    rw [e1,e2] at hsim
    exact RK_sound (P:=P) (fun o ho=>hds o (by simpa using ho)) (l.drop n) s' _ (fun o ho=>by simpa using List.mem_of_mem_drop ho) hrk hsim (fun s2 H2 ρ2 a2 w2 hk2 hs2=>⟨s2,H2,ρ2,hk2,hs2⟩)
   ·
    have hex : ∃ j,j < n ∧ j < l.length ∧ listed.getD j true = false:=by
     apply Classical.byContradiction
     intro hc
     apply hdone
     intro i h1 h2
     cases hb : listed.getD i true with
     |true=>rfl
     |false=>exact absurd ⟨i,h1,h2,hb⟩ hc
    have prep : ∀ (i : Nat) (o : Oper),l[i]? = some o → listed.getD i true = false → i < n → (∀ e ∈ o.after,Region.binds .any e = true → listed.getD e.on true = true) → (∀ k,(m.getD i 0).testBit k = true → (decide (k < l.length) && listed.getD k true) = true) →
     ∃ ev,es[i]? = some ev ∧ (l.take n)[i]? = some o ∧ evOK P l.toArray o sf bf ev ∧ (ev.n ≠ none → newOp o.op = true) ∧ (∀ t,o.dst = some t → t < E.n) ∧
       (∀ {a' : Act} {w' : World} {H' : Heap} {ρ' : Rho},Sim E H' ρ' (putF sf o.dst ev.x) (addF bf o.dst ev.n) a' w' →
         (∀ d,o.dst ≠ some d ∨ newOp o.op = false → ρ' d = ρ d) → wpAny P .any l.toArray (post E Q) f (listed.setIfInBounds i true) a' w'):=by
     intro i o ho' hun hin hall' hmask
     have hil:=(List.getElem?_eq_some_iff.1 ho').1
     have hot : (l.take n)[i]? = some o:=by rw [List.getElem?_take,if_pos hin];exact ho'
     have hie : i < es.length:=by rw [hlen];exact (List.getElem?_eq_some_iff.1 hot).1
     have hee : es[i]? = some es[i]:=List.getElem?_eq_getElem hie
     obtain ⟨sj,bj,hcj,hevj⟩:=hat i o es[i] (Nat.zero_le _) hot hee
     have hev:=head_op (P:=P) (ops:=l.toArray) hhd hot hee hcur hcj hevj (fun k hk=>by
      have:=hmask k hk
      simpa using this) (hlow i o ho') hlen hnews
     have hd:=hds o (List.mem_of_getElem? ho')
     have hU' : i ∈ U:=(hmem i).2 ⟨hil,hun⟩
     have next : ∀ {a' : Act} {w' : World} {H' : Heap} {ρ' : Rho},Sim E H' ρ' (putF sf o.dst (es[i]).x) (addF bf o.dst (es[i]).n) a' w' →
      (∀ d,o.dst ≠ some d ∨ newOp o.op = false → ρ' d = ρ d) → wpAny P .any l.toArray (post E Q) f (listed.setIfInBounds i true) a' w':=by
      intro a' w' H' ρ' hsim' hρ'
      have hset : ∀ j,(listed.setIfInBounds i true).getD j true = if i = j then true else listed.getD j true:=by
       intro j
       split
       ·rename_i e;subst e
        have : i < listed.size:=by omega
        simp [Array.getElem?_setIfInBounds_self_of_lt this]
       ·rename_i e;rw [getD_set_ne true e]
      refine ih (listed.setIfInBounds i true) (U.erase i) a' w' H' ρ' _ _ (hnd.erase i) (by rw [List.length_erase_of_mem hU'];omega) (by simpa using hsz) (fun j=>?_) (fun j hj hjl=>?_) (fun j o2 ho2 hl2 e he hb=>?_) hsim' ?_ (fun j o2 d ho2 hl2 hn2 hd2=>?_)
      ·rw [hnd.mem_erase_iff,hmem,hset]
       constructor
       ·rintro ⟨h1,h2,h3⟩
        exact ⟨h2,by rw [if_neg (Ne.symm h1)];exact h3⟩
       ·rintro ⟨h1,h2⟩
        split at h2
        ·cases h2
        ·rename_i e;exact ⟨Ne.symm e,h1,h2⟩
      ·rw [hset,if_neg (by omega)];exact htail j hj hjl
      ·rw [hset] at hl2 ⊢
       split
       ·rfl
       ·split at hl2
        ·rename_i e2;subst e2
         rw [ho'] at ho2;cases ho2
         exact hall' e he hb
        ·exact hcl j o2 ho2 hl2 e he hb
      ·have hstep:=hcur.step hap hot hee (fun hc=>by rw [hun] at hc;cases hc.2)
       have : (fun j=>(j < l.length ∧ listed.getD j true = true) ∨ j = i) = (fun j=>j < l.length ∧ (listed.setIfInBounds i true).getD j true = true):=by
        funext j
        apply propext
        rw [hset]
        constructor
        ·rintro (⟨h1,h2⟩|rfl)
         ·exact ⟨h1,by split;rfl;exact h2⟩
         ·exact ⟨hil,by rw [if_pos rfl]⟩
        ·rintro ⟨h1,h2⟩
         split at h2
         ·rename_i e;exact .inr e.symm
         ·exact .inl ⟨h1,h2⟩
       rw [this] at hstep
       exact hstep
      ·rw [hset] at hl2
       split at hl2
       ·cases hl2
       ·rename_i hne
        have hdn : o.dst ≠ some d:=fun hod=>hne (hap i j o o2 d hot ho2 hod hd2)
        obtain ⟨h1,h2⟩:=hno j o2 d ho2 hl2 hn2 hd2
        refine ⟨by rw [hρ' d (.inl hdn)];exact h1,?_⟩
        cases hod : o.dst with
        |none=>exact h2
        |some d' =>
         cases (es[i]).n with
         |none=>exact h2
         |some c =>
          simp only [addF]
          split
          ·rename_i e;subst e;exact absurd hod hdn
          ·exact h2
     refine ⟨es[i],hee,hot,hev,fun h=>hnews i o _ hot hee h,hd,next⟩
    by_cases hqt : ∃ p oi,l[p]? = some oi ∧ p < n ∧ oi.guard = none ∧ (match oi.op with|.move _=>true|_=>false) = true ∧ (∀ (j : Nat) (o : Oper) cs b,l.toArray[j]? = some o → o.op ≠ .select cs b) ∧
     (∀ e ∈ oi.after,Region.binds .any e = false) ∧ (∀ j oj,l[j]? = some oj → j ≠ p → (∀ e ∈ oj.after,Region.binds .any e = true → e.on ≠ p) → oi.apart l.toArray oj = true) ∧ listed.getD p true = false
    ·
     obtain ⟨p,oi,hoi,hpn,hgd,hop,hns,hnd2,hfree,hpun⟩:=hqt
     have hpl:=(List.getElem?_eq_some_iff.1 hoi).1
     have hpall : ∀ e ∈ oi.after,Region.binds .any e = true → listed.getD e.on true = true:=fun e he hb=>by rw [hnd2 e he] at hb;cases hb
     obtain ⟨ev,hev1,hot,hev,hnw,hd,next⟩:=prep p oi hoi hpun hpn hpall (fun k hk=>by
      obtain ⟨e,he,hb,_⟩:=masksOK_spec hmk hoi hk
      rw [hnd2 e he] at hb
      cases hb)
     unfold evOK at hev
     split at hev
     ·obtain ⟨hg,hq,hn,_⟩:=hev
      have hnone : ev.n = none:=by
       cases hen : ev.n with
       |none=>rfl
       |some c =>
        have:=hn (by rw [hen];simp)
        split at hop
        ·rename_i h0;rw [h0] at this;simp [newOp] at this
        ·cases hop
      have hyl : ∃ u,(∀ w,(execOp a.eval oi).run P w = .ok (.value u) w) ∧ Rep H ρ ev.x u:=by
       unfold qop at hq
       split at hop
       ·rename_i x h0
        rw [h0] at hq
        simp only at hq
        exact ⟨a.eval x,fun w=>by simp [execOp,h0],hq.1 ▸ hsim.eval x⟩
       ·cases hop
      obtain ⟨u,hu,hru⟩:=hyl
      have hw : Region.wanted oi (yielded l.toArray a.tmps) = true:=by simp [Region.wanted,hgd]
      have hsim2:=hsim.put hd hru
      have e0 : addF bf oi.dst ev.n = bf:=by rw [hnone];cases oi.dst <;> rfl
      refine wpAny_first (by simpa using hoi) hns (fun c a w h=>h) f listed a w ?_ ?_ (.inl ⟨hw,hu⟩) (next (by rw [e0];exact hsim2) (fun _ _=>rfl))
      ·intro j oj hj hjp hjun hno
       exact hfree j oj (by simpa using hj) hjp hno
      ·exact mem_ready.2 ⟨hpun,oi,by simpa using hoi,fun e he hb=>by rw [hnd2 e he] at hb;cases hb⟩
     ·obtain ⟨hg,_⟩:=hev
      unfold gOff at hg
      rw [hgd] at hg
      exact hg.elim
    by_cases hlt : ∃ p oi,l[p]? = some oi ∧ p < n ∧ oi.guard = none ∧ lateOp oi.op = true ∧ (∀ (j : Nat) (o : Oper) cs b,l.toArray[j]? = some o → o.op ≠ .select cs b) ∧
     (∀ j oj,l[j]? = some oj → n ≤ j → (∀ e ∈ oj.after,Region.binds .any e = true → e.on ≠ p) → oi.apart l.toArray oj = true) ∧ listed.getD p true = false ∧ ∀ j,j < n → j < l.length → j ≠ p → listed.getD j true = true
    ·
     obtain ⟨p,oi,hoi,hpn,hgd,hop,hns,hfree,hpun,hrest⟩:=hlt
     have hpl:=(List.getElem?_eq_some_iff.1 hoi).1
     have hpall : ∀ e ∈ oi.after,Region.binds .any e = true → listed.getD e.on true = true:=by
      intro e he hb
      have:=backOK_spec hbk hoi he hb
      exact hrest e.on (by omega) (by omega) (by omega)
     obtain ⟨ev,hev1,hot,hev,hnw,hd,next⟩:=prep p oi hoi hpun hpn hpall (fun k hk=>by
      have:=hlow p oi hoi k hk
      simp only [Bool.and_eq_true,decide_eq_true_eq]
      exact ⟨by omega,hrest k (by omega) (by omega) (by omega)⟩)
     unfold evOK at hev
     split at hev
     ·obtain ⟨hg,hq,hn,_⟩:=hev
      have hnone : ev.n = none:=by
       cases hen : ev.n with
       |none=>rfl
       |some c =>
        have:=hn (by rw [hen];simp)
        unfold lateOp at hop
        split at hop
        ·rename_i h0;rw [h0] at this;simp [newOp] at this
        ·rename_i h0;rw [h0] at this;simp [newOp] at this
        ·cases hop
      have hyl : ∃ u,(∀ w,(execOp a.eval oi).run P w = .ok (.value u) w) ∧ Rep H ρ ev.x u:=by
       unfold qop at hq
       unfold lateOp at hop
       split at hop
       ·rename_i tt ii h0
        rw [h0] at hq
        simp only at hq
        have ht:=hsim.eval (.tmp tt)
        split at hq
        ·rename_i xs hx
         rw [hx] at ht
         split at hq
         ·rename_i x hxi
          cases hv : a.eval (.tmp tt) with
          |tuple vs =>
           rw [hv] at ht
           cases ht with
           |tup hl hh =>
            rename_i vs
            obtain ⟨u,hu,hr⟩:=RepL.get ⟨hl,hh⟩ hxi
            exact ⟨u,fun w=>by simp [execOp,h0,Instr.extract,hv,hu],hq.1 ▸ hr⟩
          |_=>rw [hv] at ht;cases ht
         ·exact hq.elim
        ·exact hq.elim
       ·rename_i x h0
        rw [h0] at hq
        simp only at hq
        exact ⟨a.eval x,fun w=>by simp [execOp,h0],hq.1 ▸ hsim.eval x⟩
       ·cases hop
      obtain ⟨u,hu,hru⟩:=hyl
      have hw : Region.wanted oi (yielded l.toArray a.tmps) = true:=by simp [Region.wanted,hgd]
      have hsim2:=hsim.put hd hru
      have e0 : addF bf oi.dst ev.n = bf:=by rw [hnone];cases oi.dst <;> rfl
      refine wpAny_first (by simpa using hoi) hns (fun c a w h=>h) f listed a w ?_ ?_ (.inl ⟨hw,hu⟩) (next (by rw [e0];exact hsim2) (fun _ _=>rfl))
      ·intro j oj hj hjp hjun hno
       have hj' : l[j]? = some oj:=by simpa using hj
       refine hfree j oj hj' ?_ hno
       rcases Nat.lt_or_ge j n with h|h
       ·have:=hrest j h (List.getElem?_eq_some_iff.1 hj').1 hjp
        rw [hjun] at this;cases this
       ·exact h
      ·refine mem_ready.2 ⟨hpun,oi,by simpa using hoi,fun e he hb=>?_⟩
       have h5:=hpall e he hb
       have:=backOK_spec hbk hoi he hb
       have h6 : e.on < listed.size:=by omega
       simp only [Array.getD_eq_getD_getElem?,Array.getElem?_eq_getElem h6] at h5 ⊢
       exact h5
     ·obtain ⟨hg,_⟩:=hev
      unfold gOff at hg
      rw [hgd] at hg
      exact hg.elim
    have hexj : ∃ j,j < n ∧ j < l.length ∧ listed.getD j true = false ∧ ∀ t,n ≤ t → t < l.length → (m.getD t 0).testBit j = true:=by
     rcases hlate with h|⟨p,oi,hoi,hpn,hgd,hop,htb,hns,hfree⟩|⟨htb,hns⟩
     ·obtain ⟨j,h1,h2,h3⟩:=hex
      exact ⟨j,h1,h2,h3,fun t g1 g2=>h t j g1 g2 (by omega)⟩
     rotate_left
     ·obtain ⟨j,h1,h2,h3⟩:=hex
      refine ⟨j,h1,h2,h3,fun t g1 g2=>(htb t j g1 g2 (by omega)).resolve_left fun h4=>?_⟩
      have hoj : l[j]? = some l[j]:=List.getElem?_eq_getElem h2
      have hq:=h4.2
      unfold lateQ at hq
      rw [hoj] at hq
      simp only [Bool.and_eq_true,Option.isNone_iff_eq_none] at hq
      obtain ⟨⟨⟨q1,q2⟩,q3⟩,q4⟩:=hq
      refine hqt ⟨j,l[j],hoj,h1,q1,q2,hns,fun e he=>?_,fun k ok hk hkj hno=>?_,h3⟩
      ·have:=List.all_eq_true.1 q3 e (by simpa using he)
       simpa using this
      ·have:=List.all_eq_true.1 q4 k (List.mem_range.2 (List.getElem?_eq_some_iff.1 hk).1)
       simp only [hk,Bool.or_eq_true,beq_iff_eq] at this
       rcases this with h|h|h
       ·exact absurd h hkj
       ·obtain ⟨e,he,hb⟩:=List.any_eq_true.1 h
        simp only [Bool.and_eq_true,beq_iff_eq] at hb
        exact absurd hb.2 (hno e (by simpa using he) hb.1)
       ·exact h
     ·by_cases hj : ∃ j,j < n ∧ j < l.length ∧ j ≠ p ∧ listed.getD j true = false
      ·obtain ⟨j,h1,h2,h3,h4⟩:=hj
       exact ⟨j,h1,h2,h4,fun t g1 g2=>htb t j g1 g2 (by omega) h3⟩
      ·exfalso
       have hall : ∀ j,j < n → j < l.length → j ≠ p → listed.getD j true = true:=by
        intro j h1 h2 h3
        cases hb : listed.getD j true with
        |true=>rfl
        |false=>exact absurd ⟨j,h1,h2,h3,hb⟩ hj
       obtain ⟨j,h1,h2,h3⟩:=hex
       have hjp : j = p:=by
        apply Classical.byContradiction
        intro hne
        rw [hall j h1 h2 hne] at h3;cases h3
       subst hjp
       exact hlt ⟨j,oi,hoi,hpn,hgd,hop,hns,hfree,h3,hall⟩
    refine ⟨fun h0=>?_,fun i hi=>?_⟩
    ·exfalso
     have least : ∀ k,(∃ j,j ≤ k ∧ j < l.length ∧ listed.getD j true = false) → ∃ j,j < l.length ∧ listed.getD j true = false ∧ ∀ i,i < j → listed.getD i true = true:=by
      intro k
      induction k with
      |zero =>
       rintro ⟨j,h1,h2,h3⟩
       have : j = 0:=by omega
       subst this
       exact ⟨0,h2,h3,fun i hi=>by omega⟩
      |succ k ihk =>
       rintro ⟨j,h1,h2,h3⟩
       by_cases hlt : ∃ j,j ≤ k ∧ j < l.length ∧ listed.getD j true = false
       ·exact ihk hlt
       ·refine ⟨j,h2,h3,fun i hi=>?_⟩
        cases hb : listed.getD i true with
        |true=>rfl
        |false=>exact absurd ⟨i,by omega,by omega,hb⟩ hlt
     obtain ⟨j0,hj0,hj1,hj2⟩:=hex
     obtain ⟨j,h2,h3,h4⟩:=least j0 ⟨j0,Nat.le_refl _,hj1,hj2⟩
     have hoj : l[j]? = some l[j]:=List.getElem?_eq_getElem h2
     have : j ∈ Region.ready .any l.toArray listed:=mem_ready.2 ⟨h3,l[j],by simp,fun e he hb=>by
      have hlt:=backOK_spec hbk hoj he hb
      have h5:=h4 e.on hlt
      have h6 : e.on < listed.size:=by omega
      simp only [Array.getD_eq_getD_getElem?,Array.getElem?_eq_getElem h6] at h5 ⊢
      exact h5⟩
     rw [h0] at this
     cases this
    ·obtain ⟨hun,o,ho,hall⟩:=mem_ready.1 hi
     have ho' : l[i]? = some o:=by simpa using ho
     have hil:=(List.getElem?_eq_some_iff.1 ho').1
     have hall' : ∀ e ∈ o.after,Region.binds .any e = true → listed.getD e.on true = true:=by
      intro e he hb
      have h1:=hall e he hb
      have h2:=backOK_spec hbk ho' he hb
      have h6 : e.on < listed.size:=by omega
      simp only [Array.getD_eq_getD_getElem?,Array.getElem?_eq_getElem h6] at h1 ⊢
      exact h1
     have hmask:=mask_listed hmk (listed:=fun j=>decide (j < l.length) && listed.getD j true) (fun j o hj hl e he hb=>by
      simp only [Bool.and_eq_true,decide_eq_true_eq] at hl ⊢
      have:=backOK_spec hbk hj he hb
      exact ⟨by omega,hcl j o hj hl.2 e he hb⟩) (fun j hj=>by simp only [Bool.and_eq_true,decide_eq_true_eq] at hj;exact hj.1) i o ho' (fun e he hb=>by
      simp only [Bool.and_eq_true,decide_eq_true_eq]
      have:=backOK_spec hbk ho' he hb
      exact ⟨by omega,hall' e he hb⟩)
     have hin : i < n:=by
      rcases Nat.lt_or_ge i n with h|h
      ·exact h
      ·exfalso
       obtain ⟨j,hj1,hj2,hj3,hj4⟩:=hexj
       have:=hmask j (hj4 i h hil)
       simp only [Bool.and_eq_true,decide_eq_true_eq] at this
       rw [hj3] at this
       cases this.2
     obtain ⟨ev,hee,hot,hev,hnw,hd,next⟩:=prep i o ho' hun hin hall' (fun k hk=>by have:=hmask k hk;simpa using this)
     unfold wpOp
     simp only [ho]
     unfold evOK at hev
     split at hev
     ·obtain ⟨hg,hq,hn,_⟩:=hev
      rw [if_pos (wanted_on hsim hg)]
      refine .inl ?_
      have hfr2 : newOp o.op = true → ∀ d,o.dst = some d → ρ d = .no:=fun hn2 d hd2=>(hno i o d hot hun hn2 hd2).1
      refine Oper.wp_mono ?_ (qop_sound (Q:=post E Q) (fun x _=>hsim.eval x) hsim.ext hsim.boxes.rep (fun hn2 d hd2 x _=>(hsim.eval x).noment (hfr2 hn2 d hd2)) hq)
      intro a' w' hqp
      obtain ⟨x,n',H',ρ',⟨hx,hn'⟩,hρ',hsim'⟩:=hsim.quiet2 hd (fun x c hxc t ht=>by
       have hnw : newOp o.op = true:=hn (by rw [← hxc.2];simp)
       have h0:=hfr2 hnw t ht
       exact ⟨fun j=>(hsim.slots j).noment h0,fun id c hc=>(hsim.boxes.rep id c hc).noment h0⟩) hqp
      rw [hx,hn'] at hsim'
      refine next hsim' (fun d hd'=>hρ' d ?_)
      rcases hd' with hd'|hd'
      ·exact .inr hd'
      ·left
       rw [hn']
       cases hen : ev.n with
       |none=>rfl
       |some c=>have:=hn (by rw [hen];simp);rw [hd'] at this;cases this
     ·obtain ⟨hg,hx,hn,_⟩:=hev
      rw [if_neg (by rw [wanted_off hsim hg];simp)]
      refine next (H':=H) (ρ':=ρ) ?_ (fun _ _=>rfl)
      rw [hx,hn]
      have : addF bf o.dst none = bf:=by cases o.dst <;> rfl
      rw [this]
      exact hsim.put hd Rep.undef
 have hrep : ∀ i,i < l.length → (Array.replicate l.toArray.size false).getD i true = false:=fun i hi=>by simp [Array.getElem?_replicate,hi]
 refine key l.toArray.size (Array.replicate l.toArray.size false) (List.range l.length) a _ H ρ0 s.slot s.box List.nodup_range (by simp) (by simp) (fun i=>?_) (fun i _ hi=>hrep i hi) (fun j o ho hl=>?_) hs
  ⟨fun i o e d ho he h=>?_,fun _ _=>rfl,fun i o e d c ho he h=>?_,fun _ _=>rfl⟩ (fun i o d ho _ hn hd=>hno0 i o d ho hn hd)
 ·rw [List.mem_range]
  exact ⟨fun h=>⟨h,hrep i h⟩,fun h=>h.1⟩
 ·rw [hrep j (List.getElem?_eq_some_iff.1 ho).1] at hl;cases hl
 ·rw [hrep i h.1] at h;cases h.2
 ·rw [hrep i h.1] at h;cases h.2
theorem AW_draw {s : AState} {Q : AExit → AState → Prop} {id : Nat} {l : List Oper} (n : Nat) (hm : P.follows .mixedOrders = true) (hdst : dstOK E.n l = true) (hnew : newOK (l.take n) s = true)
 (h : RKQ P l.toArray (l.take n) s [] (fun s' fps=>drawOK l n fps = true ∧ RK P E l.toArray (l.drop n) s' (Q .normal))) : AW P E (.region id l.toArray true) s Q :=
 fun H ρ a w hs=>wpR_region_any hm (dstOK_ndA hdst) not_letsOut (draw_any n hdst hnew h H ρ a w hs)
end
end Go.Am
end
section
namespace Go.Am
open Go.RowKit
def argSlots : Nat → List AV → List (Nat × AV)
 |_,[]=>[]
 |k,x :: xs=>(k,x) :: argSlots (k + 1) xs
theorem argSlots_lk : ∀ {args : List AV} {k i : Nat},lk (argSlots k args) i = if k ≤ i then args[i - k]? else none
 |[],k,i=>by simp [argSlots,lk]
 |x :: xs,k,i=>by
  simp only [argSlots,lk]
  by_cases h : k = i
  ·subst h;simp
  ·rw [if_neg h,argSlots_lk]
   by_cases h2 : k ≤ i
   ·have h3 : k + 1 ≤ i:=by omega
    rw [if_pos h2,if_pos h3,show i - k = (i - (k + 1)) + 1 by omega,List.getElem?_cons_succ]
   ·rw [if_neg h2,if_neg (by omega)]
def retK (P : Program) : List ResultVar → AState → (List AV → Prop) → Prop
 |[],_,K=>K []
 |.tmp t :: rs,s,K=>retK P rs s (fun xs=>K (s.slot t :: xs))
 |.cell a T :: rs,s,K=>qload P T (s.slot a) (lkA s.box (s.slot a)) (fun x=>retK P rs s (fun xs=>K (x :: xs)))
def tupAV : List AV → AV
 |[x]=>x
 |xs=>.tup xs
section
variable {P : Program}
theorem loadVar_of {T : TypeId} {v u : Value} {w : World} {H : Heap} {ρ : Rho} {p : AV} {c : Option Ct} {cont : AV → Prop} (hr : Rep H ρ p v) (hq : qload P T p c cont) (h : (Instr.loadAt T v).run P w = .ok u w) :
 (do loadVar T (← asAddr v) : Sem Value).run P w = .ok u w:=by
 have hv : ∃ a,v = .pointer (some a):=by
  obtain ⟨_,hq⟩:=hq
  cases hr <;> first
   |exact ⟨_,rfl⟩
   |exact hq.elim
 obtain ⟨a,rfl⟩:=hv
 exact h
def resOne (tmps : Array Value) : ResultVar → Sem Value
 |.tmp t=>pure (tmps.getD t undef)
 |.cell a t=>do loadVar t (← asAddr (tmps.getD a undef))
theorem retK_run {E : Env} {H : Heap} {ρ : Rho} {s : AState} {a : Act} {w : World} (hs : Sim E H ρ s.slot s.box a w) : ∀ {rs : List ResultVar} {K : List AV → Prop},retK P rs s K →
 ∃ xs vs,K xs ∧ RepL H ρ xs vs ∧ (rs.mapM (resOne a.tmps)).run P w = .ok vs w
 |[],K,h=>⟨[],[],h,RepL.nil,rfl⟩
 |.tmp t :: rs,K,h=>by
  obtain ⟨xs,vs,hk,hr,hrun⟩:=retK_run hs (rs:=rs) h
  refine ⟨_,_,hk,RepL.cons (hs.slots t) hr,?_⟩
  simp only [List.mapM_cons,Sem.run_bind,resOne,Sem.run_pure,Result.andThen_ok,hrun]
 |.cell b T :: rs,K,h=>by
  simp only [retK] at h
  obtain ⟨x,u,hk,hr,hrun⟩:=qload_sound (P:=P) (hs.slots b) hs.ext hs.boxes.rep h
  obtain ⟨xs,vs,hk2,hr2,hrun2⟩:=retK_run hs (rs:=rs) hk
  refine ⟨_,_,hk2,RepL.cons hr hr2,?_⟩
  have:=loadVar_of (P:=P) (hs.slots b) h hrun
  simp only [List.mapM_cons,Sem.run_bind,resOne,Sem.run_pure,Result.andThen_ok]
  simp only [Sem.run_bind] at this
  simp only [this,Result.andThen_ok,hrun2]
theorem results_run {fn : Func} {tmps : Array Value} {vs : List Value} {w : World} (h : (fn.results.toList.mapM (resOne tmps)).run P w = .ok vs w) :
 (results fn tmps).run P w = .ok (if h : vs.length = 1 then vs[0] else .tuple vs.toArray) w:=by
 have e : results fn tmps = (fn.results.mapM (resOne tmps) >>= fun vs=>pure (if h : vs.size = 1 then vs[0] else .tuple vs)):=by
  unfold results
  congr 1
 have e2 : fn.results = fn.results.toList.toArray:=by simp
 rw [e,e2,List.mapM_toArray]
 simp only [map_eq_pure_bind,Sem.run_bind,h,Sem.run_pure,Result.andThen_ok]
 simp
theorem tup_rep {H : Heap} {ρ : Rho} {xs : List AV} {vs : List Value} (h : RepL H ρ xs vs) : Rep H ρ (tupAV xs) (if h : vs.length = 1 then vs[0] else .tuple vs.toArray):=by
 have hl:=h.1
 match xs,vs,h with
 |[],[],h=>exact .tup hl h.2
 |[x],[v],h=>exact h.2 0 x v rfl rfl
 |x :: y :: xs,a :: b :: vs,h =>
  rw [dif_neg (by simp)]
  exact .tup hl h.2
 |[],_ :: _,_=>simp at hl
 |[_],[],_=>simp at hl
 |[_],_ :: _ :: _,_=>simp at hl
 |_ :: _ :: _,[],_=>simp at hl
 |_ :: _ :: _,[_],_=>simp at hl
def retQ (P : Program) (fn : Func) (K : AV → AState → Prop) : AExit → AState → Prop
 |.exit _,_=>False
 |_,s=>retK P fn.results.toList s (fun xs=>K (tupAV xs) s)
theorem view_rep2 {H G : Heap} {ρ : Rho} {w : World} {bf : Nat → Option Ct} {x d : AV} {v : Value} (hv : View bf x d) (hr : Rep H ρ x v) (hb : ∀ id c,bf id = some c → CtRep H ρ w (ρ id) c)
 (hG : H.le G) (hB : ∀ id c b cap,bf id = some c → ρ id = .at b cap → ∀ o u,w.cell? ⟨b,o,none⟩ = some u → G b o = some u) : Rep G rho0 d v:=by
 have lift : ∀ {cs : List AV} {vs : List Value},RepL H ρ cs vs → idfL cs = true → ∀ (i : Nat) (c : AV) (u : Value),cs[i]? = some c → vs[i]? = some u → Rep G (fun _=>Bd.no) c u:=by
  intro cs vs hrl hi i c u hc hu
  exact ((hrl.2 i c u hc hu).mono hG).idf (idf_of_mem hi hc)
 rcases hv with ⟨rfl,hi⟩|⟨id,k,off,n,T,xs,rfl,hbf,hn,rfl,hi⟩|⟨id,n,T,y,rfl,hbf,hn,rfl,hi⟩|⟨id,T,y,rfl,hbf,rfl,hi⟩|⟨k,n,c,rfl,rfl,rfl⟩
 ·exact (hr.mono hG).idf hi
 ·rcases hb _ _ hbf with ⟨hnil,hxs⟩|⟨b',cap',cur,hbd,hheap,hmax,hcap,hsz,hrep,hall⟩
  ·subst hxs
   cases hr with
   |ownNil=>simpa using Rep.slNil
   |own hρ=>rw [hnil] at hρ;cases hρ
  ·cases hr with
   |ownNil hρ=>rw [hbd] at hρ;cases hρ
   |own hρ hn' hm =>
    rename_i cc b cap
    obtain ⟨rfl,rfl⟩:=rho_at hρ hbd
    have hlen : ((xs.drop off).take n).length = n:=by simp;omega
    have main : ∀ (i j : Nat) (x c : AV),((xs.drop off).take n)[i]? = some x → x.cells[j]? = some c → ∃ u,w.cell? ⟨b,off * k + i * k + j,none⟩ = some u ∧ Rep G (fun _=>Bd.no) c u:=by
     intro i j x c hx hc
     have hx' : xs[off + i]? = some x:=by
      rw [List.getElem?_take] at hx
      split at hx
      ·simpa [List.getElem?_drop] using hx
      ·cases hx
     have hseg:=(hrep.drop ((off + i) * k)).take k
     rw [flat_get (fun x hx=>(hall x hx).1) hx'] at hseg
     obtain ⟨u,hu,hru⟩:=hseg.get hc
     refine ⟨u,?_,?_⟩
     ·rw [cell_of_row w b _ _ _ _ hheap]
      rw [List.getElem?_take] at hu
      split at hu
      ·rw [List.getElem?_drop,List.getElem?_take] at hu
       split at hu
       ·rw [← hu,← Nat.add_mul];simp
       ·cases hu
      ·cases hu
     ·have hix : x.idf = true:=idf_of_mem hi hx
      have hic : c.idf = true:=by
       cases x with
       |st cs=>exact idf_of_mem (cs:=cs) (by simpa only [AV.idf] using hix) hc
       |_ =>
        simp only [AV.cells] at hc
        cases j with
        |zero=>simp at hc;subst hc;exact hix
        |succ j=>simp at hc
      exact (hru.mono hG).idf hic
    have hgoal : Rep G rho0 (.sl k ((xs.drop off).take n)) (.slice (some ⟨b,off * k,none⟩) ((xs.drop off).take n).length cc):=by
     refine Rep.sl (fun i j=>(w.cell? ⟨b,off * k + i * k + j,none⟩).getD undef) (by omega) (by omega) (fun x hx=>(hall x (mem_drop_take hx)).1) (fun x hx=>(hall x (mem_drop_take hx)).2) ?_ ?_
     ·intro i j x c hx hc
      obtain ⟨u,hu,_⟩:=main i j x c hx hc
      rw [hB _ _ _ _ hbf hbd _ _ hu]
      simp [hu]
     ·intro i j x c hx hc
      obtain ⟨u,hu,hru⟩:=main i j x c hx hc
      simpa [hu] using hru
    rw [hlen] at hgoal
    exact hgoal
 ·obtain ⟨b',cap',vs,hbd,hheap,hrep,hone,hcap⟩:=hb _ _ hbf
  cases hr with
  |ownNil hρ=>rw [hbd] at hρ;cases hρ
  |own hρ hn' hm =>
   rename_i cc b cap
   obtain ⟨rfl,rfl⟩:=rho_at hρ hbd
   have hgoal : Rep G rho0 (.sl 1 y.cells) (.slice (some ⟨b,0 * 1,none⟩) y.cells.length cc):=by
    have hc1 : ∀ x ∈ y.cells,x.cells = [x]:=fun x hx=>AV.one_cells (hone x hx)
    refine Rep.sl (fun i j=>(vs[i]?).getD undef) (by omega) (by omega) (fun x hx=>by rw [hc1 x hx];rfl) (fun x hx c hc=>by rw [hc1 x hx] at hc;simp at hc;subst hc;exact hone _ hx) ?_ ?_
    ·intro i j x c hx hc
     have hxm:=List.mem_of_getElem? hx
     rw [hc1 x hxm] at hc
     cases j with
     |succ j=>simp at hc
     |zero =>
      obtain ⟨u,hu,_⟩:=hrep.get hx
      have hcell : w.cell? ⟨b,i,none⟩ = some u:=by rw [cell_of_row w b _ _ _ _ hheap];simpa using hu
      have:=hB _ _ _ _ hbf hbd _ _ hcell
      simp [this,hu]
    ·intro i j x c hx hc
     have hxm:=List.mem_of_getElem? hx
     rw [hc1 x hxm] at hc
     cases j with
     |succ j=>simp at hc
     |zero =>
      simp at hc
      subst hc
      obtain ⟨u,hu,_⟩:=hrep.get hx
      simpa [hu] using lift hrep hi i _ u hx hu
   rw [← hn] at hgoal
   simpa using hgoal
 ·obtain ⟨b',cap',vs,hbd,hheap,hrep,hone,hcap⟩:=hb _ _ hbf
  cases hr with
  |loc hρ =>
   rename_i b cap
   obtain ⟨rfl,rfl⟩:=rho_at hρ hbd
   have hic : idfL y.cells = true:=by
    cases y with
    |st cs=>simpa only [AV.idf,AV.cells] using hi
    |_=>simp only [AV.cells,idfL,Bool.and_true];exact hi
   refine Rep.ep (fun j=>(vs[j]?).getD undef) hone ?_ ?_
   ·intro j c hc
    obtain ⟨u,hu,_⟩:=hrep.get hc
    have hcell : w.cell? ⟨b,j,none⟩ = some u:=by rw [cell_of_row w b _ _ _ _ hheap];simpa using hu
    have:=hB _ _ _ _ hbf hbd _ _ hcell
    simp [this,hu]
   ·intro j c hc
    obtain ⟨u,hu,_⟩:=hrep.get hc
    simpa [hu] using lift hrep hic j c u hc hu
 ·rw [hr.v_inv];exact .slNil
theorem Sim.unmark {E : Env} {H : Heap} {ρ : Rho} {sf : Nat → AV} {bf : Nat → Option Ct} {a : Act} {w : World} (h : Sim E H ρ sf bf a w) {d : Deferred} {ds : List Deferred} (hd : a.defers = d :: ds) :
 ∃ D w',d.target = .collected D ∧ (Instr.takeDeferred D).run P w = .ok [] w' ∧ Sim E H ρ sf bf { a with defers:=ds } w':=by
 obtain ⟨Ds,h1,h2,h3⟩:=h.defers
 cases Ds with
 |nil=>rw [hd] at h1;cases h1
 |cons D Ds =>
  rw [hd] at h1
  simp only [List.map_cons,List.cons.injEq] at h1
  obtain ⟨rfl,rfl⟩:=h1
  obtain ⟨hB,hD⟩:=h3 D (by simp)
  have hlt:=(Array.getElem?_eq_some_iff.1 hD).1
  have hoth : ∀ k,k ≠ D → (w.putObj D (.deferred none)).heap[k]? = w.heap[k]?:=fun k hk=>World.putObj_heap_other hk
  refine ⟨D,w.putObj D (.deferred none),rfl,run_takeDeferred hD,⟨fun b o v hv=>?_,h.slots,h.size,⟨Ds,rfl,(List.nodup_cons.1 h2).2,fun D' hD'=>?_⟩,⟨fun id c hc=>?_,fun id c b cap hc hb=>?_,h.boxes.inj⟩,h.h0,h.new,?_,h.keep,h.nle⟩⟩
  ·have h0:=h.ext b o v hv
   rw [World.cell?_of_block (w:=w) (a:=⟨b,o,none⟩) (hoth b (by
    rintro rfl
    simp [World.cell?,hD] at h0))]
   exact h0
  ·obtain ⟨h4,h5⟩:=h3 D' (List.mem_cons_of_mem _ hD')
   exact ⟨h4,(hoth D' (by rintro rfl;exact (List.nodup_cons.1 h2).1 hD')).trans h5⟩
  ·exact (h.boxes.rep id c hc).mono H.le_refl (fun _ _=>rfl) (fun b cap hb=>hoth b (by rintro rfl;exact h.noDef hc hb hD))
  ·obtain ⟨g1,g2,g3⟩:=h.boxes.apart id c b cap hc hb
   exact ⟨g1,by simpa using g2,g3⟩
  ·refine ⟨h.frame.os,h.frame.tape,h.frame.output,by simpa using h.frame.size,fun k hk hm=>?_⟩
   rw [hoth k (by omega)]
   exact h.frame.block k hk hm
theorem leaves_of {E : Env} {H : Heap} {ρ : Rho} {sf : Nat → AV} {bf : Nat → Option Ct} {fn : Func} {R : Ending → World → Prop} : ∀ (ds : List Deferred) (a : Act) (w : World),a.defers = ds → Sim E H ρ sf bf a w →
 (∀ a' w',a'.tmps = a.tmps → Sim E H ρ sf bf a' w' → ∃ v,(results fn a'.tmps).run P w' = .ok v w' ∧ R (.returned v) w') → LeavesInM (fenceR none) 0 P fn a.tmps R ds .returning w
 |[],a,w,hd,hs,hk=>hk a w rfl hs
 |d :: ds,a,w,hd,hs,hk=>by
  obtain ⟨D,w',h1,h2,h3⟩:=hs.unmark (P:=P) hd
  exact ⟨by simp,.inl ⟨D,w',h1,h2,leaves_of ds { a with defers:=ds } w' rfl h3 hk⟩⟩
theorem entry {f : FuncId} {fn : Func} {c : Code} {H : Heap} {ρ : Rho} {w : World} {args : List AV} {bx : List (Nat × Ct)} {vs : List Value} {R : Ending → World → Prop}
 (hf : P.funcs[f]? = some fn) (hb : fn.body = some c) (he : Ext H w) (hbx : Boxes H ρ (lk bx) w (fun _=>True)) (hr : RepL H ρ args vs) (hn : args.length ≤ fn.ntmps) (hnl : fn.ntmps ≤ 1000000)
 (K : AV → AState → Prop) (haw : AW P ⟨w,H,OwnB ρ (lk bx),fn.ntmps,ρ,none⟩ c ⟨argSlots 0 args,bx⟩ (retQ P fn K))
 (hk : ∀ x s H' ρ' a' w' v,K x s → Sim ⟨w,H,OwnB ρ (lk bx),fn.ntmps,ρ,none⟩ H' ρ' s.slot s.box a' w' → Rep H' ρ' x v → R (.returned v) w') : Calls P f vs.toArray w R:=by
 refine callsIn_R.1 (callsIn_of_wp_marks (F:=fenceR none) (n:=0) hf hb trivial ?_)
 have hs : Sim ⟨w,H,OwnB ρ (lk bx),fn.ntmps,ρ,none⟩ H ρ (AState.mk (argSlots 0 args) bx).slot (AState.mk (argSlots 0 args) bx).box { tmps:=vs.toArray ++ Array.replicate (fn.ntmps - vs.toArray.size) undef,defers:=[] } w:=by
  refine ⟨he,fun i=>?_,?_,DefOK.nil,⟨hbx.rep,fun id c b cap hc hb=>⟨(hbx.apart id c b cap hc hb).1,(hbx.apart id c b cap hc hb).2.1,.inr ⟨id,c,cap,hc,hb⟩⟩,hbx.inj⟩,H.le_refl,fun b o v h h'=>(by rw [show H b o = none from h'] at h;cases h),FrameBut.refl _ _,fun _ _ _=>rfl,hnl⟩
  ·show Rep H ρ ((lk (argSlots 0 args) i).getD .u) _
   rw [argSlots_lk]
   simp only [Nat.zero_le,if_true,Nat.sub_zero]
   cases hx : args[i]? with
   |none=>exact .u
   |some x =>
    obtain ⟨u,hu,hru⟩:=hr.get hx
    have hi : i < vs.length:=(List.getElem?_eq_some_iff.1 hu).1
    have : (vs.toArray ++ Array.replicate (fn.ntmps - vs.toArray.size) undef).getD i undef = u:=by
     rw [Array.getD_eq_getD_getElem?,Array.getElem?_append_left (by simpa using hi)]
     simp [hu]
    simp only [Option.getD_some]
    rw [this]
    exact hru
  ·have:=hr.1
   simp
   omega
 refine wpIn_mono (haw H ρ _ w hs) ?_
 have fin : ∀ s H' ρ' a w',retK P fn.results.toList s (fun xs=>K (tupAV xs) s) → Sim ⟨w,H,OwnB ρ (lk bx),fn.ntmps,ρ,none⟩ H' ρ' s.slot s.box a w' → LeavesInM (fenceR none) 0 P fn a.tmps R a.defers .returning w':=by
  intro s H' ρ' a w' hq hs'
  refine leaves_of _ a w' rfl hs' ?_
  intro a' w' _ hs'
  obtain ⟨xs,us,hkx,hru,hrun⟩:=retK_run hs' hq
  exact ⟨_,results_run hrun,hk _ s H' ρ' a' w' _ hkx hs' (tup_rep hru)⟩
 intro e a w' hp
 cases e <;> simp only [post,bodyPostM] at hp ⊢
 ·obtain ⟨s,H',ρ',hq,hs'⟩:=hp
  exact fin s H' ρ' a w' hq hs'
 ·obtain ⟨s,H',ρ',hq,_⟩:=hp
  exact hq.elim
 ·obtain ⟨s,H',ρ',hq,hs'⟩:=hp
  exact fin s H' ρ' a w' hq hs'
def thaw (H : Heap) (n : Nat) (w : World) : Heap:=fun b o=>if (H b o).isSome then H b o else if n ≤ b then w.cell? ⟨b,o,none⟩ else none
theorem PSpec_of {f : FuncId} {fn : Func} {c : Code} {args : List AV} {res : AV} (hf : P.funcs[f]? = some fn) (hb : fn.body = some c) (hname : (fn.name == "runtime.NumGoroutine") = false) (hn : args.length ≤ fn.ntmps) (hnl : fn.ntmps ≤ 1000000)
 (h : ∀ E : Env,E.n = fn.ntmps → AW P E c ⟨argSlots 0 args,[]⟩ (retQ P fn (fun x s=>View s.box x res))) : PSpec P f args res:=by
 refine ⟨ent_of hf hname hb,fun H w vs he hr=>?_⟩
 refine entry (P:=P) (bx:=[]) hf hb he ⟨fun id c hc=>by simp [lk] at hc,fun id c b cap hc=>by simp [lk] at hc,fun id id' c c' b cap cap' hc=>by simp [lk] at hc⟩ hr hn hnl _ (h _ rfl) ?_
 intro x s H' ρ' a' w' v hv hs hrx
 have hno : ∀ b,¬ OwnB rho0 (lk ([] : List (Nat × Ct))) b:=by rintro b ⟨id,c,cap,hc,_⟩;simp [lk] at hc
 have hmine : ∀ b,(Env.mine ⟨w,H,OwnB rho0 (lk []),fn.ntmps,rho0,none⟩ b) → w.heap.size ≤ b:=by
  rintro b (h|h)
  ·exact h
  ·exact (hno b h).elim
 have hle : H'.le (thaw H' w.heap.size w'):=fun b o u hu=>by simp [thaw,hu]
 refine ⟨thaw H' w.heap.size w',v,rfl,fun b o u hu=>hle _ _ _ (hs.h0 b o u hu),?_,?_,?_,?_⟩
 ·intro b o u hu hu0
  simp only [thaw] at hu
  split at hu
  ·exact hmine b (hs.new b o u hu hu0)
  ·split at hu
   ·assumption
   ·cases hu
 ·intro b o u hu
  simp only [thaw] at hu
  split at hu
  ·exact hs.ext b o u hu
  ·split at hu
   ·exact hu
   ·cases hu
 ·refine view_rep2 hv hrx hs.boxes.rep hle ?_
  intro id c b cap hc hbd o u hu
  have h1:=hs.boxes.apart id c b cap hc hbd
  simp [thaw,h1.1 o,hmine b h1.2.2,hu]
 ·refine FrameBut.below ⟨hs.frame.os,hs.frame.tape,hs.frame.output,hs.frame.size,fun k hk _=>hs.frame.block k hk (hno k)⟩
def MOut (P : Program) (fn : Func) (R : AV → (Nat → Option Ct) → Prop) : AExit → AState → Prop:=retQ P fn (fun x s=>R x s.box)
theorem MSpec_of {f : FuncId} {fn : Func} {c : Code} {args : List AV} {bx : List (Nat × Ct)} {R : AV → (Nat → Option Ct) → Prop} (hf : P.funcs[f]? = some fn) (hb : fn.body = some c) (hname : (fn.name == "runtime.NumGoroutine") = false) (hn : args.length ≤ fn.ntmps) (hnl : fn.ntmps ≤ 1000000)
 (h : ∀ E : Env,E.n = fn.ntmps → AW P E c ⟨argSlots 0 args,bx⟩ (MOut P fn R)) : MSpec P f args bx R:=by
 refine ⟨ent_of hf hname hb,fun H ρ w vs he hbx hr=>?_⟩
 refine entry (P:=P) hf hb he hbx hr hn hnl _ (h _ rfl) ?_
 intro x s H' ρ' a' w' v hv hs hrx
 exact ⟨H',ρ',x,s.box,v,rfl,hv,hs.h0,hs.new,hs.ext,hs.boxes,hrx,hs.frame,hs.keep⟩
end
end Go.Am
end
section
namespace Go.Am
open Go.RowKit
mutual
def AV.ren (σ : Nat → Nat) : AV → AV
 |.v x=>.v x
 |.st cs=>.st (renL σ cs)
 |.sl k xs=>.sl k xs
 |.ep x=>.ep x
 |.own id k off n=>.own (σ id) k off n
 |.loc id off=>.loc (σ id) off
 |.eloc id k i off=>.eloc (σ id) k i off
 |.mp id=>.mp (σ id)
 |.fn f a b=>.fn f (renL σ a) (renL σ b)
 |.tup vs=>.tup (renL σ vs)
 |.ifc t x=>.ifc t (x.ren σ)
 |.w=>.w
 |.u=>.u
def renL (σ : Nat → Nat) : List AV → List AV
 |[]=>[]
 |c :: cs=>c.ren σ :: renL σ cs
end
theorem renL_map (σ : Nat → Nat) : ∀ cs : List AV,renL σ cs = cs.map (AV.ren σ)
 |[]=>rfl
 |c :: cs=>by simp [renL,renL_map σ cs]
mutual
def AV.ids : AV → List Nat
 |.st cs=>idsA cs
 |.own id _ _ _=>[id]
 |.loc id _=>[id]
 |.eloc id _ _ _=>[id]
 |.mp id=>[id]
 |.fn _ a b=>idsA a ++ idsA b
 |.tup vs=>idsA vs
 |.ifc _ x=>x.ids
 |_=>[]
def idsA : List AV → List Nat
 |[]=>[]
 |c :: cs=>c.ids ++ idsA cs
end
theorem idsA_mem {cs : List AV} {i : Nat} {c : AV} {d : Nat} (h : cs[i]? = some c) (hd : d ∈ c.ids) : d ∈ idsA cs:=by
 induction cs generalizing i with
 |nil=>simp at h
 |cons x cs ih =>
  simp only [idsA,List.mem_append]
  cases i with
  |zero=>simp at h;subst h;exact .inl hd
  |succ i=>exact .inr (ih (by simpa using h))
theorem ren_one (σ : Nat → Nat) (x : AV) : (x.ren σ).one = x.one:=by cases x <;> rfl
theorem ren_cells (σ : Nat → Nat) (x : AV) : (x.ren σ).cells = x.cells.map (AV.ren σ):=by
 cases x <;> simp [AV.ren,AV.cells,renL_map]
theorem Rep.ren {H : Heap} {ρ : Rho} {x : AV} {v : Value} (h : Rep H ρ x v) : ∀ {σ : Nat → Nat} {ρ' : Rho},(∀ d ∈ x.ids,ρ' (σ d) = ρ d) → Rep H ρ' (x.ren σ) v:=by
 induction h with
 |v h=>intro _ _ _;exact .v h
 |st hl h1 _ ih =>
  intro σ ρ' hr
  simp only [AV.ren,renL_map]
  refine .st (by simpa using hl) (by simpa [ren_one] using h1) (fun i c u hc hu=>?_)
  rw [List.getElem?_map,Option.map_eq_some_iff] at hc
  obtain ⟨c0,hc0,rfl⟩:=hc
  exact ih i c0 u hc0 hu (fun d hd=>hr d (by simp only [AV.ids];exact idsA_mem hc0 hd))
 |slNil=>intro _ _ _;exact .slNil
 |sl cell hcap hmax hk h1 hH h _=>intro _ _ _;exact .sl cell hcap hmax hk h1 hH h
 |ep cell h1 hH h _=>intro _ _ _;exact .ep cell h1 hH h
 |ownNil h=>intro σ ρ' hr;exact .ownNil ((hr _ (by simp [AV.ids])).trans h)
 |own h hn hm=>intro σ ρ' hr;exact .own ((hr _ (by simp [AV.ids])).trans h) hn hm
 |loc h=>intro σ ρ' hr;exact .loc ((hr _ (by simp [AV.ids])).trans h)
 |eloc h=>intro σ ρ' hr;exact .eloc ((hr _ (by simp [AV.ids])).trans h)
 |mp h=>intro σ ρ' hr;exact .mp ((hr _ (by simp [AV.ids])).trans h)
 |fn hl1 hl2 _ _ ih1 ih2 =>
  intro σ ρ' hr
  simp only [AV.ren,renL_map]
  refine .fn (by simpa using hl1) (by simpa using hl2) (fun i c u hc hu=>?_) (fun i c u hc hu=>?_)
  ·rw [List.getElem?_map,Option.map_eq_some_iff] at hc
   obtain ⟨c0,hc0,rfl⟩:=hc
   exact ih1 i c0 u hc0 hu (fun d hd=>hr d (by simp only [AV.ids];exact List.mem_append_left _ (idsA_mem hc0 hd)))
  ·rw [List.getElem?_map,Option.map_eq_some_iff] at hc
   obtain ⟨c0,hc0,rfl⟩:=hc
   exact ih2 i c0 u hc0 hu (fun d hd=>hr d (by simp only [AV.ids];exact List.mem_append_right _ (idsA_mem hc0 hd)))
 |tup hl _ ih =>
  intro σ ρ' hr
  simp only [AV.ren,renL_map]
  refine .tup (by simpa using hl) (fun i c u hc hu=>?_)
  rw [List.getElem?_map,Option.map_eq_some_iff] at hc
  obtain ⟨c0,hc0,rfl⟩:=hc
  exact ih i c0 u hc0 hu (fun d hd=>hr d (by simp only [AV.ids];exact idsA_mem hc0 hd))
 |ifc _ ih=>intro σ ρ' hr;exact .ifc (ih (fun d hd=>hr d (by simpa only [AV.ids] using hd)))
 |w h=>intro _ _ _;exact .w h
 |u=>intro _ _ _;exact .u
mutual
theorem Rep.unren {H : Heap} {ρ : Rho} {σ : Nat → Nat} : ∀ (x : AV) {v : Value},Rep H ρ (x.ren σ) v → Rep H (fun i=>ρ (σ i)) x v
 |.v x,v,h=>by cases h with|v h=>exact .v h
 |.st cs,v,h=>by
  simp only [AV.ren,renL_map] at h
  cases h with
  |st hl h1 h =>
   have:=RepL.unren (H:=H) (ρ:=ρ) (σ:=σ) cs ⟨by simpa [renL_map] using hl,fun i c u hc hu=>h i c u (by rwa [renL_map] at hc) hu⟩
   exact .st this.1 (by simpa [ren_one] using h1) this.2
 |.sl k xs,v,h=>by
  simp only [AV.ren] at h
  cases h with
  |slNil=>exact .slNil
  |sl cell hcap hmax hk h1 hH h=>exact .sl cell hcap hmax hk h1 hH h
 |.ep x,v,h=>by
  simp only [AV.ren] at h
  cases h with
  |ep cell h1 hH h=>exact .ep cell h1 hH h
 |.own id k off n,v,h=>by
  simp only [AV.ren] at h
  cases h with
  |ownNil h=>exact .ownNil h
  |own h hn hm=>exact .own h hn hm
 |.loc id off,v,h=>by simp only [AV.ren] at h;cases h with|loc h=>exact .loc h
 |.eloc id k i off,v,h=>by simp only [AV.ren] at h;cases h with|eloc h=>exact .eloc h
 |.mp id,v,h=>by simp only [AV.ren] at h;cases h with|mp h=>exact .mp h
 |.fn f a b,v,h=>by
  simp only [AV.ren,renL_map] at h
  cases h with
  |fn hl1 hl2 h1 h2 =>
   have t1:=RepL.unren (H:=H) (ρ:=ρ) (σ:=σ) a ⟨by simpa [renL_map] using hl1,fun i c u hc hu=>h1 i c u (by rwa [renL_map] at hc) hu⟩
   have t2:=RepL.unren (H:=H) (ρ:=ρ) (σ:=σ) b ⟨by simpa [renL_map] using hl2,fun i c u hc hu=>h2 i c u (by rwa [renL_map] at hc) hu⟩
   exact .fn t1.1 t2.1 t1.2 t2.2
 |.tup vs,v,h=>by
  simp only [AV.ren,renL_map] at h
  cases h with
  |tup hl h =>
   have:=RepL.unren (H:=H) (ρ:=ρ) (σ:=σ) vs ⟨by simpa [renL_map] using hl,fun i c u hc hu=>h i c u (by rwa [renL_map] at hc) hu⟩
   exact .tup this.1 this.2
 |.ifc t x,v,h=>by
  simp only [AV.ren] at h
  cases h with
  |ifc h=>exact .ifc (Rep.unren x h)
 |.w,v,h=>by
  simp only [AV.ren] at h
  cases h with
  |w h=>exact .w h
 |.u,v,h=>.u
theorem RepL.unren {H : Heap} {ρ : Rho} {σ : Nat → Nat} : ∀ (cs : List AV) {vs : List Value},RepL H ρ (renL σ cs) vs → RepL H (fun i=>ρ (σ i)) cs vs
 |[],vs,h=>by rw [h.nil_inv];exact RepL.nil
 |c :: cs,vs,h=>by
  obtain ⟨u,us,rfl,h1,h2⟩:=RepL.cons_inv (by simpa only [renL] using h)
  exact RepL.cons (Rep.unren c h1) (RepL.unren cs h2)
end
def Ct.ren (σ : Nat → Nat) : Ct → Ct
 |.box T x=>.box T (x.ren σ)
 |.arr T k xs=>.arr T k (renL σ xs)
 |.map es st=>.map (es.map fun e=>(e.1.ren σ,e.2.ren σ)) st
 |.it m bs ck vis=>.it (σ m) bs ck vis
 |.raw o=>.raw o
 |.pin b o=>.pin b o
 |.hp H=>.hp H
def Ct.ids : Ct → List Nat
 |.box _ x=>x.ids
 |.arr _ _ xs=>idsA xs
 |.map es _=>idsA (es.map (·.1)) ++ idsA (es.map (·.2))
 |.it m _ _ _=>[m]
 |.raw _=>[]
 |.pin _ _=>[]
 |.hp _=>[]
theorem RepL.ren {H : Heap} {ρ ρ' : Rho} {σ : Nat → Nat} {cs : List AV} {vs : List Value} (h : RepL H ρ cs vs) (hr : ∀ d ∈ idsA cs,ρ' (σ d) = ρ d) : RepL H ρ' (cs.map (AV.ren σ)) vs:=by
 refine ⟨by simpa using h.1,fun i c u hc hu=>?_⟩
 rw [List.getElem?_map,Option.map_eq_some_iff] at hc
 obtain ⟨c0,hc0,rfl⟩:=hc
 exact (h.2 i c0 u hc0 hu).ren (fun d hd=>hr d (idsA_mem hc0 hd))
theorem idsA_append : ∀ a b : List AV,idsA (a ++ b) = idsA a ++ idsA b
 |[],b=>rfl
 |x :: a,b=>by simp [idsA,idsA_append a b]
theorem ids_cells (x : AV) : idsA x.cells = x.ids:=by
 cases x <;> simp [AV.cells,idsA,AV.ids]
theorem ids_flat : ∀ xs : List AV,idsA (xs.flatMap AV.cells) = idsA xs
 |[]=>rfl
 |x :: xs=>by simp [idsA,idsA_append,ids_cells,ids_flat xs]
theorem oneAll_ren {σ : Nat → Nat} {x : AV} : oneAll (x.ren σ) ↔ oneAll x:=by
 simp [oneAll,ren_cells,ren_one]
theorem flat_ren (σ : Nat → Nat) (xs : List AV) : (renL σ xs).flatMap AV.cells = (xs.flatMap AV.cells).map (AV.ren σ):=by
 induction xs with
 |nil=>rfl
 |cons x xs ih=>simp [renL,ren_cells,ih]
theorem CtRep.ren {H : Heap} {ρ ρ' : Rho} {w : World} {bd : Bd} {c : Ct} {σ : Nat → Nat} (h : CtRep H ρ w bd c) (hr : ∀ d ∈ c.ids,ρ' (σ d) = ρ d) : CtRep H ρ' w bd (c.ren σ):=by
 cases c with
 |box T x =>
  obtain ⟨b,cap,vs,h1,h2,h3,h4,h5⟩:=h
  refine ⟨b,cap,vs,h1,h2,?_,oneAll_ren.2 h4,by rw [ren_cells];simpa using h5⟩
  rw [ren_cells]
  exact h3.ren (by rw [ids_cells];exact hr)
 |arr T k xs =>
  rcases h with ⟨h,rfl⟩|⟨b,cap,cur,h1,h2,h3,h4,h5,h6,h7⟩
  ·exact .inl ⟨h,rfl⟩
  ·refine .inr ⟨b,cap,cur,h1,h2,h3,by rw [renL_map];simpa using h4,h5,?_,?_⟩
   ·rw [flat_ren,renL_map,List.length_map]
    exact h6.ren (by rw [ids_flat];exact hr)
   ·rw [renL_map]
    intro x hx
    obtain ⟨y,hy,rfl⟩:=List.mem_map.1 hx
    obtain ⟨h8,h9⟩:=h7 y hy
    exact ⟨by rw [ren_cells];simpa using h8,oneAll_ren.2 h9⟩
 |map es st =>
  obtain ⟨b,cap,ents,clock,h1,h2,h3,h4,h5⟩:=h
  refine ⟨b,cap,ents,clock,h1,h2,?_,?_,h5⟩
  ·have:=h3.ren (ρ':=ρ') (σ:=σ) (fun d hd=>hr d (List.mem_append_left _ hd))
   simpa [List.map_map,Function.comp_def] using this
  ·have:=h4.ren (ρ':=ρ') (σ:=σ) (fun d hd=>hr d (List.mem_append_right _ hd))
   simpa [List.map_map,Function.comp_def] using this
 |it m bs ck vis =>
  obtain ⟨b,cap,mb,capm,seen,h1,h2,h3,h4,h5⟩:=h
  exact ⟨b,cap,mb,capm,seen,h1,(hr m (by simp [Ct.ids])).trans h2,h3,h4,h5⟩
 |raw o=>exact h
 |pin b o=>exact h
 |hp H'=>exact h
theorem CtRep.unren {H : Heap} {ρ : Rho} {w : World} {bd : Bd} {c : Ct} {σ : Nat → Nat} (h : CtRep H ρ w bd (c.ren σ)) : CtRep H (fun i=>ρ (σ i)) w bd c:=by
 cases c with
 |box T x =>
  obtain ⟨b,cap,vs,h1,h2,h3,h4,h5⟩:=h
  refine ⟨b,cap,vs,h1,h2,?_,oneAll_ren.1 h4,by rw [ren_cells] at h5;simpa using h5⟩
  rw [ren_cells,← renL_map] at h3
  exact RepL.unren _ h3
 |arr T k xs =>
  rcases h with ⟨h,h'⟩|⟨b,cap,cur,h1,h2,h3,h4,h5,h6,h7⟩
  ·exact .inl ⟨h,by cases xs with|nil=>rfl|cons=>simp [renL] at h'⟩
  ·refine .inr ⟨b,cap,cur,h1,h2,h3,by rw [renL_map] at h4;simpa using h4,h5,?_,?_⟩
   ·rw [flat_ren,← renL_map,renL_map σ xs,List.length_map] at h6
    exact RepL.unren _ h6
   ·intro x hx
    obtain ⟨h8,h9⟩:=h7 (x.ren σ) (by rw [renL_map];exact List.mem_map_of_mem hx)
    exact ⟨by rw [ren_cells] at h8;simpa using h8,oneAll_ren.1 h9⟩
 |map es st =>
  obtain ⟨b,cap,ents,clock,h1,h2,h3,h4,h5⟩:=h
  refine ⟨b,cap,ents,clock,h1,h2,?_,?_,h5⟩
  ·have e : (es.map fun e=>(e.1.ren σ,e.2.ren σ)).map (·.1) = renL σ (es.map (·.1)):=by simp [renL_map,List.map_map,Function.comp_def]
   rw [e] at h3
   exact RepL.unren _ h3
  ·have e : (es.map fun e=>(e.1.ren σ,e.2.ren σ)).map (·.2) = renL σ (es.map (·.2)):=by simp [renL_map,List.map_map,Function.comp_def]
   rw [e] at h4
   exact RepL.unren _ h4
 |it m bs ck vis =>
  obtain ⟨b,cap,mb,capm,seen,h1,h2,h3,h4,h5⟩:=h
  exact ⟨b,cap,mb,capm,seen,h1,h2,h3,h4,h5⟩
 |raw o=>exact h
 |pin b o=>exact h
 |hp H'=>exact h
def dropB (ids : List Nat) : List (Nat × Ct) → List (Nat × Ct)
 |[]=>[]
 |(i,c) :: l=>if ids.contains i then dropB ids l else (i,c) :: dropB ids l
theorem lk_dropB {ids : List Nat} : ∀ {l : List (Nat × Ct)} {i : Nat},lk (dropB ids l) i = if ids.contains i then none else lk l i
 |[],i=>by simp [dropB,lk]
 |(j,c) :: l,i=>by
  simp only [dropB]
  split
  ·rename_i h
   rw [lk_dropB]
   split
   ·rfl
   ·rename_i h2
    simp only [lk]
    rw [if_neg (fun (e : j = i)=>h2 (e ▸ h))]
  ·rename_i h
   simp only [lk]
   by_cases e : j = i
   ·subst e
    rw [if_pos rfl,if_neg h,if_pos rfl]
   ·rw [if_neg e,if_neg e,lk_dropB]
theorem lk_append {α : Type} : ∀ {a b : List (Nat × α)} {i : Nat},lk (a ++ b) i = match lk a i with|some c=>some c|none=>lk b i
 |[],b,i=>by simp [lk]
 |(j,c) :: a,b,i=>by
  simp only [List.cons_append,lk]
  by_cases e : j = i
  ·simp [e]
  ·simp [e,lk_append (a:=a)]
theorem lk_mem {α : Type} : ∀ {a : List (Nat × α)} {i : Nat} {c : α},lk a i = some c → (i,c) ∈ a
 |[],i,c,h=>by simp [lk] at h
 |(j,x) :: a,i,c,h=>by
  simp only [lk] at h
  split at h
  ·rename_i e;cases h;subst e;exact List.mem_cons_self
  ·exact List.mem_cons_of_mem _ (lk_mem h)
theorem lk_ren {τ : Nat → Nat} : ∀ {L : List (Nat × Ct)} {i : Nat} {c : Ct},lk (L.map fun p=>(τ p.1,p.2.ren τ)) i = some c → ∃ p ∈ L,τ p.1 = i ∧ c = p.2.ren τ
 |[],i,c,h=>by simp [lk] at h
 |p :: L,i,c,h=>by
  simp only [List.map_cons,lk] at h
  split at h
  ·rename_i e;cases h;exact ⟨p,List.mem_cons_self,e,rfl⟩
  ·obtain ⟨q,hq,h1,h2⟩:=lk_ren h
   exact ⟨q,List.mem_cons_of_mem _ hq,h1,h2⟩
structure MBack (s : AState) (bx : List (Nat × Ct)) (σ : Nat → Nat) (res : AV) (bf : Nat → Option Ct) (L : List (Nat × Ct)) (τ : Nat → Nat) : Prop where
 known : ∀ p ∈ L,bf p.1 = some p.2
 name : ∀ p ∈ L,((1000000 ≤ p.1 ∧ p.1 < 2000000) ∧ (lk bx p.1).isSome = true ∧ τ p.1 = σ p.1) ∨ (p.1 < 1000000 ∧ s.ment (τ p.1) = false ∧ s.box (τ p.1) = none ∧ τ p.1 < 1000000)
 inj : ∀ p ∈ L,∀ q ∈ L,τ p.1 = τ q.1 → p.1 = q.1
 ids : ∀ i ∈ res.ids,i ∈ L.map (·.1)
 ids2 : ∀ p ∈ L,∀ i ∈ p.2.ids,i ∈ L.map (·.1)
section
variable {P : Program} {E : Env}
theorem ACall_mut {g : FuncId} {args cargs : List AV} {bx : List (Nat × Ct)} {R : AV → (Nat → Option Ct) → Prop} {s : AState} {d : Option Tmp} {K : AState → Prop} (hsp : MSpec P g args bx R) (σ : Nat → Nat) (hargs : cargs = args.map (AV.ren σ))
 (hbx : ∀ i c,lk bx i = some c → s.box (σ i) = some (c.ren σ)) (hinj : ∀ i i',(lk bx i).isSome = true → (lk bx i').isSome = true → σ i = σ i' → i = i')
 (hk : ∀ res bf,R res bf → ∃ (L : List (Nat × Ct)) (τ : Nat → Nat),MBack s bx σ res bf L τ ∧ K ((AState.mk s.s (L.map (fun p=>(τ p.1,p.2.ren τ)) ++ dropB (bx.map fun p=>σ p.1) s.b)).put d (res.ren τ))) :
 ACall P E g cargs s d K:=by
 refine .inl ⟨hsp.1,fun H ρ a w vs hs hr hd=>?_⟩
 subst hargs
 have hOwn : ∀ b,OwnB (fun i=>ρ (σ i)) (lk bx) b → ∃ i c cap,(lk bx i).isSome = true ∧ s.box (σ i) = some c ∧ ρ (σ i) = .at b cap:=by
  rintro b ⟨i,c,cap,hc,hb⟩
  exact ⟨i,_,cap,by simp [hc],hbx i c hc,hb⟩
 refine Calls.mono (hsp.2 H (fun i=>ρ (σ i)) w vs hs.ext ⟨fun i c hc=>(hs.boxes.rep _ _ (hbx i c hc)).unren,fun i c b cap hc hb=>?_,fun i i' c c' b cap cap' hc hc' hb hb'=>?_⟩ (RepL.unren args (by rw [renL_map];exact hr))) ?_
 ·obtain ⟨h1,h2,_⟩:=hs.boxes.apart _ _ b cap (hbx i c hc) hb
  exact ⟨h1,h2,trivial⟩
 ·exact hinj i i' (by simp [hc]) (by simp [hc']) (hs.boxes.inj _ _ _ _ b cap cap' (hbx i c hc) (hbx i' c' hc') hb hb')
 rintro e w' ⟨H',ρ',res,bf',v,rfl,hR,hle,hnew,hext,hB,hrep,hfr,hkeep⟩
 obtain ⟨L,τ,hM,hK⟩:=hk res bf' hR
 refine ⟨v,rfl,(AState.mk s.s (L.map (fun p=>(τ p.1,p.2.ren τ)) ++ dropB (bx.map fun p=>σ p.1) s.b)).put d (res.ren τ),H',?_⟩
 let isNew : Nat → Prop:=fun i=>∃ p ∈ L,p.1 < 1000000 ∧ τ p.1 = i
 have hex : ∀ i,∃ bd,(∀ p ∈ L,p.1 < 1000000 → τ p.1 = i → bd = ρ' p.1) ∧ ((¬ isNew i) → bd = ρ i):=by
  intro i
  by_cases h : isNew i
  ·obtain ⟨p,hp,hlt,rfl⟩:=h
   exact ⟨ρ' p.1,fun q hq _ e=>by rw [hM.inj q hq p hp e],fun hn=>absurd ⟨p,hp,hlt,rfl⟩ hn⟩
  ·exact ⟨ρ i,fun p hp hlt e=>absurd ⟨p,hp,hlt,e⟩ h,fun _=>rfl⟩
 let ρc : Rho:=fun i=>Classical.choose (hex i)
 have hρnew : ∀ p ∈ L,p.1 < 1000000 → ρc (τ p.1) = ρ' p.1:=fun p hp hlt=>(Classical.choose_spec (hex (τ p.1))).1 p hp hlt rfl
 have hρold : ∀ i,¬ isNew i → ρc i = ρ i:=fun i h=>(Classical.choose_spec (hex i)).2 h
 have hnewfresh : ∀ i,isNew i → s.ment i = false ∧ s.box i = none ∧ i < 1000000:=by
  rintro i ⟨p,hp,hlt,rfl⟩
  rcases hM.name p hp with ⟨h,_⟩|⟨_,h1,h2,h3⟩
  ·omega
  ·exact ⟨h1,h2,h3⟩
 have hρL : ∀ p ∈ L,ρc (τ p.1) = ρ' p.1:=by
  intro p hp
  by_cases hlt : p.1 < 1000000
  ·exact hρnew p hp hlt
  ·rcases hM.name p hp with ⟨h,h1,h2⟩|⟨h,_⟩
   ·have hn : ¬ isNew (τ p.1):=by
     intro hn
     have:=(hnewfresh _ hn).2.1
     rw [h2] at this
     cases hc : lk bx p.1 with
     |none=>rw [hc] at h1;cases h1
     |some c=>rw [hbx _ _ hc] at this;cases this
    rw [hρold _ hn,h2,hkeep p.1 h.1 h.2]
   ·exact absurd h hlt
 have hρids : ∀ i ∈ L.map (·.1),ρc (τ i) = ρ' i:=by
  intro i hi
  obtain ⟨p,hp,rfl⟩:=List.mem_map.1 hi
  exact hρL p hp
 have hsz:=hs.frame.size
 have hmine : ∀ b,(w.heap.size ≤ b ∨ OwnB (fun i=>ρ (σ i)) (lk bx) b) → E.mine b:=by
  rintro b (h|h)
  ·exact .inl (by omega)
  ·obtain ⟨i,c,cap,_,hc,hb⟩:=hOwn b h
   exact (hs.boxes.apart _ _ b cap hc hb).2.2
 have hrest : ∀ i c,¬ (bx.map fun p=>σ p.1).contains i = true → s.box i = some c → ∀ b cap,ρ i = .at b cap → b < w.heap.size ∧ ¬ OwnB (fun i=>ρ (σ i)) (lk bx) b:=by
  intro i c hni hc b cap hb
  refine ⟨(hs.boxes.apart i c b cap hc hb).2.1,fun h=>hni ?_⟩
  obtain ⟨j,c',cap',hj,hc',hb'⟩:=hOwn b h
  have:=hs.boxes.inj _ _ _ _ b cap' cap hc' hc hb' hb
  subst this
  cases hjj : lk bx j with
  |none=>rw [hjj] at hj;cases hj
  |some c2 =>
   have:=lk_mem hjj
   simp only [List.contains_iff_mem,List.mem_map]
   exact ⟨(j,c2),this,rfl⟩
 let s1 : AState:=AState.mk s.s (L.map (fun p=>(τ p.1,p.2.ren τ)) ++ dropB (bx.map fun p=>σ p.1) s.b)
 have hbox1 : ∀ i c,s1.box i = some c → (∃ p ∈ L,τ p.1 = i ∧ c = p.2.ren τ) ∨ (¬ (bx.map fun p=>σ p.1).contains i = true ∧ s.box i = some c):=by
  intro i c hc
  have hc' : lk (L.map (fun p=>(τ p.1,p.2.ren τ)) ++ dropB (bx.map fun p=>σ p.1) s.b) i = some c:=hc
  rw [lk_append] at hc'
  split at hc'
  ·rename_i c1 h1
   cases hc'
   exact .inl (lk_ren h1)
  ·rw [lk_dropB] at hc'
   split at hc'
   ·cases hc'
   ·exact .inr ⟨by assumption,hc'⟩
 have hsim : Sim E H' ρc s1.slot s1.box a w':=by
  refine ⟨hext,fun i=>?_,hs.size,hs.defers.frame hfr (fun D hD hown=>by obtain ⟨i,c,cap,_,hc,hb⟩:=hOwn D hown;exact hs.noDef hc hb hD),⟨fun i c hc=>?_,fun i c b cap hc hb=>?_,fun i i' c c' b cap cap' hc hc' hb hb'=>?_⟩,Heap.le_trans hs.h0 hle,?_,?_,fun i hi hi2=>?_,hs.nle⟩
  ·refine ((hs.slots i).mono hle).rho (fun d hd=>?_)
   refine hρold d (fun hn=>?_)
   rw [AState.ment_slot (hnewfresh d hn).1] at hd
   cases hd
  ·rcases hbox1 i c hc with ⟨p,hp,rfl,rfl⟩|⟨hni,hc⟩
   ·rw [hρL p hp]
    exact (hB.rep p.1 p.2 (hM.known p hp)).ren (fun d hd=>hρids d (hM.ids2 p hp d hd))
   ·have hn : ¬ isNew i:=fun hn=>by rw [(hnewfresh i hn).2.1] at hc;cases hc
    rw [hρold i hn]
    refine (hs.boxes.rep i c hc).mono hle (fun d hd=>hρold d (fun hn=>?_)) (fun b cap hb=>?_)
    ·rw [AState.ment_box (hnewfresh d hn).1 hc] at hd
     cases hd
    ·obtain ⟨h1,h2⟩:=hrest i c hni hc b cap hb
     exact hfr.block b h1 h2
  ·rcases hbox1 i c hc with ⟨p,hp,rfl,rfl⟩|⟨hni,hc⟩
   ·rw [hρL p hp] at hb
    obtain ⟨h1,h2,h3⟩:=hB.apart p.1 p.2 b cap (hM.known p hp) hb
    exact ⟨h1,h2,hmine b h3⟩
   ·have hn : ¬ isNew i:=fun hn=>by rw [(hnewfresh i hn).2.1] at hc;cases hc
    rw [hρold i hn] at hb
    obtain ⟨h1,h2,h3⟩:=hs.boxes.apart i c b cap hc hb
    obtain ⟨h4,h5⟩:=hrest i c hni hc b cap hb
    refine ⟨fun o=>?_,Nat.lt_of_lt_of_le h2 hfr.size,h3⟩
    cases hh : H' b o with
    |none=>rfl
    |some u =>
     rcases hnew b o u hh (h1 o) with h|h
     ·omega
     ·exact absurd h h5
  ·have cross : ∀ p ∈ L,∀ i c,¬ (bx.map fun p=>σ p.1).contains i = true → s.box i = some c → ∀ b cap cap',ρc (τ p.1) = .at b cap → ρc i = .at b cap' → False:=by
    intro p hp i c hni hc b cap cap' hb hb'
    rw [hρL p hp] at hb
    have hn : ¬ isNew i:=fun hn=>by rw [(hnewfresh i hn).2.1] at hc;cases hc
    rw [hρold i hn] at hb'
    obtain ⟨h4,h5⟩:=hrest i c hni hc b cap' hb'
    rcases (hB.apart p.1 p.2 b cap (hM.known p hp) hb).2.2 with h|h
    ·omega
    ·exact h5 h
   rcases hbox1 i c hc with ⟨p,hp,rfl,rfl⟩|⟨hni,hc⟩ <;> rcases hbox1 i' c' hc' with ⟨q,hq,rfl,rfl⟩|⟨hni',hc'⟩
   ·rw [hρL p hp] at hb
    rw [hρL q hq] at hb'
    rw [hB.inj p.1 q.1 _ _ b cap cap' (hM.known p hp) (hM.known q hq) hb hb']
   ·exact (cross p hp i' c' hni' hc' b cap cap' hb hb').elim
   ·exact (cross q hq i c hni hc b cap' cap hb' hb).elim
   ·have hn : ¬ isNew i:=fun hn=>by rw [(hnewfresh i hn).2.1] at hc;cases hc
    have hn' : ¬ isNew i':=fun hn=>by rw [(hnewfresh i' hn).2.1] at hc';cases hc'
    rw [hρold i hn] at hb
    rw [hρold i' hn'] at hb'
    exact hs.boxes.inj i i' c c' b cap cap' hc hc' hb hb'
  ·intro b o u hu h0
   cases hh : H b o with
   |some u'=>exact hs.new b o u' hh h0
   |none=>exact hmine b (hnew b o u hu hh)
  ·refine hs.frame.trans hfr (fun k hk hown=>?_)
   obtain ⟨i,c,cap,_,hc,hb⟩:=hOwn k hown
   rcases (hs.boxes.apart _ _ k cap hc hb).2.2 with h|h
   ·omega
   ·exact h
  ·have hn : ¬ isNew i:=fun hn=>by have:=(hnewfresh i hn).2.2;omega
   rw [hρold i hn]
   exact hs.keep i hi hi2
 refine ⟨ρc,hK,?_⟩
 rw [AState.slot_put,AState.box_put]
 exact hsim.put hd (hrep.ren (fun d hd=>hρids d (hM.ids d hd)))
end
end Go.Am
end
section
namespace Go.Am
open Go.RowKit
section
variable {P : Program} {E : Env} {s : AState} {d : Option Tmp} {K : AState → Prop} {g : FuncId}
theorem acall_ext {args : List AV} {res : AV} (hrun : ∀ H ρ vs w,RepL H ρ args vs → ∃ v,(callFunc g vs.toArray).run P w = .ok (.value v) w ∧ Rep H ρ res v) (hk : K (s.put d res)) : ACall P E g args s d K :=
 .inr fun H ρ a w vs hs hr hd=>by
  obtain ⟨v,h1,h2⟩:=hrun H ρ vs w hr
  exact ⟨v,w,h1,Came.put hs hd h2 hk⟩
theorem acall_add64 {fn : Func} (hf : P.funcs[g]? = some fn) (hname : (fn.name == "runtime.NumGoroutine") = false) (hb : fn.body.isNone = true) (hn : Extern.findNext fn = none) (he : Extern.find fn = some add64Entry) {x y : Int} (hx : 0 ≤ x) (hy : 0 ≤ y)
 (hk : K (s.put d (.tup [.v (.int .u64 ((x + y) % 18446744073709551616)),.v (.int .u64 ((x + y) / 18446744073709551616))]))) : ACall P E g [.v (.int .u64 x),.v (.int .u64 y),.v (.int .u64 0)] s d K:=by
 refine acall_ext (fun H ρ vs w hr=>?_) hk
 obtain ⟨u1,r1,rfl,h1,hr1⟩:=hr.cons_inv
 obtain ⟨u2,r2,rfl,h2,hr2⟩:=hr1.cons_inv
 obtain ⟨u3,r3,rfl,h3,hr3⟩:=hr2.cons_inv
 have:=hr3.nil_inv
 subst this
 rw [h1.v_inv,h2.v_inv,h3.v_inv]
 refine ⟨_,by rw [run_callFunc_extern hf hname hb hn he,show ([Value.int .u64 x,Value.int .u64 y,Value.int .u64 0]).toArray = #[Value.int .u64 x,Value.int .u64 y,Value.int .u64 0] from rfl,run_add64 x y 0 hx hy (by omega) (by omega)];rfl,?_⟩
 simp only [Int.add_zero]
 exact .tup (vs:=[_,_]) rfl (RepL.cons (.v rfl) (RepL.cons (.v rfl) RepL.nil)).2
theorem acall_cmpstr {fn : Func} (hf : P.funcs[g]? = some fn) (hname : (fn.name == "runtime.NumGoroutine") = false) (hb : fn.body.isNone = true) (hn : Extern.findNext fn = none) (he : Extern.find fn = some Extern.BytealgCompare.compare) {x y : ByteArray}
 (hk : K (s.put d (.v (.int .i64 (Go.Lib.compareBytes x.data.toList y.data.toList))))) : ACall P E g [.v (.string x),.v (.string y)] s d K:=by
 refine acall_ext (fun H ρ vs w hr=>?_) hk
 obtain ⟨u1,r1,rfl,h1,hr1⟩:=hr.cons_inv
 obtain ⟨u2,r2,rfl,h2,hr2⟩:=hr1.cons_inv
 have:=hr2.nil_inv
 subst this
 rw [h1.v_inv,h2.v_inv]
 exact ⟨_,by rw [run_callFunc_extern hf hname hb hn he,show ([Value.string x,Value.string y]).toArray = #[Value.string x,Value.string y] from rfl,Go.Lib.run_compareString];rfl,.v rfl⟩
end
end Go.Am
end
section
namespace Go.Am
open Go.RowKit
attribute [simp ↓] aConvS aConvB aConvL rowCells aIfcEq stepConv stepNeg aMake aAppendO aUStr aAppK aAppendS strSrc RK RKQ qd yieldOp stepOp stepSlice stepSlice3 stepCap stepCall aRange aNext aEntry aMapEnt aEntSt aClear aSlNil aAppendN qstep qop aCall aStore aMapUpd aAppend aSrc qload qfaddr qiaddr qbslice qbuild buildK qfield qindex qun qconv qslice qlookup qlen qfold foldInts qcall binInt shiftInt strOp arith nilCmp
attribute [simp] nilRow killI aThr aThere newOp AState.fresh AState.eval evalF AState.slot AState.box argSlots lk AState.put AState.addBox AState.setBox AState.ment mentS mentB AV.ment mentL Ct.ment mentP AV.part aload lkA ofVal okV
 fillElems partsOK setPart fplace slBound findA posA keysOK nilP nilM nilF nilI isConst BinOp.isShift eqA eqA1 astore killL killB AState.forget AV.forg updA idsOf idsL rids AV.idf idfL AV.flat flatL AState.le leS leB leC thenK inBlk retQ retK tupAV ViewL MOut newIds
attribute [simp] AV.ren renL AV.ids idsA Ct.ren Ct.ids dropB
@[simp] theorem sto_v {x : Value} : (AV.v x).sto = true:=rfl
@[simp] theorem isSt_v {x : Value} : (AV.v x).isSt = false:=rfl
@[simp] theorem one_v {x : Value} : (AV.v x).one = true:=rfl
@[simp] theorem cells_v {x : Value} : (AV.v x).cells = [.v x]:=rfl
@[simp] theorem sto_st {cs : List AV} : (AV.st cs).sto = true:=rfl
@[simp] theorem isSt_st {cs : List AV} : (AV.st cs).isSt = true:=rfl
@[simp] theorem one_st {cs : List AV} : (AV.st cs).one = false:=rfl
@[simp] theorem cells_st {cs : List AV} : (AV.st cs).cells = cs:=rfl
@[simp] theorem sto_sl {k : Nat} {xs : List AV} : (AV.sl k xs).sto = true:=rfl
@[simp] theorem isSt_sl {k : Nat} {xs : List AV} : (AV.sl k xs).isSt = false:=rfl
@[simp] theorem one_sl {k : Nat} {xs : List AV} : (AV.sl k xs).one = true:=rfl
@[simp] theorem cells_sl {k : Nat} {xs : List AV} : (AV.sl k xs).cells = [.sl k xs]:=rfl
@[simp] theorem sto_ep {x : AV} : (AV.ep x).sto = true:=rfl
@[simp] theorem isSt_ep {x : AV} : (AV.ep x).isSt = false:=rfl
@[simp] theorem one_ep {x : AV} : (AV.ep x).one = true:=rfl
@[simp] theorem cells_ep {x : AV} : (AV.ep x).cells = [.ep x]:=rfl
@[simp] theorem sto_own {a b c d : Nat} : (AV.own a b c d).sto = true:=rfl
@[simp] theorem isSt_own {a b c d : Nat} : (AV.own a b c d).isSt = false:=rfl
@[simp] theorem one_own {a b c d : Nat} : (AV.own a b c d).one = true:=rfl
@[simp] theorem cells_own {a b c d : Nat} : (AV.own a b c d).cells = [.own a b c d]:=rfl
@[simp] theorem sto_loc {a b : Nat} : (AV.loc a b).sto = true:=rfl
@[simp] theorem isSt_loc {a b : Nat} : (AV.loc a b).isSt = false:=rfl
@[simp] theorem one_loc {a b : Nat} : (AV.loc a b).one = true:=rfl
@[simp] theorem cells_loc {a b : Nat} : (AV.loc a b).cells = [.loc a b]:=rfl
@[simp] theorem sto_eloc {a b c d : Nat} : (AV.eloc a b c d).sto = true:=rfl
@[simp] theorem isSt_eloc {a b c d : Nat} : (AV.eloc a b c d).isSt = false:=rfl
@[simp] theorem one_eloc {a b c d : Nat} : (AV.eloc a b c d).one = true:=rfl
@[simp] theorem cells_eloc {a b c d : Nat} : (AV.eloc a b c d).cells = [.eloc a b c d]:=rfl
@[simp] theorem sto_mp {a : Nat} : (AV.mp a).sto = true:=rfl
@[simp] theorem isSt_mp {a : Nat} : (AV.mp a).isSt = false:=rfl
@[simp] theorem one_mp {a : Nat} : (AV.mp a).one = true:=rfl
@[simp] theorem cells_mp {a : Nat} : (AV.mp a).cells = [.mp a]:=rfl
@[simp] theorem sto_fn {f : Fn} {a b : List AV} : (AV.fn f a b).sto = true:=rfl
@[simp] theorem isSt_fn {f : Fn} {a b : List AV} : (AV.fn f a b).isSt = false:=rfl
@[simp] theorem one_fn {f : Fn} {a b : List AV} : (AV.fn f a b).one = true:=rfl
@[simp] theorem cells_fn {f : Fn} {a b : List AV} : (AV.fn f a b).cells = [.fn f a b]:=rfl
@[simp] theorem sto_tup {a : List AV} : (AV.tup a).sto = false:=rfl
@[simp] theorem isSt_tup {a : List AV} : (AV.tup a).isSt = false:=rfl
@[simp] theorem one_tup {a : List AV} : (AV.tup a).one = false:=rfl
@[simp] theorem sto_w : AV.w.sto = true:=rfl
@[simp] theorem isSt_w : AV.w.isSt = false:=rfl
@[simp] theorem one_w : AV.w.one = true:=rfl
@[simp] theorem cells_w : AV.w.cells = [.w]:=rfl
@[simp] theorem sto_ifc {t : TypeId} {x : AV} : (AV.ifc t x).sto = true:=rfl
@[simp] theorem isSt_ifc {t : TypeId} {x : AV} : (AV.ifc t x).isSt = false:=rfl
@[simp] theorem one_ifc {t : TypeId} {x : AV} : (AV.ifc t x).one = true:=rfl
@[simp] theorem cells_ifc {t : TypeId} {x : AV} : (AV.ifc t x).cells = [.ifc t x]:=rfl
theorem stepBin_congr {P : Program} {o : Oper} {op : BinOp} {T : TypeId} {x y x' y' : AV} {s : AState} {K : AState → Prop} (hx : x = x') (hy : y = y') : stepBin P o op T x y s K = stepBin P o op T x' y' s K:=by rw [hx,hy]
attribute [congr] stepBin_congr
@[simp low] theorem stepBin_def {P : Program} {o : Oper} {op : BinOp} {T : TypeId} {x y : AV} {s : AState} {K : AState → Prop} : stepBin P o op T x y s K = (match x,y with
   |.sl _ xs,.v (.slice none _ _)=>aSlNil P op T (xs = []) s o.dst K
   |.own _ _ _ n,.v (.slice none _ _)=>aSlNil P op T (n = 0) s o.dst K
   |.ifc t (.v (.int k a)),.ifc t' (.v (.int k' b))=>aIfcEq P op T t t' k k' a b s o.dst K
   |_,_=>qstep P o s K):=rfl
theorem qbin_congr {P : Program} {op : BinOp} {T : TypeId} {x y x' y' : AV} {xc yc : Bool} {cont : AV → Prop} (hx : x = x') (hy : y = y') : qbin P op T x y xc yc cont = qbin P op T x' y' xc yc cont:=by rw [hx,hy]
attribute [congr] qbin_congr
section
variable {P : Program} {op : BinOp} {T : TypeId} {x y : AV} {xc yc : Bool} {cont : AV → Prop}
@[simp] theorem qbin_int {k k' : IntKind} {a b : Int} : qbin P op T (.v (.int k a)) (.v (.int k' b)) xc yc cont = (if BinOp.isShift op then shiftInt op k a b cont else k = k' ∧ binInt op k a b cont):=rfl
@[simp] theorem qbin_str {a b : ByteArray} : qbin P op T (.v (.string a)) (.v (.string b)) xc yc cont = strOp op a b cont:=rfl
@[simp] theorem qbin_bool_eq {a b : Bool} : qbin P .eql T (.v (.bool a)) (.v (.bool b)) xc yc cont = (P.underlying T = some .bool ∧ cont (.v (.bool (a == b)))):=rfl
@[simp] theorem qbin_bool_ne {a b : Bool} : qbin P .neq T (.v (.bool a)) (.v (.bool b)) xc yc cont = (P.underlying T = some .bool ∧ cont (.v (.bool (!(a == b))))):=rfl
@[simp] theorem qbin_st_eq {a b : List AV} : qbin P .eql T (.st a) (.st b) xc yc cont = (aggB P T = true ∧ P.eqGuardType P.depth T = false ∧ match eqKinds P T with
   |some ks=>(match eqA ks a b with
    |some r=>cont (.v (.bool r))
    |none=>False)
   |none=>False):=rfl
@[simp] theorem qbin_st_ne {a b : List AV} : qbin P .neq T (.st a) (.st b) xc yc cont = (aggB P T = true ∧ P.eqGuardType P.depth T = false ∧ match eqKinds P T with
   |some ks=>(match eqA ks a b with
    |some r=>cont (.v (.bool (!r)))
    |none=>False)
   |none=>False):=rfl
def nilish : AV → Bool
 |.v (.pointer none)|.v (.map none)|.v .nilFunc|.v .nilIface|.ep _|.loc _ _|.eloc _ _ _ _|.mp _|.fn _ _ _|.ifc _ _=>true
 |_=>false
@[simp] theorem qbin_nil_eq (h : nilish x = true) : qbin P .eql T x y xc yc cont = nilCmp P T x y xc yc (fun r=>cont (.v (.bool r))):=by
  unfold nilish at h
  split at h <;> first|rfl|(cases h;done)
@[simp] theorem qbin_nil_ne (h : nilish x = true) : qbin P .neq T x y xc yc cont = nilCmp P T x y xc yc (fun r=>cont (.v (.bool (!r)))):=by
  unfold nilish at h
  split at h <;> first|rfl|(cases h;done)
attribute [simp] nilish
end
theorem min64 : IntKind.min .i64 = -9223372036854775808:=rfl
theorem max64 : IntKind.max .i64 = 9223372036854775807:=rfl
theorem sg64 : IntKind.signed .i64 = true:=rfl
attribute [simp] min64 max64 sg64
section
variable {bf : Nat → Option Ct} {d x : AV}
@[simp] theorem view_self (h : x.idf = true) : View bf x x:=.inl ⟨rfl,h⟩
@[simp] theorem view_own {id k off n : Nat} : View bf (.own id k off n) d ↔ match bf id with
   |some (.arr _ k' xs)=>k' = k ∧ off + n ≤ xs.length ∧ d = .sl k ((xs.drop off).take n) ∧ idfL ((xs.drop off).take n) = true
   |some (.box _ y)=>k = 1 ∧ off = 0 ∧ n = y.cells.length ∧ d = .sl 1 y.cells ∧ idfL y.cells = true
   |_=>False:=by
  constructor
  ·rintro (⟨rfl,h⟩|⟨_,_,_,_,_,_,h,hb,h1,h2,h3⟩|⟨_,_,_,_,h,hb,h1,h2,h3⟩|⟨_,_,_,h,_⟩|⟨_,_,_,h,_⟩)
   ·simp [AV.idf] at h
   ·cases h;rw [hb];exact ⟨rfl,h1,h2,h3⟩
   ·cases h;rw [hb];exact ⟨rfl,rfl,h1,h2,h3⟩
   ·cases h
   ·cases h
  ·intro h
   split at h
   ·rename_i hb
    obtain ⟨rfl,h1,h2,h3⟩:=h
    exact .inr (.inl ⟨_,_,_,_,_,_,rfl,hb,h1,h2,h3⟩)
   ·rename_i hb
    obtain ⟨rfl,rfl,h1,h2,h3⟩:=h
    exact .inr (.inr (.inl ⟨_,_,_,_,rfl,hb,h1,h2,h3⟩))
   ·exact h.elim
@[simp] theorem view_loc0 {id : Nat} : View bf (.loc id 0) d ↔ match bf id with
   |some (.box _ y)=>d = .ep y ∧ y.idf = true
   |_=>False:=by
  constructor
  ·rintro (⟨rfl,h⟩|⟨_,_,_,_,_,_,h,hb,h1,h2,h3⟩|⟨_,_,_,_,h,hb,h1,h2,h3⟩|⟨_,_,_,h,hb,h1,h2⟩|⟨_,_,_,h,_⟩)
   ·simp [AV.idf] at h
   ·cases h
   ·cases h
   ·cases h;rw [hb];exact ⟨h1,h2⟩
   ·cases h
  ·intro h
   split at h
   ·rename_i hb;exact .inr (.inr (.inr (.inl ⟨_,_,_,rfl,hb,h.1,h.2⟩)))
   ·exact h.elim
@[simp] theorem view_v {v : Value} : View bf (.v v) d ↔ d = .v v ∨ ∃ k c,v = .slice none 0 c ∧ d = .sl k []:=by
  constructor
  ·rintro (⟨rfl,h⟩|⟨_,_,_,_,_,_,h,hb,h1,h2,h3⟩|⟨_,_,_,_,h,hb,h1,h2,h3⟩|⟨_,_,_,h,hb,h1,h2⟩|⟨_,_,_,h,rfl,h1⟩)
   ·exact .inl rfl
   ·cases h
   ·cases h
   ·cases h
   ·cases h;exact .inr ⟨_,_,rfl,h1⟩
  ·rintro (rfl|⟨k,c,rfl,rfl⟩)
   ·exact .inl ⟨rfl,rfl⟩
   ·exact .inr (.inr (.inr (.inr ⟨_,_,_,rfl,rfl,rfl⟩)))
@[simp] theorem view_st {cs : List AV} : View bf (.st cs) d ↔ d = .st cs ∧ idfL cs = true:=by
  constructor
  ·rintro (⟨rfl,h⟩|⟨_,_,_,_,_,_,h,hb,h1,h2,h3⟩|⟨_,_,_,_,h,hb,h1,h2,h3⟩|⟨_,_,_,h,hb,h1,h2⟩|⟨_,_,_,h,rfl,h1⟩)
   ·exact ⟨rfl,by simpa only [AV.idf] using h⟩
   all_goals cases h
  ·rintro ⟨rfl,h⟩
   exact .inl ⟨rfl,by simpa only [AV.idf] using h⟩
@[simp] theorem view_sl {k : Nat} {xs : List AV} : View bf (.sl k xs) d ↔ d = .sl k xs:=by
  constructor
  ·rintro (⟨rfl,h⟩|⟨_,_,_,_,_,_,h,hb,h1,h2,h3⟩|⟨_,_,_,_,h,hb,h1,h2,h3⟩|⟨_,_,_,h,hb,h1,h2⟩|⟨_,_,_,h,rfl,h1⟩)
   ·rfl
   all_goals cases h
  ·rintro rfl
   exact .inl ⟨rfl,rfl⟩
@[simp] theorem view_ep : View bf (.ep x) d ↔ d = .ep x:=by
  constructor
  ·rintro (⟨rfl,h⟩|⟨_,_,_,_,_,_,h,hb,h1,h2,h3⟩|⟨_,_,_,_,h,hb,h1,h2,h3⟩|⟨_,_,_,h,hb,h1,h2⟩|⟨_,_,_,h,rfl,h1⟩)
   ·rfl
   all_goals cases h
  ·rintro rfl
   exact .inl ⟨rfl,rfl⟩
@[simp] theorem view_tup {cs : List AV} : View bf (.tup cs) d ↔ d = .tup cs ∧ idfL cs = true:=by
  constructor
  ·rintro (⟨rfl,h⟩|⟨_,_,_,_,_,_,h,hb,h1,h2,h3⟩|⟨_,_,_,_,h,hb,h1,h2,h3⟩|⟨_,_,_,h,hb,h1,h2⟩|⟨_,_,_,h,rfl,h1⟩)
   ·exact ⟨rfl,by simpa only [AV.idf] using h⟩
   all_goals cases h
  ·rintro ⟨rfl,h⟩
   exact .inl ⟨rfl,by simpa only [AV.idf] using h⟩
@[simp] theorem view_nil {c k : Nat} : View bf (.v (.slice none 0 c)) (.sl k []):=.inr (.inr (.inr (.inr ⟨_,_,_,rfl,rfl,rfl⟩)))
end
end Go.Am
end
