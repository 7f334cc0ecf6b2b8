/- The abstract machine, part 20: what the evaluation unfolds. -/
import Derived.Test.YtmjckbokjjnmeaaAmCall
namespace Go.Am
open Go.RowKit

theorem RK_none {P : Program} {E : Env} {ops : Array Oper} {o : Oper} {rest : List Oper} {s : AState} {K : AState → Prop} (hg : o.guard = none) (h : ∀ K' : AState → Prop, (∀ s', RK P E ops rest s' K → K' s') → stepOp P E o s K') : RK P E ops (o :: rest) s K := by
  simp only [RK, hg]
  exact h _ (fun _ h => h)

attribute [simp ↓] RK RKQ qd stepOp stepSlice stepCap stepCall aRange aNext aEntry aClear aSlNil aAppendN qstep qop aCall aStore aMapUpd aAppend aSrc qload qfaddr qiaddr qbslice qbuild buildK qfield qindex qun qconv qslice qlookup qlen qfold foldInts qcall binInt shiftInt strOp arith nilCmp
attribute [simp] aThere newOp AState.fresh AState.eval evalF AState.slot AState.box argSlots lk AState.put AState.addBox AState.setBox AState.ment mentS mentB AV.ment mentL Ct.ment mentP AV.part aload lkA ofVal okV
  fillElems partsOK setPart fplace slBound findA keysOK nilP nilM nilF nilI isConst BinOp.isShift eqA eqA1 astore killL killB AState.forget AV.forg updA idsOf idsL rids AV.idf idfL AV.flat flatL AState.le leS leB leC thenK inBlk retQ retK tupAV ViewL MOut newIds

attribute [simp] AV.ren renL AV.ids idsA Ct.ren Ct.ids dropB

@[simp] theorem sto_v {x : Value} : (AV.v x).sto = true := rfl
@[simp] theorem isSt_v {x : Value} : (AV.v x).isSt = false := rfl
@[simp] theorem one_v {x : Value} : (AV.v x).one = true := rfl
@[simp] theorem cells_v {x : Value} : (AV.v x).cells = [.v x] := rfl
@[simp] theorem sto_st {cs : List AV} : (AV.st cs).sto = true := rfl
@[simp] theorem isSt_st {cs : List AV} : (AV.st cs).isSt = true := rfl
@[simp] theorem one_st {cs : List AV} : (AV.st cs).one = false := rfl
@[simp] theorem cells_st {cs : List AV} : (AV.st cs).cells = cs := rfl
@[simp] theorem sto_sl {k : Nat} {xs : List AV} : (AV.sl k xs).sto = true := rfl
@[simp] theorem isSt_sl {k : Nat} {xs : List AV} : (AV.sl k xs).isSt = false := rfl
@[simp] theorem one_sl {k : Nat} {xs : List AV} : (AV.sl k xs).one = true := rfl
@[simp] theorem cells_sl {k : Nat} {xs : List AV} : (AV.sl k xs).cells = [.sl k xs] := rfl
@[simp] theorem sto_ep {x : AV} : (AV.ep x).sto = true := rfl
@[simp] theorem isSt_ep {x : AV} : (AV.ep x).isSt = false := rfl
@[simp] theorem one_ep {x : AV} : (AV.ep x).one = true := rfl
@[simp] theorem cells_ep {x : AV} : (AV.ep x).cells = [.ep x] := rfl
@[simp] theorem sto_own {a b c d : Nat} : (AV.own a b c d).sto = true := rfl
@[simp] theorem isSt_own {a b c d : Nat} : (AV.own a b c d).isSt = false := rfl
@[simp] theorem one_own {a b c d : Nat} : (AV.own a b c d).one = true := rfl
@[simp] theorem cells_own {a b c d : Nat} : (AV.own a b c d).cells = [.own a b c d] := rfl
@[simp] theorem sto_loc {a b : Nat} : (AV.loc a b).sto = true := rfl
@[simp] theorem isSt_loc {a b : Nat} : (AV.loc a b).isSt = false := rfl
@[simp] theorem one_loc {a b : Nat} : (AV.loc a b).one = true := rfl
@[simp] theorem cells_loc {a b : Nat} : (AV.loc a b).cells = [.loc a b] := rfl
@[simp] theorem sto_eloc {a b c d : Nat} : (AV.eloc a b c d).sto = true := rfl
@[simp] theorem isSt_eloc {a b c d : Nat} : (AV.eloc a b c d).isSt = false := rfl
@[simp] theorem one_eloc {a b c d : Nat} : (AV.eloc a b c d).one = true := rfl
@[simp] theorem cells_eloc {a b c d : Nat} : (AV.eloc a b c d).cells = [.eloc a b c d] := rfl
@[simp] theorem sto_mp {a : Nat} : (AV.mp a).sto = true := rfl
@[simp] theorem isSt_mp {a : Nat} : (AV.mp a).isSt = false := rfl
@[simp] theorem one_mp {a : Nat} : (AV.mp a).one = true := rfl
@[simp] theorem cells_mp {a : Nat} : (AV.mp a).cells = [.mp a] := rfl
@[simp] theorem sto_fn {f : Fn} {a b : List AV} : (AV.fn f a b).sto = true := rfl
@[simp] theorem isSt_fn {f : Fn} {a b : List AV} : (AV.fn f a b).isSt = false := rfl
@[simp] theorem one_fn {f : Fn} {a b : List AV} : (AV.fn f a b).one = true := rfl
@[simp] theorem cells_fn {f : Fn} {a b : List AV} : (AV.fn f a b).cells = [.fn f a b] := rfl
@[simp] theorem sto_tup {a : List AV} : (AV.tup a).sto = false := rfl
@[simp] theorem isSt_tup {a : List AV} : (AV.tup a).isSt = false := rfl
@[simp] theorem one_tup {a : List AV} : (AV.tup a).one = false := rfl
@[simp] theorem sto_w : AV.w.sto = true := rfl
@[simp] theorem isSt_w : AV.w.isSt = false := rfl
@[simp] theorem one_w : AV.w.one = true := rfl
@[simp] theorem cells_w : AV.w.cells = [.w] := rfl
@[simp] theorem sto_ifc {t : TypeId} {x : AV} : (AV.ifc t x).sto = true := rfl
@[simp] theorem isSt_ifc {t : TypeId} {x : AV} : (AV.ifc t x).isSt = false := rfl
@[simp] theorem one_ifc {t : TypeId} {x : AV} : (AV.ifc t x).one = true := rfl
@[simp] theorem cells_ifc {t : TypeId} {x : AV} : (AV.ifc t x).cells = [.ifc t x] := rfl

theorem stepBin_congr {P : Program} {o : Oper} {op : BinOp} {T : TypeId} {x y x' y' : AV} {s : AState} {K : AState → Prop} (hx : x = x') (hy : y = y') : stepBin P o op T x y s K = stepBin P o op T x' y' s K := by rw [hx, hy]
attribute [congr] stepBin_congr
@[simp low] theorem stepBin_def {P : Program} {o : Oper} {op : BinOp} {T : TypeId} {x y : AV} {s : AState} {K : AState → Prop} : stepBin P o op T x y s K = (match x, y with
    | .sl _ xs, .v (.slice none _ _) => aSlNil P op T (xs = []) s o.dst K
    | .own _ _ _ n, .v (.slice none _ _) => aSlNil P op T (n = 0) s o.dst K
    | _, _ => qstep P o s K) := rfl
theorem qbin_congr {P : Program} {op : BinOp} {T : TypeId} {x y x' y' : AV} {xc yc : Bool} {cont : AV → Prop} (hx : x = x') (hy : y = y') : qbin P op T x y xc yc cont = qbin P op T x' y' xc yc cont := by rw [hx, hy]
attribute [congr] qbin_congr
section
variable {P : Program} {op : BinOp} {T : TypeId} {x y : AV} {xc yc : Bool} {cont : AV → Prop}
@[simp] theorem qbin_int {k k' : IntKind} {a b : Int} : qbin P op T (.v (.int k a)) (.v (.int k' b)) xc yc cont = (if BinOp.isShift op then shiftInt op k a b cont else k = k' ∧ binInt op k a b cont) := rfl
@[simp] theorem qbin_str {a b : ByteArray} : qbin P op T (.v (.string a)) (.v (.string b)) xc yc cont = strOp op a b cont := rfl
@[simp] theorem qbin_bool_eq {a b : Bool} : qbin P .eql T (.v (.bool a)) (.v (.bool b)) xc yc cont = (P.underlying T = some .bool ∧ cont (.v (.bool (a == b)))) := rfl
@[simp] theorem qbin_bool_ne {a b : Bool} : qbin P .neq T (.v (.bool a)) (.v (.bool b)) xc yc cont = (P.underlying T = some .bool ∧ cont (.v (.bool (!(a == b))))) := rfl
@[simp] theorem qbin_st_eq {a b : List AV} : qbin P .eql T (.st a) (.st b) xc yc cont = (aggB P T = true ∧ P.eqGuardType P.depth T = false ∧ match eqKinds P T with
    | some ks => (match eqA ks a b with
      | some r => cont (.v (.bool r))
      | none => False)
    | none => False) := rfl
@[simp] theorem qbin_st_ne {a b : List AV} : qbin P .neq T (.st a) (.st b) xc yc cont = (aggB P T = true ∧ P.eqGuardType P.depth T = false ∧ match eqKinds P T with
    | some ks => (match eqA ks a b with
      | some r => cont (.v (.bool (!r)))
      | none => False)
    | none => False) := rfl
def nilish : AV → Bool
  | .v (.pointer none) | .v (.map none) | .v .nilFunc | .v .nilIface | .ep _ | .loc _ _ | .eloc _ _ _ _ | .mp _ | .fn _ _ _ | .ifc _ _ => true
  | _ => false
@[simp] theorem qbin_nil_eq (h : nilish x = true) : qbin P .eql T x y xc yc cont = nilCmp P T x y xc yc (fun r => cont (.v (.bool r))) := by
  unfold nilish at h
  split at h <;> first | rfl | (cases h; done)
@[simp] theorem qbin_nil_ne (h : nilish x = true) : qbin P .neq T x y xc yc cont = nilCmp P T x y xc yc (fun r => cont (.v (.bool (!r)))) := by
  unfold nilish at h
  split at h <;> first | rfl | (cases h; done)
attribute [simp] nilish
end

theorem min64 : IntKind.min .i64 = -9223372036854775808 := rfl
theorem max64 : IntKind.max .i64 = 9223372036854775807 := rfl
theorem sg64 : IntKind.signed .i64 = true := rfl
attribute [simp] min64 max64 sg64
section
variable {bf : Nat → Option Ct} {d x : AV}
@[simp] theorem view_self (h : x.idf = true) : View bf x x := .inl ⟨rfl, h⟩
@[simp] theorem view_own {id k off n : Nat} : View bf (.own id k off n) d ↔ match bf id with
    | some (.arr _ k' xs) => k' = k ∧ off + n ≤ xs.length ∧ d = .sl k ((xs.drop off).take n) ∧ idfL ((xs.drop off).take n) = true
    | some (.box _ y) => k = 1 ∧ off = 0 ∧ n = y.cells.length ∧ d = .sl 1 y.cells ∧ idfL y.cells = true
    | _ => False := by
  constructor
  · rintro (⟨rfl, h⟩ | ⟨_, _, _, _, _, _, h, hb, h1, h2, h3⟩ | ⟨_, _, _, _, h, hb, h1, h2, h3⟩ | ⟨_, _, _, h, _⟩ | ⟨_, _, _, h, _⟩)
    · simp [AV.idf] at h
    · cases h; rw [hb]; exact ⟨rfl, h1, h2, h3⟩
    · cases h; rw [hb]; exact ⟨rfl, rfl, h1, h2, h3⟩
    · cases h
    · cases h
  · intro h
    split at h
    · rename_i hb
      obtain ⟨rfl, h1, h2, h3⟩ := h
      exact .inr (.inl ⟨_, _, _, _, _, _, rfl, hb, h1, h2, h3⟩)
    · rename_i hb
      obtain ⟨rfl, rfl, h1, h2, h3⟩ := h
      exact .inr (.inr (.inl ⟨_, _, _, _, rfl, hb, h1, h2, h3⟩))
    · exact h.elim
@[simp] theorem view_loc0 {id : Nat} : View bf (.loc id 0) d ↔ match bf id with
    | some (.box _ y) => d = .ep y ∧ y.idf = true
    | _ => False := by
  constructor
  · rintro (⟨rfl, h⟩ | ⟨_, _, _, _, _, _, h, hb, h1, h2, h3⟩ | ⟨_, _, _, _, h, hb, h1, h2, h3⟩ | ⟨_, _, _, h, hb, h1, h2⟩ | ⟨_, _, _, h, _⟩)
    · simp [AV.idf] at h
    · cases h
    · cases h
    · cases h; rw [hb]; exact ⟨h1, h2⟩
    · cases h
  · intro h
    split at h
    · rename_i hb; exact .inr (.inr (.inr (.inl ⟨_, _, _, rfl, hb, h.1, h.2⟩)))
    · exact h.elim
@[simp] theorem view_v {v : Value} : View bf (.v v) d ↔ d = .v v ∨ ∃ k c, v = .slice none 0 c ∧ d = .sl k [] := by
  constructor
  · rintro (⟨rfl, h⟩ | ⟨_, _, _, _, _, _, h, hb, h1, h2, h3⟩ | ⟨_, _, _, _, h, hb, h1, h2, h3⟩ | ⟨_, _, _, h, hb, h1, h2⟩ | ⟨_, _, _, h, rfl, h1⟩)
    · exact .inl rfl
    · cases h
    · cases h
    · cases h
    · cases h; exact .inr ⟨_, _, rfl, h1⟩
  · rintro (rfl | ⟨k, c, rfl, rfl⟩)
    · exact .inl ⟨rfl, rfl⟩
    · exact .inr (.inr (.inr (.inr ⟨_, _, _, rfl, rfl, rfl⟩)))
@[simp] theorem view_st {cs : List AV} : View bf (.st cs) d ↔ d = .st cs ∧ idfL cs = true := by
  constructor
  · rintro (⟨rfl, h⟩ | ⟨_, _, _, _, _, _, h, hb, h1, h2, h3⟩ | ⟨_, _, _, _, h, hb, h1, h2, h3⟩ | ⟨_, _, _, h, hb, h1, h2⟩ | ⟨_, _, _, h, rfl, h1⟩)
    · exact ⟨rfl, by simpa only [AV.idf] using h⟩
    all_goals cases h
  · rintro ⟨rfl, h⟩
    exact .inl ⟨rfl, by simpa only [AV.idf] using h⟩
@[simp] theorem view_sl {k : Nat} {xs : List AV} : View bf (.sl k xs) d ↔ d = .sl k xs := by
  constructor
  · rintro (⟨rfl, h⟩ | ⟨_, _, _, _, _, _, h, hb, h1, h2, h3⟩ | ⟨_, _, _, _, h, hb, h1, h2, h3⟩ | ⟨_, _, _, h, hb, h1, h2⟩ | ⟨_, _, _, h, rfl, h1⟩)
    · rfl
    all_goals cases h
  · rintro rfl
    exact .inl ⟨rfl, rfl⟩
@[simp] theorem view_ep : View bf (.ep x) d ↔ d = .ep x := by
  constructor
  · rintro (⟨rfl, h⟩ | ⟨_, _, _, _, _, _, h, hb, h1, h2, h3⟩ | ⟨_, _, _, _, h, hb, h1, h2, h3⟩ | ⟨_, _, _, h, hb, h1, h2⟩ | ⟨_, _, _, h, rfl, h1⟩)
    · rfl
    all_goals cases h
  · rintro rfl
    exact .inl ⟨rfl, rfl⟩
@[simp] theorem view_tup {cs : List AV} : View bf (.tup cs) d ↔ d = .tup cs ∧ idfL cs = true := by
  constructor
  · rintro (⟨rfl, h⟩ | ⟨_, _, _, _, _, _, h, hb, h1, h2, h3⟩ | ⟨_, _, _, _, h, hb, h1, h2, h3⟩ | ⟨_, _, _, h, hb, h1, h2⟩ | ⟨_, _, _, h, rfl, h1⟩)
    · exact ⟨rfl, by simpa only [AV.idf] using h⟩
    all_goals cases h
  · rintro ⟨rfl, h⟩
    exact .inl ⟨rfl, by simpa only [AV.idf] using h⟩
@[simp] theorem view_nil {c k : Nat} : View bf (.v (.slice none 0 c)) (.sl k []) := .inr (.inr (.inr (.inr ⟨_, _, _, rfl, rfl, rfl⟩)))
end
end Go.Am
