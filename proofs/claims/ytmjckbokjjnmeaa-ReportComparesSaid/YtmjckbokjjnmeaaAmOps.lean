/- The abstract machine, part 4: the quiet operations, one by one: abstract meaning and its truth. -/
import Derived.Test.YtmjckbokjjnmeaaAmEq
namespace Go.Am
open Go.RowKit

/-! ### equality of cells -/
def eqA1 : SK → AV → AV → Option Bool
  | .b, .v (.bool a), .v (.bool b) => some (a == b)
  | .i, .v (.int k a), .v (.int k' b) => if k = k' then some (decide (a = b)) else none
  | .s, .v (.string a), .v (.string b) => some (decide (a = b))
  | _, _, _ => none

def eqA : List SK → List AV → List AV → Option Bool
  | [], [], [] => some true
  | k :: ks, x :: xs, y :: ys => match eqA1 k x y with
    | some a => (eqA ks xs ys).map (a && ·)
    | none => none
  | _, _, _ => none

theorem eqA1_rep {H : Heap} {ρ : Rho} {k : SK} {x y : AV} {u v : Value} {r : Bool} (hx : Rep H ρ x u) (hy : Rep H ρ y v) (h : eqA1 k x y = some r) : eq1 k u v = some r := by
  unfold eqA1 at h
  split at h
  · rw [hx.v_inv, hy.v_inv]; exact h
  · rw [hx.v_inv, hy.v_inv]; exact h
  · rw [hx.v_inv, hy.v_inv]; exact h
  · cases h

theorem eqA_rep {H : Heap} {ρ : Rho} : ∀ {ks : List SK} {cs ds : List AV} {vs us : List Value} {r : Bool}, RepL H ρ cs vs → RepL H ρ ds us → eqA ks cs ds = some r → eqCells ks vs us = some r
  | [], [], [], vs, us, r, hv, hu, h => by
    rw [hv.nil_inv, hu.nil_inv]; simpa [eqA, eqCells] using h
  | [], [], _ :: _, _, _, _, _, _, h => by simp [eqA] at h
  | [], _ :: _, _, _, _, _, _, _, h => by simp [eqA] at h
  | _ :: _, [], _, _, _, _, _, _, h => by simp [eqA] at h
  | _ :: _, _ :: _, [], _, _, _, _, _, h => by simp [eqA] at h
  | k :: ks, x :: cs, y :: ds, vs, us, r, hv, hu, h => by
    obtain ⟨v, vs', rfl, hv1, hv2⟩ := hv.cons_inv
    obtain ⟨u, us', rfl, hu1, hu2⟩ := hu.cons_inv
    simp only [eqA] at h
    split at h
    · rename_i a ha
      cases hr : eqA ks cs ds with
      | none => rw [hr] at h; simp at h
      | some r' =>
        rw [hr] at h
        simp only [eqCells, eqA1_rep hv1 hu1 ha, eqA_rep hv2 hu2 hr]
        exact h
    · cases h

/-! ### integers -/
def arith (k : IntKind) (n : Int) (cont : AV → Prop) : Prop :=
  if k.signed then (k.min ≤ n ∧ n ≤ k.max) ∧ cont (.v (.int k n)) else cont (.v (.int k (k.wrap n)))

theorem wrap_in (k : IntKind) {n : Int} (h1 : k.min ≤ n) (h2 : n ≤ k.max) : k.wrap n = n := by
  cases k <;> simp only [IntKind.min, IntKind.max, IntKind.wrap, IntKind.signed, IntKind.bits] at * <;> simp at * <;> (try split) <;> omega

theorem arith_sound {k : IntKind} {n : Int} {cont : AV → Prop} (h : arith k n cont) : cont (.v (.int k (k.wrap n))) := by
  unfold arith at h
  split at h
  · rw [wrap_in k h.1.1 h.1.2]; exact h.2
  · exact h

def bitsV (op : BinOp) (k : IntKind) (a b : Int) : Int :=
  match op with
  | .and => k.wrap (BitVec.ofInt k.bits a &&& BitVec.ofInt k.bits b).toNat
  | .or => k.wrap (BitVec.ofInt k.bits a ||| BitVec.ofInt k.bits b).toNat
  | .xor => k.wrap (BitVec.ofInt k.bits a ^^^ BitVec.ofInt k.bits b).toNat
  | _ => k.wrap (BitVec.ofInt k.bits a &&& ~~~ BitVec.ofInt k.bits b).toNat

def binInt (op : BinOp) (k : IntKind) (a b : Int) (cont : AV → Prop) : Prop :=
  match op with
  | .add => arith k (a + b) cont
  | .sub => arith k (a - b) cont
  | .mul => arith k (a * b) cont
  | .quo => b ≠ 0 ∧ arith k (a.tdiv b) cont
  | .rem => b ≠ 0 ∧ cont (.v (.int k (a.tmod b)))
  | .eql => cont (.v (.bool (decide (a = b))))
  | .neq => cont (.v (.bool (!decide (a = b))))
  | .lss => cont (.v (.bool (decide (a < b))))
  | .leq => cont (.v (.bool (decide (a ≤ b))))
  | .gtr => cont (.v (.bool (decide (b < a))))
  | .geq => cont (.v (.bool (decide (b ≤ a))))
  | .and => cont (.v (.int k (bitsV .and k a b)))
  | .or => cont (.v (.int k (bitsV .or k a b)))
  | .xor => cont (.v (.int k (bitsV .xor k a b)))
  | .andNot => cont (.v (.int k (bitsV .andNot k a b)))
  | .shl | .shr => False

def shiftInt (op : BinOp) (k : IntKind) (a b : Int) (cont : AV → Prop) : Prop :=
  0 ≤ b ∧ match op with
  | .shl => arith k (a * 2 ^ (min b.toNat k.bits)) cont
  | .shr => cont (.v (.int k (a.fdiv (2 ^ (min b.toNat k.bits)))))
  | _ => False

def BinOp.isShift : BinOp → Bool | .shl | .shr => true | _ => false

def strOp (op : BinOp) (a b : ByteArray) (cont : AV → Prop) : Prop :=
  match op with
  | .add => a.size + b.size ≤ 9223372036854775807 ∧ cont (.v (.string (a ++ b)))
  | .eql => cont (.v (.bool (decide (a = b))))
  | .neq => cont (.v (.bool (!decide (a = b))))
  | .lss => cont (.v (.bool (Op.bytesLess a.toList b.toList)))
  | .leq => cont (.v (.bool (Op.bytesLess a.toList b.toList || decide (a = b))))
  | .gtr => cont (.v (.bool (!(Op.bytesLess a.toList b.toList || decide (a = b)))))
  | .geq => cont (.v (.bool (!Op.bytesLess a.toList b.toList)))
  | _ => False

/-- Is the pointer, map, function, interface value nil? -/
def nilP : AV → Option Bool
  | .v (.pointer none) => some true
  | .ep _ => some false
  | .loc _ _ => some false
  | .eloc _ _ _ _ => some false
  | _ => none
def nilM : AV → Option Bool
  | .v (.map none) => some true
  | .mp _ => some false
  | _ => none
def nilF : AV → Option Bool
  | .v .nilFunc => some true
  | .fn _ _ _ => some false
  | _ => none
def nilI : AV → Option Bool
  | .v .nilIface => some true
  | .ifc _ _ => some false
  | _ => none

def eqKinds (P : Program) (T : TypeId) : Option (List SK) := kinds P 12 T

/-- Comparing with nil: the type is a pointer's, a map's, a function's, or an interface's (then one side is the constant nil). -/
def nilCmp (P : Program) (T : TypeId) (x y : AV) (xc yc : Bool) (cont : Bool → Prop) : Prop :=
  match P.underlying T with
  | some (.pointer _) => (match nilP x, nilP y with | some a, some b => (a = true ∨ b = true) ∧ cont (a && b) | _, _ => False)
  | some (.map _ _) => (match nilM x, nilM y with | some a, some b => (a = true ∨ b = true) ∧ cont (a && b) | _, _ => False)
  | some (.func _ _ _) => (match nilF x, nilF y with | some a, some b => (a = true ∨ b = true) ∧ cont (a && b) | _, _ => False)
  | some (.interface _) => (match nilI x, nilI y with | some a, some b => (a = true ∨ b = true) ∧ (a = true → b = true → (xc || yc) = true) ∧ cont (a && b) | _, _ => False)
  | _ => False

def qbin (P : Program) (op : BinOp) (T : TypeId) (x y : AV) (xc yc : Bool) (cont : AV → Prop) : Prop :=
  match x, y with
  | .v (.int k a), .v (.int k' b) => if BinOp.isShift op then shiftInt op k a b cont else k = k' ∧ binInt op k a b cont
  | .v (.string a), .v (.string b) => strOp op a b cont
  | .v (.bool a), .v (.bool b) => P.underlying T = some .bool ∧ match op with
    | .eql => cont (.v (.bool (a == b)))
    | .neq => cont (.v (.bool (!(a == b))))
    | _ => False
  | .st xs, .st ys => aggB P T = true ∧ P.eqGuardType P.depth T = false ∧ match eqKinds P T with
    | some ks => (match eqA ks xs ys with
      | some r => (match op with
        | .eql => cont (.v (.bool r))
        | .neq => cont (.v (.bool (!r)))
        | _ => False)
      | none => False)
    | none => False
  | x, y => match op with
    | .eql => nilCmp P T x y xc yc (fun r => cont (.v (.bool r)))
    | .neq => nilCmp P T x y xc yc (fun r => cont (.v (.bool (!r))))
    | _ => False

def isConst : Operand → Bool | .const _ => true | _ => false

theorem run_eqGuard_other {P : Program} {w : World} {op : BinOp} {T : TypeId} {x y : Operand} {a b : Value} (h1 : a ≠ .nilIface ∨ b ≠ .nilIface) (h2 : (∀ xs, a ≠ .agg xs) ∨ (∀ ys, b ≠ .agg ys)) :
    (eqGuard op T x y a b).run P w = .ok () w := by
  unfold eqGuard
  cases op <;> first
    | rfl
    | (simp only [Bool.not_true, Bool.false_eq_true, if_false]
       split
       · simp at h1
       · rename_i xs ys
         rcases h2 with h | h
         · exact absurd rfl (h xs)
         · exact absurd rfl (h ys)
       · rfl)

theorem run_eqGuard_nilc {P : Program} {w : World} {op : BinOp} {T : TypeId} {x y : Operand} (h : (isConst x || isConst y) = true) :
    (eqGuard op T x y .nilIface .nilIface).run P w = .ok () w := by
  unfold eqGuard
  cases op <;> first
    | rfl
    | (cases x <;> cases y <;> first | rfl | (simp [isConst] at h))

theorem nilP_val {H : Heap} {ρ : Rho} {x : AV} {v : Value} {r : Bool} (hr : Rep H ρ x v) (h : nilP x = some r) : ∃ a, v = .pointer a ∧ r = a.isNone := by
  cases hr with
  | v hv => unfold nilP at h; split at h <;> simp_all
  | ep => simp [nilP] at h; subst h; exact ⟨_, rfl, rfl⟩
  | loc => simp [nilP] at h; subst h; exact ⟨_, rfl, rfl⟩
  | eloc => simp [nilP] at h; subst h; exact ⟨_, rfl, rfl⟩
  | _ => simp [nilP] at h
theorem nilM_val {H : Heap} {ρ : Rho} {x : AV} {v : Value} {r : Bool} (hr : Rep H ρ x v) (h : nilM x = some r) : ∃ a, v = .map a ∧ r = a.isNone := by
  cases hr with
  | v hv => unfold nilM at h; split at h <;> simp_all
  | mp => simp [nilM] at h; subst h; exact ⟨_, rfl, rfl⟩
  | _ => simp [nilM] at h
theorem nilF_val {H : Heap} {ρ : Rho} {x : AV} {v : Value} {r : Bool} (hr : Rep H ρ x v) (h : nilF x = some r) : (r = true ∧ v = .nilFunc) ∨ (r = false ∧ ∃ f a b, v = .func f a b) := by
  cases hr with
  | v hv => unfold nilF at h; split at h <;> simp_all
  | fn => simp [nilF] at h; subst h; exact .inr ⟨rfl, _, _, _, rfl⟩
  | _ => simp [nilF] at h
theorem nilI_val {H : Heap} {ρ : Rho} {x : AV} {v : Value} {r : Bool} (hr : Rep H ρ x v) (h : nilI x = some r) : (r = true ∧ v = .nilIface) ∨ (r = false ∧ ∃ t u, v = .iface t u) := by
  cases hr with
  | v hv => unfold nilI at h; split at h <;> simp_all
  | ifc => simp [nilI] at h; subst h; exact .inr ⟨rfl, _, _, rfl⟩
  | _ => simp [nilI] at h

theorem run_binOp_eq {P : Program} {w : World} {op : BinOp} {T : TypeId} {u v : Value} {r : Bool} (hne : (∀ k a, u ≠ .int k a) ∧ (∀ k a, u ≠ .float k a) ∧ (∀ k a b, u ≠ .complex k a b) ∧ (∀ s, u ≠ .string s))
    (he : (Op.equal T u v).run P w = .ok r w) : (op = .eql → (binOp op T u v).run P w = .ok (.bool r) w) ∧ (op = .neq → (binOp op T u v).run P w = .ok (.bool (!r)) w) := by
  obtain ⟨h1, h2, h3, h4⟩ := hne
  constructor
  · rintro rfl
    cases u <;> first
      | (exact absurd rfl (h1 _ _))
      | (exact absurd rfl (h2 _ _))
      | (exact absurd rfl (h3 _ _ _))
      | (exact absurd rfl (h4 _))
      | (cases v <;> simp [binOp, he])
  · rintro rfl
    cases u <;> first
      | (exact absurd rfl (h1 _ _))
      | (exact absurd rfl (h2 _ _))
      | (exact absurd rfl (h3 _ _ _))
      | (exact absurd rfl (h4 _))
      | (cases v <;> simp [binOp, he])

theorem eqIn_ptr {P : Program} {w : World} (d : Nat) {T e : TypeId} (hT : P.underlying T = some (.pointer e)) (a b : Option Addr) (h : a.isNone = true ∨ b.isNone = true) :
    (Op.equalIn (d + 1) T (.pointer a) (.pointer b)).run P w = .ok (a.isNone && b.isNone) w := by
  cases a <;> cases b <;> simp_all [Op.equalIn, run_underlying hT]
theorem eqIn_map {P : Program} {w : World} (d : Nat) {T k e : TypeId} (hT : P.underlying T = some (.map k e)) (a b : Option Nat) (h : a.isNone = true ∨ b.isNone = true) :
    (Op.equalIn (d + 1) T (.map a) (.map b)).run P w = .ok (a.isNone && b.isNone) w := by
  cases a <;> cases b <;> simp_all [Op.equalIn, run_underlying hT]
theorem eqIn_ff {P : Program} {w : World} (d : Nat) {T : TypeId} {p r s} (hT : P.underlying T = some (.func p r s)) : (Op.equalIn (d + 1) T .nilFunc .nilFunc).run P w = .ok true w := by
  simp [Op.equalIn, run_underlying hT]
theorem eqIn_fg {P : Program} {w : World} (d : Nat) {T : TypeId} {p r s} (hT : P.underlying T = some (.func p r s)) (f a b) : (Op.equalIn (d + 1) T .nilFunc (.func f a b)).run P w = .ok false w := by
  simp [Op.equalIn, run_underlying hT]
theorem eqIn_gf {P : Program} {w : World} (d : Nat) {T : TypeId} {p r s} (hT : P.underlying T = some (.func p r s)) (f a b) : (Op.equalIn (d + 1) T (.func f a b) .nilFunc).run P w = .ok false w := by
  simp [Op.equalIn, run_underlying hT]
theorem eqIn_ii {P : Program} {w : World} (d : Nat) {T : TypeId} {ms} (hT : P.underlying T = some (.interface ms)) : (Op.equalIn (d + 1) T .nilIface .nilIface).run P w = .ok true w := by
  simp [Op.equalIn, run_underlying hT]
theorem eqIn_ij {P : Program} {w : World} (d : Nat) {T : TypeId} {ms} (hT : P.underlying T = some (.interface ms)) (t u) : (Op.equalIn (d + 1) T .nilIface (.iface t u)).run P w = .ok false w := by
  simp [Op.equalIn, run_underlying hT]
theorem eqIn_ji {P : Program} {w : World} (d : Nat) {T : TypeId} {ms} (hT : P.underlying T = some (.interface ms)) (t u) : (Op.equalIn (d + 1) T (.iface t u) .nilIface).run P w = .ok false w := by
  simp [Op.equalIn, run_underlying hT]

theorem nilCmp_sound {P : Program} {w : World} {T : TypeId} {H : Heap} {ρ : Rho} {x y : AV} {u v : Value} {xc yc : Bool} {cont : Bool → Prop} (hx : Rep H ρ x u) (hy : Rep H ρ y v) (h : nilCmp P T x y xc yc cont) :
    ∃ r, cont r ∧ (Op.equal T u v).run P w = .ok r w ∧ ((∀ k a, u ≠ .int k a) ∧ (∀ k a, u ≠ .float k a) ∧ (∀ k a b, u ≠ .complex k a b) ∧ (∀ s, u ≠ .string s)) ∧
      (∀ xs, u ≠ .agg xs) ∧ (u = .nilIface → v = .nilIface → (xc || yc) = true) := by
  unfold Op.equal Op.maxDepth
  rw [show (10000 : Nat) = 9999 + 1 from rfl]
  generalize (9999 : Nat) = d
  unfold nilCmp at h
  split at h
  · rename_i e hT
    split at h
    · rename_i a b ha hb
      obtain ⟨u', rfl, rfl⟩ := nilP_val hx ha
      obtain ⟨v', rfl, rfl⟩ := nilP_val hy hb
      exact ⟨_, h.2, eqIn_ptr d hT _ _ h.1, by simp, by simp, by simp⟩
    · exact h.elim
  · rename_i k e hT
    split at h
    · rename_i a b ha hb
      obtain ⟨u', rfl, rfl⟩ := nilM_val hx ha
      obtain ⟨v', rfl, rfl⟩ := nilM_val hy hb
      exact ⟨_, h.2, eqIn_map d hT _ _ h.1, by simp, by simp, by simp⟩
    · exact h.elim
  · rename_i p r s hT
    split at h
    · rename_i a b ha hb
      have h1 := h.1
      refine ⟨_, h.2, ?_⟩
      rcases nilF_val hx ha with ⟨rfl, rfl⟩ | ⟨rfl, f, c, d', rfl⟩ <;> rcases nilF_val hy hb with ⟨rfl, rfl⟩ | ⟨rfl, f2, c2, d2, rfl⟩
      · exact ⟨eqIn_ff d hT, by simp, by simp, by simp⟩
      · exact ⟨eqIn_fg d hT _ _ _, by simp, by simp, by simp⟩
      · exact ⟨eqIn_gf d hT _ _ _, by simp, by simp, by simp⟩
      · simp at h1
    · exact h.elim
  · rename_i ms hT
    split at h
    · rename_i a b ha hb
      have h1 := h.1
      have h2 := h.2.1
      refine ⟨_, h.2.2, ?_⟩
      rcases nilI_val hx ha with ⟨rfl, rfl⟩ | ⟨rfl, t, c, rfl⟩ <;> rcases nilI_val hy hb with ⟨rfl, rfl⟩ | ⟨rfl, t2, c2, rfl⟩
      · exact ⟨eqIn_ii d hT, by simp, by simp, fun _ _ => h2 rfl rfl⟩
      · exact ⟨eqIn_ij d hT _ _, by simp, by simp, by simp⟩
      · exact ⟨eqIn_ji d hT _ _, by simp, by simp, by simp⟩
      · simp at h1
    · exact h.elim
  · exact h.elim

theorem strOp_sound {P : Program} {w : World} {op : BinOp} {a b : ByteArray} {cont : AV → Prop} (h : strOp op a b cont) : ∃ u, cont (.v u) ∧ okV u = true ∧ (Op.stringOp op a b).run P w = .ok u w := by
  have he : (a.toList == b.toList) = decide (a = b) := by rw [← beq_toListBytes, ba_beq]
  unfold strOp at h
  cases op <;> simp only at h <;> first
    | exact h.elim
    | (refine ⟨_, h, rfl, ?_⟩; simp only [Op.stringOp, he]; rfl)
    | (refine ⟨_, h.2, rfl, ?_⟩
       have h1 := h.1
       have h2 : ¬ ((a.size + b.size : Nat) : Int) > IntKind.i64.max := by simp only [IntKind.max, IntKind.signed, IntKind.bits]; simp; omega
       simp only [Op.stringOp, if_neg h2]
       rfl)

theorem binInt_sound {P : Program} {w : World} {op : BinOp} {k : IntKind} {T : TypeId} {a b : Int} {cont : AV → Prop} (h : binInt op k a b cont) : ∃ u, cont (.v u) ∧ okV u = true ∧ (binOp op T (.int k a) (.int k b)).run P w = .ok u w := by
  unfold binInt at h
  cases op <;> simp only at h
  case add => exact ⟨_, arith_sound h, rfl, by simp [binOp, Op.intArith]⟩
  case sub => exact ⟨_, arith_sound h, rfl, by simp [binOp, Op.intArith]⟩
  case mul => exact ⟨_, arith_sound h, rfl, by simp [binOp, Op.intArith]⟩
  case quo => exact ⟨_, arith_sound h.2, rfl, by simp [binOp, Op.intDiv, h.1]⟩
  case rem => exact ⟨_, h.2, rfl, by simp [binOp, Op.intDiv, h.1]⟩
  case and => exact ⟨_, h, rfl, by simp [binOp, Op.intBits, bitsV]⟩
  case or => exact ⟨_, h, rfl, by simp [binOp, Op.intBits, bitsV]⟩
  case xor => exact ⟨_, h, rfl, by simp [binOp, Op.intBits, bitsV]⟩
  case andNot => exact ⟨_, h, rfl, by simp [binOp, Op.intBits, bitsV]⟩
  case eql => exact ⟨_, h, rfl, by simp [binOp, Op.intCmp]; rfl⟩
  case neq => exact ⟨_, h, rfl, by simp [binOp, Op.intCmp, bne]; rfl⟩
  case lss => exact ⟨_, h, rfl, by simp [binOp, Op.intCmp]⟩
  case leq => exact ⟨_, h, rfl, by simp [binOp, Op.intCmp]⟩
  case gtr => exact ⟨_, h, rfl, by simp [binOp, Op.intCmp]⟩
  case geq => exact ⟨_, h, rfl, by simp [binOp, Op.intCmp]⟩

theorem shiftInt_sound {P : Program} {w : World} {op : BinOp} {k k' : IntKind} {T : TypeId} {a b : Int} {cont : AV → Prop} (h : shiftInt op k a b cont) : ∃ u, cont (.v u) ∧ okV u = true ∧ (binOp op T (.int k a) (.int k' b)).run P w = .ok u w := by
  unfold shiftInt at h
  obtain ⟨h0, h⟩ := h
  have hn : ¬ b < 0 := by omega
  cases op <;> simp only at h
  case shl => exact ⟨_, arith_sound h, rfl, by simp [binOp, Op.shift, hn]⟩
  case shr => exact ⟨_, h, rfl, by simp [binOp, Op.shift, hn]⟩

theorem qbin_sound {P : Program} {w : World} {op : BinOp} {T : TypeId} {x y : AV} {ox oy : Operand} {u v : Value} {H : Heap} {ρ : Rho} {cont : AV → Prop} (hx : Rep H ρ x u) (hy : Rep H ρ y v)
    (h : qbin P op T x y (isConst ox) (isConst oy) cont) : ∃ r, cont (.v r) ∧ okV r = true ∧ (eqGuard op T ox oy u v).run P w = .ok () w ∧ (binOp op T u v).run P w = .ok r w := by
  unfold qbin at h
  split at h
  · rename_i k a k' b
    rw [hx.v_inv, hy.v_inv]
    have hg := run_eqGuard_other (P := P) (w := w) (op := op) (T := T) (x := ox) (y := oy) (a := .int k a) (b := .int k' b) (by simp) (by simp)
    split at h
    · obtain ⟨r, h1, h2, h3⟩ := shiftInt_sound (P := P) (w := w) (k' := k') (T := T) h
      exact ⟨r, h1, h2, hg, h3⟩
    · obtain ⟨rfl, h⟩ := h
      obtain ⟨r, h1, h2, h3⟩ := binInt_sound (P := P) (w := w) (T := T) h
      exact ⟨r, h1, h2, hg, h3⟩
  · rename_i a b
    rw [hx.v_inv, hy.v_inv]
    have hg := run_eqGuard_other (P := P) (w := w) (op := op) (T := T) (x := ox) (y := oy) (a := .string a) (b := .string b) (by simp) (by simp)
    obtain ⟨r, h1, h2, h3⟩ := strOp_sound (P := P) (w := w) h
    refine ⟨r, h1, h2, hg, ?_⟩
    rw [← h3]
    cases op <;> rfl
  · rename_i a b
    rw [hx.v_inv, hy.v_inv]
    have hg := run_eqGuard_other (P := P) (w := w) (op := op) (T := T) (x := ox) (y := oy) (a := .bool a) (b := .bool b) (by simp) (by simp)
    obtain ⟨hT, h⟩ := h
    have he : (Op.equal T (.bool a) (.bool b)).run P w = .ok (a == b) w := by
      unfold Op.equal Op.maxDepth
      rw [show (10000 : Nat) = 9999 + 1 from rfl]
      exact run_equalIn_bool w _ T a b hT
    have hb := run_binOp_eq (op := op) (v := .bool b) (by simp) he
    split at h
    · exact ⟨_, h, rfl, hg, hb.1 rfl⟩
    · exact ⟨_, h, rfl, hg, hb.2 rfl⟩
    · exact h.elim
  · rename_i xs ys
    obtain ⟨hagg, hgt, h⟩ := h
    split at h
    · rename_i ks hks
      split at h
      · rename_i r hr
        cases hx with
        | st hl h1 hx =>
          cases hy with
          | st hl' h1' hy =>
            rename_i us vs
            have hc := eqA_rep ⟨hl, hx⟩ ⟨hl', hy⟩ hr
            have he : (Op.equal T (.agg us.toArray) (.agg vs.toArray)).run P w = .ok r w := by
              have := run_equalIn_kinds 12 T ks hks 10000 (by omega) us vs r w hc
              simp only [valOf, hagg, if_true] at this
              exact this
            have hb := run_binOp_eq (op := op) (v := .agg vs.toArray) (by simp) he
            have hg := run_eqGuard_agg (P := P) w op T ox oy us.toArray vs.toArray hgt
            split at h
            · exact ⟨_, h, rfl, hg, hb.1 rfl⟩
            · exact ⟨_, h, rfl, hg, hb.2 rfl⟩
            · exact h.elim
      · exact h.elim
    · exact h.elim
  · split at h
    · obtain ⟨r, h1, h2, h3, h4, h5⟩ := nilCmp_sound (P := P) (w := w) hx hy h
      refine ⟨_, h1, rfl, ?_, (run_binOp_eq h3 h2).1 rfl⟩
      by_cases hn : u = .nilIface ∧ v = .nilIface
      · obtain ⟨rfl, rfl⟩ := hn
        exact run_eqGuard_nilc (h5 rfl rfl)
      · exact run_eqGuard_other (by
          by_cases h1 : u = .nilIface
          · right; exact fun h2 => hn ⟨h1, h2⟩
          · left; exact h1) (.inl h4)
    · obtain ⟨r, h1, h2, h3, h4, h5⟩ := nilCmp_sound (P := P) (w := w) hx hy h
      refine ⟨_, h1, rfl, ?_, (run_binOp_eq h3 h2).2 rfl⟩
      by_cases hn : u = .nilIface ∧ v = .nilIface
      · obtain ⟨rfl, rfl⟩ := hn
        exact run_eqGuard_nilc (h5 rfl rfl)
      · exact run_eqGuard_other (by
          by_cases h1 : u = .nilIface
          · right; exact fun h2 => hn ⟨h1, h2⟩
          · left; exact h1) (.inl h4)
    · exact h.elim

end Go.Am
