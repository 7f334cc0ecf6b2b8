/- within, Check, CheckExchange. -/
import Derived.Test.YtmjckbokjjnmeaaG4
set_option maxRecDepth 100000
namespace Go.Proofs.Ytmjckbokjjnmeaa
open Go.Am

def idxI (p : Int → Bool) (i : Nat) : List Int → Int
  | [] => -1
  | x :: l => if p x then i else idxI p (i + 1) l
theorem idxI_drop {p : Int → Bool} {l : List Int} {i : Nat} (h : i < l.length) : idxI p i (l.drop i) = if p l[i] then (i : Int) else idxI p (i + 1) (l.drop (i + 1)) := by
  rw [List.drop_eq_getElem_cons h]; rfl
theorem idxI_any' {p : Int → Bool} : ∀ {l : List Int} {i : Nat}, 0 ≤ idxI p i l ↔ l.any p = true
  | [], _ => by simp [idxI]
  | x :: l, i => by
    have ih := idxI_any' (p := p) (l := l) (i := i + 1)
    cases h : p x with
    | true => simp [idxI, h]
    | false => simp only [idxI, h, List.any_cons, Bool.false_or]; exact ih
theorem idxI_any {p : Int → Bool} {l : List Int} {i : Nat} : decide (0 ≤ idxI p i l) = l.any p := by
  rw [Bool.eq_iff_iff, decide_eq_true_eq]; exact idxI_any'
theorem s73 (p : Int → Bool) (g : FuncId) (cs : List AV) (hcs : idfL cs = true) (hp : ∀ r, PSpec Try.prog g (iA r :: cs) (bA (p r))) (l : List Int) (hl : l.length ≤ 1000000000) :
    PSpec Try.prog 73 [.sl 1 (l.map iA), .fn (.func g) [] cs] (iA (idxI p 0 l)) := by
  refine PSpec_of Try.func73 rfl rfl (Nat.le_of_ble_eq_true rfl) (Nat.le_of_ble_eq_true rfl) ?_
  intro E hE
  repeat' (first
    | with_reducible refine useK (by assumption) ?_
    | with_reducible refine useK2 (by assumption) ?_
    | with_reducible refine useX (by assumption) ?_
    | with_reducible refine AW_seqk fun K hK => ?_
    | (with_reducible refine AW_regionS rfl (by rw [hE]; decide) ?_; simp [*])
    | with_reducible refine AW_region (by rw [hE]; decide) ?_
    | ((with_reducible show RK _ _ _ _ _ _); refine RK_nilk ?_; simp [*])
    | ((with_reducible show RK _ _ _ _ _ _); refine RK_stepk fun K' hK' => ?_; simp [*])
    | with_reducible refine AW_drawq mixed (by rw [hE]; decide) (by simp [newOK]) ?_
    | ((with_reducible show RKQ _ _ _ _ _ _); refine RKQ_nilk ⟨by decide, ?_⟩)
    | ((with_reducible show RKQ _ _ _ _ _ _); refine RKQ_stepk fun K' hK' => ?_; simp [*])
    | (with_reducible refine AW_if fun X Y hX hY => ?_; simp [*])
    | with_reducible refine AW_block ?_
    | (with_reducible refine AW_ret ?_; simp [*])
    | (with_reducible refine AW_skip ?_; simp [*])
    | (with_reducible refine AW_exit ?_; simp [*])
    | with_reducible refine And.intro ?_ ?_
    | omega
    | (refine imp1 fun h => ?_))
  refine AW_loopk (G := Nat) (fun i => ⟨[(8, iA i), (7, iA l.length), (0, .sl 1 (l.map iA)), (1, .fn (.func g) [] cs)], []⟩)
    (fun i => i ≤ l.length ∧ idxI p i (l.drop i) = idxI p 0 l) (fun i => l.length - i) 0 (by simp) (by simp) ?_
  rintro i ⟨hi, heq⟩ K hK
  by_cases hlt : i < l.length
  · have hd := idxI_drop (p := p) hlt
    rw [heq] at hd
    replace hd := Hld.mk hd
    replace heq := Hld.mk heq
    repeat' (first
      | with_reducible refine useK (by assumption) ?_
      | with_reducible refine useK2 (by assumption) ?_
      | with_reducible refine useX (by assumption) ?_
      | with_reducible refine AW_seqk fun K hK => ?_
      | (with_reducible refine AW_regionS rfl (by rw [hE]; decide) ?_; simp [*])
      | with_reducible refine AW_region (by rw [hE]; decide) ?_
      | ((with_reducible show RK _ _ _ _ _ _); refine RK_nilk ?_; simp [*])
      | ((with_reducible show RK _ _ _ _ _ _); refine RK_stepk fun K' hK' => ?_; simp [*])
      | with_reducible refine AW_drawq mixed (by rw [hE]; decide) (by simp [newOK]) ?_
      | ((with_reducible show RKQ _ _ _ _ _ _); refine RKQ_nilk ⟨by decide, ?_⟩)
      | ((with_reducible show RKQ _ _ _ _ _ _); refine RKQ_stepk fun K' hK' => ?_; simp [*])
      | (with_reducible refine AW_if fun X Y hX hY => ?_; simp [*])
      | with_reducible refine AW_block ?_
      | (with_reducible refine AW_ret ?_; simp [*])
      | (with_reducible refine AW_skip ?_; simp [*])
      | (with_reducible refine AW_exit ?_; simp [*])
      | (refine acall_same (hp _) ?_ ?_ ?_; (focus (simp [*] <;> fail)); (focus (simp [*] <;> fail)); simp [*])
      | (refine call_same (hp _) ?_ ?_ ?_; (focus (simp [*] <;> fail)); (focus (simp [*] <;> fail)); simp [*])
      | (refine acall_view (hp _) ?_ ?_ ?_; (focus (simp [*] <;> fail)); (focus (simp [*] <;> fail)); simp [*])
      | (refine call_view (hp _) ?_ ?_ ?_; (focus (simp [*] <;> fail)); (focus (simp [*] <;> fail)); simp [*])
      | with_reducible refine And.intro ?_ ?_
      | omega
      | (refine imp1 fun h => ?_))
    · rw [hd.out]; simp [*]
    · exact ⟨i + 1, ⟨by omega, by rw [hd.out]; simp [*]⟩, by omega, by simp⟩
  · obtain rfl : i = l.length := by omega
    rw [List.drop_length] at heq
    replace heq := Hld.mk heq
    repeat' (first
      | with_reducible refine useK (by assumption) ?_
      | with_reducible refine useK2 (by assumption) ?_
      | with_reducible refine useX (by assumption) ?_
      | with_reducible refine AW_seqk fun K hK => ?_
      | (with_reducible refine AW_regionS rfl (by rw [hE]; decide) ?_; simp [*])
      | with_reducible refine AW_region (by rw [hE]; decide) ?_
      | ((with_reducible show RK _ _ _ _ _ _); refine RK_nilk ?_; simp [*])
      | ((with_reducible show RK _ _ _ _ _ _); refine RK_stepk fun K' hK' => ?_; simp [*])
      | with_reducible refine AW_drawq mixed (by rw [hE]; decide) (by simp [newOK]) ?_
      | ((with_reducible show RKQ _ _ _ _ _ _); refine RKQ_nilk ⟨by decide, ?_⟩)
      | ((with_reducible show RKQ _ _ _ _ _ _); refine RKQ_stepk fun K' hK' => ?_; simp [*])
      | (with_reducible refine AW_if fun X Y hX hY => ?_; simp [*])
      | with_reducible refine AW_block ?_
      | (with_reducible refine AW_ret ?_; simp [*])
      | (with_reducible refine AW_skip ?_; simp [*])
      | (with_reducible refine AW_exit ?_; simp [*])
      | with_reducible refine And.intro ?_ ?_
      | omega
      | (refine imp1 fun h => ?_))
    exact heq.out.symm
theorem s58 (p : Int → Bool) (g : FuncId) (cs : List AV) (hcs : idfL cs = true) (hp : ∀ r, PSpec Try.prog g (iA r :: cs) (bA (p r))) (l : List Int) (hl : l.length ≤ 1000000000) :
    PSpec Try.prog 58 [.sl 1 (l.map iA), .fn (.func g) [] cs] (bA (l.any p)) := by
  have ha := idxI_any (p := p) (l := l) (i := 0)
  refine PSpec_of Try.func58 rfl rfl (Nat.le_of_ble_eq_true rfl) (Nat.le_of_ble_eq_true rfl) ?_
  intro E hE
  repeat' (first
    | with_reducible refine useK (by assumption) ?_
    | with_reducible refine useK2 (by assumption) ?_
    | with_reducible refine useX (by assumption) ?_
    | with_reducible refine AW_seqk fun K hK => ?_
    | (with_reducible refine AW_regionS rfl (by rw [hE]; decide) ?_; simp [*])
    | with_reducible refine AW_region (by rw [hE]; decide) ?_
    | ((with_reducible show RK _ _ _ _ _ _); refine RK_nilk ?_; simp [*])
    | ((with_reducible show RK _ _ _ _ _ _); refine RK_stepk fun K' hK' => ?_; simp [*])
    | with_reducible refine AW_drawq mixed (by rw [hE]; decide) (by simp [newOK]) ?_
    | ((with_reducible show RKQ _ _ _ _ _ _); refine RKQ_nilk ⟨by decide, ?_⟩)
    | ((with_reducible show RKQ _ _ _ _ _ _); refine RKQ_stepk fun K' hK' => ?_; simp [*])
    | (with_reducible refine AW_if fun X Y hX hY => ?_; simp [*])
    | with_reducible refine AW_block ?_
    | (with_reducible refine AW_ret ?_; simp [*])
    | (with_reducible refine AW_skip ?_; simp [*])
    | (with_reducible refine AW_exit ?_; simp [*])
    | (refine acall_same (s73 p g cs hcs hp l hl) ?_ ?_ ?_; (focus (simp [*] <;> fail)); (focus (simp [*] <;> fail)); simp [*])
    | (refine call_same (s73 p g cs hcs hp l hl) ?_ ?_ ?_; (focus (simp [*] <;> fail)); (focus (simp [*] <;> fail)); simp [*])
    | (refine acall_view (s73 p g cs hcs hp l hl) ?_ ?_ ?_; (focus (simp [*] <;> fail)); (focus (simp [*] <;> fail)); simp [*])
    | (refine call_view (s73 p g cs hcs hp l hl) ?_ ?_ ?_; (focus (simp [*] <;> fail)); (focus (simp [*] <;> fail)); simp [*])
    | with_reducible refine And.intro ?_ ?_
    | omega
    | (refine imp1 fun h => ?_))
theorem s59 (n a b : Int) : PSpec Try.prog 59 [iA n, .ep (iA a), .ep (iA b)] (bA (decide (n < a) || decide (b < n))) := by
  refine PSpec_of Try.func59 rfl rfl (Nat.le_of_ble_eq_true rfl) (Nat.le_of_ble_eq_true rfl) ?_
  intro E hE
  by_cases h : n < a
  · repeat' (first
      | with_reducible refine useK (by assumption) ?_
      | with_reducible refine useK2 (by assumption) ?_
      | with_reducible refine useX (by assumption) ?_
      | with_reducible refine AW_seqk fun K hK => ?_
      | (with_reducible refine AW_regionS rfl (by rw [hE]; decide) ?_; simp [*])
      | with_reducible refine AW_region (by rw [hE]; decide) ?_
      | ((with_reducible show RK _ _ _ _ _ _); refine RK_nilk ?_; simp [*])
      | ((with_reducible show RK _ _ _ _ _ _); refine RK_stepk fun K' hK' => ?_; simp [*])
      | with_reducible refine AW_drawq mixed (by rw [hE]; decide) (by simp [newOK]) ?_
      | ((with_reducible show RKQ _ _ _ _ _ _); refine RKQ_nilk ⟨by decide, ?_⟩)
      | ((with_reducible show RKQ _ _ _ _ _ _); refine RKQ_stepk fun K' hK' => ?_; simp [*])
      | (with_reducible refine AW_if fun X Y hX hY => ?_; simp [*])
      | with_reducible refine AW_block ?_
      | (with_reducible refine AW_ret ?_; simp [*])
      | (with_reducible refine AW_skip ?_; simp [*])
      | (with_reducible refine AW_exit ?_; simp [*])
      | with_reducible refine And.intro ?_ ?_
      | omega
      | (refine imp1 fun h => ?_))
  · repeat' (first
      | with_reducible refine useK (by assumption) ?_
      | with_reducible refine useK2 (by assumption) ?_
      | with_reducible refine useX (by assumption) ?_
      | with_reducible refine AW_seqk fun K hK => ?_
      | (with_reducible refine AW_regionS rfl (by rw [hE]; decide) ?_; simp [*])
      | with_reducible refine AW_region (by rw [hE]; decide) ?_
      | ((with_reducible show RK _ _ _ _ _ _); refine RK_nilk ?_; simp [*])
      | ((with_reducible show RK _ _ _ _ _ _); refine RK_stepk fun K' hK' => ?_; simp [*])
      | with_reducible refine AW_drawq mixed (by rw [hE]; decide) (by simp [newOK]) ?_
      | ((with_reducible show RKQ _ _ _ _ _ _); refine RKQ_nilk ⟨by decide, ?_⟩)
      | ((with_reducible show RKQ _ _ _ _ _ _); refine RKQ_stepk fun K' hK' => ?_; simp [*])
      | (with_reducible refine AW_if fun X Y hX hY => ?_; simp [*])
      | with_reducible refine AW_block ?_
      | (with_reducible refine AW_ret ?_; simp [*])
      | (with_reducible refine AW_skip ?_; simp [*])
      | (with_reducible refine AW_exit ?_; simp [*])
      | with_reducible refine And.intro ?_ ?_
      | omega
      | (refine imp1 fun h => ?_))
theorem s46 (a b : Int) (l : List Int) (hl : l.length ≤ 1000000000) : PSpec Try.prog 46 [iA a, iA b, .sl 1 (l.map iA)] (bA (!l.any fun n => decide (n < a) || decide (b < n))) := by
  refine PSpec_of Try.func46 rfl rfl (Nat.le_of_ble_eq_true rfl) (Nat.le_of_ble_eq_true rfl) ?_
  intro E hE
  refine AW_seqk fun K hK => ?_
  refine AW_region (by rw [hE]; decide) ?_
  simp
  refine useK (by assumption) ?_
  refine AW_freeze 3 (t := ⟨[(3, .ep (iA a)), (4, .loc 4 0), (2, .sl 1 (l.map iA))], [(4, .box 3 (iA b))]⟩) rfl (by simp) (by simp) ?_
  refine AW_freeze 4 (t := ⟨[(3, .ep (iA a)), (4, .ep (iA b)), (2, .sl 1 (l.map iA))], []⟩) rfl (by simp) (by simp) ?_
  repeat' (first
    | with_reducible refine useK (by assumption) ?_
    | with_reducible refine useK2 (by assumption) ?_
    | with_reducible refine useX (by assumption) ?_
    | with_reducible refine AW_seqk fun K hK => ?_
    | (with_reducible refine AW_regionS rfl (by rw [hE]; decide) ?_; simp [*])
    | with_reducible refine AW_region (by rw [hE]; decide) ?_
    | ((with_reducible show RK _ _ _ _ _ _); refine RK_nilk ?_; simp [*])
    | ((with_reducible show RK _ _ _ _ _ _); refine RK_stepk fun K' hK' => ?_; simp [*])
    | with_reducible refine AW_drawq mixed (by rw [hE]; decide) (by simp [newOK]) ?_
    | ((with_reducible show RKQ _ _ _ _ _ _); refine RKQ_nilk ⟨by decide, ?_⟩)
    | ((with_reducible show RKQ _ _ _ _ _ _); refine RKQ_stepk fun K' hK' => ?_; simp [*])
    | (with_reducible refine AW_if fun X Y hX hY => ?_; simp [*])
    | with_reducible refine AW_block ?_
    | (with_reducible refine AW_ret ?_; simp [*])
    | (with_reducible refine AW_skip ?_; simp [*])
    | (with_reducible refine AW_exit ?_; simp [*])
    | (refine acall_same (s58 (fun n => decide (n < a) || decide (b < n)) 59 [.ep (iA a), .ep (iA b)] rfl (fun r => s59 r a b) l hl) ?_ ?_ ?_; (focus (simp [*] <;> fail)); (focus (simp [*] <;> fail)); simp [*])
    | (refine call_same (s58 (fun n => decide (n < a) || decide (b < n)) 59 [.ep (iA a), .ep (iA b)] rfl (fun r => s59 r a b) l hl) ?_ ?_ ?_; (focus (simp [*] <;> fail)); (focus (simp [*] <;> fail)); simp [*])
    | (refine acall_view (s58 (fun n => decide (n < a) || decide (b < n)) 59 [.ep (iA a), .ep (iA b)] rfl (fun r => s59 r a b) l hl) ?_ ?_ ?_; (focus (simp [*] <;> fail)); (focus (simp [*] <;> fail)); simp [*])
    | (refine call_view (s58 (fun n => decide (n < a) || decide (b < n)) 59 [.ep (iA a), .ep (iA b)] rfl (fun r => s59 r a b) l hl) ?_ ?_ ?_; (focus (simp [*] <;> fail)); (focus (simp [*] <;> fail)); simp [*])
    | with_reducible refine And.intro ?_ ?_
    | omega
    | (refine imp1 fun h => ?_))
def outI (a b n : Int) : Bool := decide (n < a) || decide (b < n)
def chkR (r : R) : Int := if outI 1 1073741824 r.o then 27 else if outI 0 1073741824 r.s || outI 0 1073741824 r.v || outI 0 1073741824 r.d then 2 else if outI 0 1073741824 r.t then 26 else if outI (-1048576) 1048576 r.x || outI (-1048576) 1048576 r.y then 2 else 0
theorem any1 (a b x : Int) : (!([x].any fun n => decide (n < a) || decide (b < n))) = !outI a b x := by simp [outI]
theorem any2 (a b x y : Int) : (!([x, y].any fun n => decide (n < a) || decide (b < n))) = (!(outI a b x || outI a b y)) := by simp [outI]
theorem any3 (a b x y z : Int) : (!([x, y, z].any fun n => decide (n < a) || decide (b < n))) = (!(outI a b x || outI a b y || outI a b z)) := by simp [outI, Bool.or_assoc]
theorem s46a (a b x : Int) : PSpec Try.prog 46 [iA a, iA b, .sl 1 [iA x]] (bA (!outI a b x)) := by have := s46 a b [x] (by simp); rw [any1] at this; exact this
theorem s46b (a b x y : Int) : PSpec Try.prog 46 [iA a, iA b, .sl 1 [iA x, iA y]] (bA (!(outI a b x || outI a b y))) := by have := s46 a b [x, y] (by simp); rw [any2] at this; exact this
theorem s46c (a b x y z : Int) : PSpec Try.prog 46 [iA a, iA b, .sl 1 [iA x, iA y, iA z]] (bA (!(outI a b x || outI a b y || outI a b z))) := by have := s46 a b [x, y, z] (by simp); rw [any3] at this; exact this
theorem s30 (r : R) : PSpec Try.prog 30 [encR r] (iA (chkR r)) := by
  refine PSpec_of Try.func30 rfl rfl (Nat.le_of_ble_eq_true rfl) (Nat.le_of_ble_eq_true rfl) ?_
  intro E hE
  repeat' (first
    | with_reducible refine useK (by assumption) ?_
    | with_reducible refine useK2 (by assumption) ?_
    | with_reducible refine useX (by assumption) ?_
    | with_reducible refine AW_seqk fun K hK => ?_
    | (with_reducible refine AW_regionS rfl (by rw [hE]; decide) ?_; simp [*])
    | with_reducible refine AW_region (by rw [hE]; decide) ?_
    | ((with_reducible show RK _ _ _ _ _ _); refine RK_nilk ?_; simp [*])
    | ((with_reducible show RK _ _ _ _ _ _); refine RK_stepk fun K' hK' => ?_; simp [*])
    | with_reducible refine AW_drawq mixed (by rw [hE]; decide) (by simp [newOK]) ?_
    | ((with_reducible show RKQ _ _ _ _ _ _); refine RKQ_nilk ⟨by decide, ?_⟩)
    | ((with_reducible show RKQ _ _ _ _ _ _); refine RKQ_stepk fun K' hK' => ?_; simp [*])
    | (with_reducible refine AW_if fun X Y hX hY => ?_; simp [*])
    | with_reducible refine AW_block ?_
    | (with_reducible refine AW_ret ?_; simp [*])
    | (with_reducible refine AW_skip ?_; simp [*])
    | (with_reducible refine AW_exit ?_; simp [*])
    | (refine acall_same (s46a 1 1073741824 r.o) ?_ ?_ ?_; (focus (simp [*] <;> fail)); (focus (simp [*] <;> fail)); simp [*])
    | (refine call_same (s46a 1 1073741824 r.o) ?_ ?_ ?_; (focus (simp [*] <;> fail)); (focus (simp [*] <;> fail)); simp [*])
    | (refine acall_view (s46a 1 1073741824 r.o) ?_ ?_ ?_; (focus (simp [*] <;> fail)); (focus (simp [*] <;> fail)); simp [*])
    | (refine call_view (s46a 1 1073741824 r.o) ?_ ?_ ?_; (focus (simp [*] <;> fail)); (focus (simp [*] <;> fail)); simp [*])
    | (refine acall_same (s46c 0 1073741824 r.s r.v r.d) ?_ ?_ ?_; (focus (simp [*] <;> fail)); (focus (simp [*] <;> fail)); simp [*])
    | (refine call_same (s46c 0 1073741824 r.s r.v r.d) ?_ ?_ ?_; (focus (simp [*] <;> fail)); (focus (simp [*] <;> fail)); simp [*])
    | (refine acall_view (s46c 0 1073741824 r.s r.v r.d) ?_ ?_ ?_; (focus (simp [*] <;> fail)); (focus (simp [*] <;> fail)); simp [*])
    | (refine call_view (s46c 0 1073741824 r.s r.v r.d) ?_ ?_ ?_; (focus (simp [*] <;> fail)); (focus (simp [*] <;> fail)); simp [*])
    | (refine acall_same (s46a 0 1073741824 r.t) ?_ ?_ ?_; (focus (simp [*] <;> fail)); (focus (simp [*] <;> fail)); simp [*])
    | (refine call_same (s46a 0 1073741824 r.t) ?_ ?_ ?_; (focus (simp [*] <;> fail)); (focus (simp [*] <;> fail)); simp [*])
    | (refine acall_view (s46a 0 1073741824 r.t) ?_ ?_ ?_; (focus (simp [*] <;> fail)); (focus (simp [*] <;> fail)); simp [*])
    | (refine call_view (s46a 0 1073741824 r.t) ?_ ?_ ?_; (focus (simp [*] <;> fail)); (focus (simp [*] <;> fail)); simp [*])
    | (refine acall_same (s46b (-1048576) 1048576 r.x r.y) ?_ ?_ ?_; (focus (simp [*] <;> fail)); (focus (simp [*] <;> fail)); simp [*])
    | (refine call_same (s46b (-1048576) 1048576 r.x r.y) ?_ ?_ ?_; (focus (simp [*] <;> fail)); (focus (simp [*] <;> fail)); simp [*])
    | (refine acall_view (s46b (-1048576) 1048576 r.x r.y) ?_ ?_ ?_; (focus (simp [*] <;> fail)); (focus (simp [*] <;> fail)); simp [*])
    | (refine call_view (s46b (-1048576) 1048576 r.x r.y) ?_ ?_ ?_; (focus (simp [*] <;> fail)); (focus (simp [*] <;> fail)); simp [*])
    | with_reducible refine And.intro ?_ ?_
    | omega
    | (refine imp1 fun h => ?_))
  all_goals simp [chkR, *]
end Go.Proofs.Ytmjckbokjjnmeaa
