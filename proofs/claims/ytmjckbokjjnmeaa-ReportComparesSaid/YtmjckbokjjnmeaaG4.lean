/- Last, Objects. -/
import Derived.Test.YtmjckbokjjnmeaaG3
import Derived.Test.YtmjckbokjjnmeaaCI
set_option maxRecDepth 100000
namespace Go.Proofs.Ytmjckbokjjnmeaa
open Go.Am

theorem ofR_len (l : List R) (ob : Int) : (ofR l ob).length ≤ l.length := Nat.le_trans (List.length_filter_le _ _) (cntR_len l)
def lastR (o : List R) : R := o.getLastD zeroR
theorem lastR_get {o : List R} (h : o ≠ []) : ∃ h' : o.length - 1 < o.length, lastR o = o[o.length - 1] := by
  have h0 : 0 < o.length := List.length_pos_iff.2 h
  refine ⟨by omega, ?_⟩
  unfold lastR
  rw [List.getLastD_eq_getLast?, List.getLast?_eq_some_getLast h, Option.getD_some, List.getLast_eq_getElem]
theorem s33 (l : List R) (ob : Int) (hl : l.length ≤ 1000000000) : PSpec Try.prog 33 [.sl 8 (l.map encR), iA ob] (.tup [encR (lastR (ofR l ob)), bA (!decide (ofR l ob = []))]) := by
  have ho := ofR_len l ob
  refine PSpec_of Try.func33 rfl rfl (Nat.le_of_ble_eq_true rfl) (Nat.le_of_ble_eq_true rfl) ?_
  intro E hE
  by_cases h0 : ofR l ob = []
  · repeat' (first
      | with_reducible refine useK (by assumption) ?_
      | with_reducible refine useK2 (by assumption) ?_
      | with_reducible refine useX (by assumption) ?_
      | with_reducible refine AW_seqk fun K hK => ?_
      | (with_reducible refine AW_regionS rfl (by rw [hE]; decide) ?_; simp [*, encR_zero])
      | with_reducible refine AW_region (by rw [hE]; decide) ?_
      | ((with_reducible show RK _ _ _ _ _ _); refine RK_nilk ?_; simp [*, encR_zero])
      | ((with_reducible show RK _ _ _ _ _ _); refine RK_stepk fun K' hK' => ?_; simp [*, encR_zero])
      | with_reducible refine AW_drawq mixed (by rw [hE]; decide) (by simp [newOK]) ?_
      | ((with_reducible show RKQ _ _ _ _ _ _); refine RKQ_nilk ⟨by decide, ?_⟩)
      | ((with_reducible show RKQ _ _ _ _ _ _); refine RKQ_stepk fun K' hK' => ?_; simp [*, encR_zero])
      | (with_reducible refine AW_if fun X Y hX hY => ?_; simp [*, encR_zero])
      | with_reducible refine AW_block ?_
      | (with_reducible refine AW_ret ?_; simp [*, encR_zero])
      | (with_reducible refine AW_skip ?_; simp [*, encR_zero])
      | (with_reducible refine AW_exit ?_; simp [*, encR_zero])
      | (refine acall_row (r34 l ob hl) ?_ (.inl ?_) ?_ ?_; (focus (simp [*, encR_zero] <;> fail)); (focus (simp [*, encR_zero] <;> fail)); (focus (simp [*, encR_zero] <;> fail)); simp [*, encR_zero])
      | with_reducible refine And.intro ?_ ?_
      | omega
      | (refine imp1 fun h => ?_))
    rfl
  · obtain ⟨h1, h2⟩ := lastR_get h0
    have h3 : 0 < (ofR l ob).length := by omega
    have h4 : ((ofR l ob).length : Int) - 1 = ((ofR l ob).length - 1 : Nat) := by omega
    repeat' (first
      | with_reducible refine useK (by assumption) ?_
      | with_reducible refine useK2 (by assumption) ?_
      | with_reducible refine useX (by assumption) ?_
      | with_reducible refine AW_seqk fun K hK => ?_
      | (with_reducible refine AW_regionS rfl (by rw [hE]; decide) ?_; simp [*])
      | with_reducible refine AW_region (by rw [hE]; decide) ?_
      | ((with_reducible show RK _ _ _ _ _ _); refine RK_nilk ?_; simp [*])
      | ((with_reducible show RK _ _ _ _ _ _); refine RK_stepk fun K' hK' => ?_; simp [*])
      | with_reducible refine AW_drawq mixed (by rw [hE]; decide) (by simp [newOK]) ?_
      | ((with_reducible show RKQ _ _ _ _ _ _); refine RKQ_nilk ⟨by decide, ?_⟩)
      | ((with_reducible show RKQ _ _ _ _ _ _); refine RKQ_stepk fun K' hK' => ?_; simp [*])
      | (with_reducible refine AW_if fun X Y hX hY => ?_; simp [*])
      | with_reducible refine AW_block ?_
      | (with_reducible refine AW_ret ?_; simp [*])
      | (with_reducible refine AW_skip ?_; simp [*])
      | (with_reducible refine AW_exit ?_; simp [*])
      | (refine acall_row (r34 l ob hl) ?_ (.inl ?_) ?_ ?_; (focus (simp [*] <;> fail)); (focus (simp [*] <;> fail)); (focus (simp [*] <;> fail)); simp [*])
      | with_reducible refine And.intro ?_ ?_
      | omega
      | (refine imp1 fun h => ?_))

def objR (l : List R) : List Int := ddI ((cntR l).map R.o)
theorem w47 (l : List Int) (n : Nat) (hn : l.length = n) (hl : n ≤ 1000000000) : MSpec Try.prog 47 [.own 1000000 1 0 n] [(1000000, .arr 3 1 (l.map iA))] (fun res bf => res = .own 1000000 1 0 (ddI l).length ∧ bf 1000000 = some (.arr 3 1 ((ddI l).map iA))) :=
  MSpec.cut (MSpec.mono (hn ▸ m47 l (hn ▸ hl)) (by
    rintro res bf ⟨tail, rfl, h⟩
    exact ⟨rfl, _, (ddI l).length, h, by rw [List.map_append, ← List.length_map (f := iA), List.take_left]⟩))
theorem take_map_snoc {α β : Type} (f : α → β) {l : List α} {i : Nat} (h : i < l.length) : (l.take (i + 1)).map f = (l.take i).map f ++ [f l[i]] := by
  rw [List.take_succ_eq_append_getElem h, List.map_append]; rfl
theorem r32 (l : List R) (hl : l.length ≤ 1000000000) : RSpec Try.prog 32 [.sl 8 (l.map encR)] 3 1 ((objR l).map iA) := by
  have hc := cntR_len l
  refine MSpec_of Try.func32 rfl rfl (Nat.le_of_ble_eq_true rfl) (Nat.le_of_ble_eq_true rfl) ?_
  intro E hE
  repeat' (first
    | with_reducible refine useK (by assumption) ?_
    | with_reducible refine useK2 (by assumption) ?_
    | with_reducible refine useX (by assumption) ?_
    | with_reducible refine AW_seqk fun K hK => ?_
    | (with_reducible refine AW_regionS rfl (by rw [hE]; decide) ?_; simp [*])
    | with_reducible refine AW_region (by rw [hE]; decide) ?_
    | ((with_reducible show RK _ _ _ _ _ _); refine RK_nilk ?_; simp [*])
    | ((with_reducible show RK _ _ _ _ _ _); refine RK_stepk fun K' hK' => ?_; simp [*])
    | with_reducible refine AW_drawq mixed (by rw [hE]; decide) (by simp [newOK]) ?_
    | ((with_reducible show RKQ _ _ _ _ _ _); refine RKQ_nilk ⟨by decide, ?_⟩)
    | ((with_reducible show RKQ _ _ _ _ _ _); refine RKQ_stepk fun K' hK' => ?_; simp [*])
    | (with_reducible refine AW_if fun X Y hX hY => ?_; simp [*])
    | with_reducible refine AW_block ?_
    | (with_reducible refine AW_ret ?_; simp [*])
    | (with_reducible refine AW_skip ?_; simp [*])
    | (with_reducible refine AW_exit ?_; simp [*])
    | (refine acall_row (r18' l hl) ?_ (.inl ?_) ?_ ?_; (focus (simp [*] <;> fail)); (focus (simp [*] <;> fail)); (focus (simp [*] <;> fail)); simp [*])
    | with_reducible refine And.intro ?_ ?_
    | omega
    | (refine imp1 fun h => ?_))
  refine AW_mkrow 3 60 3 1 (by simp) (by simp) (by simp) (by omega) ?_
  obtain ⟨F, hF⟩ : ∃ F : Nat → List Int, ∀ i, F i = ((cntR l).take i).map R.o := ⟨_, fun _ => rfl⟩
  have hF0 : F 0 = [] := by rw [hF]; simp
  have hFe : F (cntR l).length = (cntR l).map R.o := by rw [hF, List.take_length]
  have hFl : ∀ i, i ≤ (cntR l).length → (F i).length = i := by intro i h; rw [hF]; simp; omega
  have hFs : ∀ i (h : i < (cntR l).length), F (i + 1) = F i ++ [(cntR l)[i].o] := by intro i h; rw [hF, hF, take_map_snoc _ h]
  clear hF
  replace hFe := Hld.mk hFe
  replace hFs := Hld.mk hFs
  refine AW_loopk (G := Nat) (fun i => ⟨[(9, iA i), (8, iA (cntR l).length), (7, .own 7 8 0 (cntR l).length), (3, .own 60 1 0 (F i).length), (2, .v (.slice none 0 0))], [(7, .arr 23 8 ((cntR l).map encR)), (60, .arr 3 1 ((F i).map iA))]⟩)
    (fun i => i ≤ (cntR l).length) (fun i => (cntR l).length - i) 0 (by simp) (by simp [hF0]) ?_
  intro i hi K hK
  have hi2 : (F i).length ≤ 1000000000 := by have := hFl i hi; omega
  by_cases hlt : i < (cntR l).length
  · have hs := hFs.out i hlt
    replace hs := Hld.mk hs
    clear hFl hFs
    repeat' (first
      | with_reducible refine useK (by assumption) ?_
      | with_reducible refine useK2 (by assumption) ?_
      | with_reducible refine useX (by assumption) ?_
      | with_reducible refine AW_seqk fun K hK => ?_
      | (with_reducible refine AW_regionS rfl (by rw [hE]; decide) ?_; simp [*])
      | with_reducible refine AW_region (by rw [hE]; decide) ?_
      | ((with_reducible show RK _ _ _ _ _ _); refine RK_nilk ?_; simp [*])
      | ((with_reducible show RK _ _ _ _ _ _); refine RK_stepk fun K' hK' => ?_; simp [*])
      | with_reducible refine AW_drawq mixed (by rw [hE]; decide) (by simp [newOK]) ?_
      | ((with_reducible show RKQ _ _ _ _ _ _); refine RKQ_nilk ⟨by decide, ?_⟩)
      | ((with_reducible show RKQ _ _ _ _ _ _); refine RKQ_stepk fun K' hK' => ?_; simp [*])
      | (with_reducible refine AW_if fun X Y hX hY => ?_; simp [*])
      | with_reducible refine AW_block ?_
      | (with_reducible refine AW_ret ?_; simp [*])
      | (with_reducible refine AW_skip ?_; simp [*])
      | (with_reducible refine AW_exit ?_; simp [*])
      | with_reducible refine And.intro ?_ ?_
      | omega
      | (refine imp1 fun h => ?_))
    exact ⟨i + 1, by omega, by omega, by simp [hs.out]⟩
  · obtain rfl : i = (cntR l).length := by omega
    clear hFl hFs
    repeat' (first
      | with_reducible refine useK (by assumption) ?_
      | with_reducible refine useK2 (by assumption) ?_
      | with_reducible refine useX (by assumption) ?_
      | with_reducible refine AW_seqk fun K hK => ?_
      | (with_reducible refine AW_regionS rfl (by rw [hE]; decide) ?_; simp [*])
      | with_reducible refine AW_region (by rw [hE]; decide) ?_
      | ((with_reducible show RK _ _ _ _ _ _); refine RK_nilk ?_; simp [*])
      | ((with_reducible show RK _ _ _ _ _ _); refine RK_stepk fun K' hK' => ?_; simp [*])
      | with_reducible refine AW_drawq mixed (by rw [hE]; decide) (by simp [newOK]) ?_
      | ((with_reducible show RKQ _ _ _ _ _ _); refine RKQ_nilk ⟨by decide, ?_⟩)
      | ((with_reducible show RKQ _ _ _ _ _ _); refine RKQ_stepk fun K' hK' => ?_; simp [*])
      | (with_reducible refine AW_if fun X Y hX hY => ?_; simp [*])
      | with_reducible refine AW_block ?_
      | (with_reducible refine AW_ret ?_; simp [*])
      | (with_reducible refine AW_skip ?_; simp [*])
      | (with_reducible refine AW_exit ?_; simp [*])
      | (refine acall_mrow (w47 (F (cntR l).length) _ rfl (by omega)) ?_ ?_ ?_ ?_ ?_ ?_; (focus (simp [*] <;> fail)); (focus (simp [*] <;> fail)); (focus (simp [*] <;> fail)); (focus (simp [*] <;> fail)); (focus (simp [*] <;> fail)); simp [*])
      | with_reducible refine And.intro ?_ ?_
      | omega
      | (refine imp1 fun h => ?_))
    have e : ddI (F (cntR l).length) = objR l := by rw [hFe.out]; rfl
    rw [e]
    exact ⟨60, ⟨rfl, rfl⟩, _, rfl, take_len iA _⟩
end Go.Proofs.Ytmjckbokjjnmeaa
