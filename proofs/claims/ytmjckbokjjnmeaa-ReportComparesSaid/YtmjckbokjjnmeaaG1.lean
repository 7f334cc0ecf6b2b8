/- slices.Clone, SortFunc, Compact as calls; report.Set. -/
import Derived.Test.YtmjckbokjjnmeaaM1
import Derived.Test.YtmjckbokjjnmeaaAmRow
import Derived.Test.YtmjckbokjjnmeaaAmSort
import Derived.Test.YtmjckbokjjnmeaaShelf
set_option maxRecDepth 100000
namespace Go.Proofs.Ytmjckbokjjnmeaa
open Go.Am

theorem r41 (l : List R) (hl : l.length ≤ 1000000000) : RSpec Try.prog 41 [.sl 8 (l.map encR)] 23 8 (l.map encR) :=
  MSpec.mono (m41 l hl) (by
    rintro res bf (⟨rfl, h⟩ | ⟨rfl, rfl⟩)
    · exact .inl ⟨5, _, by simp, h, by simp⟩
    · exact .inr ⟨rfl, rfl⟩)
theorem w43 (l : List R) (n : Nat) (hn : l.length = n) (hl : n ≤ 1000000000) : MSpec Try.prog 43 [.own 1000000 8 0 n] [(1000000, .arr 23 8 (l.map encR))] (fun res bf => res = .own 1000000 8 0 (dd l).length ∧ bf 1000000 = some (.arr 23 8 ((dd l).map encR))) :=
  MSpec.cut (MSpec.mono (hn ▸ m43 l (hn ▸ hl)) (by
    rintro res bf ⟨tail, rfl, h⟩
    exact ⟨rfl, _, (dd l).length, h, by rw [List.map_append, ← List.length_map (f := encR), List.take_left]⟩))

def valR (r : R) : List Value := [.int .i64 r.o, .int .i64 r.s, .int .i64 r.v, .int .i64 r.d, .int .i64 r.t, .int .i64 r.x, .int .i64 r.y, .bool r.c]
theorem encS_R : Go.Am.encS valR = encR := rfl
theorem w42 (l : List R) (hl : l.length ≤ 1000000000) : MSpec Try.prog 42 [.own 1000000 8 0 l.length, .fn (.func 13) [] []] [(1000000, .arr 23 8 (l.map encR))] (fun res bf => res = .tup [] ∧ bf 1000000 = some (.arr 23 8 ((sortL cmpR l).map encR))) := by
  have h := sortFunc_m Try.sortFunc (f := 42) (g := 13) (T := 23) rfl rfl (ent_of Try.func42 (by kernel_rfl) rfl) (by simp) (by simp) valR 8 (fun _ => rfl) (by simp) (fun x v hv => by simp only [valR, List.mem_cons, List.not_mem_nil, or_false] at hv; rcases hv with rfl | rfl | rfl | rfl | rfl | rfl | rfl | rfl <;> rfl)
    cmpR swoR totR (fun x y => s13 x y) 23 l (by omega)
  rw [encS_R] at h
  exact h
theorem s13e : Ent Try.prog 13 := (s13 default default).1

theorem r25 (l : List R) (hl : l.length ≤ 1000000000) : RSpec Try.prog 25 [.sl 8 (l.map encR)] 23 8 ((setR l).map encR) := by
  refine MSpec_of Try.func25 rfl rfl (Nat.le_of_ble_eq_true rfl) (Nat.le_of_ble_eq_true rfl) ?_
  intro E hE
  repeat' (first
    | with_reducible refine useK (by assumption) ?_
    | with_reducible refine useK2 (by assumption) ?_
    | with_reducible refine useX (by assumption) ?_
    | with_reducible refine AW_seqk fun K hK => ?_
    | (with_reducible refine AW_regionS rfl (by rw [hE]; decide) ?_; simp [*])
    | with_reducible refine AW_region (by rw [hE]; decide) ?_
    | ((with_reducible show RK _ _ _ _ _ _); refine RK_nilk ?_; simp [*])
    | ((with_reducible show RK _ _ _ _ _ _); refine RK_stepk fun K' hK' => ?_; simp [*])
    | with_reducible refine AW_drawq mixed (by rw [hE]; decide) (by simp [newOK]) ?_
    | ((with_reducible show RKQ _ _ _ _ _ _); refine RKQ_nilk ⟨by decide, ?_⟩)
    | ((with_reducible show RKQ _ _ _ _ _ _); refine RKQ_stepk fun K' hK' => ?_; simp [*])
    | (with_reducible refine AW_if fun X Y hX hY => ?_; simp [*])
    | with_reducible refine AW_block ?_
    | (with_reducible refine AW_ret ?_; simp [*])
    | (with_reducible refine AW_skip ?_; simp [*])
    | (with_reducible refine AW_exit ?_; simp [*])
    | (refine acall_row ((r41 l hl)) ?_ (.inl ?_) ?_ ?_; (focus (simp [*] <;> fail)); (focus (simp [*] <;> fail)); (focus (simp [*] <;> fail)); simp [*])
    | (refine acall_mrow ((w42 l hl)) ?_ ?_ ?_ ?_ ?_ ?_; (focus (simp [*] <;> fail)); (focus (simp [*] <;> fail)); (focus (simp [*] <;> fail)); (focus (simp [*] <;> fail)); (focus (simp [*] <;> fail)); simp [*])
    | (refine acall_mrow ((w43 (sortL cmpR l) _ (sortL_len l) hl)) ?_ ?_ ?_ ?_ ?_ ?_; (focus (simp [*] <;> fail)); (focus (simp [*] <;> fail)); (focus (simp [*] <;> fail)); (focus (simp [*] <;> fail)); (focus (simp [*] <;> fail)); simp [*])
    | with_reducible refine And.intro ?_ ?_
    | omega
    | (refine imp1 fun h => ?_))
  exact ⟨5, ⟨rfl, rfl⟩, _, ⟨rfl, rfl⟩, take_len encR (setR l)⟩

def visR (m : List R) (vis : List Nat) : List R := (vis.map fun i => m.getD i default).filter fun r => !r.c
theorem visR_snoc {m : List R} {vis : List Nat} {i : Nat} (h : i < m.length) : visR m (vis ++ [i]) = visR m vis ++ (if !m[i].c then [m[i]] else []) := by
  unfold visR
  rw [List.map_append, List.filter_append]
  congr 1
  simp only [List.map_cons, List.map_nil, List.filter_cons, List.filter_nil]
  rw [List.getD_eq_getElem?_getD, List.getElem?_eq_getElem h]
  rfl
theorem visR_len (m : List R) (vis : List Nat) : (visR m vis).length ≤ vis.length := Nat.le_trans (List.length_filter_le _ _) (by simp)
theorem vis_lt {vis : List Nat} {n i : Nat} (h1 : vis.Nodup) (h2 : ∀ i ∈ vis, i < n) (hi : i < n) (hv : i ∉ vis) : vis.length < n := by
  have := List.Nodup.length_le_of_subset (List.nodup_cons.2 ⟨hv, h1⟩) (l₂ := List.range n) (by
    intro x hx
    rw [List.mem_range]
    rcases List.mem_cons.1 hx with rfl | hx
    · exact hi
    · exact h2 x hx)
  simp at this
  omega
theorem vis_le {vis : List Nat} {n : Nat} (h1 : vis.Nodup) (h2 : ∀ i ∈ vis, i < n) : vis.length ≤ n := by
  have := List.Nodup.length_le_of_subset h1 (l₂ := List.range n) (by
    intro x hx
    rw [List.mem_range]
    exact h2 x hx)
  simpa using this
theorem mem_visR {m : List R} {vis : List Nat} (h2 : ∀ i ∈ vis, i < m.length) (hall : ∀ i, i < m.length → i ∈ vis) (x : R) : x ∈ visR m vis ↔ x ∈ m.filter fun r => !r.c := by
  unfold visR
  simp only [List.mem_filter, List.mem_map]
  refine and_congr_left fun _ => ⟨?_, fun hx => ?_⟩
  · rintro ⟨i, hi, rfl⟩
    rw [List.getD_eq_getElem?_getD, List.getElem?_eq_getElem (h2 i hi)]
    exact List.getElem_mem _
  · obtain ⟨i, hi, rfl⟩ := List.getElem_of_mem hx
    exact ⟨i, hall i hi, by rw [List.getD_eq_getElem?_getD, List.getElem?_eq_getElem hi]; rfl⟩
@[simp] theorem encM_get (m : List R) (i : Nat) (h : i < (encM m).length) : (encM m)[i] = (.st [iA (m[i]'(by simpa using h)).o, iA (m[i]'(by simpa using h)).s], encR (m[i]'(by simpa using h))) := by
  simp [encM]
theorem updM_len (r : R) : ∀ m : List R, (updM r m).length ≤ m.length + 1
  | [] => by simp [updM]
  | w :: m => by
    simp only [updM]
    split
    · simp
    · have := updM_len r m; simp; omega
theorem winM_len (l : List R) : (winM l).length ≤ l.length := by
  have key : ∀ (l m : List R), (l.foldl stepW m).length ≤ m.length + l.length := by
    intro l
    induction l with
    | nil => intro m; simp
    | cons r l ih =>
      intro m
      rw [List.foldl_cons]
      have h1 := ih (stepW m r)
      have h2 : (stepW m r).length ≤ m.length + 1 := by
        unfold stepW
        split
        · exact updM_len r m
        · split
          · exact updM_len r m
          · omega
      simp
      omega
  have := key l []
  simpa [winM] using this
theorem r18 (l : List R) (hl : l.length ≤ 1000000000) : RSpec Try.prog 18 [.sl 8 (l.map encR)] 23 8 ((setR ((winM l).filter fun r => !r.c)).map encR) := by
  refine MSpec_of Try.func18 rfl rfl (Nat.le_of_ble_eq_true rfl) (Nat.le_of_ble_eq_true rfl) ?_
  intro E hE
  repeat' (first
    | with_reducible refine useK (by assumption) ?_
    | with_reducible refine useK2 (by assumption) ?_
    | with_reducible refine useX (by assumption) ?_
    | with_reducible refine AW_seqk fun K hK => ?_
    | (with_reducible refine AW_regionS rfl (by rw [hE]; decide) ?_; simp [*])
    | with_reducible refine AW_region (by rw [hE]; decide) ?_
    | ((with_reducible show RK _ _ _ _ _ _); refine RK_nilk ?_; simp [*])
    | ((with_reducible show RK _ _ _ _ _ _); refine RK_stepk fun K' hK' => ?_; simp [*])
    | with_reducible refine AW_drawq mixed (by rw [hE]; decide) (by simp [newOK]) ?_
    | ((with_reducible show RKQ _ _ _ _ _ _); refine RKQ_nilk ⟨by decide, ?_⟩)
    | ((with_reducible show RKQ _ _ _ _ _ _); refine RKQ_stepk fun K' hK' => ?_; simp [*])
    | (with_reducible refine AW_if fun X Y hX hY => ?_; simp [*])
    | with_reducible refine AW_block ?_
    | (with_reducible refine AW_ret ?_; simp [*])
    | (with_reducible refine AW_skip ?_; simp [*])
    | (with_reducible refine AW_exit ?_; simp [*])
    | (refine acall_box (n39 l (by omega)) ?_ (flat_M _) ?_ ?_; (focus (simp [*] <;> fail)); (focus (simp [*] <;> fail)); simp [*])
    | with_reducible refine And.intro ?_ ?_
    | omega
    | (refine imp1 fun h => ?_))
  intro bs ck hbl hbn
  refine useK (by assumption) ?_
  refine AW_block ?_
  refine AW_mkrow 3 60 23 8 (by simp) (by simp) (by simp) (by omega) ?_
  refine AW_loopk (G := List Nat) (fun vis => ⟨[(8, .loc 8 0), (3, .own 60 8 0 (visR (winM l) vis).length), (2, .v (.slice none 0 0))], [(8, .it 7 bs ck vis), (7, .map (encM (winM l)) (some (bs, ck))), (60, .arr 23 8 ((visR (winM l) vis).map encR))]⟩)
    (fun vis => vis.Nodup ∧ ∀ i ∈ vis, i < (winM l).length) (fun vis => (winM l).length - vis.length) [] (by simp) (by simp [visR]) ?_
  rintro vis ⟨hv1, hv2⟩ K hK
  refine AW_seqk fun K1 hK1 => ?_
  refine AW_region (by rw [hE]; decide) ?_
  simp
  refine ⟨fun i hi hiv => ?_, fun hall => ?_⟩
  · have hlt := vis_lt hv1 hv2 hi hiv
    have hle : (visR (winM l) vis).length ≤ 1000000000 := Nat.le_trans (visR_len _ _) (by have := winM_len l; omega)
    have hb : (visR (winM l) (vis ++ [i])) = visR (winM l) vis ++ (if !(winM l)[i].c then [(winM l)[i]] else []) := visR_snoc hi
    replace hb := Hld.mk hb
    refine useK hK1 ?_
    repeat' (first
      | with_reducible refine useK (by assumption) ?_
      | with_reducible refine useK2 (by assumption) ?_
      | with_reducible refine useX (by assumption) ?_
      | with_reducible refine AW_seqk fun K hK => ?_
      | (with_reducible refine AW_regionS rfl (by rw [hE]; decide) ?_; simp [*])
      | with_reducible refine AW_region (by rw [hE]; decide) ?_
      | ((with_reducible show RK _ _ _ _ _ _); refine RK_nilk ?_; simp [*])
      | ((with_reducible show RK _ _ _ _ _ _); refine RK_stepk fun K' hK' => ?_; simp [*])
      | with_reducible refine AW_drawq mixed (by rw [hE]; decide) (by simp [newOK]) ?_
      | ((with_reducible show RKQ _ _ _ _ _ _); refine RKQ_nilk ⟨by decide, ?_⟩)
      | ((with_reducible show RKQ _ _ _ _ _ _); refine RKQ_stepk fun K' hK' => ?_; simp [*])
      | (with_reducible refine AW_if fun X Y hX hY => ?_; simp [*])
      | with_reducible refine AW_block ?_
      | (with_reducible refine AW_ret ?_; simp [*])
      | (with_reducible refine AW_skip ?_; simp [*])
      | (with_reducible refine AW_exit ?_; simp [*])
      | with_reducible refine And.intro ?_ ?_
      | omega
      | (refine imp1 fun h => ?_))
    all_goals
      refine ⟨vis ++ [i], ⟨?_, ?_⟩, by simp; omega, by simp [hb.out, *]⟩
      · rw [List.nodup_append]; simp; exact ⟨hv1, fun a ha e => hiv (e ▸ ha)⟩
      · intro j hj; rcases List.mem_append.1 hj with hj | hj
        · exact hv2 j hj
        · simp at hj; subst hj; exact hi
  · have hle : (visR (winM l) vis).length ≤ 1000000000 := Nat.le_trans (visR_len _ _) (by have := winM_len l; have := vis_le hv1 hv2; omega)
    repeat' (first
      | with_reducible refine useK (by assumption) ?_
      | with_reducible refine useK2 (by assumption) ?_
      | with_reducible refine useX (by assumption) ?_
      | with_reducible refine AW_seqk fun K hK => ?_
      | (with_reducible refine AW_regionS rfl (by rw [hE]; decide) ?_; simp [*])
      | with_reducible refine AW_region (by rw [hE]; decide) ?_
      | ((with_reducible show RK _ _ _ _ _ _); refine RK_nilk ?_; simp [*])
      | ((with_reducible show RK _ _ _ _ _ _); refine RK_stepk fun K' hK' => ?_; simp [*])
      | with_reducible refine AW_drawq mixed (by rw [hE]; decide) (by simp [newOK]) ?_
      | ((with_reducible show RKQ _ _ _ _ _ _); refine RKQ_nilk ⟨by decide, ?_⟩)
      | ((with_reducible show RKQ _ _ _ _ _ _); refine RKQ_stepk fun K' hK' => ?_; simp [*])
      | (with_reducible refine AW_if fun X Y hX hY => ?_; simp [*])
      | with_reducible refine AW_block ?_
      | (with_reducible refine AW_ret ?_; simp [*])
      | (with_reducible refine AW_skip ?_; simp [*])
      | (with_reducible refine AW_exit ?_; simp [*])
      | (refine acall_row (r25 (visR (winM l) vis) hle) ?_ (.inl ?_) ?_ ?_; (focus (simp [*] <;> fail)); (focus (simp [*] <;> fail)); (focus (simp [*] <;> fail)); simp [*])
      | with_reducible refine And.intro ?_ ?_
      | omega
      | (refine imp1 fun h => ?_))
    simp [setR_congr (mem_visR hv2 hall)]
end Go.Proofs.Ytmjckbokjjnmeaa
