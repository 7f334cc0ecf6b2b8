/- CheckExchange; known. -/
import Derived.Test.YtmjckbokjjnmeaaG9
import Derived.Test.YtmjckbokjjnmeaaG10
set_option maxRecDepth 100000
namespace Go.Proofs.Ytmjckbokjjnmeaa
open Go.Am

structure XC where
  (f t s r l : Int)
def encX (x : XC) : AV := .st [iA x.f, iA x.t, iA x.s, iA x.r, iA x.l]
def chkX (x : XC) : Int := if outI 0 1073741824 x.f || outI 0 1073741824 x.t then 2 else if x.f = x.t then 8 else if outI 0 1073741824 x.s || outI 0 1073741824 x.r || outI 0 1073741824 x.l then 26 else 0
theorem s31 (x : XC) : PSpec Try.prog 31 [encX x] (iA (chkX x)) := by
  refine PSpec_of Try.func31 rfl rfl (Nat.le_of_ble_eq_true rfl) (Nat.le_of_ble_eq_true rfl) ?_
  intro E hE
  repeat' (first
    | with_reducible refine useK (by assumption) ?_
    | with_reducible refine useK2 (by assumption) ?_
    | with_reducible refine useX (by assumption) ?_
    | with_reducible refine AW_seqk fun K hK => ?_
    | (with_reducible refine AW_regionS rfl (by rw [hE]; decide) ?_; simp [*, encX])
    | with_reducible refine AW_region (by rw [hE]; decide) ?_
    | ((with_reducible show RK _ _ _ _ _ _); refine RK_nilk ?_; simp [*, encX])
    | ((with_reducible show RK _ _ _ _ _ _); refine RK_stepk fun K' hK' => ?_; simp [*, encX])
    | with_reducible refine AW_drawq mixed (by rw [hE]; decide) (by simp [newOK]) ?_
    | ((with_reducible show RKQ _ _ _ _ _ _); refine RKQ_nilk ⟨by decide, ?_⟩)
    | ((with_reducible show RKQ _ _ _ _ _ _); refine RKQ_stepk fun K' hK' => ?_; simp [*, encX])
    | (with_reducible refine AW_if fun X Y hX hY => ?_; simp [*, encX])
    | with_reducible refine AW_block ?_
    | (with_reducible refine AW_ret ?_; simp [*, encX])
    | (with_reducible refine AW_skip ?_; simp [*, encX])
    | (with_reducible refine AW_exit ?_; simp [*, encX])
    | (refine acall_same (s46b 0 1073741824 x.f x.t) ?_ ?_ ?_; (focus (simp [*, encX] <;> fail)); (focus (simp [*, encX] <;> fail)); simp [*, encX])
    | (refine call_same (s46b 0 1073741824 x.f x.t) ?_ ?_ ?_; (focus (simp [*, encX] <;> fail)); (focus (simp [*, encX] <;> fail)); simp [*, encX])
    | (refine acall_view (s46b 0 1073741824 x.f x.t) ?_ ?_ ?_; (focus (simp [*, encX] <;> fail)); (focus (simp [*, encX] <;> fail)); simp [*, encX])
    | (refine call_view (s46b 0 1073741824 x.f x.t) ?_ ?_ ?_; (focus (simp [*, encX] <;> fail)); (focus (simp [*, encX] <;> fail)); simp [*, encX])
    | (refine acall_same (s46c 0 1073741824 x.s x.r x.l) ?_ ?_ ?_; (focus (simp [*, encX] <;> fail)); (focus (simp [*, encX] <;> fail)); simp [*, encX])
    | (refine call_same (s46c 0 1073741824 x.s x.r x.l) ?_ ?_ ?_; (focus (simp [*, encX] <;> fail)); (focus (simp [*, encX] <;> fail)); simp [*, encX])
    | (refine acall_view (s46c 0 1073741824 x.s x.r x.l) ?_ ?_ ?_; (focus (simp [*, encX] <;> fail)); (focus (simp [*, encX] <;> fail)); simp [*, encX])
    | (refine call_view (s46c 0 1073741824 x.s x.r x.l) ?_ ?_ ?_; (focus (simp [*, encX] <;> fail)); (focus (simp [*, encX] <;> fail)); simp [*, encX])
    | with_reducible refine And.intro ?_ ?_
    | omega
    | (refine imp1 fun h => ?_))
  all_goals simp [chkX, *]

def k1 : R := ⟨1, 5, 0, 0, 0, 10, 0, false⟩
def k2 : R := ⟨1, 5, 1, 0, 0, 11, 0, false⟩
def k3 : R := ⟨1, 6, 0, 0, 0, 12, 0, true⟩
def kl : List R := [k1, k2, k3]
theorem cnt_kl : cntR kl = [k2] := by decide +kernel
theorem kl_len : kl.length = 3 := rfl
theorem st0 : statusR kl k1 = 2 := by decide +kernel
theorem st2 : statusR kl k3 = 3 := by decide +kernel
set_option maxHeartbeats 2000000 in
theorem s14 : PSpec Try.prog 14 [] (bA true) := by
  have l0 : 0 < kl.length := by rw [kl_len]; omega
  have l1 : 1 < kl.length := by rw [kl_len]; omega
  have l2 : 2 < kl.length := by rw [kl_len]; omega
  have a0 : statusR kl kl[0] = 2 := st0
  have a2 : statusR kl kl[2] = 3 := st2
  have hk : kl.length < 1000 := by rw [kl_len]; omega
  have am : missing kl 1 3 = [0, 1, 2] := by decide +kernel
  have hb : ∀ r ∈ kl, r.s ≤ 9223372036854775807 := by intro r hr; simp [kl] at hr; rcases hr with rfl | rfl | rfl <;> simp [k1, k2, k3]
  replace hb := Hld.mk hb
  have ac : (cntR kl).length = 1 := by rw [cnt_kl]; rfl
  have ac0 : 0 < (cntR kl).length := by omega
  have ac1 : (cntR kl)[0] = kl[1] := by simp only [cnt_kl]; rfl
  refine PSpec_of Try.func14 rfl rfl (Nat.le_of_ble_eq_true rfl) (Nat.le_of_ble_eq_true rfl) ?_
  intro E hE
  refine AW_seqk fun K hK => ?_
  refine AW_region (by rw [hE]; decide) ?_
  simp
  refine useK (by assumption) ?_
  refine AW_seqk fun K hK => ?_
  refine AW_region (by rw [hE]; decide) ?_
  simp
  refine useK (by assumption) ?_
  refine AW_freeze 6 (t := ⟨[(1, .sl 8 (kl.map encR)), (0, .v (.bool false))], []⟩) rfl (by simp [kl, k1, k2, k3, encR]) (by simp) ?_
  refine AW_seqk fun K hK => ?_
  refine AW_region (by rw [hE]; decide) ?_
  simp
  refine acall_row (r18' kl (by omega)) (by simp) (.inl (by simp)) (by simp) ?_
  simp
  refine useK (by assumption) ?_
  refine AW_freeze 8 (t := ⟨[(2, .sl 8 ((cntR kl).map encR)), (1, .sl 8 (kl.map encR)), (0, .v (.bool false))], []⟩) rfl (by simp) (by simp) ?_
  repeat' (first
    | with_reducible refine useK (by assumption) ?_
    | with_reducible refine useK2 (by assumption) ?_
    | with_reducible refine useX (by assumption) ?_
    | with_reducible refine AW_seqk fun K hK => ?_
    | (with_reducible refine AW_regionS rfl (by rw [hE]; decide) ?_; simp [*])
    | with_reducible refine AW_region (by rw [hE]; decide) ?_
    | ((with_reducible show RK _ _ _ _ _ _); refine RK_nilk ?_; simp [*])
    | ((with_reducible show RK _ _ _ _ _ _); refine RK_stepk fun K' hK' => ?_; simp [*])
    | with_reducible refine AW_drawq mixed (by rw [hE]; decide) (by simp [newOK]) ?_
    | ((with_reducible show RKQ _ _ _ _ _ _); refine RKQ_nilk ⟨by decide, ?_⟩)
    | ((with_reducible show RKQ _ _ _ _ _ _); refine RKQ_stepk fun K' hK' => ?_; simp [*])
    | (with_reducible refine AW_if fun X Y hX hY => ?_; simp [*])
    | with_reducible refine AW_block ?_
    | (with_reducible refine AW_ret ?_; simp [*])
    | (with_reducible refine AW_skip ?_; simp [*])
    | (with_reducible refine AW_exit ?_; simp [*])
    | (refine acall_same (s22 kl kl[0] (by omega)) ?_ ?_ ?_; (focus (simp [*] <;> fail)); (focus (simp [*] <;> fail)); simp [*])
    | (refine call_same (s22 kl kl[0] (by omega)) ?_ ?_ ?_; (focus (simp [*] <;> fail)); (focus (simp [*] <;> fail)); simp [*])
    | (refine acall_view (s22 kl kl[0] (by omega)) ?_ ?_ ?_; (focus (simp [*] <;> fail)); (focus (simp [*] <;> fail)); simp [*])
    | (refine call_view (s22 kl kl[0] (by omega)) ?_ ?_ ?_; (focus (simp [*] <;> fail)); (focus (simp [*] <;> fail)); simp [*])
    | (refine acall_same (s22 kl kl[2] (by omega)) ?_ ?_ ?_; (focus (simp [*] <;> fail)); (focus (simp [*] <;> fail)); simp [*])
    | (refine call_same (s22 kl kl[2] (by omega)) ?_ ?_ ?_; (focus (simp [*] <;> fail)); (focus (simp [*] <;> fail)); simp [*])
    | (refine acall_view (s22 kl kl[2] (by omega)) ?_ ?_ ?_; (focus (simp [*] <;> fail)); (focus (simp [*] <;> fail)); simp [*])
    | (refine call_view (s22 kl kl[2] (by omega)) ?_ ?_ ?_; (focus (simp [*] <;> fail)); (focus (simp [*] <;> fail)); simp [*])
    | (refine acall_same (s24 kl 1 3 (by omega) hb.out (by omega)) ?_ ?_ ?_; (focus (simp [*] <;> fail)); (focus (simp [*] <;> fail)); simp [*])
    | (refine call_same (s24 kl 1 3 (by omega) hb.out (by omega)) ?_ ?_ ?_; (focus (simp [*] <;> fail)); (focus (simp [*] <;> fail)); simp [*])
    | (refine acall_view (s24 kl 1 3 (by omega) hb.out (by omega)) ?_ ?_ ?_; (focus (simp [*] <;> fail)); (focus (simp [*] <;> fail)); simp [*])
    | (refine call_view (s24 kl 1 3 (by omega) hb.out (by omega)) ?_ ?_ ?_; (focus (simp [*] <;> fail)); (focus (simp [*] <;> fail)); simp [*])
    | (refine acall_same (s23 [0, 1, 2] [0, 1, 2] (by simp)) ?_ ?_ ?_; (focus (simp [*] <;> fail)); (focus (simp [*] <;> fail)); simp [*])
    | (refine call_same (s23 [0, 1, 2] [0, 1, 2] (by simp)) ?_ ?_ ?_; (focus (simp [*] <;> fail)); (focus (simp [*] <;> fail)); simp [*])
    | (refine acall_view (s23 [0, 1, 2] [0, 1, 2] (by simp)) ?_ ?_ ?_; (focus (simp [*] <;> fail)); (focus (simp [*] <;> fail)); simp [*])
    | (refine call_view (s23 [0, 1, 2] [0, 1, 2] (by simp)) ?_ ?_ ?_; (focus (simp [*] <;> fail)); (focus (simp [*] <;> fail)); simp [*])
    | with_reducible refine And.intro ?_ ?_
    | omega
    | (refine imp1 fun h => ?_))
end Go.Proofs.Ytmjckbokjjnmeaa
