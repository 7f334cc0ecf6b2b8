/- Layer 39: what a search reaches, by the law's model -/
import Derived.Test.YtfkgaphfdpflmaaGreatDoorZF
import Derived.Test.YtfkgaphfdpflmaaGreatDoorZC
import Derived.Test.YtfkgaphfdpflmaaGreatDoorZB
import Derived.Test.YtfkgaphfdpflmaaGreatDoorZE
import Derived.Test.YtfkgaphfdpflmaaGreatDoorZ6
import Derived.Test.YtfkgaphfdpflmaaGreatDoorZG
set_option maxRecDepth 100000
set_option linter.unusedSimpArgs false
set_option linter.unusedVariables false
namespace Go.Proofs.YtfkgaphfdpflmaaGreatDoor
open Go.Am
def rchF (t : Tr) (b : Bx) : Nat → Nat → Bool
 |0,_=>true
 |d + 1,k=>match t.ns[t.ns.length - 1 - d]? with
  |some l=>match l[k / 4]? with
   |some nd=>meeX nd.b b && rchF t b d (k / 4)
   |none=>false
  |none=>false
def LvOK (t : Tr) : Prop:=∀ i (h : i + 1 < t.ns.length) k,k < t.ns[i].length → k / 4 < t.ns[i + 1].length
set_option maxHeartbeats 4000000 in
theorem s_reached {t : Tr} (hv : LvOK t) (hn : t.ns.length ≤ 1000000) (b : Bx) : ∀ (d lev k : Nat) (hd : lev + d + 1 = t.ns.length),k < t.ns[lev].length → k ≤ 1000000 → PSpec Tryz.prog 53 [encT t,iA lev,iA k,encX b] (bA (rchF t b d k))
 |0,lev,k,hd,hk,hk2=>by
  have hle : (lev : Int) = (t.ns.length : Int) - 1:=by omega
  have hn1 : 1 ≤ t.ns.length:=by omega
  show PSpec _ _ _ (bA true)
  clear hk hv hd
  refine pS Tryz.func53 ?_
  intro E hE
  have z'1:=@encT.eq_1;exact ga0
 |d + 1,lev,k,hd,hk,hk2=>by
  have hlt : lev + 1 < t.ns.length:=by omega
  have hq:=hv lev hlt k hk
  have ih:=Hld.mk (s_reached hv hn b d (lev + 1) (k / 4) (by omega) hq (by omega))
  have hm:=s_wmeets t.ns[lev + 1][k / 4].b b
  have hlv : t.ns.length - 1 - d = lev + 1:=by omega
  have hr : rchF t b (d + 1) k = (meeX t.ns[lev + 1][k / 4].b b && rchF t b d (k / 4)):=by simp [rchF,hlv,List.getElem?_eq_getElem hlt,List.getElem?_eq_getElem hq]
  rw [hr]
  obtain ⟨l,hl⟩ : ∃ l,t.ns[lev + 1] = l:=⟨_,rfl⟩
  have hlg : ∀ h : lev + 1 < t.ns.length,t.ns[lev + 1] = l:=fun _=>hl
  have hq2 : k / 4 < l.length:=hl ▸ hq
  obtain ⟨nd,hnd⟩ : ∃ nd,l[k / 4] = nd:=⟨_,rfl⟩
  have hndg : ∀ h : k / 4 < l.length,l[k / 4] = nd:=fun _=>hnd
  have hnb : t.ns[lev + 1][k / 4].b = nd.b:=by subst hl;rw [← hnd]
  rw [hnb] at hm ⊢
  have hne : ¬ (lev : Int) = (t.ns.length : Int) - 1:=by omega
  have hltI : (lev : Int) + 1 < t.ns.length:=by omega
  have hm2 : Hld (PSpec Tryz.prog 24 [encX ⟨nd.b.x0,nd.b.x1,nd.b.y0,nd.b.y1,nd.b.t0,nd.b.t1⟩,encX b] (bA (meeX nd.b b))):=⟨hm⟩
  have ih2 : Hld (PSpec Tryz.prog 53 [encT t,iA ((lev : Int) + 1),iA ((k : Int) / 4),encX b] (bA (rchF t b d (k / 4)))):=⟨by have:=ih.out;rw [show ((lev + 1 : Nat) : Int) = (lev : Int) + 1 by omega,show ((k / 4 : Nat) : Int) = (k : Int) / 4 by omega] at this;exact this⟩
  have hkq : ((k : Int) / 4).toNat = k / 4:=by omega
  have hlv1 : ((lev : Int) + 1).toNat = lev + 1:=by omega
  have hnq : l[k / 4]? = some nd:=by rw [List.getElem?_eq_getElem hq2,hnd]
  have hlq : t.ns[lev + 1]? = some l:=by rw [List.getElem?_eq_getElem hlt,hl]
  have hk4 : (k : Int) / 4 < l.length:=by omega
  obtain ⟨r,hrr⟩ : ∃ r,rchF t b d (k / 4) = r:=⟨_,rfl⟩
  obtain ⟨m,hmm⟩ : ∃ r,meeX nd.b b = r:=⟨_,rfl⟩
  rw [hrr] at ih2 ⊢
  rw [hmm] at hm2 ⊢
  clear hv hm ih hlv hr hl hnd hnb hrr hmm hq hk
  rcases m with _|_
  ·refine pS Tryz.func53 ?_
   intro E hE
   repeat' (first
    |(with_reducible first|refine uK ?_|refine uQ ?_|refine uX ?_|refine jq fun K hK=>?_|refine jb ?_)|(with_reducible refine rS hE ?_;simp [*,encT,encX,encN,ndL])|with_reducible refine rL hE ?_|(((with_reducible show RK _ _ _ _ _ _);first|refine jn ?_|refine js fun K' hK'=>?_);simp [*,encT,encX,encN,ndL])|with_reducible refine rD mixed hE ?_|((with_reducible show RKQ _ _ _ _ _ _);first|refine RKQ_nilk ⟨by decide,?_⟩|(refine jv fun K' hK'=>?_;simp [*,encT,encX,encN,ndL]))|((with_reducible first|refine ji fun X Y hX hY=>?_|refine jr ?_|refine jk ?_|refine jx ?_);simp [*,encT,encX,encN,ndL])|((first|refine jC (hm2.out) ?_ ?_ ?_|refine jQ (hm2.out) ?_ ?_ ?_);(iterate 2 focus (simp [*,encT,encX,encN,ndL] <;> fail));simp [*,encT,encX,encN,ndL])|with_reducible refine And.intro ?_ ?_|omega|(refine imp1 fun h=>?_))
   all_goals trace_state
  ·refine pS Tryz.func53 ?_
   intro E hE
   repeat' (first
    |(with_reducible first|refine uK ?_|refine uQ ?_|refine uX ?_|refine jq fun K hK=>?_|refine jb ?_)|(with_reducible refine rS hE ?_;simp [*,encT,encX,encN,ndL])|with_reducible refine rL hE ?_|(((with_reducible show RK _ _ _ _ _ _);first|refine jn ?_|refine js fun K' hK'=>?_);simp [*,encT,encX,encN,ndL])|with_reducible refine rD mixed hE ?_|((with_reducible show RKQ _ _ _ _ _ _);first|refine RKQ_nilk ⟨by decide,?_⟩|(refine jv fun K' hK'=>?_;simp [*,encT,encX,encN,ndL]))|((with_reducible first|refine ji fun X Y hX hY=>?_|refine jr ?_|refine jk ?_|refine jx ?_);simp [*,encT,encX,encN,ndL])|((first|refine jC (hm2.out) ?_ ?_ ?_|refine jQ (hm2.out) ?_ ?_ ?_);(iterate 2 focus (simp [*,encT,encX,encN,ndL] <;> fail));simp [*,encT,encX,encN,ndL])|((first|refine jC (ih2.out) ?_ ?_ ?_|refine jQ (ih2.out) ?_ ?_ ?_);(iterate 2 focus (simp [*,encT,encX,encN,ndL] <;> fail));simp [*,encT,encX,encN,ndL])|with_reducible refine And.intro ?_ ?_|omega|(refine imp1 fun h=>?_))
noncomputable def cLeaf : Code:=nav [1,1,1,0,1,0,0,1,0] (Tryz.f18.body.getD .skip)
set_option maxHeartbeats 8000000 in
theorem wsr_leaf {E : Env} (hE : E.n = Tryz.f18.ntmps) {t : Tr} {B : Un → Bx} {b : Bx} {i : Nat} {lf : Lf} {H : List Ht} (hi : i < t.lv.length) (hlf : t.lv[i] = lf) (hul : lf.us.length ≤ 100000) (hf1 : 0 ≤ lf.first) (hf2 : lf.first ≤ 1000000) (hB : ∀ u ∈ lf.us,WxOK u (B u)) (hH : H.length ≤ 100000000) {Q : AExit → AState → Prop}
 (h : ∀ s' : AState,s'.le ⟨[(7,iA i),(6,.own 800 2 0 (H ++ hitsF B b lf lf.us.length).length),(2,.ep (encT t)),(3,.ep (encX b))],[(800,rwH (H ++ hitsF B b lf lf.us.length))]⟩ → Q .normal s') :
 AW Tryz.prog E cLeaf ⟨[(7,iA i),(6,.own 800 2 0 H.length),(2,.ep (encT t)),(3,.ep (encX b))],[(800,rwH H)]⟩ Q:=by
 obtain ⟨F,hF⟩ : ∃ F : Nat → List Ht,∀ j,F j = H ++ hitsF B b lf j:=⟨_,fun _=>rfl⟩
 have hF0 : F 0 = H:=by rw [hF];simp [hitsF]
 have hFs : Hld (∀ j (h : j < lf.us.length),F (j + 1) = F j ++ (if meeX (B lf.us[j]) b then [⟨lf.o,lf.first + (j : Int)⟩] else [])):=⟨fun j h=>by rw [hF,hF,hitsF_succ _ _ _ _ h,List.append_assoc]⟩
 have hFl : Hld (∀ j,(F j).length ≤ 100000000 + j):=⟨fun j=>by rw [hF,List.length_append];have:=hitsF_len B b lf j;omega⟩
 have hFn : H ++ hitsF B b lf lf.us.length = F lf.us.length:=(hF _).symm
 rw [hFn] at h
 have hB' : Hld (∀ u ∈ lf.us,WxOK u (B u)):=⟨hB⟩
 have hK:=Kont.mk h
 have hlg : ∀ h : i < t.lv.length,t.lv[i] = lf:=fun _=>hlf
 have hiI : (i : Int) < t.lv.length:=by omega
 clear hB hF hFn hH h
 replace hlf:=()
 refine AW_block ?_
 refine lpk (G:=Nat) (fun k=>⟨[(8,iA k),(7,iA i),(6,.own 800 2 0 (F k).length),(2,.ep (encT t)),(3,.ep (encX b))],[(800,rwH (F k))]⟩) (fun k=>k ≤ lf.us.length) (fun k=>lf.us.length - k) 0 (Nat.zero_le _) ?_
 intro k hk K hK
 by_cases hlt : k < lf.us.length
 ·have hltI : (k : Int) < lf.us.length:=by omega
  have hs:=hFs.out k hlt
  have hl:=hFl.out k
  have hb:=hB'.out lf.us[k] (List.getElem_mem hlt)
  obtain ⟨u,hu⟩ : ∃ u,lf.us[k] = u:=⟨_,rfl⟩
  obtain ⟨M,hM⟩ : ∃ M,F k = M:=⟨_,rfl⟩
  obtain ⟨M2,hM2⟩ : ∃ M,F (k + 1) = M:=⟨_,rfl⟩
  rw [hu,hM,hM2] at hs
  rw [hM] at hl
  rw [hu] at hb
  have hb2 : Hld (PSpec Tryz.prog 48 [encU u] (.tup [encX (B u),iA 0])):=⟨hb⟩
  have hm2:=Hld.mk (s_wmeets (B u) b)
  have hug : ∀ h : k < lf.us.length,lf.us[k] = u:=fun _=>hu
  have hMt : (M.map encH).take M.length = M.map encH:=List.take_of_length_le (by simp)
  refine AW_le (t:=⟨[(8,iA k),(7,iA i),(6,.own 800 2 0 M.length),(2,.ep (encT t)),(3,.ep (encX b))],[(800,rwH M)]⟩) (by simp [hM]) ?_
  replace hM:=Hld.mk hM
  replace hM2:=Hld.mk hM2
  replace hu:=()
  replace hs:=Hld.mk hs
  clear hb
  refine AW_seqt ⟨[(8,iA k),(7,iA i),(6,.own 800 2 0 M.length),(2,.ep (encT t)),(3,.ep (encX b))],[(800,rwH M)]⟩ ?_ (by
   intro K hK
   have z'1:=@encT.eq_1;have z'2:=@encF.eq_1;exact ga0)
  refine AW_seqt ⟨[(8,iA k),(7,iA i),(6,.own 800 2 0 M2.length),(2,.ep (encT t)),(3,.ep (encX b))],[(800,rwH M2)]⟩ ?_ (by
   intro K hK
   refine AW_block ?_
   refine AW_seqt ⟨[(9,.loc 9 0),(8,iA k),(7,iA i),(6,.own 800 2 0 M.length),(2,.ep (encT t)),(3,.ep (encX b))],[(9,.box 28 (encX (B u))),(800,rwH M)]⟩ ?_ (by
    intro K hK
    have k'1:=hb2;have z'1:=@encT.eq_1;have z'2:=@encF.eq_1;exact ga1)
   rcases hmu : meeX (B u) b with _|_
   ·have hs2 : Hld (M2 = M):=⟨by have:=hs.out;rw [hmu] at this;simpa using this⟩
    rw [hmu] at hm2
    clear hs hmu
    have k'1:=hm2;have z'1:=hs2.out;exact ga1
   ·have hs2 : Hld (M2 = M ++ [⟨lf.o,lf.first + (k : Int)⟩]):=⟨by have:=hs.out;rw [hmu] at this;simpa using this⟩
    rw [hmu] at hm2
    clear hs hmu
    refine AW_seqt ⟨[(57,bA true),(8,iA k),(7,iA i),(6,.own 800 2 0 M.length),(2,.ep (encT t)),(3,.ep (encX b))],[(800,rwH M)]⟩ ?_ (by
     intro K hK
     have k'1:=hm2;exact ga1)
    refine AW_le (t:=⟨[(57,bA true),(8,iA k),(7,iA i),(6,.own 800 2 0 M.length),(2,.ep (encT t)),(3,.ep (encX b))],[(800,rwH M)]⟩) (by simp) ?_
    refine AW_if fun X Y hX hY=>?_
    simp
    refine hX.h ?_
    have hK : Kont K (fun s'=>s'.le ⟨[(8,iA k),(7,iA i),(6,.own 800 2 0 (M.length + 1)),(2,.ep (encT t)),(3,.ep (encX b))],[(800,.arr 101 2 (M.map encH ++ [encH ⟨lf.o,lf.first + (k : Int)⟩]))]⟩):=⟨fun s' h=>hK.h s' (by
     have e1 : M2.length = M.length + 1:=by rw [hs2.out];simp
     have e2 : rwH M2 = .arr 101 2 (M.map encH ++ [encH ⟨lf.o,lf.first + (k : Int)⟩]):=by show Ct.arr _ 2 (M2.map encH) = _;rw [hs2.out,List.map_append];rfl
     rw [e1,e2];exact h)⟩
    refine AW_drawF (fun f=>⟨[(58,if f 0 && !f 17 then .own 800 2 0 M.length else .u),(59,if f 1 then .ep (.sl 9 (t.lv.map encF)) else .u),(60,if f 2 then .sl 9 (t.lv.map encF) else .u),(61,if f 3 then iA i else .u),(62,if f 4 then .ep (encF lf) else .u),(63,if f 5 then .ep (iA lf.o) else .u),(64,if f 6 then iA lf.o else .u),(65,if f 7 then .ep (.sl 9 (t.lv.map encF)) else .u),(66,if f 8 then .sl 9 (t.lv.map encF) else .u),(67,if f 9 then iA i else .u),(68,if f 10 then .ep (encF lf) else .u),(69,if f 11 then .ep (iA lf.first) else .u),(70,if f 12 then iA lf.first else .u),(71,if f 13 then iA k else .u),(72,if f 14 then iA (lf.first + k) else .u),(73,if f 15 then encH ⟨lf.o,lf.first + (k : Int)⟩ else .u),(74,if f 16 then .own 74 2 0 1 else .u),(75,if f 17 then .own 800 2 0 (M.length + 1) else .u),(8,iA k),(7,iA i),(6,if f 18 then .own 800 2 0 (M.length + 1) else if f 17 then .u else .own 800 2 0 M.length),(2,.ep (encT t)),(3,.ep (encX b))],
     (if f 16 then [(74,.arr 101 2 [encH ⟨lf.o,lf.first + (k : Int)⟩])] else []) ++ [(800,.arr 101 2 (if f 17 then M.map encH ++ [encH ⟨lf.o,lf.first + (k : Int)⟩] else M.map encH))]⟩) mixed (by rw [hE];decide) (by decide +kernel) (by decide +kernel) (by simp) ?_ ?_
    ·intro f i o hi hdep hnot hcl K2 hK2
     have w17_16 : f 17 = true → f 16 = true:=gw
     have w17_0 : f 17 = true → f 0 = true:=gw
     have w18_17 : f 18 = true → f 17 = true:=gw
     clear hcl
     iterate 19 (rcases i with _|i;rotate_left)
     ·simp at hi
     all_goals (simp only [List.getElem?_cons_succ,List.getElem?_cons_zero,Option.some.injEq] at hi;subst hi)
     all_goals simp [Region.binds] at hdep
     all_goals (rcases a16 : f 16 <;> rcases a17 : f 17)
     all_goals try (exfalso;revert hdep hnot w17_16 w17_0 w18_17;simp [a16,a17];done)
     all_goals (try simp [a16,a17,hnot] at w17_16)
     all_goals (try simp [a16,a17,hnot] at w17_0)
     all_goals (try simp [a16,a17,hnot] at w18_17)
     all_goals (have z'1:=@encT.eq_1;have z'2:=@encF.eq_1;have z'3:=@encH.eq_1;have z'4:=@mentL_append;exact gd0)
    ·intro f hf
     have e18:=hf 18 (by simp)
     have e16:=hf 16 (by simp)
     have e17:=hf 17 (by simp)
     refine hK.h _ ?_
     simp [e18,e16,e17,encT,encF,encH,mentL_append]
    all_goals simp)
  have z'1:=hM2.out;exact glk
 ·have : k = lf.us.length:=by omega
  subst this
  have z'1:=@encT.eq_1;have z'2:=@encF.eq_1;exact ga0
theorem mee_joinR {a b c : Bx} (h : meeX b c = true) : meeX (joiX a b) c = true:=by
 have h':=of_decide_eq_true h
 exact decide_eq_true ⟨⟨Int.le_trans (Int.min_le_right _ _) h'.1.1,Int.le_trans h'.1.2 (Int.le_max_right _ _)⟩,⟨Int.le_trans (Int.min_le_right _ _) h'.2.1.1,Int.le_trans h'.2.1.2 (Int.le_max_right _ _)⟩,⟨Int.le_trans (Int.min_le_right _ _) h'.2.2.1,Int.le_trans h'.2.2.2 (Int.le_max_right _ _)⟩⟩
theorem mee_joinL {a b c : Bx} (h : meeX a c = true) : meeX (joiX a b) c = true:=by
 have h':=of_decide_eq_true h
 exact decide_eq_true ⟨⟨Int.le_trans (Int.min_le_left _ _) h'.1.1,Int.le_trans h'.1.2 (Int.le_max_left _ _)⟩,⟨Int.le_trans (Int.min_le_left _ _) h'.2.1.1,Int.le_trans h'.2.1.2 (Int.le_max_left _ _)⟩,⟨Int.le_trans (Int.min_le_left _ _) h'.2.2.1,Int.le_trans h'.2.2.2 (Int.le_max_left _ _)⟩⟩
theorem mee_jon {c : Bx} : ∀ (l : List Bx) (b : Bx),(meeX b c = true ∨ ∃ x ∈ l,meeX x c = true) → meeX (jonX b l) c = true
 |[],b,h=>by
  rcases h with h|⟨x,hx,_⟩
  ·exact h
  ·cases hx
 |y :: l,b,h=>by
  refine mee_jon l (joiX b y) ?_
  rcases h with h|⟨x,hx,h⟩
  ·exact .inl (mee_joinL h)
  ·rcases List.mem_cons.1 hx with rfl|hx
   ·exact .inl (mee_joinR h)
   ·exact .inr ⟨x,hx,h⟩
theorem mee_jnX {c x : Bx} {l : List Bx} (hx : x ∈ l) (h : meeX x c = true) : meeX (jnX l) c = true:=by
 cases l with
 |nil=>cases hx
 |cons b r =>
  refine mee_jon r b ?_
  rcases List.mem_cons.1 hx with rfl|hx
  ·exact .inl h
  ·exact .inr ⟨x,hx,h⟩
theorem mee_lbx {B : Un → Bx} {c : Bx} : ∀ (us : List Un) (a : Option Bx),((∃ x,a = some x ∧ meeX x c = true) ∨ ∃ u ∈ us,meeX (B u) c = true) → meeX ((us.foldl (stB B) a).getD zBx) c = true
 |[],a,h=>by
  rcases h with ⟨x,rfl,h⟩|⟨u,hu,_⟩
  ·exact h
  ·cases hu
 |u :: us,a,h=>by
  refine mee_lbx us (stB B a u) ?_
  rcases h with ⟨x,rfl,h⟩|⟨v,hv,h⟩
  ·exact .inl ⟨_,rfl,mee_joinL h⟩
  ·rcases List.mem_cons.1 hv with rfl|hv
   ·exact .inl ⟨_,rfl,mee_joinR h⟩
   ·exact .inr ⟨v,hv,h⟩
structure TrOK (t : Tr) (B : Un → Bx) : Prop where
 root : ∀ h : 0 < t.ns.length,t.ns[t.ns.length - 1].length = 1
 low : ∀ h : 0 < t.ns.length,t.ns[0] = nds (t.lv.map Lf.b)
 up : ∀ k (h : k + 1 < t.ns.length),t.ns[k + 1] = nds (t.ns[k].map Nd.b)
 none : t.ns.length = 0 → t.lv = []
 leaf : ∀ lf ∈ t.lv,∀ u ∈ lf.us,∀ b,meeX (B u) b = true → meeX lf.b b = true
theorem lvW_ok : ∀ (f : Nat) (bs : List Bx) (M : List (List Nd)),lvW f bs = M → bs.length ≤ f →
 (∀ h : 0 < M.length,M[M.length - 1].length = 1 ∧ M[0] = nds bs) ∧
 (∀ k (h : k + 1 < M.length),M[k + 1] = nds (M[k].map Nd.b)) ∧ (M.length = 0 → bs = [])
 |0,bs,M,hM,hl=>by
  have : bs = []:=List.length_eq_zero_iff.1 (by omega)
  subst hM
  simp [lvW,this]
 |f + 1,bs,M,hM,hl=>by
  by_cases h0 : bs.length = 0
  ·have : bs = []:=List.length_eq_zero_iff.1 h0
   subst hM
   simp [lvW,this]
  ·by_cases h1 : (nds bs).length = 1
   ·have e : lvW (f + 1) bs = [nds bs]:=by simp only [lvW,h0,h1,if_false,if_true]
    rw [e] at hM
    subst hM
    refine ⟨fun h=>⟨by simpa using h1,rfl⟩,fun k h=>by simp at h,fun h=>by simp at h⟩
   ·have hn : (nds bs).length = (bs.length + 3) / 4:=by rw [nds_len];rfl
    obtain ⟨L,hL⟩ : ∃ M,lvW f ((nds bs).map Nd.b) = M:=⟨_,rfl⟩
    obtain ⟨a,b,c⟩:=lvW_ok f ((nds bs).map Nd.b) L hL (by rw [List.length_map];omega)
    have e : lvW (f + 1) bs = nds bs :: lvW f ((nds bs).map Nd.b):=by simp only [lvW,h0,h1,if_false]
    rw [e,hL] at hM
    subst hM
    have hMl : 0 < L.length:=by
     rcases Nat.eq_zero_or_pos L.length with h|h
     ·have:=congrArg List.length (c h)
      rw [List.length_map,List.length_nil] at this
      omega
     ·exact h
    refine ⟨fun h=>⟨?_,rfl⟩,?_,fun h=>by simp at h⟩
    ·have:=(a hMl).1
     obtain ⟨n,hn⟩ : ∃ n,L.length = n + 1:=⟨L.length - 1,by omega⟩
     simp only [List.length_cons,hn,Nat.add_sub_cancel] at this ⊢
     simpa using this
    ·intro k hk
     rcases k with _|k
     ·simpa using (a hMl).2
     ·simpa using b k (by simpa using hk)
theorem lfF_leaf (B : Un → Bx) (o : Ob) (m j : Nat) : ∀ u ∈ (lfF B o m j).us,∀ b,meeX (B u) b = true → meeX (lfF B o m j).b b = true:=by
 intro u hu b h
 exact mee_lbx (chU m o.us j) none (.inr ⟨u,hu,h⟩)
theorem bldT_ok (B : Un → Bx) (m : Nat) (l : List Ob) : TrOK (bldT B m l) B:=by
 obtain ⟨a,b,c⟩:=lvW_ok (lvA B m l).length ((lvA B m l).map Lf.b) _ rfl (by simp)
 refine ⟨fun h=>(a h).1,fun h=>(a h).2,b,fun h=>List.map_eq_nil_iff.1 (c h),?_⟩
 intro lf hlf
 obtain ⟨o,ho,hlf⟩:=List.mem_flatMap.1 hlf
 obtain ⟨j,hj,rfl⟩:=List.mem_map.1 hlf
 exact lfF_leaf B o m j
def kids (n i : Nat) : List Nat:=(List.range (min 4 (n - i * 4))).map (i * 4 + ·)
theorem kids_all (N : Nat) : ∀ n,(List.range n).flatMap (kids N) = List.range (min (n * 4) N)
 |0=>by simp
 |n + 1=>by
  rw [List.range_succ,List.flatMap_append,kids_all N n]
  simp only [List.flatMap_cons,List.flatMap_nil,List.append_nil]
  unfold kids
  by_cases h : n * 4 ≤ N
  ·have e1 : min (n * 4) N = n * 4:=by omega
   have e2 : min ((n + 1) * 4) N = n * 4 + min 4 (N - n * 4):=by omega
   rw [e1,e2,List.range_add]
  ·have e1 : min (n * 4) N = N:=by omega
   have e2 : min ((n + 1) * 4) N = N:=by omega
   have e3 : min 4 (N - n * 4) = 0:=by omega
   rw [e1,e2,e3]
   simp
theorem kids_all' (N : Nat) : (List.range (cnt 4 N)).flatMap (kids N) = List.range N:=by
 rw [kids_all]
 congr 1
 unfold cnt
 omega
theorem mem_kids {N i j : Nat} (h : j ∈ kids N i) : j / 4 = i ∧ j < N:=by
 obtain ⟨k,hk,rfl⟩:=List.mem_map.1 h
 have:=List.mem_range.1 hk
 omega
theorem kids_filter (N : Nat) (p : Nat → Bool) : ((List.range (cnt 4 N)).filter p).flatMap (kids N) = (List.range N).filter (fun j=>p (j / 4)):=by
 rw [← kids_all' N]
 generalize List.range (cnt 4 N) = L
 induction L with
 |nil=>rfl
 |cons i L ih =>
  rw [List.flatMap_cons,List.filter_append,← ih,List.filter_cons]
  have e : (kids N i).filter (fun j=>p (j / 4)) = if p i then kids N i else []:=by
   split
   ·rename_i h
    exact List.filter_eq_self.2 fun j hj=>by rw [(mem_kids hj).1];exact h
   ·rename_i h
    exact List.filter_eq_nil_iff.2 fun j hj=>by rw [(mem_kids hj).1];exact h
  rw [e]
  split <;> simp
def numB (t : Tr) : Nat → Nat
 |0=>t.lv.length
 |k + 1=>(t.ns.getD k []).length
def boxB (t : Tr) : Nat → List Bx
 |0=>t.lv.map Lf.b
 |k + 1=>(t.ns.getD k []).map Nd.b
theorem boxB_succ {t : Tr} {k : Nat} {l : List Nd} (h : t.ns[k]? = some l) : boxB t (k + 1) = l.map Nd.b:=by simp only [boxB,List.getD,h,Option.getD_some]
theorem boxB_len (t : Tr) (k : Nat) : (boxB t k).length = numB t k:=by cases k <;> simp [boxB,numB]
theorem TrOK.lev {t : Tr} {B : Un → Bx} (h : TrOK t B) {k : Nat} (hk : k < t.ns.length) : t.ns[k] = nds (boxB t k):=by
 rcases k with _|k
 ·exact h.low hk
 ·rw [h.up k hk]
  simp only [boxB,List.getD,List.getElem?_eq_getElem (show k < t.ns.length by omega),Option.getD_some]
theorem TrOK.num {t : Tr} {B : Un → Bx} (h : TrOK t B) {k : Nat} (hk : k < t.ns.length) : numB t (k + 1) = cnt 4 (numB t k):=by
 have:=congrArg List.length (h.lev hk)
 rw [nds_len,boxB_len] at this
 simp only [numB,List.getD,List.getElem?_eq_getElem hk,Option.getD_some]
 exact this
def metB (t : Tr) (b : Bx) (k i : Nat) : Bool:=match (boxB t k)[i]? with
 |some x=>meeX x b
 |none=>false
def totB (t : Tr) (B : Un → Bx) (b : Bx) (k : Nat) (S : List Nat) : List Ht × Nat:=S.foldl (fun a i=>(a.1 ++ (visF t B b k i).1,a.2 + (visF t B b k i).2)) ([],0)
theorem totB_gen (t : Tr) (B : Un → Bx) (b : Bx) (k : Nat) : ∀ (S : List Nat) (a : List Ht × Nat),S.foldl (fun a i=>(a.1 ++ (visF t B b k i).1,a.2 + (visF t B b k i).2)) a = (a.1 ++ (totB t B b k S).1,a.2 + (totB t B b k S).2)
 |[],a=>by simp [totB]
 |i :: S,a=>by
  unfold totB
  simp only [List.foldl_cons]
  rw [totB_gen t B b k S,totB_gen t B b k S (_,_)]
  simp [List.append_assoc,Nat.add_assoc]
theorem totB_cons (t : Tr) (B : Un → Bx) (b : Bx) (k i : Nat) (S : List Nat) : totB t B b k (i :: S) = ((visF t B b k i).1 ++ (totB t B b k S).1,(visF t B b k i).2 + (totB t B b k S).2):=by
 show (i :: S).foldl _ _ = _
 rw [List.foldl_cons,totB_gen]
 simp
theorem totB_app (t : Tr) (B : Un → Bx) (b : Bx) (k : Nat) (S T : List Nat) : totB t B b k (S ++ T) = ((totB t B b k S).1 ++ (totB t B b k T).1,(totB t B b k S).2 + (totB t B b k T).2):=by
 show (S ++ T).foldl _ _ = _
 rw [List.foldl_append,totB_gen]
 rfl
theorem ndF_first (bs : List Bx) (j : Nat) : (ndF bs j).first.toNat = j * 4:=by show ((j * 4 : Nat) : Int).toNat = _;omega
theorem chX_len (bs : List Bx) (j : Nat) : (chX bs j).length = min 4 (bs.length - j * 4):=by simp [chX]
theorem ndF_count (bs : List Bx) (j : Nat) : (ndF bs j).count.toNat = min 4 (bs.length - j * 4):=by rw [← chX_len];rfl
theorem vis_node {t : Tr} {B : Un → Bx} (h : TrOK t B) (b : Bx) {k i : Nat} (hk : k < t.ns.length) (hi : i < numB t (k + 1)) :
 visF t B b (k + 1) i = if metB t b (k + 1) i then ((totB t B b k (kids (numB t k) i)).1,1 + (totB t B b k (kids (numB t k) i)).2) else ([],1):=by
 have e:=h.lev hk
 have hn : t.ns[k]? = some (nds (boxB t k)):=by rw [List.getElem?_eq_getElem hk,e]
 have hi2 : i < (nds (boxB t k)).length:=by
  have : numB t (k + 1) = (nds (boxB t k)).length:=by simp only [numB,List.getD,hn,Option.getD_some]
  omega
 have hnd : (nds (boxB t k))[i]? = some (ndF (boxB t k) i):=by rw [List.getElem?_eq_getElem hi2,nds_get]
 have hm : metB t b (k + 1) i = meeX (ndF (boxB t k) i).b b:=by
  unfold metB
  have : (boxB t (k + 1))[i]? = some (ndF (boxB t k) i).b:=by rw [boxB_succ hn,List.getElem?_map,hnd];rfl
  rw [this]
 unfold visF
 rw [hn]
 simp only [hnd]
 rw [hm]
 split
 ·rw [ndF_count,boxB_len,ndF_first]
  have : (List.range (min 4 (numB t k - i * 4))).foldl (fun a j=>(a.1 ++ (visF t B b k (i * 4 + j)).1,a.2 + (visF t B b k (i * 4 + j)).2)) (([],1) : List Ht × Nat) = (kids (numB t k) i).foldl (fun a j=>(a.1 ++ (visF t B b k j).1,a.2 + (visF t B b k j).2)) ([],1):=by
   unfold kids
   rw [List.foldl_map]
  rw [this,totB_gen]
  simp
 ·rfl
theorem tot_node {t : Tr} {B : Un → Bx} (h : TrOK t B) (b : Bx) {k : Nat} (hk : k < t.ns.length) : ∀ (S : List Nat),(∀ i ∈ S,i < numB t (k + 1)) →
 totB t B b (k + 1) S = ((totB t B b k ((S.filter (metB t b (k + 1))).flatMap (kids (numB t k)))).1,S.length + (totB t B b k ((S.filter (metB t b (k + 1))).flatMap (kids (numB t k)))).2)
 |[],_=>by simp [totB]
 |i :: S,hS=>by
  rw [totB_cons,tot_node h b hk S (fun j hj=>hS j (by simp [hj])),vis_node h b hk (hS i (by simp)),List.filter_cons]
  split
  ·rw [List.flatMap_cons,totB_app]
   simp
   omega
  ·simp
   omega
def rchB (t : Tr) (b : Bx) : Nat → Nat → Nat → Bool
 |0,_,_=>true
 |d + 1,k,i=>metB t b (k + 1) (i / 4) && rchB t b d (k + 1) (i / 4)
def vst (t : Tr) (b : Bx) (k : Nat) : List Nat:=(List.range (numB t k)).filter (rchB t b (t.ns.length - k) k)
theorem vst_succ {t : Tr} {B : Un → Bx} (h : TrOK t B) (b : Bx) {k : Nat} (hk : k < t.ns.length) : ((vst t b (k + 1)).filter (metB t b (k + 1))).flatMap (kids (numB t k)) = vst t b k:=by
 unfold vst
 rw [List.filter_filter,h.num hk,kids_filter]
 congr 1
 funext i
 have e : t.ns.length - k = (t.ns.length - (k + 1)) + 1:=by omega
 rw [e]
 rfl
theorem vst_lt {t : Tr} {b : Bx} {k : Nat} : ∀ i ∈ vst t b k,i < numB t k:=fun i hi=>List.mem_range.1 (List.mem_filter.1 hi).1
def sumV (t : Tr) (b : Bx) : Nat → Nat
 |0=>0
 |k + 1=>(vst t b k).length + sumV t b k
theorem tot_down {t : Tr} {B : Un → Bx} (h : TrOK t B) (b : Bx) : ∀ k,k ≤ t.ns.length → totB t B b k (vst t b k) = ((totB t B b 0 (vst t b 0)).1,(totB t B b 0 (vst t b 0)).2 + (sumV t b (k + 1) - (vst t b 0).length))
 |0,_=>by simp [sumV]
 |k + 1,hk=>by
  have hle : (vst t b 0).length ≤ sumV t b (k + 1):=by
   clear hk
   induction k with
   |zero=>simp [sumV]
   |succ k ih=>simp only [sumV] at ih ⊢;omega
  rw [tot_node h b (by omega) _ vst_lt,vst_succ h b (by omega),tot_down h b k (by omega)]
  simp only [sumV] at hle ⊢
  congr 1
  omega
theorem tot_leaf (t : Tr) (B : Un → Bx) (b : Bx) : ∀ S : List Nat,(totB t B b 0 S).2 = S.length
 |[]=>rfl
 |i :: S=>by
  rw [totB_cons]
  show (visF t B b 0 i).2 + (totB t B b 0 S).2 = _
  rw [tot_leaf t B b S]
  have : (visF t B b 0 i).2 = 1:=by
   unfold visF
   split
   ·split <;> rfl
   ·rfl
  simp [this]
  omega
def scn (t : Tr) (B : Un → Bx) (b : Bx) (i : Nat) : List Ht:=(t.lv.take i).flatMap fun lf=>hitsF B b lf lf.us.length
theorem hits_none {B : Un → Bx} {b : Bx} {lf : Lf} (h : ∀ u ∈ lf.us,meeX (B u) b = true → meeX lf.b b = true) (hm : meeX lf.b b = false) : ∀ n,n ≤ lf.us.length → hitsF B b lf n = []
 |0,_=>rfl
 |n + 1,hn=>by
  rw [hitsF_succ _ _ _ _ (by omega),hits_none h hm n (by omega)]
  have : meeX (B lf.us[n]) b = false:=by
   cases e : meeX (B lf.us[n]) b with
   |false=>rfl
   |true=>rw [h _ (List.getElem_mem _) e] at hm;cases hm
  simp [this]
theorem mem_chX {bs : List Bx} {i j : Nat} (hj : j < bs.length) (h : j / 4 = i) : bs[j] ∈ chX bs i:=by
 have e : (chX bs i)[j - i * 4]? = some bs[j]:=by
  unfold chX
  rw [List.getElem?_take,if_pos (by omega),List.getElem?_drop,List.getElem?_eq_getElem (by omega)]
  congr 2
  omega
 exact List.mem_of_getElem? e
theorem met_up {t : Tr} {B : Un → Bx} (h : TrOK t B) {b : Bx} {k i : Nat} (hk : k < t.ns.length) (hm : metB t b k i = true) : metB t b (k + 1) (i / 4) = true:=by
 have e:=h.lev hk
 have hn : t.ns[k]? = some (nds (boxB t k)):=by rw [List.getElem?_eq_getElem hk,e]
 unfold metB at hm
 split at hm
 ·rename_i x hx
  have hi:=(List.getElem?_eq_some_iff.1 hx).1
  have hxe:=(List.getElem?_eq_some_iff.1 hx).2
  have hi2 : i / 4 < (nds (boxB t k)).length:=by rw [nds_len];unfold cnt;omega
  have hnd : (nds (boxB t k))[i / 4]? = some (ndF (boxB t k) (i / 4)):=by rw [List.getElem?_eq_getElem hi2,nds_get]
  unfold metB
  have : (boxB t (k + 1))[i / 4]? = some (ndF (boxB t k) (i / 4)).b:=by rw [boxB_succ hn,List.getElem?_map,hnd];rfl
  rw [this]
  exact mee_jnX (l:=chX (boxB t k) (i / 4)) (hxe ▸ mem_chX hi rfl) hm
 ·cases hm
theorem rch_met {t : Tr} {B : Un → Bx} (h : TrOK t B) {b : Bx} : ∀ (d k i : Nat),k + d = t.ns.length → metB t b k i = true → rchB t b d k i = true
 |0,_,_,_,_=>rfl
 |d + 1,k,i,hk,hm=>by
  have:=met_up h (by omega) hm
  simp only [rchB,this,Bool.true_and]
  exact rch_met h d (k + 1) (i / 4) (by omega) this
theorem tot_hits {t : Tr} {B : Un → Bx} (h : TrOK t B) (b : Bx) : ∀ n,n ≤ t.lv.length → (totB t B b 0 ((List.range n).filter (rchB t b t.ns.length 0))).1 = scn t B b n
 |0,_=>by simp [totB,scn]
 |n + 1,hn=>by
  have hlt : n < t.lv.length:=by omega
  rw [List.range_succ,List.filter_append,totB_app]
  show (totB t B b 0 ((List.range n).filter _)).1 ++ _ = _
  rw [tot_hits h b n (by omega)]
  have es : scn t B b (n + 1) = scn t B b n ++ hitsF B b t.lv[n] t.lv[n].us.length:=by
   unfold scn
   rw [List.take_succ_eq_append_getElem hlt,List.flatMap_append]
   simp
  rw [es]
  congr 1
  have hlf:=h.leaf t.lv[n] (List.getElem_mem hlt)
  have hq : t.lv[n]? = some t.lv[n]:=List.getElem?_eq_getElem hlt
  have hmb : metB t b 0 n = meeX t.lv[n].b b:=by
   unfold metB
   have : (boxB t 0)[n]? = some t.lv[n].b:=by simp only [boxB,List.getElem?_map,hq,Option.map_some]
   rw [this]
  have hv : (visF t B b 0 n).1 = if meeX t.lv[n].b b then hitsF B b t.lv[n] t.lv[n].us.length else []:=by
   unfold visF
   rw [hq]
   simp only
   split <;> rfl
  rw [List.filter_cons]
  cases hm : meeX t.lv[n].b b with
  |true =>
   have:=rch_met h t.ns.length 0 n (by omega) (hmb.trans hm)
   simp [this,totB,hv,hm]
  |false =>
   rw [hits_none (fun u hu=>hlf u hu b) hm _ (Nat.le_refl _)]
   split <;> simp [totB,hv,hm]
def cntR (t : Tr) (b : Bx) (k : Nat) : Nat → Nat
 |0=>0
 |i + 1=>cntR t b k i + (if rchB t b (t.ns.length - (k + 1)) (k + 1) i && metB t b (k + 1) i then min 4 (numB t k - i * 4) else 0)
def cntL (t : Tr) (b : Bx) : Nat → Nat
 |0=>1
 |k + 1=>cntL t b k + cntR t b k (numB t (k + 1))
theorem cntR_eq (t : Tr) (b : Bx) (k : Nat) : ∀ n : Nat,cntR t b k n = (((List.range n).filter (fun i=>rchB t b (t.ns.length - (k + 1)) (k + 1) i && metB t b (k + 1) i)).flatMap (kids (numB t k))).length
 |0=>rfl
 |n + 1=>by
  rw [List.range_succ,List.filter_append,List.flatMap_append,List.length_append,← cntR_eq t b k n,List.filter_cons]
  simp only [cntR]
  split <;> simp [kids]
theorem cntL_eq {t : Tr} {B : Un → Bx} (h : TrOK t B) (b : Bx) : ∀ k,k ≤ t.ns.length → cntL t b k = 1 + sumV t b k
 |0,_=>rfl
 |k + 1,hk=>by
  simp only [cntL,sumV]
  have : (fun i=>rchB t b (t.ns.length - (k + 1)) (k + 1) i && metB t b (k + 1) i) = fun i=>metB t b (k + 1) i && rchB t b (t.ns.length - (k + 1)) (k + 1) i:=by funext i;exact Bool.and_comm _ _
  rw [cntL_eq h b k (by omega),cntR_eq,this,← List.filter_filter,← vst_succ h b (show k < t.ns.length by omega)]
  unfold vst
  omega
theorem vst_top {t : Tr} {B : Un → Bx} (h : TrOK t B) (b : Bx) (h0 : t.ns.length ≠ 0) : vst t b t.ns.length = [0]:=by
 have hr:=h.root (by omega)
 have : numB t t.ns.length = 1:=by
  obtain ⟨n,hn⟩ : ∃ n,t.ns.length = n + 1:=⟨t.ns.length - 1,by omega⟩
  rw [hn]
  simp only [hn,Nat.add_sub_cancel] at hr
  simp only [numB,List.getD,List.getElem?_eq_getElem (show n < t.ns.length by omega),Option.getD_some]
  exact hr
 unfold vst
 rw [this,Nat.sub_self]
 rfl
theorem src_eq {t : Tr} {B : Un → Bx} (h : TrOK t B) (b : Bx) (h0 : t.ns.length ≠ 0) : srcF t B b = (scn t B b t.lv.length,cntL t b t.ns.length):=by
 have e1 : visF t B b t.ns.length 0 = totB t B b t.ns.length (vst t b t.ns.length):=by
  rw [vst_top h b h0,totB_cons]
  simp [totB]
 unfold srcF
 rw [if_neg h0,e1,tot_down h b _ (Nat.le_refl _),tot_leaf,cntL_eq h b _ (Nat.le_refl _)]
 have e2:=tot_hits h b t.lv.length (Nat.le_refl _)
 have e3 : vst t b 0 = (List.range t.lv.length).filter (rchB t b t.ns.length 0):=rfl
 rw [e3,e2,← e3]
 have e4 : sumV t b (t.ns.length + 1) = 1 + sumV t b t.ns.length:=by
  simp only [sumV]
  rw [vst_top h b h0]
  rfl
 have hle : ∀ k,(vst t b 0).length ≤ sumV t b (k + 1):=by
  intro k
  induction k with
  |zero=>simp [sumV]
  |succ k ih=>simp only [sumV] at ih ⊢;omega
 have:=hle t.ns.length
 congr 1
 omega
theorem cnt_le {t : Tr} {B : Un → Bx} (h : TrOK t B) (b : Bx) (h0 : t.ns.length ≠ 0) : cntL t b t.ns.length ≤ totF t t.ns.length:=by
 rw [cntL_eq h b _ (Nat.le_refl _)]
 have e4 : sumV t b (t.ns.length + 1) = 1 + sumV t b t.ns.length:=by
  simp only [sumV]
  rw [vst_top h b h0]
  rfl
 rw [← e4]
 have key : ∀ k,k ≤ t.ns.length → sumV t b (k + 1) ≤ totF t k:=by
  intro k
  induction k with
  |zero =>
   intro _
   have : (vst t b 0).length ≤ t.lv.length:=by
    have:=List.length_filter_le (rchB t b t.ns.length 0) (List.range t.lv.length)
    rwa [List.length_range] at this
   simp [sumV,totF]
   exact this
  |succ k ih =>
   intro hk
   have h1:=ih (by omega)
   have h2 : (vst t b (k + 1)).length ≤ t.ns[k].length:=by
    have:=List.length_filter_le (rchB t b (t.ns.length - (k + 1)) (k + 1)) (List.range (numB t (k + 1)))
    rw [List.length_range] at this
    have e : numB t (k + 1) = t.ns[k].length:=by simp only [numB,List.getD,List.getElem?_eq_getElem (show k < t.ns.length by omega),Option.getD_some]
    exact Nat.le_trans this (Nat.le_of_eq e)
   have h3 : totF t (k + 1) = totF t k + t.ns[k].length:=by
    unfold totF
    rw [List.take_succ_eq_append_getElem (show k < t.ns.length by omega),List.map_append,List.sum_append]
    simp
    omega
   simp only [sumV] at h1 ⊢
   omega
 exact key _ (Nat.le_refl _)
theorem cnt_two {t : Tr} {B : Un → Bx} (h : TrOK t B) (b : Bx) (h0 : t.ns.length ≠ 0) (hs : scn t B b t.lv.length ≠ []) : 1 < cntL t b t.ns.length:=by
 rw [cntL_eq h b _ (Nat.le_refl _)]
 have e2:=tot_hits h b t.lv.length (Nat.le_refl _)
 have e3 : vst t b 0 = (List.range t.lv.length).filter (rchB t b t.ns.length 0):=rfl
 rw [← e3] at e2
 have hne : (vst t b 0).length ≠ 0:=by
  intro e
  rw [List.length_eq_zero_iff.1 e] at e2
  exact hs (by rw [← e2];rfl)
 have hle : ∀ k,(vst t b 0).length ≤ sumV t b (k + 1):=by
  intro k
  induction k with
  |zero=>simp [sumV]
  |succ k ih=>simp only [sumV] at ih ⊢;omega
 obtain ⟨n,hn⟩ : ∃ n,t.ns.length = n + 1:=⟨t.ns.length - 1,by omega⟩
 have:=hle n
 rw [hn]
 omega
theorem rch_eq (t : Tr) (b : Bx) : ∀ (d k i : Nat),k + d + 1 = t.ns.length → rchF t b d i = rchB t b d (k + 1) i
 |0,_,_,_=>rfl
 |d + 1,k,i,hk=>by
  have e : t.ns.length - 1 - d = k + 1:=by omega
  have hlt : k + 1 < t.ns.length:=by omega
  simp only [rchF,rchB,e]
  rw [← rch_eq t b d (k + 1) (i / 4) (by omega)]
  unfold metB
  simp only [boxB,List.getD,List.getElem?_eq_getElem hlt,Option.getD_some,List.getElem?_map]
  cases t.ns[k + 1][i / 4]? <;> simp
theorem TrOK.lvOK {t : Tr} {B : Un → Bx} (h : TrOK t B) : LvOK t:=by
 intro i hi k hk
 have:=congrArg List.length (h.up i hi)
 rw [nds_len,List.length_map] at this
 rw [this]
 unfold cnt
 omega
theorem TrOK.node {t : Tr} {B : Un → Bx} (h : TrOK t B) (b : Bx) {k i : Nat} (hk : k < t.ns.length) (hi : i < t.ns[k].length) : t.ns[k][i].count = ((min 4 (numB t k - i * 4) : Nat) : Int) ∧ metB t b (k + 1) i = meeX t.ns[k][i].b b:=by
 have e:=h.lev hk
 have hn : t.ns[k]? = some (nds (boxB t k)):=by rw [List.getElem?_eq_getElem hk,e]
 have hi2 : i < (nds (boxB t k)).length:=by rw [← e];exact hi
 have hx : t.ns[k][i] = ndF (boxB t k) i:=by
  have : t.ns[k][i]? = some (ndF (boxB t k) i):=by rw [e,List.getElem?_eq_getElem hi2,nds_get]
  rw [List.getElem?_eq_getElem hi] at this
  exact Option.some.inj this
 rw [hx]
 refine ⟨?_,?_⟩
 ·show ((chX (boxB t k) i).length : Int) = _
  rw [chX_len,boxB_len]
 ·unfold metB
  have : (boxB t (k + 1))[i]? = some (ndF (boxB t k) i).b:=by rw [boxB_succ hn,List.getElem?_map,List.getElem?_eq_getElem hi2,nds_get];rfl
  rw [this]
theorem cntR_mono (t : Tr) (b : Bx) (k : Nat) {i n : Nat} (h : i ≤ n) : cntR t b k i ≤ cntR t b k n:=by
 induction n with
 |zero=>have : i = 0:=by omega
        subst this;exact Nat.le_refl _
 |succ n ih =>
  by_cases e : i = n + 1
  ·rw [e];exact Nat.le_refl _
  ·have:=ih (by omega)
   simp only [cntR]
   omega
theorem cntL_mono (t : Tr) (b : Bx) {i n : Nat} (h : i ≤ n) : cntL t b i ≤ cntL t b n:=by
 induction n with
 |zero=>have : i = 0:=by omega
        subst this;exact Nat.le_refl _
 |succ n ih =>
  by_cases e : i = n + 1
  ·rw [e];exact Nat.le_refl _
  ·have:=ih (by omega)
   simp only [cntL]
   omega
noncomputable def cLev : Code:=nav [1,1,1,1,1,0,1,0,0,1,0] (Tryz.f18.body.getD .skip)
set_option maxHeartbeats 8000000 in
theorem wsr_lev {E : Env} (hE : E.n = Tryz.f18.ntmps) {t : Tr} {B : Un → Bx} {b : Bx} {lev c : Nat} {X : AV} (hX : X.idf = true) (hX2 : X.one = true) (hT : TrOK t B) (hlev : lev < t.ns.length) (hns : t.ns.length ≤ 1000000) (hw : t.ns[lev].length ≤ 1000000) (hc : c + cntR t b lev t.ns[lev].length ≤ 1000000000) {Q : AExit → AState → Prop}
 (h : ∀ s' : AState,s'.le ⟨[(12,iA lev),(11,iA (c + cntR t b lev t.ns[lev].length : Nat)),(6,X),(2,.ep (encT t)),(3,.ep (encX b))],[]⟩ → Q .normal s') :
 AW Tryz.prog E cLev ⟨[(12,iA lev),(11,iA c),(6,X),(2,.ep (encT t)),(3,.ep (encX b))],[]⟩ Q:=by
 have hlI : (lev : Int) < t.ns.length:=by omega
 have hrc:=Hld.mk (fun k (hk : k < t.ns[lev].length)=>s_reached hT.lvOK hns b (t.ns.length - (lev + 1)) lev k (by omega) hk (by omega))
 have hre:=Hld.mk (fun k=>rch_eq t b (t.ns.length - (lev + 1)) lev k (by omega))
 have hnd:=Hld.mk (fun k (hk : k < t.ns[lev].length)=>hT.node b hlev hk)
 have hmo:=Hld.mk (fun k (hk : k ≤ t.ns[lev].length)=>cntR_mono t b lev hk)
 have hc0 : cntR t b lev 0 = 0:=rfl
 obtain ⟨F,hF⟩ : ∃ F,cntR t b lev = F:=⟨_,rfl⟩
 obtain ⟨l,hl⟩ : ∃ l,t.ns[lev] = l:=⟨_,rfl⟩
 have hlg : ∀ h : lev < t.ns.length,t.ns[lev] = l:=fun _=>hl
 simp only [hF,hl] at hrc hnd hmo hc hw hc0
 have hcs : Hld (∀ k,F (k + 1) = F k + (if rchB t b (t.ns.length - (lev + 1)) (lev + 1) k && metB t b (lev + 1) k then min 4 (numB t lev - k * 4) else 0)):=⟨by rw [← hF];exact fun k=>rfl⟩
 have hQ : Kont (Q .normal) (fun s'=>s'.le ⟨[(12,iA lev),(11,iA (c + F l.length : Nat)),(6,X),(2,.ep (encT t)),(3,.ep (encX b))],[]⟩):=⟨fun s' hs'=>h s' (by rw [hF];simp only [hl];exact hs')⟩
 clear h hF hT
 replace hl:=()
 refine AW_block ?_
 refine AW_seqt ⟨[(13,iA 0),(12,iA lev),(11,iA c),(6,X),(2,.ep (encT t)),(3,.ep (encX b))],[]⟩ ?_ (by
  intro K hK
  clear hQ
  exact ga0)
 refine AW_block ?_
 refine AW_loopk (G:=Nat) (fun k=>⟨[(13,iA k),(12,iA lev),(11,iA (c + F k : Nat)),(6,X),(2,.ep (encT t)),(3,.ep (encX b))],[]⟩) (fun k=>k ≤ l.length) (fun k=>l.length - k) 0 (Nat.zero_le _) (by simp [hc0]) ?_
 intro k hk K hK
 by_cases hlt : k < l.length
 ·have hltI : (k : Int) < l.length:=by omega
  have hr:=hrc.out k hlt
  have hn:=hnd.out k hlt
  have hs:=hcs.out k
  have he:=hre.out k
  have hm:=hmo.out (k + 1) (by omega)
  obtain ⟨⟨nf,nc,nb⟩,hne⟩ : ∃ nd,l[k] = nd:=⟨_,rfl⟩
  have hng : ∀ h : k < l.length,l[k] = ⟨nf,nc,nb⟩:=fun _=>hne
  rw [hne] at hn
  obtain ⟨hn1,hn2⟩:=hn
  replace hn1 : nc = ((min 4 (numB t lev - k * 4) : Nat) : Int):=hn1
  replace hn2 : metB t b (lev + 1) k = meeX nb b:=hn2
  have hme:=s_wmeets nb b
  rw [he] at hr
  rw [hn2] at hs
  obtain ⟨w,hw4⟩ : ∃ w,min 4 (numB t lev - k * 4) = w:=⟨_,rfl⟩
  rw [hw4] at hs hn1
  obtain ⟨r,hrr⟩ : ∃ r,rchB t b (t.ns.length - (lev + 1)) (lev + 1) k = r:=⟨_,rfl⟩
  obtain ⟨q,hqq⟩ : ∃ r,meeX nb b = r:=⟨_,rfl⟩
  rw [hrr] at hr hs
  rw [hqq] at hme hs
  obtain ⟨x,hx⟩ : ∃ x,F k = x:=⟨_,rfl⟩
  obtain ⟨y,hy⟩ : ∃ x,F (k + 1) = x:=⟨_,rfl⟩
  rw [hx,hy] at hs
  rw [hy] at hm
  replace hr:=Hld.mk hr
  replace hme:=Hld.mk hme
  subst hn1
  refine AW_le (t:=⟨[(13,iA k),(12,iA lev),(11,iA (c + x : Nat)),(6,X),(2,.ep (encT t)),(3,.ep (encX b))],[]⟩) (by simp [hx]) ?_
  replace hx:=()
  replace hy:=Hld.mk hy
  replace hs:=Hld.mk hs
  clear hn2 hrr hqq hw4 hne he hcs hre hnd hmo hrc hQ
  refine AW_seqt ⟨[(13,iA k),(12,iA lev),(11,iA (c + x : Nat)),(6,X),(2,.ep (encT t)),(3,.ep (encX b))],[]⟩ ?_ (by
   intro K hK
   clear hs hm
   have z'1:=@encT.eq_1;exact ga0)
  refine AW_seqt ⟨[(13,iA k),(12,iA lev),(11,iA (c + y : Nat)),(6,X),(2,.ep (encT t)),(3,.ep (encX b))],[]⟩ ?_ (by
   intro K hK
   refine AW_block ?_
   refine AW_seqt ⟨[(110,bA (r && q)),(13,iA k),(12,iA lev),(11,iA (c + x : Nat)),(6,X),(2,.ep (encT t)),(3,.ep (encX b))],[]⟩ ?_ (by
    intro K hK
    clear hs hm
    rcases r with _|_
    ·refine AW_drawFW (fun f=>⟨[(93,if f 0 then encT t else .u),(94,if f 1 then iA lev else .u),(95,if f 2 then iA k else .u),(96,if f 3 then encX b else .u),(97,if f 4 then bA false else .u),(98,if f 5 then bA false else .u),(110,if f 17 then bA false else .u),(13,iA k),(12,iA lev),(11,iA (c + x : Nat)),(6,X),(2,.ep (encT t)),(3,.ep (encX b))],[]⟩) mixed (by rw [hE];decide) (by decide +kernel) (by simp) ?_ ?_
     ·intro f i o hi hdep hnot hcl K2 hK2
      clear hcl
      iterate 18 (rcases i with _|i;rotate_left)
      ·simp at hi
      all_goals (simp only [List.getElem?_cons_succ,List.getElem?_cons_zero,Option.some.injEq] at hi;subst hi)
      all_goals simp [Region.binds] at hdep
      all_goals (have k'1:=hr;have z'1:=@gstep.eq_1;have z'2:=@encT.eq_1;exact gd1)
     ·intro f hf
      have e17:=hf 17 (by simp)
      refine hK.h _ ?_
      simp [e17,gstep,encT]
     all_goals simp
    ·refine AW_drawFW (fun f=>⟨[(93,if f 0 then encT t else .u),(94,if f 1 then iA lev else .u),(95,if f 2 then iA k else .u),(96,if f 3 then encX b else .u),(97,if f 4 then bA true else .u),(98,if f 5 then bA true else .u),(99,if f 6 then .ep (.sl 1 (t.ns.map ndL)) else .u),(100,if f 7 then .sl 1 (t.ns.map ndL) else .u),(101,if f 8 then iA lev else .u),(102,if f 9 then .ep (ndL l) else .u),(103,if f 10 then ndL l else .u),(104,if f 11 then iA k else .u),(105,if f 12 then .ep (encN ⟨nf,w,nb⟩) else .u),(106,if f 13 then .ep (encX nb) else .u),(107,if f 14 then encX nb else .u),(108,if f 15 then encX b else .u),(109,if f 16 then bA q else .u),(110,if f 17 then bA q else .u),(13,iA k),(12,iA lev),(11,iA (c + x : Nat)),(6,X),(2,.ep (encT t)),(3,.ep (encX b))],[]⟩) mixed (by rw [hE];decide) (by decide +kernel) (by simp) ?_ ?_
     ·intro f i o hi hdep hnot hcl K2 hK2
      clear hcl
      iterate 18 (rcases i with _|i;rotate_left)
      ·simp at hi
      all_goals (simp only [List.getElem?_cons_succ,List.getElem?_cons_zero,Option.some.injEq] at hi;subst hi)
      all_goals simp [Region.binds] at hdep
      all_goals (have k'1:=hr;have k'2:=hme;have z'1:=@gstep.eq_1;have z'2:=@encT.eq_1;have z'3:=@encN.eq_1;have z'4:=@encX.eq_1;exact gd2)
     ·intro f hf
      have e17:=hf 17 (by simp)
      refine hK.h _ ?_
      simp [e17,gstep,encT,encN,encX]
     all_goals simp)
   have e:=hs.out
   rcases hrq : (r && q) with _|_
   ·rw [hrq] at e
    have e2 : y = x:=by simpa using e
    clear hr hme hs e hm
    subst e2
    exact ga0
   ·rw [hrq] at e
    have e2 : y = x + w:=by simpa using e
    clear hr hme hs e
    subst e2
    repeat' (first
     |(with_reducible first|refine uK ?_|refine uX ?_|refine jq fun K hK=>?_|refine jb ?_)|((with_reducible first|refine rS hE ?_|refine jn ?_|refine js fun K' hK'=>?_|refine ji fun X Y hX hY=>?_|refine jr ?_|refine jk ?_|refine jx ?_);simp [*,encT,encN])|with_reducible refine rL hE ?_|with_reducible refine And.intro ?_ ?_|omega|(refine imp1 fun h=>?_))
    all_goals simp [encT,encN]
    all_goals omega)
  clear hr hme hs hm
  have z'1:=hy.out;exact glk
 ·have : k = l.length:=by omega
  subst this
  clear hrc hre hnd hcs hmo
  have z'1:=@encT.eq_1;exact ga0
theorem scn_succ (t : Tr) (B : Un → Bx) (b : Bx) (i : Nat) (h : i < t.lv.length) : scn t B b (i + 1) = scn t B b i ++ hitsF B b t.lv[i] t.lv[i].us.length:=by
 unfold scn
 rw [List.take_succ_eq_append_getElem h,List.flatMap_append]
 simp
def wsrF (t : Tr) (B : Un → Bx) (b : Bx) : List Ht × Nat:=if fulX b && decide (t.ns.length ≠ 0) then (scn t B b t.lv.length,cntL t b t.ns.length) else ([],0)
set_option maxHeartbeats 16000000 in
theorem s_wsearch {t : Tr} {B : Un → Bx} {b : Bx} (hT : TrOK t B) (hns : t.ns.length ≤ 1000000) (hlv : t.lv.length ≤ 1000) (hlf : ∀ f ∈ t.lv,f.us.length ≤ 1000 ∧ (0 ≤ f.first ∧ f.first ≤ 1000000) ∧ ∀ u ∈ f.us,WxOK u (B u)) (hw : ∀ k (h : k < t.ns.length),t.ns[k].length ≤ 1000000) (hc : cntL t b t.ns.length ≤ 1000000000) :
 PSpec Tryz.prog 18 [encT t,encX b] (.tup [.sl 2 ((wsrF t B b).1.map encH),iA ((wsrF t B b).2 : Nat)]):=by
 have hfu:=Hld.mk (s_full b)
 have hlF:=Hld.mk hlf
 have hww:=Hld.mk hw
 have hHl : Hld (∀ i,i ≤ t.lv.length → (scn t B b i).length ≤ 1000 * i):=⟨fun i=>by
  induction i with
  |zero=>intro _;simp [scn]
  |succ i ih =>
   intro h
   rw [scn_succ t B b i (by omega),List.length_append]
   have:=ih (by omega)
   have h2:=hitsF_len B b t.lv[i] t.lv[i].us.length
   have h3:=(hlf t.lv[i] (List.getElem_mem (by omega))).1
   omega⟩
 have hTT:=Hld.mk hT
 clear hlf hw hT
 refine pS Tryz.func18 ?_
 intro E hE
 refine sq ⟨[(2,.loc 2 0),(3,.loc 3 0)],[(2,.box 34 (encT t)),(3,.box 28 (encX b))]⟩ ?_
 refine AW_freeze 2 (cb:=.box 34 (encT t)) (t:=⟨[(2,.ep (encT t)),(3,.loc 3 0)],[(3,.box 28 (encX b))]⟩) (by simp) (by simp) (by simp) ?_
 refine AW_freeze 3 (cb:=.box 28 (encX b)) (t:=⟨[(2,.ep (encT t)),(3,.ep (encX b))],[]⟩) (by simp) (by simp) (by simp) ?_
 refine sq ⟨[(6,.v (.slice none 0 0)),(2,.ep (encT t)),(3,.ep (encX b))],[]⟩ ?_
 refine AW_mkrow 6 800 101 2 (by simp) (by simp) (by simp) (by omega) ?_
 have hcw : wsrF t B b = if fulX b && decide (t.ns.length ≠ 0) then (scn t B b t.lv.length,cntL t b t.ns.length) else ([],0):=rfl
 by_cases hgo : (fulX b && decide (t.ns.length ≠ 0)) = true
 ·rw [if_pos hgo] at hcw
  rw [hcw]
  simp only [Bool.and_eq_true,decide_eq_true_eq] at hgo
  obtain ⟨g1,g2⟩:=hgo
  rw [g1] at hfu
  have g2I : ¬ (t.ns.length : Int) = 0:=by omega
  clear hcw
  obtain ⟨F,hF⟩ : ∃ F,scn t B b = F:=⟨_,rfl⟩
  have hF0 : F 0 = []:=by rw [← hF];rfl
  have hFs : Hld (∀ i (h : i < t.lv.length),F (i + 1) = F i ++ hitsF B b t.lv[i] t.lv[i].us.length):=⟨by rw [← hF];exact scn_succ t B b⟩
  obtain ⟨C,hC⟩ : ∃ C,cntL t b = C:=⟨_,rfl⟩
  have hC0 : C 0 = 1:=by rw [← hC];rfl
  have hCs : Hld (∀ k,C (k + 1) = C k + cntR t b k (numB t (k + 1))):=⟨by rw [← hC];exact fun k=>rfl⟩
  have hCm : Hld (∀ k,k ≤ t.ns.length → C k ≤ C t.ns.length):=⟨by rw [← hC];exact fun k hk=>cntL_mono t b hk⟩
  rw [hF] at hHl ⊢
  rw [hC] at hc ⊢
  clear hF hC
  refine AW_seqt ⟨[(6,.own 800 2 0 0),(2,.ep (encT t)),(3,.ep (encX b))],[(800,rwH [])]⟩ ?_ (by
   intro K hK
   have k'1:=hfu;have z'1:=@encT.eq_1;exact ga1)
  refine AW_seqt ⟨[(6,.own 800 2 0 (F t.lv.length).length),(2,.ep (encT t)),(3,.ep (encX b))],[(800,rwH (F t.lv.length))]⟩ ?_ (by
   intro K hK
   refine lpk (G:=Nat) (fun i=>⟨[(7,iA i),(6,.own 800 2 0 (F i).length),(2,.ep (encT t)),(3,.ep (encX b))],[(800,rwH (F i))]⟩) (fun i=>i ≤ t.lv.length) (fun i=>t.lv.length - i) 0 (Nat.zero_le _) ?_
   intro i hi K hK
   by_cases hlt : i < t.lv.length
   ·have hltI : (i : Int) < t.lv.length:=by omega
    have hs:=hFs.out i hlt
    have hfl:=hHl.out i hi
    obtain ⟨q1,q2,q3⟩:=hlF.out t.lv[i] (List.getElem_mem hlt)
    obtain ⟨lf,hlf⟩ : ∃ f,t.lv[i] = f:=⟨_,rfl⟩
    rw [hlf] at hs q1 q2 q3
    obtain ⟨M,hM⟩ : ∃ M,F i = M:=⟨_,rfl⟩
    obtain ⟨M2,hM2⟩ : ∃ M,F (i + 1) = M:=⟨_,rfl⟩
    rw [hM,hM2] at hs
    rw [hM] at hfl
    have hMl : M.length ≤ 100000000:=by omega
    refine AW_le (t:=⟨[(7,iA i),(6,.own 800 2 0 M.length),(2,.ep (encT t)),(3,.ep (encX b))],[(800,rwH M)]⟩) (by simp [hM]) ?_
    replace hs:=Hld.mk hs
    replace hM:=()
    replace hM2:=Hld.mk hM2
    replace q3:=Hld.mk q3
    refine AW_seqt ⟨[(7,iA i),(6,.own 800 2 0 M.length),(2,.ep (encT t)),(3,.ep (encX b))],[(800,rwH M)]⟩ ?_ (by
     intro K hK
     clear hfl hlf
     have z'1:=@encT.eq_1;exact ga0)
    refine AW_seqt ⟨[(7,iA i),(6,.own 800 2 0 M2.length),(2,.ep (encT t)),(3,.ep (encX b))],[(800,rwH M2)]⟩ ?_ (by
     intro K hK
     exact wsr_leaf hE hlt hlf (by omega) q2.1 q2.2 q3.out hMl (fun s' hs'=>hK.h s' (by rw [← hs.out] at hs';exact hs')))
    clear hfl hlf
    have z'1:=hM2.out;exact gli
   ·have : i = t.lv.length:=by omega
    subst this
    have z'1:=@encT.eq_1;exact ga0)
  obtain ⟨H,hH⟩ : ∃ H,F t.lv.length = H:=⟨_,rfl⟩
  rw [hH]
  have hHt : (H.map encH).take H.length = H.map encH:=List.take_of_length_le (by simp)
  refine AW_freeze 800 (cb:=rwH H) (t:=⟨[(6,.sl 2 (H.map encH)),(2,.ep (encT t)),(3,.ep (encX b))],[]⟩) (by simp) (by simp [hHt]) (by simp) ?_
  replace hH:=()
  clear hHt hFs hF0 hHl hlF
  refine sq ⟨[(11,iA 1),(6,.sl 2 (H.map encH)),(2,.ep (encT t)),(3,.ep (encX b))],[]⟩ ?_
  refine AW_seqt ⟨[(11,iA (C t.ns.length : Nat)),(6,.sl 2 (H.map encH))],[]⟩ ?_ (by
   intro K hK
   refine lpk (G:=Nat) (fun i=>⟨[(12,iA i),(11,iA (C i : Nat)),(6,.sl 2 (H.map encH)),(2,.ep (encT t)),(3,.ep (encX b))],[]⟩) (fun i=>i ≤ t.ns.length) (fun i=>t.ns.length - i) 0 (Nat.zero_le _) ?_
   intro i hi K hK
   by_cases hlt : i < t.ns.length
   ·have hltI : (i : Int) < t.ns.length:=by omega
    have hs:=hCs.out i
    have hm:=hCm.out (i + 1) (by omega)
    have hwi:=hww.out i hlt
    have hnb : numB t (i + 1) = t.ns[i].length:=by simp only [numB,List.getD,List.getElem?_eq_getElem hlt,Option.getD_some]
    rw [hnb] at hs
    obtain ⟨x,hx⟩ : ∃ x,C i = x:=⟨_,rfl⟩
    obtain ⟨y,hy⟩ : ∃ x,C (i + 1) = x:=⟨_,rfl⟩
    rw [hx,hy] at hs
    rw [hy] at hm
    refine AW_le (t:=⟨[(12,iA i),(11,iA (x : Nat)),(6,.sl 2 (H.map encH)),(2,.ep (encT t)),(3,.ep (encX b))],[]⟩) (by simp [hx]) ?_
    replace hx:=()
    replace hy:=Hld.mk hy
    replace hs:=Hld.mk hs
    clear hnb
    refine AW_seqt ⟨[(12,iA i),(11,iA (x : Nat)),(6,.sl 2 (H.map encH)),(2,.ep (encT t)),(3,.ep (encX b))],[]⟩ ?_ (by
     intro K hK
     clear hwi
     have z'1:=@encT.eq_1;exact ga0)
    refine AW_seqt ⟨[(12,iA i),(11,iA (y : Nat)),(6,.sl 2 (H.map encH)),(2,.ep (encT t)),(3,.ep (encX b))],[]⟩ ?_ (by
     intro K hK
     exact wsr_lev hE (by simp) (by simp) hTT.out hlt hns hwi (by have:=hs.out;omega) (fun s' hs'=>hK.h s' (by rw [← hs.out] at hs';exact hs')))
    clear hwi
    have z'1:=hy.out;exact gli
   ·have : i = t.ns.length:=by omega
    subst this
    have z'1:=@encT.eq_1;exact ga0)
  exact ga0
 ·rw [if_neg hgo] at hcw
  rw [hcw]
  clear hcw
  refine AW_freeze 800 (cb:=rwH []) (t:=⟨[(6,.sl 2 []),(2,.ep (encT t)),(3,.ep (encX b))],[]⟩) (by simp) (by simp) (by simp) ?_
  rcases hf : fulX b with _|_
  ·rw [hf] at hfu
   clear hgo
   have k'1:=hfu;have z'1:=@encT.eq_1;exact ga1
  ·rw [hf] at hfu hgo
   have g0 : t.ns.length = 0:=by simpa using hgo
   have g0I : (t.ns.length : Int) = 0:=by omega
   clear hgo
   have k'1:=hfu;have z'1:=@encT.eq_1;exact ga1
structure LfS (lf : Lf) : Prop where
 len : lf.us.length ≤ 120
 first : 0 ≤ lf.first ∧ lf.first ≤ 1000000
 sm : ∀ u ∈ lf.us,SmU 19000 u
theorem lvA_lfs {l : List Ob} {m : Nat} (hm : 0 < m) (hl : ∀ o ∈ l,ObS o) : ∀ lf ∈ lvA boxU m l,LfS lf:=by
 intro lf hlf
 obtain ⟨o,ho,hlf⟩:=List.mem_flatMap.1 hlf
 obtain ⟨j,hj,rfl⟩:=List.mem_map.1 hlf
 have hj:=List.mem_range.1 hj
 have hs:=hl o ho
 have hlen:=hs.len
 have hjm : j * m ≤ 200:=by
  unfold cnt at hj
  have h1 : j ≤ (o.us.length + m - 1) / m - 1:=by omega
  have h2 : (j + 1) * m ≤ o.us.length + m - 1:=by
   have:=Nat.mul_le_mul_right m (show j + 1 ≤ (o.us.length + m - 1) / m from hj)
   exact Nat.le_trans this (Nat.div_mul_le_self _ _)
  rw [Nat.add_mul] at h2
  omega
 refine ⟨?_,?_,?_⟩
 ·show (chU m o.us j).length ≤ 120
  unfold chU
  rw [List.length_take,List.length_drop]
  omega
 ·show (0 : Int) ≤ ((j * m : Nat) : Int) ∧ ((j * m : Nat) : Int) ≤ 1000000
  omega
 ·intro u hu
  exact hs.sm u (List.mem_of_mem_drop (List.mem_of_mem_take hu))
theorem lvA_len {l : List Ob} {m : Nat} (hm : 0 < m) (hl : ∀ o ∈ l,ObS o) : (lvA boxU m l).length ≤ 120 * l.length:=by
 induction l with
 |nil=>simp [lvA]
 |cons o l ih =>
  have h1:=ih (fun o ho=>hl o (by simp [ho]))
  have h2:=lvO_len boxU m o hm
  have h3:=(hl o (by simp)).len
  have e : lvA boxU m (o :: l) = lvO boxU m o ++ lvA boxU m l:=by unfold lvA;rw [List.flatMap_cons]
  rw [e,List.length_append,List.length_cons]
  omega
theorem lvW_small : ∀ (f : Nat) (bs : List Bx),(lvW f bs).length ≤ f ∧ ∀ l ∈ lvW f bs,l.length ≤ bs.length
 |0,bs=>by simp [lvW]
 |f + 1,bs=>by
  unfold lvW
  split
  ·simp
  ·rename_i h0
   have hn : (nds bs).length ≤ bs.length:=by rw [nds_len];unfold cnt;omega
   split
   ·refine ⟨by simp,fun l hl=>?_⟩
    rw [List.mem_singleton.1 hl]
    exact hn
   ·obtain ⟨a,b⟩:=lvW_small f ((nds bs).map Nd.b)
    refine ⟨by simp;exact a,fun l hl=>?_⟩
    rcases List.mem_cons.1 hl with rfl|hl
    ·exact hn
    ·have:=b l hl
     rw [List.length_map] at this
     omega
structure TrS (t : Tr) : Prop where
 ok : TrOK t boxU
 lv : t.lv.length ≤ 500
 ns : t.ns.length ≤ 500
 row : ∀ l ∈ t.ns,l.length ≤ 500
 leaf : ∀ lf ∈ t.lv,LfS lf
theorem bldT_trs {l : List Ob} {m : Nat} (hm : 0 < m) (hl : ∀ o ∈ l,ObS o) (h4 : l.length ≤ 4) : TrS (bldT boxU m l):=by
 have h1:=lvA_len hm hl
 obtain ⟨a,b⟩:=lvW_small (lvA boxU m l).length ((lvA boxU m l).map Lf.b)
 refine ⟨bldT_ok boxU m l,?_,?_,?_,lvA_lfs hm hl⟩
 ·show (lvA boxU m l).length ≤ 500
  omega
 ·exact Nat.le_trans a (by omega)
 ·intro x hx
  have:=b x hx
  rw [List.length_map] at this
  omega
theorem TrS.valT {t : Tr} (h : TrS t) : ∀ k i,k ≤ t.ns.length → i < numB t k → ValT t boxU k i
 |0,i,_,hi=>by
  have hi : i < t.lv.length:=hi
  have hf:=h.leaf t.lv[i] (List.getElem_mem hi)
  have:=hf.len
  exact ⟨t.lv[i],List.getElem?_eq_getElem hi,by omega,hf.first,fun u hu=>(hf.sm u hu).bx⟩
 |k + 1,i,hk,hi=>by
  have hk : k < t.ns.length:=hk
  have e:=h.ok.lev hk
  have hn : numB t (k + 1) = t.ns[k].length:=by simp only [numB,List.getD,List.getElem?_eq_getElem hk,Option.getD_some]
  rw [hn] at hi
  have hi2 : i < (nds (boxB t k)).length:=by rw [← e];exact hi
  have hx : t.ns[k][i]? = some (ndF (boxB t k) i):=by rw [e,List.getElem?_eq_getElem hi2,nds_get]
  have hw:=h.row t.ns[k] (List.getElem_mem hk)
  have hf : (ndF (boxB t k) i).first = ((i * 4 : Nat) : Int):=rfl
  have hc : (ndF (boxB t k) i).count = ((min 4 (numB t k - i * 4) : Nat) : Int):=by
   show ((chX (boxB t k) i).length : Int) = _
   rw [chX_len,boxB_len]
  refine ⟨t.ns[k],ndF (boxB t k) i,List.getElem?_eq_getElem hk,hx,by rw [hf,hc];omega,fun j hj=>?_⟩
  rw [hc] at hj
  rw [hf]
  exact h.valT k _ (by omega) (by omega)
theorem TrS.tot {t : Tr} (h : TrS t) (i : Nat) : totF t i ≤ 1000000:=by
 have key : ∀ (L : List (List Nd)),(∀ l ∈ L,l.length ≤ 500) → (L.map List.length).sum ≤ 500 * L.length:=by
  intro L
  induction L with
  |nil=>simp
  |cons a L ih =>
   intro hL
   have h1:=hL a (by simp)
   have h2:=ih (fun l hl=>hL l (by simp [hl]))
   simp only [List.map_cons,List.sum_cons,List.length_cons]
   omega
 have h1:=h.lv
 have h2:=h.ns
 have h3:=key (t.ns.take i) (fun l hl=>h.row l (List.mem_of_mem_take hl))
 have h4 : (t.ns.take i).length ≤ 500:=by rw [List.length_take];omega
 unfold totF
 omega
end Go.Proofs.YtfkgaphfdpflmaaGreatDoor
section
namespace Go.Proofs.YtfkgaphfdpflmaaGreatDoor
open Go.Am Go.RowKit Go.ChangeShapes Go.WideShapes Go.ChangeAt
theorem s_search0 {t : Tr} {b : Bx} (hf : fulX b = false) : PSpec Tryz.prog 17 [encT t,encX b] (.tup [.v (.slice none 0 0),iA 0]):=by
 by_cases h0 : b.x1 < b.x0
 ·refine pS Tryz.func17 ?_
  intro E hE
  have z'1:=@encX.eq_1;exact ga0
 ·by_cases h1 : b.y1 < b.y0
  ·refine pS Tryz.func17 ?_
   intro E hE
   have z'1:=@encX.eq_1;exact ga0
  ·have h2 : b.t1 < b.t0:=by
    simp [fulX] at hf
    omega
   refine pS Tryz.func17 ?_
   intro E hE
   have z'1:=@encX.eq_1;exact ga0
theorem SLe_tup {xs ys : List AV} (h : SLeL xs ys) : SLe (.tup xs) (.tup ys):=fun H ρ v hr=>by
 cases hr with
 |tup hl hr=>exact let q:=SLeL.rep h ⟨hl,hr⟩;.tup q.1 q.2
theorem scn_len {t : Tr} (h : TrS t) (b : Bx) : ∀ i,i ≤ t.lv.length → (scn t boxU b i).length ≤ 120 * i
 |0,_=>by simp [scn]
 |i + 1,hi=>by
  rw [scn_succ t boxU b i (by omega),List.length_append]
  have:=scn_len h b i (by omega)
  have h2:=hitsF_len boxU b t.lv[i] t.lv[i].us.length
  have h3:=(h.leaf t.lv[i] (List.getElem_mem (by omega))).len
  omega
theorem numB_top {t : Tr} (h : TrS t) (h0 : t.ns.length ≠ 0) : numB t t.ns.length = 1:=by
 have hr:=h.ok.root (by omega)
 obtain ⟨n,hn⟩ : ∃ n,t.ns.length = n + 1:=⟨t.ns.length - 1,by omega⟩
 rw [hn]
 simp only [hn,Nat.add_sub_cancel] at hr
 simp only [numB,List.getD,List.getElem?_eq_getElem (show n < t.ns.length by omega),Option.getD_some]
 exact hr
theorem wsr_ok {t : Tr} (h : TrS t) (b : Bx) : (wsrF t boxU b).1.length ≤ 1000000 ∧ (wsrF t boxU b).2 ≤ totF t t.ns.length ∧ ((wsrF t boxU b).1.length = 0 ∨ 1 < (wsrF t boxU b).2):=by
 unfold wsrF
 split
 ·rename_i hc
  simp only [Bool.and_eq_true,decide_eq_true_eq] at hc
  have h1:=scn_len h b t.lv.length (Nat.le_refl _)
  have h2:=h.lv
  refine ⟨?_,cnt_le h.ok b hc.2,?_⟩
  ·show (scn t boxU b t.lv.length).length ≤ _
   omega
  ·by_cases hs : scn t boxU b t.lv.length = []
   ·left
    show (scn t boxU b t.lv.length).length = 0
    rw [hs];rfl
   ·exact .inr (cnt_two h.ok b hc.2 hs)
 ·exact ⟨by simp,Nat.zero_le _,.inl rfl⟩
theorem s_searchW {t : Tr} (h : TrS t) (b : Bx) : PSpec Tryz.prog 17 [encT t,encX b] (.tup [.sl 2 ((wsrF t boxU b).1.map encH),iA ((wsrF t boxU b).2 : Nat)]):=by
 have hk:=wsr_ok h b
 have ht:=h.tot t.ns.length
 rcases hf : fulX b with _|_
 ·have e : wsrF t boxU b = ([],0):=by simp [wsrF,hf]
  rw [e]
  exact PSpec.res (s_search0 hf) (SLe_tup ⟨SLe_nil 2 0,SLe_refl _,trivial⟩)
 ·have e : wsrF t boxU b = srcF t boxU b:=by
   unfold wsrF
   rw [hf]
   by_cases h0 : t.ns.length = 0
   ·simp [srcF,h0]
   ·rw [src_eq h.ok b h0]
    simp [h0]
  rw [e] at hk ⊢
  exact s_search hf (by have:=h.ns;omega) (fun h0=>h.valT _ 0 (Nat.le_refl _) (by rw [numB_top h h0];omega)) hk.1 (by omega)
theorem s_wsearchW {t : Tr} (h : TrS t) (b : Bx) : PSpec Tryz.prog 18 [encT t,encX b] (.tup [.sl 2 ((wsrF t boxU b).1.map encH),iA ((wsrF t boxU b).2 : Nat)]):=by
 have ht:=h.tot t.ns.length
 have hc : cntL t b t.ns.length ≤ 1000000000:=by
  by_cases h0 : t.ns.length = 0
  ·rw [h0];show 1 ≤ 1000000000;omega
  ·have:=cnt_le h.ok b h0
   omega
 refine s_wsearch h.ok (by have:=h.ns;omega) (by have:=h.lv;omega) (fun f hf=>?_) (fun k hk=>?_) hc
 ·have:=h.leaf f hf
  exact ⟨by have:=this.len;omega,this.first,fun u hu=>(this.sm u hu).wx⟩
 ·have:=h.row t.ns[k] (List.getElem_mem hk)
  omega
namespace L5
theorem law (f : Flt) (hf : ∀ c ∈ f.cars,CarW c) (hl : f.cars.length ≤ 9223372036854775807) (a m : Nat) (ha : a < 256) (hm : m < 256) (b : Bx) : PSpec Tryz.prog 3 [encW f,.st [uA a,uA m],encX b] (bA true):=by
 have hk:=Hld.mk s_known
 have hs:=Hld.mk (s_short f hl)
 rcases hsh : shtF f with _|_
 ·rw [hsh] at hs
  clear hf hsh
  refine pS Tryz.func3 ?_
  intro E hE
  have k'1:=hk;have k'2:=hs;exact ga2
 ·rw [hsh] at hs
  have hsh2:=hsh
  simp only [shtF,Bool.and_eq_true,decide_eq_true_eq,List.all_eq_true] at hsh2
  obtain ⟨h6,h4, -⟩:=hsh2
  have hc : ∀ c ∈ f.cars,CarB c:=fun c hcm=>⟨(hf c hcm).t,(hf c hcm).x,(hf c hcm).y,(hf c hcm).st,h6 c hcm⟩
  have hfl:=Hld.mk (s_fleet f a ha h4 hc)
  have hob:=fltO_obs hc a
  have hol:=fltO_len f a
  obtain ⟨O,hO⟩ : ∃ O,fltO f a = O:=⟨_,rfl⟩
  rw [hO] at hfl hob hol
  have hsz:=Hld.mk (s_size m hm)
  obtain ⟨n,hn⟩ : ∃ n,1 + m % 8 = n:=⟨_,rfl⟩
  rw [hn] at hsz
  have hn0 : 0 < n:=by omega
  have hbd:=Hld.mk (s_wbuild (l:=O) (B:=boxU) (m:=n) (by omega) (fun o ho=>by have:=(hob o ho).len;omega) (fun o ho u hu=>((hob o ho).sm u hu).wx) hn0 (by omega))
  have hT:=bldT_trs hn0 hob (by omega)
  obtain ⟨t,ht⟩ : ∃ t,bldT boxU n O = t:=⟨_,rfl⟩
  rw [ht] at hbd hT
  have hs1:=Hld.mk (s_searchW hT b)
  have hs2:=Hld.mk (s_wsearchW hT b)
  obtain ⟨o1,o2,o3⟩:=wsr_ok hT b
  have htt:=Hld.mk (s_total t (fun i=>by have:=hT.tot i;omega) (by have:=hT.ns;omega))
  have htb:=hT.tot t.ns.length
  obtain ⟨H,hH⟩ : ∃ H,(wsrF t boxU b).1 = H:=⟨_,rfl⟩
  obtain ⟨N,hN⟩ : ∃ N,(wsrF t boxU b).2 = N:=⟨_,rfl⟩
  obtain ⟨T,hTt⟩ : ∃ T,totF t t.ns.length = T:=⟨_,rfl⟩
  rw [hH,hN] at hs1 hs2 o3
  rw [hH] at o1
  rw [hN,hTt] at o2
  rw [hTt] at htt htb
  have hsm:=Hld.mk (s_sameHits H (by omega))
  have o2I : (N : Int) ≤ T:=by omega
  clear hH hN hTt hT ht hob hol hO hn hsh hc hf h6 hl
  refine pS Tryz.func3 ?_
  intro E hE
  refine sq ⟨[(3,.loc 3 0),(4,.loc 4 0),(5,.loc 5 0)],[(3,.box 25 (encW f)),(4,.box 26 (.st [uA a,uA m])),(5,.box 28 (encX b))]⟩ ?_
  refine AW_freeze 3 (cb:=.box 25 (encW f)) (t:=⟨[(3,.ep (encW f)),(4,.loc 4 0),(5,.loc 5 0)],[(4,.box 26 (.st [uA a,uA m])),(5,.box 28 (encX b))]⟩) (by simp) (by simp) (by simp) ?_
  refine AW_freeze 4 (cb:=.box 26 (.st [uA a,uA m])) (t:=⟨[(3,.ep (encW f)),(4,.ep (.st [uA a,uA m])),(5,.loc 5 0)],[(5,.box 28 (encX b))]⟩) (by simp) (by simp) (by simp) ?_
  refine AW_freeze 5 (cb:=.box 28 (encX b)) (t:=⟨[(3,.ep (encW f)),(4,.ep (.st [uA a,uA m])),(5,.ep (encX b))],[]⟩) (by simp) (by simp) (by simp) ?_
  refine AW_seqt ⟨[(3,.ep (encW f)),(4,.ep (.st [uA a,uA m])),(5,.ep (encX b))],[]⟩ ?_ (by
   intro K hK
   clear o3
   have k'1:=hk;have k'2:=hs;exact ga2)
  refine AW_seqt ⟨[(7,.loc 7 0),(5,.ep (encX b))],[(7,.box 34 (encT t))]⟩ ?_ (by
   intro K hK
   clear o3
   refine AW_drawF (fun g=>⟨[(20,if g 0 then encW f else .u),(21,if g 1 then .ep (uA a) else .u),(22,if g 2 then uA a else .u),(23,if g 3 then obL O else .u),(24,if g 4 then .ep (uA m) else .u),(25,if g 5 then uA m else .u),(26,if g 6 then iA n else .u),(27,if g 7 then encT t else .u),(7,if g 8 then .loc 7 0 else .u),(3,.ep (encW f)),(4,.ep (.st [uA a,uA m])),(5,.ep (encX b))],
    (if g 8 then [(7,.box 34 (if g 9 then encT t else .st [iA 0,.v (.slice none 0 0),.v (.slice none 0 0)]))] else [])⟩) mixed (by rw [hE];decide) (by decide +kernel) (by decide +kernel) (by simp) ?_ ?_
   ·intro f i o hi hdep hnot hcl K2 hK2
    have w9_8 : f 9 = true → f 8 = true:=gw
    clear hcl
    iterate 10 (rcases i with _|i;rotate_left)
    ·simp at hi
    all_goals (simp only [List.getElem?_cons_succ,List.getElem?_cons_zero,Option.some.injEq] at hi;subst hi)
    all_goals simp [Region.binds] at hdep
    all_goals (rcases a8 : f 8)
    all_goals try (exfalso;revert hdep hnot w9_8;simp [a8];done)
    all_goals (try simp [a8,hnot] at w9_8)
    all_goals (have k'1:=hfl;have k'2:=hsz;have k'3:=hbd;exact gd3)
   ·intro f hf
    have e9:=hf 9 (by simp)
    have e8:=hf 8 (by simp)
    refine hK.h _ ?_
    simp [e9,e8]
   all_goals simp)
  refine AW_freeze 7 (cb:=.box 34 (encT t)) (t:=⟨[(7,.ep (encT t)),(5,.ep (encX b))],[]⟩) (by simp) (by simp) (by simp) ?_
  clear hfl hsz hbd hk hs
  refine AW_seqt ⟨[(8,.sl 2 (H.map encH)),(9,iA N),(7,.ep (encT t)),(5,.ep (encX b))],[]⟩ ?_ (by
   intro K hK
   clear o3
   have k'1:=hs1;exact ga1)
  refine AW_seqt ⟨[(10,.sl 2 (H.map encH)),(11,iA N),(8,.sl 2 (H.map encH)),(9,iA N),(7,.ep (encT t)),(5,.ep (encX b))],[]⟩ ?_ (by
   intro K hK
   clear o3
   have k'1:=hs2;exact ga1)
  rcases o3 with o3|o3
  ·have o3I : (H.length : Int) = 0:=by omega
   have k'1:=hsm;have k'2:=htt;exact ga2
  ·have o3I : (1 : Int) < N:=by omega
   by_cases h0 : (H.length : Int) = 0
   ·have k'1:=hsm;have k'2:=htt;exact ga2
   ·have k'1:=hsm;have k'2:=htt;exact ga2
end L5
end Go.Proofs.YtfkgaphfdpflmaaGreatDoor
end
