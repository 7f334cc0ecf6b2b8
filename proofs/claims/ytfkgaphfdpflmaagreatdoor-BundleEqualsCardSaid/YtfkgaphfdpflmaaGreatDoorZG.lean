/- Layer 39: the objects of fleets: what their units are (plain) -/
import Derived.Test.YtfkgaphfdpflmaaGreatDoorZF
import Derived.Test.YtfkgaphfdpflmaaGreatDoorZC
import Derived.Test.YtfkgaphfdpflmaaGreatDoorZ6
import Derived.Test.YtfkgaphfdpflmaaGreatDoorZE
set_option maxRecDepth 100000
set_option linter.unusedSimpArgs false
set_option linter.unusedVariables false
namespace Go.Proofs.YtfkgaphfdpflmaaGreatDoor
open Go.Am
theorem thr_smW {t a b c d : Nat} (ht : t ≤ 63) (ha : a ≤ 1000) (hb : b ≤ 1000) (hc : c ≤ a + 64) (hc2 : a ≤ c + 64) (hd : d ≤ b + 64) (hd2 : b ≤ d + 64) : LnP 14000 (thr ⟨((t : Nat) : Rat),((a : Nat) : Rat),((b : Nat) : Rat)⟩ ⟨((t + 1 : Nat) : Rat),((c : Nat) : Rat),((d : Nat) : Rat)⟩):=by
 have e1 : (((t + 1 : Nat) : Rat) - ((t : Nat) : Rat)) = ((1 : Nat) : Rat):=by rw [Rat.natCast_add];grind
 have hk0:=nat_ne (show 1 ≤ 1 by omega)
 have m1:=natAbs_mul_le (a:=(c : Int) - a) (b:=(t : Int)) (m:=64) (n:=63) (by omega) (by omega)
 have m2:=natAbs_mul_le (a:=(d : Int) - b) (b:=(t : Int)) (m:=64) (n:=63) (by omega) (by omega)
 refine ⟨1,a - ((c : Int) - a) * t,(c : Int) - a,b - ((d : Int) - b) * t,(d : Int) - b,by omega,by omega,?_,?_,?_,?_,by omega,by omega,by omega,by omega⟩
 all_goals simp only [thr]
 all_goals rw [e1]
 all_goals simp only [Rat.intCast_sub,Rat.intCast_mul,Rat.intCast_natCast]
 all_goals grind
theorem staS_eq (i : Nat) : staS i = ⟨((i : Nat) : Rat),((10 * i : Nat) : Rat),((i % 2 : Nat) : Rat)⟩:=by
 unfold staS
 rw [show (10 * (i : Int)) = ((10 * i : Nat) : Int) by omega,Rat.intCast_natCast,Rat.intCast_natCast,Rat.intCast_natCast]
theorem staU_sm {n : Nat} (hn : n ≤ 40) : ∀ u ∈ staU n,SmU 19000 u:=by
 intro u hu
 refine (nrmA_sm (A:=14000) (l:=sgF (stS (n + 1)) n) ?_ u hu).mono (by omega)
 intro v hv
 obtain ⟨i,hi,rfl⟩:=List.mem_iff_getElem.1 hv
 have hin : i < n:=by rw [sgF_len] at hi;exact hi
 rw [sgF_get,stS_getD _ _ (by omega),stS_getD _ _ (by omega),staS_eq,staS_eq]
 refine ⟨⟨i,rfl,by omega⟩,⟨i + 1,rfl,by omega⟩,?_⟩
 exact thr_smW (by omega) (by omega) (by omega) (by omega) (by omega) (by omega) (by omega)
theorem staU_len {n : Nat} (hn : n ≤ 40) : (staU n).length ≤ 120:=by
 have h1:=nrF_len (atms (sgF (stS (n + 1)) n)) _ (Nat.le_refl _)
 have h2:=atms_len (sgF (stS (n + 1)) n)
 rw [sgF_len] at h2
 show (nrF _ _).length ≤ 120
 omega
theorem zero_sm {s : Sm} {a b c : Nat} (h : s = ⟨((a : Nat) : Rat),((b : Nat) : Rat),((c : Nat) : Rat)⟩) (ha : a ≤ 64) (hb : b ≤ 64) (hc : c ≤ 64) : SmU 19000 ⟨s.t,s.t,false,false,s.x,0,s.y,0⟩:=by
 subst h
 refine ⟨⟨a,rfl,ha⟩,⟨a,rfl,ha⟩,⟨1,b,0,c,0,by omega,by omega,?_,?_,?_,?_,by omega,by omega,by omega,by omega⟩⟩
 ·show ((b : Nat) : Rat) = _
  rw [Rat.intCast_natCast];grind
 ·show (0 : Rat) = _
  grind
 ·show ((c : Nat) : Rat) = _
  rw [Rat.intCast_natCast];grind
 ·show (0 : Rat) = _
  grind
theorem staZ_sm {n : Nat} (hn : n ≤ 40) : (∀ u ∈ staZ n,SmU 19000 u) ∧ (staZ n).length ≤ 120:=by
 unfold staZ
 split
 ·refine ⟨fun u hu=>?_,by simp⟩
  rw [List.mem_singleton.1 hu]
  exact zero_sm (staS_eq 0) (by omega) (by omega) (by omega)
 ·exact ⟨staU_sm hn,staU_len hn⟩
structure ObS (o : Ob) : Prop where
 len : o.us.length ≤ 120
 sm : ∀ u ∈ o.us,SmU 19000 u
theorem flI_obs {f : Flt} (hc : ∀ c ∈ f.cars,CarB c) (n i : Nat) : ∀ o ∈ flI f n i,ObS o:=by
 intro o ho
 obtain ⟨j,hj,rfl⟩:=List.mem_map.1 ho
 have hj:=List.mem_range.1 hj
 have hb:=hc f.cars[j] (List.getElem_mem hj)
 have e : f.cars.getD j ⟨0,0,0,[]⟩ = f.cars[j]:=by simp [List.getD,List.getElem?_eq_getElem hj]
 rw [e]
 exact ⟨Nat.le_trans (trjU_len hb.n) (by omega),fun u hu=>(trjU_sm hb.n u hu).mono (by omega)⟩
theorem fltO_obs {f : Flt} (hc : ∀ c ∈ f.cars,CarB c) (n : Nat) : ∀ o ∈ fltO f n,ObS o:=by
 unfold fltO
 split
 ·intro o ho
  rcases List.mem_or_eq_of_mem_set ho with h|rfl
  ·exact flI_obs hc _ _ o h
  ·obtain ⟨a,b⟩:=staZ_sm (n:=n / 3 % 40) (by omega)
   exact ⟨b,a⟩
 ·exact flI_obs hc _ _
theorem fltO_len (f : Flt) (n : Nat) : (fltO f n).length = f.cars.length:=by
 unfold fltO
 split <;> simp [flI_len]
theorem SmU.wx {u : Un} (h : SmU 19000 u) : WxOK u (boxU u):=by
 have:=s_wbox (h.okU (by omega))
 rw [boxR,if_pos (h.bokU (by omega))] at this
 exact this
theorem SmU.bx {u : Un} (h : SmU 19000 u) : BxOK u (boxU u):=by
 have:=s_bbox (h.okU (by omega))
 rw [boxR,if_pos (h.bokU (by omega))] at this
 exact this
abbrev rwP' (l : List Un) : Ct:=.arr 111 36 (l.map encU)
abbrev lfo (o first : Int) (x : AV) (b : Bx) : AV:=.st [iA o,iA first,x,iA b.x0,iA b.x1,iA b.y0,iA b.y1,iA b.t0,iA b.t1]
noncomputable def cWb : Code:=nav [1,1,1,0,1,0,0,1,0,0,1,0,0,1,0] (Tryz.f14.body.getD .skip)
noncomputable def cWbT : Code:=nav [0,1,1] cWb
set_option maxHeartbeats 8000000 in
theorem wb_tail {E : Env} (hE : E.n = Tryz.f14.ntmps) {m : Nat} {l : List Ob} {o : Ob} {u : Un} {i k : Nat} {R S : List AV} {us : List Un} {b bx y : Bx} {first : Int} (hi : i < l.length) (ho : l[i] = o) (hk : k < o.us.length) (hu : o.us[k] = u) (hus : us.length ≤ 1000)
 (hRl : R.length ≤ 1000000) (hSl : S.length = R.length) (hRm : ∀ d,mentL d R = false) (hRf : ∀ d,R.map (AV.forg d) = R) (hSm : ∀ d,mentL d S = false)
 {Q : AExit → AState → Prop} (h : ∀ s' : AState,s'.le ⟨[(8,iA k),(7,iA i),(6,.own 802 6 0 (R.length + 1)),(5,.loc 5 0),(4,.loc 4 0),(0,obL l),(1,iA m)],[(5,trB m (R.length + 1)),(800,.arr 52 9 (R ++ [lfo o.id first (.own 803 36 0 (us.length + 1)) (joiX bx b)])),(803,.arr 111 36 (us.map encU ++ [encU u])),(802,.arr 28 6 (S ++ [encX (joiX bx b)])),(4,zT)]⟩ → Q .normal s') :
 AW Tryz.prog E cWbT ⟨[(9,.ep (encX b)),(8,iA k),(7,iA i),(6,.own 802 6 0 (R.length + 1)),(5,.loc 5 0),(4,.loc 4 0),(0,obL l),(1,iA m)],[(5,trB m (R.length + 1)),(800,.arr 52 9 (R ++ [lfo o.id first (.own 803 36 0 us.length) bx])),(803,.arr 111 36 (us.map encU)),(802,.arr 28 6 (S ++ [encX y])),(4,zT)]⟩ Q:=by
 have hiI : (i : Int) < l.length:=by omega
 have hkI : (k : Int) < o.us.length:=by omega
 have hog : ∀ h : i < l.length,l[i] = o:=fun _=>ho
 have hug : ∀ h : k < o.us.length,o.us[k] = u:=fun _=>hu
 have g1 : ∀ X : AV,(R ++ [X])[R.length]? = some X:=fun X=>by simp
 have g3 : ∀ X Y : AV,(R ++ [X]).set R.length Y = R ++ [Y]:=fun X Y=>by simp
 have g4 : ∀ X : AV,(S ++ [X])[R.length]? = some X:=fun X=>by rw [← hSl];simp
 have g5 : ∀ X Y : AV,(S ++ [X]).set R.length Y = S ++ [Y]:=fun X Y=>by rw [← hSl];simp
 have hMt : (us.map encU).take us.length = us.map encU:=List.take_of_length_le (by simp)
 have hjn:=Hld.mk (s_wjoin bx b)
 obtain ⟨z,hz⟩ : ∃ z,joiX bx b = z:=⟨_,rfl⟩
 rw [hz] at hjn h
 have hK:=Kont.mk h
 clear h ho hu hz
 refine sq ⟨[(11,.eloc 800 9 R.length 0),(9,.ep (encX b)),(8,iA k),(7,iA i),(6,.own 802 6 0 (R.length + 1)),(5,.loc 5 0),(4,.loc 4 0),(0,obL l),(1,iA m)],[(5,trB m (R.length + 1)),(800,.arr 52 9 (R ++ [lfo o.id first (.own 803 36 0 us.length) bx])),(803,.arr 111 36 (us.map encU)),(802,.arr 28 6 (S ++ [encX y])),(4,zT)]⟩ ?_
 refine AW_seqt ⟨[(11,.eloc 800 9 R.length 0),(9,.ep (encX b)),(8,iA k),(7,iA i),(6,.own 802 6 0 (R.length + 1)),(5,.loc 5 0),(4,.loc 4 0),(0,obL l),(1,iA m)],[(5,trB m (R.length + 1)),(800,.arr 52 9 (R ++ [lfo o.id first (.own 803 36 0 (us.length + 1)) bx])),(803,.arr 111 36 (us.map encU ++ [encU u])),(802,.arr 28 6 (S ++ [encX y])),(4,zT)]⟩ ?_ (by
  intro K hK
  clear g4 g5 hjn
  refine AW_drawF (fun f=>⟨[(72,if f 0 then .eloc 800 9 R.length 0 else .u),(73,if f 1 then .eloc 800 9 R.length 0 else .u),(74,if f 2 then .eloc 800 9 R.length 0 else .u),(75,if f 3 then .eloc 800 9 R.length 2 else .u),(76,if f 4 && !f 14 then .own 803 36 0 us.length else .u),(77,if f 5 then obL l else .u),(78,if f 6 then iA i else .u),(79,if f 7 then .ep (encO o) else .u),(80,if f 8 then .ep (unL o.us) else .u),(81,if f 9 then unL o.us else .u),(82,if f 10 then iA k else .u),(83,if f 11 then .ep (encU u) else .u),(84,if f 12 then encU u else .u),(85,if f 13 then .own 85 36 0 1 else .u),(86,if f 14 then .own 803 36 0 (us.length + 1) else .u),(87,if f 15 then .eloc 800 9 R.length 0 else .u),(88,if f 16 then .eloc 800 9 R.length 2 else .u),(11,.eloc 800 9 R.length 0),(9,.ep (encX b)),(8,iA k),(7,iA i),(6,.own 802 6 0 (R.length + 1)),(5,.loc 5 0),(4,.loc 4 0),(0,obL l),(1,iA m)],
   (if f 13 then [(85,.arr 111 36 [encU u])] else []) ++ [(5,trB m (R.length + 1)),(800,.arr 52 9 (R ++ [lfo o.id first (if f 14 then (if f 17 then .own 803 36 0 (us.length + 1) else .w) else .own 803 36 0 us.length) bx])),(803,.arr 111 36 (if f 14 then us.map encU ++ [encU u] else us.map encU)),(802,.arr 28 6 (S ++ [encX y])),(4,zT)]⟩) mixed (by rw [hE];decide) (by decide +kernel) (by decide +kernel) (by simp) ?_ ?_
  ·intro f i o hi hdep hnot hcl K2 hK2
   have w14_13 : f 14 = true → f 13 = true:=gw
   have w14_4 : f 14 = true → f 4 = true:=gw
   have w17_14 : f 17 = true → f 14 = true:=gw
   have w17_16 : f 17 = true → f 16 = true:=gw
   clear hcl
   iterate 18 (rcases i with _|i;rotate_left)
   ·simp at hi
   all_goals (simp only [List.getElem?_cons_succ,List.getElem?_cons_zero,Option.some.injEq] at hi;subst hi)
   all_goals simp [Region.binds] at hdep
   all_goals (rcases a13 : f 13 <;> rcases a14 : f 14)
   all_goals try (exfalso;revert hdep hnot w14_13 w14_4 w17_14 w17_16;simp [a13,a14];done)
   all_goals (try simp [a13,a14,hnot] at w14_13)
   all_goals (try simp [a13,a14,hnot] at w14_4)
   all_goals (try simp [a13,a14,hnot] at w17_14)
   all_goals (try simp [a13,a14,hnot] at w17_16)
   all_goals (have z'1:=@encO.eq_1;have z'2:=@mentL_append;exact gd0)
  ·intro f hf
   have e17:=hf 17 (by simp)
   have e13:=hf 13 (by simp)
   have e14:=hf 14 (by simp)
   refine hK.h _ ?_
   simp [e17,e13,e14,encO,mentL_append]
  all_goals simp)
 refine AW_seqt ⟨[(11,.eloc 800 9 R.length 0),(9,.ep (encX b)),(8,iA k),(7,iA i),(6,.own 802 6 0 (R.length + 1)),(5,.loc 5 0),(4,.loc 4 0),(0,obL l),(1,iA m)],[(5,trB m (R.length + 1)),(800,.arr 52 9 (R ++ [lfo o.id first (.own 803 36 0 (us.length + 1)) z])),(803,.arr 111 36 (us.map encU ++ [encU u])),(802,.arr 28 6 (S ++ [encX y])),(4,zT)]⟩ ?_ (by
  intro K hK
  clear g4 g5
  refine AW_drawF (fun f=>⟨[(89,if f 0 then .eloc 800 9 R.length 0 else .u),(90,if f 1 then .eloc 800 9 R.length 0 else .u),(91,if f 2 then .eloc 800 9 R.length 0 else .u),(92,if f 3 then .eloc 800 9 R.length 3 else .u),(93,if f 4 then encX bx else .u),(94,if f 5 then encX b else .u),(95,if f 6 then encX z else .u),(96,if f 7 then .eloc 800 9 R.length 0 else .u),(97,if f 8 then .eloc 800 9 R.length 3 else .u),(11,.eloc 800 9 R.length 0),(9,.ep (encX b)),(8,iA k),(7,iA i),(6,.own 802 6 0 (R.length + 1)),(5,.loc 5 0),(4,.loc 4 0),(0,obL l),(1,iA m)],
   [(5,trB m (R.length + 1)),(800,.arr 52 9 (R ++ [lfo o.id first (.own 803 36 0 (us.length + 1)) (if f 9 then z else bx)])),(803,.arr 111 36 (us.map encU ++ [encU u])),(802,.arr 28 6 (S ++ [encX y])),(4,zT)]⟩) mixed (by rw [hE];decide) (by decide +kernel) (by decide +kernel) (by simp) ?_ ?_
  ·intro f i o hi hdep hnot hcl K2 hK2
   have w9_6 : f 9 = true → f 6 = true:=gw
   have w6_4 : f 6 = true → f 4 = true:=gw
   clear hcl
   iterate 10 (rcases i with _|i;rotate_left)
   ·simp at hi
   all_goals (simp only [List.getElem?_cons_succ,List.getElem?_cons_zero,Option.some.injEq] at hi;subst hi)
   all_goals simp [Region.binds] at hdep
   all_goals (rcases a9 : f 9 <;> rcases a6 : f 6)
   all_goals try (exfalso;revert hdep hnot w9_6 w6_4;simp [a9,a6];done)
   all_goals (try simp [a9,a6,hnot] at w9_6)
   all_goals (try simp [a9,a6,hnot] at w6_4)
   all_goals (have k'1:=hjn;have z'1:=@encX.eq_1;exact gd1)
  ·intro f hf
   have e9:=hf 9 (by simp)
   have e6:=hf 6 (by simp)
   refine hK.h _ ?_
   simp [e9,e6,encX]
  all_goals simp)
 repeat' (first
  |(with_reducible first|refine uK ?_|refine uX ?_|refine jq fun K hK=>?_|refine jb ?_)|((with_reducible first|refine rS hE ?_|refine jn ?_|refine js fun K' hK'=>?_|refine ji fun X Y hX hY=>?_|refine jr ?_|refine jk ?_|refine jx ?_);simp [*,encX])|with_reducible refine rL hE ?_|with_reducible refine And.intro ?_ ?_|omega|(refine imp1 fun h=>?_))
 refine RK_nilk (hK.h _ ?_)
 simp [encX]
theorem cellF (R : List AV) (o first : Int) (b : Bx) (x : AV) : Cell (.arr 52 9 (R ++ [lfo o first x b])) x (fun y=>.arr 52 9 (R ++ [lfo o first y b])):=by
 have e : (fun y=>Ct.arr 52 9 ((R ++ [lfo o first x b]).set R.length (.st ([iA o,iA first,x,iA b.x0,iA b.x1,iA b.y0,iA b.y1,iA b.t0,iA b.t1].set 2 y)))) = fun y=>Ct.arr 52 9 (R ++ [lfo o first y b]):=by
  funext y
  simp
 rw [← e]
 exact Cell.arr (by simp) (by simp)
section
variable {E : Env} {m : Nat} {l : List Ob} {o : Ob} {u : Un} {i k : Nat} {R S : List AV} {b : Bx}
set_option maxHeartbeats 8000000 in
theorem wb_new (hE : E.n = Tryz.f14.ntmps) (hi : i < l.length) (ho : l[i] = o) (hk : k < o.us.length) (hu : o.us[k] = u) (hk1 : k ≤ 1000) (hm : 0 < m) (hm2 : m ≤ 32) (hkm : k % m = 0) (hB : WxOK u b)
 (hRl : R.length ≤ 1000000) (hSl : S.length = R.length) (hRm : ∀ d,mentL d R = false) (hRf : ∀ d,R.map (AV.forg d) = R) (hSm : ∀ d,mentL d S = false)
 {Q : AExit → AState → Prop} (h : ∀ s' : AState,s'.le ⟨[(8,iA k),(7,iA i),(6,.own 802 6 0 (R.length + 1)),(5,.loc 5 0),(4,.loc 4 0),(0,obL l),(1,iA m)],[(5,trB m (R.length + 1)),(800,.arr 52 9 (R ++ [lfo o.id k (.own 803 36 0 1) (joiX b b)])),(803,.arr 111 36 [encU u]),(802,.arr 28 6 (S ++ [encX (joiX b b)])),(4,zT)]⟩ → Q .normal s') :
 AW Tryz.prog E cWb ⟨[(8,iA k),(7,iA i),(6,.own 802 6 0 R.length),(5,.loc 5 0),(4,.loc 4 0),(0,obL l),(1,iA m)],[(5,trB m R.length),(800,.arr 52 9 R),(802,.arr 28 6 S),(4,zT)]⟩ Q:=by
 have hiI : (i : Int) < l.length:=by omega
 have hkI : (k : Int) < o.us.length:=by omega
 have hog : ∀ h : i < l.length,l[i] = o:=fun _=>ho
 have hug : ∀ h : k < o.us.length,o.us[k] = u:=fun _=>hu
 have hmI : ¬ (m : Int) = 0:=by omega
 have hkmI : (k : Int).tmod m = 0:=(show ((k % m : Nat) : Int) = 0 by omega)
 have hb:=Hld.mk hB
 have hb2 : Hld (PSpec Tryz.prog 48 [encU u] (.tup [encX b,iA 0])):=⟨hB⟩
 have hQ:=Hld.mk h
 refine AW_block ?_
 refine AW_seqt ⟨[(9,.loc 9 0),(8,iA k),(7,iA i),(6,.own 802 6 0 R.length),(5,.loc 5 0),(4,.loc 4 0),(0,obL l),(1,iA m)],[(9,.box 28 (encX b)),(5,trB m R.length),(800,.arr 52 9 R),(802,.arr 28 6 S),(4,zT)]⟩ ?_ (by
  intro K hK
  clear h hQ ho hu hB hb
  have k'1:=hb2;have z'1:=@encO.eq_1;exact ga1)
 refine AW_freeze 9 (cb:=.box 28 (encX b)) (t:=⟨[(9,.ep (encX b)),(8,iA k),(7,iA i),(6,.own 802 6 0 R.length),(5,.loc 5 0),(4,.loc 4 0),(0,obL l),(1,iA m)],[(5,trB m R.length),(800,.arr 52 9 R),(802,.arr 28 6 S),(4,zT)]⟩) (by simp) (by simp) (by simp [hRm,hSm]) ?_
 refine AW_seqt ⟨[(9,.ep (encX b)),(8,iA k),(7,iA i),(6,.own 802 6 0 (R.length + 1)),(5,.loc 5 0),(4,.loc 4 0),(0,obL l),(1,iA m)],[(5,trB m (R.length + 1)),(800,.arr 52 9 (R ++ [lfo o.id k (.v (.slice none 0 0)) b])),(802,.arr 28 6 (S ++ [encX b])),(4,zT)]⟩ ?_ (by
  intro K hK
  clear h hQ ho hu hB hb hb2 hug
  have hRt : R.take R.length = R:=List.take_length
  have hSt : S.take R.length = S:=by rw [← hSl];exact List.take_length
  refine sq ⟨[(47,bA true),(9,.ep (encX b)),(8,iA k),(7,iA i),(6,.own 802 6 0 R.length),(5,.loc 5 0),(4,.loc 4 0),(0,obL l),(1,iA m)],[(5,trB m R.length),(800,.arr 52 9 R),(802,.arr 28 6 S),(4,zT)]⟩ ?_
  refine AW_if fun X Y hX hY=>?_
  simp
  refine hX.h ?_
  clear hX hY
  refine AW_seqt ⟨[(9,.ep (encX b)),(8,iA k),(7,iA i),(6,.own 802 6 0 R.length),(5,.loc 5 0),(4,.loc 4 0),(0,obL l),(1,iA m)],[(5,trB m (R.length + 1)),(800,.arr 52 9 (R ++ [lfo o.id k (.v (.slice none 0 0)) b])),(802,.arr 28 6 S),(4,zT)]⟩ ?_ (by
   intro K hK
   refine AW_drawF (fun f=>⟨[(48,if f 0 then .loc 5 1 else .u),(49,if f 1 && !f 11 then .own 800 9 0 R.length else .u),(50,if f 2 then obL l else .u),(51,if f 3 then iA i else .u),(52,if f 4 then .ep (encO o) else .u),(53,if f 5 then .ep (iA o.id) else .u),(54,if f 6 then iA o.id else .u),(55,if f 7 then iA k else .u),(56,if f 8 then encX b else .u),(57,if f 9 then lfo o.id k (.v (.slice none 0 0)) b else .u),(58,if f 10 then .own 58 9 0 1 else .u),(59,if f 11 then .own 800 9 0 (R.length + 1) else .u),(60,if f 12 then .loc 5 1 else .u),(9,.ep (encX b)),(8,iA k),(7,iA i),(6,.own 802 6 0 R.length),(5,.loc 5 0),(4,.loc 4 0),(0,obL l),(1,iA m)],
    (if f 10 then [(58,.arr 52 9 [lfo o.id k (.v (.slice none 0 0)) b])] else []) ++ [(5,.box 34 (.st [iA m,if f 11 then (if f 13 then .own 800 9 0 (R.length + 1) else .w) else .own 800 9 0 R.length,.v (.slice none 0 0)])),(800,.arr 52 9 (if f 11 then R ++ [lfo o.id k (.v (.slice none 0 0)) b] else R)),(802,.arr 28 6 S),(4,zT)]⟩) mixed (by rw [hE];decide) (by decide +kernel) (by decide +kernel) (by simp) ?_ ?_
   ·intro f i o hi hdep hnot hcl K2 hK2
    have w11_10 : f 11 = true → f 10 = true:=gw
    have w11_1 : f 11 = true → f 1 = true:=gw
    have w13_11 : f 13 = true → f 11 = true:=gw
    have w13_12 : f 13 = true → f 12 = true:=gw
    clear hcl
    iterate 14 (rcases i with _|i;rotate_left)
    ·simp at hi
    all_goals (simp only [List.getElem?_cons_succ,List.getElem?_cons_zero,Option.some.injEq] at hi;subst hi)
    all_goals simp [Region.binds] at hdep
    all_goals (rcases a10 : f 10 <;> rcases a11 : f 11)
    all_goals try (exfalso;revert hdep hnot w11_10 w11_1 w13_11 w13_12;simp [a10,a11];done)
    all_goals (try simp [a10,a11,hnot] at w11_10)
    all_goals (try simp [a10,a11,hnot] at w11_1)
    all_goals (try simp [a10,a11,hnot] at w13_11)
    all_goals (try simp [a10,a11,hnot] at w13_12)
    all_goals (have z'1:=@encO.eq_1;have z'2:=@encX.eq_1;have z'3:=@mentL_append;exact gd0)
   ·intro f hf
    have e13:=hf 13 (by simp)
    have e10:=hf 10 (by simp)
    have e11:=hf 11 (by simp)
    refine hK.h _ ?_
    simp [e13,e10,e11,encO,encX,mentL_append]
   all_goals simp)
  repeat' (first
   |(with_reducible first|refine uK ?_|refine uX ?_|refine jq fun K hK=>?_|refine jb ?_)|((with_reducible first|refine rS hE ?_|refine jn ?_|refine js fun K' hK'=>?_|refine ji fun X Y hX hY=>?_|refine jr ?_|refine jk ?_|refine jx ?_);simp [*,encX])|with_reducible refine rL hE ?_|with_reducible refine And.intro ?_ ?_|omega|(refine imp1 fun h=>?_))
  all_goals simp [encX,mentL_append,hRm])
 refine AW_mkrowG 800 803 111 36 (t:=⟨[(9,.ep (encX b)),(8,iA k),(7,iA i),(6,.own 802 6 0 (R.length + 1)),(5,.loc 5 0),(4,.loc 4 0),(0,obL l),(1,iA m)],[(5,trB m (R.length + 1)),(800,.arr 52 9 (R ++ [lfo o.id k (.own 803 36 0 0) b])),(803,.arr 111 36 []),(802,.arr 28 6 (S ++ [encX b])),(4,zT)]⟩) (by simp) (cellF R o.id k b _) (by simp [hRm,hSm,mentL_append]) (by simp) (by omega) (by simp) (fun j c' hj=>?_) ?_
 ·simp only [AState.box,lk] at hj ⊢
  (repeat' split at hj) <;> first
    |(cases hj;rename_i e;subst e;first|exact .inl ⟨rfl,rfl⟩|exact .inr (.inl ⟨rfl,rfl⟩)|exact .inr (.inr ⟨by decide,by decide,by simp⟩))
    |cases hj
 ·refine wb_tail hE (us:=[]) hi ho hk hu (by simp) hRl hSl hRm hRf hSm fun s' hs'=>?_
  exact hQ.out s' hs'
set_option maxHeartbeats 8000000 in
theorem wb_add (hE : E.n = Tryz.f14.ntmps) {us : List Un} {bx : Bx} {first : Int} (hi : i < l.length) (ho : l[i] = o) (hk : k < o.us.length) (hu : o.us[k] = u) (hus : us.length ≤ 1000) (hk1 : k ≤ 1000) (hm : 0 < m) (hm2 : m ≤ 32) (hkm : k % m ≠ 0) (hB : WxOK u b)
 (hRl : R.length ≤ 1000000) (hSl : S.length = R.length) (hRm : ∀ d,mentL d R = false) (hRf : ∀ d,R.map (AV.forg d) = R) (hSm : ∀ d,mentL d S = false)
 {Q : AExit → AState → Prop} (h : ∀ s' : AState,s'.le ⟨[(8,iA k),(7,iA i),(6,.own 802 6 0 (R.length + 1)),(5,.loc 5 0),(4,.loc 4 0),(0,obL l),(1,iA m)],[(5,trB m (R.length + 1)),(800,.arr 52 9 (R ++ [lfo o.id first (.own 803 36 0 (us.length + 1)) (joiX bx b)])),(803,.arr 111 36 (us.map encU ++ [encU u])),(802,.arr 28 6 (S ++ [encX (joiX bx b)])),(4,zT)]⟩ → Q .normal s') :
 AW Tryz.prog E cWb ⟨[(8,iA k),(7,iA i),(6,.own 802 6 0 (R.length + 1)),(5,.loc 5 0),(4,.loc 4 0),(0,obL l),(1,iA m)],[(5,trB m (R.length + 1)),(800,.arr 52 9 (R ++ [lfo o.id first (.own 803 36 0 us.length) bx])),(803,.arr 111 36 (us.map encU)),(802,.arr 28 6 (S ++ [encX bx])),(4,zT)]⟩ Q:=by
 have hiI : (i : Int) < l.length:=by omega
 have hkI : (k : Int) < o.us.length:=by omega
 have hog : ∀ h : i < l.length,l[i] = o:=fun _=>ho
 have hug : ∀ h : k < o.us.length,o.us[k] = u:=fun _=>hu
 have hmI : ¬ (m : Int) = 0:=by omega
 have hkmI : ¬ (k : Int).tmod m = 0:=(show ¬ ((k % m : Nat) : Int) = 0 by omega)
 have hb2 : Hld (PSpec Tryz.prog 48 [encU u] (.tup [encX b,iA 0])):=⟨hB⟩
 have hQ:=Hld.mk h
 refine AW_block ?_
 refine AW_seqt ⟨[(9,.loc 9 0),(8,iA k),(7,iA i),(6,.own 802 6 0 (R.length + 1)),(5,.loc 5 0),(4,.loc 4 0),(0,obL l),(1,iA m)],[(9,.box 28 (encX b)),(5,trB m (R.length + 1)),(800,.arr 52 9 (R ++ [lfo o.id first (.own 803 36 0 us.length) bx])),(803,.arr 111 36 (us.map encU)),(802,.arr 28 6 (S ++ [encX bx])),(4,zT)]⟩ ?_ (by
  intro K hK
  clear h hQ ho hu hB
  repeat' (first
   |(with_reducible first|refine uK ?_|refine uX ?_|refine jq fun K hK=>?_|refine jb ?_)|((with_reducible first|refine rS hE ?_|refine jn ?_|refine js fun K' hK'=>?_|refine ji fun X Y hX hY=>?_|refine jr ?_|refine jk ?_|refine jx ?_);simp [*,encO])|with_reducible refine rL hE ?_|(refine jC (hb2.out) ?_ ?_ ?_;(iterate 2 focus (simp [*,encO] <;> fail));simp [*,encO])|with_reducible refine And.intro ?_ ?_|omega|(refine imp1 fun h=>?_))
  all_goals simp [encO,mentL_append,hRm,hSm])
 refine AW_freeze 9 (cb:=.box 28 (encX b)) (t:=⟨[(9,.ep (encX b)),(8,iA k),(7,iA i),(6,.own 802 6 0 (R.length + 1)),(5,.loc 5 0),(4,.loc 4 0),(0,obL l),(1,iA m)],[(5,trB m (R.length + 1)),(800,.arr 52 9 (R ++ [lfo o.id first (.own 803 36 0 us.length) bx])),(803,.arr 111 36 (us.map encU)),(802,.arr 28 6 (S ++ [encX bx])),(4,zT)]⟩) (by simp) (by simp) (by simp [hRm,hSm,mentL_append]) ?_
 refine AW_seqt ⟨[(9,.ep (encX b)),(8,iA k),(7,iA i),(6,.own 802 6 0 (R.length + 1)),(5,.loc 5 0),(4,.loc 4 0),(0,obL l),(1,iA m)],[(5,trB m (R.length + 1)),(800,.arr 52 9 (R ++ [lfo o.id first (.own 803 36 0 us.length) bx])),(803,.arr 111 36 (us.map encU)),(802,.arr 28 6 (S ++ [encX bx])),(4,zT)]⟩ ?_ (by
  intro K hK
  clear h hQ ho hu hB hb2 hug
  exact ga0)
 exact wb_tail hE hi ho hk hu hus hRl hSl hRm hRf hSm hQ.out
end
theorem chU_take (m : Nat) (us : List Un) (k j : Nat) : chU m (us.take k) j = (us.drop (j * m)).take (min m (k - j * m)):=by
 unfold chU
 rw [List.drop_take,List.take_take]
theorem lbx_app (B : Un → Bx) (c : List Un) (u : Un) (h : c ≠ []) : lbx B (c ++ [u]) = joiX (lbx B c) (B u):=by
 unfold lbx
 rw [List.foldl_append]
 have : ∀ (l : List Un) (a : Option Bx),(l ≠ [] ∨ a ≠ none) → ∃ x,l.foldl (stB B) a = some x:=by
  intro l
  induction l with
  |nil =>
   intro a h
   rcases h with h|h
   ·exact absurd rfl h
   ·exact Option.ne_none_iff_exists'.1 h
  |cons y l ih=>intro a _;exact ih _ (.inr (by simp [stB]))
 obtain ⟨x,hx⟩:=this c none (.inl h)
 rw [hx]
 rfl
theorem lvF_congr {B : Un → Bx} {o o' : Ob} {m : Nat} : ∀ {n : Nat},(∀ j,j < n → lfF B o m j = lfF B o' m j) → lvF B o m n = lvF B o' m n
 |0,_=>rfl
 |n + 1,h=>by rw [lvF_succ,lvF_succ,lvF_congr (fun j hj=>h j (by omega)),h n (by omega)]
theorem lfF_same (B : Un → Bx) (id : Int) (us : List Un) {m k j : Nat} (h : (j + 1) * m ≤ k) : lfF B ⟨id,us.take (k + 1)⟩ m j = lfF B ⟨id,us.take k⟩ m j:=by
 have e : chU m (us.take (k + 1)) j = chU m (us.take k) j:=by
  rw [Nat.add_mul] at h
  rw [chU_take,chU_take,show min m (k + 1 - j * m) = m by omega,show min m (k - j * m) = m by omega]
 unfold lfF
 simp only [e]
def lvK (B : Un → Bx) (m : Nat) (o : Ob) (k : Nat) : List Lf:=lvO B m ⟨o.id,o.us.take k⟩
theorem lvK_zero (B : Un → Bx) (m : Nat) (o : Ob) (hm : 0 < m) : lvK B m o 0 = []:=by
 unfold lvK lvO
 have : cnt m ([] : List Un).length = 0:=(cnt_eq hm (by simp) (.inl rfl)).symm
 simp only [List.take_zero,this]
 rfl
theorem lvK_all (B : Un → Bx) (m : Nat) (o : Ob) : lvK B m o o.us.length = lvO B m o:=by
 unfold lvK
 rw [List.take_length]
theorem lvK_new (B : Un → Bx) {m k : Nat} (o : Ob) (hm : 0 < m) (hk : k < o.us.length) (h0 : k % m = 0) : lvK B m o (k + 1) = lvK B m o k ++ [⟨o.id,(k : Int),[o.us[k]],joiX (B o.us[k]) (B o.us[k])⟩]:=by
 obtain ⟨q,rfl⟩ : ∃ q,k = q * m:=⟨k / m,by have:=Nat.div_add_mod k m;rw [h0,Nat.add_zero,Nat.mul_comm] at this;exact this.symm⟩
 have l1 : (o.us.take (q * m)).length = q * m:=by rw [List.length_take];omega
 have l2 : (o.us.take (q * m + 1)).length = q * m + 1:=by rw [List.length_take];omega
 have c1 : cnt m (q * m) = q:=(cnt_eq hm (Nat.le_refl _) (by
  rcases q with _|q
  ·exact .inl rfl
  ·refine .inr ?_
   rw [Nat.add_sub_cancel,Nat.add_mul];omega)).symm
 have c2 : cnt m (q * m + 1) = q + 1:=(cnt_eq hm (by rw [Nat.add_mul];omega) (.inr (by rw [Nat.add_sub_cancel];omega))).symm
 unfold lvK lvO
 simp only [l1,l2,c1,c2]
 rw [lvF_succ,lvF_congr (o':=⟨o.id,o.us.take (q * m)⟩) (fun j hj=>lfF_same B o.id o.us (Nat.mul_le_mul_right m hj))]
 congr 2
 have e : chU m (o.us.take (q * m + 1)) q = [o.us[q * m]]:=by
  rw [chU_take,show min m (q * m + 1 - q * m) = 1 by omega]
  rw [List.drop_eq_getElem_cons hk]
  rfl
 unfold lfF
 simp only [e]
 rfl
theorem lvK_add (B : Un → Bx) {m k : Nat} (o : Ob) (hm : 0 < m) (hk : k < o.us.length) (h0 : k % m ≠ 0) : ∃ pre lf,lvK B m o k = pre ++ [lf] ∧ lvK B m o (k + 1) = pre ++ [⟨lf.o,lf.first,lf.us ++ [o.us[k]],joiX lf.b (B o.us[k])⟩]:=by
 obtain ⟨q,r,hr,hrm,rfl⟩ : ∃ q r,0 < r ∧ r < m ∧ k = q * m + r:=⟨k / m,k % m,by omega,Nat.mod_lt _ hm,by rw [Nat.mul_comm];exact (Nat.div_add_mod k m).symm⟩
 have l1 : (o.us.take (q * m + r)).length = q * m + r:=by rw [List.length_take];omega
 have l2 : (o.us.take (q * m + r + 1)).length = q * m + r + 1:=by rw [List.length_take];omega
 have c1 : cnt m (q * m + r) = q + 1:=(cnt_eq hm (by rw [Nat.add_mul];omega) (.inr (by rw [Nat.add_sub_cancel];omega))).symm
 have c2 : cnt m (q * m + r + 1) = q + 1:=(cnt_eq hm (by rw [Nat.add_mul];omega) (.inr (by rw [Nat.add_sub_cancel];omega))).symm
 refine ⟨lvF B ⟨o.id,o.us.take (q * m + r)⟩ m q,lfF B ⟨o.id,o.us.take (q * m + r)⟩ m q,?_,?_⟩
 ·unfold lvK lvO
  simp only [l1,c1]
  rw [lvF_succ]
 ·unfold lvK lvO
  simp only [l2,c2]
  rw [lvF_succ,lvF_congr (o':=⟨o.id,o.us.take (q * m + r)⟩) (fun j hj=>lfF_same B o.id o.us (by have:=Nat.mul_le_mul_right m (show j + 1 ≤ q from hj);omega))]
  congr 2
  have hc : chU m (o.us.take (q * m + r + 1)) q = chU m (o.us.take (q * m + r)) q ++ [o.us[q * m + r]]:=by
   rw [chU_take,chU_take,show min m (q * m + r + 1 - q * m) = r + 1 by omega,show min m (q * m + r - q * m) = r by omega,List.take_add_one,List.getElem?_drop,List.getElem?_eq_getElem hk]
   rfl
  have hne : chU m (o.us.take (q * m + r)) q ≠ []:=by
   intro e
   have:=congrArg List.length e
   rw [chU_take,List.length_take,List.length_drop,List.length_nil] at this
   omega
  unfold lfF
  simp only [hc]
  rw [lbx_app B _ _ hne]
theorem forg_F (d : Nat) (f : Lf) : (encF f).forg d = encF f:=by simp [AV.forg,encF]
theorem forg_LF (d : Nat) (L : List Lf) : (L.map encF).map (AV.forg d) = L.map encF:=by
 rw [List.map_map]
 exact List.map_congr_left fun f _=>forg_F d f
abbrev sB (m : Nat) (l : List Ob) (i k n : Nat) : List (Nat × AV):=[(8,iA k),(7,iA i),(6,.own 802 6 0 n),(5,.loc 5 0),(4,.loc 4 0),(0,obL l),(1,iA m)]
abbrev bF (m : Nat) (L : List Lf) : List (Nat × Ct):=[(5,trB m L.length),(800,rwF L),(802,.arr 28 6 (lbA L)),(4,zT)]
abbrev bJ (m : Nat) (pre : List Lf) (lf : Lf) : List (Nat × Ct):=[(5,trB m (pre.length + 1)),(800,.arr 52 9 (pre.map encF ++ [lfo lf.o lf.first (.own 803 36 0 lf.us.length) lf.b])),(803,rwP' lf.us),(802,.arr 28 6 (lbA pre ++ [encX lf.b])),(4,zT)]
theorem lbA_app (L : List Lf) (f : Lf) : lbA (L ++ [f]) = lbA L ++ [encX f.b]:=by simp [lbA]
theorem wb_close {E : Env} {c : Code} {Q : AExit → AState → Prop} {m : Nat} {l : List Ob} {i k : Nat} {pre : List Lf} {lf : Lf} (h : AW Tryz.prog E c ⟨sB m l i k (pre ++ [lf]).length,bF m (pre ++ [lf])⟩ Q) : AW Tryz.prog E c ⟨sB m l i k (pre.length + 1),bJ m pre lf⟩ Q:=by
 have e1 : (pre ++ [lf]).length = pre.length + 1:=by simp
 have e2 : rwF (pre ++ [lf]) = .arr 52 9 (pre.map encF ++ [lfo lf.o lf.first (unL lf.us) lf.b]):=by show Ct.arr _ 9 ((pre ++ [lf]).map encF) = _;rw [List.map_append];rfl
 have hb : bF m (pre ++ [lf]) = [(5,trB m (pre.length + 1)),(800,.arr 52 9 (pre.map encF ++ [lfo lf.o lf.first (unL lf.us) lf.b])),(802,.arr 28 6 (lbA pre ++ [encX lf.b])),(4,zT)]:=by
  show [(5,trB m (pre ++ [lf]).length),(800,rwF (pre ++ [lf])),(802,.arr 28 6 (lbA (pre ++ [lf]))),(4,zT)] = _
  rw [e1,e2,lbA_app]
 rw [hb,e1] at h
 refine AW_freezeF 803 800 (cb:=rwP' lf.us) (x0:=.own 803 36 0 lf.us.length) (y0:=unL lf.us) (f:=fun y=>.arr 52 9 (pre.map encF ++ [lfo lf.o lf.first y lf.b])) (by simp) (by simp) (cellF _ lf.o lf.first lf.b _) (fr_row (by simp) (by simp)) (by simp) (by simp) (by omega) (fun j c' hj=>?_) h
 simp only [AState.box,lk] at hj ⊢
 (repeat' split at hj) <;> first
   |(cases hj;rename_i e;subst e;first|exact .inl ⟨rfl,rfl⟩|exact .inr ⟨by decide,by simp,by simp [mentL_append]⟩)
   |cases hj
noncomputable def cObj : Code:=nav [1,1,1,0,1,0,0,1,0] (Tryz.f14.body.getD .skip)
def iO (m : Nat) (l : List Ob) (i : Nat) (L0 : List Lf) (g : Nat × Option (List Lf × Lf)) : AState:=match g.2 with
 |none=>⟨sB m l i g.1 L0.length,bF m L0⟩
 |some p=>⟨sB m l i g.1 (p.1.length + 1),bJ m p.1 p.2⟩
def okI (B : Un → Bx) (m : Nat) (o : Ob) (L0 : List Lf) (g : Nat × Option (List Lf × Lf)) : Prop:=match g.2 with
 |none=>g.1 = 0
 |some p=>0 < g.1 ∧ L0 ++ lvK B m o g.1 = p.1 ++ [p.2] ∧ p.2.o = o.id ∧ p.2.us.length ≤ g.1
set_option maxHeartbeats 8000000 in
theorem wb_obj {E : Env} (hE : E.n = Tryz.f14.ntmps) {m : Nat} {l : List Ob} {o : Ob} {i : Nat} {L0 : List Lf} {B : Un → Bx} (hi : i < l.length) (ho : l[i] = o) (hul : o.us.length ≤ 1000) (hm : 0 < m) (hm2 : m ≤ 32) (hB : ∀ u ∈ o.us,WxOK u (B u)) (hL : L0.length ≤ 100000)
 {Q : AExit → AState → Prop} (h : ∀ s' : AState,s'.le ⟨[(7,iA i),(6,.own 802 6 0 (L0 ++ lvO B m o).length),(5,.loc 5 0),(4,.loc 4 0),(0,obL l),(1,iA m)],bF m (L0 ++ lvO B m o)⟩ → Q .normal s') :
 AW Tryz.prog E cObj ⟨[(7,iA i),(6,.own 802 6 0 L0.length),(5,.loc 5 0),(4,.loc 4 0),(0,obL l),(1,iA m)],bF m L0⟩ Q:=by
 have hiI : (i : Int) < l.length:=by omega
 have hog : ∀ h : i < l.length,l[i] = o:=fun _=>ho
 have hll : ∀ k,k ≤ o.us.length → (lvK B m o k).length ≤ 1000:=by
  intro k hk
  have:=lvO_len B m ⟨o.id,o.us.take k⟩ hm
  simp only [List.length_take] at this
  unfold lvK
  omega
 have hQ:=Kont.mk h
 refine AW_block ?_
 repeat' (first
  |(with_reducible first|refine uK ?_|refine uX ?_|refine jq fun K hK=>?_|refine jb ?_)|((with_reducible first|refine rS hE ?_|refine jn ?_|refine js fun K' hK'=>?_|refine ji fun X Y hX hY=>?_|refine jr ?_|refine jk ?_|refine jx ?_);simp [*])|with_reducible refine rL hE ?_|with_reducible refine And.intro ?_ ?_|omega|(refine imp1 fun h=>?_))
 refine AW_loopk (iO m l i L0) (fun g=>g.1 ≤ o.us.length ∧ Hld (okI B m o L0 g)) (fun g=>o.us.length - g.1) (0,none) ⟨Nat.zero_le _,⟨rfl⟩⟩ (by simp [iO]) ?_
 rintro ⟨k,g⟩ ⟨hk,hg⟩ K hK
 replace hk : k ≤ o.us.length:=hk
 by_cases hlt : k < o.us.length
 ·have hltI : (k : Int) < o.us.length:=by omega
  obtain ⟨u,hu⟩ : ∃ u,o.us[k] = u:=⟨_,rfl⟩
  have hwx:=hB u (hu ▸ List.getElem_mem hlt)
  rcases g with _|⟨pre,lf⟩
  ·have hk0:=Hld.mk (show k = 0 from hg.out)
   refine AW_le (t:=⟨sB m l i k L0.length,bF m L0⟩) (by simp [iO]) ?_
   refine AW_seqt ⟨sB m l i k L0.length,bF m L0⟩ ?_ (by
    intro K hK
    clear h hQ hB hg hwx hk0 hll
    have z'1:=@encO.eq_1;exact ga0)
   have hs:=lvK_new B o hm hlt (by rw [hk0.out];exact Nat.zero_mod m)
   have hz : lvK B m o k = []:=by rw [hk0.out];exact lvK_zero B m o hm
   rw [hz,List.nil_append,hu] at hs
   refine AW_seqt ⟨sB m l i k (L0.length + 1),bJ m L0 ⟨o.id,(k : Int),[u],joiX (B u) (B u)⟩⟩ ?_ (by
    intro K hK
    refine AW_le (t:=⟨sB m l i k (L0.map encF).length,[(5,trB m (L0.map encF).length),(800,rwF L0),(802,.arr 28 6 (lbA L0)),(4,zT)]⟩) (by simp) ?_
    exact wb_new hE hi ho hlt hu (by omega) hm hm2 (by rw [hk0.out];exact Nat.zero_mod m) hwx (by simp;omega) (by simp) (by simp) (fun d=>forg_LF d L0) (by simp) (fun s' hs'=>hK.h s' (by simpa [rwP'] using hs')))
   clear hB hwx hll h
   repeat' (first
    |(with_reducible first|refine uK ?_|refine uX ?_|refine jq fun K hK=>?_|refine jb ?_)|((with_reducible first|refine rS hE ?_|refine jn ?_|refine js fun K' hK'=>?_|refine ji fun X Y hX hY=>?_|refine jr ?_|refine jk ?_|refine jx ?_);simp [*])|with_reducible refine rL hE ?_|with_reducible refine And.intro ?_ ?_|omega|(refine imp1 fun h=>?_))
   exact ⟨(k + 1,some (L0,⟨o.id,(k : Int),[u],joiX (B u) (B u)⟩)),⟨by omega,⟨by omega,by rw [hs],rfl,by simp⟩⟩,by simp;omega,by simp [iO]⟩
  ·obtain ⟨hp1,hp2,hp3,hp4⟩ : 0 < k ∧ L0 ++ lvK B m o k = pre ++ [lf] ∧ lf.o = o.id ∧ lf.us.length ≤ k:=hg.out
   have hpl : pre.length ≤ 200000:=by
    have:=congrArg List.length hp2
    have:=hll k hk
    simp at *
    omega
   refine AW_le (t:=⟨sB m l i k (pre.length + 1),bJ m pre lf⟩) (by simp [iO]) ?_
   refine AW_seqt ⟨sB m l i k (pre.length + 1),bJ m pre lf⟩ ?_ (by
    intro K hK
    clear h hQ hB hg hwx hll hp2 hp3 hu
    repeat' (first
     |(with_reducible first|refine uK ?_|refine uX ?_|refine jq fun K hK=>?_|refine jb ?_)|((with_reducible first|refine rS hE ?_|refine jn ?_|refine js fun K' hK'=>?_|refine ji fun X Y hX hY=>?_|refine jr ?_|refine jk ?_|refine jx ?_);simp [*,encO])|with_reducible refine rL hE ?_|with_reducible refine And.intro ?_ ?_|omega|(refine imp1 fun h=>?_))
    all_goals simp [encO,hltI,mentL_append])
   by_cases h0 : k % m = 0
   ·have hs : L0 ++ lvK B m o (k + 1) = (pre ++ [lf]) ++ [⟨o.id,(k : Int),[u],joiX (B u) (B u)⟩]:=by rw [lvK_new B o hm hlt h0,← List.append_assoc,hp2,hu]
    refine AW_seqt ⟨sB m l i k ((pre ++ [lf]).length + 1),bJ m (pre ++ [lf]) ⟨o.id,(k : Int),[u],joiX (B u) (B u)⟩⟩ ?_ (by
     intro K hK
     refine wb_close ?_
     refine AW_le (t:=⟨sB m l i k ((pre ++ [lf]).map encF).length,[(5,trB m ((pre ++ [lf]).map encF).length),(800,rwF (pre ++ [lf])),(802,.arr 28 6 (lbA (pre ++ [lf]))),(4,zT)]⟩) (by simp) ?_
     exact wb_new hE hi ho hlt hu (by omega) hm hm2 h0 hwx (by simp;omega) (by simp) (fun d=>ment_LF d _) (fun d=>forg_LF d _) (fun d=>lbA_ment d _) (fun s' hs'=>hK.h s' (by simpa [rwP'] using hs')))
    clear hB hwx hll h
    repeat' (first
     |(with_reducible first|refine uK ?_|refine uX ?_|refine jq fun K hK=>?_|refine jb ?_)|((with_reducible first|refine rS hE ?_|refine jn ?_|refine js fun K' hK'=>?_|refine ji fun X Y hX hY=>?_|refine jr ?_|refine jk ?_|refine jx ?_);simp [*])|with_reducible refine rL hE ?_|with_reducible refine And.intro ?_ ?_|omega|(refine imp1 fun h=>?_))
    exact ⟨(k + 1,some (pre ++ [lf],⟨o.id,(k : Int),[u],joiX (B u) (B u)⟩)),⟨by omega,⟨by omega,hs,rfl,by simp⟩⟩,by simp;omega,by simp [iO]⟩
   ·obtain ⟨pre',lf',q1,q2⟩:=lvK_add B o hm hlt h0
    rw [hu] at q2
    have hpe : pre = L0 ++ pre' ∧ lf = lf':=by
     have:=hp2
     rw [q1,← List.append_assoc] at this
     have:=List.append_inj' this.symm rfl
     exact ⟨this.1,by simpa using this.2⟩
    obtain ⟨rfl,rfl⟩:=hpe
    have hs : L0 ++ lvK B m o (k + 1) = (L0 ++ pre') ++ [⟨lf.o,lf.first,lf.us ++ [u],joiX lf.b (B u)⟩]:=by rw [q2,List.append_assoc]
    refine AW_seqt ⟨sB m l i k ((L0 ++ pre').length + 1),bJ m (L0 ++ pre') ⟨lf.o,lf.first,lf.us ++ [u],joiX lf.b (B u)⟩⟩ ?_ (by
     intro K hK
     refine AW_le (t:=⟨sB m l i k (((L0 ++ pre').map encF).length + 1),[(5,trB m (((L0 ++ pre').map encF).length + 1)),(800,.arr 52 9 ((L0 ++ pre').map encF ++ [lfo o.id lf.first (.own 803 36 0 lf.us.length) lf.b])),(803,.arr 111 36 (lf.us.map encU)),(802,.arr 28 6 (lbA (L0 ++ pre') ++ [encX lf.b])),(4,zT)]⟩) (by simp [hp3,rwP']) ?_
     exact wb_add hE hi ho hlt hu (by omega) (by omega) hm hm2 h0 hwx (by simp;simp at hpl;omega) (by simp) (fun d=>ment_LF d _) (fun d=>forg_LF d _) (fun d=>lbA_ment d _) (fun s' hs'=>hK.h s' (by simpa [rwP',hp3] using hs')))
    clear hB hwx hll h
    repeat' (first
     |(with_reducible first|refine uK ?_|refine uX ?_|refine jq fun K hK=>?_|refine jb ?_)|((with_reducible first|refine rS hE ?_|refine jn ?_|refine js fun K' hK'=>?_|refine ji fun X Y hX hY=>?_|refine jr ?_|refine jk ?_|refine jx ?_);simp [*])|with_reducible refine rL hE ?_|with_reducible refine And.intro ?_ ?_|omega|(refine imp1 fun h=>?_))
    exact ⟨(k + 1,some (L0 ++ pre',⟨lf.o,lf.first,lf.us ++ [u],joiX lf.b (B u)⟩)),⟨by omega,⟨by omega,hs,hp3,by simp;omega⟩⟩,by simp;omega,by simp [iO,hp3]⟩
 ·have hke : k = o.us.length:=by omega
  subst hke
  rcases g with _|⟨pre,lf⟩
  ·have hk0 : o.us.length = 0:=hg.out
   have hz : lvO B m o = []:=by rw [← lvK_all,hk0];exact lvK_zero B m o hm
   rw [hz,List.append_nil] at hQ
   refine AW_le (t:=⟨sB m l i o.us.length L0.length,bF m L0⟩) (by simp [iO]) ?_
   clear h hB hg hll hk0
   have z'1:=@encO.eq_1;exact ga0
  ·obtain ⟨hp1,hp2,hp3,hp4⟩ : 0 < o.us.length ∧ L0 ++ lvK B m o o.us.length = pre ++ [lf] ∧ lf.o = o.id ∧ lf.us.length ≤ o.us.length:=hg.out
   rw [lvK_all] at hp2
   rw [hp2] at hQ
   refine AW_le (t:=⟨sB m l i o.us.length (pre.length + 1),bJ m pre lf⟩) (by simp [iO]) ?_
   refine wb_close ?_
   clear h hB hg hll hp2
   have z'1:=@encO.eq_1;exact ga0
theorem avList {P : Program} {α : Type} (enc : α → AV) (ok : α → Prop) {n : Nat} {t e : TypeId} {cs : List AV} (ht : P.underlying t = some (.slice e)) (hel : ∀ cs',ShapeC P n e cs' → ∃ a,mkAV P e cs' = enc a ∧ ok a) (h : ShapeC P (n + 1) t cs) :
 ∃ l : List α,cs = [.sl (P.cellsOf e) (l.map enc)] ∧ (∀ a ∈ l,ok a) ∧ l.length ≤ maxLen:=by
 rw [ShapeC,ht] at h
 obtain ⟨xs,rfl,hl,hx⟩:=h
 have key : ∀ xs : List AV,(∀ x ∈ xs,∃ cs',ShapeC P n e cs' ∧ x = (if aggB P e then .st cs' else cs'.headD .u)) → ∃ l : List α,xs = l.map enc ∧ ∀ a ∈ l,ok a:=by
  intro xs
  induction xs with
  |nil=>intro _;exact ⟨[],rfl,by simp⟩
  |cons x xs ih =>
   intro h
   obtain ⟨l,rfl,hl⟩:=ih (fun y hy=>h y (List.mem_cons_of_mem _ hy))
   obtain ⟨cs',h1,h2⟩:=h x List.mem_cons_self
   obtain ⟨r,hr,hw⟩:=hel cs' h1
   refine ⟨r :: l,by rw [h2];simp only [List.map_cons];rw [← hr];rfl,?_⟩
   intro r' hr'
   rcases List.mem_cons.1 hr' with rfl|hr'
   ·exact hw
   ·exact hl r' hr'
 obtain ⟨l,rfl,hw⟩:=key xs hx
 exact ⟨l,rfl,hw,by simpa using hl⟩
theorem avK {n : Nat} {cs : List AV} (h : ShapeC Tryz.prog (n + 2) 229 cs) : ∃ e : Stp,mkAV Tryz.prog 229 cs = encK e ∧ StpB e:=by
 simp [ShapeC,ShapeF] at h
 obtain ⟨_,_,rfl,⟨a,rfl,ha⟩, -,h⟩:=h
 obtain ⟨_,_,rfl,⟨b,rfl,hb⟩, -,h⟩:=h
 obtain ⟨_,_,rfl,⟨c,rfl,hc⟩, -,h⟩:=h
 obtain ⟨_,_,rfl,⟨d,rfl,hd⟩, -,rfl⟩:=h
 refine ⟨⟨a.toNat,b.toNat,c.toNat,d.toNat⟩,?_,⟨by simp only;omega,by simp only;omega,by simp only;omega,by simp only;omega⟩⟩
 simp [mkAV,encK,Int.toNat_of_nonneg ha.1,Int.toNat_of_nonneg hb.1,Int.toNat_of_nonneg hc.1,Int.toNat_of_nonneg hd.1]
structure CarW (c : Car) : Prop where
 (t : c.t < 256) (x : c.x < 256) (y : c.y < 256)
 (st : ∀ e ∈ c.st,StpB e)
theorem avKs {n : Nat} {cs : List AV} (h : ShapeC Tryz.prog (n + 3) 172 cs) : ∃ l : List Stp,cs = [.sl 4 (l.map encK)] ∧ (∀ s ∈ l,StpB s) ∧ l.length ≤ 9223372036854775807:=by
 obtain ⟨l,rfl,h1,h2⟩:=avList encK StpB (by simp) (fun cs' h=>avK h) h
 exact ⟨l,by simp,h1,h2⟩
theorem avC {n : Nat} {cs : List AV} (h : ShapeC Tryz.prog (n + 4) 174 cs) : ∃ e : Car,mkAV Tryz.prog 174 cs = encC e ∧ CarW e:=by
 rw [ShapeC] at h
 simp only [Tryz.underlying174] at h
 simp only [ShapeF] at h
 obtain ⟨_,_,rfl,h1, -,h⟩:=h
 obtain ⟨_,_,rfl,h2, -,h⟩:=h
 obtain ⟨_,_,rfl,h3, -,h⟩:=h
 obtain ⟨_,_,rfl,h4, -,rfl⟩:=h
 simp [ShapeC] at h1 h2 h3
 obtain ⟨a,rfl,ha⟩:=h1
 obtain ⟨b,rfl,hb⟩:=h2
 obtain ⟨c,rfl,hc⟩:=h3
 obtain ⟨d,rfl,hd,_⟩:=avKs h4
 refine ⟨⟨a.toNat,b.toNat,c.toNat,d⟩,?_,⟨by simp only;omega,by simp only;omega,by simp only;omega,hd⟩⟩
 simp [mkAV,encC,Int.toNat_of_nonneg ha.1,Int.toNat_of_nonneg hb.1,Int.toNat_of_nonneg hc.1]
theorem avCs {n : Nat} {cs : List AV} (h : ShapeC Tryz.prog (n + 5) 22 cs) : ∃ l : List Car,cs = [.sl 4 (l.map encC)] ∧ (∀ s ∈ l,CarW s) ∧ l.length ≤ 9223372036854775807:=by
 obtain ⟨l,rfl,h1,h2⟩:=avList encC CarW (by simp) (fun cs' h=>avC h) h
 exact ⟨l,by simp,h1,h2⟩
theorem avG {n : Nat} {cs : List AV} (h : ShapeC Tryz.prog (n + 2) 346 cs) : ∃ e : Ara,mkAV Tryz.prog 346 cs = encG e ∧ True:=by
 simp [ShapeC,ShapeF] at h
 obtain ⟨_,_,rfl,⟨a,rfl,ha⟩, -,h⟩:=h
 obtain ⟨_,_,rfl,⟨b,rfl,hb⟩, -,h⟩:=h
 obtain ⟨_,_,rfl,⟨c,rfl,hc⟩, -,h⟩:=h
 obtain ⟨_,_,rfl,⟨d,rfl,hd⟩, -,h⟩:=h
 obtain ⟨_,_,rfl,⟨e,rfl,he⟩, -,h⟩:=h
 obtain ⟨_,_,rfl,⟨f,rfl,hf⟩, -,h⟩:=h
 obtain ⟨_,_,rfl,⟨g,rfl,hg⟩, -,h⟩:=h
 obtain ⟨_,_,rfl,⟨i,rfl,hi⟩, -,h⟩:=h
 obtain ⟨_,_,rfl,⟨j,rfl,hj⟩, -,rfl⟩:=h
 refine ⟨⟨a.toNat,b.toNat,c.toNat,d.toNat,e.toNat,f.toNat,g.toNat,i.toNat,j.toNat⟩,?_,trivial⟩
 simp [mkAV,encG,Int.toNat_of_nonneg ha.1,Int.toNat_of_nonneg hb.1,Int.toNat_of_nonneg hc.1,Int.toNat_of_nonneg hd.1,Int.toNat_of_nonneg he.1,Int.toNat_of_nonneg hf.1,Int.toNat_of_nonneg hg.1,Int.toNat_of_nonneg hi.1,Int.toNat_of_nonneg hj.1]
theorem avGs {n : Nat} {cs : List AV} (h : ShapeC Tryz.prog (n + 3) 23 cs) : ∃ l : List Ara,cs = [.sl 9 (l.map encG)]:=by
 obtain ⟨l,rfl,h1,h2⟩:=avList encG (fun _=>True) (by simp) (fun cs' h=>avG h) h
 exact ⟨l,by simp⟩
theorem avW {n : Nat} {cs : List AV} (h : ShapeC Tryz.prog (n + 6) 25 cs) : ∃ f : Flt,mkAV Tryz.prog 25 cs = encW f ∧ (∀ c ∈ f.cars,CarW c) ∧ f.cars.length ≤ 9223372036854775807:=by
 rw [ShapeC] at h
 simp only [Tryz.underlying25] at h
 simp only [ShapeF] at h
 obtain ⟨_,_,rfl,h1, -,h⟩:=h
 obtain ⟨_,_,rfl,h2, -,rfl⟩:=h
 obtain ⟨c,rfl,hc,hl⟩:=avCs h1
 obtain ⟨g,rfl⟩:=avGs h2
 exact ⟨⟨c,g⟩,by simp [mkAV];rfl,hc,hl⟩
end Go.Proofs.YtfkgaphfdpflmaaGreatDoor
