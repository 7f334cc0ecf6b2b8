/- ManifestReplays: for any steps and any string the law hands back true -/
import Derived.Test.YtbibemijcdkjhaaGreatDoorZA
import Derived.Test.YtbibemijcdkjhaaGreatDoorZK
import Derived.Test.YtbibemijcdkjhaaGreatDoorZL
import Derived.Test.YtbibemijcdkjhaaGreatDoorTie
import Derived.Test.YtbibemijcdkjhaaGreatDoorCards
set_option maxRecDepth 100000
set_option linter.unusedSimpArgs false
set_option linter.unusedVariables false
namespace Go.Proofs.YtbibemijcdkjhaaGreatDoor
open Go.Am Go.RowKit Go.ChangeShapes Go.WideShapes Go.ChangeAt Go.Num Kn
theorem ownK : ownKnob Tryz.prog.godebug = none:=by kernel_rfl
theorem laidK : laidOutB Tryz.prog = true:=by kernel_rfl
namespace L9
theorem edOK_of {e : Ed} (h1 : e.rem.length ≤ 100) (h2 : e.add.length ≤ 100) : EdOK e:=⟨h1,h2⟩
theorem enc_ok {e : Ed} (hI : ∀ x ∈ numsE e,I62 x) (h1 : e.rem.length ≤ 100) (h2 : e.add.length ≤ 100) : (encB e).length ≤ 1000000 ∧ EdOK (decS (encB e)).1:=by
 have h3:=lns_len (l:=numsE e) (fun n hn=>by have:=hI n hn;constructor <;> omega)
 have h4:=numsE_len e
 refine ⟨by unfold encB;omega,?_⟩
 unfold encB
 rw [decS_enc e hI]
 exact ⟨h1,h2⟩
theorem bad_ok {t : List UInt8} (ht : t.length ≤ 50) : EdOK (decS t).1:=by
 by_cases hc : (decS t).2 = 0
 ·have h1:=(decS_ok hc).1
  have h2:=lns_ge (numsE (decS t).1)
  have h3:=numsE_len (decS t).1
  rw [h1] at h2
  exact ⟨by omega,by omega⟩
 ·have : (decS t).1 = ed0:=by
   unfold decS at hc ⊢
   cases hn : numsOf t with
   |none=>rfl
   |some l =>
    rw [hn] at hc
    exact decN_bad (l:=l) (e:=(decN l).1) (c:=(decN l).2) rfl hc
  rw [this]
  exact ⟨by simp [ed0],by simp [ed0]⟩
theorem repl_last (m : Sh) (j : Nat) (t : List UInt8) : ((decS t).2 ≠ 0 ∧ replA (replGo m j [t]) = .tup [nilP,iA j,iA (decS t).2]) ∨ ((decS t).2 = 0 ∧ chkE m (decS t).1 ≠ 0 ∧ replA (replGo m j [t]) = .tup [nilP,iA j,iA (chkE m (decS t).1)]) ∨
 ((decS t).2 = 0 ∧ chkE m (decS t).1 = 0 ∧ ∃ m',replA (replGo m j [t]) = .tup [.ep (encM m'),iA ((j : Int) + 1),iA 0]):=by
 have e1 : replGo m j [t] = if (decS t).2 ≠ 0 then (m,j,(decS t).2) else if chkE m (decS t).1 ≠ 0 then (m,j,chkE m (decS t).1) else (appE m (decS t).1,j + 1,0):=rfl
 by_cases g1 : (decS t).2 = 0
 ·rw [if_neg (by simp [g1])] at e1
  by_cases g2 : chkE m (decS t).1 = 0
  ·rw [if_neg (by simp [g2])] at e1
   exact .inr (.inr ⟨g1,g2,_,by rw [e1,replA_ok];rfl⟩)
  ·rw [if_pos g2] at e1
   exact .inr (.inl ⟨g1,g2,by rw [e1,replA_bad g2]⟩)
 ·rw [if_pos g1] at e1
  exact .inl ⟨g1,by rw [e1,replA_bad g1]⟩
set_option maxHeartbeats 8000000 in
theorem law (l : List Stp) (hl : ∀ x ∈ l,StpOK x) (hll : l.length ≤ 9223372036854775807) (s : List UInt8) (hsl : s.length ≤ 9223372036854775807) : PSpecL Tryz.prog LW 7 [.sl 10 (l.map encX),strB s] (bA true):=by
 have hkn:=Hld.mk s_known
 obtain ⟨t,ht⟩ : ∃ t,t = s.take 50:=⟨_,rfl⟩
 have htl : t.length ≤ 50:=by rw [ht];simp;omega
 have hx1 : Hld (50 ≤ s.length → (ByteArray.mk s.toArray).extract 0 50 = ⟨t.toArray⟩):=⟨fun _=>by rw [extract_mk,ht];simp⟩
 have hx2 : Hld (s.length ≤ 50 → (ByteArray.mk s.toArray).extract 0 s.length = ⟨t.toArray⟩):=⟨fun h=>by rw [extract_mk,ht,List.take_of_length_le h,List.take_of_length_le (Nat.le_refl _)];simp⟩
 clear ht
 obtain ⟨i0,hi0⟩ : ∃ i0,i0 = min l.length 24:=⟨_,rfl⟩
 have hi24 : i0 ≤ 24:=by omega
 have hrun:=Hld.mk (m_run l hl hll)
 rw [← hi0] at hrun
 clear hi0
 have hsn:=run_sn l i0 hi24
 have hrep:=run_repl l i0 hi24
 have hed:=run_edits l i0 hi24
 have hdl:=run_len l i0
 generalize (runS l i0).2 = d at *
 generalize (runS l i0).1 = m at *
 obtain ⟨hsr,hse⟩:=snap_repl hsn hi24
 have hsnap:=Hld.mk (s_snap m i0 hsn hi24)
 have hsel : (snapE m).length = m.lists.length:=by
  have:=hsn.inv.wf.ne
  unfold snapE
  rw [snapG_len]
  omega
 have hml:=hsn.inv.len
 have hag:=Hld.mk (s_agrees m hsn.inv.wf)
 have hr1:=s_replay (d.map encB) (by simp;omega) (fun x hx=>by
  obtain ⟨e,he,rfl⟩:=List.mem_map.1 hx
  obtain ⟨h1,h2,h3⟩:=hed e he
  exact enc_ok h1 (by omega) (by omega))
 rw [hrep,replA_ok] at hr1
 have hr2:=s_replay ((snapE m).map encB) (by simp;omega) (fun x hx=>by
  obtain ⟨e,he,rfl⟩:=List.mem_map.1 hx
  obtain ⟨h1,h2,h3⟩:=hse e he
  exact enc_ok h1 (by omega) (by omega))
 rw [hsr,replA_ok] at hr2
 have hr3:=s_replay (d.map encB ++ [t]) (by simp;omega) (fun x hx=>by
  rcases List.mem_append.1 hx with hx|hx
  ·obtain ⟨e,he,rfl⟩:=List.mem_map.1 hx
   obtain ⟨h1,h2,h3⟩:=hed e he
   exact enc_ok h1 (by omega) (by omega)
  ·obtain rfl:=List.mem_singleton.1 hx
   exact ⟨by omega,bad_ok htl⟩)
 rw [repl_app hrep] at hr3
 have hmd:=Hld.mk (s_mdec t (by omega))
 unfold resA at hmd
 have hck:=Hld.mk (s_scheck m (decS t).1 hsn.inv (bad_ok htl))
 have h3:=repl_last m d.length t
 generalize replA (replGo m d.length [t]) = R3 at *
 clear hrep hsr
 generalize (decS t).1 = x at *
 generalize (decS t).2 = gg at *
 generalize chkE m x = c at *
 have hen1 : Hld (∀ e ∈ d,PSpecL Tryz.prog LW 16 [encE e] (strB (encB e))):=⟨fun e he=>by
  obtain ⟨h1,h2,h3⟩:=hed e he
  exact s_encodeL e (by omega) (by omega) (fun n hn=>by have:=h1 n hn;constructor <;> omega)⟩
 have hen2 : Hld (∀ e ∈ snapE m,PSpecL Tryz.prog LW 16 [encE e] (strB (encB e))):=⟨fun e he=>by
  obtain ⟨h1,h2,h3⟩:=hse e he
  exact s_encodeL e (by omega) (by omega) (fun n hn=>by have:=h1 n hn;constructor <;> omega)⟩
 clear hed hse hsn
 generalize snapE m = sn at *
 replace hr1:=Hld.mk hr1
 replace hr2:=Hld.mk hr2
 replace hr3:=Hld.mk hr3
 have key : ∀ d : List Ed,∃ F : Nat → List (List UInt8),F 0 = [] ∧ (∀ i (h : i < d.length),F (i + 1) = F i ++ [encB d[i]]) ∧ F d.length = d.map encB ∧ ∀ i,i ≤ d.length → (F i).length = i:=fun d =>
  ⟨fun i=>(d.take i).map encB,rfl,fun i h=>by simp only [List.take_succ_eq_append_getElem h,List.map_append];rfl,by simp only [List.take_length],fun i h=>by simp;omega⟩
 obtain ⟨F,f0,fs,fe,fl⟩:=key d
 obtain ⟨G,g0,gs,ge,gl⟩:=key sn
 rw [← fe] at hr1 hr3
 rw [← ge] at hr2
 clear key fe ge
 replace fs:=Hld.mk fs
 replace fl:=Hld.mk fl
 replace gs:=Hld.mk gs
 replace gl:=Hld.mk gl
 replace hsel:=Hld.mk hsel
 replace h3:=Hld.mk h3
 refine PSpecL_of stays_LW Tryz.func7 rfl rfl (Nat.le_of_ble_eq_true rfl) (Nat.le_of_ble_eq_true rfl) ?_
 intro E hE hLd
 refine AW_seqt ⟨[(0,.sl 10 (l.map encX)),(1,strB s)],[]⟩ ?_ (by
  intro K hK
  repeat' (first
   |(with_reducible first|refine uK ?_|refine uX ?_|refine jq fun K hK=>?_|refine jb ?_)|((with_reducible first|refine rS hE ?_|refine jn ?_|refine js fun K' hK'=>?_|refine ji fun X Y hX hY=>?_|refine jr ?_|refine jk ?_|refine jx ?_);simp [*])|with_reducible refine rL hE ?_|with_reducible refine And.intro ?_ ?_|omega|(refine imp1 fun h=>?_))
  all_goals simp)
 refine AW_seqt ⟨[(5,.loc 911 0),(6,.loc 6 0),(7,.own 915 5 0 d.length),(8,bA true),(1,strB s)],[(6,.box 26 (encH m)),(911,rnM m 912),(912,mrowC m.lists),(915,rnE d)]⟩ ?_ (by
  intro K hK
  repeat' (first
   |(with_reducible first|refine uK ?_|refine uX ?_|refine jq fun K hK=>?_|refine jb ?_)|((with_reducible first|refine rS hE ?_|refine jn ?_|refine js fun K' hK'=>?_|refine ji fun X Y hX hY=>?_|refine jr ?_|refine jk ?_|refine jx ?_);simp [*])|with_reducible refine rL hE ?_|with_reducible refine And.intro ?_ ?_|omega|(refine imp1 fun h=>?_))
  refine acall_boxes hrun.out (nm []) (nm [(901,911),(902,912),(905,915)]) [(901,rnM m 902),(902,mrowC m.lists),(905,rnE d)] (.tup [.loc 901 0,encH m,.own 905 5 0 d.length,bA true]) (by
   rintro res bf ⟨rfl,h1,h2,h3⟩
   refine ⟨rfl,?_⟩
   simp
   exact ⟨h1,h2,h3⟩) (by simp) (by simp) (by simp) (by simp) (by simp) (by simp) (by simp) ?_
  simp
  repeat' (first
   |(with_reducible first|refine uK ?_|refine uQ ?_|refine uX ?_|refine jq fun K hK=>?_|refine jb ?_)|(with_reducible refine rS hE ?_;simp [*])|with_reducible refine rL hE ?_|(((with_reducible show RK _ _ _ _ _ _);first|refine jn ?_|refine js fun K' hK'=>?_);simp [*])|with_reducible refine rD mixed hE ?_|((with_reducible show RKQ _ _ _ _ _ _);first|refine RKQ_nilk ⟨by decide,?_⟩|(refine jv fun K' hK'=>?_;simp [*]))|((with_reducible first|refine ji fun X Y hX hY=>?_|refine jr ?_|refine jk ?_|refine jx ?_);simp [*])|with_reducible refine And.intro ?_ ?_|omega|(refine imp1 fun h=>?_))
  all_goals simp)
 refine AW_seqt ⟨[(5,.loc 911 0),(6,.loc 6 0),(7,.own 915 5 0 d.length),(1,strB s)],[(6,.box 26 (encH m)),(911,rnM m 912),(912,mrowC m.lists),(915,rnE d)]⟩ ?_ (by
  intro K hK
  repeat' (first
   |(with_reducible first|refine uK ?_|refine uX ?_|refine jq fun K hK=>?_|refine jb ?_)|((with_reducible first|refine rS hE ?_|refine jn ?_|refine js fun K' hK'=>?_|refine ji fun X Y hX hY=>?_|refine jr ?_|refine jk ?_|refine jx ?_);simp [*])|with_reducible refine rL hE ?_|(refine jC (hkn.out) ?_ ?_ ?_;(iterate 2 focus (simp [*] <;> fail));simp [*])|with_reducible refine And.intro ?_ ?_|omega|(refine imp1 fun h=>?_))
  all_goals simp)
 refine AW_freezeD 912 (cb:=mrowC m.lists) (t:=⟨[(5,.loc 911 0),(6,.loc 6 0),(7,.own 915 5 0 d.length),(1,strB s)],[(6,.box 26 (encH m)),(911,.box 72 (encM m)),(915,rnE d)]⟩) (by simp) (by simp) (by
  simp
  refine ⟨fr_same (by simp),?_⟩
  intro j a b ha hb
  rcases j with _|_|_|j <;> simp at ha hb <;> subst ha <;> subst hb <;> simp) ?_
 refine AW_freeze 911 (cb:=.box 72 (encM m)) (t:=⟨[(5,.ep (encM m)),(6,.loc 6 0),(7,.own 915 5 0 d.length),(1,strB s)],[(6,.box 26 (encH m)),(915,rnE d)]⟩) (by simp) (by simp) (by simp) ?_
 refine AW_freeze 6 (cb:=.box 26 (encH m)) (t:=⟨[(5,.ep (encM m)),(6,.ep (encH m)),(7,.own 915 5 0 d.length),(1,strB s)],[(915,rnE d)]⟩) (by simp) (by simp) (by simp) ?_
 refine AW_freeze 915 (cb:=rnE d) (t:=⟨[(5,.ep (encM m)),(6,.ep (encH m)),(7,.sl 5 (d.map encE)),(1,strB s)],[]⟩) (by simp) (by simp) (by simp) ?_
 clear hrun hkn
 refine AW_seqt ⟨[(9,.v (.slice none 0 0)),(10,.v (.slice none 0 0)),(5,.ep (encM m)),(6,.ep (encH m)),(7,.sl 5 (d.map encE)),(1,strB s)],[]⟩ ?_ (by
  intro K hK
  repeat' (first
   |(with_reducible first|refine uK ?_|refine uX ?_|refine jq fun K hK=>?_|refine jb ?_)|((with_reducible first|refine rS hE ?_|refine jn ?_|refine js fun K' hK'=>?_|refine ji fun X Y hX hY=>?_|refine jr ?_|refine jk ?_|refine jx ?_);simp [*])|with_reducible refine rL hE ?_|with_reducible refine And.intro ?_ ?_|omega|(refine imp1 fun h=>?_))
  all_goals simp)
 refine AW_mkrow 9 921 9 1 rfl (by simp) (by simp) (by omega) ?_
 refine AW_seqt ⟨[(9,.own 921 1 0 (F d.length).length),(10,.v (.slice none 0 0)),(5,.ep (encM m)),(6,.ep (encH m)),(7,.sl 5 (d.map encE)),(1,strB s)],[(921,.arr 9 1 ((F d.length).map fun s=>strB s))]⟩ ?_ ?_
 rotate_left
 ·intro K0 hK0
  repeat' (first
   |(with_reducible first|refine uK ?_|refine uX ?_|refine jq fun K hK=>?_|refine jb ?_)|((with_reducible first|refine rS hE ?_|refine jn ?_|refine js fun K' hK'=>?_|refine ji fun X Y hX hY=>?_|refine jr ?_|refine jk ?_|refine jx ?_);simp [*])|with_reducible refine rL hE ?_|with_reducible refine And.intro ?_ ?_|omega|(refine imp1 fun h=>?_))
  refine AW_loopk (G:=Nat) (fun i=>⟨[(11,iA i),(9,.own 921 1 0 (F i).length),(10,.v (.slice none 0 0)),(5,.ep (encM m)),(6,.ep (encH m)),(7,.sl 5 (d.map encE)),(1,strB s)],[(921,.arr 9 1 ((F i).map fun s=>strB s))]⟩)
   (fun i=>i ≤ d.length) (fun i=>d.length - i) 0 (by omega) (by simp [f0]) ?_
  intro i hi K hK
  have hfl:=fl.out i hi
  have hf2 : (F i).length ≤ 100:=by omega
  by_cases hlt : i < d.length
  ·have hfs:=fs.out i hlt
   have he:=Hld.mk (hen1.out d[i] (List.getElem_mem hlt))
   have htk : List.take ((F i).length + 1) (List.map (fun s=>strB s) (F i) ++ [strB (encB d[i])]) = List.map (fun s=>strB s) (F i) ++ [strB (encB d[i])]:=List.take_of_length_le (by simp)
   generalize encB d[i] = bb at *
   generalize hF1 : F (i + 1) = F1 at *
   clear f0
   replace hfl:=Hld.mk hfl
   generalize F i = F0 at *
   subst hfs
   replace hF1:=Hld.mk hF1
   repeat' (first
    |(with_reducible first|refine uK ?_|refine uX ?_|refine jq fun K hK=>?_|refine jb ?_)|((with_reducible first|refine rS hE ?_|refine jn ?_|refine js fun K' hK'=>?_|refine ji fun X Y hX hY=>?_|refine jr ?_|refine jk ?_|refine jx ?_);simp [*])|with_reducible refine rL hE ?_|(refine acall_sameL hLd (he.out) ?_ ?_ ?_;(iterate 2 focus (simp [*] <;> fail));simp [*])|with_reducible refine And.intro ?_ ?_|omega|(refine imp1 fun h=>?_))
   all_goals exact ⟨i + 1,by omega,by omega,by simp [hF1.out]⟩
  ·have hil : i = d.length:=by omega
   subst hil
   generalize F d.length = F0 at *
   clear f0 hfl
   repeat' (first
    |(with_reducible first|refine uK ?_|refine uX ?_|refine jq fun K hK=>?_|refine jb ?_)|((with_reducible first|refine rS hE ?_|refine jn ?_|refine js fun K' hK'=>?_|refine ji fun X Y hX hY=>?_|refine jr ?_|refine jk ?_|refine jx ?_);simp [*])|with_reducible refine rL hE ?_|with_reducible refine And.intro ?_ ?_|omega|(refine imp1 fun h=>?_))
   all_goals simp
 clear f0 fs
 have hfd:=fl.out d.length (Nat.le_refl _)
 clear fl hen1
 generalize F d.length = F1 at *
 refine AW_freeze 921 (cb:=.arr 9 1 (F1.map fun s=>strB s)) (t:=⟨[(9,.sl 1 (F1.map fun s=>strB s)),(10,.v (.slice none 0 0)),(5,.ep (encM m)),(6,.ep (encH m)),(7,.sl 5 (d.map encE)),(1,strB s)],[]⟩) (by simp) (by simp) (by simp) ?_
 refine AW_seqt ⟨[(12,.ep (encM m)),(13,iA d.length),(14,iA 0),(9,.sl 1 (F1.map fun s=>strB s)),(10,.v (.slice none 0 0)),(5,.ep (encM m)),(6,.ep (encH m)),(1,strB s)],[]⟩ ?_ (by
  intro K hK
  repeat' (first
   |(with_reducible first|refine uK ?_|refine uX ?_|refine jq fun K hK=>?_|refine jb ?_)|((with_reducible first|refine rS hE ?_|refine jn ?_|refine js fun K' hK'=>?_|refine ji fun X Y hX hY=>?_|refine jr ?_|refine jk ?_|refine jx ?_);simp [*])|with_reducible refine rL hE ?_|(refine acall_sameL hLd (hr1.out) ?_ ?_ ?_;(iterate 2 focus (simp [*] <;> fail));simp [*])|with_reducible refine And.intro ?_ ?_|omega|(refine imp1 fun h=>?_))
  all_goals simp)
 clear hr1
 refine AW_seqt ⟨[(15,.sl 5 (sn.map encE)),(12,.ep (encM m)),(13,iA d.length),(14,iA 0),(9,.sl 1 (F1.map fun s=>strB s)),(10,.v (.slice none 0 0)),(6,.ep (encH m)),(1,strB s)],[]⟩ ?_ (by
  intro K hK
  repeat' (first
   |(with_reducible first|refine uK ?_|refine uX ?_|refine jq fun K hK=>?_|refine jb ?_)|((with_reducible first|refine rS hE ?_|refine jn ?_|refine js fun K' hK'=>?_|refine ji fun X Y hX hY=>?_|refine jr ?_|refine jk ?_|refine jx ?_);simp [*])|with_reducible refine rL hE ?_|(refine jC (hsnap.out) ?_ ?_ ?_;(iterate 2 focus (simp [*] <;> fail));simp [*])|with_reducible refine And.intro ?_ ?_|omega|(refine imp1 fun h=>?_))
  all_goals simp)
 clear hsnap
 refine AW_mkrow 10 922 9 1 rfl (by simp) (by simp) (by omega) ?_
 refine AW_seqt ⟨[(10,.own 922 1 0 (G sn.length).length),(15,.sl 5 (sn.map encE)),(12,.ep (encM m)),(13,iA d.length),(14,iA 0),(9,.sl 1 (F1.map fun s=>strB s)),(6,.ep (encH m)),(1,strB s)],[(922,.arr 9 1 ((G sn.length).map fun s=>strB s))]⟩ ?_ ?_
 rotate_left
 ·intro K0 hK0
  have hsl2 : sn.length ≤ 256:=by have:=hsel.out;omega
  repeat' (first
   |(with_reducible first|refine uK ?_|refine uX ?_|refine jq fun K hK=>?_|refine jb ?_)|((with_reducible first|refine rS hE ?_|refine jn ?_|refine js fun K' hK'=>?_|refine ji fun X Y hX hY=>?_|refine jr ?_|refine jk ?_|refine jx ?_);simp [*])|with_reducible refine rL hE ?_|with_reducible refine And.intro ?_ ?_|omega|(refine imp1 fun h=>?_))
  refine AW_loopk (G:=Nat) (fun i=>⟨[(16,iA i),(10,.own 922 1 0 (G i).length),(15,.sl 5 (sn.map encE)),(12,.ep (encM m)),(13,iA d.length),(14,iA 0),(9,.sl 1 (F1.map fun s=>strB s)),(6,.ep (encH m)),(1,strB s)],[(922,.arr 9 1 ((G i).map fun s=>strB s))]⟩)
   (fun i=>i ≤ sn.length) (fun i=>sn.length - i) 0 (by omega) (by simp [g0]) ?_
  intro i hi K hK
  have hgl:=gl.out i hi
  have hg2 : (G i).length ≤ 256:=by omega
  by_cases hlt : i < sn.length
  ·have hgs:=gs.out i hlt
   have he:=Hld.mk (hen2.out sn[i] (List.getElem_mem hlt))
   have htk : List.take ((G i).length + 1) (List.map (fun s=>strB s) (G i) ++ [strB (encB sn[i])]) = List.map (fun s=>strB s) (G i) ++ [strB (encB sn[i])]:=List.take_of_length_le (by simp)
   generalize encB sn[i] = bb at *
   generalize hG1 : G (i + 1) = G1 at *
   clear g0
   replace hgl:=Hld.mk hgl
   generalize G i = G0 at *
   subst hgs
   replace hG1:=Hld.mk hG1
   repeat' (first
    |(with_reducible first|refine uK ?_|refine uX ?_|refine jq fun K hK=>?_|refine jb ?_)|((with_reducible first|refine rS hE ?_|refine jn ?_|refine js fun K' hK'=>?_|refine ji fun X Y hX hY=>?_|refine jr ?_|refine jk ?_|refine jx ?_);simp [*])|with_reducible refine rL hE ?_|(refine acall_sameL hLd (he.out) ?_ ?_ ?_;(iterate 2 focus (simp [*] <;> fail));simp [*])|with_reducible refine And.intro ?_ ?_|omega|(refine imp1 fun h=>?_))
   all_goals exact ⟨i + 1,by omega,by omega,by simp [hG1.out]⟩
  ·have hil : i = sn.length:=by omega
   subst hil
   generalize G sn.length = G0 at *
   clear g0 hgl
   repeat' (first
    |(with_reducible first|refine uK ?_|refine uX ?_|refine jq fun K hK=>?_|refine jb ?_)|((with_reducible first|refine rS hE ?_|refine jn ?_|refine js fun K' hK'=>?_|refine ji fun X Y hX hY=>?_|refine jr ?_|refine jk ?_|refine jx ?_);simp [*])|with_reducible refine rL hE ?_|with_reducible refine And.intro ?_ ?_|omega|(refine imp1 fun h=>?_))
   all_goals simp
 clear g0 gs gl hen2
 generalize G sn.length = G1 at *
 refine AW_freeze 922 (cb:=.arr 9 1 (G1.map fun s=>strB s)) (t:=⟨[(10,.sl 1 (G1.map fun s=>strB s)),(15,.sl 5 (sn.map encE)),(12,.ep (encM m)),(13,iA d.length),(14,iA 0),(9,.sl 1 (F1.map fun s=>strB s)),(6,.ep (encH m)),(1,strB s)],[]⟩) (by simp) (by simp) (by simp) ?_
 refine AW_seqt ⟨[(17,.ep (encM m)),(18,iA m.lists.length),(19,iA 0),(15,.sl 5 (sn.map encE)),(12,.ep (encM m)),(13,iA d.length),(14,iA 0),(9,.sl 1 (F1.map fun s=>strB s)),(6,.ep (encH m)),(1,strB s)],[]⟩ ?_ (by
  intro K hK
  repeat' (first
   |(with_reducible first|refine uK ?_|refine uX ?_|refine jq fun K hK=>?_|refine jb ?_)|((with_reducible first|refine rS hE ?_|refine jn ?_|refine js fun K' hK'=>?_|refine ji fun X Y hX hY=>?_|refine jr ?_|refine jk ?_|refine jx ?_);simp [*])|with_reducible refine rL hE ?_|(refine acall_sameL hLd (hr2.out) ?_ ?_ ?_;(iterate 2 focus (simp [*] <;> fail));simp [*])|with_reducible refine And.intro ?_ ?_|omega|(refine imp1 fun h=>?_))
  all_goals simp)
 clear hr2
 refine AW_seqt ⟨[(9,.sl 1 (F1.map fun s=>strB s)),(6,.ep (encH m)),(1,strB s)],[]⟩ ?_ (by
  intro K hK
  have e1 : (sn.length : Int) = (m.lists.length : Int):=by have:=hsel.out;omega
  have e2 : (F1.length : Int) = (d.length : Int):=by omega
  repeat' (first
   |(with_reducible first|refine uK ?_|refine uX ?_|refine jq fun K hK=>?_|refine jb ?_)|((with_reducible first|refine rS hE ?_|refine jn ?_|refine js fun K' hK'=>?_|refine ji fun X Y hX hY=>?_|refine jr ?_|refine jk ?_|refine jx ?_);simp [*])|with_reducible refine rL hE ?_|(refine jC (hag.out) ?_ ?_ ?_;(iterate 2 focus (simp [*] <;> fail));simp [*])|with_reducible refine And.intro ?_ ?_|omega|(refine imp1 fun h=>?_))
  all_goals simp)
 clear hag hsel
 refine AW_seqt ⟨[(9,.sl 1 (F1.map fun s=>strB s)),(6,.ep (encH m)),(1,strB t)],[]⟩ ?_ (by
  intro K hK
  by_cases h3 : 50 ≤ s.length
  ·have hx:=hx1.out h3
   have hmin : min (s.length : Int) 50 = 50:=by omega
   repeat' (first
    |(with_reducible first|refine uK ?_|refine uX ?_|refine jq fun K hK=>?_|refine jb ?_)|((with_reducible first|refine rS hE ?_|refine jn ?_|refine js fun K' hK'=>?_|refine ji fun X Y hX hY=>?_|refine jr ?_|refine jk ?_|refine jx ?_);simp [*])|with_reducible refine rL hE ?_|with_reducible refine And.intro ?_ ?_|omega|(refine imp1 fun h=>?_))
   all_goals simp
  ·have hx:=hx2.out (by omega)
   have hmin : min (s.length : Int) 50 = (s.length : Int):=by omega
   repeat' (first
    |(with_reducible first|refine uK ?_|refine uX ?_|refine jq fun K hK=>?_|refine jb ?_)|((with_reducible first|refine rS hE ?_|refine jn ?_|refine js fun K' hK'=>?_|refine ji fun X Y hX hY=>?_|refine jr ?_|refine jk ?_|refine jx ?_);simp [*])|with_reducible refine rL hE ?_|with_reducible refine And.intro ?_ ?_|omega|(refine imp1 fun h=>?_))
   all_goals simp)
 clear hx1 hx2
 refine AW_seqt ⟨[(20,.loc 20 0),(21,iA gg),(9,.sl 1 (F1.map fun s=>strB s)),(6,.ep (encH m)),(1,strB t)],[(20,.box 36 (encE x))]⟩ ?_ (by
  intro K hK
  repeat' (first
   |(with_reducible first|refine uK ?_|refine uX ?_|refine jq fun K hK=>?_|refine jb ?_)|((with_reducible first|refine rS hE ?_|refine jn ?_|refine js fun K' hK'=>?_|refine ji fun X Y hX hY=>?_|refine jr ?_|refine jk ?_|refine jx ?_);simp [*])|with_reducible refine rL hE ?_|(refine jC (hmd.out) ?_ ?_ ?_;(iterate 2 focus (simp [*] <;> fail));simp [*])|with_reducible refine And.intro ?_ ?_|omega|(refine imp1 fun h=>?_))
  all_goals simp)
 refine AW_freeze 20 (cb:=.box 36 (encE x)) (t:=⟨[(20,.ep (encE x)),(21,iA gg),(9,.sl 1 (F1.map fun s=>strB s)),(6,.ep (encH m)),(1,strB t)],[]⟩) (by simp) (by simp) (by simp) ?_
 refine AW_seqt ⟨[(21,iA (if gg = 0 then c else gg)),(9,.sl 1 (F1.map fun s=>strB s)),(6,.ep (encH m)),(1,strB t)],[]⟩ ?_ (by
  intro K hK
  by_cases hg : gg = 0
  ·subst hg
   repeat' (first
    |(with_reducible first|refine uK ?_|refine uX ?_|refine jq fun K hK=>?_|refine jb ?_)|((with_reducible first|refine rS hE ?_|refine jn ?_|refine js fun K' hK'=>?_|refine ji fun X Y hX hY=>?_|refine jr ?_|refine jk ?_|refine jx ?_);simp [*])|with_reducible refine rL hE ?_|(refine jC (hck.out) ?_ ?_ ?_;(iterate 2 focus (simp [*] <;> fail));simp [*])|with_reducible refine And.intro ?_ ?_|omega|(refine imp1 fun h=>?_))
   all_goals simp
  ·repeat' (first
    |(with_reducible first|refine uK ?_|refine uX ?_|refine jq fun K hK=>?_|refine jb ?_)|((with_reducible first|refine rS hE ?_|refine jn ?_|refine js fun K' hK'=>?_|refine ji fun X Y hX hY=>?_|refine jr ?_|refine jk ?_|refine jx ?_);simp [*])|with_reducible refine rL hE ?_|with_reducible refine And.intro ?_ ?_|omega|(refine imp1 fun h=>?_))
   all_goals simp [hg])
 clear hck hmd
 have h4:=h3.out
 rw [← hfd] at h4
 have hF2 : F1.length ≤ 100:=by omega
 clear h3 hfd
 generalize hgc : (if gg = 0 then c else gg) = q
 have h5 : (q ≠ 0 ∧ R3 = .tup [nilP,iA F1.length,iA q]) ∨ (q = 0 ∧ ∃ m',R3 = .tup [.ep (encM m'),iA ((F1.length : Int) + 1),iA 0]):=by
  rcases h4 with ⟨g1,g2⟩|⟨g1,g2,g3⟩|⟨g1,g2,g3⟩
  ·rw [if_neg g1] at hgc
   exact .inl ⟨by omega,by rw [g2,hgc]⟩
  ·rw [if_pos g1] at hgc
   exact .inl ⟨by omega,by rw [g3,hgc]⟩
  ·rw [if_pos g1] at hgc
   exact .inr ⟨by omega,g3⟩
 clear h4 hgc
 have htk : List.take (F1.length + 1) (F1.map (fun s=>strB s) ++ [strB t]) = F1.map (fun s=>strB s) ++ [strB t]:=List.take_of_length_le (by simp)
 repeat' (first
  |(with_reducible first|refine uK ?_|refine uX ?_|refine jq fun K hK=>?_|refine jb ?_)|((with_reducible first|refine rS hE ?_|refine jn ?_|refine js fun K' hK'=>?_|refine ji fun X Y hX hY=>?_|refine jr ?_|refine jk ?_|refine jx ?_);simp [*])|with_reducible refine rL hE ?_|with_reducible refine And.intro ?_ ?_|omega|(refine imp1 fun h=>?_))
 refine ACall_freezeD 133 (cb:=.arr 9 1 (F1.map (fun s=>strB s) ++ [strB t])) (args':=[.sl 1 ((F1 ++ [t]).map fun s=>strB s)]) (t:=⟨[(9,.sl 1 (F1.map fun s=>strB s)),(21,iA q)],[]⟩) (by simp) (by simp) (by simp) (by simp [fr2,htk]) ?_
 rcases h5 with ⟨g1,rfl⟩|⟨rfl,m',rfl⟩
 ·refine acall_sameL hLd hr3.out (by simp) (by simp) ?_
  simp
  repeat' (first
   |(with_reducible first|refine uK ?_|refine uX ?_|refine jq fun K hK=>?_|refine jb ?_)|((with_reducible first|refine rS hE ?_|refine jn ?_|refine js fun K' hK'=>?_|refine ji fun X Y hX hY=>?_|refine jr ?_|refine jk ?_|refine jx ?_);simp [*])|with_reducible refine rL hE ?_|with_reducible refine And.intro ?_ ?_|omega|(refine imp1 fun h=>?_))
 ·refine acall_sameL hLd hr3.out (by simp) (by simp) ?_
  simp
  repeat' (first
   |(with_reducible first|refine uK ?_|refine uX ?_|refine jq fun K hK=>?_|refine jb ?_)|((with_reducible first|refine rS hE ?_|refine jn ?_|refine js fun K' hK'=>?_|refine ji fun X Y hX hY=>?_|refine jr ?_|refine jk ?_|refine jx ?_);simp [*])|with_reducible refine rL hE ?_|with_reducible refine And.intro ?_ ?_|omega|(refine imp1 fun h=>?_))
theorem avStr {n : Nat} {cs : List AV} (h : ShapeC Tryz.prog (n + 1) 9 cs) : ∃ s : List UInt8,mkAV Tryz.prog 9 cs = strB s ∧ s.length ≤ 9223372036854775807:=by
 simp [ShapeC] at h
 obtain ⟨s,rfl,hs⟩:=h
 refine ⟨s.data.toList,?_,?_⟩
 ·simp [mkAV]
 ·simpa [maxLen] using hs
theorem spec (avs : List AV) (h : ShapeL Tryz.prog 6 Tryz.f7.params.toList avs) : PSpecL Tryz.prog LW 7 avs (.v (.bool true)):=by
 rw [Tryz.params7] at h
 obtain ⟨c1,r1,rfl,h1,c2,r2,rfl,h2,rfl⟩:=h
 obtain ⟨l,rfl,hl,hll⟩:=avXs h1
 obtain ⟨s,hs,hsl⟩:=avStr h2
 rw [hs,show mkAV Tryz.prog 22 [.sl 10 (l.map encX)] = .sl 10 (l.map encX) by simp [mkAV]]
 exact law l hl hll s hsl
theorem contract (H : Type) (enc : TypeId × Value → H) (W : World) (base : Nat) (args : Array Value) (ds gs : List (DataW H)) (before : List MemPlace)
 (hval : ∀ (j : Nat) t v,Tryz.f7.params[j]? = some t → args[j]? = some v → Value.okWide Tryz.prog W .any base t v)
 (hW : DataW.Whole enc Tryz.prog Tryz.f7.params.toList Rows.manifestReplaysSpec.vars false W args.toList ds gs before)
 (hX : laidMetH Tryz.prog laid5 W) : Calls Tryz.prog 7 args W fun e W'=>∃ v,e = .returned v ∧ Rows.manifestReplaysSpec.post enc Tryz.prog Tryz.f7 false true false false W args v W' :=
 law_contractL (LW_of hX) (m:=6) (tb:=4) spec (by rw [Tryz.params7];intro t ht;simp at ht;rcases ht with rfl|rfl <;> kernel_rfl) rfl laidK
  (by rw [Tryz.params7];intro t ht;simp at ht;rcases ht with rfl|rfl <;> exact ⟨by kernel_rfl,by decide +kernel⟩)
  (fun ds hd=>by
    rw [Tryz.params7] at hd
    match ds,hd with
    |[d1,d2],_=>rfl) (by kernel_rfl) Tryz.underlying4 hval hW
theorem lifted (os : Os) (started : os.Started) (H : Type) (enc : TypeId × Value → H) :
 ReturnsInHanded {} Tryz.checked os 7 .any (fun w args=>(Rows.manifestReplaysSpec.pre enc Tryz.prog Tryz.f7 [] false w args ∧ laidMetH Tryz.prog laid5 w) ∧ sizedMet enc Tryz.prog Tryz.f7 (OpenSpec.ofChange Rows.manifestReplaysSpec) false w args) (Rows.manifestReplaysSpec.post enc Tryz.prog Tryz.f7 false true false false):=by
 refine returnsInHanded_of_change_and (C:=Tryz.checked) (X:=fun w _=>laidMetH Tryz.prog laid5 w) (fun _ _ _ hh h=>h.of_heap hh) ownK started (by kernel_rfl) Tryz.func7
  (ChangeSpec.witness_shaped (enc:=enc) (C:=Tryz.checked) (os:=os) (X:=fun w _=>laidMetH Tryz.prog laid5 w) false (World.doorLaid Tryz.prog 400 os) #[.slice .none 0 0,.string ⟨#[]⟩] 8 rfl (World.shaped_of_RefB (by kernel_rfl) (by kernel_rfl)) (by kernel_rfl) (by kernel_rfl) (by kernel_rfl) (door_met5 os _)) ?_
 intro W base args ds gs before hval hW h1 h2 h3 h4
 exact contract H enc W base args ds gs before hval hW (by first|exact h1|exact h2|exact h3|exact h4|exact h1.2|exact h2.2|exact h3.2|exact h4.2)
theorem bare : Rows.ManifestReplaysSaid :=
 OpenClaim.holds_of_wide 7 Tryz.f7 rfl rfl rfl rfl rfl rfl rfl ⟨rfl,rfl,rfl,rfl,rfl⟩ rfl rfl rfl rfl rfl (by kernel_rfl) Tryz.func7 (by kernel_rfl)
  (of_decide_eq_true (by kernel_rfl)) (by unfold Func.isWrapper;first|(rw [if_pos (by decide +kernel)];kernel_rfl)|(rw [if_neg (by decide +kernel)];exact ⟨rfl,rfl⟩))
  (fun os started H enc _=>lifted os started H enc)
theorem said : Rows.ManifestReplaysCardSaid :=
 Claim7.holds_tied_plain_at .later [] [.data,.data,.data,.sentinel,.sentinel] true (true,"75ed40ecdae35fe39caa681945729e8be498e0e2caeb3fe34fea808459d7c1ae") true
  bare (fun _ h=>by cases h) (by kernel_rfl) (fun _ h=>by cases h) manifestReplays_row_tie rfl ⟨rfl,rfl⟩ (by kernel_rfl) rfl
  (fun f fn hf hfn=>by
    obtain rfl : f = 7:=Option.some.inj ((show Tryz.prog.funcNamed "viator/viatorlaw40.ManifestReplays" = some 7 by kernel_rfl).symm.trans hf) |>.symm
    obtain rfl : fn = Tryz.f7:=(Option.some.inj (Tryz.func7.symm.trans hfn)).symm
    exact ⟨by kernel_rfl,fun j t ht=>by
     rw [Tryz.params7] at ht
     have hm : t ∈ Tryz.f7.params.toList:=by rw [Tryz.params7];simpa using Array.mem_of_getElem? ht
     have hall : (Tryz.f7.params.toList.all fun u=>!Tryz.prog.wantsStandIn u) = true:=by kernel_rfl
     exact (show Tryz.prog.wantsStandIn t = false by simpa using List.all_eq_true.1 hall t hm)⟩)
  (by kernel_rfl)
end L9
end Go.Proofs.YtbibemijcdkjhaaGreatDoor
