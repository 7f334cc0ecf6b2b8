/- BundleBoxes: for any three boxes the law hands back true -/
import Derived.Test.YtfkgaphfdpflmaaGreatDoorZE
set_option maxRecDepth 100000
set_option linter.unusedSimpArgs false
set_option linter.unusedVariables false
namespace Go.Proofs.YtfkgaphfdpflmaaGreatDoor
open Go.Am Go.RowKit Go.ChangeShapes Go.WideShapes Go.ChangeAt
namespace L4
theorem mee_join {a b c : Bx} (h : meeX a c = true) : meeX (joiX a b) c = true:=by
 have h':=of_decide_eq_true h
 exact decide_eq_true ⟨⟨Int.le_trans (Int.min_le_left _ _) h'.1.1,Int.le_trans h'.1.2 (Int.le_max_left _ _)⟩,⟨Int.le_trans (Int.min_le_left _ _) h'.2.1.1,Int.le_trans h'.2.1.2 (Int.le_max_left _ _)⟩,⟨Int.le_trans (Int.min_le_left _ _) h'.2.2.1,Int.le_trans h'.2.2.2 (Int.le_max_left _ _)⟩⟩
theorem mee_self {a : Bx} (h : fulX a = true) : meeX a a = true:=by
 simp only [meeX,fulX,decide_eq_true_eq,Bool.and_eq_true] at *
 omega
set_option maxHeartbeats 4000000 in
theorem law (a b c : Bx) : PSpec Tryz.prog 4 [encX a,encX b,encX c] (bA true):=by
 have hk:=Hld.mk s_known
 have fa:=s_full a
 have fb:=s_full b
 have fc:=s_full c
 rcases hfa : fulX a with _|_
 ·rw [hfa] at fa
  clear hfa
  refine PSpec_of Tryz.func4 rfl rfl (Nat.le_of_ble_eq_true rfl) (Nat.le_of_ble_eq_true rfl) ?_
  intro E hE
  repeat' (first
   |(with_reducible first|refine uK ?_|refine uX ?_|refine jq fun K hK=>?_|refine jb ?_)|((with_reducible first|refine rS hE ?_|refine jn ?_|refine js fun K' hK'=>?_|refine ji fun X Y hX hY=>?_|refine jr ?_|refine jk ?_|refine jx ?_);simp [*])|with_reducible refine rL hE ?_|(refine jC (hk.out) ?_ ?_ ?_;(iterate 2 focus (simp [*] <;> fail));simp [*])|(refine jC (fa) ?_ ?_ ?_;(iterate 2 focus (simp [*] <;> fail));simp [*])|(refine jC (fb) ?_ ?_ ?_;(iterate 2 focus (simp [*] <;> fail));simp [*])|(refine jC (fc) ?_ ?_ ?_;(iterate 2 focus (simp [*] <;> fail));simp [*])|with_reducible refine And.intro ?_ ?_|omega|(refine imp1 fun h=>?_))
 ·rw [hfa] at fa
  rcases hfb : fulX b with _|_
  ·rw [hfb] at fb
   clear hfa hfb
   refine PSpec_of Tryz.func4 rfl rfl (Nat.le_of_ble_eq_true rfl) (Nat.le_of_ble_eq_true rfl) ?_
   intro E hE
   repeat' (first
    |(with_reducible first|refine uK ?_|refine uX ?_|refine jq fun K hK=>?_|refine jb ?_)|((with_reducible first|refine rS hE ?_|refine jn ?_|refine js fun K' hK'=>?_|refine ji fun X Y hX hY=>?_|refine jr ?_|refine jk ?_|refine jx ?_);simp [*])|with_reducible refine rL hE ?_|(refine jC (hk.out) ?_ ?_ ?_;(iterate 2 focus (simp [*] <;> fail));simp [*])|(refine jC (fa) ?_ ?_ ?_;(iterate 2 focus (simp [*] <;> fail));simp [*])|(refine jC (fb) ?_ ?_ ?_;(iterate 2 focus (simp [*] <;> fail));simp [*])|(refine jC (fc) ?_ ?_ ?_;(iterate 2 focus (simp [*] <;> fail));simp [*])|with_reducible refine And.intro ?_ ?_|omega|(refine imp1 fun h=>?_))
  ·rw [hfb] at fb
   rcases hfc : fulX c with _|_
   ·rw [hfc] at fc
    clear hfa hfb hfc
    refine PSpec_of Tryz.func4 rfl rfl (Nat.le_of_ble_eq_true rfl) (Nat.le_of_ble_eq_true rfl) ?_
    intro E hE
    repeat' (first
     |(with_reducible first|refine uK ?_|refine uX ?_|refine jq fun K hK=>?_|refine jb ?_)|((with_reducible first|refine rS hE ?_|refine jn ?_|refine js fun K' hK'=>?_|refine ji fun X Y hX hY=>?_|refine jr ?_|refine jk ?_|refine jx ?_);simp [*])|with_reducible refine rL hE ?_|(refine jC (hk.out) ?_ ?_ ?_;(iterate 2 focus (simp [*] <;> fail));simp [*])|(refine jC (fa) ?_ ?_ ?_;(iterate 2 focus (simp [*] <;> fail));simp [*])|(refine jC (fb) ?_ ?_ ?_;(iterate 2 focus (simp [*] <;> fail));simp [*])|(refine jC (fc) ?_ ?_ ?_;(iterate 2 focus (simp [*] <;> fail));simp [*])|with_reducible refine And.intro ?_ ?_|omega|(refine imp1 fun h=>?_))
   ·rw [hfc] at fc
    have m1:=s_meets a b
    have m2:=s_wmeets a b
    have j1:=s_join a b
    have j2:=s_wjoin a b
    have m3:=s_meets a c
    have m4:=s_meets (joiX a b) c
    have m5:=s_meets a a
    rw [mee_self hfa] at m5
    obtain ⟨j,hj⟩ : ∃ j,joiX a b = j:=⟨_,rfl⟩
    obtain ⟨m,hm⟩ : ∃ m,meeX a b = m:=⟨_,rfl⟩
    have hmj : meeX a c = true → meeX j c = true:=fun h=>hj ▸ mee_join h
    rw [hj] at j1 j2 m4
    rw [hm] at m1 m2
    replace m1:=Hld.mk m1
    replace m2:=Hld.mk m2
    replace j1:=Hld.mk j1
    replace j2:=Hld.mk j2
    rcases hac : meeX a c with _|_
    ·rw [hac] at m3
     clear hfa hfb hfc hj hm hmj hac
     refine PSpec_of Tryz.func4 rfl rfl (Nat.le_of_ble_eq_true rfl) (Nat.le_of_ble_eq_true rfl) ?_
     intro E hE
     repeat' (first
      |(with_reducible first|refine uK ?_|refine uQ ?_|refine uX ?_|refine jq fun K hK=>?_|refine jb ?_)|(with_reducible refine rS hE ?_;simp [*,encX])|with_reducible refine rL hE ?_|(((with_reducible show RK _ _ _ _ _ _);first|refine jn ?_|refine js fun K' hK'=>?_);simp [*,encX])|with_reducible refine rD mixed hE ?_|((with_reducible show RKQ _ _ _ _ _ _);first|refine RKQ_nilk ⟨by decide,?_⟩|(refine jv fun K' hK'=>?_;simp [*,encX]))|((with_reducible first|refine ji fun X Y hX hY=>?_|refine jr ?_|refine jk ?_|refine jx ?_);simp [*,encX])|((first|refine jC (hk.out) ?_ ?_ ?_|refine jQ (hk.out) ?_ ?_ ?_);(iterate 2 focus (simp [*,encX] <;> fail));simp [*,encX])|((first|refine jC (fa) ?_ ?_ ?_|refine jQ (fa) ?_ ?_ ?_);(iterate 2 focus (simp [*,encX] <;> fail));simp [*,encX])|((first|refine jC (fb) ?_ ?_ ?_|refine jQ (fb) ?_ ?_ ?_);(iterate 2 focus (simp [*,encX] <;> fail));simp [*,encX])|((first|refine jC (fc) ?_ ?_ ?_|refine jQ (fc) ?_ ?_ ?_);(iterate 2 focus (simp [*,encX] <;> fail));simp [*,encX])|((first|refine jC (m1.out) ?_ ?_ ?_|refine jQ (m1.out) ?_ ?_ ?_);(iterate 2 focus (simp [*,encX] <;> fail));simp [*,encX])|((first|refine jC (m2.out) ?_ ?_ ?_|refine jQ (m2.out) ?_ ?_ ?_);(iterate 2 focus (simp [*,encX] <;> fail));simp [*,encX])|((first|refine jC (j1.out) ?_ ?_ ?_|refine jQ (j1.out) ?_ ?_ ?_);(iterate 2 focus (simp [*,encX] <;> fail));simp [*,encX])|((first|refine jC (j2.out) ?_ ?_ ?_|refine jQ (j2.out) ?_ ?_ ?_);(iterate 2 focus (simp [*,encX] <;> fail));simp [*,encX])|((first|refine jC (m3) ?_ ?_ ?_|refine jQ (m3) ?_ ?_ ?_);(iterate 2 focus (simp [*,encX] <;> fail));simp [*,encX])|((first|refine jC (m5) ?_ ?_ ?_|refine jQ (m5) ?_ ?_ ?_);(iterate 2 focus (simp [*,encX] <;> fail));simp [*,encX])|with_reducible refine And.intro ?_ ?_|omega|(refine imp1 fun h=>?_))
    ·rw [hac] at m3
     rw [hmj hac] at m4
     clear hfa hfb hfc hj hm hmj hac
     refine PSpec_of Tryz.func4 rfl rfl (Nat.le_of_ble_eq_true rfl) (Nat.le_of_ble_eq_true rfl) ?_
     intro E hE
     repeat' (first
      |(with_reducible first|refine uK ?_|refine uQ ?_|refine uX ?_|refine jq fun K hK=>?_|refine jb ?_)|(with_reducible refine rS hE ?_;simp [*,encX])|with_reducible refine rL hE ?_|(((with_reducible show RK _ _ _ _ _ _);first|refine jn ?_|refine js fun K' hK'=>?_);simp [*,encX])|with_reducible refine rD mixed hE ?_|((with_reducible show RKQ _ _ _ _ _ _);first|refine RKQ_nilk ⟨by decide,?_⟩|(refine jv fun K' hK'=>?_;simp [*,encX]))|((with_reducible first|refine ji fun X Y hX hY=>?_|refine jr ?_|refine jk ?_|refine jx ?_);simp [*,encX])|((first|refine jC (hk.out) ?_ ?_ ?_|refine jQ (hk.out) ?_ ?_ ?_);(iterate 2 focus (simp [*,encX] <;> fail));simp [*,encX])|((first|refine jC (fa) ?_ ?_ ?_|refine jQ (fa) ?_ ?_ ?_);(iterate 2 focus (simp [*,encX] <;> fail));simp [*,encX])|((first|refine jC (fb) ?_ ?_ ?_|refine jQ (fb) ?_ ?_ ?_);(iterate 2 focus (simp [*,encX] <;> fail));simp [*,encX])|((first|refine jC (fc) ?_ ?_ ?_|refine jQ (fc) ?_ ?_ ?_);(iterate 2 focus (simp [*,encX] <;> fail));simp [*,encX])|((first|refine jC (m1.out) ?_ ?_ ?_|refine jQ (m1.out) ?_ ?_ ?_);(iterate 2 focus (simp [*,encX] <;> fail));simp [*,encX])|((first|refine jC (m2.out) ?_ ?_ ?_|refine jQ (m2.out) ?_ ?_ ?_);(iterate 2 focus (simp [*,encX] <;> fail));simp [*,encX])|((first|refine jC (j1.out) ?_ ?_ ?_|refine jQ (j1.out) ?_ ?_ ?_);(iterate 2 focus (simp [*,encX] <;> fail));simp [*,encX])|((first|refine jC (j2.out) ?_ ?_ ?_|refine jQ (j2.out) ?_ ?_ ?_);(iterate 2 focus (simp [*,encX] <;> fail));simp [*,encX])|((first|refine jC (m3) ?_ ?_ ?_|refine jQ (m3) ?_ ?_ ?_);(iterate 2 focus (simp [*,encX] <;> fail));simp [*,encX])|((first|refine jC (m4) ?_ ?_ ?_|refine jQ (m4) ?_ ?_ ?_);(iterate 2 focus (simp [*,encX] <;> fail));simp [*,encX])|((first|refine jC (m5) ?_ ?_ ?_|refine jQ (m5) ?_ ?_ ?_);(iterate 2 focus (simp [*,encX] <;> fail));simp [*,encX])|with_reducible refine And.intro ?_ ?_|omega|(refine imp1 fun h=>?_))
theorem spec (avs : List AV) (h : ShapeL Tryz.prog 6 Tryz.f4.params.toList avs) : PSpec Tryz.prog 4 avs (.v (.bool true)):=by
 rw [Tryz.params4] at h
 obtain ⟨c1,r1,rfl,h1,h⟩:=h
 obtain ⟨c2,r2,rfl,h2,h⟩:=h
 obtain ⟨c3,r3,rfl,h3,rfl⟩:=h
 obtain ⟨a,ha⟩:=avX h1
 obtain ⟨b,hb⟩:=avX h2
 obtain ⟨c,hc⟩:=avX h3
 rw [ha,hb,hc]
 exact law a b c
theorem contract (H : Type) (enc : TypeId × Value → H) (W : World) (base : Nat) (args : Array Value) (ds gs : List (DataW H)) (before : List MemPlace)
 (hval : ∀ (j : Nat) t v,Tryz.f4.params[j]? = some t → args[j]? = some v → Value.okWide Tryz.prog W .any base t v)
 (hW : DataW.Whole enc Tryz.prog Tryz.f4.params.toList Rows.bundleBoxesSpec.vars false W args.toList ds gs before) :
 Calls Tryz.prog 4 args W fun e W'=>∃ v,e = .returned v ∧ Rows.bundleBoxesSpec.post enc Tryz.prog Tryz.f4 false true false false W args v W' :=
 law_contract (m:=6) (tb:=4) spec (by rw [Tryz.params4];intro t ht;simp at ht;rcases ht with rfl|rfl|rfl <;> kernel_rfl) rfl laidK
  (by rw [Tryz.params4];intro t ht;simp at ht;rcases ht with rfl|rfl|rfl <;> exact ⟨by kernel_rfl,by decide +kernel⟩)
  (fun ds hd=>by
    rw [Tryz.params4] at hd
    match ds,hd with
    |[d1,d2,d3],_=>rfl) (by kernel_rfl) Tryz.underlying4 hval hW
theorem lifted (os : Os) (started : os.Started) (H : Type) (enc : TypeId × Value → H) :
 ReturnsInHanded {} Tryz.checked os 4 .any (fun w args=>(Rows.bundleBoxesSpec.pre enc Tryz.prog Tryz.f4 [] false w args ∧ laidMetH Tryz.prog laid3 w) ∧ sizedMet enc Tryz.prog Tryz.f4 (OpenSpec.ofChange Rows.bundleBoxesSpec) false w args) (Rows.bundleBoxesSpec.post enc Tryz.prog Tryz.f4 false true false false):=by
 refine returnsInHanded_of_change_and (C:=Tryz.checked) (X:=fun w _=>laidMetH Tryz.prog laid3 w) (fun _ _ _ hh h=>h.of_heap hh) ownK started (by kernel_rfl) Tryz.func4
  (ChangeSpec.witness_shaped (enc:=enc) (C:=Tryz.checked) (os:=os) (X:=fun w _=>laidMetH Tryz.prog laid3 w) false (doorP os) #[zB,zB,zB] 8 rfl (World.shaped_of_RefB (by kernel_rfl) (by kernel_rfl)) (by kernel_rfl) (by kernel_rfl) (by kernel_rfl) (door_met os _)) ?_
 intro W base args ds gs before hval hW _ _ _ _
 exact contract H enc W base args ds gs before hval hW
theorem bare : Rows.BundleBoxesSaid :=
 OpenClaim.holds_of_wide 4 Tryz.f4 rfl rfl rfl rfl rfl rfl rfl ⟨rfl,rfl,rfl,rfl,rfl⟩ rfl rfl rfl rfl rfl (by kernel_rfl) Tryz.func4 (by kernel_rfl)
  (of_decide_eq_true (by kernel_rfl)) (by unfold Func.isWrapper;first|(rw [if_pos (by decide +kernel)];kernel_rfl)|(rw [if_neg (by decide +kernel)];exact ⟨rfl,rfl⟩))
  (fun os started H enc _=>lifted os started H enc)
theorem said : Rows.BundleBoxesCardSaid :=
 Claim7.holds_tied_plain_at .later [] [.data,.pinned] true (true,"1584ebe7643be337f52f1d88f3c6d561c3c22a5b088cce63233fa64649e67be7") false
  bare (fun _ h=>by cases h) (by kernel_rfl) (fun _ h=>by cases h) bundleBoxes_row_tie rfl ⟨rfl,rfl⟩ (by kernel_rfl) rfl
  (fun f fn hf hfn=>by
    obtain rfl : f = 4:=Option.some.inj ((show Tryz.prog.funcNamed "viator/viatorlaw39.BundleBoxes" = some 4 by kernel_rfl).symm.trans hf) |>.symm
    obtain rfl : fn = Tryz.f4:=(Option.some.inj (Tryz.func4.symm.trans hfn)).symm
    exact ⟨by kernel_rfl,fun j t ht=>by
     rw [Tryz.params4] at ht
     have hm : t ∈ Tryz.f4.params.toList:=by rw [Tryz.params4];simpa using Array.mem_of_getElem? ht
     have hall : (Tryz.f4.params.toList.all fun u=>!Tryz.prog.wantsStandIn u) = true:=by kernel_rfl
     exact (show Tryz.prog.wantsStandIn t = false by simpa using List.all_eq_true.1 hall t hm)⟩)
  (by kernel_rfl)
end L4
end Go.Proofs.YtfkgaphfdpflmaaGreatDoor
