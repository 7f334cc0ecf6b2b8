/- Layer 39: for the trees of any two fleets, Equal compares all fields -/
import Derived.Test.YtfkgaphfdpflmaaGreatDoorZJ
import Derived.Test.YtfkgaphfdpflmaaGreatDoorZE
set_option maxRecDepth 100000
set_option linter.unusedSimpArgs false
set_option linter.unusedVariables false
namespace Go.Proofs.YtfkgaphfdpflmaaGreatDoor
open Go.Am Go.RowKit Go.ChangeShapes Go.WideShapes Go.ChangeAt
namespace L7
theorem spec (avs : List AV) (h : ShapeL Tryz.prog 6 Tryz.f5.params.toList avs) : PSpec Tryz.prog 5 avs (.v (.bool true)):=by
 rw [Tryz.params5] at h
 obtain ⟨c1,r1,rfl,h1,h⟩:=h
 obtain ⟨c2,r2,rfl,h2,h⟩:=h
 obtain ⟨c3,r3,rfl,h3,rfl⟩:=h
 obtain ⟨f,hf,hc,hl⟩:=avW h1
 obtain ⟨g,hg,hgc,hgl⟩:=avW h2
 obtain ⟨a,m,c,d,hm,ha,hb,hcc,hd⟩:=avM4 h3
 rw [hf,hg,hm]
 exact law f g hc hl hgc hgl a m c d ha hb hcc hd
theorem contract (H : Type) (enc : TypeId × Value → H) (W : World) (base : Nat) (args : Array Value) (ds gs : List (DataW H)) (before : List MemPlace)
 (hval : ∀ (j : Nat) t v,Tryz.f5.params[j]? = some t → args[j]? = some v → Value.okWide Tryz.prog W .any base t v)
 (hW : DataW.Whole enc Tryz.prog Tryz.f5.params.toList Rows.bundleEqualsSpec.vars false W args.toList ds gs before) :
 Calls Tryz.prog 5 args W fun e W'=>∃ v,e = .returned v ∧ Rows.bundleEqualsSpec.post enc Tryz.prog Tryz.f5 false true false false W args v W' :=
 law_contract (m:=6) (tb:=4) spec (by rw [Tryz.params5];intro t ht;simp at ht;rcases ht with rfl|rfl|rfl <;> kernel_rfl) rfl laidK
  (by rw [Tryz.params5];intro t ht;simp at ht;rcases ht with rfl|rfl|rfl <;> exact ⟨by kernel_rfl,by decide +kernel⟩)
  (fun ds hd=>by
    rw [Tryz.params5] at hd
    match ds,hd with
    |[d1,d2,d3],_=>rfl) (by kernel_rfl) Tryz.underlying4 hval hW
theorem lifted (os : Os) (started : os.Started) (H : Type) (enc : TypeId × Value → H) :
 ReturnsInHanded {} Tryz.checked os 5 .any (fun w args=>(Rows.bundleEqualsSpec.pre enc Tryz.prog Tryz.f5 [] false w args ∧ laidMetH Tryz.prog laid3 w) ∧ sizedMet enc Tryz.prog Tryz.f5 (OpenSpec.ofChange Rows.bundleEqualsSpec) false w args) (Rows.bundleEqualsSpec.post enc Tryz.prog Tryz.f5 false true false false):=by
 refine returnsInHanded_of_change_and (C:=Tryz.checked) (X:=fun w _=>laidMetH Tryz.prog laid3 w) (fun _ _ _ hh h=>h.of_heap hh) ownK started (by kernel_rfl) Tryz.func5
  (ChangeSpec.witness_shaped (enc:=enc) (C:=Tryz.checked) (os:=os) (X:=fun w _=>laidMetH Tryz.prog laid3 w) false (doorP os) #[(.agg #[.slice none 0 0,.slice none 0 0]),(.agg #[.slice none 0 0,.slice none 0 0]),(.agg #[.int .u8 0,.int .u8 0,.int .u8 0,.int .u8 0])] 8 rfl (World.shaped_of_RefB (by kernel_rfl) (by kernel_rfl)) (by kernel_rfl) (by kernel_rfl) (by kernel_rfl) (door_met os _)) ?_
 intro W base args ds gs before hval hW _ _ _ _
 exact contract H enc W base args ds gs before hval hW
theorem bare : Rows.BundleEqualsSaid :=
 OpenClaim.holds_of_wide 5 Tryz.f5 rfl rfl rfl rfl rfl rfl rfl ⟨rfl,rfl,rfl,rfl,rfl⟩ rfl rfl rfl rfl rfl (by kernel_rfl) Tryz.func5 (by kernel_rfl)
  (of_decide_eq_true (by kernel_rfl)) (by unfold Func.isWrapper;first|(rw [if_pos (by decide +kernel)];kernel_rfl)|(rw [if_neg (by decide +kernel)];exact ⟨rfl,rfl⟩))
  (fun os started H enc _=>lifted os started H enc)
theorem said : Rows.BundleEqualsCardSaid :=
 Claim7.holds_tied_plain_at .later [] [.data,.pinned] true (true,"1584ebe7643be337f52f1d88f3c6d561c3c22a5b088cce63233fa64649e67be7") false
  bare (fun _ h=>by cases h) (by kernel_rfl) (fun _ h=>by cases h) bundleEquals_row_tie rfl ⟨rfl,rfl⟩ (by kernel_rfl) rfl
  (fun f fn hf hfn=>by
    obtain rfl : f = 5:=Option.some.inj ((show Tryz.prog.funcNamed "viator/viatorlaw39.BundleEquals" = some 5 by kernel_rfl).symm.trans hf) |>.symm
    obtain rfl : fn = Tryz.f5:=(Option.some.inj (Tryz.func5.symm.trans hfn)).symm
    exact ⟨by kernel_rfl,fun j t ht=>by
     rw [Tryz.params5] at ht
     have hm : t ∈ Tryz.f5.params.toList:=by rw [Tryz.params5];simpa using Array.mem_of_getElem? ht
     have hall : (Tryz.f5.params.toList.all fun u=>!Tryz.prog.wantsStandIn u) = true:=by kernel_rfl
     exact (show Tryz.prog.wantsStandIn t = false by simpa using List.all_eq_true.1 hall t hm)⟩)
  (by kernel_rfl)
end L7
end Go.Proofs.YtfkgaphfdpflmaaGreatDoor
