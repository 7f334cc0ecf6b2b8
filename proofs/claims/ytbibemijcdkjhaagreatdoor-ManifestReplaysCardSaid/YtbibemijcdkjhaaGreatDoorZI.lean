/- strconv's Itoa, FormatInt, toError at this cut: printed by the kit's lay-plain -/
import Derived.Test.YtbibemijcdkjhaaGreatDoorRows
import Derived.Shelf.Strconv.Itoa4
import Derived.Shelf.Strconv.ToErrorRange
import Derived.Shelf.Strconv.ToError
import Derived.Test.YtbibemijcdkjhaaGreatDoorZ5
import Derived.Test.YtbibemijcdkjhaaGreatDoorZ6
import Derived.Test.YtbibemijcdkjhaaGreatDoorZ3
import Derived.Shelf.LaysC
import Derived.Shelf.RegionOpenPlain
import Derived.Lib.Walk
import Derived.Lib.AtoiErrMem
import Derived.Lib.IfaceEq
import Derived.WalkKit
import Derived.RegionTactic
import Derived.Deep.RegionWith
import Derived.BigCall
import Derived.BigGuard
import Derived.Lib.Bytealg
import Derived.Lib.ItoaNum
set_option maxRecDepth 100000
set_option linter.unusedSimpArgs false
set_option linter.unusedVariables false
section
namespace Go.Proofs
open Go.Shelf
def Tryz.itoaL_ren : Go.Shelf.Ren:=⟨fun|171=>47|243=>79|246=>109|283=>130|284=>131|285=>132|286=>133|129=>105|317=>151|318=>152|319=>153|320=>154|337=>160|338=>161|n=>n,fun|3=>3|9=>9|2=>2|4=>4|171=>164|0=>0|53=>139|37=>84|5=>5|173=>166|212=>184|51=>137|20=>20|213=>185|46=>110|232=>194|233=>195|n=>n,fun|17=>3|18=>4|19=>5|n=>n⟩
theorem Tryz.itoaL : Go.Proofs.LaysM.n171 Tryz.prog Tryz.itoaL_ren:={
 mixed:=by kernel_rfl
 f129:=Tryz.func105.trans (congrArg some (by kernel_rfl))
 f171:=Tryz.func47.trans (congrArg some (by kernel_rfl))
 f243:=Tryz.func79.trans (congrArg some (by kernel_rfl))
 f246:=Tryz.func109.trans (congrArg some (by kernel_rfl))
 f283:=Tryz.func130.trans (congrArg some (by kernel_rfl))
 f284:=Tryz.func131.trans (congrArg some (by kernel_rfl))
 f285:=Tryz.func132.trans (congrArg some (by kernel_rfl))
 f286:=Tryz.func133.trans (congrArg some (by kernel_rfl))
 f317:=Tryz.func151.trans (congrArg some (by kernel_rfl))
 f318:=Tryz.func152.trans (congrArg some (by kernel_rfl))
 f319:=Tryz.func153.trans (congrArg some (by kernel_rfl))
 f320:=Tryz.func154.trans (congrArg some (by kernel_rfl))
 f337:=Tryz.func160.trans (congrArg some (by kernel_rfl))
 f338:=Tryz.func161.trans (congrArg some (by kernel_rfl))
 t0:=Tryz.underlying0
 a0:=Tryz.isAgg0
 z0:=Tryz.sizeOf0
 v0:=Tryz.zeroValue0
 t2:=Tryz.underlying2
 a2:=Tryz.isAgg2
 z2:=Tryz.sizeOf2
 v2:=Tryz.zeroValue2
 t3:=Tryz.underlying3
 a3:=Tryz.isAgg3
 z3:=Tryz.sizeOf3
 v3:=Tryz.zeroValue3
 t4:=Tryz.underlying4
 a4:=Tryz.isAgg4
 z4:=Tryz.sizeOf4
 v4:=Tryz.zeroValue4
 t5:=Tryz.underlying5
 a5:=Tryz.isAgg5
 z5:=Tryz.sizeOf5
 v5:=Tryz.zeroValue5
 t9:=Tryz.underlying9
 a9:=Tryz.isAgg9
 z9:=Tryz.sizeOf9
 v9:=Tryz.zeroValue9
 t20:=Tryz.underlying20
 a20:=Tryz.isAgg20
 z20:=Tryz.sizeOf20
 v20:=Tryz.zeroValue20
 t37:=Tryz.underlying84
 a37:=Tryz.isAgg84
 z37:=Tryz.sizeOf84
 v37:=Tryz.zeroValue84
 t46:=Tryz.underlying110
 a46:=Tryz.isAgg110
 z46:=Tryz.sizeOf110
 v46:=Tryz.zeroValue110
 t51:=Tryz.underlying137
 a51:=Tryz.isAgg137
 z51:=Tryz.sizeOf137
 v51:=Tryz.zeroValue137
 t53:=Tryz.underlying139
 a53:=Tryz.isAgg139
 z53:=Tryz.sizeOf139
 v53:=Tryz.zeroValue139
 t171:=Tryz.underlying164
 a171:=Tryz.isAgg164
 z171:=Tryz.sizeOf164
 v171:=Tryz.zeroValue164
 t173:=Tryz.underlying166
 a173:=Tryz.isAgg166
 z173:=Tryz.sizeOf166
 v173:=Tryz.zeroValue166
 t212:=Tryz.underlying184
 a212:=Tryz.isAgg184
 z212:=Tryz.sizeOf184
 v212:=Tryz.zeroValue184
 t213:=Tryz.underlying185
 a213:=Tryz.isAgg185
 z213:=Tryz.sizeOf185
 t232:=Tryz.underlying194
 a232:=Tryz.isAgg194
 z232:=Tryz.sizeOf194
 v232:=Tryz.zeroValue194
 t233:=Tryz.underlying195
 a233:=Tryz.isAgg195
 z233:=Tryz.sizeOf195
 v233:=Tryz.zeroValue195
 g17:=by kernel_rfl
 g18:=by kernel_rfl
 g19:=by kernel_rfl
 i0:=by kernel_rfl
 i2:=by kernel_rfl
 i3:=by kernel_rfl
 i4:=by kernel_rfl
 i5:=by kernel_rfl
 i9:=by kernel_rfl
 i20:=by kernel_rfl
 i37:=by kernel_rfl
 i46:=by kernel_rfl
 i51:=by kernel_rfl
 i53:=by kernel_rfl
 i171:=by kernel_rfl
 i173:=by kernel_rfl
 i212:=by kernel_rfl
 i232:=by kernel_rfl
 i233:=by kernel_rfl
 m17:=by kernel_rfl
 m18:=by kernel_rfl
 m19:=by kernel_rfl }
def Tryz.fmtL_ren : Go.Shelf.Ren:=⟨fun|173=>77|246=>109|283=>130|284=>131|285=>132|286=>133|129=>105|317=>151|318=>152|319=>153|320=>154|337=>160|338=>161|n=>n,fun|2=>2|3=>3|9=>9|4=>4|171=>164|0=>0|53=>139|37=>84|5=>5|173=>166|212=>184|51=>137|20=>20|213=>185|46=>110|232=>194|233=>195|n=>n,fun|17=>3|18=>4|19=>5|n=>n⟩
theorem Tryz.fmtL : Go.Proofs.LaysM.n173 Tryz.prog Tryz.fmtL_ren:={
 mixed:=by kernel_rfl
 f129:=Tryz.func105.trans (congrArg some (by kernel_rfl))
 f173:=Tryz.func77.trans (congrArg some (by kernel_rfl))
 f246:=Tryz.func109.trans (congrArg some (by kernel_rfl))
 f283:=Tryz.func130.trans (congrArg some (by kernel_rfl))
 f284:=Tryz.func131.trans (congrArg some (by kernel_rfl))
 f285:=Tryz.func132.trans (congrArg some (by kernel_rfl))
 f286:=Tryz.func133.trans (congrArg some (by kernel_rfl))
 f317:=Tryz.func151.trans (congrArg some (by kernel_rfl))
 f318:=Tryz.func152.trans (congrArg some (by kernel_rfl))
 f319:=Tryz.func153.trans (congrArg some (by kernel_rfl))
 f320:=Tryz.func154.trans (congrArg some (by kernel_rfl))
 f337:=Tryz.func160.trans (congrArg some (by kernel_rfl))
 f338:=Tryz.func161.trans (congrArg some (by kernel_rfl))
 t0:=Tryz.underlying0
 a0:=Tryz.isAgg0
 z0:=Tryz.sizeOf0
 v0:=Tryz.zeroValue0
 t2:=Tryz.underlying2
 a2:=Tryz.isAgg2
 z2:=Tryz.sizeOf2
 v2:=Tryz.zeroValue2
 t3:=Tryz.underlying3
 a3:=Tryz.isAgg3
 z3:=Tryz.sizeOf3
 v3:=Tryz.zeroValue3
 t4:=Tryz.underlying4
 a4:=Tryz.isAgg4
 z4:=Tryz.sizeOf4
 v4:=Tryz.zeroValue4
 t5:=Tryz.underlying5
 a5:=Tryz.isAgg5
 z5:=Tryz.sizeOf5
 v5:=Tryz.zeroValue5
 t9:=Tryz.underlying9
 a9:=Tryz.isAgg9
 z9:=Tryz.sizeOf9
 v9:=Tryz.zeroValue9
 t20:=Tryz.underlying20
 a20:=Tryz.isAgg20
 z20:=Tryz.sizeOf20
 v20:=Tryz.zeroValue20
 t37:=Tryz.underlying84
 a37:=Tryz.isAgg84
 z37:=Tryz.sizeOf84
 v37:=Tryz.zeroValue84
 t46:=Tryz.underlying110
 a46:=Tryz.isAgg110
 z46:=Tryz.sizeOf110
 v46:=Tryz.zeroValue110
 t51:=Tryz.underlying137
 a51:=Tryz.isAgg137
 z51:=Tryz.sizeOf137
 v51:=Tryz.zeroValue137
 t53:=Tryz.underlying139
 a53:=Tryz.isAgg139
 z53:=Tryz.sizeOf139
 v53:=Tryz.zeroValue139
 t171:=Tryz.underlying164
 a171:=Tryz.isAgg164
 z171:=Tryz.sizeOf164
 v171:=Tryz.zeroValue164
 t173:=Tryz.underlying166
 a173:=Tryz.isAgg166
 z173:=Tryz.sizeOf166
 v173:=Tryz.zeroValue166
 t212:=Tryz.underlying184
 a212:=Tryz.isAgg184
 z212:=Tryz.sizeOf184
 v212:=Tryz.zeroValue184
 t213:=Tryz.underlying185
 a213:=Tryz.isAgg185
 z213:=Tryz.sizeOf185
 t232:=Tryz.underlying194
 a232:=Tryz.isAgg194
 z232:=Tryz.sizeOf194
 v232:=Tryz.zeroValue194
 t233:=Tryz.underlying195
 a233:=Tryz.isAgg195
 z233:=Tryz.sizeOf195
 v233:=Tryz.zeroValue195
 g17:=by kernel_rfl
 g18:=by kernel_rfl
 g19:=by kernel_rfl
 i0:=by kernel_rfl
 i2:=by kernel_rfl
 i3:=by kernel_rfl
 i4:=by kernel_rfl
 i5:=by kernel_rfl
 i9:=by kernel_rfl
 i20:=by kernel_rfl
 i37:=by kernel_rfl
 i46:=by kernel_rfl
 i51:=by kernel_rfl
 i53:=by kernel_rfl
 i171:=by kernel_rfl
 i173:=by kernel_rfl
 i212:=by kernel_rfl
 i232:=by kernel_rfl
 i233:=by kernel_rfl
 m17:=by kernel_rfl
 m18:=by kernel_rfl
 m19:=by kernel_rfl }
def Tryz.toErrL_ren : Go.Shelf.Ren:=⟨fun|245=>108|279=>126|280=>127|281=>128|282=>129|316=>149|171=>47|205=>150|243=>79|246=>109|283=>130|284=>131|285=>132|286=>133|129=>105|317=>151|318=>152|319=>153|320=>154|337=>160|338=>161|n=>n,fun|9=>9|3=>3|75=>89|167=>158|4=>4|168=>161|210=>181|37=>84|0=>0|127=>116|145=>192|143=>190|2=>2|171=>164|53=>139|5=>5|173=>166|212=>184|51=>137|20=>20|213=>185|46=>110|232=>194|233=>195|80=>93|n=>n,fun|15=>1|16=>2|17=>3|18=>4|19=>5|n=>n⟩
theorem Tryz.toErrL : Go.Proofs.LaysC.n245 Tryz.prog Tryz.toErrL_ren:={
 mixed:=by kernel_rfl
 f129:=Tryz.func105.trans (congrArg some (by kernel_rfl))
 f171:=Tryz.func47.trans (congrArg some (by kernel_rfl))
 f205:=Tryz.func150.trans (congrArg some (by kernel_rfl))
 f243:=Tryz.func79.trans (congrArg some (by kernel_rfl))
 f245:=Tryz.func108.trans (congrArg some (by kernel_rfl))
 f246:=Tryz.func109.trans (congrArg some (by kernel_rfl))
 f279:=Tryz.func126.trans (congrArg some (by kernel_rfl))
 f280:=Tryz.func127.trans (congrArg some (by kernel_rfl))
 f281:=Tryz.func128.trans (congrArg some (by kernel_rfl))
 f282:=Tryz.func129.trans (congrArg some (by kernel_rfl))
 f283:=Tryz.func130.trans (congrArg some (by kernel_rfl))
 f284:=Tryz.func131.trans (congrArg some (by kernel_rfl))
 f285:=Tryz.func132.trans (congrArg some (by kernel_rfl))
 f286:=Tryz.func133.trans (congrArg some (by kernel_rfl))
 f316:=Tryz.func149.trans (congrArg some (by kernel_rfl))
 f317:=Tryz.func151.trans (congrArg some (by kernel_rfl))
 f318:=Tryz.func152.trans (congrArg some (by kernel_rfl))
 f319:=Tryz.func153.trans (congrArg some (by kernel_rfl))
 f320:=Tryz.func154.trans (congrArg some (by kernel_rfl))
 f337:=Tryz.func160.trans (congrArg some (by kernel_rfl))
 f338:=Tryz.func161.trans (congrArg some (by kernel_rfl))
 t0:=Tryz.underlying0
 a0:=Tryz.isAgg0
 z0:=Tryz.sizeOf0
 v0:=Tryz.zeroValue0
 t2:=Tryz.underlying2
 a2:=Tryz.isAgg2
 z2:=Tryz.sizeOf2
 v2:=Tryz.zeroValue2
 t3:=Tryz.underlying3
 a3:=Tryz.isAgg3
 z3:=Tryz.sizeOf3
 v3:=Tryz.zeroValue3
 t4:=Tryz.underlying4
 a4:=Tryz.isAgg4
 z4:=Tryz.sizeOf4
 v4:=Tryz.zeroValue4
 t5:=Tryz.underlying5
 a5:=Tryz.isAgg5
 z5:=Tryz.sizeOf5
 v5:=Tryz.zeroValue5
 t9:=Tryz.underlying9
 a9:=Tryz.isAgg9
 z9:=Tryz.sizeOf9
 v9:=Tryz.zeroValue9
 t20:=Tryz.underlying20
 a20:=Tryz.isAgg20
 z20:=Tryz.sizeOf20
 v20:=Tryz.zeroValue20
 t37:=Tryz.underlying84
 a37:=Tryz.isAgg84
 z37:=Tryz.sizeOf84
 v37:=Tryz.zeroValue84
 t46:=Tryz.underlying110
 a46:=Tryz.isAgg110
 z46:=Tryz.sizeOf110
 v46:=Tryz.zeroValue110
 t51:=Tryz.underlying137
 a51:=Tryz.isAgg137
 z51:=Tryz.sizeOf137
 v51:=Tryz.zeroValue137
 t53:=Tryz.underlying139
 a53:=Tryz.isAgg139
 z53:=Tryz.sizeOf139
 v53:=Tryz.zeroValue139
 t75:=Tryz.underlying89
 a75:=Tryz.isAgg89
 z75:=Tryz.sizeOf89
 v75:=Tryz.zeroValue89
 t127:=Tryz.underlying116
 a127:=Tryz.isAgg116
 z127:=Tryz.sizeOf116
 v127:=Tryz.zeroValue116
 t143:=Tryz.underlying190
 a143:=Tryz.isAgg190
 z143:=Tryz.sizeOf190
 v143:=Tryz.zeroValue190
 t145:=Tryz.underlying192
 a145:=Tryz.isAgg192
 z145:=Tryz.sizeOf192
 v145:=Tryz.zeroValue192
 t167:=Tryz.underlying158
 a167:=Tryz.isAgg158
 z167:=Tryz.sizeOf158
 v167:=Tryz.zeroValue158
 t168:=Tryz.underlying161
 a168:=Tryz.isAgg161
 z168:=Tryz.sizeOf161
 v168:=Tryz.zeroValue161
 t171:=Tryz.underlying164
 a171:=Tryz.isAgg164
 z171:=Tryz.sizeOf164
 v171:=Tryz.zeroValue164
 t173:=Tryz.underlying166
 a173:=Tryz.isAgg166
 z173:=Tryz.sizeOf166
 v173:=Tryz.zeroValue166
 t210:=Tryz.underlying181
 a210:=Tryz.isAgg181
 z210:=Tryz.sizeOf181
 v210:=Tryz.zeroValue181
 t212:=Tryz.underlying184
 a212:=Tryz.isAgg184
 z212:=Tryz.sizeOf184
 v212:=Tryz.zeroValue184
 t213:=Tryz.underlying185
 a213:=Tryz.isAgg185
 z213:=Tryz.sizeOf185
 t232:=Tryz.underlying194
 a232:=Tryz.isAgg194
 z232:=Tryz.sizeOf194
 v232:=Tryz.zeroValue194
 t233:=Tryz.underlying195
 a233:=Tryz.isAgg195
 z233:=Tryz.sizeOf195
 v233:=Tryz.zeroValue195
 g15:=by kernel_rfl
 g16:=by kernel_rfl
 g17:=by kernel_rfl
 g18:=by kernel_rfl
 g19:=by kernel_rfl
 t80:=Tryz.underlying93
 a80:=Tryz.isAgg93
 z80:=Tryz.sizeOf93
 v80:=Tryz.zeroValue93
 i0:=by kernel_rfl
 i2:=by kernel_rfl
 i3:=by kernel_rfl
 i4:=by kernel_rfl
 i5:=by kernel_rfl
 i9:=by kernel_rfl
 i20:=by kernel_rfl
 i37:=by kernel_rfl
 i46:=by kernel_rfl
 i51:=by kernel_rfl
 i53:=by kernel_rfl
 i75:=by kernel_rfl
 i80:=by kernel_rfl
 i127:=by kernel_rfl
 i143:=by kernel_rfl
 i145:=by kernel_rfl
 i167:=by kernel_rfl
 i168:=by kernel_rfl
 i171:=by kernel_rfl
 i173:=by kernel_rfl
 i210:=by kernel_rfl
 i212:=by kernel_rfl
 i232:=by kernel_rfl
 i233:=by kernel_rfl
 m15:=by kernel_rfl
 m16:=by kernel_rfl
 m17:=by kernel_rfl
 m18:=by kernel_rfl
 m19:=by kernel_rfl
 c0:=by kernel_rfl
 c2:=by kernel_rfl
 c3:=by kernel_rfl
 c4:=by kernel_rfl
 c5:=by kernel_rfl
 c9:=by kernel_rfl
 c20:=by kernel_rfl
 c37:=by kernel_rfl
 c46:=by kernel_rfl
 c51:=by kernel_rfl
 c53:=by kernel_rfl
 c75:=by kernel_rfl
 c80:=by kernel_rfl
 c127:=by kernel_rfl
 c143:=by kernel_rfl
 c145:=by kernel_rfl
 c167:=by kernel_rfl
 c168:=by kernel_rfl
 c171:=by kernel_rfl
 c173:=by kernel_rfl
 c210:=by kernel_rfl
 c212:=by kernel_rfl
 c213:=by kernel_rfl
 c232:=by kernel_rfl
 c233:=by kernel_rfl }
end Go.Proofs
end
section
namespace Go.Am
open Go.Proofs Go.Proofs.YtbibemijcdkjhaaGreatDoor Go.RowKit Go.ChangeShapes Go.WideShapes Go.ChangeAt
def Stays (L : World → Prop) : Prop:=∀ w w',L w → Bel w.heap.size w w' → L w'
def LaidE (L : World → Prop) (E : Env) : Prop:=∀ w,FrameBut E.may E.w0 w → L w
def PSpecL (P : Program) (L : World → Prop) (f : FuncId) (args : List AV) (res : AV) : Prop :=
 Ent P f ∧ ∀ (H : Heap) (w : World) (vs : List Value),L w → Ext H w → RepL H rho0 args vs → Calls P f vs.toArray w fun e w' =>
  ∃ H' v,e = .returned v ∧ H.le H' ∧ (∀ b o u,H' b o = some u → H b o = none → w.heap.size ≤ b) ∧ Ext H' w' ∧ Rep H' rho0 res v ∧ Bel w.heap.size w w'
theorem PSpec.toL {P : Program} {L : World → Prop} {f : FuncId} {args : List AV} {res : AV} (h : PSpec P f args res) : PSpecL P L f args res:=⟨h.1,fun H w vs _=>h.2 H w vs⟩
section
variable {P : Program} {E : Env} {s : AState} {Q : AExit → AState → Prop} {L : World → Prop}
theorem ACall_pureL {g : FuncId} {args ds : List AV} {res : AV} {d : Option Tmp} {K : AState → Prop} (hL : LaidE L E) (hsp : PSpecL P L g ds res) (hv : ViewL s.box args ds) (hfl : res.flat = true ∨ (ds = args ∧ idfL args = true ∧ res.idf = true))
 (hk : K (s.put d res)) : ACall P E g args s d K:=by
 refine ⟨hsp.1,fun H ρ a w vs hs hr hd=>?_⟩
 have he:=hs.ext
 have hb:=hs.boxes.rep
 have hl:=hL w hs.frame
 rcases hfl with hfl|⟨rfl,hi,hri⟩
 ·refine Calls.mono (hsp.2 (snap w) w vs hl (snap_ext w) (viewL_rep hv hr he hb)) ?_
  rintro e w' ⟨H',v,rfl,hle,hnew,hext,hrep,hbel⟩
  obtain ⟨x,n,H2,ρ2,⟨rfl,rfl⟩,hs'⟩:=hs.quiet (o:={ (default : Oper) with dst:=d }) (k:=fun x n=>x = res ∧ n = none) hd (by rintro x c ⟨_,h⟩;cases h)
   ⟨res,none,H,ρ,v,⟨rfl,rfl⟩,rfl,H.le_refl,fun b i u h h'=>by rw [h'] at h;simp at h,he.of_below hbel,hrep.flat hfl,hbel,rfl⟩
  refine ⟨v,rfl,_,H2,ρ2,hk,?_⟩
  rw [AState.slot_put,AState.box_put]
  have : addF s.box d none = s.box:=by cases d <;> rfl
  rw [this] at hs'
  exact hs'
 ·refine Calls.mono (hsp.2 H w vs hl he (hr.idf hi)) ?_
  rintro e w' ⟨H',v,rfl,hle,hnew,hext,hrep,hbel⟩
  obtain ⟨x,n,H2,ρ2,⟨rfl,rfl⟩,hs'⟩:=hs.quiet (o:={ (default : Oper) with dst:=d }) (k:=fun x n=>x = res ∧ n = none) hd (by rintro x c ⟨_,h⟩;cases h)
   ⟨res,none,H',ρ,v,⟨rfl,rfl⟩,rfl,hle,hnew,hext,hrep.idf hri,hbel,rfl⟩
  refine ⟨v,rfl,_,H2,ρ2,hk,?_⟩
  rw [AState.slot_put,AState.box_put]
  have : addF s.box d none = s.box:=by cases d <;> rfl
  rw [this] at hs'
  exact hs'
theorem acall_sameL {f : FuncId} {args : List AV} {d : Option Tmp} {res : AV} {K : AState → Prop} (hL : LaidE L E) (h : PSpecL P L f args res) (hi : idfL args = true) (hr : res.idf = true) (hk : K (s.put d res)) : ACall P E f args s d K :=
 ACall_pureL hL h (viewL_same _ _ hi) (.inr ⟨rfl,hi,hr⟩) hk
theorem PSpecL_of (hst : Stays L) {f : FuncId} {fn : Func} {c : Code} {args : List AV} {res : AV} (hf : P.funcs[f]? = some fn) (hb : fn.body = some c) (hname : (fn.name == "runtime.NumGoroutine") = false) (hn : args.length ≤ fn.ntmps) (hnl : fn.ntmps ≤ 1000000)
 (h : ∀ E : Env,E.n = fn.ntmps → LaidE L E → AW P E c ⟨argSlots 0 args,[]⟩ (retQ P fn (fun x s=>View s.box x res))) : PSpecL P L f args res:=by
 refine ⟨ent_of hf hname hb,fun H w vs hlw he hr=>?_⟩
 have hno : ∀ b,¬ OwnB rho0 (lk ([] : List (Nat × Ct))) b:=by rintro b ⟨id,c,cap,hc,_⟩;simp [lk] at hc
 refine entry (P:=P) (bx:=[]) hf hb he ⟨fun id c hc=>by simp [lk] at hc,fun id c b cap hc=>by simp [lk] at hc,fun id id' c c' b cap cap' hc=>by simp [lk] at hc⟩ hr hn hnl _
  (h _ rfl (fun w' hfr=>hst w w' hlw (FrameBut.below ⟨hfr.os,hfr.tape,hfr.output,hfr.size,fun k hk _=>hfr.block k hk (hno k)⟩))) ?_
 intro x s H' ρ' a' w' v hv hs hrx
 have hmine : ∀ b,(Env.mine ⟨w,H,OwnB rho0 (lk []),fn.ntmps,rho0⟩ b) → w.heap.size ≤ b:=by
  rintro b (h|h)
  ·exact h
  ·exact (hno b h).elim
 have hle : H'.le (thaw H' w.heap.size w'):=fun b o u hu=>by simp [thaw,hu]
 refine ⟨thaw H' w.heap.size w',v,rfl,fun b o u hu=>hle _ _ _ (hs.h0 b o u hu),?_,?_,?_,?_⟩
 ·intro b o u hu hu0
  simp only [thaw] at hu
  split at hu
  ·exact hmine b (hs.new b o u hu hu0)
  ·split at hu
   ·assumption
   ·cases hu
 ·intro b o u hu
  simp only [thaw] at hu
  split at hu
  ·exact hs.ext b o u hu
  ·split at hu
   ·exact hu
   ·cases hu
 ·refine view_rep2 hv hrx hs.boxes.rep hle ?_
  intro id c b cap hc hbd o u hu
  have h1:=hs.boxes.apart id c b cap hc hbd
  simp [thaw,h1.1 o,hmine b h1.2.2,hu]
 ·refine FrameBut.below ⟨hs.frame.os,hs.frame.tape,hs.frame.output,hs.frame.size,fun k hk _=>hs.frame.block k hk (hno k)⟩
theorem law_contractL {H : Type} {enc : TypeId × Value → H} {W : World} (hLW : L W) {m : Nat} {f : FuncId} {fn : Func} {s : ChangeSpec} {apart fresh handsOn again : Bool} {tb : TypeId} (hspec : ∀ avs,ShapeL P m fn.params.toList avs → PSpecL P L f avs (.v (.bool true))) (hlay : ∀ t ∈ fn.params.toList,layB P m t = true) (hv : s.vars = []) (hl : laidOutB P = true)
 (hr : ∀ t ∈ fn.params.toList,P.readableRec t = true ∧ t < P.types.size) (hs : ∀ ds : List (DataW H),ds.length = fn.params.size → s.fn H ds = { results:=[.lit (.bool true)],args:=ds }) (hres : fn.resultTypes = #[tb]) (htb : P.underlying tb = some .bool)
 {b0 : Nat} {args : Array Value} {ds gs : List (DataW H)} {before : List MemPlace} (hval : ∀ (j : Nat) t v,fn.params[j]? = some t → args[j]? = some v → Value.okWide P W .any b0 t v) (hW : DataW.Whole enc P fn.params.toList s.vars apart W args.toList ds gs before) :
 Calls P f args W fun e W'=>∃ v,e = .returned v ∧ s.post enc P fn apart fresh handsOn again W args v W':=by
 obtain ⟨p,q,hA,hV,hpq,hz,hn⟩:=hW
 have hlen : ds.length = fn.params.size:=by
  have key : ∀ {ts : List TypeId} {vs : List Value} {ds : List (DataW H)} {ps : List MemPlace},DataW.TrodAll enc P W 0 (fun _=>true) true ts vs ds ps → ds.length = ts.length:=by
   intro ts
   induction ts with
   |nil=>intro vs ds ps h;obtain ⟨_,rfl,_⟩:=trodAll_nil h;rfl
   |cons t ts ih=>intro vs ds ps h;obtain ⟨v,vs',d,ds',p,q,_,rfl,_,_,r0⟩:=trodAll_cons h;simp [ih r0]
  simpa using key hA
 obtain ⟨avs,h1,h2⟩:=read_args hlay (fun j t v hj hvj=>hval j t v (by simpa using hj) (by simpa using hvj)) hA
 have hrun:=(hspec avs h1).2 (snap W) W args.toList hLW (snap_ext W) h2
 refine Calls.mono hrun ?_
 rintro e W' ⟨H',v,rfl,_,_,_,hrep,hbel⟩
 rw [Rep.v_inv hrep]
 exact ⟨_,rfl,law_post ⟨p,q,hA,hV,hpq,hz,hn⟩ hv hbel hl hr (hs ds hlen) hres htb⟩
end
end Go.Am
end
section
namespace Go.Proofs.YtbibemijcdkjhaaGreatDoor
open Go.Shelf Go.RowKit Go.Proofs
section
variable {P : Program} {ρ : Ren}
set_option maxHeartbeats 6400000 in
set_option maxRecDepth 100000 in
theorem cloneD (L : LaysM.n316 P ρ) (s : ByteArray) (w : World) (hlim : s.size ≤ 281474976710656) :
 Calls P (ρ.f 316) #[.string s] w fun e w'=>e = .returned (.string s) ∧ Below w.heap.size w w' ∧ w.drawn ≤ w'.drawn:=by
 have mixed:=L.mixed
 have t5:=L.t5;have a5:=L.a5;have z5:=L.z5;have v5:=L.v5
 have t9:=L.t9;have a9:=L.a9;have z9:=L.z9;have v9:=L.v9
 have t3:=L.t3;have a3:=L.a3;have z3:=L.z3;have v3:=L.v3
 have t4:=L.t4;have a4:=L.a4;have z4:=L.z4;have v4:=L.v4
 have t37:=L.t37;have a37:=L.a37;have z37:=L.z37;have v37:=L.v37
 have t0:=L.t0;have a0:=L.a0;have z0:=L.z0;have v0:=L.v0
 have t127:=L.t127;have a127:=L.a127;have z127:=L.z127;have v127:=L.v127
 by_cases h0 : s.size = 0
 ·have hs : s = ⟨#[]⟩:=by
   apply ByteArray.ext
   exact Array.eq_empty_of_size_eq_zero h0
  subst hs
  go_enter L.f316,Body.n316_ntmps ρ
  go_wp2
  go_ret
  exact ⟨rfl,Below.refl _ _,Nat.le_refl _⟩
 ·obtain ⟨i0,hi,hz0,hz1,hz2⟩:=info_parts L.i5
  have hinfo : (P.info? (ρ.t 5)).map (·.size) = some 1:=by rw [hi];simp [hz1]
  have hco : P.cellsOf (ρ.t 5) = 1:=by simp [Program.cellsOf,hi,hz1]
  obtain ⟨M,hM⟩ : ∃ M,M = madeCells (Value.int .u8 0).cells (((s.size : Nat) : Int).toNat * i0.size):=⟨_,rfl⟩
  have hMs : M.size = s.size:=by rw [hM,size_madeCells,hz1];simp
  have hmk : ∀ W : World,(Instr.makeSlice (ρ.t 37) (.int .i64 (s.size : Int)) (.int .i64 (s.size : Int))).run P W = .ok (.slice (some ⟨W.heap.size,0,none⟩) s.size s.size) (W.alloc (.cells M (ρ.t 5))):=fun W=>by
   have h:=run_make (P:=P) W (ρ.t 37) (ρ.t 5) i0 (.int .u8 0) L.t37 hi hz0 .i64 .i64 (s.size : Int) (s.size : Int) (by omega) (by omega) (by rw [hz2];omega) (by omega)
   rw [← hM] at h
   simpa using h
  clear hM
  have hcp:=Lib.run_copy_row_string (P:=P) (w.alloc (.cells M (ρ.t 5))) (ρ.t 37) (ρ.t 9) (ρ.t 3) (ρ.t 5) w.heap.size 0 s.size s.size s M (ρ.t 5) L.t37 hinfo (heap_alloc_new w _) (Nat.le_refl _) (by omega)
  obtain ⟨Y,hY⟩ : ∃ Y,Y = (M.toList.take 0 ++ Lib.byteCells s.data.toList ++ M.toList.drop (0 + s.size)).toArray:=⟨_,rfl⟩
  rw [← hY] at hcp
  have hYl : Y.toList = Lib.byteCells s.data.toList:=by
   rw [hY,List.toList_toArray,List.take_zero,List.nil_append,List.drop_of_length_le (by rw [Array.length_toList];omega),List.append_nil]
  have hYs : Y.size = s.size:=by rw [← Array.length_toList,hYl,Lib.byteCells_length,← Lib.size_eq]
  have hgY : ((w.alloc (.cells M (ρ.t 5))).setRow w.heap.size Y).heap[w.heap.size]? = some (.cells Y (ρ.t 5) (0,0)):=setRow_heap _ _ M _ (ρ.t 5) (0,0) (heap_alloc_new w _)
  have hne : s.data.toList ≠ []:=fun e=>h0 (by rw [Lib.size_eq,e];rfl)
  have hUS:=Lib.run_unsafeString_row (P:=P) ((w.alloc (.cells M (ρ.t 5))).setRow w.heap.size Y) (ρ.t 127) (ρ.t 3) (ρ.t 9) (ρ.t 5) L.t127 hco w.heap.size Y.size (by unfold World.shape?;rw [hgY]) s.data.toList hne (by rw [← Lib.size_eq];omega) (by rw [← Lib.size_eq];omega)
   (fun j x hx=>Lib.cells_of_row hgY Y.size j _ (by rw [List.take_of_length_le (by rw [Array.length_toList];exact Nat.le_refl _),hYl];simp [Lib.byteCells,hx]))
  rw [← Lib.size_eq] at hUS
  clear hY
  go_enter L.f316,Body.n316_ntmps ρ
  go_wp2
  go_ret
  have hb1 : Below w.heap.size w (w.alloc (.cells M (ρ.t 5))):=(Below.refl _ w).alloc (Nat.le_refl _) _
  have hb2 : Below w.heap.size (w.alloc (.cells M (ρ.t 5))) ((w.alloc (.cells M (ρ.t 5))).setRow w.heap.size Y):=⟨rfl,rfl,rfl,by simp,fun k hk=>setRow_other _ _ _ _ (by omega)⟩
  exact ⟨rfl,Lib.below_freeze (hb1.trans hb2) (p:=⟨w.heap.size,0,none⟩) (Nat.le_refl _) _,by unfold World.freeze;split <;> exact Nat.le_refl _⟩
set_option maxHeartbeats 6400000 in
set_option maxRecDepth 100000 in
theorem synD (L : LaysM.n279 P ρ) (fn s : ByteArray) (ev : Value) (w : World) (hlim : s.size ≤ 281474976710656) (hv : w.cell? ⟨(ρ.g 15),0,none⟩ = some ev)
 (hev : ev = .nilIface ∨ ∃ te pe,ev = .iface te pe) :
 Calls P (ρ.f 279) #[.string fn,.string s] w fun e w'=>∃ N,e = .returned (.pointer (some ⟨N,0,none⟩)) ∧ w.heap.size ≤ N ∧ w'.heap[N]? = some (.cells #[.string fn,.string s,ev] (ρ.t 210) (0,0)) ∧ Below w.heap.size w w' ∧ w.drawn ≤ w'.drawn:=by
 have mixed:=L.mixed
 have t9:=L.t9;have a9:=L.a9;have z9:=L.z9;have v9:=L.v9
 have t168:=L.t168;have a168:=L.a168;have z168:=L.z168;have v168:=L.v168
 have t75:=L.t75;have a75:=L.a75;have z75:=L.z75;have v75:=L.v75
 have t210:=L.t210;have u210:=run_underlying L.t210;have a210:=L.a210;have z210:=L.z210;have v210:=L.v210
 have e316 : ∀ args w,(callFunc (ρ.f 316) args).run P w = .ok (.enter (ρ.f 316) args) w:=enters_of L.f316 (by kernel_rfl) rfl
 rcases hev with rfl|⟨te,pe,rfl⟩
 all_goals (
  have hG : (ρ.g 15) < w.heap.size:=Lib.lt_of_cell hv
  have hvd : w.drew.cell? ⟨(ρ.g 15),0,none⟩ = some _:=hv
  go_enter L.f279,Body.n279_ntmps ρ
  go_wp2
  go_region_with_o (
   go_at_fn (ρ.f 316)
   refine (cloneD { L with } s _ hlim).mono ?_
   rintro e w2 ⟨rfl,hbel,hdr⟩
   have hv2 : w2.cell? ⟨(ρ.g 15),0,none⟩ = some _:=(hbel.cell (show (⟨(ρ.g 15),0,none⟩ : Addr).block < w.drew.heap.size from hG)).trans hvd)
  all_goals (
   go_wp2
   go_ret
   have hs2 : w.heap.size ≤ w2.heap.size:=hbel.size
   exact ⟨_,rfl,hs2,heap_alloc_new w2 _,((Below.drew (Below.refl _ w)).trans hbel).alloc hs2 _,Nat.le_trans (Nat.le_succ _) hdr⟩))
set_option maxHeartbeats 6400000 in
set_option maxRecDepth 100000 in
theorem rngD (L : LaysM.n280 P ρ) (fn s : ByteArray) (ev : Value) (w : World) (hlim : s.size ≤ 281474976710656) (hv : w.cell? ⟨(ρ.g 16),0,none⟩ = some ev)
 (hev : ev = .nilIface ∨ ∃ te pe,ev = .iface te pe) :
 Calls P (ρ.f 280) #[.string fn,.string s] w fun e w'=>∃ N,e = .returned (.pointer (some ⟨N,0,none⟩)) ∧ w.heap.size ≤ N ∧ w'.heap[N]? = some (.cells #[.string fn,.string s,ev] (ρ.t 210) (0,0)) ∧ Below w.heap.size w w' ∧ w.drawn ≤ w'.drawn:=by
 have mixed:=L.mixed
 have t9:=L.t9;have a9:=L.a9;have z9:=L.z9;have v9:=L.v9
 have t168:=L.t168;have a168:=L.a168;have z168:=L.z168;have v168:=L.v168
 have t75:=L.t75;have a75:=L.a75;have z75:=L.z75;have v75:=L.v75
 have t210:=L.t210;have u210:=run_underlying L.t210;have a210:=L.a210;have z210:=L.z210;have v210:=L.v210
 have e316 : ∀ args w,(callFunc (ρ.f 316) args).run P w = .ok (.enter (ρ.f 316) args) w:=enters_of L.f316 (by kernel_rfl) rfl
 rcases hev with rfl|⟨te,pe,rfl⟩
 all_goals (
  have hG : (ρ.g 16) < w.heap.size:=Lib.lt_of_cell hv
  have hvd : w.drew.cell? ⟨(ρ.g 16),0,none⟩ = some _:=hv
  go_enter L.f280,Body.n280_ntmps ρ
  go_wp2
  go_region_with_o (
   go_at_fn (ρ.f 316)
   refine (cloneD { L with } s _ hlim).mono ?_
   rintro e w2 ⟨rfl,hbel,hdr⟩
   have hv2 : w2.cell? ⟨(ρ.g 16),0,none⟩ = some _:=(hbel.cell (show (⟨(ρ.g 16),0,none⟩ : Addr).block < w.drew.heap.size from hG)).trans hvd)
  all_goals (
   go_wp2
   go_ret
   have hs2 : w.heap.size ≤ w2.heap.size:=hbel.size
   exact ⟨_,rfl,hs2,heap_alloc_new w2 _,((Below.drew (Below.refl _ w)).trans hbel).alloc hs2 _,Nat.le_trans (Nat.le_succ _) hdr⟩))
set_option maxHeartbeats 6400000 in
set_option maxRecDepth 100000 in
theorem toErrS (L : LaysC.n245 P ρ) (fn s : ByteArray) (base bits : Int) (ev : Value) (w : World) (hlim : s.size ≤ 281474976710656) (hv : w.cell? ⟨(ρ.g 15),0,none⟩ = some ev) (hev : ev = .nilIface ∨ ∃ te pe,ev = .iface te pe) :
 Calls P (ρ.f 245) #[.string fn,.string s,.int .i64 base,.int .i64 bits,.iface (ρ.t 167) (.int .i64 2)] w fun e w'=>∃ N,e = .returned (.iface (ρ.t 168) (.pointer (some ⟨N,0,none⟩))) ∧ w.heap.size ≤ N ∧ w'.heap[N]? = some (.cells #[.string fn,.string s,ev] (ρ.t 210) (0,0)) ∧ Below w.heap.size w w' ∧ w.drawn ≤ w'.drawn:=by
 have mixed:=L.mixed
 have t9:=L.t9;have a9:=L.a9;have z9:=L.z9;have v9:=L.v9
 have t3:=L.t3;have a3:=L.a3;have z3:=L.z3;have v3:=L.v3
 have t75:=L.t75;have a75:=L.a75;have z75:=L.z75;have v75:=L.v75
 have t167:=L.t167;have a167:=L.a167;have z167:=L.z167;have v167:=L.v167
 have t4:=L.t4;have a4:=L.a4;have z4:=L.z4;have v4:=L.v4
 have t168:=L.t168;have a168:=L.a168;have z168:=L.z168;have v168:=L.v168
 have e279 : ∀ args w,(callFunc (ρ.f 279) args).run P w = .ok (.enter (ρ.f 279) args) w:=enters_of L.f279 (by kernel_rfl) rfl
 have heq : ∀ W,(binOp .eql (ρ.t 75) (.iface (ρ.t 167) (.int .i64 2)) (.iface (ρ.t 167) (.int .i64 2))).run P W = .ok (.bool true) W:=fun W=>Lib.run_eql_iface_int W 2 2 L.t75 L.c167 L.t167
 go_enter L.f245,Body.n245_ntmps ρ
 go_wp2_with (go_at_fn (ρ.f 279);refine (synD { L with } fn s ev _ hlim ?_ hev).mono ?_)
 ·exact hv
 rintro e w2 ⟨N,rfl,h1,h2,h3⟩
 go_wp2
 go_ret
 exact ⟨N,rfl,h1,h2,h3⟩
set_option maxHeartbeats 6400000 in
set_option maxRecDepth 100000 in
theorem toErrR (L : LaysC.n245 P ρ) (fn s : ByteArray) (base bits : Int) (ev : Value) (w : World) (hlim : s.size ≤ 281474976710656) (hv : w.cell? ⟨(ρ.g 16),0,none⟩ = some ev) (hev : ev = .nilIface ∨ ∃ te pe,ev = .iface te pe) :
 Calls P (ρ.f 245) #[.string fn,.string s,.int .i64 base,.int .i64 bits,.iface (ρ.t 167) (.int .i64 1)] w fun e w'=>∃ N,e = .returned (.iface (ρ.t 168) (.pointer (some ⟨N,0,none⟩))) ∧ w.heap.size ≤ N ∧ w'.heap[N]? = some (.cells #[.string fn,.string s,ev] (ρ.t 210) (0,0)) ∧ Below w.heap.size w w' ∧ w.drawn ≤ w'.drawn:=by
 have mixed:=L.mixed
 have t9:=L.t9;have a9:=L.a9;have z9:=L.z9;have v9:=L.v9
 have t3:=L.t3;have a3:=L.a3;have z3:=L.z3;have v3:=L.v3
 have t75:=L.t75;have a75:=L.a75;have z75:=L.z75;have v75:=L.v75
 have t167:=L.t167;have a167:=L.a167;have z167:=L.z167;have v167:=L.v167
 have t4:=L.t4;have a4:=L.a4;have z4:=L.z4;have v4:=L.v4
 have t168:=L.t168;have a168:=L.a168;have z168:=L.z168;have v168:=L.v168
 have e280 : ∀ args w,(callFunc (ρ.f 280) args).run P w = .ok (.enter (ρ.f 280) args) w:=enters_of L.f280 (by kernel_rfl) rfl
 have hq12 : ∀ W,(binOp .eql (ρ.t 75) (.iface (ρ.t 167) (.int .i64 1)) (.iface (ρ.t 167) (.int .i64 2))).run P W = .ok (.bool false) W:=fun W=>Lib.run_eql_iface_int W 1 2 L.t75 L.c167 L.t167
 have hq11 : ∀ W,(binOp .eql (ρ.t 75) (.iface (ρ.t 167) (.int .i64 1)) (.iface (ρ.t 167) (.int .i64 1))).run P W = .ok (.bool true) W:=fun W=>Lib.run_eql_iface_int W 1 1 L.t75 L.c167 L.t167
 go_enter L.f245,Body.n245_ntmps ρ
 go_wp2_with (go_at_fn (ρ.f 280);refine (rngD { L with } fn s ev _ hlim ?_ hev).mono ?_)
 ·exact hv
 rintro e w2 ⟨N,rfl,h1,h2,h3⟩
 go_wp2
 go_ret
 exact ⟨N,rfl,h1,h2,h3⟩
end
end Go.Proofs.YtbibemijcdkjhaaGreatDoor
end
section
namespace Go.Proofs.YtbibemijcdkjhaaGreatDoor
open Go.Am Go.RowKit Go.Sort
def LW (w : World) : Prop:=Lib.TabIs Tryz.prog w "internal/strconv.uint64pow10" .u64 Lib.pow10Tab ∧
 (∃ ev,w.cell? ⟨1,0,none⟩ = some ev ∧ (ev = .nilIface ∨ ∃ te pe,ev = .iface te pe)) ∧ ∃ ev,w.cell? ⟨2,0,none⟩ = some ev ∧ (ev = .nilIface ∨ ∃ te pe,ev = .iface te pe)
theorem stays_cell {w w' : World} {b : Nat} {v : Value} (hb : Bel w.heap.size w w') (h : w.cell? ⟨b,0,none⟩ = some v) : w'.cell? ⟨b,0,none⟩ = some v :=
 (hb.toBelow.cell (show (⟨b,0,none⟩ : Addr).block < w.heap.size from Lib.lt_of_cell h)).trans h
theorem stays_LW : Stays LW:=by
 rintro w w' ⟨h1,⟨e2,h2,g2⟩,e3,h3,g3⟩ hb
 refine ⟨?_,⟨e2,stays_cell hb h2,g2⟩,e3,stays_cell hb h3,g3⟩
 unfold Lib.TabIs World.var? at h1 ⊢
 cases hg : Tryz.prog.globalNamed "internal/strconv.uint64pow10" with
 |none=>simp [hg] at h1
 |some g =>
  simp only [hg,Option.bind_some] at h1 ⊢
  have hlt : g < w.heap.size:=by
   rcases Nat.lt_or_ge g w.heap.size with h'|h'
   ·exact h'
   ·simp [Array.getElem?_eq_none h'] at h1
  rw [hb.block g hlt]
  exact h1
abbrev strB (l : List UInt8) : AV:=.v (.string ⟨l.toArray⟩)
theorem bel_grow {w : World} {k : Nat} {os : Array Obj} : Bel w.heap.size w (grow (w.drewN k) os) :=
 ⟨⟨rfl,rfl,rfl,by simp [grow,World.drewN],fun j hj=>by simp only [grow,World.drewN];rw [Array.getElem?_append_left hj]⟩,Nat.le_add_right _ _⟩
theorem pspecL_grow {L : World → Prop} {f : FuncId} {args : List AV} {v : Value} (he : Ent Tryz.prog f) (hv : okV v = true)
 (h : ∀ (H : Heap) (w : World) (vs : List Value),L w → RepL H rho0 args vs → Calls Tryz.prog f vs.toArray w fun e w'=>e = .returned v ∧ ∃ k os,w' = grow (w.drewN k) os) : PSpecL Tryz.prog L f args (.v v):=by
 refine ⟨he,fun H w vs hl hext hr=>Calls.mono (h H w vs hl hr) ?_⟩
 rintro e w' ⟨rfl,k,os,rfl⟩
 exact ⟨H,v,rfl,H.le_refl,fun b o u h1 h2=>(by rw [h2] at h1;cases h1),hext.of_below bel_grow,.v hv,bel_grow⟩
theorem s_itoa (n : Int) (h0 : -9223372036854775808 ≤ n) (h1 : n ≤ 9223372036854775807) : PSpecL Tryz.prog LW 47 [iA n] (strB (Lib.itoa n)):=by
 refine pspecL_grow (ent_of Tryz.func47 rfl rfl) rfl fun H w vs hl hr=>?_
 obtain ⟨v,vs,rfl,hv,hr⟩:=hr.cons_inv
 obtain rfl:=hr.nil_inv
 rw [hv.v_inv]
 exact Any.strconv_Itoa Tryz.itoaL n h0 h1 w hl.1
theorem s_fmt (n : Int) (h0 : -9223372036854775808 ≤ n) (h1 : n ≤ 9223372036854775807) : PSpecL Tryz.prog LW 77 [iA n,iA 10] (strB (Lib.itoa n)):=by
 refine pspecL_grow (ent_of Tryz.func77 rfl rfl) rfl fun H w vs hl hr=>?_
 obtain ⟨v,vs,rfl,hv,hr⟩:=hr.cons_inv
 obtain ⟨u,vs,rfl,hu,hr⟩:=hr.cons_inv
 obtain rfl:=hr.nil_inv
 rw [hv.v_inv,hu.v_inv]
 exact Any.strconv_FormatInt_10 Tryz.fmtL n h0 h1 w hl.1
abbrev errA (k : Int) : AV:=.ifc 158 (iA k)
abbrev numA : AV:=.ifc 161 .w
theorem s_toErr (fn s : ByteArray) (b c k : Int) (hs : s.size ≤ 1000000) (hk : k = 1 ∨ k = 2) : PSpecL Tryz.prog LW 108 [.v (.string fn),.v (.string s),iA b,iA c,errA k] numA:=by
 refine ⟨ent_of Tryz.func108 rfl rfl,fun H w vs hl hext hr=>?_⟩
 obtain ⟨v1,vs,rfl,h1,hr⟩:=hr.cons_inv
 obtain ⟨v2,vs,rfl,h2,hr⟩:=hr.cons_inv
 obtain ⟨v3,vs,rfl,h3,hr⟩:=hr.cons_inv
 obtain ⟨v4,vs,rfl,h4,hr⟩:=hr.cons_inv
 obtain ⟨v5,vs,rfl,h5,hr⟩:=hr.cons_inv
 obtain rfl:=hr.nil_inv
 rw [h1.v_inv,h2.v_inv,h3.v_inv,h4.v_inv,ifc_val h5]
 obtain ⟨-,⟨e2,g2,i2⟩,e3,g3,i3⟩:=hl
 have fin : ∀ {e : Ending} {w' : World} {ev : Value},(∃ N,e = .returned (.iface 161 (.pointer (some ⟨N,0,none⟩))) ∧ w.heap.size ≤ N ∧ w'.heap[N]? = some (.cells #[.string fn,.string s,ev] 181 (0,0)) ∧ Below w.heap.size w w' ∧ w.drawn ≤ w'.drawn) →
  ∃ H' v,e = .returned v ∧ H.le H' ∧ (∀ b o u,H' b o = some u → H b o = none → w.heap.size ≤ b) ∧ Ext H' w' ∧ Rep H' rho0 numA v ∧ Bel w.heap.size w w':=by
  rintro e w' ev ⟨N,rfl, -, -,hb,hd⟩
  exact ⟨H,_,rfl,H.le_refl,fun b o u h1 h2=>(by rw [h2] at h1;cases h1),hext.of_below ⟨hb,hd⟩,.ifc (.w rfl),hb,hd⟩
 rcases hk with rfl|rfl
 ·exact Calls.mono (toErrR Tryz.toErrL fn s b c e3 w (by omega) g3 i3) fun e w' h=>fin h
 ·exact Calls.mono (toErrS Tryz.toErrL fn s b c e2 w (by omega) g2 i2) fun e w' h=>fin h
end Go.Proofs.YtbibemijcdkjhaaGreatDoor
end
section
namespace Go.Proofs.YtbibemijcdkjhaaGreatDoor
open Go.Am Go.RowKit
set_option maxHeartbeats 4000000 in
theorem c_indexByte (s : ByteArray) (c : Int) (w : World) :
 Calls Tryz.prog 143 #[.string s,.int .u8 c] w fun e w'=>e = .returned (.int .i64 (Lib.indexByte s.data.toList c.toNat.toUInt8)) ∧ w' = w:=by
 have mixed : Tryz.prog.follows .mixedOrders = true:=by kernel_rfl
 have t3:=Tryz.underlying3;have t5:=Tryz.underlying5;have t9:=Tryz.underlying9
 have a3:=Tryz.isAgg3;have a5:=Tryz.isAgg5;have a9:=Tryz.isAgg9
 have z3:=Tryz.sizeOf3;have v3:=Tryz.zeroValue3;have z5:=Tryz.sizeOf5;have v5:=Tryz.zeroValue5;have z9:=Tryz.sizeOf9;have v9:=Tryz.zeroValue9
 go_enter Tryz.func143,Tryz.ntmps143
 go_wp2
 rw [run_callFunc_extern Tryz.func158 (by kernel_rfl) (by kernel_rfl) (by kernel_rfl) (e:=Extern.BytealgIndexByte.indexByte) (by kernel_rfl),Lib.run_indexByteString]
 simp only [Result.andThen]
 rw [Oper.upon_value]
 go_wp2
 go_ret
 exact ⟨rfl,rfl⟩
end Go.Proofs.YtbibemijcdkjhaaGreatDoor
end
section
namespace Go.Proofs.YtbibemijcdkjhaaGreatDoor
open Go.Am Go.RowKit
@[simp] theorem size_ba (a : Array UInt8) : (ByteArray.mk a).size = a.size:=rfl
@[simp] theorem ba_empty (a : Array UInt8) : (ByteArray.mk a = ByteArray.empty) = (a = #[]):=by
  apply propext
  constructor
  ·intro h
   exact congrArg ByteArray.data h
  ·rintro rfl
   rfl
theorem s_indexByte (l : List UInt8) : PSpec Tryz.prog 143 [strB l,.v (.int .u8 10)] (iA (Lib.indexByte l 10)):=by
 refine ⟨ent_of Tryz.func143 rfl rfl,fun H w vs hext hr=>?_⟩
 obtain ⟨v1,vs,rfl,h1,hr⟩:=hr.cons_inv
 obtain ⟨v2,vs,rfl,h2,hr⟩:=hr.cons_inv
 obtain rfl:=hr.nil_inv
 rw [h1.v_inv,h2.v_inv]
 refine Calls.mono (c_indexByte ⟨l.toArray⟩ 10 w) ?_
 rintro e w' ⟨rfl,rfl⟩
 exact ⟨H,_,rfl,H.le_refl,fun b o u h1 h2=>(by rw [h2] at h1;cases h1),hext,by simpa using Rep.v rfl,Bel.refl _ _⟩
theorem s_ixS (l : List UInt8) : PSpec Tryz.prog 124 [strB l,strB [10]] (iA (Lib.indexByte l 10)):=by
 have hi:=Hld.mk (s_indexByte l)
 refine PSpec_of Tryz.func124 rfl rfl (Nat.le_of_ble_eq_true rfl) (Nat.le_of_ble_eq_true rfl) ?_
 intro E hE
 repeat' (first
  |(with_reducible first|refine uK ?_|refine uQ ?_|refine uX ?_|refine jq fun K hK=>?_|refine jb ?_)|(with_reducible refine rS hE ?_;simp [*])|with_reducible refine rL hE ?_|(((with_reducible show RK _ _ _ _ _ _);first|refine jn ?_|refine js fun K' hK'=>?_);simp [*])|with_reducible refine rD mixed hE ?_|((with_reducible show RKQ _ _ _ _ _ _);first|refine RKQ_nilk ⟨by decide,?_⟩|(refine jv fun K' hK'=>?_;simp [*]))|((with_reducible first|refine ji fun X Y hX hY=>?_|refine jr ?_|refine jk ?_|refine jx ?_);simp [*])|((first|refine jC (hi.out) ?_ ?_ ?_|refine jQ (hi.out) ?_ ?_ ?_);(iterate 2 focus (simp [*] <;> fail));simp [*])|with_reducible refine And.intro ?_ ?_|omega|(refine imp1 fun h=>?_))
 rename_i h
 subst h
 rfl
theorem index_no : ∀ {l : List UInt8},10 ∉ l → Lib.indexByte l 10 = -1
 |[],_=>rfl
 |b :: l,h=>by
  simp only [List.mem_cons,not_or] at h
  have ih:=index_no h.2
  unfold Lib.indexByte
  rw [if_neg (by simpa using fun e=>h.1 e.symm),ih]
  rfl
theorem index_at : ∀ {a r : List UInt8},10 ∉ a → Lib.indexByte (a ++ 10 :: r) 10 = a.length
 |[],_,_=>by simp [Lib.indexByte]
 |b :: a,r,h=>by
  simp only [List.mem_cons,not_or] at h
  have ih:=index_at (r:=r) h.2
  rw [List.cons_append]
  unfold Lib.indexByte
  rw [if_neg (by simpa using fun e=>h.1 e.symm),ih,if_neg (by simp only [beq_iff_eq];omega)]
  simp
theorem extract_mk (l : List UInt8) (a b : Nat) : (ByteArray.mk l.toArray).extract a b = ⟨((l.take b).drop a).toArray⟩:=by
 apply ByteArray.ext
 rw [ByteArray.data_extract]
 apply Array.ext'
 simp [List.extract_eq_take_drop,List.drop_take]
theorem size_mk (l : List UInt8) : (ByteArray.mk l.toArray).size = l.length:=by simp
theorem s_cutY (a r : List UInt8) (h : 10 ∉ a) (hl : (a ++ 10 :: r).length ≤ 1000000) : PSpec Tryz.prog 106 [strB (a ++ 10 :: r),strB [10]] (.tup [strB a,strB r,bA true]):=by
 have hi : PSpec Tryz.prog 124 [.v (.string ⟨(a ++ 10 :: r).toArray⟩),strB [10]] (iA (Lib.indexByte (a ++ 10 :: r) 10)):=s_ixS (a ++ 10 :: r)
 rw [index_at h] at hi
 have e1 : (ByteArray.mk (a ++ 10 :: r).toArray).extract 0 a.length = ⟨a.toArray⟩:=by rw [extract_mk];simp
 have e2 : (ByteArray.mk (a ++ 10 :: r).toArray).extract (a.length + 1) (a.length + (r.length + 1)) = ⟨r.toArray⟩:=by
  rw [extract_mk,List.take_of_length_le (by simp)]
  simp [List.drop_append]
 have hal : a.length + (r.length + 1) ≤ 1000000:=by simpa using hl
 have hsz : (ByteArray.mk (a ++ 10 :: r).toArray).size = a.length + (r.length + 1):=by rw [size_mk];simp
 have htn : ((a.length : Int) + ((r.length : Int) + 1)).toNat = a.length + (r.length + 1):=by omega
 show PSpec Tryz.prog _ [.v (.string ⟨(a ++ 10 :: r).toArray⟩),strB [10]] _
 generalize ByteArray.mk (a ++ 10 :: r).toArray = S at *
 clear h hl
 replace hi:=Hld.mk hi
 refine PSpec_of Tryz.func106 rfl rfl (Nat.le_of_ble_eq_true rfl) (Nat.le_of_ble_eq_true rfl) ?_
 intro E hE
 repeat' (first
  |(with_reducible first|refine uK ?_|refine uX ?_|refine jq fun K hK=>?_|refine jb ?_)|((with_reducible first|refine rS hE ?_|refine jn ?_|refine js fun K' hK'=>?_|refine ji fun X Y hX hY=>?_|refine jr ?_|refine jk ?_|refine jx ?_);simp [*])|with_reducible refine rL hE ?_|(refine jC (hi.out) ?_ ?_ ?_;(iterate 2 focus (simp [*] <;> fail));simp [*])|with_reducible refine And.intro ?_ ?_|omega|(refine imp1 fun h=>?_))
 refine AW_drawHd ⟨[(0,.v (.string S)),(1,strB [10]),(7,iA a.length)],[]⟩ mixed (by simp) fun E' hE'=>?_
 have hEn:=hE'.trans hE
 repeat' (first
  |(with_reducible first|refine useK (by assumption) ?_|refine useK3 (by assumption) ?_)|((with_reducible show DHd _ _ _ _ _ _ _);first|(refine DHd_done (by decide +kernel) ?_;try simp only [thenK,inBlk])|(refine dt hEn 0 fun K' hK'=>?_;simp [*];fail_if_success (with_reducible show False))|(refine dt hEn 1 fun K' hK'=>?_;simp [*];fail_if_success (with_reducible show False))|(refine dt hEn 2 fun K' hK'=>?_;simp [*];fail_if_success (with_reducible show False))|(refine dt hEn 3 fun K' hK'=>?_;simp [*];fail_if_success (with_reducible show False))|(refine dt hEn 4 fun K' hK'=>?_;simp [*];fail_if_success (with_reducible show False))|(refine dt hEn 5 fun K' hK'=>?_;simp [*];fail_if_success (with_reducible show False))|(refine dt hEn 6 fun K' hK'=>?_;simp [*];fail_if_success (with_reducible show False))|(refine dt hEn 7 fun K' hK'=>?_;simp [*];fail_if_success (with_reducible show False))|(refine dt hEn 8 fun K' hK'=>?_;simp [*];fail_if_success (with_reducible show False))|(refine dt hEn 9 fun K' hK'=>?_;simp [*];fail_if_success (with_reducible show False))|(refine dt hEn 10 fun K' hK'=>?_;simp [*];fail_if_success (with_reducible show False))|(refine dt hEn 11 fun K' hK'=>?_;simp [*];fail_if_success (with_reducible show False))|(refine dp hEn 0 fun K' hK'=>?_;simp [*];fail_if_success (with_reducible show False))|(refine dp hEn 1 fun K' hK'=>?_;simp [*];fail_if_success (with_reducible show False))|(refine dp hEn 2 fun K' hK'=>?_;simp [*];fail_if_success (with_reducible show False))|(refine dp hEn 3 fun K' hK'=>?_;simp [*];fail_if_success (with_reducible show False))|(refine dp hEn 4 fun K' hK'=>?_;simp [*];fail_if_success (with_reducible show False))|(refine dp hEn 5 fun K' hK'=>?_;simp [*];fail_if_success (with_reducible show False))|(refine dp hEn 6 fun K' hK'=>?_;simp [*];fail_if_success (with_reducible show False))|(refine dp hEn 7 fun K' hK'=>?_;simp [*];fail_if_success (with_reducible show False))|(refine dp hEn 8 fun K' hK'=>?_;simp [*];fail_if_success (with_reducible show False))|(refine dp hEn 9 fun K' hK'=>?_;simp [*];fail_if_success (with_reducible show False))|(refine dp hEn 10 fun K' hK'=>?_;simp [*];fail_if_success (with_reducible show False))|(refine dp hEn 11 fun K' hK'=>?_;simp [*];fail_if_success (with_reducible show False))|refine DHd_any rfl (by decide +kernel) ?_)|exact DHsome_nil|refine DHsome_no (by decide +kernel) ?_|(refine DHsome_yes (by exact rfl) rfl (by rw [hEn];decide) (fun K' hK'=>?_) ?_;simp [*];fail_if_success (with_reducible show False))|(refine DHsome_yesG (by exact rfl) rfl (by exact rfl) (by rw [hEn];decide) (fun K' hK'=>?_) ?_;simp [*];fail_if_success (with_reducible show False))|with_reducible refine And.intro ?_ ?_|omega|(with_reducible refine imp1 fun h=>?_))
 all_goals
  repeat' (first
   |(with_reducible first|refine uK ?_|refine uQ ?_|refine uX ?_|refine jq fun K hK=>?_|refine jb ?_)|(with_reducible refine rS hE ?_;simp [*])|with_reducible refine rL hE ?_|(((with_reducible show RK _ _ _ _ _ _);first|refine jn ?_|refine js fun K' hK'=>?_);simp [*])|with_reducible refine rD mixed hE ?_|((with_reducible show RKQ _ _ _ _ _ _);first|refine RKQ_nilk ⟨by decide,?_⟩|(refine jv fun K' hK'=>?_;simp [*]))|((with_reducible first|refine ji fun X Y hX hY=>?_|refine jr ?_|refine jk ?_|refine jx ?_);simp [*])|with_reducible refine And.intro ?_ ?_|omega|(refine imp1 fun h=>?_))
theorem s_cutN (l : List UInt8) (h : 10 ∉ l) : PSpec Tryz.prog 106 [strB l,strB [10]] (.tup [strB l,strB [],bA false]):=by
 have hi:=s_ixS l
 rw [index_no h] at hi
 clear h
 replace hi:=Hld.mk hi
 refine PSpec_of Tryz.func106 rfl rfl (Nat.le_of_ble_eq_true rfl) (Nat.le_of_ble_eq_true rfl) ?_
 intro E hE
 repeat' (first
  |(with_reducible first|refine useK (by assumption) ?_|refine useK2 (by assumption) ?_|refine useX (by assumption) ?_|refine AW_seqk fun K hK=>?_|refine AW_block ?_)|(with_reducible refine AW_regionS rfl (by rw [hE];decide) ?_;simp [*])|with_reducible refine AW_region (by rw [hE];decide) ?_|((with_reducible show RK _ _ _ _ _ _);first|(refine RK_nilk ?_;simp [*])|(refine RK_stepk fun K' hK'=>?_;simp [*]))|with_reducible refine AW_drawq3 (by decide) mixed (by rw [hE];decide) (by simp [newOK]) ?_|((with_reducible show RKQ _ _ _ _ _ _);first|refine RKQ_nilk ⟨by decide,?_⟩|(refine RKQ_stepk fun K' hK'=>?_;simp [*]))|((with_reducible first|refine AW_if fun X Y hX hY=>?_|refine AW_ret ?_|refine AW_skip ?_|refine AW_exit ?_);simp [*])|((first|refine acall_same (hi.out) ?_ ?_ ?_|refine call_same (hi.out) ?_ ?_ ?_);(focus (simp [*] <;> fail));(focus (simp [*] <;> fail));simp [*])|((first|refine acall_view (hi.out) ?_ ?_ ?_|refine call_view (hi.out) ?_ ?_ ?_);(focus (simp [*] <;> fail));(focus (simp [*] <;> fail));simp [*])|with_reducible refine And.intro ?_ ?_|omega|(refine imp1 fun h=>?_))
abbrev u64A (n : Int) : AV:=.v (.int .u64 n)
def lwI (c : UInt8) : Int:=bitsV .or .u8 c.toNat 32
theorem s_lower (c : UInt8) : PSpec Tryz.prog 147 [.v (.int .u8 c.toNat)] (.v (.int .u8 (lwI c))):=by
 refine PSpec_of Tryz.func147 rfl rfl (Nat.le_of_ble_eq_true rfl) (Nat.le_of_ble_eq_true rfl) ?_
 intro E hE
 repeat' (first
  |(with_reducible first|refine uK ?_|refine uX ?_|refine jq fun K hK=>?_|refine jb ?_)|((with_reducible first|refine rS hE ?_|refine jn ?_|refine js fun K' hK'=>?_|refine ji fun X Y hX hY=>?_|refine jr ?_|refine jk ?_|refine jx ?_);simp [*,lwI])|with_reducible refine rL hE ?_|with_reducible refine And.intro ?_ ?_|omega|(refine imp1 fun h=>?_))
@[simp] theorem okE : okT Tryz.prog 158 = true:=by kernel_rfl
@[simp] theorem okNE : okT Tryz.prog 161 = true:=by kernel_rfl
theorem wu8 {n : Int} (h0 : 0 ≤ n) (h1 : n ≤ 255) : IntKind.u8.wrap n = n:=wrap_in .u8 h0 h1
theorem wu64 {n : Int} (h0 : 0 ≤ n) (h1 : n ≤ 18446744073709551615) : IntKind.u64.wrap n = n:=wrap_in .u64 h0 h1
theorem wu64o {n : Int} (h0 : 18446744073709551616 ≤ n) (h1 : n ≤ 36893488147419103231) : IntKind.u64.wrap n = n - 18446744073709551616:=by
 simp only [IntKind.wrap,IntKind.signed,IntKind.bits]
 simp
 omega
def puV (n : Nat) : List UInt8 → AV
 |[]=>.tup [u64A n,.v .nilIface]
 |c :: l=>if 48 ≤ c.toNat ∧ c.toNat ≤ 57 then (if 18446744073709551615 < 10 * n + (c.toNat - 48) then .tup [u64A 18446744073709551615,errA 1] else puV (10 * n + (c.toNat - 48)) l) else .tup [u64A 0,errA 2]
set_option maxHeartbeats 4000000 in
theorem s_pu (l : List UInt8) (hne : l ≠ []) (hl : l.length ≤ 1000000) (R : AV) (hR : puV 0 l = R) : PSpec Tryz.prog 125 [strB l,iA 10,iA 64] R:=by
 have w1 : IntKind.u64.wrap 64 = 64:=by decide
 have w2 : IntKind.u64.wrap 18446744073709551616 = 0:=by decide
 have w3 : IntKind.u64.wrap (-1) = 18446744073709551615:=by decide
 have w4 : IntKind.u8.wrap 10 = 10:=by decide
 have w5 : IntKind.u64.wrap 10 = 10:=by decide
 replace hR:=Hld.mk hR
 refine PSpec_of Tryz.func125 rfl rfl (Nat.le_of_ble_eq_true rfl) (Nat.le_of_ble_eq_true rfl) ?_
 intro E hE
 repeat' (first
  |(with_reducible first|refine uK ?_|refine uQ ?_|refine uX ?_|refine jq fun K hK=>?_|refine jb ?_)|(with_reducible refine rS hE ?_;simp [*])|with_reducible refine rL hE ?_|(((with_reducible show RK _ _ _ _ _ _);first|refine jn ?_|refine js fun K' hK'=>?_);simp [*])|with_reducible refine rD mixed hE ?_|((with_reducible show RKQ _ _ _ _ _ _);first|refine RKQ_nilk ⟨by decide,?_⟩|(refine jv fun K' hK'=>?_;simp [*]))|((with_reducible first|refine ji fun X Y hX hY=>?_|refine jr ?_|refine jk ?_|refine jx ?_);simp [*])|with_reducible refine And.intro ?_ ?_|omega|(refine imp1 fun h=>?_))
 clear w1 w2 w3 hne
 refine AW_loopk (G:=Nat × Nat) (fun g=>⟨[(101,iA g.1),(100,iA l.length),(99,.sl 1 (l.map byteA)),(13,u64A g.2),(12,bA false),(11,u64A 18446744073709551615),(10,u64A 1844674407370955162),(8,bA false),(1,iA 10),(7,.v .nilIface),(6,u64A 0)],[]⟩)
  (fun g=>g.1 ≤ l.length ∧ g.2 ≤ 18446744073709551615 ∧ Hld (puV g.2 (l.drop g.1) = R)) (fun g=>l.length - g.1) (0,0) ⟨by omega,by omega,by simpa using hR⟩ (by simp) ?_
 rintro ⟨i,n⟩ ⟨hi,hn,hv⟩ K hK
 clear hR
 simp only at hi hn hv
 by_cases hlt : i < l.length
 ·have hd : l.drop i = l[i] :: l.drop (i + 1):=List.drop_eq_getElem_cons hlt
  have hv':=hv.out
  rw [hd] at hv'
  unfold puV at hv'
  have hb : byteA l[i] = .v (.int .u8 (l[i].toNat : Int)):=rfl
  have hc : l[i].toNat < 256:=UInt8.toNat_lt _
  have hlw:=Hld.mk (s_lower l[i])
  generalize lwI l[i] = r at *
  generalize l[i].toNat = C at *
  clear hd hv
  by_cases hD : 48 ≤ C ∧ C ≤ 57
  ·obtain ⟨D,hCD⟩ : ∃ D,C = D + 48:=⟨C - 48,by omega⟩
   rw [if_pos hD,show C - 48 = D by omega] at hv'
   have k1 : IntKind.u8.wrap ((C : Int) - 48) = D:=by rw [wu8 (by omega) (by omega)];omega
   have k2 : IntKind.u64.wrap (D : Int) = D:=wu64 (by omega) (by omega)
   have b1 : (48 : Int) ≤ (C : Int):=by omega
   have b2 : (C : Int) ≤ 57:=by omega
   have b3 : ¬ (C : Int) = 95:=by omega
   have b4 : ¬ (10 : Int) ≤ (D : Int):=by omega
   have hD9 : D ≤ 9:=by omega
   clear hCD hD hc
   by_cases hcut : 1844674407370955162 ≤ n
   ·rw [if_pos (by omega)] at hv'
    subst hv'
    have b5 : (1844674407370955162 : Int) ≤ (n : Int):=by omega
    repeat' (first
     |(with_reducible first|refine uK ?_|refine uQ ?_|refine uX ?_|refine jq fun K hK=>?_|refine jb ?_)|(with_reducible refine rS hE ?_;simp [*])|with_reducible refine rL hE ?_|(((with_reducible show RK _ _ _ _ _ _);first|refine jn ?_|refine js fun K' hK'=>?_);simp [*])|with_reducible refine rD mixed hE ?_|((with_reducible show RKQ _ _ _ _ _ _);first|refine RKQ_nilk ⟨by decide,?_⟩|(refine jv fun K' hK'=>?_;simp [*]))|((with_reducible first|refine ji fun X Y hX hY=>?_|refine jr ?_|refine jk ?_|refine jx ?_);simp [*])|with_reducible refine And.intro ?_ ?_|omega|(refine imp1 fun h=>?_))
   ·have b5 : ¬ (1844674407370955162 : Int) ≤ (n : Int):=by omega
    have k3 : IntKind.u64.wrap ((n : Int) * 10) = ((10 * n : Nat) : Int):=by rw [wu64 (by omega) (by omega)];omega
    by_cases hov : 18446744073709551615 < 10 * n + D
    ·rw [if_pos hov] at hv'
     subst hv'
     have k4 : IntKind.u64.wrap (((10 * n : Nat) : Int) + D) = ((10 * n + D - 18446744073709551616 : Nat) : Int):=by
      rw [wu64o (by omega) (by omega)];omega
     have b6 : ((10 * n + D - 18446744073709551616 : Nat) : Int) < ((10 * n : Nat) : Int):=by omega
     generalize ((10 * n + D - 18446744073709551616 : Nat) : Int) = z at *
     generalize ((10 * n : Nat) : Int) = y at *
     repeat' (first
      |(with_reducible first|refine uK ?_|refine uQ ?_|refine uX ?_|refine jq fun K hK=>?_|refine jb ?_)|(with_reducible refine rS hE ?_;simp [*])|with_reducible refine rL hE ?_|(((with_reducible show RK _ _ _ _ _ _);first|refine jn ?_|refine js fun K' hK'=>?_);simp [*])|with_reducible refine rD mixed hE ?_|((with_reducible show RKQ _ _ _ _ _ _);first|refine RKQ_nilk ⟨by decide,?_⟩|(refine jv fun K' hK'=>?_;simp [*]))|((with_reducible first|refine ji fun X Y hX hY=>?_|refine jr ?_|refine jk ?_|refine jx ?_);simp [*])|with_reducible refine And.intro ?_ ?_|omega|(refine imp1 fun h=>?_))
    ·rw [if_neg hov] at hv'
     have k4 : IntKind.u64.wrap (((10 * n : Nat) : Int) + D) = ((10 * n + D : Nat) : Int):=by
      rw [wu64 (by omega) (by omega)];omega
     have b6 : ¬ ((10 * n + D : Nat) : Int) < ((10 * n : Nat) : Int):=by omega
     have b7 : ¬ (18446744073709551615 : Int) < ((10 * n + D : Nat) : Int):=by omega
     have e5 : 10 * n + D ≤ 18446744073709551615:=by omega
     generalize 10 * n + D = y at *
     generalize ((10 * n : Nat) : Int) = z at *
     replace hv':=Hld.mk hv'
     repeat' (first
      |(with_reducible first|refine uK ?_|refine uQ ?_|refine uX ?_|refine jq fun K hK=>?_|refine jb ?_)|(with_reducible refine rS hE ?_;simp [*])|with_reducible refine rL hE ?_|(((with_reducible show RK _ _ _ _ _ _);first|refine jn ?_|refine js fun K' hK'=>?_);simp [*])|with_reducible refine rD mixed hE ?_|((with_reducible show RKQ _ _ _ _ _ _);first|refine RKQ_nilk ⟨by decide,?_⟩|(refine jv fun K' hK'=>?_;simp [*]))|((with_reducible first|refine ji fun X Y hX hY=>?_|refine jr ?_|refine jk ?_|refine jx ?_);simp [*])|with_reducible refine And.intro ?_ ?_|omega|(refine imp1 fun h=>?_))
     all_goals exact ⟨(i + 1,y),⟨by simp only;omega,e5,hv'⟩,by simp only;omega,by simp⟩
  ·rw [if_neg hD] at hv'
   subst hv'
   have b3 : ¬ ((48 : Int) ≤ (C : Int) ∧ (C : Int) ≤ 57):=by omega
   clear hD hc
   by_cases hr : 97 ≤ r ∧ r ≤ 122
   ·obtain ⟨q,hw,hq⟩ : ∃ q,IntKind.u8.wrap (IntKind.u8.wrap (r - 97) + 10) = q ∧ 10 ≤ q:=by
     rw [wu8 (n:=r - 97) (by omega) (by omega),wu8 (by omega) (by omega)]
     exact ⟨_,rfl,by omega⟩
    have r1:=hr.1
    have r2:=hr.2
    clear hr
    by_cases h95 : (C : Int) = 95
    ·repeat' (first
      |(with_reducible first|refine uK ?_|refine uQ ?_|refine uX ?_|refine jq fun K hK=>?_|refine jb ?_)|(with_reducible refine rS hE ?_;simp [*])|with_reducible refine rL hE ?_|(((with_reducible show RK _ _ _ _ _ _);first|refine jn ?_|refine js fun K' hK'=>?_);simp [*])|with_reducible refine rD mixed hE ?_|((with_reducible show RKQ _ _ _ _ _ _);first|refine RKQ_nilk ⟨by decide,?_⟩|(refine jv fun K' hK'=>?_;simp [*]))|((with_reducible first|refine ji fun X Y hX hY=>?_|refine jr ?_|refine jk ?_|refine jx ?_);simp [*])|((first|refine jC (hlw.out) ?_ ?_ ?_|refine jQ (hlw.out) ?_ ?_ ?_);(iterate 2 focus (simp [*] <;> fail));simp [*])|with_reducible refine And.intro ?_ ?_|omega|(refine imp1 fun h=>?_))
    ·repeat' (first
      |(with_reducible first|refine uK ?_|refine uQ ?_|refine uX ?_|refine jq fun K hK=>?_|refine jb ?_)|(with_reducible refine rS hE ?_;simp [*])|with_reducible refine rL hE ?_|(((with_reducible show RK _ _ _ _ _ _);first|refine jn ?_|refine js fun K' hK'=>?_);simp [*])|with_reducible refine rD mixed hE ?_|((with_reducible show RKQ _ _ _ _ _ _);first|refine RKQ_nilk ⟨by decide,?_⟩|(refine jv fun K' hK'=>?_;simp [*]))|((with_reducible first|refine ji fun X Y hX hY=>?_|refine jr ?_|refine jk ?_|refine jx ?_);simp [*])|((first|refine jC (hlw.out) ?_ ?_ ?_|refine jQ (hlw.out) ?_ ?_ ?_);(iterate 2 focus (simp [*] <;> fail));simp [*])|with_reducible refine And.intro ?_ ?_|omega|(refine imp1 fun h=>?_))
   ·by_cases h95 : (C : Int) = 95
    ·repeat' (first
      |(with_reducible first|refine uK ?_|refine uQ ?_|refine uX ?_|refine jq fun K hK=>?_|refine jb ?_)|(with_reducible refine rS hE ?_;simp [*])|with_reducible refine rL hE ?_|(((with_reducible show RK _ _ _ _ _ _);first|refine jn ?_|refine js fun K' hK'=>?_);simp [*])|with_reducible refine rD mixed hE ?_|((with_reducible show RKQ _ _ _ _ _ _);first|refine RKQ_nilk ⟨by decide,?_⟩|(refine jv fun K' hK'=>?_;simp [*]))|((with_reducible first|refine ji fun X Y hX hY=>?_|refine jr ?_|refine jk ?_|refine jx ?_);simp [*])|((first|refine jC (hlw.out) ?_ ?_ ?_|refine jQ (hlw.out) ?_ ?_ ?_);(iterate 2 focus (simp [*] <;> fail));simp [*])|with_reducible refine And.intro ?_ ?_|omega|(refine imp1 fun h=>?_))
    ·repeat' (first
      |(with_reducible first|refine uK ?_|refine uQ ?_|refine uX ?_|refine jq fun K hK=>?_|refine jb ?_)|(with_reducible refine rS hE ?_;simp [*])|with_reducible refine rL hE ?_|(((with_reducible show RK _ _ _ _ _ _);first|refine jn ?_|refine js fun K' hK'=>?_);simp [*])|with_reducible refine rD mixed hE ?_|((with_reducible show RKQ _ _ _ _ _ _);first|refine RKQ_nilk ⟨by decide,?_⟩|(refine jv fun K' hK'=>?_;simp [*]))|((with_reducible first|refine ji fun X Y hX hY=>?_|refine jr ?_|refine jk ?_|refine jx ?_);simp [*])|((first|refine jC (hlw.out) ?_ ?_ ?_|refine jQ (hlw.out) ?_ ?_ ?_);(iterate 2 focus (simp [*] <;> fail));simp [*])|with_reducible refine And.intro ?_ ?_|omega|(refine imp1 fun h=>?_))
 ·have hil : i = l.length:=by omega
  have hv':=hv.out
  rw [List.drop_of_length_le (by omega)] at hv'
  unfold puV at hv'
  subst hil
  subst hv'
  clear hv hn hlt
  repeat' (first
   |(with_reducible first|refine uK ?_|refine uQ ?_|refine uX ?_|refine jq fun K hK=>?_|refine jb ?_)|(with_reducible refine rS hE ?_;simp [*])|with_reducible refine rL hE ?_|(((with_reducible show RK _ _ _ _ _ _);first|refine jn ?_|refine js fun K' hK'=>?_);simp [*])|with_reducible refine rD mixed hE ?_|((with_reducible show RKQ _ _ _ _ _ _);first|refine RKQ_nilk ⟨by decide,?_⟩|(refine jv fun K' hK'=>?_;simp [*]))|((with_reducible first|refine ji fun X Y hX hY=>?_|refine jr ?_|refine jk ?_|refine jx ?_);simp [*])|with_reducible refine And.intro ?_ ?_|omega|(refine imp1 fun h=>?_))
end Go.Proofs.YtbibemijcdkjhaaGreatDoor
end
section
namespace Go.Proofs.YtbibemijcdkjhaaGreatDoor
open Go.Am Go.RowKit
@[simp] theorem cmpE : (∃ a,Tryz.prog.info? 158 = some a ∧ a.comparable = true):=by
  have h : (Tryz.prog.info? 158).map (·.comparable) = some true:=by kernel_rfl
  simpa using h
section
variable {P : Program} {T t : TypeId} {x : AV} {xc yc : Bool} {cont : AV → Prop}
@[simp] theorem qbin_in : qbin P .neq T (.ifc t x) (.v .nilIface) xc yc cont = nilCmp P T (.ifc t x) (.v .nilIface) xc yc (fun r=>cont (.v (.bool (!r)))):=rfl
@[simp] theorem qbin_ie : qbin P .eql T (.ifc t x) (.v .nilIface) xc yc cont = nilCmp P T (.ifc t x) (.v .nilIface) xc yc (fun r=>cont (.v (.bool r))):=rfl
@[simp] theorem qbin_nn : qbin P .neq T (.v .nilIface) (.v .nilIface) xc yc cont = nilCmp P T (.v .nilIface) (.v .nilIface) xc yc (fun r=>cont (.v (.bool (!r)))):=rfl
end
inductive OutI : Bool → AV → AV → Prop
 |syn (neg : Bool) : OutI neg (.tup [u64A 0,errA 2]) (.tup [iA 0,errA 2])
 |rngP : OutI false (.tup [u64A 18446744073709551615,errA 1]) (.tup [iA 9223372036854775807,errA 1])
 |rngN : OutI true (.tup [u64A 18446744073709551615,errA 1]) (.tup [iA (-9223372036854775808),errA 1])
 |bigP (m : Int) (h : 9223372036854775808 ≤ m) : OutI false (.tup [u64A m,.v .nilIface]) (.tup [iA 9223372036854775807,errA 1])
 |bigN (m : Int) (h : 9223372036854775808 < m) : OutI true (.tup [u64A m,.v .nilIface]) (.tup [iA (-9223372036854775808),errA 1])
 |okP (m : Int) (h0 : 0 ≤ m) (h : m < 9223372036854775808) : OutI false (.tup [u64A m,.v .nilIface]) (.tup [iA m,.v .nilIface])
 |okN (m : Int) (h0 : 0 ≤ m) (h : m < 9223372036854775808) : OutI true (.tup [u64A m,.v .nilIface]) (.tup [iA (-m),.v .nilIface])
 |minN : OutI true (.tup [u64A 9223372036854775808,.v .nilIface]) (.tup [iA (-9223372036854775808),.v .nilIface])
theorem wi64 {n : Int} (h0 : 0 ≤ n) (h1 : n ≤ 9223372036854775807) : IntKind.i64.wrap n = n:=wrap_in .i64 (show (-9223372036854775808 : Int) ≤ n by omega) h1
set_option maxHeartbeats 8000000 in
theorem s_ipi (c : UInt8) (r t : List UInt8) (neg : Bool) (R Q : AV)
 (hcase : (c = 43 ∧ t = r ∧ neg = false) ∨ (c = 45 ∧ t = r ∧ neg = true) ∨ (c ≠ 43 ∧ c ≠ 45 ∧ t = c :: r ∧ neg = false))
 (hpu : PSpec Tryz.prog 125 [strB t,iA 10,iA 64] R) (hQ : OutI neg R Q) : PSpec Tryz.prog 107 [strB (c :: r),iA 10,iA 64] Q:=by
 have w1 : IntKind.u64.wrap 63 = 63:=by decide
 have w2 : IntKind.u64.wrap 9223372036854775808 = 9223372036854775808:=by decide
 have w3 : IntKind.u64.wrap 9223372036854775807 = 9223372036854775807:=by decide
 have w4 : IntKind.i64.wrap 9223372036854775807 = 9223372036854775807:=by decide
 have w5 : IntKind.i64.wrap 9223372036854775808 = -9223372036854775808:=by decide
 have hx : (ByteArray.mk (c :: r).toArray).extract 1 (r.length + 1) = ⟨r.toArray⟩:=by rw [extract_mk,List.take_of_length_le (by simp)];rfl
 replace hpu:=Hld.mk hpu
 rcases hcase with ⟨rfl,rfl,rfl⟩|⟨rfl,rfl,rfl⟩|⟨c1,c2,rfl,rfl⟩
 ·cases hQ with
  |okP m h0 h =>
   have w6 : IntKind.i64.wrap m = m:=wi64 h0 (by omega)
   refine PSpec_of Tryz.func107 rfl rfl (Nat.le_of_ble_eq_true rfl) (Nat.le_of_ble_eq_true rfl) ?_
   intro E hE
   repeat' (first
    |(with_reducible first|refine uK ?_|refine uQ ?_|refine uX ?_|refine jq fun K hK=>?_|refine jb ?_)|(with_reducible refine rS hE ?_;simp [*])|with_reducible refine rL hE ?_|(((with_reducible show RK _ _ _ _ _ _);first|refine jn ?_|refine js fun K' hK'=>?_);simp [*])|with_reducible refine rD mixed hE ?_|((with_reducible show RKQ _ _ _ _ _ _);first|refine RKQ_nilk ⟨by decide,?_⟩|(refine jv fun K' hK'=>?_;simp [*]))|((with_reducible first|refine ji fun X Y hX hY=>?_|refine jr ?_|refine jk ?_|refine jx ?_);simp [*])|((first|refine jC (hpu.out) ?_ ?_ ?_|refine jQ (hpu.out) ?_ ?_ ?_);(iterate 2 focus (simp [*] <;> fail));simp [*])|with_reducible refine And.intro ?_ ?_|omega|(refine imp1 fun h=>?_))
  |_ =>
   refine PSpec_of Tryz.func107 rfl rfl (Nat.le_of_ble_eq_true rfl) (Nat.le_of_ble_eq_true rfl) ?_
   intro E hE
   repeat' (first
    |(with_reducible first|refine uK ?_|refine uQ ?_|refine uX ?_|refine jq fun K hK=>?_|refine jb ?_)|(with_reducible refine rS hE ?_;simp [*])|with_reducible refine rL hE ?_|(((with_reducible show RK _ _ _ _ _ _);first|refine jn ?_|refine js fun K' hK'=>?_);simp [*])|with_reducible refine rD mixed hE ?_|((with_reducible show RKQ _ _ _ _ _ _);first|refine RKQ_nilk ⟨by decide,?_⟩|(refine jv fun K' hK'=>?_;simp [*]))|((with_reducible first|refine ji fun X Y hX hY=>?_|refine jr ?_|refine jk ?_|refine jx ?_);simp [*])|((first|refine jC (hpu.out) ?_ ?_ ?_|refine jQ (hpu.out) ?_ ?_ ?_);(iterate 2 focus (simp [*] <;> fail));simp [*])|with_reducible refine And.intro ?_ ?_|omega|(refine imp1 fun h=>?_))
 ·cases hQ with
  |okN m h0 h =>
   have w6 : IntKind.i64.wrap m = m:=wi64 h0 (by omega)
   refine PSpec_of Tryz.func107 rfl rfl (Nat.le_of_ble_eq_true rfl) (Nat.le_of_ble_eq_true rfl) ?_
   intro E hE
   repeat' (first
    |(with_reducible first|refine uK ?_|refine uQ ?_|refine uX ?_|refine jq fun K hK=>?_|refine jb ?_)|(with_reducible refine rS hE ?_;simp [*])|with_reducible refine rL hE ?_|(((with_reducible show RK _ _ _ _ _ _);first|refine jn ?_|refine js fun K' hK'=>?_);simp [*])|with_reducible refine rD mixed hE ?_|((with_reducible show RKQ _ _ _ _ _ _);first|refine RKQ_nilk ⟨by decide,?_⟩|(refine jv fun K' hK'=>?_;simp [*]))|((with_reducible first|refine ji fun X Y hX hY=>?_|refine jr ?_|refine jk ?_|refine jx ?_);simp [*])|((first|refine jC (hpu.out) ?_ ?_ ?_|refine jQ (hpu.out) ?_ ?_ ?_);(iterate 2 focus (simp [*] <;> fail));simp [*])|with_reducible refine And.intro ?_ ?_|omega|(refine imp1 fun h=>?_))
  |_ =>
   refine PSpec_of Tryz.func107 rfl rfl (Nat.le_of_ble_eq_true rfl) (Nat.le_of_ble_eq_true rfl) ?_
   intro E hE
   repeat' (first
    |(with_reducible first|refine uK ?_|refine uQ ?_|refine uX ?_|refine jq fun K hK=>?_|refine jb ?_)|(with_reducible refine rS hE ?_;simp [*])|with_reducible refine rL hE ?_|(((with_reducible show RK _ _ _ _ _ _);first|refine jn ?_|refine js fun K' hK'=>?_);simp [*])|with_reducible refine rD mixed hE ?_|((with_reducible show RKQ _ _ _ _ _ _);first|refine RKQ_nilk ⟨by decide,?_⟩|(refine jv fun K' hK'=>?_;simp [*]))|((with_reducible first|refine ji fun X Y hX hY=>?_|refine jr ?_|refine jk ?_|refine jx ?_);simp [*])|((first|refine jC (hpu.out) ?_ ?_ ?_|refine jQ (hpu.out) ?_ ?_ ?_);(iterate 2 focus (simp [*] <;> fail));simp [*])|with_reducible refine And.intro ?_ ?_|omega|(refine imp1 fun h=>?_))
 ·have c3 : ¬ (c.toNat : Int) = 43:=fun e=>c1 (UInt8.toNat_inj.1 (by simpa using (by omega : c.toNat = 43)))
  have c4 : ¬ (c.toNat : Int) = 45:=fun e=>c2 (UInt8.toNat_inj.1 (by simpa using (by omega : c.toNat = 45)))
  clear c1 c2 hx
  cases hQ with
  |okP m h0 h =>
   have w6 : IntKind.i64.wrap m = m:=wi64 h0 (by omega)
   refine PSpec_of Tryz.func107 rfl rfl (Nat.le_of_ble_eq_true rfl) (Nat.le_of_ble_eq_true rfl) ?_
   intro E hE
   repeat' (first
    |(with_reducible first|refine uK ?_|refine uQ ?_|refine uX ?_|refine jq fun K hK=>?_|refine jb ?_)|(with_reducible refine rS hE ?_;simp [*])|with_reducible refine rL hE ?_|(((with_reducible show RK _ _ _ _ _ _);first|refine jn ?_|refine js fun K' hK'=>?_);simp [*])|with_reducible refine rD mixed hE ?_|((with_reducible show RKQ _ _ _ _ _ _);first|refine RKQ_nilk ⟨by decide,?_⟩|(refine jv fun K' hK'=>?_;simp [*]))|((with_reducible first|refine ji fun X Y hX hY=>?_|refine jr ?_|refine jk ?_|refine jx ?_);simp [*])|((first|refine jC (hpu.out) ?_ ?_ ?_|refine jQ (hpu.out) ?_ ?_ ?_);(iterate 2 focus (simp [*] <;> fail));simp [*])|with_reducible refine And.intro ?_ ?_|omega|(refine imp1 fun h=>?_))
  |_ =>
   refine PSpec_of Tryz.func107 rfl rfl (Nat.le_of_ble_eq_true rfl) (Nat.le_of_ble_eq_true rfl) ?_
   intro E hE
   repeat' (first
    |(with_reducible first|refine uK ?_|refine uQ ?_|refine uX ?_|refine jq fun K hK=>?_|refine jb ?_)|(with_reducible refine rS hE ?_;simp [*])|with_reducible refine rL hE ?_|(((with_reducible show RK _ _ _ _ _ _);first|refine jn ?_|refine js fun K' hK'=>?_);simp [*])|with_reducible refine rD mixed hE ?_|((with_reducible show RKQ _ _ _ _ _ _);first|refine RKQ_nilk ⟨by decide,?_⟩|(refine jv fun K' hK'=>?_;simp [*]))|((with_reducible first|refine ji fun X Y hX hY=>?_|refine jr ?_|refine jk ?_|refine jx ?_);simp [*])|((first|refine jC (hpu.out) ?_ ?_ ?_|refine jQ (hpu.out) ?_ ?_ ?_);(iterate 2 focus (simp [*] <;> fail));simp [*])|with_reducible refine And.intro ?_ ?_|omega|(refine imp1 fun h=>?_))
theorem s_ipi0 : PSpec Tryz.prog 107 [strB [],iA 10,iA 64] (.tup [iA 0,errA 2]):=by
 refine PSpec_of Tryz.func107 rfl rfl (Nat.le_of_ble_eq_true rfl) (Nat.le_of_ble_eq_true rfl) ?_
 intro E hE
 repeat' (first
  |(with_reducible first|refine uK ?_|refine uQ ?_|refine uX ?_|refine jq fun K hK=>?_|refine jb ?_)|(with_reducible refine rS hE ?_;simp [*])|with_reducible refine rL hE ?_|(((with_reducible show RK _ _ _ _ _ _);first|refine jn ?_|refine js fun K' hK'=>?_);simp [*])|with_reducible refine rD mixed hE ?_|((with_reducible show RKQ _ _ _ _ _ _);first|refine RKQ_nilk ⟨by decide,?_⟩|(refine jv fun K' hK'=>?_;simp [*]))|((with_reducible first|refine ji fun X Y hX hY=>?_|refine jr ?_|refine jk ?_|refine jx ?_);simp [*])|with_reducible refine And.intro ?_ ?_|omega|(refine imp1 fun h=>?_))
theorem s_pu0 : PSpec Tryz.prog 125 [strB [],iA 10,iA 64] (.tup [u64A 0,errA 2]):=by
 refine PSpec_of Tryz.func125 rfl rfl (Nat.le_of_ble_eq_true rfl) (Nat.le_of_ble_eq_true rfl) ?_
 intro E hE
 repeat' (first
  |(with_reducible first|refine uK ?_|refine uQ ?_|refine uX ?_|refine jq fun K hK=>?_|refine jb ?_)|(with_reducible refine rS hE ?_;simp [*])|with_reducible refine rL hE ?_|(((with_reducible show RK _ _ _ _ _ _);first|refine jn ?_|refine js fun K' hK'=>?_);simp [*])|with_reducible refine rD mixed hE ?_|((with_reducible show RKQ _ _ _ _ _ _);first|refine RKQ_nilk ⟨by decide,?_⟩|(refine jv fun K' hK'=>?_;simp [*]))|((with_reducible first|refine ji fun X Y hX hY=>?_|refine jr ?_|refine jk ?_|refine jx ?_);simp [*])|with_reducible refine And.intro ?_ ?_|omega|(refine imp1 fun h=>?_))
end Go.Proofs.YtbibemijcdkjhaaGreatDoor
end
section
namespace Go.Num
open Go.Lib
abbrev isD (c : UInt8) : Prop:=48 ≤ c.toNat ∧ c.toNat ≤ 57
def valD (n : Nat) (l : List UInt8) : Nat:=l.foldl (fun n c=>10 * n + (c.toNat - 48)) n
theorem valD_nil (n : Nat) : valD n [] = n:=rfl
theorem valD_cons (n : Nat) (c : UInt8) (l : List UInt8) : valD n (c :: l) = valD (10 * n + (c.toNat - 48)) l:=by
 unfold valD
 rw [List.foldl_cons]
theorem valD_app (n : Nat) (a b : List UInt8) : valD n (a ++ b) = valD (valD n a) b:=by
 unfold valD
 rw [List.foldl_append]
theorem valD_ge (n : Nat) (l : List UInt8) : n ≤ valD n l:=by
 induction l generalizing n with
 |nil=>exact Nat.le_refl _
 |cons c l ih=>rw [valD_cons];exact Nat.le_trans (by omega) (ih _)
theorem d48 {u : Nat} (h : u < 10) : (UInt8.ofNat (48 + u)).toNat = 48 + u:=by
 rw [UInt8.toNat_ofNat'];omega
theorem dec_small {u : Nat} (h : u < 10) : decDigits u = [UInt8.ofNat (48 + u)]:=by rw [decDigits,dif_pos h]
theorem dec_big {u : Nat} (h : ¬ u < 10) : decDigits u = decDigits (u / 10) ++ [UInt8.ofNat (48 + u % 10)]:=by rw [decDigits,dif_neg h]
theorem dec_val (u : Nat) : valD 0 (decDigits u) = u:=by
 induction u using Nat.strongRecOn with
 |ind u ih =>
  by_cases h : u < 10
  ·rw [dec_small h,valD_cons,valD_nil]
   rw [d48 h]
   omega
  ·rw [dec_big h,valD_app,ih (u / 10) (by omega)]
   rw [valD_cons,valD_nil]
   rw [d48 (Nat.mod_lt _ (by decide))]
   omega
theorem dec_digits (u : Nat) : ∀ c ∈ decDigits u,isD c:=by
 induction u using Nat.strongRecOn with
 |ind u ih =>
  by_cases h : u < 10
  ·rw [dec_small h]
   intro c hc
   rw [List.mem_singleton] at hc
   subst hc
   unfold isD
   rw [d48 h];omega
  ·rw [dec_big h]
   intro c hc
   rw [List.mem_append,List.mem_singleton] at hc
   rcases hc with hc|rfl
   ·exact ih _ (by omega) c hc
   ·unfold isD
    rw [d48 (Nat.mod_lt _ (by decide))];omega
theorem dec_ne (u : Nat) : decDigits u ≠ []:=by
 by_cases h : u < 10
 ·rw [dec_small h];simp
 ·rw [dec_big h];simp
theorem dec_head {u : Nat} (h : u ≠ 0) : ∃ c l,decDigits u = c :: l ∧ c ≠ 48:=by
 induction u using Nat.strongRecOn with
 |ind u ih =>
  by_cases h10 : u < 10
  ·refine ⟨_,_,dec_small h10,fun e=>h ?_⟩
   have:=congrArg UInt8.toNat e
   rw [d48 h10] at this
   simp at this
   omega
  ·obtain ⟨c,l,e,hc⟩:=ih (u / 10) (by omega) (by omega)
   exact ⟨c,_,by rw [dec_big h10,e];rfl,hc⟩
theorem dec_len {u : Nat} (k : Nat) (hk : 0 < k) (h : u < 10 ^ k) : (decDigits u).length ≤ k:=by
 induction k generalizing u with
 |zero=>omega
 |succ k ih =>
  by_cases h10 : u < 10
  ·rw [dec_small h10];simp
  ·rw [dec_big h10,List.length_append]
   have hk0 : 0 < k:=by
    rcases Nat.eq_zero_or_pos k with rfl|h'
    ·simp at h;omega
    ·exact h'
   have:=ih (u:=u / 10) hk0 (by rw [Nat.pow_succ] at h;omega)
   simp;omega
theorem dec_of : ∀ (k : Nat) (l : List UInt8),l.length = k → l ≠ [] → (∀ c ∈ l,isD c) → (l.length = 1 ∨ ∃ c t,l = c :: t ∧ c ≠ 48) → decDigits (valD 0 l) = l
 |0,l,hk,hne,_,_=>(hne (List.length_eq_zero_iff.1 hk)).elim
 |k + 1,l,hk,hne,hd,hh=>by
  obtain ⟨a,d,rfl⟩ : ∃ a d,l = a ++ [d]:=⟨l.dropLast,l.getLast hne,(List.dropLast_concat_getLast hne).symm⟩
  have hdd : isD d:=hd d (by simp)
  have hdr : UInt8.ofNat (48 + (d.toNat - 48)) = d:=by
   apply UInt8.toNat_inj.1
   rw [d48 (by unfold isD at hdd;omega)]
   unfold isD at hdd
   omega
  rw [valD_app,valD_cons,valD_nil]
  rcases List.eq_nil_or_concat a with rfl|_
  ·rw [valD_nil,List.nil_append]
   rw [dec_small (by unfold isD at hdd;omega)]
   rw [show 10 * 0 + (d.toNat - 48) = d.toNat - 48 by omega,hdr]
  ·have ha : a ≠ []:=by rename_i h;obtain ⟨_,_,rfl⟩:=h;simp
   have hah : ∃ c t,a = c :: t ∧ c ≠ 48:=by
    rcases hh with h1|⟨c,t,h1,h2⟩
    ·simp at h1;exact (ha h1).elim
    ·cases a with
     |nil=>exact (ha rfl).elim
     |cons c' a' =>
      simp only [List.cons_append,List.cons.injEq] at h1
      exact ⟨c',a',rfl,h1.1 ▸ h2⟩
   have ih:=dec_of k a (by simp at hk;exact hk) ha (fun c hc=>hd c (by simp [hc])) (.inr hah)
   have hpos : 1 ≤ valD 0 a:=by
    obtain ⟨c,t,rfl,hc⟩:=hah
    have hcd : isD c:=hd c (by simp)
    have : c.toNat ≠ 48:=fun e=>hc (UInt8.toNat_inj.1 (by simpa using e))
    rw [valD_cons]
    exact Nat.le_trans (by unfold isD at hcd;omega) (valD_ge _ t)
   unfold isD at hdd
   rw [dec_big (by omega),show (10 * valD 0 a + (d.toNat - 48)) / 10 = valD 0 a by omega,ih,show (10 * valD 0 a + (d.toNat - 48)) % 10 = d.toNat - 48 by omega,hdr]
theorem p19 : 10 ^ 19 = 10000000000000000000:=by decide
def vGo (n : Nat) : List UInt8 → Option Nat
 |[]=>some n
 |c :: l=>if isD c then (if (4611686018427387904 - (c.toNat - 48)) / 10 < n then none else vGo (10 * n + (c.toNat - 48)) l) else none
theorem vGo_some {n m : Nat} {l : List UInt8} (h : vGo n l = some m) (hn : n ≤ 4611686018427387904) : (∀ c ∈ l,isD c) ∧ m = valD n l ∧ m ≤ 4611686018427387904:=by
 induction l generalizing n with
 |nil=>simp [vGo] at h;subst h;exact ⟨by simp,rfl,hn⟩
 |cons c l ih =>
  unfold vGo at h
  split at h
  ·rename_i hc
   split at h
   ·cases h
   ·rename_i hle
    obtain ⟨h1,h2,h3⟩:=ih h (by unfold isD at hc;omega)
    refine ⟨fun x hx=>?_,h2,h3⟩
    rcases List.mem_cons.1 hx with rfl|hx
    ·exact hc
    ·exact h1 x hx
  ·cases h
theorem vGo_of {n : Nat} {l : List UInt8} (hd : ∀ c ∈ l,isD c) (h : valD n l ≤ 4611686018427387904) : vGo n l = some (valD n l):=by
 induction l generalizing n with
 |nil=>rfl
 |cons c l ih =>
  have hc : isD c:=hd c (by simp)
  rw [valD_cons] at h ⊢
  unfold vGo
  rw [if_pos hc]
  have:=valD_ge (10 * n + (c.toNat - 48)) l
  rw [if_neg (by unfold isD at hc;omega)]
  exact ih (fun x hx=>hd x (by simp [hx])) h
def digs : List UInt8 → List UInt8
 |45 :: r=>r
 |l=>l
def bad (line : List UInt8) : Prop:=digs line = [] ∨ 19 < (digs line).length ∨ ((digs line).head? = some 48 ∧ line ≠ [48])
instance (l : List UInt8) : Decidable (bad l):=by unfold bad;infer_instance
def sgn (line : List UInt8) (n : Nat) : Int:=if digs line = line then (n : Int) else -(n : Int)
def valueS (line : List UInt8) : Option Int:=if bad line then none else Option.map (sgn line) (vGo 0 (digs line))
theorem digs_neg (r : List UInt8) : digs (45 :: r) = r:=rfl
theorem digs_pos {c : UInt8} {r : List UInt8} (h : c ≠ 45) : digs (c :: r) = c :: r:=by
 unfold digs
 split
 ·rename_i h2;simp at h2;exact (h h2.1).elim
 ·rfl
theorem dec_45 {u : Nat} {c : UInt8} {r : List UInt8} (h : decDigits u = c :: r) : c ≠ 45:=by
 rintro rfl
 have:=dec_digits u 45 (by rw [h];simp)
 unfold isD at this
 simp at this
theorem digs_dec (u : Nat) : digs (decDigits u) = decDigits u:=by
 cases h : decDigits u with
 |nil=>rfl
 |cons c r=>exact digs_pos (dec_45 h)
theorem dec_head48 {u : Nat} (h : (decDigits u).head? = some 48) : u = 0:=by
 by_cases hu : u = 0
 ·exact hu
 ·obtain ⟨c,l,e,hc⟩:=dec_head hu
  rw [e] at h
  simp at h
  exact (hc h).elim
theorem val_itoa (n : Int) (h0 : -4611686018427387904 ≤ n) (h1 : n ≤ 4611686018427387904) : valueS (itoa n) = some n:=by
 unfold itoa
 by_cases hn : n < 0
 ·rw [if_pos hn]
  have hu : n.natAbs ≠ 0:=by omega
  have hb : ¬ bad (45 :: decDigits n.natAbs):=by
   unfold bad
   rw [digs_neg]
   rintro (h|h|⟨h, -⟩)
   ·exact dec_ne _ h
   ·have:=dec_len (u:=n.natAbs) 19 (by decide) (by rw [p19];omega)
    omega
   ·exact hu (dec_head48 h)
  unfold valueS
  rw [if_neg hb,digs_neg,vGo_of (dec_digits _) (by rw [dec_val];omega),dec_val]
  have : decDigits n.natAbs ≠ 45 :: decDigits n.natAbs:=fun e=>by have:=congrArg List.length e;simp at this
  have hs : sgn (45 :: decDigits n.natAbs) n.natAbs = n:=by
   unfold sgn
   rw [if_neg (by rw [digs_neg];exact this)]
   omega
  rw [Option.map_some,hs]
 ·rw [if_neg hn]
  have hb : ¬ bad (decDigits n.toNat):=by
   unfold bad
   rw [digs_dec]
   rintro (h|h|⟨h,h2⟩)
   ·exact dec_ne _ h
   ·have:=dec_len (u:=n.toNat) 19 (by decide) (by rw [p19];omega)
    omega
   ·exact h2 (by rw [dec_head48 h];rw [dec_small (by decide)];rfl)
  unfold valueS
  rw [if_neg hb,digs_dec,vGo_of (dec_digits _) (by rw [dec_val];omega),dec_val]
  simp only [Option.map_some,sgn,digs_dec,if_true]
  congr 1
  omega
theorem val_some {line : List UInt8} {n : Int} (h : valueS line = some n) : line = itoa n ∧ -4611686018427387904 ≤ n ∧ n ≤ 4611686018427387904:=by
 unfold valueS at h
 split at h
 ·cases h
 ·rename_i hb
  rw [Option.map_eq_some_iff] at h
  obtain ⟨m,hm,rfl⟩:=h
  obtain ⟨hd,rfl,hle⟩:=vGo_some hm (by omega)
  unfold bad at hb
  simp only [not_or,not_and,Decidable.not_not] at hb
  obtain ⟨b1,b2,b3⟩:=hb
  cases line with
  |nil=>exact (b1 rfl).elim
  |cons c r =>
   by_cases hc : c = 45
   ·subst hc
    rw [digs_neg] at *
    have hne : r ≠ 45 :: r:=fun e=>by have:=congrArg List.length e;simp at this
    have hh : ∃ c t,r = c :: t ∧ c ≠ 48:=by
     cases r with
     |nil=>exact (b1 rfl).elim
     |cons c t =>
      refine ⟨c,t,rfl,?_⟩
      rintro rfl
      have:=b3 rfl
      simp at this
    have he:=dec_of _ r rfl b1 hd (.inr hh)
    have hpos : 1 ≤ valD 0 r:=by
     obtain ⟨c,t,rfl,hc⟩:=hh
     have hcd : isD c:=hd c (by simp)
     have : c.toNat ≠ 48:=fun e=>hc (UInt8.toNat_inj.1 (by simpa using e))
     rw [valD_cons]
     exact Nat.le_trans (by unfold isD at hcd;omega) (valD_ge _ t)
    unfold sgn
    rw [digs_neg,if_neg hne]
    refine ⟨?_,by omega,by omega⟩
    unfold itoa
    rw [if_pos (by omega),show (-(valD 0 r : Int)).natAbs = valD 0 r by omega,he]
   ·rw [digs_pos hc] at *
    have hh : (c :: r).length = 1 ∨ ∃ c' t,c :: r = c' :: t ∧ c' ≠ 48:=by
     by_cases h48 : c = 48
     ·subst h48
      have:=b3 rfl
      simp at this
      subst this
      exact .inl rfl
     ·exact .inr ⟨c,r,rfl,h48⟩
    have he:=dec_of _ (c :: r) rfl b1 hd hh
    unfold sgn
    rw [digs_pos hc,if_pos rfl]
    refine ⟨?_,by omega,by omega⟩
    unfold itoa
    rw [if_neg (by omega),show ((valD 0 (c :: r) : Int)).toNat = valD 0 (c :: r) by omega,he]
theorem itoa_ne (n : Int) : itoa n ≠ []:=by
 unfold itoa
 split
 ·simp
 ·exact dec_ne _
theorem itoa_len (n : Int) (h0 : -9223372036854775808 ≤ n) (h1 : n ≤ 9223372036854775807) : (itoa n).length ≤ 20:=by
 unfold itoa
 split
 ·have:=dec_len (u:=n.natAbs) 19 (by decide) (by rw [p19];omega)
  simp;omega
 ·have:=dec_len (u:=n.toNat) 19 (by decide) (by rw [p19];omega)
  omega
theorem itoa_10 (n : Int) : 10 ∉ itoa n:=by
 have key : ∀ u,(10 : UInt8) ∉ decDigits u:=fun u h=>by
  have:=dec_digits u 10 h
  unfold isD at this
  simp at this
 unfold itoa
 split
 ·rw [List.mem_cons]
  rintro (h|h)
  ·simp at h
  ·exact key _ h
 ·exact key _
end Go.Num
end
section
namespace Go.Proofs.YtbibemijcdkjhaaGreatDoor
open Go.Am Go.RowKit Go.Num
theorem puV_nil (n : Nat) : puV n [] = .tup [u64A n,.v .nilIface]:=by unfold puV;rfl
theorem puV_out (l : List UInt8) : ∀ n : Nat,n ≤ 18446744073709551615 → (∃ m : Nat,m ≤ 18446744073709551615 ∧ puV n l = .tup [u64A m,.v .nilIface]) ∨ puV n l = .tup [u64A 18446744073709551615,errA 1] ∨ puV n l = .tup [u64A 0,errA 2]:=by
 induction l with
 |nil=>intro n hn;exact .inl ⟨n,hn,puV_nil n⟩
 |cons c l ih =>
  intro n hn
  unfold puV
  split
  ·split
   ·exact .inr (.inl rfl)
   ·exact ih _ (by omega)
  ·exact .inr (.inr rfl)
theorem puV_dig (l : List UInt8) : ∀ n : Nat,(∀ c ∈ l,isD c) → valD n l ≤ 18446744073709551615 → puV n l = .tup [u64A (valD n l : Nat),.v .nilIface]:=by
 induction l with
 |nil=>intro n _ _;exact puV_nil n
 |cons c l ih =>
  intro n hd h
  have hc : isD c:=hd c (by simp)
  rw [valD_cons] at h ⊢
  have:=valD_ge (10 * n + (c.toNat - 48)) l
  unfold puV
  rw [if_pos hc,if_neg (by omega)]
  exact ih _ (fun x hx=>hd x (by simp [hx])) h
theorem s_ip (l : List UInt8) (hl : l.length ≤ 1000000) : ∃ m : Int, -9223372036854775808 ≤ m ∧ m ≤ 9223372036854775807 ∧
 (PSpec Tryz.prog 107 [strB l,iA 10,iA 64] (.tup [iA m,.v .nilIface]) ∨ ∃ k,(k = 1 ∨ k = 2) ∧ PSpec Tryz.prog 107 [strB l,iA 10,iA 64] (.tup [iA m,errA k])):=by
 cases l with
 |nil=>exact ⟨0,by omega,by omega,.inr ⟨2,.inr rfl,s_ipi0⟩⟩
 |cons c r =>
  simp only [List.length_cons] at hl
  obtain ⟨t,neg,ht,hcase⟩ : ∃ (t : List UInt8) (neg : Bool),t.length ≤ 1000000 ∧ ((c = 43 ∧ t = r ∧ neg = false) ∨ (c = 45 ∧ t = r ∧ neg = true) ∨ (c ≠ 43 ∧ c ≠ 45 ∧ t = c :: r ∧ neg = false)):=by
   by_cases h1 : c = 43
   ·exact ⟨r,false,by omega,.inl ⟨h1,rfl,rfl⟩⟩
   ·by_cases h2 : c = 45
    ·exact ⟨r,true,by omega,.inr (.inl ⟨h2,rfl,rfl⟩)⟩
    ·exact ⟨c :: r,false,by simp;omega,.inr (.inr ⟨h1,h2,rfl,rfl⟩)⟩
  have hR : ∃ R,PSpec Tryz.prog 125 [strB t,iA 10,iA 64] R ∧ ((∃ m : Nat,m ≤ 18446744073709551615 ∧ R = .tup [u64A m,.v .nilIface]) ∨ R = .tup [u64A 18446744073709551615,errA 1] ∨ R = .tup [u64A 0,errA 2]):=by
   by_cases h0 : t = []
   ·subst h0
    exact ⟨_,s_pu0,.inr (.inr rfl)⟩
   ·exact ⟨_,s_pu t h0 ht _ rfl,puV_out t 0 (by omega)⟩
  obtain ⟨R,hpu,hR⟩:=hR
  rcases hR with ⟨m,hm,rfl⟩|rfl|rfl
  ·cases neg with
   |false =>
    by_cases hb : 9223372036854775808 ≤ m
    ·exact ⟨9223372036854775807,by omega,by omega,.inr ⟨1,.inl rfl,s_ipi c r t false _ _ hcase hpu (.bigP m (by omega))⟩⟩
    ·exact ⟨m,by omega,by omega,.inl (s_ipi c r t false _ _ hcase hpu (.okP m (by omega) (by omega)))⟩
   |true =>
    rcases Nat.lt_trichotomy m 9223372036854775808 with hb|rfl|hb
    ·exact ⟨-m,by omega,by omega,.inl (s_ipi c r t true _ _ hcase hpu (.okN m (by omega) (by omega)))⟩
    ·exact ⟨-9223372036854775808,by omega,by omega,.inl (s_ipi c r t true _ _ hcase hpu .minN)⟩
    ·exact ⟨-9223372036854775808,by omega,by omega,.inr ⟨1,.inl rfl,s_ipi c r t true _ _ hcase hpu (.bigN m (by omega))⟩⟩
  ·cases neg with
   |false=>exact ⟨9223372036854775807,by omega,by omega,.inr ⟨1,.inl rfl,s_ipi c r t false _ _ hcase hpu .rngP⟩⟩
   |true=>exact ⟨-9223372036854775808,by omega,by omega,.inr ⟨1,.inl rfl,s_ipi c r t true _ _ hcase hpu .rngN⟩⟩
  ·exact ⟨0,by omega,by omega,.inr ⟨2,.inr rfl,s_ipi c r t neg _ _ hcase hpu (.syn neg)⟩⟩
theorem s_ipN (n : Int) (h0 : -9223372036854775808 ≤ n) (h1 : n ≤ 9223372036854775807) : PSpec Tryz.prog 107 [strB (Lib.itoa n),iA 10,iA 64] (.tup [iA n,.v .nilIface]):=by
 have hpu : ∀ u : Nat,u ≤ 18446744073709551615 → PSpec Tryz.prog 125 [strB (Lib.decDigits u),iA 10,iA 64] (.tup [u64A (u : Nat),.v .nilIface]):=fun u hu=>by
  have h20:=dec_len (u:=u) 20 (by decide) (by rw [show 10 ^ 20 = 100000000000000000000 by decide];omega)
  have:=s_pu (Lib.decDigits u) (dec_ne u) (by omega) _ (puV_dig _ 0 (dec_digits u) (by rw [dec_val];exact hu))
  rw [dec_val] at this
  exact this
 unfold Lib.itoa
 by_cases hn : n < 0
 ·rw [if_pos hn]
  obtain ⟨u,rfl⟩ : ∃ u : Nat,n = -(u : Int):=⟨n.natAbs,by omega⟩
  rw [show (-(u : Int)).natAbs = u by omega]
  have hc : ((45 : UInt8) = 43 ∧ Lib.decDigits u = Lib.decDigits u ∧ true = false) ∨ ((45 : UInt8) = 45 ∧ Lib.decDigits u = Lib.decDigits u ∧ true = true) ∨ ((45 : UInt8) ≠ 43 ∧ (45 : UInt8) ≠ 45 ∧ Lib.decDigits u = 45 :: Lib.decDigits u ∧ true = false):=.inr (.inl ⟨rfl,rfl,rfl⟩)
  by_cases hm : u = 9223372036854775808
  ·subst hm
   exact s_ipi 45 _ _ true _ _ hc (hpu _ (by omega)) .minN
  ·exact s_ipi 45 _ _ true _ _ hc (hpu u (by omega)) (.okN u (by omega) (by omega))
 ·rw [if_neg hn]
  obtain ⟨u,rfl⟩ : ∃ u : Nat,n = (u : Int):=⟨n.toNat,by omega⟩
  rw [show ((u : Int)).toNat = u by omega]
  have h:=hpu u (by omega)
  cases hd : Lib.decDigits u with
  |nil=>exact (dec_ne u hd).elim
  |cons c r =>
   rw [hd] at h
   have h45:=dec_45 hd
   have h43 : c ≠ 43:=by
    rintro rfl
    have:=dec_digits u 43 (by rw [hd];simp)
    unfold isD at this
    simp at this
   exact s_ipi c r (c :: r) false _ _ (.inr (.inr ⟨h43,h45,rfl,rfl⟩)) h (.okP u (by omega) (by omega))
theorem s_spOK (l : List UInt8) (m : Int) (h : PSpec Tryz.prog 107 [strB l,iA 10,iA 64] (.tup [iA m,.v .nilIface])) : PSpecL Tryz.prog LW 76 [strB l,iA 10,iA 64] (.tup [iA m,.v .nilIface]):=by
 refine PSpec.toL ?_
 refine PSpec_of Tryz.func76 rfl rfl (Nat.le_of_ble_eq_true rfl) (Nat.le_of_ble_eq_true rfl) ?_
 intro E hE
 repeat' (first
  |(with_reducible first|refine uK ?_|refine uQ ?_|refine uX ?_|refine jq fun K hK=>?_|refine jb ?_)|(with_reducible refine rS hE ?_;simp [*])|with_reducible refine rL hE ?_|(((with_reducible show RK _ _ _ _ _ _);first|refine jn ?_|refine js fun K' hK'=>?_);simp [*])|with_reducible refine rD mixed hE ?_|((with_reducible show RKQ _ _ _ _ _ _);first|refine RKQ_nilk ⟨by decide,?_⟩|(refine jv fun K' hK'=>?_;simp [*]))|((with_reducible first|refine ji fun X Y hX hY=>?_|refine jr ?_|refine jk ?_|refine jx ?_);simp [*])|((first|refine jC (h) ?_ ?_ ?_|refine jQ (h) ?_ ?_ ?_);(iterate 2 focus (simp [*] <;> fail));simp [*])|with_reducible refine And.intro ?_ ?_|omega|(refine imp1 fun h=>?_))
theorem s_spErr (l : List UInt8) (hl : l.length ≤ 1000000) (m k : Int) (hk : k = 1 ∨ k = 2) (h : PSpec Tryz.prog 107 [strB l,iA 10,iA 64] (.tup [iA m,errA k])) : PSpecL Tryz.prog LW 76 [strB l,iA 10,iA 64] (.tup [iA m,numA]):=by
 have ht:=s_toErr ⟨#[80,97,114,115,101,73,110,116]⟩ ⟨l.toArray⟩ 10 64 k (by simp;omega) hk
 clear hk
 refine PSpecL_of stays_LW Tryz.func76 rfl rfl (Nat.le_of_ble_eq_true rfl) (Nat.le_of_ble_eq_true rfl) ?_
 intro E hE hLd
 repeat' (first
  |(with_reducible first|refine uK ?_|refine uQ ?_|refine uX ?_|refine jq fun K hK=>?_|refine jb ?_)|(with_reducible refine rS hE ?_;simp [*])|with_reducible refine rL hE ?_|(((with_reducible show RK _ _ _ _ _ _);first|refine jn ?_|refine js fun K' hK'=>?_);simp [*])|with_reducible refine rD mixed hE ?_|((with_reducible show RKQ _ _ _ _ _ _);first|refine RKQ_nilk ⟨by decide,?_⟩|(refine jv fun K' hK'=>?_;simp [*]))|((with_reducible first|refine ji fun X Y hX hY=>?_|refine jr ?_|refine jk ?_|refine jx ?_);simp [*])|((first|refine jC (h) ?_ ?_ ?_|refine jQ (h) ?_ ?_ ?_);(iterate 2 focus (simp [*] <;> fail));simp [*])|(refine acall_sameL hLd (ht) ?_ ?_ ?_;(iterate 2 focus (simp [*] <;> fail));simp [*])|with_reducible refine And.intro ?_ ?_|omega|(refine imp1 fun h=>?_))
theorem s_pi (l : List UInt8) (hl : l.length ≤ 1000000) : ∃ m : Int, -9223372036854775808 ≤ m ∧ m ≤ 9223372036854775807 ∧
 (PSpecL Tryz.prog LW 76 [strB l,iA 10,iA 64] (.tup [iA m,.v .nilIface]) ∨ PSpecL Tryz.prog LW 76 [strB l,iA 10,iA 64] (.tup [iA m,numA])):=by
 obtain ⟨m,h0,h1,h|⟨k,hk,h⟩⟩:=s_ip l hl
 ·exact ⟨m,h0,h1,.inl (s_spOK l m h)⟩
 ·exact ⟨m,h0,h1,.inr (s_spErr l hl m k hk h)⟩
theorem s_piN (n : Int) (h0 : -9223372036854775808 ≤ n) (h1 : n ≤ 9223372036854775807) : PSpecL Tryz.prog LW 76 [strB (Lib.itoa n),iA 10,iA 64] (.tup [iA n,.v .nilIface]):=s_spOK _ n (s_ipN n h0 h1)
end Go.Proofs.YtbibemijcdkjhaaGreatDoor
end
