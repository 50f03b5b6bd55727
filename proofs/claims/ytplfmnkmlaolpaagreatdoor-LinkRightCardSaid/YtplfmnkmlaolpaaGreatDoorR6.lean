/- LinkRight: what is linked is a right image, as long as all its objects and one more for each, and one. -/
import Derived.Deep.DeepHandedRow
import Derived.Deep.DeepWitnessRowRef
import Derived.LaidMore
import Derived.Lib.LaidTab
import Derived.OpenShut
import Derived.ProofKit
import Derived.SevenTiedAt
import Derived.Stop.Joined
import Derived.Stop.LaidErr
import Derived.Test.YtplfmnkmlaolpaaGreatDoorCards
import Derived.Test.YtplfmnkmlaolpaaGreatDoorTie
import Derived.Test.YtplfmnkmlaolpaaGreatDoorR5
set_option linter.unusedVariables false
set_option linter.unusedSimpArgs false
section
namespace Go.Proofs.YtplfmnkmlaolpaaGreatDoor
open Go.Bw
open Go.ChangeShapes Go.WideShapes Go.ChangeAt Go.RowKit Go.Joins Go.Deep
theorem asC:∃ni fi oi,DO Tryz.prog 3 9 22 67 23 70 24 25 27 ni fi oi:=⟨_,_,_,⟨Tryz.underlying3,Tryz.underlying9,(by kernel_rfl),(by kernel_rfl),Tryz.underlying22,Tryz.underlying67,(by kernel_rfl),(by simp),Tryz.underlying23,Tryz.underlying70,(by kernel_rfl),(by simp),Tryz.underlying24,Tryz.underlying25,Tryz.underlying27,(by kernel_rfl),(by simp)⟩⟩
def asD (H:Type):AO H:=⟨Rows.uptoBulk,Rows.uptoBulkAll,λl=>by simp [Rows.uptoBulk],λl=>by simp [Rows.uptoBulk],λl r=>by simp only [Rows.uptoBulk]; omega,by simp [Rows.uptoBulkAll],λd r=>by simp [Rows.uptoBulkAll]⟩
theorem own:ownKnob Tryz.prog.godebug=none:=by kernel_rfl
theorem laidOut:laidOutB Tryz.prog=true:=by kernel_rfl
theorem asE:(Tryz.prog.globals[3]?).map (·.type)=some 321:=by kernel_rfl
theorem asF:(Tryz.prog.globals[1]?).map (·.type)=some 139:=by kernel_rfl
theorem asG:(Tryz.prog.globals[0]?).map (·.type)=some 139:=by kernel_rfl
theorem abX : Tryz.prog.globalNamed "strconv.ErrRange" = some 1 := by kernel_rfl
theorem abY : Tryz.prog.globalNamed "strconv.ErrSyntax" = some 0 := by kernel_rfl
theorem asH:Tryz.prog.cellsOf 321=20:=by kernel_rfl
theorem asI:Tryz.prog.cellsOf 303=1:=by kernel_rfl
theorem abZ:Tryz.prog.cellsOf 319=1:=by kernel_rfl
theorem ab0:Tryz.prog.cellsOf 9=1:=by kernel_rfl
theorem ab1 (u:TypeId) (h:Tryz.prog.typeName? 3 u=Tryz.prog.typeName? 3 317):u=317:=
 typeName_ptr_named (P := Tryz.prog) (nm := "errors.errorString") (by kernel_rfl) (by kernel_rfl) (by decide) u (h.trans (by kernel_rfl))
theorem asJ {W:World} (h:laidMetH Tryz.prog Rows.objChecksRow.laid W):Laid (hv W):=by
 rw [MakeChecks.laidMetH_plain _ _ _ (by kernel_rfl)] at h;have h3:=h.tail.tail;have ht:Lib.TabIs Tryz.prog W Wr .u64 Lib.pow10Tab:=Lib.tabIs_of_head (k:=.u64) (zs:=Lib.pow10Tab) N' asE Tryz.underlying321 Tryz.underlying303 asI asH h3;obtain ⟨a1,s1,hv1,_⟩:=laid_sentinel h3.tail abX asF Tryz.underlying139 (λu hu=>ab1 u (hu.trans (by kernel_rfl))) Tryz.underlying317 Tryz.underlying319 rfl rfl Tryz.underlying9 abZ ab0;obtain ⟨a2,s2,GC,_⟩:=laid_sentinel h3.tail.tail abY asG Tryz.underlying139 (λu hu=>ab1 u (hu.trans (by kernel_rfl))) Tryz.underlying317 Tryz.underlying319 rfl rfl Tryz.underlying9 abZ ab0;exact ⟨adq ht N',⟨_,My (by simpa using World.var?_cell abY GC 0),.inr ⟨_,_,O⟩⟩,⟨_,My (by simpa using World.var?_cell abX hv1 0),.inr ⟨_,_,O⟩⟩⟩
theorem asL (os:Os) (args:Array Value):laidMetH Tryz.prog Rows.objChecksRow.laid ((World.doorLaid Tryz.prog 62 os).forCall (λ_ _=>0) ⟨#[],args,[]⟩).memory:=
 laidMetH_of_parts3 (fuel:=8) (laidMet_of_run' 8 (by kernel_rfl) (by kernel_rfl)) (by kernel_rfl) (by kernel_rfl)
open Go.ChangeShapes Go.WideShapes Go.ChangeAt Go.RowKit Go.Joins Go.Deep
set_option maxRecDepth 100000 in
theorem asM (os:Os) (started:os.Started) (H:Type) (enc:TypeId×Value->H) :
   ReturnsInHanded {} Tryz.checked os 7 .any (λw args=>(Rows.linkRightSpec.pre enc Tryz.prog Tryz.f7 [] false w args/\laidMetH Tryz.prog Rows.linkRightRow.laid w)/\sizedMet enc Tryz.prog Tryz.f7 (OpenSpec.ofChange Rows.linkRightSpec) false w args) (Rows.linkRightSpec.post enc Tryz.prog Tryz.f7 false true false false):=by
 refine returnsInHanded_of_change_and (C:=Tryz.checked) (X:=λw _=>laidMetH Tryz.prog Rows.linkRightRow.laid w) (λ_ _ _ hh h=>h.of_heap hh) own started (by kernel_rfl) Tryz.func7
   (ChangeSpec.witness_shaped (enc:=enc) (C:=Tryz.checked) (os:=os) (X:=λw _=>laidMetH Tryz.prog Rows.linkRightRow.laid w) false (World.doorLaid Tryz.prog 62 os) #[.slice none 0 0] 8 rfl (World.shaped_of_RefB (by kernel_rfl) (by kernel_rfl)) (by kernel_rfl) (by kernel_rfl) (by kernel_rfl) (asL os _)) ?_
 intro W base args ds gs before ab2 hW _ _ hLd _;have hLz:Laid (hv W):=asJ hLd;have Iw:∀(j:Nat) t v,Tryz.f7.params[j]? = some t->args[j]? = some v->Value.okWide Tryz.prog W .any base t v:=ab2;have hW':=hW;obtain ⟨p,q,Gy,hV,rfl,hfz,rK⟩:=hW;have hA:DataW.TrodAll enc Tryz.prog W 0 (λ_=>true) true Tryz.f7.params.toList args.toList ds p:=Gy;rw [Tryz.params7] at hA Iw;obtain ⟨v0,vs0,d0,ds0,p0,q0,awz,rfl,rfl,h0,r0⟩:=trodAll_cons hA;obtain ⟨rfl,rfl,rfl⟩:=trodAll_nil r0
 obtain rfl:args = #[v0]:=by cases args; simp_all
 obtain ⟨rfl,rfl⟩:=trodVars_none hV;have k0:=h0
 have lt0:∀x ∈ p0,x.block<W.heap.size:=by obtain ⟨m,hm⟩:=k0; exact DataW.trod_lt m _ _ _ hm
 obtain ⟨_,_,_,hT0⟩:=asC;obtain ⟨a0,c0,l0,rfl,hx0⟩:=afr (asD H) hT0 (λ_=>rfl) Tryz.underlying40 (Iw 0 40 v0 rfl rfl) h0;have M3:Sl tC 7 (hv W) a0 c0 l0:=hx0.imp λb o x h=>h.1
 clear Gy ab2
 refine (asB (hv W) (hv W) a0 c0 l0 W (iq W) hLz (iq W) M3).mono λe W' ⟨he,hx⟩=>?_;subst he;have bel:=hx.below;exact ⟨_,O,_,_,_,[],_,[],hW',trodAll_mk1 (shut_bool Tryz.underlying4 _),(trodAll_cons_mk (Below.trod laidOut (by kernel_rfl) (of_decide_eq_true (by kernel_rfl)) k0 bel lt0) trodAll_mk0),O,bel.frame _,λh=>by cases h⟩
theorem asT:Rows.LinkRightSaid:=
 OpenClaim.holds_of_wide 7 Tryz.f7 rfl rfl rfl rfl rfl rfl rfl ⟨rfl,rfl,rfl,rfl,rfl⟩ rfl rfl rfl rfl rfl (by kernel_rfl) Tryz.func7 (by kernel_rfl)
   (of_decide_eq_true (by kernel_rfl)) (by unfold Func.isWrapper; first | (rw [if_pos (by decide +kernel)]; kernel_rfl) | (rw [if_neg (by decide +kernel)]; exact ⟨rfl,rfl⟩))
   (λos started H enc _=>asM os started H enc)
theorem asU (f:FuncId) (fn:Func) (hf:Tryz.pinned.checked.prog.funcNamed Rows.linkRightRow.func=some f) (QJ:Tryz.pinned.checked.prog.funcs[f]? = some fn) :
   true=Tryz.pinned.checked.prog.looks []/\∀(j:Nat) t,fn.params[j]? = some t->Tryz.pinned.checked.prog.wantsStandIn t=false:=by
 obtain rfl:f=7:=Option.some.inj ((show Tryz.prog.funcNamed Rows.linkRightRow.func=some 7 by kernel_rfl).symm.trans hf) |>.symm;obtain rfl:fn=Tryz.f7:=(Option.some.inj (Tryz.func7.symm.trans QJ)).symm;refine ⟨by kernel_rfl,λj t ht=>?_⟩;rw [Tryz.params7] at ht
 have hm:t ∈ [40]:=by simpa using Array.mem_of_getElem? ht
 have cg:([40].all λu=>!Tryz.prog.wantsStandIn u)=true:=by kernel_rfl
 exact (show Tryz.prog.wantsStandIn t=false by simpa using List.all_eq_true.1 cg t hm)
theorem linkRight_proved:Rows.LinkRightCardSaid:=
 Claim7.holds_tied_plain_at .later [] _ _ _ _ asT (λ_ h=>by cases h) (by kernel_rfl) (λ_ h=>by cases h) linkRight_row_tie rfl ⟨rfl,rfl⟩ (by kernel_rfl) rfl asU (by kernel_rfl)
end Go.Proofs.YtplfmnkmlaolpaaGreatDoor
end
