/- LinkLinks: Check and Link answer just what the document says, errors too, whatever they are handed. -/
import Derived.Deep.DeepHandedRow
import Derived.Deep.DeepWitnessRowRef
import Derived.LaidMore
import Derived.Lib.LaidTab
import Derived.OpenShut
import Derived.ProofKit
import Derived.SevenTiedAt
import Derived.Stop.Joined
import Derived.Stop.LaidErr
import Derived.Test.YtplfmnkmlaolpaaGreatDoorCards
import Derived.Test.YtplfmnkmlaolpaaGreatDoorTie
import Derived.Test.YtplfmnkmlaolpaaGreatDoorL6
set_option linter.unusedVariables false
set_option linter.unusedSimpArgs false
section
namespace Go.Proofs.YtplfmnkmlaolpaaGreatDoor
open Go.Bw
open Go.ChangeShapes Go.WideShapes Go.ChangeAt Go.RowKit Go.Joins Go.Deep
theorem aum:∃ni fi oi,Fq Tryz.prog 3 9 22 67 23 70 24 25 27 ni fi oi:=⟨_,_,_,⟨Tryz.underlying3,Tryz.underlying9,(by kernel_rfl),(by kernel_rfl),Tryz.underlying22,Tryz.underlying67,(by kernel_rfl),(by simp),Tryz.underlying23,Tryz.underlying70,(by kernel_rfl),(by simp),Tryz.underlying24,Tryz.underlying25,Tryz.underlying27,(by kernel_rfl),(by simp)⟩⟩
def aun (H:Type):B2 H:=⟨Rows.uptoBulk,Rows.uptoBulkAll,λl=>by simp [Rows.uptoBulk],λl=>by simp [Rows.uptoBulk],λl r=>by simp only [Rows.uptoBulk]; omega,by simp [Rows.uptoBulkAll],λd r=>by simp [Rows.uptoBulkAll]⟩
theorem own:ownKnob Tryz.prog.godebug=none:=by kernel_rfl
theorem laidOut:laidOutB Tryz.prog=true:=by kernel_rfl
theorem auo:(Tryz.prog.globals[3]?).map (·.type)=some 321:=by kernel_rfl
theorem aup:(Tryz.prog.globals[1]?).map (·.type)=some 139:=by kernel_rfl
theorem auq:(Tryz.prog.globals[0]?).map (·.type)=some 139:=by kernel_rfl
theorem adh : Tryz.prog.globalNamed "strconv.ErrRange" = some 1 := by kernel_rfl
theorem adi : Tryz.prog.globalNamed "strconv.ErrSyntax" = some 0 := by kernel_rfl
theorem aur:Tryz.prog.cellsOf 321=20:=by kernel_rfl
theorem aus:Tryz.prog.cellsOf 303=1:=by kernel_rfl
theorem adj:Tryz.prog.cellsOf 319=1:=by kernel_rfl
theorem adk:Tryz.prog.cellsOf 9=1:=by kernel_rfl
theorem adl (u:TypeId) (h:Tryz.prog.typeName? 3 u=Tryz.prog.typeName? 3 317):u=317:=
 typeName_ptr_named (P := Tryz.prog) (nm := "errors.errorString") (by kernel_rfl) (by kernel_rfl) (by decide) u (h.trans (by kernel_rfl))
theorem aut {W:World} (h:laidMetH Tryz.prog Rows.objChecksRow.laid W):Laid (hv W):=by
 rw [MakeChecks.laidMetH_plain _ _ _ (by kernel_rfl)] at h;have h3:=h.tail.tail;have ht:Lib.TabIs Tryz.prog W X4 .u64 Lib.pow10Tab:=Lib.tabIs_of_head (k:=.u64) (zs:=Lib.pow10Tab) Pc auo Tryz.underlying321 Tryz.underlying303 aus aur h3;obtain ⟨a1,s1,hv1,_⟩:=laid_sentinel h3.tail adh aup Tryz.underlying139 (λu hu=>adl u (hu.trans (by kernel_rfl))) Tryz.underlying317 Tryz.underlying319 rfl rfl Tryz.underlying9 adj adk;obtain ⟨a2,s2,wU,_⟩:=laid_sentinel h3.tail.tail adi auq Tryz.underlying139 (λu hu=>adl u (hu.trans (by kernel_rfl))) Tryz.underlying317 Tryz.underlying319 rfl rfl Tryz.underlying9 adj adk;exact ⟨aeH ht Pc,⟨_,NG (by simpa using World.var?_cell adi wU 0),.inr ⟨_,_,O⟩⟩,⟨_,NG (by simpa using World.var?_cell adh hv1 0),.inr ⟨_,_,O⟩⟩⟩
theorem auv (os:Os) (args:Array Value):laidMetH Tryz.prog Rows.objChecksRow.laid ((World.doorLaid Tryz.prog 62 os).forCall (λ_ _=>0) ⟨#[],args,[]⟩).memory:=
 laidMetH_of_parts3 (fuel:=8) (laidMet_of_run' 8 (by kernel_rfl) (by kernel_rfl)) (by kernel_rfl) (by kernel_rfl)
open Go.ChangeShapes Go.WideShapes Go.ChangeAt Go.RowKit Go.Joins Go.Deep
set_option maxRecDepth 100000 in
theorem auw (os:Os) (started:os.Started) (H:Type) (enc:TypeId×Value->H) :
   ReturnsInHanded {} Tryz.checked os 6 .any (λw args=>(Rows.linkLinksSpec.pre enc Tryz.prog Tryz.f6 [] false w args/\laidMetH Tryz.prog Rows.linkLinksRow.laid w)/\sizedMet enc Tryz.prog Tryz.f6 (OpenSpec.ofChange Rows.linkLinksSpec) false w args) (Rows.linkLinksSpec.post enc Tryz.prog Tryz.f6 false true false false):=by
 refine returnsInHanded_of_change_and (C:=Tryz.checked) (X:=λw _=>laidMetH Tryz.prog Rows.linkLinksRow.laid w) (λ_ _ _ hh h=>h.of_heap hh) own started (by kernel_rfl) Tryz.func6
   (ChangeSpec.witness_shaped (enc:=enc) (C:=Tryz.checked) (os:=os) (X:=λw _=>laidMetH Tryz.prog Rows.linkLinksRow.laid w) false (World.doorLaid Tryz.prog 62 os) #[.slice none 0 0] 8 rfl (World.shaped_of_RefB (by kernel_rfl) (by kernel_rfl)) (by kernel_rfl) (by kernel_rfl) (by kernel_rfl) (auv os _)) ?_
 intro W base args ds gs before adm hW _ _ hLd _;have hLz:Laid (hv W):=aut hLd;have JE:∀(j:Nat) t v,Tryz.f6.params[j]? = some t->args[j]? = some v->Value.okWide Tryz.prog W .any base t v:=adm;have hW':=hW;obtain ⟨p,q,yK,hV,rfl,hfz,pE⟩:=hW;have hA:DataW.TrodAll enc Tryz.prog W 0 (λ_=>true) true Tryz.f6.params.toList args.toList ds p:=yK;rw [Tryz.params6] at hA JE;obtain ⟨v0,vs0,d0,ds0,p0,q0,axU,rfl,rfl,h0,r0⟩:=trodAll_cons hA;obtain ⟨rfl,rfl,rfl⟩:=trodAll_nil r0
 obtain rfl:args = #[v0]:=by cases args; simp_all
 obtain ⟨rfl,rfl⟩:=trodVars_none hV;have k0:=h0
 have lt0:∀x ∈ p0,x.block<W.heap.size:=by obtain ⟨m,hm⟩:=k0; exact DataW.trod_lt m _ _ _ hm
 obtain ⟨_,_,_,hT0⟩:=aum;obtain ⟨a0,c0,l0,rfl,hx0⟩:=agJ (aun H) hT0 (λ_=>rfl) Tryz.underlying40 (JE 0 40 v0 rfl rfl) h0;have N':Sl oT 7 (hv W) a0 c0 l0:=hx0.imp λb o x h=>h.1
 clear yK adm
 refine (aul (hv W) (hv W) a0 c0 l0 W (ix W) hLz (ix W) N').mono λe W' ⟨he,hx⟩=>?_;subst he;have bel:=hx.below;exact ⟨_,O,_,_,_,[],_,[],hW',trodAll_mk1 (shut_bool Tryz.underlying4 _),(trodAll_cons_mk (Below.trod laidOut (by kernel_rfl) (of_decide_eq_true (by kernel_rfl)) k0 bel lt0) trodAll_mk0),O,bel.frame _,λh=>by cases h⟩
theorem auE:Rows.LinkLinksSaid:=
 OpenClaim.holds_of_wide 6 Tryz.f6 rfl rfl rfl rfl rfl rfl rfl ⟨rfl,rfl,rfl,rfl,rfl⟩ rfl rfl rfl rfl rfl (by kernel_rfl) Tryz.func6 (by kernel_rfl)
   (of_decide_eq_true (by kernel_rfl)) (by unfold Func.isWrapper; first | (rw [if_pos (by decide +kernel)]; kernel_rfl) | (rw [if_neg (by decide +kernel)]; exact ⟨rfl,rfl⟩))
   (λos started H enc _=>auw os started H enc)
theorem auF (f:FuncId) (fn:Func) (hf:Tryz.pinned.checked.prog.funcNamed Rows.linkLinksRow.func=some f) (RP:Tryz.pinned.checked.prog.funcs[f]? = some fn) :
   true=Tryz.pinned.checked.prog.looks []/\∀(j:Nat) t,fn.params[j]? = some t->Tryz.pinned.checked.prog.wantsStandIn t=false:=by
 obtain rfl:f=6:=Option.some.inj ((show Tryz.prog.funcNamed Rows.linkLinksRow.func=some 6 by kernel_rfl).symm.trans hf) |>.symm;obtain rfl:fn=Tryz.f6:=(Option.some.inj (Tryz.func6.symm.trans RP)).symm;refine ⟨by kernel_rfl,λj t ht=>?_⟩;rw [Tryz.params6] at ht
 have hm:t ∈ [40]:=by simpa using Array.mem_of_getElem? ht
 have bN:([40].all λu=>!Tryz.prog.wantsStandIn u)=true:=by kernel_rfl
 exact (show Tryz.prog.wantsStandIn t=false by simpa using List.all_eq_true.1 bN t hm)
theorem linkLinks_proved:Rows.LinkLinksCardSaid:=
 Claim7.holds_tied_plain_at .later [] _ _ _ _ auE (λ_ h=>by cases h) (by kernel_rfl) (λ_ h=>by cases h) linkLinks_row_tie rfl ⟨rfl,rfl⟩ (by kernel_rfl) rfl auF (by kernel_rfl)
end Go.Proofs.YtplfmnkmlaolpaaGreatDoor
end
