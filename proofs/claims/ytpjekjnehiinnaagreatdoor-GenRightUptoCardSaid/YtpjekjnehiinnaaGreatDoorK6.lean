/- GenRight: what is generated is a right object, all jumps of a part stay in it (proved in the second form, bulk at most 1048576). -/
import Derived.Deep.DeepHandedRow
import Derived.Deep.DeepWitnessRowRef
import Derived.LaidMore
import Derived.Lib.LaidTab
import Derived.OpenShut
import Derived.ProofKit
import Derived.SevenTiedAt
import Derived.Stop.Joined
import Derived.Stop.LaidErr
import Derived.Test.YtpjekjnehiinnaaGreatDoorCards
import Derived.Test.YtpjekjnehiinnaaGreatDoorTie
import Derived.Test.YtpjekjnehiinnaaGreatDoorK5
set_option linter.unusedVariables false
set_option linter.unusedSimpArgs false
section
namespace Go.Proofs.YtpjekjnehiinnaaGreatDoor
open Go.Bw
open Go.ChangeShapes Go.WideShapes Go.ChangeAt Go.RowKit Go.Joins Go.Deep
theorem unitTy:∃e s p m,UnitTy Tryz.prog 138 104 63 26 102 24 23 22 e s p m 3 9:=⟨_,_,_,_,⟨Tryz.underlying3,Tryz.underlying9,(by kernel_rfl),Tryz.underlying138,(by kernel_rfl),(by simp),Tryz.underlying102,Tryz.underlying104,(by kernel_rfl),(by simp),Tryz.underlying24,Tryz.underlying63,(by kernel_rfl),(by simp),Tryz.underlying23,Tryz.underlying22,Tryz.underlying26,(by kernel_rfl),(by simp)⟩⟩
def bulkOf (H:Type):Bulk H:=⟨Rows.uptoBulk,Rows.uptoBulkAll,fun l=>by simp [Rows.uptoBulk],fun l=>by simp [Rows.uptoBulk],fun l r=>by simp only [Rows.uptoBulk]; omega,by simp [Rows.uptoBulkAll],fun d r=>by simp [Rows.uptoBulkAll]⟩
theorem own:ownKnob Tryz.prog.godebug=none:=by kernel_rfl
theorem laidOut:laidOutB Tryz.prog=true:=by kernel_rfl
theorem tPow:(Tryz.prog.globals[3]?).map (·.type)=some 282:=by kernel_rfl
theorem tRng:(Tryz.prog.globals[1]?).map (·.type)=some 227:=by kernel_rfl
theorem tSyn:(Tryz.prog.globals[0]?).map (·.type)=some 227:=by kernel_rfl
theorem nRng : Tryz.prog.globalNamed "strconv.ErrRange" = some 1 := by kernel_rfl
theorem nSyn : Tryz.prog.globalNamed "strconv.ErrSyntax" = some 0 := by kernel_rfl
theorem cPow:Tryz.prog.cellsOf 282=20:=by kernel_rfl
theorem cU64:Tryz.prog.cellsOf 261=1:=by kernel_rfl
theorem cErr:Tryz.prog.cellsOf 280=1:=by kernel_rfl
theorem cStr:Tryz.prog.cellsOf 9=1:=by kernel_rfl
theorem rowErr (u:TypeId) (h:Tryz.prog.typeName? 3 u=Tryz.prog.typeName? 3 278):u=278:=
 typeName_ptr_named (P := Tryz.prog) (nm := "errors.errorString") (by kernel_rfl) (by kernel_rfl) (by decide) u (h.trans (by kernel_rfl))
theorem laidv_of {W:World} (h:laidMetH Tryz.prog Rows.genMakesRow.laid W):Laid (hv W):=by
 rw [MakeChecks.laidMetH_plain _ _ _ (by kernel_rfl)] at h
 have h3:=h.tail.tail
 have ht:Lib.TabIs Tryz.prog W powNm .u64 Lib.pow10Tab:=Lib.tabIs_of_head (k:=.u64) (zs:=Lib.pow10Tab) powName tPow Tryz.underlying282 Tryz.underlying261 cU64 cPow h3
 obtain ⟨a1,s1,hv1,_⟩:=laid_sentinel h3.tail nRng tRng Tryz.underlying227 (fun u hu=>rowErr u (hu.trans (by kernel_rfl))) Tryz.underlying278 Tryz.underlying280 rfl rfl Tryz.underlying9 cErr cStr
 obtain ⟨a2,s2,hv2,_⟩:=laid_sentinel h3.tail.tail nSyn tSyn Tryz.underlying227 (fun u hu=>rowErr u (hu.trans (by kernel_rfl))) Tryz.underlying278 Tryz.underlying280 rfl rfl Tryz.underlying9 cErr cStr
 exact ⟨pow_of ht powName,⟨_,vc_of_cell' (by simpa using World.var?_cell nSyn hv2 0),.inr ⟨_,_,O⟩⟩,⟨_,vc_of_cell' (by simpa using World.var?_cell nRng hv1 0),.inr ⟨_,_,O⟩⟩⟩
theorem door_met (os:Os) (args:Array Value):laidMetH Tryz.prog Rows.genMakesRow.laid ((World.doorLaid Tryz.prog 62 os).forCall (fun _ _=>0) ⟨#[],args,[]⟩).memory:=
 laidMetH_of_parts3 (fuel:=8) (laidMet_of_run' 8 (by kernel_rfl) (by kernel_rfl)) (by kernel_rfl) (by kernel_rfl)
end Go.Proofs.YtpjekjnehiinnaaGreatDoor
end
section
namespace Go.Proofs.YtpjekjnehiinnaaGreatDoor
open Go.Bw
open Go.ChangeShapes Go.WideShapes Go.ChangeAt Go.RowKit Go.Joins Go.Deep
theorem genRight_reads (os:Os) {H:Type} (enc:TypeId×Value→H):∃places,DataW.whole enc Tryz.prog ((World.doorLaid Tryz.prog 62 os).forCall (fun _ _=>0) ⟨#[],#[.slice none 0 0,.int .i64 0],[]⟩).memory Tryz.f8.params.toList Rows.genRightSpec.vars false #[.slice none 0 0,.int .i64 0].toList 8=some ([.nil,.lit (.int .i64 0)],[],places):=
 ⟨[],by kernel_rfl⟩
set_option maxRecDepth 100000 in
theorem genRight_lifted (os:Os) (started:os.Started) (H:Type) (enc:TypeId×Value→H) (F:Stop.Interp) :
   ReturnsInHanded {} Tryz.checked os 8 .any ((Rows.OpenSpec.upto Rows.genRightSpec).preRow enc Tryz.prog Tryz.f8 Rows.genRightUptoRow.domain false Rows.genRightUptoRow.laid) (((Rows.OpenSpec.upto Rows.genRightSpec).at F).post enc Tryz.prog Tryz.f8 false true false false):=by
 obtain ⟨places,hx⟩:=genRight_reads os enc
 refine returnsInHanded_of_row (C:=Tryz.checked) (s:=Rows.OpenSpec.upto Rows.genRightSpec) own started (by kernel_rfl) Tryz.func8
   (witness_row_atRef (enc:=enc) (C:=Tryz.checked) false (World.doorLaid Tryz.prog 62 os) #[.slice none 0 0,.int .i64 0] rfl (by kernel_rfl) (by kernel_rfl) (by kernel_rfl)
     (OpenSpec.preRow_of_cond 8 hx (by kernel_rfl) (fun k hk=>by cases hk; kernel_rfl) (by kernel_rfl) (door_met os _))) ?_
 intro W base args ds gs before hval0 hW _ hcond _ hLd _ _
 have hLz:Laid (hv W):=laidv_of hLd
 have hval:∀(j:Nat) t v,Tryz.f8.params[j]? = some t→args[j]? = some v→Value.okWide Tryz.prog W .any base t v:=hval0
 have hW':=hW
 obtain ⟨p,q,hA0,hV,rfl,hfz,hnd⟩:=hW
 have hA:DataW.TrodAll enc Tryz.prog W 0 (fun _=>true) true Tryz.f8.params.toList args.toList ds p:=hA0
 rw [Tryz.params8] at hA hval
 obtain ⟨v0,vs0,d0,ds0,p0,q0,hargs,rfl,rfl,h0,r0⟩:=trodAll_cons hA
 obtain ⟨v1,vs1,d1,ds1,p1,q1,rfl,rfl,rfl,h1,r1⟩:=trodAll_cons r0
 obtain ⟨rfl,rfl,rfl⟩:=trodAll_nil r1
 obtain rfl:args = #[v0,v1]:=by cases args; simp_all
 obtain ⟨rfl,rfl⟩:=trodVars_none hV
 have k0:=h0
 have lt0:∀x ∈ p0,x.block<W.heap.size:=by obtain ⟨m,hm⟩:=k0; exact DataW.trod_lt m _ _ _ hm
 have k1:=h1
 have lt1:∀x ∈ p1,x.block<W.heap.size:=by obtain ⟨m,hm⟩:=k1; exact DataW.trod_lt m _ _ _ hm
 obtain ⟨_,_,_,_,hT0⟩:=unitTy
 obtain ⟨a0,c0,n0,l0,rfl,hm0,hw0⟩:=open_units (bulkOf H) hT0 (fun _=>rfl) Tryz.underlying38 (hval 0 38 v0 rfl rfl) h0
 have hw0:wUns l0≤Rows.uptoBulk d0:=hw0
 obtain ⟨z1,rfl,hz1⟩:=Go.Bw.open_int Tryz.underlying3 (hval 1 3 v1 rfl rfl) h1
 clear hA0 hval0
 have hbulk:Rows.uptoBulkAll [d0,d1]≤1048576:=of_decide_eq_true (hcond _ rfl)
 simp only [Rows.uptoBulkAll] at hbulk
 have hb0:∀u ∈ l0,wUn u≤1048576:=fun u hu=>by
   have h1:=wUns_mem hu
   omega
 refine (genRight_any (hv W) (hv W) n0 a0 c0 l0 z1 W (hv_le W) hLz (hv_le W) hm0 hb0 hz1).mono fun e W' ⟨he,hx⟩=>?_
 subst he
 have bel:=hx.below
 exact ⟨_,O,_,_,_,[],_,[],hW',trodAll_mk1 (shut_bool Tryz.underlying4 _),(trodAll_cons_mk (Below.trod laidOut (by kernel_rfl) (of_decide_eq_true (by kernel_rfl)) k0 bel lt0) (trodAll_cons_mk (Below.trod laidOut (by kernel_rfl) (of_decide_eq_true (by kernel_rfl)) k1 bel lt1) trodAll_mk0)),O,bel.frame _,fun h=>by cases h⟩
theorem genRight_said:Rows.GenRightUptoSaid:=
 OpenClaim.holds_of_cond 8 Tryz.f8 rfl rfl rfl rfl rfl rfl rfl ⟨rfl,rfl,rfl,rfl,rfl⟩ rfl rfl rfl rfl rfl (by kernel_rfl) Tryz.func8 (by kernel_rfl)
   (of_decide_eq_true (by kernel_rfl)) (by unfold Func.isWrapper; first | (rw [if_pos (by decide +kernel)]; kernel_rfl) | (rw [if_neg (by decide +kernel)]; exact ⟨rfl,rfl⟩))
   (fun os started H enc _ F=>by rw [OpenClaim.pre_eq_preRow]; exact genRight_lifted os started H enc F)
theorem genRight_plain (f:FuncId) (fn:Func) (hf:Tryz.pinned.checked.prog.funcNamed Rows.genRightUptoRow.func=some f) (hfn:Tryz.pinned.checked.prog.funcs[f]? = some fn) :
   true=Tryz.pinned.checked.prog.looks []∧∀(j:Nat) t,fn.params[j]? = some t→Tryz.pinned.checked.prog.wantsStandIn t=false:=by
 obtain rfl:f=8:=Option.some.inj ((show Tryz.prog.funcNamed Rows.genRightUptoRow.func=some 8 by kernel_rfl).symm.trans hf) |>.symm
 obtain rfl:fn=Tryz.f8:=(Option.some.inj (Tryz.func8.symm.trans hfn)).symm
 refine ⟨by kernel_rfl,fun j t ht=>?_⟩
 rw [Tryz.params8] at ht
 have hm:t ∈ [38,3]:=by simpa using Array.mem_of_getElem? ht
 have hall:([38,3].all fun u=>!Tryz.prog.wantsStandIn u)=true:=by kernel_rfl
 exact (show Tryz.prog.wantsStandIn t=false by simpa using List.all_eq_true.1 hall t hm)
theorem genRight_proved:Rows.GenRightUptoCardSaid:=
 Claim7.holds_tied_plain_at .later [] _ _ _ _ genRight_said (fun _ h=>by cases h) (by kernel_rfl) (fun _ h=>by cases h) genRightUpto_row_tie rfl ⟨rfl,rfl⟩ (by kernel_rfl) rfl genRight_plain (by kernel_rfl)
end Go.Proofs.YtpjekjnehiinnaaGreatDoor
end
