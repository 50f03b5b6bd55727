/- ObjWrites: Write and Read of objects answer just what the document says, whatever they are handed. -/
import Derived.Deep.DeepHandedRow
import Derived.Deep.DeepWitnessRowRef
import Derived.LaidMore
import Derived.Lib.LaidTab
import Derived.OpenShut
import Derived.ProofKit
import Derived.SevenTiedAt
import Derived.Stop.Joined
import Derived.Stop.LaidErr
import Derived.Test.YtplfmnkmlaolpaaGreatDoorCards
import Derived.Test.YtplfmnkmlaolpaaGreatDoorTie
import Derived.Test.YtplfmnkmlaolpaaGreatDoorW6
set_option linter.unusedVariables false
set_option linter.unusedSimpArgs false
section
namespace Go.Proofs.YtplfmnkmlaolpaaGreatDoor
open Go.Bw
open Go.ChangeShapes Go.WideShapes Go.ChangeAt Go.RowKit Go.Joins Go.Deep
theorem obTy:∃ni fi oi,ObTy Tryz.prog 3 9 22 67 23 70 24 25 27 ni fi oi:=⟨_,_,_,⟨Tryz.underlying3,Tryz.underlying9,(by kernel_rfl),(by kernel_rfl),Tryz.underlying22,Tryz.underlying67,(by kernel_rfl),(by simp),Tryz.underlying23,Tryz.underlying70,(by kernel_rfl),(by simp),Tryz.underlying24,Tryz.underlying25,Tryz.underlying27,(by kernel_rfl),(by simp)⟩⟩
def bulkOf (H:Type):Bulk H:=⟨Rows.uptoBulk,Rows.uptoBulkAll,fun l=>by simp [Rows.uptoBulk],fun l=>by simp [Rows.uptoBulk],fun l r=>by simp only [Rows.uptoBulk]; omega,by simp [Rows.uptoBulkAll],fun d r=>by simp [Rows.uptoBulkAll]⟩
theorem own:ownKnob Tryz.prog.godebug=none:=by kernel_rfl
theorem laidOut:laidOutB Tryz.prog=true:=by kernel_rfl
theorem tPow:(Tryz.prog.globals[3]?).map (·.type)=some 321:=by kernel_rfl
theorem tRng:(Tryz.prog.globals[1]?).map (·.type)=some 139:=by kernel_rfl
theorem tSyn:(Tryz.prog.globals[0]?).map (·.type)=some 139:=by kernel_rfl
theorem nRng : Tryz.prog.globalNamed "strconv.ErrRange" = some 1 := by kernel_rfl
theorem nSyn : Tryz.prog.globalNamed "strconv.ErrSyntax" = some 0 := by kernel_rfl
theorem cPow:Tryz.prog.cellsOf 321=20:=by kernel_rfl
theorem cU64:Tryz.prog.cellsOf 303=1:=by kernel_rfl
theorem cErr:Tryz.prog.cellsOf 319=1:=by kernel_rfl
theorem cStr:Tryz.prog.cellsOf 9=1:=by kernel_rfl
theorem rowErr (u:TypeId) (h:Tryz.prog.typeName? 3 u=Tryz.prog.typeName? 3 317):u=317:=
 typeName_ptr_named (P := Tryz.prog) (nm := "errors.errorString") (by kernel_rfl) (by kernel_rfl) (by decide) u (h.trans (by kernel_rfl))
theorem laidv_of {W:World} (h:laidMetH Tryz.prog Rows.objChecksRow.laid W):Laid (hv W):=by
 rw [MakeChecks.laidMetH_plain _ _ _ (by kernel_rfl)] at h
 have h3:=h.tail.tail
 have ht:Lib.TabIs Tryz.prog W powNm .u64 Lib.pow10Tab:=Lib.tabIs_of_head (k:=.u64) (zs:=Lib.pow10Tab) powName tPow Tryz.underlying321 Tryz.underlying303 cU64 cPow h3
 obtain ⟨a1,s1,hv1,_⟩:=laid_sentinel h3.tail nRng tRng Tryz.underlying139 (fun u hu=>rowErr u (hu.trans (by kernel_rfl))) Tryz.underlying317 Tryz.underlying319 rfl rfl Tryz.underlying9 cErr cStr
 obtain ⟨a2,s2,hv2,_⟩:=laid_sentinel h3.tail.tail nSyn tSyn Tryz.underlying139 (fun u hu=>rowErr u (hu.trans (by kernel_rfl))) Tryz.underlying317 Tryz.underlying319 rfl rfl Tryz.underlying9 cErr cStr
 exact ⟨pow_of ht powName,⟨_,vc_of_cell' (by simpa using World.var?_cell nSyn hv2 0),.inr ⟨_,_,O⟩⟩,⟨_,vc_of_cell' (by simpa using World.var?_cell nRng hv1 0),.inr ⟨_,_,O⟩⟩⟩
theorem door_met (os:Os) (args:Array Value):laidMetH Tryz.prog Rows.objChecksRow.laid ((World.doorLaid Tryz.prog 62 os).forCall (fun _ _=>0) ⟨#[],args,[]⟩).memory:=
 laidMetH_of_parts3 (fuel:=8) (laidMet_of_run' 8 (by kernel_rfl) (by kernel_rfl)) (by kernel_rfl) (by kernel_rfl)
open Go.ChangeShapes Go.WideShapes Go.ChangeAt Go.RowKit Go.Joins Go.Deep
set_option maxRecDepth 100000 in
theorem objWrites_lifted (os:Os) (started:os.Started) (H:Type) (enc:TypeId×Value→H) :
   ReturnsInHanded {} Tryz.checked os 4 .any (fun w args=>(Rows.objWritesSpec.pre enc Tryz.prog Tryz.f4 [] false w args∧laidMetH Tryz.prog Rows.objWritesRow.laid w)∧sizedMet enc Tryz.prog Tryz.f4 (OpenSpec.ofChange Rows.objWritesSpec) false w args) (Rows.objWritesSpec.post enc Tryz.prog Tryz.f4 false true false false):=by
 refine returnsInHanded_of_change_and (C:=Tryz.checked) (X:=fun w _=>laidMetH Tryz.prog Rows.objWritesRow.laid w) (fun _ _ _ hh h=>h.of_heap hh) own started (by kernel_rfl) Tryz.func4
   (ChangeSpec.witness_shaped (enc:=enc) (C:=Tryz.checked) (os:=os) (X:=fun w _=>laidMetH Tryz.prog Rows.objWritesRow.laid w) false (World.doorLaid Tryz.prog 62 os) #[.agg #[.string ⟨#[]⟩,.slice none 0 0,.int .i64 0,.slice none 0 0,.slice none 0 0,.slice none 0 0,.int .i64 0],.string ⟨#[]⟩] 8 rfl (World.shaped_of_RefB (by kernel_rfl) (by kernel_rfl)) (by kernel_rfl) (by kernel_rfl) (by kernel_rfl) (door_met os _)) ?_
 intro W base args ds gs before hval0 hW _ _ hLd _
 have hLz:Laid (hv W):=laidv_of hLd
 have hval:∀(j:Nat) t v,Tryz.f4.params[j]? = some t→args[j]? = some v→Value.okWide Tryz.prog W .any base t v:=hval0
 have hW':=hW
 obtain ⟨p,q,hA0,hV,rfl,hfz,hnd⟩:=hW
 have hA:DataW.TrodAll enc Tryz.prog W 0 (fun _=>true) true Tryz.f4.params.toList args.toList ds p:=hA0
 rw [Tryz.params4] at hA hval
 obtain ⟨v0,vs0,d0,ds0,p0,q0,hargs,rfl,rfl,h0,r0⟩:=trodAll_cons hA
 obtain ⟨v1,vs1,d1,ds1,p1,q1,rfl,rfl,rfl,h1,r1⟩:=trodAll_cons r0
 obtain ⟨rfl,rfl,rfl⟩:=trodAll_nil r1
 obtain rfl:args = #[v0,v1]:=by cases args; simp_all
 obtain ⟨rfl,rfl⟩:=trodVars_none hV
 have k0:=h0
 have lt0:∀x ∈ p0,x.block<W.heap.size:=by obtain ⟨m,hm⟩:=k0; exact DataW.trod_lt m _ _ _ hm
 have k1:=h1
 have lt1:∀x ∈ p1,x.block<W.heap.size:=by obtain ⟨m,hm⟩:=k1; exact DataW.trod_lt m _ _ _ hm
 obtain ⟨_,_,_,hT0⟩:=obTy
 obtain ⟨o0,q0_,rfl,ho0,hi0⟩:=open_ob (bulkOf H) hT0 (fun _=>rfl) (hval 0 27 v0 rfl rfl) h0
 obtain ⟨s1,rfl,hs_s1⟩:=open_str Tryz.underlying9 (hval 1 9 v1 rfl rfl) h1
 clear hA0 hval0
 refine (objWrites_any (hv W) (hv W) o0 q0_ s1 W (hv_le W) hLz (hv_le W) ho0 hs_s1).mono fun e W' ⟨he,hx⟩=>?_
 subst he
 have bel:=hx.below
 exact ⟨_,O,_,_,_,[],_,[],hW',trodAll_mk1 (shut_bool Tryz.underlying4 _),(trodAll_cons_mk (Below.trod laidOut (by kernel_rfl) (of_decide_eq_true (by kernel_rfl)) k0 bel lt0) (trodAll_cons_mk (Below.trod laidOut (by kernel_rfl) (of_decide_eq_true (by kernel_rfl)) k1 bel lt1) trodAll_mk0)),O,bel.frame _,fun h=>by cases h⟩
theorem objWrites_said:Rows.ObjWritesSaid:=
 OpenClaim.holds_of_wide 4 Tryz.f4 rfl rfl rfl rfl rfl rfl rfl ⟨rfl,rfl,rfl,rfl,rfl⟩ rfl rfl rfl rfl rfl (by kernel_rfl) Tryz.func4 (by kernel_rfl)
   (of_decide_eq_true (by kernel_rfl)) (by unfold Func.isWrapper; first | (rw [if_pos (by decide +kernel)]; kernel_rfl) | (rw [if_neg (by decide +kernel)]; exact ⟨rfl,rfl⟩))
   (fun os started H enc _=>objWrites_lifted os started H enc)
theorem objWrites_plain (f:FuncId) (fn:Func) (hf:Tryz.pinned.checked.prog.funcNamed Rows.objWritesRow.func=some f) (hfn:Tryz.pinned.checked.prog.funcs[f]? = some fn) :
   true=Tryz.pinned.checked.prog.looks []∧∀(j:Nat) t,fn.params[j]? = some t→Tryz.pinned.checked.prog.wantsStandIn t=false:=by
 obtain rfl:f=4:=Option.some.inj ((show Tryz.prog.funcNamed Rows.objWritesRow.func=some 4 by kernel_rfl).symm.trans hf) |>.symm
 obtain rfl:fn=Tryz.f4:=(Option.some.inj (Tryz.func4.symm.trans hfn)).symm
 refine ⟨by kernel_rfl,fun j t ht=>?_⟩
 rw [Tryz.params4] at ht
 have hm:t ∈ [27,9]:=by simpa using Array.mem_of_getElem? ht
 have hall:([27,9].all fun u=>!Tryz.prog.wantsStandIn u)=true:=by kernel_rfl
 exact (show Tryz.prog.wantsStandIn t=false by simpa using List.all_eq_true.1 hall t hm)
theorem objWrites_proved:Rows.ObjWritesCardSaid:=
 Claim7.holds_tied_plain_at .later [] _ _ _ _ objWrites_said (fun _ h=>by cases h) (by kernel_rfl) (fun _ h=>by cases h) objWrites_row_tie rfl ⟨rfl,rfl⟩ (by kernel_rfl) rfl objWrites_plain (by kernel_rfl)
end Go.Proofs.YtplfmnkmlaolpaaGreatDoor
end
