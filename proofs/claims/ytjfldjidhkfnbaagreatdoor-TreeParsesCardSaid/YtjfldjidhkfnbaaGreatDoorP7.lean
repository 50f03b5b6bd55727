/- The law TreeParses: whatever text comes in, the call returns true and leaves it as it reads; the library's listed variables hold what the program's text lays. -/
import Derived.Deep.DeepHandedRow
import Derived.Deep.DeepWitnessRowRef
import Derived.LaidMore
import Derived.Lib.LaidTab
import Derived.OpenShut
import Derived.ProofKit
import Derived.SevenTiedAt
import Derived.Stop.Joined
import Derived.Stop.LaidErr
import Derived.Test.YtjfldjidhkfnbaaGreatDoorCards
import Derived.Test.YtjfldjidhkfnbaaGreatDoorTie
import Derived.Test.YtjfldjidhkfnbaaGreatDoorP6
set_option linter.unusedVariables false
set_option linter.unusedSimpArgs false
section
namespace Go.Proofs.YtjfldjidhkfnbaaGreatDoor
open Go.Bw
set_option linter.unusedVariables false
set_option linter.unusedSimpArgs false
open Go.ChangeShapes Go.WideShapes Go.ChangeAt Go.RowKit Go.Joins Go.Deep
theorem own:ownKnob Tryz.prog.godebug=none:=by kernel_rfl
theorem laidOut:laidOutB Tryz.prog=true:=by kernel_rfl
theorem tPow:(Tryz.prog.globals[0]?).map (·.type)=some 153:=by kernel_rfl
theorem tRng:(Tryz.prog.globals[2]?).map (·.type)=some 113:=by kernel_rfl
theorem tSyn:(Tryz.prog.globals[1]?).map (·.type)=some 113:=by kernel_rfl
theorem nRng : Tryz.prog.globalNamed "strconv.ErrRange" = some 2 := by kernel_rfl
theorem nSyn : Tryz.prog.globalNamed "strconv.ErrSyntax" = some 1 := by kernel_rfl
theorem cPow:Tryz.prog.cellsOf 153=20:=by kernel_rfl
theorem cU64:Tryz.prog.cellsOf 135=1:=by kernel_rfl
theorem cErr:Tryz.prog.cellsOf 169=1:=by kernel_rfl
theorem cStr:Tryz.prog.cellsOf 9=1:=by kernel_rfl
theorem rowErr (u:TypeId) (h:Tryz.prog.typeName? 3 u=Tryz.prog.typeName? 3 167):u=167:=
 typeName_ptr_named (P := Tryz.prog) (nm := "errors.errorString") (by kernel_rfl) (by kernel_rfl) (by decide) u (h.trans (by kernel_rfl))
theorem laidv_of {W:World} (h:laidMetH Tryz.prog Rows.treeChecksRow.laid W):Laid (hv W):=by
 rw [MakeChecks.laidMetH_plain _ _ _ (by kernel_rfl)] at h
 have h3:=h.tail.tail
 have ht:Lib.TabIs Tryz.prog W powNm .u64 Lib.pow10Tab:=Lib.tabIs_of_head (k:=.u64) (zs:=Lib.pow10Tab) powName tPow Tryz.underlying153 Tryz.underlying135 cU64 cPow h3
 obtain ⟨a1,s1,hv1,_⟩:=laid_sentinel h3.tail nRng tRng Tryz.underlying113 (fun u hu=>rowErr u (hu.trans (by kernel_rfl))) Tryz.underlying167 Tryz.underlying169 rfl rfl Tryz.underlying9 cErr cStr
 obtain ⟨a2,s2,hv2,_⟩:=laid_sentinel h3.tail.tail nSyn tSyn Tryz.underlying113 (fun u hu=>rowErr u (hu.trans (by kernel_rfl))) Tryz.underlying167 Tryz.underlying169 rfl rfl Tryz.underlying9 cErr cStr
 exact ⟨pow_of ht powName,⟨_,vc_of_cell' (by simpa using World.var?_cell nSyn hv2 0),.inr ⟨_,_,rfl⟩⟩,⟨_,vc_of_cell' (by simpa using World.var?_cell nRng hv1 0),.inr ⟨_,_,rfl⟩⟩⟩
theorem door_met (os:Os) (args:Array Value):laidMetH Tryz.prog Rows.treeChecksRow.laid ((World.doorLaid Tryz.prog 62 os).forCall (fun _ _=>0) ⟨#[],args,[]⟩).memory:=
 laidMetH_of_parts3 (fuel:=8) (laidMet_of_run' 8 (by kernel_rfl) (by kernel_rfl)) (by kernel_rfl) (by kernel_rfl)
end Go.Proofs.YtjfldjidhkfnbaaGreatDoor
end
section
namespace Go.Proofs.YtjfldjidhkfnbaaGreatDoor
open Go.Bw
set_option linter.unusedVariables false
set_option linter.unusedSimpArgs false
open Go.ChangeShapes Go.WideShapes Go.ChangeAt Go.RowKit Go.Joins Go.Deep
set_option maxRecDepth 100000 in
theorem treeParses_lifted (os:Os) (started:os.Started) (H:Type) (enc:TypeId×Value→H) :
   ReturnsInHanded {} Tryz.checked os 5 .any (fun w args=>(Rows.treeParsesSpec.pre enc Tryz.prog Tryz.f5 [] false w args∧laidMetH Tryz.prog Rows.treeParsesRow.laid w)∧sizedMet enc Tryz.prog Tryz.f5 (OpenSpec.ofChange Rows.treeParsesSpec) false w args) (Rows.treeParsesSpec.post enc Tryz.prog Tryz.f5 false true false false):=by
 refine returnsInHanded_of_change_and (C:=Tryz.checked) (X:=fun w _=>laidMetH Tryz.prog Rows.treeParsesRow.laid w) (fun _ _ _ hh h=>h.of_heap hh) own started (by kernel_rfl) Tryz.func5
   (ChangeSpec.witness_shaped (enc:=enc) (C:=Tryz.checked) (os:=os) (X:=fun w _=>laidMetH Tryz.prog Rows.treeParsesRow.laid w) false (World.doorLaid Tryz.prog 62 os) #[.string ⟨#[]⟩] 8 rfl (World.shaped_of_RefB (by kernel_rfl) (by kernel_rfl)) (by kernel_rfl) (by kernel_rfl) (by kernel_rfl) (door_met os _)) ?_
 intro W base args ds gs before hval0 hW _ _ hLd _
 have hLz:Laid (hv W):=laidv_of hLd
 have hval:∀(j:Nat) t v,Tryz.f5.params[j]? = some t→args[j]? = some v→Value.okWide Tryz.prog W .any base t v:=hval0
 have hW':=hW
 obtain ⟨p,q,hA0,hV,rfl,hfz,hnd⟩:=hW
 have hA:DataW.TrodAll enc Tryz.prog W 0 (fun _=>true) true Tryz.f5.params.toList args.toList ds p:=hA0
 rw [Tryz.params5] at hA hval
 obtain ⟨v0,vs0,d0,ds0,p0,q0,hargs,rfl,rfl,h0,r0⟩:=trodAll_cons hA
 obtain ⟨rfl,rfl,rfl⟩:=trodAll_nil r0
 obtain rfl:args = #[v0]:=by cases args; simp_all
 obtain ⟨rfl,rfl⟩:=trodVars_none hV
 have k0:=h0
 have lt0:∀x ∈ p0,x.block<W.heap.size:=by obtain ⟨m,hm⟩:=k0; exact DataW.trod_lt m _ _ _ hm
 obtain ⟨s0,rfl,hs_s0⟩:=open_str Tryz.underlying9 (hval 0 9 v0 rfl rfl) h0
 clear hA0 hval0
 refine (treeParses_any (hv W) s0 W (hv_le W) hLz).mono fun e W' ⟨he,hx⟩=>?_
 subst he
 have bel:=hx.below
 exact ⟨_,rfl,_,_,_,[],_,[],hW',trodAll_mk1 (shut_bool Tryz.underlying4 _),(trodAll_cons_mk (Below.trod laidOut (by kernel_rfl) (of_decide_eq_true (by kernel_rfl)) k0 bel lt0) trodAll_mk0),rfl,bel.frame _,fun h=>by cases h⟩
theorem treeParses_said:Rows.TreeParsesSaid:=
 OpenClaim.holds_of_wide 5 Tryz.f5 rfl rfl rfl rfl rfl rfl rfl ⟨rfl,rfl,rfl,rfl,rfl⟩ rfl rfl rfl rfl rfl (by kernel_rfl) Tryz.func5 (by kernel_rfl)
   (of_decide_eq_true (by kernel_rfl)) (by unfold Func.isWrapper; first | (rw [if_pos (by decide +kernel)]; kernel_rfl) | (rw [if_neg (by decide +kernel)]; exact ⟨rfl,rfl⟩))
   (fun os started H enc _=>treeParses_lifted os started H enc)
theorem treeParses_plain (f:FuncId) (fn:Func) (hf:Tryz.pinned.checked.prog.funcNamed Rows.treeParsesRow.func=some f) (hfn:Tryz.pinned.checked.prog.funcs[f]? = some fn) :
   true=Tryz.pinned.checked.prog.looks []∧∀(j:Nat) t,fn.params[j]? = some t→Tryz.pinned.checked.prog.wantsStandIn t=false:=by
 obtain rfl:f=5:=Option.some.inj ((show Tryz.prog.funcNamed Rows.treeParsesRow.func=some 5 by kernel_rfl).symm.trans hf) |>.symm
 obtain rfl:fn=Tryz.f5:=(Option.some.inj (Tryz.func5.symm.trans hfn)).symm
 refine ⟨by kernel_rfl,fun j t ht=>?_⟩
 rw [Tryz.params5] at ht
 have hm:t ∈ [9]:=by simpa using Array.mem_of_getElem? ht
 have hall:([9].all fun u=>!Tryz.prog.wantsStandIn u)=true:=by kernel_rfl
 exact (show Tryz.prog.wantsStandIn t=false by simpa using List.all_eq_true.1 hall t hm)
theorem treeParses_proved:Rows.TreeParsesCardSaid:=
 Claim7.holds_tied_plain_at .later [] _ _ _ _ treeParses_said (fun _ h=>by cases h) (by kernel_rfl) (fun _ h=>by cases h) treeParses_row_tie rfl ⟨rfl,rfl⟩ (by kernel_rfl) rfl treeParses_plain (by kernel_rfl)
end Go.Proofs.YtjfldjidhkfnbaaGreatDoor
end
