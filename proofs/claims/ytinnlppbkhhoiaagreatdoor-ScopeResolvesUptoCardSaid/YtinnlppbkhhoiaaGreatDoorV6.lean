/- scope.Resolve answers as the document says, errors too, where what is handed in has a bulk of at most 1048576 (the second form, over the tied card). -/
import Derived.Deep.DeepHandedRow
import Derived.Deep.DeepWitnessRowRef
import Derived.LaidMore
import Derived.Lib.LaidTab
import Derived.OpenShut
import Derived.ProofKit
import Derived.SevenTiedAt
import Derived.Stop.Joined
import Derived.Stop.LaidErr
import Derived.Test.YtinnlppbkhhoiaaGreatDoorCards
import Derived.Test.YtinnlppbkhhoiaaGreatDoorTie
import Derived.Test.YtinnlppbkhhoiaaGreatDoorV5
set_option linter.unusedVariables false
set_option linter.unusedSimpArgs false
section
namespace Go.Proofs.YtinnlppbkhhoiaaGreatDoor
open Go.Bw
set_option linter.unusedVariables false
set_option linter.unusedSimpArgs false
open Go.ChangeShapes Go.WideShapes Go.ChangeAt Go.RowKit Go.Joins Go.Deep
theorem modTy:∃e s d p m,ModTy Tryz.prog 116 118 109 86 27 114 25 23 24 22 e s d p m 3 4 9:=⟨_,_,_,_,_,⟨Tryz.underlying3,Tryz.underlying4,Tryz.underlying9,(by kernel_rfl),Tryz.underlying116,(by kernel_rfl),(by simp),Tryz.underlying114,Tryz.underlying118,(by kernel_rfl),(by simp),Tryz.underlying25,Tryz.underlying109,(by kernel_rfl),(by simp),Tryz.underlying23,Tryz.underlying86,(by kernel_rfl),(by simp),Tryz.underlying24,Tryz.underlying22,Tryz.underlying27,(by kernel_rfl),(by simp)⟩⟩
def bulkOf (H:Type):Bulk H:=⟨Rows.uptoBulk,Rows.uptoBulkAll,fun l=>by simp [Rows.uptoBulk],fun l=>by simp [Rows.uptoBulk],fun l r=>by simp only [Rows.uptoBulk]; omega,by simp [Rows.uptoBulkAll],fun d r=>by simp [Rows.uptoBulkAll]⟩
theorem faceTy:∃x f,FaceTy Tryz.prog 3 9 55 28 30 38 x f:=⟨_,_,⟨Tryz.underlying3,Tryz.underlying9,Tryz.underlying55,(by kernel_rfl),(by simp),Tryz.underlying28,Tryz.underlying30,(by kernel_rfl),(by simp),Tryz.underlying38⟩⟩
theorem own:ownKnob Tryz.prog.godebug=none:=by kernel_rfl
theorem laidOut:laidOutB Tryz.prog=true:=by kernel_rfl
theorem tPow:(Tryz.prog.globals[3]?).map (·.type)=some 214:=by kernel_rfl
theorem tRng:(Tryz.prog.globals[1]?).map (·.type)=some 165:=by kernel_rfl
theorem tSyn:(Tryz.prog.globals[0]?).map (·.type)=some 165:=by kernel_rfl
theorem nRng : Tryz.prog.globalNamed "strconv.ErrRange" = some 1 := by kernel_rfl
theorem nSyn : Tryz.prog.globalNamed "strconv.ErrSyntax" = some 0 := by kernel_rfl
theorem cPow:Tryz.prog.cellsOf 214=20:=by kernel_rfl
theorem cU64:Tryz.prog.cellsOf 193=1:=by kernel_rfl
theorem cErr:Tryz.prog.cellsOf 212=1:=by kernel_rfl
theorem cStr:Tryz.prog.cellsOf 9=1:=by kernel_rfl
theorem rowErr (u:TypeId) (h:Tryz.prog.typeName? 3 u=Tryz.prog.typeName? 3 210):u=210:=
 typeName_ptr_named (P := Tryz.prog) (nm := "errors.errorString") (by kernel_rfl) (by kernel_rfl) (by decide) u (h.trans (by kernel_rfl))
theorem laidv_of {W:World} (h:laidMetH Tryz.prog Rows.scopeFacesRow.laid W):Laid (hv W):=by
 rw [MakeChecks.laidMetH_plain _ _ _ (by kernel_rfl)] at h
 have h3:=h.tail.tail
 have ht:Lib.TabIs Tryz.prog W powNm .u64 Lib.pow10Tab:=Lib.tabIs_of_head (k:=.u64) (zs:=Lib.pow10Tab) powName tPow Tryz.underlying214 Tryz.underlying193 cU64 cPow h3
 obtain ⟨a1,s1,hv1,_⟩:=laid_sentinel h3.tail nRng tRng Tryz.underlying165 (fun u hu=>rowErr u (hu.trans (by kernel_rfl))) Tryz.underlying210 Tryz.underlying212 rfl rfl Tryz.underlying9 cErr cStr
 obtain ⟨a2,s2,hv2,_⟩:=laid_sentinel h3.tail.tail nSyn tSyn Tryz.underlying165 (fun u hu=>rowErr u (hu.trans (by kernel_rfl))) Tryz.underlying210 Tryz.underlying212 rfl rfl Tryz.underlying9 cErr cStr
 exact ⟨pow_of ht powName,⟨_,vc_of_cell' (by simpa using World.var?_cell nSyn hv2 0),.inr ⟨_,_,rfl⟩⟩,⟨_,vc_of_cell' (by simpa using World.var?_cell nRng hv1 0),.inr ⟨_,_,rfl⟩⟩⟩
theorem door_met (os:Os) (args:Array Value):laidMetH Tryz.prog Rows.scopeFacesRow.laid ((World.doorLaid Tryz.prog 62 os).forCall (fun _ _=>0) ⟨#[],args,[]⟩).memory:=
 laidMetH_of_parts3 (fuel:=8) (laidMet_of_run' 8 (by kernel_rfl) (by kernel_rfl)) (by kernel_rfl) (by kernel_rfl)
end Go.Proofs.YtinnlppbkhhoiaaGreatDoor
end
section
namespace Go.Proofs.YtinnlppbkhhoiaaGreatDoor
open Go.Bw
set_option linter.unusedVariables false
set_option linter.unusedSimpArgs false
open Go.ChangeShapes Go.WideShapes Go.ChangeAt Go.RowKit Go.Joins Go.Deep
theorem scopeResolves_reads (os:Os) {H:Type} (enc:TypeId×Value→H):∃places,DataW.whole enc Tryz.prog ((World.doorLaid Tryz.prog 62 os).forCall (fun _ _=>0) ⟨#[],#[.agg #[.string ⟨#[]⟩,.slice none 0 0,.slice none 0 0,.slice none 0 0,.slice none 0 0],.slice none 0 0],[]⟩).memory Tryz.f4.params.toList Rows.scopeResolvesSpec.vars false #[.agg #[.string ⟨#[]⟩,.slice none 0 0,.slice none 0 0,.slice none 0 0,.slice none 0 0],.slice none 0 0].toList 8=some ([.agg [.lit (.string []),.nil,.nil,.nil,.nil],.nil],[],places):=
 ⟨[],by kernel_rfl⟩
set_option maxRecDepth 100000 in
theorem scopeResolves_lifted (os:Os) (started:os.Started) (H:Type) (enc:TypeId×Value→H) (F:Stop.Interp) :
   ReturnsInHanded {} Tryz.checked os 4 .any ((Rows.OpenSpec.upto Rows.scopeResolvesSpec).preRow enc Tryz.prog Tryz.f4 Rows.scopeResolvesUptoRow.domain false Rows.scopeResolvesUptoRow.laid) (((Rows.OpenSpec.upto Rows.scopeResolvesSpec).at F).post enc Tryz.prog Tryz.f4 false true false false):=by
 obtain ⟨places,hx⟩:=scopeResolves_reads os enc
 refine returnsInHanded_of_row (C:=Tryz.checked) (s:=Rows.OpenSpec.upto Rows.scopeResolvesSpec) own started (by kernel_rfl) Tryz.func4
   (witness_row_atRef (enc:=enc) (C:=Tryz.checked) false (World.doorLaid Tryz.prog 62 os) #[.agg #[.string ⟨#[]⟩,.slice none 0 0,.slice none 0 0,.slice none 0 0,.slice none 0 0],.slice none 0 0] rfl (by kernel_rfl) (by kernel_rfl) (by kernel_rfl)
     (OpenSpec.preRow_of_cond 8 hx (by kernel_rfl) (fun k hk=>by cases hk; kernel_rfl) (by kernel_rfl) (door_met os _))) ?_
 intro W base args ds gs before hval0 hW _ hcond _ hLd _ _
 have hLz:Laid (hv W):=laidv_of hLd
 have hval:∀(j:Nat) t v,Tryz.f4.params[j]? = some t→args[j]? = some v→Value.okWide Tryz.prog W .any base t v:=hval0
 have hW':=hW
 obtain ⟨p,q,hA0,hV,rfl,hfz,hnd⟩:=hW
 have hA:DataW.TrodAll enc Tryz.prog W 0 (fun _=>true) true Tryz.f4.params.toList args.toList ds p:=hA0
 rw [Tryz.params4] at hA hval
 obtain ⟨v0,vs0,d0,ds0,p0,q0,hargs,rfl,rfl,h0,r0⟩:=trodAll_cons hA
 obtain ⟨v1,vs1,d1,ds1,p1,q1,rfl,rfl,rfl,h1,r1⟩:=trodAll_cons r0
 obtain ⟨rfl,rfl,rfl⟩:=trodAll_nil r1
 obtain rfl:args = #[v0,v1]:=by cases args; simp_all
 obtain ⟨rfl,rfl⟩:=trodVars_none hV
 have k0:=h0
 have lt0:∀x ∈ p0,x.block<W.heap.size:=by obtain ⟨m,hm⟩:=k0; exact DataW.trod_lt m _ _ _ hm
 have k1:=h1
 have lt1:∀x ∈ p1,x.block<W.heap.size:=by obtain ⟨m,hm⟩:=k1; exact DataW.trod_lt m _ _ _ hm
 obtain ⟨_,_,_,_,_,hT0⟩:=modTy
 obtain ⟨m0,q0_,n0,rfl,hm0,hb0⟩:=open_mod (bulkOf H) hT0 (fun _=>rfl) (hval 0 27 v0 rfl rfl) h0
 have hb0:wM m0≤Rows.uptoBulk d0:=hb0
 obtain ⟨_,_,hF1⟩:=faceTy
 obtain ⟨fa1,fc1,fs1,rfl,hf1⟩:=open_faces (bulkOf H) hF1 (fun _=>rfl) (hval 1 38 v1 rfl rfl) h1
 have hf1:Sl rdFace 2 (hv W) fa1 fc1 fs1:=hf1.imp fun b o x ⟨a,c,h1,h2⟩=>⟨(a,c),h1,h2⟩
 clear hA0 hval0
 have hbulk:Rows.uptoBulkAll [d0,d1]≤1048576:=of_decide_eq_true (hcond _ rfl)
 simp only [Rows.uptoBulkAll] at hbulk
 have hb0:wM m0≤109951162777:=by omega
 refine (scopeResolves_any (hv W) (hv W) (hv W) n0 n0 q0_ m0 W (hv_le W) hLz (hv_le W) (hv_le W) hm0 hb0 fa1 fc1 fs1 hf1).mono fun e W' ⟨he,hx⟩=>?_
 subst he
 have bel:=hx.below
 exact ⟨_,rfl,_,_,_,[],_,[],hW',trodAll_mk1 (shut_bool Tryz.underlying4 _),(trodAll_cons_mk (Below.trod laidOut (by kernel_rfl) (of_decide_eq_true (by kernel_rfl)) k0 bel lt0) (trodAll_cons_mk (Below.trod laidOut (by kernel_rfl) (of_decide_eq_true (by kernel_rfl)) k1 bel lt1) trodAll_mk0)),rfl,bel.frame _,fun h=>by cases h⟩
theorem scopeResolves_said:Rows.ScopeResolvesUptoSaid:=
 OpenClaim.holds_of_cond 4 Tryz.f4 rfl rfl rfl rfl rfl rfl rfl ⟨rfl,rfl,rfl,rfl,rfl⟩ rfl rfl rfl rfl rfl (by kernel_rfl) Tryz.func4 (by kernel_rfl)
   (of_decide_eq_true (by kernel_rfl)) (by unfold Func.isWrapper; first | (rw [if_pos (by decide +kernel)]; kernel_rfl) | (rw [if_neg (by decide +kernel)]; exact ⟨rfl,rfl⟩))
   (fun os started H enc _ F=>by rw [OpenClaim.pre_eq_preRow]; exact scopeResolves_lifted os started H enc F)
theorem scopeResolves_plain (f:FuncId) (fn:Func) (hf:Tryz.pinned.checked.prog.funcNamed Rows.scopeResolvesUptoRow.func=some f) (hfn:Tryz.pinned.checked.prog.funcs[f]? = some fn) :
   true=Tryz.pinned.checked.prog.looks []∧∀(j:Nat) t,fn.params[j]? = some t→Tryz.pinned.checked.prog.wantsStandIn t=false:=by
 obtain rfl:f=4:=Option.some.inj ((show Tryz.prog.funcNamed Rows.scopeResolvesUptoRow.func=some 4 by kernel_rfl).symm.trans hf) |>.symm
 obtain rfl:fn=Tryz.f4:=(Option.some.inj (Tryz.func4.symm.trans hfn)).symm
 refine ⟨by kernel_rfl,fun j t ht=>?_⟩
 rw [Tryz.params4] at ht
 have hm:t ∈ [27,38]:=by simpa using Array.mem_of_getElem? ht
 have hall:([27,38].all fun u=>!Tryz.prog.wantsStandIn u)=true:=by kernel_rfl
 exact (show Tryz.prog.wantsStandIn t=false by simpa using List.all_eq_true.1 hall t hm)
theorem scopeResolves_proved:Rows.ScopeResolvesUptoCardSaid:=
 Claim7.holds_tied_plain_at .later [] _ _ _ _ scopeResolves_said (fun _ h=>by cases h) (by kernel_rfl) (fun _ h=>by cases h) scopeResolvesUpto_row_tie rfl ⟨rfl,rfl⟩ (by kernel_rfl) rfl scopeResolves_plain (by kernel_rfl)
end Go.Proofs.YtinnlppbkhhoiaaGreatDoor
end
