/- The law TreeBack, where what comes in is of bulk at most 1048576: the call returns true and leaves the module and the text as they read; the library's listed variables hold what the program's text lays. -/
import Derived.Deep.DeepHandedRow
import Derived.Deep.DeepWitnessRowRef
import Derived.LaidMore
import Derived.Lib.LaidTab
import Derived.OpenShut
import Derived.ProofKit
import Derived.SevenTiedAt
import Derived.Stop.Joined
import Derived.Stop.LaidErr
import Derived.Test.YtjfldjidhkfnbaaDoorCards
import Derived.Test.YtjfldjidhkfnbaaDoorTie
import Derived.Test.YtjfldjidhkfnbaaDoorB4
set_option linter.unusedVariables false
set_option linter.unusedSimpArgs false
section
namespace Go.Proofs.YtjfldjidhkfnbaaDoor
open Go.Bw
set_option linter.unusedVariables false
set_option linter.unusedSimpArgs false
open Go.ChangeShapes Go.WideShapes Go.ChangeAt Go.RowKit Go.Joins Go.Deep
theorem modTy:∃e s d p m,ModTy Tryd.prog 88 62 56 58 27 60 25 23 24 22 e s d p m 3 4 9:=⟨_,_,_,_,_,⟨Tryd.underlying3,Tryd.underlying4,Tryd.underlying9,(by kernel_rfl),Tryd.underlying88,(by kernel_rfl),(by simp),Tryd.underlying60,Tryd.underlying62,(by kernel_rfl),(by simp),Tryd.underlying25,Tryd.underlying56,(by kernel_rfl),(by simp),Tryd.underlying23,Tryd.underlying58,(by kernel_rfl),(by simp),Tryd.underlying24,Tryd.underlying22,Tryd.underlying27,(by kernel_rfl),(by simp)⟩⟩
def bulkOf (H:Type):Bulk H:=⟨Rows.uptoBulk,Rows.uptoBulkAll,fun l=>by simp [Rows.uptoBulk],fun l=>by simp [Rows.uptoBulk],fun l r=>by simp only [Rows.uptoBulk]; omega,by simp [Rows.uptoBulkAll],fun d r=>by simp [Rows.uptoBulkAll]⟩
theorem own:ownKnob Tryd.prog.godebug=none:=by kernel_rfl
theorem laidOut:laidOutB Tryd.prog=true:=by kernel_rfl
theorem tPow:(Tryd.prog.globals[0]?).map (·.type)=some 140:=by kernel_rfl
theorem tRng:(Tryd.prog.globals[2]?).map (·.type)=some 90:=by kernel_rfl
theorem tSyn:(Tryd.prog.globals[1]?).map (·.type)=some 90:=by kernel_rfl
theorem nRng : Tryd.prog.globalNamed "strconv.ErrRange" = some 2 := by kernel_rfl
theorem nSyn : Tryd.prog.globalNamed "strconv.ErrSyntax" = some 1 := by kernel_rfl
theorem cPow:Tryd.prog.cellsOf 140=20:=by kernel_rfl
theorem cU64:Tryd.prog.cellsOf 117=1:=by kernel_rfl
theorem cErr:Tryd.prog.cellsOf 156=1:=by kernel_rfl
theorem cStr:Tryd.prog.cellsOf 9=1:=by kernel_rfl
theorem rowErr (u:TypeId) (h:Tryd.prog.typeName? 3 u=Tryd.prog.typeName? 3 154):u=154:=
  typeName_ptr_named (P := Tryd.prog) (nm := "errors.errorString") (by kernel_rfl) (by kernel_rfl) (by decide) u (h.trans (by kernel_rfl))
theorem laidv_of {W:World} (h:laidMetH Tryd.prog Rows.treeBackRow.laid W):Laid (hv W):=by
  rw [MakeChecks.laidMetH_plain _ _ _ (by kernel_rfl)] at h
  have h3:=h.tail.tail
  have ht:Lib.TabIs Tryd.prog W powNm .u64 Lib.pow10Tab:=Lib.tabIs_of_head (k:=.u64) (zs:=Lib.pow10Tab) powName tPow Tryd.underlying140 Tryd.underlying117 cU64 cPow h3
  obtain ⟨a1,s1,hv1,_⟩:=laid_sentinel h3.tail nRng tRng Tryd.underlying90 (fun u hu=>rowErr u (hu.trans (by kernel_rfl))) Tryd.underlying154 Tryd.underlying156 rfl rfl Tryd.underlying9 cErr cStr
  obtain ⟨a2,s2,hv2,_⟩:=laid_sentinel h3.tail.tail nSyn tSyn Tryd.underlying90 (fun u hu=>rowErr u (hu.trans (by kernel_rfl))) Tryd.underlying154 Tryd.underlying156 rfl rfl Tryd.underlying9 cErr cStr
  exact ⟨pow_of ht powName,⟨_,vc_of_cell' (by simpa using World.var?_cell nSyn hv2 0),.inr ⟨_,_,rfl⟩⟩,⟨_,vc_of_cell' (by simpa using World.var?_cell nRng hv1 0),.inr ⟨_,_,rfl⟩⟩⟩
theorem door_met (os:Os) (args:Array Value):laidMetH Tryd.prog Rows.treeBackRow.laid ((World.doorLaid Tryd.prog 62 os).forCall (fun _ _=>0) ⟨#[],args,[]⟩).memory:=
  laidMetH_of_parts3 (fuel:=8) (laidMet_of_run' 8 (by kernel_rfl) (by kernel_rfl)) (by kernel_rfl) (by kernel_rfl)
end Go.Proofs.YtjfldjidhkfnbaaDoor
end
section
namespace Go.Proofs.YtjfldjidhkfnbaaDoor
open Go.Bw
set_option linter.unusedVariables false
set_option linter.unusedSimpArgs false
open Go.ChangeShapes Go.WideShapes Go.ChangeAt Go.RowKit Go.Joins Go.Deep
theorem treeBack_reads (os:Os) {H:Type} (enc:TypeId×Value→H):∃places,DataW.whole enc Tryd.prog ((World.doorLaid Tryd.prog 62 os).forCall (fun _ _=>0) ⟨#[],#[.agg #[.string ⟨#[]⟩,.slice none 0 0,.slice none 0 0,.slice none 0 0,.slice none 0 0],.string ⟨#[]⟩],[]⟩).memory Tryd.f3.params.toList Rows.treeBackSpec.vars false #[.agg #[.string ⟨#[]⟩,.slice none 0 0,.slice none 0 0,.slice none 0 0,.slice none 0 0],.string ⟨#[]⟩].toList 8=some ([.agg [.lit (.string []),.nil,.nil,.nil,.nil],.lit (.string [])],[],places):=
  ⟨[],by kernel_rfl⟩
set_option maxRecDepth 100000 in
theorem treeBack_lifted (os:Os) (started:os.Started) (H:Type) (enc:TypeId×Value→H) (F:Stop.Interp) :
    ReturnsInHanded {} Tryd.checked os 3 .any ((Rows.OpenSpec.upto Rows.treeBackSpec).preRow enc Tryd.prog Tryd.f3 Rows.treeBackUptoRow.domain false Rows.treeBackUptoRow.laid) (((Rows.OpenSpec.upto Rows.treeBackSpec).at F).post enc Tryd.prog Tryd.f3 false true false false):=by
  obtain ⟨places,hx⟩:=treeBack_reads os enc
  refine returnsInHanded_of_row (C:=Tryd.checked) (s:=Rows.OpenSpec.upto Rows.treeBackSpec) own started (by kernel_rfl) Tryd.func3
    (witness_row_atRef (enc:=enc) (C:=Tryd.checked) false (World.doorLaid Tryd.prog 62 os) #[.agg #[.string ⟨#[]⟩,.slice none 0 0,.slice none 0 0,.slice none 0 0,.slice none 0 0],.string ⟨#[]⟩] rfl (by kernel_rfl) (by kernel_rfl) (by kernel_rfl)
      (OpenSpec.preRow_of_cond 8 hx (by kernel_rfl) (fun k hk=>by cases hk; kernel_rfl) (by kernel_rfl) (door_met os _))) ?_
  intro W base args ds gs before hval0 hW _ hcond _ hLd _ _
  have hLz:Laid (hv W):=laidv_of hLd
  have hval:∀(j:Nat) t v,Tryd.f3.params[j]? = some t→args[j]? = some v→Value.okWide Tryd.prog W .any base t v:=hval0
  have hW':=hW
  obtain ⟨p,q,hA0,hV,rfl,hfz,hnd⟩:=hW
  have hA:DataW.TrodAll enc Tryd.prog W 0 (fun _=>true) true Tryd.f3.params.toList args.toList ds p:=hA0
  rw [Tryd.params3] at hA hval
  obtain ⟨v0,vs0,d0,ds0,p0,q0,hargs,rfl,rfl,h0,r0⟩:=trodAll_cons hA
  obtain ⟨v1,vs1,d1,ds1,p1,q1,rfl,rfl,rfl,h1,r1⟩:=trodAll_cons r0
  obtain ⟨rfl,rfl,rfl⟩:=trodAll_nil r1
  obtain rfl:args = #[v0,v1]:=by cases args; simp_all
  obtain ⟨rfl,rfl⟩:=trodVars_none hV
  have k0:=h0
  have lt0:∀x ∈ p0,x.block<W.heap.size:=by obtain ⟨m,hm⟩:=k0; exact DataW.trod_lt m _ _ _ hm
  have k1:=h1
  have lt1:∀x ∈ p1,x.block<W.heap.size:=by obtain ⟨m,hm⟩:=k1; exact DataW.trod_lt m _ _ _ hm
  obtain ⟨_,_,_,_,_,hT0⟩:=modTy
  obtain ⟨m0,q0_,n0,rfl,hm0,hb0⟩:=open_mod (bulkOf H) hT0 (fun _=>rfl) (hval 0 27 v0 rfl rfl) h0
  have hb0:wM m0≤Rows.uptoBulk d0:=hb0
  obtain ⟨s1,rfl,hs_s1⟩:=open_str Tryd.underlying9 (hval 1 9 v1 rfl rfl) h1
  clear hA0 hval0
  have hbulk:Rows.uptoBulkAll [d0,d1]≤1048576:=of_decide_eq_true (hcond _ rfl)
  simp only [Rows.uptoBulkAll] at hbulk
  have hb0:wM m0≤109951162777:=by omega
  refine (treeBack_any (hv W) (hv W) n0 n0 q0_ m0 W (hv_le W) hLz (hv_le W) hm0 hb0 s1).mono fun e W' ⟨he,hx⟩=>?_
  subst he
  have bel:=hx.below
  exact ⟨_,rfl,_,_,_,[],_,[],hW',trodAll_mk1 (shut_bool Tryd.underlying4 _),(trodAll_cons_mk (Below.trod laidOut (by kernel_rfl) (of_decide_eq_true (by kernel_rfl)) k0 bel lt0) (trodAll_cons_mk (Below.trod laidOut (by kernel_rfl) (of_decide_eq_true (by kernel_rfl)) k1 bel lt1) trodAll_mk0)),rfl,bel.frame _,fun h=>by cases h⟩
theorem treeBack_said:Rows.TreeBackUptoSaid:=
  OpenClaim.holds_of_cond 3 Tryd.f3 rfl rfl rfl rfl rfl rfl rfl ⟨rfl,rfl,rfl,rfl,rfl⟩ rfl rfl rfl rfl rfl (by kernel_rfl) Tryd.func3 (by kernel_rfl)
    (of_decide_eq_true (by kernel_rfl)) (by unfold Func.isWrapper; first | (rw [if_pos (by decide +kernel)]; kernel_rfl) | (rw [if_neg (by decide +kernel)]; exact ⟨rfl,rfl⟩))
    (fun os started H enc _ F=>by rw [OpenClaim.pre_eq_preRow]; exact treeBack_lifted os started H enc F)
theorem treeBack_plain (f:FuncId) (fn:Func) (hf:Tryd.pinned.checked.prog.funcNamed Rows.treeBackUptoRow.func=some f) (hfn:Tryd.pinned.checked.prog.funcs[f]? = some fn) :
    true=Tryd.pinned.checked.prog.looks []∧∀(j:Nat) t,fn.params[j]? = some t→Tryd.pinned.checked.prog.wantsStandIn t=false:=by
  obtain rfl:f=3:=Option.some.inj ((show Tryd.prog.funcNamed Rows.treeBackUptoRow.func=some 3 by kernel_rfl).symm.trans hf) |>.symm
  obtain rfl:fn=Tryd.f3:=(Option.some.inj (Tryd.func3.symm.trans hfn)).symm
  refine ⟨by kernel_rfl,fun j t ht=>?_⟩
  rw [Tryd.params3] at ht
  have hm:t ∈ [27,9]:=by simpa using Array.mem_of_getElem? ht
  have hall:([27,9].all fun u=>!Tryd.prog.wantsStandIn u)=true:=by kernel_rfl
  exact (show Tryd.prog.wantsStandIn t=false by simpa using List.all_eq_true.1 hall t hm)
theorem treeBack_proved:Rows.TreeBackUptoCardSaid:=
  Claim7.holds_tied_plain_at .later [] _ _ _ _ treeBack_said (fun _ h=>by cases h) (by kernel_rfl) (fun _ h=>by cases h) treeBackUpto_row_tie rfl ⟨rfl,rfl⟩ (by kernel_rfl) rfl treeBack_plain (by kernel_rfl)
end Go.Proofs.YtjfldjidhkfnbaaDoor
end
