/- A face is right, what is resolved without uses is a right program, and what is resolved has a face, where what is handed in has a bulk of at most 1048576 (the second form). -/
import Derived.Test.YtinnlppbkhhoiaaGreatDoorR5
set_option linter.unusedVariables false
set_option linter.unusedSimpArgs false
section
namespace Go.Proofs.YtinnlppbkhhoiaaGreatDoor
open Go.Bw
set_option linter.unusedVariables false
set_option linter.unusedSimpArgs false
open Go.ChangeShapes Go.WideShapes Go.ChangeAt Go.RowKit Go.Joins Go.Deep
theorem scopeRight_reads (os:Os) {H:Type} (enc:TypeId×Value→H):∃places,DataW.whole enc Tryz.prog ((World.doorLaid Tryz.prog 62 os).forCall (fun _ _=>0) ⟨#[],#[.agg #[.string ⟨#[]⟩,.slice none 0 0,.slice none 0 0,.slice none 0 0,.slice none 0 0],.slice none 0 0],[]⟩).memory Tryz.f5.params.toList Rows.scopeRightSpec.vars false #[.agg #[.string ⟨#[]⟩,.slice none 0 0,.slice none 0 0,.slice none 0 0,.slice none 0 0],.slice none 0 0].toList 8=some ([.agg [.lit (.string []),.nil,.nil,.nil,.nil],.nil],[],places):=
 ⟨[],by kernel_rfl⟩
set_option maxRecDepth 100000 in
theorem scopeRight_lifted (os:Os) (started:os.Started) (H:Type) (enc:TypeId×Value→H) (F:Stop.Interp) :
   ReturnsInHanded {} Tryz.checked os 5 .any ((Rows.OpenSpec.upto Rows.scopeRightSpec).preRow enc Tryz.prog Tryz.f5 Rows.scopeRightUptoRow.domain false Rows.scopeRightUptoRow.laid) (((Rows.OpenSpec.upto Rows.scopeRightSpec).at F).post enc Tryz.prog Tryz.f5 false true false false):=by
 obtain ⟨places,hx⟩:=scopeRight_reads os enc
 refine returnsInHanded_of_row (C:=Tryz.checked) (s:=Rows.OpenSpec.upto Rows.scopeRightSpec) own started (by kernel_rfl) Tryz.func5
   (witness_row_atRef (enc:=enc) (C:=Tryz.checked) false (World.doorLaid Tryz.prog 62 os) #[.agg #[.string ⟨#[]⟩,.slice none 0 0,.slice none 0 0,.slice none 0 0,.slice none 0 0],.slice none 0 0] rfl (by kernel_rfl) (by kernel_rfl) (by kernel_rfl)
     (OpenSpec.preRow_of_cond 8 hx (by kernel_rfl) (fun k hk=>by cases hk; kernel_rfl) (by kernel_rfl) (door_met os _))) ?_
 intro W base args ds gs before hval0 hW _ hcond _ hLd _ _
 have hLz:Laid (hv W):=laidv_of hLd
 have hval:∀(j:Nat) t v,Tryz.f5.params[j]? = some t→args[j]? = some v→Value.okWide Tryz.prog W .any base t v:=hval0
 have hW':=hW
 obtain ⟨p,q,hA0,hV,rfl,hfz,hnd⟩:=hW
 have hA:DataW.TrodAll enc Tryz.prog W 0 (fun _=>true) true Tryz.f5.params.toList args.toList ds p:=hA0
 rw [Tryz.params5] at hA hval
 obtain ⟨v0,vs0,d0,ds0,p0,q0,hargs,rfl,rfl,h0,r0⟩:=trodAll_cons hA
 obtain ⟨v1,vs1,d1,ds1,p1,q1,rfl,rfl,rfl,h1,r1⟩:=trodAll_cons r0
 obtain ⟨rfl,rfl,rfl⟩:=trodAll_nil r1
 obtain rfl:args = #[v0,v1]:=by cases args; simp_all
 obtain ⟨rfl,rfl⟩:=trodVars_none hV
 have k0:=h0
 have lt0:∀x ∈ p0,x.block<W.heap.size:=by obtain ⟨m,hm⟩:=k0; exact DataW.trod_lt m _ _ _ hm
 have k1:=h1
 have lt1:∀x ∈ p1,x.block<W.heap.size:=by obtain ⟨m,hm⟩:=k1; exact DataW.trod_lt m _ _ _ hm
 obtain ⟨_,_,_,_,_,hT0⟩:=modTy
 obtain ⟨m0,q0_,n0,rfl,hm0,hb0⟩:=open_mod (bulkOf H) hT0 (fun _=>rfl) (hval 0 27 v0 rfl rfl) h0
 have hb0:wM m0≤Rows.uptoBulk d0:=hb0
 obtain ⟨_,_,hF1⟩:=faceTy
 obtain ⟨fa1,fc1,fs1,rfl,hf1⟩:=open_faces (bulkOf H) hF1 (fun _=>rfl) (hval 1 38 v1 rfl rfl) h1
 have hf1:Sl rdFace 2 (hv W) fa1 fc1 fs1:=hf1.imp fun b o x ⟨a,c,h1,h2⟩=>⟨(a,c),h1,h2⟩
 clear hA0 hval0
 have hbulk:Rows.uptoBulkAll [d0,d1]≤1048576:=of_decide_eq_true (hcond _ rfl)
 simp only [Rows.uptoBulkAll] at hbulk
 have hb0:wM m0≤109951162777:=by omega
 refine (scopeRight_any (hv W) (hv W) (hv W) n0 n0 q0_ m0 W (hv_le W) hLz (hv_le W) (hv_le W) hm0 hb0 fa1 fc1 fs1 hf1).mono fun e W' ⟨he,hx⟩=>?_
 subst he
 have bel:=hx.below
 exact ⟨_,rfl,_,_,_,[],_,[],hW',trodAll_mk1 (shut_bool Tryz.underlying4 _),(trodAll_cons_mk (Below.trod laidOut (by kernel_rfl) (of_decide_eq_true (by kernel_rfl)) k0 bel lt0) (trodAll_cons_mk (Below.trod laidOut (by kernel_rfl) (of_decide_eq_true (by kernel_rfl)) k1 bel lt1) trodAll_mk0)),rfl,bel.frame _,fun h=>by cases h⟩
theorem scopeRight_said:Rows.ScopeRightUptoSaid:=
 OpenClaim.holds_of_cond 5 Tryz.f5 rfl rfl rfl rfl rfl rfl rfl ⟨rfl,rfl,rfl,rfl,rfl⟩ rfl rfl rfl rfl rfl (by kernel_rfl) Tryz.func5 (by kernel_rfl)
   (of_decide_eq_true (by kernel_rfl)) (by unfold Func.isWrapper; first | (rw [if_pos (by decide +kernel)]; kernel_rfl) | (rw [if_neg (by decide +kernel)]; exact ⟨rfl,rfl⟩))
   (fun os started H enc _ F=>by rw [OpenClaim.pre_eq_preRow]; exact scopeRight_lifted os started H enc F)
theorem scopeRight_plain (f:FuncId) (fn:Func) (hf:Tryz.pinned.checked.prog.funcNamed Rows.scopeRightUptoRow.func=some f) (hfn:Tryz.pinned.checked.prog.funcs[f]? = some fn) :
   true=Tryz.pinned.checked.prog.looks []∧∀(j:Nat) t,fn.params[j]? = some t→Tryz.pinned.checked.prog.wantsStandIn t=false:=by
 obtain rfl:f=5:=Option.some.inj ((show Tryz.prog.funcNamed Rows.scopeRightUptoRow.func=some 5 by kernel_rfl).symm.trans hf) |>.symm
 obtain rfl:fn=Tryz.f5:=(Option.some.inj (Tryz.func5.symm.trans hfn)).symm
 refine ⟨by kernel_rfl,fun j t ht=>?_⟩
 rw [Tryz.params5] at ht
 have hm:t ∈ [27,38]:=by simpa using Array.mem_of_getElem? ht
 have hall:([27,38].all fun u=>!Tryz.prog.wantsStandIn u)=true:=by kernel_rfl
 exact (show Tryz.prog.wantsStandIn t=false by simpa using List.all_eq_true.1 hall t hm)
theorem scopeRight_proved:Rows.ScopeRightUptoCardSaid:=
 Claim7.holds_tied_plain_at .later [] _ _ _ _ scopeRight_said (fun _ h=>by cases h) (by kernel_rfl) (fun _ h=>by cases h) scopeRightUpto_row_tie rfl ⟨rfl,rfl⟩ (by kernel_rfl) rfl scopeRight_plain (by kernel_rfl)
end Go.Proofs.YtinnlppbkhhoiaaGreatDoor
end
