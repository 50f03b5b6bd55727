/- BuildAlike: Build tells the same image, in whatever order the texts are. -/
import Derived.Test.YtccenighnmfhgaaGreatDoorA7
set_option linter.unusedVariables false
set_option linter.unusedSimpArgs false
section
namespace Go.Proofs.YtccenighnmfhgaaGreatDoor
open Go.Bw
open Go.ChangeShapes Go.WideShapes Go.ChangeAt Go.RowKit Go.Joins Go.Deep
set_option maxRecDepth 100000 in
theorem ayo (os:Os) (started:os.Started) (H:Type) (enc:TypeId×Value->H) :
   ReturnsInHanded {} Tryz.checked os 5 .any (λw args=>(Rows.buildAlikeSpec.pre enc Tryz.prog Tryz.f5 [] false w args/\laidMetH Tryz.prog Rows.buildAlikeRow.laid w)/\sizedMet enc Tryz.prog Tryz.f5 (OpenSpec.ofChange Rows.buildAlikeSpec) false w args) (Rows.buildAlikeSpec.post enc Tryz.prog Tryz.f5 false true false false):=by
 refine returnsInHanded_of_change_and (C:=Tryz.checked) (X:=λw _=>laidMetH Tryz.prog Rows.buildAlikeRow.laid w) (λ_ _ _ hh h=>h.of_heap hh) own started (by kernel_rfl) Tryz.func5
   (ChangeSpec.witness_shaped (enc:=enc) (C:=Tryz.checked) (os:=os) (X:=λw _=>laidMetH Tryz.prog Rows.buildAlikeRow.laid w) false (World.doorLaid Tryz.prog 62 os) #[.slice none 0 0,.int .i64 0,.int .i64 0] 8 rfl (World.shaped_of_RefB (by kernel_rfl) (by kernel_rfl)) (by kernel_rfl) (by kernel_rfl) (by kernel_rfl) (ayn os _)) ?_
 intro W base args ds gs before ae9 hW _ _ hLd _;have hLz:Laid (hv W):=aym hLd;have xw:∀(j:Nat) t v,Tryz.f5.params[j]? = some t->args[j]? = some v->Value.okWide Tryz.prog W .any base t v:=ae9;have hW':=hW;obtain ⟨p,q,Ik,hV,rfl,hfz,j9⟩:=hW;have hA:DataW.TrodAll enc Tryz.prog W 0 (λ_=>true) true Tryz.f5.params.toList args.toList ds p:=Ik;rw [Tryz.params5] at hA xw;obtain ⟨v0,vs0,d0,ds0,p0,q0,qn,rfl,rfl,h0,r0⟩:=trodAll_cons hA;obtain ⟨v1,vs1,d1,ds1,p1,q1,rfl,rfl,rfl,h1,r1⟩:=trodAll_cons r0;obtain ⟨v2,vs2,d2,ds2,p2,q2,rfl,rfl,rfl,h2,r2⟩:=trodAll_cons r1;obtain ⟨rfl,rfl,rfl⟩:=trodAll_nil r2
 obtain rfl:args = #[v0,v1,v2]:=by cases args; simp_all
 obtain ⟨rfl,rfl⟩:=trodVars_none hV;have k0:=h0
 have lt0:∀x ∈ p0,x.block<W.heap.size:=by obtain ⟨m,hm⟩:=k0; exact DataW.trod_lt m _ _ _ hm
 have k1:=h1
 have lt1:∀x ∈ p1,x.block<W.heap.size:=by obtain ⟨m,hm⟩:=k1; exact DataW.trod_lt m _ _ _ hm
 have k2:=h2
 have lt2:∀x ∈ p2,x.block<W.heap.size:=by obtain ⟨m,hm⟩:=k2; exact DataW.trod_lt m _ _ _ hm
 obtain ⟨a0,c0,l0,rfl,E2⟩:=open_strs (ayg H) Tryz.underlying9 (by kernel_rfl) (λ_=>rfl) Tryz.underlying22 (xw 0 22 v0 rfl rfl) h0;obtain ⟨z1,rfl,oX⟩:=Go.Bw.open_int Tryz.underlying3 (xw 1 3 v1 rfl rfl) h1;obtain ⟨z2,rfl,rI⟩:=Go.Bw.open_int Tryz.underlying3 (xw 2 3 v2 rfl rfl) h2
 clear Ik ae9
 refine (ax' (hv W) (hv W) a0 c0 l0 z1 oX z2 rI W (kR W) hLz (kR W) E2).mono λe W' ⟨he,hx⟩=>?_;subst he;have Nq:=hx.below;exact ⟨_,O,_,_,_,[],_,[],hW',trodAll_mk1 (shut_bool Tryz.underlying4 _),(trodAll_cons_mk (Below.trod laidOut (by kernel_rfl) (of_decide_eq_true (by kernel_rfl)) k0 Nq lt0) (trodAll_cons_mk (Below.trod laidOut (by kernel_rfl) (of_decide_eq_true (by kernel_rfl)) k1 Nq lt1) (trodAll_cons_mk (Below.trod laidOut (by kernel_rfl) (of_decide_eq_true (by kernel_rfl)) k2 Nq lt2) trodAll_mk0))),O,Nq.frame _,λh=>by cases h⟩
set_option maxHeartbeats 8000000 in
theorem ayv:Rows.BuildAlikeSaid:=
 OpenClaim.holds_of_wide 5 Tryz.f5 rfl rfl rfl rfl rfl rfl rfl ⟨rfl,rfl,rfl,rfl,rfl⟩ rfl rfl rfl rfl rfl (by as_aux_lemma=>kernel_rfl) Tryz.func5 (by as_aux_lemma=>kernel_rfl)
   (of_decide_eq_true (by as_aux_lemma=>kernel_rfl)) (by unfold Func.isWrapper; first | (rw [if_pos (by decide +kernel)]; kernel_rfl) | (rw [if_neg (by decide +kernel)]; exact ⟨rfl,rfl⟩))
   (λos started H enc _=>ayo os started H enc)
set_option maxHeartbeats 8000000 in
theorem ayw (f:FuncId) (fn:Func) (hf:Tryz.pinned.checked.prog.funcNamed Rows.buildAlikeRow.func=some f) (SK:Tryz.pinned.checked.prog.funcs[f]? = some fn) :
   true=Tryz.pinned.checked.prog.looks []/\∀(j:Nat) t,fn.params[j]? = some t->Tryz.pinned.checked.prog.wantsStandIn t=false:=by
 obtain rfl:f=5:=Option.some.inj ((show Tryz.prog.funcNamed Rows.buildAlikeRow.func=some 5 by as_aux_lemma=>kernel_rfl).symm.trans hf) |>.symm;obtain rfl:fn=Tryz.f5:=(Option.some.inj (Tryz.func5.symm.trans SK)).symm;refine ⟨by as_aux_lemma=>kernel_rfl,λj t ht=>?_⟩;rw [Tryz.params5] at ht
 have hm:t ∈ [22,3,3]:=by simpa using Array.mem_of_getElem? ht
 have bT:([22,3,3].all λu=>!Tryz.prog.wantsStandIn u)=true:=by as_aux_lemma=>kernel_rfl
 exact (show Tryz.prog.wantsStandIn t=false by simpa using List.all_eq_true.1 bT t hm)
set_option maxHeartbeats 8000000 in
theorem buildAlike_proved:Rows.BuildAlikeCardSaid:=
 Claim7.holds_tied_plain_at .later [] _ _ _ _ ayv (λ_ h=>by cases h) (by as_aux_lemma=>kernel_rfl) (λ_ h=>by cases h) buildAlike_row_tie rfl ⟨rfl,rfl⟩ (by as_aux_lemma=>kernel_rfl) rfl ayw (by as_aux_lemma=>kernel_rfl)
end Go.Proofs.YtccenighnmfhgaaGreatDoor
end
