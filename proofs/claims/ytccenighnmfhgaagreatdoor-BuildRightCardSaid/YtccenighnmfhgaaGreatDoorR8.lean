/- BuildRight: what Units tells is a right program, or needs too many numbers; what Build tells is a right image. -/
import Derived.Test.YtccenighnmfhgaaGreatDoorR7
set_option linter.unusedVariables false
set_option linter.unusedSimpArgs false
section
namespace Go.Proofs.YtccenighnmfhgaaGreatDoor
open Go.Bw
open Go.ChangeShapes Go.WideShapes Go.ChangeAt Go.RowKit Go.Joins Go.Deep
set_option maxRecDepth 100000 in
theorem Vv (os:Os) (n:os.Started) (a:Type) (enc:TypeId×Value->a) :
   ReturnsInHanded {} Tryz.checked os 7 .any (λw args=>(Rows.buildRightSpec.pre enc Tryz.prog Tryz.f7 [] false w args/\laidMetH Tryz.prog Rows.buildRightRow.laid w)/\sizedMet enc Tryz.prog Tryz.f7 (OpenSpec.ofChange Rows.buildRightSpec) false w args) (Rows.buildRightSpec.post enc Tryz.prog Tryz.f7 false true false false):=by
 refine returnsInHanded_of_change_and (C:=Tryz.checked) (X:=λw _=>laidMetH Tryz.prog Rows.buildRightRow.laid w) (λ_ _ _ o h=>h.of_heap o) own n (by kernel_rfl) Tryz.func7
   (ChangeSpec.witness_shaped (enc:=enc) (C:=Tryz.checked) (os:=os) (X:=λw _=>laidMetH Tryz.prog Rows.buildRightRow.laid w) false (World.doorLaid Tryz.prog 62 os) #[.slice none 0 0] 8 rfl (World.shaped_of_RefB (by kernel_rfl) (by kernel_rfl)) (by kernel_rfl) (by kernel_rfl) (by kernel_rfl) (U1 os _)) ?_
 intro W base args ds J K b c _ _ r _;have s:Laid (hv W):=Ny r;have d:∀(j:Nat) t v,Tryz.f7.params[j]? = some t->args[j]? = some v->Value.okWide Tryz.prog W .any base t v:=b;have u:=c;obtain ⟨p,q,f,y,rfl,L,M⟩:=c;have g:DataW.TrodAll enc Tryz.prog W 0 (λ_=>true) true Tryz.f7.params.toList args.toList ds p:=f;rw [Tryz.params7] at g d;obtain ⟨v0,N,d0,P,z,Q,R,rfl,rfl,i,A⟩:=trodAll_cons g;obtain ⟨rfl,rfl,rfl⟩:=trodAll_nil A
 obtain rfl:args = #[v0]:=by cases args; simp_all
 obtain ⟨rfl,rfl⟩:=trodVars_none y;have k:=i
 have B:∀x ∈ z,x.block<W.heap.size:=by obtain ⟨m,D⟩:=k; exact DataW.trod_lt m _ _ _ D
 obtain ⟨E,c0,F,rfl,G⟩:=open_strs (UT a) Tryz.underlying9 (by kernel_rfl) (λ_=>rfl) Tryz.underlying22 (d 0 22 v0 rfl rfl) i
 clear f b
 refine (Vr (hv W) (hv W) E c0 F W (iR W) s (iR W) G).mono λe W' ⟨H,I⟩=>?_;subst H;have l:=I.below;exact ⟨_,O,_,_,_,[],_,[],u,trodAll_mk1 (shut_bool Tryz.underlying4 _),(trodAll_cons_mk (Below.trod laidOut (by kernel_rfl) (of_decide_eq_true (by kernel_rfl)) k l B) trodAll_mk0),O,l.frame _,λh=>by cases h⟩
set_option maxHeartbeats 8000000 in
theorem Vt:Rows.BuildRightSaid:=
 OpenClaim.holds_of_wide 7 Tryz.f7 rfl rfl rfl rfl rfl rfl rfl ⟨rfl,rfl,rfl,rfl,rfl⟩ rfl rfl rfl rfl rfl (by as_aux_lemma=>kernel_rfl) Tryz.func7 (by as_aux_lemma=>kernel_rfl)
   (of_decide_eq_true (by as_aux_lemma=>kernel_rfl)) (by unfold Func.isWrapper; first | (rw [if_pos (by decide +kernel)]; kernel_rfl) | (rw [if_neg (by decide +kernel)]; exact ⟨rfl,rfl⟩))
   (λos a b enc _=>Vv os a b enc)
set_option maxHeartbeats 8000000 in
theorem Vu (f:FuncId) (fn:Func) (b:Tryz.pinned.checked.prog.funcNamed Rows.buildRightRow.func=some f) (c:Tryz.pinned.checked.prog.funcs[f]? = some fn) :
   true=Tryz.pinned.checked.prog.looks []/\∀(j:Nat) t,fn.params[j]? = some t->Tryz.pinned.checked.prog.wantsStandIn t=false:=by
 obtain rfl:f=7:=Option.some.inj ((show Tryz.prog.funcNamed Rows.buildRightRow.func=some 7 by as_aux_lemma=>kernel_rfl).symm.trans b) |>.symm;obtain rfl:fn=Tryz.f7:=(Option.some.inj (Tryz.func7.symm.trans c)).symm;refine ⟨by as_aux_lemma=>kernel_rfl,λj t a=>?_⟩;rw [Tryz.params7] at a
 have d:t ∈ [22]:=by simpa using Array.mem_of_getElem? a
 have e:([22].all λu=>!Tryz.prog.wantsStandIn u)=true:=by as_aux_lemma=>kernel_rfl
 exact (show Tryz.prog.wantsStandIn t=false by simpa using List.all_eq_true.1 e t d)
set_option maxHeartbeats 8000000 in
theorem buildRight_proved:Rows.BuildRightCardSaid:=
 Claim7.holds_tied_plain_at .later [] _ _ _ _ Vt (λ_ h=>by cases h) (by as_aux_lemma=>kernel_rfl) (λ_ h=>by cases h) buildRight_row_tie rfl ⟨rfl,rfl⟩ (by as_aux_lemma=>kernel_rfl) rfl Vu (by as_aux_lemma=>kernel_rfl)
end Go.Proofs.YtccenighnmfhgaaGreatDoor
end
