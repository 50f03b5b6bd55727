/- BuildApart: compiled one by one, each with the faces of its uses alone, and linked, modules are what Build tells. -/
import Derived.Test.YtccenighnmfhgaaGreatDoorV7
set_option linter.unusedVariables false
set_option linter.unusedSimpArgs false
set_option linter.defProp false
section
namespace Go.Proofs.YtccenighnmfhgaaGreatDoor
open Go.Bw Go.Proofs.Tryz
open Go.ChangeShapes Go.WideShapes Go.ChangeAt Go.RowKit Go.Joins Go.Deep
set_option maxRecDepth 100000 in
theorem XF (os:Os) (n:os.Started) (a:Type) (enc:TypeId×Value->a) :
   ReturnsInHanded {} checked os 6 .any (λw args=>(Rows.buildApartSpec.pre enc prog f6 [] false w args/\laidMetH prog Rows.buildApartRow.laid w)/\sizedMet enc prog f6 (OpenSpec.ofChange Rows.buildApartSpec) false w args) (Rows.buildApartSpec.post enc prog f6 false true false false):=by
 refine returnsInHanded_of_change_and (C:=checked) (X:=λw _=>laidMetH prog Rows.buildApartRow.laid w) (λ_ _ _ o h=>h.of_heap o) own n ab func6
   (ChangeSpec.witness_shaped (enc:=enc) (C:=checked) (os:=os) (X:=λw _=>laidMetH prog Rows.buildApartRow.laid w) false (World.doorLaid prog 62 os) #[.slice none 0 0] 8 rfl (World.shaped_of_RefB ab ab) ab ab ab (X9 os _)) ?_
 intro W base args ds J K b c _ _ r _;have s:Laid (hv W):=X8 r;have d:∀(j:Nat) t v,f6.params[j]? = some t->args[j]? = some v->Value.okWide prog W .any base t v:=b;have u:=c;obtain ⟨p,q,f,y,rfl,L,M⟩:=c;have g:DataW.TrodAll enc prog W 0 (λ_=>true) true f6.params.toList args.toList ds p:=f;rw [params6] at g d;obtain ⟨v0,N,d0,P,z,Q,R,rfl,rfl,i,A⟩:=trodAll_cons g;obtain ⟨rfl,rfl,rfl⟩:=trodAll_nil A
 obtain rfl:args = #[v0]:=by cases args; simp_all
 obtain ⟨rfl,rfl⟩:=trodVars_none y;have k:=i
 have B:∀x ∈ z,x.block<W.heap.size:=by obtain ⟨m,D⟩:=k; exact DataW.trod_lt m _ _ _ D
 obtain ⟨E,c0,F,rfl,G⟩:=open_strs (WM a) underlying9 ab (λ_=>rfl) underlying22 (d 0 22 v0 rfl rfl) i
 clear f b
 refine (Yk (hv W) (hv W) E c0 F W (jU W) s (jU W) G).mono λe W' ⟨H,I⟩=>?_;subst H;have l:=I.below;exact ⟨_,O,_,_,_,[],_,[],u,trodAll_mk1 (shut_bool underlying4 _),(trodAll_cons_mk (Below.trod laidOut ab (of_decide_eq_true ab) k l B) trodAll_mk0),O,l.frame _,λh=>by cases h⟩
set_option maxHeartbeats 8000000 in
theorem XG:Rows.BuildApartSaid:=
 OpenClaim.holds_of_wide 6 f6 rfl rfl rfl rfl rfl rfl rfl ⟨rfl,rfl,rfl,rfl,rfl⟩ rfl rfl rfl rfl rfl (by as_aux_lemma=>kernel_rfl) func6 (by as_aux_lemma=>kernel_rfl)
   (of_decide_eq_true (by as_aux_lemma=>kernel_rfl)) (by unfold Func.isWrapper; first | (rw [if_pos (by decide +kernel)]; kernel_rfl) | (rw [if_neg (by decide +kernel)]; exact ⟨rfl,rfl⟩))
   (λos a b enc _=>XF os a b enc)
set_option maxHeartbeats 8000000 in
theorem XH (f:FuncId) (fn:Func) (b:Tryz.pinned.checked.prog.funcNamed Rows.buildApartRow.func=some f) (c:Tryz.pinned.checked.prog.funcs[f]? = some fn) :
   true=Tryz.pinned.checked.prog.looks []/\∀(j:Nat) t,fn.params[j]? = some t->Tryz.pinned.checked.prog.wantsStandIn t=false:=by
 obtain rfl:f=6:=Fz ((show prog.funcNamed Rows.buildApartRow.func=some 6 by as_aux_lemma=>kernel_rfl).symm.trans b) |>.symm;obtain rfl:fn=f6:=(Fz (func6.symm.trans c)).symm;refine ⟨by as_aux_lemma=>kernel_rfl,λj t a=>?_⟩;rw [params6] at a
 have d:t ∈ [22]:=by simpa using Array.mem_of_getElem? a
 have e:([22].all λu=>!prog.wantsStandIn u)=true:=by as_aux_lemma=>kernel_rfl
 exact (show prog.wantsStandIn t=false by simpa using fG.1 e t d)
set_option maxHeartbeats 8000000 in
theorem buildApart_proved:Rows.BuildApartCardSaid:=
 Claim7.holds_tied_plain_at .later [] _ _ _ _ XG (λ_ h=>by cases h) (by as_aux_lemma=>kernel_rfl) (λ_ h=>by cases h) buildApart_row_tie rfl ⟨rfl,rfl⟩ (by as_aux_lemma=>kernel_rfl) rfl XH (by as_aux_lemma=>kernel_rfl)
end Go.Proofs.YtccenighnmfhgaaGreatDoor
end
