/- RestModules: what came, and was changed, changes nothing that was handed in, nor what comes next (proved in the second form, bulk at most 1048576). -/
import Derived.Test.YtgeahfjicmlocaaGreatDoorF8
set_option linter.unusedVariables false
set_option linter.unusedSimpArgs false
set_option linter.defProp false
section
namespace Go.Proofs.YtgeahfjicmlocaaGreatDoor
open Go.Bw Go.Proofs.Tryz
open Go.ChangeShapes Go.WideShapes Go.ChangeAt Go.RowKit Go.Joins Go.Deep
def X' (os:Os) {H:Type} (enc:TypeId×Value->H):∃a,DataW.whole enc prog ((World.doorLaid prog 62 os).forCall (λ_ _=>0) ⟨#[],#[.agg #[.string ⟨#[]⟩,.slice none 0 0,.slice none 0 0,.slice none 0 0,.slice none 0 0],.slice none 0 0,.slice none 0 0],[]⟩).memory f3.params.toList Rows.restModulesSpec.vars false #[.agg #[.string ⟨#[]⟩,.slice none 0 0,.slice none 0 0,.slice none 0 0,.slice none 0 0],.slice none 0 0,.slice none 0 0].toList 8=some ([.agg [.lit (.string []),.nil,.nil,.nil,.nil],.nil,.nil],[],a):=
 ⟨[],aa⟩
set_option maxRecDepth 100000 in
def X_ (os:Os) (T:os.Started) (H:Type) (enc:TypeId×Value->H) (F:Stop.Interp) :
   ReturnsInHanded {} checked os 3 .any ((Rows.OpenSpec.upto Rows.restModulesSpec).preRow enc prog f3 Rows.restModulesUptoRow.domain false Rows.restModulesUptoRow.laid) (((Rows.OpenSpec.upto Rows.restModulesSpec).at F).post enc prog f3 false true false false):=by
 obtain ⟨aw,u⟩:=X' os enc
 refine returnsInHanded_of_row (C:=checked) (s:=Rows.OpenSpec.upto Rows.restModulesSpec) own T aa func3
   (witness_row_atRef (enc:=enc) (C:=checked) false (World.doorLaid prog 62 os) #[.agg #[.string ⟨#[]⟩,.slice none 0 0,.slice none 0 0,.slice none 0 0,.slice none 0 0],.slice none 0 0,.slice none 0 0] rfl aa aa aa
     (OpenSpec.preRow_of_cond 8 u aa (λk U=>by cases U; kernel_rfl) aa (X9 os _))) ?_
 intro W base args ds ax ay A B _ V _ X _ _;have Y:Laid (hv W):=X8 X;have f:∀(j:Nat) t v,f3.params[j]? = some t->args[j]? = some v->Value.okWide prog W .any base t v:=A;have ab:=B;obtain ⟨p,q,D,ac,rfl,az,aA⟩:=B;have E:DataW.TrodAll enc prog W 0 (λ_=>true) true f3.params.toList args.toList ds p:=D;rw [params3] at E f;obtain ⟨v0,aB,G,aC,ad,aD,aE,rfl,rfl,I,ae⟩:=trodAll_cons E;obtain ⟨v1,aF,af,aG,ag,aH,rfl,rfl,rfl,g,ah⟩:=trodAll_cons ae;obtain ⟨J,aI,K,aJ,ai,aK,rfl,rfl,rfl,i,aj⟩:=trodAll_cons ah;obtain ⟨rfl,rfl,rfl⟩:=trodAll_nil aj
 obtain rfl:args = #[v0,v1,J]:=by cases args; simp_all
 obtain ⟨rfl,rfl⟩:=trodVars_none ac;have L:=I
 have ak:∀x ∈ ad,x.block<W.heap.size:=by obtain ⟨m,d⟩:=L; exact DataW.trod_lt m _ _ _ d
 have M:=g
 have al:∀x ∈ ag,x.block<W.heap.size:=by obtain ⟨m,d⟩:=M; exact DataW.trod_lt m _ _ _ d
 have N:=i
 have am:∀x ∈ ai,x.block<W.heap.size:=by obtain ⟨m,d⟩:=N; exact DataW.trod_lt m _ _ _ d
 obtain ⟨_,_,_,_,_,an⟩:=XY;obtain ⟨w,ao,P,rfl,ap,l⟩:=P5 (GK H) an (λ_=>rfl) (f 0 27 v0 rfl rfl) I;have l:wM w<=Rows.uptoBulk G:=l;obtain ⟨_,_,aq⟩:=XZ;obtain ⟨Q,R,S,rfl,y⟩:=Qg (GK H) aq (λ_=>rfl) (f 1 28 v1 rfl rfl) g;have y:Sl oV 2 (hv W) Q R S:=y.imp λb o x ⟨a,c,g,i⟩=>⟨(a,c),g,i⟩;obtain ⟨a2,c2,z,rfl,ar,n⟩:=X1 (GK H) X0 underlying3 aa (λ_=>rfl) underlying29 (f 2 29 J rfl rfl) i;have n:z.length<=Rows.uptoBulk K:=n
 clear D A
 have au:Rows.uptoBulkAll [G,af,K]<=1048576:=jL (V _ rfl);simp only [Rows.uptoBulkAll] at au
 have l:wM w<=109951162777:=Z
 have n:z.length<=1048576:=Z
 refine (XX (hv W) (hv W) (hv W) (hv W) P P ao w Q R S a2 c2 z W (gV W) Y (gV W) (gV W) (gV W) ap y ar l n).mono λe W' ⟨av,u⟩=>?_;subst av;have r:=u.below;exact ⟨_,O,_,_,_,[],_,[],ab,trodAll_mk1 (shut_bool underlying4 _),(trodAll_cons_mk (Below.trod laidOut aa (jL aa) L r ak) (trodAll_cons_mk (Below.trod laidOut aa (jL aa) M r al) (trodAll_cons_mk (Below.trod laidOut aa (jL aa) N r am) trodAll_mk0))),O,r.frame _,λh=>by cases h⟩
set_option maxHeartbeats 8000000 in
def YY:joinedFacts Tryz.pinned.checked.prog 3 f3 (Rows.OpenSpec.upto Rows.restModulesSpec).bare Rows.restModulesUptoRow=true:=by
 unfold joinedFacts
 iterate 31 refine X2 ?_ (by as_aux_lemma=>kernel_rfl)
 as_aux_lemma=>kernel_rfl
set_option maxHeartbeats 8000000 in
def YZ:Rows.RestModulesUptoSaid:=
 OpenClaim.holds_of_cond 3 f3 rfl rfl rfl rfl rfl rfl rfl ⟨rfl,rfl,rfl,rfl,rfl⟩ rfl rfl rfl rfl rfl (by as_aux_lemma=>kernel_rfl) func3 YY
   (jL (by as_aux_lemma=>kernel_rfl)) (by unfold Func.isWrapper; first | (rw [a8 (by decide +kernel)]; kernel_rfl) | (rw [av (by decide +kernel)]; exact ⟨rfl,rfl⟩))
   (λos a H enc _ F=>by rw [OpenClaim.pre_eq_preRow]; exact X_ os a H enc F)
set_option maxHeartbeats 8000000 in
def Yc (f:FuncId) (fn:Func) (b:Tryz.pinned.checked.prog.funcNamed Rows.restModulesUptoRow.func=some f) (c:Tryz.pinned.checked.prog.funcs[f]? = some fn) :
   true=Tryz.pinned.checked.prog.looks []/\∀(j:Nat) t,fn.params[j]? = some t->Tryz.pinned.checked.prog.wantsStandIn t=false:=by
 obtain rfl:f=3:=G5 ((show prog.funcNamed Rows.restModulesUptoRow.func=some 3 by as_aux_lemma=>kernel_rfl).symm.trans b) |>.symm;obtain rfl:fn=f3:=(G5 (func3.symm.trans c)).symm;refine ⟨by as_aux_lemma=>kernel_rfl,λj t a=>?_⟩;rw [params3] at a
 have d:t ∈ [27,28,29]:=by simpa using Array.mem_of_getElem? a
 have e:([27,28,29].all λu=>!prog.wantsStandIn u)=true:=by as_aux_lemma=>kernel_rfl
 exact (show prog.wantsStandIn t=false by simpa using hS.1 e t d)
set_option maxHeartbeats 8000000 in
theorem restModules_proved:Rows.RestModulesUptoCardSaid:=
 Claim7.holds_tied_plain_at .later [] _ _ _ _ YZ (λ_ h=>by cases h) (by as_aux_lemma=>kernel_rfl) (λ_ h=>by cases h) restModulesUpto_row_tie rfl ⟨rfl,rfl⟩ (by as_aux_lemma=>kernel_rfl) rfl Yc (by as_aux_lemma=>kernel_rfl)
end Go.Proofs.YtgeahfjicmlocaaGreatDoor
end
