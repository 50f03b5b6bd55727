/- LinkSame: the code of a program does what the program means (proved in the second form, bulk at most 1048576). -/
import Derived.Test.YtgeahfjicmlocaaGreatDoorM8
set_option linter.unusedVariables false
set_option linter.unusedSimpArgs false
set_option linter.defProp false
section
namespace Go.Proofs.YtgeahfjicmlocaaGreatDoor
open Go.Bw Go.Proofs.Tryz
open Go.ChangeShapes Go.WideShapes Go.ChangeAt Go.RowKit Go.Joins Go.Deep
def Y8 (os:Os) {a:Type} (enc:TypeId×Value->a):∃b,DataW.whole enc prog ((World.doorLaid prog 62 os).forCall (λ_ _=>0) ⟨#[],#[.slice none 0 0,.slice none 0 0,.int .i64 0],[]⟩).memory f4.params.toList Rows.linkSameSpec.vars false #[.slice none 0 0,.slice none 0 0,.int .i64 0].toList 8=some ([.nil,.nil,.lit (.int .i64 0)],[],b):=
 ⟨[],ab⟩
set_option maxRecDepth 100000 in
def Y9 (os:Os) (D:os.Started) (d:Type) (enc:TypeId×Value->d) (E:Stop.Interp) :
   ReturnsInHanded {} checked os 4 .any ((Rows.OpenSpec.upto Rows.linkSameSpec).preRow enc prog f4 Rows.linkSameUptoRow.domain false Rows.linkSameUptoRow.laid) (((Rows.OpenSpec.upto Rows.linkSameSpec).at E).post enc prog f4 false true false false):=by
 obtain ⟨ai,f⟩:=Y8 os enc
 refine returnsInHanded_of_row (C:=checked) (s:=Rows.OpenSpec.upto Rows.linkSameSpec) own D ab func4
   (witness_row_atRef (enc:=enc) (C:=checked) false (World.doorLaid prog 62 os) #[.slice none 0 0,.slice none 0 0,.int .i64 0] rfl ab ab ab
     (OpenSpec.preRow_of_cond 8 f ab (λk F=>by cases F; kernel_rfl) ab<|Y7 os _)) ?_
 intro W base args ds aj ak l n _ G _ H _ _;have I:Laid (hv W):=Y6 H;have b:∀(j:Nat) t v,f4.params[j]? = some t->args[j]? = some v->Value.okWide prog W .any base t v:=l;have J:=n;obtain ⟨p,q,o,K,rfl,al,am⟩:=n;have r:DataW.TrodAll enc prog W 0 (λ_=>true) true f4.params.toList args.toList ds p:=o;rw [params4] at r b;obtain ⟨v0,an,w,ao,L,ap,aq,rfl,rfl,y,M⟩:=trodAll_cons r;obtain ⟨v1,ar,N,au,P,av,rfl,rfl,rfl,g,r1⟩:=trodAll_cons M;obtain ⟨v2,aw,Q,ax,R,ay,rfl,rfl,rfl,z,r2⟩:=trodAll_cons r1;obtain ⟨rfl,rfl,rfl⟩:=trodAll_nil r2
 obtain rfl:args = #[v0,v1,v2]:=by cases args; simp_all
 obtain ⟨rfl,rfl⟩:=trodVars_none K;have A:=y
 have S:∀x ∈ L,x.block<W.heap.size:=by obtain ⟨m,a⟩:=A; exact DataW.trod_lt m _ _ _ a
 have k1:=g
 have T:∀x ∈ P,x.block<W.heap.size:=by obtain ⟨m,a⟩:=k1; exact DataW.trod_lt m _ _ _ a
 have k2:=z
 have U:∀x ∈ R,x.block<W.heap.size:=by obtain ⟨m,a⟩:=k2; exact DataW.trod_lt m _ _ _ a
 obtain ⟨_,_,_,_,V⟩:=YZ;obtain ⟨X,c0,Y,i,rfl,Z,B⟩:=QX (Pd d) V (λ_=>rfl) underlying71 (b 0 71 v0 rfl rfl) y;have B:jG i<=Rows.uptoBulk w:=B;obtain ⟨a1,c1,aa,rfl,ac⟩:=open_ints (Pd d) underlying3 ab (λ_=>rfl) underlying29 (b 1 29 v1 rfl rfl) g;obtain ⟨ad,rfl,az⟩:=Go.Bw.open_int underlying3 (b 2 3 v2 rfl rfl) z
 clear o l
 have ae:Rows.uptoBulkAll [w,N,Q]<=1048576:=aag (G _ rfl);simp only [Rows.uptoBulkAll] at ae
 have af:∀u ∈ i,dh u<=1048576:=λu ag=>by
   have g:=JW ag;omega
 refine (YY (hv W) (hv W) Y X c0 i (hv W) a1 c1 aa ad W (jc W) I (jc W) Z af (jc W) ac).mono λe W' ⟨ah,f⟩=>?_;subst ah;have c:=f.below;exact ⟨_,O,_,_,_,[],_,[],J,trodAll_mk1<|shut_bool underlying4 _,(trodAll_cons_mk (Below.trod laidOut ab (aag ab) A c S)<|trodAll_cons_mk (Below.trod laidOut ab (aag ab) k1 c T)<|trodAll_cons_mk (Below.trod laidOut ab (aag ab) k2 c U) trodAll_mk0),O,c.frame _,λh=>by cases h⟩
set_option maxHeartbeats 8000000 in
def Y':joinedFacts Tryz.pinned.checked.prog 4 f4 (Rows.OpenSpec.upto Rows.linkSameSpec).bare Rows.linkSameUptoRow=true:=by
 unfold joinedFacts
 iterate 31 refine Y0 ?_ (by as_aux_lemma=>kernel_rfl)
 as_aux_lemma=>kernel_rfl
set_option maxHeartbeats 8000000 in
def Y_:Rows.LinkSameUptoSaid:=
 OpenClaim.holds_of_cond 4 f4 rfl rfl rfl rfl rfl rfl rfl ⟨rfl,rfl,rfl,rfl,rfl⟩ rfl rfl rfl rfl rfl (by as_aux_lemma=>kernel_rfl) func4 Y'
   (aag (by as_aux_lemma=>kernel_rfl)) (by unfold Func.isWrapper; first | (rw [ZZ (by decide +kernel)]; kernel_rfl) | (rw [ZX (by decide +kernel)]; exact ⟨rfl,rfl⟩))
   (λos a b enc _ c=>by rw [OpenClaim.pre_eq_preRow]; exact Y9 os a b enc c)
set_option maxHeartbeats 8000000 in
def Za (f:FuncId) (fn:Func) (b:Tryz.pinned.checked.prog.funcNamed Rows.linkSameUptoRow.func=some f) (c:Tryz.pinned.checked.prog.funcs[f]? = some fn) :
   true=Tryz.pinned.checked.prog.looks []/\∀(j:Nat) t,fn.params[j]? = some t->Tryz.pinned.checked.prog.wantsStandIn t=false:=by
 obtain rfl:f=4:=Ij ((show prog.funcNamed Rows.linkSameUptoRow.func=some 4 by as_aux_lemma=>kernel_rfl).symm.trans b) |>.symm;obtain rfl:fn=f4:=(Ij<|func4.symm.trans c).symm;refine ⟨by as_aux_lemma=>kernel_rfl,λj t a=>?_⟩;rw [params4] at a
 have d:t ∈ [71,29,3]:=by simpa using Array.mem_of_getElem? a
 have e:([71,29,3].all λu=>!prog.wantsStandIn u)=true:=by as_aux_lemma=>kernel_rfl
 exact (show prog.wantsStandIn t=false by simpa using gN.1 e t d)
set_option maxHeartbeats 8000000 in
theorem linkSame_proved:Rows.LinkSameUptoCardSaid:=
 Claim7.holds_tied_plain_at .later [] _ _ _ _ Y_ (λ_ h=>by cases h) (by as_aux_lemma=>kernel_rfl) (λ_ h=>by cases h) linkSameUpto_row_tie rfl ⟨rfl,rfl⟩ (by as_aux_lemma=>kernel_rfl) rfl Za (by as_aux_lemma=>kernel_rfl)
end Go.Proofs.YtgeahfjicmlocaaGreatDoor
end
