/- WholeShown: how a module is written changes nothing: shown anew, in another order, a program means the same. -/
import Derived.Test.YtgeahfjicmlocaaGreatDoorH8
set_option linter.unusedVariables false
set_option linter.unusedSimpArgs false
set_option linter.defProp false
section
namespace Go.Proofs.YtgeahfjicmlocaaGreatDoor
open Go.Bw Go.Proofs.Tryz
open Go.ChangeShapes Go.WideShapes Go.ChangeAt Go.RowKit Go.Joins Go.Deep
set_option maxRecDepth 100000 in
def afa (os:Os) (y:os.Started) (H:Type) (enc:TypeId×Value->H) :
   ReturnsInHanded {} checked os 8 .any (λw args=>(Rows.wholeShownSpec.pre enc prog f8 [] false w args/\laidMetH prog Rows.wholeShownRow.laid w)/\sizedMet enc prog f8 (OpenSpec.ofChange Rows.wholeShownSpec) false w args)<|Rows.wholeShownSpec.post enc prog f8 false true false false:=by
 refine returnsInHanded_of_change_and (C:=checked) (X:=λw _=>laidMetH prog Rows.wholeShownRow.laid w) (λ_ _ _ z h=>h.of_heap z) own y ah func8
   (ChangeSpec.witness_shaped (enc:=enc) (C:=checked) (os:=os) (X:=λw _=>laidMetH prog Rows.wholeShownRow.laid w) false (World.doorLaid prog 62 os) #[.slice none 0 0,.slice none 0 0,.int .i64 0] 8 rfl (World.shaped_of_RefB ah ah) ah ah ah<|ae_ os _) ?_
 intro W base args ds af ag d f _ _ A _;have B:Laid<|hv W:=ae' A;have b:∀(j:Nat) t v,f8.params[j]? = some t->args[j]? = some v->Value.okWide prog W .any base t v:=d;have D:=f;obtain ⟨p,q,g,E,rfl,ai,aj⟩:=f;have i:DataW.TrodAll enc prog W 0 (λ_=>true) true f8.params.toList args.toList ds p:=g;rw [params8] at i b;obtain ⟨v0,al,d0,ao,F,ap,aq,rfl,rfl,k,G⟩:=trodAll_cons i;obtain ⟨v1,ar,av,aw,J,aA,rfl,rfl,rfl,l,K⟩:=trodAll_cons G;obtain ⟨n,aD,aE,aF,L,aG,rfl,rfl,rfl,o,M⟩:=trodAll_cons K;obtain ⟨rfl,rfl,rfl⟩:=trodAll_nil M
 obtain rfl:args = #[v0,v1,n]:=by cases args; simp_all
 obtain ⟨rfl,rfl⟩:=trodVars_none E;have r:=k
 have N:∀x ∈ F,x.block<W.heap.size:=by obtain ⟨m,a⟩:=r; exact DataW.trod_lt m _ _ _ a
 have s:=l
 have P:∀x ∈ J,x.block<W.heap.size:=by obtain ⟨m,a⟩:=s; exact DataW.trod_lt m _ _ _ a
 have u:=o
 have Q:∀x ∈ L,x.block<W.heap.size:=by obtain ⟨m,a⟩:=u; exact DataW.trod_lt m _ _ _ a
 obtain ⟨R,c0,S,rfl,T⟩:=open_strs (Te H) underlying9 ah (λ_=>rfl) underlying22 (b 0 22 v0 rfl rfl) k;obtain ⟨a1,c1,U,rfl,V⟩:=open_ints (Te H) underlying3 ah (λ_=>rfl) underlying29 (b 1 29 v1 rfl rfl) l;obtain ⟨Y,rfl,aH⟩:=Go.Bw.open_int underlying3 (b 2 3 n rfl rfl) o
 clear g d
 refine (ae3 (hv W) (hv W) R c0 S (hv W) a1 c1 U Y W (b9 W) B (b9 W) T (b9 W) V).mono λe W' ⟨ad,ae⟩=>?_;subst ad;have c:=ae.below;exact ⟨_,O,_,_,_,[],_,[],D,trodAll_mk1<|shut_bool underlying4 _,trodAll_cons_mk (Below.trod laidOut ah (uj ah) r c N)<|trodAll_cons_mk (Below.trod laidOut ah (uj ah) s c P)<|trodAll_cons_mk (Below.trod laidOut ah (uj ah) u c Q) trodAll_mk0,O,c.frame _,λh=>by cases h⟩
set_option maxHeartbeats 8000000 in
def afb:joinedFacts Tryz.pinned.checked.prog 8 f8 Rows.wholeShownSpec Rows.wholeShownRow=true:=by
 unfold joinedFacts;iterate 31 refine ae4 ?_ (by as_aux_lemma=>kernel_rfl)
 as_aux_lemma=>kernel_rfl
set_option maxHeartbeats 8000000 in
def afc:Rows.WholeShownSaid:= OpenClaim.holds_of_wide 8 f8 rfl rfl rfl rfl rfl rfl rfl ⟨rfl,rfl,rfl,rfl,rfl⟩ rfl rfl rfl rfl rfl (by as_aux_lemma=>kernel_rfl) func8 afb (uj (by as_aux_lemma=>kernel_rfl)) (by unfold Func.isWrapper;first|(rw [aU (by decide +kernel)];kernel_rfl)|(rw [ao (by decide +kernel)];exact ⟨rfl,rfl⟩))<|λos a H enc _=>afa os a H enc
set_option maxHeartbeats 8000000 in
def afd (f:FuncId) (fn:Func) (b:Tryz.pinned.checked.prog.funcNamed Rows.wholeShownRow.func=some f) (c:Tryz.pinned.checked.prog.funcs[f]? = some fn) :
   true=Tryz.pinned.checked.prog.looks []/\∀(j:Nat) t,fn.params[j]? = some t->Tryz.pinned.checked.prog.wantsStandIn t=false:=by
 obtain rfl:f=8:=Lc ((show prog.funcNamed Rows.wholeShownRow.func=some 8 by as_aux_lemma=>kernel_rfl).symm.trans b) |>.symm;obtain rfl:fn=f8:=(Lc<|func8.symm.trans c).symm;refine ⟨by as_aux_lemma=>kernel_rfl,λj t a=>?_⟩;rw [params8] at a;have d:t ∈ [22,29,3]:=by simpa using Array.mem_of_getElem? a
 have e:([22,29,3].all λu=>!prog.wantsStandIn u)=true:=by as_aux_lemma=>kernel_rfl
 exact (show prog.wantsStandIn t=false by simpa using gw.1 e t d)
set_option maxHeartbeats 8000000 in
theorem wholeShown_proved:Rows.WholeShownCardSaid:= Claim7.holds_tied_plain_at .later [] _ _ _ _ afc (λ_ h=>by cases h) (by as_aux_lemma=>kernel_rfl) (λ_ h=>by cases h) wholeShown_row_tie rfl ⟨rfl,rfl⟩ (by as_aux_lemma=>kernel_rfl) rfl afd (by as_aux_lemma=>kernel_rfl)
end Go.Proofs.YtgeahfjicmlocaaGreatDoor
end
