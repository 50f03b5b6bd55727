/- WholeSame: Exec tells what Mean tells: the same numbers, the same end, the same data, as many ticks; and what is executed is never Broken, nor out of steps. -/
import Derived.Test.YtgeahfjicmlocaaGreatDoorR9
set_option linter.unusedVariables false
set_option linter.unusedSimpArgs false
set_option linter.defProp false
section
namespace Go.Proofs.YtgeahfjicmlocaaGreatDoor
open Go.Bw Go.Proofs.Tryz
open Go.ChangeShapes Go.WideShapes Go.ChangeAt Go.RowKit Go.Joins Go.Deep
set_option maxRecDepth 100000 in
def ahq (os:Os) (s:os.Started) (d:Type) (enc:TypeId×Value->d) :
   ReturnsInHanded {} checked os 9 .any (λw args=>(Rows.wholeSameSpec.pre enc prog f9 [] false w args/\laidMetH prog Rows.wholeSameRow.laid w)/\sizedMet enc prog f9 (OpenSpec.ofChange Rows.wholeSameSpec) false w args)<|Rows.wholeSameSpec.post enc prog f9 false true false false:=by
 refine returnsInHanded_of_change_and (C:=checked) (X:=λw _=>laidMetH prog Rows.wholeSameRow.laid w) (λ_ _ _ u h=>h.of_heap u) own s ah func9
   (ChangeSpec.witness_shaped (enc:=enc) (C:=checked) (os:=os) (X:=λw _=>laidMetH prog Rows.wholeSameRow.laid w) false (World.doorLaid prog 62 os) #[.slice none 0 0,.slice none 0 0,.int .i64 0] 8 rfl (World.shaped_of_RefB ah ah) ah ah ah<|ahp os _) ?_
 intro W base args ds U V f g _ _ y _;have z:Laid<|hv W:=aho y;have b:∀(j:Nat) t v,f9.params[j]? = some t->args[j]? = some v->Value.okWide prog W .any base t v:=f;have A:=g;obtain ⟨p,q,i,B,rfl,Y,ab⟩:=g;have k:DataW.TrodAll enc prog W 0 (λ_=>true) true f9.params.toList args.toList ds p:=i;rw [params9] at k b;obtain ⟨v0,ae,d0,af,D,ag,ai,rfl,rfl,l,E⟩:=trodAll_cons k;obtain ⟨v1,aj,ak,al,F,ap,rfl,rfl,rfl,n,r1⟩:=trodAll_cons E;obtain ⟨v2,au,av,aw,G,ax,rfl,rfl,rfl,o,r2⟩:=trodAll_cons r1;obtain ⟨rfl,rfl,rfl⟩:=trodAll_nil r2
 obtain rfl:args = #[v0,v1,v2]:=by cases args; simp_all
 obtain ⟨rfl,rfl⟩:=trodVars_none B;have r:=l
 have H:∀x ∈ D,x.block<W.heap.size:=by obtain ⟨m,a⟩:=r; exact DataW.trod_lt m _ _ _ a
 have k1:=n
 have J:∀x ∈ F,x.block<W.heap.size:=by obtain ⟨m,a⟩:=k1; exact DataW.trod_lt m _ _ _ a
 have k2:=o
 have K:∀x ∈ G,x.block<W.heap.size:=by obtain ⟨m,a⟩:=k2; exact DataW.trod_lt m _ _ _ a
 obtain ⟨L,c0,M,rfl,N⟩:=open_strs (V7 d) underlying9 ah (λ_=>rfl) underlying22 (b 0 22 v0 rfl rfl) l;obtain ⟨a1,c1,P,rfl,Q⟩:=open_ints (V7 d) underlying3 ah (λ_=>rfl) underlying29 (b 1 29 v1 rfl rfl) n;obtain ⟨R,rfl,ay⟩:=Go.Bw.open_int underlying3 (b 2 3 v2 rfl rfl) o
 clear i f
 refine (ahh (hv W) (hv W) L c0 M (hv W) a1 c1 P R W (kZ W) z (kZ W) N (kZ W) Q).mono λe W' ⟨S,T⟩=>?_;subst S;have c:=T.below;exact ⟨_,O,_,_,_,[],_,[],A,trodAll_mk1<|shut_bool underlying4 _,trodAll_cons_mk (Below.trod laidOut ah (vu ah) r c H)<|trodAll_cons_mk (Below.trod laidOut ah (vu ah) k1 c J)<|trodAll_cons_mk (Below.trod laidOut ah (vu ah) k2 c K) trodAll_mk0,O,c.frame _,λh=>by cases h⟩
set_option maxHeartbeats 8000000 in
def ahr:joinedFacts Tryz.pinned.checked.prog 9 f9 Rows.wholeSameSpec Rows.wholeSameRow=true:=by
 unfold joinedFacts;iterate 31 refine ahi ?_ (by as_aux_lemma=>kernel_rfl)
 as_aux_lemma=>kernel_rfl
set_option maxHeartbeats 8000000 in
def ahs:Rows.WholeSameSaid:= OpenClaim.holds_of_wide 9 f9 rfl rfl rfl rfl rfl rfl rfl ⟨rfl,rfl,rfl,rfl,rfl⟩ rfl rfl rfl rfl rfl (by as_aux_lemma=>kernel_rfl) func9 ahr (vu (by as_aux_lemma=>kernel_rfl)) (by unfold Func.isWrapper;first|(rw [aD (by decide +kernel)];kernel_rfl)|(rw [aj (by decide +kernel)];exact ⟨rfl,rfl⟩))<|λos a b enc _=>ahq os a b enc
set_option maxHeartbeats 8000000 in
def aht (f:FuncId) (fn:Func) (b:Tryz.pinned.checked.prog.funcNamed Rows.wholeSameRow.func=some f) (c:Tryz.pinned.checked.prog.funcs[f]? = some fn) :
   true=Tryz.pinned.checked.prog.looks []/\∀(j:Nat) t,fn.params[j]? = some t->Tryz.pinned.checked.prog.wantsStandIn t=false:=by
 obtain rfl:f=9:=MV ((show prog.funcNamed Rows.wholeSameRow.func=some 9 by as_aux_lemma=>kernel_rfl).symm.trans b) |>.symm;obtain rfl:fn=f9:=(MV<|func9.symm.trans c).symm;refine ⟨by as_aux_lemma=>kernel_rfl,λj t a=>?_⟩;rw [params9] at a;have d:t ∈ [22,29,3]:=by simpa using Array.mem_of_getElem? a
 have e:([22,29,3].all λu=>!prog.wantsStandIn u)=true:=by as_aux_lemma=>kernel_rfl
 exact (show prog.wantsStandIn t=false by simpa using gA.1 e t d)
set_option maxHeartbeats 8000000 in
theorem wholeSame_proved:Rows.WholeSameCardSaid:= Claim7.holds_tied_plain_at .later [] _ _ _ _ ahs (λ_ h=>by cases h) (by as_aux_lemma=>kernel_rfl) (λ_ h=>by cases h) wholeSame_row_tie rfl ⟨rfl,rfl⟩ (by as_aux_lemma=>kernel_rfl) rfl aht (by as_aux_lemma=>kernel_rfl)
end Go.Proofs.YtgeahfjicmlocaaGreatDoor
end
