/- WholeShown: how a module is written changes nothing: shown anew, in another order, a program means the same. -/
import Derived.Maps.Own
import Derived.Maps.Range
import Derived.Sort.KeysCollected
import Derived.Test.YtgeahfjicmlocaaGreatDoorRows
import Derived.Test.YtgeahfjicmlocaaGreatDoorH1
set_option linter.unusedVariables false
set_option linter.unusedSimpArgs false
set_option linter.defProp false
open _root_ renaming List->I,Nat->Z,Int->ab,Option->az,Bool->aQ,UInt8->a7,Array->bE,Unit->dT,String->bg
open Option renaming some->aa,none->ak
open Bool renaming true->ac,false->au
open Go.Value renaming int->an,slice->aC,agg->bU,bool->bV,pointer->b0,tuple->cN,ownBlock->lq
open Go.IntKind renaming i64->am
open Go.Proofs.Tryz renaming prog->aB
open Go renaming World->aL,Value->aT,Addr->a0,TypeId->b_,Calls->cr,Oper->ay,Act->aN,Exit->aO,Program->aV,Operand->dF,Deferred->e',Edge->fw,FuncId->jU,PanicEntry->nW
open Go.Obj renaming cells->aM
open Or renaming inr->bl,inl->bA
open Go.Ending renaming returned->ax
open List renaming length->dV,replicate->gI,range->kJ
open Nat renaming blt->eB
open Go.Result renaming andThen_ok->ie
open Go.Sem renaming run_bind->iN,run_pure->kK
open Go.Oper renaming wp->jB
open Go.Region renaming wanted->m1
section
namespace Go.Bw
open Go Go.RowKit
def rv (a:bc) (w:aL):View:=λb=>if b ∈ a.ids then w.heap[b]? else ak
section
variable {w0 w:aL} {F:I Z} {L:I bc} {Vs:I View} {A:bc}
def UC (a:bc) (w:aL):Le (rv a w) w:=λb o h=>by
 unfold rv at h;split at h;·exact h
 ·cases h
def Ws.A9 (h:Ws w0 F L Vs w) (i:Z) (hL:L[i]? = aa A):Ws w0 F (fR i L) (rv A w::Vs) w:=by
 have c:=h.perm<|oP i L hL;have b:Ws w0 F (fR i L) Vs w:=Ws.drop (L:=[A]) c;refine ⟨b.fr,b.kn,b.nd,b.own,λH a=>?_,λH a B d k e=>?_⟩
 ·rcases eZ.1 a with rfl | a;·exact UC A w
  ·exact b.vs H a
 ·rcases eZ.1 a with rfl | a;·have nd:=c.nd;rw [jm,lJ] at nd;unfold rv;rw [ao];intro f;exact nd.2.2 k f k (m3.2 ⟨B,d,e⟩) O
  ·exact b.off H a B d k e
def DW {α:Type} {rd:View->Z->Z->α->Prop} {f:α->I aT} {k e c:Z} {a:az a0} {xs:I α} (h:(cO e k f a c xs).holds w) (m:∀x,(f x).length=k) (p:∀H b o x,ct H b o (f x)->rd H b o x):Sl rd k (rv (cO e k f a c xs) w) a c xs:=by
 obtain ⟨F,q⟩:=(h:w.ownsRow 0 e k _ xs.length (xs.flatMap f));rcases q with ⟨r,G⟩ | ⟨b,cap,n,s,_,t,u,g,J,y⟩;·injection r with l z g;subst l g;have:xs=[]:=r5 aj;subst this;exact Sl.nil
 ·injection s with l z A;subst l A;refine ⟨u,by unfold maxLen at g;omega,aG,λi x B=>⟨b,0,O,p _ _ _ _ λj v hv=>?_⟩⟩;have C:j<k:=by have:=(c_.1 hv).1;rw [m] at this;exact this
  have d:(xs.flatMap f)[i*k+j]? = aa v:=by rw [oR m B C];exact hv
  rw [<-y,b8] at d;split at d
  ·have D:rv (cO e k f (aa ⟨b,0,ak⟩) c xs) w b=aa (aM n e (0,0)):=by unfold rv;rw [aU (by simp [eK,lq])];exact t
   have E:vc (rv (cO e k f (aa ⟨b,0,ak⟩) c xs) w) b (0+i*k+j)=jV (aM n e (0,0)) (0+i*k+j):=by unfold vc;rw [D];rfl
   rw [E];simpa [jV] using d
  ·cases d
end
section
variable {P:aV} {ops:bE ay} {cd:Code} {Q:aO->aN->aL->Prop} {n:Z} {ds:I e'} {l:I<|Z×aT} {w0:aL} {F:I Z} {L:I bc} {Vs:I View} {rest:I ay}
variable {bW:Type} {dN:bW->I aT} {ae aH aK:Z} {b':az a0} {cg:I bW}
def WC.cK {rd:View->Z->Z->bW->Prop}     (i:Z) (hL:L[i]? = aa (cO aH ae dN b' aK cg)) (c:∀x,(dN x).length=ae) (d:∀H b o x,ct H b o (dN x)->rd H b o x) (h:∀H,Sl rd ae H b' aK cg->WC P cd Q n ds l (Ws w0 F (fR i L)<|H::Vs)):WC P cd Q n ds l<|Ws w0 F L Vs:= λe w f a=>h _ (DW (a.kn _<|bu hL) c d) e w f<|a.A9 i hL
def gL {a:Obj} (i:Z) (b:Obj) (hL:L[i]? = aa (aJ ae a)) (c:a=b) (h:WC P cd Q n ds l<|Ws w0 F (L.set i<|aJ ae b) Vs):WC P cd Q n ds l<|Ws w0 F L Vs:= WC.oW i hL (by rw [c]) h
def WL.cK {rd:View->Z->Z->bW->Prop}     (i:Z) (hL:L[i]? = aa (cO aH ae dN b' aK cg)) (c:∀x,(dN x).length=ae) (d:∀H b o x,ct H b o (dN x)->rd H b o x) (h:∀H,Sl rd ae H b' aK cg->WL P ops Q n ds l (Ws w0 F (fR i L)<|H::Vs) rest):WL P ops Q n ds l (Ws w0 F L Vs) rest:= λe w f a=>h _ (DW (a.kn _<|bu hL) c d) e w f<|a.A9 i hL
def WL.mh {rd:View->Z->Z->bW->Prop} {f:bW->I aT} {k T b m:Z} {a:Z×Z} {c:bE aT} (i:Z) (xs:I bW) (hL:L[i]? = aa (aJ b<|aM c T a)) (d:c=(xs.flatMap f).toArray) (e:∀x,(f x).length=k) (g:∀H b o x,ct H b o (f x)->rd H b o x) (j:xs.length<=m) (p:m<=9223372036854775807) (h:∀H,Sl rd k H (aa ⟨b,0,ak⟩) m xs->WL P ops Q n ds l (Ws w0 F (fR i L)<|H::Vs) rest):WL P ops Q n ds l (Ws w0 F L Vs) rest:=by
 subst d;have q:bv b (aM (xs.flatMap f).toArray T a) b=aa (aM (xs.flatMap f).toArray T a):=by simp [bv]
 exact WL.w6 i hL<|h _<|Hi (f:=f) q e g j p
end
def DX (P:aV) (t:b_) (f:Z):az Z:=match P.underlying t with
 | aa<|.struct fs=>match fs[f]? with| aa x=>if qR P x.type=ac then aa x.offset else ak| ak=>ak
 | _=>ak
section
variable {P:aV} {l:I<|Z×aT} {W:aL->Prop} {d:az Tmp} {ty:b_} {pos:bg} {af:bE fw} {g:az<|Z×aQ}
def My {t:b_} {x:dF} {f k:Z} {cs:bE aT} {v:aT} (a:DX P t f=aa k) (h:b5 l x=aa (bU cs)) (hv:cs[k]? = aa v):Yl P l W ⟨d,.field t x f,ty,pos,af,g⟩ v:=by
 intro p w i _;unfold DX at a;cases b:P.underlying t with
 | none=>simp [b] at a
 | some j=>
  cases j<;>simp [b] at a;rename_i fs;cases c:fs[f]? with
  | none=>simp [c] at a
  | some e=>
   simp [c] at a;obtain ⟨m,rfl⟩:=a;have n:=zX m w;have o:(part e.type cs e.offset).run P w = .ok v w:=by simp [part,n,hv]
   simp [execOp,i x _ h,Instr.field,run_underlying b,c,asAgg,o]
end
abbrev v0:View:=λ_=>ak
def ec (w:aL):g8 w v0:=λ_ _ h=>by cases h
def vj (a B:View):View:=λb=>match a b with| aa o=>aa o| ak=>B b
def Mz (a B:View):cV a<|vj a B:=λb o h=>by simp [vj,h]
variable {bt bX:View} {cb:aL}
def MA (d:Le bt cb) (e:Le bX cb):cV bX<|vj bt bX:=λb o h=>by cases c:bt b with| none=>simp [vj,c,h]| some f=>have g:=d b f c;have a:=e b o h;rw [g] at a;injection a with a;subst a;simp [vj,c]
def Ur (a:Le bt cb) (c:Le bX cb):Le (vj bt bX) cb:=λb o h=>by
 unfold vj at h;split at h;·rename_i e d;injection h with h;subst h;exact a b _ d
 ·exact c b o h
def MB (a:g8 cb bt) (c:g8 cb bX):g8 cb<|vj bt bX:=λb o h=>by
 unfold vj at h;split at h;·rename_i e d;injection h with h;subst h;exact a b _ d
 ·exact c b o h
section
variable {w0 w:aL} {F:I Z} {L:I bc} {Vs:I View} {A:bc}
def Ws.v0 (h:Ws w0 F L Vs w):Ws w0 F L (v0::Vs) w:= ⟨h.fr,h.kn,h.nd,h.own,λH a=>by
 rcases eZ.1 a with rfl | a;·intro b o c;cases c
 ·exact h.vs H a,λH a=>by
 rcases eZ.1 a with rfl | a;·intro _ _ _ _;rfl
 ·exact h.off H a⟩
def Ws.jJ {b c:View} (h:Ws w0 F L (b::c::Vs) w):Ws w0 F L (vj b c::Vs) w:= ⟨h.fr,h.kn,h.nd,h.own,λH a=>by
 rcases eZ.1 a with rfl | a;·exact Ur (h.vs b aG)<|h.vs c aG
 ·exact h.vs H (by simp [a]),λH a d e k f=>by
 rcases eZ.1 a with rfl | a;·simp [vj,h.off b aG d e k f,h.off c aG d e k f]
 ·exact h.off H (by simp [a]) d e k f⟩
def Ws.Us (h:Ws w0 F (A::L) Vs w) (c:∀k ∈ F,k ∈ L.flatMap bc.ids):∀k ∈ A.ids,w0.heap.size<=k:=by
 intro k b;rcases h.own A aG k b with a | a;·have nd:=h.nd;rw [jm,lJ] at nd;exact absurd O<|nd.2.2 k b k<|c k a
 ·exact a
def Hj (h:Ws w0 F (A::L) Vs w) (d:∀k ∈ F,k ∈ L.flatMap bc.ids) (e:∀b ∈ A.ids,∀o,w.heap[b]? = aa o->nz o=ac):g8 w0<|rv A w:=λb o a=>by
 unfold rv at a;split at a;·rename_i c;exact ⟨h.Us d b c,e b c o a⟩
 ·cases a
def MC {α:Type} {f:α->I aT} {k e c:Z} {a:az a0} {xs:I α} (h:(cO e k f a c xs).holds w):∀b ∈ (cO e k f a c xs).ids,∀o,w.heap[b]? = aa o->nz o=ac:=by
 obtain ⟨q,l⟩:=(h:w.ownsRow 0 e k _ xs.length (xs.flatMap f));rcases l with ⟨m,r⟩ | ⟨b,cap,s,n,_,g,_⟩;·injection m with i p t;subst i;intro b g;simp [eK,lq] at g
 ·injection n with i p u;subst i;intro v j o d;simp [eK,lq] at j;subst j;rw [g] at d;injection d with d;subst d;rfl
def e7 {H:View} (h:Ws w0 F L Vs w) (a:H ∈ Vs) (b:g8 w0 H):cV H<|nv w0 w:=Tl (h.vs H a) b
end
section
variable {P:aV} {ops:bE ay} {cd:Code} {Q:aO->aN->aL->Prop} {n:Z} {ds:I e'} {l:I<|Z×aT} {w0:aL} {F:I Z} {L:I bc} {Vs:I View} {rest:I ay}
def WL.v0 (h:WL P ops Q n ds l (Ws w0 F L<|v0::Vs) rest):WL P ops Q n ds l (Ws w0 F L Vs) rest:=LW (λ_ a=>a.v0) h
def WL.jJ (h:∀H,cV bt H->cV bX H->(∀u,g8 u bt->g8 u bX->g8 u H)->WL P ops Q n ds l (Ws w0 F L<|H::Vs) rest):WL P ops Q n ds l (Ws w0 F L<|bt::bX::Vs) rest:= λa w c b=>h (vj bt bX) (Mz bt bX) (MA (b.vs bt aG)<|b.vs bX aG) (λu d e=>MB d e) a w c b.jJ
def WC.jJ (h:∀H,cV bt H->cV bX H->(∀u,g8 u bt->g8 u bX->g8 u H)->WC P cd Q n ds l (Ws w0 F L<|H::Vs)):WC P cd Q n ds l<|Ws w0 F L<|bt::bX::Vs:= λa w c b=>h (vj bt bX) (Mz bt bX) (MA (b.vs bt aG)<|b.vs bX aG) (λu d e=>MB d e) a w c b.jJ
variable {bW:Type} {dN:bW->I aT} {b':az a0} {cg:I bW}
def WL.pH {rd:View->Z->Z->bW->Prop}  {k e c:Z}   (i:Z) (hL:L[i]? = aa (cO e k dN b' c cg)) (d:∀k ∈ F,k ∈ (fR i L).flatMap bc.ids) (f:∀x,(dN x).length=k) (g:∀H b o x,ct H b o (dN x)->rd H b o x) (h:∀H,g8 w0 H->Sl rd k H b' c cg->WL P ops Q n ds l (Ws w0 F (fR i L)<|H::Vs) rest):WL P ops Q n ds l (Ws w0 F L Vs) rest:= λj w m a=>h _ (Hj (a.perm<|oP i L hL) d<|MC<|a.kn _<|bu hL) (DW (a.kn _<|bu hL) f g) j w m<|a.A9 i hL
def WC.pH {rd:View->Z->Z->bW->Prop}  {k e c:Z}   (i:Z) (hL:L[i]? = aa (cO e k dN b' c cg)) (d:∀k ∈ F,k ∈ (fR i L).flatMap bc.ids) (f:∀x,(dN x).length=k) (g:∀H b o x,ct H b o (dN x)->rd H b o x) (h:∀H,g8 w0 H->Sl rd k H b' c cg->WC P cd Q n ds l (Ws w0 F (fR i L)<|H::Vs)):WC P cd Q n ds l<|Ws w0 F L Vs:= λj w m a=>h _ (Hj (a.perm<|oP i L hL) d<|MC<|a.kn _<|bu hL) (DW (a.kn _<|bu hL) f g) j w m<|a.A9 i hL
def LN {rd:View->Z->Z->bW->Prop} {f:bW->I aT} {k T b m:Z} {d:bE aT} (i:Z) (xs:I bW) (hL:L[i]? = aa (aJ b<|aM d T (0,0))) (j:d=(xs.flatMap f).toArray) (p:∀k ∈ F,k ∈ (fR i L).flatMap bc.ids) (q:∀x,(f x).length=k) (r:∀H b o x,ct H b o (f x)->rd H b o x) (s:xs.length<=m) (t:m<=9223372036854775807) (h:∀H,g8 w0 H->Sl rd k H (aa ⟨b,0,ak⟩) m xs->WL P ops Q n ds l (Ws w0 F (fR i L)<|H::Vs) rest):WL P ops Q n ds l (Ws w0 F L Vs) rest:=by
 subst j;intro u w v c;have e:w.heap[b]? = aa (aM (xs.flatMap f).toArray T (0,0)):=c.kn _<|bu hL;have y:rv (aJ b<|aM (xs.flatMap f).toArray T (0,0)) w b=aa (aM (xs.flatMap f).toArray T (0,0)):=by unfold rv;rw [aU (by simp [aJ])];exact e
 exact h _ (Hj (c.perm<|oP i L hL) p λz g o a=>by simp [aJ] at g;subst g;rw [e] at a;injection a with a;subst a;rfl) (Hi (f:=f) y q r s t) u w v<|c.A9 i hL
end
section
variable {κ:Type} [BEq κ] [LawfulBEq κ] {kd:TypeDesc} {kv:κ->aT}
variable {P:aV} {l:I<|Z×aT} {w0:aL} {F:I Z} {L:I bc} {Vs:I View} {ty:b_} {pos:bg} {af:bE fw} {g:az<|Z×aQ}
variable {j':az Tmp} {bs eM oT:b_} {bC aE:dF} {ae aH:Z} {bn:aT}
def DY {m:I<|fe κ} {k:κ}  (i:Z)  (b:Vs[i]? = aa bt) (c:r' kd kv) (d:P.underlying bs=aa (.map eM oT)) (e:P.underlying eM=aa kd) (f:zeroOf P oT=aa bn) (h:b5 l bC=aa (.map<|aa ae)) (j:b5 l aE=aa (kv k)) (n:bt ae=aa (dH kv m aH)) : Yl P l (Ws w0 F L Vs) ⟨j',.lookup bs bC aE au,ty,pos,af,g⟩<|hj k m bn:=by intro p w a o;simp [execOp,a bC _ h,a aE _ j,DK (P:=P) (k:=k) au c d e f (o.vs bt (bu b) ae _ n:w.heap[ae]? = aa (dH kv m aH))]
def MD {m:I<|fe κ} {k:κ}  (i:Z)  (b:Vs[i]? = aa bt) (c:r' kd kv) (d:P.underlying bs=aa (.map eM oT)) (e:P.underlying eM=aa kd) (f:zeroOf P oT=aa bn) (h:b5 l bC=aa (.map<|aa ae)) (j:b5 l aE=aa (kv k)) (n:bt ae=aa (dH kv m aH)) : Yl P l (Ws w0 F L Vs) ⟨j',.lookup bs bC aE ac,ty,pos,af,g⟩<|cN #[hj k m bn,bV (qj k m)]:=by intro p w a o;simp [execOp,a bC _ h,a aE _ j,DK (P:=P) (k:=k) ac c d e f (o.vs bt (bu b) ae _ n:w.heap[ae]? = aa (dH kv m aH))]
end
variable {eJ:aL} {di:I bc} {en:I View} {ae:Z} {eT:Obj}
def Ws.ME (h:Ws cb [] di en eJ) (i:Z)   (hL:di[i]? = aa (aJ ae eT)) (b:nz eT=ac:=by rfl):nv cb eJ ae=aa eT:=by
 have c:eJ.heap[ae]? = aa eT:=h.kn _<|bu hL;have d:cb.heap.size<=ae:=by
  rcases h.own _ (bu hL) ae (by simp [aJ]) with a | a;·cases a
  ·exact a
 exact nE.2 ⟨d,c,b⟩
section
variable {Q:aO->aN->aL->Prop} {n:Z} {ds:I e'} {l:I<|Z×aT} {w0:aL} {F:I Z} {L:I bc} {Vs:I View}
def WE.pI {e:aO} {b:Z} {a:Obj} (i:Z) (d:Obj) (hL:L[i]? = aa (aJ b a)) (c:a=d) (h:WE Q e n ds l<|Ws w0 F (L.set i<|aJ b d) Vs):WE Q e n ds l<|Ws w0 F L Vs:=by
 subst c;have:L.set i (aJ b a)=L:=by obtain ⟨hi,c⟩:=c_.1 hL;rw [<-c];exact Ax hi
 rwa [this] at h
end
def Ws.pJ {a:I Z}   (h:Ws cb a di en eJ) (i:Z)   (hL:di[i]? = aa (aJ ae eT)):hv eJ ae=aa eT:=h.kn _<|bu hL
def gx {b k:Z}  {v:aT} (h:bt b=aa eT) (a:jV eT k=aa v):vc bt b k=aa v:=by unfold vc;rw [h];exact a
section
variable {P:aV} {ops:bE ay} {Q:aO->aN->aL->Prop} {n:Z} {ds:I e'} {l:I<|Z×aT} {w0:aL} {F:I Z} {L:I bc} {Vs:I View} {rest:I ay} {d:Z} {ty:b_} {pos:bg} {af:bE fw} {g:az<|Z×aQ}
variable {ef:jU} {f':bE dF} {iD:bE b_} {dC:I aT}
def WL.dD {ι κ:Type}     (s:eE ops l g) (t:eB d n=ac) (u:Enters P ef) (k:hF l f'.toList=aa dC) (v:ι->aT) (R:ι->Prop) (p:κ->I nW) (q:κ->Prop) (hC:∀w,Ws w0 F L Vs w->cr P ef dC.toArray w λe f=>(∃i,e = ax (v i)/\Ext w f/\R i)\/(∃j,e = .panicked (p j)/\Ext w f/\q j)) (x:∀j,q j->WE Q (.panic<|p j) n ds l (Ws w0 F L Vs)) (y:∀i,R i->WL P ops Q n ds ((d,v i)::l) (Ws w0 F L Vs) rest) : WL P ops Q n ds l (Ws w0 F L Vs)<|⟨aa d,.call ⟨.value<|.func ef,f',iD⟩,ty,pos,af,g⟩::rest:= WL.AM s t u k v (λi f=>R i/\Ws w0 F L Vs f) (λc f=>∃j,c=p j/\q j/\Ws w0 F L Vs f) (λw b=>(hC w b).mono λe f h=>by
 rcases h with ⟨i,m,o,r⟩ | ⟨j,m,o,r⟩;·exact bA ⟨i,m,r,b.ext o⟩
 ·exact bl ⟨_,m,j,O,r,b.ext o⟩) (λi a w k b=>y i b.1 a w k b.2) (λc a w k b=>by obtain ⟨j,rfl,m,o⟩:=b;exact x j m a w k o)
def WL.vG {ι κ:Type}     (s:eE ops l g) (t:eB d n=ac) (u:Enters P ef) (k:hF l f'.toList=aa dC) (v:ι->aT) (R:View->ι->Prop) (p:κ->I nW) (q:κ->Prop) (hC:∀w,Ws w0 F L Vs w->cr P ef dC.toArray w λe b=>(∃i,e = ax (v i)/\Ext w b/\R (nv w b) i)\/(∃j,e = .panicked (p j)/\Ext w b/\q j)) (x:∀j,q j->WE Q (.panic<|p j) n ds l (Ws w0 F L Vs)) (y:∀H i,g8 w0 H->R H i->WL P ops Q n ds ((d,v i)::l) (Ws w0 F L<|H::Vs) rest) : WL P ops Q n ds l (Ws w0 F L Vs)<|⟨aa d,.call ⟨.value<|.func ef,f',iD⟩,ty,pos,af,g⟩::rest:= WL.AM (ι:=View×ι) s t u k (λi=>v i.2) (λi b=>(g8 w0 i.1/\R i.1 i.2)/\Ws w0 F L (i.1::Vs) b) (λc b=>∃j,c=p j/\q j/\Ws w0 F L Vs b) (λw f=>(hC w f).mono λe b h=>by
 rcases h with ⟨i,m,o,r⟩ | ⟨j,m,o,r⟩;·exact bA ⟨(nv w b,i),m,⟨(yD w b).mono f.fr.size,r⟩,f.view o (GB w b)<|yD w b⟩
 ·exact bl ⟨_,m,j,O,r,f.ext o⟩) (λi a w k f=>y i.1 i.2 f.1.1 f.1.2 a w k f.2) (λc a w k f=>by obtain ⟨j,rfl,m,o⟩:=f;exact x j m a w k o)
end
section
variable {P:aV} {l:I<|Z×aT} {W:aL->Prop} {ty:b_} {pos:bg} {af:bE fw} {g:az<|Z×aQ}
variable {j':az Tmp} {bC:dF} {bs eM:b_} {bn:aT} {MF:bE Field}
def MG (a:P.underlying bs=aa (.struct MF)) (b:b5 l bC=aa (.iface bs bn)):Yl P l W ⟨j',.typeAssert bC eM bs ac,ty,pos,af,g⟩<|cN #[bn,bV ac]:=by intro d w c _;simp [execOp,c bC _ b,Instr.typeAssert,run_underlying a]
def MH (a:P.underlying bs=aa (.struct MF)) (b:zeroOf P bs=aa bn) (c:b5 l bC=aa .nilIface):Yl P l W ⟨j',.typeAssert bC eM bs ac,ty,pos,af,g⟩<|cN #[bn,bV au]:=by intro e w d _;simp [execOp,d bC _ c,Instr.typeAssert,run_underlying a,w4 b]
end
def xm (b:aQ):I aT:=[bV b]
def rdBool (H:View) (b o:Z) (x:aQ):Prop:=ct H b o<|xm x
def Ut (b:aQ):(xm b).length=1:=rfl
section
variable {P:aV} {ops:bE ay} {C:aL->Prop} {Q:aO->aN->aL->Prop} {n:Z} {ds:I e'} {l:I<|Z×aT} {W:aL->Prop}
variable {eb:I<|Z×aT} {b6:I ay}
def Uu {a:aN}  {o:ay}  (c:nA ops l (o::b6)=aa eb) (p:Ag n ds l a) : ∃d,o.dst=aa d/\m1 o (yielded ops a.tmps)=au/\nA ops ((d,undef)::l) b6=aa eb:=by
 simp only [nA] at c;cases e:o.guard with
 | none=>simp [e] at c
 | some r=>
  obtain ⟨j,b⟩:=r;cases q:o.dst with
  | none=>simp [e,q] at c
  | some d=>
   simp only [e,q] at c;cases f:(ops[j]?).bind (·.dst) with
   | none=>simp [f] at c
   | some h=>
    simp only [f] at c;cases g:lk l h with
    | none=>simp [g] at c
    | some v=>
     simp only [g] at c;have hv:=p.jn h v g;cases v with
     | bool i=>
      cases k:(i != b) with
      | false=>simp [k] at c
      | true=>
       simp only [k,vu] at c;refine ⟨d,O,?_,c⟩;have s:=Hs p g<|bA (by simp [undef]);have m:yielded ops a.tmps j=aa i:=by simp [yielded,f,s]
       simp only [m1,e,m];cases b<;>cases i<;>first|rfl|(simp at k)
     | tuple vs=>
      refine ⟨d,O,?_,c⟩;have m:yielded ops a.tmps j=ak:=by simp only [yielded,f,cF];rw [kZ] at hv;cases t:a.tmps[h]? with| none=>rfl| some u=>simp [t] at hv;simp [hv]
      simp [m1,e,m]| _=>simp at c
def opsOf (ops:bE ay):I (Z×aQ)->az (I ay)| []=>aa []| (i,_)::r=>match ops[i]?,opsOf ops r with| aa o,aa t=>aa<|o::t| _,_=>ak
variable {im DZ:I<|Z×aQ}
def WD.GG:∀{os:I ay} {e l:I<|Z×aT},opsOf ops im=aa os->nA ops l os=aa e->tb n os=ac->(∀w,W w->C w)->(∀a w,Ag n ds e a->W w->pB P ops C Q DZ a w)-> ∀a w,Ag n ds l a->W w->pB P ops C Q (im++DZ) a w:=by
 induction im with
 | nil=>intro os e l b f _ _ h a w g c;injection b with b;subst b;simp [nA] at f;subst f;exact h a w g c
 | cons p r v=>
  obtain ⟨i,q⟩:=p;intro os e l b f j hC h a w g c;unfold opsOf at b;cases hi:ops[i]? with
  | none=>rw [hi] at b;cases b
  | some o=>
   cases k:opsOf ops r with
   | none=>rw [hi,k] at b;cases b
   | some t=>
    rw [hi,k] at b;injection b with b;subst b;obtain ⟨d,m,s,x⟩:=Uu f g;simp only [tb,yr,eW] at j;have y:eB d n=ac:=by have:=j.1;rw [m] at this;exact this
    have u:=v k x j.2 hC h (a.put (aa d) undef) w (g.put y undef) c;cases q with| true=>exact ⟨hC w c,o,undef,hi,bl ⟨s,rfl⟩,by rw [m];exact u⟩| false=>refine ⟨hC w c,?_⟩;unfold wpOp;simp only [hi,s,dP,dq];rw [m];exact u
def Uv {f g:aN->aL->Prop} {i:aN->aL->Prop} (b:∀a w,f a w->g a w) {a:aN} {w:aL} (h:wpOp P ops (aO.then i Q) ae f a w):wpOp P ops Q ae g a w:=by
 unfold wpOp at h ⊢;cases hi:ops[ae]? with
 | none=>simp only [hi] at h ⊢;exact b _ _ h
 | some o=>
  simp only [hi] at h ⊢;split
  ·rename_i d;rw [aU d] at h;rcases h with h | ⟨j,a2,k,l⟩;·left;unfold jB at h ⊢;unfold ay.upon at h ⊢;split at h;all_goals first|exact b _ _ h|exact h|(refine h.mono λe m c=>?_;cases e with| returned v=>exact b _ _ c| panicked q=>exact c| outgrown=>obtain ⟨a3,n,p⟩:=c;exact ⟨a3,n,p⟩)|exact h.mono λv m c=>b _ _ c
   ·exact bl ⟨j,a2,k,l⟩
  ·rename_i d;rw [ao d] at h;exact b _ _ h
def Gi {x:aT} (m:Z) (hC:∀w,W w->C w) (c:lk eb ae=aa x) (d:eb.drop m=l) (e:qU (eb.take m) l=ac):WD P ops C (tc Q n ds l W ae x) n ds eb W []:= λ_ w a b=>⟨hC w b,⟨a.Dp m d e,a.jn _ _ c⟩,b⟩
def Uw {dx:Z} {x:aT} (c:∀a w,(Ag n ds l a/\a.tmps.getD dx undef=x)/\W w->pB P ops C Q DZ a w):∀(a:aN) (w:aL),pB P ops C (tc Q n ds l W dx x) im a w->pB P ops C Q (im++DZ) a w:=by induction im with| nil=>intro a w h;exact c a w h.2| cons p r b=>obtain ⟨i,q⟩:=p;intro a w h;cases q with| true=>obtain ⟨d,o,v,e,f,g⟩:=h;exact ⟨d,o,v,e,f,b _ _ g⟩| false=>exact ⟨h.1,Uv (λa w h=>b a w h) h.2⟩
variable {aH aK hQ:Z} {dE pK:aQ} {bC aE:dF} {bs:b_} {gk:bg} {gU:bE fw} {gE:az<|Z×aQ}
def WD.AP (m:Z)    (a:aQ) (u:im[m]? = aa (ae,ac)) (v:ops[ae]? = aa ⟨aa aK,.pick (.tmp aH) bC aE,bs,gk,gU,gE⟩) (y:opsOf ops (im.take m)=aa b6) (i:lk l aH=aa (bV dE)) (z:tb n b6=ac) (A:eE ops l gE) (B:eB aK n=ac) (hC:∀w,W w->C w) (c:(bC,aE)=(bif a then (dF.tmp hQ,dF.const<|bV au) else (dF.const<|bV ac,dF.tmp hQ))) (D:nA ops ((aH,bV<|!a)::l) b6=aa eb) (E:eb.drop m=(aH,bV<|!a)::l) (F:qU (eb.take m) ((aH,bV<|!a)::l)=ac) (G:dE=a->WD P ops C (tc Q n ds ((aH,bV a)::l) W hQ<|bV pK) n ds ((aH,bV a)::l) W (im.take m)) (h:WD P ops C Q n ds ((aK,bV<|bif a then dE&&pK else dE||pK)::l) W<|im.drop<|m+1):WD P ops C Q n ds l W im:=by
 intro k w p q;have H:im=im.take m++(ae,ac)::im.drop (m+1):=by obtain ⟨J,K⟩:=c_.1 u;rw [<-K,KT J,qb]
 rw [H];have s:∀(b:aN) (d:aL) (r:aQ),Ag n ds l b->W d->(if dE then b.eval bC else b.eval aE) = bV r->r=(bif a then dE&&pK else dE||pK)-> pB P ops C Q ((ae,ac)::im.drop (m+1)) b d:=by intro b d r e f hv L;refine ⟨hC d f,_,bV r,v,bA ⟨eE.wanted (o:=⟨aa aK,.pick (.tmp aH) bC aE,bs,gk,gU,gE⟩) A e,λR _=>?_⟩,h _ _ (by rw [<-L];exact e.put B _) f⟩;have M:b.eval (.tmp aH) = bV dE:=e.jn aH _ i;simp only [execOp,M,asBool,iN,kK,ie,hv]
 by_cases g:dE=a
 ·refine Uw (l:=(aH,bV a)::l) (W:=W) (dx:=hQ) (x:=bV pK) (λb d N=>?_) _ _<|G g k w (p.known (by rw [<-g];exact i)) q;obtain ⟨⟨e,t⟩,f⟩:=N;refine s b d pK (e.tg (by rw [<-g];exact i)) f ?_ ?_
  ·subst g;cases dE;·simp at c;obtain ⟨rfl,rfl⟩:=c;exact t
   ·simp at c;obtain ⟨rfl,rfl⟩:=c;exact t
  ·subst g;cases dE<;>rfl
 ·have j:dE = !a:=by cases dE<;>cases a<;>first|rfl|exact absurd rfl g
  refine WD.GG y D z hC (λb d e f=>?_) k w (p.known (by rw [<-j];exact i)) q;have O:Ag n ds l b:=(e.Dp m E F).tg (by rw [<-j];exact i);refine s b d dE O f ?_ ?_
  ·subst j;cases a;·simp at c;obtain ⟨rfl,rfl⟩:=c;rfl
   ·simp at c;obtain ⟨rfl,rfl⟩:=c;rfl
  ·subst j;cases a<;>rfl
def WD.and (m:Z)    {c x:aQ} (a:im[m]? = aa (ae,ac)) (b:ops[ae]? = aa ⟨aa aK,.pick (.tmp aH) bC aE,bs,gk,gU,gE⟩) (d:opsOf ops (im.take m)=aa b6) (e:lk l aH=aa (bV c)) (f:tb n b6=ac) (g:eE ops l gE) (i:eB aK n=ac) (hC:∀w,W w->C w) (j:(bC,aE)=(dF.tmp hQ,dF.const<|bV au)) (k:nA ops ((aH,bV au)::l) b6=aa eb) (o:eb.drop m=(aH,bV au)::l) (p:qU (eb.take m) ((aH,bV au)::l)=ac) (q:c=ac->WD P ops C (tc Q n ds ((aH,bV ac)::l) W hQ<|bV x) n ds ((aH,bV ac)::l) W (im.take m)) (h:WD P ops C Q n ds ((aK,bV<|c&&x)::l) W<|im.drop<|m+1):WD P ops C Q n ds l W im:= WD.AP m ac a b d e f g i hC j k o p q h
def WD.or (m:Z) (a:im[m]? = aa (ae,ac)) (b:ops[ae]? = aa ⟨aa aK,.pick (.tmp aH) bC aE,bs,gk,gU,gE⟩) (c:opsOf ops (im.take m)=aa b6) (d:lk l aH=aa (bV dE)) (e:tb n b6=ac) (f:eE ops l gE) (g:eB aK n=ac) (hC:∀w,W w->C w) (i:(bC,aE)=(dF.const<|bV ac,dF.tmp hQ)) (j:nA ops ((aH,bV ac)::l) b6=aa eb) (k:eb.drop m=(aH,bV ac)::l) (o:qU (eb.take m) ((aH,bV ac)::l)=ac) (p:dE=au->WD P ops C (tc Q n ds ((aH,bV au)::l) W hQ<|bV pK) n ds ((aH,bV au)::l) W (im.take m)) (h:WD P ops C Q n ds ((aK,bV<|dE||pK)::l) W<|im.drop<|m+1):WD P ops C Q n ds l W im:= WD.AP m au a b c d e f g hC i j k o p h
end
section
variable {P:aV} {l:I<|Z×aT} {W:aL->Prop} {d:az Tmp} {ty:b_} {pos:bg} {af:bE fw} {g:az<|Z×aQ}
variable {bs eM:b_} {bC aE:dF} {fd:IntKind} {aP cp:ab}
def th (a:b5 l bC=aa (an fd aP)) (b:b5 l aE=aa (an fd cp)) (h:aP=cp):Yl P l W ⟨d,.binOp .neq bs bC aE eM,ty,pos,af,g⟩<|bV au:=by subst h;have:=g2 (P:=P) (W:=W) (d:=d) (ty:=ty) (pos:=pos) (af:=af) (g:=g) (t:=bs) (u:=eM) a b;rwa [show (aP != aP)=au by simp] at this
def Ux {a b:I a7} (c:b5 l bC=aa (st a)) (e:b5 l aE=aa (st b)) (h:a=b):Yl P l W ⟨d,.binOp .neq bs bC aE eM,ty,pos,af,g⟩<|bV au:=by subst h;have:=AJ (P:=P) (W:=W) (d:=d) (ty:=ty) (pos:=pos) (af:=af) (g:=g) (t:=bs) (u:=eM) c e;rwa [show (!(a==a))=au by simp] at this
def y3 (a:b5 l bC=aa (an fd aP)) (b:b5 l aE=aa (an fd cp)) (h:aP=cp):Yl P l W ⟨d,.binOp .eql bs bC aE eM,ty,pos,af,g⟩<|bV ac:=by subst h;have:=bN (P:=P) (W:=W) (d:=d) (ty:=ty) (pos:=pos) (af:=af) (g:=g) (t:=bs) (u:=eM) a b;rwa [show (aP==aP)=ac by simp] at this
def WD.wk {ops:bE ay} {C:aL->Prop} {Q:aO->aN->aL->Prop} {n:Z} {ds:I e'} {W':aL->Prop} {rest:I<|Z×aQ} (b:∀w,W w->W' w) (h:WD P ops C Q n ds l W' rest):WD P ops C Q n ds l W rest:=λa w c d=>h a w c<|b w d
end
open Go.ChangeShapes Go.WideShapes Go.ChangeAt Go.RowKit Go.Joins Go.Deep
structure y4 (H:Type) where
 B:DataW H->Nat
 BA:List (DataW H)->Nat
 str:∀l:List UInt8,B (.lit<|.string l)=l.length+1
 agg:∀l,B (.agg l)=BA l+1
 sl:∀l r,BA l+1<=B (.slice l r)
 nil:BA []=0
 cons:∀d r,BA (d::r)=B d+BA r
def y4.at_ {H:Type} (a:y4 H) {l:I<|DataW H}:∀{i:Z} {d:DataW H},l[i]? = aa d->a.B d<=a.BA l:=by induction l with| nil=>intro i d h;cases h| cons y r b=>intro i d h;rw [a.cons];cases i with| zero=>simp at h;subst h;omega| succ i=>have:=b (i:=i) (by simpa using h);omega
section
variable {P:aV} {H:Type} {enc:b_×aT->H} {w:aL} {base:Z} {spare:Z->aQ} {held:aQ} (K:y4 H)
variable {bs:b_} {bn:aT}
def Uz {x:DataW H×I MemPlace} (a:P.underlying bs=aa .string) (h:DataW.trod enc P w base spare held ae bs [bn]=aa x):∃l:I a7,bn=st l/\K.B x.1=l.length+1:=by obtain ⟨s,e,b,_⟩:=DataW.trod_string a h;injection e with e _;subst e;exact ⟨s.data.toList,by simp [st],by rw [b];exact K.str _⟩
def UA {x:DataW H×List MemPlace} (a:P.underlying bs=some (.int .i64)) (h:DataW.trod enc P w base spare held ae bs [bn]=some x):∃k:Int,bn = .int .i64 k:=by obtain ⟨n,e,_⟩:=DataW.trod_int a h;injection e with e _;exact ⟨n,e⟩
def MI {α:Type} {rd:View->Nat->Nat->α->Prop} (E:α->Nat) (A:List α->Nat) (N:A []=0) (ad:∀x r,A (x::r)=E x+A r) {ts e:TypeId} {k fuel:Nat} {v:Value} {x:DataW H×List MemPlace} (ae:P.underlying ts=some (.slice e)) (G:P.cellsOf e=k) (Q:0<k) (af:∀b,spare b=true) (ag:∀(n:Nat) (f:List Value) (y:DataW H×List MemPlace),n<fuel->DataW.trod enc P w base spare held n e f=some y->f.length=k->∃d:α,(∀b o,ct (hv w) b o f->rd (hv w) b o d)/\E d<=K.B y.1) (h:DataW.trod enc P w base spare held fuel ts [v]=some x):∃(a:Option Addr) (c:Nat) (xs:List α),v = .slice a xs.length c/\Sl rd k (hv w) a c xs/\A xs<=K.B x.1:=by
 rcases DataW.trod_slice ae h with ⟨q,_⟩ | ⟨a,len,cap,C,rest,n,aJ,q,ah,aK,aP,ai,aR,R,aj,_⟩;·injection q with q _;exact ⟨none,0,[],q,Sl.nil,by rw [N];exact de _⟩
 ·injection q with q _;have S:0<cap->a.spot=none:=by
   intro aS;rcases m2 0 len with T | T;·have g:=R 0 T;obtain ⟨y,z⟩:∃y,C[0]? = some y:=⟨_,dh (by omega)⟩;rw [z] at g;obtain ⟨f,m,_⟩:=dl.1 g;rw [G] at m;obtain ⟨_,J,D⟩:=World.cells?_some m;obtain ⟨u,L⟩:∃u,f[0]? = some u:=⟨_,dh (by omega)⟩;have:=D 0 Q;rw [L] at this;simpa [Addr.add] using World.cell?_spot this
   ·obtain ⟨aU,al⟩:=aj<|af _;have ao:len=0:=by omega
    have g:=al 0 (by omega);rw [ao] at g;obtain ⟨y,z⟩:∃y,rest[0]? = some y:=⟨_,dh (by omega)⟩;rw [z] at g;obtain ⟨f,m,_⟩:=dl.1 g;rw [G] at m;obtain ⟨_,J,D⟩:=World.cells?_some m;obtain ⟨u,L⟩:∃u,f[0]? = some u:=⟨_,dh (by omega)⟩;have:=D 0 Q;rw [L] at this;simpa [Addr.add] using World.cell?_spot this
  obtain ⟨xs,ap,U⟩:=LP (λi (d:α)=>(∀b o,a=⟨b,o,none⟩->rd (hv w) b (o+i*k) d)/\∃y:DataW H×List MemPlace,C[i]? = some y/\E d<=K.B y.1) len (λi hi=>by
   have g:=R i hi;obtain ⟨y,z⟩:∃y,C[i]? = some y:=⟨_,dh (by omega)⟩;rw [z] at g;obtain ⟨f,m,aq⟩:=dl.1 g;rw [G] at m;obtain ⟨_,J,D⟩:=World.cells?_some m;obtain ⟨d,ar,av⟩:=ag n f y (by omega) aq J;refine ⟨d,λb o aw=>ar _ _ λj v V=>?_,y,z,av⟩;subst aw;have aA:j<k:=by have:=(c_.1 V).1;omega
   have:=D j aA;rw [V] at this;rw [qS,qS] at this;exact GY this);have aD:∀(l:List α) (es:List<|DataW H×List MemPlace),l.length=es.length->(∀(i:Nat) (d:α),l[i]? = some d->∃y:DataW H×List MemPlace,es[i]? = some y/\E d<=K.B y.1)->A l<=K.BA (es.map (·.1)):=by
   intro l;induction l with
   | nil=>intro es _ _;rw [N];exact de _
   | cons d l aE=>
    intro es W X;cases es with
    | nil=>cases W
    | cons y es=>
     obtain ⟨Y,F,t⟩:=X 0 d rfl;simp at F;subst F;have:=aE es (by simpa using W) λi aF aG=>by obtain ⟨Y,F,t⟩:=X (i+1) aF (by simpa using aG);exact ⟨Y,by simpa using F,t⟩
     rw [ad,l_,K.cons];omega
  refine ⟨some a,cap,xs,by rw [q,ap],⟨by omega,by unfold maxLen at ai;omega,λp M aH=>by injection M with M;subst M;exact S aH,λi d t=>?_⟩,?_⟩
  ·have hi:i<len:=by have:=(c_.1 t).1;omega
   have aI:=S (by omega);obtain ⟨b,o,s⟩:=a;obtain rfl:s=none:=aI;exact ⟨b,o,O,(U i d t).1 b o O⟩
  ·have:=aD xs C (by omega) λi d t=>(U i d t).2;simp only [ah];have:=K.sl (C.map (·.1)) (rest.map (·.1));omega
structure afe (P:Program) (tE tS tD tP tM D4 y5 Hm y6 vI:TypeId) (e s d p m:Array Field) (tI tB tT:TypeId):Prop where
 uI:P.underlying tI=some (.int .i64)
 uB:P.underlying tB=some .bool
 uT:P.underlying tT=some .string
 cT:P.cellsOf tT=1
 uE:P.underlying tE=some (.struct e)
 rE:(qY P 0 e.toList&&Nat.beq (P.cellsOf tE) e.size)=true
 fE:e.map (·.type) = #[tI,tI,tT,tT,D4]
 af3:P.underlying D4=some (.slice tE)
 uS:P.underlying tS=some (.struct s)
 rS:(qY P 0 s.toList&&Nat.beq (P.cellsOf tS) s.size)=true
 fS:s.map (·.type) = #[tI,tT,tT,D4,y5,y5]
 af4:P.underlying y5=some (.slice tS)
 uD:P.underlying tD=some (.struct d)
 rD:(qY P 0 d.toList&&Nat.beq (P.cellsOf tD) d.size)=true
 fD:d.map (·.type) = #[tI,tT,tB,tI]
 af5:P.underlying Hm=some (.slice tD)
 uP:P.underlying tP=some (.struct p)
 rP:(qY P 0 p.toList&&Nat.beq (P.cellsOf tP) p.size)=true
 fP:p.map (·.type) = #[tT,tB,vI,vI,y5]
 UF:P.underlying y6=some (.slice tP)
 UG:P.underlying vI=some (.slice tT)
 uM:P.underlying tM=some (.struct m)
 rM:(qY P 0 m.toList&&Nat.beq (P.cellsOf tM) m.size)=true
 fM:m.map (·.type) = #[tT,vI,Hm,y6,y5]
variable {tE tS tD tP tM D4 y5 Hm y6 vI tI tB tT:b_} {e s d p m:bE Field}
end
end Go.Bw
end
section
namespace Go.Bw
open Go
structure aW where
 kind:ab
 n:ab
 pl:ab
 name:I a7
deriving DecidableEq
def aW.cells (x:aW):I aT:=[an am x.kind,an am x.n,an am x.pl,st x.name]
def aW.dA (x:aW):x.cells.length=4:=rfl
def aW.one (x:aW):x.cells.all (·.oneCell')=ac:=rfl
def dL (H:View) (b o:Z) (x:aW):Prop:=ct H b o x.cells
variable {bt bX:View}
def UH (h:cV bt bX) (b o:Z) (x:aW) (r:dL bt b o x):dL bX b o x:=ct.mono h r
def o3 (x:aW):aQ:=!(((((((!(gm x.name)||!(fm x.kind 1 4))||!(fm x.n 0 1099511627775))||!(fm x.pl 0 320))||(x.kind==1&&x.pl != 0))||(x.kind==2&&x.n != 0))||(x.kind==3&&!(fm x.n 1 32)))||(x.kind==4&&decide (3<x.n)))
variable {fb:aW}
def D8 {lo hi a:ab} (h:(fb.kind=1/\lo=0/\hi=1099511627775/\a=0)\/(fb.kind=2/\lo=0/\hi=0/\a=320)\/(fb.kind=3/\lo=1/\hi=32/\a=320)\/(fb.kind=4/\lo=0/\hi=3/\a=320)) : ((((gm fb.name&&decide (lo<=fb.n))&&decide (fb.n<=hi))&&decide (0<=fb.pl))&&decide (fb.pl<=a))=o3 fb:=by
 unfold o3;generalize gm fb.name=b;rw [lK];cases b;·simp
 ·rcases h with ⟨h,rfl,rfl,rfl⟩ | ⟨h,rfl,rfl,rfl⟩ | ⟨h,rfl,rfl,rfl⟩ | ⟨h,rfl,rfl,rfl⟩<;>simp [fm,h]<;>omega
def UI (a:fb.kind≠1) (b:fb.kind≠2) (c:fb.kind≠3) (d:fb.kind≠4):o3 fb=au:=by
 unfold o3;have:fm fb.kind 1 4=au:=by simp [fm];omega
 simp [this]
def gV (l:I<|I a7):aQ:=(kJ l.length).any λi=>(kJ i).any λj=>l[i]?.getD []==l[j]?.getD []
variable {db:I<|I a7} {ae aH:Z}
def UJ (hi:ae<db.length) (a:aH<ae) (h:(db[ae]?.getD []==db[aH]?.getD [])=ac):gV db=ac:=by unfold gV;exact s8.2 ⟨ae,by simpa using hi,s8.2 ⟨aH,by simpa using a,h⟩⟩
def Hn:gV db=ac↔∃i j,i<db.length/\j<i/\db[i]? = db[j]?:=by
 constructor
 ·intro h;unfold gV at h;obtain ⟨i,hi,h⟩:=s8.1 h;obtain ⟨j,a,h⟩:=s8.1 h;have hi:i<db.length:=by simpa using hi
  have a:j<i:=by simpa using a
  refine ⟨i,j,hi,a,?_⟩;rw [dh hi,dh aj] at h ⊢;simpa using h
 ·rintro ⟨i,j,hi,a,h⟩;exact UJ hi a (by rw [h];simp)
def ku:db.Nodup↔gV db=au:=by
 constructor;·intro h;rw [ug];intro b;obtain ⟨i,j,hi,a,e⟩:=Hn.1 b;have:=(s9 hi h).1 e;omega
 ·intro h;show I.Pairwise _ db;rw [CY];intro i j hi a c e;have:=Hn.2 ⟨j,i,a,c,by rw [dh hi,dh a,e]⟩;rw [h] at this;cases this
def ee (name:I a7) (a:I aW):ab:= if 16<a.length then 2 else if (a.all o3&&(!(gV (a.map (·.name))||!(gm name))))=ac then 0 else 1
variable {jc:I aW}
def MJ (h:∀(j:Z) (x:aW),jc[j]? = aa x->o3 x=ac):jc.all o3=ac:=by rw [gw];intro x a;obtain ⟨j,b⟩:=ls a;exact h j x b
def UK (a:jc[ae]? = aa fb) (h:o3 fb=au):jc.all o3=au:=by rw [yv];exact ⟨fb,dJ a,by simp [h]⟩
def pL (at_:ab) (d:eQ):aW:=⟨d.kind,d.n,if d.kind=1 then 0 else at_,d.nm⟩
def kP (d:eQ):ab:=if d.kind=2 then 1 else if d.kind=3 then d.n else 0
def hA:I eQ->ab| []=>0| d::r=>kP d+hA r
def k4:I eQ->ab->I aW| [],_=>[]| d::r,a=>pL a d::k4 r (a+kP d)
def qr (i:Z) (p:bz):aW:=⟨4,(p.params.length:ab),(i:ab),p.nm⟩
def m_:I bz->Z->I aW| [],_=>[]| p::r,i=>qr i p::m_ r (i+1)
def MK:∀(l:I eQ) (d:eQ),hA (l++[d])=hA l+kP d| [],d=>by simp [hA]| x::l,d=>by simp only [hx,hA,MK l d];omega
def ML:∀(l:I eQ) (d:eQ) (a:ab),k4 (l++[d]) a=k4 l a++[pL (a+hA l) d]| [],d,a=>by simp [k4,hA]| x::l,d,a=>by simp only [hx,k4,ML l d,hA];rw [show a+kP x+hA l=a+(kP x+hA l) by omega]
def MM:∀(l:I bz) (p:bz) (i:Z),m_ (l++[p]) i=m_ l i++[qr (i+l.length) p]| [],p,i=>by simp [m_]| x::l,p,i=>by simp only [hx,m_,MM l p,eL];rw [show i+1+l.length=i+(l.length+1) by omega]
def D9:∀(l:I eQ) (a:ab),(k4 l a).length=l.length| [],_=>rfl| x::l,a=>by simp [k4,D9 l]
def Ho:∀(l:I bz) (i:Z),(m_ l i).length=l.length| [],_=>rfl| x::l,i=>by simp [m_,Ho l]
def gW (m:cM):I aW:=k4 m.decls 0++m_ m.procs 0
def od (m:cM):ab:=hA m.decls
def o4 (m:cM):I aQ:=m.decls.map (·.cz)++m.procs.map (·.cz)
def A_ (m:cM):(gW m).length=m.decls.length+m.procs.length:=by simp [gW,D9,Ho]
def D' (m:cM):(o4 m).length=m.decls.length+m.procs.length:=by simp [o4]
def k5:I aW->I aQ->I aW| x::l,p::ps=>(if p=ac then [x] else [])++k5 l ps| _,_=>[]
def MN:∀{l:I aW} {ps:I aQ} {x:aW} {p:aQ},l.length=ps.length->k5 (l++[x]) (ps++[p])=k5 l ps++(if p=ac then [x] else [])| [],[],x,p,_=>by simp [k5]| y::l,q::ps,x,p,h=>by simp only [hx,k5,MN (l:=l) (ps:=ps) (by simpa using h),ho]| [],q::ps,x,p,h=>by simp at h| y::l,[],x,p,h=>by simp at h
def UL {ps:I aQ}   {p:aQ} (c:jc.length=ps.length) (a:jc[ae]? = aa fb) (b:ps[ae]? = aa p):k5 (jc.take<|ae+1) (ps.take<|ae+1)=k5 (jc.take ae) (ps.take ae)++(if p=ac then [fb] else []):=by rw [hP,hP,a,b];exact MN (by simp;omega)
def Hp:∀(l:I aW) (ps:I aQ),(k5 l ps).length<=l.length| [],_=>by simp [k5]| x::l,[]=>by simp [k5]| x::l,p::ps=>by have:=Hp l ps;simp only [k5,e_,eL];split<;>simp<;>omega
def fk (m:cM):(I a7×I aW)×ab:= if hI m≠0 then (([],[]),hI m) else if (gV ((gW m).map (·.name))||gV m.aI)=ac then (([],[]),6) else ((m.nm,k5 (gW m)<|o4 m),0)
inductive e3 where
 | mk (op n m pl:Int) (args:List e3)
inductive ep where
 | mk (op n m pl:Int) (args:List e3) (body other:List ep)
def e3.op:e3->ab| .mk o _ _ _ _=>o
def e3.n:e3->ab| .mk _ n _ _ _=>n
def e3.m:e3->ab| .mk _ _ m _ _=>m
def e3.pl:e3->ab| .mk _ _ _ p _=>p
def e3.args:e3->I e3| .mk _ _ _ _ a=>a
def ep.op:ep->ab| .mk o _ _ _ _ _ _=>o
def ep.n:ep->ab| .mk _ n _ _ _ _ _=>n
def ep.m:ep->ab| .mk _ _ m _ _ _ _=>m
def ep.pl:ep->ab| .mk _ _ _ p _ _ _=>p
def ep.args:ep->I e3| .mk _ _ _ _ a _ _=>a
def ep.body:ep->I ep| .mk _ _ _ _ _ b _=>b
def ep.other:ep->I ep| .mk _ _ _ _ _ _ o=>o
structure bT where
 params:ab
 locals:ab
 body:I ep
structure cD where
 nm:I a7
 aI:I<|I a7
 data:ab
 parts:I bT
 main:I ep
def lw:cD:=⟨[],[],0,[],[]⟩
def oe (e:e3) (a:az a0) (c:Z):I aT:=[an am e.op,an am e.n,an am e.m,an am e.pl,aC a e.args.length c]
def kQ:Z->View->Z->Z->e3->Prop| 0=>λ_ _ _ _=>False| k+1=>λH b o e=>∃a c,ct H b o (oe e a c)/\Sl (kQ k) 5 H a c e.args
structure vJ where
 s1:az a0×Z
 s2:az a0×Z
 s3:az a0×Z
def qs (s:ep) (r:vJ):I aT:=[an am s.op,an am s.n,an am s.m,an am s.pl,aC r.s1.1 s.args.length r.s1.2,aC r.s2.1 s.body.length r.s2.2,aC r.s3.1 s.other.length r.s3.2]
def jd (ke:Z):Z->View->Z->Z->ep->Prop| 0=>λ_ _ _ _=>False| k+1=>λH b o s=>∃r:vJ,ct H b o (qs s r)/\Sl (kQ ke) 5 H r.s1.1 r.s1.2 s.args/\Sl (jd ke k) 7 H r.s2.1 r.s2.2 s.body/\Sl (jd ke k) 7 H r.s3.1 r.s3.2 s.other
def xo (p:bT) (r:az a0×Z):I aT:=[an am p.params,an am p.locals,aC r.1 p.body.length r.2]
def y8 (ke ks:Z) (H:View) (b o:Z) (p:bT):Prop:=∃r:az a0×Z,ct H b o (xo p r)/\Sl (jd ke ks) 7 H r.1 r.2 p.body
structure o5 where
 s1:az a0×Z
 s2:az a0×Z
 s3:az a0×Z
def hX (u:cD) (r:o5):I aT:=[st u.nm,aC r.s1.1 u.aI.length r.s1.2,an am u.data,aC r.s2.1 u.parts.length r.s2.2,aC r.s3.1 u.main.length r.s3.2]
structure og (ke ks:Z) (H:View) (r:o5) (u:cD):Prop where
 aI:Sl rdStr 1 H r.s1.1 r.s1.2 u.aI
 parts:Sl (y8 ke ks) 3 H r.s2.1 r.s2.2 u.parts
 main:Sl (jd ke ks) 7 H r.s3.1 r.s3.2 u.main
def nC:o5:=⟨(ak,0),(ak,0),(ak,0)⟩
def y9 (H:View):og ae aH H nC lw:=⟨Sl.nil,Sl.nil,Sl.nil⟩
def Hq (f:cV bt bX):∀{k d:Z},k<=d->∀(b o:Z) (e:e3),kQ k bt b o e->kQ d bX b o e| 0,_,_,_,_,_,h=>h.elim| k+1,0,g,_,_,_,_=>absurd g aj| k+1,d+1,g,b,o,e,h=>by obtain ⟨a,c,i,j⟩:=h;exact ⟨a,c,ct.mono f i,j.imp λb o x l=>Hq f aj b o x l⟩
def Ba (c:cV bt bX)  (d:ae<=aH):∀{k f:Z},k<=f->∀(b o:Z) (e:ep),jd ae k bt b o e->jd aH f bX b o e| 0,_,_,_,_,_,h=>h.elim| k+1,0,g,_,_,_,_=>absurd g aj| k+1,f+1,g,b,o,e,h=>by obtain ⟨r,i,j,l,m⟩:=h;exact ⟨r,ct.mono c i,j.imp λb o x a=>Hq c d b o x a,l.imp λb o x a=>Ba c d aj b o x a,m.imp λb o x a=>Ba c d aj b o x a⟩
def MO (a:cV bt bX) {ke c ks d:Z} (e:ke<=c) (f:ks<=d) (b o:Z) (p:bT) (h:y8 ke ks bt b o p):y8 c d bX b o p:=by obtain ⟨r,g,i⟩:=h;exact ⟨r,ct.mono a g,i.imp λb o x j=>Ba a e f b o x j⟩
variable {b':az a0}
def D_ {l:I e3} (h:Sl (kQ ae) 5 bt b' aH l) (hv:cV bt bX):Sl (kQ ae) 5 bX b' aH l:=h.imp λb o x a=>Hq hv (eC _) b o x a
variable {aK:Z}
def vK {l:I ep} (h:Sl (jd ae aH) 7 bt b' aK l) (hv:cV bt bX):Sl (jd ae aH) 7 bX b' aK l:=h.imp λb o x a=>Ba hv (eC _) (eC _) b o x a
def UM {l:I bT} (h:Sl (y8 ae aH) 3 bt b' aK l) (hv:cV bt bX):Sl (y8 ae aH) 3 bX b' aK l:=h.imp λb o x a=>MO hv (eC _) (eC _) b o x a
def og.mv {r:o5} {u:cD} (h:og ae aH bt r u) (hv:cV bt bX):og ae aH bX r u:=⟨h.aI.imp λb o x a=>yW hv b o x a,UM h.parts hv,vK h.main hv⟩
def Xs {X:Type} (R:View->X->Prop) (J:View) (es:I X):Prop:=∀e ∈ es,R J e
variable {bW:Type}
def Xs.nil {R:View->bW->Prop} (J:View):Xs R J []:=by intro e h;simp at h
def Xs.mono {R:View->bW->Prop} (b:∀{a B:View} {x:bW},cV a B->R a x->R B x)  {es:I bW} (h:Xs R bt es) (hv:cV bt bX):Xs R bX es:=λe c=>b hv<|h e c
def Xs.snoc {X:Type} {R:View->X->Prop} (c:∀{d B:View} {x:X},cV d B->R d x->R B x) {J f b:View} {es:I X} {e:X} (h:Xs R J es) (g:cV J b) (i:cV f b) (j:R f e):Xs R b<|es++[e]:=by
 intro x a;rcases bm.1 a with a | a;·exact c g<|h x a
 ·rw [fq] at a;subst a;exact c i j
variable {lT:View}
def xp {X T:Type} {t:X->T} {a:View->Z->Z->X->Prop} {rd:View->Z->Z->T->Prop} {R:View->X->Prop}     {es:I X} (h:Sl a ae bt b' aH es) (f:Xs R bX es) (g:∀b o e,a bt b o e->R bX e->rd lT b o (t e)):Sl rd ae lT b' aH<|es.map t:=by refine ⟨by simpa using h.cap,h.max,h.spot,λi x c=>?_⟩;rw [gh] at c;obtain ⟨e,d,rfl⟩:=eD.1 c;obtain ⟨b,o,j,k⟩:=h.b7 i e d;exact ⟨b,o,j,g b _ e k<|f e<|dJ d⟩
abbrev XN:=e3×az a0×Z
def XN.cells (e:XN):I aT:=oe e.1 e.2.1 e.2.2
def XN.dA (e:XN):(XN.cells e).length=5:=rfl
def XN.one (e:XN):(XN.cells e).all (·.oneCell')=ac:=rfl
def KF (H:View) (b o:Z) (e:XN):Prop:=ct H b o<|XN.cells e
def h4 (k:Z) (J:View) (e:XN):Prop:=Sl (kQ k) 5 J e.2.1 e.2.2 e.1.args
def h4.mv {e:XN} (hv:cV bt bX) (h:h4 ae bt e):h4 ae bX e:=D_ h hv
def UN {es:I XN} (h:Sl KF 5 bt b' aH es) (hv:cV bt lT) (a:cV bX lT) (c:Xs (h4 ae) bX es):Sl (kQ<|ae+1) 5 lT b' aH (es.map (·.1)):= xp h c λb o e d f=>⟨e.2.1,e.2.2,ct.mono hv d,h4.mv a f⟩
abbrev XA:=ep×vJ
def XA.cells (e:XA):I aT:=qs e.1 e.2
def XA.dA (e:XA):(XA.cells e).length=7:=rfl
def XA.one (e:XA):(XA.cells e).all (·.oneCell')=ac:=rfl
def MQ (H:View) (b o:Z) (e:XA):Prop:=ct H b o<|XA.cells e
structure eh (ke k:Z) (N:View) (e:XA):Prop where
 args:Sl (kQ ke) 5 N e.2.s1.1 e.2.s1.2 e.1.args
 body:Sl (jd ke k) 7 N e.2.s2.1 e.2.s2.2 e.1.body
 other:Sl (jd ke k) 7 N e.2.s3.1 e.2.s3.2 e.1.other
def eh.mv {e:XA} (hv:cV bt bX) (h:eh ae aH bt e):eh ae aH bX e:=⟨D_ h.args hv,vK h.body hv,vK h.other hv⟩
def UO {es:I XA} (h:Sl MQ 7 bt b' aK es) (hv:cV bt lT) (a:cV bX lT) (d:Xs (eh ae aH) bX es):Sl (jd ae<|aH+1) 7 lT b' aK (es.map (·.1)):= xp h d λb o e f c=>⟨e.2,ct.mono hv f,(eh.mv a c).args,(eh.mv a c).body,(eh.mv a c).other⟩
abbrev XP:=bT×az a0×Z
def XP.cells (e:XP):I aT:=xo e.1 e.2
def XP.dA (e:XP):(XP.cells e).length=3:=rfl
def XP.one (e:XP):(XP.cells e).all (·.oneCell')=ac:=rfl
def MR (H:View) (b o:Z) (e:XP):Prop:=ct H b o<|XP.cells e
def vL (ke k:Z) (J:View) (e:XP):Prop:=Sl (jd ke k) 7 J e.2.1 e.2.2 e.1.body
def vL.mv {e:XP} (hv:cV bt bX) (h:vL ae aH bt e):vL ae aH bX e:=vK h hv
def UP {es:I XP} (h:Sl MR 3 bt b' aK es) (hv:cV bt lT) (a:cV bX lT) (c:Xs (vL ae aH) bX es):Sl (y8 ae aH) 3 lT b' aK (es.map (·.1)):= xp h c λb o e d f=>⟨e.2,ct.mono hv d,vL.mv a f⟩
open Go.ChangeShapes Go.WideShapes Go.ChangeAt Go.RowKit Go.Joins Go.Deep
structure afu (P:Program) (tI tT tX MS tF UQ:TypeId) (x f:Array Field):Prop where
 uI:P.underlying tI=some (.int .i64)
 uT:P.underlying tT=some .string
 uX:P.underlying tX=some (.struct x)
 rX:(qY P 0 x.toList&&Nat.beq (P.cellsOf tX) x.size)=true
 fX:x.map (·.type) = #[tI,tI,tI,tT]
 af6:P.underlying MS=some (.slice tX)
 uF:P.underlying tF=some (.struct f)
 rF:(qY P 0 f.toList&&Nat.beq (P.cellsOf tF) f.size)=true
 fF:f.map (·.type) = #[tT,MS]
 af7:P.underlying UQ=some (.slice tF)
end Go.Bw
end
section
namespace Go.Bw
open Go
structure h6 where
 a6:I<|I a7
 own:I aW
 aI:I<|I a7
 vM:I<|I aW
def idxOf (nm:I a7):I (I a7)->Z->az Z| [],_=>ak| s::r,i=>if s=nm then aa i else idxOf nm r (i+1)
def iQ (nm:I a7):I aW->az aW| []=>ak| x::r=>if x.name=nm then aa x else iQ nm r
def mj (mod nm:I a7):I (I a7)->I (I aW)->Z->az (ab×aW)| u::us,f::fs,k=>if u=mod then (match iQ nm f with| aa x=>aa (((k+1:Z):ab),x)| ak=>mj mod nm us fs<|k+1) else mj mod nm us fs (k+1)| _,_,_=>ak
def Ht (i:Z):aW:=⟨0,0,(i:ab),[]⟩
def hl (a:h6) (mod nm:I a7):az<|ab×aW:= if mod=[] then (match idxOf nm a.a6 0 with| aa i=>aa (-1,Ht i)| ak=>(iQ nm a.own).map λx=>(0,x)) else mj mod nm a.aI a.vM 0
def er (a b:ab):ab:=if a=0 then b else a
def nD (b:ab):er 0 b=b:=rfl
def UR (a:ab):er a 0=a:=by unfold er;split<;>simp_all
def US (a b c:ab):er (er a b) c=er a (er b c):=by unfold er;split<;>simp_all
variable {aP cp:ab}
def ml:er aP cp=0↔aP=0/\cp=0:=by unfold er;split<;>simp_all
def tm (h:aP≠0):er aP cp=aP:=by unfold er;rw [ao h]
structure RN where
 op:ab
 n:ab
 m:ab
 pl:ab
 e:ab
def ed (a:h6) (op n:ab) (mod nm:I a7) (len:Z):RN:= if fm op 3 5=ac then (match hl a mod nm with| ak=>⟨op,n,0,0,5⟩| aa (m,it)=> if m = -1 then ⟨16,n,0,it.pl,if op=3 then 0 else 7⟩ else if op=3/\it.kind=1 then ⟨1,it.n,0,0,0⟩ else if op=3/\it.kind=2 then ⟨op,n,m,it.pl,0⟩ else if op=4/\it.kind=3 then ⟨op,it.n,m,it.pl,0⟩ else if op=5/\it.kind=4 then ⟨op,n,m,it.pl,if it.n=(len:ab) then 0 else 8⟩ else ⟨op,n,0,0,7⟩) else ⟨op,n,0,0,0⟩
def ew (a:h6) (op:ab) (mod nm:I a7) (len:Z):RN:= if fm op 1 3=ac then (match hl a mod nm with| ak=>⟨op,0,0,0,5⟩| aa (m,it)=> if op=1/\(m = -1\/it.kind=2) then ⟨op,0,m,it.pl,0⟩ else if m = -1 then ⟨op,0,0,0,7⟩ else if op=2/\it.kind=3 then ⟨op,it.n,m,it.pl,0⟩ else if op=3/\it.kind=4 then ⟨op,0,m,it.pl,if it.n=(len:ab) then 0 else 8⟩ else ⟨op,0,0,0,7⟩) else ⟨op,0,0,0,0⟩
mutual
def oh (a:h6):cu->e3| .mk op n mod nm args=>.mk (ed a op n mod nm args.length).op (ed a op n mod nm args.length).n (ed a op n mod nm args.length).m (ed a op n mod nm args.length).pl<|iR a args
def iR (a:h6):I cu->I e3| []=>[]| x::r=>oh a x::iR a r
end
mutual
def lx (a:h6):cu->ab| .mk op n mod nm args=>er (ed a op n mod nm args.length).e<|ce a args
def ce (a:h6):I cu->ab| []=>0| x::r=>er (lx a x)<|ce a r
end
mutual
def oi (a:h6):cv->ep| .mk op mod nm args body other=>.mk (ew a op mod nm args.length).op (ew a op mod nm args.length).n (ew a op mod nm args.length).m (ew a op mod nm args.length).pl (iR a args) (ga a body)<|ga a other
def ga (a:h6):I cv->I ep| []=>[]| x::r=>oi a x::ga a r
end
mutual
def kR (a:h6):cv->ab| .mk op mod nm args body other=>er (ew a op mod nm args.length).e<|er (ce a args)<|er (gX a body)<|gX a other
def gX (a:h6):I cv->ab| []=>0| x::r=>er (kR a x)<|gX a r
end
def Hu (a:h6) (x:cu):oh a x = .mk (ed a x.op x.n x.mod x.nm x.args.length).op (ed a x.op x.n x.mod x.nm x.args.length).n (ed a x.op x.n x.mod x.nm x.args.length).m (ed a x.op x.n x.mod x.nm x.args.length).pl (iR a x.args):=by cases x;rw [oh];rfl
def vN (a:h6) (x:cu):lx a x=er (ed a x.op x.n x.mod x.nm x.args.length).e (ce a x.args):=by cases x;rw [lx];rfl
def Hv (a:h6) (x:cv):oi a x = .mk (ew a x.op x.mod x.nm x.args.length).op (ew a x.op x.mod x.nm x.args.length).n (ew a x.op x.mod x.nm x.args.length).m (ew a x.op x.mod x.nm x.args.length).pl (iR a x.args) (ga a x.body) (ga a x.other):=by cases x;rw [oi];rfl
def tn (a:h6) (x:cv):kR a x=er (ew a x.op x.mod x.nm x.args.length).e (er (ce a x.args)<|er (gX a x.body)<|gX a x.other):=by cases x;rw [kR];rfl
def y' (a:h6):∀l,iR a l=l.map (oh a)| []=>by rw [iR];rfl| x::r=>by rw [iR,y' a r];rfl
def tp (a:h6):∀l,ga a l=l.map (oi a)| []=>by rw [ga];rfl| x::r=>by rw [ga,tp a r];rfl
def iS {α:Type} (f:α->ab):I α->ab| []=>0| x::r=>er (f x)<|iS f r
variable {bW:Type}
def Hw (f:bW->ab):∀a b:I bW,iS f (a++b)=er (iS f a) (iS f b)| [],b=>rfl| x::a,b=>by simp only [hx,iS,Hw f a b,US]
variable {cg:I bW} {ae:Z} {hg:bW}
def Hx (f:bW->ab)    (h:cg[ae]? = aa hg):iS f (cg.take<|ae+1)=er (iS f<|cg.take ae) (f hg):=by rw [hP,h,Hw];show er _ (er (f hg) 0)=_;rw [UR]
def y_ (f:bW->ab)    (h:cg[ae]? = aa hg) (a:iS f (cg.take ae)=0) (b:f hg≠0):iS f cg=f hg:=by
 have e:cg=cg.take ae++cg.drop ae:=(qb ae cg).symm;rw [e,Hw,a,nD];have c:cg.drop ae=hg::cg.drop (ae+1):=by obtain ⟨d,g⟩:=c_.1 h;rw [nZ d,g]
 rw [c,iS,tm b]
def Hy (a:h6):∀l,ce a l=iS (lx a) l| []=>by rw [ce];rfl| x::r=>by rw [ce,Hy a r];rfl
def Hz (a:h6):∀l,gX a l=iS (kR a) l| []=>by rw [gX];rfl| x::r=>by rw [gX,Hz a r];rfl
def c9 (m:cM) (fs:I<|I a7×I aW) (a6:I<|I a7):h6:=⟨a6,gW m,m.aI,fs.map (·.2)⟩
def qt (m:cM) (fs:I<|I a7×I aW) (p:bz):bT:=⟨(p.params.length:ab),(p.a6.length:ab),ga (c9 m fs<|p.params++p.a6) p.body⟩
def q5 (m:cM) (fs:I<|I a7×I aW) (p:bz):ab:=er (if gV (p.params++p.a6)=ac then 6 else 0)<|gX (c9 m fs<|p.params++p.a6) p.body
def ff (m:cM) (fs:I<|I a7×I aW):cD:=⟨m.nm,m.aI,od m,m.procs.map<|qt m fs,ga (c9 m fs []) m.main⟩
def oj (m:cM) (fs:I<|I a7×I aW):ab:=er (iS (q5 m fs) m.procs)<|gX (c9 m fs []) m.main
def g0:I (I a7)->I (I a7×I aW)->aQ| u::us,f::fs=>((ee f.1 f.2==0)&&(f.1==u))&&g0 us fs| _,_=>ac
def jq (m:cM) (fs:I<|I a7×I aW):cD×ab:= if (fk m).2≠0 then (lw,(fk m).2) else if fs.length≠m.aI.length then (lw,8) else if g0 m.aI fs=au then (lw,1) else if oj m fs≠0 then (lw,oj m fs) else (ff m fs,0)
def cf (l:I aW) (s:Z):I<|fe<|I a7:=match l with| []=>[]| x::r=>(x.name,bU x.cells.toArray,s)::cf r (s+1)
def i3 (l:I<|I a7) (s:Z):I<|fe<|I a7:=match l with| []=>[]| x::r=>(x,an am ((s+1:Z):ab),s)::i3 r (s+1)
def HA:∀(l:I<|I a7) (s:Z),(i3 l s).length=l.length| [],_=>rfl| x::r,s=>by rw [i3,eL,HA r,eL]
def MU:∀(l:I aW) (x:aW) (s:Z),cf (l++[x]) s=cf l s++[(x.name,bU x.cells.toArray,s+l.length)]| [],x,s=>rfl| y::r,x,s=>by rw [hx,cf,MU r x,cf,hx,eL,show s+1+r.length=s+(r.length+1) by omega]
def MV:∀(l:I<|I a7) (x:I a7) (s:Z),i3 (l++[x]) s=i3 l s++[(x,an am ((s+l.length+1:Z):ab),s+l.length)]| [],x,s=>rfl| y::r,x,s=>by rw [hx,i3,MV r x,i3,hx,eL,show s+1+r.length=s+(r.length+1) by omega]
def HB (nm:I a7):∀(l:I aW) (s i:Z),(dU nm (cf l s) i).map (·.2)=(iQ nm l).map λx=>bU x.cells.toArray
 | [],_,_=>rfl
 | x::r,s,i=>by
  rw [cf,dU,iQ];by_cases h:x.name=nm;·simp [h]
  ·rw [ao (by simpa using λe=>h e.symm),ao h];exact HB nm r (s+1)<|i+1
def HC (nm:I a7):∀(l:I<|I a7) (s i:Z),(dU nm (i3 l s) i).map (·.2)=(idxOf nm l s).map λk=>an am ((k+1:Z):ab)
 | [],_,_=>rfl
 | x::r,s,i=>by
  rw [i3,dU,idxOf];by_cases h:x=nm;·simp [h]
  ·rw [ao (by simpa using λe=>h e.symm),ao h];exact HC nm r (s+1)<|i+1
def MW (nm:I a7) (l:I aW) (a:aT):hj nm (cf l 0) a=(match iQ nm l with| aa x=>bU x.cells.toArray| ak=>a)/\qj nm (cf l 0)=(iQ nm l).isSome:=by
 have h:=HB nm l 0 0;unfold hj qj;cases b:dU nm (cf l 0) 0 with
 | none=>rw [b] at h;cases hi:iQ nm l with| none=>exact ⟨rfl,rfl⟩| some x=>rw [hi] at h;cases h
 | some r=>rw [b] at h;cases hi:iQ nm l with| none=>rw [hi] at h;cases h| some x=>rw [hi] at h;simp at h;exact ⟨by simp [h],rfl⟩
def MX (nm:I a7) (l:I<|I a7):hj nm (i3 l 0) (an am 0) = an am (match idxOf nm l 0 with| aa k=>((k+1:Z):ab)| ak=>0):=by
 have h:=HC nm l 0 0;unfold hj;cases a:dU nm (i3 l 0) 0 with
 | none=>rw [a] at h;cases hi:idxOf nm l 0 with| none=>rfl| some x=>rw [hi] at h;cases h
 | some r=>rw [a] at h;cases hi:idxOf nm l 0 with| none=>rw [hi] at h;cases h| some x=>rw [hi] at h;simp at h;simp [h]
variable {be:I a7}
def MY:∀{l:I aW},iQ be l=ak↔be ∉ l.map (·.name)
 | []=>by simp [iQ]
 | x::r=>by
  rw [iQ];by_cases h:x.name=be;·simp [h]
  ·rw [ao h,MY (l:=r)];simp [CS h,eq_comm,h]
def tq:∀{l:I<|I a7} {s:Z},idxOf be l s=ak↔be ∉ l
 | [],_=>by simp [idxOf]
 | x::r,s=>by
  rw [idxOf];by_cases h:x=be;·simp [h]
  ·rw [ao h,tq (l:=r)];simp only [eZ,not_or];exact ⟨λa=>⟨λe=>h e.symm,a⟩,λa=>a.2⟩
def UT {l:I aW} {x:aW} (h:x.name ∉ l.map (·.name)):bB x.name (bU x.cells.toArray) (cf l 0) l.length=cf (l++[x]) 0/\jG x.name (cf l 0) l.length=(l++[x]).length:=by
 have a:dU x.name (cf l 0) 0=ak:=by have:=HB x.name l 0 0;rw [MY.2 h] at this;simpa using this
 unfold bB jG;rw [a,MU];simp
def MZ {l:I<|I a7} {x:I a7} (h:x ∉ l):bB x (an am ((l.length+1:Z):ab)) (i3 l 0) l.length=i3 (l++[x]) 0/\jG x (i3 l 0) l.length=(l++[x]).length:=by
 have a:dU x (i3 l 0) 0=ak:=by have:=HC x l 0 0;rw [tq.2 h] at this;simpa using this
 unfold bB jG;rw [a,MV];simp
def sd:∀{l:I<|I a7} {s k:Z},idxOf be l s=aa k->s<=k/\l[k-s]? = aa be
 | [],_,_,h=>by cases h
 | x::r,s,k,h=>by
  rw [idxOf] at h;split at h;·rename_i a;injection h with h;subst h;simp [a]
  ·obtain ⟨c,b⟩:=sd h;refine ⟨aj,?_⟩;rw [show k-s=(k-(s+1))+1 by omega];simpa using b
variable {eu:I a7}
def HD:∀{us:I<|I a7} {fs:I<|I aW} {s:Z},be ∉ us->mj be eu us fs s=ak| [],_,_,_=>by simp [mj]| u::us,[],_,_=>by simp [mj]| u::us,f::fs,s,h=>by rw [mj,ao<|λe=>h (by simp [e]),HD<|λa=>h<|mI _ a]
def M0:∀{us:I<|I a7} {fs:I<|I aW} {s:Z},us.Nodup->us.length=fs.length->
   mj be eu us fs s=(idxOf be us s).bind λk=>(fs[k-s]?).bind λf=>(iQ eu f).map λx=>(((k+1:Z):ab),x)
 | [],[],_,_,_=>by simp [mj,idxOf]| [],f::fs,_,_,h=>by simp at h| u::us,[],_,_,h=>by simp at h
 | u::us,f::fs,s,b,c=>by
  rw [mj,idxOf];have a:=yw.1 b;by_cases h:u=be;·rw [aU h,aU h];simp only [cF,Ay,lL];cases iQ eu f with| none=>simp only [bb];exact HD<|h▸a.1| some x=>rfl
  ·rw [ao h,ao h,M0 a.2 (by simpa using c)];cases hi:idxOf be us (s+1) with| none=>rfl| some k=>have:=(sd hi).1;simp only [cF];rw [show k-s=(k-(s+1))+1 by omega,lM]
end Go.Bw
end
section
namespace Go.Bw
open Go
structure e8 where
 q6:aQ
 data:ab
 parts:I ab
def e8.cells (k:e8) (r:az a0×Z):I aT:=[bV k.q6,an am k.data,aC r.1 k.parts.length r.2]
def hY (x:ab):I aT:=[an am x]
def kS (x:ab):(hY x).length=1:=rfl
def UU (x:ab):(hY x).all (·.oneCell')=ac:=rfl
def hn (H:View) (b o:Z) (x:ab):Prop:=ct H b o<|hY x
def qu (H:View) (b o:Z) (k:e8):Prop:=∃r:az a0×Z,ct H b o (k.cells r)/\Sl hn 1 H r.1 r.2 k.parts
def ey (u:cD):e8:=⟨ac,u.data,u.parts.map (·.params)⟩
def ol:e8:=⟨au,0,[]⟩
def om (ks:I e8) (m pl:ab):aQ:=((decide (m<0)||decide ((ks.length:ab)<=m))||decide (pl<0))||decide (512<pl)
def k6 (ks:I e8) (m pl n:ab):aQ:=if om ks m pl=ac then au else match ks[m.toNat]? with| aa k=>if k.q6=ac then decide (pl+n<=k.data) else n==1||decide (pl+n<=512)| ak=>au
def o6 (ks:I e8) (m pl:ab):aQ:=(decide (m<0)||decide ((ks.length:ab)<=m))||decide (pl<0)
def mL (ks:I e8) (m pl n:ab):aQ:=if o6 ks m pl=ac then au else match ks[m.toNat]? with| aa k=>if k.q6=ac then decide (pl<(k.parts.length:ab))&&(k.parts[pl.toNat]?).getD 0==n else decide (pl<6)&&decide (n<=3)| ak=>au
def ko (a6 pl:ab):aQ:=decide (0<=pl)&&decide (pl<a6)
def se (n:ab):aQ:=decide (1<=n)&&decide (n<=32)
variable {dM:I e8} {aP cp:ab}
def tw (n:ab) (h:om dM aP cp=ac):k6 dM aP cp n=au:=by rw [k6,aU h]
def uk (h:om dM aP cp=au):(∃a:Z,aP=a/\a<dM.length)/\0<=cp/\cp<=512:=by unfold om at h;simp only [lN,ny] at h;exact ⟨⟨aP.toNat,aj,aj⟩,aj,aj⟩
variable {ae:Z}
def vO {pl n:ab} {k:e8} (h:om dM ae pl=au) (a:dM[ae]? = aa k):k6 dM ae pl n=if k.q6=ac then decide (pl+n<=k.data) else n==1||decide (pl+n<=512):=by rw [k6,ao (by rw [h];decide),m4,a]
def HE (n:ab) (h:o6 dM aP cp=ac):mL dM aP cp n=au:=by rw [mL,aU h]
def HF (h:o6 dM aP cp=au):(∃a:Z,aP=a/\a<dM.length)/\∃p:Z,cp=p:=by unfold o6 at h;simp only [lN,ny] at h;exact ⟨⟨aP.toNat,aj,aj⟩,cp.toNat,aj⟩
def vP {pl n:ab} {k:e8} (h:o6 dM ae pl=au) (a:dM[ae]? = aa k):mL dM ae pl n=if k.q6=ac then decide (pl<(k.parts.length:ab))&&(k.parts[pl.toNat]?).getD 0==n else decide (pl<6)&&decide (n<=3):=by rw [mL,ao (by rw [h];decide),m4,a]
def node1 (ks:I e8) (a6 op n m pl:ab) (len:Z):aQ:= if op=1 then ((((m==0)&&(pl==0))&&((len:ab)==0))&&decide (0<=n))&&decide (n<=1099511627775) else if op=3 then ((n==0)&&((len:ab)==0))&&k6 ks m pl 1 else if op=4 then (se n&&((len:ab)==1))&&k6 ks m pl n else if op=5 then (n==0)&&mL ks m pl len else if op=16 then (((m==0)&&(n==0))&&((len:ab)==0))&&ko a6 pl else if op=2 then (((m==0)&&(pl==0))&&(n==0))&&((len:ab)==0) else if op=6 then (((m==0)&&(pl==0))&&(n==0))&&((len:ab)==1) else if 7<=op/\op<=15 then (((m==0)&&(pl==0))&&(n==0))&&((len:ab)==2) else au
def h7 (ks:I e8) (a6 op n m pl:ab) (na b a:Z):aQ:= if op=1 then (((((b:ab)+a==0)&&((na:ab)==1))&&(n==0))&&(((m==-1)&&ko a6 pl)||k6 ks m pl 1)) else if op=2 then (((((b:ab)+a==0)&&((na:ab)==2))&&se n)&&k6 ks m pl n) else if op=3 then ((((b:ab)+a==0)&&(n==0))&&mL ks m pl na) else if op=4 then (((m==0)&&(pl==0))&&(n==0))&&((na:ab)==1) else if op=5 then ((((m==0)&&(pl==0))&&(n==0))&&((na:ab)==1))&&((a:ab)==0) else if op=6\/op=7 then ((((m==0)&&(pl==0))&&(n==0))&&((b:ab)+a==0))&&((na:ab)==1) else au
mutual
def lV (ks:I e8) (a6:ab):e3->Z->aQ| .mk op n m pl args,d=>decide (d<=6)&&(node1 ks a6 op n m pl args.length&&iT ks a6 args (d+1))
def iT (ks:I e8) (a6:ab):I e3->Z->aQ| [],_=>ac| x::r,d=>lV ks a6 x d&&iT ks a6 r d
end
def HG (ks:I e8) (a6:ab) (x:e3) (d:Z):lV ks a6 x d=(decide (d<=6)&&(node1 ks a6 x.op x.n x.m x.pl x.args.length&&iT ks a6 x.args (d+1))):=by cases x;rw [lV];rfl
def Bb (ks:I e8) (a6:ab) (d:Z):∀l,iT ks a6 l d=l.all (lV ks a6 · d)| []=>by rw [iT];rfl| x::r=>by rw [iT,Bb ks a6 d r];rfl
def sf (op:ab):aQ:=(op==4)||(op==5)
mutual
def mm (ks:I e8) (a6:ab):ep->Z->aQ| .mk op n m pl args body other,d=>h7 ks a6 op n m pl args.length body.length other.length&&(iT ks a6 args 1&&((!(sf op)||(decide (d+1<=6)&&(decide (body.length<=10)&&je ks a6 body (d+1))))&&(!(decide<|0<other.length)||(decide (d+1<=6)&&(decide (other.length<=10)&&je ks a6 other (d+1))))))
def je (ks:I e8) (a6:ab):I ep->Z->aQ| [],_=>ac| x::r,d=>mm ks a6 x d&&je ks a6 r d
end
def h8 (ks:I e8) (a6:ab) (l:I ep) (d:Z):aQ:=decide (d<=6)&&(decide (l.length<=10)&&je ks a6 l d)
def HH (ks:I e8) (a6:ab) (x:ep) (d:Z):mm ks a6 x d=(h7 ks a6 x.op x.n x.m x.pl x.args.length x.body.length x.other.length&&(iT ks a6 x.args 1&&((!(sf x.op)||h8 ks a6 x.body (d+1))&&(!(decide<|0<x.other.length)||h8 ks a6 x.other (d+1))))):=by cases x;rw [mm];rfl
def Ec (ks:I e8) (a6:ab) (d:Z):∀l,je ks a6 l d=l.all (mm ks a6 · d)| []=>by rw [je];rfl| x::r=>by rw [je,Ec ks a6 d r];rfl
def UV (ks:I e8) (a6:ab) (x:e3) (d:Z):((decide (6<(d:ab))||!(node1 ks a6 x.op x.n x.m x.pl x.args.length))||!(iT ks a6 x.args<|d+1)) = !(lV ks a6 x d):=by rw [HG,show decide (6<(d:ab)) = !(decide<|d<=6) by rw [lK];simp;omega];cases decide (d<=6)<;>cases node1 ks a6 x.op x.n x.m x.pl x.args.length<;>cases iT ks a6 x.args (d+1)<;>rfl
def UW (ks:I e8) (a6:ab) (x:ep) (d:Z):(((!(h7 ks a6 x.op x.n x.m x.pl x.args.length x.body.length x.other.length)||!(iT ks a6 x.args 1))||(((x.op==4)||(x.op==5))&&!(h8 ks a6 x.body<|d+1)))||(decide (0<(x.other.length:ab))&&!(h8 ks a6 x.other<|d+1))) = !(mm ks a6 x d):=by rw [HH,show decide (0<(x.other.length:ab))=decide (0<x.other.length) by rw [lK];simp];unfold sf;cases h7 ks a6 x.op x.n x.m x.pl x.args.length x.body.length x.other.length<;>cases iT ks a6 x.args 1<;>cases ((x.op==4)||(x.op==5))<;>cases h8 ks a6 x.body (d+1)<;>cases decide (0<x.other.length)<;>cases h8 ks a6 x.other (d+1)<;>rfl
def UX (ks:I e8) (a6:ab) (l:I ep) (d:Z):(decide (6<(d:ab))||decide (10<(l.length:ab)))=ac->h8 ks a6 l d=au:=by
 intro h;unfold h8;have b:¬(d<=6/\l.length<=10):=by simp at h;omega
 by_cases a:d<=6;·rw [Db (by omega:¬l.length<=10)];simp
 ·rw [Db a];simp
variable {gA:I ep}
def UY {d:Z} (h:(decide (6<(d:ab))||decide (10<(gA.length:ab)))=au):d<=6/\gA.length<=10:=by simp at h;omega
def M1 (ks:I e8) (a6:ab)   (h:ae<=6/\gA.length<=10):h8 ks a6 gA ae=gA.all (mm ks a6 · ae):=by unfold h8;rw [kL h.1,kL h.2,Ec];rfl
variable {bW:Type} {cg:I bW} {hg:bW}
def za {f:bW->aQ}    (h:cg[ae]? = aa hg) (a:f hg=au):cg.all f=au:=by cases b:cg.all f with| false=>rfl| true=>rw [gw.1 b hg<|dJ h] at a;cases a
def zb {f:bW->aQ}    (h:cg[ae]? = aa hg) (a:(cg.take ae).all f=ac) (b:f hg=ac):(cg.take<|ae+1).all f=ac:=by rw [hP,h,I.all_append,a];simp [b]
def mM (ks:I e8) (p:bT):aQ:=!(((decide (p.params<0)||decide (3<p.params))||decide (p.locals<0))||decide (4<p.locals))&&h8 ks (p.params+p.locals) p.body 1
def tr (nm:I a7) (us:I<|I a7):aQ:=!(gV<|nm::us)&&us.all gm
def pM (u:cD):aQ:=(((!(gm u.nm)||decide (3<(u.aI.length:ab)))||decide (u.data<0))||decide (512<u.data))||decide (6<(u.parts.length:ab))
def j1 (u:cD) (kn:I e8):aQ:=tr u.nm u.aI&&(!(pM u)&&(u.parts.all (mM<|ey u::kn)&&h8 (ey u::kn) 0 u.main 1))
def bh (l:I cD):I<|I a7:=l.map (·.nm)
def h' (l:I cD):aQ:=(kJ l.length).all λn=>((l[n]?.map (·.aI)).getD []).all λs=>((bh l).take n).contains s
def cQ:I cD->ab->aQ| [],_=>ac| u::r,room=>!(decide (u.data<0)||decide (room<u.data))&&cQ r (room-u.data)
def gB (l:I cD) (u:cD):I e8:=u.aI.map λs=>match idxOf s (bh l) 0 with| aa i=>(l[i]?.map ey).getD ol| ak=>ol
def lW (l:I cD):ab:= if (decide ((l.length:ab)<1)||decide (4<(l.length:ab)))=ac then 2 else if h' l=au then 9 else if gV (bh l)=ac then 6 else if cQ l 512=au then 1 else if (l.all λu=>j1 u<|gB l u)=ac then 0 else 1
end Go.Bw
end
section
namespace Go.Bw
open Go
def k7 (x y:I a7):aQ:=Op.bytesLess x y
def M2:∀x:I a7,k7 x x=au| []=>rfl| a::x=>by have h:=M2 x;unfold k7 at h ⊢;simp only [Op.bytesLess,h,aQ.and_false,Az];simp
def D6 (a b:a7) (x y:I a7):k7 (a::x) (b::y)=(decide (a<b)||((a==b)&&k7 x y)):=rfl
def M3:∀x y:I a7,x≠y->k7 x y=ac\/k7 y x=ac
 | [],[],h=>absurd rfl h| [],b::y,_=>bA rfl| a::x,[],_=>bl rfl
 | a::x,b::y,h=>by
  rw [D6,D6];by_cases e:a=b;·subst e;have:=M3 x y<|λe=>h (by rw [e]);simpa using this
  ·rcases Z.lt_or_gt_of_ne (λd=>e<|K0.1 d) with c | c;·left;simp [Gl,c]
   ·right;simp [Gl,c]
def HJ:∀x y f:I a7,k7 x y=ac->k7 y f=ac->k7 x f=ac
 | [],[],_,h,_=>by cases h| [],_::_,[],_,h=>by cases h| [],_::_,_::_,_,_=>rfl| _::_,[],_,h,_=>by cases h| _::_,_::_,[],_,h=>by cases h
 | a::x,b::y,c::f,e,d=>by
  rw [D6] at e d ⊢;simp only [s0,eW,mb,j8,Gl] at e d ⊢;rcases e with e | ⟨rfl,e⟩
  ·rcases d with d | ⟨rfl,d⟩;·exact bA aj
   ·exact bA e
  ·rcases d with d | ⟨rfl,d⟩;·exact bA d
   ·exact bl ⟨O,HJ x y f e d⟩
def UZ {x y:I a7} (h:k7 x y=ac):k7 y x=au:=by rw [ug];intro a;have:=HJ x y x h a;rw [M2] at this;cases this
def jf (l:I cM):I<|I a7:=l.map (·.nm)
def ky (l:I cM) (s:I a7):az Z:=idxOf s (jf l) 0
def iU (l:I cM) (i:Z):I a7:=(l[i]?.map (·.nm)).getD []
def g9 (l:I cM) (i:Z):I<|I a7:=(l[i]?.map (·.aI)).getD []
def Bc (l:I cM):aQ:=l.all λm=>m.aI.all λs=>(ky l s).isSome
def mN (l:I cM):ab:=if 4<l.length then 2 else er (iS hI l) (if gV (jf l)=ac then 6 else if Bc l=ac then 0 else 5)
structure uC (l:I cM):Prop where
 gu:l.length<=4
 kq:∀m ∈ l,hI m=0
 nd:(jf l).Nodup
 aI:∀m ∈ l,∀s ∈ m.aI,∃j,ky l s=aa j
variable {bW:Type}
def sh {f:bW->ab}:∀{l:I bW},iS f l=0↔∀x ∈ l,f x=0| []=>by simp [iS]| x::l=>by rw [iS,ml,sh (l:=l)];simp
variable {aD:I cM}
def HK:mN aD=0↔uC aD:=by
 unfold mN;constructor
 ·intro h;split at h;·cases h
  ·rename_i k;obtain ⟨d,a⟩:=ml.1 h;split at a;·cases a
   ·rename_i e;split at a;·rename_i f;refine ⟨aj,sh.1 d,ku.2 (by simpa using e),λm b s c=>?_⟩;have:=gw.1 (gw.1 f m b) s c;cases g:ky aD s with| none=>rw [g] at this;cases this| some j=>exact ⟨j,rfl⟩
    ·cases a
 ·intro h;rw [ao (by have:=h.gu;omega),sh.2 h.kq,nD,ao (by rw [ku.1 h.nd];decide),aU];refine gw.2 λm b=>gw.2 λs c=>?_;obtain ⟨j,i⟩:=h.aI m b s c;rw [i];rfl
variable {be:I a7} {ae:Z}
def M4 (h:ky aD be=aa ae):ae<aD.length/\iU aD ae=be:=by have a:=(sd h).2;rw [p_] at a;unfold jf at a;rw [gh] at a;obtain ⟨m,b,e⟩:=eD.1 a;exact ⟨(c_.1 b).1,by rw [iU,b];exact e⟩
variable {a8:cM}
def vQ (h:aD[ae]? = aa a8):iU aD ae=a8.nm:=by rw [iU,h];rfl
def M5 (h:aD[ae]? = aa a8):g9 aD ae=a8.aI:=by rw [g9,h];rfl
def zc (h:aD[ae]? = aa a8):(jf aD)[ae]? = aa a8.nm:=by unfold jf;rw [gh,h];rfl
def vR (l:I cM):(jf l).length=l.length:=by simp [jf]
variable {aH:Z}
def HL (b:(jf aD).Nodup)  (hi:ae<aD.length) (a:aH<aD.length) (h:iU aD ae=iU aD aH):ae=aH:=by
 have e:(jf aD)[ae]? = (jf aD)[aH]?:=by rw [zc<|dh hi,zc<|dh a,<-vQ<|dh hi,<-vQ<|dh a,h]
 exact (s9 (by rw [vR];exact hi) b).1 e
def UD (b:(jf aD).Nodup) {i:Z} (hi:i<aD.length):ky aD (iU aD i)=aa i:=by cases a:ky aD (iU aD i) with| none=>refine absurd ?_<|tq.1 a;rw [vQ<|dh hi];exact dJ<|zc<|dh hi| some j=>obtain ⟨c,d⟩:=M4 a;rw [HL b c hi d]
def mn (l:I cM) (d:I Z) (s:I a7):aQ:=match ky l s with| aa j=>d.contains j| ak=>au
def oo (l:I cM) (d:I Z) (i:Z):aQ:=!d.contains i&&(g9 l i).all (mn l d)
structure zd (l:I cM) (d:I Z) (b:Z):Prop where
 lt:b<l.length
 ready:oo l d b=ac
 least:∀i,i<l.length->oo l d i=ac->i=b\/k7 (iU l b) (iU l i)=ac
inductive k8 (l:I cM):I Z->Prop where
 | nil:k8 l []
 | snoc {d:List Nat} {b:Nat}:k8 l d->zd l d b->k8 l (d++[b])
def HM (l:I cM) (d:I Z):Prop:=∀i,i<l.length->oo l d i=au
variable {cJ:I Z}
def U1 (b:zd aD cJ ae) (c:zd aD cJ aH):ae=aH:=by
 rcases b.least aH c.lt c.ready with h | h;·exact h.symm
 ·rcases c.least ae b.lt b.ready with a | a;·exact a
  ·rw [UZ h] at a;cases a
def HN (h:k8 aD<|cJ++[ae]):k8 aD cJ/\zd aD cJ ae:=by generalize b:cJ++[ae]=e at h;cases h with| nil=>simp at b| snoc c d=>obtain ⟨rfl,a⟩:=I.append_inj' b rfl;injection a with a;subst a;exact ⟨c,d⟩
def U2:∀{d:I Z},k8 aD d->∀k,k8 aD (d.take k):=by
 intro d h;induction h with
 | nil=>intro k;simp;exact .nil
 | @snoc d b c e f=>
  intro k;rcases m2 d.length k with a | a;·rw [i' (by simp;omega)];exact .snoc c e
  ·rw [Gh a];exact f k
def HO:∀{n:Z} {d e:I Z},d.length=n->e.length=n->k8 aD d->k8 aD e->d=e| 0,d,e,c,f,_,_=>by rw [r5 c,r5 f]| n+1,d,e,c,f,i,he=>by obtain ⟨g,a,rfl⟩:∃g a,d=g++[a]:=⟨d.dropLast,d.getLast (by intro h;rw [h] at c;cases c),(K1 _).symm⟩;obtain ⟨o,b,rfl⟩:∃g a,e=g++[a]:=⟨e.dropLast,e.getLast (by intro h;rw [h] at f;cases f),(K1 _).symm⟩;obtain ⟨j,k⟩:=HN i;obtain ⟨l,m⟩:=HN he;have:=HO (n:=n) (by simpa using c) (by simpa using f) j l;subst this;rw [U1 k m]
variable {o7:I Z}
def HP (c:k8 aD cJ) (d:HM aD cJ) (e:k8 aD o7):o7.length<=cJ.length:=by
 rcases m2 cJ.length o7.length with h | h
 ·have b:=U2 e<|cJ.length+1;have f:o7.take (cJ.length+1)=o7.take cJ.length++[o7[cJ.length]]:=by rw [hP,dh h];rfl
  rw [f] at b;obtain ⟨g,a⟩:=HN b;have i:=HO (n:=cJ.length) rfl (by simp;omega) c g;rw [<-i] at a;have:=a.ready;rw [d _ a.lt] at this;cases this
 ·exact h
def ux (l:I cM) (d:I Z):Prop:=k8 l d/\(d.length=l.length\/HM l d)
def tt {d:I Z} (h:k8 aD d):(∀i ∈ d,i<aD.length)/\d.Nodup:=by
 induction h with
 | nil=>simp
 | @snoc d b k c f=>
  refine ⟨λi hi=>?_,?_⟩
  ·rcases bm.1 hi with hi | hi;·exact f.1 i hi
   ·rw [fq] at hi;subst hi;exact c.lt
  ·rw [lJ];refine ⟨f.2,aG,λa j l g=>?_⟩;rw [fq] at g;subst g;intro e;subst e;have:=c.ready;simp [oo,j] at this
def Bd:∀{n:Z} {d:I Z},d.Nodup->(∀i ∈ d,i<n)->d.length<=n
 | 0,[],_,_=>eC _| 0,x::_,_,h=>absurd (h x aG) aj
 | n+1,d,a,f=>by
  have b:(d.erase n).length<=n:=Bd (a.erase n) λi hi=>by have c:=(a.mem_erase_iff).1 hi;have:=f i c.2;have:=c.1;omega
  by_cases e:n ∈ d;·rw [I.length_erase_of_mem e] at b;omega
  ·rw [I.erase_of_not_mem e] at b;omega
def M6 (b:ux aD cJ) (a:ux aD o7):cJ=o7:=by
 have e:=Bd (tt b.1).2 (tt b.1).1;have le:=Bd (tt a.1).2 (tt a.1).1;have h:cJ.length=o7.length:=by
  rcases b.2 with d | d
  ·rcases a.2 with c | c;·omega
   ·have:=HP a.1 c b.1;omega
  ·have f:=HP b.1 d a.1;rcases a.2 with c | c;·omega
   ·have:=HP a.1 c b.1;omega
 exact HO (n:=cJ.length) O h.symm b.1 a.1
def ze (l:I cM) (d:I Z):I Z×ab:=if d.length=l.length then (d,0) else ([],9)
def lX (l:I cM) (s:I a7):I<|I a7:=match ky l s with| aa i=>g9 l i| ak=>[]
inductive Reach (l:I cM) (a:I a7):I a7->Prop where
 | base {s:List UInt8}:s ∈ lX l a->Reach l a s
 | step {b s:List UInt8}:Reach l a b->s ∈ lX l b->Reach l a s
structure HQ (l:I cM) (a:I a7) (S:I a7->Prop):Prop where
 base:∀s ∈ lX l a,S s
 step:∀b,S b->∀s ∈ lX l b,S s
 sound:∀s,S s->Reach l a s
def HQ.iff {S:I a7->Prop} (h:HQ aD be S) (s:I a7):S s↔Reach aD be s:= ⟨h.sound s,λb=>by induction b with| base a=>exact h.base _ a| step _ a c=>exact h.step _ c _ a⟩
def iV (l:I<|I a7) (s:Z):I<|fe<|I a7:=match l with| []=>[]| x::r=>(x,an am (s:ab),s)::iV r (s+1)
def HR:∀(l:I<|I a7) (s:Z),(iV l s).length=l.length| [],_=>rfl| x::r,s=>by rw [iV,eL,HR r,eL]
def D7:∀(l:I<|I a7) (x:I a7) (s:Z),iV (l++[x]) s=iV l s++[(x,an am ((s+l.length:Z):ab),s+l.length)]| [],x,s=>rfl| y::r,x,s=>by rw [hx,iV,D7 r x,iV,hx,eL,show s+1+r.length=s+(r.length+1) by omega]
def Ee (nm:I a7):∀(l:I<|I a7) (s i:Z),(dU nm (iV l s) i).map (·.2)=(idxOf nm l s).map λk=>an am (k:ab)
 | [],_,_=>rfl
 | x::r,s,i=>by
  rw [iV,dU,idxOf];by_cases h:x=nm;·simp [h]
  ·rw [ao (by simpa using λe=>h e.symm),ao h];exact Ee nm r (s+1)<|i+1
def zf (nm:I a7) (l:I<|I a7):hj nm (iV l 0) (an am 0) = an am (((idxOf nm l 0).getD 0:Z):ab)/\qj nm (iV l 0)=(idxOf nm l 0).isSome:=by
 have h:=Ee nm l 0 0;unfold hj qj;cases a:dU nm (iV l 0) 0 with
 | none=>rw [a] at h;cases hi:idxOf nm l 0 with| none=>exact ⟨rfl,rfl⟩| some x=>rw [hi] at h;cases h
 | some r=>rw [a] at h;cases hi:idxOf nm l 0 with| none=>rw [hi] at h;cases h| some x=>rw [hi] at h;simp at h;exact ⟨by simp [h],rfl⟩
def HT [BEq bW] (k:bW) (v:aT) (m:I<|fe bW) (c:Z):(bB k v m c).length<=m.length+1:=by unfold bB;split<;>simp
def HU (ns:I<|I a7) (i:Z) (M:I<|fe<|I a7) (c:Z):Prop:=((ns.take i).Nodup/\M=iV (ns.take i) 0/\c=i)\/(¬(ns.take i).Nodup/\M.length<i)
def U3 {ns:I<|I a7} {i:Z} {M:I<|fe<|I a7}   (h:HU ns i M ae) (m:ns[i]? = aa be):HU ns (i+1) (bB be (an am (i:ab)) M ae)<|jG be M ae:=by
 have u:=(c_.1 m).1;have n:(ns.take i).length=i:=by simp;omega
 have g:ns.take (i+1)=ns.take i++[be]:=by rw [hP,m];rfl
 rcases h with ⟨l,rfl,q⟩ | ⟨l,v⟩
 ·have s:=q.symm;subst s;have d:=Ee be (ns.take i) 0 0;by_cases j:be ∈ ns.take i
  ·right;refine ⟨λf=>?_,?_⟩;·rw [g,lJ] at f;exact f.2.2 be j be aG O
   ·have o:(dU be (iV (ns.take i) 0) 0).isSome=ac:=by
     cases c:dU be (iV (ns.take i) 0) 0 with
     | some r=>rfl
     | none=>
      rw [c] at d;have:idxOf be (ns.take i) 0=ak:=by cases hi:idxOf be (ns.take i) 0 with| none=>rfl| some k=>rw [hi] at d;cases d
      exact absurd j<|tq.1 this
    unfold bB;cases c:dU be (iV (ns.take i) 0) 0 with| none=>rw [c] at o;cases o| some r=>simp [HR,n]
  ·left;have c:dU be (iV (ns.take i) 0) 0=ak:=by rw [tq.2 j] at d;simpa using d
   refine ⟨?_,?_,?_⟩;·rw [g,lJ];exact ⟨l,aG,λa t b p e=>by rw [fq] at p;subst p;subst e;exact j t⟩
   ·unfold bB;rw [c,g,D7,n];simp
   ·unfold jG;rw [c]
 ·right;refine ⟨λf=>l ?_,?_⟩;·rw [g,lJ] at f;exact f.1
  ·have:=HT be (an am (i:ab)) M ae;omega
end Go.Bw
end
section
namespace Go.Bw
open Go
def si (l:I cM) (a b:Z):Prop:=k7 (iU l a) (iU l b)=ac
def pN {α:Type} (R:α->α->Prop) (d:I α) (i:Z):Prop:=∀(x y:Z) (a b:α),x<y->y<i->d[x]? = aa a->d[y]? = aa b->R a b
structure xq {α:Type} (R:α->α->Prop) (d0 d:I α) (i j:Z):Prop where
 perm:d.Perm d0
 ji:j<=i
 il:i<d.length
 ord:∀(x y:Z) (a b:α),x<y->y<=i->x≠j->y≠j->d[x]? = aa a->d[y]? = aa b->R a b
 up:∀(y:Z) (a b:α),j<y->y<=i->d[j]? = aa a->d[y]? = aa b->R a b
variable {bW:Type} {xr:bW->bW->Prop} {cg q7:I bW} {ae:Z}
def U4 (c:q7.Perm cg) (hi:ae<q7.length) (h:pN xr q7 ae):xq xr cg q7 ae ae:= ⟨c,eC _,hi,λx y a b d j e f g i=>h x y a b d aj g i,λy a b e f=>by omega⟩
def U5 {a b:bW} (d:cg[ae]? = aa b) (f:cg[ae+1]? = aa a):cg=cg.take ae++b::a::cg.drop (ae+2)/\(cg.set (ae+1) b).set ae a=cg.take ae++a::b::cg.drop (ae+2):=by
 obtain ⟨g,h⟩:=c_.1 d;obtain ⟨i,j⟩:=c_.1 f
 have e:cg=cg.take ae++b::a::cg.drop (ae+2):=by
   conv=>lhs; rw [<-qb ae cg,nZ g,h,nZ i,j]
 refine ⟨e,?_⟩
 have c:(cg.take ae).length=ae:=by simp; omega
 conv=>lhs; rw [e]
 rw [CZ _ _ aj,c,show ae+1-ae=1 by omega,CZ _ _ aj,c,Ay]
 rfl
def U6 {i j:Z} {a b:bW} (h:xq xr cg q7 i<|j+1) (o:q7[j+1]? = aa a) (k:q7[j]? = aa b) (q:xr a b):xq xr cg ((q7.set (j+1) b).set j a) i j:=by
 obtain ⟨r,s⟩:=U5 k o;have z:=h.ji;have t:=h.il
 have g:∀x,((q7.set (j+1) b).set j a)[x]? = if x=j then aa a else if x=j+1 then aa b else q7[x]?:=by
   intro x;rw [yx,yx];simp only [Gm]
   by_cases d:x=j
   · subst d; rw [aU rfl,aU aj,aU rfl]
   · rw [ao<|λe=>d e.symm,ao d]
     by_cases l:x=j+1
     · subst l; rw [aU rfl,aU aj,aU rfl]
     · rw [ao<|λe=>l e.symm,ao l]
 refine ⟨?_,aj,by simpa using t,?_,?_⟩
 · rw [s]
   refine I.Perm.trans ?_ h.perm
   conv=>rhs; rw [r]
   exact I.Perm.append_left _<|I.Perm.swap _ _ _
 · intro x y u v w f p m c hv
   rw [g,ao p] at c;rw [g,ao m] at hv
   by_cases d:x=j+1
   · rw [aU d] at c
     injection c with c; subst c
     rw [ao aj] at hv;exact h.ord j y b v aj f aj aj k hv
   · rw [ao d] at c
     by_cases n:y=j+1
     · rw [aU n] at hv
       injection hv with hv; subst hv
       exact h.ord x j u b aj aj d aj c k
     · rw [ao n] at hv
       exact h.ord x y u v w f d n c hv
 · intro y u v p m c hv
   rw [g,aU rfl] at c
   injection c with c; subst c
   rw [g,ao aj] at hv
   by_cases f:y=j+1
   · rw [aU f] at hv
     injection hv with hv; subst hv
     exact q
   · rw [ao f] at hv
     exact h.up y a v aj m o hv
def U7 (h:xq xr cg q7 ae 0):pN xr q7<|ae+1:=by
 intro x y a b c g d e;by_cases f:x=0;·subst f;exact h.up y a b c aj d e
 ·exact h.ord x y a b c aj f aj d e
def U8 {R:bW->bW->Prop} (n:∀a b c,R a b->R b c->R a c) {d0 d:I bW} {i j:Z} {a b:bW} (h:xq R d0 d i<|j+1) (o:d[j+1]? = aa a) (g:d[j]? = aa b) (k:R b a):pN R d<|i+1:=by
 intro x y u v l q e hv;by_cases f:x=j+1;·subst f;exact h.up y u v l aj e hv
 ·by_cases m:y=j+1
  ·subst m;rw [o] at hv;injection hv with hv;subst hv;by_cases p:x=j;·subst p;rw [g] at e;injection e with e;subst e;exact k
   ·exact n u b a (h.ord x j u b aj (by have:=h.ji;omega) f aj e g) k
  ·exact h.ord x y u v l aj f m e hv
def sj (a b:I a7):ab:=if k7 a b=ac then -1 else if (!(k7 a b||a==b))=ac then 1 else 0
def M8 {a b:I a7}:sj a b<0↔k7 a b=ac:=by
 unfold sj;by_cases h:k7 a b=ac;·simp [h]
 ·rw [ao h];constructor;·intro c;split at c<;>omega
  ·intro c;exact absurd c h
def nb (d:I Z) (s:Z):I<|fe ab:=match d with| []=>[]| i::r=>((i:ab),an am 1,s)::nb r (s+1)
def M9:∀(d:I Z) (i s:Z),nb (d++[i]) s=nb d s++[((i:ab),an am 1,s+d.length)]| [],i,s=>rfl| y::r,i,s=>by rw [hx,nb,M9 r i,nb,hx,eL,show s+1+r.length=s+(r.length+1) by omega]
def HW (i:Z):∀(d:I Z) (s k:Z),(dU (i:ab) (nb d s) k).map (·.2)=if d.contains i=ac then aa (an am 1) else ak
 | [],_,_=>rfl
 | x::r,s,k=>by
  rw [nb,dU];by_cases h:i=x;·subst h;simp
  ·rw [ao (by simpa using λe:(i:ab)=(x:ab)=>h aj),HW i r (s+1)<|k+1];simp [h]
def HX (i:Z) (d:I Z):hj (i:ab) (nb d 0) (an am 0) = an am (if d.contains i=ac then 1 else 0):=by have h:=HW i d 0 0;unfold hj;cases a:dU (i:ab) (nb d 0) 0 with| none=>rw [a] at h;split at h<;>simp_all| some r=>rw [a] at h;split at h<;>simp_all
variable {cJ:I Z}
def M' {i:Z}  (h:cJ.contains i=au):bB (i:ab) (an am 1) (nb cJ 0) cJ.length=nb (cJ++[i]) 0/\jG (i:ab) (nb cJ 0) cJ.length=(cJ++[i]).length:=by
 have a:=HW i cJ 0 0;rw [h,ao a'] at a;have a:dU (i:ab) (nb cJ 0) 0=ak:=by simpa using a
 unfold bB jG;rw [a,M9];simp
variable {aD:I cM} {o7:I Z}
def U9 {k b:Z} (e:cJ.Perm<|kJ aD.length) (g:pN (si aD) cJ cJ.length) (d:cJ[k]? = aa b) (j:oo aD o7 b=ac) (l:∀x c,x<k->cJ[x]? = aa c->oo aD o7 c=au):zd aD o7 b:=by
 refine ⟨by simpa using e.subset (dJ d),j,λi hi f=>?_⟩;have m:i ∈ cJ:=e.symm.subset (by simpa using hi);obtain ⟨y,a⟩:=ls m;have n:=(c_.1 a).1;rcases KY y k with h | h | h;·rw [l y i h a] at f;cases f
 ·subst h;rw [d] at a;injection a with a;exact bA a.symm
 ·exact bl<|g k y b i h n d a
def U' (a:cJ.Perm<|kJ aD.length) (b:∀x c:Z,cJ[x]? = aa c->oo aD o7 c=au):HM aD o7:=λi hi=>by have d:i ∈ cJ:=a.symm.subset (by simpa using hi);obtain ⟨y,e⟩:=ls d;exact b y i e
end Go.Bw
end
section
namespace Go.Bw
open Go Go.RowKit Go.Maps Go.Sort
open Go.WideElems (Fit rd rg pl rd_val rd_mk rg_of)
structure afD (M:I<|fe<|I a7) (c:Z):Prop where
 nd:(M.map (·.1)).Nodup
 len:∀e ∈ M,e.1.length<=maxLen
 size:M.length<=maxLen
 born:M.map (·.2.2)=kJ M.length
 clock:c=M.length
end Go.Bw
end
section
namespace Go.Bw
open Go
section
variable {κ:Type} [BEq κ] [LawfulBEq κ]
def Ef (k:κ):∀(m:I<|fe κ) (i j:Z) (v:aT),dU k m i=aa (j,v)->i<=j/\∃b,m[j-i]? = aa (k,v,b)
 | [],i,j,v,h=>by simp [dU] at h
 | e::r,i,j,v,h=>by
  simp only [dU] at h;split at h;·rename_i d;have f:e.1=k:=(eq_of_beq d).symm;injection h with h;injection h with c a;subst c a;exact ⟨eC _,e.2.2,by rw [Ay,lL,<-f]⟩
  ·obtain ⟨c,b,a⟩:=Ef k r (i+1) j v h;refine ⟨aj,b,?_⟩;rw [show j-i=(j-(i+1))+1 by omega,lM];exact a
def M_ (k:κ):∀(m:I<|fe κ) (i:Z),dU k m i=ak↔k ∉ m.map (·.1)
 | [],i=>by simp [dU]
 | e::r,i=>by
  simp only [dU,l_,eZ,not_or];split;·rename_i a;have b:e.1=k:=(eq_of_beq a).symm;exact ⟨λh=>(by cases h),λh=>absurd b.symm h.1⟩
  ·rename_i a;have b:¬k=e.1:=λc=>a (by simp [c]);rw [M_ k r<|i+1];exact ⟨λh=>⟨b,h⟩,λh=>h.2⟩
def U_ (k:κ) (v:aT) (m:I<|fe κ) (c:Z):((k ∈ m.map (·.1))/\(bB k v m c).map (·.1)=m.map (·.1)/\(bB k v m c).map (·.2.2)=m.map (·.2.2)/\jG k m c=c)\/ (k ∉ m.map (·.1)/\bB k v m c=m++[(k,v,c)]/\jG k m c=c+1):=by
 unfold bB jG;cases d:dU k m 0 with
 | none=>exact bl ⟨(M_ k m 0).1 d,rfl,rfl⟩
 | some r=>
  obtain ⟨j,u⟩:=r;obtain ⟨_,b,a⟩:=Ef k m 0 j u d;rw [p_] at a;refine bA ⟨py.2 ⟨_,dJ a,O⟩,?_,?_,O⟩;all_goals
   apply r3;intro i;simp only [gh,yt];by_cases e:j=i;·subst e;rw [a];simp
   ·simp [e]
def xt (k:κ) (v:aT) (m:I<|fe κ) (c:Z) (g:aT):hj k (bB k v m c) g=v:=by
 have key:∃e,dU k (bB k v m c) 0=aa (e,v):=by
  unfold bB;cases f:dU k m 0 with
  | none=>
   have a:∀(m:I<|fe κ) (i:Z),dU k m i=ak->dU k (m++[(k,v,c)]) i=aa (i+m.length,v):=by
    intro m;induction m with
    | nil=>intro i _;simp [dU]
    | cons e r d=>
     intro i h;simp only [dU,hx] at h ⊢;split at h;·cases h
     ·rename_i b;rw [ao b,d _ h,eL];congr 2;omega
   exact ⟨_,a m 0 f⟩
  | some r=>
   obtain ⟨j,u⟩:=r;have a:∀(m:I<|fe κ) (i:Z),dU k m i=aa (j,u)->dU k (m.modify (j-i) λe=>(k,v,e.2.2)) i=aa (j,v):=by
    intro m;induction m with
    | nil=>intro i h;simp [dU] at h
    | cons e r d=>
     intro i h;simp only [dU] at h;split at h;·injection h with h;injection h with a l;subst a;rw [Ay];simp [dU]
     ·rename_i b;have n:=(Ef k r (i+1) j u h).1;rw [show j-i=(j-(i+1))+1 by omega,K2,dU,ao b];exact d _ h
   exact ⟨_,a m 0 f⟩
 obtain ⟨e,b⟩:=key;unfold hj;rw [b]
end
structure HY (M:I<|fe<|I a7) (c p:Z):Prop where
 nd:(M.map (·.1)).Nodup
 born:M.map (·.2.2)=kJ M.length
 clock:c=M.length
 Va:∀x v,hj x M (an am 0)=v->∃n:Z,n<=p/\v = an am (n:ab)/\(n=0↔x ∉ M.map (·.1))
def Be {κ:Type} [BEq κ] [LawfulBEq κ] {k a:κ} (v:aT) (m:I<|fe κ) (c:Z) (n:aT) (h:a≠k):hj a (bB k v m c) n=hj a m n:=by
 have p:∀(m:I<|fe κ) (i:Z),(dU a (m++[(k,v,c)]) i).map (·.2)=(dU a m i).map (·.2):=by intro m;induction m with| nil=>intro i;simp [dU,h]| cons e r l=>intro i;simp only [dU,hx];split<;>simp [l]
 have s:∀(m:I<|fe κ) (i j:Z),(m[j]?.map (·.1)=aa k)->(dU a (m.modify j λe=>(k,v,e.2.2)) i).map (·.2)=(dU a m i).map (·.2):=by
  intro m;induction m with
  | nil=>intro i j g;simp at g
  | cons e r l=>
   intro i j g;cases j with
   | zero=>
    have t:e.1=k:=by simpa using g
    have w:¬(a==e.1)=ac:=by rw [t];simpa using h
    have x:¬(a==k)=ac:=by simpa using h
    rw [I.modify_zero_cons,dU,dU,ao w,ao<|show ¬(a==(k,v,e.2.2).1)=ac from x]
   | succ j=>
    rw [K2,dU,dU];split;·rfl
    ·exact l _ _ (by simpa using g)
 have d:(dU a (bB k v m c) 0).map (·.2)=(dU a m 0).map (·.2):=by unfold bB;cases y:dU k m 0 with| none=>exact p m 0| some r=>obtain ⟨j,u⟩:=r;obtain ⟨_,b,f⟩:=Ef k m 0 j u y;rw [p_] at f;exact s m 0 j (by rw [f];rfl)
 unfold hj;cases o:dU a (bB k v m c) 0 with
 | none=>rw [o] at d;cases f:dU a m 0 with| none=>rfl| some r=>rw [f] at d;cases d
 | some q=>rw [o] at d;cases f:dU a m 0 with| none=>rw [f] at d;cases d| some r=>rw [f] at d;simp at d;simp [d]
variable {be:I a7}
def HY.put {M:I<|fe<|I a7} {c p n:Z}  (h:HY M c p) (w:n<=p) (j:n=0↔be ∉ M.map (·.1)) : HY (bB be (an am ((n+1:Z):ab)) M c) (jG be M c) (p+1)/\(bB be (an am ((n+1:Z):ab)) M c).map (·.1)=(if n=0 then M.map (·.1)++[be] else M.map (·.1)):=by
 have i:∀y v,hj y (bB be (an am ((n+1:Z):ab)) M c) (an am 0)=v->∃k:Z,k<=p+1/\v = an am (k:ab)/\(k=0↔y ∉ (if n=0 then M.map (·.1)++[be] else M.map (·.1))):=by
  intro y v hv;by_cases l:y=be
  ·subst l;rw [xt] at hv;refine ⟨n+1,aj,hv.symm,?_⟩;split;·simp
   ·rename_i m;exact ⟨λh=>by omega,λd=>absurd (j.2 d) m⟩
  ·rw [Be _ _ _ _ l] at hv;obtain ⟨k,f,d,g⟩:=h.Va y v hv;refine ⟨k,aj,d,g.trans ?_⟩;split;·simp [l]
   ·rfl
 rcases U_ be (an am ((n+1:Z):ab)) M c with ⟨f,d,g,s⟩ | ⟨f,d,g⟩
 ·have m:¬n=0:=λe=>j.1 e f;rw [ao m] at i ⊢;have q:(bB be (an am ((n+1:Z):ab)) M c).length=M.length:=by have:=congrArg dV d;simpa using this
  exact ⟨⟨by rw [d];exact h.nd,by rw [g,q];exact h.born,by rw [s,q];exact h.clock,λy v hv=>by rw [d];exact i y v hv⟩,d⟩
 ·have t:n=0:=j.2 f;rw [aU t] at i ⊢;have o:(bB be (an am ((n+1:Z):ab)) M c).map (·.1)=M.map (·.1)++[be]:=by rw [d];simp
  refine ⟨⟨?_,?_,?_,λy v hv=>by rw [o];exact i y v hv⟩,o⟩;·rw [o,lJ];exact ⟨h.nd,aG,λa u b r e=>by rw [fq] at r;subst r;subst e;exact f u⟩
  ·rw [d,nY,h.born,e_,n_,C0,h.clock];rfl
  ·rw [g,d,h.clock];simp
structure vT (l:I cM) (nm:I a7) (ds nx:I<|I a7):Prop where
 base:∀s ∈ lX l nm,s ∈ ds\/s ∈ nx
 step:∀b ∈ ds,∀s ∈ lX l b,s ∈ ds\/s ∈ nx
 sound:∀s,s ∈ ds\/s ∈ nx->Reach l nm s
variable {aD:I cM} {eu:I a7} {db vU:I<|I a7}
def vT.old (h:vT aD be db<|eu::vU) (c:eu ∈ db):vT aD be db vU:=by
 have key:∀s,s ∈ db\/s ∈ eu::vU->s ∈ db\/s ∈ vU:=λs a=>by
  rcases a with a | a;·exact bA a
  ·rcases eZ.1 a with e | a;·subst e;exact bA c
   ·exact bl a
 exact ⟨λs a=>key s<|h.base s a,λb d s a=>key s<|h.step b d s a,λs a=>h.sound s<|a.imp id<|mI _⟩
def vT.new (h:vT aD be db<|eu::vU):vT aD be (db++[eu])<|vU++lX aD eu:=by
 have key:∀s,s ∈ db\/s ∈ eu::vU->s ∈ db++[eu]\/s ∈ vU++lX aD eu:=λs a=>by
  rcases a with a | a;·exact bA<|Gn _ a
  ·rcases eZ.1 a with e | a;·subst e;exact bA aG
   ·exact bl<|Gn _ a
 refine ⟨λs a=>key s<|h.base s a,λb c s a=>?_,λs a=>?_⟩
 ·rcases bm.1 c with c | c;·exact key s<|h.step b c s a
  ·rw [fq] at c;subst c;exact bl<|cG _ a
 ·rcases a with a | a
  ·rcases bm.1 a with a | a;·exact h.sound s<|bA a
   ·rw [fq] at a;subst a;exact h.sound _<|bl aG
  ·rcases bm.1 a with a | a;·exact h.sound s<|bl<|mI _ a
   ·exact .step (h.sound eu<|bl aG) a
def vT.fin (h:vT aD be db []) (s:I a7):s ∈ db↔Reach aD be s:= HQ.iff (S:=λs=>s ∈ db) ⟨λs a=>(h.base s a).resolve_right aG,λb c s a=>(h.step b c s a).resolve_right aG,λs a=>h.sound s<|bA a⟩ s
end Go.Bw
end
section
namespace Go.Bw
open Go
def o8 (l:I<|I a7) (s:Z):I<|fe<|I a7:=match l with| []=>[]| x::r=>(x,an am 1,s)::o8 r (s+1)
def Na:∀(l:I<|I a7) (x:I a7) (s:Z),o8 (l++[x]) s=o8 l s++[(x,an am 1,s+l.length)]| [],x,s=>rfl| y::r,x,s=>by rw [hx,o8,Na r x,o8,hx,eL,show s+1+r.length=s+(r.length+1) by omega]
def H0 (nm:I a7):∀(l:I<|I a7) (s i:Z),(dU nm (o8 l s) i).map (·.2)=if l.contains nm=ac then aa (an am 1) else ak
 | [],_,_=>rfl
 | x::r,s,i=>by
  rw [o8,dU];by_cases h:x=nm;·subst h;simp
  ·rw [ao (by simpa using λe=>h e.symm),H0 nm r (s+1)<|i+1];have a:¬nm=x:=λe=>h e.symm;simp [a]
def Vb (nm:I a7) (l:I<|I a7):hj nm (o8 l 0) (an am 0) = an am (if l.contains nm=ac then 1 else 0):=by have h:=H0 nm l 0 0;unfold hj;cases a:dU nm (o8 l 0) 0 with| none=>rw [a] at h;split at h<;>simp_all| some r=>rw [a] at h;split at h<;>simp_all
variable {be:I a7} {db:I<|I a7}
def Nb (h:db.contains be=au):bB be (an am 1) (o8 db 0) db.length=o8 (db++[be]) 0/\jG be (o8 db 0) db.length=(db++[be]).length:=by
 have a:=H0 be db 0 0;rw [ao (by rw [h];decide)] at a;have b:dU be (o8 db 0) 0=ak:=by cases c:dU be (o8 db 0) 0 with| none=>rfl| some r=>rw [c] at a;cases a
 unfold bB jG;rw [b,Na];simp
structure kt (ns:I<|I a7) (i:Z) (M:I<|fe<|I a7) (c:Z):Prop where
 mem:∀s,∃v:Z,hj s M (an am 0) = an am (v:ab)/\(v=0↔s ∉ ns.take i)
 A1:((ns.take i).Nodup/\M=i3 (ns.take i) 0/\c=i)\/(¬(ns.take i).Nodup/\M.length<i)
def Vc (ns:I<|I a7):kt ns 0 [] 0:=⟨λs=>⟨0,rfl,aG⟩,bA ⟨aG,rfl,rfl⟩⟩
variable {ae aH:Z} {j2:I<|fe<|I a7}
def kt.old (h:kt db ae j2 aH) (c:db[ae]? = aa be) (d:be ∈ db.take ae):kt db (ae+1) j2 aH:=by
 have e:db.take (ae+1)=db.take ae++[be]:=by rw [hP,c];rfl
 refine ⟨λs=>?_,bl ⟨λf=>?_,?_⟩⟩
 ·obtain ⟨v,g,i⟩:=h.mem s;refine ⟨v,g,i.trans ?_⟩;rw [e,bm,fq];constructor
  ·rintro a (b | b);·exact a b
   ·subst b;exact a d
  ·exact λa b=>a<|bA b
 ·rw [e,lJ] at f;exact f.2.2 be d be aG O
 ·have j:=(c_.1 c).1;rcases h.A1 with ⟨_,rfl,_⟩ | ⟨_,a⟩;·rw [HA];simp;omega
  ·omega
def kt.new (h:kt db ae j2 aH) (g:db[ae]? = aa be) (i:be ∉ db.take ae):kt db (ae+1) (bB be (an am ((ae+1:Z):ab)) j2 aH)<|jG be j2 aH:=by
 have c:db.take (ae+1)=db.take ae++[be]:=by rw [hP,g];rfl
 have p:=(c_.1 g).1;have m:(db.take ae).length=ae:=by simp;omega
 refine ⟨λs=>?_,?_⟩
 ·by_cases e:s=be;·subst e;exact ⟨ae+1,xt s _ j2 aH _,by rw [c];simp⟩
  ·obtain ⟨v,d,n⟩:=h.mem s;refine ⟨v,by rw [Be _ j2 aH _ e];exact d,n.trans ?_⟩;rw [c];simp [e]
 ·rcases h.A1 with ⟨d,rfl,rfl⟩ | ⟨d,q⟩;·left;have f:=MZ (l:=db.take aH) (x:=be) i;rw [m] at f;refine ⟨?_,by rw [f.1,c],by rw [f.2];simp;omega⟩;rw [c,lJ];refine ⟨d,aG,λa o b j e=>?_⟩;rw [fq] at j;subst j;subst e;exact i o
  ·right;refine ⟨λk=>d ?_,?_⟩;·rw [c,lJ] at k;exact k.1
   ·have:=HT be (an am ((ae+1:Z):ab)) j2 aH;omega
def Vd {nm s:I a7}   (h:db[ae]? = aa s) (a:(nm::db.take ae).contains s=ac\/gm s=au):tr nm db=au:=by
 unfold tr;rcases a with a | a
 ·have c:gV (nm::db)=ac:=by
   have b:¬(nm::db).Nodup:=λb=>by
    have e:nm::db=(nm::db.take ae)++db.drop ae:=aG;rw [e,lJ] at b;refine b.2.2 s (by simpa using a) s ?_ O;have:db.drop ae=s::db.drop (ae+1):=by rw [nZ (c_.1 h).1,(c_.1 h).2]
    rw [this];simp
   rw [ku] at b;simpa using b
  rw [c];rfl
 ·rw [za h a];simp
def Nc (a:(be::db).Nodup) (b:db.all gm=ac):tr be db=ac:=by unfold tr;rw [ku.1 a,b];rfl
end Go.Bw
end
section
namespace Go.Bw
open Go
structure Wm where
 data:I ab
 bI:I ab
 out:I ab
 bY:Z
 calls:Z
inductive Rz (σ α:Type) where
 | ok (a:α) (s:σ)
 | ov (e:Int) (w:Wm)
def Rz.bind {b α β:Type} (r:Rz b α) (f:α->b->Rz b β):Rz b β:=match r with| .ok a s=>f a s| .ov e w=>.ov e w
structure Fm where
 loc:I ab
 val:ab
 w:Wm
structure Env where
 l:I cD
 aI:I<|I Z
 kC:I Z
 a5:Z
def Env.mod (P:Env) (u:Z) (m:ab):Z:=(((P.aI[u]?).getD [])[m.toNat]?).getD 0
def Env.at_ (P:Env) (u:Z) (m pl:ab):Z:=(P.kC[P.mod u m]?).getD 0+pl.toNat
def xu (l:I ab) (i:Z):ab:=(l[i]?).getD 0
def o' (b:aQ):ab:=if b=ac then 1 else 0
def nc (P:Env) (w:Wm):Rz Wm dT:=if w.bY=P.a5 then .ov 3 w else .ok () { w with bY:=w.bY+1 }
abbrev Ev:=I ab->Wm->Rz Wm ab
abbrev Cl:=Z->I ab->I ep->Wm->Rz Wm ab
def nF (loc:I ab):I Ev->Wm->Rz Wm (I ab)| [],w=>.ok [] w| k::r,w=>(k loc w).bind λv w=>(nF loc r w).bind λvs w=>.ok (v::vs) w
def kz (ks:I Ev) (i:Z):Ev:=(ks[i]?).getD λ_ w=>.ok 0 w
def tu (n:ab) (k:Ev) (loc:I ab) (w:Wm):Rz Wm ab:=(k loc w).bind λi w=>if (decide (i<0)||decide (n<=i))=ac then .ov 2 w else .ok i w
def q8 (P:Env) (call:Cl) (u:Z) (m pl:ab) (ks:I Ev) (loc:I ab) (w:Wm):Rz Wm ab:= match (P.l[P.mod u m]?).bind λx=>x.parts[pl.toNat]? with| aa p=>(nF loc ks w).bind λvs w=>call (P.mod u m) (vs++gI p.locals.toNat 0) p.body w| ak=>.ok 0 w
def qv (op a b:ab) (w:Wm):Rz Wm ab:= if op=9 then .ok (am.wrap<|a+b) w else if op=10 then .ok (am.wrap<|a-b) w else if op=11 then .ok (am.wrap<|a*b) w else if op=14 then .ok (o'<|a==b) w else if op=15 then .ok (o'<|decide<|a<b) w else if b=0 then .ov 1 w else if op=12 then .ok (am.wrap<|a.tdiv b) w else .ok (a.tmod b) w
def cR (P:Env) (call:Cl) (u:Z) (op n m pl:ab) (ks:I Ev) (loc:I ab) (w:Wm):Rz Wm ab:= if op=1 then .ok n w else if op=2 then (match w.bI with| []=>.ok 0 w| x::r=>.ok x { w with bI:=r }) else if op=16 then .ok (xu loc pl.toNat) w else if op=3 then .ok (xu w.data<|P.at_ u m pl) w else if op=4 then (tu n (kz ks 0) loc w).bind λi w=>.ok (xu w.data<|P.at_ u m<|pl+i) w else if op=5 then q8 P call u m pl ks loc w else if op=6 then (kz ks 0 loc w).bind λv w=>.ok (o'<|v==0) w else if op=7 then (kz ks 0 loc w).bind λv w=>if v=0 then .ok 0 w else (kz ks 1 loc w).bind λv w=>.ok (o'<|!(v==0)) w else if op=8 then (kz ks 0 loc w).bind λv w=>if v=0 then (kz ks 1 loc w).bind λv w=>.ok (o'<|!(v==0)) w else .ok 1 w else (kz ks 0 loc w).bind λa w=>(kz ks 1 loc w).bind λb w=>qv op a b w
mutual
def gb (P:Env) (call:Cl) (u:Z):e3->I ab->Wm->Rz Wm ab| .mk op n m pl args,loc,w=>cR P call u op n m pl (iH P call u args) loc w
def iH (P:Env) (call:Cl) (u:Z):I e3->I Ev| []=>[]| x::r=>(λloc w=>gb P call u x loc w)::iH P call u r
end
def pO (P:Env) (call:Cl) (u:Z) (x:e3) (loc:I ab) (w:Wm):gb P call u x loc w=cR P call u x.op x.n x.m x.pl (iH P call u x.args) loc w:=by cases x;rw [gb];rfl
def Nd (P:Env) (call:Cl) (u:Z):∀l,iH P call u l=l.map λx=>gb P call u x| []=>by rw [iH];rfl| x::r=>by rw [iH,Nd P call u r];rfl
def Rz.fr {α:Type} (f:Fm) (r:Rz Wm α):Rz Fm α:=match r with| .ok a w=>.ok a { f with w:=w }| .ov e w=>.ov e w
def qw (P:Env) (c:Fm->Rz Fm ab) (b:Fm->Rz Fm aQ):Z->Fm->Rz Fm aQ| 0,f=>.ok au f| n+1,f=>(c f).bind λv f=>if v=0 then .ok au f else (Rz.fr f<|nc P f.w).bind λ_ f=>(b f).bind λt f=>if t=ac then .ok ac f else qw P c b n f
def Eg (v:ab) (w:Wm):Rz Wm dT:=if w.out.length=200 then .ov 5 w else .ok () { w with out:=w.out++[v] }
def sk (P:Env) (call:Cl) (u:Z) (op n m pl:ab) (ks:I Ev) (body other:Fm->Rz Fm aQ) (f:Fm):Rz Fm aQ:= if op=1 then (Rz.fr f<|kz ks 0 f.loc f.w).bind λv f=>if m<0 then .ok au { f with loc:=f.loc.set pl.toNat v } else .ok au { f with w:={ f.w with data:=f.w.data.set (P.at_ u m pl) v } } else if op=2 then (Rz.fr f<|tu n (kz ks 0) f.loc f.w).bind λi f=>(Rz.fr f<|kz ks 1 f.loc f.w).bind λv f=>.ok au { f with w:={ f.w with data:=f.w.data.set (P.at_ u m<|pl+i) v } } else if op=3 then (Rz.fr f<|q8 P call u m pl ks f.loc f.w).bind λ_ f=>.ok au f else if op=4 then (Rz.fr f<|kz ks 0 f.loc f.w).bind λv f=>if v=0 then other f else body f else if op=5 then qw P (λf=>Rz.fr f<|kz ks 0 f.loc f.w) body (P.a5+1) f else if op=6 then (Rz.fr f<|kz ks 0 f.loc f.w).bind λv f=>.ok ac { f with val:=v } else if op=7 then (Rz.fr f<|kz ks 0 f.loc f.w).bind λv f=>(Rz.fr f<|Eg v f.w).bind λ_ f=>.ok au f else .ok au f
mutual
def o_ (P:Env) (call:Cl) (u:Z):ep->Fm->Rz Fm aQ| .mk op n m pl args body other,f=>sk P call u op n m pl (iH P call u args) (λf=>jr P call u body f) (λf=>jr P call u other f) f
def jr (P:Env) (call:Cl) (u:Z):I ep->Fm->Rz Fm aQ| [],f=>.ok au f| x::r,f=>(o_ P call u x f).bind λt f=>if t=ac then .ok ac f else jr P call u r f
end
def xv (P:Env) (call:Cl) (u:Z) (x:ep) (f:Fm):o_ P call u x f=sk P call u x.op x.n x.m x.pl (iH P call u x.args) (λf=>jr P call u x.body f) (λf=>jr P call u x.other f) f:=by cases x;rw [o_];rfl
def dB (P:Env):Z->Cl| 0,_,_,_,w=>.ok 0 w| d+1,u,loc,body,w=>(nc P w).bind λ_ w=>if w.calls=24 then .ov 4 w else match jr P (dB P d) u body ⟨loc,0,{ w with calls:=w.calls+1 }⟩ with| .ok _ f=>.ok f.val { f.w with calls:=f.w.calls-1 }| .ov e w=>.ov e w
def ha (P:Env):I cD->Z->Wm->Rz Wm dT| [],_,w=>.ok () w| x::r,n,w=>(dB P 25 n [] x.main w).bind λ_ w=>ha P r (n+1) w
def k9:I cD->Z->I Z| [],_=>[]| u::r,s=>s::k9 r (s+u.data.toNat)
def eF:I cD->Z| []=>0| u::r=>u.data.toNat+eF r
def qx (l:I cD):I<|I Z:=(kJ l.length).map λn=>n::((l[n]?.map (·.aI)).getD []).map λs=>(idxOf s (bh l) 0).getD 0
def bj (l:I cD) (a5:Z):Env:=⟨l,qx l,k9 l 0,a5⟩
structure jg where
 fin:ab
 out:I ab
 data:I ab
 bY:ab
def Eh:jg:=⟨0,[],[],0⟩
def zg (w:Wm) (e:ab):jg:=⟨e,w.out,w.data,(w.bY:ab)⟩
def q9 (l:I cD) (bI:I ab) (bY:ab):ab:=er (lW l)<|if 64<bI.length then 2 else if (decide (bY<0)||decide (2000<bY))=ac then 3 else 0
def H1 (l:I cD) (bI:I ab) (a5:Z):jg:=match ha (bj l a5) l 0 ⟨gI (eF l) 0,bI,[],0,0⟩ with| .ok _ w=>zg w 0| .ov e w=>zg w e
end Go.Bw
end
section
namespace Go.Bw
open Go
structure sm (l:I cD):Prop where
 gu:1<=l.length/\l.length<=4
 ahead:h' l=ac
 nd:(bh l).Nodup
 data:cQ l 512=ac
 hJ:∀u ∈ l,j1 u (gB l u)=ac
variable {ck:I cD}
def H2:lW ck=0↔sm ck:=by
 unfold lW;constructor
 ·intro h;split at h;·cases h
  ·rename_i b;split at h;·cases h
   ·rename_i c;split at h;·cases h
    ·rename_i d;split at h;·cases h
     ·rename_i e;split at h;·rename_i f;refine ⟨by simp at b;omega,by simpa using c,ku.2 (by simpa using d),by simpa using e,λu a=>gw.1 f u a⟩
      ·cases h
 ·intro h;have:=h.gu;rw [ao (by simp;omega),ao (by rw [h.ahead];decide),ao (by rw [ku.1 h.nd];decide),ao (by rw [h.data];decide),aU<|gw.2 λu a=>h.hJ u a]
variable {ae:Z} {dS:cD}
def H3 (c:sm ck)   (d:ck[ae]? = aa dS) {s:I a7} (i:s ∈ dS.aI):∃p k,idxOf s (bh ck) 0=aa p/\p<ae/\ck[p]? = aa k:=by
 have l:=(c_.1 d).1;have f:=gw.1 c.ahead ae<|wT.2 l;rw [d] at f;have g:s ∈ (bh ck).take ae:=by simpa using gw.1 f s i
 cases h:idxOf s (bh ck) 0 with
 | none=>exact absurd (pR g)<|tq.1 h
 | some p=>
  obtain ⟨j,a⟩:=ls g;rw [b8] at a;split at a
  ·rename_i n;have b:=(sd h).2;rw [p_] at b;have m:=(c_.1 b).1;have e:p=j:=(s9 m c.nd).1<|b.trans a.symm;have o:(bh ck).length=ck.length:=by simp [bh]
   exact ⟨p,_,O,aj,dh aj⟩
  ·cases a
def xw (a:ck[ae]? = aa dS):(qx ck)[ae]? = aa (ae::dS.aI.map λs=>(idxOf s (bh ck) 0).getD 0):=by have b:=(c_.1 a).1;unfold qx;rw [gh,I.getElem?_range b];simp [a]
def Nf (i:sm ck)   (d:ck[ae]? = aa dS) {c:Z} {k:e8} (a:(ey dS::gB ck dS)[c]? = aa k) : ∃j b,(ae::dS.aI.map λs=>(idxOf s (bh ck) 0).getD 0)[c]? = aa j/\ck[j]? = aa b/\k=ey b:=by cases c with| zero=>simp at a;exact ⟨ae,dS,rfl,d,a.symm⟩| succ q=>simp only [lM] at a ⊢;unfold gB at a;rw [gh] at a;obtain ⟨s,f,e⟩:=eD.1 a;obtain ⟨p,b,g,_,h⟩:=H3 i d<|dJ f;refine ⟨p,b,by rw [gh,f];simp [g],h,?_⟩;rw [g] at e;dsimp only at e;rw [h] at e;exact e.symm
def Ng:∀{l:I cD} {s j:Z} {a:cD},l[j]? = aa a->∃b,(k9 l s)[j]? = aa b/\b+a.data.toNat<=s+eF l| [],_,_,_,h=>by simp at h| x::r,s,0,a,h=>by simp at h;subst h;exact ⟨s,O,by simp only [eF];omega⟩| x::r,s,j+1,a,h=>by obtain ⟨b,c,d⟩:=Ng (l:=r) (s:=s+x.data.toNat) (j:=j) (by simpa using h);exact ⟨b,by simp only [k9,lM];exact c,by simp only [eF];omega⟩
variable {aP cp hZ:ab}
def Ei (o:sm ck) (a5:Z)   (d:ck[ae]? = aa dS)  (h:k6 (ey dS::gB ck dS) aP cp hZ=ac) (t:0<=hZ) :
   ∃(a j b p:Z),aP=a/\cp=p/\(ae::dS.aI.map λs=>(idxOf s (bh ck) 0).getD 0)[a]? = aa j/\(k9 ck 0)[j]? = aa b/\b+p+hZ.toNat<=eF ck/\(bj ck a5).mod ae aP=j/\(∀i:Z,(bj ck a5).at_ ae aP ((p+i:Z):ab)=b+(p+i)):=by
 cases c:om (ey dS::gB ck dS) aP cp with
 | true=>rw [tw hZ c] at h;cases h
 | false=>
  obtain ⟨⟨a,rfl,q⟩,u,v⟩:=uk c;obtain ⟨k,e⟩:=dO q;obtain ⟨j,f,g,r,rfl⟩:=Nf o d e;rw [vO c e,aU<|show (ey f).q6=ac from rfl] at h;have w:cp+hZ<=f.data:=uj h;obtain ⟨b,m,x⟩:=Ng (l:=ck) (s:=0) r;have n:(bj ck a5).mod ae (a:ab)=j:=by unfold Env.mod;show (((qx ck)[ae]?.getD [])[((a:Z):ab).toNat]?).getD 0=j;rw [xw d,m4];show ((ae::dS.aI.map λs=>(idxOf s (bh ck) 0).getD 0)[a]?).getD 0=j;rw [g];rfl
  refine ⟨a,j,b,cp.toNat,O,aj,g,m,aj,n,λi=>?_⟩;unfold Env.at_;rw [n];show ((k9 ck 0)[j]?).getD 0+_=_;rw [m,m4];rfl
def Ve (l:sm ck) (a5:Z)   (d:ck[ae]? = aa dS)  (h:mL (ey dS::gB ck dS) aP cp hZ=ac) :
   ∃(b j q:Z) (a:cD) (p:bT),aP=b/\cp=q/\(ae::dS.aI.map λs=>(idxOf s (bh ck) 0).getD 0)[b]? = aa j/\ck[j]? = aa a/\a.parts[q]? = aa p/\p.params=hZ/\(bj ck a5).mod ae aP=j:=by
 cases c:o6 (ey dS::gB ck dS) aP cp with
 | true=>rw [HE hZ c] at h;cases h
 | false=>
  obtain ⟨⟨b,rfl,m⟩,q,rfl⟩:=HF c;obtain ⟨k,e⟩:=dO m;obtain ⟨j,a,f,n,rfl⟩:=Nf l d e;rw [vP c e,aU<|show (ey a).q6=ac from rfl] at h;obtain ⟨o,r⟩:=gj.1 h;have t:(ey a).parts.length=a.parts.length:=by simp [ey]
  have g:q<a.parts.length:=by have:=uj o;omega
  refine ⟨b,j,q,a,a.parts[q],O,O,f,n,dh g,?_,?_⟩;·have i:=eq_of_beq r;rw [m4,show (ey a).parts=a.parts.map (·.params) from rfl,gh,dh g] at i;exact i
  ·unfold Env.mod;show (((qx ck)[ae]?.getD [])[((b:Z):ab).toNat]?).getD 0=j;rw [xw d,m4];show ((ae::dS.aI.map λs=>(idxOf s (bh ck) 0).getD 0)[b]?).getD 0=j;rw [f];rfl
variable {dM:I e8}
def Ej (h:j1 dS dM=ac):(∀p ∈ dS.parts,mM (ey dS::dM) p=ac)/\h8 (ey dS::dM) 0 dS.main 1=ac/\pM dS=au/\tr dS.nm dS.aI=ac:=by unfold j1 at h;obtain ⟨c,a⟩:=gj.1 h;obtain ⟨a,b⟩:=gj.1 a;obtain ⟨b,d⟩:=gj.1 b;exact ⟨λp e=>gw.1 b p e,d,by simpa using a,c⟩
def H4 {p:bT} (h:mM dM p=ac):0<=p.params/\p.params<=3/\0<=p.locals/\p.locals<=4/\h8 dM (p.params+p.locals) p.body 1=ac:=by
 unfold mM at h;obtain ⟨a,b⟩:=gj.1 h;have a:(((decide (p.params<0)||decide (3<p.params))||decide (p.locals<0))||decide (4<p.locals))=au:=by simpa using a
 simp only [lN,ny] at a;exact ⟨aj,aj,aj,aj,b⟩
def Nh:∀{l:I cD} {a:ab},cQ l a=ac->(∀u ∈ l,0<=u.data)/\(eF l:ab)<=a\/l=[]
 | [],_,_=>bl rfl
 | u::r,a,h=>by
  unfold cQ at h;obtain ⟨b,c⟩:=gj.1 h;have b:(decide (u.data<0)||decide (a<u.data))=au:=by simpa using b
  simp only [lN,ny] at b;left;rcases Nh c with ⟨d,e⟩ | rfl
  ·refine ⟨λv hv=>?_,by simp only [eF];omega⟩;rcases eZ.1 hv with rfl | hv;·omega
   ·exact d v hv
  ·refine ⟨λv hv=>?_,by simp only [eF];omega⟩;rw [fq] at hv;subst hv;omega
open Go.ChangeShapes Go.WideShapes Go.ChangeAt Go.RowKit Go.Joins Go.Deep
mutual
def jK:e3->Z| .mk _ _ _ _ args=>1+iW args
def iW:I e3->Z| []=>0| x::r=>jK x+iW r
end
mutual
def so:ep->Z| .mk _ _ _ _ args body other=>1+iW args+jL body+jL other
def jL:I ep->Z| []=>0| x::r=>so x+jL r
end
def zh (p:bT):Z:=1+jL p.body
def mO:I bT->Z| []=>0| p::r=>zh p+mO r
def uG (u:cD):Z:=1+u.nm.length+wN u.aI+mO u.parts+jL u.main
def Bf (n:Z) (H:View) (b o:Z) (u:cD):Prop:=∃r:o5,ct H b o (hX u r)/\og n n H r u
structure afE (P:Program) (tN tA tP tU H7 Bg y6 vI:TypeId) (e s p m:Array Field) (tI tT:TypeId):Prop where
 uI:P.underlying tI=some (.int .i64)
 uT:P.underlying tT=some .string
 cT:P.cellsOf tT=1
 uN:P.underlying tN=some (.struct e)
 rN:(qY P 0 e.toList&&Nat.beq (P.cellsOf tN) e.size)=true
 fN:e.map (·.type) = #[tI,tI,tI,tI,H7]
 af8:P.underlying H7=some (.slice tN)
 uA:P.underlying tA=some (.struct s)
 rA:(qY P 0 s.toList&&Nat.beq (P.cellsOf tA) s.size)=true
 fA:s.map (·.type) = #[tI,tI,tI,tI,H7,Bg,Bg]
 af9:P.underlying Bg=some (.slice tA)
 uP:P.underlying tP=some (.struct p)
 rP:(qY P 0 p.toList&&Nat.beq (P.cellsOf tP) p.size)=true
 fP:p.map (·.type) = #[tI,tI,Bg]
 UF:P.underlying y6=some (.slice tP)
 UG:P.underlying vI=some (.slice tT)
 uU:P.underlying tU=some (.struct m)
 rU:(qY P 0 m.toList&&Nat.beq (P.cellsOf tU) m.size)=true
 fU:m.map (·.type) = #[tT,vI,tI,y6,Bg]
end Go.Bw
end
section
namespace Go.Bw
open Go
structure c' where
 op:ab
 a:ab
 b:ab
structure hT where
 at_:ab
 kind:ab
 m:ab
structure Gs where
 code:I c'
 fix:I hT
abbrev Gk:=Gs->Gs
def gG (l:I c') (g:Gs):Gs:={ g with code:=g.code++l }
def fy (i:c') (kind m:ab) (g:Gs):Gs:=⟨g.code++[i],g.fix++[⟨(g.code.length:ab),kind,m⟩]⟩
def jh (n:Z) (g:Gs):Gs:={ g with code:=g.code.modify n λi=>{ i with a:=(g.code.length:ab) } }
def mP (ks:I Gk) (i:Z):Gk:=(ks[i]?).getD id
def xx (ks:I Gk) (g:Gs):Gs:=ks.foldl (λg k=>k g) g
def H8 (c d:Gk) (g:Gs):Gs:=
 let a:=c g
 let b:=gG [⟨22,0,0⟩]<|d<|fy ⟨12,0,0⟩ 1 0 a
 jh b.code.length<|gG [⟨1,0,0⟩]<|jh a.code.length<|fy ⟨11,0,0⟩ 1 0 b
def H9 (c d:Gk) (g:Gs):Gs:=
 let a:=c g
 let b:=gG [⟨1,1,0⟩]<|fy ⟨12,0,0⟩ 1 0 a
 jh b.code.length<|gG [⟨22,0,0⟩]<|d<|jh a.code.length<|fy ⟨11,0,0⟩ 1 0 b
def qy (op n m pl:ab) (ks:I Gk) (g:Gs):Gs:= if op=1 then gG [⟨1,n,0⟩] g else if op=2 then gG [⟨18,0,0⟩] g else if op=16 then gG [⟨2,pl,0⟩] g else if op=3 then fy ⟨4,pl,0⟩ 3 m g else if op=4 then gG [⟨7,0,0⟩] (fy ⟨6,pl,n⟩ 3 m<|mP ks 0 g) else if op=5 then fy ⟨13,pl,0⟩ 2 m (xx ks g) else if op=7 then H8 (mP ks 0) (mP ks 1) g else if op=8 then H9 (mP ks 0) (mP ks 1) g else if op=6 then gG [⟨9,0,0⟩] (xx ks g) else gG [⟨10,op,0⟩] (xx ks g)
mutual
def fz:e3->Gs->Gs| .mk op n m pl args,g=>qy op n m pl (ne args) g
def ne:I e3->I Gk| []=>[]| x::r=>(λg=>fz x g)::ne r
end
def tv (x:e3) (g:Gs):fz x g=qy x.op x.n x.m x.pl (ne x.args) g:=by cases x;rw [fz];rfl
def xy:∀l,ne l=l.map fz| []=>by rw [ne];rfl| x::r=>by rw [ne,xy r];rfl
def qz (l:I e3) (g:Gs):Gs:=l.foldl (λg x=>fz x g) g
def Bh (l:I e3) (g:Gs):xx (ne l) g=qz l g:=by rw [xy];unfold xx qz;rw [I.foldl_map]
variable {bi:I e3} {ae:Z} {dt:e3}
def Vf (h:bi[ae]? = aa dt) (g:Gs):qz (bi.take<|ae+1) g=fz dt (qz (bi.take ae) g):=by unfold qz;rw [hP,h];simp
def Ek (c body other:Gk) (d:Z) (g:Gs):Gs:=
 let a:=c g
 let b:=body<|fy ⟨12,0,0⟩ 1 0 a
 if 0<d then jh b.code.length (other<|jh a.code.length<|fy ⟨11,0,0⟩ 1 0 b) else jh a.code.length b
def Nj (b body:Gk) (g:Gs):Gs:=
 let a:=b g
 jh a.code.length<|fy ⟨11,(g.code.length:ab),0⟩ 1 0<|body<|gG [⟨16,0,0⟩]<|fy ⟨12,0,0⟩ 1 0 a
def eo (op n m pl:ab) (ks:I Gk) (body other:Gk) (a:Z) (g:Gs):Gs:= if op=1 then (if m<0 then gG [⟨3,pl,0⟩] (mP ks 0 g) else fy ⟨5,pl,0⟩ 3 m (mP ks 0 g)) else if op=2 then gG [⟨8,0,0⟩] (mP ks 1<|fy ⟨6,pl,n⟩ 3 m<|mP ks 0 g) else if op=3 then gG [⟨17,0,0⟩] (fy ⟨13,pl,0⟩ 2 m<|xx ks g) else if op=4 then Ek (mP ks 0) body other a g else if op=5 then Nj (mP ks 0) body g else if op=6 then gG [⟨15,0,0⟩] (mP ks 0 g) else if op=7 then gG [⟨19,0,0⟩] (mP ks 0 g) else g
mutual
def oq:ep->Gs->Gs| .mk op n m pl args body other,g=>eo op n m pl (ne args) (λg=>js body g) (λg=>js other g) other.length g
def js:I ep->Gs->Gs| [],g=>g| x::r,g=>js r<|oq x g
end
def uH (x:ep) (g:Gs):oq x g=eo x.op x.n x.m x.pl (ne x.args) (λg=>js x.body g) (λg=>js x.other g) x.other.length g:=by cases x;rw [oq];rfl
def Nk:∀(a b:I ep) (g:Gs),js (a++b) g=js b (js a g)| [],b,g=>by rw [js];rfl| x::r,b,g=>by rw [hx,js,Nk r b,js]
variable {gA:I ep} {gM:ep}
def UE (h:gA[ae]? = aa gM) (g:Gs):js (gA.take<|ae+1) g=oq gM (js (gA.take ae) g):=by rw [hP,h];show js (gA.take ae++[gM]) g=_;rw [Nk,js,js]
def qA (params locals:ab) (body:I ep) (g:Gs):Gs:=gG [⟨1,0,0⟩,⟨15,0,0⟩]<|js body<|gG [⟨14,params,locals⟩] g
def gN:I bT->Gs->I Z×Gs| [],g=>([],g)| p::r,g=>(g.code.length::(gN r<|qA p.params p.locals p.body g).1,(gN r<|qA p.params p.locals p.body g).2)
def Nl:∀(a:I bT) (p:bT) (g:Gs),gN (a++[p]) g=((gN a g).1++[(gN a g).2.code.length],qA p.params p.locals p.body (gN a g).2)| [],p,g=>rfl| x::r,p,g=>by rw [hx,gN,Nl r p];rfl
structure sp where
 nm:I a7
 aI:I<|I a7
 data:ab
 g:Gs
 g5:I Z
 main:Z
def Bi:sp:=⟨[],[],0,⟨[],[]⟩,[],0⟩
def sq (u:cD):aQ:=j1 u<|gI u.aI.length ol
def sr (u:cD):sp:=
 let r:=gN u.parts ⟨[],[]⟩
 ⟨u.nm,u.aI,u.data,qA 0 0 u.main r.2,r.1,r.2.code.length⟩
def iu (u:cD):sp×ab:=if sq u=au then (Bi,1) else if 2048<(sr u).g.code.length then (Bi,2) else (sr u,0)
structure GL (c:Z) (g g':Gs):Prop where
 lo:g.code.length<=g'.code.length
 hi:g'.code.length<=g.code.length+c
 H':g.fix.length<=g'.fix.length
 jt:g'.fix.length<=g.fix.length+c
def GL.refl (c:Z) (g:Gs):GL c g g:=⟨eC _,C1 _ _,eC _,C1 _ _⟩
variable {aH:Z}
def GL.trans {g a b:Gs} (h:GL ae g a) (k:GL aH a b):GL (ae+aH) g b:=⟨qa h.lo k.lo,by have:=h.hi;have:=k.hi;omega,qa h.H' k.H',by have:=h.jt;have:=k.jt;omega⟩
def GL.mono {g a:Gs} (h:GL ae g a) (b:ae<=aH):GL aH g a:=⟨h.lo,by have:=h.hi;omega,h.H',by have:=h.jt;omega⟩
def nf (l:I c') (g:Gs):GL l.length g<|gG l g:=⟨by simp [gG],by simp [gG],eC _,C1 _ _⟩
def dX (i:c') (k m:ab) (g:Gs):GL 1 g<|fy i k m g:=⟨by simp [fy],by simp [fy],by simp [fy],by simp [fy]⟩
def vV (n:Z) (g:Gs):GL 0 g<|jh n g:=⟨by simp [jh],by simp [jh],eC _,eC _⟩
def H_ {ks:I Gk} {cs:I Z} (h:ks.length=cs.length) (d:∀(i:Z) k c,ks[i]? = aa k->cs[i]? = aa c->∀g,GL c g (k g)):∀g,GL cs.sum g (xx ks g):=by
 induction ks generalizing cs with
 | nil=>intro g;cases cs with| nil=>exact .refl _ _| cons c r=>cases h
 | cons k r e=>intro g;cases cs with| nil=>cases h| cons c f=>have j:=d 0 k c rfl rfl g;have l:=e (cs:=f) (by simpa using h) (λi m n a b=>d (i+1) m n (by simpa using a) (by simpa using b))<|k g;exact j.trans l
def El {ks:I Gk} {cs:I Z} (h:ks.length=cs.length) (b:∀(i:Z) k c,ks[i]? = aa k->cs[i]? = aa c->∀g,GL c g (k g)) (i:Z):∀g,GL ((cs[i]?).getD 0) g (mP ks i g):=λg=>by unfold mP;cases hi:ks[i]? with| none=>exact .refl _ _| some k=>have d:=(c_.1 hi).1;obtain ⟨c,a⟩:∃c,cs[i]? = aa c:=⟨_,dh (by omega)⟩;rw [a];exact b i k c hi a g
def Nn:∀(cs:I Z),(cs[0]?).getD 0+(cs[1]?).getD 0<=cs.sum| []=>by simp| [a]=>by simp| a::b::r=>by simp only [lL,lM,px,AB];omega
mutual
def ot:∀(x:e3) (g:Gs),GL (8*jK x) g (fz x g)
 | .mk op n m pl args,g=>by
  rw [fz];have b:=uy args;have c:(ne args).length=(args.map λx=>8*jK x).length:=by rw [xy];simp
  have f:(args.map λx=>8*jK x).sum=8*iW args:=En args;have a:=H_ c b;have d:=El c b 0;have e:=El c b 1;have h:=Nn<|args.map λx=>8*jK x;rw [f] at a h;have i:jK (.mk op n m pl args)=1+iW args:=by rw [jK]
  rw [i];unfold qy;split;·exact (nf _ g).mono (by simp only [eL,fT];omega)
  ·split;·exact (nf _ g).mono (by simp only [eL,fT];omega)
   ·split;·exact (nf _ g).mono (by simp only [eL,fT];omega)
    ·split;·exact (dX _ _ _ g).mono aj
     ·split;·exact (((d g).trans<|dX _ _ _ _).trans<|nf _ _).mono (by simp only [eL,fT];omega)
      ·split;·exact ((a g).trans<|dX _ _ _ _).mono aj
       ·split;·unfold H8;exact (((((((d g).trans<|dX _ _ _ _).trans<|e _).trans<|nf _ _).trans<|dX _ _ _ _).trans<|vV _ _).trans (nf _ _) |>.trans (vV _ _)).mono (by simp only [eL,fT];omega)
        ·split;·unfold H9;exact (((((((d g).trans<|dX _ _ _ _).trans<|nf _ _).trans<|dX _ _ _ _).trans<|vV _ _).trans<|e _).trans (nf _ _) |>.trans (vV _ _)).mono (by simp only [eL,fT];omega)
         ·split;·exact ((a g).trans<|nf _ _).mono (by simp only [eL,fT];omega)
          ·exact ((a g).trans<|nf _ _).mono (by simp only [eL,fT];omega)
def uy:∀(l:I e3) (i:Z) k c,(ne l)[i]? = aa k->(l.map λx=>8*jK x)[i]? = aa c->∀g,GL c g (k g)| [],i,k,c,h,_,g=>by rw [ne] at h;simp at h| x::r,0,k,c,h,a,g=>by rw [ne] at h;simp at h a;subst h a;exact ot x g| x::r,i+1,k,c,h,a,g=>by rw [ne] at h;exact uy r i k c (by simpa using h) (by simpa using a) g
def En:∀(l:I e3),(l.map λx=>8*jK x).sum=8*iW l| []=>by simp [iW]| x::r=>by rw [l_,AB,En r,iW];omega
end
mutual
def Vh:∀(x:ep) (g:Gs),GL (8*so x) g (oq x g)
 | .mk op n m pl args body other,g=>by
  rw [oq];have b:=uy args;have c:(ne args).length=(args.map λx=>8*jK x).length:=by rw [xy];simp
  have e:=H_ c b;have a:=El c b 0;have f:=El c b 1;have h:=Nn<|args.map λx=>8*jK x;rw [En] at e h;have d:=k' body;have i:=k' other;have j:so (.mk op n m pl args body other)=1+iW args+jL body+jL other:=by rw [so]
  rw [j];unfold eo;split
  ·split;·exact ((a g).trans<|nf _ _).mono (by simp only [eL,fT];omega)
   ·exact ((a g).trans<|dX _ _ _ _).mono aj
  ·split;·exact ((((a g).trans<|dX _ _ _ _).trans<|f _).trans<|nf _ _).mono (by simp only [eL,fT];omega)
   ·split;·exact (((e g).trans<|dX _ _ _ _).trans<|nf _ _).mono (by simp only [eL,fT];omega)
    ·split
     ·unfold Ek;dsimp only;split;·exact ((((((a g).trans<|dX _ _ _ _).trans<|d _).trans<|dX _ _ _ _).trans<|vV _ _).trans (i _) |>.trans (vV _ _)).mono aj
      ·exact ((((a g).trans<|dX _ _ _ _).trans<|d _).trans<|vV _ _).mono aj
     ·split;·unfold Nj;exact ((((((a g).trans<|dX _ _ _ _).trans<|nf _ _).trans<|d _).trans<|dX _ _ _ _).trans<|vV _ _).mono (by simp only [eL,fT];omega)
      ·split;·exact ((a g).trans<|nf _ _).mono (by simp only [eL,fT];omega)
       ·split;·exact ((a g).trans<|nf _ _).mono (by simp only [eL,fT];omega)
        ·exact .refl _ _
def k':∀(l:I ep) (g:Gs),GL (8*jL l) g (js l g)| [],g=>by rw [js];exact .refl _ _| x::r,g=>by rw [js,jL];exact ((Vh x g).trans<|k' r _).mono aj
end
def Vi (pa lo:ab) (b:I ep) (g:Gs):GL (8*(1+jL b)) g<|qA pa lo b g:=by unfold qA;exact (((nf _ g).trans<|k' b _).trans<|nf _ _).mono (by simp only [eL,fT];omega)
def Ia:∀(l:I bT) (g:Gs),GL (8*mO l) g (gN l g).2/\(gN l g).1.length=l.length| [],g=>⟨.refl _ _,rfl⟩| p::r,g=>by have a:=Ia r<|qA p.params p.locals p.body g;refine ⟨?_,by simp [gN,a.2]⟩;rw [gN,mO];exact ((Vi p.params p.locals p.body g).trans a.1).mono (by unfold zh;omega)
section
variable {P:aV} {ops:bE ay} {Q:aO->aN->aL->Prop} {n:Z} {ds:I e'} {l:I<|Z×aT} {w0:aL} {F:I Z} {L:I bc} {Vs:I View} {rest:I ay} {ty:b_} {pos:bg} {af:bE fw} {g:az<|Z×aQ} {d:Z}
def WL.Vj {ι:Type} {f:jU} {c:dF} {k:bE aT} {args:bE dF} {ts:bE b_} {vs:I aT} (a L2:I bc) (o:eE ops l g) (p:eB d n=ac) (q:Enters P f) (r:b5 l c=aa (.func (.func f) #[] k)) (s:hF l args.toList=aa vs) (hL:L=a++L2) (v:ι->aT) (b:ι->I bc) (R:ι->Prop) (cB:I View) (t:∀H ∈ cB,H ∈ Vs) (hC:∀w,Ws w (a.flatMap bc.ids) a cB w->cr P f (vs.toArray++k) w λe m=>∃i,e = ax (v i)/\R i/\Ws w (a.flatMap bc.ids) (b i) cB m) (u:∀i,R i->WL P ops Q n ds ((d,v i)::l) (Ws w0 F (b i++L2) Vs) rest) : WL P ops Q n ds l (Ws w0 F L Vs)<|⟨aa d,.call ⟨.value c,args,ts⟩,ty,pos,af,g⟩::rest:= WL.TL (κ:=Empty) a L2 o p q r s hL v b R (λ_=>[]) (λ_=>[]) (λ_=>False) cB t (λw x=>(hC w x).mono λe m h=>bA h) (λj=>nomatch j) u
end
def c'.cells (x:c'):I aT:=[an am x.op,an am x.a,an am x.b]
def c'.dA (x:c'):x.cells.length=3:=rfl
def c'.one (x:c'):x.cells.all (·.oneCell')=ac:=rfl
def kf (H:View) (b o:Z) (x:c'):Prop:=ct H b o x.cells
def hT.cells (x:hT):I aT:=[an am x.at_,an am x.kind,an am x.m]
def hT.dA (x:hT):x.cells.length=3:=rfl
def hT.one (x:hT):x.cells.all (·.oneCell')=ac:=rfl
def No (H:View) (b o:Z) (x:hT):Prop:=ct H b o x.cells
structure q_ where
 nm:I a7
 v1:aT
 data:ab
 v5:aT
 v6:aT
structure ou where
 g:Gs
 ca:az a0×Z
 fa:az a0×Z
def tx (T:b_) (a:q_) (t:ou):Obj:=aM #[st a.nm,a.v1,an am a.data,aC t.ca.1 t.g.code.length t.ca.2,aC t.fa.1 t.g.fix.length t.fa.2,a.v5,a.v6] T (0,0)
abbrev i4 (T a b:b_) (c:Z) (d:q_) (t:ou):I bc:=[aJ c<|tx T d t,cO a 3 c'.cells t.ca.1 t.ca.2 t.g.code,cO b 3 hT.cells t.fa.1 t.fa.2 t.g.fix]
def pc (h:bi[ae]? = aa dt):mP (ne bi) ae=fz dt:=by unfold mP;rw [xy,gh,h];rfl
def zj:∀{l:I e3} {i:Z} {x:e3},l[i]? = aa x->iW (l.take<|i+1)=iW (l.take i)+jK x/\iW (l.take<|i+1)<=iW l| [],_,_,h=>by simp at h| y::r,0,x,h=>by simp at h;subst h;simp [iW]| y::r,i+1,x,h=>by obtain ⟨a,b⟩:=zj (l:=r) (i:=i) (by simpa using h);simp only [qc,iW];omega
def Np:∀{l:I ep} {i:Z} {x:ep},l[i]? = aa x->jL (l.take<|i+1)=jL (l.take i)+so x/\jL (l.take<|i+1)<=jL l| [],_,_,h=>by simp at h| y::r,0,x,h=>by simp at h;subst h;simp [jL]| y::r,i+1,x,h=>by obtain ⟨a,b⟩:=Np (l:=r) (i:=i) (by simpa using h);simp only [qc,jL];omega
def Eo (l:I e3) (g:Gs):GL (8*iW l) g<|qz l g:=by
 have a:(ne l).length=(l.map λx=>8*jK x).length:=by rw [xy];simp
 have h:=H_ a (uy l) g;rw [Bh,En] at h;exact h
def Vk (x:e3):jK x=1+iW x.args:=by cases x;rw [jK];rfl
def VS (x:ep):so x=1+iW x.args+jL x.body+jL x.other:=by cases x;rw [so];rfl
variable {Bj:c'}
def Vm {l:I c'}   (f:c'->c') (h:l[ae]? = aa Bj):l.modify ae f=l.set ae (f Bj):=by
 apply r3;intro i;rw [yt,yx];by_cases e:ae=i;·subst e;obtain ⟨a,b⟩:=c_.1 h;simp [a,b]
 ·simp [e]
def Vn {g:Gs}  (h:g.code[ae]? = aa Bj):jh ae g = { g with code:=g.code.set ae ⟨Bj.op,(g.code.length:ab),Bj.b⟩ }:=by unfold jh;rw [Vm _ h]
variable {dM:I e8} {aP cp hZ mQ mq:ab}
def Nq (h:node1 dM aP cp hZ mQ mq ae=ac):(cp=4\/cp=6->ae=1)/\(7<=cp/\cp<=15->ae=2)/\1<=cp/\cp<=16:=by
 unfold node1 at h;split at h;·subst_vars;omega
 ·split at h;·subst_vars;omega
  ·split at h;·subst_vars;simp at h;omega
   ·split at h;·subst_vars;omega
    ·split at h;·subst_vars;omega
     ·split at h;·subst_vars;omega
      ·split at h;·subst_vars;simp at h;omega
       ·split at h;·simp at h;omega
        ·cases h
def Nr {na a b:Z} (h:h7 dM aP cp hZ mQ mq na a b=ac):(cp=1\/cp=4\/cp=5\/cp=6\/cp=7->na=1)/\(cp=2->na=2)/\1<=cp/\cp<=7:=by
 unfold h7 at h;split at h;·subst_vars;simp at h;omega
 ·split at h;·subst_vars;simp at h;omega
  ·split at h;·subst_vars;omega
   ·split at h;·subst_vars;simp at h;omega
    ·split at h;·subst_vars;simp at h;omega
     ·split at h;·simp at h;omega
      ·cases h
def zk (x:e3):Prop:=∃kn a6 d,lV kn a6 x d=ac
def zl (l:I e3):Prop:=∃kn a6 d,iT kn a6 l d=ac
def uJ (x:ep):Prop:=∃kn a6 d,mm kn a6 x d=ac
def tz (l:I ep):Prop:=∃kn a6 d,je kn a6 l d=ac
def zl.at_ (h:zl bi)   (a:bi[ae]? = aa dt):zk dt:=by obtain ⟨kn,a6,d,h⟩:=h;rw [Bb] at h;exact ⟨kn,a6,d,gw.1 h dt<|dJ a⟩
def zk.args (h:zk dt):zl dt.args/\(dt.op=4\/dt.op=6->dt.args.length=1)/\(7<=dt.op/\dt.op<=15->dt.args.length=2)/\1<=dt.op/\dt.op<=16:=by obtain ⟨kn,a6,d,h⟩:=h;rw [HG] at h;obtain ⟨_,h⟩:=gj.1 h;obtain ⟨a,b⟩:=gj.1 h;exact ⟨⟨kn,a6,_,b⟩,Nq a⟩
def tz.at_ (h:tz gA)   (a:gA[ae]? = aa gM):uJ gM:=by obtain ⟨kn,a6,d,h⟩:=h;rw [Ec] at h;exact ⟨kn,a6,d,gw.1 h gM<|dJ a⟩
def uJ.parts (h:uJ gM):zl gM.args/\(gM.op=4\/gM.op=5->tz gM.body)/\tz gM.other/\(gM.op=1\/gM.op=4\/gM.op=5\/gM.op=6\/gM.op=7->gM.args.length=1)/\(gM.op=2->gM.args.length=2)/\1<=gM.op/\gM.op<=7:=by
 obtain ⟨kn,a6,d,h⟩:=h;rw [HH] at h;obtain ⟨e,h⟩:=gj.1 h;obtain ⟨f,h⟩:=gj.1 h;obtain ⟨b,c⟩:=gj.1 h;refine ⟨⟨kn,a6,_,f⟩,λg=>?_,?_,Nr e⟩
 ·have:sf gM.op=ac:=by unfold sf;simpa using g
  rw [this] at b;have a:h8 kn a6 gM.body (d+1)=ac:=by simpa using b
  unfold h8 at a;exact ⟨kn,a6,d+1,(gj.1 (gj.1 a).2).2⟩
 ·by_cases i:0<gM.other.length
  ·rw [kL i] at c;have a:h8 kn a6 gM.other (d+1)=ac:=by simpa using c
   unfold h8 at a;exact ⟨kn,a6,d+1,(gj.1 (gj.1 a).2).2⟩
  ·have:gM.other=[]:=r5 aj;rw [this];exact ⟨kn,a6,d,by rw [je]⟩
def Lr {α:Type} {f:α->I aT} {x:α} {zs:bE aT} (h:zs.toList=f x) (j:0<(f x).length) (k:Z):madeCells zs (k*(f x).length)=((gI k x).flatMap f).toArray:=by
 apply vr;simp only [madeCells];have l:zs.size=(f x).length:=by rw [<-h];simp
 have c:((gI k x).flatMap f).length=k*(f x).length:=by induction k with| zero=>simp| succ k b=>rw [C2,jm,e_,b,y7];omega
 apply I.ext_getElem;·simp [c]
 ·intro i n d;simp;have key:∀(k i:Z) (hi:i<k*(f x).length),((gI k x).flatMap f)[i]? = (f x)[i % (f x).length]?:=by
   intro k;induction k with
   | zero=>intro i hi;omega
   | succ k b=>
    intro i hi;rw [C2,jm,KV];split;·rename_i m;rw [Z.mod_eq_of_lt m]
    ·rename_i o;rw [y7] at hi;rw [b (i-(f x).length) aj,<-Z.mod_eq_sub_mod aj]
  have hi:i<k*(f x).length:=by rw [<-c];exact d
  have a:=key k i hi;have e:=Ge i j;rw [dh d,dh e] at a;injection a with a;rw [a];have g:zs[i % zs.size]? = (f x)[i % (f x).length]?:=by rw [l,<-h];simp
  rw [dh e] at g;rw [getElem!_def,g]
def ra:(∀i k m g,(fy i k m g).code.length=g.code.length+1)/\(∀i k m g,(fy i k m g).fix.length=g.fix.length+1)/\(∀l g,(gG l g).code.length=g.code.length+l.length)/\(∀l g,(gG l g).fix.length=g.fix.length)/\(∀n g,(jh n g).code.length=g.code.length)/\(∀n g,(jh n g).fix.length=g.fix.length)/\(∀(x:c') l,(x::l).length=l.length+1)/\([]:I c').length=0:=by refine ⟨λ_ _ _ _=>?_,λ_ _ _ _=>?_,λ_ _=>?_,λ_ _=>rfl,λ_ _=>?_,λ_ _=>rfl,λ_ _=>rfl,O⟩<;>simp [fy,gG,jh]
def kT (x:Z):I aT:=[an am (x:ab)]
def zm (x:Z):(kT x).length=1:=rfl
def rb (H:View) (b o:Z) (x:Z):Prop:=ct H b o<|kT x
structure rc where
 s1:az a0×Z
 s2:az a0×Z
 s3:az a0×Z
 s4:az a0×Z
def Ib (o:sp) (q:rc):I aT:=[st o.nm,aC q.s1.1 o.aI.length q.s1.2,an am o.data,aC q.s2.1 o.g.code.length q.s2.2,aC q.s3.1 o.g.fix.length q.s3.2,aC q.s4.1 o.g5.length q.s4.2,an am (o.main:ab)]
structure Ic (H:View) (q:rc) (o:sp):Prop where
 aI:Sl rdStr 1 H q.s1.1 q.s1.2 o.aI
 code:Sl kf 3 H q.s2.1 q.s2.2 o.g.code
 fix:Sl No 3 H q.s3.1 q.s3.2 o.g.fix
 g5:Sl rb 1 H q.s4.1 q.s4.2 o.g5
def Ie:rc:=⟨(ak,0),(ak,0),(ak,0),(ak,0)⟩
def Nt (H:View):Ic H Ie Bi:=⟨Sl.nil,Sl.nil,Sl.nil,Sl.nil⟩
def Nu:∀{l:I bT} {i:Z} {x:bT},l[i]? = aa x->mO (l.take<|i+1)=mO (l.take i)+zh x/\mO (l.take<|i+1)<=mO l| [],_,_,h=>by simp at h| y::r,0,x,h=>by simp at h;subst h;simp [mO]| y::r,i+1,x,h=>by obtain ⟨a,b⟩:=Nu (l:=r) (i:=i) (by simpa using h);simp only [qc,mO];omega
def Vo {l:I bT}  {x:bT} (h:l[ae]? = aa x) (g:Gs):gN (l.take<|ae+1) g=((gN (l.take ae) g).1++[(gN (l.take ae) g).2.code.length],qA x.params x.locals x.body (gN (l.take ae) g).2):=by rw [hP,h];exact Nl _ _ _
def Nv (h:h8 dM aP gA 1=ac):tz gA:=by unfold h8 at h;exact ⟨dM,aP,1,(gj.1 (gj.1 h).2).2⟩
def Nw:∀l:I bT,l.length<=mO l| []=>de _| s::r=>by have:=Nw r;simp only [eL,mO,zh];omega
def Nx (u:cD):uG u=1+u.nm.length+wN u.aI+mO u.parts+jL u.main:=rfl
def Vp {u:cD} (h:sq u=ac):(∀p ∈ u.parts,tz p.body)/\tz u.main:=by obtain ⟨a,b,_,_⟩:=Ej h;exact ⟨λp c=>Nv (H4<|a p c).2.2.2.2,Nv b⟩
end Go.Bw
end
section
namespace Go.Bw
open Go
def Rz.all {b α:Type} (r:Rz b α) (p:α->b->Prop) (q:Wm->Prop):Prop:=match r with| .ok a s=>p a s| .ov _ w=>q w
variable {Bk:Wm->Prop}
def Rz.all_bind {b α β:Type} {r:Rz b α} {f:α->b->Rz b β} {p:β->b->Prop}  (h:r.all (λa s=>(f a s).all p Bk) Bk):(r.bind f).all p Bk:=by cases r with| ok a s=>exact h| ov e w=>exact h
def Rz.h_ {b α:Type} {r:Rz b α} {p c:α->b->Prop} {q d:Wm->Prop} (h:r.all p q) (f:∀a s,p a s->c a s) (g:∀w,q w->d w):r.all c d:=by cases r with| ok a s=>exact f _ _ h| ov e w=>exact g _ h
def Rz.Ny {α:Type} {r:Rz Wm α} {f:Fm} {p:α->Fm->Prop}  (h:r.all (λa w=>p a { f with w:=w }) Bk):(Rz.fr f r).all p Bk:=by cases r with| ok a s=>exact h| ov e w=>exact h
structure Kw (P:Env) (w w':Wm):Prop where
 bY:w.bY<=w'.bY
 a5:w.bY<=P.a5->w'.bY<=P.a5
 len:w'.data.length=w.data.length
 out:w.out.length<=200->w'.out.length<=200
 pre:w.out <+: w'.out
structure Kp (P:Env) (w w':Wm):Prop extends Kw P w w' where
 calls:w'.calls=w.calls
section
variable {P:Env} {a b c:Wm}
def Kw.refl (P:Env) (a:Wm):Kw P a a:=⟨eC _,id,rfl,id,AC⟩
def Kw.trans (h:Kw P a b) (k:Kw P b c):Kw P a c:=⟨qa h.bY k.bY,λx=>k.a5<|h.a5 x,k.len.trans h.len,λx=>k.out<|h.out x,h.pre.trans k.pre⟩
def Kp.refl (P:Env) (a:Wm):Kp P a a:=⟨Kw.refl P a,rfl⟩
def Kp.trans (h:Kp P a b) (k:Kp P b c):Kp P a c:=⟨h.toKw.trans k.toKw,k.calls.trans h.calls⟩
abbrev RK {α:Type} (P:Env) (w:Wm) (r:Rz Wm α):Prop:=r.all (λ_ a=>Kp P w a)<|Kw P w
variable {bW:Type}
def RK.ok (v:bW) (w:Wm):RK P w<|.ok v w:=Kp.refl P w
def RK.ov {α:Type} (e:ab) (w:Wm):RK (α:=α) P w<|.ov e w:=Kw.refl P w
variable {ju:Type} {jv:Rz Wm bW}
def RK.bind {w:Wm}  {f:bW->Wm->Rz Wm ju} (h:RK P w jv) (k:∀v a,RK P a (f v a)):RK P w<|jv.bind f:= Rz.all_bind<|Rz.h_ h (λv a c=>Rz.h_ (k v a) (λ_ _ b=>c.trans b) λ_ b=>c.toKw.trans b) λ_ h=>h
abbrev EK (P:Env) (k:Ev):Prop:=∀loc w,RK P w (k loc w)
abbrev CK (P:Env) (call:Cl):Prop:=∀u loc body w,RK P w (call u loc body w)
def Nz (w:Wm):RK P w<|nc P w:=by
 unfold nc;split;·exact .ov _ _
 ·rename_i h;exact ⟨⟨Z.le_succ _,λa=>by show w.bY+1<=P.a5;omega,O,id,AC⟩,O⟩
variable {su:I Ev}
def Bl (h:∀k ∈ su,EK P k) (i:Z):EK P<|kz su i:=λloc w=>by unfold kz;cases a:su[i]? with| none=>exact .ok _ _| some k=>exact h k (dJ a) loc w
def NA:∀{ks:I Ev},(∀k ∈ ks,EK P k)->∀loc w,RK P w (nF loc ks w)| [],_,_,w=>.ok _ w| k::r,h,loc,w=>(h k aG loc w).bind λv a=>(NA (λx b=>h x (by simp [b])) loc a).bind λ_ c=>.ok _ c
def NB {k:Ev} (h:EK P k) (n:ab) (loc:I ab) (w:Wm):RK P w<|tu n k loc w:=(h loc w).bind λi a=>by
 split;·exact .ov _ _
 ·exact .ok _ _
variable {h0:Cl}
def NC (a:CK P h0)  (h:∀k ∈ su,EK P k) (u:Z) (m pl:ab) (loc:I ab) (w:Wm):RK P w<|q8 P h0 u m pl su loc w:=by
 unfold q8;split;·exact (NA h loc w).bind λvs b=>a _ _ _ _
 ·exact .ok _ _
def Vq (op a b:ab) (w:Wm):RK P w<|qv op a b w:=by
 unfold qv;repeat' split
 all_goals first|exact .ok _ _|exact .ov _ _
def Vr (f:CK P h0)  (h:∀k ∈ su,EK P k) (u:Z) (op n m pl:ab) (loc:I ab) (w:Wm):RK P w<|cR P h0 u op n m pl su loc w:=by
 unfold cR;have c:=Bl h 0;have e:=Bl h 1;split;·exact .ok _ _
 ·split
  ·split;·exact .ok _ _
   ·exact ⟨⟨eC _,id,O,id,AC⟩,O⟩
  ·split;·exact .ok _ _
   ·split;·exact .ok _ _
    ·split;·exact (NB c n loc w).bind λ_ _=>.ok _ _
     ·split;·exact NC f h u m pl loc w
      ·split;·exact (c loc w).bind λ_ _=>.ok _ _
       ·split
        ·exact (c loc w).bind λv d=>by
          split;·exact .ok _ _
          ·exact (e loc d).bind λ_ _=>.ok _ _
        ·split
         ·exact (c loc w).bind λv d=>by
           split;·exact (e loc d).bind λ_ _=>.ok _ _
           ·exact .ok _ _
         ·exact (c loc w).bind λa d=>(e loc d).bind λb g=>Vq op a b g
mutual
def ND (a:CK P h0) (u:Z):∀x,EK P (gb P h0 u x)| .mk op n m pl args=>λloc w=>by rw [gb];exact Vr a (If a u args) u op n m pl loc w
def If (b:CK P h0) (u:Z):∀l,∀k ∈ iH P h0 u l,EK P k
 | []=>by rw [iH];simp
 | x::r=>λk a=>by
  rw [iH] at a;rcases eZ.1 a with rfl | a;·exact ND b u x
  ·exact If b u r k a
end
abbrev FK {α:Type} (P:Env) (f:Fm) (r:Rz Fm α):Prop:=r.all (λ_ a=>Kp P f.w a.w/\a.loc.length=f.loc.length)<|Kw P f.w
def FK.ok (v:bW) (f:Fm):FK P f<|.ok v f:=⟨Kp.refl P f.w,rfl⟩
def FK.vn (v:bW) {f a:Fm} (h:Kp P f.w a.w) (b:a.loc.length=f.loc.length):FK P f<|.ok v a:=⟨h,b⟩
variable {ly:Fm}
def FK.bind {r:Rz Fm bW} {g:bW->Fm->Rz Fm ju} (h:FK P ly r) (k:∀v a,FK P a (g v a)):FK P ly<|r.bind g:= Rz.all_bind<|Rz.h_ h (λv a c=>Rz.h_ (k v a) (λ_ _ b=>⟨c.1.trans b.1,b.2.trans c.2⟩) λ_ b=>c.1.toKw.trans b) λ_ h=>h
def FK.fr (h:RK P ly.w jv):FK P ly<|Rz.fr ly jv:=Rz.Ny<|Rz.h_ h (λ_ _ h=>⟨h,rfl⟩) λ_ h=>h
def NE {c:Fm->Rz Fm ab} {b:Fm->Rz Fm aQ} (a:∀f,FK P f (c f)) (d:∀f,FK P f (b f)):∀n f,FK P f (qw P c b n f)
 | 0,f=>.ok _ f
 | n+1,f=>(a f).bind λv e=>by
  split;·exact .ok _ _
  ·exact (FK.fr<|Nz e.w).bind λ_ g=>(d g).bind λt h=>by
    split;·exact .ok _ _
    ·exact NE a d n h
def VT (v:ab) (w:Wm):RK P w<|Eg v w:=by
 unfold Eg;split;·exact .ov _ _
 ·rename_i h;exact ⟨⟨eC _,id,O,λa=>by show (w.out++[v]).length<=200;rw [e_,n_];omega,I.prefix_append _ _⟩,O⟩
def Vt (d:CK P h0)  (h:∀k ∈ su,EK P k) {body other:Fm->Rz Fm aQ} (c:∀f,FK P f (body f)) (e:∀f,FK P f (other f)) (u:Z) (op n m pl:ab) (f:Fm):FK P f<|sk P h0 u op n m pl su body other f:=by
 unfold sk;have b:∀f:Fm,FK P f (Rz.fr f<|kz su 0 f.loc f.w):=λf=>FK.fr<|Bl h 0 f.loc f.w;have g:∀f:Fm,FK P f (Rz.fr f<|kz su 1 f.loc f.w):=λf=>FK.fr<|Bl h 1 f.loc f.w;split
 ·refine (b f).bind λv a=>?_;split;·exact FK.vn _ (Kp.refl P _) aG
  ·exact FK.vn _ ⟨⟨eC _,id,aG,id,AC⟩,O⟩ O
 ·split;·exact (FK.fr<|NB (Bl h 0) n f.loc f.w).bind λi a=>(g a).bind λv j=>FK.vn _ ⟨⟨eC _,id,aG,id,AC⟩,O⟩ O
  ·split;·exact (FK.fr<|NC d h u m pl f.loc f.w).bind λ_ a=>.ok _ _
   ·split
    ·refine (b f).bind λv a=>?_;split;·exact e a
     ·exact c a
    ·split;·exact NE b c _ f
     ·split;·exact (b f).bind λv a=>FK.vn _ (Kp.refl P _) O
      ·split;·exact (b f).bind λv a=>(FK.fr<|VT v a.w).bind λ_ j=>.ok _ _
       ·exact .ok _ _
mutual
def Vu (a:CK P h0) (u:Z):∀x f,FK P f (o_ P h0 u x f)| .mk op n m pl args body other,f=>by rw [o_];exact Vt a (If a u args) (Bm a u body) (Bm a u other) u op n m pl f
def Bm (a:CK P h0) (u:Z):∀l f,FK P f (jr P h0 u l f)
 | [],f=>by rw [jr];exact .ok _ _
 | x::r,f=>by
  rw [jr];exact (Vu a u x f).bind λt b=>by
   split;·exact .ok _ _
   ·exact Bm a u r b
end
def Ig:∀d,CK P (dB P d)
 | 0=>λ_ _ _ w=>.ok _ w
 | d+1=>λu loc body w=>by
  unfold dB;refine (Nz w).bind λ_ b=>?_;split;·exact .ov _ _
  ·have h:=Bm (Ig d) u body ⟨loc,0,{ b with calls:=b.calls+1 }⟩;cases c:jr P (dB P d) u body ⟨loc,0,{ b with calls:=b.calls+1 }⟩ with| ok t f=>rw [c] at h;have a:Kp P { b with calls:=b.calls+1 } f.w:=h.1;exact ⟨⟨a.bY,a.a5,a.len,a.out,a.pre⟩,by show f.w.calls-1=b.calls;have:=a.calls;simp at this;omega⟩| ov e g=>rw [c] at h;have a:Kw P { b with calls:=b.calls+1 } g:=h;exact ⟨a.bY,a.a5,a.len,a.out,a.pre⟩
end
end Go.Bw
end
section
namespace Go.Bw
open Go
variable {dM:I e8} {aP cp hZ mQ mq:ab} {ae:Z}
def Vv (h:node1 dM aP cp hZ mQ mq ae=ac):(cp=3->k6 dM mQ mq 1=ac)/\(cp=4->(1<=hZ/\hZ<=32)/\k6 dM mQ mq hZ=ac)/\(cp=5->mL dM mQ mq ae=ac)/\(cp=16->0<=mq/\mq<aP):=by
 refine ⟨λe=>?_,λe=>?_,λe=>?_,λe=>?_⟩;·subst e;rw [node1,ao a',aU rfl] at h;exact (gj.1 h).2
 ·subst e;rw [node1,ao a',ao a',aU rfl] at h;obtain ⟨a,b⟩:=gj.1 h;exact ⟨by simpa [se] using (gj.1 a).1,b⟩
 ·subst e;rw [node1,ao a',ao a',ao a',aU rfl] at h;exact (gj.1 h).2
 ·subst e;rw [node1,ao a',ao a',ao a',ao a',aU rfl] at h;simpa [ko] using (gj.1 h).2
def Vw (h:k6 dM aP cp hZ=ac):0<=aP:=by cases a:om dM aP cp with| true=>rw [tw hZ a] at h;cases h| false=>obtain ⟨⟨b,e,_⟩,_⟩:=uk a;omega
variable {aH aK:Z}
def Vx (h:h7 dM aP cp hZ mQ mq ae aH aK=ac):(cp=1->(mQ<0->0<=mq/\mq<aP)/\(¬mQ<0->k6 dM mQ mq 1=ac))/\(cp=2->(1<=hZ/\hZ<=32)/\k6 dM mQ mq hZ=ac)/\(cp=3->mL dM mQ mq ae=ac):=by
 refine ⟨λe=>?_,λe=>?_,λe=>?_⟩
 ·subst e;rw [h7,aU rfl] at h;have b:=(gj.1 h).2;rcases Gp.1 b with a | a
  ·obtain ⟨c,f⟩:=gj.1 a;have c:mQ = -1:=by simpa using c
   exact ⟨λ_=>by simpa [ko] using f,λd=>absurd aj d⟩
  ·have:=Vw a;exact ⟨λd=>absurd this aj,λ_=>a⟩
 ·subst e;rw [h7,ao a',aU rfl] at h;obtain ⟨g,b⟩:=gj.1 h;exact ⟨by simpa [se] using (gj.1 g).2,b⟩
 ·subst e;rw [h7,ao a',ao a',aU rfl] at h;exact (gj.1 h).2
variable {bW ju uK:Type} {vw:Rz bW ju} {Ih:ju->bW->Rz bW uK} {hg:bW}
def gO {a:ju}  (h:vw = .ok a hg):vw.bind Ih=Ih a hg:=by rw [h];rfl
variable {h9:Wm}
def jM (h:vw = .ov aP h9):vw.bind Ih = .ov aP h9:=by rw [h];rfl
variable {jv:Rz Wm bW} {ly:Fm}
def mr (h:jv = .ok hg h9):Rz.fr ly jv = .ok hg { ly with w:=h9 }:=by rw [h];rfl
def sv (h:jv = .ov aP h9):Rz.fr ly jv = .ov aP h9:=by rw [h];rfl
variable {hB:Env} {h0:Cl} {bi:I e3} {dt:e3}
def nG (h:bi[aH]? = aa dt):kz (iH hB h0 ae bi) aH=gb hB h0 ae dt:=by unfold kz;rw [Nd,gh,h];rfl
def dR (h:iT dM aP bi ae=ac) (a:bi[aH]? = aa dt):lV dM aP dt ae=ac:=by rw [Bb] at h;exact gw.1 h dt<|dJ a
def Vy (h:lV dM aP dt ae=ac):node1 dM aP dt.op dt.n dt.m dt.pl dt.args.length=ac/\iT dM aP dt.args (ae+1)=ac:=by rw [HG] at h;exact gj.1 (gj.1 h).2
variable {gA:I ep} {gM:ep}
def Vz (h:je dM aP gA ae=ac) (a:gA[aH]? = aa gM):mm dM aP gM ae=ac:=by rw [Ec] at h;exact gw.1 h gM<|dJ a
def Ii (h:h8 dM aP gA ae=ac):je dM aP gA ae=ac:=by unfold h8 at h;exact (gj.1 (gj.1 h).2).2
def VA (h:mm dM aP gM ae=ac):h7 dM aP gM.op gM.n gM.m gM.pl gM.args.length gM.body.length gM.other.length=ac/\iT dM aP gM.args 1=ac/\(gM.op=4\/gM.op=5->je dM aP gM.body (ae+1)=ac)/\je dM aP gM.other (ae+1)=ac:=by
 rw [HH] at h;obtain ⟨d,b⟩:=gj.1 h;obtain ⟨b,a⟩:=gj.1 b;obtain ⟨a,c⟩:=gj.1 a;refine ⟨d,b,λe=>?_,?_⟩;·rw [show sf gM.op=ac from by unfold sf;rcases e with e | e<;>rw [e]<;>decide] at a;exact Ii (by simpa using a)
 ·cases f:gM.other with| nil=>rw [je]| cons y r=>rw [f] at c;exact Ii (by simpa using c)
def NF (loc:I ab) (w:Wm) (h:bi[aH]? = aa dt):nF loc (iH hB h0 ae<|bi.drop aH) w=(gb hB h0 ae dt loc w).bind λv w=>(nF loc (iH hB h0 ae<|bi.drop<|aH+1) w).bind λvs w=>.ok (v::vs) w:=by obtain ⟨a,b⟩:=c_.1 h;rw [nZ a,b,iH];rfl
variable {fo vX:I ab} {zn:Rz Wm<|I ab}
def VB {w a:Wm}  (h:zn=(nF fo (iH hB h0 ae<|bi.drop aH) w).bind λvs w=>.ok (vX++vs) w) (b:bi[aH]? = aa dt) (c:gb hB h0 ae dt fo w = .ok aP a) : zn=(nF fo (iH hB h0 ae<|bi.drop<|aH+1) a).bind λvs w=>.ok ((vX++[aP])++vs) w:=by rw [h,NF fo w b,gO c];cases nF fo (iH hB h0 ae<|bi.drop<|aH+1) a with| ok vs d=>show Rz.ok _ _=Rz.ok _ _;simp| ov e d=>rfl
def VC {w a:Wm}  (h:zn=(nF fo (iH hB h0 ae<|bi.drop aH) w).bind λvs w=>.ok (vX++vs) w) (b:bi[aH]? = aa dt) (c:gb hB h0 ae dt fo w = .ov aP a):zn = .ov aP a:=by rw [h,NF fo w b,jM c];rfl
def VD {loc pre:I ab}  {w:Wm} (h:zn=(nF loc (iH hB h0 ae<|bi.drop aH) w).bind λvs w=>.ok (pre++vs) w) (hi:bi.length<=aH):zn = .ok pre w:=by rw [h,wX hi,iH];show Rz.ok _ _=_;simp
def VE {w:Wm}:nF fo (iH hB h0 ae bi) w=(nF fo (iH hB h0 ae<|bi.drop 0) w).bind λvs w=>.ok ([]++vs) w:=by rw [I.drop_zero];cases nF fo (iH hB h0 ae bi) w with| ok vs a=>rfl| ov e a=>rfl
def NG {a:cD} {p:bT} (b:hB.mod ae aP=aH) (c:cp=aK) (d:hB.l[aH]? = aa a) (e:a.parts[aK]? = aa p) (ks:I Ev) (loc:I ab) (w:Wm) : q8 hB h0 ae aP cp ks loc w=(nF loc ks w).bind λvs w=>h0 aH (vs++gI p.locals.toNat 0) p.body w:=by unfold q8;rw [b,d,c,m4];show (match a.parts[aK]? with| aa p=>_| ak=>_)=_;rw [e]
def VF (a:fo.length=aH) (b:aH<ae):(fo++gI (ae-aH) 0)[aH]? = aa 0:=by rw [r4 aj,Gq,aU aj]
def VG (v:ab) (a:fo.length=aH) (b:aH<ae):(fo++gI (ae-aH) 0).set aH v=(fo++[v])++gI (ae-(aH+1)) 0:=by rw [CZ _ _ aj,show ae-aH=(ae-(aH+1))+1 by omega,C2,show aH-fo.length=0 by omega];simp
def zo {l:I cD} (h:sm l):eF l<=512:=by
 rcases Nh h.data with ⟨_,a⟩ | a;·omega
 ·subst a;decide
end Go.Bw
end
section
namespace Go.Bw
open Go
variable {be:I a7}
def NH:∀{l r:I<|I a7} {s:Z},be ∈ l->idxOf be (l++r) s=idxOf be l s
 | [],_,_,h=>by simp at h
 | y::q,r,s,h=>by
  rw [hx,idxOf,idxOf];by_cases e:y=be;·rw [aU e,aU e]
  ·rw [ao e,ao e,NH (l:=q)];rcases eZ.1 h with h | h;·exact absurd h.symm e
   ·exact h
variable {db:I<|I a7} {ae:Z}
def VH (h:be ∈ db.take ae):idxOf be (db.take ae) 0=idxOf be db 0:=by conv=>rhs; rw [<-qb ae db,NH h]
def vH {n:Z} (h:be ∉ db) (a:db.length=n):bB be (an am (n:ab)) (iV db 0) n=iV (db++[be]) 0/\jG be (iV db 0) n=n+1:=by
 subst a;have b:dU be (iV db 0) 0=ak:=by have:=Ee be db 0 0;rw [tq.2 h] at this;simpa using this
 unfold bB jG;rw [b,D7];simp
def NI (c:db.Nodup) (b:db[ae]? = aa be):be ∉ db.take ae:=λd=>by
 obtain ⟨j,a⟩:=ls d;rw [b8] at a;split at a;·rename_i e;have hi:=(c_.1 b).1;have:=(s9 hi c).1<|b.trans a.symm;omega
 ·cases a
def mR (l:I cD) (s:I a7):Z:=(idxOf s (bh l) 0).getD 0
variable {ck:I cD} {dS:cD}
def Ij (h:ck[ae]? = aa dS):(qx ck).take (ae+1)=(qx ck).take ae++[ae::dS.aI.map (mR ck)]:=by rw [hP,xw h];rfl
def NJ:∀{l:I cD} {s i:Z} {u:cD},l[i]? = aa u->(k9 l s)[i]? = aa (s+eF (l.take i))| [],_,_,_,h=>by simp at h| x::r,s,0,u,h=>by simp [k9,eF]| x::r,s,i+1,u,h=>by rw [k9,lM,NJ (l:=r) (by simpa using h),qc];simp only [eF];congr 1;omega
def VI (h:ck[ae]? = aa dS):(k9 ck 0).take (ae+1)=(k9 ck 0).take ae++[eF<|ck.take ae]:=by rw [hP,NJ h,k0];rfl
def NK:∀{l:I cD} {i:Z} {u:cD},l[i]? = aa u->eF (l.take<|i+1)=eF (l.take i)+u.data.toNat| [],_,_,h=>by simp at h| x::r,0,u,h=>by simp at h;subst h;simp [eF]| x::r,i+1,u,h=>by rw [qc,qc,eF,eF,NK (l:=r) (by simpa using h)];omega
def NL:∀(l:I cD) (i:Z),eF (l.take i)<=eF l| [],i=>by simp| x::r,0=>by simp [eF]| x::r,i+1=>by rw [qc,eF,eF];have:=NL r i;omega
variable {hB:Env}
def NM (w:Wm) (h:ck[ae]? = aa dS):ha hB (ck.drop ae) ae w=(dB hB 25 ae [] dS.main w).bind λ_ w=>ha hB (ck.drop<|ae+1) (ae+1) w:=by obtain ⟨a,b⟩:=c_.1 h;rw [nZ a,b,ha]
def VJ (w:Wm) (h:ck.length<=ae):ha hB (ck.drop ae) ae w = .ok () w:=by rw [wX h,ha]
def rf (l:I cD) (bI:I ab) (bY:ab):jg:=if q9 l bI bY=0 then H1 l bI bY.toNat else Eh
variable {fo:I ab} {aP:ab}
def Ik (h:q9 ck fo aP≠0):rf ck fo aP=Eh:=ao h
def uL (l:I cD) (bI:I ab):Wm:=⟨gI (eF l) 0,bI,[],0,0⟩
variable {h9:Wm}
def VU {x:dT} (h:q9 ck fo aP=0) (a:ha (bj ck aP.toNat) ck 0 (uL ck fo) = .ok x h9):rf ck fo aP=zg h9 0:=by unfold rf H1;rw [aU h,show (⟨gI (eF ck) 0,fo,[],0,0⟩:Wm)=uL ck fo from rfl,a]
def VL {e:ab} (h:q9 ck fo aP=0) (a:ha (bj ck aP.toNat) ck 0 (uL ck fo) = .ov e h9):rf ck fo aP=zg h9 e:=by unfold rf H1;rw [aU h,show (⟨gI (eF ck) 0,fo,[],0,0⟩:Wm)=uL ck fo from rfl,a]
abbrev XI:=I Z×(az a0×Z)
def XI.cells (e:XI):I aT:=[aC e.2.1 e.1.length e.2.2]
def XI.dA (e:XI):(XI.cells e).length=1:=rfl
structure KW where
 l:az a0×Z
 u:az a0×Z
 b:az a0×Z
structure fB where
 w:Wm
 i:az a0×Z
 o:az a0×Z
 d:az a0×Z
def ng (T:b_) (a:KW) (P:Env) (s:fB):Obj:=aM #[aC a.l.1 P.l.length a.l.2,aC a.u.1 P.aI.length a.u.2,aC a.b.1 P.kC.length a.b.2,aC s.i.1 s.w.bI.length s.i.2,an am (P.a5:ab),an am (s.w.calls:ab),an am 0,aC s.o.1 s.w.out.length s.o.2,aC s.d.1 s.w.data.length s.d.2,an am (s.w.bY:ab)] T (0,0)
abbrev ez (T a:b_) (b:Z) (c:KW) (P:Env) (s:fB):I bc:=[aJ b<|ng T c P s,cO a 1 hY s.o.1 s.o.2 s.w.out,cO a 1 hY s.d.1 s.d.2 s.w.data]
def vY (T:b_) (a u:Z) (x:az a0×Z) (n:Z) (v:ab):Obj:=aM #[b0 (aa ⟨a,0,ak⟩),an am (u:ab),aC x.1 n x.2,an am v] T (0,0)
abbrev gY (T a:b_) (b c u:Z) (x:az a0×Z) (loc:I ab) (v:ab):I bc:=[aJ b<|vY T c u x loc.length v,cO a 1 hY x.1 x.2 loc]
def nH (T:b_) (e:ab):I nW:=[⟨.iface T<|bU #[an am e],au,au⟩]
def NN (H:View) (b o:Z) (x:I Z):Prop:=∃r:az a0×Z,ct H b o [aC r.1 x.length r.2]/\Sl rb 1 H r.1 r.2 x
structure j3 (H:View) (P:Env) (D C:Z) (s:fB):Prop where
 bI:Sl hn 1 H s.i.1 s.i.2 s.w.bI
 out:s.w.out.length<=200
 tk:s.w.bY<=P.a5
 hb:s.w.data.length=D
 cl:s.w.calls=C
structure iq (H:View) (n:Z) (K:KW) (l:I cD) (a5:Z):Prop where
 ok:sm l
 a5:a5<=2000
 VM:Sl (Bf n) 5 H K.l.1 K.l.2 l
 aI:Sl NN 1 H K.u.1 K.u.2<|qx l
 kC:Sl rb 1 H K.b.1 K.b.2<|k9 l 0
def Il:∀(l:I cD) (s:Z),(k9 l s).length=l.length| [],_=>rfl| u::r,s=>by rw [k9,eL,eL,Il r]
def NO (l:I cD):(qx l).length=l.length:=by simp [qx]
def XI.one (e:XI):(XI.cells e).all (·.oneCell')=ac:=rfl
def NP (H:View) (b o:Z) (e:XI):Prop:=ct H b o<|XI.cells e
def rh (J:View) (e:XI):Prop:=Sl rb 1 J e.2.1 e.2.2 e.1
variable {bt bX:View}
def NQ (hv:cV bt bX) (b o:Z) (x:Z) (h:rb bt b o x):rb bX b o x:=ct.mono hv h
def rh.mv {e:XI} (hv:cV bt bX) (h:rh bt e):rh bX e:=Sl.imp (λb o x h=>NQ hv b o x h) h
def VN {H J N:View}  {a:az a0} {es:I XI} (h:Sl NP 1 H a ae es) (hv:cV H N) (c:cV J N) (d:Xs rh J es):Sl NN 1 N a ae (es.map (·.1)):= xp h d λb o e f g=>⟨e.2,ct.mono hv f,rh.mv c g⟩
def Im (T:b_) (a us b c:aT) (a5:ab) (hb:aT):Obj:=aM #[a,us,b,c,an am a5,an am 0,an am 0,aC ak 0 0,hb,an am 0] T (0,0)
def VO (T:b_) (e:ab) (s:fB):Obj:=aM #[an am e,aC s.o.1 s.w.out.length s.o.2,aC s.d.1 s.w.data.length s.d.2,an am (s.w.bY:ab)] T (0,0)
structure vW where
 i:Z
 es:I XI
 ua:az a0×Z
 ba:az a0×Z
 J:View
def VP (hv:cV bt bX) (n:Z) (b o:Z) (u:cD) (h:Bf n bt b o u):Bf n bX b o u:=by obtain ⟨r,a,c⟩:=h;exact ⟨r,ct.mono hv a,c.mv hv⟩
def VQ (R:jg) (r:(az a0×Z)×(az a0×Z)):aT:=bU #[an am R.fin,aC r.1.1 R.out.length r.1.2,aC r.2.1 R.data.length r.2.2,an am R.bY]
end Go.Bw
end
section
namespace Go.Bw
open Go
def Sm {b α:Type} (g:b->b->Prop) (h:Wm->Wm->Prop) (X:Prop) (o:b->I ab) (i c:Rz b α):Prop:=match i with| .ok a s1=>∃s2,c = .ok a s2/\g s1 s2| .ov e d=>(∃f,c = .ov e f/\h d f)\/(X/\e=3/\c.all (λ_ s=>d.out <+: o s) (λw=>d.out <+: w.out))
def NR (w:Wm):Rz Wm ab:=match w.bI with| []=>.ok 0 w| x::r=>.ok x { w with bI:=r }
structure VR (P1 P2:Env) (E G:Wm->Wm->Prop) (X:Prop):Prop where
 l:P1.l=P2.l
 aI:P1.aI=P2.aI
 kC:P1.kC=P2.kC
 eg:∀{a b},E a b->G a b
 data:∀{a b},E a b->a.data=b.data
 out:∀{a b},E a b->a.out=b.out
 calls:∀{a b},E a b->a.calls=b.calls
 tk:∀{a b},E a b->a.bY=b.bY/\a.bY<=P1.a5/\P1.a5<=P2.a5
 tick:∀{a b},E a b->Sm E G X (·.out) (nc P1 a) (nc P2 b)
 read:∀{a b},E a b->Sm E G X (·.out) (NR a) (NR b)
 afQ:∀{a b} d,E a b->E { a with data:=d } { b with data:=d }
 afR:∀{a b} d,E a b->E { a with out:=d } { b with out:=d }
 afS:∀{a b} d,E a b->E { a with calls:=d } { b with calls:=d }
section
variable {P1 P2:Env} {E G:Wm->Wm->Prop} {X:Prop}
abbrev SW {α:Type} (a b:Wm->Wm->Prop) (X:Prop) (c d:Rz Wm α):Prop:=Sm a b X (·.out) c d
structure EF (E:Wm->Wm->Prop) (f g:Fm):Prop where
 loc:f.loc=g.loc
 val:f.val=g.val
 w:E f.w g.w
abbrev SF {α:Type} (a b:Wm->Wm->Prop) (X:Prop) (c d:Rz Fm α):Prop:=Sm (EF a) b X (·.w.out) c d
variable {bW ju:Type} {jv vZ:Rz Wm bW}
def SW.bind (f:Env)   {c b:bW->Wm->Rz Wm ju} (h:SW E G X jv vZ) (k:∀a s1 s2,E s1 s2->SW E G X (c a s1) (b a s2)) (m:∀a s,RK f s (b a s)):SW E G X (jv.bind c)<|vZ.bind b:=by
 cases jv with
 | ok a s1=>obtain ⟨s2,rfl,g⟩:=h;exact k a s1 s2 g
 | ov e p=>
  rcases h with ⟨i,rfl,j⟩ | ⟨l,n,o⟩;·exact bA ⟨i,O,j⟩
  ·refine bl ⟨l,n,Rz.all_bind<|Rz.h_ o (λa s d=>?_) λ_ h=>h⟩;exact Rz.h_ (m a s) (λ_ _ h=>d.trans h.pre) λ_ h=>d.trans h.pre
def SF.bind (i:Env)  {b c:Rz Fm bW} {f d:bW->Fm->Rz Fm ju} (h:SF E G X b c) (k:∀a s1 s2,c = .ok a s2->EF E s1 s2->SF E G X (f a s1) (d a s2)) (m:∀a s,FK i s (d a s)):SF E G X (b.bind f)<|c.bind d:=by
 cases b with
 | ok a s1=>obtain ⟨s2,rfl,j⟩:=h;exact k a s1 s2 rfl j
 | ov e r=>
  rcases h with ⟨l,rfl,n⟩ | ⟨o,p,q⟩;·exact bA ⟨l,O,n⟩
  ·refine bl ⟨o,p,Rz.all_bind<|Rz.h_ q (λa s g=>?_) λ_ h=>h⟩;exact Rz.h_ (m a s) (λ_ _ h=>g.trans h.1.pre) λ_ h=>g.trans h.pre
variable {ly tC:Fm}
def SF.fr (h:SW E G X jv vZ) (b:EF E ly tC):SF E G X (Rz.fr ly jv)<|Rz.fr tC vZ:=by
 cases jv with
 | ok a s1=>obtain ⟨s2,rfl,c⟩:=h;exact ⟨_,rfl,b.loc,b.val,c⟩
 | ov e k=>
  rcases h with ⟨d,rfl,f⟩ | ⟨g,i,j⟩;·exact bA ⟨d,O,f⟩
  ·exact bl ⟨g,i,Rz.Ny<|Rz.h_ j ud λ_ h=>h⟩
variable {h9 rj:Wm}
def SW.ok (a:bW)  (h:E h9 rj):SW E G X (.ok a h9)<|.ok a rj:=⟨rj,rfl,h⟩
def SF.ok (a:bW)  (h:EF E ly tC):SF E G X (.ok a ly)<|.ok a tC:=⟨tC,rfl,h⟩
def SW.ov {α:Type} (S:VR P1 P2 E G X) (e:ab)  (h:E h9 rj):SW (α:=α) E G X (.ov e h9)<|.ov e rj:=bA ⟨rj,rfl,S.eg h⟩
structure EE (P2:Env) (E G:Wm->Wm->Prop) (X:Prop) (k1 k2:Ev):Prop where
 go:∀loc {a b},E a b->SW E G X (k1 loc a) (k2 loc b)
 kp:EK P2 k2
structure CC (P2:Env) (E G:Wm->Wm->Prop) (X:Prop) (c1 c2:Cl):Prop where
 go:∀u loc body {a b},E a b->SW E G X (c1 u loc body a) (c2 u loc body b)
 kp:CK P2 c2
inductive KE (P2:Env) (E G:Wm->Wm->Prop) (X:Prop):I Ev->I Ev->Prop where
 | nil:KE P2 E G X [] []
 | cons {x y:Ev} {r q:List Ev} (h:EE P2 E G X x y) (t:KE P2 E G X r q):KE P2 E G X (x::r)<|y::q
def KE.kp:∀{b a:I Ev},KE P2 E G X b a->∀k ∈ a,EK P2 k
 | _,_,.nil,k,h=>by simp at h
 | _,_,.cons c d,k,h=>by
  rcases eZ.1 h with rfl | h;·exact c.kp
  ·exact KE.kp d k h
def KE.kz:∀{c d:I Ev},KE P2 E G X c d->∀i,EE P2 E G X (kz c i) (kz d i)| _,_,.nil,i=>⟨λloc a b h=>SW.ok _ h,λloc w=>.ok _ _⟩| _,_,.cons e f,0=>e| _,_,.cons e f,i+1=>KE.kz f i
structure AA (P2:Env) (E G:Wm->Wm->Prop) (X:Prop) (b1 b2:Fm->Rz Fm aQ):Prop where
 go:∀{f g},EF E f g->SF E G X (b1 f) (b2 g)
 kp:∀f,FK P2 f (b2 f)
end
end Go.Bw
end
section
namespace Go.Bw
open Go
structure afV (a5:Z) (a b:Wm):Prop where
 data:a.data=b.data
 out:a.out=b.out
 bY:a.bY=b.bY
 calls:a.calls=b.calls
 tl:a.bY<=a5
 bI:b.bI=a.bI++[0]\/(a.bI=[]/\b.bI=[])
end Go.Bw
end
section
namespace Go.Bw
open Go
structure Ren (l l':I cM) (f:Z->Z):Prop where
 len:l'.length=l.length
 inv:∀k,f (f k)=k
 lt:∀k,k<l.length->f k<l.length
 get:∀k,k<l.length->l'[f k]? = l[k]?
variable {jN:Z->Z} {ae:Z}
def Ren.nm {l a:I cM}  (h:Ren l a jN)  (b:ae<l.length):iU a (jN ae)=iU l ae:=by unfold iU;rw [h.get ae b]
variable {aD mu:I cM}
def Ren.us (h:Ren aD mu jN)  (a:ae<aD.length):g9 mu (jN ae)=g9 aD ae:=by unfold g9;rw [h.get ae a]
def Ren.back (h:Ren aD mu jN):Ren mu aD jN:=⟨h.len.symm,h.inv,λk a=>by rw [h.len] at a ⊢;exact h.lt k a,λk a=>by rw [h.len] at a;have:=h.get (jN k)<|h.lt k a;rw [h.inv] at this;exact this.symm⟩
def Ren.mem (h:Ren aD mu jN) {m:cM} (b:m ∈ aD):m ∈ mu:=by obtain ⟨k,a⟩:=ls b;have c:=(c_.1 a).1;rw [<-h.get k c] at a;exact dJ a
def Ren.nodup (h:Ren aD mu jN) (g:(jf aD).Nodup):(jf mu).Nodup:=by
 unfold I.Nodup;rw [CY];intro i j hi a m e;rw [vR] at hi a;have f:iU mu i=iU mu j:=by have b:=zc<|dh hi;have c:=zc<|dh a;rw [dh (by rw [vR];exact hi)] at b;rw [dh (by rw [vR];exact a)] at c;injection b with b;injection c with c;rw [vQ<|dh hi,vQ<|dh a,<-b,<-c,e]
 have d:=h.back;rw [<-d.nm hi,<-d.nm a] at f;have k:=HL g (by have:=d.lt i hi;rw [h.len] at this;exact this) (by have:=d.lt j a;rw [h.len] at this;exact this) f;have l:=congrArg jN k;rw [h.inv,h.inv] at l;omega
def Ren.place (h:Ren aD mu jN) (c:(jf aD).Nodup) {s:I a7}  (d:ky aD s=aa ae):ky mu s=aa (jN ae):=by obtain ⟨a,e⟩:=M4 d;have b:=UD (h.nodup c) (i:=jN ae) (by rw [h.len];exact h.lt ae a);rw [h.nm a,e] at b;exact b
def Ren.ok (h:Ren aD mu jN) (a:uC aD):uC mu:= ⟨by rw [h.len];exact a.gu,λm b=>a.kq m<|h.back.mem b,h.nodup a.nd,λm b s c=>by obtain ⟨p,d⟩:=a.aI m (h.back.mem b) s c;exact ⟨jN p,h.place a.nd d⟩⟩
def Ren.contains (h:Ren aD mu jN) (d:I Z) (x:Z):(d.map jN).contains (jN x)=d.contains x:=by
 rw [lK];simp only [C3,py];constructor;·rintro ⟨y,a,e⟩;have:=congrArg jN e;rw [h.inv,h.inv] at this;rw [<-this];exact a
 ·exact λb=>⟨x,b,O⟩
def Ren.ready (h:Ren aD mu jN) (c:uC aD) (d:I Z)  (b:ae<aD.length):oo mu (d.map jN) (jN ae)=oo aD d ae:=by
 unfold oo;rw [h.contains,h.us b];congr 1;have key:∀u:I<|I a7,(∀s ∈ u,∃p,ky aD s=aa p)->u.all (mn mu<|d.map jN)=u.all (mn aD d):=by intro u;induction u with| nil=>intro _;rfl| cons s r g=>intro e;obtain ⟨p,f⟩:=e s aG;rw [yr,yr,g λs a=>e s (by simp [a])];congr 1;unfold mn;rw [f,h.place c.nd f];exact h.contains d p
 refine key _ λs a=>?_;rw [M5<|dh b] at a;exact c.aI _ (CX b) s a
def Ren.VV (h:Ren aD mu jN) (g:uC aD) {d:I Z} (k:k8 aD d):k8 mu<|d.map jN:=by
 induction k with
 | nil=>exact .nil
 | @snoc d b m a l=>
  rw [nY];refine .snoc l ⟨by rw [h.len];exact h.lt b a.lt,by rw [h.ready g d a.lt];exact a.ready,λi hi j=>?_⟩;rw [h.len] at hi;have c:=h.lt i hi;have e:jN (jN i)=i:=h.inv i;rw [<-e,h.ready g d c] at j;rcases a.least (jN i) c j with f | f;·left;rw [<-e,f]
  ·right;rw [h.nm a.lt,<-e,h.nm c];exact f
end Go.Bw
end
section
namespace Go.Bw
open Go
def qB (a b:I aQ):Prop:=∀j:Z,a[j]? = aa ac->b[j]? = aa ac
def qB.refl (a:I aQ):qB a a:=λ_ h=>h
def qB.count:∀{a b:I aQ},a.length=b.length->qB a b->a.count ac<=b.count ac/\(b.count ac<=a.count ac->a=b)
 | [],[],_,_=>⟨eC _,λ_=>rfl⟩| [],_::_,h,_=>by cases h| _::_,[],h,_=>by cases h
 | x::a,y::b,h,c=>by
  obtain ⟨d,f⟩:=qB.count (a:=a) (b:=b) (by simpa using h) λj g=>by simpa using c (j+1) (by simpa using g)
  have i:x=ac->y=ac:=λe=>by simpa using c 0 (by simp [e])
  cases x<;>cases y<;>simp at i ⊢;·exact ⟨d,f⟩
  ·exact ⟨aj,aj⟩
  ·exact ⟨d,f⟩
def qB.set (a:I aQ) (p:Z):qB a<|a.set p ac:=λj h=>by
 have b:=(c_.1 h).1;rw [yx];by_cases e:p=j;·subst e;simp [b]
 ·rw [ao e];exact h
def qB.trans {a b c:I aQ} (h:qB a b) (k:qB b c):qB a c:=λj d=>k j<|h j d
def In (l:I cM) (nm:I a7) (S:I aQ) (j:Z):Prop:=S[j]? = aa ac\/iU l j=nm
def zp (l:I cM) (S:I aQ) (s:I a7):Prop:=∃p,ky l s=aa p/\S[p]? = aa ac
variable {aD:I cM} {sx Bo:I aQ} {be:I a7}
def zp.sub (h:zp aD sx be) (a:qB sx Bo):zp aD Bo be:=let ⟨p,b,c⟩:=h; ⟨p,b,a p c⟩
def VW (l:I cM) (nm:I a7) (S:I aQ):Prop:=∀j,j<l.length->In l nm S j->∀s ∈ g9 l j,zp l S s
structure VX (l:I cM) (nm:I a7) (S:I aQ):Prop where
 len:S.length=l.length
 sound:∀j,S[j]? = aa ac->Go.Bw.Reach l nm (iU l j)
structure Io (l:I cM) (nm:I a7) (S0 S:I aQ) (j:Z):Prop where
 ok:VX l nm S
 sub:qB S0 S
 same:VW l nm S0->S=S0
 done:∀i,i<j->In l nm S0 i->∀s ∈ g9 l i,zp l S s
variable {ae:Z}
def Io.next (h:Io aD be sx Bo ae) (c:In aD be sx ae->∀s ∈ g9 aD ae,zp aD Bo s):Io aD be sx Bo<|ae+1:= ⟨h.ok,h.sub,h.same,λi hi b=>by
 rcases dd.1 hi with a | a;·exact h.done i a b
 ·subst a;exact c b⟩
def VY (a b:I a7):Prop:=k7 a b=ac
def VZ (l:I cM) (S:I aQ) (i:Z):I<|I a7:=((kJ i).filter λj=>(S[j]?).getD au).map<|iU l
structure afX (l:I cM) (S:I aQ) (i:Z) (out:I<|I a7):Prop where
 perm:out.Perm<|VZ l S i
 up:pN VY out out.length
open Go.ChangeShapes Go.WideShapes Go.ChangeAt Go.RowKit Go.Joins Go.Deep
variable {ig:aV} {bW:Type} {cb:aL} {wz:Z->aQ} {dE:aQ} {bs eM:b_} {NV:_root_.Go.Reach} {aH:Z} {bn:aT} {NW:I MemPlace}
def open_ints {enc:TypeId×Value->bW}     (f:y4 bW)  (uI:ig.underlying bs=some (.int .i64)) (g:ig.cellsOf bs=1) (i:∀b,wz b=true) (uS:ig.underlying eM=some (.slice bs)) {x:DataW bW}  (j:Value.okWide ig cb NV aH eM bn) (h:DataW.Trod enc ig cb ae wz dE eM bn x NW):∃(a:Option Addr) (c:Nat) (l:List Int),bn = .slice a l.length c/\Sl hn 1 (hv cb) a c l:=by
 obtain ⟨a,k,c,rfl⟩:=okWide_slice uS j;obtain ⟨fuel,h⟩:=h;obtain ⟨a,c,l,m,n,_⟩:=MI (rd:=hn) f (λ_=>0) (λ_=>0) rfl (λ_ _=>rfl) uS g aj i (λt e y u p r=>by
  obtain ⟨d,rfl⟩:∃d,e=[d]:=by match e,r with| [d],_=>exact ⟨d,rfl⟩
  obtain ⟨q,rfl⟩:=UA uI p;exact ⟨q,λb o s=>s,de _⟩) h;exact ⟨a,c,l,m,n⟩
open Go.ChangeShapes Go.WideShapes Go.ChangeAt Go.RowKit Go.Joins Go.Deep
def open_strs {enc:TypeId×Value->bW}     (e:y4 bW)  (uT:ig.underlying bs=some .string) (g:ig.cellsOf bs=1) (i:∀b,wz b=true) (uS:ig.underlying eM=some (.slice bs)) {x:DataW bW}  (j:Value.okWide ig cb NV aH eM bn) (h:DataW.Trod enc ig cb ae wz dE eM bn x NW):∃(a:Option Addr) (c:Nat) (l:List (List UInt8)),bn = .slice a l.length c/\Sl rdStr 1 (hv cb) a c l:=by
 obtain ⟨a,k,c,rfl⟩:=okWide_slice uS j;obtain ⟨fuel,h⟩:=h;obtain ⟨a,c,l,m,n,_⟩:=MI (rd:=rdStr) e (λ_=>0) (λ_=>0) rfl (λ_ _=>rfl) uS g aj i (λt f y u p r=>by
  obtain ⟨d,rfl⟩:∃d,f=[d]:=by match f,r with| [d],_=>exact ⟨d,rfl⟩
  obtain ⟨q,rfl,_⟩:=Uz e uT p;exact ⟨q,λb o s=>s,de _⟩) h;exact ⟨a,c,l,m,n⟩
end Go.Bw
end
section
namespace Go.Proofs.YtgeahfjicmlocaaGreatDoor.Mch
open Go.Bw Go.Proofs.Tryz
structure cS where
 op:ab
 a:ab
 b:ab
deriving DecidableEq
def cS.cells (x:cS):I aT:=[an am x.op,an am x.a,an am x.b]
def pQ (H:View) (b o:Z) (x:cS):Prop:=ct H b o x.cells
def goes (op:ab):aQ:=op==11||op==12||op==13
def Ey (i:cS):aQ:=decide (i.op<1)||decide (22<i.op)
def kA (code:I cS) (data:ab):ab:= if (decide ((code.length:ab)<1)||decide (2048<(code.length:ab)))=ac then 2 else if code.any Ey=ac then 4 else if (decide (data<0)||decide (512<data))=ac then 3 else 0
variable {bW:Type} {uO:bW->aQ} {cg:I bW}
def any_false (h:∀(j:Z) (x:bW),cg[j]? = aa x->uO x=au):cg.any uO=au:=by rw [wV];intro x a;obtain ⟨j,b⟩:=ls a;simp [h j x b]
def any_true {j:Z} {x:bW} (a:cg[j]? = aa x) (h:uO x=ac):cg.any uO=ac:=s8.2 ⟨x,dJ a,h⟩
def cH:cX aB 57 0=aa 0:=ah
def hr:g1 aB 55=aa 3:=ah
def v3:iC aB 62=aa 3:=ah
def h1:zeroOf aB 62=aa (bU #[an am 0,an am 0,an am 0]):=ah
def xA:eP aB 62=aa 3:=ah
def rk:cX aB 62 0=aa 0:=ah
def Bp:cX aB 57 1=aa 1:=ah
def NX (H:View) (a:az a0) (c:Z) (code:I cS) (data:ab) (w:aL) (t:Le H w) (l:Sl pQ 3 H a c code) : cr aB 81 #[bU #[aC a code.length c,an am data]] w λe d=>e = ax (an am<|kA code data)/\Ext w d:=by
 have z:=l.cap;have A:=l.max;refine enter func81 O 39 O O ?_;refine CE (Vs:=[H]) (Ws.init (by simp [t]))<|ai ?_;refine WL.box Y O O λB=>?_;refine ar O<|ag<|Cs<|ai<|V0 (Yf cH O)<|V0 (Yd 0 O O O ah)<|V0 (Yn hr O)<|V0 (cP O O)<|ad O ?_;apply Lo 4 O O O O Y O O O O O;·intro C;refine Vg (Yf cH O)<|Vg (Yd 0 O O O ah)<|Vg (Yn hr O)<|Vg (ek O O) ?_;exact Gt 4 O O O
 refine ag ?_;refine Cc O (λf=>?_)<|λf=>?_;·refine ai<|ar O<|ag<|bq<|Er ?_;refine R1 O O λd b=>?_;exact ⟨by rw [kA,aU f],b.fr⟩
 refine bO<|Cs<|ai<|V0 (Yf cH O)<|V0 (Yd 0 O O O ah)<|V0 (Yn hr O)<|ad O<|ag<|Cb ?_;refine dg (ι:=Z) (λi=>[(18,an am (i:ab))]) [(1,_),(16,_),(17,_)] (λi=>i<=code.length/\∀j x,j<i->code[j]? = aa x->Ey x=au) (λi=>code.length-i) 0 ⟨de _,aG⟩ ?_;intro i ⟨hi,r⟩;refine ai<|V0 (cP O O)<|ag<|Cs ?_;refine Cc O (λm=>?_)<|λm=>?_
 ·have u:i<code.length:=by simpa using m
  obtain ⟨x,n⟩:=dO u;obtain ⟨v,y,D,o⟩:=l.b7 i x n;have o:ct H v (y+i*3) x.cells:=o;refine bO<|Cs<|Cb<|ai<|V0 (Yo hr O O mW aj)<|V0 (dG 0 v3 O O O<|o) ?_;refine Al Y O h1 λE=>?_;refine aq 0 Y O O O xA O O O<|ag<|ai<|V0 (Yf rk O)<|V0 (Yd 0 O O O ah)<|V0 (cP O O)<|ad O ?_;apply Lo 3 O O O O Y O O O O O;·intro F;refine Vg (Yf rk O)<|Vg (Yd 0 O O O ah)<|Vg (ek O O) ?_;exact Gt 3 O O O
  refine ag ?_;refine Cc O (λp=>?_)<|λp=>?_;·refine ai<|ar O<|ag<|bq<|cZ<|Er<|Er<|cZ<|Er ?_;refine R1 O O λd b=>?_;exact ⟨by rw [kA,ao (by simp [f]),aU<|any_true n p],b.fr⟩
  refine Ck<|Eb<|Et<|Cr<|V0 (Yi O O O aj)<|ad O<|Ln ?_;exact cU (i+1) aj ⟨aj,λj x k g=>by rcases dd.1 k with h | rfl;exact r j x h g;rw [n] at g;injection g with g;subst g;exact p⟩<|λ_ h=>Wd 1 h
 have G:¬i<code.length:=by simpa using m
 have s:code.any Ey=au:=any_false λj x k=>r j x (by have:=(c_.1 k).1;omega) k;refine Ce<|Ex<|Ex<|dy<|Et<|Cs<|ai<|V0 (Yf Bp O)<|V0 (Yd 0 O O O ah)<|V0 (cP O O)<|ad O ?_;apply Lo 3 O O O O Y O O O O O;·intro J;refine Vg (Yf Bp O)<|Vg (Yd 0 O O O ah)<|Vg (ek O O) ?_;exact Gt 3 O O O
 refine ag ?_;refine Cc O (λq=>?_)<|λq=>?_;·refine ai<|ar O<|ag<|bq<|Er ?_;refine R1 O O λd b=>?_;exact ⟨by rw [kA,ao (by simp [f]),ao (by simp [s]),aU q],b.fr⟩
 refine bO<|ai<|ar O<|ag<|bq ?_;refine R1 O O λd b=>?_;exact ⟨by rw [kA,ao (by simp [f]),ao (by simp [s]),ao (by simp [q])],b.fr⟩
end Go.Proofs.YtgeahfjicmlocaaGreatDoor.Mch
end
section
namespace Go.Proofs.YtgeahfjicmlocaaGreatDoor.Mch
open Go.Bw Go.Proofs.Tryz
def nh (b:aQ):ab:=if b=ac then 1 else 0
def kB (op a b:ab):ab×aQ:= if (op==9)=ac then (am.wrap<|a+b,ac) else if (op==10)=ac then (am.wrap<|a-b,ac) else if (op==11)=ac then (am.wrap<|a*b,ac) else if (op==14)=ac then (nh<|a==b,ac) else if (op==15)=ac then (nh<|decide<|a<b,ac) else (0,au)
def cS.dA (x:cS):x.cells.length=3:=rfl
def Ez (b:aQ) (w:aL) : cr aB 153 #[bV b] w λe a=>e = ax (an am<|nh b)/\Ext w a:=by
 refine enter func153 O 4 O O ?_;refine CE (Vs:=[]) (Ws.init aG)<|ai<|ar O<|ag<|Cs<|ai<|ad O<|ag ?_;refine Cc O (λd=>?_)<|λd=>?_;·refine ai<|ar O<|ag<|bq<|Er ?_;refine R1 O O λa c=>?_;exact ⟨by simp [nh, *],c.fr⟩
 refine bO<|ai<|ar O<|ag<|bq ?_;refine R1 O O λa c=>?_;exact ⟨by simp [nh, *],c.fr⟩
def NY (op a b:ab) (w:aL) : cr aB 146 #[an am op,an am a,an am b] w λe d=>e = ax (cN #[an am (kB op a b).1,bV (kB op a b).2])/\Ext w d:=by
 refine enter func146 O 36 O O ?_;refine CE (Vs:=[]) (Ws.init aG)<|ai<|ar O<|ar O<|ag<|Cs<|ai<|ad O<|ag<|Cb<|ai<|V0 (bN O O) ?_;refine ar O<|ag ?_;refine Cc O (λf=>?_)<|λf=>?_;·refine ai<|ad O<|ad O<|V0 (s_ O O)<|ar O<|ar O<|ag<|bq<|cZ<|Er ?_;refine WE.iA O O O λd c=>?_;exact ⟨by simp [kB, *],c.fr⟩
 refine ai<|V0 (bN O O)<|ar O<|ag ?_;refine Cc O (λg=>?_)<|λg=>?_;·refine ai<|ad O<|ad O<|V0 (Dg O O)<|ar O<|ar O<|ag<|bq<|cZ<|Er ?_;refine WE.iA O O O λd c=>?_;exact ⟨by simp [kB, *],c.fr⟩
 refine ai<|V0 (bN O O)<|ar O<|ag ?_;refine Cc O (λh=>?_)<|λh=>?_;·refine ai<|ad O<|ad O<|V0 (Lk O O)<|ar O<|ar O<|ag<|bq<|cZ<|Er ?_;refine WE.iA O O O λd c=>?_;exact ⟨by simp [kB, *],c.fr⟩
 refine ai<|V0 (bN O O)<|ar O<|ag ?_;refine Cc O (λi=>?_)<|λi=>?_;·refine ai<|ad O<|ad O<|V0 (bN O O)<|Lp Y O bf O (λw c=>Ez _ w)<|ar O<|ar O<|ag<|bq<|cZ<|Er ?_;refine WE.iA O O O λd c=>?_;exact ⟨by simp [kB, *],c.fr⟩
 refine ai<|V0 (bN O O)<|ar O<|ag ?_;refine Cc O (λj=>?_)<|λj=>?_;·refine ai<|ad O<|ad O<|V0 (cP O O)<|Lp Y O bf O (λw c=>Ez _ w)<|ar O<|ar O<|ag<|bq<|cZ<|Er ?_;refine WE.iA O O O λd c=>?_;exact ⟨by simp [kB, *],c.fr⟩
 refine Ck<|Eb<|Et<|ai<|ar O<|ar O<|ag<|bq ?_;refine WE.iA O O O λd c=>?_;exact ⟨by simp [kB, *],c.fr⟩
end Go.Proofs.YtgeahfjicmlocaaGreatDoor.Mch
end
section
namespace Go.Proofs.YtgeahfjicmlocaaGreatDoor.Mch
open Go.Bw Go.Proofs.Tryz
def iv (x:ab):I aT:=[an am x]
def i5 (x:ab):(iv x).length=1:=rfl
structure gc where
 la:az a0
 lc:Z
 loc:I ab
 back:ab
def gc.cells (f:gc):I aT:=[aC f.la f.loc.length f.lc,an am f.back]
def gc.own (f:gc):bc:=cO 3 1 iv f.la f.lc f.loc
structure Pm where
 at_:ab
 rl:ab
 steps:ab
 stack:I ab
 dk:I<|I ab×ab
 bI:I ab
 out:I ab
 data:I ab
 bY:ab
structure bp where
 at_:ab
 rl:ab
 steps:ab
 stack:I ab
 dk:I gc
 bI:I ab
 out:I ab
 data:I ab
 bY:ab
 sa:az a0
 sc:Z
 fa:az a0
 fc:Z
 ia:az a0
 ic:Z
 oa:az a0
 oc:Z
 da:az a0
 dc:Z
def gc.pu (f:gc):I ab×ab:=(f.loc,f.back)
def bp.pu (s:bp):Pm:=⟨s.at_,s.rl,s.steps,s.stack,s.dk.map gc.pu,s.bI,s.out,s.data,s.bY⟩
def bp.obj (s:bp):Obj:=aM #[an am s.at_,an am s.rl,an am s.steps,aC s.sa s.stack.reverse.length s.sc,aC s.fa s.dk.reverse.length s.fc,aC s.ia s.bI.length s.ic,an am 0,aC s.oa s.out.length s.oc,aC s.da s.data.length s.dc,an am s.bY] 163 (0,0)
abbrev bp.own (b:Z) (s:bp):I bc:=[aJ b s.obj,cO 3 1 iv s.sa s.sc s.stack.reverse,cO 269 2 gc.cells s.fa s.fc s.dk.reverse,cO 3 1 iv s.oa s.oc s.out,cO 3 1 iv s.da s.dc s.data,bH<|s.dk.map gc.own]
inductive Rz (α:Type) where
 | ok (a:α) (m:Pm)
 | ov (e:Int) (m:Pm)
def Rz.bind {α β:Type} (r:Rz α) (f:α->Pm->Rz β):Rz β:=match r with| .ok a m=>f a m| .ov e m=>.ov e m
def rm (e:ab):I nW:=[⟨.iface 165<|bU #[an am e],au,au⟩]
def gP (m:Pm):Rz ab:=match m.stack with| []=>.ov 6 m| x::r=>.ok x { m with stack:=r }
def lZ (n:ab) (m:Pm):Rz dT:=if m.stack.length=2048 then .ov 6 m else .ok () { m with stack:=n::m.stack }
def xB (m:Pm):Rz dT:=if m.bY=m.rl then .ov 3 m else .ok () { m with bY:=am.wrap<|m.bY+1 }
def pS (op:ab) (m:Pm):Rz dT:=if (decide (op<9)||decide (15<op))=ac then .ov 6 m else (gP m).bind λb m=>(gP m).bind λa m=> if (kB op a b).2=ac then lZ (kB op a b).1 m else if b=0 then .ov 1 m else lZ (if op=13 then a.tmod b else am.wrap (a.tdiv b)) m
def v4 (a b:ab) (m:Pm):Rz dT:=if ((((decide (a<0)||decide (b<0))||decide (2048<a))||decide (am.wrap (2048-a)<b))||decide ((m.stack.length:ab)<a))=ac then .ov 6 m else .ok () { m with stack:=m.stack.drop a.toNat,dk:=match m.dk with| []=>[]| f::r=>((m.stack.take a.toNat).reverse++gI b.toNat 0,f.2)::r }
def xC (to:ab) (m:Pm):Rz dT:=(xB m).bind λ_ m=>if 24<m.dk.length then .ov 4 m else .ok () { m with dk:=([],m.at_)::m.dk,at_:=to }
def zr (m:Pm):Rz dT:=if m.dk.length=1 then .ov 6 m else match m.dk with| []=>.ov 6 m| f::r=>.ok () { m with at_:=f.2,dk:=r }
def rn (m:Pm):ab×Pm:=match m.bI with| []=>(0,m)| x::r=>(x,{ m with bI:=r })
def gQ (at_:ab) (n:Z):aQ:=decide (at_<0)||decide ((n:ab)<=at_)
def V3:hy aB 165=aa [(0,1)]:=ah
def NZ:zeroOf aB 165=aa (bU #[an am 0]):=ah
def V1:aB.concrete 165=ac:=ah
def V2 (b:aQ) (e:ab) (w:aL) : cr aB 84 #[bV b,an am e] w λf a=>(∃_:dT,f = ax (cN #[])/\b=au/\Ext w a)\/(∃_:dT,f = .panicked (rm e)/\b=ac/\Ext w a):=by
 refine enter func84 O 8 O O ?_;refine CE (Vs:=[]) (Ws.init aG)<|ai<|ad O<|ag ?_;refine Cc O (λc=>?_)<|λc=>?_;·refine Cr<|ad O<|V0 (Yb NZ V3 O O)<|V0 (qW V1 O) ?_;refine WL.panic Y O ?_;refine b3 λa d=>?_;exact bl ⟨(),O,c,d.fr⟩
 refine Ck ?_;refine E0 O λa d=>?_;exact bA ⟨(),O,c,d.fr⟩
end Go.Proofs.YtgeahfjicmlocaaGreatDoor.Mch
end
section
namespace Go.Proofs.YtgeahfjicmlocaaGreatDoor.Mch
open Go.Bw Go.Proofs.Tryz
def k_ (H:View) (b o:Z) (x:ab):Prop:=vc H b o=aa (an am x)
def ro (H:View) (b o:Z) (x:ab) (h:ct H b o<|iv x):k_ H b o x:=h 0 _ rfl
def gc.dA (f:gc):f.cells.length=2:=rfl
structure bp.jP (HI:View) (s:bp):Prop where
 bI:Sl k_ 1 HI s.ia s.ic s.bI
 bL:s.stack.length<=2048
 lC:1<=s.dk.length/\s.dk.length<=25
 out:s.out.length<=200
 hb:s.data.length<=512
abbrev bp.fu (s:bp) (r:I ab):bp:={ s with stack:=r }
def bp.jP.stack {a:View} {s:bp} (h:s.jP a) {r:I ab} {sa:az a0} {sc:Z} (b:r.length<=2048):bp.jP a { s with stack:=r,sa:=sa,sc:=sc }:=⟨h.bI,b,h.lC,h.out,h.hb⟩
def ln {α:Type} (f:jU) (vs:I aT) (c:Pm->Rz α) (v:α->aT):Prop:=Enters aB f/\∀(a:Z) (s:bp) (b:View) (w:aL),s.jP b->Ws w ((bp.own a s).flatMap bc.ids) (bp.own a s) [b] w->cr aB f (b0 (aa ⟨a,0,ak⟩)::vs).toArray w λe d=> (∃r:α×bp,e = ax (v r.1)/\(c s.pu = .ok r.1 r.2.pu/\r.2.jP b)/\Ws w ((bp.own a s).flatMap bc.ids) (bp.own a r.2) [b] d)\/(∃r:ab×bp,e = .panicked (rm r.1)/\c s.pu = .ov r.1 r.2.pu/\Ws w ((bp.own a s).flatMap bc.ids) (bp.own a r.2) [b] d)
def mw {α:Type} {f:jU} {vs:I aT} {c:Pm->Rz α} {v:α->aT} {a:Z} {s:bp} {b:View} {ops:bE ay} {Q:aO->aN->aL->Prop} {n:Z} {ds:I e'} {l:I<|Z×aT} {e:aL} {h:I Z} {L L2:I bc} {Vs:I View} {rest:I ay} {d:Z} {ty:b_} {pos:bg} {af:bE fw} {g:az<|Z×aQ} {args:bE dF} {ts:bE b_} (hC:ln f vs c v) (i:s.jP b) (j:∀r:ab×bp,c s.pu = .ov r.1 r.2.pu->WE Q (.panic<|rm r.1) n ds l (Ws e h (bp.own a r.2++L2) Vs)) (k:∀r:α×bp,(c s.pu = .ok r.1 r.2.pu/\r.2.jP b)->WL aB ops Q n ds ((d,v r.1)::l) (Ws e h (bp.own a r.2++L2) Vs) rest) (m:hF l args.toList=aa (b0 (aa ⟨a,0,ak⟩)::vs):=by rfl) (hL:L=bp.own a s++L2:=by rfl) (o:∀X ∈ [b],X ∈ Vs:=by simp) (p:eE ops l g:=by first|exact bA rfl|exact bl ⟨_,_,_,rfl,rfl,rfl⟩) (q:eB d n=ac:=by rfl):WL aB ops Q n ds l (Ws e h L Vs)<|⟨aa d,.call ⟨.value<|.func f,args,ts⟩,ty,pos,af,g⟩::rest:= hR (ι:=α×bp) (κ:=ab×bp) (bp.own a s) L2 p q hC.1 m hL (λr=>v r.1) (λr=>bp.own a r.2) (λr=>c s.pu = .ok r.1 r.2.pu/\r.2.jP b) (λr=>rm r.1) (λr=>bp.own a r.2) (λr=>c s.pu = .ov r.1 r.2.pu) [b] o (λw t=>hC.2 a s b w i t) j k
def eS:g1 aB 29=aa 1:=ah
def ni:cX aB 163 3=aa 3:=ah
def mixed:aB.follows .mixedOrders=ac:=ah
def cq:eP aB 29=aa 1:=ah
def fY:hW aB 29 3 (an am 0) 1 8:=jD ah
def d' {c:aQ} {a:ab} {ops:bE ay} {Q:aO->aN->aL->Prop} {n:Z} {ds:I e'} {l:I<|Z×aT} {b:aL} {f:I Z} {L:I bc} {Vs:I View} {rest:I ay} {d:Z} {ty:b_} {pos:bg} {af:bE fw} {g:az<|Z×aQ} {args:bE dF} {ts:bE b_} (o:c=ac->WE Q (.panic<|rm a) n ds l (Ws b f L Vs)) (p:c=au->WL aB ops Q n ds ((d,cN #[])::l) (Ws b f L Vs) rest) (q:hF l args.toList=aa [bV c,an am a]:=by rfl) (r:eE ops l g:=by first|exact bA rfl|exact bl ⟨_,_,_,rfl,rfl,rfl⟩) (s:eB d n=ac:=by rfl):WL aB ops Q n ds l (Ws b f L Vs)<|⟨aa d,.call ⟨.value<|.func 84,args,ts⟩,ty,pos,af,g⟩::rest:= hR (ι:=dT) (κ:=dT) [] L r s bf q rfl (λ_=>cN #[]) (λ_=>[]) (λ_=>c=au) (λ_=>rm a) (λ_=>[]) (λ_=>c=ac) [] aG (λw m=>(V2 c a w).mono λe t h=>by
 rcases h with ⟨_,i,j,k⟩ | ⟨_,i,j,k⟩;·exact bA ⟨(),i,j,m.ext k⟩
 ·exact bl ⟨(),i,j,m.ext k⟩) (λ_ h=>o h)<|λ_ h=>p h
def V4 (b:Z) (s:bp) (f:View)  (w:aL) (g:s.jP f) (i:Ws w ((bp.own b s).flatMap bc.ids) (bp.own b s) [f] w) :
   cr aB 152 #[b0 (aa ⟨b,0,ak⟩)] w λe k=>(∃r:ab×I ab,e = ax (an am r.1)/\(gP s.pu = .ok r.1 (bp.fu s r.2).pu/\(bp.fu s r.2).jP f)/\Ws w ((bp.own b s).flatMap bc.ids) (bp.own b<|bp.fu s r.2) [f] k)\/(∃r:ab×bp,e = .panicked (rm r.1)/\gP s.pu = .ov r.1 r.2.pu/\Ws w ((bp.own b s).flatMap bc.ids) (bp.own b r.2) [f] k):=by
 have m:s.stack.reverse.length=s.stack.length:=aG;have o:s.dk.reverse.length=s.dk.length:=aG;have t:=g.bL;have u:=g.lC;have v:=g.out;have z:=g.hb;refine enter func152 O 38 O O ?_;refine CE i<|ai<|ar O<|ag<|ai<|ad O<|V0 (bP O)<|V0 (Yf ni O)<|V0 (Yd 0 O O O ah) ?_;refine V0 (Yn eS O)<|V0 (bN O O) ?_;refine d' (c:=((s.stack.reverse.length:Z):ab)==0) ?_ ?_
 ·intro j;refine Ep ?_;refine b3 λk i=>?_;refine bl ⟨(6,s),O,?_,i⟩;have a:s.stack=[]:=by cases h:s.stack with| nil=>rfl| cons x r=>rw [m,h] at j;simp at j;omega
  unfold gP;rw [show s.pu.stack=[] from a]
 intro j;refine ag<|Cs ?_;obtain ⟨x,r,a⟩:∃x r,s.stack=x::r:=by cases h:s.stack with| nil=>rw [m,h] at j;cases j| cons x r=>exact ⟨x,r,rfl⟩
 refine WC.r9 1 O (by rw [m,a];simp) λA n B C=>?_;have D:s.stack.length=r.length+1:=by rw [a];rfl
 refine CU (λ_=>ac) [] [] (.q au 0<|.q au 1<|.q au 2<|.q ac 3<|.q au 4<|.q au 5<|.q au 6<|.q ac 7<|.q au 8<|.q au 9<|.q au 10<|.q ac 11<|.q au 12 .nil) mixed ah (λ_ _ _ d _ _ h=>by cases d<;>exact h) ?_;refine U0 O aR (Ym O)<|U0 O aR (bP O)<|U0 O aR (Yf ni O)<|U0 O aR (Yd 0 O O O ah)<|U0 O aR (Ym O)<|U0 O aR (bP O)<|U0 O aR (Yf ni O)<|U0 O aR (Yd 0 O O O ah) ?_;refine U0 O aR (Yn eS O)<|U0 O aR (m7 ((r.length:Z):ab) O O aj aj)<|U0 O aR (Yo eS O O n aj) ?_;refine U0 O aR (m9 (y:=x) 1 r.length 0 O O n O i5 (by rw [a,yy,r4 aG];simp) O ah) ?_;refine U0 O aR (Ya O) ?_;refine WU.nil aR ?_;refine WS.nil ?_;refine Et<|Cs ?_;refine CU (λ_=>ac) [] [14] (.q au 0<|.q au 1<|.q au 2<|.q au 3<|.q ac 4<|.q au 5<|.q au 6<|.q au 7<|.q ac 8<|.q au 9<|.q au 10<|.q au 11<|.q au 12<|.q au 13 .nil) mixed ah (λ_ _ _ d _ _ h=>by cases d<;>exact h) ?_;refine U0 O aR (Ym O)<|U0 O aR (Ym O)<|U0 O aR (bP O)<|U0 O aR (Yf ni O)<|U0 O aR (Yd 0 O O O ah)<|U0 O aR (Ym O)<|U0 O aR (bP O)<|U0 O aR (Yf ni O) ?_;refine U0 O aR (Yd 0 O O O ah)<|U0 O aR (Yn eS O)<|U0 O aR (m7 ((r.reverse.length:Z):ab) O O (by simp;omega) (by simp;omega))<|U0 O aR (uw r.reverse.length eS O (λp l=>by rw [n] at l;injection l with l;subst l;rfl) O O (by simp;omega))<|U0 O aR (bP O)<|U0 O aR (Yf ni O) ?_;refine WU.nil aR ?_;refine WS.e O ?_;refine aq 0 Y O O O cq O O O ?_;refine WL.AY 1 r.reverse O i5 (by simp [a]) (by rw [a];simp) ?_;refine Ln<|Es ?_;refine WS.nil ?_;refine Et<|ai<|ad O<|ar O<|ag<|bq ?_;refine R1 O O λk i=>?_;refine bA ⟨(x,r),O,⟨?_,bp.jP.stack (r:=r) (sa:=s.sa) (sc:=s.sc) g aj⟩,i⟩;unfold gP;rw [show s.pu.stack=x::r from a];rfl
def rp (n:ab):ln 149 [an am n] (lZ n)<|λi:dT=>cN #[]:=by
 refine ⟨bf,λl s m w a b=>?_⟩;have e:s.stack.reverse.length=s.stack.length:=aG;have o:s.dk.reverse.length=s.dk.length:=aG;have p:=a.bL;have q:=a.lC;have r:=a.out;have t:=a.hb;refine enter func149 O 21 O O ?_;refine CE b<|ai<|ad O<|V0 (bP O)<|V0 (Yf ni O)<|V0 (Yd 0 O O O ah)<|V0 (Yn eS O)<|V0 (bN O O) ?_;refine d' (c:=((s.stack.reverse.length:Z):ab)==2048) ?_ ?_;·intro d;refine Ep ?_;refine b3 λf b=>?_;exact bl ⟨(6,s),O,by rw [lZ,aU (show s.pu.stack.length=2048 from by rw [e] at d;simp at d;show s.stack.length=2048;omega)],b⟩
 intro d;refine ag ?_;have g:¬s.stack.length=2048:=by intro h;rw [e,h] at d;cases d
 refine Cr<|ad O<|ad O<|V0 (bP O)<|V0 (Yf ni O)<|V0 (Yd 0 O O O ah)<|ad O ?_;refine Lb Y O fY O O O O λu=>?_;refine LA n 2 0 Y O fY O O O O O O aj aj λj k=>?_;rw [show s.stack.reverse++[n]=(n::s.stack).reverse by simp];refine V0 (bP O)<|V0 (Yf ni O)<|aq 1 Y O O O cq O O O<|Ln ?_;refine E0 O λf b=>?_;exact bA ⟨((),{ s with stack:=n::s.stack,sa:=j,sc:=k }),O,⟨by rw [lZ,ao<|show ¬s.pu.stack.length=2048 from g];rfl,a.stack (by simp;omega)⟩,Wd 1 b⟩
end Go.Proofs.YtgeahfjicmlocaaGreatDoor.Mch
end
section
namespace Go.Proofs.YtgeahfjicmlocaaGreatDoor.Mch
open Go.Bw Go.Proofs.Tryz
def uQ:cX aB 163 4=aa 4:=ah
def oN:g1 aB 160=aa 2:=ah
def qC:cX aB 163 6=aa 6:=ah
def uR:cX aB 64 3=aa 3:=ah
def V5:cX aB 163 1=aa 1:=ah
def ei:eP aB 3=aa 1:=ah
def EA:cX aB 163 5=aa 5:=ah
def pf {a:Z} {s:bp} {b:View} {ops:bE ay} {Q:aO->aN->aL->Prop} {n:Z} {ds:I e'} {l:I<|Z×aT} {c:aL} {e:I Z} {L L2:I bc} {Vs:I View} {rest:I ay} {d:Z} {ty:b_} {pos:bg} {af:bE fw} {g:az<|Z×aQ} {args:bE dF} {ts:bE b_} (f:s.jP b) (h:∀r:ab×bp,gP s.pu = .ov r.1 r.2.pu->WE Q (.panic<|rm r.1) n ds l (Ws c e (bp.own a r.2++L2) Vs)) (i:∀r:ab×I ab,(gP s.pu = .ok r.1 (bp.fu s r.2).pu/\(bp.fu s r.2).jP b)->WL aB ops Q n ds ((d,an am r.1)::l) (Ws c e (bp.own a (bp.fu s r.2)++L2) Vs) rest) (j:hF l args.toList=aa [b0<|aa ⟨a,0,ak⟩]:=by rfl) (hL:L=bp.own a s++L2:=by rfl) (k:∀X ∈ [b],X ∈ Vs:=by simp) (m:eE ops l g:=by first|exact bA rfl|exact bl ⟨_,_,_,rfl,rfl,rfl⟩) (o:eB d n=ac:=by rfl):WL aB ops Q n ds l (Ws c e L Vs)<|⟨aa d,.call ⟨.value<|.func 152,args,ts⟩,ty,pos,af,g⟩::rest:= hR (ι:=ab×I ab) (κ:=ab×bp) (bp.own a s) L2 m o bf j hL (λr=>an am r.1) (λr=>bp.own a<|bp.fu s r.2) (λr=>gP s.pu = .ok r.1 (bp.fu s r.2).pu/\(bp.fu s r.2).jP b) (λr=>rm r.1) (λr=>bp.own a r.2) (λr=>gP s.pu = .ov r.1 r.2.pu) [b] k (λw p=>V4 a s b w f p) h i
def V6 (a:az a0) (c n:Z) (i:ab) (w:aL) (j:0<n->∃b o,a=aa ⟨b,o,ak⟩) : cr aB 150 #[aC a n c,an am i] w λe f=>(∃r:Z×Z,e = ax (b0<|aa ⟨r.1,r.2+i.toNat*1,ak⟩)/\(gQ i n=au/\a=aa ⟨r.1,r.2,ak⟩)/\Ext w f)\/(∃_:dT,e = .panicked (rm 6)/\gQ i n=ac/\Ext w f):=by
 refine enter func150 O 17 O O ?_;refine CE (Vs:=[]) (Ws.init aG)<|ai<|ar O<|ag<|ai<|ad O<|V0 (cP O O)<|ad O ?_;apply Lo 4 O O O O Y O O O O O;·intro l;refine Vg (Ym O)<|Vg (Ym O)<|Vg (Yn eS O)<|Vg (hE O O) ?_;exact Gt 4 O O O
 refine d' (c:=gQ i n) ?_ ?_;·intro d;refine Ep ?_;refine b3 λf g=>?_;exact bl ⟨(),O,d,g.fr⟩
 intro d;refine ag<|Cs ?_;have h:0<=i/\i<n:=by unfold gQ at d;simp at d;omega
 obtain ⟨k,co,rfl⟩:=j aj;refine Cr<|ad O<|ad O<|V0 (Di eS O O h.1 h.2)<|ar O<|ag<|bq ?_;refine R1 O O λf g=>?_;exact bA ⟨(k,co),O,⟨d,O⟩,g.fr⟩
def V7 (a:Z) (s:bp) (c:View)  (w:aL) (b:s.jP c) (f:Ws w ((bp.own a s).flatMap bc.ids) (bp.own a s) [c] w) : cr aB 151 #[b0 (aa ⟨a,0,ak⟩)] w λe g=>∃r:Z,e = ax (b0<|aa ⟨r,0+(s.dk.length-1)*2,ak⟩)/\s.fa=aa ⟨r,0,ak⟩/\Ws w ((bp.own a s).flatMap bc.ids) (bp.own a s) [c] g:=by have l:s.stack.reverse.length=s.stack.length:=aG;have j:s.dk.reverse.length=s.dk.length:=aG;have m:=b.bL;have n:=b.lC;have o:=b.out;have p:=b.hb;refine enter func151 O 14 O O ?_;refine CE f<|ai<|ar O<|ag<|Cs ?_;refine WC.r9 2 O aj λk i t u=>?_;refine CU (λ_=>ac) [] [] (.q au 0<|.q au 1<|.q au 2<|.q ac 3<|.q au 4<|.q au 5<|.q au 6<|.q ac 7<|.q au 8<|.q au 9<|.q au 10<|.q au 11 .nil) mixed ah (λ_ _ _ d _ _ h=>by cases d<;>exact h) ?_;refine U0 O aR (Ym O)<|U0 O aR (bP O)<|U0 O aR (Yf uQ O)<|U0 O aR (Yd 0 O O O ah)<|U0 O aR (Ym O)<|U0 O aR (bP O)<|U0 O aR (Yf uQ O)<|U0 O aR (Yd 0 O O O ah) ?_;refine U0 O aR (Yn oN O)<|U0 O aR (m7 ((s.dk.length-1:Z):ab) O O (by rw [j];omega) aj)<|U0 O aR (Yo oN O O i aj)<|U0 O aR (Ya O) ?_;refine WU.nil aR ?_;refine WS.nil ?_;refine Et<|bq ?_;refine R1 O O λg f=>?_;exact ⟨k,O,i,f⟩
def v7 {a:az a0} {c k:Z} {i:ab} {ops:bE ay} {Q:aO->aN->aL->Prop} {n:Z} {ds:I e'} {l:I<|Z×aT} {f:aL} {j:I Z} {L:I bc} {Vs:I View} {rest:I ay} {d:Z} {ty:b_} {pos:bg} {af:bE fw} {g:az<|Z×aQ} {args:bE dF} {ts:bE b_} (t:0<k->∃b o,a=aa ⟨b,o,ak⟩) (u:gQ i k=ac->WE Q (.panic<|rm 6) n ds l (Ws f j L Vs)) (v:∀r:Z×Z,(gQ i k=au/\a=aa ⟨r.1,r.2,ak⟩)->WL aB ops Q n ds ((d,b0<|aa ⟨r.1,r.2+(i).toNat*1,ak⟩)::l) (Ws f j L Vs) rest) (x:hF l args.toList=aa [aC a k c,an am i]:=by rfl) (y:eE ops l g:=by first|exact bA rfl|exact bl ⟨_,_,_,rfl,rfl,rfl⟩) (z:eB d n=ac:=by rfl):WL aB ops Q n ds l (Ws f j L Vs)<|⟨aa d,.call ⟨.value<|.func 150,args,ts⟩,ty,pos,af,g⟩::rest:= hR (ι:=Z×Z) (κ:=dT) [] L y z bf x rfl (λr=>b0<|aa ⟨r.1,r.2+(i).toNat*1,ak⟩) (λ_=>[]) (λr=>gQ i k=au/\a=aa ⟨r.1,r.2,ak⟩) (λ_=>rm 6) (λ_=>[]) (λ_=>gQ i k=ac) [] aG (λw s=>(V6 a c k i w t).mono λe A h=>by
 rcases h with ⟨r,m,p,q⟩ | ⟨_,m,p,q⟩;·exact bA ⟨r,m,p,s.ext q⟩
 ·exact bl ⟨(),m,p,s.ext q⟩) (λ_ h=>u h) v
def zt {a:Z} {s:bp} {b:View} {ops:bE ay} {Q:aO->aN->aL->Prop} {n:Z} {ds:I e'} {l:I<|Z×aT} {c:aL} {e:I Z} {L L2:I bc} {Vs:I View} {rest:I ay} {d:Z} {ty:b_} {pos:bg} {af:bE fw} {g:az<|Z×aQ} {args:bE dF} {ts:bE b_} (f:s.jP b) (h:∀r:Z,s.fa=aa ⟨r,0,ak⟩->WL aB ops Q n ds ((d,b0<|aa ⟨r,0+(s.dk.length-1)*2,ak⟩)::l) (Ws c e (bp.own a s++L2) Vs) rest) (i:hF l args.toList=aa [b0<|aa ⟨a,0,ak⟩]:=by rfl) (hL:L=bp.own a s++L2:=by rfl) (j:∀X ∈ [b],X ∈ Vs:=by simp) (k:eE ops l g:=by first|exact bA rfl|exact bl ⟨_,_,_,rfl,rfl,rfl⟩) (m:eB d n=ac:=by rfl):WL aB ops Q n ds l (Ws c e L Vs)<|⟨aa d,.call ⟨.value<|.func 151,args,ts⟩,ty,pos,af,g⟩::rest:= Lw (ι:=Z) (bp.own a s) L2 k m bf i hL (λr=>b0<|aa ⟨r,0+(s.dk.length-1)*2,ak⟩) (λ_=>bp.own a s) (λr=>s.fa=aa ⟨r,0,ak⟩) [b] j (λw o=>V7 a s b w f o) h
def N0  : ln 158 [] xB<|λi:dT=>cN #[]:=by
 refine ⟨bf,λk s l w a b=>?_⟩;have m:s.stack.reverse.length=s.stack.length:=aG;have n:s.dk.reverse.length=s.dk.length:=aG;have o:=a.bL;have p:=a.lC;have r:=a.out;have t:=a.hb;refine enter func158 O 22 O O ?_;refine CE b<|Cs ?_;refine CU (λ_=>ac) [] [] (.q au 0<|.q au 1<|.q au 2<|.q au 3<|.q ac 4<|.q au 5<|.q au 6<|.q au 7<|.q ac 8<|.q au 9<|.e 10 .nil .stop) mixed ah (λ_ _ _ d _ _ h=>by cases d<;>exact h) ?_;refine U0 O aR (Ym O)<|U0 O aR (bP O)<|U0 O aR (Yf qC O)<|U0 O aR (Yf uR O)<|U0 O aR (Yd 0 O O O ah)<|U0 O aR (Ym O)<|U0 O aR (bP O)<|U0 O aR (Yf V5 O) ?_;refine U0 O aR (Yd 0 O O O ah)<|U0 O aR (bN O O) ?_;refine Ue O aR ?_ WU.stop;refine d' (c:=s.bY==s.rl) ?_ ?_;·intro f;refine Ep<|Ep ?_;refine b3 λg b=>?_;exact bl ⟨(3,s),O,by rw [xB,aU<|show s.pu.bY=s.pu.rl from (by simpa using f:s.bY=s.rl)],b⟩
 intro f;refine Ln<|Eu ?_;refine WU.nil aR ?_;refine WS.nil ?_;refine Et ?_;have j:¬s.bY=s.rl:=by simpa using f
 refine Cr<|ad O<|V0 (bP O)<|V0 (Yf qC O)<|V0 (Yf uR O)<|V0 (Yd 0 O O O ah)<|V0 (s_ O O)<|V0 (bP O) ?_;refine V0 (Yf qC O)<|V0 (Yf uR O)<|aq 0 Y O O O ei O O O<|Ln ?_;refine E0 O λg b=>?_;exact bA ⟨((),{ s with bY:=am.wrap<|s.bY+1 }),O,⟨by rw [xB,ao<|show ¬s.pu.bY=s.pu.rl from j];rfl,⟨a.bI,a.bL,a.lC,a.out,a.hb⟩⟩,b⟩
def V8 (op:ab):ln 154 [an am op] (pS op)<|λi:dT=>cN #[]:=by
 refine ⟨bf,λx s y w n b=>?_⟩;have z:s.stack.reverse.length=s.stack.length:=aG;have A:s.dk.reverse.length=s.dk.length:=aG;have B:=n.bL;have C:=n.lC;have D:=n.out;have E:=n.hb;refine enter func154 O 42 O O ?_;refine CE b<|ai<|ad O<|V0 (cP O O)<|ad O ?_;apply Lo 2 O O O O Y O O O O O;·intro F;refine Vg (Ym O)<|Vg (ek O O) ?_;exact Gt 2 O O O
 refine d' (c:=decide (op<9)||decide (15<op)) ?_ ?_;·intro e;refine Ep ?_;refine b3 λj b=>?_;exact bl ⟨(6,s),O,by rw [pS,aU e],b⟩
 intro e;refine ag<|ai<|ad O ?_;refine pf n ?_ ?_;·intro a h;refine Ep ?_;refine b3 λj b=>?_;exact bl ⟨a,O,by rw [pS,ao (by rw [e];simp),h];rfl,b⟩
 intro a ⟨h,v⟩;refine ar O<|ag<|ai<|ad O ?_;refine pf v ?_ ?_;·intro d k;refine Ep ?_;refine b3 λj b=>?_;exact bl ⟨d,O,by rw [pS,ao (by rw [e];simp),h];show Rz.bind (gP (bp.fu s a.2).pu) _=_;rw [k];rfl,b⟩
 intro d ⟨k,q⟩;refine ar O<|ag<|ai<|ad O<|ad O<|ad O<|Lp Y O bf O (λw b=>NY _ _ _ w)<|ad O<|V0 (Yx O O) ?_;refine V0 (Yx O O)<|ar O<|ar O<|ag<|Cs<|ai<|ad O<|V0 (hV O)<|ag ?_;refine Cc O (λr=>?_)<|λr=>?_
 ·have l:(kB op d.1 a.1).2=au:=by simpa using r
  refine ai<|ad O<|V0 (bN O O) ?_;refine d' (c:=a.1==0) ?_ ?_;·intro t;refine Ep<|Ep ?_;refine b3 λj b=>?_;refine bl ⟨(1,bp.fu (bp.fu s a.2) d.2),O,?_,b⟩;rw [pS,ao (by rw [e];simp),h];show Rz.bind (gP (bp.fu s a.2).pu) _=_;rw [k];show (if (kB op d.1 a.1).2=ac then _ else _)=_;rw [l,ao aG,aU (by simpa using t)]
  intro t;refine ag<|Cs ?_;have m:¬a.1=0:=by simpa using t
  refine Cr<|ad O<|ad O<|V0 (H5 O O m)<|ar O<|ag<|ai<|ad O<|V0 (bN O O) ?_;refine ag ?_;refine Cc O (λu=>?_)<|λu=>?_
  ·have o:op=13:=by simpa using u
   refine Cr<|ad O<|ad O<|V0 (LB O O m)<|ar O<|ag<|Cr<|ad O<|ad O ?_;refine mw (rp<|d.1.tmod a.1) q ?_ ?_;·intro f g;refine b3 λj b=>?_;refine bl ⟨f,O,?_,b⟩;rw [pS,ao (by rw [e];simp),h];show Rz.bind (gP (bp.fu s a.2).pu) _=_;rw [k];show (if (kB op d.1 a.1).2=ac then _ else _)=_;rw [l,ao aG,ao m,aU o];rw [g]
   intro f ⟨g,p⟩;refine Ln ?_;refine E0 O λj b=>?_;refine bA ⟨((),f.2),O,⟨?_,p⟩,b⟩;rw [pS,ao (by rw [e];simp),h];show Rz.bind (gP (bp.fu s a.2).pu) _=_;rw [k];show (if (kB op d.1 a.1).2=ac then _ else _)=_;rw [l,ao aG,ao m,aU o];rw [g]
  have o:¬op=13:=by simpa using u
  refine bO<|Cr<|ad O<|ad O ?_;refine mw (rp<|am.wrap<|d.1.tdiv a.1) q ?_ ?_;·intro f g;refine b3 λj b=>?_;refine bl ⟨f,O,?_,b⟩;rw [pS,ao (by rw [e];simp),h];show Rz.bind (gP (bp.fu s a.2).pu) _=_;rw [k];show (if (kB op d.1 a.1).2=ac then _ else _)=_;rw [l,ao aG,ao m,ao o];rw [g]
  intro f ⟨g,p⟩;refine Ln ?_;refine E0 O λj b=>?_;refine bA ⟨((),f.2),O,⟨?_,p⟩,b⟩;rw [pS,ao (by rw [e];simp),h];show Rz.bind (gP (bp.fu s a.2).pu) _=_;rw [k];show (if (kB op d.1 a.1).2=ac then _ else _)=_;rw [l,ao aG,ao m,ao o];rw [g]
 have l:(kB op d.1 a.1).2=ac:=by simpa using r
 refine bO<|Cr<|ad O<|ad O ?_;refine mw (rp<|(kB op d.1 a.1).1) q ?_ ?_;·intro f g;refine b3 λj b=>?_;refine bl ⟨f,O,?_,b⟩;rw [pS,ao (by rw [e];simp),h];show Rz.bind (gP (bp.fu s a.2).pu) _=_;rw [k];show (if (kB op d.1 a.1).2=ac then _ else _)=_;rw [aU l];rw [g]
 intro f ⟨g,p⟩;refine Ln ?_;refine E0 O λj b=>?_;refine bA ⟨((),f.2),O,⟨?_,p⟩,b⟩;rw [pS,ao (by rw [e];simp),h];show Rz.bind (gP (bp.fu s a.2).pu) _=_;rw [k];show (if (kB op d.1 a.1).2=ac then _ else _)=_;rw [aU l];rw [g]
def V9  : ln 159 [] (λm=>Rz.ok (rn m).1 (rn m).2)<|λi:ab=>an am i:=by
 refine ⟨bf,λp s g w a b=>?_⟩;have q:s.stack.reverse.length=s.stack.length:=aG;have t:s.dk.reverse.length=s.dk.length:=aG;have u:=a.bL;have v:=a.lC;have y:=a.out;have z:=a.hb;refine enter func159 O 25 O O ?_;refine CE b<|ai<|ar O<|ag<|Cs<|ai<|ad O<|V0 (bP O)<|V0 (Yf EA O)<|V0 (Yd 0 O O O ah) ?_;refine V0 (Yn eS O)<|V0 (bN O O)<|ag ?_;refine Cc O (λd=>?_)<|λd=>?_
 ·have c:s.bI=[]:=by simpa using d
  refine ai<|ar O<|ag<|bq<|Er ?_;refine R1 O O λj b=>?_;refine bA ⟨(0,s),O,⟨?_,a⟩,b⟩;show Rz.ok (rn s.pu).1 (rn s.pu).2=_;unfold rn;rw [show s.pu.bI=[] from c]
 obtain ⟨x,r,c⟩:∃x r,s.bI=x::r:=by cases h:s.bI with| nil=>rw [h] at d;cases d| cons x r=>exact ⟨x,r,rfl⟩
 obtain ⟨k,l,n,e⟩:=a.bI.b7 0 x (by rw [c];rfl);have e:vc g k (l+0*1)=aa (an am x):=e;have A:s.bI.length=r.length+1:=by rw [c];rfl
 have o:=a.bI.cap;refine bO<|ai<|ad O<|V0 (bP O)<|V0 (Yf EA O)<|V0 (Yd 0 O O O ah)<|V0 (Yo (i:=0) eS O O n aj)<|V0 (dQ 0 ah O O<|e)<|ar O ?_;refine ag<|ai<|ad O<|ad O<|V0 (bP O)<|V0 (Yf EA O)<|V0 (Yd 0 O O O ah)<|V0 (AX 1 eS O O O aj o)<|V0 (bP O) ?_;refine V0 (Yf EA O)<|aq 0 Y O O O cq O O O<|ag<|ai<|ad O<|ar O<|ag<|bq ?_;refine R1 O O λj b=>?_;have f:=a.bI.drop 1 aj;rw [show s.bI.drop 1=r by rw [c];rfl] at f;rw [show s.bI.length-1=r.length by omega] at b;refine bA ⟨(x,{ s with bI:=r,ia:=_,ic:=s.ic-1 }),O,⟨?_,⟨f,a.bL,a.lC,a.out,a.hb⟩⟩,b⟩;show Rz.ok (rn s.pu).1 (rn s.pu).2=_;unfold rn;rw [show s.pu.bI=x::r from c];rfl
end Go.Proofs.YtgeahfjicmlocaaGreatDoor.Mch
end
section
namespace Go.Proofs.YtgeahfjicmlocaaGreatDoor.Mch
open Go.Bw Go.Proofs.Tryz
def V':cX aB 269 1=aa 1:=ah
def sz:cX aB 163 0=aa 0:=ah
def N1:eP aB 160=aa 1:=ah
def V_:hy aB 269=aa [(0,1),(1,1)]:=ah
def Wa:zeroOf aB 269=aa (bU #[aC ak 0 0,an am 0]):=ah
def xD:hW aB 160 269 (bU #[aC ak 0 0,an am 0]) 2 32:=jD ah
def Wb  : ln 157 [] zr<|λi:dT=>cN #[]:=by
 refine ⟨bf,λv s x w b a=>?_⟩;have z:s.stack.reverse.length=s.stack.length:=aG;have l:s.dk.reverse.length=s.dk.length:=aG;have A:=b.bL;have m:=b.lC;have B:=b.out;have C:=b.hb;refine enter func157 O 31 O O ?_;refine CE a<|ai<|ad O<|V0 (bP O)<|V0 (Yf uQ O)<|V0 (Yd 0 O O O ah)<|V0 (Yn oN O)<|V0 (bN O O) ?_;refine d' (c:=((s.dk.reverse.length:Z):ab)==1) ?_ ?_;·intro j;refine Ep ?_;refine b3 λo a=>?_;refine bl ⟨(6,s),O,?_,a⟩;rw [zr,aU (show s.pu.dk.length=1 by show (s.dk.map gc.pu).length=1;rw [l] at j;simp at j;simp;omega)]
 intro j;refine ag<|Cs ?_;have t:¬s.dk.length=1:=by rw [l] at j;simp at j;omega
 obtain ⟨f,r,g⟩:∃f r,s.dk=f::r:=by cases h:s.dk with| nil=>rw [h] at m;simp at m| cons f r=>exact ⟨f,r,rfl⟩
 have u:s.dk.length=r.length+1:=by rw [g];rfl
 refine WC.r9 2 O aj λD E F G=>?_;refine Cr<|ad O<|ad O ?_;refine zt b ?_;intro H n;refine V0 (bP O)<|V0 (Yf V' O) ?_;refine V0 (m9 (y:=f) 2 r.length 1 O O n (by rw [u];simp) gc.dA (by rw [g,yy,r4 aG];simp) O ah) ?_;refine V0 (bP O)<|V0 (Yf sz O)<|aq 0 Y O O O ei O O O<|ag ?_;refine CU (λ_=>ac) [] [14] (.q au 0<|.q au 1<|.q au 2<|.q au 3<|.q ac 4<|.q au 5<|.q au 6<|.q au 7<|.q ac 8<|.q au 9<|.q au 10<|.q au 11<|.q au 12<|.q au 13 .nil) mixed ah (λ_ _ _ d _ _ h=>by cases d<;>exact h) ?_;refine U0 O aR (Ym O)<|U0 O aR (Ym O)<|U0 O aR (bP O)<|U0 O aR (Yf uQ O)<|U0 O aR (Yd 0 O O O ah)<|U0 O aR (Ym O)<|U0 O aR (bP O)<|U0 O aR (Yf uQ O) ?_;refine U0 O aR (Yd 0 O O O ah)<|U0 O aR (Yn oN O)<|U0 O aR (m7 ((r.reverse.length:Z):ab) O O (by simp;omega) (by simp;omega))<|U0 O aR (uw r.reverse.length oN O (λp k=>by rw [n] at k;injection k with k;subst k;rfl) O O (by simp;omega))<|U0 O aR (bP O)<|U0 O aR (Yf uQ O) ?_;refine WU.nil aR ?_;refine WS.e O ?_;refine aq 0 Y O O O N1 O O O ?_;refine WL.AY 2 r.reverse O gc.dA (by simp [g]) (by rw [g];simp) ?_;refine Ln<|Es ?_;refine WS.nil ?_;refine E0 O λo a=>?_;have a:=Ws.ej (L:=[_,_,_,_,_,_]) a;rw [g] at a;have a:=a.TZ 5 rfl;refine bA ⟨((),{ s with at_:=f.back,dk:=r }),O,⟨?_,⟨b.bI,b.bL,⟨by show 1<=r.length;omega,by show r.length<=25;omega⟩,b.out,b.hb⟩⟩,a⟩;unfold zr;rw [ao (show ¬s.pu.dk.length=1 by show ¬(s.dk.map gc.pu).length=1;simpa using t),show s.pu.dk=f.pu::r.map gc.pu by show s.dk.map gc.pu=_;rw [g];rfl];rfl
def Wc (to:ab):ln 155 [an am to] (xC to)<|λi:dT=>cN #[]:=by
 refine ⟨bf,λr s t w f a=>?_⟩;have u:s.stack.reverse.length=s.stack.length:=aG;have v:s.dk.reverse.length=s.dk.length:=aG;have x:=f.bL;have y:=f.lC;have z:=f.out;have A:=f.hb;refine enter func155 O 31 O O ?_;refine CE a<|ai<|ad O ?_;refine mw N0 f ?_ ?_;·intro b k;refine Ep ?_;refine b3 λl a=>?_;exact bl ⟨b,O,by rw [xC,k];rfl,a⟩
 intro b ⟨k,g⟩;have m:b.2.dk.reverse.length=b.2.dk.length:=aG;have B:=g.lC;refine ag<|ai<|ad O<|V0 (bP O)<|V0 (Yf uQ O)<|V0 (Yd 0 O O O ah)<|V0 (Yn oN O)<|V0 (ek O O) ?_;refine d' (c:=decide<|24<((b.2.dk.reverse.length:Z):ab)) ?_ ?_;·intro j;refine Ep ?_;refine b3 λl a=>?_;refine bl ⟨(4,b.2),O,?_,a⟩;rw [xC,k];show (if 24<b.2.pu.dk.length then _ else _)=_;rw [aU (show 24<b.2.pu.dk.length by show 24<(b.2.dk.map gc.pu).length;rw [m] at j;simp at j;simp;omega)]
 intro j;refine ag<|Cs ?_;have n:¬24<b.2.dk.length:=by rw [m] at j;simp at j;omega
 refine CU (λ_=>ac) [2] [14] (.q au 0<|.q au 1<|.q au 2<|.q au 3<|.q ac 4<|.q au 5<|.q au 6<|.q au 7<|.q ac 8<|.q au 9<|.e 10 (.e 11 (.q au 12<|.q au 13 .nil) .stop) .stop) mixed ah (λ_ _ _ d _ _ h=>by cases d<;>exact h) ?_;refine U0 O (Wp 2) (Ym O)<|U0 O (Wp 2) (Ym O)<|U0 O (Wp 2) (bP O)<|U0 O (Wp 2) (Yf uQ O)<|U0 O (Wp 2) (Yd 0 O O O ah)<|U0 O (Wp 2) (Ym O)<|U0 O (Wp 2) (bP O)<|U0 O (Wp 2) (Yf sz O) ?_;refine U0 O (Wp 2) (Yd 0 O O O ah)<|U0 O (Wp 2) (Yb Wa V_ O O) ?_;refine Ue O (Wp 2) ?_ WU.stop;refine Lb Y O xD O O O O λC=>?_;refine Ln<|Eu ?_;refine Ue O (λ_ h=>(Wo 2<|Wd 1 h:)) ?_ WU.stop;refine LA ⟨ak,0,[],b.2.at_⟩ 3 0 Y O xD O O O O O O aj aj λo p=>?_;rw [show b.2.dk.reverse++[(⟨ak,0,[],b.2.at_⟩:gc)]=((⟨ak,0,[],b.2.at_⟩:gc)::b.2.dk).reverse by simp];refine Ln<|Eu<|U0 O (λ_ h=>(Wo 2<|Wd 1 h:)) (bP O)<|U0 O (λ_ h=>(Wo 2<|Wd 1 h:)) (Yf uQ O) ?_;refine WU.nil (λ_ h=>(Wo 2<|Wd 1 h:)) ?_;refine WS.e O ?_;refine aq 1 Y O O O N1 O O O<|Ln<|Es ?_;refine WS.nil ?_;refine Et<|Cr<|ad O<|ad O<|V0 (bP O)<|V0 (Yf sz O)<|aq 1 Y O O O ei O O O<|Ln ?_;refine E0 O λl a=>?_;have a:=a.av 6 rfl;have a:=a.av 6 rfl;have a:=a.av 6 rfl;have a:=a.av 6 rfl;have a:=a.av 6 rfl;have a:=a.av 6 rfl;have a:=Ws.ej (L:=[_,_,_,_,_,_]) a;have a:=a.Kz 5 rfl 3 1;refine bA ⟨((),{ b.2 with at_:=to,dk:=⟨ak,0,[],b.2.at_⟩::b.2.dk,fa:=o,fc:=p }),O,⟨?_,⟨g.bI,g.bL,⟨aG,by simp;omega⟩,g.out,g.hb⟩⟩,a⟩;rw [xC,k];show (if 24<b.2.pu.dk.length then _ else _)=_;rw [ao (show ¬24<b.2.pu.dk.length by show ¬24<(b.2.dk.map gc.pu).length;simpa using n)];rfl
end Go.Proofs.YtgeahfjicmlocaaGreatDoor.Mch
end
section
namespace Go.Proofs.YtgeahfjicmlocaaGreatDoor.Mch
open Go.Bw Go.Proofs.Tryz
def N2 (H:View) (b o:Z) (x:ab) (h:k_ H b o x):ct H b o<|iv x:=λj v a=>by match j,a with| 0,a=>simp [iv] at a;subst a;exact h| j+1,a=>simp [iv] at a
def N3 (x:ab):(iv x).all (·.oneCell')=ac:=rfl
def xE (H:View) (b o:Z) (e:(az a0×Z)×I ab):Prop:=vc H b o=aa (aC e.1.1 e.2.length e.1.2)/\Sl k_ 1 H e.1.1 e.1.2 e.2
def ii (a:I<|(az a0×Z)×I ab):Z:=(a.map (·.2.length)).sum
def Br {a:I<|(az a0×Z)×I ab} {i:Z} {x:(az a0×Z)×I ab} (h:a[i]? = aa x):ii (a.take<|i+1)=ii (a.take i)+x.2.length:=by simp [ii,hP,h]
def Bs (a:I<|(az a0×Z)×I ab) (i:Z):ii (a.take i)<=ii a:=by
 have e:ii a=ii (a.take i)+ii (a.drop i):=by unfold ii;rw [<-K3,<-nY,qb]
 omega
def Bt (a:I<|(az a0×Z)×I ab):(a.flatMap (·.2)).length=ii a:=by simp [ii,K4]
def Ip (k:Z):(madeCells (aT.int am 0).cells<|k*1)=((gI k (0:ab)).flatMap iv).toArray:=by rw [Ls _ rfl];congr 1;induction k with| zero=>rfl| succ k a=>simp only [C2,jm,iv];rw [a];rfl
def Iq (x y:gc) (r:I gc):(x::r).reverse.set r.length y=(y::r).reverse:=by simp [I.set_append]
def kD:prog.underlying 3=some (.int .i64):=ah
def xF:g1 aB 178=aa 1:=ah
def Bu (H:View) (a:az a0) (c:Z) (l:I ab) (w:aL) (j:Le H w) (f:Sl k_ 1 H a c l) (p:l.length*8<=140737488355328) : cr aB 82 #[aC a l.length c] w λe g=>∃r:az a0×Z,e = ax (aC r.1 l.length r.2)/\Ext w g/\Sl k_ 1 (nv w g) r.1 r.2 l:=by
 have q:=f.cap;have s:=f.max;refine enter func82 O 8 O O ?_;refine CE (Vs:=[H]) (Ws.init (by simp [j]))<|ai<|ar O<|ag<|Cs<|ai<|ad O<|V0 (Du eS O)<|ag ?_;refine Cc O (λi=>?_)<|λi=>?_
 ·have k:l=[]:=by cases l with| nil=>rfl| cons x r=>obtain ⟨b,o,h,_⟩:=f.b7 0 x rfl;rw [h] at i;cases i
  refine ai<|ar O<|ag<|bq<|Er ?_;refine R1 O O λg d=>?_;subst k;exact ⟨(ak,0),O,d.fr,Sl.nil⟩
 refine bO<|ai ?_;refine WL.AQ Y O fY O O O λt=>?_;refine WL.yM (size:=1) 0 O (eC 0) (de _) O ?_;refine WL.AS 0 ([]:I ab).length (([]:I ab).flatMap iv) O O O ?_;refine ad O ?_;refine WL.vF (ys:=l) (xs:=[]) 0 (λ_=>H) Y O fY O O O (λw d=>⟨d.vs H aG,f⟩) N2 i5 N3 (by simp;omega) (by simp;omega) λm n=>?_;refine ar O<|ag<|bq ?_;refine R1 O O λg d=>?_;exact ⟨(m,n),O,d.fr,d.jF 0 O i5 ro⟩
def Wy (m:Z) (w:aL) (k:m<=1048576) : cr aB 273 #[aC ak 0 0,an am (m:ab)] w λe a=>∃r:az a0×Z,e = ax (aC r.1 ([]:I ab).length r.2)/\Ws w [] [cO 3 1 iv r.1 r.2 ([]:I ab)] [] a:=by
 refine enter func273 O 27 O O ?_;refine CE (Vs:=[]) (Ws.init aG)<|ai<|ar O<|ag<|Cs<|ai<|ad O<|V0 (cP O O)<|ag ?_;refine Cc O (λc=>?_)<|λc=>?_;·exfalso;simp at c;omega
 refine bO<|Cs<|ai<|ad O<|ad O<|V0 (DI eS O)<|ad O<|V0 (Yn eS O)<|V0 (m7 0 O O aG aj)<|V0 (m7 (m:ab) O O aG aj) ?_;refine ar O<|ag<|ai<|ad O<|V0 (ek O O)<|ag ?_;refine Cc O (λd=>?_)<|λd=>?_
 ·have g:0<m:=by simp at d;omega
  refine Cr<|ad O<|ad O<|V0 (DI eS O)<|V0 (uw 0 eS O aG O O<|de _)<|ad O ?_;refine WL.KC m Y O fY kD O O g (by unfold maxLen;omega) aj λh f l n i j=>?_;refine WL.yM (m:=0) (cap:=f) (size:=1) 0 O (de _) i (by rw [j,Au]) ?_;refine WL.AS 0 ([]:I ab).length (([]:I ab).flatMap iv) O O aG ?_;refine ad O<|V0 (Yn eS O)<|V0 (uw ([]:I ab).length eS O aG O O<|de _)<|ar O<|ag<|ai<|ad O<|ar O<|ag<|bq ?_;refine R1 O O λa b=>?_;exact ⟨(aa ⟨h,0,ak⟩,f),O,b⟩
 refine bO<|ai<|ad O<|ar O<|ag<|bq ?_;refine R1 O O λa b=>?_;exact ⟨(ak,0),O,b.bJ 3 1⟩
def Ir (H:View) (a:az a0) (c:Z) (d:I<|(az a0×Z)×I ab) (w:aL) (y:Le H w) (j:Sl xE 1 H a c d) (z:ii d<=1048576) (J:d.length<=1048576) :
   cr aB 234 #[aC a d.length c] w λe l=>∃r:az a0×Z,e = ax (aC r.1 (d.flatMap (·.2)).length r.2)/\Ws w [] [cO 3 1 iv r.1 r.2 (d.flatMap (·.2))] [H] l:=by
 have K:=j.cap;have L:=j.max;refine enter func234 O 36 O O ?_;refine CE (Vs:=[H]) (Ws.init (by simp [y]))<|ai<|ar O<|ag<|ai<|ar O<|ag<|Cs<|ai<|ad O<|V0 (Yn xF O) ?_;refine ad O<|ag<|Cb ?_;refine dg (ι:=Z) (λi=>[(11,an am (i:ab)),(3,an am (ii<|d.take i:ab))]) [(0,_),(2,_),(9,_),(10,_)] (λi=>i<=d.length) (λi=>d.length-i) 0 (de _) ?_;intro i hi;refine ai<|V0 (cP O O)<|ag<|Cs ?_;refine Cc O (λm=>?_)<|λm=>?_
 ·have n:i<d.length:=by simpa using m
  obtain ⟨x,f⟩:=dO n;obtain ⟨A,B,o,p,s⟩:=j.b7 i x f;have t:=Br f;have C:=Bs d<|i+1;refine bO<|Cs<|Cb<|ai<|V0 (Yo xF O O o aj)<|V0 (dQ 0 ah O O<|p)<|ar O<|ag<|ai<|ad O<|ad O<|V0 (Yn eS O) ?_;refine V0 (n7 (a:=ii<|d.take i) (b:=x.2.length) O O O O aj)<|ar O<|ag<|ai<|ad O<|V0 (cP O O)<|ag ?_;refine Cc O (λu=>?_)<|λu=>?_;·exfalso;simp at u;omega
  refine Ck<|Eb<|Et<|Cr<|V0 (Yi O O O aj)<|ad O<|Ln ?_;rw [<-t];exact cU (i+1) aj aj aR
 have k:i=d.length:=by simp at m;omega
 subst k;rw [gJ];refine Ce<|Ex<|Ex<|dy<|Et<|ai<|ad O ?_;refine Lw (ι:=az a0×Z) [] _ Y O bf O O (λr=>aC r.1 ([]:I ab).length r.2) (λr=>[cO 3 1 iv r.1 r.2 ([]:I ab)]) (λ_=>True) [] aG (λw h=>(Wy (ii d) w z).mono λe l ⟨r,D,E⟩=>⟨r,D,trivial,E⟩) ?_;intro v _;refine ar O<|ag<|Cs<|ai<|ad O<|V0 (Yn xF O)<|ad O<|ag<|Cb ?_;refine dZ (ι:=Z×az a0×Z) (λg=>[(27,an am (g.1:ab)),(6,aC g.2.1 ((d.take g.1).flatMap (·.2)).length g.2.2)]) [(2,_),(25,_),(26,_)] (λg=>Ws w [] [cO 3 1 iv g.2.1 g.2.2 ((d.take g.1).flatMap (·.2))] [H]) (λg=>g.1<=d.length) (λg=>d.length-g.1) (0,v.1,v.2) (de _) aR ?_;intro g hi;refine ai<|V0 (cP O O)<|ag<|Cs ?_;refine Cc O (λq=>?_)<|λq=>?_
 ·have n:g.1<d.length:=by simpa using q
  obtain ⟨x,f⟩:=dO n;obtain ⟨A,B,o,p,s⟩:=j.b7 g.1 x f;have t:=Br f;have C:=Bs d<|g.1+1;refine bO<|Cs<|Cb<|ai<|V0 (Yo xF O O o aj)<|V0 (dQ 0 ah O O<|p)<|ar O<|ag<|Cr<|ad O<|ad O ?_;refine WL.vF (xs:=(d.take g.1).flatMap (·.2)) (ys:=x.2) 0 (λ_=>H) Y O fY O O O (λw h=>⟨h.vs H aG,s⟩) N2 i5 N3 (by rw [Bt];omega) (by rw [Bt];omega) λF G=>?_;rw [show ((d.take g.1).flatMap (·.2))++x.2=(d.take<|g.1+1).flatMap (·.2) by rw [hP,f];simp];refine ar O<|Ln<|Eb<|Et<|Cr<|V0 (Yi O O O aj)<|ad O<|Ln ?_;exact cU ((g.1+1,F,G):Z×az a0×Z) (by first|omega|(dsimp only;omega)) (by first|omega|(dsimp only;omega)) aR
 have k:g.1=d.length:=by simp at q;omega
 refine Ce<|Ex<|Ex<|dy<|Et<|ai<|ad O<|ar O<|ag<|bq ?_;refine R1 O O λl h=>?_;rw [k,gJ] at h;rw [k,gJ];exact ⟨(g.2.1,g.2.2),O,h⟩
end Go.Proofs.YtgeahfjicmlocaaGreatDoor.Mch
end
section
namespace Go.Proofs.YtgeahfjicmlocaaGreatDoor.Mch
open Go.Bw Go.Proofs.Tryz
def lp:hW aB 178 29 (aC ak 0 0) 1 24:=jD ah
def Bv:cX aB 269 0=aa 0:=ah
set_option maxHeartbeats 1000000 in
def We (a b:Int):ln 156 [.int .i64 a,.int .i64 b] (v4 a b)<|λi:Unit=>.tuple #[]:=by
 refine ⟨bf,λR s S w m g=>?_⟩;have B:s.stack.reverse.length=s.stack.length:=aG;have T:s.dk.reverse.length=s.dk.length:=aG;have U:=m.bL;have N:=m.lC;have V:=m.out;have W:=m.hb;refine enter func156 O 63 O O ?_;refine CE g<|ai<|ad O<|V0 (cP O O)<|ad O ?_;apply Lo 2 O O O O Y O O O O O;·intro X;refine Vg (Ym O)<|Vg (cP O O) ?_;exact Gt 2 O O O
 refine ad O ?_;apply Lo 2 O O O O Y O O O O O;·intro ae;refine Vg (Ym O)<|Vg (ek O O) ?_;exact Gt 2 O O O
 refine ad O ?_;apply Lo 4 O O O O Y O O O O O;·intro af;refine Vg (Ym O)<|Vg (Ym O)<|Vg (Dg O O)<|Vg (ek O O) ?_;exact Gt 4 O O O
 refine ad O ?_;apply Lo 7 O O O O Y O O O O O;·intro al;refine Vg (Ym O)<|Vg (Ym O)<|Vg (bP O)<|Vg (Yf ni O)<|Vg (Yd 0 O O O ah)<|Vg (Yn eS O)<|Vg (ek O O) ?_;exact Gt 7 O O O
 refine d' (c:=(((decide (a<0)||decide (b<0))||decide (2048<a))||decide (IntKind.i64.wrap (2048-a)<b))||decide (((s.stack.reverse.length:Nat):Int)<a)) ?_ ?_;·intro p;refine Ep ?_;refine b3 λC g=>?_;rw [B] at p;exact .inr ⟨(6,s),O,by rw [v4,show s.pu.stack.length=s.stack.length from O,aU p],g⟩
 intro p;refine ag<|Cs ?_;have ap:0<=a/\0<=b/\a<=2048/\b<=2048-a/\a<=s.stack.length:=by rw [B] at p;simp only [lN,ny] at p;obtain ⟨⟨⟨⟨t,D⟩,E⟩,A⟩,aw⟩:=p;rw [Dh aj] at A;omega
 obtain ⟨f,r,n⟩:∃f r,s.dk=f::r:=by cases h:s.dk with| nil=>rw [h] at N;simp at N| cons f r=>exact ⟨f,r,rfl⟩
 have v:s.dk.length=r.length+1:=by rw [n];rfl
 refine Cr<|ad O<|V0 (bP O)<|V0 (Yf ni O)<|V0 (Yd 0 O O O ah)<|V0 (Yn eS O)<|ad O<|V0 (m7 ((s.stack.length-a.toNat:Nat):Int) O O (by rw [B];omega) aj) ?_;refine ar O<|ag<|Cs ?_;refine WC.TY 1 O λM Q aA=>?_;refine CU (λ_=>true) [] [14] (.q false 0<|.q false 2<|.q false 3<|.q false 4<|.q true 5<|.q false 6<|.q false 7<|.q false 8<|.e 1 (.e 9 (.e 10 (.e 11 (.q false 12<|.q false 13 .nil) .stop) .stop) .stop)<|.e 9 (.e 1 (.e 10 (.e 11 (.q false 12<|.q false 13 .nil) .stop) .stop)<|.e 10 (.e 1 (.e 11 (.q false 12<|.q false 13 .nil) .stop) .stop) .stop) .stop) mixed ah (λ_ _ _ d _ _ h=>by cases d<;>exact h) ?_;refine U0 O aR (Ym O)<|U0 O aR (Ym O)<|U0 O aR (bP O)<|U0 O aR (Yf ni O)<|U0 O aR (Yd 0 O O O ah)<|U0 O aR (Ym O)<|U0 O aR (AX (s.stack.length-a.toNat) eS O O O aj Q)<|U0 O aR (Ym O) ?_;refine Ue O aR ?_ ?_
 ·refine zt m ?_;intro P F;refine Ln<|Eu ?_;refine Ue O aR ?_ WU.stop;refine WL.make Y O fY O O aj aj aj aj λo=>?_;refine dK 0 (.cells ((List.replicate b.toNat (0:Int)).flatMap iv).toArray 3 (0,0)) O (by rw [Ip])<|Ln<|Eu ?_;refine Ue O (λ_ h=>(Wd 1 h:)) ?_ WU.stop;refine Lb Y O lp O O O O λu=>?_;refine Ln<|Eu ?_;refine Ue O (λ_ h=>(Wd 2 h:)) ?_ WU.stop;refine WL.AZ (ι:=Option Addr×Nat) Y O bf O (λr=>.slice r.1 ((s.stack.take a.toNat).reverse++List.replicate b.toNat 0).length r.2) (λr=>[cO 3 1 iv r.1 r.2<|(s.stack.take a.toNat).reverse++List.replicate b.toNat 0]) (λ_=>True) (λw g=>by
   have t:Sl k_ 1 (hv w) s.sa s.sc s.stack.reverse:=g.GV 3 rfl i5 ro;have t:=t.drop (s.stack.length-a.toNat) aj;have D:Sl k_ 1 (hv w) (some ⟨o,0,none⟩) b.toNat<|List.replicate b.toNat (0:Int):=⟨aG,aj,aG,λj x l=>⟨o,0,rfl,g.i_ 1 rfl (by show ((List.replicate b.toNat (0:Int)).flatMap iv)[0+j*1]? = _;have:=oR i5 l (j:=0) a';rw [k0];rw [vq] at this;rw [this];rfl)⟩⟩;have G:(s.stack.reverse.drop<|s.stack.length-a.toNat).length=s.stack.reverse.length-(s.stack.length-a.toNat):=aG;have H:(List.replicate b.toNat (0:Int)).length=b.toNat:=aG;have J:Sl xE 1 (hv w) (some ⟨u,0,none⟩) 2 [((if s.sc-(s.stack.length-a.toNat)=0 then s.sa else s.sa.map (·.add<|(s.stack.length-a.toNat)*1),s.sc-(s.stack.length-a.toNat)),s.stack.reverse.drop<|s.stack.length-a.toNat),((some ⟨o,0,none⟩,b.toNat),List.replicate b.toNat (0:Int))]:=⟨aG,a',aG,λj x l=>⟨u,0,rfl,by match j,l with| 0,l=>simp only [lL,gi] at l;subst l;exact ⟨by rw [G];exact g.i_ 0 rfl rfl,t⟩| 1,l=>simp only [lM,lL,gi] at l;subst l;exact ⟨by rw [H];exact g.i_ 0 rfl rfl,D⟩⟩⟩;have v:[((if s.sc-(s.stack.length-a.toNat)=0 then s.sa else s.sa.map (·.add<|(s.stack.length-a.toNat)*1),s.sc-(s.stack.length-a.toNat)),s.stack.reverse.drop<|s.stack.length-a.toNat),((some (⟨o,0,none⟩:Addr),b.toNat),List.replicate b.toNat (0:Int))].flatMap (·.2)=((s.stack.take a.toNat).reverse++List.replicate b.toNat 0):=by simp only [jm,C4,qd];rw [Gr,show s.stack.length-(s.stack.length-a.toNat)=a.toNat by omega]
   have z:=Ir (hv w) (some ⟨u,0,none⟩) 2 _ w (b9 w) J (by simp [ii];omega) aG;rw [v] at z;exact z.mono λe C ⟨r,E,A⟩=>⟨r,E,trivial,A.dr aG⟩) ?_;intro k _;refine Ln<|Eu<|U0 O (λ_ h=>(Wd 3 h:)) (bP O)<|U0 O (λ_ h=>(Wd 3 h:)) (Yf Bv O) ?_;refine WU.nil (λ_ h=>(Wd 3 h:)) ?_;refine WS.e O ?_;refine WL.storeT (y:=f) 5 r.length 0 ({ f with la:=k.1,lc:=k.2,loc:=(s.stack.take a.toNat).reverse++List.replicate b.toNat 0 }) Y O O O F (by rw [v];simp) gc.dA (by rw [n,yy,r4 aG];simp) cq O O a' O ?_;rw [show s.dk.reverse.set r.length { f with la:=k.1,lc:=k.2,loc:=(s.stack.take a.toNat).reverse++List.replicate b.toNat 0 }=({ f with la:=k.1,lc:=k.2,loc:=(s.stack.take a.toNat).reverse++List.replicate b.toNat 0 }::r).reverse by rw [n,Iq]];refine Ln<|Es ?_;refine WS.nil ?_;refine Et<|Cr<|ad O<|ad O<|V0 (bP O)<|V0 (Yf ni O)<|V0 (Yd 3 O O O ah)<|ad O<|V0 (uw (s.stack.drop a.toNat).reverse.length eS O M O aG (by simp;omega)) ?_;refine V0 (bP O)<|V0 (Yf ni O)<|aq 3 Y O O O cq O O O ?_;refine WL.AY 4 (s.stack.drop a.toNat).reverse O i5 aG (by rw [zi];congr 2;simp;omega) ?_;refine Ln ?_;refine E0 O λC g=>?_;have g:=g.av 7 rfl;have g:=g.av 7 rfl;have g:=g.av 7 rfl;have g:=g.av 7 rfl;have g:=g.av 7 rfl;have g:=g.av 5 rfl;have g:=g.av 8 rfl;have g:=Ws.ej (L:=[_,_,_,_,_,_,_]) g;rw [n] at g;have g:=g.yR;have g:=Wd 1 g;have g:=g.av 1 rfl;have g:=g.yS;have g:=g.av 5 rfl;have g:=g.av 5 rfl;have g:=g.av 5 rfl;have g:=g.av 5 rfl;have g:=g.av 5 rfl;have g:=Ws.ej (L:=[_,_,_,_,_,_]) g;have K:lQ s.obj (0+3) (fh<|.slice s.sa (s.stack.drop a.toNat).reverse.length s.sc)=bp.obj { s with stack:=s.stack.drop a.toNat,dk:={ f with la:=k.1,lc:=k.2,loc:=(s.stack.take a.toNat).reverse++List.replicate b.toNat 0 }::r }:=by unfold bp.obj;rw [show s.dk.reverse.length=({ f with la:=k.1,lc:=k.2,loc:=(s.stack.take a.toNat).reverse++List.replicate b.toNat 0 }::r).reverse.length by simp [n]];rfl
  rw [K] at g;refine .inl ⟨((),{ s with stack:=s.stack.drop a.toNat,dk:={ f with la:=k.1,lc:=k.2,loc:=(s.stack.take a.toNat).reverse++List.replicate b.toNat 0 }::r }),O,⟨?_,⟨m.bI,by show (s.stack.drop a.toNat).length<=2048;simp;omega,by show 1<=(r.length+1)/\r.length+1<=25;omega,m.out,m.hb⟩⟩,g⟩;rw [B] at p;unfold v4;rw [ao (by rw [show s.pu.stack.length=s.stack.length from rfl,p];simp),show s.pu.dk=f.pu::r.map gc.pu by show s.dk.map gc.pu=_;rw [n];rfl];rfl
 refine Ue O aR ?_ WU.stop;refine WL.make Y O fY O O aj aj aj aj λo=>?_;refine dK 0 (.cells ((List.replicate b.toNat (0:Int)).flatMap iv).toArray 3 (0,0)) O (by rw [Ip])<|Ln<|Eu ?_;refine Ue O (λ_ h=>(Wd 1 h:)) ?_ ?_
 ·refine Lf 6 O<|Lf 6 O<|Lf 6 O<|Lf 6 O<|Lf 6 O<|Lf 6 O ?_;refine zt m ?_;intro P F;refine Ln<|Eu ?_;refine Ue O (λ_ h=>(Wt 6 h:)) ?_ WU.stop;refine Lb Y O lp O O O O λu=>?_;refine Ln<|Eu ?_;refine Ue O (λ_ h=>by exact (Wt 6<|(((((h.f 6 O).f 6 O).f 6 O).f 6 O).f 6 O).f 6 O:)) ?_ WU.stop;refine WL.AZ (ι:=Option Addr×Nat) Y O bf O (λr=>.slice r.1 ((s.stack.take a.toNat).reverse++List.replicate b.toNat 0).length r.2) (λr=>[cO 3 1 iv r.1 r.2<|(s.stack.take a.toNat).reverse++List.replicate b.toNat 0]) (λ_=>True) (λw g=>by
   have t:Sl k_ 1 (hv w) s.sa s.sc s.stack.reverse:=g.GV 2 rfl i5 ro;have t:=t.drop (s.stack.length-a.toNat) aj;have D:Sl k_ 1 (hv w) (some ⟨o,0,none⟩) b.toNat<|List.replicate b.toNat (0:Int):=⟨aG,aj,aG,λj x l=>⟨o,0,rfl,g.i_ 7 rfl (by show ((List.replicate b.toNat (0:Int)).flatMap iv)[0+j*1]? = _;have:=oR i5 l (j:=0) a';rw [k0];rw [vq] at this;rw [this];rfl)⟩⟩;have G:(s.stack.reverse.drop<|s.stack.length-a.toNat).length=s.stack.reverse.length-(s.stack.length-a.toNat):=aG;have H:(List.replicate b.toNat (0:Int)).length=b.toNat:=aG;have J:Sl xE 1 (hv w) (some ⟨u,0,none⟩) 2 [((if s.sc-(s.stack.length-a.toNat)=0 then s.sa else s.sa.map (·.add<|(s.stack.length-a.toNat)*1),s.sc-(s.stack.length-a.toNat)),s.stack.reverse.drop<|s.stack.length-a.toNat),((some ⟨o,0,none⟩,b.toNat),List.replicate b.toNat (0:Int))]:=⟨aG,a',aG,λj x l=>⟨u,0,rfl,by match j,l with| 0,l=>simp only [lL,gi] at l;subst l;exact ⟨by rw [G];exact g.i_ 0 rfl rfl,t⟩| 1,l=>simp only [lM,lL,gi] at l;subst l;exact ⟨by rw [H];exact g.i_ 0 rfl rfl,D⟩⟩⟩;have v:[((if s.sc-(s.stack.length-a.toNat)=0 then s.sa else s.sa.map (·.add<|(s.stack.length-a.toNat)*1),s.sc-(s.stack.length-a.toNat)),s.stack.reverse.drop<|s.stack.length-a.toNat),((some (⟨o,0,none⟩:Addr),b.toNat),List.replicate b.toNat (0:Int))].flatMap (·.2)=((s.stack.take a.toNat).reverse++List.replicate b.toNat 0):=by simp only [jm,C4,qd];rw [Gr,show s.stack.length-(s.stack.length-a.toNat)=a.toNat by omega]
   have z:=Ir (hv w) (some ⟨u,0,none⟩) 2 _ w (b9 w) J (by simp [ii];omega) aG;rw [v] at z;exact z.mono λe C ⟨r,E,A⟩=>⟨r,E,trivial,A.dr aG⟩) ?_;intro k _;refine Ln<|Eu<|U0 O (λ_ h=>by exact (Wt 6<|(((((h.f 7 O).f 7 O).f 7 O).f 7 O).f 7 O).f 7 O:)) (bP O)<|U0 O (λ_ h=>by exact (Wt 6<|(((((h.f 7 O).f 7 O).f 7 O).f 7 O).f 7 O).f 7 O:)) (Yf Bv O) ?_;refine WU.nil (λ_ h=>by exact (Wt 6<|(((((h.f 7 O).f 7 O).f 7 O).f 7 O).f 7 O).f 7 O:)) ?_;refine WS.e O ?_;refine WL.storeT (y:=f) 4 r.length 0 ({ f with la:=k.1,lc:=k.2,loc:=(s.stack.take a.toNat).reverse++List.replicate b.toNat 0 }) Y O O O F (by rw [v];simp) gc.dA (by rw [n,yy,r4 aG];simp) cq O O a' O ?_;rw [show s.dk.reverse.set r.length { f with la:=k.1,lc:=k.2,loc:=(s.stack.take a.toNat).reverse++List.replicate b.toNat 0 }=({ f with la:=k.1,lc:=k.2,loc:=(s.stack.take a.toNat).reverse++List.replicate b.toNat 0 }::r).reverse by rw [n,Iq]];refine Ln<|Es ?_;refine WS.nil ?_;refine Et<|Cr<|ad O<|ad O<|V0 (bP O)<|V0 (Yf ni O)<|V0 (Yd 2 O O O ah)<|ad O<|V0 (uw (s.stack.drop a.toNat).reverse.length eS O M O aG (by simp;omega)) ?_;refine V0 (bP O)<|V0 (Yf ni O)<|aq 2 Y O O O cq O O O ?_;refine WL.AY 3 (s.stack.drop a.toNat).reverse O i5 aG (by rw [zi];congr 2;simp;omega) ?_;refine Ln ?_;refine E0 O λC g=>?_;have g:=g.av 6 rfl;have g:=g.av 6 rfl;have g:=g.av 6 rfl;have g:=g.av 6 rfl;have g:=g.av 6 rfl;have g:=g.av 5 rfl;have g:=g.av 7 rfl;have g:=Ws.ej (L:=[_,_,_,_,_,_,_]) g;rw [n] at g;have g:=g.yR;have g:=Wd 1 g;have g:=g.av 1 rfl;have g:=g.yS;have g:=g.av 5 rfl;have g:=g.av 5 rfl;have g:=g.av 5 rfl;have g:=g.av 5 rfl;have g:=g.av 5 rfl;have g:=Ws.ej (L:=[_,_,_,_,_,_]) g;have K:lQ s.obj (0+3) (fh<|.slice s.sa (s.stack.drop a.toNat).reverse.length s.sc)=bp.obj { s with stack:=s.stack.drop a.toNat,dk:={ f with la:=k.1,lc:=k.2,loc:=(s.stack.take a.toNat).reverse++List.replicate b.toNat 0 }::r }:=by unfold bp.obj;rw [show s.dk.reverse.length=({ f with la:=k.1,lc:=k.2,loc:=(s.stack.take a.toNat).reverse++List.replicate b.toNat 0 }::r).reverse.length by simp [n]];rfl
  rw [K] at g;refine .inl ⟨((),{ s with stack:=s.stack.drop a.toNat,dk:={ f with la:=k.1,lc:=k.2,loc:=(s.stack.take a.toNat).reverse++List.replicate b.toNat 0 }::r }),O,⟨?_,⟨m.bI,by show (s.stack.drop a.toNat).length<=2048;simp;omega,by show 1<=(r.length+1)/\r.length+1<=25;omega,m.out,m.hb⟩⟩,g⟩;rw [B] at p;unfold v4;rw [ao (by rw [show s.pu.stack.length=s.stack.length from rfl,p];simp),show s.pu.dk=f.pu::r.map gc.pu by show s.dk.map gc.pu=_;rw [n];rfl];rfl
 refine Ue O (λ_ h=>(Wd 1 h:)) ?_ WU.stop;refine Lb Y O lp O O O O λu=>?_;refine Ln<|Eu ?_;refine Ue O (λ_ h=>(Wd 2 h:)) ?_ WU.stop;refine Lf 7 O<|Lf 7 O<|Lf 7 O<|Lf 7 O<|Lf 7 O<|Lf 7 O ?_;refine zt m ?_;intro P F;refine Ln<|Eu ?_;refine Ue O (λ_ h=>(Wt 6 h:)) ?_ WU.stop;refine WL.AZ (ι:=Option Addr×Nat) Y O bf O (λr=>.slice r.1 ((s.stack.take a.toNat).reverse++List.replicate b.toNat 0).length r.2) (λr=>[cO 3 1 iv r.1 r.2<|(s.stack.take a.toNat).reverse++List.replicate b.toNat 0]) (λ_=>True) (λw g=>by
  have t:Sl k_ 1 (hv w) s.sa s.sc s.stack.reverse:=g.GV 1 rfl i5 ro;have t:=t.drop (s.stack.length-a.toNat) aj;have D:Sl k_ 1 (hv w) (some ⟨o,0,none⟩) b.toNat<|List.replicate b.toNat (0:Int):=⟨aG,aj,aG,λj x l=>⟨o,0,rfl,g.i_ 7 rfl (by show ((List.replicate b.toNat (0:Int)).flatMap iv)[0+j*1]? = _;have:=oR i5 l (j:=0) a';rw [k0];rw [vq] at this;rw [this];rfl)⟩⟩;have G:(s.stack.reverse.drop<|s.stack.length-a.toNat).length=s.stack.reverse.length-(s.stack.length-a.toNat):=aG;have H:(List.replicate b.toNat (0:Int)).length=b.toNat:=aG;have J:Sl xE 1 (hv w) (some ⟨u,0,none⟩) 2 [((if s.sc-(s.stack.length-a.toNat)=0 then s.sa else s.sa.map (·.add<|(s.stack.length-a.toNat)*1),s.sc-(s.stack.length-a.toNat)),s.stack.reverse.drop<|s.stack.length-a.toNat),((some ⟨o,0,none⟩,b.toNat),List.replicate b.toNat (0:Int))]:=⟨aG,a',aG,λj x l=>⟨u,0,rfl,by match j,l with| 0,l=>simp only [lL,gi] at l;subst l;exact ⟨by rw [G];exact g.i_ 6 rfl rfl,t⟩| 1,l=>simp only [lM,lL,gi] at l;subst l;exact ⟨by rw [H];exact g.i_ 6 rfl rfl,D⟩⟩⟩;have v:[((if s.sc-(s.stack.length-a.toNat)=0 then s.sa else s.sa.map (·.add<|(s.stack.length-a.toNat)*1),s.sc-(s.stack.length-a.toNat)),s.stack.reverse.drop<|s.stack.length-a.toNat),((some (⟨o,0,none⟩:Addr),b.toNat),List.replicate b.toNat (0:Int))].flatMap (·.2)=((s.stack.take a.toNat).reverse++List.replicate b.toNat 0):=by simp only [jm,C4,qd];rw [Gr,show s.stack.length-(s.stack.length-a.toNat)=a.toNat by omega]
  have z:=Ir (hv w) (some ⟨u,0,none⟩) 2 _ w (b9 w) J (by simp [ii];omega) aG;rw [v] at z;exact z.mono λe C ⟨r,E,A⟩=>⟨r,E,trivial,A.dr aG⟩) ?_;intro k _;refine Ln<|Eu<|U0 O (λ_ h=>by exact (Wt 6<|(((((h.f 6 O).f 6 O).f 6 O).f 6 O).f 6 O).f 6 O:)) (bP O)<|U0 O (λ_ h=>by exact (Wt 6<|(((((h.f 6 O).f 6 O).f 6 O).f 6 O).f 6 O).f 6 O:)) (Yf Bv O) ?_;refine WU.nil (λ_ h=>by exact (Wt 6<|(((((h.f 6 O).f 6 O).f 6 O).f 6 O).f 6 O).f 6 O:)) ?_;refine WS.e O ?_;refine WL.storeT (y:=f) 3 r.length 0 ({ f with la:=k.1,lc:=k.2,loc:=(s.stack.take a.toNat).reverse++List.replicate b.toNat 0 }) Y O O O F (by rw [v];simp) gc.dA (by rw [n,yy,r4 aG];simp) cq O O a' O ?_;rw [show s.dk.reverse.set r.length { f with la:=k.1,lc:=k.2,loc:=(s.stack.take a.toNat).reverse++List.replicate b.toNat 0 }=({ f with la:=k.1,lc:=k.2,loc:=(s.stack.take a.toNat).reverse++List.replicate b.toNat 0 }::r).reverse by rw [n,Iq]];refine Ln<|Es ?_;refine WS.nil ?_;refine Et<|Cr<|ad O<|ad O<|V0 (bP O)<|V0 (Yf ni O)<|V0 (Yd 1 O O O ah)<|ad O<|V0 (uw (s.stack.drop a.toNat).reverse.length eS O M O aG (by simp;omega)) ?_;refine V0 (bP O)<|V0 (Yf ni O)<|aq 1 Y O O O cq O O O ?_;refine WL.AY 2 (s.stack.drop a.toNat).reverse O i5 aG (by rw [zi];congr 2;simp;omega) ?_;refine Ln ?_;refine E0 O λC g=>?_;have g:=g.av 6 rfl;have g:=Ws.ej (L:=[_,_,_,_,_,_,_]) g;rw [n] at g;have g:=g.yR;have g:=Wd 1 g;have g:=g.av 1 rfl;have g:=g.yS;have g:=g.av 5 rfl;have g:=g.av 5 rfl;have g:=g.av 5 rfl;have g:=g.av 5 rfl;have g:=g.av 5 rfl;have g:=Ws.ej (L:=[_,_,_,_,_,_]) g;have K:lQ s.obj (0+3) (fh<|.slice s.sa (s.stack.drop a.toNat).reverse.length s.sc)=bp.obj { s with stack:=s.stack.drop a.toNat,dk:={ f with la:=k.1,lc:=k.2,loc:=(s.stack.take a.toNat).reverse++List.replicate b.toNat 0 }::r }:=by unfold bp.obj;rw [show s.dk.reverse.length=({ f with la:=k.1,lc:=k.2,loc:=(s.stack.take a.toNat).reverse++List.replicate b.toNat 0 }::r).reverse.length by simp [n]];rfl
 rw [K] at g;refine .inl ⟨((),{ s with stack:=s.stack.drop a.toNat,dk:={ f with la:=k.1,lc:=k.2,loc:=(s.stack.take a.toNat).reverse++List.replicate b.toNat 0 }::r }),O,⟨?_,⟨m.bI,by show (s.stack.drop a.toNat).length<=2048;simp;omega,by show 1<=(r.length+1)/\r.length+1<=25;omega,m.out,m.hb⟩⟩,g⟩;rw [B] at p;unfold v4;rw [ao (by rw [show s.pu.stack.length=s.stack.length from rfl,p];simp),show s.pu.dk=f.pu::r.map gc.pu by show s.dk.map gc.pu=_;rw [n];rfl];rfl
end Go.Proofs.YtgeahfjicmlocaaGreatDoor.Mch
end
