/- WholeSame: Exec tells what Mean tells: the same numbers, the same end, the same data, as many ticks; and what is executed is never Broken, nor out of steps. -/
import Derived.Maps.Own
import Derived.Maps.Range
import Derived.Sort.KeysCollected
import Derived.Test.YtgeahfjicmlocaaGreatDoorRows
import Derived.Test.YtgeahfjicmlocaaGreatDoorR1
set_option linter.unusedVariables false
set_option linter.unusedSimpArgs false
set_option linter.defProp false
open _root_ renaming List->I,Nat->Z,Int->ac,Option->aA,Bool->aS,UInt8->ar,Array->bH,Unit->ef,String->fO
open Option renaming some->aa,none->ao
open Bool renaming true->ad,false->aq
open Go.Value renaming int->am,slice->aE,bool->bW,agg->b0,pointer->b8,tuple->cO,ownBlock->l8
open Go.IntKind renaming i64->an
open Go.Proofs.Tryz renaming prog->aC
open Go renaming World->aP,Value->aR,Addr->a6,TypeId->cn,Calls->cx,Oper->cg,Act->cY,Exit->di,Program->dJ,Operand->ei,Deferred->fw,Edge->fY,PanicEntry->oZ
open Go.Obj renaming cells->aY
open Or renaming inr->be,inl->bB
open Go.Ending renaming returned->cf
open Nat renaming blt->e'
open List renaming replicate->gb,range->lf,length->m0
open Go.Result renaming andThen_ok->jc
open Go.Sem renaming run_bind->j7,run_pure->lG
open Go.Oper renaming wp->kt
open Go.Region renaming wanted->nN
section
namespace Go.Bw
open Go Go.RowKit
def rv (a:bh) (w:aP):View:=λb=>if b ∈ a.ids then w.heap[b]? else ao
section
variable {w0 w:aP} {F:I Z} {L:I bh} {Vs:I View} {A:bh}
def ahw (a:bh) (w:aP):Le (rv a w) w:=λb o h=>by
 unfold rv at h;split at h;·exact h
 ·cases h
def Ws.Ct (h:Ws w0 F L Vs w) (i:Z) (hL:L[i]? = aa A):Ws w0 F (gk i L) (rv A w::Vs) w:=by
 have d:=h.perm<|pJ i L hL;have b:Ws w0 F (gk i L) Vs w:=Ws.drop (L:=[A]) d;refine ⟨b.fr,b.kn,b.nd,b.own,λc a=>?_,λc a B e k f=>?_⟩
 ·rcases eR.1 a with rfl | a;·exact ahw A w
  ·exact b.vs c a
 ·rcases eR.1 a with rfl | a;·have nd:=d.nd;rw [lK,l9] at nd;unfold rv;rw [aj];intro g;exact nd.2.2 k g k (nO.2 ⟨B,e,f⟩) O
  ·exact b.off c a B e k f
def Fw {α:Type} {rd:View->Z->Z->α->Prop} {f:α->I aR} {k e c:Z} {a:aA a6} {xs:I α} (h:(cQ e k f a c xs).holds w) (m:∀x,(f x).length=k) (p:∀n b o x,cB n b o (f x)->rd n b o x):Sl rd k (rv (cQ e k f a c xs) w) a c xs:=by
 obtain ⟨F,q⟩:=(h:w.ownsRow 0 e k _ xs.length (xs.flatMap f));rcases q with ⟨r,G⟩ | ⟨b,cap,cur,s,_,t,u,g,H,y⟩;·injection r with l z g;subst l g;have:xs=[]:=s' ai;subst this;exact Sl.nil
 ·injection s with l z A;subst l A;refine ⟨u,by unfold maxLen at g;omega,aK,λi x B=>⟨b,0,O,p _ _ _ _ λj v hv=>?_⟩⟩;have C:j<k:=by have:=(cN.1 hv).1;rw [m] at this;exact this
  have d:(xs.flatMap f)[i*k+j]? = aa v:=by rw [pM m B C];exact hv
  rw [<-y,jF] at d;split at d
  ·have D:rv (cQ e k f (aa ⟨b,0,ao⟩) c xs) w b=aa (aY cur e (0,0)):=by unfold rv;rw [aD (by simp [eV,l8])];exact t
   have E:vc (rv (cQ e k f (aa ⟨b,0,ao⟩) c xs) w) b (0+i*k+j)=cz (aY cur e (0,0)) (0+i*k+j):=by unfold vc;rw [D];rfl
   rw [E];simpa [cz] using d
  ·cases d
end
section
variable {P:dJ} {ops:bH cg} {cd:Code} {Q:di->cY->aP->Prop} {n:Z} {ds:I fw} {l:I<|Z×aR} {w0:aP} {F:I Z} {L:I bh} {Vs:I View} {rest:I cg}
variable {aB:Type} {ej:aB->I aR} {bE aL dl:Z} {cq:aA a6} {cv:I aB}
def WC.dM {rd:View->Z->Z->aB->Prop}     (i:Z) (hL:L[i]? = aa (cQ aL bE ej cq dl cv)) (d:∀x,(ej x).length=bE) (e:∀a b o x,cB a b o (ej x)->rd a b o x) (h:∀a,Sl rd bE a cq dl cv->WC P cd Q n ds l (Ws w0 F (gk i L)<|a::Vs)):WC P cd Q n ds l<|Ws w0 F L Vs:= λf w g c=>h _ (Fw (c.kn _<|gd hL) d e) f w g<|c.Ct i hL
def hk {a:Obj} (i:Z) (b:Obj) (hL:L[i]? = aa (aQ bE a)) (c:a=b) (h:WC P cd Q n ds l<|Ws w0 F (L.set i<|aQ bE b) Vs):WC P cd Q n ds l<|Ws w0 F L Vs:= WC.pS i hL (by rw [c]) h
def WL.dM {rd:View->Z->Z->aB->Prop}     (i:Z) (hL:L[i]? = aa (cQ aL bE ej cq dl cv)) (d:∀x,(ej x).length=bE) (e:∀a b o x,cB a b o (ej x)->rd a b o x) (h:∀a,Sl rd bE a cq dl cv->WL P ops Q n ds l (Ws w0 F (gk i L)<|a::Vs) rest):WL P ops Q n ds l (Ws w0 F L Vs) rest:= λf w g c=>h _ (Fw (c.kn _<|gd hL) d e) f w g<|c.Ct i hL
def WL.m6 {rd:View->Z->Z->aB->Prop} {f:aB->I aR} {k T b m:Z} {c:Z×Z} {cur:bH aR} (i:Z) (xs:I aB) (hL:L[i]? = aa (aQ b<|aY cur T c)) (d:cur=(xs.flatMap f).toArray) (e:∀x,(f x).length=k) (g:∀a b o x,cB a b o (f x)->rd a b o x) (j:xs.length<=m) (p:m<=9223372036854775807) (h:∀a,Sl rd k a (aa ⟨b,0,ao⟩) m xs->WL P ops Q n ds l (Ws w0 F (gk i L)<|a::Vs) rest):WL P ops Q n ds l (Ws w0 F L Vs) rest:=by
 subst d;have q:bv b (aY (xs.flatMap f).toArray T c) b=aa (aY (xs.flatMap f).toArray T c):=by simp [bv]
 exact WL.yp i hL<|h _<|I1 (f:=f) q e g j p
end
def Fx (P:dJ) (t:cn) (f:Z):aA Z:=match P.underlying t with
 | aa<|.struct fs=>match fs[f]? with| aa x=>if fJ P x.type=ad then aa x.offset else ao| ao=>ao
 | _=>ao
section
variable {P:dJ} {l:I<|Z×aR} {W:aP->Prop} {d:aA Tmp} {ty:cn} {pos:fO} {af:bH fY} {g:aA<|Z×aS}
def Oa {t:cn} {x:ei} {f k:Z} {cs:bH aR} {v:aR} (a:Fx P t f=aa k) (h:b9 l x=aa (b0 cs)) (hv:cs[k]? = aa v):Yl P l W ⟨d,.field t x f,ty,pos,af,g⟩ v:=by
 intro p w i _;unfold Fx at a;cases b:P.underlying t with
 | none=>simp [b] at a
 | some j=>
  cases j<;>simp [b] at a;rename_i fs;cases c:fs[f]? with
  | none=>simp [c] at a
  | some e=>
   simp [c] at a;obtain ⟨m,rfl⟩:=a;have n:=Il m w;have o:(part e.type cs e.offset).run P w = .ok v w:=by simp [part,n,hv]
   simp [execOp,i x _ h,Instr.field,run_underlying b,c,asAgg,o]
end
abbrev v0:View:=λ_=>ao
def fK (w:aP):hf w v0:=λ_ _ h=>by cases h
def vj (a B:View):View:=λb=>match a b with| aa o=>aa o| ao=>B b
def Ob (a B:View):cX a<|vj a B:=λb o h=>by simp [vj,h]
variable {bN cR:View} {cm:aP}
def Oc (d:Le bN cm) (e:Le cR cm):cX cR<|vj bN cR:=λb o h=>by cases c:bN b with| none=>simp [vj,c,h]| some f=>have g:=d b f c;have a:=e b o h;rw [g] at a;injection a with a;subst a;simp [vj,c]
def Ww (a:Le bN cm) (c:Le cR cm):Le (vj bN cR) cm:=λb o h=>by
 unfold vj at h;split at h;·rename_i e d;injection h with h;subst h;exact a b _ d
 ·exact c b o h
def Od (a:hf cm bN) (c:hf cm cR):hf cm<|vj bN cR:=λb o h=>by
 unfold vj at h;split at h;·rename_i e d;injection h with h;subst h;exact a b _ d
 ·exact c b o h
section
variable {w0 w:aP} {F:I Z} {L:I bh} {Vs:I View} {A:bh}
def Ws.v0 (h:Ws w0 F L Vs w):Ws w0 F L (v0::Vs) w:= ⟨h.fr,h.kn,h.nd,h.own,λc a=>by
 rcases eR.1 a with rfl | a;·intro b o d;cases d
 ·exact h.vs c a,λc a=>by
 rcases eR.1 a with rfl | a;·intro _ _ _ _;rfl
 ·exact h.off c a⟩
def Ws.cb {b c:View} (h:Ws w0 F L (b::c::Vs) w):Ws w0 F L (vj b c::Vs) w:= ⟨h.fr,h.kn,h.nd,h.own,λd a=>by
 rcases eR.1 a with rfl | a;·exact Ww (h.vs b aK)<|h.vs c aK
 ·exact h.vs d (by simp [a]),λd a e f k g=>by
 rcases eR.1 a with rfl | a;·simp [vj,h.off b aK e f k g,h.off c aK e f k g]
 ·exact h.off d (by simp [a]) e f k g⟩
def Ws.Wx (h:Ws w0 F (A::L) Vs w) (c:∀k ∈ F,k ∈ L.flatMap bh.ids):∀k ∈ A.ids,w0.heap.size<=k:=by
 intro k b;rcases h.own A aK k b with a | a;·have nd:=h.nd;rw [lK,l9] at nd;exact absurd O<|nd.2.2 k b k<|c k a
 ·exact a
def I2 (h:Ws w0 F (A::L) Vs w) (d:∀k ∈ F,k ∈ L.flatMap bh.ids) (e:∀b ∈ A.ids,∀o,w.heap[b]? = aa o->yj o=ad):hf w0<|rv A w:=λb o a=>by
 unfold rv at a;split at a;·rename_i c;exact ⟨h.Wx d b c,e b c o a⟩
 ·cases a
def Oe {α:Type} {f:α->I aR} {k e c:Z} {a:aA a6} {xs:I α} (h:(cQ e k f a c xs).holds w):∀b ∈ (cQ e k f a c xs).ids,∀o,w.heap[b]? = aa o->yj o=ad:=by
 obtain ⟨q,l⟩:=(h:w.ownsRow 0 e k _ xs.length (xs.flatMap f));rcases l with ⟨m,r⟩ | ⟨b,cap,cur,n,_,g,_⟩;·injection m with i p s;subst i;intro b g;simp [eV,l8] at g
 ·injection n with i p t;subst i;intro u j o d;simp [eV,l8] at j;subst j;rw [g] at d;injection d with d;subst d;rfl
def fm {a:View} (h:Ws w0 F L Vs w) (b:a ∈ Vs) (c:hf w0 a):cX a<|nv w0 w:=Vn (h.vs a b) c
end
section
variable {P:dJ} {ops:bH cg} {cd:Code} {Q:di->cY->aP->Prop} {n:Z} {ds:I fw} {l:I<|Z×aR} {w0:aP} {F:I Z} {L:I bh} {Vs:I View} {rest:I cg}
def WL.v0 (h:WL P ops Q n ds l (Ws w0 F L<|v0::Vs) rest):WL P ops Q n ds l (Ws w0 F L Vs) rest:=LW (λ_ a=>a.v0) h
def WL.cb (h:∀b,cX bN b->cX cR b->(∀u,hf u bN->hf u cR->hf u b)->WL P ops Q n ds l (Ws w0 F L<|b::Vs) rest):WL P ops Q n ds l (Ws w0 F L<|bN::cR::Vs) rest:= λa w d c=>h (vj bN cR) (Ob bN cR) (Oc (c.vs bN aK)<|c.vs cR aK) (λu e f=>Od e f) a w d c.cb
def WC.cb (h:∀b,cX bN b->cX cR b->(∀u,hf u bN->hf u cR->hf u b)->WC P cd Q n ds l (Ws w0 F L<|b::Vs)):WC P cd Q n ds l<|Ws w0 F L<|bN::cR::Vs:= λa w d c=>h (vj bN cR) (Ob bN cR) (Oc (c.vs bN aK)<|c.vs cR aK) (λu e f=>Od e f) a w d c.cb
variable {aB:Type} {ej:aB->I aR} {cq:aA a6} {cv:I aB}
def WL.qD {rd:View->Z->Z->aB->Prop}  {k e c:Z}   (i:Z) (hL:L[i]? = aa (cQ e k ej cq c cv)) (f:∀k ∈ F,k ∈ (gk i L).flatMap bh.ids) (g:∀x,(ej x).length=k) (j:∀a b o x,cB a b o (ej x)->rd a b o x) (h:∀a,hf w0 a->Sl rd k a cq c cv->WL P ops Q n ds l (Ws w0 F (gk i L)<|a::Vs) rest):WL P ops Q n ds l (Ws w0 F L Vs) rest:= λm w p d=>h _ (I2 (d.perm<|pJ i L hL) f<|Oe<|d.kn _<|gd hL) (Fw (d.kn _<|gd hL) g j) m w p<|d.Ct i hL
def WC.qD {rd:View->Z->Z->aB->Prop}  {k e c:Z}   (i:Z) (hL:L[i]? = aa (cQ e k ej cq c cv)) (f:∀k ∈ F,k ∈ (gk i L).flatMap bh.ids) (g:∀x,(ej x).length=k) (j:∀a b o x,cB a b o (ej x)->rd a b o x) (h:∀a,hf w0 a->Sl rd k a cq c cv->WC P cd Q n ds l (Ws w0 F (gk i L)<|a::Vs)):WC P cd Q n ds l<|Ws w0 F L Vs:= λm w p d=>h _ (I2 (d.perm<|pJ i L hL) f<|Oe<|d.kn _<|gd hL) (Fw (d.kn _<|gd hL) g j) m w p<|d.Ct i hL
def LN {rd:View->Z->Z->aB->Prop} {f:aB->I aR} {k T b m:Z} {cur:bH aR} (i:Z) (xs:I aB) (hL:L[i]? = aa (aQ b<|aY cur T (0,0))) (j:cur=(xs.flatMap f).toArray) (p:∀k ∈ F,k ∈ (gk i L).flatMap bh.ids) (q:∀x,(f x).length=k) (r:∀a b o x,cB a b o (f x)->rd a b o x) (s:xs.length<=m) (t:m<=9223372036854775807) (h:∀a,hf w0 a->Sl rd k a (aa ⟨b,0,ao⟩) m xs->WL P ops Q n ds l (Ws w0 F (gk i L)<|a::Vs) rest):WL P ops Q n ds l (Ws w0 F L Vs) rest:=by
 subst j;intro u w v d;have e:w.heap[b]? = aa (aY (xs.flatMap f).toArray T (0,0)):=d.kn _<|gd hL;have y:rv (aQ b<|aY (xs.flatMap f).toArray T (0,0)) w b=aa (aY (xs.flatMap f).toArray T (0,0)):=by unfold rv;rw [aD (by simp [aQ])];exact e
 exact h _ (I2 (d.perm<|pJ i L hL) p λz g o c=>by simp [aQ] at g;subst g;rw [e] at c;injection c with c;subst c;rfl) (I1 (f:=f) y q r s t) u w v<|d.Ct i hL
end
section
variable {κ:Type} [BEq κ] [LawfulBEq κ] {kd:TypeDesc} {kv:κ->aR}
variable {P:dJ} {l:I<|Z×aR} {w0:aP} {F:I Z} {L:I bh} {Vs:I View} {ty:cn} {pos:fO} {af:bH fY} {g:aA<|Z×aS}
variable {cA:aA Tmp} {bx eY pP:cn} {bo ck:ei} {bE aL:Z} {ae:aR}
def Fy {m:I<|fz κ} {k:κ}  (i:Z)  (b:Vs[i]? = aa bN) (c:tg kd kv) (d:P.underlying bx=aa (.map eY pP)) (e:P.underlying eY=aa kd) (f:zeroOf P pP=aa ae) (h:b9 l bo=aa (.map<|aa bE)) (j:b9 l ck=aa (kv k)) (n:bN bE=aa (dT kv m aL)) : Yl P l (Ws w0 F L Vs) ⟨cA,.lookup bx bo ck aq,ty,pos,af,g⟩<|bO k m ae:=by intro p w a o;simp [execOp,a bo _ h,a ck _ j,Fk (P:=P) (k:=k) aq c d e f (o.vs bN (gd b) bE _ n:w.heap[bE]? = aa (dT kv m aL))]
def Of {m:I<|fz κ} {k:κ}  (i:Z)  (b:Vs[i]? = aa bN) (c:tg kd kv) (d:P.underlying bx=aa (.map eY pP)) (e:P.underlying eY=aa kd) (f:zeroOf P pP=aa ae) (h:b9 l bo=aa (.map<|aa bE)) (j:b9 l ck=aa (kv k)) (n:bN bE=aa (dT kv m aL)) : Yl P l (Ws w0 F L Vs) ⟨cA,.lookup bx bo ck ad,ty,pos,af,g⟩<|cO #[bO k m ae,bW (ri k m)]:=by intro p w a o;simp [execOp,a bo _ h,a ck _ j,Fk (P:=P) (k:=k) ad c d e f (o.vs bN (gd b) bE _ n:w.heap[bE]? = aa (dT kv m aL))]
end
variable {eU:aP} {dG:I bh} {fh:I View} {bE:Z} {a9:Obj}
def Ws.Og (h:Ws cm [] dG fh eU) (i:Z)   (hL:dG[i]? = aa (aQ bE a9)) (b:yj a9=ad:=by rfl):nv cm eU bE=aa a9:=by
 have c:eU.heap[bE]? = aa a9:=h.kn _<|gd hL;have d:cm.heap.size<=bE:=by
  rcases h.own _ (gd hL) bE (by simp [aQ]) with a | a;·cases a
  ·exact a
 exact yk.2 ⟨d,c,b⟩
section
variable {Q:di->cY->aP->Prop} {n:Z} {ds:I fw} {l:I<|Z×aR} {w0:aP} {F:I Z} {L:I bh} {Vs:I View}
def WE.qE {e:di} {b:Z} {a:Obj} (i:Z) (d:Obj) (hL:L[i]? = aa (aQ b a)) (c:a=d) (h:WE Q e n ds l<|Ws w0 F (L.set i<|aQ b d) Vs):WE Q e n ds l<|Ws w0 F L Vs:=by
 subst c;have:L.set i (aQ b a)=L:=by obtain ⟨hi,c⟩:=cN.1 hL;rw [<-c];exact BV hi
 rwa [this] at h
end
def Ws.qF {F:I Z}   (h:Ws cm F dG fh eU) (i:Z)   (hL:dG[i]? = aa (aQ bE a9)):hv eU bE=aa a9:=h.kn _<|gd hL
def gR {b k:Z}  {v:aR} (h:bN b=aa a9) (a:cz a9 k=aa v):vc bN b k=aa v:=by unfold vc;rw [h];exact a
section
variable {P:dJ} {ops:bH cg} {Q:di->cY->aP->Prop} {n:Z} {ds:I fw} {l:I<|Z×aR} {w0:aP} {F:I Z} {L:I bh} {Vs:I View} {rest:I cg} {d:Z} {ty:cn} {pos:fO} {af:bH fY} {g:aA<|Z×aS}
variable {eK:FuncId} {hc:bH ei} {jU:bH cn} {ea:I aR}
def WL.dP {ι κ:Type}     (s:eS ops l g) (t:e' d n=ad) (u:Enters P eK) (k:h' l hc.toList=aa ea) (v:ι->aR) (R:ι->Prop) (p:κ->I oZ) (q:κ->Prop) (hC:∀w,Ws w0 F L Vs w->cx P eK ea.toArray w λe f=>(∃i,e = cf (v i)/\Ext w f/\R i)\/(∃j,e = .panicked (p j)/\Ext w f/\q j)) (x:∀j,q j->WE Q (.panic<|p j) n ds l (Ws w0 F L Vs)) (y:∀i,R i->WL P ops Q n ds ((d,v i)::l) (Ws w0 F L Vs) rest) : WL P ops Q n ds l (Ws w0 F L Vs)<|⟨aa d,.call ⟨.value<|.func eK,hc,jU⟩,ty,pos,af,g⟩::rest:= WL.B8 s t u k v (λi f=>R i/\Ws w0 F L Vs f) (λc f=>∃j,c=p j/\q j/\Ws w0 F L Vs f) (λw b=>(hC w b).mono λe f h=>by
 rcases h with ⟨i,m,o,r⟩ | ⟨j,m,o,r⟩;·exact bB ⟨i,m,r,b.ext o⟩
 ·exact be ⟨_,m,j,O,r,b.ext o⟩) (λi a w k b=>y i b.1 a w k b.2) (λc a w k b=>by obtain ⟨j,rfl,m,o⟩:=b;exact x j m a w k o)
def WL.ln {ι κ:Type}     (t:eS ops l g) (u:e' d n=ad) (x:Enters P eK) (k:h' l hc.toList=aa ea) (v:ι->aR) (R:View->ι->Prop) (p:κ->I oZ) (q:κ->Prop) (hC:∀w,Ws w0 F L Vs w->cx P eK ea.toArray w λe b=>(∃i,e = cf (v i)/\Ext w b/\R (nv w b) i)\/(∃j,e = .panicked (p j)/\Ext w b/\q j)) (y:∀j,q j->WE Q (.panic<|p j) n ds l (Ws w0 F L Vs)) (z:∀r i,hf w0 r->R r i->WL P ops Q n ds ((d,v i)::l) (Ws w0 F L<|r::Vs) rest) : WL P ops Q n ds l (Ws w0 F L Vs)<|⟨aa d,.call ⟨.value<|.func eK,hc,jU⟩,ty,pos,af,g⟩::rest:= WL.B8 (ι:=View×ι) t u x k (λi=>v i.2) (λi b=>(hf w0 i.1/\R i.1 i.2)/\Ws w0 F L (i.1::Vs) b) (λc b=>∃j,c=p j/\q j/\Ws w0 F L Vs b) (λw f=>(hC w f).mono λe b h=>by
 rcases h with ⟨i,m,o,s⟩ | ⟨j,m,o,s⟩;·exact bB ⟨(nv w b,i),m,⟨(z5 w b).mono f.fr.size,s⟩,f.view o (Ij w b)<|z5 w b⟩
 ·exact be ⟨_,m,j,O,s,f.ext o⟩) (λi a w k f=>z i.1 i.2 f.1.1 f.1.2 a w k f.2) (λc a w k f=>by obtain ⟨j,rfl,m,o⟩:=f;exact y j m a w k o)
end
section
variable {P:dJ} {l:I<|Z×aR} {W:aP->Prop} {ty:cn} {pos:fO} {af:bH fY} {g:aA<|Z×aS}
variable {cA:aA Tmp} {bo:ei} {bx eY:cn} {ae:aR} {aV:bH Field}
def Oi (a:P.underlying bx=aa (.struct aV)) (b:b9 l bo=aa (.iface bx ae)):Yl P l W ⟨cA,.typeAssert bo eY bx ad,ty,pos,af,g⟩<|cO #[ae,bW ad]:=by intro d w c _;simp [execOp,c bo _ b,Instr.typeAssert,run_underlying a]
def Oj (a:P.underlying bx=aa (.struct aV)) (b:zeroOf P bx=aa ae) (c:b9 l bo=aa .nilIface):Yl P l W ⟨cA,.typeAssert bo eY bx ad,ty,pos,af,g⟩<|cO #[ae,bW aq]:=by intro e w d _;simp [execOp,d bo _ c,Instr.typeAssert,run_underlying a,yn b]
end
def yG (b:aS):I aR:=[bW b]
def rdBool (a:View) (b o:Z) (x:aS):Prop:=cB a b o<|yG x
def Wy (b:aS):(yG b).length=1:=rfl
section
variable {P:dJ} {ops:bH cg} {C:aP->Prop} {Q:di->cY->aP->Prop} {n:Z} {ds:I fw} {l:I<|Z×aR} {W:aP->Prop}
variable {a_:I<|Z×aR} {aH:I cg}
def Wz {a:cY}  {o:cg}  (c:ou ops l (o::aH)=aa a_) (p:Ag n ds l a) : ∃d,o.dst=aa d/\nN o (yielded ops a.tmps)=aq/\ou ops ((d,undef)::l) aH=aa a_:=by
 simp only [ou] at c;cases e:o.guard with
 | none=>simp [e] at c
 | some r=>
  obtain ⟨j,b⟩:=r;cases q:o.dst with
  | none=>simp [e,q] at c
  | some d=>
   simp only [e,q] at c;cases f:(ops[j]?).bind (·.dst) with
   | none=>simp [f] at c
   | some h=>
    simp only [f] at c;cases g:lk l h with
    | none=>simp [g] at c
    | some v=>
     simp only [g] at c;have hv:=p.jT h v g;cases v with
     | bool i=>
      cases k:(i != b) with
      | false=>simp [k] at c
      | true=>
       simp only [k,wO] at c;refine ⟨d,O,?_,c⟩;have s:=M8 p g<|bB (by simp [undef]);have m:yielded ops a.tmps j=aa i:=by simp [yielded,f,s]
       simp only [nN,e,m];cases b<;>cases i<;>first|rfl|(simp at k)
     | tuple vs=>
      refine ⟨d,O,?_,c⟩;have m:yielded ops a.tmps j=ao:=by simp only [yielded,f,cH];rw [lI] at hv;cases t:a.tmps[h]? with| none=>rfl| some u=>simp [t] at hv;simp [hv]
      simp [nN,e,m]| _=>simp at c
def opsOf (ops:bH cg):I (Z×aS)->aA (I cg)| []=>aa []| (i,_)::r=>match ops[i]?,opsOf ops r with| aa o,aa t=>aa<|o::t| _,_=>ao
variable {iR jQ:I<|Z×aS}
def WD.In:∀{os:I cg} {e l:I<|Z×aR},opsOf ops iR=aa os->ou ops l os=aa e->uf n os=ad->(∀w,W w->C w)->(∀a w,Ag n ds e a->W w->qw P ops C Q jQ a w)-> ∀a w,Ag n ds l a->W w->qw P ops C Q (iR++jQ) a w:=by
 induction iR with
 | nil=>intro os e l b f _ _ h a w g c;injection b with b;subst b;simp [ou] at f;subst f;exact h a w g c
 | cons p r v=>
  obtain ⟨i,q⟩:=p;intro os e l b f j hC h a w g c;unfold opsOf at b;cases hi:ops[i]? with
  | none=>rw [hi] at b;cases b
  | some o=>
   cases k:opsOf ops r with
   | none=>rw [hi,k] at b;cases b
   | some t=>
    rw [hi,k] at b;injection b with b;subst b;obtain ⟨d,m,s,x⟩:=Wz f g;simp only [uf,x',eI] at j;have y:e' d n=ad:=by have:=j.1;rw [m] at this;exact this
    have u:=v k x j.2 hC h (a.put (aa d) undef) w (g.put y undef) c;cases q with| true=>exact ⟨hC w c,o,undef,hi,be ⟨s,rfl⟩,by rw [m];exact u⟩| false=>refine ⟨hC w c,?_⟩;unfold wpOp;simp only [hi,s,en,dF];rw [m];exact u
def WA {f g:cY->aP->Prop} {i:cY->aP->Prop} (b:∀a w,f a w->g a w) {a:cY} {w:aP} (h:wpOp P ops (di.then i Q) bE f a w):wpOp P ops Q bE g a w:=by
 unfold wpOp at h ⊢;cases hi:ops[bE]? with
 | none=>simp only [hi] at h ⊢;exact b _ _ h
 | some o=>
  simp only [hi] at h ⊢;split
  ·rename_i d;rw [aD d] at h;rcases h with h | ⟨j,a2,k,l⟩;·left;unfold kt at h ⊢;unfold cg.upon at h ⊢;split at h;all_goals first|exact b _ _ h|exact h|(refine h.mono λe m c=>?_;cases e with| returned v=>exact b _ _ c| panicked q=>exact c| outgrown=>obtain ⟨a3,n,p⟩:=c;exact ⟨a3,n,p⟩)|exact h.mono λv m c=>b _ _ c
   ·exact be ⟨j,a2,k,l⟩
  ·rename_i d;rw [aj d] at h;exact b _ _ h
def Gi {x:aR} (m:Z) (hC:∀w,W w->C w) (c:lk a_ bE=aa x) (d:a_.drop m=l) (e:r4 (a_.take m) l=ad):WD P ops C (ug Q n ds l W bE x) n ds a_ W []:= λ_ w a b=>⟨hC w b,⟨a.EZ m d e,a.jT _ _ c⟩,b⟩
def ahx {dx:Z} {x:aR} (c:∀a w,(Ag n ds l a/\a.tmps.getD dx undef=x)/\W w->qw P ops C Q jQ a w):∀(a:cY) (w:aP),qw P ops C (ug Q n ds l W dx x) iR a w->qw P ops C Q (iR++jQ) a w:=by induction iR with| nil=>intro a w h;exact c a w h.2| cons p r b=>obtain ⟨i,q⟩:=p;intro a w h;cases q with| true=>obtain ⟨d,o,v,e,f,g⟩:=h;exact ⟨d,o,v,e,f,b _ _ g⟩| false=>exact ⟨h.1,WA (λa w h=>b a w h) h.2⟩
variable {aL dl j':Z} {dS qG:aS} {bo ck:ei} {bx:cn} {gS:fO} {hy:bH fY} {bP:aA<|Z×aS}
def WD.B_ (m:Z)    (a:aS) (u:iR[m]? = aa (bE,ad)) (v:ops[bE]? = aa ⟨aa dl,.pick (.tmp aL) bo ck,bx,gS,hy,bP⟩) (y:opsOf ops (iR.take m)=aa aH) (i:lk l aL=aa (bW dS)) (z:uf n aH=ad) (A:eS ops l bP) (B:e' dl n=ad) (hC:∀w,W w->C w) (c:(bo,ck)=(bif a then (ei.tmp j',ei.const<|bW aq) else (ei.const<|bW ad,ei.tmp j'))) (D:ou ops ((aL,bW<|!a)::l) aH=aa a_) (E:a_.drop m=(aL,bW<|!a)::l) (F:r4 (a_.take m) ((aL,bW<|!a)::l)=ad) (G:dS=a->WD P ops C (ug Q n ds ((aL,bW a)::l) W j'<|bW qG) n ds ((aL,bW a)::l) W (iR.take m)) (h:WD P ops C Q n ds ((dl,bW<|bif a then dS&&qG else dS||qG)::l) W<|iR.drop<|m+1):WD P ops C Q n ds l W iR:=by
 intro k w p q;have H:iR=iR.take m++(bE,ad)::iR.drop (m+1):=by obtain ⟨J,K⟩:=cN.1 u;rw [<-K,Mv J,rZ]
 rw [H];have s:∀(b:cY) (d:aP) (r:aS),Ag n ds l b->W d->(if dS then b.eval bo else b.eval ck) = bW r->r=(bif a then dS&&qG else dS||qG)-> qw P ops C Q ((bE,ad)::iR.drop (m+1)) b d:=by intro b d r e f hv L;refine ⟨hC d f,_,bW r,v,bB ⟨eS.wanted (o:=⟨aa dl,.pick (.tmp aL) bo ck,bx,gS,hy,bP⟩) A e,λR _=>?_⟩,h _ _ (by rw [<-L];exact e.put B _) f⟩;have M:b.eval (.tmp aL) = bW dS:=e.jT aL _ i;simp only [execOp,M,asBool,j7,lG,jc,hv]
 by_cases g:dS=a
 ·refine ahx (l:=(aL,bW a)::l) (W:=W) (dx:=j') (x:=bW qG) (λb d N=>?_) _ _<|G g k w (p.known (by rw [<-g];exact i)) q;obtain ⟨⟨e,t⟩,f⟩:=N;refine s b d qG (e.tH (by rw [<-g];exact i)) f ?_ ?_
  ·subst g;cases dS;·simp at c;obtain ⟨rfl,rfl⟩:=c;exact t
   ·simp at c;obtain ⟨rfl,rfl⟩:=c;exact t
  ·subst g;cases dS<;>rfl
 ·have j:dS = !a:=by cases dS<;>cases a<;>first|rfl|exact absurd rfl g
  refine WD.In y D z hC (λb d e f=>?_) k w (p.known (by rw [<-j];exact i)) q;have O:Ag n ds l b:=(e.EZ m E F).tH (by rw [<-j];exact i);refine s b d dS O f ?_ ?_
  ·subst j;cases a;·simp at c;obtain ⟨rfl,rfl⟩:=c;rfl
   ·simp at c;obtain ⟨rfl,rfl⟩:=c;rfl
  ·subst j;cases a<;>rfl
def WD.and (m:Z)    {c x:aS} (a:iR[m]? = aa (bE,ad)) (b:ops[bE]? = aa ⟨aa dl,.pick (.tmp aL) bo ck,bx,gS,hy,bP⟩) (d:opsOf ops (iR.take m)=aa aH) (e:lk l aL=aa (bW c)) (f:uf n aH=ad) (g:eS ops l bP) (i:e' dl n=ad) (hC:∀w,W w->C w) (j:(bo,ck)=(ei.tmp j',ei.const<|bW aq)) (k:ou ops ((aL,bW aq)::l) aH=aa a_) (o:a_.drop m=(aL,bW aq)::l) (p:r4 (a_.take m) ((aL,bW aq)::l)=ad) (q:c=ad->WD P ops C (ug Q n ds ((aL,bW ad)::l) W j'<|bW x) n ds ((aL,bW ad)::l) W (iR.take m)) (h:WD P ops C Q n ds ((dl,bW<|c&&x)::l) W<|iR.drop<|m+1):WD P ops C Q n ds l W iR:= WD.B_ m ad a b d e f g i hC j k o p q h
def WD.or (m:Z) (a:iR[m]? = aa (bE,ad)) (b:ops[bE]? = aa ⟨aa dl,.pick (.tmp aL) bo ck,bx,gS,hy,bP⟩) (c:opsOf ops (iR.take m)=aa aH) (d:lk l aL=aa (bW dS)) (e:uf n aH=ad) (f:eS ops l bP) (g:e' dl n=ad) (hC:∀w,W w->C w) (i:(bo,ck)=(ei.const<|bW ad,ei.tmp j')) (j:ou ops ((aL,bW ad)::l) aH=aa a_) (k:a_.drop m=(aL,bW ad)::l) (o:r4 (a_.take m) ((aL,bW ad)::l)=ad) (p:dS=aq->WD P ops C (ug Q n ds ((aL,bW aq)::l) W j'<|bW qG) n ds ((aL,bW aq)::l) W (iR.take m)) (h:WD P ops C Q n ds ((dl,bW<|dS||qG)::l) W<|iR.drop<|m+1):WD P ops C Q n ds l W iR:= WD.B_ m aq a b c d e f g hC i j k o p h
end
section
variable {P:dJ} {l:I<|Z×aR} {W:aP->Prop} {d:aA Tmp} {ty:cn} {pos:fO} {af:bH fY} {g:aA<|Z×aS}
variable {bx eY:cn} {bo ck:ei} {fy:IntKind} {az b':ac}
def Ok (a:b9 l bo=aa (am fy az)) (b:b9 l ck=aa (am fy b')) (h:az=b'):Yl P l W ⟨d,.binOp .neq bx bo ck eY,ty,pos,af,g⟩<|bW aq:=by subst h;have:=ha (P:=P) (W:=W) (d:=d) (ty:=ty) (pos:=pos) (af:=af) (g:=g) (t:=bx) (u:=eY) a b;rwa [show (az != az)=aq by simp] at this
def ahy {a b:I ar} (c:b9 l bo=aa (st a)) (e:b9 l ck=aa (st b)) (h:a=b):Yl P l W ⟨d,.binOp .neq bx bo ck eY,ty,pos,af,g⟩<|bW aq:=by subst h;have:=ER (P:=P) (W:=W) (d:=d) (ty:=ty) (pos:=pos) (af:=af) (g:=g) (t:=bx) (u:=eY) c e;rwa [show (!(a==a))=aq by simp] at this
def Aq (a:b9 l bo=aa (am fy az)) (b:b9 l ck=aa (am fy b')) (h:az=b'):Yl P l W ⟨d,.binOp .eql bx bo ck eY,ty,pos,af,g⟩<|bW ad:=by subst h;have:=bY (P:=P) (W:=W) (d:=d) (ty:=ty) (pos:=pos) (af:=af) (g:=g) (t:=bx) (u:=eY) a b;rwa [show (az==az)=ad by simp] at this
def WD.wk {ops:bH cg} {C:aP->Prop} {Q:di->cY->aP->Prop} {n:Z} {ds:I fw} {W':aP->Prop} {rest:I<|Z×aS} (b:∀w,W w->W' w) (h:WD P ops C Q n ds l W' rest):WD P ops C Q n ds l W rest:=λa w c d=>h a w c<|b w d
end
open Go.ChangeShapes Go.WideShapes Go.ChangeAt Go.RowKit Go.Joins Go.Deep
structure Ar (H:Type) where
 B:DataW H->Nat
 BA:List (DataW H)->Nat
 str:∀l:List UInt8,B (.lit<|.string l)=l.length+1
 agg:∀l,B (.agg l)=BA l+1
 sl:∀l r,BA l+1<=B (.slice l r)
 nil:BA []=0
 cons:∀d r,BA (d::r)=B d+BA r
def Ar.at_ {a:Type} (b:Ar a) {l:I<|DataW a}:∀{i:Z} {d:DataW a},l[i]? = aa d->b.B d<=b.BA l:=by induction l with| nil=>intro i d h;cases h| cons y r c=>intro i d h;rw [b.cons];cases i with| zero=>simp at h;subst h;omega| succ i=>have:=c (i:=i) (by simpa using h);omega
section
variable {P:dJ} {H:Type} {enc:cn×aR->H} {w:aP} {base:Z} {spare:Z->aS} {held:aS} (K:Ar H)
variable {bx:cn} {ae:aR}
def ahz {x:DataW H×I MemPlace} (a:P.underlying bx=aa .string) (h:DataW.trod enc P w base spare held bE bx [ae]=aa x):∃l:I ar,ae=st l/\K.B x.1=l.length+1:=by obtain ⟨s,e,b,_⟩:=DataW.trod_string a h;injection e with e _;subst e;exact ⟨s.data.toList,by simp [st],by rw [b];exact K.str _⟩
def WF {x:DataW H×List MemPlace} (a:P.underlying bx=some (.int .i64)) (h:DataW.trod enc P w base spare held bE bx [ae]=some x):∃k:Int,ae = .int .i64 k:=by obtain ⟨n,e,_⟩:=DataW.trod_int a h;injection e with e _;exact ⟨n,e⟩
def Ol {α:Type} {rd:View->Nat->Nat->α->Prop} (E:α->Nat) (A:List α->Nat) (N:A []=0) (ab:∀x r,A (x::r)=E x+A r) {ts e:TypeId} {k fuel:Nat} {v:Value} {x:DataW H×List MemPlace} (ae:P.underlying ts=some (.slice e)) (G:P.cellsOf e=k) (Q:0<k) (af:∀b,spare b=true) (ag:∀(n:Nat) (d:List Value) (y:DataW H×List MemPlace),n<fuel->DataW.trod enc P w base spare held n e d=some y->d.length=k->∃z:α,(∀b o,cB (hv w) b o d->rd (hv w) b o z)/\E z<=K.B y.1) (h:DataW.trod enc P w base spare held fuel ts [v]=some x):∃(a:Option Addr) (c:Nat) (xs:List α),v = .slice a xs.length c/\Sl rd k (hv w) a c xs/\A xs<=K.B x.1:=by
 rcases DataW.trod_slice ae h with ⟨m,_⟩ | ⟨a,len,cap,C,rest,n,aI,m,ah,aK,aL,ai,aM,R,aj,_⟩;·injection m with m _;exact ⟨none,0,[],m,Sl.nil,by rw [N];exact dw _⟩
 ·injection m with m _;have S:0<cap->a.spot=none:=by
   intro aN;rcases m2 0 len with T | T;·have g:=R 0 T;obtain ⟨y,t⟩:∃y,C[0]? = some y:=⟨_,cy (by omega)⟩;rw [t] at g;obtain ⟨d,f,_⟩:=dL.1 g;rw [G] at f;obtain ⟨_,J,D⟩:=World.cells?_some f;obtain ⟨u,L⟩:∃u,d[0]? = some u:=⟨_,cy (by omega)⟩;have:=D 0 Q;rw [L] at this;simpa [Addr.add] using World.cell?_spot this
   ·obtain ⟨aO,ak⟩:=aj<|af _;have al:len=0:=by omega
    have g:=ak 0 (by omega);rw [al] at g;obtain ⟨y,t⟩:∃y,rest[0]? = some y:=⟨_,cy (by omega)⟩;rw [t] at g;obtain ⟨d,f,_⟩:=dL.1 g;rw [G] at f;obtain ⟨_,J,D⟩:=World.cells?_some f;obtain ⟨u,L⟩:∃u,d[0]? = some u:=⟨_,cy (by omega)⟩;have:=D 0 Q;rw [L] at this;simpa [Addr.add] using World.cell?_spot this
  obtain ⟨xs,ap,U⟩:=Nv (λi (z:α)=>(∀b o,a=⟨b,o,none⟩->rd (hv w) b (o+i*k) z)/\∃y:DataW H×List MemPlace,C[i]? = some y/\E z<=K.B y.1) len (λi hi=>by
   have g:=R i hi;obtain ⟨y,t⟩:∃y,C[i]? = some y:=⟨_,cy (by omega)⟩;rw [t] at g;obtain ⟨d,f,au⟩:=dL.1 g;rw [G] at f;obtain ⟨_,J,D⟩:=World.cells?_some f;obtain ⟨z,av,aw⟩:=ag n d y (by omega) au J;refine ⟨z,λb o ax=>av _ _ λj v V=>?_,y,t,aw⟩;subst ax;have ay:j<k:=by have:=(cN.1 V).1;omega
   have:=D j ay;rw [V] at this;rw [r3,r3] at this;exact IF this);have az:∀(l:List α) (es:List<|DataW H×List MemPlace),l.length=es.length->(∀(i:Nat) (z:α),l[i]? = some z->∃y:DataW H×List MemPlace,es[i]? = some y/\E z<=K.B y.1)->A l<=K.BA (es.map (·.1)):=by
   intro l;induction l with
   | nil=>intro es _ _;rw [N];exact dw _
   | cons z l aB=>
    intro es W X;cases es with
    | nil=>cases W
    | cons y es=>
     obtain ⟨Y,F,q⟩:=X 0 z rfl;simp at F;subst F;have:=aB es (by simpa using W) λi aD aF=>by obtain ⟨Y,F,q⟩:=X (i+1) aD (by simpa using aF);exact ⟨Y,by simpa using F,q⟩
     rw [ab,nt,K.cons];omega
  refine ⟨some a,cap,xs,by rw [m,ap],⟨by omega,by unfold maxLen at ai;omega,λp M aG=>by injection M with M;subst M;exact S aG,λi z q=>?_⟩,?_⟩
  ·have hi:i<len:=by have:=(cN.1 q).1;omega
   have aH:=S (by omega);obtain ⟨b,o,s⟩:=a;obtain rfl:s=none:=aH;exact ⟨b,o,O,(U i z q).1 b o O⟩
  ·have:=az xs C (by omega) λi z q=>(U i z q).2;simp only [ah];have:=K.sl (C.map (·.1)) (rest.map (·.1));omega
structure ahu (P:Program) (tE tS tD tP tM FD lU I5 At w3:TypeId) (e s d p m:Array Field) (tI tB tT:TypeId):Prop where
 uI:P.underlying tI=some (.int .i64)
 uB:P.underlying tB=some .bool
 uT:P.underlying tT=some .string
 cT:P.cellsOf tT=1
 uE:P.underlying tE=some (.struct e)
 rE:(r8 P 0 e.toList&&Nat.beq (P.cellsOf tE) e.size)=true
 fE:e.map (·.type) = #[tI,tI,tT,tT,FD]
 ah':P.underlying FD=some (.slice tE)
 uS:P.underlying tS=some (.struct s)
 rS:(r8 P 0 s.toList&&Nat.beq (P.cellsOf tS) s.size)=true
 fS:s.map (·.type) = #[tI,tT,tT,FD,lU,lU]
 aia:P.underlying lU=some (.slice tS)
 uD:P.underlying tD=some (.struct d)
 rD:(r8 P 0 d.toList&&Nat.beq (P.cellsOf tD) d.size)=true
 fD:d.map (·.type) = #[tI,tT,tB,tI]
 aic:P.underlying I5=some (.slice tD)
 uP:P.underlying tP=some (.struct p)
 rP:(r8 P 0 p.toList&&Nat.beq (P.cellsOf tP) p.size)=true
 fP:p.map (·.type) = #[tT,tB,w3,w3,lU]
 WK:P.underlying At=some (.slice tP)
 ahA:P.underlying w3=some (.slice tT)
 uM:P.underlying tM=some (.struct m)
 rM:(r8 P 0 m.toList&&Nat.beq (P.cellsOf tM) m.size)=true
 fM:m.map (·.type) = #[tT,w3,I5,At,lU]
variable {tE tS tD tP tM FD lU I5 At w3 tI tB tT:cn} {e s d p m:bH Field}
end
end Go.Bw
end
section
namespace Go.Bw
open Go
structure dB where
 kind:ac
 n:ac
 pl:ac
 name:I ar
deriving DecidableEq
def dB.cells (x:dB):I aR:=[am an x.kind,am an x.n,am an x.pl,st x.name]
def dB.dR (x:dB):x.cells.length=4:=rfl
def dB.one (x:dB):x.cells.all (·.oneCell')=ad:=rfl
def nV (a:View) (b o:Z) (x:dB):Prop:=cB a b o x.cells
variable {bN cR:View}
def WM (h:cX bN cR) (b o:Z) (x:dB) (r:nV bN b o x):nV cR b o x:=cB.mono h r
def pZ (x:dB):aS:=!(((((((!(gG x.name)||!(fL x.kind 1 4))||!(fL x.n 0 1099511627775))||!(fL x.pl 0 320))||(x.kind==1&&x.pl != 0))||(x.kind==2&&x.n != 0))||(x.kind==3&&!(fL x.n 1 32)))||(x.kind==4&&decide (3<x.n)))
variable {ir:dB}
def FH {lo hi a:ac} (h:(ir.kind=1/\lo=0/\hi=1099511627775/\a=0)\/(ir.kind=2/\lo=0/\hi=0/\a=320)\/(ir.kind=3/\lo=1/\hi=32/\a=320)\/(ir.kind=4/\lo=0/\hi=3/\a=320)) : ((((gG ir.name&&decide (lo<=ir.n))&&decide (ir.n<=hi))&&decide (0<=ir.pl))&&decide (ir.pl<=a))=pZ ir:=by
 unfold pZ;generalize gG ir.name=b;rw [mA];cases b;·simp
 ·rcases h with ⟨h,rfl,rfl,rfl⟩ | ⟨h,rfl,rfl,rfl⟩ | ⟨h,rfl,rfl,rfl⟩ | ⟨h,rfl,rfl,rfl⟩<;>simp [fL,h]<;>omega
def WN (a:ir.kind≠1) (b:ir.kind≠2) (c:ir.kind≠3) (d:ir.kind≠4):pZ ir=aq:=by
 unfold pZ;have:fL ir.kind 1 4=aq:=by simp [fL];omega
 simp [this]
def g6 (l:I<|I ar):aS:=(lf l.length).any λi=>(lf i).any λj=>l[i]?.getD []==l[j]?.getD []
variable {bg:I<|I ar} {bE aL:Z}
def WO (hi:bE<bg.length) (a:aL<bE) (h:(bg[bE]?.getD []==bg[aL]?.getD [])=ad):g6 bg=ad:=by unfold g6;exact ta.2 ⟨bE,by simpa using hi,ta.2 ⟨aL,by simpa using a,h⟩⟩
def I6:g6 bg=ad↔∃i j,i<bg.length/\j<i/\bg[i]? = bg[j]?:=by
 constructor
 ·intro h;unfold g6 at h;obtain ⟨i,hi,h⟩:=ta.1 h;obtain ⟨j,a,h⟩:=ta.1 h;have hi:i<bg.length:=by simpa using hi
  have a:j<i:=by simpa using a
  refine ⟨i,j,hi,a,?_⟩;rw [cy hi,cy ai] at h ⊢;simpa using h
 ·rintro ⟨i,j,hi,a,h⟩;exact WO hi a (by rw [h];simp)
def kK:bg.Nodup↔g6 bg=aq:=by
 constructor;·intro h;rw [vr];intro b;obtain ⟨i,j,hi,a,e⟩:=I6.1 b;have:=(ib hi h).1 e;omega
 ·intro h;show I.Pairwise _ bg;rw [Ew];intro i j hi a c e;have:=I6.2 ⟨j,i,a,c,by rw [cy hi,cy a,e]⟩;rw [h] at this;cases this
def pc (name:I ar) (a:I dB):ac:= if 16<a.length then 2 else if (a.all pZ&&(!(g6 (a.map (·.name))||!(gG name))))=ad then 0 else 1
variable {hn:I dB}
def Om (h:∀(j:Z) (x:dB),hn[j]? = aa x->pZ x=ad):hn.all pZ=ad:=by rw [gA];intro x a;obtain ⟨j,b⟩:=jd a;exact h j x b
def WP (a:hn[bE]? = aa ir) (h:pZ ir=aq):hn.all pZ=aq:=by rw [zU];exact ⟨ir,aW a,by simp [h]⟩
def qH (at_:ac) (d:fd):dB:=⟨d.kind,d.n,if d.kind=1 then 0 else at_,d.nm⟩
def lp (d:fd):ac:=if d.kind=2 then 1 else if d.kind=3 then d.n else 0
def hO:I fd->ac| []=>0| d::r=>lp d+hO r
def lP:I fd->ac->I dB| [],_=>[]| d::r,a=>qH a d::lP r (a+lp d)
def Cu (i:Z) (p:gU):dB:=⟨4,(p.params.length:ac),(i:ac),p.nm⟩
def nW:I gU->Z->I dB| [],_=>[]| p::r,i=>Cu i p::nW r (i+1)
def On:∀(l:I fd) (d:fd),hO (l++[d])=hO l+lp d| [],d=>by simp [hO]| x::l,d=>by simp only [ix,hO,On l d];omega
def Oo:∀(l:I fd) (d:fd) (a:ac),lP (l++[d]) a=lP l a++[qH (a+hO l) d]| [],d,a=>by simp [lP,hO]| x::l,d,a=>by simp only [ix,lP,Oo l d,hO];rw [show a+lp x+hO l=a+(lp x+hO l) by omega]
def Oq:∀(l:I gU) (p:gU) (i:Z),nW (l++[p]) i=nW l i++[Cu (i+l.length) p]| [],p,i=>by simp [nW]| x::l,p,i=>by simp only [ix,nW,Oq l p,gj];rw [show i+1+l.length=i+(l.length+1) by omega]
def FI:∀(l:I fd) (a:ac),(lP l a).length=l.length| [],_=>rfl| x::l,a=>by simp [lP,FI l]
def I7:∀(l:I gU) (i:Z),(nW l i).length=l.length| [],_=>rfl| x::l,i=>by simp [nW,I7 l]
def gJ (m:cV):I dB:=lP m.decls 0++nW m.procs 0
def oz (m:cV):ac:=hO m.decls
def nX (m:cV):I aS:=m.decls.map (·.dp)++m.procs.map (·.dp)
def Cv (m:cV):(gJ m).length=m.decls.length+m.procs.length:=by simp [gJ,FI,I7]
def FJ (m:cV):(nX m).length=m.decls.length+m.procs.length:=by simp [nX]
def lQ:I dB->I aS->I dB| x::l,p::ps=>(if p=ad then [x] else [])++lQ l ps| _,_=>[]
def Ot:∀{l:I dB} {ps:I aS} {x:dB} {p:aS},l.length=ps.length->lQ (l++[x]) (ps++[p])=lQ l ps++(if p=ad then [x] else [])| [],[],x,p,_=>by simp [lQ]| y::l,q::ps,x,p,h=>by simp only [ix,lQ,Ot (l:=l) (ps:=ps) (by simpa using h),g2]| [],q::ps,x,p,h=>by simp at h| y::l,[],x,p,h=>by simp at h
def WQ {ps:I aS}   {p:aS} (c:hn.length=ps.length) (a:hn[bE]? = aa ir) (b:ps[bE]? = aa p):lQ (hn.take<|bE+1) (ps.take<|bE+1)=lQ (hn.take bE) (ps.take bE)++(if p=ad then [ir] else []):=by rw [h7,h7,a,b];exact Ot (by simp;omega)
def I8:∀(l:I dB) (ps:I aS),(lQ l ps).length<=l.length| [],_=>by simp [lQ]| x::l,[]=>by simp [lQ]| x::l,p::ps=>by have:=I8 l ps;simp only [lQ,iy,gj];split<;>simp<;>omega
def eW (m:cV):(I ar×I dB)×ac:= if jh m≠0 then (([],[]),jh m) else if (g6 ((gJ m).map (·.name))||g6 m.aN)=ad then (([],[]),6) else ((m.nm,lQ (gJ m)<|nX m),0)
inductive eC where
 | mk (op n m pl:Int) (args:List eC)
inductive et where
 | mk (op n m pl:Int) (args:List eC) (body other:List et)
def eC.op:eC->ac| .mk o _ _ _ _=>o
def eC.n:eC->ac| .mk _ n _ _ _=>n
def eC.m:eC->ac| .mk _ _ m _ _=>m
def eC.pl:eC->ac| .mk _ _ _ p _=>p
def eC.args:eC->I eC| .mk _ _ _ _ a=>a
def et.op:et->ac| .mk o _ _ _ _ _ _=>o
def et.n:et->ac| .mk _ n _ _ _ _ _=>n
def et.m:et->ac| .mk _ _ m _ _ _ _=>m
def et.pl:et->ac| .mk _ _ _ p _ _ _=>p
def et.args:et->I eC| .mk _ _ _ _ a _ _=>a
def et.body:et->I et| .mk _ _ _ _ _ b _=>b
def et.other:et->I et| .mk _ _ _ _ _ _ o=>o
structure b3 where
 params:ac
 locals:ac
 body:I et
structure aI where
 nm:I ar
 aN:I<|I ar
 data:ac
 parts:I b3
 main:I et
def mb:aI:=⟨[],[],0,[],[]⟩
def dQ (e:eC) (a:aA a6) (c:Z):I aR:=[am an e.op,am an e.n,am an e.m,am an e.pl,aE a e.args.length c]
def cC:Z->View->Z->Z->eC->Prop| 0=>λ_ _ _ _=>False| k+1=>λd b o e=>∃a c,cB d b o (dQ e a c)/\Sl (cC k) 5 d a c e.args
structure w4 where
 s1:aA a6×Z
 s2:aA a6×Z
 s3:aA a6×Z
def rq (s:et) (r:w4):I aR:=[am an s.op,am an s.n,am an s.m,am an s.pl,aE r.s1.1 s.args.length r.s1.2,aE r.s2.1 s.body.length r.s2.2,aE r.s3.1 s.other.length r.s3.2]
def jK (ke:Z):Z->View->Z->Z->et->Prop| 0=>λ_ _ _ _=>False| k+1=>λa b o s=>∃r:w4,cB a b o (rq s r)/\Sl (cC ke) 5 a r.s1.1 r.s1.2 s.args/\Sl (jK ke k) 7 a r.s2.1 r.s2.2 s.body/\Sl (jK ke k) 7 a r.s3.1 r.s3.2 s.other
def yI (p:b3) (r:aA a6×Z):I aR:=[am an p.params,am an p.locals,aE r.1 p.body.length r.2]
def Av (ke ks:Z) (a:View) (b o:Z) (p:b3):Prop:=∃r:aA a6×Z,cB a b o (yI p r)/\Sl (jK ke ks) 7 a r.1 r.2 p.body
structure p0 where
 s1:aA a6×Z
 s2:aA a6×Z
 s3:aA a6×Z
def ij (u:aI) (r:p0):I aR:=[st u.nm,aE r.s1.1 u.aN.length r.s1.2,am an u.data,aE r.s2.1 u.parts.length r.s2.2,aE r.s3.1 u.main.length r.s3.2]
structure dY (ke ks:Z) (H:View) (r:p0) (u:aI):Prop where
 aN:Sl rdStr 1 H r.s1.1 r.s1.2 u.aN
 parts:Sl (Av ke ks) 3 H r.s2.1 r.s2.2 u.parts
 main:Sl (jK ke ks) 7 H r.s3.1 r.s3.2 u.main
def oA:p0:=⟨(ao,0),(ao,0),(ao,0)⟩
def Aw (a:View):dY bE aL a oA mb:=⟨Sl.nil,Sl.nil,Sl.nil⟩
def I9 (f:cX bN cR):∀{k d:Z},k<=d->∀(b o:Z) (e:eC),cC k bN b o e->cC d cR b o e| 0,_,_,_,_,_,h=>h.elim| k+1,0,g,_,_,_,_=>absurd g ai| k+1,d+1,g,b,o,e,h=>by obtain ⟨a,c,i,j⟩:=h;exact ⟨a,c,cB.mono f i,j.imp λb o x l=>I9 f ai b o x l⟩
def Cw (c:cX bN cR)  (d:bE<=aL):∀{k f:Z},k<=f->∀(b o:Z) (e:et),jK bE k bN b o e->jK aL f cR b o e| 0,_,_,_,_,_,h=>h.elim| k+1,0,g,_,_,_,_=>absurd g ai| k+1,f+1,g,b,o,e,h=>by obtain ⟨r,i,j,l,m⟩:=h;exact ⟨r,cB.mono c i,j.imp λb o x a=>I9 c d b o x a,l.imp λb o x a=>Cw c d ai b o x a,m.imp λb o x a=>Cw c d ai b o x a⟩
def Ou (a:cX bN cR) {ke c ks d:Z} (e:ke<=c) (f:ks<=d) (b o:Z) (p:b3) (h:Av ke ks bN b o p):Av c d cR b o p:=by obtain ⟨r,g,i⟩:=h;exact ⟨r,cB.mono a g,i.imp λb o x j=>Cw a e f b o x j⟩
variable {cq:aA a6}
def ul {l:I eC} (h:Sl (cC bE) 5 bN cq aL l) (hv:cX bN cR):Sl (cC bE) 5 cR cq aL l:=h.imp λb o x a=>I9 hv (c7 _) b o x a
variable {dl:Z}
def w5 {l:I et} (h:Sl (jK bE aL) 7 bN cq dl l) (hv:cX bN cR):Sl (jK bE aL) 7 cR cq dl l:=h.imp λb o x a=>Cw hv (c7 _) (c7 _) b o x a
def WR {l:I b3} (h:Sl (Av bE aL) 3 bN cq dl l) (hv:cX bN cR):Sl (Av bE aL) 3 cR cq dl l:=h.imp λb o x a=>Ou hv (c7 _) (c7 _) b o x a
def dY.mv {r:p0} {u:aI} (h:dY bE aL bN r u) (hv:cX bN cR):dY bE aL cR r u:=⟨h.aN.imp λb o x a=>Aj hv b o x a,WR h.parts hv,w5 h.main hv⟩
def Xs {X:Type} (R:View->X->Prop) (J:View) (es:I X):Prop:=∀e ∈ es,R J e
variable {aB:Type}
def Xs.nil {R:View->aB->Prop} (J:View):Xs R J []:=by intro e h;simp at h
def Xs.mono {R:View->aB->Prop} (b:∀{a B:View} {x:aB},cX a B->R a x->R B x)  {es:I aB} (h:Xs R bN es) (hv:cX bN cR):Xs R cR es:=λe c=>b hv<|h e c
def Xs.snoc {X:Type} {R:View->X->Prop} (c:∀{d B:View} {x:X},cX d B->R d x->R B x) {J f b:View} {es:I X} {e:X} (h:Xs R J es) (g:cX J b) (i:cX f b) (j:R f e):Xs R b<|es++[e]:=by
 intro x a;rcases fe.1 a with a | a;·exact c g<|h x a
 ·rw [e_] at a;subst a;exact c i j
variable {nY:View}
def yJ {X T:Type} {t:X->T} {a:View->Z->Z->X->Prop} {rd:View->Z->Z->T->Prop} {R:View->X->Prop}     {es:I X} (h:Sl a bE bN cq aL es) (f:Xs R cR es) (g:∀b o e,a bN b o e->R cR e->rd nY b o (t e)):Sl rd bE nY cq aL<|es.map t:=by refine ⟨by simpa using h.cap,h.max,h.spot,λi x c=>?_⟩;rw [fp] at c;obtain ⟨e,d,rfl⟩:=eQ.1 c;obtain ⟨b,o,j,k⟩:=h.ct i e d;exact ⟨b,o,j,g b _ e k<|f e<|aW d⟩
abbrev XN:=eC×aA a6×Z
def XN.cells (e:XN):I aR:=dQ e.1 e.2.1 e.2.2
def XN.dR (e:XN):(XN.cells e).length=5:=rfl
def XN.one (e:XN):(XN.cells e).all (·.oneCell')=ad:=rfl
def Ov (a:View) (b o:Z) (e:XN):Prop:=cB a b o<|XN.cells e
def ut (k:Z) (J:View) (e:XN):Prop:=Sl (cC k) 5 J e.2.1 e.2.2 e.1.args
def ut.mv {e:XN} (hv:cX bN cR) (h:ut bE bN e):ut bE cR e:=ul h hv
def ahB {es:I XN} (h:Sl Ov 5 bN cq aL es) (hv:cX bN nY) (a:cX cR nY) (c:Xs (ut bE) cR es):Sl (cC<|bE+1) 5 nY cq aL (es.map (·.1)):= yJ h c λb o e d f=>⟨e.2.1,e.2.2,cB.mono hv d,ut.mv a f⟩
abbrev XA:=et×w4
def XA.cells (e:XA):I aR:=rq e.1 e.2
def XA.dR (e:XA):(XA.cells e).length=7:=rfl
def XA.one (e:XA):(XA.cells e).all (·.oneCell')=ad:=rfl
def Ow (a:View) (b o:Z) (e:XA):Prop:=cB a b o<|XA.cells e
structure fQ (ke k:Z) (N:View) (e:XA):Prop where
 args:Sl (cC ke) 5 N e.2.s1.1 e.2.s1.2 e.1.args
 body:Sl (jK ke k) 7 N e.2.s2.1 e.2.s2.2 e.1.body
 other:Sl (jK ke k) 7 N e.2.s3.1 e.2.s3.2 e.1.other
def fQ.mv {e:XA} (hv:cX bN cR) (h:fQ bE aL bN e):fQ bE aL cR e:=⟨ul h.args hv,w5 h.body hv,w5 h.other hv⟩
def ahC {es:I XA} (h:Sl Ow 7 bN cq dl es) (hv:cX bN nY) (a:cX cR nY) (d:Xs (fQ bE aL) cR es):Sl (jK bE<|aL+1) 7 nY cq dl (es.map (·.1)):= yJ h d λb o e f c=>⟨e.2,cB.mono hv f,(fQ.mv a c).args,(fQ.mv a c).body,(fQ.mv a c).other⟩
abbrev XP:=b3×aA a6×Z
def XP.cells (e:XP):I aR:=yI e.1 e.2
def XP.dR (e:XP):(XP.cells e).length=3:=rfl
def XP.one (e:XP):(XP.cells e).all (·.oneCell')=ad:=rfl
def Ox (a:View) (b o:Z) (e:XP):Prop:=cB a b o<|XP.cells e
def w6 (ke k:Z) (J:View) (e:XP):Prop:=Sl (jK ke k) 7 J e.2.1 e.2.2 e.1.body
def w6.mv {e:XP} (hv:cX bN cR) (h:w6 bE aL bN e):w6 bE aL cR e:=w5 h hv
def ahD {es:I XP} (h:Sl Ox 3 bN cq dl es) (hv:cX bN nY) (a:cX cR nY) (c:Xs (w6 bE aL) cR es):Sl (Av bE aL) 3 nY cq dl (es.map (·.1)):= yJ h c λb o e d f=>⟨e.2,cB.mono hv d,w6.mv a f⟩
open Go.ChangeShapes Go.WideShapes Go.ChangeAt Go.RowKit Go.Joins Go.Deep
structure ahK (P:Program) (tI tT tX Oy tF ahE:TypeId) (x f:Array Field):Prop where
 uI:P.underlying tI=some (.int .i64)
 uT:P.underlying tT=some .string
 uX:P.underlying tX=some (.struct x)
 rX:(r8 P 0 x.toList&&Nat.beq (P.cellsOf tX) x.size)=true
 fX:x.map (·.type) = #[tI,tI,tI,tT]
 aid:P.underlying Oy=some (.slice tX)
 uF:P.underlying tF=some (.struct f)
 rF:(r8 P 0 f.toList&&Nat.beq (P.cellsOf tF) f.size)=true
 fF:f.map (·.type) = #[tT,Oy]
 aie:P.underlying ahE=some (.slice tF)
end Go.Bw
end
section
namespace Go.Bw
open Go
structure iA where
 aX:I<|I ar
 own:I dB
 aN:I<|I ar
 w7:I<|I dB
def idxOf (nm:I ar):I (I ar)->Z->aA Z| [],_=>ao| s::r,i=>if s=nm then aa i else idxOf nm r (i+1)
def jj (nm:I ar):I dB->aA dB| []=>ao| x::r=>if x.name=nm then aa x else jj nm r
def m8 (mod nm:I ar):I (I ar)->I (I dB)->Z->aA (ac×dB)| u::us,f::fs,k=>if u=mod then (match jj nm f with| aa x=>aa (((k+1:Z):ac),x)| ao=>m8 mod nm us fs<|k+1) else m8 mod nm us fs (k+1)| _,_,_=>ao
def Ja (i:Z):dB:=⟨0,0,(i:ac),[]⟩
def gV (a:iA) (mod nm:I ar):aA<|ac×dB:= if mod=[] then (match idxOf nm a.aX 0 with| aa i=>aa (-1,Ja i)| ao=>(jj nm a.own).map λx=>(0,x)) else m8 mod nm a.aN a.w7 0
def er (a b:ac):ac:=if a=0 then b else a
def oB (b:ac):er 0 b=b:=rfl
def WW (a:ac):er a 0=a:=by unfold er;split<;>simp_all
def WX (a b c:ac):er (er a b) c=er a (er b c):=by unfold er;split<;>simp_all
variable {az b':ac}
def m9:er az b'=0↔az=0/\b'=0:=by unfold er;split<;>simp_all
def uu (h:az≠0):er az b'=az:=by unfold er;rw [aj h]
structure RN where
 op:ac
 n:ac
 m:ac
 pl:ac
 e:ac
def ez (a:iA) (op n:ac) (mod nm:I ar) (len:Z):RN:= if fL op 3 5=ad then (match gV a mod nm with| ao=>⟨op,n,0,0,5⟩| aa (m,it)=> if m = -1 then ⟨16,n,0,it.pl,if op=3 then 0 else 7⟩ else if op=3/\it.kind=1 then ⟨1,it.n,0,0,0⟩ else if op=3/\it.kind=2 then ⟨op,n,m,it.pl,0⟩ else if op=4/\it.kind=3 then ⟨op,it.n,m,it.pl,0⟩ else if op=5/\it.kind=4 then ⟨op,n,m,it.pl,if it.n=(len:ac) then 0 else 8⟩ else ⟨op,n,0,0,7⟩) else ⟨op,n,0,0,0⟩
def a7 (a:iA) (op:ac) (mod nm:I ar) (len:Z):RN:= if fL op 1 3=ad then (match gV a mod nm with| ao=>⟨op,0,0,0,5⟩| aa (m,it)=> if op=1/\(m = -1\/it.kind=2) then ⟨op,0,m,it.pl,0⟩ else if m = -1 then ⟨op,0,0,0,7⟩ else if op=2/\it.kind=3 then ⟨op,it.n,m,it.pl,0⟩ else if op=3/\it.kind=4 then ⟨op,0,m,it.pl,if it.n=(len:ac) then 0 else 8⟩ else ⟨op,0,0,0,7⟩) else ⟨op,0,0,0,0⟩
mutual
def pf (a:iA):cF->eC| .mk op n mod nm args=>.mk (ez a op n mod nm args.length).op (ez a op n mod nm args.length).n (ez a op n mod nm args.length).m (ez a op n mod nm args.length).pl<|iT a args
def iT (a:iA):I cF->I eC| []=>[]| x::r=>pf a x::iT a r
end
mutual
def mc (a:iA):cF->ac| .mk op n mod nm args=>er (ez a op n mod nm args.length).e<|kf a args
def kf (a:iA):I cF->ac| []=>0| x::r=>er (mc a x)<|kf a r
end
mutual
def pg (a:iA):cG->et| .mk op mod nm args body other=>.mk (a7 a op mod nm args.length).op (a7 a op mod nm args.length).n (a7 a op mod nm args.length).m (a7 a op mod nm args.length).pl (iT a args) (gu a body)<|gu a other
def gu (a:iA):I cG->I et| []=>[]| x::r=>pg a x::gu a r
end
mutual
def lq (a:iA):cG->ac| .mk op mod nm args body other=>er (a7 a op mod nm args.length).e<|er (kf a args)<|er (g7 a body)<|g7 a other
def g7 (a:iA):I cG->ac| []=>0| x::r=>er (lq a x)<|g7 a r
end
def Jb (a:iA) (x:cF):pf a x = .mk (ez a x.op x.n x.mod x.nm x.args.length).op (ez a x.op x.n x.mod x.nm x.args.length).n (ez a x.op x.n x.mod x.nm x.args.length).m (ez a x.op x.n x.mod x.nm x.args.length).pl (iT a x.args):=by cases x;rw [pf];rfl
def w8 (a:iA) (x:cF):mc a x=er (ez a x.op x.n x.mod x.nm x.args.length).e (kf a x.args):=by cases x;rw [mc];rfl
def Jc (a:iA) (x:cG):pg a x = .mk (a7 a x.op x.mod x.nm x.args.length).op (a7 a x.op x.mod x.nm x.args.length).n (a7 a x.op x.mod x.nm x.args.length).m (a7 a x.op x.mod x.nm x.args.length).pl (iT a x.args) (gu a x.body) (gu a x.other):=by cases x;rw [pg];rfl
def uv (a:iA) (x:cG):lq a x=er (a7 a x.op x.mod x.nm x.args.length).e (er (kf a x.args)<|er (g7 a x.body)<|g7 a x.other):=by cases x;rw [lq];rfl
def Ax (a:iA):∀l,iT a l=l.map (pf a)| []=>by rw [iT];rfl| x::r=>by rw [iT,Ax a r];rfl
def uw (a:iA):∀l,gu a l=l.map (pg a)| []=>by rw [gu];rfl| x::r=>by rw [gu,uw a r];rfl
def jk {α:Type} (f:α->ac):I α->ac| []=>0| x::r=>er (f x)<|jk f r
variable {aB:Type}
def Jd (f:aB->ac):∀a b:I aB,jk f (a++b)=er (jk f a) (jk f b)| [],b=>rfl| x::a,b=>by simp only [ix,jk,Jd f a b,WX]
variable {cv:I aB} {bE:Z} {h8:aB}
def Je (f:aB->ac)    (h:cv[bE]? = aa h8):jk f (cv.take<|bE+1)=er (jk f<|cv.take bE) (f h8):=by rw [h7,h,Jd];show er _ (er (f h8) 0)=_;rw [WW]
def Ay (f:aB->ac)    (h:cv[bE]? = aa h8) (a:jk f (cv.take bE)=0) (b:f h8≠0):jk f cv=f h8:=by
 have e:cv=cv.take bE++cv.drop bE:=(rZ bE cv).symm;rw [e,Jd,a,oB];have c:cv.drop bE=h8::cv.drop (bE+1):=by obtain ⟨d,g⟩:=cN.1 h;rw [qr d,g]
 rw [c,jk,uu b]
def Jf (a:iA):∀l,kf a l=jk (mc a) l| []=>by rw [kf];rfl| x::r=>by rw [kf,Jf a r];rfl
def Jg (a:iA):∀l,g7 a l=jk (lq a) l| []=>by rw [g7];rfl| x::r=>by rw [g7,Jg a r];rfl
def dd (m:cV) (fs:I<|I ar×I dB) (aX:I<|I ar):iA:=⟨aX,gJ m,m.aN,fs.map (·.2)⟩
def rr (m:cV) (fs:I<|I ar×I dB) (p:gU):b3:=⟨(p.params.length:ac),(p.aX.length:ac),gu (dd m fs<|p.params++p.aX) p.body⟩
def fZ (m:cV) (fs:I<|I ar×I dB) (p:gU):ac:=er (if g6 (p.params++p.aX)=ad then 6 else 0)<|g7 (dd m fs<|p.params++p.aX) p.body
def fi (m:cV) (fs:I<|I ar×I dB):aI:=⟨m.nm,m.aN,oz m,m.procs.map<|rr m fs,gu (dd m fs []) m.main⟩
def oC (m:cV) (fs:I<|I ar×I dB):ac:=er (jk (fZ m fs) m.procs)<|g7 (dd m fs []) m.main
def qI:I (I ar)->I (I ar×I dB)->aS| u::us,f::fs=>((pc f.1 f.2==0)&&(f.1==u))&&qI us fs| _,_=>ad
def jL (m:cV) (fs:I<|I ar×I dB):aI×ac:= if (eW m).2≠0 then (mb,(eW m).2) else if fs.length≠m.aN.length then (mb,8) else if qI m.aN fs=aq then (mb,1) else if oC m fs≠0 then (mb,oC m fs) else (fi m fs,0)
def k3 (l:I dB) (s:Z):I<|fz<|I ar:=match l with| []=>[]| x::r=>(x.name,b0 x.cells.toArray,s)::k3 r (s+1)
def jy (l:I<|I ar) (s:Z):I<|fz<|I ar:=match l with| []=>[]| x::r=>(x,am an ((s+1:Z):ac),s)::jy r (s+1)
def Jh:∀(l:I<|I ar) (s:Z),(jy l s).length=l.length| [],_=>rfl| x::r,s=>by rw [jy,gj,Jh r,gj]
def OA:∀(l:I dB) (x:dB) (s:Z),k3 (l++[x]) s=k3 l s++[(x.name,b0 x.cells.toArray,s+l.length)]| [],x,s=>rfl| y::r,x,s=>by rw [ix,k3,OA r x,k3,ix,gj,show s+1+r.length=s+(r.length+1) by omega]
def OB:∀(l:I<|I ar) (x:I ar) (s:Z),jy (l++[x]) s=jy l s++[(x,am an ((s+l.length+1:Z):ac),s+l.length)]| [],x,s=>rfl| y::r,x,s=>by rw [ix,jy,OB r x,jy,ix,gj,show s+1+r.length=s+(r.length+1) by omega]
def Ji (nm:I ar):∀(l:I dB) (s i:Z),(eq nm (k3 l s) i).map (·.2)=(jj nm l).map λx=>b0 x.cells.toArray
 | [],_,_=>rfl
 | x::r,s,i=>by
  rw [k3,eq,jj];by_cases h:x.name=nm;·simp [h]
  ·rw [aj (by simpa using λe=>h e.symm),aj h];exact Ji nm r (s+1)<|i+1
def Jj (nm:I ar):∀(l:I<|I ar) (s i:Z),(eq nm (jy l s) i).map (·.2)=(idxOf nm l s).map λk=>am an ((k+1:Z):ac)
 | [],_,_=>rfl
 | x::r,s,i=>by
  rw [jy,eq,idxOf];by_cases h:x=nm;·simp [h]
  ·rw [aj (by simpa using λe=>h e.symm),aj h];exact Jj nm r (s+1)<|i+1
def OC (nm:I ar) (l:I dB) (z:aR):bO nm (k3 l 0) z=(match jj nm l with| aa x=>b0 x.cells.toArray| ao=>z)/\ri nm (k3 l 0)=(jj nm l).isSome:=by
 have h:=Ji nm l 0 0;unfold bO ri;cases a:eq nm (k3 l 0) 0 with
 | none=>rw [a] at h;cases hi:jj nm l with| none=>exact ⟨rfl,rfl⟩| some x=>rw [hi] at h;cases h
 | some r=>rw [a] at h;cases hi:jj nm l with| none=>rw [hi] at h;cases h| some x=>rw [hi] at h;simp at h;exact ⟨by simp [h],rfl⟩
def OD (nm:I ar) (l:I<|I ar):bO nm (jy l 0) (am an 0) = am an (match idxOf nm l 0 with| aa k=>((k+1:Z):ac)| ao=>0):=by
 have h:=Jj nm l 0 0;unfold bO;cases a:eq nm (jy l 0) 0 with
 | none=>rw [a] at h;cases hi:idxOf nm l 0 with| none=>rfl| some x=>rw [hi] at h;cases h
 | some r=>rw [a] at h;cases hi:idxOf nm l 0 with| none=>rw [hi] at h;cases h| some x=>rw [hi] at h;simp at h;simp [h]
variable {bc:I ar}
def OE:∀{l:I dB},jj bc l=ao↔bc ∉ l.map (·.name)
 | []=>by simp [jj]
 | x::r=>by
  rw [jj];by_cases h:x.name=bc;·simp [h]
  ·rw [aj h,OE (l:=r)];simp [x_ h,eq_comm,h]
def sd:∀{l:I<|I ar} {s:Z},idxOf bc l s=ao↔bc ∉ l
 | [],_=>by simp [idxOf]
 | x::r,s=>by
  rw [idxOf];by_cases h:x=bc;·simp [h]
  ·rw [aj h,sd (l:=r)];simp only [eR,not_or];exact ⟨λa=>⟨λe=>h e.symm,a⟩,λa=>a.2⟩
def WY {l:I dB} {x:dB} (h:x.name ∉ l.map (·.name)):gB x.name (b0 x.cells.toArray) (k3 l 0) l.length=k3 (l++[x]) 0/\kc x.name (k3 l 0) l.length=(l++[x]).length:=by
 have a:eq x.name (k3 l 0) 0=ao:=by have:=Ji x.name l 0 0;rw [OE.2 h] at this;simpa using this
 unfold gB kc;rw [a,OA];simp
def OF {l:I<|I ar} {x:I ar} (h:x ∉ l):gB x (am an ((l.length+1:Z):ac)) (jy l 0) l.length=jy (l++[x]) 0/\kc x (jy l 0) l.length=(l++[x]).length:=by
 have a:eq x (jy l 0) 0=ao:=by have:=Jj x l 0 0;rw [sd.2 h] at this;simpa using this
 unfold gB kc;rw [a,OB];simp
def se:∀{l:I<|I ar} {s k:Z},idxOf bc l s=aa k->s<=k/\l[k-s]? = aa bc
 | [],_,_,h=>by cases h
 | x::r,s,k,h=>by
  rw [idxOf] at h;split at h;·rename_i a;injection h with h;subst h;simp [a]
  ·obtain ⟨c,b⟩:=se h;refine ⟨ai,?_⟩;rw [show k-s=(k-(s+1))+1 by omega];simpa using b
variable {ey:I ar}
def Jk:∀{us:I<|I ar} {fs:I<|I dB} {s:Z},bc ∉ us->m8 bc ey us fs s=ao| [],_,_,_=>by simp [m8]| u::us,[],_,_=>by simp [m8]| u::us,f::fs,s,h=>by rw [m8,aj<|λe=>h (by simp [e]),Jk<|λa=>h<|m1 _ a]
def OG:∀{us:I<|I ar} {fs:I<|I dB} {s:Z},us.Nodup->us.length=fs.length->
   m8 bc ey us fs s=(idxOf bc us s).bind λk=>(fs[k-s]?).bind λf=>(jj ey f).map λx=>(((k+1:Z):ac),x)
 | [],[],_,_,_=>by simp [m8,idxOf]| [],f::fs,_,_,h=>by simp at h| u::us,[],_,_,h=>by simp at h
 | u::us,f::fs,s,b,c=>by
  rw [m8,idxOf];have a:=kX.1 b;by_cases h:u=bc;·rw [aD h,aD h];simp only [cH,zV,mB];cases jj ey f with| none=>simp only [bi];exact Jk<|h▸a.1| some x=>rfl
  ·rw [aj h,aj h,OG a.2 (by simpa using c)];cases hi:idxOf bc us (s+1) with| none=>rfl| some k=>have:=(se hi).1;simp only [cH];rw [show k-s=(k-(s+1))+1 by omega,lh]
end Go.Bw
end
section
namespace Go.Bw
open Go
structure e7 where
 p1:aS
 data:ac
 parts:I ac
def e7.cells (k:e7) (r:aA a6×Z):I aR:=[bW k.p1,am an k.data,aE r.1 k.parts.length r.2]
def ik (x:ac):I aR:=[am an x]
def lr (x:ac):(ik x).length=1:=rfl
def WZ (x:ac):(ik x).all (·.oneCell')=ad:=rfl
def gW (a:View) (b o:Z) (x:ac):Prop:=cB a b o<|ik x
def rt (a:View) (b o:Z) (k:e7):Prop:=∃r:aA a6×Z,cB a b o (k.cells r)/\Sl gW 1 a r.1 r.2 k.parts
def ec (u:aI):e7:=⟨ad,u.data,u.parts.map (·.params)⟩
def nZ:e7:=⟨aq,0,[]⟩
def oD (ks:I e7) (m pl:ac):aS:=((decide (m<0)||decide ((ks.length:ac)<=m))||decide (pl<0))||decide (512<pl)
def ls (ks:I e7) (m pl n:ac):aS:=if oD ks m pl=ad then aq else match ks[m.toNat]? with| aa k=>if k.p1=ad then decide (pl+n<=k.data) else n==1||decide (pl+n<=512)| ao=>aq
def n0 (ks:I e7) (m pl:ac):aS:=(decide (m<0)||decide ((ks.length:ac)<=m))||decide (pl<0)
def k4 (ks:I e7) (m pl n:ac):aS:=if n0 ks m pl=ad then aq else match ks[m.toNat]? with| aa k=>if k.p1=ad then decide (pl<(k.parts.length:ac))&&(k.parts[pl.toNat]?).getD 0==n else decide (pl<6)&&decide (n<=3)| ao=>aq
def gT (aX pl:ac):aS:=decide (0<=pl)&&decide (pl<aX)
def tm (n:ac):aS:=decide (1<=n)&&decide (n<=32)
variable {kM:I e7} {az b':ac}
def Cx (n:ac) (h:oD kM az b'=ad):ls kM az b' n=aq:=by rw [ls,aD h]
def Cy (h:oD kM az b'=aq):(∃a:Z,az=a/\a<kM.length)/\0<=b'/\b'<=512:=by unfold oD at h;simp only [kG,mC] at h;exact ⟨⟨az.toNat,ai,ai⟩,ai,ai⟩
variable {bE:Z}
def w9 {pl n:ac} {k:e7} (h:oD kM bE pl=aq) (a:kM[bE]? = aa k):ls kM bE pl n=if k.p1=ad then decide (pl+n<=k.data) else n==1||decide (pl+n<=512):=by rw [ls,aj (by rw [h];decide),ku,a]
def Cz (n:ac) (h:n0 kM az b'=ad):k4 kM az b' n=aq:=by rw [k4,aD h]
def CA (h:n0 kM az b'=aq):(∃a:Z,az=a/\a<kM.length)/\∃p:Z,b'=p:=by unfold n0 at h;simp only [kG,mC] at h;exact ⟨⟨az.toNat,ai,ai⟩,b'.toNat,ai⟩
def ux {pl n:ac} {k:e7} (h:n0 kM bE pl=aq) (a:kM[bE]? = aa k):k4 kM bE pl n=if k.p1=ad then decide (pl<(k.parts.length:ac))&&(k.parts[pl.toNat]?).getD 0==n else decide (pl<6)&&decide (n<=3):=by rw [k4,aj (by rw [h];decide),ku,a]
def node1 (ks:I e7) (aX op n m pl:ac) (len:Z):aS:= if op=1 then ((((m==0)&&(pl==0))&&((len:ac)==0))&&decide (0<=n))&&decide (n<=1099511627775) else if op=3 then ((n==0)&&((len:ac)==0))&&ls ks m pl 1 else if op=4 then (tm n&&((len:ac)==1))&&ls ks m pl n else if op=5 then (n==0)&&k4 ks m pl len else if op=16 then (((m==0)&&(n==0))&&((len:ac)==0))&&gT aX pl else if op=2 then (((m==0)&&(pl==0))&&(n==0))&&((len:ac)==0) else if op=6 then (((m==0)&&(pl==0))&&(n==0))&&((len:ac)==1) else if 7<=op/\op<=15 then (((m==0)&&(pl==0))&&(n==0))&&((len:ac)==2) else aq
def gC (ks:I e7) (aX op n m pl:ac) (na b a:Z):aS:= if op=1 then (((((b:ac)+a==0)&&((na:ac)==1))&&(n==0))&&(((m==-1)&&gT aX pl)||ls ks m pl 1)) else if op=2 then (((((b:ac)+a==0)&&((na:ac)==2))&&tm n)&&ls ks m pl n) else if op=3 then ((((b:ac)+a==0)&&(n==0))&&k4 ks m pl na) else if op=4 then (((m==0)&&(pl==0))&&(n==0))&&((na:ac)==1) else if op=5 then ((((m==0)&&(pl==0))&&(n==0))&&((na:ac)==1))&&((a:ac)==0) else if op=6\/op=7 then ((((m==0)&&(pl==0))&&(n==0))&&((b:ac)+a==0))&&((na:ac)==1) else aq
mutual
def k5 (ks:I e7) (aX:ac):eC->Z->aS| .mk op n m pl args,d=>decide (d<=6)&&(node1 ks aX op n m pl args.length&&hZ ks aX args (d+1))
def hZ (ks:I e7) (aX:ac):I eC->Z->aS| [],_=>ad| x::r,d=>k5 ks aX x d&&hZ ks aX r d
end
def Jl (ks:I e7) (aX:ac) (x:eC) (d:Z):k5 ks aX x d=(decide (d<=6)&&(node1 ks aX x.op x.n x.m x.pl x.args.length&&hZ ks aX x.args (d+1))):=by cases x;rw [k5];rfl
def CB (ks:I e7) (aX:ac) (d:Z):∀l,hZ ks aX l d=l.all (k5 ks aX · d)| []=>by rw [hZ];rfl| x::r=>by rw [hZ,CB ks aX d r];rfl
def tn (op:ac):aS:=(op==4)||(op==5)
mutual
def lR (ks:I e7) (aX:ac):et->Z->aS| .mk op n m pl args body other,d=>gC ks aX op n m pl args.length body.length other.length&&(hZ ks aX args 1&&((!(tn op)||(decide (d+1<=6)&&(decide (body.length<=10)&&g8 ks aX body (d+1))))&&(!(decide<|0<other.length)||(decide (d+1<=6)&&(decide (other.length<=10)&&g8 ks aX other (d+1))))))
def g8 (ks:I e7) (aX:ac):I et->Z->aS| [],_=>ad| x::r,d=>lR ks aX x d&&g8 ks aX r d
end
def bX (ks:I e7) (aX:ac) (l:I et) (d:Z):aS:=decide (d<=6)&&(decide (l.length<=10)&&g8 ks aX l d)
def Jm (ks:I e7) (aX:ac) (x:et) (d:Z):lR ks aX x d=(gC ks aX x.op x.n x.m x.pl x.args.length x.body.length x.other.length&&(hZ ks aX x.args 1&&((!(tn x.op)||bX ks aX x.body (d+1))&&(!(decide<|0<x.other.length)||bX ks aX x.other (d+1))))):=by cases x;rw [lR];rfl
def FL (ks:I e7) (aX:ac) (d:Z):∀l,g8 ks aX l d=l.all (lR ks aX · d)| []=>by rw [g8];rfl| x::r=>by rw [g8,FL ks aX d r];rfl
def W0 (ks:I e7) (aX:ac) (x:eC) (d:Z):((decide (6<(d:ac))||!(node1 ks aX x.op x.n x.m x.pl x.args.length))||!(hZ ks aX x.args<|d+1)) = !(k5 ks aX x d):=by rw [Jl,show decide (6<(d:ac)) = !(decide<|d<=6) by rw [mA];simp;omega];cases decide (d<=6)<;>cases node1 ks aX x.op x.n x.m x.pl x.args.length<;>cases hZ ks aX x.args (d+1)<;>rfl
def W1 (ks:I e7) (aX:ac) (x:et) (d:Z):(((!(gC ks aX x.op x.n x.m x.pl x.args.length x.body.length x.other.length)||!(hZ ks aX x.args 1))||(((x.op==4)||(x.op==5))&&!(bX ks aX x.body<|d+1)))||(decide (0<(x.other.length:ac))&&!(bX ks aX x.other<|d+1))) = !(lR ks aX x d):=by rw [Jm,show decide (0<(x.other.length:ac))=decide (0<x.other.length) by rw [mA];simp];unfold tn;cases gC ks aX x.op x.n x.m x.pl x.args.length x.body.length x.other.length<;>cases hZ ks aX x.args 1<;>cases ((x.op==4)||(x.op==5))<;>cases bX ks aX x.body (d+1)<;>cases decide (0<x.other.length)<;>cases bX ks aX x.other (d+1)<;>rfl
def W2 (ks:I e7) (aX:ac) (l:I et) (d:Z):(decide (6<(d:ac))||decide (10<(l.length:ac)))=ad->bX ks aX l d=aq:=by
 intro h;unfold bX;have b:¬(d<=6/\l.length<=10):=by simp at h;omega
 by_cases a:d<=6;·rw [tb (by omega:¬l.length<=10)];simp
 ·rw [tb a];simp
variable {gK:I et}
def W3 {d:Z} (h:(decide (6<(d:ac))||decide (10<(gK.length:ac)))=aq):d<=6/\gK.length<=10:=by simp at h;omega
def OH (ks:I e7) (aX:ac)   (h:bE<=6/\gK.length<=10):bX ks aX gK bE=gK.all (lR ks aX · bE):=by unfold bX;rw [jG h.1,jG h.2,FL];rfl
variable {aB:Type} {cv:I aB} {h8:aB}
def Az {f:aB->aS}    (h:cv[bE]? = aa h8) (a:f h8=aq):cv.all f=aq:=by cases b:cv.all f with| false=>rfl| true=>rw [gA.1 b h8<|aW h] at a;cases a
def l4 {f:aB->aS}    (h:cv[bE]? = aa h8) (a:(cv.take bE).all f=ad) (b:f h8=ad):(cv.take<|bE+1).all f=ad:=by rw [h7,h,I.all_append,a];simp [b]
def nw (ks:I e7) (p:b3):aS:=!(((decide (p.params<0)||decide (3<p.params))||decide (p.locals<0))||decide (4<p.locals))&&bX ks (p.params+p.locals) p.body 1
def tp (nm:I ar) (us:I<|I ar):aS:=!(g6<|nm::us)&&us.all gG
def p2 (u:aI):aS:=(((!(gG u.nm)||decide (3<(u.aN.length:ac)))||decide (u.data<0))||decide (512<u.data))||decide (6<(u.parts.length:ac))
def jY (u:aI) (kn:I e7):aS:=tp u.nm u.aN&&(!(p2 u)&&(u.parts.all (nw<|ec u::kn)&&bX (ec u::kn) 0 u.main 1))
def fR (l:I aI):I<|I ar:=l.map (·.nm)
def uy (l:I aI):aS:=(lf l.length).all λn=>((l[n]?.map (·.aN)).getD []).all λs=>((fR l).take n).contains s
def c_:I aI->ac->aS| [],_=>ad| u::r,room=>!(decide (u.data<0)||decide (room<u.data))&&c_ r (room-u.data)
def fV (l:I aI) (u:aI):I e7:=u.aN.map λs=>match idxOf s (fR l) 0 with| aa i=>(l[i]?.map ec).getD nZ| ao=>nZ
def lS (l:I aI):ac:= if (decide ((l.length:ac)<1)||decide (4<(l.length:ac)))=ad then 2 else if uy l=aq then 9 else if g6 (fR l)=ad then 6 else if c_ l 512=aq then 1 else if (l.all λu=>jY u<|fV l u)=ad then 0 else 1
end Go.Bw
end
section
namespace Go.Bw
open Go
def lT (x y:I ar):aS:=Op.bytesLess x y
def OI:∀x:I ar,lT x x=aq| []=>rfl| a::x=>by have h:=OI x;unfold lT at h ⊢;simp only [Op.bytesLess,h,aS.and_false,BW];simp
def Jn (a b:ar) (x y:I ar):lT (a::x) (b::y)=(decide (a<b)||((a==b)&&lT x y)):=rfl
def OJ:∀x y:I ar,x≠y->lT x y=ad\/lT y x=ad
 | [],[],h=>absurd rfl h| [],b::y,_=>bB rfl| a::x,[],_=>be rfl
 | a::x,b::y,h=>by
  rw [Jn,Jn];by_cases e:a=b;·subst e;have:=OJ x y<|λe=>h (by rw [e]);simpa using this
  ·rcases Z.lt_or_gt_of_ne (λd=>e<|MC.1 d) with c | c;·left;simp [H5,c]
   ·right;simp [H5,c]
def Jo:∀x y z:I ar,lT x y=ad->lT y z=ad->lT x z=ad
 | [],[],_,h,_=>by cases h| [],_::_,[],_,h=>by cases h| [],_::_,_::_,_,_=>rfl| _::_,[],_,h,_=>by cases h| _::_,_::_,[],_,h=>by cases h
 | a::x,b::y,c::z,e,d=>by
  rw [Jn] at e d ⊢;simp only [zS,eI,cw,j8,H5] at e d ⊢;rcases e with e | ⟨rfl,e⟩
  ·rcases d with d | ⟨rfl,d⟩;·exact bB ai
   ·exact bB e
  ·rcases d with d | ⟨rfl,d⟩;·exact bB d
   ·exact be ⟨O,Jo x y z e d⟩
def W4 {x y:I ar} (h:lT x y=ad):lT y x=aq:=by rw [vr];intro a;have:=Jo x y x h a;rw [OI] at this;cases this
def jl (l:I cV):I<|I ar:=l.map (·.nm)
def k6 (l:I cV) (s:I ar):aA Z:=idxOf s (jl l) 0
def jm (l:I cV) (i:Z):I ar:=(l[i]?.map (·.nm)).getD []
def tq (l:I cV) (i:Z):I<|I ar:=(l[i]?.map (·.aN)).getD []
def oY (l:I cV):aS:=l.all λm=>m.aN.all λs=>(k6 l s).isSome
def me (l:I cV):ac:=if 4<l.length then 2 else er (jk jh l) (if g6 (jl l)=ad then 6 else if oY l=ad then 0 else 5)
structure AB (l:I cV):Prop where
 fH:l.length<=4
 vI:∀m ∈ l,jh m=0
 nd:(jl l).Nodup
 aN:∀m ∈ l,∀s ∈ m.aN,∃j,k6 l s=aa j
variable {aB:Type}
def sf {f:aB->ac}:∀{l:I aB},jk f l=0↔∀x ∈ l,f x=0| []=>by simp [jk]| x::l=>by rw [jk,m9,sf (l:=l)];simp
variable {dh:I cV}
def OK:me dh=0↔AB dh:=by
 unfold me;constructor
 ·intro h;split at h;·cases h
  ·rename_i k;obtain ⟨d,a⟩:=m9.1 h;split at a;·cases a
   ·rename_i e;split at a;·rename_i f;refine ⟨ai,sf.1 d,kK.2 (by simpa using e),λm b s c=>?_⟩;have:=gA.1 (gA.1 f m b) s c;cases g:k6 dh s with| none=>rw [g] at this;cases this| some j=>exact ⟨j,rfl⟩
    ·cases a
 ·intro h;rw [aj (by have:=h.fH;omega),sf.2 h.vI,oB,aj (by rw [kK.1 h.nd];decide),aD];refine gA.2 λm b=>gA.2 λs c=>?_;obtain ⟨j,i⟩:=h.aN m b s c;rw [i];rfl
variable {bc:I ar} {bE:Z}
def OL (h:k6 dh bc=aa bE):bE<dh.length/\jm dh bE=bc:=by have a:=(se h).2;rw [qp] at a;unfold jl at a;rw [fp] at a;obtain ⟨m,b,e⟩:=eQ.1 a;exact ⟨(cN.1 b).1,by rw [jm,b];exact e⟩
variable {bD:cV}
def uz (h:dh[bE]? = aa bD):jm dh bE=bD.nm:=by rw [jm,h];rfl
def OM (h:dh[bE]? = aa bD):tq dh bE=bD.aN:=by rw [tq,h];rfl
def AC (h:dh[bE]? = aa bD):(jl dh)[bE]? = aa bD.nm:=by unfold jl;rw [fp,h];rfl
def lu (l:I cV):(jl l).length=l.length:=by simp [jl]
variable {aL:Z}
def FM (b:(jl dh).Nodup)  (hi:bE<dh.length) (a:aL<dh.length) (h:jm dh bE=jm dh aL):bE=aL:=by
 have e:(jl dh)[bE]? = (jl dh)[aL]?:=by rw [AC<|cy hi,AC<|cy a,<-uz<|cy hi,<-uz<|cy a,h]
 exact (ib (by rw [lu];exact hi) b).1 e
def W5 (b:(jl dh).Nodup) {i:Z} (hi:i<dh.length):k6 dh (jm dh i)=aa i:=by cases a:k6 dh (jm dh i) with| none=>refine absurd ?_<|sd.1 a;rw [uz<|cy hi];exact aW<|AC<|cy hi| some j=>obtain ⟨c,d⟩:=OL a;rw [FM b c hi d]
def cP (l:I cV) (d:I Z) (s:I ar):aS:=match k6 l s with| aa j=>d.contains j| ao=>aq
def ph (l:I cV) (d:I Z) (i:Z):aS:=!d.contains i&&(tq l i).all (cP l d)
structure AD (l:I cV) (d:I Z) (b:Z):Prop where
 lt:b<l.length
 ready:ph l d b=ad
 least:∀i,i<l.length->ph l d i=ad->i=b\/lT (jm l b) (jm l i)=ad
inductive c' (l:I cV):I Z->Prop where
 | nil:c' l []
 | snoc {d:List Nat} {b:Nat}:c' l d->AD l d b->c' l (d++[b])
def Jp (l:I cV) (d:I Z):Prop:=∀i,i<l.length->ph l d i=aq
variable {cS:I Z}
def W6 (b:AD dh cS bE) (c:AD dh cS aL):bE=aL:=by
 rcases b.least aL c.lt c.ready with h | h;·exact h.symm
 ·rcases c.least bE b.lt b.ready with a | a;·exact a
  ·rw [W4 h] at a;cases a
def Jq (h:c' dh<|cS++[bE]):c' dh cS/\AD dh cS bE:=by generalize b:cS++[bE]=e at h;cases h with| nil=>simp at b| snoc c d=>obtain ⟨rfl,a⟩:=I.append_inj' b rfl;injection a with a;subst a;exact ⟨c,d⟩
def W7:∀{d:I Z},c' dh d->∀k,c' dh (d.take k):=by
 intro d h;induction h with
 | nil=>intro k;simp;exact .nil
 | @snoc d b c e f=>
  intro k;rcases m2 d.length k with a | a;·rw [mz (by simp;omega)];exact .snoc c e
  ·rw [HY a];exact f k
def Jr:∀{n:Z} {d e:I Z},d.length=n->e.length=n->c' dh d->c' dh e->d=e| 0,d,e,c,f,_,_=>by rw [s' c,s' f]| n+1,d,e,c,f,i,he=>by obtain ⟨g,a,rfl⟩:∃g a,d=g++[a]:=⟨d.dropLast,d.getLast (by intro h;rw [h] at c;cases c),(MD _).symm⟩;obtain ⟨l,b,rfl⟩:∃g a,e=g++[a]:=⟨e.dropLast,e.getLast (by intro h;rw [h] at f;cases f),(MD _).symm⟩;obtain ⟨k1,k2⟩:=Jq i;obtain ⟨j,k⟩:=Jq he;have:=Jr (n:=n) (by simpa using c) (by simpa using f) k1 j;subst this;rw [W6 k2 k]
variable {p3:I Z}
def Js (b:c' dh cS) (c:Jp dh cS) (d:c' dh p3):p3.length<=cS.length:=by
 rcases m2 cS.length p3.length with h | h
 ·have a:=W7 d<|cS.length+1;have e:p3.take (cS.length+1)=p3.take cS.length++[p3[cS.length]]:=by rw [h7,cy h];rfl
  rw [e] at a;obtain ⟨k1,k2⟩:=Jq a;have f:=Jr (n:=cS.length) rfl (by simp;omega) b k1;rw [<-f] at k2;have:=k2.ready;rw [c _ k2.lt] at this;cases this
 ·exact h
def Jt (l:I cV) (d:I Z):Prop:=c' l d/\(d.length=l.length\/Jp l d)
def iB {d:I Z} (h:c' dh d):(∀i ∈ d,i<dh.length)/\d.Nodup:=by
 induction h with
 | nil=>simp
 | @snoc d b k c f=>
  refine ⟨λi hi=>?_,?_⟩
  ·rcases fe.1 hi with hi | hi;·exact f.1 i hi
   ·rw [e_] at hi;subst hi;exact c.lt
  ·rw [l9];refine ⟨f.2,aK,λa j l g=>?_⟩;rw [e_] at g;subst g;intro e;subst e;have:=c.ready;simp [ph,j] at this
def CD:∀{n:Z} {d:I Z},d.Nodup->(∀i ∈ d,i<n)->d.length<=n
 | 0,[],_,_=>c7 _| 0,x::_,_,h=>absurd (h x aK) ai
 | n+1,d,a,f=>by
  have b:(d.erase n).length<=n:=CD (a.erase n) λi hi=>by have c:=(a.mem_erase_iff).1 hi;have:=f i c.2;have:=c.1;omega
  by_cases e:n ∈ d;·rw [I.length_erase_of_mem e] at b;omega
  ·rw [I.erase_of_not_mem e] at b;omega
def W8 (b:Jt dh cS) (a:Jt dh p3):cS=p3:=by
 have e:=CD (iB b.1).2 (iB b.1).1;have le:=CD (iB a.1).2 (iB a.1).1;have h:cS.length=p3.length:=by
  rcases b.2 with d | d
  ·rcases a.2 with c | c;·omega
   ·have:=Js a.1 c b.1;omega
  ·have f:=Js b.1 d a.1;rcases a.2 with c | c;·omega
   ·have:=Js a.1 c b.1;omega
 exact Jr (n:=cS.length) O h.symm b.1 a.1
def o4 (l:I cV) (d:I Z):I Z×ac:=if d.length=l.length then (d,0) else ([],9)
def w_ (l:I cV) (s:I ar):I<|I ar:=match k6 l s with| aa i=>tq l i| ao=>[]
inductive Reach (l:I cV) (a:I ar):I ar->Prop where
 | base {s:List UInt8}:s ∈ w_ l a->Reach l a s
 | step {b s:List UInt8}:Reach l a b->s ∈ w_ l b->Reach l a s
structure Ju (l:I cV) (a:I ar) (S:I ar->Prop):Prop where
 base:∀s ∈ w_ l a,S s
 step:∀b,S b->∀s ∈ w_ l b,S s
 sound:∀s,S s->Reach l a s
def Ju.iff {S:I ar->Prop} (h:Ju dh bc S) (s:I ar):S s↔Reach dh bc s:= ⟨h.sound s,λb=>by induction b with| base a=>exact h.base _ a| step _ a c=>exact h.step _ c _ a⟩
def i5 (l:I<|I ar) (s:Z):I<|fz<|I ar:=match l with| []=>[]| x::r=>(x,am an (s:ac),s)::i5 r (s+1)
def Jv:∀(l:I<|I ar) (s:Z),(i5 l s).length=l.length| [],_=>rfl| x::r,s=>by rw [i5,gj,Jv r,gj]
def Jw:∀(l:I<|I ar) (x:I ar) (s:Z),i5 (l++[x]) s=i5 l s++[(x,am an ((s+l.length:Z):ac),s+l.length)]| [],x,s=>rfl| y::r,x,s=>by rw [ix,i5,Jw r x,i5,ix,gj,show s+1+r.length=s+(r.length+1) by omega]
def FN (nm:I ar):∀(l:I<|I ar) (s i:Z),(eq nm (i5 l s) i).map (·.2)=(idxOf nm l s).map λk=>am an (k:ac)
 | [],_,_=>rfl
 | x::r,s,i=>by
  rw [i5,eq,idxOf];by_cases h:x=nm;·simp [h]
  ·rw [aj (by simpa using λe=>h e.symm),aj h];exact FN nm r (s+1)<|i+1
def AE (nm:I ar) (l:I<|I ar):bO nm (i5 l 0) (am an 0) = am an (((idxOf nm l 0).getD 0:Z):ac)/\ri nm (i5 l 0)=(idxOf nm l 0).isSome:=by
 have h:=FN nm l 0 0;unfold bO ri;cases a:eq nm (i5 l 0) 0 with
 | none=>rw [a] at h;cases hi:idxOf nm l 0 with| none=>exact ⟨rfl,rfl⟩| some x=>rw [hi] at h;cases h
 | some r=>rw [a] at h;cases hi:idxOf nm l 0 with| none=>rw [hi] at h;cases h| some x=>rw [hi] at h;simp at h;exact ⟨by simp [h],rfl⟩
def Jx [BEq aB] (k:aB) (v:aR) (m:I<|fz aB) (c:Z):(gB k v m c).length<=m.length+1:=by unfold gB;split<;>simp
def Jy (ns:I<|I ar) (i:Z) (M:I<|fz<|I ar) (c:Z):Prop:=((ns.take i).Nodup/\M=i5 (ns.take i) 0/\c=i)\/(¬(ns.take i).Nodup/\M.length<i)
def W9 {ns:I<|I ar} {i:Z} {M:I<|fz<|I ar}   (h:Jy ns i M bE) (m:ns[i]? = aa bc):Jy ns (i+1) (gB bc (am an (i:ac)) M bE)<|kc bc M bE:=by
 have u:=(cN.1 m).1;have n:(ns.take i).length=i:=by simp;omega
 have g:ns.take (i+1)=ns.take i++[bc]:=by rw [h7,m];rfl
 rcases h with ⟨l,rfl,q⟩ | ⟨l,v⟩
 ·have s:=q.symm;subst s;have d:=FN bc (ns.take i) 0 0;by_cases j:bc ∈ ns.take i
  ·right;refine ⟨λf=>?_,?_⟩;·rw [g,l9] at f;exact f.2.2 bc j bc aK O
   ·have o:(eq bc (i5 (ns.take i) 0) 0).isSome=ad:=by
     cases c:eq bc (i5 (ns.take i) 0) 0 with
     | some r=>rfl
     | none=>
      rw [c] at d;have:idxOf bc (ns.take i) 0=ao:=by cases hi:idxOf bc (ns.take i) 0 with| none=>rfl| some k=>rw [hi] at d;cases d
      exact absurd j<|sd.1 this
    unfold gB;cases c:eq bc (i5 (ns.take i) 0) 0 with| none=>rw [c] at o;cases o| some r=>simp [Jv,n]
  ·left;have c:eq bc (i5 (ns.take i) 0) 0=ao:=by rw [sd.2 j] at d;simpa using d
   refine ⟨?_,?_,?_⟩;·rw [g,l9];exact ⟨l,aK,λa t b p e=>by rw [e_] at p;subst p;subst e;exact j t⟩
   ·unfold gB;rw [c,g,Jw,n];simp
   ·unfold kc;rw [c]
 ·right;refine ⟨λf=>l ?_,?_⟩;·rw [g,l9] at f;exact f.1
  ·have:=Jx bc (am an (i:ac)) M bE;omega
end Go.Bw
end
section
namespace Go.Bw
open Go
def sg (l:I cV) (a b:Z):Prop:=lT (jm l a) (jm l b)=ad
def p4 {α:Type} (R:α->α->Prop) (d:I α) (i:Z):Prop:=∀(x y:Z) (a b:α),x<y->y<i->d[x]? = aa a->d[y]? = aa b->R a b
structure yK {α:Type} (R:α->α->Prop) (d0 d:I α) (i j:Z):Prop where
 perm:d.Perm d0
 ji:j<=i
 il:i<d.length
 ord:∀(x y:Z) (a b:α),x<y->y<=i->x≠j->y≠j->d[x]? = aa a->d[y]? = aa b->R a b
 up:∀(y:Z) (a b:α),j<y->y<=i->d[j]? = aa a->d[y]? = aa b->R a b
variable {aB:Type} {bJ:aB->aB->Prop} {cv sh:I aB} {bE:Z}
def ahF (c:sh.Perm cv) (hi:bE<sh.length) (h:p4 bJ sh bE):yK bJ cv sh bE bE:= ⟨c,c7 _,hi,λx y a b d j e f g i=>h x y a b d ai g i,λy a b e f=>by omega⟩
def W_ {a b:aB} (d:cv[bE]? = aa b) (f:cv[bE+1]? = aa a):cv=cv.take bE++b::a::cv.drop (bE+2)/\(cv.set (bE+1) b).set bE a=cv.take bE++a::b::cv.drop (bE+2):=by
 obtain ⟨g,h⟩:=cN.1 d;obtain ⟨i,j⟩:=cN.1 f
 have e:cv=cv.take bE++b::a::cv.drop (bE+2):=by
   conv=>lhs; rw [<-rZ bE cv,qr g,h,qr i,j]
 refine ⟨e,?_⟩
 have c:(cv.take bE).length=bE:=by simp; omega
 conv=>lhs; rw [e]
 rw [sJ _ _ ai,c,show bE+1-bE=1 by omega,sJ _ _ ai,c,zV]
 rfl
def Xa {i j:Z} {a b:aB} (h:yK bJ cv sh i<|j+1) (o:sh[j+1]? = aa a) (k:sh[j]? = aa b) (q:bJ a b):yK bJ cv ((sh.set (j+1) b).set j a) i j:=by
 obtain ⟨r,s⟩:=W_ k o;have z:=h.ji;have t:=h.il
 have g:∀x,((sh.set (j+1) b).set j a)[x]? = if x=j then aa a else if x=j+1 then aa b else sh[x]?:=by
   intro x;rw [eu,eu];simp only [zW]
   by_cases d:x=j
   · subst d; rw [aD rfl,aD ai,aD rfl]
   · rw [aj<|λe=>d e.symm,aj d]
     by_cases l:x=j+1
     · subst l; rw [aD rfl,aD ai,aD rfl]
     · rw [aj<|λe=>l e.symm,aj l]
 refine ⟨?_,ai,by simpa using t,?_,?_⟩
 · rw [s]
   refine I.Perm.trans ?_ h.perm
   conv=>rhs; rw [r]
   exact I.Perm.append_left _<|I.Perm.swap _ _ _
 · intro x y u v w f p m c hv
   rw [g,aj p] at c;rw [g,aj m] at hv
   by_cases d:x=j+1
   · rw [aD d] at c
     injection c with c; subst c
     rw [aj ai] at hv;exact h.ord j y b v ai f ai ai k hv
   · rw [aj d] at c
     by_cases n:y=j+1
     · rw [aD n] at hv
       injection hv with hv; subst hv
       exact h.ord x j u b ai ai d ai c k
     · rw [aj n] at hv
       exact h.ord x y u v w f d n c hv
 · intro y u v p m c hv
   rw [g,aD rfl] at c
   injection c with c; subst c
   rw [g,aj ai] at hv
   by_cases f:y=j+1
   · rw [aD f] at hv
     injection hv with hv; subst hv
     exact q
   · rw [aj f] at hv
     exact h.up y a v ai m o hv
def Xb (h:yK bJ cv sh bE 0):p4 bJ sh<|bE+1:=by
 intro x y a b c g d e;by_cases f:x=0;·subst f;exact h.up y a b c ai d e
 ·exact h.ord x y a b c ai f ai d e
def Xc {R:aB->aB->Prop} (n:∀a b c,R a b->R b c->R a c) {d0 d:I aB} {i j:Z} {a b:aB} (h:yK R d0 d i<|j+1) (o:d[j+1]? = aa a) (g:d[j]? = aa b) (k:R b a):p4 R d<|i+1:=by
 intro x y u v l q e hv;by_cases f:x=j+1;·subst f;exact h.up y u v l ai e hv
 ·by_cases m:y=j+1
  ·subst m;rw [o] at hv;injection hv with hv;subst hv;by_cases p:x=j;·subst p;rw [g] at e;injection e with e;subst e;exact k
   ·exact n u b a (h.ord x j u b ai (by have:=h.ji;omega) f ai e g) k
  ·exact h.ord x y u v l ai f m e hv
def gZ (a b:I ar):ac:=if lT a b=ad then -1 else if (!(lT a b||a==b))=ad then 1 else 0
def OO {a b:I ar}:gZ a b<0↔lT a b=ad:=by
 unfold gZ;by_cases h:lT a b=ad;·simp [h]
 ·rw [aj h];constructor;·intro c;split at c<;>omega
  ·intro c;exact absurd c h
def db (d:I Z) (s:Z):I<|fz ac:=match d with| []=>[]| i::r=>((i:ac),am an 1,s)::db r (s+1)
def OP:∀(d:I Z) (i s:Z),db (d++[i]) s=db d s++[((i:ac),am an 1,s+d.length)]| [],i,s=>rfl| y::r,i,s=>by rw [ix,db,OP r i,db,ix,gj,show s+1+r.length=s+(r.length+1) by omega]
def JA (i:Z):∀(d:I Z) (s k:Z),(eq (i:ac) (db d s) k).map (·.2)=if d.contains i=ad then aa (am an 1) else ao
 | [],_,_=>rfl
 | x::r,s,k=>by
  rw [db,eq];by_cases h:i=x;·subst h;simp
  ·rw [aj (by simpa using λe:(i:ac)=(x:ac)=>h ai),JA i r (s+1)<|k+1];simp [h]
def JB (i:Z) (d:I Z):bO (i:ac) (db d 0) (am an 0) = am an (if d.contains i=ad then 1 else 0):=by have h:=JA i d 0 0;unfold bO;cases a:eq (i:ac) (db d 0) 0 with| none=>rw [a] at h;split at h<;>simp_all| some r=>rw [a] at h;split at h<;>simp_all
variable {cS:I Z}
def OQ {i:Z}  (h:cS.contains i=aq):gB (i:ac) (am an 1) (db cS 0) cS.length=db (cS++[i]) 0/\kc (i:ac) (db cS 0) cS.length=(cS++[i]).length:=by
 have a:=JA i cS 0 0;rw [h,aj a8] at a;have a:eq (i:ac) (db cS 0) 0=ao:=by simpa using a
 unfold gB kc;rw [a,OP];simp
variable {dh:I cV} {p3:I Z}
def Xd {k b:Z} (e:cS.Perm<|lf dh.length) (g:p4 (sg dh) cS cS.length) (d:cS[k]? = aa b) (j:ph dh p3 b=ad) (l:∀x c,x<k->cS[x]? = aa c->ph dh p3 c=aq):AD dh p3 b:=by
 refine ⟨by simpa using e.subset (aW d),j,λi hi f=>?_⟩;have m:i ∈ cS:=e.symm.subset (by simpa using hi);obtain ⟨y,a⟩:=jd m;have n:=(cN.1 a).1;rcases Mz y k with h | h | h;·rw [l y i h a] at f;cases f
 ·subst h;rw [d] at a;injection a with a;exact bB a.symm
 ·exact be<|g k y b i h n d a
def Xe (a:cS.Perm<|lf dh.length) (b:∀x c:Z,cS[x]? = aa c->ph dh p3 c=aq):Jp dh p3:=λi hi=>by have d:i ∈ cS:=a.symm.subset (by simpa using hi);obtain ⟨y,e⟩:=jd d;exact b y i e
end Go.Bw
end
section
namespace Go.Bw
open Go Go.RowKit Go.Maps Go.Sort
open Go.WideElems (Fit rd rg pl rd_val rd_mk rg_of)
structure ahT (M:I<|fz<|I ar) (c:Z):Prop where
 nd:(M.map (·.1)).Nodup
 len:∀e ∈ M,e.1.length<=maxLen
 size:M.length<=maxLen
 born:M.map (·.2.2)=lf M.length
 clock:c=M.length
end Go.Bw
end
section
namespace Go.Bw
open Go
section
variable {κ:Type} [BEq κ] [LawfulBEq κ]
def FO (k:κ):∀(m:I<|fz κ) (i j:Z) (v:aR),eq k m i=aa (j,v)->i<=j/\∃b,m[j-i]? = aa (k,v,b)
 | [],i,j,v,h=>by simp [eq] at h
 | e::r,i,j,v,h=>by
  simp only [eq] at h;split at h;·rename_i d;have f:e.1=k:=(eq_of_beq d).symm;injection h with h;injection h with c a;subst c a;exact ⟨c7 _,e.2.2,by rw [zV,mB,<-f]⟩
  ·obtain ⟨c,b,a⟩:=FO k r (i+1) j v h;refine ⟨ai,b,?_⟩;rw [show j-i=(j-(i+1))+1 by omega,lh];exact a
def OR (k:κ):∀(m:I<|fz κ) (i:Z),eq k m i=ao↔k ∉ m.map (·.1)
 | [],i=>by simp [eq]
 | e::r,i=>by
  simp only [eq,nt,eR,not_or];split;·rename_i a;have b:e.1=k:=(eq_of_beq a).symm;exact ⟨λh=>(by cases h),λh=>absurd b.symm h.1⟩
  ·rename_i a;have b:¬k=e.1:=λc=>a (by simp [c]);rw [OR k r<|i+1];exact ⟨λh=>⟨b,h⟩,λh=>h.2⟩
def Xf (k:κ) (v:aR) (m:I<|fz κ) (c:Z):((k ∈ m.map (·.1))/\(gB k v m c).map (·.1)=m.map (·.1)/\(gB k v m c).map (·.2.2)=m.map (·.2.2)/\kc k m c=c)\/ (k ∉ m.map (·.1)/\gB k v m c=m++[(k,v,c)]/\kc k m c=c+1):=by
 unfold gB kc;cases d:eq k m 0 with
 | none=>exact be ⟨(OR k m 0).1 d,rfl,rfl⟩
 | some r=>
  obtain ⟨j,u⟩:=r;obtain ⟨_,b,a⟩:=FO k m 0 j u d;rw [qp] at a;refine bB ⟨o2.2 ⟨_,aW a,O⟩,?_,?_,O⟩;all_goals
   apply r0;intro i;simp only [fp,vp];by_cases e:j=i;·subst e;rw [a];simp
   ·simp [e]
def yM (k:κ) (v:aR) (m:I<|fz κ) (c:Z) (z:aR):bO k (gB k v m c) z=v:=by
 have key:∃e,eq k (gB k v m c) 0=aa (e,v):=by
  unfold gB;cases f:eq k m 0 with
  | none=>
   have a:∀(m:I<|fz κ) (i:Z),eq k m i=ao->eq k (m++[(k,v,c)]) i=aa (i+m.length,v):=by
    intro m;induction m with
    | nil=>intro i _;simp [eq]
    | cons e r d=>
     intro i h;simp only [eq,ix] at h ⊢;split at h;·cases h
     ·rename_i b;rw [aj b,d _ h,gj];congr 2;omega
   exact ⟨_,a m 0 f⟩
  | some r=>
   obtain ⟨j,u⟩:=r;have a:∀(m:I<|fz κ) (i:Z),eq k m i=aa (j,u)->eq k (m.modify (j-i) λe=>(k,v,e.2.2)) i=aa (j,v):=by
    intro m;induction m with
    | nil=>intro i h;simp [eq] at h
    | cons e r d=>
     intro i h;simp only [eq] at h;split at h;·injection h with h;injection h with a g;subst a;rw [zV];simp [eq]
     ·rename_i b;have l:=(FO k r (i+1) j u h).1;rw [show j-i=(j-(i+1))+1 by omega,ME,eq,aj b];exact d _ h
   exact ⟨_,a m 0 f⟩
 obtain ⟨e,b⟩:=key;unfold bO;rw [b]
end
structure JC (M:I<|fz<|I ar) (c p:Z):Prop where
 nd:(M.map (·.1)).Nodup
 born:M.map (·.2.2)=lf M.length
 clock:c=M.length
 Xg:∀x v,bO x M (am an 0)=v->∃n:Z,n<=p/\v = am an (n:ac)/\(n=0↔x ∉ M.map (·.1))
def CF {κ:Type} [BEq κ] [LawfulBEq κ] {k a:κ} (v:aR) (m:I<|fz κ) (c:Z) (z:aR) (h:a≠k):bO a (gB k v m c) z=bO a m z:=by
 have o:∀(m:I<|fz κ) (i:Z),(eq a (m++[(k,v,c)]) i).map (·.2)=(eq a m i).map (·.2):=by intro m;induction m with| nil=>intro i;simp [eq,h]| cons e r l=>intro i;simp only [eq,ix];split<;>simp [l]
 have p:∀(m:I<|fz κ) (i j:Z),(m[j]?.map (·.1)=aa k)->(eq a (m.modify j λe=>(k,v,e.2.2)) i).map (·.2)=(eq a m i).map (·.2):=by
  intro m;induction m with
  | nil=>intro i j g;simp at g
  | cons e r l=>
   intro i j g;cases j with
   | zero=>
    have s:e.1=k:=by simpa using g
    have t:¬(a==e.1)=ad:=by rw [s];simpa using h
    have w:¬(a==k)=ad:=by simpa using h
    rw [I.modify_zero_cons,eq,eq,aj t,aj<|show ¬(a==(k,v,e.2.2).1)=ad from w]
   | succ j=>
    rw [ME,eq,eq];split;·rfl
    ·exact l _ _ (by simpa using g)
 have d:(eq a (gB k v m c) 0).map (·.2)=(eq a m 0).map (·.2):=by unfold gB;cases x:eq k m 0 with| none=>exact o m 0| some r=>obtain ⟨j,u⟩:=r;obtain ⟨_,b,f⟩:=FO k m 0 j u x;rw [qp] at f;exact p m 0 j (by rw [f];rfl)
 unfold bO;cases n:eq a (gB k v m c) 0 with
 | none=>rw [n] at d;cases f:eq a m 0 with| none=>rfl| some r=>rw [f] at d;cases d
 | some q=>rw [n] at d;cases f:eq a m 0 with| none=>rw [f] at d;cases d| some r=>rw [f] at d;simp at d;simp [d]
variable {bc:I ar}
def JC.put {M:I<|fz<|I ar} {c p n:Z}  (h:JC M c p) (w:n<=p) (j:n=0↔bc ∉ M.map (·.1)) : JC (gB bc (am an ((n+1:Z):ac)) M c) (kc bc M c) (p+1)/\(gB bc (am an ((n+1:Z):ac)) M c).map (·.1)=(if n=0 then M.map (·.1)++[bc] else M.map (·.1)):=by
 have i:∀y v,bO y (gB bc (am an ((n+1:Z):ac)) M c) (am an 0)=v->∃k:Z,k<=p+1/\v = am an (k:ac)/\(k=0↔y ∉ (if n=0 then M.map (·.1)++[bc] else M.map (·.1))):=by
  intro y v hv;by_cases l:y=bc
  ·subst l;rw [yM] at hv;refine ⟨n+1,ai,hv.symm,?_⟩;split;·simp
   ·rename_i m;exact ⟨λh=>by omega,λd=>absurd (j.2 d) m⟩
  ·rw [CF _ _ _ _ l] at hv;obtain ⟨k,f,d,g⟩:=h.Xg y v hv;refine ⟨k,ai,d,g.trans ?_⟩;split;·simp [l]
   ·rfl
 rcases Xf bc (am an ((n+1:Z):ac)) M c with ⟨f,d,g,s⟩ | ⟨f,d,g⟩
 ·have m:¬n=0:=λe=>j.1 e f;rw [aj m] at i ⊢;have q:(gB bc (am an ((n+1:Z):ac)) M c).length=M.length:=by have:=congrArg m0 d;simpa using this
  exact ⟨⟨by rw [d];exact h.nd,by rw [g,q];exact h.born,by rw [s,q];exact h.clock,λy v hv=>by rw [d];exact i y v hv⟩,d⟩
 ·have t:n=0:=j.2 f;rw [aD t] at i ⊢;have o:(gB bc (am an ((n+1:Z):ac)) M c).map (·.1)=M.map (·.1)++[bc]:=by rw [d];simp
  refine ⟨⟨?_,?_,?_,λy v hv=>by rw [o];exact i y v hv⟩,o⟩;·rw [o,l9];exact ⟨h.nd,aK,λa u b r e=>by rw [e_] at r;subst r;subst e;exact f u⟩
  ·rw [d,qs,h.born,iy,zP,zX,h.clock];rfl
  ·rw [g,d,h.clock];simp
structure xa (l:I cV) (nm:I ar) (ds nx:I<|I ar):Prop where
 base:∀s ∈ w_ l nm,s ∈ ds\/s ∈ nx
 step:∀b ∈ ds,∀s ∈ w_ l b,s ∈ ds\/s ∈ nx
 sound:∀s,s ∈ ds\/s ∈ nx->Reach l nm s
variable {dh:I cV} {ey:I ar} {bg yL:I<|I ar}
def xa.old (h:xa dh bc bg<|ey::yL) (c:ey ∈ bg):xa dh bc bg yL:=by
 have key:∀s,s ∈ bg\/s ∈ ey::yL->s ∈ bg\/s ∈ yL:=λs a=>by
  rcases a with a | a;·exact bB a
  ·rcases eR.1 a with e | a;·subst e;exact bB c
   ·exact be a
 exact ⟨λs a=>key s<|h.base s a,λb d s a=>key s<|h.step b d s a,λs a=>h.sound s<|a.imp id<|m1 _⟩
def xa.new (h:xa dh bc bg<|ey::yL):xa dh bc (bg++[ey])<|yL++w_ dh ey:=by
 have key:∀s,s ∈ bg\/s ∈ ey::yL->s ∈ bg++[ey]\/s ∈ yL++w_ dh ey:=λs a=>by
  rcases a with a | a;·exact bB<|zY _ a
  ·rcases eR.1 a with e | a;·subst e;exact bB aK
   ·exact be<|zY _ a
 refine ⟨λs a=>key s<|h.base s a,λb c s a=>?_,λs a=>?_⟩
 ·rcases fe.1 c with c | c;·exact key s<|h.step b c s a
  ·rw [e_] at c;subst c;exact be<|s_ _ a
 ·rcases a with a | a
  ·rcases fe.1 a with a | a;·exact h.sound s<|bB a
   ·rw [e_] at a;subst a;exact h.sound _<|be aK
  ·rcases fe.1 a with a | a;·exact h.sound s<|be<|m1 _ a
   ·exact .step (h.sound ey<|be aK) a
def xa.fin (h:xa dh bc bg []) (s:I ar):s ∈ bg↔Reach dh bc s:= Ju.iff (S:=λs=>s ∈ bg) ⟨λs a=>(h.base s a).resolve_right aK,λb c s a=>(h.step b c s a).resolve_right aK,λs a=>h.sound s<|bB a⟩ s
end Go.Bw
end
section
namespace Go.Bw
open Go
def p5 (l:I<|I ar) (s:Z):I<|fz<|I ar:=match l with| []=>[]| x::r=>(x,am an 1,s)::p5 r (s+1)
def OS:∀(l:I<|I ar) (x:I ar) (s:Z),p5 (l++[x]) s=p5 l s++[(x,am an 1,s+l.length)]| [],x,s=>rfl| y::r,x,s=>by rw [ix,p5,OS r x,p5,ix,gj,show s+1+r.length=s+(r.length+1) by omega]
def JE (nm:I ar):∀(l:I<|I ar) (s i:Z),(eq nm (p5 l s) i).map (·.2)=if l.contains nm=ad then aa (am an 1) else ao
 | [],_,_=>rfl
 | x::r,s,i=>by
  rw [p5,eq];by_cases h:x=nm;·subst h;simp
  ·rw [aj (by simpa using λe=>h e.symm),JE nm r (s+1)<|i+1];have a:¬nm=x:=λe=>h e.symm;simp [a]
def Xh (nm:I ar) (l:I<|I ar):bO nm (p5 l 0) (am an 0) = am an (if l.contains nm=ad then 1 else 0):=by have h:=JE nm l 0 0;unfold bO;cases a:eq nm (p5 l 0) 0 with| none=>rw [a] at h;split at h<;>simp_all| some r=>rw [a] at h;split at h<;>simp_all
variable {bc:I ar} {bg:I<|I ar}
def OT (h:bg.contains bc=aq):gB bc (am an 1) (p5 bg 0) bg.length=p5 (bg++[bc]) 0/\kc bc (p5 bg 0) bg.length=(bg++[bc]).length:=by
 have a:=JE bc bg 0 0;rw [aj (by rw [h];decide)] at a;have b:eq bc (p5 bg 0) 0=ao:=by cases c:eq bc (p5 bg 0) 0 with| none=>rfl| some r=>rw [c] at a;cases a
 unfold gB kc;rw [b,OS];simp
structure vJ (ns:I<|I ar) (i:Z) (M:I<|fz<|I ar) (c:Z):Prop where
 mem:∀s,∃v:Z,bO s M (am an 0) = am an (v:ac)/\(v=0↔s ∉ ns.take i)
 ot:((ns.take i).Nodup/\M=jy (ns.take i) 0/\c=i)\/(¬(ns.take i).Nodup/\M.length<i)
def Xi (ns:I<|I ar):vJ ns 0 [] 0:=⟨λs=>⟨0,rfl,aK⟩,bB ⟨aK,rfl,rfl⟩⟩
variable {bE aL:Z} {aF:I<|fz<|I ar}
def vJ.old (h:vJ bg bE aF aL) (c:bg[bE]? = aa bc) (d:bc ∈ bg.take bE):vJ bg (bE+1) aF aL:=by
 have e:bg.take (bE+1)=bg.take bE++[bc]:=by rw [h7,c];rfl
 refine ⟨λs=>?_,be ⟨λf=>?_,?_⟩⟩
 ·obtain ⟨v,g,i⟩:=h.mem s;refine ⟨v,g,i.trans ?_⟩;rw [e,fe,e_];constructor
  ·rintro a (b | b);·exact a b
   ·subst b;exact a d
  ·exact λa b=>a<|bB b
 ·rw [e,l9] at f;exact f.2.2 bc d bc aK O
 ·have j:=(cN.1 c).1;rcases h.ot with ⟨_,rfl,_⟩ | ⟨_,a⟩;·rw [Jh];simp;omega
  ·omega
def vJ.new (h:vJ bg bE aF aL) (g:bg[bE]? = aa bc) (i:bc ∉ bg.take bE):vJ bg (bE+1) (gB bc (am an ((bE+1:Z):ac)) aF aL)<|kc bc aF aL:=by
 have c:bg.take (bE+1)=bg.take bE++[bc]:=by rw [h7,g];rfl
 have p:=(cN.1 g).1;have m:(bg.take bE).length=bE:=by simp;omega
 refine ⟨λs=>?_,?_⟩
 ·by_cases e:s=bc;·subst e;exact ⟨bE+1,yM s _ aF aL _,by rw [c];simp⟩
  ·obtain ⟨v,d,n⟩:=h.mem s;refine ⟨v,by rw [CF _ aF aL _ e];exact d,n.trans ?_⟩;rw [c];simp [e]
 ·rcases h.ot with ⟨d,rfl,rfl⟩ | ⟨d,q⟩;·left;have f:=OF (l:=bg.take aL) (x:=bc) i;rw [m] at f;refine ⟨?_,by rw [f.1,c],by rw [f.2];simp;omega⟩;rw [c,l9];refine ⟨d,aK,λa o b j e=>?_⟩;rw [e_] at j;subst j;subst e;exact i o
  ·right;refine ⟨λk=>d ?_,?_⟩;·rw [c,l9] at k;exact k.1
   ·have:=Jx bc (am an ((bE+1:Z):ac)) aF aL;omega
def Xj {nm s:I ar}   (h:bg[bE]? = aa s) (a:(nm::bg.take bE).contains s=ad\/gG s=aq):tp nm bg=aq:=by
 unfold tp;rcases a with a | a
 ·have c:g6 (nm::bg)=ad:=by
   have b:¬(nm::bg).Nodup:=λb=>by
    have e:nm::bg=(nm::bg.take bE)++bg.drop bE:=aK;rw [e,l9] at b;refine b.2.2 s (by simpa using a) s ?_ O;have:bg.drop bE=s::bg.drop (bE+1):=by rw [qr (cN.1 h).1,(cN.1 h).2]
    rw [this];simp
   rw [kK] at b;simpa using b
  rw [c];rfl
 ·rw [Az h a];simp
def OU (a:(bc::bg).Nodup) (b:bg.all gG=ad):tp bc bg=ad:=by unfold tp;rw [kK.1 a,b];rfl
end Go.Bw
end
section
namespace Go.Bw
open Go
structure Wm where
 data:I ac
 bn:I ac
 out:I ac
 a0:Z
 calls:Z
inductive Rz (σ α:Type) where
 | ok (a:α) (s:σ)
 | ov (e:Int) (w:Wm)
def Rz.bind {b α β:Type} (r:Rz b α) (f:α->b->Rz b β):Rz b β:=match r with| .ok a s=>f a s| .ov e w=>.ov e w
structure Fm where
 loc:I ac
 val:ac
 w:Wm
structure Env where
 l:I aI
 aN:I<|I Z
 g1:I Z
 aO:Z
def Env.mod (P:Env) (u:Z) (m:ac):Z:=(((P.aN[u]?).getD [])[m.toNat]?).getD 0
def Env.at_ (P:Env) (u:Z) (m pl:ac):Z:=(P.g1[P.mod u m]?).getD 0+pl.toNat
def ru (l:I ac) (i:Z):ac:=(l[i]?).getD 0
def mI (b:aS):ac:=if b=ad then 1 else 0
def mJ (P:Env) (w:Wm):Rz Wm ef:=if w.a0=P.aO then .ov 3 w else .ok () { w with a0:=w.a0+1 }
abbrev Ev:=I ac->Wm->Rz Wm ac
abbrev Cl:=Z->I ac->I et->Wm->Rz Wm ac
def lv (loc:I ac):I Ev->Wm->Rz Wm (I ac)| [],w=>.ok [] w| k::r,w=>(k loc w).bind λv w=>(lv loc r w).bind λvs w=>.ok (v::vs) w
def kg (ks:I Ev) (i:Z):Ev:=(ks[i]?).getD λ_ w=>.ok 0 w
def p7 (n:ac) (k:Ev) (loc:I ac) (w:Wm):Rz Wm ac:=(k loc w).bind λi w=>if (decide (i<0)||decide (n<=i))=ad then .ov 2 w else .ok i w
def qJ (P:Env) (call:Cl) (u:Z) (m pl:ac) (ks:I Ev) (loc:I ac) (w:Wm):Rz Wm ac:= match (P.l[P.mod u m]?).bind λx=>x.parts[pl.toNat]? with| aa p=>(lv loc ks w).bind λvs w=>call (P.mod u m) (vs++gb p.locals.toNat 0) p.body w| ao=>.ok 0 w
def m_ (op a b:ac) (w:Wm):Rz Wm ac:= if op=9 then .ok (an.wrap<|a+b) w else if op=10 then .ok (an.wrap<|a-b) w else if op=11 then .ok (an.wrap<|a*b) w else if op=14 then .ok (mI<|a==b) w else if op=15 then .ok (mI<|decide<|a<b) w else if b=0 then .ov 1 w else if op=12 then .ok (an.wrap<|a.tdiv b) w else .ok (a.tmod b) w
def cU (P:Env) (call:Cl) (u:Z) (op n m pl:ac) (ks:I Ev) (loc:I ac) (w:Wm):Rz Wm ac:= if op=1 then .ok n w else if op=2 then (match w.bn with| []=>.ok 0 w| x::r=>.ok x { w with bn:=r }) else if op=16 then .ok (ru loc pl.toNat) w else if op=3 then .ok (ru w.data<|P.at_ u m pl) w else if op=4 then (p7 n (kg ks 0) loc w).bind λi w=>.ok (ru w.data<|P.at_ u m<|pl+i) w else if op=5 then qJ P call u m pl ks loc w else if op=6 then (kg ks 0 loc w).bind λv w=>.ok (mI<|v==0) w else if op=7 then (kg ks 0 loc w).bind λv w=>if v=0 then .ok 0 w else (kg ks 1 loc w).bind λv w=>.ok (mI<|!(v==0)) w else if op=8 then (kg ks 0 loc w).bind λv w=>if v=0 then (kg ks 1 loc w).bind λv w=>.ok (mI<|!(v==0)) w else .ok 1 w else (kg ks 0 loc w).bind λa w=>(kg ks 1 loc w).bind λb w=>m_ op a b w
mutual
def bA (P:Env) (call:Cl) (u:Z):eC->I ac->Wm->Rz Wm ac| .mk op n m pl args,loc,w=>cU P call u op n m pl (hx P call u args) loc w
def hx (P:Env) (call:Cl) (u:Z):I eC->I Ev| []=>[]| x::r=>(λloc w=>bA P call u x loc w)::hx P call u r
end
def qK (P:Env) (call:Cl) (u:Z) (x:eC) (loc:I ac) (w:Wm):bA P call u x loc w=cU P call u x.op x.n x.m x.pl (hx P call u x.args) loc w:=by cases x;rw [bA];rfl
def JF (P:Env) (call:Cl) (u:Z):∀l,hx P call u l=l.map λx=>bA P call u x| []=>by rw [hx];rfl| x::r=>by rw [hx,JF P call u r];rfl
def Rz.fr {α:Type} (f:Fm) (r:Rz Wm α):Rz Fm α:=match r with| .ok a w=>.ok a { f with w:=w }| .ov e w=>.ov e w
def nb (P:Env) (c:Fm->Rz Fm ac) (b:Fm->Rz Fm aS):Z->Fm->Rz Fm aS| 0,f=>.ok aq f| n+1,f=>(c f).bind λv f=>if v=0 then .ok aq f else (Rz.fr f<|mJ P f.w).bind λ_ f=>(b f).bind λt f=>if t=ad then .ok ad f else nb P c b n f
def CG (v:ac) (w:Wm):Rz Wm ef:=if w.out.length=200 then .ov 5 w else .ok () { w with out:=w.out++[v] }
def qL (P:Env) (call:Cl) (u:Z) (op n m pl:ac) (ks:I Ev) (body other:Fm->Rz Fm aS) (f:Fm):Rz Fm aS:= if op=1 then (Rz.fr f<|kg ks 0 f.loc f.w).bind λv f=>if m<0 then .ok aq { f with loc:=f.loc.set pl.toNat v } else .ok aq { f with w:={ f.w with data:=f.w.data.set (P.at_ u m pl) v } } else if op=2 then (Rz.fr f<|p7 n (kg ks 0) f.loc f.w).bind λi f=>(Rz.fr f<|kg ks 1 f.loc f.w).bind λv f=>.ok aq { f with w:={ f.w with data:=f.w.data.set (P.at_ u m<|pl+i) v } } else if op=3 then (Rz.fr f<|qJ P call u m pl ks f.loc f.w).bind λ_ f=>.ok aq f else if op=4 then (Rz.fr f<|kg ks 0 f.loc f.w).bind λv f=>if v=0 then other f else body f else if op=5 then nb P (λf=>Rz.fr f<|kg ks 0 f.loc f.w) body (P.aO+1) f else if op=6 then (Rz.fr f<|kg ks 0 f.loc f.w).bind λv f=>.ok ad { f with val:=v } else if op=7 then (Rz.fr f<|kg ks 0 f.loc f.w).bind λv f=>(Rz.fr f<|CG v f.w).bind λ_ f=>.ok aq f else .ok aq f
mutual
def nc (P:Env) (call:Cl) (u:Z):et->Fm->Rz Fm aS| .mk op n m pl args body other,f=>qL P call u op n m pl (hx P call u args) (λf=>hP P call u body f) (λf=>hP P call u other f) f
def hP (P:Env) (call:Cl) (u:Z):I et->Fm->Rz Fm aS| [],f=>.ok aq f| x::r,f=>(nc P call u x f).bind λt f=>if t=ad then .ok ad f else hP P call u r f
end
def yN (P:Env) (call:Cl) (u:Z) (x:et) (f:Fm):nc P call u x f=qL P call u x.op x.n x.m x.pl (hx P call u x.args) (λf=>hP P call u x.body f) (λf=>hP P call u x.other f) f:=by cases x;rw [nc];rfl
def dE (P:Env):Z->Cl| 0,_,_,_,w=>.ok 0 w| d+1,u,loc,body,w=>(mJ P w).bind λ_ w=>if w.calls=24 then .ov 4 w else match hP P (dE P d) u body ⟨loc,0,{ w with calls:=w.calls+1 }⟩ with| .ok _ f=>.ok f.val { f.w with calls:=f.w.calls-1 }| .ov e w=>.ov e w
def mK (P:Env):I aI->Z->Wm->Rz Wm ef| [],_,w=>.ok () w| x::r,n,w=>(dE P 25 n [] x.main w).bind λ_ w=>mK P r (n+1) w
def jZ:I aI->Z->I Z| [],_=>[]| u::r,s=>s::jZ r (s+u.data.toNat)
def d':I aI->Z| []=>0| u::r=>u.data.toNat+d' r
def eF (l:I aI):I<|I Z:=(lf l.length).map λn=>n::((l[n]?.map (·.aN)).getD []).map λs=>(idxOf s (fR l) 0).getD 0
def av (l:I aI) (aO:Z):Env:=⟨l,eF l,jZ l 0,aO⟩
structure jM where
 fin:ac
 out:I ac
 data:I ac
 a0:ac
def ur:jM:=⟨0,[],[],0⟩
def yO (w:Wm) (e:ac):jM:=⟨e,w.out,w.data,(w.a0:ac)⟩
def pi (l:I aI) (bn:I ac) (a0:ac):ac:=er (lS l)<|if 64<bn.length then 2 else if (decide (a0<0)||decide (2000<a0))=ad then 3 else 0
def ny (l:I aI) (bn:I ac) (aO:Z):jM:=match mK (av l aO) l 0 ⟨gb (d' l) 0,bn,[],0,0⟩ with| .ok _ w=>yO w 0| .ov e w=>yO w e
end Go.Bw
end
section
namespace Go.Bw
open Go
structure lw (l:I aI):Prop where
 fH:1<=l.length/\l.length<=4
 ahead:uy l=ad
 nd:(fR l).Nodup
 data:c_ l 512=ad
 oF:∀u ∈ l,jY u (fV l u)=ad
variable {df:I aI}
def uJ:lS df=0↔lw df:=by
 unfold lS;constructor
 ·intro h;split at h;·cases h
  ·rename_i b;split at h;·cases h
   ·rename_i c;split at h;·cases h
    ·rename_i d;split at h;·cases h
     ·rename_i e;split at h;·rename_i f;refine ⟨by simp at b;omega,by simpa using c,kK.2 (by simpa using d),by simpa using e,λu a=>gA.1 f u a⟩
      ·cases h
 ·intro h;have:=h.fH;rw [aj (by simp;omega),aj (by rw [h.ahead];decide),aj (by rw [kK.1 h.nd];decide),aj (by rw [h.data];decide),aD<|gA.2 λu a=>h.oF u a]
variable {bE:Z} {eA:aI}
def FR (c:lw df)   (d:df[bE]? = aa eA) {s:I ar} (i:s ∈ eA.aN):∃p z,idxOf s (fR df) 0=aa p/\p<bE/\df[p]? = aa z:=by
 have k:=(cN.1 d).1;have f:=gA.1 c.ahead bE<|yb.2 k;rw [d] at f;have g:s ∈ (fR df).take bE:=by simpa using gA.1 f s i
 cases h:idxOf s (fR df) 0 with
 | none=>exact absurd (BX g)<|sd.1 h
 | some p=>
  obtain ⟨j,a⟩:=jd g;rw [jF] at a;split at a
  ·rename_i m;have b:=(se h).2;rw [qp] at b;have l:=(cN.1 b).1;have e:p=j:=(ib l c.nd).1<|b.trans a.symm;have n:(fR df).length=df.length:=by simp [fR]
   exact ⟨p,_,O,ai,cy ai⟩
  ·cases a
def yP (a:df[bE]? = aa eA):(eF df)[bE]? = aa (bE::eA.aN.map λs=>(idxOf s (fR df) 0).getD 0):=by have b:=(cN.1 a).1;unfold eF;rw [fp,MF b];simp [a]
def OV (h:lw df)   (c:df[bE]? = aa eA) {b:Z} {k:e7} (a:(ec eA::fV df eA)[b]? = aa k) : ∃j z,(bE::eA.aN.map λs=>(idxOf s (fR df) 0).getD 0)[b]? = aa j/\df[j]? = aa z/\k=ec z:=by cases b with| zero=>simp at a;exact ⟨bE,eA,rfl,c,a.symm⟩| succ q=>simp only [lh] at a ⊢;unfold fV at a;rw [fp] at a;obtain ⟨s,d,e⟩:=eQ.1 a;obtain ⟨p,z,f,_,g⟩:=FR h c<|aW d;refine ⟨p,z,by rw [fp,d];simp [f],g,?_⟩;rw [f] at e;dsimp only at e;rw [g] at e;exact e.symm
def OW:∀{l:I aI} {s j:Z} {z:aI},l[j]? = aa z->∃b,(jZ l s)[j]? = aa b/\b+z.data.toNat<=s+d' l| [],_,_,_,h=>by simp at h| x::r,s,0,z,h=>by simp at h;subst h;exact ⟨s,O,by simp only [d'];omega⟩| x::r,s,j+1,z,h=>by obtain ⟨b,a,c⟩:=OW (l:=r) (s:=s+x.data.toNat) (j:=j) (by simpa using h);exact ⟨b,by simp only [jZ,lh];exact a,by simp only [d'];omega⟩
variable {az b' j1:ac}
def AF (n:lw df) (aO:Z)   (d:df[bE]? = aa eA)  (h:ls (ec eA::fV df eA) az b' j1=ad) (r:0<=j1) :
   ∃(a j b p:Z),az=a/\b'=p/\(bE::eA.aN.map λs=>(idxOf s (fR df) 0).getD 0)[a]? = aa j/\(jZ df 0)[j]? = aa b/\b+p+j1.toNat<=d' df/\(av df aO).mod bE az=j/\(∀i:Z,(av df aO).at_ bE az ((p+i:Z):ac)=b+(p+i)):=by
 cases c:oD (ec eA::fV df eA) az b' with
 | true=>rw [Cx j1 c] at h;cases h
 | false=>
  obtain ⟨⟨a,rfl,o⟩,t,u⟩:=Cy c;obtain ⟨k,e⟩:=bk o;obtain ⟨j,z,f,q,rfl⟩:=OV n d e;rw [w9 c e,aD<|show (ec z).p1=ad from rfl] at h;have v:b'+j1<=z.data:=vu h;obtain ⟨b,g,w⟩:=OW (l:=df) (s:=0) q;have m:(av df aO).mod bE (a:ac)=j:=by unfold Env.mod;show (((eF df)[bE]?.getD [])[((a:Z):ac).toNat]?).getD 0=j;rw [yP d,ku];show ((bE::eA.aN.map λs=>(idxOf s (fR df) 0).getD 0)[a]?).getD 0=j;rw [f];rfl
  refine ⟨a,j,b,b'.toNat,O,ai,f,g,ai,m,λi=>?_⟩;unfold Env.at_;rw [m];show ((jZ df 0)[j]?).getD 0+_=_;rw [g,ku];rfl
def CH (i:lw df) (aO:Z)   (c:df[bE]? = aa eA)  (h:k4 (ec eA::fV df eA) az b' j1=ad) :
   ∃(a j q:Z) (z:aI) (p:b3),az=a/\b'=q/\(bE::eA.aN.map λs=>(idxOf s (fR df) 0).getD 0)[a]? = aa j/\df[j]? = aa z/\z.parts[q]? = aa p/\p.params=j1/\(av df aO).mod bE az=j:=by
 cases b:n0 (ec eA::fV df eA) az b' with
 | true=>rw [Cz j1 b] at h;cases h
 | false=>
  obtain ⟨⟨a,rfl,l⟩,q,rfl⟩:=CA b;obtain ⟨k,d⟩:=bk l;obtain ⟨j,z,e,m,rfl⟩:=OV i c d;rw [ux b d,aD<|show (ec z).p1=ad from rfl] at h;obtain ⟨n,o⟩:=bz.1 h;have r:(ec z).parts.length=z.parts.length:=by simp [ec]
  have f:q<z.parts.length:=by have:=vu n;omega
  refine ⟨a,j,q,z,z.parts[q],O,O,e,m,cy f,?_,?_⟩;·have g:=eq_of_beq o;rw [ku,show (ec z).parts=z.parts.map (·.params) from rfl,fp,cy f] at g;exact g
  ·unfold Env.mod;show (((eF df)[bE]?.getD [])[((a:Z):ac).toNat]?).getD 0=j;rw [yP c,ku];show ((bE::eA.aN.map λs=>(idxOf s (fR df) 0).getD 0)[a]?).getD 0=j;rw [e];rfl
variable {kM:I e7}
def iD (h:jY eA kM=ad):(∀p ∈ eA.parts,nw (ec eA::kM) p=ad)/\bX (ec eA::kM) 0 eA.main 1=ad/\p2 eA=aq/\tp eA.nm eA.aN=ad:=by unfold jY at h;obtain ⟨c,a⟩:=bz.1 h;obtain ⟨a,b⟩:=bz.1 a;obtain ⟨b,d⟩:=bz.1 b;exact ⟨λp e=>gA.1 b p e,d,by simpa using a,c⟩
def yQ {p:b3} (h:nw kM p=ad):0<=p.params/\p.params<=3/\0<=p.locals/\p.locals<=4/\bX kM (p.params+p.locals) p.body 1=ad:=by
 unfold nw at h;obtain ⟨a,b⟩:=bz.1 h;have a:(((decide (p.params<0)||decide (3<p.params))||decide (p.locals<0))||decide (4<p.locals))=aq:=by simpa using a
 simp only [kG,mC] at a;exact ⟨ai,ai,ai,ai,b⟩
def JG:∀{l:I aI} {a:ac},c_ l a=ad->(∀u ∈ l,0<=u.data)/\(d' l:ac)<=a\/l=[]
 | [],_,_=>be rfl
 | u::r,a,h=>by
  unfold c_ at h;obtain ⟨b,c⟩:=bz.1 h;have b:(decide (u.data<0)||decide (a<u.data))=aq:=by simpa using b
  simp only [kG,mC] at b;left;rcases JG c with ⟨d,e⟩ | rfl
  ·refine ⟨λv hv=>?_,by simp only [d'];omega⟩;rcases eR.1 hv with rfl | hv;·omega
   ·exact d v hv
  ·refine ⟨λv hv=>?_,by simp only [d'];omega⟩;rw [e_] at hv;subst hv;omega
open Go.ChangeShapes Go.WideShapes Go.ChangeAt Go.RowKit Go.Joins Go.Deep
mutual
def kh:eC->Z| .mk _ _ _ _ args=>1+jn args
def jn:I eC->Z| []=>0| x::r=>kh x+jn r
end
mutual
def tt:et->Z| .mk _ _ _ _ args body other=>1+jn args+ki body+ki other
def ki:I et->Z| []=>0| x::r=>tt x+ki r
end
def AG (p:b3):Z:=1+ki p.body
def nz:I b3->Z| []=>0| p::r=>AG p+nz r
def vK (u:aI):Z:=1+u.nm.length+wN u.aN+nz u.parts+ki u.main
def CI (n:Z) (a:View) (b o:Z) (u:aI):Prop:=∃r:p0,cB a b o (ij u r)/\dY n n a r u
structure ahU (P:Program) (tN tA tP tU JJ CJ At w3:TypeId) (e s p m:Array Field) (tI tT:TypeId):Prop where
 uI:P.underlying tI=some (.int .i64)
 uT:P.underlying tT=some .string
 cT:P.cellsOf tT=1
 uN:P.underlying tN=some (.struct e)
 rN:(r8 P 0 e.toList&&Nat.beq (P.cellsOf tN) e.size)=true
 fN:e.map (·.type) = #[tI,tI,tI,tI,JJ]
 aif:P.underlying JJ=some (.slice tN)
 uA:P.underlying tA=some (.struct s)
 rA:(r8 P 0 s.toList&&Nat.beq (P.cellsOf tA) s.size)=true
 fA:s.map (·.type) = #[tI,tI,tI,tI,JJ,CJ,CJ]
 aig:P.underlying CJ=some (.slice tA)
 uP:P.underlying tP=some (.struct p)
 rP:(r8 P 0 p.toList&&Nat.beq (P.cellsOf tP) p.size)=true
 fP:p.map (·.type) = #[tI,tI,CJ]
 WK:P.underlying At=some (.slice tP)
 ahA:P.underlying w3=some (.slice tT)
 uU:P.underlying tU=some (.struct m)
 rU:(r8 P 0 m.toList&&Nat.beq (P.cellsOf tU) m.size)=true
 fU:m.map (·.type) = #[tT,w3,tI,At,CJ]
end Go.Bw
end
section
namespace Go.Bw
open Go
structure cK where
 op:ac
 a:ac
 b:ac
structure ho where
 at_:ac
 kind:ac
 m:ac
structure Gs where
 code:I cK
 fix:I ho
abbrev Gk:=Gs->Gs
def dg (l:I cK) (g:Gs):Gs:={ g with code:=g.code++l }
def dk (i:cK) (kind m:ac) (g:Gs):Gs:=⟨g.code++[i],g.fix++[⟨(g.code.length:ac),kind,m⟩]⟩
def eT (n:Z) (g:Gs):Gs:={ g with code:=g.code.modify n λi=>{ i with a:=(g.code.length:ac) } }
def hQ (ks:I Gk) (i:Z):Gk:=(ks[i]?).getD id
def oG (ks:I Gk) (g:Gs):Gs:=ks.foldl (λg k=>k g) g
def xc (c k1:Gk) (g:Gs):Gs:=
 let a:=c g
 let b:=dg [⟨22,0,0⟩]<|k1<|dk ⟨12,0,0⟩ 1 0 a
 eT b.code.length<|dg [⟨1,0,0⟩]<|eT a.code.length<|dk ⟨11,0,0⟩ 1 0 b
def xd (c k1:Gk) (g:Gs):Gs:=
 let a:=c g
 let b:=dg [⟨1,1,0⟩]<|dk ⟨12,0,0⟩ 1 0 a
 eT b.code.length<|dg [⟨22,0,0⟩]<|k1<|eT a.code.length<|dk ⟨11,0,0⟩ 1 0 b
def im (op n m pl:ac) (ks:I Gk) (g:Gs):Gs:= if op=1 then dg [⟨1,n,0⟩] g else if op=2 then dg [⟨18,0,0⟩] g else if op=16 then dg [⟨2,pl,0⟩] g else if op=3 then dk ⟨4,pl,0⟩ 3 m g else if op=4 then dg [⟨7,0,0⟩] (dk ⟨6,pl,n⟩ 3 m<|hQ ks 0 g) else if op=5 then dk ⟨13,pl,0⟩ 2 m (oG ks g) else if op=7 then xc (hQ ks 0) (hQ ks 1) g else if op=8 then xd (hQ ks 0) (hQ ks 1) g else if op=6 then dg [⟨9,0,0⟩] (oG ks g) else dg [⟨10,op,0⟩] (oG ks g)
mutual
def fk:eC->Gs->Gs| .mk op n m pl args,g=>im op n m pl (e4 args) g
def e4:I eC->I Gk| []=>[]| x::r=>(λg=>fk x g)::e4 r
end
def uC (x:eC) (g:Gs):fk x g=im x.op x.n x.m x.pl (e4 x.args) g:=by cases x;rw [fk];rfl
def vL:∀l,e4 l=l.map fk| []=>by rw [e4];rfl| x::r=>by rw [e4,vL r];rfl
def rx (l:I eC) (g:Gs):Gs:=l.foldl (λg x=>fk x g) g
def pF (l:I eC) (g:Gs):oG (e4 l) g=rx l g:=by rw [vL];unfold oG rx;rw [I.foldl_map]
variable {jX:I eC} {bE:Z} {ft:eC}
def Xk (h:jX[bE]? = aa ft) (g:Gs):rx (jX.take<|bE+1) g=fk ft (rx (jX.take bE) g):=by unfold rx;rw [h7,h];simp
def vM (c body other:Gk) (d:Z) (g:Gs):Gs:=
 let a:=c g
 let b:=body<|dk ⟨12,0,0⟩ 1 0 a
 if 0<d then eT b.code.length (other<|eT a.code.length<|dk ⟨11,0,0⟩ 1 0 b) else eT a.code.length b
def yR (b body:Gk) (g:Gs):Gs:=
 let a:=b g
 eT a.code.length<|dk ⟨11,(g.code.length:ac),0⟩ 1 0<|body<|dg [⟨16,0,0⟩]<|dk ⟨12,0,0⟩ 1 0 a
def jo (op n m pl:ac) (ks:I Gk) (body other:Gk) (a:Z) (g:Gs):Gs:= if op=1 then (if m<0 then dg [⟨3,pl,0⟩] (hQ ks 0 g) else dk ⟨5,pl,0⟩ 3 m (hQ ks 0 g)) else if op=2 then dg [⟨8,0,0⟩] (hQ ks 1<|dk ⟨6,pl,n⟩ 3 m<|hQ ks 0 g) else if op=3 then dg [⟨17,0,0⟩] (dk ⟨13,pl,0⟩ 2 m<|oG ks g) else if op=4 then vM (hQ ks 0) body other a g else if op=5 then yR (hQ ks 0) body g else if op=6 then dg [⟨15,0,0⟩] (hQ ks 0 g) else if op=7 then dg [⟨19,0,0⟩] (hQ ks 0 g) else g
mutual
def mf:et->Gs->Gs| .mk op n m pl args body other,g=>jo op n m pl (e4 args) (λg=>ff body g) (λg=>ff other g) other.length g
def ff:I et->Gs->Gs| [],g=>g| x::r,g=>ff r<|mf x g
end
def vN (x:et) (g:Gs):mf x g=jo x.op x.n x.m x.pl (e4 x.args) (λg=>ff x.body g) (λg=>ff x.other g) x.other.length g:=by cases x;rw [mf];rfl
def OY:∀(a b:I et) (g:Gs),ff (a++b) g=ff b (ff a g)| [],b,g=>by rw [ff];rfl| x::r,b,g=>by rw [ix,ff,OY r b,ff]
variable {gK:I et} {rQ:et}
def Xl (h:gK[bE]? = aa rQ) (g:Gs):ff (gK.take<|bE+1) g=mf rQ (ff (gK.take bE) g):=by rw [h7,h];show ff (gK.take bE++[rQ]) g=_;rw [OY,ff,ff]
def kL (params locals:ac) (body:I et) (g:Gs):Gs:=dg [⟨1,0,0⟩,⟨15,0,0⟩]<|ff body<|dg [⟨14,params,locals⟩] g
def fC:I b3->Gs->I Z×Gs| [],g=>([],g)| p::r,g=>(g.code.length::(fC r<|kL p.params p.locals p.body g).1,(fC r<|kL p.params p.locals p.body g).2)
def JK:∀(a:I b3) (p:b3) (g:Gs),fC (a++[p]) g=((fC a g).1++[(fC a g).2.code.length],kL p.params p.locals p.body (fC a g).2)| [],p,g=>rfl| x::r,p,g=>by rw [ix,fC,JK r p];rfl
structure tu where
 nm:I ar
 aN:I<|I ar
 data:ac
 g:Gs
 ge:I Z
 main:Z
def CL:tu:=⟨[],[],0,⟨[],[]⟩,[],0⟩
def ry (u:aI):aS:=jY u<|gb u.aN.length nZ
def fo (u:aI):tu:=
 let r:=fC u.parts ⟨[],[]⟩
 ⟨u.nm,u.aN,u.data,kL 0 0 u.main r.2,r.1,r.2.code.length⟩
def bI (u:aI):tu×ac:=if ry u=aq then (CL,1) else if 2048<(fo u).g.code.length then (CL,2) else (fo u,0)
structure GL (c:Z) (g g':Gs):Prop where
 lo:g.code.length<=g'.code.length
 hi:g'.code.length<=g.code.length+c
 JL:g.fix.length<=g'.fix.length
 j0:g'.fix.length<=g.fix.length+c
def GL.refl (c:Z) (g:Gs):GL c g g:=⟨c7 _,Ey _ _,c7 _,Ey _ _⟩
variable {aL:Z}
def GL.trans {g a b:Gs} (h:GL bE g a) (k:GL aL a b):GL (bE+aL) g b:=⟨pG h.lo k.lo,by have:=h.hi;have:=k.hi;omega,pG h.JL k.JL,by have:=h.j0;have:=k.j0;omega⟩
def GL.mono {g a:Gs} (h:GL bE g a) (b:bE<=aL):GL aL g a:=⟨h.lo,by have:=h.hi;omega,h.JL,by have:=h.j0;omega⟩
def dj (l:I cK) (g:Gs):GL l.length g<|dg l g:=⟨by simp [dg],by simp [dg],c7 _,Ey _ _⟩
def p8 (i:cK) (k m:ac) (g:Gs):GL 1 g<|dk i k m g:=⟨by simp [dk],by simp [dk],by simp [dk],by simp [dk]⟩
def xe (n:Z) (g:Gs):GL 0 g<|eT n g:=⟨by simp [eT],by simp [eT],c7 _,c7 _⟩
def JM {ks:I Gk} {cs:I Z} (h:ks.length=cs.length) (d:∀(i:Z) k c,ks[i]? = aa k->cs[i]? = aa c->∀g,GL c g (k g)):∀g,GL cs.sum g (oG ks g):=by
 induction ks generalizing cs with
 | nil=>intro g;cases cs with| nil=>exact .refl _ _| cons c r=>cases h
 | cons k r e=>intro g;cases cs with| nil=>cases h| cons c f=>have j:=d 0 k c rfl rfl g;have l:=e (cs:=f) (by simpa using h) (λi m n a b=>d (i+1) m n (by simpa using a) (by simpa using b))<|k g;exact j.trans l
def FT {ks:I Gk} {cs:I Z} (h:ks.length=cs.length) (b:∀(i:Z) k c,ks[i]? = aa k->cs[i]? = aa c->∀g,GL c g (k g)) (i:Z):∀g,GL ((cs[i]?).getD 0) g (hQ ks i g):=λg=>by unfold hQ;cases hi:ks[i]? with| none=>exact .refl _ _| some k=>have d:=(cN.1 hi).1;obtain ⟨c,a⟩:∃c,cs[i]? = aa c:=⟨_,cy (by omega)⟩;rw [a];exact b i k c hi a g
def OZ:∀(cs:I Z),(cs[0]?).getD 0+(cs[1]?).getD 0<=cs.sum| []=>by simp| [a]=>by simp| a::b::r=>by simp only [mB,lh,o1,Ez];omega
mutual
def pj:∀(x:eC) (g:Gs),GL (8*kh x) g (fk x g)
 | .mk op n m pl args,g=>by
  rw [fk];have b:=FU args;have c:(e4 args).length=(args.map λx=>8*kh x).length:=by rw [vL];simp
  have f:(args.map λx=>8*kh x).sum=8*jn args:=FV args;have a:=JM c b;have d:=FT c b 0;have e:=FT c b 1;have h:=OZ<|args.map λx=>8*kh x;rw [f] at a h;have i:kh (.mk op n m pl args)=1+jn args:=by rw [kh]
  rw [i];unfold im;split;·exact (dj _ g).mono (by simp only [gj,jS];omega)
  ·split;·exact (dj _ g).mono (by simp only [gj,jS];omega)
   ·split;·exact (dj _ g).mono (by simp only [gj,jS];omega)
    ·split;·exact (p8 _ _ _ g).mono ai
     ·split;·exact (((d g).trans<|p8 _ _ _ _).trans<|dj _ _).mono (by simp only [gj,jS];omega)
      ·split;·exact ((a g).trans<|p8 _ _ _ _).mono ai
       ·split;·unfold xc;exact (((((((d g).trans<|p8 _ _ _ _).trans<|e _).trans<|dj _ _).trans<|p8 _ _ _ _).trans<|xe _ _).trans (dj _ _) |>.trans (xe _ _)).mono (by simp only [gj,jS];omega)
        ·split;·unfold xd;exact (((((((d g).trans<|p8 _ _ _ _).trans<|dj _ _).trans<|p8 _ _ _ _).trans<|xe _ _).trans<|e _).trans (dj _ _) |>.trans (xe _ _)).mono (by simp only [gj,jS];omega)
         ·split;·exact ((a g).trans<|dj _ _).mono (by simp only [gj,jS];omega)
          ·exact ((a g).trans<|dj _ _).mono (by simp only [gj,jS];omega)
def FU:∀(l:I eC) (i:Z) k c,(e4 l)[i]? = aa k->(l.map λx=>8*kh x)[i]? = aa c->∀g,GL c g (k g)| [],i,k,c,h,_,g=>by rw [e4] at h;simp at h| x::r,0,k,c,h,a,g=>by rw [e4] at h;simp at h a;subst h a;exact pj x g| x::r,i+1,k,c,h,a,g=>by rw [e4] at h;exact FU r i k c (by simpa using h) (by simpa using a) g
def FV:∀(l:I eC),(l.map λx=>8*kh x).sum=8*jn l| []=>by simp [jn]| x::r=>by rw [nt,Ez,FV r,jn];omega
end
mutual
def Xm:∀(x:et) (g:Gs),GL (8*tt x) g (mf x g)
 | .mk op n m pl args body other,g=>by
  rw [mf];have b:=FU args;have c:(e4 args).length=(args.map λx=>8*kh x).length:=by rw [vL];simp
  have e:=JM c b;have a:=FT c b 0;have f:=FT c b 1;have h:=OZ<|args.map λx=>8*kh x;rw [FV] at e h;have d:=vO body;have i:=vO other;have j:tt (.mk op n m pl args body other)=1+jn args+ki body+ki other:=by rw [tt]
  rw [j];unfold jo;split
  ·split;·exact ((a g).trans<|dj _ _).mono (by simp only [gj,jS];omega)
   ·exact ((a g).trans<|p8 _ _ _ _).mono ai
  ·split;·exact ((((a g).trans<|p8 _ _ _ _).trans<|f _).trans<|dj _ _).mono (by simp only [gj,jS];omega)
   ·split;·exact (((e g).trans<|p8 _ _ _ _).trans<|dj _ _).mono (by simp only [gj,jS];omega)
    ·split
     ·unfold vM;dsimp only;split;·exact ((((((a g).trans<|p8 _ _ _ _).trans<|d _).trans<|p8 _ _ _ _).trans<|xe _ _).trans (i _) |>.trans (xe _ _)).mono ai
      ·exact ((((a g).trans<|p8 _ _ _ _).trans<|d _).trans<|xe _ _).mono ai
     ·split;·unfold yR;exact ((((((a g).trans<|p8 _ _ _ _).trans<|dj _ _).trans<|d _).trans<|p8 _ _ _ _).trans<|xe _ _).mono (by simp only [gj,jS];omega)
      ·split;·exact ((a g).trans<|dj _ _).mono (by simp only [gj,jS];omega)
       ·split;·exact ((a g).trans<|dj _ _).mono (by simp only [gj,jS];omega)
        ·exact .refl _ _
def vO:∀(l:I et) (g:Gs),GL (8*ki l) g (ff l g)| [],g=>by rw [ff];exact .refl _ _| x::r,g=>by rw [ff,ki];exact ((Xm x g).trans<|vO r _).mono ai
end
def Xn (pa lo:ac) (b:I et) (g:Gs):GL (8*(1+ki b)) g<|kL pa lo b g:=by unfold kL;exact (((dj _ g).trans<|vO b _).trans<|dj _ _).mono (by simp only [gj,jS];omega)
def FW:∀(l:I b3) (g:Gs),GL (8*nz l) g (fC l g).2/\(fC l g).1.length=l.length| [],g=>⟨.refl _ _,rfl⟩| p::r,g=>by have a:=FW r<|kL p.params p.locals p.body g;refine ⟨?_,by simp [fC,a.2]⟩;rw [fC,nz];exact ((Xn p.params p.locals p.body g).trans a.1).mono (by unfold AG;omega)
section
variable {P:dJ} {ops:bH cg} {Q:di->cY->aP->Prop} {n:Z} {ds:I fw} {l:I<|Z×aR} {w0:aP} {F:I Z} {L:I bh} {Vs:I View} {rest:I cg} {ty:cn} {pos:fO} {af:bH fY} {g:aA<|Z×aS} {d:Z}
def WL.Xo {ι:Type} {f:FuncId} {c:ei} {k:bH aR} {args:bH ei} {ts:bH cn} {vs:I aR} (a L2:I bh) (o:eS ops l g) (p:e' d n=ad) (q:Enters P f) (r:b9 l c=aa (.func (.func f) #[] k)) (s:h' l args.toList=aa vs) (hL:L=a++L2) (v:ι->aR) (b:ι->I bh) (R:ι->Prop) (cI:I View) (t:∀u ∈ cI,u ∈ Vs) (hC:∀w,Ws w (a.flatMap bh.ids) a cI w->cx P f (vs.toArray++k) w λe m=>∃i,e = cf (v i)/\R i/\Ws w (a.flatMap bh.ids) (b i) cI m) (x:∀i,R i->WL P ops Q n ds ((d,v i)::l) (Ws w0 F (b i++L2) Vs) rest) : WL P ops Q n ds l (Ws w0 F L Vs)<|⟨aa d,.call ⟨.value c,args,ts⟩,ty,pos,af,g⟩::rest:= WL.VO (κ:=Empty) a L2 o p q r s hL v b R (λ_=>[]) (λ_=>[]) (λ_=>False) cI t (λw y=>(hC w y).mono λe m h=>bB h) (λj=>nomatch j) x
end
def cK.cells (x:cK):I aR:=[am an x.op,am an x.a,am an x.b]
def cK.dR (x:cK):x.cells.length=3:=rfl
def cK.one (x:cK):x.cells.all (·.oneCell')=ad:=rfl
def kj (a:View) (b o:Z) (x:cK):Prop:=cB a b o x.cells
def ho.cells (x:ho):I aR:=[am an x.at_,am an x.kind,am an x.m]
def ho.dR (x:ho):x.cells.length=3:=rfl
def ho.one (x:ho):x.cells.all (·.oneCell')=ad:=rfl
def O0 (a:View) (b o:Z) (x:ho):Prop:=cB a b o x.cells
structure rz where
 nm:I ar
 v1:aR
 data:ac
 v5:aR
 v6:aR
structure pk where
 g:Gs
 ca:aA a6×Z
 fa:aA a6×Z
def iJ (T:cn) (a:rz) (t:pk):Obj:=aY #[st a.nm,a.v1,am an a.data,aE t.ca.1 t.g.code.length t.ca.2,aE t.fa.1 t.g.fix.length t.fa.2,a.v5,a.v6] T (0,0)
abbrev jz (T a b:cn) (c:Z) (d:rz) (t:pk):I bh:=[aQ c<|iJ T d t,cQ a 3 cK.cells t.ca.1 t.ca.2 t.g.code,cQ b 3 ho.cells t.fa.1 t.fa.2 t.g.fix]
def oH (h:jX[bE]? = aa ft):hQ (e4 jX) bE=fk ft:=by unfold hQ;rw [vL,fp,h];rfl
def AH:∀{l:I eC} {i:Z} {x:eC},l[i]? = aa x->jn (l.take<|i+1)=jn (l.take i)+kh x/\jn (l.take<|i+1)<=jn l| [],_,_,h=>by simp at h| y::r,0,x,h=>by simp at h;subst h;simp [jn]| y::r,i+1,x,h=>by obtain ⟨a,b⟩:=AH (l:=r) (i:=i) (by simpa using h);simp only [qq,jn];omega
def O1:∀{l:I et} {i:Z} {x:et},l[i]? = aa x->ki (l.take<|i+1)=ki (l.take i)+tt x/\ki (l.take<|i+1)<=ki l| [],_,_,h=>by simp at h| y::r,0,x,h=>by simp at h;subst h;simp [ki]| y::r,i+1,x,h=>by obtain ⟨a,b⟩:=O1 (l:=r) (i:=i) (by simpa using h);simp only [qq,ki];omega
def FX (l:I eC) (g:Gs):GL (8*jn l) g<|rx l g:=by
 have a:(e4 l).length=(l.map λx=>8*kh x).length:=by rw [vL];simp
 have h:=JM a (FU l) g;rw [pF,FV] at h;exact h
def Xp (x:eC):kh x=1+jn x.args:=by cases x;rw [kh];rfl
def Xq (x:et):tt x=1+jn x.args+ki x.body+ki x.other:=by cases x;rw [tt];rfl
variable {yX:cK}
def Xr {l:I cK}   (f:cK->cK) (h:l[bE]? = aa yX):l.modify bE f=l.set bE (f yX):=by
 apply r0;intro i;rw [vp,eu];by_cases e:bE=i;·subst e;obtain ⟨a,b⟩:=cN.1 h;simp [a,b]
 ·simp [e]
def ahG {g:Gs}  (h:g.code[bE]? = aa yX):eT bE g = { g with code:=g.code.set bE ⟨yX.op,(g.code.length:ac),yX.b⟩ }:=by unfold eT;rw [Xr _ h]
variable {kM:I e7} {az b' j1 bV iQ:ac}
def O2 (h:node1 kM az b' j1 bV iQ bE=ad):(b'=4\/b'=6->bE=1)/\(7<=b'/\b'<=15->bE=2)/\1<=b'/\b'<=16:=by
 unfold node1 at h;split at h;·subst_vars;omega
 ·split at h;·subst_vars;omega
  ·split at h;·subst_vars;simp at h;omega
   ·split at h;·subst_vars;omega
    ·split at h;·subst_vars;omega
     ·split at h;·subst_vars;omega
      ·split at h;·subst_vars;simp at h;omega
       ·split at h;·simp at h;omega
        ·cases h
def O3 {na a b:Z} (h:gC kM az b' j1 bV iQ na a b=ad):(b'=1\/b'=4\/b'=5\/b'=6\/b'=7->na=1)/\(b'=2->na=2)/\1<=b'/\b'<=7:=by
 unfold gC at h;split at h;·subst_vars;simp at h;omega
 ·split at h;·subst_vars;simp at h;omega
  ·split at h;·subst_vars;omega
   ·split at h;·subst_vars;simp at h;omega
    ·split at h;·subst_vars;simp at h;omega
     ·split at h;·simp at h;omega
      ·cases h
def AI (x:eC):Prop:=∃kn aX d,k5 kn aX x d=ad
def AJ (l:I eC):Prop:=∃kn aX d,hZ kn aX l d=ad
def FY (x:et):Prop:=∃kn aX d,lR kn aX x d=ad
def uG (l:I et):Prop:=∃kn aX d,g8 kn aX l d=ad
def AJ.at_ (h:AJ jX)   (a:jX[bE]? = aa ft):AI ft:=by obtain ⟨kn,aX,d,h⟩:=h;rw [CB] at h;exact ⟨kn,aX,d,gA.1 h ft<|aW a⟩
def AI.args (h:AI ft):AJ ft.args/\(ft.op=4\/ft.op=6->ft.args.length=1)/\(7<=ft.op/\ft.op<=15->ft.args.length=2)/\1<=ft.op/\ft.op<=16:=by obtain ⟨kn,aX,d,h⟩:=h;rw [Jl] at h;obtain ⟨_,h⟩:=bz.1 h;obtain ⟨a,b⟩:=bz.1 h;exact ⟨⟨kn,aX,_,b⟩,O2 a⟩
def uG.at_ (h:uG gK)   (a:gK[bE]? = aa rQ):FY rQ:=by obtain ⟨kn,aX,d,h⟩:=h;rw [FL] at h;exact ⟨kn,aX,d,gA.1 h rQ<|aW a⟩
def FY.parts (h:FY rQ):AJ rQ.args/\(rQ.op=4\/rQ.op=5->uG rQ.body)/\uG rQ.other/\(rQ.op=1\/rQ.op=4\/rQ.op=5\/rQ.op=6\/rQ.op=7->rQ.args.length=1)/\(rQ.op=2->rQ.args.length=2)/\1<=rQ.op/\rQ.op<=7:=by
 obtain ⟨kn,aX,d,h⟩:=h;rw [Jm] at h;obtain ⟨e,h⟩:=bz.1 h;obtain ⟨f,h⟩:=bz.1 h;obtain ⟨b,c⟩:=bz.1 h;refine ⟨⟨kn,aX,_,f⟩,λg=>?_,?_,O3 e⟩
 ·have:tn rQ.op=ad:=by unfold tn;simpa using g
  rw [this] at b;have a:bX kn aX rQ.body (d+1)=ad:=by simpa using b
  unfold bX at a;exact ⟨kn,aX,d+1,(bz.1 (bz.1 a).2).2⟩
 ·by_cases i:0<rQ.other.length
  ·rw [jG i] at c;have a:bX kn aX rQ.other (d+1)=ad:=by simpa using c
   unfold bX at a;exact ⟨kn,aX,d+1,(bz.1 (bz.1 a).2).2⟩
  ·have:rQ.other=[]:=s' ai;rw [this];exact ⟨kn,aX,d,by rw [g8]⟩
def O4 {α:Type} {f:α->I aR} {x:α} {zs:bH aR} (h:zs.toList=f x) (j:0<(f x).length) (k:Z):madeCells zs (k*(f x).length)=((gb k x).flatMap f).toArray:=by
 apply wJ;simp only [madeCells];have l:zs.size=(f x).length:=by rw [<-h];simp
 have c:((gb k x).flatMap f).length=k*(f x).length:=by induction k with| zero=>simp| succ k b=>rw [EA,lK,iy,b,H4];omega
 apply I.ext_getElem;·simp [c]
 ·intro i n d;simp;have key:∀(k i:Z) (hi:i<k*(f x).length),((gb k x).flatMap f)[i]? = (f x)[i % (f x).length]?:=by
   intro k;induction k with
   | zero=>intro i hi;omega
   | succ k b=>
    intro i hi;rw [EA,lK,Mx];split;·rename_i m;rw [Z.mod_eq_of_lt m]
    ·rename_i o;rw [H4] at hi;rw [b (i-(f x).length) ai,<-Z.mod_eq_sub_mod ai]
  have hi:i<k*(f x).length:=by rw [<-c];exact d
  have a:=key k i hi;have e:=HV i j;rw [cy d,cy e] at a;injection a with a;rw [a];have g:zs[i % zs.size]? = (f x)[i % (f x).length]?:=by rw [l,<-h];simp
  rw [cy e] at g;rw [getElem!_def,g]
def si:(∀i k m g,(dk i k m g).code.length=g.code.length+1)/\(∀i k m g,(dk i k m g).fix.length=g.fix.length+1)/\(∀l g,(dg l g).code.length=g.code.length+l.length)/\(∀l g,(dg l g).fix.length=g.fix.length)/\(∀n g,(eT n g).code.length=g.code.length)/\(∀n g,(eT n g).fix.length=g.fix.length)/\(∀(x:cK) l,(x::l).length=l.length+1)/\([]:I cK).length=0:=by refine ⟨λ_ _ _ _=>?_,λ_ _ _ _=>?_,λ_ _=>?_,λ_ _=>rfl,λ_ _=>?_,λ_ _=>rfl,λ_ _=>rfl,O⟩<;>simp [dk,dg,eT]
def ly (x:Z):I aR:=[am an (x:ac)]
def AK (x:Z):(ly x).length=1:=rfl
def sj (a:View) (b o:Z) (x:Z):Prop:=cB a b o<|ly x
structure eG where
 s1:aA a6×Z
 s2:aA a6×Z
 s3:aA a6×Z
 s4:aA a6×Z
def JN (o:tu) (q:eG):I aR:=[st o.nm,aE q.s1.1 o.aN.length q.s1.2,am an o.data,aE q.s2.1 o.g.code.length q.s2.2,aE q.s3.1 o.g.fix.length q.s3.2,aE q.s4.1 o.ge.length q.s4.2,am an (o.main:ac)]
structure JO (H:View) (q:eG) (o:tu):Prop where
 aN:Sl rdStr 1 H q.s1.1 q.s1.2 o.aN
 code:Sl kj 3 H q.s2.1 q.s2.2 o.g.code
 fix:Sl O0 3 H q.s3.1 q.s3.2 o.g.fix
 ge:Sl sj 1 H q.s4.1 q.s4.2 o.ge
def JP:eG:=⟨(ao,0),(ao,0),(ao,0),(ao,0)⟩
def O5 (a:View):JO a JP CL:=⟨Sl.nil,Sl.nil,Sl.nil,Sl.nil⟩
def O6:∀{l:I b3} {i:Z} {x:b3},l[i]? = aa x->nz (l.take<|i+1)=nz (l.take i)+AG x/\nz (l.take<|i+1)<=nz l| [],_,_,h=>by simp at h| y::r,0,x,h=>by simp at h;subst h;simp [nz]| y::r,i+1,x,h=>by obtain ⟨a,b⟩:=O6 (l:=r) (i:=i) (by simpa using h);simp only [qq,nz];omega
def Xt {l:I b3}  {x:b3} (h:l[bE]? = aa x) (g:Gs):fC (l.take<|bE+1) g=((fC (l.take bE) g).1++[(fC (l.take bE) g).2.code.length],kL x.params x.locals x.body (fC (l.take bE) g).2):=by rw [h7,h];exact JK _ _ _
def O7 (h:bX kM az gK 1=ad):uG gK:=by unfold bX at h;exact ⟨kM,az,1,(bz.1 (bz.1 h).2).2⟩
def O8:∀l:I b3,l.length<=nz l| []=>dw _| s::r=>by have:=O8 r;simp only [gj,nz,AG];omega
def O9 (u:aI):vK u=1+u.nm.length+wN u.aN+nz u.parts+ki u.main:=rfl
def Xu {u:aI} (h:ry u=ad):(∀p ∈ u.parts,uG p.body)/\uG u.main:=by obtain ⟨a,b,_,_⟩:=iD h;exact ⟨λp c=>O7 (yQ<|a p c).2.2.2.2,O7 b⟩
end Go.Bw
end
section
namespace Go.Bw
open Go
def Rz.all {b α:Type} (r:Rz b α) (p:α->b->Prop) (q:Wm->Prop):Prop:=match r with| .ok a s=>p a s| .ov _ w=>q w
variable {JR:Wm->Prop}
def Rz.all_bind {b α β:Type} {r:Rz b α} {f:α->b->Rz b β} {p:β->b->Prop}  (h:r.all (λa s=>(f a s).all p JR) JR):(r.bind f).all p JR:=by cases r with| ok a s=>exact h| ov e w=>exact h
def Rz.uH {b α:Type} {r:Rz b α} {p c:α->b->Prop} {q q':Wm->Prop} (h:r.all p q) (d:∀a s,p a s->c a s) (f:∀w,q w->q' w):r.all c q':=by cases r with| ok a s=>exact d _ _ h| ov e w=>exact f _ h
def Rz.O' {α:Type} {r:Rz Wm α} {f:Fm} {p:α->Fm->Prop}  (h:r.all (λa w=>p a { f with w:=w }) JR):(Rz.fr f r).all p JR:=by cases r with| ok a s=>exact h| ov e w=>exact h
structure Kw (P:Env) (w w':Wm):Prop where
 a0:w.a0<=w'.a0
 aO:w.a0<=P.aO->w'.a0<=P.aO
 len:w'.data.length=w.data.length
 out:w.out.length<=200->w'.out.length<=200
 pre:w.out <+: w'.out
structure Kp (P:Env) (w w':Wm):Prop extends Kw P w w' where
 calls:w'.calls=w.calls
section
variable {P:Env} {a b c:Wm}
def Kw.refl (P:Env) (a:Wm):Kw P a a:=⟨c7 _,id,rfl,id,BY⟩
def Kw.trans (h:Kw P a b) (k:Kw P b c):Kw P a c:=⟨pG h.a0 k.a0,λx=>k.aO<|h.aO x,k.len.trans h.len,λx=>k.out<|h.out x,h.pre.trans k.pre⟩
def Kp.refl (P:Env) (a:Wm):Kp P a a:=⟨Kw.refl P a,rfl⟩
def Kp.trans (h:Kp P a b) (k:Kp P b c):Kp P a c:=⟨h.toKw.trans k.toKw,k.calls.trans h.calls⟩
abbrev RK {α:Type} (P:Env) (w:Wm) (r:Rz Wm α):Prop:=r.all (λ_ a=>Kp P w a)<|Kw P w
variable {aB:Type}
def RK.ok (v:aB) (w:Wm):RK P w<|.ok v w:=Kp.refl P w
def RK.ov {α:Type} (e:ac) (w:Wm):RK (α:=α) P w<|.ov e w:=Kw.refl P w
variable {qe:Type} {pr:Rz Wm aB}
def RK.bind {w:Wm}  {f:aB->Wm->Rz Wm qe} (h:RK P w pr) (k:∀v a,RK P a (f v a)):RK P w<|pr.bind f:= Rz.all_bind<|Rz.uH h (λv a c=>Rz.uH (k v a) (λ_ _ b=>c.trans b) λ_ b=>c.toKw.trans b) λ_ h=>h
abbrev EK (P:Env) (k:Ev):Prop:=∀loc w,RK P w (k loc w)
abbrev CK (P:Env) (call:Cl):Prop:=∀u loc body w,RK P w (call u loc body w)
def O_ (w:Wm):RK P w<|mJ P w:=by
 unfold mJ;split;·exact .ov _ _
 ·rename_i h;exact ⟨⟨Z.le_succ _,λa=>by show w.a0+1<=P.aO;omega,O,id,BY⟩,O⟩
variable {hq:I Ev}
def CN (h:∀k ∈ hq,EK P k) (i:Z):EK P<|kg hq i:=λloc w=>by unfold kg;cases a:hq[i]? with| none=>exact .ok _ _| some k=>exact h k (aW a) loc w
def Pa:∀{ks:I Ev},(∀k ∈ ks,EK P k)->∀loc w,RK P w (lv loc ks w)| [],_,_,w=>.ok _ w| k::r,h,loc,w=>(h k aK loc w).bind λv a=>(Pa (λx b=>h x (by simp [b])) loc a).bind λ_ c=>.ok _ c
def Pb {k:Ev} (h:EK P k) (n:ac) (loc:I ac) (w:Wm):RK P w<|p7 n k loc w:=(h loc w).bind λi a=>by
 split;·exact .ov _ _
 ·exact .ok _ _
variable {tw:Cl}
def Pc (a:CK P tw)  (h:∀k ∈ hq,EK P k) (u:Z) (m pl:ac) (loc:I ac) (w:Wm):RK P w<|qJ P tw u m pl hq loc w:=by
 unfold qJ;split;·exact (Pa h loc w).bind λvs b=>a _ _ _ _
 ·exact .ok _ _
def Xv (op a b:ac) (w:Wm):RK P w<|m_ op a b w:=by
 unfold m_;repeat' split
 all_goals first|exact .ok _ _|exact .ov _ _
def Xw (f:CK P tw)  (h:∀k ∈ hq,EK P k) (u:Z) (op n m pl:ac) (loc:I ac) (w:Wm):RK P w<|cU P tw u op n m pl hq loc w:=by
 unfold cU;have c:=CN h 0;have e:=CN h 1;split;·exact .ok _ _
 ·split
  ·split;·exact .ok _ _
   ·exact ⟨⟨c7 _,id,O,id,BY⟩,O⟩
  ·split;·exact .ok _ _
   ·split;·exact .ok _ _
    ·split;·exact (Pb c n loc w).bind λ_ _=>.ok _ _
     ·split;·exact Pc f h u m pl loc w
      ·split;·exact (c loc w).bind λ_ _=>.ok _ _
       ·split
        ·exact (c loc w).bind λv d=>by
          split;·exact .ok _ _
          ·exact (e loc d).bind λ_ _=>.ok _ _
        ·split
         ·exact (c loc w).bind λv d=>by
           split;·exact (e loc d).bind λ_ _=>.ok _ _
           ·exact .ok _ _
         ·exact (c loc w).bind λa d=>(e loc d).bind λb g=>Xv op a b g
mutual
def Pd (a:CK P tw) (u:Z):∀x,EK P (bA P tw u x)| .mk op n m pl args=>λloc w=>by rw [bA];exact Xw a (JQ a u args) u op n m pl loc w
def JQ (b:CK P tw) (u:Z):∀l,∀k ∈ hx P tw u l,EK P k
 | []=>by rw [hx];simp
 | x::r=>λk a=>by
  rw [hx] at a;rcases eR.1 a with rfl | a;·exact Pd b u x
  ·exact JQ b u r k a
end
abbrev FK {α:Type} (P:Env) (f:Fm) (r:Rz Fm α):Prop:=r.all (λ_ a=>Kp P f.w a.w/\a.loc.length=f.loc.length)<|Kw P f.w
def FK.ok (v:aB) (f:Fm):FK P f<|.ok v f:=⟨Kp.refl P f.w,rfl⟩
def FK.FZ (v:aB) {f a:Fm} (h:Kp P f.w a.w) (b:a.loc.length=f.loc.length):FK P f<|.ok v a:=⟨h,b⟩
def FK.bind {f:Fm} {r:Rz Fm aB} {g:aB->Fm->Rz Fm qe} (h:FK P f r) (k:∀v a,FK P a (g v a)):FK P f<|r.bind g:= Rz.all_bind<|Rz.uH h (λv a c=>Rz.uH (k v a) (λ_ _ b=>⟨c.1.trans b.1,b.2.trans c.2⟩) λ_ b=>c.1.toKw.trans b) λ_ h=>h
def FK.fr {f:Fm}  (h:RK P f.w pr):FK P f<|Rz.fr f pr:=Rz.O'<|Rz.uH h (λ_ _ h=>⟨h,rfl⟩) λ_ h=>h
def Pe {c:Fm->Rz Fm ac} {b:Fm->Rz Fm aS} (a:∀f,FK P f (c f)) (d:∀f,FK P f (b f)):∀n f,FK P f (nb P c b n f)
 | 0,f=>.ok _ f
 | n+1,f=>(a f).bind λv e=>by
  split;·exact .ok _ _
  ·exact (FK.fr<|O_ e.w).bind λ_ g=>(d g).bind λt h=>by
    split;·exact .ok _ _
    ·exact Pe a d n h
def ahH (v:ac) (w:Wm):RK P w<|CG v w:=by
 unfold CG;split;·exact .ov _ _
 ·rename_i h;exact ⟨⟨c7 _,id,O,λa=>by show (w.out++[v]).length<=200;rw [iy,zP];omega,I.prefix_append _ _⟩,O⟩
def Xy (d:CK P tw)  (h:∀k ∈ hq,EK P k) {body other:Fm->Rz Fm aS} (c:∀f,FK P f (body f)) (e:∀f,FK P f (other f)) (u:Z) (op n m pl:ac) (f:Fm):FK P f<|qL P tw u op n m pl hq body other f:=by
 unfold qL;have b:∀f:Fm,FK P f (Rz.fr f<|kg hq 0 f.loc f.w):=λf=>FK.fr<|CN h 0 f.loc f.w;have g:∀f:Fm,FK P f (Rz.fr f<|kg hq 1 f.loc f.w):=λf=>FK.fr<|CN h 1 f.loc f.w;split
 ·refine (b f).bind λv a=>?_;split;·exact FK.FZ _ (Kp.refl P _) aK
  ·exact FK.FZ _ ⟨⟨c7 _,id,aK,id,BY⟩,O⟩ O
 ·split;·exact (FK.fr<|Pb (CN h 0) n f.loc f.w).bind λi a=>(g a).bind λv j=>FK.FZ _ ⟨⟨c7 _,id,aK,id,BY⟩,O⟩ O
  ·split;·exact (FK.fr<|Pc d h u m pl f.loc f.w).bind λ_ a=>.ok _ _
   ·split
    ·refine (b f).bind λv a=>?_;split;·exact e a
     ·exact c a
    ·split;·exact Pe b c _ f
     ·split;·exact (b f).bind λv a=>FK.FZ _ (Kp.refl P _) O
      ·split;·exact (b f).bind λv a=>(FK.fr<|ahH v a.w).bind λ_ j=>.ok _ _
       ·exact .ok _ _
mutual
def Xz (a:CK P tw) (u:Z):∀x f,FK P f (nc P tw u x f)| .mk op n m pl args body other,f=>by rw [nc];exact Xy a (JQ a u args) (CO a u body) (CO a u other) u op n m pl f
def CO (a:CK P tw) (u:Z):∀l f,FK P f (hP P tw u l f)
 | [],f=>by rw [hP];exact .ok _ _
 | x::r,f=>by
  rw [hP];exact (Xz a u x f).bind λt b=>by
   split;·exact .ok _ _
   ·exact CO a u r b
end
def F0:∀d,CK P (dE P d)
 | 0=>λ_ _ _ w=>.ok _ w
 | d+1=>λu loc body w=>by
  unfold dE;refine (O_ w).bind λ_ b=>?_;split;·exact .ov _ _
  ·have h:=CO (F0 d) u body ⟨loc,0,{ b with calls:=b.calls+1 }⟩;cases c:hP P (dE P d) u body ⟨loc,0,{ b with calls:=b.calls+1 }⟩ with| ok t f=>rw [c] at h;have a:Kp P { b with calls:=b.calls+1 } f.w:=h.1;exact ⟨⟨a.a0,a.aO,a.len,a.out,a.pre⟩,by show f.w.calls-1=b.calls;have:=a.calls;simp at this;omega⟩| ov e g=>rw [c] at h;have a:Kw P { b with calls:=b.calls+1 } g:=h;exact ⟨a.a0,a.aO,a.len,a.out,a.pre⟩
end
end Go.Bw
end
section
namespace Go.Bw
open Go
variable {kM:I e7} {az b' j1 bV iQ:ac} {bE:Z}
def F1 (h:node1 kM az b' j1 bV iQ bE=ad):(b'=3->ls kM bV iQ 1=ad)/\(b'=4->(1<=j1/\j1<=32)/\ls kM bV iQ j1=ad)/\(b'=5->k4 kM bV iQ bE=ad)/\(b'=16->0<=iQ/\iQ<az):=by
 refine ⟨λe=>?_,λe=>?_,λe=>?_,λe=>?_⟩;·subst e;rw [node1,aj a8,aD rfl] at h;exact (bz.1 h).2
 ·subst e;rw [node1,aj a8,aj a8,aD rfl] at h;obtain ⟨a,b⟩:=bz.1 h;exact ⟨by simpa [tm] using (bz.1 a).1,b⟩
 ·subst e;rw [node1,aj a8,aj a8,aj a8,aD rfl] at h;exact (bz.1 h).2
 ·subst e;rw [node1,aj a8,aj a8,aj a8,aj a8,aD rfl] at h;simpa [gT] using (bz.1 h).2
def ahI (h:ls kM az b' j1=ad):0<=az:=by cases a:oD kM az b' with| true=>rw [Cx j1 a] at h;cases h| false=>obtain ⟨⟨b,e,_⟩,_⟩:=Cy a;omega
variable {aL dl:Z}
def F2 (h:gC kM az b' j1 bV iQ bE aL dl=ad):(b'=1->(bV<0->0<=iQ/\iQ<az)/\(¬bV<0->ls kM bV iQ 1=ad))/\(b'=2->(1<=j1/\j1<=32)/\ls kM bV iQ j1=ad)/\(b'=3->k4 kM bV iQ bE=ad):=by
 refine ⟨λe=>?_,λe=>?_,λe=>?_⟩
 ·subst e;rw [gC,aD rfl] at h;have b:=(bz.1 h).2;rcases H6.1 b with a | a
  ·obtain ⟨c,f⟩:=bz.1 a;have c:bV = -1:=by simpa using c
   exact ⟨λ_=>by simpa [gT] using f,λd=>absurd ai d⟩
  ·have:=ahI a;exact ⟨λd=>absurd this ai,λ_=>a⟩
 ·subst e;rw [gC,aj a8,aD rfl] at h;obtain ⟨g,b⟩:=bz.1 h;exact ⟨by simpa [tm] using (bz.1 g).2,b⟩
 ·subst e;rw [gC,aj a8,aj a8,aD rfl] at h;exact (bz.1 h).2
variable {aB qe nA:Type} {cW:Rz aB qe} {vQ:qe->aB->Rz aB nA} {h8:aB}
def gX {a:qe}  (h:cW = .ok a h8):cW.bind vQ=vQ a h8:=by rw [h];rfl
variable {p9:Wm}
def kk (h:cW = .ov az p9):cW.bind vQ = .ov az p9:=by rw [h];rfl
variable {pr:Rz Wm aB} {xb:Fm}
def ne (h:pr = .ok h8 p9):Rz.fr xb pr = .ok h8 { xb with w:=p9 }:=by rw [h];rfl
def tx (h:pr = .ov az p9):Rz.fr xb pr = .ov az p9:=by rw [h];rfl
variable {kO:Env} {tw:Cl} {jX:I eC}
def mg {i:Z} {y:eC} (h:jX[i]? = aa y):kg (hx kO tw bE jX) i=bA kO tw bE y:=by unfold kg;rw [JF,fp,h];rfl
variable {ft:eC}
def mM (h:hZ kM az jX bE=ad) (a:jX[aL]? = aa ft):k5 kM az ft bE=ad:=by rw [CB] at h;exact gA.1 h ft<|aW a
def F4 (h:k5 kM az ft bE=ad):node1 kM az ft.op ft.n ft.m ft.pl ft.args.length=ad/\hZ kM az ft.args (bE+1)=ad:=by rw [Jl] at h;exact bz.1 (bz.1 h).2
variable {gK:I et} {rQ:et}
def XB (h:g8 kM az gK bE=ad) (a:gK[aL]? = aa rQ):lR kM az rQ bE=ad:=by rw [FL] at h;exact gA.1 h rQ<|aW a
def xf (h:bX kM az gK bE=ad):g8 kM az gK bE=ad:=by unfold bX at h;exact (bz.1 (bz.1 h).2).2
def F5 (h:lR kM az rQ bE=ad):gC kM az rQ.op rQ.n rQ.m rQ.pl rQ.args.length rQ.body.length rQ.other.length=ad/\hZ kM az rQ.args 1=ad/\(rQ.op=4\/rQ.op=5->g8 kM az rQ.body (bE+1)=ad)/\g8 kM az rQ.other (bE+1)=ad:=by
 rw [Jm] at h;obtain ⟨d,b⟩:=bz.1 h;obtain ⟨b,a⟩:=bz.1 b;obtain ⟨a,c⟩:=bz.1 a;refine ⟨d,b,λe=>?_,?_⟩;·rw [show tn rQ.op=ad from by unfold tn;rcases e with e | e<;>rw [e]<;>decide] at a;exact xf (by simpa using a)
 ·cases f:rQ.other with| nil=>rw [g8]| cons y r=>rw [f] at c;exact xf (by simpa using c)
def Pf (loc:I ac) (w:Wm) (h:jX[aL]? = aa ft):lv loc (hx kO tw bE<|jX.drop aL) w=(bA kO tw bE ft loc w).bind λv w=>(lv loc (hx kO tw bE<|jX.drop<|aL+1) w).bind λvs w=>.ok (v::vs) w:=by obtain ⟨a,b⟩:=cN.1 h;rw [qr a,b,hx];rfl
variable {gO hR:I ac} {dX:Rz Wm<|I ac}
def XC {w a:Wm}  (h:dX=(lv gO (hx kO tw bE<|jX.drop aL) w).bind λvs w=>.ok (hR++vs) w) (b:jX[aL]? = aa ft) (c:bA kO tw bE ft gO w = .ok az a) : dX=(lv gO (hx kO tw bE<|jX.drop<|aL+1) a).bind λvs w=>.ok ((hR++[az])++vs) w:=by rw [h,Pf gO w b,gX c];cases lv gO (hx kO tw bE<|jX.drop<|aL+1) a with| ok vs d=>show Rz.ok _ _=Rz.ok _ _;simp| ov e d=>rfl
def XD {w a:Wm}  (h:dX=(lv gO (hx kO tw bE<|jX.drop aL) w).bind λvs w=>.ok (hR++vs) w) (b:jX[aL]? = aa ft) (c:bA kO tw bE ft gO w = .ov az a):dX = .ov az a:=by rw [h,Pf gO w b,kk c];rfl
def ahJ {loc pre:I ac}  {w:Wm} (h:dX=(lv loc (hx kO tw bE<|jX.drop aL) w).bind λvs w=>.ok (pre++vs) w) (hi:jX.length<=aL):dX = .ok pre w:=by rw [h,k0 hi,hx];show Rz.ok _ _=_;simp
def XF {w:Wm}:lv gO (hx kO tw bE jX) w=(lv gO (hx kO tw bE<|jX.drop 0) w).bind λvs w=>.ok ([]++vs) w:=by rw [I.drop_zero];cases lv gO (hx kO tw bE jX) w with| ok vs a=>rfl| ov e a=>rfl
def Pg {z:aI} {p:b3} (a:kO.mod bE az=aL) (b:b'=dl) (c:kO.l[aL]? = aa z) (d:z.parts[dl]? = aa p) (ks:I Ev) (loc:I ac) (w:Wm) : qJ kO tw bE az b' ks loc w=(lv loc ks w).bind λvs w=>tw aL (vs++gb p.locals.toNat 0) p.body w:=by unfold qJ;rw [a,c,b,ku];show (match z.parts[dl]? with| aa p=>_| ao=>_)=_;rw [d]
def XG (a:gO.length=aL) (b:aL<bE):(gO++gb (bE-aL) 0)[aL]? = aa 0:=by rw [pH ai,H7,aD ai]
def XH (v:ac) (a:gO.length=aL) (b:aL<bE):(gO++gb (bE-aL) 0).set aL v=(gO++[v])++gb (bE-(aL+1)) 0:=by rw [sJ _ _ ai,show bE-aL=(bE-(aL+1))+1 by omega,EA,show aL-gO.length=0 by omega];simp
def yS {l:I aI} (h:lw l):d' l<=512:=by
 rcases JG h.data with ⟨_,a⟩ | a;·omega
 ·subst a;decide
end Go.Bw
end
section
namespace Go.Bw
open Go
variable {bc:I ar}
def Ph:∀{l r:I<|I ar} {s:Z},bc ∈ l->idxOf bc (l++r) s=idxOf bc l s
 | [],_,_,h=>by simp at h
 | y::q,r,s,h=>by
  rw [ix,idxOf,idxOf];by_cases e:y=bc;·rw [aD e,aD e]
  ·rw [aj e,aj e,Ph (l:=q)];rcases eR.1 h with h | h;·exact absurd h.symm e
   ·exact h
variable {bg:I<|I ar} {bE:Z}
def ahL (h:bc ∈ bg.take bE):idxOf bc (bg.take bE) 0=idxOf bc bg 0:=by conv=>rhs; rw [<-rZ bE bg,Ph h]
def F6 {n:Z} (h:bc ∉ bg) (a:bg.length=n):gB bc (am an (n:ac)) (i5 bg 0) n=i5 (bg++[bc]) 0/\kc bc (i5 bg 0) n=n+1:=by
 subst a;have b:eq bc (i5 bg 0) 0=ao:=by have:=FN bc bg 0 0;rw [sd.2 h] at this;simpa using this
 unfold gB kc;rw [b,Jw];simp
def Pj (c:bg.Nodup) (b:bg[bE]? = aa bc):bc ∉ bg.take bE:=λd=>by
 obtain ⟨j,a⟩:=jd d;rw [jF] at a;split at a;·rename_i e;have hi:=(cN.1 b).1;have:=(ib hi c).1<|b.trans a.symm;omega
 ·cases a
def nB (l:I aI) (s:I ar):Z:=(idxOf s (fR l) 0).getD 0
variable {df:I aI} {eA:aI}
def JS (h:df[bE]? = aa eA):(eF df).take (bE+1)=(eF df).take bE++[bE::eA.aN.map (nB df)]:=by rw [h7,yP h];rfl
def Jz:∀{l:I aI} {s i:Z} {u:aI},l[i]? = aa u->(jZ l s)[i]? = aa (s+d' (l.take i))| [],_,_,_,h=>by simp at h| x::r,s,0,u,h=>by simp [jZ,d']| x::r,s,i+1,u,h=>by rw [jZ,lh,Jz (l:=r) (by simpa using h),qq];simp only [d'];congr 1;omega
def XJ (h:df[bE]? = aa eA):(jZ df 0).take (bE+1)=(jZ df 0).take bE++[d'<|df.take bE]:=by rw [h7,Jz h,lJ];rfl
def JD:∀{l:I aI} {i:Z} {u:aI},l[i]? = aa u->d' (l.take<|i+1)=d' (l.take i)+u.data.toNat| [],_,_,h=>by simp at h| x::r,0,u,h=>by simp at h;subst h;simp [d']| x::r,i+1,u,h=>by rw [qq,qq,d',d',JD (l:=r) (by simpa using h)];omega
def JH:∀(l:I aI) (i:Z),d' (l.take i)<=d' l| [],i=>by simp| x::r,0=>by simp [d']| x::r,i+1=>by rw [qq,d',d'];have:=JH r i;omega
variable {kO:Env}
def Pn (w:Wm) (h:df[bE]? = aa eA):mK kO (df.drop bE) bE w=(dE kO 25 bE [] eA.main w).bind λ_ w=>mK kO (df.drop<|bE+1) (bE+1) w:=by obtain ⟨a,b⟩:=cN.1 h;rw [qr a,b,mK]
def ahM (w:Wm) (h:df.length<=bE):mK kO (df.drop bE) bE w = .ok () w:=by rw [k0 h,mK]
def mN (l:I aI) (bn:I ac) (a0:ac):jM:=if pi l bn a0=0 then ny l bn a0.toNat else ur
variable {gO:I ac} {az:ac}
def JT (h:pi df gO az≠0):mN df gO az=ur:=aj h
def vR (l:I aI) (bn:I ac):Wm:=⟨gb (d' l) 0,bn,[],0,0⟩
variable {p9:Wm}
def XL {x:ef} (h:pi df gO az=0) (a:mK (av df az.toNat) df 0 (vR df gO) = .ok x p9):mN df gO az=yO p9 0:=by unfold mN ny;rw [aD h,show (⟨gb (d' df) 0,gO,[],0,0⟩:Wm)=vR df gO from rfl,a]
def ahN {e:ac} (h:pi df gO az=0) (a:mK (av df az.toNat) df 0 (vR df gO) = .ov e p9):mN df gO az=yO p9 e:=by unfold mN ny;rw [aD h,show (⟨gb (d' df) 0,gO,[],0,0⟩:Wm)=vR df gO from rfl,a]
abbrev XI:=I Z×(aA a6×Z)
def XI.cells (e:XI):I aR:=[aE e.2.1 e.1.length e.2.2]
def XI.dR (e:XI):(XI.cells e).length=1:=rfl
structure KW where
 l:aA a6×Z
 u:aA a6×Z
 b:aA a6×Z
structure fW where
 w:Wm
 i:aA a6×Z
 o:aA a6×Z
 d:aA a6×Z
def n4 (T:cn) (a:KW) (P:Env) (s:fW):Obj:=aY #[aE a.l.1 P.l.length a.l.2,aE a.u.1 P.aN.length a.u.2,aE a.b.1 P.g1.length a.b.2,aE s.i.1 s.w.bn.length s.i.2,am an (P.aO:ac),am an (s.w.calls:ac),am an 0,aE s.o.1 s.w.out.length s.o.2,aE s.d.1 s.w.data.length s.d.2,am an (s.w.a0:ac)] T (0,0)
abbrev eO (T a:cn) (b:Z) (c:KW) (P:Env) (s:fW):I bh:=[aQ b<|n4 T c P s,cQ a 1 ik s.o.1 s.o.2 s.w.out,cQ a 1 ik s.d.1 s.d.2 s.w.data]
def xh (T:cn) (a u:Z) (x:aA a6×Z) (n:Z) (v:ac):Obj:=aY #[b8 (aa ⟨a,0,ao⟩),am an (u:ac),aE x.1 n x.2,am an v] T (0,0)
abbrev g9 (T a:cn) (b c u:Z) (x:aA a6×Z) (loc:I ac) (v:ac):I bh:=[aQ b<|xh T c u x loc.length v,cQ a 1 ik x.1 x.2 loc]
def oI (T:cn) (e:ac):I oZ:=[⟨.iface T<|b0 #[am an e],aq,aq⟩]
def Po (a:View) (b o:Z) (x:I Z):Prop:=∃r:aA a6×Z,cB a b o [aE r.1 x.length r.2]/\Sl sj 1 a r.1 r.2 x
structure kC (H:View) (P:Env) (D C:Z) (s:fW):Prop where
 bn:Sl gW 1 H s.i.1 s.i.2 s.w.bn
 out:s.w.out.length<=200
 tk:s.w.a0<=P.aO
 hr:s.w.data.length=D
 cl:s.w.calls=C
structure iU (H:View) (n:Z) (K:KW) (l:I aI) (aO:Z):Prop where
 ok:lw l
 aO:aO<=2000
 ahO:Sl (CI n) 5 H K.l.1 K.l.2 l
 aN:Sl Po 1 H K.u.1 K.u.2<|eF l
 g1:Sl sj 1 H K.b.1 K.b.2<|jZ l 0
def JU:∀(l:I aI) (s:Z),(jZ l s).length=l.length| [],_=>rfl| u::r,s=>by rw [jZ,gj,gj,JU r]
def Pp (l:I aI):(eF l).length=l.length:=by simp [eF]
def XI.one (e:XI):(XI.cells e).all (·.oneCell')=ad:=rfl
def Pq (a:View) (b o:Z) (e:XI):Prop:=cB a b o<|XI.cells e
def sm (J:View) (e:XI):Prop:=Sl sj 1 J e.2.1 e.2.2 e.1
variable {bN cR:View}
def Pr (hv:cX bN cR) (b o:Z) (x:Z) (h:sj bN b o x):sj cR b o x:=cB.mono hv h
def sm.mv {e:XI} (hv:cX bN cR) (h:sm bN e):sm cR e:=Sl.imp (λb o x h=>Pr hv b o x h) h
def ahP {c J N:View}  {a:aA a6} {es:I XI} (h:Sl Pq 1 c a bE es) (hv:cX c N) (d:cX J N) (f:Xs sm J es):Sl Po 1 N a bE (es.map (·.1)):= yJ h f λb o e g i=>⟨e.2,cB.mono hv g,sm.mv d i⟩
def JV (T:cn) (a us b c:aR) (aO:ac) (hr:aR):Obj:=aY #[a,us,b,c,am an aO,am an 0,am an 0,aE ao 0 0,hr,am an 0] T (0,0)
def ahQ (T:cn) (e:ac) (s:fW):Obj:=aY #[am an e,aE s.o.1 s.w.out.length s.o.2,aE s.d.1 s.w.data.length s.d.2,am an (s.w.a0:ac)] T (0,0)
structure F7 where
 i:Z
 es:I XI
 ua:aA a6×Z
 ba:aA a6×Z
 J:View
def XQ (hv:cX bN cR) (n:Z) (b o:Z) (u:aI) (h:CI n bN b o u):CI n cR b o u:=by obtain ⟨r,a,c⟩:=h;exact ⟨r,cB.mono hv a,c.mv hv⟩
def XR (R:jM) (r:(aA a6×Z)×(aA a6×Z)):aR:=b0 #[am an R.fin,aE r.1.1 R.out.length r.1.2,aE r.2.1 R.data.length r.2.2,am an R.a0]
end Go.Bw
end
section
namespace Go.Bw
open Go
def Sm {b α:Type} (f:b->b->Prop) (g:Wm->Wm->Prop) (X:Prop) (o:b->I ac) (r1 r2:Rz b α):Prop:=match r1 with| .ok a s1=>∃s2,r2 = .ok a s2/\f s1 s2| .ov e c=>(∃d,r2 = .ov e d/\g c d)\/(X/\e=3/\r2.all (λ_ s=>c.out <+: o s) (λw=>c.out <+: w.out))
def Ps (w:Wm):Rz Wm ac:=match w.bn with| []=>.ok 0 w| x::r=>.ok x { w with bn:=r }
structure XS (P1 P2:Env) (E G:Wm->Wm->Prop) (X:Prop):Prop where
 l:P1.l=P2.l
 aN:P1.aN=P2.aN
 g1:P1.g1=P2.g1
 eg:∀{a b},E a b->G a b
 data:∀{a b},E a b->a.data=b.data
 out:∀{a b},E a b->a.out=b.out
 calls:∀{a b},E a b->a.calls=b.calls
 tk:∀{a b},E a b->a.a0=b.a0/\a.a0<=P1.aO/\P1.aO<=P2.aO
 tick:∀{a b},E a b->Sm E G X (·.out) (mJ P1 a) (mJ P2 b)
 read:∀{a b},E a b->Sm E G X (·.out) (Ps a) (Ps b)
 ah6:∀{a b} d,E a b->E { a with data:=d } { b with data:=d }
 ah7:∀{a b} d,E a b->E { a with out:=d } { b with out:=d }
 ah8:∀{a b} d,E a b->E { a with calls:=d } { b with calls:=d }
section
variable {P1 P2:Env} {E G:Wm->Wm->Prop} {X:Prop}
abbrev SW {α:Type} (a b:Wm->Wm->Prop) (X:Prop) (r1 r2:Rz Wm α):Prop:=Sm a b X (·.out) r1 r2
structure EF (E:Wm->Wm->Prop) (f g:Fm):Prop where
 loc:f.loc=g.loc
 val:f.val=g.val
 w:E f.w g.w
abbrev SF {α:Type} (a b:Wm->Wm->Prop) (X:Prop) (r1 r2:Rz Fm α):Prop:=Sm (EF a) b X (·.w.out) r1 r2
variable {aB qe:Type} {pr F3:Rz Wm aB}
def SW.bind (f:Env)   {c b:aB->Wm->Rz Wm qe} (h:SW E G X pr F3) (k:∀a s1 s2,E s1 s2->SW E G X (c a s1) (b a s2)) (m:∀a s,RK f s (b a s)):SW E G X (pr.bind c)<|F3.bind b:=by
 cases pr with
 | ok a s1=>obtain ⟨s2,rfl,g⟩:=h;exact k a s1 s2 g
 | ov e p=>
  rcases h with ⟨i,rfl,j⟩ | ⟨l,n,o⟩;·exact bB ⟨i,O,j⟩
  ·refine be ⟨l,n,Rz.all_bind<|Rz.uH o (λa s d=>?_) λ_ h=>h⟩;exact Rz.uH (m a s) (λ_ _ h=>d.trans h.pre) λ_ h=>d.trans h.pre
def SF.bind (f:Env)  {r1 r2:Rz Fm aB} {c b:aB->Fm->Rz Fm qe} (h:SF E G X r1 r2) (k:∀a s1 s2,r2 = .ok a s2->EF E s1 s2->SF E G X (c a s1) (b a s2)) (m:∀a s,FK f s (b a s)):SF E G X (r1.bind c)<|r2.bind b:=by
 cases r1 with
 | ok a s1=>obtain ⟨s2,rfl,g⟩:=h;exact k a s1 s2 rfl g
 | ov e p=>
  rcases h with ⟨i,rfl,j⟩ | ⟨l,n,o⟩;·exact bB ⟨i,O,j⟩
  ·refine be ⟨l,n,Rz.all_bind<|Rz.uH o (λa s d=>?_) λ_ h=>h⟩;exact Rz.uH (m a s) (λ_ _ h=>d.trans h.1.pre) λ_ h=>d.trans h.pre
def SF.fr {f g:Fm} (h:SW E G X pr F3) (b:EF E f g):SF E G X (Rz.fr f pr)<|Rz.fr g F3:=by
 cases pr with
 | ok a s1=>obtain ⟨s2,rfl,c⟩:=h;exact ⟨_,rfl,b.loc,b.val,c⟩
 | ov e m=>
  rcases h with ⟨d,rfl,i⟩ | ⟨j,k,l⟩;·exact bB ⟨d,O,i⟩
  ·exact be ⟨j,k,Rz.O'<|Rz.uH l x5 λ_ h=>h⟩
variable {p9 xg:Wm}
def SW.ok (a:aB)  (h:E p9 xg):SW E G X (.ok a p9)<|.ok a xg:=⟨xg,rfl,h⟩
def SF.ok (a:aB) {s1 s2:Fm} (h:EF E s1 s2):SF E G X (.ok a s1)<|.ok a s2:=⟨s2,rfl,h⟩
def SW.ov {α:Type} (S:XS P1 P2 E G X) (e:ac)  (h:E p9 xg):SW (α:=α) E G X (.ov e p9)<|.ov e xg:=bB ⟨xg,rfl,S.eg h⟩
structure EE (P2:Env) (E G:Wm->Wm->Prop) (X:Prop) (k1 k2:Ev):Prop where
 go:∀loc {a b},E a b->SW E G X (k1 loc a) (k2 loc b)
 kp:EK P2 k2
structure CC (P2:Env) (E G:Wm->Wm->Prop) (X:Prop) (c1 c2:Cl):Prop where
 go:∀u loc body {a b},E a b->SW E G X (c1 u loc body a) (c2 u loc body b)
 kp:CK P2 c2
inductive KE (P2:Env) (E G:Wm->Wm->Prop) (X:Prop):I Ev->I Ev->Prop where
 | nil:KE P2 E G X [] []
 | cons {x y:Ev} {r q:List Ev} (h:EE P2 E G X x y) (t:KE P2 E G X r q):KE P2 E G X (x::r)<|y::q
def KE.kp:∀{k1 k2:I Ev},KE P2 E G X k1 k2->∀k ∈ k2,EK P2 k
 | _,_,.nil,k,h=>by simp at h
 | _,_,.cons a b,k,h=>by
  rcases eR.1 h with rfl | h;·exact a.kp
  ·exact KE.kp b k h
def KE.kg:∀{k1 k2:I Ev},KE P2 E G X k1 k2->∀i,EE P2 E G X (kg k1 i) (kg k2 i)| _,_,.nil,i=>⟨λloc a b h=>SW.ok _ h,λloc w=>.ok _ _⟩| _,_,.cons c d,0=>c| _,_,.cons c d,i+1=>KE.kg d i
structure AA (P2:Env) (E G:Wm->Wm->Prop) (X:Prop) (b1 b2:Fm->Rz Fm aS):Prop where
 go:∀{f g},EF E f g->SF E G X (b1 f) (b2 g)
 kp:∀f,FK P2 f (b2 f)
end
end Go.Bw
end
section
namespace Go.Bw
open Go
structure ah_ (aO:Z) (a b:Wm):Prop where
 data:a.data=b.data
 out:a.out=b.out
 a0:a.a0=b.a0
 calls:a.calls=b.calls
 tl:a.a0<=aO
 bn:b.bn=a.bn++[0]\/(a.bn=[]/\b.bn=[])
def XV {l:I aI} {bn:I ac} {a0:ac}:pi l bn a0=0↔lS l=0/\bn.length<=64/\0<=a0/\a0<=2000:=by
 unfold pi er;by_cases h:lS l=0
 ·rw [aD h];by_cases a:64<bn.length
  ·rw [aD a];constructor<;>intro b;·cases b
   ·omega
  ·rw [aj a];by_cases b:(decide (a0<0)||decide (2000<a0))=ad
   ·rw [aD b];simp at b;constructor<;>intro c;·cases c
    ·omega
   ·rw [aj b];simp at b;exact ⟨λ_=>⟨h,ai,ai,ai⟩,λ_=>rfl⟩
 ·rw [aj h];exact ⟨λa=>absurd a h,λa=>absurd a.1 h⟩
end Go.Bw
end
section
namespace Go.Bw
open Go
structure Ren (l l':I cV) (f:Z->Z):Prop where
 len:l'.length=l.length
 inv:∀k,f (f k)=k
 lt:∀k,k<l.length->f k<l.length
 get:∀k,k<l.length->l'[f k]? = l[k]?
variable {qQ:Z->Z} {bE:Z}
def Ren.nm {l a:I cV}  (h:Ren l a qQ)  (b:bE<l.length):jm a (qQ bE)=jm l bE:=by unfold jm;rw [h.get bE b]
variable {dh so:I cV}
def Ren.us (h:Ren dh so qQ)  (a:bE<dh.length):tq so (qQ bE)=tq dh bE:=by unfold tq;rw [h.get bE a]
def Ren.back (h:Ren dh so qQ):Ren so dh qQ:=⟨h.len.symm,h.inv,λk a=>by rw [h.len] at a ⊢;exact h.lt k a,λk a=>by rw [h.len] at a;have:=h.get (qQ k)<|h.lt k a;rw [h.inv] at this;exact this.symm⟩
def Ren.mem (h:Ren dh so qQ) {m:cV} (b:m ∈ dh):m ∈ so:=by obtain ⟨k,a⟩:=jd b;have c:=(cN.1 a).1;rw [<-h.get k c] at a;exact aW a
def Ren.nodup (h:Ren dh so qQ) (g:(jl dh).Nodup):(jl so).Nodup:=by
 unfold I.Nodup;rw [Ew];intro i j hi a m e;rw [lu] at hi a;have f:jm so i=jm so j:=by have b:=AC<|cy hi;have c:=AC<|cy a;rw [cy (by rw [lu];exact hi)] at b;rw [cy (by rw [lu];exact a)] at c;injection b with b;injection c with c;rw [uz<|cy hi,uz<|cy a,<-b,<-c,e]
 have d:=h.back;rw [<-d.nm hi,<-d.nm a] at f;have k:=FM g (by have:=d.lt i hi;rw [h.len] at this;exact this) (by have:=d.lt j a;rw [h.len] at this;exact this) f;have l:=congrArg qQ k;rw [h.inv,h.inv] at l;omega
def Ren.place (h:Ren dh so qQ) (c:(jl dh).Nodup) {s:I ar}  (d:k6 dh s=aa bE):k6 so s=aa (qQ bE):=by obtain ⟨a,e⟩:=OL d;have b:=W5 (h.nodup c) (i:=qQ bE) (by rw [h.len];exact h.lt bE a);rw [h.nm a,e] at b;exact b
def Ren.ok (h:Ren dh so qQ) (a:AB dh):AB so:= ⟨by rw [h.len];exact a.fH,λm b=>a.vI m<|h.back.mem b,h.nodup a.nd,λm b s c=>by obtain ⟨p,d⟩:=a.aN m (h.back.mem b) s c;exact ⟨qQ p,h.place a.nd d⟩⟩
def Ren.contains (h:Ren dh so qQ) (d:I Z) (x:Z):(d.map qQ).contains (qQ x)=d.contains x:=by
 rw [mA];simp only [EB,o2];constructor;·rintro ⟨y,a,e⟩;have:=congrArg qQ e;rw [h.inv,h.inv] at this;rw [<-this];exact a
 ·exact λb=>⟨x,b,O⟩
def Ren.ready (h:Ren dh so qQ) (c:AB dh) (d:I Z)  (b:bE<dh.length):ph so (d.map qQ) (qQ bE)=ph dh d bE:=by
 unfold ph;rw [h.contains,h.us b];congr 1;have key:∀u:I<|I ar,(∀s ∈ u,∃p,k6 dh s=aa p)->u.all (cP so<|d.map qQ)=u.all (cP dh d):=by intro u;induction u with| nil=>intro _;rfl| cons s r g=>intro e;obtain ⟨p,f⟩:=e s aK;rw [x',x',g λs a=>e s (by simp [a])];congr 1;unfold cP;rw [f,h.place c.nd f];exact h.contains d p
 refine key _ λs a=>?_;rw [OM<|cy b] at a;exact c.aN _ (sD b) s a
end Go.Bw
end
section
namespace Go.Bw
open Go
def rB (a b:I aS):Prop:=∀j:Z,a[j]? = aa ad->b[j]? = aa ad
def rB.refl (a:I aS):rB a a:=λ_ h=>h
def rB.count:∀{a b:I aS},a.length=b.length->rB a b->a.count ad<=b.count ad/\(b.count ad<=a.count ad->a=b)
 | [],[],_,_=>⟨c7 _,λ_=>rfl⟩| [],_::_,h,_=>by cases h| _::_,[],h,_=>by cases h
 | x::a,y::b,h,c=>by
  obtain ⟨d,f⟩:=rB.count (a:=a) (b:=b) (by simpa using h) λj g=>by simpa using c (j+1) (by simpa using g)
  have i:x=ad->y=ad:=λe=>by simpa using c 0 (by simp [e])
  cases x<;>cases y<;>simp at i ⊢;·exact ⟨d,f⟩
  ·exact ⟨ai,ai⟩
  ·exact ⟨d,f⟩
def rB.set (a:I aS) (p:Z):rB a<|a.set p ad:=λj h=>by
 have b:=(cN.1 h).1;rw [eu];by_cases e:p=j;·subst e;simp [b]
 ·rw [aj e];exact h
def rB.trans {a b c:I aS} (h:rB a b) (k:rB b c):rB a c:=λj d=>k j<|h j d
def JW (l:I cV) (nm:I ar) (S:I aS) (j:Z):Prop:=S[j]? = aa ad\/jm l j=nm
def AM (l:I cV) (S:I aS) (s:I ar):Prop:=∃p,k6 l s=aa p/\S[p]? = aa ad
variable {dh:I cV} {dr lV:I aS} {bc:I ar}
def AM.sub (h:AM dh dr bc) (a:rB dr lV):AM dh lV bc:=let ⟨p,b,c⟩:=h; ⟨p,b,a p c⟩
def XW (l:I cV) (nm:I ar) (S:I aS):Prop:=∀j,j<l.length->JW l nm S j->∀s ∈ tq l j,AM l S s
structure XX (l:I cV) (nm:I ar) (S:I aS):Prop where
 len:S.length=l.length
 sound:∀j,S[j]? = aa ad->Go.Bw.Reach l nm (jm l j)
structure JX (l:I cV) (nm:I ar) (S0 S:I aS) (j:Z):Prop where
 ok:XX l nm S
 sub:rB S0 S
 same:XW l nm S0->S=S0
 done:∀i,i<j->JW l nm S0 i->∀s ∈ tq l i,AM l S s
variable {bE:Z}
def JX.next (h:JX dh bc dr lV bE) (c:JW dh bc dr bE->∀s ∈ tq dh bE,AM dh lV s):JX dh bc dr lV<|bE+1:= ⟨h.ok,h.sub,h.same,λi hi b=>by
 rcases oq.1 hi with a | a;·exact h.done i a b
 ·subst a;exact c b⟩
def XY (a b:I ar):Prop:=lT a b=ad
def XZ (l:I cV) (S:I aS) (i:Z):I<|I ar:=((lf i).filter λj=>(S[j]?).getD aq).map<|jm l
structure aib (l:I cV) (S:I aS) (i:Z) (out:I<|I ar):Prop where
 perm:out.Perm<|XZ l S i
 up:p4 XY out out.length
open Go.ChangeShapes Go.WideShapes Go.ChangeAt Go.RowKit Go.Joins Go.Deep
variable {iI:dJ} {aB:Type} {cm:aP} {CQ:Z->aS} {dS:aS} {bx eY:cn} {Oh:_root_.Go.Reach} {aL:Z} {ae:aR} {Pw:I MemPlace}
def open_ints {enc:TypeId×Value->aB}     (e:Ar aB)  (uI:iI.underlying bx=some (.int .i64)) (f:iI.cellsOf bx=1) (g:∀b,CQ b=true) (uS:iI.underlying eY=some (.slice bx)) {x:DataW aB}  (i:Value.okWide iI cm Oh aL eY ae) (h:DataW.Trod enc iI cm bE CQ dS eY ae x Pw):∃(a:Option Addr) (c:Nat) (l:List Int),ae = .slice a l.length c/\Sl gW 1 (hv cm) a c l:=by
 obtain ⟨a,k,c,rfl⟩:=okWide_slice uS i;obtain ⟨fuel,h⟩:=h;obtain ⟨a,c,l,j,m,_⟩:=Ol (rd:=gW) e (λ_=>0) (λ_=>0) rfl (λ_ _=>rfl) uS f ai g (λs d y t n p=>by
  obtain ⟨z,rfl⟩:∃z,d=[z]:=by match d,p with| [z],_=>exact ⟨z,rfl⟩
  obtain ⟨q,rfl⟩:=WF uI n;exact ⟨q,λb o r=>r,dw _⟩) h;exact ⟨a,c,l,j,m⟩
open Go.ChangeShapes Go.WideShapes Go.ChangeAt Go.RowKit Go.Joins Go.Deep
def open_strs {enc:TypeId×Value->aB}     (d:Ar aB)  (uT:iI.underlying bx=some .string) (f:iI.cellsOf bx=1) (g:∀b,CQ b=true) (uS:iI.underlying eY=some (.slice bx)) {x:DataW aB}  (i:Value.okWide iI cm Oh aL eY ae) (h:DataW.Trod enc iI cm bE CQ dS eY ae x Pw):∃(a:Option Addr) (c:Nat) (l:List (List UInt8)),ae = .slice a l.length c/\Sl rdStr 1 (hv cm) a c l:=by
 obtain ⟨a,k,c,rfl⟩:=okWide_slice uS i;obtain ⟨fuel,h⟩:=h;obtain ⟨a,c,l,j,m,_⟩:=Ol (rd:=rdStr) d (λ_=>0) (λ_=>0) rfl (λ_ _=>rfl) uS f ai g (λs e y t n p=>by
  obtain ⟨z,rfl⟩:∃z,e=[z]:=by match e,p with| [z],_=>exact ⟨z,rfl⟩
  obtain ⟨q,rfl,_⟩:=ahz d uT n;exact ⟨q,λb o r=>r,dw _⟩) h;exact ⟨a,c,l,j,m⟩
end Go.Bw
end
section
namespace Go.Proofs.YtgeahfjicmlocaaGreatDoor.Mch
open Go.Bw Go.Proofs.Tryz
structure ce where
 op:ac
 a:ac
 b:ac
deriving DecidableEq
def ce.cells (x:ce):I aR:=[am an x.op,am an x.a,am an x.b]
def qN (a:View) (b o:Z) (x:ce):Prop:=cB a b o x.cells
def goes (op:ac):aS:=op==11||op==12||op==13
def vU (i:ce):aS:=decide (i.op<1)||decide (22<i.op)
def h1 (code:I ce) (data:ac):ac:= if (decide ((code.length:ac)<1)||decide (2048<(code.length:ac)))=ad then 2 else if code.any vU=ad then 4 else if (decide (data<0)||decide (512<data))=ad then 3 else 0
variable {aB:Type} {F':aB->aS} {cv:I aB}
def any_false (h:∀(j:Z) (x:aB),cv[j]? = aa x->F' x=aq):cv.any F'=aq:=by rw [vq];intro x a;obtain ⟨j,b⟩:=jd a;simp [h j x b]
def any_true {j:Z} {x:aB} (a:cv[j]? = aa x) (h:F' x=ad):cv.any F'=ad:=ta.2 ⟨x,aW a,h⟩
def nf:aT aC 57 0=aa 0:=ah
def hE:g_ aC 55=aa 3:=ah
def xk:i2 aC 62=aa 3:=ah
def iq:zeroOf aC 62=aa (b0 #[am an 0,am an 0,am an 0]):=ah
def yT:e2 aC 62=aa 3:=ah
def sp:aT aC 62 0=aa 0:=ah
def CR:aT aC 57 1=aa 1:=ah
def Px (k:View) (a:aA a6) (c:Z) (code:I ce) (data:ac) (w:aP) (u:Le k w) (m:Sl qN 3 k a c code) : cx aC 81 #[b0 #[aE a code.length c,am an data]] w λe d=>e = cf (am an<|h1 code data)/\Ext w d:=by
 have z:=m.cap;have A:=m.max;refine enter func81 O 39 O O<|CE (Vs:=[k]) (Ws.init (by simp [u]))<|ak ?_;refine WL.box Y O O λB=>au O<|ag<|Cs<|ak<|V0 (Yf nf O)<|V0 (Yd 0 O O O ah)<|V0 (Yn hE O)<|V0 (c8 O O)<|ab O ?_;apply Lo 4 O O O O Y O O O O O;·intro C;refine Vg (Yf nf O)<|Vg (Yd 0 O O O ah)<|Vg (Yn hE O)<|Vg (eZ O O) ?_;exact Gt 4 O O O
 refine ag<|Cc O (λf=>?_)<|λf=>?_;·refine ak<|au O<|ag<|bu<|Er ?_;refine R1 O O λd b=>⟨by rw [h1,aD f],b.fr⟩
 refine ay<|Cs<|ak<|V0 (Yf nf O)<|V0 (Yd 0 O O O ah)<|V0 (Yn hE O)<|ab O<|ag<|Cb ?_;refine pL (ι:=Z) (λi=>[(18,am an (i:ac))]) [(1,_),(16,_),(17,_)] (λi=>i<=code.length/\∀j x,j<i->code[j]? = aa x->vU x=aq) (λi=>code.length-i) 0 ⟨dw _,aK⟩ λi ⟨hi,s⟩=>ak<|V0 (c8 O O)<|ag<|Cs ?_;refine Cc O (λn=>?_)<|λn=>?_
 ·have v:i<code.length:=by simpa using n
  obtain ⟨x,o⟩:=bk v;obtain ⟨pb,y,D,p⟩:=m.ct i x o;have p:cB k pb (y+i*3) x.cells:=p;refine ay<|Cs<|Cb<|ak<|V0 (Yo hE O O zM ai)<|V0 (eB 0 xk O O O<|p) ?_;refine Al Y O iq λE=>aw 0 Y O O O yT O O O<|ag<|ak<|V0 (Yf sp O)<|V0 (Yd 0 O O O ah)<|V0 (c8 O O)<|ab O ?_;apply Lo 3 O O O O Y O O O O O;·intro F;refine Vg (Yf sp O)<|Vg (Yd 0 O O O ah)<|Vg (eZ O O) ?_;exact Gt 3 O O O
  refine ag<|Cc O (λq=>?_)<|λq=>?_;·refine ak<|au O<|ag<|bu<|aU<|Er<|Er<|aU<|Er ?_;refine R1 O O λd b=>⟨by rw [h1,aj (by simp [f]),aD<|any_true o q],b.fr⟩
  refine Ck<|Eb<|Et<|Cr<|V0 (Yi O O O ai)<|ab O<|Ln ?_;exact ep (i+1) ai ⟨ai,λj x l g=>by rcases oq.1 l with h | rfl;exact s j x h g;rw [o] at g;injection g with g;subst g;exact q⟩<|λ_ h=>Wd 1 h
 have G:¬i<code.length:=by simpa using n
 have t:code.any vU=aq:=any_false λj x l=>s j x (by have:=(cN.1 l).1;omega) l;refine Ce<|Ex<|Ex<|ee<|Et<|Cs<|ak<|V0 (Yf CR O)<|V0 (Yd 0 O O O ah)<|V0 (c8 O O)<|ab O ?_;apply Lo 3 O O O O Y O O O O O;·intro H;refine Vg (Yf CR O)<|Vg (Yd 0 O O O ah)<|Vg (eZ O O) ?_;exact Gt 3 O O O
 refine ag<|Cc O (λr=>?_)<|λr=>?_;·refine ak<|au O<|ag<|bu<|Er ?_;refine R1 O O λd b=>⟨by rw [h1,aj (by simp [f]),aj (by simp [t]),aD r],b.fr⟩
 refine ay<|ak<|au O<|ag<|bu ?_;refine R1 O O λd b=>⟨by rw [h1,aj (by simp [f]),aj (by simp [t]),aj (by simp [r])],b.fr⟩
end Go.Proofs.YtgeahfjicmlocaaGreatDoor.Mch
end
section
namespace Go.Proofs.YtgeahfjicmlocaaGreatDoor.Mch
open Go.Bw Go.Proofs.Tryz
def iC (b:aS):ac:=if b=ad then 1 else 0
def iV (op a b:ac):ac×aS:= if (op==9)=ad then (an.wrap<|a+b,ad) else if (op==10)=ad then (an.wrap<|a-b,ad) else if (op==11)=ad then (an.wrap<|a*b,ad) else if (op==14)=ad then (iC<|a==b,ad) else if (op==15)=ad then (iC<|decide<|a<b,ad) else (0,aq)
def F_ (op:ac):aS:=op==9||op==10||op==11||op==14||op==15
def ce.dR (x:ce):x.cells.length=3:=rfl
def Ga (b:aS) (w:aP) : cx aC 153 #[bW b] w λe a=>e = cf (am an<|iC b)/\Ext w a:=by
 refine enter func153 O 4 O O<|CE (Vs:=[]) (Ws.init aK)<|ak<|au O<|ag<|Cs<|ak<|ab O<|ag ?_;refine Cc O (λd=>?_)<|λd=>?_;·refine ak<|au O<|ag<|bu<|Er ?_;refine R1 O O λa c=>⟨by simp [iC, *],c.fr⟩
 refine ay<|ak<|au O<|ag<|bu ?_;refine R1 O O λa c=>⟨by simp [iC, *],c.fr⟩
def Py (op a b:ac) (w:aP) : cx aC 146 #[am an op,am an a,am an b] w λe d=>e = cf (cO #[am an (iV op a b).1,bW (iV op a b).2])/\Ext w d:=by
 refine enter func146 O 36 O O<|CE (Vs:=[]) (Ws.init aK)<|ak<|au O<|au O<|ag<|Cs<|ak<|ab O<|ag<|Cb<|ak<|V0 (bY O O) ?_;refine au O<|ag ?_;refine Cc O (λf=>?_)<|λf=>?_;·refine ak<|ab O<|ab O<|V0 (ud O O)<|au O<|au O<|ag<|bu<|aU<|Er ?_;refine WE.jv O O O λd c=>⟨by simp [iV, *],c.fr⟩
 refine ak<|V0 (bY O O)<|au O<|ag ?_;refine Cc O (λg=>?_)<|λg=>?_;·refine ak<|ab O<|ab O<|V0 (EP O O)<|au O<|au O<|ag<|bu<|aU<|Er ?_;refine WE.jv O O O λd c=>⟨by simp [iV, *],c.fr⟩
 refine ak<|V0 (bY O O)<|au O<|ag ?_;refine Cc O (λh=>?_)<|λh=>?_;·refine ak<|ab O<|ab O<|V0 (M3 O O)<|au O<|au O<|ag<|bu<|aU<|Er ?_;refine WE.jv O O O λd c=>⟨by simp [iV, *],c.fr⟩
 refine ak<|V0 (bY O O)<|au O<|ag ?_;refine Cc O (λi=>?_)<|λi=>?_;·refine ak<|ab O<|ab O<|V0 (bY O O)<|Lp Y O bp O (λw c=>Ga _ w)<|au O<|au O<|ag<|bu<|aU<|Er ?_;refine WE.jv O O O λd c=>⟨by simp [iV, *],c.fr⟩
 refine ak<|V0 (bY O O)<|au O<|ag ?_;refine Cc O (λj=>?_)<|λj=>?_;·refine ak<|ab O<|ab O<|V0 (c8 O O)<|Lp Y O bp O (λw c=>Ga _ w)<|au O<|au O<|ag<|bu<|aU<|Er ?_;refine WE.jv O O O λd c=>⟨by simp [iV, *],c.fr⟩
 refine Ck<|Eb<|Et<|ak<|au O<|au O<|ag<|bu ?_;refine WE.jv O O O λd c=>⟨by simp [iV, *],c.fr⟩
end Go.Proofs.YtgeahfjicmlocaaGreatDoor.Mch
end
section
namespace Go.Proofs.YtgeahfjicmlocaaGreatDoor.Mch
open Go.Bw Go.Proofs.Tryz
def iv (x:ac):I aR:=[am an x]
def jA (x:ac):(iv x).length=1:=rfl
structure gv where
 la:aA a6
 lc:Z
 loc:I ac
 back:ac
def gv.cells (f:gv):I aR:=[aE f.la f.loc.length f.lc,am an f.back]
def gv.own (f:gv):bh:=cQ 3 1 iv f.la f.lc f.loc
structure Pm where
 at_:ac
 sq:ac
 steps:ac
 stack:I ac
 de:I<|I ac×ac
 bn:I ac
 out:I ac
 data:I ac
 a0:ac
structure ax where
 at_:ac
 sq:ac
 steps:ac
 stack:I ac
 de:I gv
 bn:I ac
 out:I ac
 data:I ac
 a0:ac
 sa:aA a6
 sc:Z
 fa:aA a6
 fc:Z
 ia:aA a6
 ic:Z
 oa:aA a6
 oc:Z
 da:aA a6
 dc:Z
def gv.pu (f:gv):I ac×ac:=(f.loc,f.back)
def ax.pu (s:ax):Pm:=⟨s.at_,s.sq,s.steps,s.stack,s.de.map gv.pu,s.bn,s.out,s.data,s.a0⟩
def ax.obj (s:ax):Obj:=aY #[am an s.at_,am an s.sq,am an s.steps,aE s.sa s.stack.reverse.length s.sc,aE s.fa s.de.reverse.length s.fc,aE s.ia s.bn.length s.ic,am an 0,aE s.oa s.out.length s.oc,aE s.da s.data.length s.dc,am an s.a0] 163 (0,0)
abbrev ax.own (b:Z) (s:ax):I bh:=[aQ b s.obj,cQ 3 1 iv s.sa s.sc s.stack.reverse,cQ 269 2 gv.cells s.fa s.fc s.de.reverse,cQ 3 1 iv s.oa s.oc s.out,cQ 3 1 iv s.da s.dc s.data,hg<|s.de.map gv.own]
inductive Rz (α:Type) where
 | ok (a:α) (m:Pm)
 | ov (e:Int) (m:Pm)
def Rz.bind {α β:Type} (r:Rz α) (f:α->Pm->Rz β):Rz β:=match r with| .ok a m=>f a m| .ov e m=>.ov e m
def sr (e:ac):I oZ:=[⟨.iface 165<|b0 #[am an e],aq,aq⟩]
def eH (m:Pm):Rz ac:=match m.stack with| []=>.ov 6 m| x::r=>.ok x { m with stack:=r }
def gh (n:ac) (m:Pm):Rz ef:=if m.stack.length=2048 then .ov 6 m else .ok () { m with stack:=n::m.stack }
def n6 (m:Pm):Rz ef:=if m.a0=m.sq then .ov 3 m else .ok () { m with a0:=an.wrap<|m.a0+1 }
def k9 (op:ac) (m:Pm):Rz ef:=if (decide (op<9)||decide (15<op))=ad then .ov 6 m else (eH m).bind λb m=>(eH m).bind λa m=> if (iV op a b).2=ad then gh (iV op a b).1 m else if b=0 then .ov 1 m else gh (if op=13 then a.tmod b else an.wrap (a.tdiv b)) m
def p_ (a b:ac) (m:Pm):Rz ef:=if ((((decide (a<0)||decide (b<0))||decide (2048<a))||decide (an.wrap (2048-a)<b))||decide ((m.stack.length:ac)<a))=ad then .ov 6 m else .ok () { m with stack:=m.stack.drop a.toNat,de:=match m.de with| []=>[]| f::r=>((m.stack.take a.toNat).reverse++gb b.toNat 0,f.2)::r }
def qa (to:ac) (m:Pm):Rz ef:=(n6 m).bind λ_ m=>if 24<m.de.length then .ov 4 m else .ok () { m with de:=([],m.at_)::m.de,at_:=to }
def f' (m:Pm):Rz ef:=if m.de.length=1 then .ov 6 m else match m.de with| []=>.ov 6 m| f::r=>.ok () { m with at_:=f.2,de:=r }
def oJ (m:Pm):ac×Pm:=match m.bn with| []=>(0,m)| x::r=>(x,{ m with bn:=r })
def bq (at_:ac) (n:Z):aS:=decide (at_<0)||decide ((n:ac)<=at_)
def X0:hW aC 165=aa [(0,1)]:=ah
def Pz:zeroOf aC 165=aa (b0 #[am an 0]):=ah
def X1:aC.concrete 165=ad:=ah
def X2 (b:aS) (e:ac) (w:aP) : cx aC 84 #[bW b,am an e] w λf a=>(∃_:ef,f = cf (cO #[])/\b=aq/\Ext w a)\/(∃_:ef,f = .panicked (sr e)/\b=ad/\Ext w a):=by
 refine enter func84 O 8 O O<|CE (Vs:=[]) (Ws.init aK)<|ak<|ab O<|ag ?_;refine Cc O (λc=>?_)<|λc=>?_;·refine Cr<|ab O<|V0 (Yb Pz X0 O O)<|V0 (r6 X1 O) ?_;refine WL.panic Y O<|b_ λa d=>be ⟨(),O,c,d.fr⟩
 refine Ck<|E0 O λa d=>bB ⟨(),O,c,d.fr⟩
end Go.Proofs.YtgeahfjicmlocaaGreatDoor.Mch
end
section
namespace Go.Proofs.YtgeahfjicmlocaaGreatDoor.Mch
open Go.Bw Go.Proofs.Tryz
def lW (a:View) (b o:Z) (x:ac):Prop:=vc a b o=aa (am an x)
def su (a:View) (b o:Z) (x:ac) (h:cB a b o<|iv x):lW a b o x:=h 0 _ rfl
def gv.dR (f:gv):f.cells.length=2:=rfl
structure ax.km (HI:View) (s:ax):Prop where
 bn:Sl lW 1 HI s.ia s.ic s.bn
 bF:s.stack.length<=2048
 ml:1<=s.de.length/\s.de.length<=25
 out:s.out.length<=200
 hr:s.data.length<=512
abbrev ax.fT (s:ax) (r:I ac):ax:={ s with stack:=r }
def ax.km.stack {a:View} {s:ax} (h:s.km a) {r:I ac} {sa:aA a6} {sc:Z} (b:r.length<=2048):ax.km a { s with stack:=r,sa:=sa,sc:=sc }:=⟨h.bn,b,h.ml,h.out,h.hr⟩
def vW {α:Type} (f:FuncId) (vs:I aR) (c:Pm->Rz α) (v:α->aR):Prop:=Enters aC f/\∀(a:Z) (s:ax) (b:View) (w:aP),s.km b->Ws w ((ax.own a s).flatMap bh.ids) (ax.own a s) [b] w->cx aC f (b8 (aa ⟨a,0,ao⟩)::vs).toArray w λe d=> (∃r:α×ax,e = cf (v r.1)/\(c s.pu = .ok r.1 r.2.pu/\r.2.km b)/\Ws w ((ax.own a s).flatMap bh.ids) (ax.own a r.2) [b] d)\/(∃r:ac×ax,e = .panicked (sr r.1)/\c s.pu = .ov r.1 r.2.pu/\Ws w ((ax.own a s).flatMap bh.ids) (ax.own a r.2) [b] d)
def ng {α:Type} {f:FuncId} {vs:I aR} {c:Pm->Rz α} {v:α->aR} {a:Z} {s:ax} {b:View} {ops:bH cg} {Q:di->cY->aP->Prop} {n:Z} {ds:I fw} {l:I<|Z×aR} {e:aP} {F:I Z} {L L2:I bh} {Vs:I View} {rest:I cg} {d:Z} {ty:cn} {pos:fO} {af:bH fY} {g:aA<|Z×aS} {args:bH ei} {ts:bH cn} (hC:vW f vs c v) (h:s.km b) (i:∀r:ac×ax,c s.pu = .ov r.1 r.2.pu->WE Q (.panic<|sr r.1) n ds l (Ws e F (ax.own a r.2++L2) Vs)) (j:∀r:α×ax,(c s.pu = .ok r.1 r.2.pu/\r.2.km b)->WL aC ops Q n ds ((d,v r.1)::l) (Ws e F (ax.own a r.2++L2) Vs) rest) (k:h' l args.toList=aa (b8 (aa ⟨a,0,ao⟩)::vs):=by rfl) (hL:L=ax.own a s++L2:=by rfl) (m:∀X ∈ [b],X ∈ Vs:=by simp) (o:eS ops l g:=by first|exact bB rfl|exact be ⟨_,_,_,rfl,rfl,rfl⟩) (p:e' d n=ad:=by rfl):WL aC ops Q n ds l (Ws e F L Vs)<|⟨aa d,.call ⟨.value<|.func f,args,ts⟩,ty,pos,af,g⟩::rest:= bU (ι:=α×ax) (κ:=ac×ax) (ax.own a s) L2 o p hC.1 k hL (λr=>v r.1) (λr=>ax.own a r.2) (λr=>c s.pu = .ok r.1 r.2.pu/\r.2.km b) (λr=>sr r.1) (λr=>ax.own a r.2) (λr=>c s.pu = .ov r.1 r.2.pu) [b] m (λw q=>hC.2 a s b w h q) i j
def e8:g_ aC 29=aa 1:=ah
def n7:aT aC 163 3=aa 3:=ah
def mixed:aC.follows .mixedOrders=ad:=ah
def lX:e2 aC 29=aa 1:=ah
def gn:ii aC 29 3 (am an 0) 1 8:=j_ ah
def qb {c:aS} {z:ac} {ops:bH cg} {Q:di->cY->aP->Prop} {n:Z} {ds:I fw} {l:I<|Z×aR} {a:aP} {F:I Z} {L:I bh} {Vs:I View} {rest:I cg} {d:Z} {ty:cn} {pos:fO} {af:bH fY} {g:aA<|Z×aS} {args:bH ei} {ts:bH cn} (k:c=ad->WE Q (.panic<|sr z) n ds l (Ws a F L Vs)) (m:c=aq->WL aC ops Q n ds ((d,cO #[])::l) (Ws a F L Vs) rest) (o:h' l args.toList=aa [bW c,am an z]:=by rfl) (p:eS ops l g:=by first|exact bB rfl|exact be ⟨_,_,_,rfl,rfl,rfl⟩) (q:e' d n=ad:=by rfl):WL aC ops Q n ds l (Ws a F L Vs)<|⟨aa d,.call ⟨.value<|.func 84,args,ts⟩,ty,pos,af,g⟩::rest:= bU (ι:=ef) (κ:=ef) [] L p q bp o rfl (λ_=>cO #[]) (λ_=>[]) (λ_=>c=aq) (λ_=>sr z) (λ_=>[]) (λ_=>c=ad) [] aK (λw j=>(X2 c z w).mono λe r h=>by
 rcases h with ⟨_,b,f,i⟩ | ⟨_,b,f,i⟩;·exact bB ⟨(),b,f,j.ext i⟩
 ·exact be ⟨(),b,f,j.ext i⟩) (λ_ h=>k h)<|λ_ h=>m h
def X4 (b:Z) (s:ax) (f:View)  (w:aP) (g:s.km f) (i:Ws w ((ax.own b s).flatMap bh.ids) (ax.own b s) [f] w) :
   cx aC 152 #[b8 (aa ⟨b,0,ao⟩)] w λe k=>(∃r:ac×I ac,e = cf (am an r.1)/\(eH s.pu = .ok r.1 (ax.fT s r.2).pu/\(ax.fT s r.2).km f)/\Ws w ((ax.own b s).flatMap bh.ids) (ax.own b<|ax.fT s r.2) [f] k)\/(∃r:ac×ax,e = .panicked (sr r.1)/\eH s.pu = .ov r.1 r.2.pu/\Ws w ((ax.own b s).flatMap bh.ids) (ax.own b r.2) [f] k):=by
 have m:s.stack.reverse.length=s.stack.length:=aK;have o:s.de.reverse.length=s.de.length:=aK;have t:=g.bF;have u:=g.ml;have v:=g.out;have z:=g.hr;refine enter func152 O 38 O O<|CE i<|ak<|au O<|ag<|ak<|ab O<|V0 (bS O)<|V0 (Yf n7 O)<|V0 (Yd 0 O O O ah) ?_;refine V0 (Yn e8 O)<|V0 (bY O O) ?_;refine qb (c:=((s.stack.reverse.length:Z):ac)==0) ?_ ?_
 ·intro j;refine Ep<|b_ λk i=>be ⟨(6,s),O,?_,i⟩;have a:s.stack=[]:=by cases h:s.stack with| nil=>rfl| cons x r=>rw [m,h] at j;simp at j;omega
  unfold eH;rw [show s.pu.stack=[] from a]
 intro j;refine ag<|Cs ?_;obtain ⟨x,r,a⟩:∃x r,s.stack=x::r:=by cases h:s.stack with| nil=>rw [m,h] at j;cases j| cons x r=>exact ⟨x,r,rfl⟩
 refine WC.tf 1 O (by rw [m,a];simp) λA n B C=>?_;have D:s.stack.length=r.length+1:=by rw [a];rfl
 refine CU (λ_=>ad) [] [] (.q aq 0<|.q aq 1<|.q aq 2<|.q ad 3<|.q aq 4<|.q aq 5<|.q aq 6<|.q ad 7<|.q aq 8<|.q aq 9<|.q aq 10<|.q ad 11<|.q aq 12 .nil) mixed ah (λ_ _ _ d _ _ h=>by cases d<;>exact h)<|U0 O a' (Ym O)<|U0 O a' (bS O)<|U0 O a' (Yf n7 O)<|U0 O a' (Yd 0 O O O ah)<|U0 O a' (Ym O)<|U0 O a' (bS O)<|U0 O a' (Yf n7 O)<|U0 O a' (Yd 0 O O O ah) ?_;refine U0 O a' (Yn e8 O)<|U0 O a' (dC ((r.length:Z):ac) O O ai ai)<|U0 O a' (Yo e8 O O n ai) ?_;refine U0 O a' (nU (y:=x) 1 r.length 0 O O n O jA (by rw [a,ye,pH aK];simp) O ah)<|U0 O a' (Ya O)<|WU.nil a'<|WS.nil<|Et<|Cs ?_;refine CU (λ_=>ad) [] [14] (.q aq 0<|.q aq 1<|.q aq 2<|.q aq 3<|.q ad 4<|.q aq 5<|.q aq 6<|.q aq 7<|.q ad 8<|.q aq 9<|.q aq 10<|.q aq 11<|.q aq 12<|.q aq 13 .nil) mixed ah (λ_ _ _ d _ _ h=>by cases d<;>exact h)<|U0 O a' (Ym O)<|U0 O a' (Ym O)<|U0 O a' (bS O)<|U0 O a' (Yf n7 O)<|U0 O a' (Yd 0 O O O ah)<|U0 O a' (Ym O)<|U0 O a' (bS O)<|U0 O a' (Yf n7 O) ?_;refine U0 O a' (Yd 0 O O O ah)<|U0 O a' (Yn e8 O)<|U0 O a' (dC ((r.reverse.length:Z):ac) O O (by simp;omega) (by simp;omega))<|U0 O a' (vC r.reverse.length e8 O (λp l=>by rw [n] at l;injection l with l;subst l;rfl) O O (by simp;omega))<|U0 O a' (bS O)<|U0 O a' (Yf n7 O) ?_;refine WU.nil a'<|WS.e O<|aw 0 Y O O O lX O O O<|WL.Ci 1 r.reverse O jA (by simp [a]) (by rw [a];simp)<|Ln<|Es ?_;refine WS.nil<|Et<|ak<|ab O<|au O<|ag<|bu ?_;refine R1 O O λk i=>bB ⟨(x,r),O,⟨?_,ax.km.stack (r:=r) (sa:=s.sa) (sc:=s.sc) g ai⟩,i⟩;unfold eH;rw [show s.pu.stack=x::r from a];rfl
def sv (n:ac):vW 149 [am an n] (gh n)<|λi:ef=>cO #[]:=by
 refine ⟨bp,λl s m w a b=>?_⟩;have e:s.stack.reverse.length=s.stack.length:=aK;have o:s.de.reverse.length=s.de.length:=aK;have p:=a.bF;have q:=a.ml;have r:=a.out;have t:=a.hr;refine enter func149 O 21 O O<|CE b<|ak<|ab O<|V0 (bS O)<|V0 (Yf n7 O)<|V0 (Yd 0 O O O ah)<|V0 (Yn e8 O)<|V0 (bY O O) ?_;refine qb (c:=((s.stack.reverse.length:Z):ac)==2048) ?_ ?_;·intro d;refine Ep<|b_ λf b=>be ⟨(6,s),O,by rw [gh,aD (show s.pu.stack.length=2048 from by rw [e] at d;simp at d;show s.stack.length=2048;omega)],b⟩
 intro d;refine ag ?_;have g:¬s.stack.length=2048:=by intro h;rw [e,h] at d;cases d
 refine Cr<|ab O<|ab O<|V0 (bS O)<|V0 (Yf n7 O)<|V0 (Yd 0 O O O ah)<|ab O ?_;refine Lb Y O gn O O O O λu=>LA n 2 0 Y O gn O O O O O O ai ai λj k=>?_;rw [show s.stack.reverse++[n]=(n::s.stack).reverse by simp];refine V0 (bS O)<|V0 (Yf n7 O)<|aw 1 Y O O O lX O O O<|Ln ?_;refine E0 O λf b=>bB ⟨((),{ s with stack:=n::s.stack,sa:=j,sc:=k }),O,⟨by rw [gh,aj<|show ¬s.pu.stack.length=2048 from g];rfl,a.stack (by simp;omega)⟩,Wd 1 b⟩
end Go.Proofs.YtgeahfjicmlocaaGreatDoor.Mch
end
section
namespace Go.Proofs.YtgeahfjicmlocaaGreatDoor.Mch
open Go.Bw Go.Proofs.Tryz
def vX:aT aC 163 4=aa 4:=ah
def AO:g_ aC 160=aa 2:=ah
def rC:aT aC 163 6=aa 6:=ah
def vY:aT aC 64 3=aa 3:=ah
def X5:aT aC 163 1=aa 1:=ah
def eE:e2 aC 3=aa 1:=ah
def Gb:aT aC 163 5=aa 5:=ah
def qc {a:Z} {s:ax} {b:View} {ops:bH cg} {Q:di->cY->aP->Prop} {n:Z} {ds:I fw} {l:I<|Z×aR} {c:aP} {F:I Z} {L L2:I bh} {Vs:I View} {rest:I cg} {d:Z} {ty:cn} {pos:fO} {af:bH fY} {g:aA<|Z×aS} {args:bH ei} {ts:bH cn} (e:s.km b) (f:∀r:ac×ax,eH s.pu = .ov r.1 r.2.pu->WE Q (.panic<|sr r.1) n ds l (Ws c F (ax.own a r.2++L2) Vs)) (h:∀r:ac×I ac,(eH s.pu = .ok r.1 (ax.fT s r.2).pu/\(ax.fT s r.2).km b)->WL aC ops Q n ds ((d,am an r.1)::l) (Ws c F (ax.own a (ax.fT s r.2)++L2) Vs) rest) (i:h' l args.toList=aa [b8<|aa ⟨a,0,ao⟩]:=by rfl) (hL:L=ax.own a s++L2:=by rfl) (j:∀X ∈ [b],X ∈ Vs:=by simp) (k:eS ops l g:=by first|exact bB rfl|exact be ⟨_,_,_,rfl,rfl,rfl⟩) (m:e' d n=ad:=by rfl):WL aC ops Q n ds l (Ws c F L Vs)<|⟨aa d,.call ⟨.value<|.func 152,args,ts⟩,ty,pos,af,g⟩::rest:= bU (ι:=ac×I ac) (κ:=ac×ax) (ax.own a s) L2 k m bp i hL (λr=>am an r.1) (λr=>ax.own a<|ax.fT s r.2) (λr=>eH s.pu = .ok r.1 (ax.fT s r.2).pu/\(ax.fT s r.2).km b) (λr=>sr r.1) (λr=>ax.own a r.2) (λr=>eH s.pu = .ov r.1 r.2.pu) [b] j (λw o=>X4 a s b w e o) f h
def X6 (a:aA a6) (c n:Z) (i:ac) (w:aP) (j:0<n->∃b o,a=aa ⟨b,o,ao⟩) : cx aC 150 #[aE a n c,am an i] w λe f=>(∃r:Z×Z,e = cf (b8<|aa ⟨r.1,r.2+i.toNat*1,ao⟩)/\(bq i n=aq/\a=aa ⟨r.1,r.2,ao⟩)/\Ext w f)\/(∃_:ef,e = .panicked (sr 6)/\bq i n=ad/\Ext w f):=by
 refine enter func150 O 17 O O<|CE (Vs:=[]) (Ws.init aK)<|ak<|au O<|ag<|ak<|ab O<|V0 (c8 O O)<|ab O ?_;apply Lo 4 O O O O Y O O O O O;·intro l;refine Vg (Ym O)<|Vg (Ym O)<|Vg (Yn e8 O)<|Vg (h9 O O) ?_;exact Gt 4 O O O
 refine qb (c:=bq i n) ?_ ?_;·intro d;refine Ep<|b_ λf g=>be ⟨(),O,d,g.fr⟩
 intro d;refine ag<|Cs ?_;have h:0<=i/\i<n:=by unfold bq at d;simp at d;omega
 obtain ⟨k,co,rfl⟩:=j ai;refine Cr<|ab O<|ab O<|V0 (ES e8 O O h.1 h.2)<|au O<|ag<|bu ?_;refine R1 O O λf g=>bB ⟨(k,co),O,⟨d,O⟩,g.fr⟩
def X7 (a:Z) (s:ax) (c:View)  (w:aP) (b:s.km c) (f:Ws w ((ax.own a s).flatMap bh.ids) (ax.own a s) [c] w) : cx aC 151 #[b8 (aa ⟨a,0,ao⟩)] w λe g=>∃r:Z,e = cf (b8<|aa ⟨r,0+(s.de.length-1)*2,ao⟩)/\s.fa=aa ⟨r,0,ao⟩/\Ws w ((ax.own a s).flatMap bh.ids) (ax.own a s) [c] g:=by have l:s.stack.reverse.length=s.stack.length:=aK;have j:s.de.reverse.length=s.de.length:=aK;have m:=b.bF;have n:=b.ml;have o:=b.out;have p:=b.hr;refine enter func151 O 14 O O<|CE f<|ak<|au O<|ag<|Cs ?_;refine WC.tf 2 O ai λk i t u=>CU (λ_=>ad) [] [] (.q aq 0<|.q aq 1<|.q aq 2<|.q ad 3<|.q aq 4<|.q aq 5<|.q aq 6<|.q ad 7<|.q aq 8<|.q aq 9<|.q aq 10<|.q aq 11 .nil) mixed ah (λ_ _ _ d _ _ h=>by cases d<;>exact h)<|U0 O a' (Ym O)<|U0 O a' (bS O)<|U0 O a' (Yf vX O)<|U0 O a' (Yd 0 O O O ah)<|U0 O a' (Ym O)<|U0 O a' (bS O)<|U0 O a' (Yf vX O)<|U0 O a' (Yd 0 O O O ah) ?_;refine U0 O a' (Yn AO O)<|U0 O a' (dC ((s.de.length-1:Z):ac) O O (by rw [j];omega) ai)<|U0 O a' (Yo AO O O i ai)<|U0 O a' (Ya O) ?_;refine WU.nil a'<|WS.nil<|Et<|bu ?_;refine R1 O O λg f=>⟨k,O,i,f⟩
def xl {a:aA a6} {c k:Z} {i:ac} {ops:bH cg} {Q:di->cY->aP->Prop} {n:Z} {ds:I fw} {l:I<|Z×aR} {f:aP} {F:I Z} {L:I bh} {Vs:I View} {rest:I cg} {d:Z} {ty:cn} {pos:fO} {af:bH fY} {g:aA<|Z×aS} {args:bH ei} {ts:bH cn} (s:0<k->∃b o,a=aa ⟨b,o,ao⟩) (t:bq i k=ad->WE Q (.panic<|sr 6) n ds l (Ws f F L Vs)) (u:∀r:Z×Z,(bq i k=aq/\a=aa ⟨r.1,r.2,ao⟩)->WL aC ops Q n ds ((d,b8<|aa ⟨r.1,r.2+(i).toNat*1,ao⟩)::l) (Ws f F L Vs) rest) (v:h' l args.toList=aa [aE a k c,am an i]:=by rfl) (x:eS ops l g:=by first|exact bB rfl|exact be ⟨_,_,_,rfl,rfl,rfl⟩) (y:e' d n=ad:=by rfl):WL aC ops Q n ds l (Ws f F L Vs)<|⟨aa d,.call ⟨.value<|.func 150,args,ts⟩,ty,pos,af,g⟩::rest:= bU (ι:=Z×Z) (κ:=ef) [] L x y bp v rfl (λr=>b8<|aa ⟨r.1,r.2+(i).toNat*1,ao⟩) (λ_=>[]) (λr=>bq i k=aq/\a=aa ⟨r.1,r.2,ao⟩) (λ_=>sr 6) (λ_=>[]) (λ_=>bq i k=ad) [] aK (λw q=>(X6 a c k i w s).mono λe z h=>by
 rcases h with ⟨r,j,m,p⟩ | ⟨_,j,m,p⟩;·exact bB ⟨r,j,m,q.ext p⟩
 ·exact be ⟨(),j,m,q.ext p⟩) (λ_ h=>t h) u
def AP {a:Z} {s:ax} {b:View} {ops:bH cg} {Q:di->cY->aP->Prop} {n:Z} {ds:I fw} {l:I<|Z×aR} {c:aP} {F:I Z} {L L2:I bh} {Vs:I View} {rest:I cg} {d:Z} {ty:cn} {pos:fO} {af:bH fY} {g:aA<|Z×aS} {args:bH ei} {ts:bH cn} (e:s.km b) (f:∀r:Z,s.fa=aa ⟨r,0,ao⟩->WL aC ops Q n ds ((d,b8<|aa ⟨r,0+(s.de.length-1)*2,ao⟩)::l) (Ws c F (ax.own a s++L2) Vs) rest) (h:h' l args.toList=aa [b8<|aa ⟨a,0,ao⟩]:=by rfl) (hL:L=ax.own a s++L2:=by rfl) (i:∀X ∈ [b],X ∈ Vs:=by simp) (j:eS ops l g:=by first|exact bB rfl|exact be ⟨_,_,_,rfl,rfl,rfl⟩) (k:e' d n=ad:=by rfl):WL aC ops Q n ds l (Ws c F L Vs)<|⟨aa d,.call ⟨.value<|.func 151,args,ts⟩,ty,pos,af,g⟩::rest:= Lw (ι:=Z) (ax.own a s) L2 j k bp h hL (λr=>b8<|aa ⟨r,0+(s.de.length-1)*2,ao⟩) (λ_=>ax.own a s) (λr=>s.fa=aa ⟨r,0,ao⟩) [b] i (λw m=>X7 a s b w e m) f
def PA  : vW 158 [] n6<|λi:ef=>cO #[]:=by
 refine ⟨bp,λk s l w a b=>?_⟩;have m:s.stack.reverse.length=s.stack.length:=aK;have n:s.de.reverse.length=s.de.length:=aK;have o:=a.bF;have p:=a.ml;have r:=a.out;have t:=a.hr;refine enter func158 O 22 O O<|CE b<|Cs ?_;refine CU (λ_=>ad) [] [] (.q aq 0<|.q aq 1<|.q aq 2<|.q aq 3<|.q ad 4<|.q aq 5<|.q aq 6<|.q aq 7<|.q ad 8<|.q aq 9<|.e 10 .nil .stop) mixed ah (λ_ _ _ d _ _ h=>by cases d<;>exact h)<|U0 O a' (Ym O)<|U0 O a' (bS O)<|U0 O a' (Yf rC O)<|U0 O a' (Yf vY O)<|U0 O a' (Yd 0 O O O ah)<|U0 O a' (Ym O)<|U0 O a' (bS O)<|U0 O a' (Yf X5 O) ?_;refine U0 O a' (Yd 0 O O O ah)<|U0 O a' (bY O O) ?_;refine Ue O a' ?_ WU.stop;refine qb (c:=s.a0==s.sq) ?_ ?_;·intro f;refine Ep<|Ep ?_;refine b_ λg b=>be ⟨(3,s),O,by rw [n6,aD<|show s.pu.a0=s.pu.sq from (by simpa using f:s.a0=s.sq)],b⟩
 intro f;refine Ln<|Eu ?_;refine WU.nil a'<|WS.nil<|Et ?_;have j:¬s.a0=s.sq:=by simpa using f
 refine Cr<|ab O<|V0 (bS O)<|V0 (Yf rC O)<|V0 (Yf vY O)<|V0 (Yd 0 O O O ah)<|V0 (ud O O)<|V0 (bS O) ?_;refine V0 (Yf rC O)<|V0 (Yf vY O)<|aw 0 Y O O O eE O O O<|Ln ?_;refine E0 O λg b=>bB ⟨((),{ s with a0:=an.wrap<|s.a0+1 }),O,⟨by rw [n6,aj<|show ¬s.pu.a0=s.pu.sq from j];rfl,⟨a.bn,a.bF,a.ml,a.out,a.hr⟩⟩,b⟩
def X8 (op:ac):vW 154 [am an op] (k9 op)<|λi:ef=>cO #[]:=by
 refine ⟨bp,λx s y w n b=>?_⟩;have z:s.stack.reverse.length=s.stack.length:=aK;have A:s.de.reverse.length=s.de.length:=aK;have B:=n.bF;have C:=n.ml;have D:=n.out;have E:=n.hr;refine enter func154 O 42 O O<|CE b<|ak<|ab O<|V0 (c8 O O)<|ab O ?_;apply Lo 2 O O O O Y O O O O O;·intro F;refine Vg (Ym O)<|Vg (eZ O O) ?_;exact Gt 2 O O O
 refine qb (c:=decide (op<9)||decide (15<op)) ?_ ?_;·intro e;refine Ep<|b_ λj b=>be ⟨(6,s),O,by rw [k9,aD e],b⟩
 intro e;refine ag<|ak<|ab O ?_;refine qc n ?_ ?_;·intro a h;refine Ep<|b_ λj b=>be ⟨a,O,by rw [k9,aj (by rw [e];simp),h];rfl,b⟩
 intro a ⟨h,v⟩;refine au O<|ag<|ak<|ab O ?_;refine qc v ?_ ?_;·intro d k;refine Ep<|b_ λj b=>be ⟨d,O,by rw [k9,aj (by rw [e];simp),h];show Rz.bind (eH (ax.fT s a.2).pu) _=_;rw [k];rfl,b⟩
 intro d ⟨k,q⟩;refine au O<|ag<|ak<|ab O<|ab O<|ab O<|Lp Y O bp O (λw b=>Py _ _ _ w)<|ab O<|V0 (Yx O O) ?_;refine V0 (Yx O O)<|au O<|au O<|ag<|Cs<|ak<|ab O<|V0 (ih O)<|ag ?_;refine Cc O (λr=>?_)<|λr=>?_
 ·have l:(iV op d.1 a.1).2=aq:=by simpa using r
  refine ak<|ab O<|V0 (bY O O) ?_;refine qb (c:=a.1==0) ?_ ?_;·intro t;refine Ep<|Ep ?_;refine b_ λj b=>be ⟨(1,ax.fT (ax.fT s a.2) d.2),O,?_,b⟩;rw [k9,aj (by rw [e];simp),h];show Rz.bind (eH (ax.fT s a.2).pu) _=_;rw [k];show (if (iV op d.1 a.1).2=ad then _ else _)=_;rw [l,aj aK,aD (by simpa using t)]
  intro t;refine ag<|Cs ?_;have m:¬a.1=0:=by simpa using t
  refine Cr<|ab O<|ab O<|V0 (Ng O O m)<|au O<|ag<|ak<|ab O<|V0 (bY O O) ?_;refine ag<|Cc O (λu=>?_)<|λu=>?_
  ·have o:op=13:=by simpa using u
   refine Cr<|ab O<|ab O<|V0 (Nh O O m)<|au O<|ag<|Cr<|ab O<|ab O ?_;refine ng (sv<|d.1.tmod a.1) q ?_ ?_;·intro f g;refine b_ λj b=>be ⟨f,O,?_,b⟩;rw [k9,aj (by rw [e];simp),h];show Rz.bind (eH (ax.fT s a.2).pu) _=_;rw [k];show (if (iV op d.1 a.1).2=ad then _ else _)=_;rw [l,aj aK,aj m,aD o];rw [g]
   intro f ⟨g,p⟩;refine Ln<|E0 O λj b=>bB ⟨((),f.2),O,⟨?_,p⟩,b⟩;rw [k9,aj (by rw [e];simp),h];show Rz.bind (eH (ax.fT s a.2).pu) _=_;rw [k];show (if (iV op d.1 a.1).2=ad then _ else _)=_;rw [l,aj aK,aj m,aD o];rw [g]
  have o:¬op=13:=by simpa using u
  refine ay<|Cr<|ab O<|ab O ?_;refine ng (sv<|an.wrap<|d.1.tdiv a.1) q ?_ ?_;·intro f g;refine b_ λj b=>be ⟨f,O,?_,b⟩;rw [k9,aj (by rw [e];simp),h];show Rz.bind (eH (ax.fT s a.2).pu) _=_;rw [k];show (if (iV op d.1 a.1).2=ad then _ else _)=_;rw [l,aj aK,aj m,aj o];rw [g]
  intro f ⟨g,p⟩;refine Ln<|E0 O λj b=>bB ⟨((),f.2),O,⟨?_,p⟩,b⟩;rw [k9,aj (by rw [e];simp),h];show Rz.bind (eH (ax.fT s a.2).pu) _=_;rw [k];show (if (iV op d.1 a.1).2=ad then _ else _)=_;rw [l,aj aK,aj m,aj o];rw [g]
 have l:(iV op d.1 a.1).2=ad:=by simpa using r
 refine ay<|Cr<|ab O<|ab O ?_;refine ng (sv<|(iV op d.1 a.1).1) q ?_ ?_;·intro f g;refine b_ λj b=>be ⟨f,O,?_,b⟩;rw [k9,aj (by rw [e];simp),h];show Rz.bind (eH (ax.fT s a.2).pu) _=_;rw [k];show (if (iV op d.1 a.1).2=ad then _ else _)=_;rw [aD l];rw [g]
 intro f ⟨g,p⟩;refine Ln<|E0 O λj b=>bB ⟨((),f.2),O,⟨?_,p⟩,b⟩;rw [k9,aj (by rw [e];simp),h];show Rz.bind (eH (ax.fT s a.2).pu) _=_;rw [k];show (if (iV op d.1 a.1).2=ad then _ else _)=_;rw [aD l];rw [g]
def X9  : vW 159 [] (λm=>Rz.ok (oJ m).1 (oJ m).2)<|λi:ac=>am an i:=by
 refine ⟨bp,λp s g w a b=>?_⟩;have q:s.stack.reverse.length=s.stack.length:=aK;have t:s.de.reverse.length=s.de.length:=aK;have u:=a.bF;have v:=a.ml;have y:=a.out;have z:=a.hr;refine enter func159 O 25 O O<|CE b<|ak<|au O<|ag<|Cs<|ak<|ab O<|V0 (bS O)<|V0 (Yf Gb O)<|V0 (Yd 0 O O O ah) ?_;refine V0 (Yn e8 O)<|V0 (bY O O)<|ag ?_;refine Cc O (λd=>?_)<|λd=>?_
 ·have c:s.bn=[]:=by simpa using d
  refine ak<|au O<|ag<|bu<|Er ?_;refine R1 O O λj b=>bB ⟨(0,s),O,⟨?_,a⟩,b⟩;show Rz.ok (oJ s.pu).1 (oJ s.pu).2=_;unfold oJ;rw [show s.pu.bn=[] from c]
 obtain ⟨x,r,c⟩:∃x r,s.bn=x::r:=by cases h:s.bn with| nil=>rw [h] at d;cases d| cons x r=>exact ⟨x,r,rfl⟩
 obtain ⟨k,l,n,e⟩:=a.bn.ct 0 x (by rw [c];rfl);have e:vc g k (l+0*1)=aa (am an x):=e;have A:s.bn.length=r.length+1:=by rw [c];rfl
 have o:=a.bn.cap;refine ay<|ak<|ab O<|V0 (bS O)<|V0 (Yf Gb O)<|V0 (Yd 0 O O O ah)<|V0 (Yo (i:=0) e8 O O n ai)<|V0 (ew 0 ah O O<|e)<|au O ?_;refine ag<|ak<|ab O<|ab O<|V0 (bS O)<|V0 (Yf Gb O)<|V0 (Yd 0 O O O ah)<|V0 (Ch 1 e8 O O O ai o)<|V0 (bS O) ?_;refine V0 (Yf Gb O)<|aw 0 Y O O O lX O O O<|ag<|ak<|ab O<|au O<|ag<|bu ?_;refine R1 O O λj b=>?_;have f:=a.bn.drop 1 ai;rw [show s.bn.drop 1=r by rw [c];rfl] at f;rw [show s.bn.length-1=r.length by omega] at b;refine bB ⟨(x,{ s with bn:=r,ia:=_,ic:=s.ic-1 }),O,⟨?_,⟨f,a.bF,a.ml,a.out,a.hr⟩⟩,b⟩;show Rz.ok (oJ s.pu).1 (oJ s.pu).2=_;unfold oJ;rw [show s.pu.bn=x::r from c];rfl
end Go.Proofs.YtgeahfjicmlocaaGreatDoor.Mch
end
section
namespace Go.Proofs.YtgeahfjicmlocaaGreatDoor.Mch
open Go.Bw Go.Proofs.Tryz
def X':aT aC 269 1=aa 1:=ah
def g3:aT aC 163 0=aa 0:=ah
def PB:e2 aC 160=aa 1:=ah
def X_:hW aC 269=aa [(0,1),(1,1)]:=ah
def ahR:zeroOf aC 269=aa (b0 #[aE ao 0 0,am an 0]):=ah
def yU:ii aC 160 269 (b0 #[aE ao 0 0,am an 0]) 2 32:=j_ ah
def ahS  : vW 157 [] f'<|λi:ef=>cO #[]:=by
 refine ⟨bp,λv s x w b a=>?_⟩;have z:s.stack.reverse.length=s.stack.length:=aK;have l:s.de.reverse.length=s.de.length:=aK;have A:=b.bF;have m:=b.ml;have B:=b.out;have C:=b.hr;refine enter func157 O 31 O O<|CE a<|ak<|ab O<|V0 (bS O)<|V0 (Yf vX O)<|V0 (Yd 0 O O O ah)<|V0 (Yn AO O)<|V0 (bY O O) ?_;refine qb (c:=((s.de.reverse.length:Z):ac)==1) ?_ ?_;·intro j;refine Ep<|b_ λo a=>be ⟨(6,s),O,?_,a⟩;rw [f',aD (show s.pu.de.length=1 by show (s.de.map gv.pu).length=1;rw [l] at j;simp at j;simp;omega)]
 intro j;refine ag<|Cs ?_;have t:¬s.de.length=1:=by rw [l] at j;simp at j;omega
 obtain ⟨f,r,g⟩:∃f r,s.de=f::r:=by cases h:s.de with| nil=>rw [h] at m;simp at m| cons f r=>exact ⟨f,r,rfl⟩
 have u:s.de.length=r.length+1:=by rw [g];rfl
 refine WC.tf 2 O ai λD E F G=>Cr<|ab O<|ab O ?_;refine AP b λH n=>V0 (bS O)<|V0 (Yf X' O) ?_;refine V0 (nU (y:=f) 2 r.length 1 O O n (by rw [u];simp) gv.dR (by rw [g,ye,pH aK];simp) O ah)<|V0 (bS O)<|V0 (Yf g3 O)<|aw 0 Y O O O eE O O O<|ag ?_;refine CU (λ_=>ad) [] [14] (.q aq 0<|.q aq 1<|.q aq 2<|.q aq 3<|.q ad 4<|.q aq 5<|.q aq 6<|.q aq 7<|.q ad 8<|.q aq 9<|.q aq 10<|.q aq 11<|.q aq 12<|.q aq 13 .nil) mixed ah (λ_ _ _ d _ _ h=>by cases d<;>exact h)<|U0 O a' (Ym O)<|U0 O a' (Ym O)<|U0 O a' (bS O)<|U0 O a' (Yf vX O)<|U0 O a' (Yd 0 O O O ah)<|U0 O a' (Ym O)<|U0 O a' (bS O)<|U0 O a' (Yf vX O) ?_;refine U0 O a' (Yd 0 O O O ah)<|U0 O a' (Yn AO O)<|U0 O a' (dC ((r.reverse.length:Z):ac) O O (by simp;omega) (by simp;omega))<|U0 O a' (vC r.reverse.length AO O (λp k=>by rw [n] at k;injection k with k;subst k;rfl) O O (by simp;omega))<|U0 O a' (bS O)<|U0 O a' (Yf vX O) ?_;refine WU.nil a'<|WS.e O<|aw 0 Y O O O PB O O O<|WL.Ci 2 r.reverse O gv.dR (by simp [g]) (by rw [g];simp)<|Ln<|Es ?_;refine WS.nil<|E0 O λo a=>?_;have a:=Ws.eD (L:=[_,_,_,_,_,_]) a;rw [g] at a;have a:=a.V2 5 rfl;refine bB ⟨((),{ s with at_:=f.back,de:=r }),O,⟨?_,⟨b.bn,b.bF,⟨by show 1<=r.length;omega,by show r.length<=25;omega⟩,b.out,b.hr⟩⟩,a⟩;unfold f';rw [aj (show ¬s.pu.de.length=1 by show ¬(s.de.map gv.pu).length=1;simpa using t),show s.pu.de=f.pu::r.map gv.pu by show s.de.map gv.pu=_;rw [g];rfl];rfl
def Yc (to:ac):vW 155 [am an to] (qa to)<|λi:ef=>cO #[]:=by
 refine ⟨bp,λr s t w f a=>?_⟩;have u:s.stack.reverse.length=s.stack.length:=aK;have v:s.de.reverse.length=s.de.length:=aK;have x:=f.bF;have y:=f.ml;have z:=f.out;have A:=f.hr;refine enter func155 O 31 O O<|CE a<|ak<|ab O ?_;refine ng PA f ?_ ?_;·intro b k;refine Ep<|b_ λl a=>be ⟨b,O,by rw [qa,k];rfl,a⟩
 intro b ⟨k,g⟩;have m:b.2.de.reverse.length=b.2.de.length:=aK;have B:=g.ml;refine ag<|ak<|ab O<|V0 (bS O)<|V0 (Yf vX O)<|V0 (Yd 0 O O O ah)<|V0 (Yn AO O)<|V0 (eZ O O) ?_;refine qb (c:=decide<|24<((b.2.de.reverse.length:Z):ac)) ?_ ?_;·intro j;refine Ep<|b_ λl a=>be ⟨(4,b.2),O,?_,a⟩;rw [qa,k];show (if 24<b.2.pu.de.length then _ else _)=_;rw [aD (show 24<b.2.pu.de.length by show 24<(b.2.de.map gv.pu).length;rw [m] at j;simp at j;simp;omega)]
 intro j;refine ag<|Cs ?_;have n:¬24<b.2.de.length:=by rw [m] at j;simp at j;omega
 refine CU (λ_=>ad) [2] [14] (.q aq 0<|.q aq 1<|.q aq 2<|.q aq 3<|.q ad 4<|.q aq 5<|.q aq 6<|.q aq 7<|.q ad 8<|.q aq 9<|.e 10 (.e 11 (.q aq 12<|.q aq 13 .nil) .stop) .stop) mixed ah (λ_ _ _ d _ _ h=>by cases d<;>exact h)<|U0 O (Wp 2) (Ym O)<|U0 O (Wp 2) (Ym O)<|U0 O (Wp 2) (bS O)<|U0 O (Wp 2) (Yf vX O)<|U0 O (Wp 2) (Yd 0 O O O ah)<|U0 O (Wp 2) (Ym O)<|U0 O (Wp 2) (bS O)<|U0 O (Wp 2) (Yf g3 O) ?_;refine U0 O (Wp 2) (Yd 0 O O O ah)<|U0 O (Wp 2) (Yb ahR X_ O O) ?_;refine Ue O (Wp 2) ?_ WU.stop;refine Lb Y O yU O O O O λC=>Ln<|Eu ?_;refine Ue O (λ_ h=>(Wo 2<|Wd 1 h:)) ?_ WU.stop;refine LA ⟨ao,0,[],b.2.at_⟩ 3 0 Y O yU O O O O O O ai ai λo p=>?_;rw [show b.2.de.reverse++[(⟨ao,0,[],b.2.at_⟩:gv)]=((⟨ao,0,[],b.2.at_⟩:gv)::b.2.de).reverse by simp];refine Ln<|Eu<|U0 O (λ_ h=>(Wo 2<|Wd 1 h:)) (bS O)<|U0 O (λ_ h=>(Wo 2<|Wd 1 h:)) (Yf vX O) ?_;refine WU.nil (λ_ h=>(Wo 2<|Wd 1 h:))<|WS.e O<|aw 1 Y O O O PB O O O<|Ln<|Es ?_;refine WS.nil<|Et<|Cr<|ab O<|ab O<|V0 (bS O)<|V0 (Yf g3 O)<|aw 1 Y O O O eE O O O<|Ln ?_;refine E0 O λl a=>?_;have a:=a.bs 6 rfl;have a:=a.bs 6 rfl;have a:=a.bs 6 rfl;have a:=a.bs 6 rfl;have a:=a.bs 6 rfl;have a:=a.bs 6 rfl;have a:=Ws.eD (L:=[_,_,_,_,_,_]) a;have a:=a.NG 5 rfl 3 1;refine bB ⟨((),{ b.2 with at_:=to,de:=⟨ao,0,[],b.2.at_⟩::b.2.de,fa:=o,fc:=p }),O,⟨?_,⟨g.bn,g.bF,⟨aK,by simp;omega⟩,g.out,g.hr⟩⟩,a⟩;rw [qa,k];show (if 24<b.2.pu.de.length then _ else _)=_;rw [aj (show ¬24<b.2.pu.de.length by show ¬24<(b.2.de.map gv.pu).length;simpa using n)];rfl
end Go.Proofs.YtgeahfjicmlocaaGreatDoor.Mch
end
section
namespace Go.Proofs.YtgeahfjicmlocaaGreatDoor.Mch
open Go.Bw Go.Proofs.Tryz
def PC (c:View) (b o:Z) (x:ac) (h:lW c b o x):cB c b o<|iv x:=λj v a=>by match j,a with| 0,a=>simp [iv] at a;subst a;exact h| j+1,a=>simp [iv] at a
def PD (x:ac):(iv x).all (·.oneCell')=ad:=rfl
def yV (a:View) (b o:Z) (e:(aA a6×Z)×I ac):Prop:=vc a b o=aa (aE e.1.1 e.2.length e.1.2)/\Sl lW 1 a e.1.1 e.1.2 e.2
def iK (a:I<|(aA a6×Z)×I ac):Z:=(a.map (·.2.length)).sum
def CT {a:I<|(aA a6×Z)×I ac} {i:Z} {x:(aA a6×Z)×I ac} (h:a[i]? = aa x):iK (a.take<|i+1)=iK (a.take i)+x.2.length:=by simp [iK,h7,h]
def pN (a:I<|(aA a6×Z)×I ac) (i:Z):iK (a.take i)<=iK a:=by
 have e:iK a=iK (a.take i)+iK (a.drop i):=by unfold iK;rw [<-H8,<-qs,rZ]
 omega
def CV (a:I<|(aA a6×Z)×I ac):(a.flatMap (·.2)).length=iK a:=by simp [iK,MG]
def JY (k:Z):(madeCells (aR.int an 0).cells<|k*1)=((gb k (0:ac)).flatMap iv).toArray:=by rw [M9 _ rfl];congr 1;induction k with| zero=>rfl| succ k a=>simp only [EA,lK,iv];rw [a];rfl
def JZ (x y:gv) (r:I gv):(x::r).reverse.set r.length y=(y::r).reverse:=by simp [I.set_append]
def k':prog.underlying 3=some (.int .i64):=ah
def yW:g_ aC 178=aa 1:=ah
def pQ (f:View) (a:aA a6) (c:Z) (l:I ac) (w:aP) (k:Le f w) (g:Sl lW 1 f a c l) (q:l.length*8<=140737488355328) : cx aC 82 #[aE a l.length c] w λe i=>∃r:aA a6×Z,e = cf (aE r.1 l.length r.2)/\Ext w i/\Sl lW 1 (nv w i) r.1 r.2 l:=by
 have s:=g.cap;have t:=g.max;refine enter func82 O 8 O O<|CE (Vs:=[f]) (Ws.init (by simp [k]))<|ak<|au O<|ag<|Cs<|ak<|ab O<|V0 (E4 e8 O)<|ag ?_;refine Cc O (λj=>?_)<|λj=>?_
 ·have m:l=[]:=by cases l with| nil=>rfl| cons x r=>obtain ⟨b,o,h,_⟩:=g.ct 0 x rfl;rw [h] at j;cases j
  refine ak<|au O<|ag<|bu<|Er ?_;refine R1 O O λi d=>?_;subst m;exact ⟨(ao,0),O,d.fr,Sl.nil⟩
 refine ay<|ak ?_;refine WL.Ca Y O gn O O O λu=>WL.z_ (size:=1) 0 O (c7 0) (dw _) O<|WL.m7 0 ([]:I ac).length (([]:I ac).flatMap iv) O O O<|ab O<|WL.wZ (ys:=l) (xs:=[]) 0 (λ_=>f) Y O gn O O O (λw d=>⟨d.vs f aK,g⟩) PC jA PD (by simp;omega) (by simp;omega) λn p=>au O<|ag<|bu ?_;refine R1 O O λi d=>⟨(n,p),O,d.fr,d.kb 0 O jA su⟩
def ahV (m:Z) (w:aP) (k:m<=1048576) : cx aC 273 #[aE ao 0 0,am an (m:ac)] w λe a=>∃r:aA a6×Z,e = cf (aE r.1 ([]:I ac).length r.2)/\Ws w [] [cQ 3 1 iv r.1 r.2 ([]:I ac)] [] a:=by
 refine enter func273 O 27 O O<|CE (Vs:=[]) (Ws.init aK)<|ak<|au O<|ag<|Cs<|ak<|ab O<|V0 (c8 O O)<|ag ?_;refine Cc O (λc=>?_)<|λc=>?_;·exfalso;simp at c;omega
 refine ay<|Cs<|ak<|ab O<|ab O<|V0 (tW e8 O)<|ab O<|V0 (Yn e8 O)<|V0 (dC 0 O O aK ai)<|V0 (dC (m:ac) O O aK ai) ?_;refine au O<|ag<|ak<|ab O<|V0 (eZ O O)<|ag ?_;refine Cc O (λd=>?_)<|λd=>?_
 ·have g:0<m:=by simp at d;omega
  refine Cr<|ab O<|ab O<|V0 (tW e8 O)<|V0 (vC 0 e8 O aK O O<|dw _)<|ab O ?_;refine WL.NH m Y O gn k' O O g (by unfold maxLen;omega) ai λh f l n i j=>WL.z_ (m:=0) (cap:=f) (size:=1) 0 O (dw _) i (by rw [j,vo])<|WL.m7 0 ([]:I ac).length (([]:I ac).flatMap iv) O O aK<|ab O<|V0 (Yn e8 O)<|V0 (vC ([]:I ac).length e8 O aK O O<|dw _)<|au O<|ag<|ak<|ab O<|au O<|ag<|bu ?_;refine R1 O O λa b=>⟨(aa ⟨h,0,ao⟩,f),O,b⟩
 refine ay<|ak<|ab O<|au O<|ag<|bu ?_;refine R1 O O λa b=>⟨(ao,0),O,b.hM 3 1⟩
def J0 (f:View) (a:aA a6) (c:Z) (d:I<|(aA a6×Z)×I ac) (w:aP) (z:Le f w) (k:Sl yV 1 f a c d) (A:iK d<=1048576) (H:d.length<=1048576) :
   cx aC 234 #[aE a d.length c] w λe m=>∃r:aA a6×Z,e = cf (aE r.1 (d.flatMap (·.2)).length r.2)/\Ws w [] [cQ 3 1 iv r.1 r.2 (d.flatMap (·.2))] [f] m:=by
 have J:=k.cap;have K:=k.max;refine enter func234 O 36 O O<|CE (Vs:=[f]) (Ws.init (by simp [z]))<|ak<|au O<|ag<|ak<|au O<|ag<|Cs<|ak<|ab O<|V0 (Yn yW O) ?_;refine ab O<|ag<|Cb ?_;refine pL (ι:=Z) (λi=>[(11,am an (i:ac)),(3,am an (iK<|d.take i:ac))]) [(0,_),(2,_),(9,_),(10,_)] (λi=>i<=d.length) (λi=>d.length-i) 0 (dw _) λi hi=>ak<|V0 (c8 O O)<|ag<|Cs ?_;refine Cc O (λn=>?_)<|λn=>?_
 ·have o:i<d.length:=by simpa using n
  obtain ⟨x,h⟩:=bk o;obtain ⟨pb,B,p,q,t⟩:=k.ct i x h;have u:=CT h;have C:=pN d<|i+1;refine ay<|Cs<|Cb<|ak<|V0 (Yo yW O O p ai)<|V0 (ew 0 ah O O<|q)<|au O<|ag<|ak<|ab O<|ab O<|V0 (Yn e8 O) ?_;refine V0 (o7 (a:=iK<|d.take i) (b:=x.2.length) O O O O ai)<|au O<|ag<|ak<|ab O<|V0 (c8 O O)<|ag ?_;refine Cc O (λv=>?_)<|λv=>?_;·exfalso;simp at v;omega
  refine Ck<|Eb<|Et<|Cr<|V0 (Yi O O O ai)<|ab O<|Ln ?_;rw [<-u];exact ep (i+1) ai ai a'
 have l:i=d.length:=by simp at n;omega
 subst l;rw [gH];refine Ce<|Ex<|Ex<|ee<|Et<|ak<|ab O ?_;refine Lw (ι:=aA a6×Z) [] _ Y O bp O O (λr=>aE r.1 ([]:I ac).length r.2) (λr=>[cQ 3 1 iv r.1 r.2 ([]:I ac)]) (λ_=>True) [] aK (λw j=>(ahV (iK d) w A).mono λe m ⟨r,D,E⟩=>⟨r,D,trivial,E⟩) λy _=>au O<|ag<|Cs<|ak<|ab O<|V0 (Yn yW O)<|ab O<|ag<|Cb ?_;refine f_ (ι:=Z×aA a6×Z) (λg=>[(27,am an (g.1:ac)),(6,aE g.2.1 ((d.take g.1).flatMap (·.2)).length g.2.2)]) [(2,_),(25,_),(26,_)] (λg=>Ws w [] [cQ 3 1 iv g.2.1 g.2.2 ((d.take g.1).flatMap (·.2))] [f]) (λg=>g.1<=d.length) (λg=>d.length-g.1) (0,y.1,y.2) (dw _) a' λg hi=>ak<|V0 (c8 O O)<|ag<|Cs ?_;refine Cc O (λs=>?_)<|λs=>?_
 ·have o:g.1<d.length:=by simpa using s
  obtain ⟨x,h⟩:=bk o;obtain ⟨pb,B,p,q,t⟩:=k.ct g.1 x h;have u:=CT h;have C:=pN d<|g.1+1;refine ay<|Cs<|Cb<|ak<|V0 (Yo yW O O p ai)<|V0 (ew 0 ah O O<|q)<|au O<|ag<|Cr<|ab O<|ab O ?_;refine WL.wZ (xs:=(d.take g.1).flatMap (·.2)) (ys:=x.2) 0 (λ_=>f) Y O gn O O O (λw j=>⟨j.vs f aK,t⟩) PC jA PD (by rw [CV];omega) (by rw [CV];omega) λF G=>?_;rw [show ((d.take g.1).flatMap (·.2))++x.2=(d.take<|g.1+1).flatMap (·.2) by rw [h7,h];simp];refine au O<|Ln<|Eb<|Et<|Cr<|V0 (Yi O O O ai)<|ab O<|Ln ?_;exact ep ((g.1+1,F,G):Z×aA a6×Z) (by first|omega|(dsimp only;omega)) (by first|omega|(dsimp only;omega)) a'
 have l:g.1=d.length:=by simp at s;omega
 refine Ce<|Ex<|Ex<|ee<|Et<|ak<|ab O<|au O<|ag<|bu ?_;refine R1 O O λm j=>?_;rw [l,gH] at j;rw [l,gH];exact ⟨(g.2.1,g.2.2),O,j⟩
end Go.Proofs.YtgeahfjicmlocaaGreatDoor.Mch
end
section
namespace Go.Proofs.YtgeahfjicmlocaaGreatDoor.Mch
open Go.Bw Go.Proofs.Tryz
def vZ:ii aC 178 29 (aE ao 0 0) 1 24:=j_ ah
def CX:aT aC 269 0=aa 0:=ah
set_option maxHeartbeats 1000000 in
def Ye (a b:Int):vW 156 [.int .i64 a,.int .i64 b] (p_ a b)<|λi:Unit=>.tuple #[]:=by
 refine ⟨bp,λR s S w m g=>?_⟩;have B:s.stack.reverse.length=s.stack.length:=aK;have T:s.de.reverse.length=s.de.length:=aK;have U:=m.bF;have N:=m.ml;have V:=m.out;have W:=m.hr;refine enter func156 O 63 O O<|CE g<|ak<|ab O<|V0 (c8 O O)<|ab O ?_;apply Lo 2 O O O O Y O O O O O;·intro X;refine Vg (Ym O)<|Vg (c8 O O) ?_;exact Gt 2 O O O
 refine ab O ?_;apply Lo 2 O O O O Y O O O O O;·intro ae;refine Vg (Ym O)<|Vg (eZ O O) ?_;exact Gt 2 O O O
 refine ab O ?_;apply Lo 4 O O O O Y O O O O O;·intro af;refine Vg (Ym O)<|Vg (Ym O)<|Vg (EP O O)<|Vg (eZ O O) ?_;exact Gt 4 O O O
 refine ab O ?_;apply Lo 7 O O O O Y O O O O O;·intro al;refine Vg (Ym O)<|Vg (Ym O)<|Vg (bS O)<|Vg (Yf n7 O)<|Vg (Yd 0 O O O ah)<|Vg (Yn e8 O)<|Vg (eZ O O) ?_;exact Gt 7 O O O
 refine qb (c:=(((decide (a<0)||decide (b<0))||decide (2048<a))||decide (IntKind.i64.wrap (2048-a)<b))||decide (((s.stack.reverse.length:Nat):Int)<a)) ?_ ?_;·intro p;refine Ep<|b_ λC g=>?_;rw [B] at p;exact .inr ⟨(6,s),O,by rw [p_,show s.pu.stack.length=s.stack.length from O,aD p],g⟩
 intro p;refine ag<|Cs ?_;have ap:0<=a/\0<=b/\a<=2048/\b<=2048-a/\a<=s.stack.length:=by rw [B] at p;simp only [kG,mC] at p;obtain ⟨⟨⟨⟨t,D⟩,E⟩,A⟩,av⟩:=p;rw [qt ai] at A;omega
 obtain ⟨f,r,n⟩:∃f r,s.de=f::r:=by cases h:s.de with| nil=>rw [h] at N;simp at N| cons f r=>exact ⟨f,r,rfl⟩
 have v:s.de.length=r.length+1:=by rw [n];rfl
 refine Cr<|ab O<|V0 (bS O)<|V0 (Yf n7 O)<|V0 (Yd 0 O O O ah)<|V0 (Yn e8 O)<|ab O<|V0 (dC ((s.stack.length-a.toNat:Nat):Int) O O (by rw [B];omega) ai) ?_;refine au O<|ag<|Cs ?_;refine WC.V1 1 O λM Q ay=>CU (λ_=>true) [] [14] (.q false 0<|.q false 2<|.q false 3<|.q false 4<|.q true 5<|.q false 6<|.q false 7<|.q false 8<|.e 1 (.e 9 (.e 10 (.e 11 (.q false 12<|.q false 13 .nil) .stop) .stop) .stop)<|.e 9 (.e 1 (.e 10 (.e 11 (.q false 12<|.q false 13 .nil) .stop) .stop)<|.e 10 (.e 1 (.e 11 (.q false 12<|.q false 13 .nil) .stop) .stop) .stop) .stop) mixed ah (λ_ _ _ d _ _ h=>by cases d<;>exact h)<|U0 O a' (Ym O)<|U0 O a' (Ym O)<|U0 O a' (bS O)<|U0 O a' (Yf n7 O)<|U0 O a' (Yd 0 O O O ah)<|U0 O a' (Ym O)<|U0 O a' (Ch (s.stack.length-a.toNat) e8 O O O ai Q)<|U0 O a' (Ym O) ?_;refine Ue O a' ?_ ?_
 ·refine AP m λP F=>Ln<|Eu ?_;refine Ue O a' ?_ WU.stop;refine WL.make Y O gn O O ai ai ai ai λo=>eb 0 (.cells ((List.replicate b.toNat (0:Int)).flatMap iv).toArray 3 (0,0)) O (by rw [JY])<|Ln<|Eu ?_;refine Ue O (λ_ h=>(Wd 1 h:)) ?_ WU.stop;refine Lb Y O vZ O O O O λu=>Ln<|Eu ?_;refine Ue O (λ_ h=>(Wd 2 h:)) ?_ WU.stop;refine WL.Cj (ι:=Option Addr×Nat) Y O bp O (λr=>.slice r.1 ((s.stack.take a.toNat).reverse++List.replicate b.toNat 0).length r.2) (λr=>[cQ 3 1 iv r.1 r.2<|(s.stack.take a.toNat).reverse++List.replicate b.toNat 0]) (λ_=>True) (λw g=>by
   have t:Sl lW 1 (hv w) s.sa s.sc s.stack.reverse:=g.IC 3 rfl jA su;have t:=t.drop (s.stack.length-a.toNat) ai;have D:Sl lW 1 (hv w) (some ⟨o,0,none⟩) b.toNat<|List.replicate b.toNat (0:Int):=⟨aK,ai,aK,λj x l=>⟨o,0,rfl,g.jH 1 rfl (by show ((List.replicate b.toNat (0:Int)).flatMap iv)[0+j*1]? = _;have:=pM jA l (j:=0) a8;rw [lJ];rw [wI] at this;rw [this];rfl)⟩⟩;have G:(s.stack.reverse.drop<|s.stack.length-a.toNat).length=s.stack.reverse.length-(s.stack.length-a.toNat):=aK;have H:(List.replicate b.toNat (0:Int)).length=b.toNat:=aK;have J:Sl yV 1 (hv w) (some ⟨u,0,none⟩) 2 [((if s.sc-(s.stack.length-a.toNat)=0 then s.sa else s.sa.map (·.add<|(s.stack.length-a.toNat)*1),s.sc-(s.stack.length-a.toNat)),s.stack.reverse.drop<|s.stack.length-a.toNat),((some ⟨o,0,none⟩,b.toNat),List.replicate b.toNat (0:Int))]:=⟨aK,a8,aK,λj x l=>⟨u,0,rfl,by match j,l with| 0,l=>simp only [mB,gI] at l;subst l;exact ⟨by rw [G];exact g.jH 0 rfl rfl,t⟩| 1,l=>simp only [lh,mB,gI] at l;subst l;exact ⟨by rw [H];exact g.jH 0 rfl rfl,D⟩⟩⟩;have v:[((if s.sc-(s.stack.length-a.toNat)=0 then s.sa else s.sa.map (·.add<|(s.stack.length-a.toNat)*1),s.sc-(s.stack.length-a.toNat)),s.stack.reverse.drop<|s.stack.length-a.toNat),((some (⟨o,0,none⟩:Addr),b.toNat),List.replicate b.toNat (0:Int))].flatMap (·.2)=((s.stack.take a.toNat).reverse++List.replicate b.toNat 0):=by simp only [lK,EC,yd];rw [H9,show s.stack.length-(s.stack.length-a.toNat)=a.toNat by omega]
   have z:=J0 (hv w) (some ⟨u,0,none⟩) 2 _ w (kZ w) J (by simp [iK];omega) aK;rw [v] at z;exact z.mono λe C ⟨r,E,A⟩=>⟨r,E,trivial,A.aZ aK⟩) λk _=>Ln<|Eu<|U0 O (λ_ h=>(Wd 3 h:)) (bS O)<|U0 O (λ_ h=>(Wd 3 h:)) (Yf CX O) ?_;refine WU.nil (λ_ h=>(Wd 3 h:))<|WS.e O<|WL.storeT (y:=f) 5 r.length 0 ({ f with la:=k.1,lc:=k.2,loc:=(s.stack.take a.toNat).reverse++List.replicate b.toNat 0 }) Y O O O F (by rw [v];simp) gv.dR (by rw [n,ye,pH aK];simp) lX O O a8 O ?_;rw [show s.de.reverse.set r.length { f with la:=k.1,lc:=k.2,loc:=(s.stack.take a.toNat).reverse++List.replicate b.toNat 0 }=({ f with la:=k.1,lc:=k.2,loc:=(s.stack.take a.toNat).reverse++List.replicate b.toNat 0 }::r).reverse by rw [n,JZ]];refine Ln<|Es ?_;refine WS.nil<|Et<|Cr<|ab O<|ab O<|V0 (bS O)<|V0 (Yf n7 O)<|V0 (Yd 3 O O O ah)<|ab O<|V0 (vC (s.stack.drop a.toNat).reverse.length e8 O M O aK (by simp;omega)) ?_;refine V0 (bS O)<|V0 (Yf n7 O)<|aw 3 Y O O O lX O O O ?_;refine WL.Ci 4 (s.stack.drop a.toNat).reverse O jA aK (by rw [H'];congr 2;simp;omega)<|Ln<|E0 O λC g=>?_;have g:=g.bs 7 rfl;have g:=g.bs 7 rfl;have g:=g.bs 7 rfl;have g:=g.bs 7 rfl;have g:=g.bs 7 rfl;have g:=g.bs 5 rfl;have g:=g.bs 8 rfl;have g:=Ws.eD (L:=[_,_,_,_,_,_,_]) g;rw [n] at g;have g:=g.Ae;have g:=Wd 1 g;have g:=g.bs 1 rfl;have g:=g.Af;have g:=g.bs 5 rfl;have g:=g.bs 5 rfl;have g:=g.bs 5 rfl;have g:=g.bs 5 rfl;have g:=g.bs 5 rfl;have g:=Ws.eD (L:=[_,_,_,_,_,_]) g;have K:mD s.obj (0+3) (bm<|.slice s.sa (s.stack.drop a.toNat).reverse.length s.sc)=ax.obj { s with stack:=s.stack.drop a.toNat,de:={ f with la:=k.1,lc:=k.2,loc:=(s.stack.take a.toNat).reverse++List.replicate b.toNat 0 }::r }:=by unfold ax.obj;rw [show s.de.reverse.length=({ f with la:=k.1,lc:=k.2,loc:=(s.stack.take a.toNat).reverse++List.replicate b.toNat 0 }::r).reverse.length by simp [n]];rfl
  rw [K] at g;refine .inl ⟨((),{ s with stack:=s.stack.drop a.toNat,de:={ f with la:=k.1,lc:=k.2,loc:=(s.stack.take a.toNat).reverse++List.replicate b.toNat 0 }::r }),O,⟨?_,⟨m.bn,by show (s.stack.drop a.toNat).length<=2048;simp;omega,by show 1<=(r.length+1)/\r.length+1<=25;omega,m.out,m.hr⟩⟩,g⟩;rw [B] at p;unfold p_;rw [aj (by rw [show s.pu.stack.length=s.stack.length from rfl,p];simp),show s.pu.de=f.pu::r.map gv.pu by show s.de.map gv.pu=_;rw [n];rfl];rfl
 refine Ue O a' ?_ WU.stop;refine WL.make Y O gn O O ai ai ai ai λo=>eb 0 (.cells ((List.replicate b.toNat (0:Int)).flatMap iv).toArray 3 (0,0)) O (by rw [JY])<|Ln<|Eu ?_;refine Ue O (λ_ h=>(Wd 1 h:)) ?_ ?_
 ·refine Lf 6 O<|Lf 6 O<|Lf 6 O<|Lf 6 O<|Lf 6 O<|Lf 6 O ?_;refine AP m λP F=>Ln<|Eu ?_;refine Ue O (λ_ h=>(Wt 6 h:)) ?_ WU.stop;refine Lb Y O vZ O O O O λu=>Ln<|Eu ?_;refine Ue O (λ_ h=>by exact (Wt 6<|(((((h.f 6 O).f 6 O).f 6 O).f 6 O).f 6 O).f 6 O:)) ?_ WU.stop;refine WL.Cj (ι:=Option Addr×Nat) Y O bp O (λr=>.slice r.1 ((s.stack.take a.toNat).reverse++List.replicate b.toNat 0).length r.2) (λr=>[cQ 3 1 iv r.1 r.2<|(s.stack.take a.toNat).reverse++List.replicate b.toNat 0]) (λ_=>True) (λw g=>by
   have t:Sl lW 1 (hv w) s.sa s.sc s.stack.reverse:=g.IC 2 rfl jA su;have t:=t.drop (s.stack.length-a.toNat) ai;have D:Sl lW 1 (hv w) (some ⟨o,0,none⟩) b.toNat<|List.replicate b.toNat (0:Int):=⟨aK,ai,aK,λj x l=>⟨o,0,rfl,g.jH 7 rfl (by show ((List.replicate b.toNat (0:Int)).flatMap iv)[0+j*1]? = _;have:=pM jA l (j:=0) a8;rw [lJ];rw [wI] at this;rw [this];rfl)⟩⟩;have G:(s.stack.reverse.drop<|s.stack.length-a.toNat).length=s.stack.reverse.length-(s.stack.length-a.toNat):=aK;have H:(List.replicate b.toNat (0:Int)).length=b.toNat:=aK;have J:Sl yV 1 (hv w) (some ⟨u,0,none⟩) 2 [((if s.sc-(s.stack.length-a.toNat)=0 then s.sa else s.sa.map (·.add<|(s.stack.length-a.toNat)*1),s.sc-(s.stack.length-a.toNat)),s.stack.reverse.drop<|s.stack.length-a.toNat),((some ⟨o,0,none⟩,b.toNat),List.replicate b.toNat (0:Int))]:=⟨aK,a8,aK,λj x l=>⟨u,0,rfl,by match j,l with| 0,l=>simp only [mB,gI] at l;subst l;exact ⟨by rw [G];exact g.jH 0 rfl rfl,t⟩| 1,l=>simp only [lh,mB,gI] at l;subst l;exact ⟨by rw [H];exact g.jH 0 rfl rfl,D⟩⟩⟩;have v:[((if s.sc-(s.stack.length-a.toNat)=0 then s.sa else s.sa.map (·.add<|(s.stack.length-a.toNat)*1),s.sc-(s.stack.length-a.toNat)),s.stack.reverse.drop<|s.stack.length-a.toNat),((some (⟨o,0,none⟩:Addr),b.toNat),List.replicate b.toNat (0:Int))].flatMap (·.2)=((s.stack.take a.toNat).reverse++List.replicate b.toNat 0):=by simp only [lK,EC,yd];rw [H9,show s.stack.length-(s.stack.length-a.toNat)=a.toNat by omega]
   have z:=J0 (hv w) (some ⟨u,0,none⟩) 2 _ w (kZ w) J (by simp [iK];omega) aK;rw [v] at z;exact z.mono λe C ⟨r,E,A⟩=>⟨r,E,trivial,A.aZ aK⟩) λk _=>Ln<|Eu<|U0 O (λ_ h=>by exact (Wt 6<|(((((h.f 7 O).f 7 O).f 7 O).f 7 O).f 7 O).f 7 O:)) (bS O)<|U0 O (λ_ h=>by exact (Wt 6<|(((((h.f 7 O).f 7 O).f 7 O).f 7 O).f 7 O).f 7 O:)) (Yf CX O) ?_;refine WU.nil (λ_ h=>by exact (Wt 6<|(((((h.f 7 O).f 7 O).f 7 O).f 7 O).f 7 O).f 7 O:))<|WS.e O<|WL.storeT (y:=f) 4 r.length 0 ({ f with la:=k.1,lc:=k.2,loc:=(s.stack.take a.toNat).reverse++List.replicate b.toNat 0 }) Y O O O F (by rw [v];simp) gv.dR (by rw [n,ye,pH aK];simp) lX O O a8 O ?_;rw [show s.de.reverse.set r.length { f with la:=k.1,lc:=k.2,loc:=(s.stack.take a.toNat).reverse++List.replicate b.toNat 0 }=({ f with la:=k.1,lc:=k.2,loc:=(s.stack.take a.toNat).reverse++List.replicate b.toNat 0 }::r).reverse by rw [n,JZ]];refine Ln<|Es ?_;refine WS.nil<|Et<|Cr<|ab O<|ab O<|V0 (bS O)<|V0 (Yf n7 O)<|V0 (Yd 2 O O O ah)<|ab O<|V0 (vC (s.stack.drop a.toNat).reverse.length e8 O M O aK (by simp;omega)) ?_;refine V0 (bS O)<|V0 (Yf n7 O)<|aw 2 Y O O O lX O O O ?_;refine WL.Ci 3 (s.stack.drop a.toNat).reverse O jA aK (by rw [H'];congr 2;simp;omega)<|Ln<|E0 O λC g=>?_;have g:=g.bs 6 rfl;have g:=g.bs 6 rfl;have g:=g.bs 6 rfl;have g:=g.bs 6 rfl;have g:=g.bs 6 rfl;have g:=g.bs 5 rfl;have g:=g.bs 7 rfl;have g:=Ws.eD (L:=[_,_,_,_,_,_,_]) g;rw [n] at g;have g:=g.Ae;have g:=Wd 1 g;have g:=g.bs 1 rfl;have g:=g.Af;have g:=g.bs 5 rfl;have g:=g.bs 5 rfl;have g:=g.bs 5 rfl;have g:=g.bs 5 rfl;have g:=g.bs 5 rfl;have g:=Ws.eD (L:=[_,_,_,_,_,_]) g;have K:mD s.obj (0+3) (bm<|.slice s.sa (s.stack.drop a.toNat).reverse.length s.sc)=ax.obj { s with stack:=s.stack.drop a.toNat,de:={ f with la:=k.1,lc:=k.2,loc:=(s.stack.take a.toNat).reverse++List.replicate b.toNat 0 }::r }:=by unfold ax.obj;rw [show s.de.reverse.length=({ f with la:=k.1,lc:=k.2,loc:=(s.stack.take a.toNat).reverse++List.replicate b.toNat 0 }::r).reverse.length by simp [n]];rfl
  rw [K] at g;refine .inl ⟨((),{ s with stack:=s.stack.drop a.toNat,de:={ f with la:=k.1,lc:=k.2,loc:=(s.stack.take a.toNat).reverse++List.replicate b.toNat 0 }::r }),O,⟨?_,⟨m.bn,by show (s.stack.drop a.toNat).length<=2048;simp;omega,by show 1<=(r.length+1)/\r.length+1<=25;omega,m.out,m.hr⟩⟩,g⟩;rw [B] at p;unfold p_;rw [aj (by rw [show s.pu.stack.length=s.stack.length from rfl,p];simp),show s.pu.de=f.pu::r.map gv.pu by show s.de.map gv.pu=_;rw [n];rfl];rfl
 refine Ue O (λ_ h=>(Wd 1 h:)) ?_ WU.stop;refine Lb Y O vZ O O O O λu=>Ln<|Eu ?_;refine Ue O (λ_ h=>(Wd 2 h:)) ?_ WU.stop;refine Lf 7 O<|Lf 7 O<|Lf 7 O<|Lf 7 O<|Lf 7 O<|Lf 7 O ?_;refine AP m λP F=>Ln<|Eu ?_;refine Ue O (λ_ h=>(Wt 6 h:)) ?_ WU.stop;refine WL.Cj (ι:=Option Addr×Nat) Y O bp O (λr=>.slice r.1 ((s.stack.take a.toNat).reverse++List.replicate b.toNat 0).length r.2) (λr=>[cQ 3 1 iv r.1 r.2<|(s.stack.take a.toNat).reverse++List.replicate b.toNat 0]) (λ_=>True) (λw g=>by
  have t:Sl lW 1 (hv w) s.sa s.sc s.stack.reverse:=g.IC 1 rfl jA su;have t:=t.drop (s.stack.length-a.toNat) ai;have D:Sl lW 1 (hv w) (some ⟨o,0,none⟩) b.toNat<|List.replicate b.toNat (0:Int):=⟨aK,ai,aK,λj x l=>⟨o,0,rfl,g.jH 7 rfl (by show ((List.replicate b.toNat (0:Int)).flatMap iv)[0+j*1]? = _;have:=pM jA l (j:=0) a8;rw [lJ];rw [wI] at this;rw [this];rfl)⟩⟩;have G:(s.stack.reverse.drop<|s.stack.length-a.toNat).length=s.stack.reverse.length-(s.stack.length-a.toNat):=aK;have H:(List.replicate b.toNat (0:Int)).length=b.toNat:=aK;have J:Sl yV 1 (hv w) (some ⟨u,0,none⟩) 2 [((if s.sc-(s.stack.length-a.toNat)=0 then s.sa else s.sa.map (·.add<|(s.stack.length-a.toNat)*1),s.sc-(s.stack.length-a.toNat)),s.stack.reverse.drop<|s.stack.length-a.toNat),((some ⟨o,0,none⟩,b.toNat),List.replicate b.toNat (0:Int))]:=⟨aK,a8,aK,λj x l=>⟨u,0,rfl,by match j,l with| 0,l=>simp only [mB,gI] at l;subst l;exact ⟨by rw [G];exact g.jH 6 rfl rfl,t⟩| 1,l=>simp only [lh,mB,gI] at l;subst l;exact ⟨by rw [H];exact g.jH 6 rfl rfl,D⟩⟩⟩;have v:[((if s.sc-(s.stack.length-a.toNat)=0 then s.sa else s.sa.map (·.add<|(s.stack.length-a.toNat)*1),s.sc-(s.stack.length-a.toNat)),s.stack.reverse.drop<|s.stack.length-a.toNat),((some (⟨o,0,none⟩:Addr),b.toNat),List.replicate b.toNat (0:Int))].flatMap (·.2)=((s.stack.take a.toNat).reverse++List.replicate b.toNat 0):=by simp only [lK,EC,yd];rw [H9,show s.stack.length-(s.stack.length-a.toNat)=a.toNat by omega]
  have z:=J0 (hv w) (some ⟨u,0,none⟩) 2 _ w (kZ w) J (by simp [iK];omega) aK;rw [v] at z;exact z.mono λe C ⟨r,E,A⟩=>⟨r,E,trivial,A.aZ aK⟩) λk _=>Ln<|Eu<|U0 O (λ_ h=>by exact (Wt 6<|(((((h.f 6 O).f 6 O).f 6 O).f 6 O).f 6 O).f 6 O:)) (bS O)<|U0 O (λ_ h=>by exact (Wt 6<|(((((h.f 6 O).f 6 O).f 6 O).f 6 O).f 6 O).f 6 O:)) (Yf CX O) ?_;refine WU.nil (λ_ h=>by exact (Wt 6<|(((((h.f 6 O).f 6 O).f 6 O).f 6 O).f 6 O).f 6 O:))<|WS.e O<|WL.storeT (y:=f) 3 r.length 0 ({ f with la:=k.1,lc:=k.2,loc:=(s.stack.take a.toNat).reverse++List.replicate b.toNat 0 }) Y O O O F (by rw [v];simp) gv.dR (by rw [n,ye,pH aK];simp) lX O O a8 O ?_;rw [show s.de.reverse.set r.length { f with la:=k.1,lc:=k.2,loc:=(s.stack.take a.toNat).reverse++List.replicate b.toNat 0 }=({ f with la:=k.1,lc:=k.2,loc:=(s.stack.take a.toNat).reverse++List.replicate b.toNat 0 }::r).reverse by rw [n,JZ]];refine Ln<|Es ?_;refine WS.nil<|Et<|Cr<|ab O<|ab O<|V0 (bS O)<|V0 (Yf n7 O)<|V0 (Yd 1 O O O ah)<|ab O<|V0 (vC (s.stack.drop a.toNat).reverse.length e8 O M O aK (by simp;omega)) ?_;refine V0 (bS O)<|V0 (Yf n7 O)<|aw 1 Y O O O lX O O O ?_;refine WL.Ci 2 (s.stack.drop a.toNat).reverse O jA aK (by rw [H'];congr 2;simp;omega)<|Ln<|E0 O λC g=>?_;have g:=g.bs 6 rfl;have g:=Ws.eD (L:=[_,_,_,_,_,_,_]) g;rw [n] at g;have g:=g.Ae;have g:=Wd 1 g;have g:=g.bs 1 rfl;have g:=g.Af;have g:=g.bs 5 rfl;have g:=g.bs 5 rfl;have g:=g.bs 5 rfl;have g:=g.bs 5 rfl;have g:=g.bs 5 rfl;have g:=Ws.eD (L:=[_,_,_,_,_,_]) g;have K:mD s.obj (0+3) (bm<|.slice s.sa (s.stack.drop a.toNat).reverse.length s.sc)=ax.obj { s with stack:=s.stack.drop a.toNat,de:={ f with la:=k.1,lc:=k.2,loc:=(s.stack.take a.toNat).reverse++List.replicate b.toNat 0 }::r }:=by unfold ax.obj;rw [show s.de.reverse.length=({ f with la:=k.1,lc:=k.2,loc:=(s.stack.take a.toNat).reverse++List.replicate b.toNat 0 }::r).reverse.length by simp [n]];rfl
 rw [K] at g;refine .inl ⟨((),{ s with stack:=s.stack.drop a.toNat,de:={ f with la:=k.1,lc:=k.2,loc:=(s.stack.take a.toNat).reverse++List.replicate b.toNat 0 }::r }),O,⟨?_,⟨m.bn,by show (s.stack.drop a.toNat).length<=2048;simp;omega,by show 1<=(r.length+1)/\r.length+1<=25;omega,m.out,m.hr⟩⟩,g⟩;rw [B] at p;unfold p_;rw [aj (by rw [show s.pu.stack.length=s.stack.length from rfl,p];simp),show s.pu.de=f.pu::r.map gv.pu by show s.de.map gv.pu=_;rw [n];rfl];rfl
end Go.Proofs.YtgeahfjicmlocaaGreatDoor.Mch
end
