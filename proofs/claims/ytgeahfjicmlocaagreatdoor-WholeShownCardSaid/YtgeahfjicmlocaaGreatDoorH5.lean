/- WholeShown: how a module is written changes nothing: shown anew, in another order, a program means the same. -/
import Derived.Lib.AppendZeros
import Derived.Test.YtgeahfjicmlocaaGreatDoorH4
set_option linter.unusedVariables false
set_option linter.unusedSimpArgs false
set_option linter.defProp false
open _root_ renaming List->I,Nat->Z,Int->ab,Option->az,Bool->aQ,UInt8->a7,Array->bE,Unit->dT
open Option renaming some->aa,none->ak
open Bool renaming true->ac,false->au
open Go.Value renaming int->an,slice->aC,agg->bU,bool->bV,pointer->b0,tuple->cN
open Go.IntKind renaming i64->am
open Go.Proofs.Tryz renaming prog->aB
open Go renaming World->aL,Value->aT,Addr->a0,Calls->cr,PanicEntry->nW
open Go.Obj renaming cells->aM
open Or renaming inr->bl,inl->bA
open Go.Ending renaming returned->ax
open List renaming flatMap->c5,length->dV
open Nat renaming strongRecOn->c8
section
namespace Go.Proofs.YtgeahfjicmlocaaGreatDoor
open Go.Bw Go.Proofs.Tryz
abbrev bZ (a:Z) (r:az a0×Z) (l:Tk):I bc:=[aJ a<|aM #[aC r.1 l.length r.2] 227 (0,0)]
def iz:I nW:=[⟨.iface 229<|bU #[],au,au⟩]
def l7:I Tx->Tk->az Tk| [],l=>aa l| w::ws,l=>(bD w l).bind<|l7 ws
def gf (w:Tx) (l:Tk):l7 [w] l=bD w l:=by unfold l7;cases bD w l<;>rfl
def Q7 (v w:Tx) (l:Tk):l7 [v,w] l=(bD v l).bind (bD w):=by unfold l7;cases bD v l with| none=>rfl| some q=>exact gf w q
def Q8:∀{b:I Tx} {l r:Tk},iK l->l7 b l=aa r->iK r| [],l,r,a,h=>by injection h with h;subst h;exact a| w::b,l,r,a,h=>by obtain ⟨q,c,d⟩:=dl.1 h;exact Q8 (Px a c) d
def JE (s:Tx) (t:Tok) (r:Tk):bD s (t::r)=if (t.text==s)=ac then aa r else ak:=rfl
variable {bw:Tx} {a_ cm:Tk}
def kk (h:bD bw a_=aa cm):cm.length+1=a_.length:=by
 cases a_ with
 | nil=>cases h
 | cons t r=>
  rw [JE] at h;split at h;·injection h with h;subst h;rfl
  ·cases h
variable {cI:I Tx}
def Z3 (h:bD bw a_=aa cm):l7 (bw::cI) a_=l7 cI cm:=by show (bD bw a_).bind (l7 cI)=_;rw [h];rfl
def Z4 (h:bD bw a_=ak):l7 (bw::cI) a_=ak:=by show (bD bw a_).bind (l7 cI)=_;rw [h];rfl
structure eA (l:Tk):Prop where
 all:iK l
 len:l.length<=4096
def u' (h:eA a_) (e:gR a_ cI cm):eA cm:=⟨e.ok,by have:=h.len;rw [e.2,e_] at this;omega⟩
def kl (h:eA a_) (e:bD bw a_=aa cm):eA cm:=⟨Px h.all e,by have:=kk e;have:=h.len;omega⟩
def B5:∀{a:I Tx} {l q:Tk},l7 a l=aa q->q.length+a.length=l.length| [],l,q,h=>by injection h with h;subst h;rfl| w::a,l,q,h=>by obtain ⟨d,b,c⟩:=dl.1 h;have:=kk b;have:=B5 c;simp only [eL];omega
def km (h:eA a_) (e:l7 cI a_=aa cm):eA cm:=⟨Q8 h.all e,by have:=B5 e;have:=h.len;omega⟩
def sW (h:eA a_) (e:hU a_=aa (bw,cm)):eA cm:=u' h (ry h.all e).1
variable {aP:ab}
def JF (h:eA a_) (e:nO a_=aa (aP,cm)):eA cm:=u' h<|IS h.all e
def Q9 {p:Tx×Tx} (h:eA a_) (e:l4 a_=aa (p,cm)):eA cm:=u' h<|IT (mod:=p.1) (nm:=p.2) h.all e
variable {ae:Z} {aw:cu}
def rK (h:eA a_) (e:fg ae a_=aa (aw,cm)):eA cm:=u' h<|zQ ae a_ aw cm h.all e
def rL (h:eA a_) (e:fg ae a_=aa (aw,cm)):cm.length+1<=a_.length:=by have a:=(zQ ae a_ aw cm h.all e).2;have b:=OT aw;rw [a];cases c:dW aw with| nil=>exact absurd c b| cons y t=>simp
def Z5 (h:cI[ae]? = aa bw):cI.drop ae=bw::cI.drop (ae+1):=by obtain ⟨hi,e⟩:=c_.1 h;rw [<-e];exact nZ hi
def e0:cX aB 227 0=aa 0:=ah
def u_:hy aB 229=aa []:=ah
def va:zeroOf aB 229=aa (bU #[]):=ah
def vb:aB.concrete 229=ac:=ah
def Z6:DX aB 234 2=aa 2:=ah
def Z7:DX aB 234 1=aa 1:=ah
def Z8 (c:Z) (d:View) (r:az a0×Z) (l:Tk) (s:Tx) (w:aL) (f:Sl aZ 3 d r.1 r.2 l) (g:Ws w (c5 bc.ids<|bZ c r l) (bZ c r l) [d] w) : cr aB 209 #[b0 (aa ⟨c,0,ak⟩),st s] w λe j=>∃i:aQ×(az a0×Z)×Tk,e = ax (bV i.1)/\((i.1=ac->bD s l=aa i.2.2)/\(i.1=au->bD s l=ak/\l=i.2.2)/\Sl aZ 3 d i.2.1.1 i.2.1.2 i.2.2)/\Ws w (c5 bc.ids<|bZ c r l) (bZ c i.2.1 i.2.2) [d] j:=by
 have n:=f.cap;have z:=f.max;have k:=f.drop 1;refine enter func209 O 33 O O ?_;refine CE g<|ai<|ar O<|ag<|ai<|ad O<|V0 (bP O)<|V0 (Yf e0 O)<|V0 (Yd 0 O O O ah) ?_;refine V0 (Yn rH O)<|V0 (ek O O)<|ad O ?_;apply La 9 (x:=(l.head?.map λt=>t.text==s).getD au) O O O O Y O O O O O
 ·intro o;obtain ⟨t,a,rfl⟩:∃t a,l=t::a:=by cases l with| nil=>simp at o| cons t a=>exact ⟨t,a,rfl⟩
  obtain ⟨p,q,u,m⟩:=f.b7 0 t rfl;have m:ct d p (q+0*3) t.cells:=m;refine Vg (Ym O)<|Vg (bP O)<|Vg (Yf e0 O)<|Vg (Yd 0 O O O ah)<|Vg (Yo (i:=0) rH O O u aG)<|Vg (Yf Jp O)<|Vg (dQ 0 ah O O<|m 2 _ O)<|Vg (Ym O) ?_;refine Vg (AI O O) ?_;exact Gt 9 O O O
 refine ar O<|ag<|Cs<|ai<|ad O<|ag ?_;refine Cc O (λb=>?_)<|λb=>?_
 ·obtain ⟨t,a,rfl⟩:∃t a,l=t::a:=by cases l with| nil=>simp at b| cons t a=>exact ⟨t,a,rfl⟩
  have v:(t.text==s)=ac:=by simpa using b
  have k:=k aG;refine Cr<|ad O<|ad O<|V0 (bP O)<|V0 (Yf e0 O)<|V0 (Yd 0 O O O ah)<|V0 (AX 1 rH O O O aG n)<|V0 (bP O) ?_;refine V0 (Yf e0 O)<|aq 0 Y O O O wx O O O<|ag<|ai<|ad O<|ar O<|ag<|bq ?_;refine R1 O O λj g=>?_;exact ⟨(ac,(if r.2-1=0 then r.1 else r.1.map (·.add<|1*3),r.2-1),a),by rw [b],⟨λ_=>by rw [JE,aU v],λh=>(by cases h),k⟩,g⟩
 have y:bD s l=ak:=by cases l with| nil=>rfl| cons t a=>rw [JE,ao];intro h;simp [h] at b
 refine bO<|ai<|ad O<|ar O<|ag<|bq ?_;refine R1 O O λj g=>?_;exact ⟨(au,r,l),by rw [b],⟨λh=>(by cases h),λ_=>⟨y,O⟩,f⟩,g⟩
def jR (a:Z) (b:View) (r:az a0×Z) (l:Tk) (s:Tx) (c:Sl aZ 3 b r.1 r.2 l):P' aB 209 [b0<|aa ⟨a,0,ak⟩,st s] (bZ a r l) [b] (ι:=aQ×(az a0×Z)×Tk) (λi=>bV i.1) (λi=>bZ a i.2.1 i.2.2)<|λi=>(i.1=ac->bD s l=aa i.2.2)/\(i.1=au->bD s l=ak/\l=i.2.2)/\Sl aZ 3 b i.2.1.1 i.2.1.2 i.2.2:=⟨bf,λw d=>Z8 a b r l s w c d⟩
def Z9 (c:Z) (d:View) (r:az a0×Z) (l:Tk) (H:View) (a:az a0) (n:Z) (b:I Tx) (w:aL) (m:Sl rdStr 1 H a n b) (A:Sl aZ 3 d r.1 r.2 l) (f:Ws w (c5 bc.ids<|bZ c r l) (bZ c r l) [d,H] w) : cr aB 207 #[b0 (aa ⟨c,0,ak⟩),aC a b.length n] w λe j=>(∃(i:az a0×Z) (q:Tk),e = ax (cN #[])/\l7 b l=aa q/\Sl aZ 3 d i.1 i.2 q/\Ws w (c5 bc.ids<|bZ c r l) (bZ c i q) [d,H] j)\/(∃(i:az a0×Z) (q:Tk),e = .panicked iz/\l7 b l=ak/\Ws w (c5 bc.ids<|bZ c r l) (bZ c i q) [d,H] j):=by
 have L:=m.cap;have M:=m.max;refine enter func207 O 19 O O ?_;refine CE f<|ai<|ad O<|V0 (Yn e4 O)<|ad O<|ag<|Cb ?_;refine dZ (ι:=Z×(az a0×Z)×Tk) (λg=>[(8,an am (g.1:ab))]) [(0,_),(6,_),(7,_)] (λg=>Ws w (c5 bc.ids<|bZ c r l) (bZ c g.2.1 g.2.2) [d,H]) (λg=>g.1<=b.length/\l7 b l=l7 (b.drop g.1) g.2.2/\Sl aZ 3 d g.2.1.1 g.2.1.2 g.2.2) (λg=>b.length-g.1) (0,r,l) ⟨de _,O,A⟩ aR ?_;intro g ⟨hi,k,t⟩;refine ai<|V0 (cP O O)<|ag<|Cs ?_;refine Cc O (λo=>?_)<|λo=>?_
 ·have B:g.1<b.length:=by simpa using o
  obtain ⟨x,u⟩:=dO B;obtain ⟨C,D,N,p⟩:=m.b7 g.1 x u;have p:ct H C (D+g.1*1)<|fV x:=p;have v:=Z5 u;refine bO<|Cs<|Cb<|ai<|V0 (Yo e4 O O mW aj)<|V0 (dQ 1 ah O O<|p 0 _ O)<|ar O<|ag<|ai<|ad O<|ad O ?_;refine WL.kw (jR c d g.2.1 g.2.2 x t) ?_;intro ⟨P,y,z⟩ ⟨E,F,G⟩;refine V0 (hV O)<|ag ?_;refine Cc O (λs=>?_)<|λs=>?_;·obtain ⟨J,Q⟩:=F (by simpa using s);refine Cr<|V0 (Yb va u_ O O)<|V0 (qW vb O) ?_;refine WL.panic Y O ?_;refine WE.aF<|Ep<|Ep<|WE.aF ?_;refine b3 λj f=>?_;exact bl ⟨y,z,O,by rw [k,v,Z4 J],by have h:=f;exact h⟩
  have K:=E (by simpa using s);refine Ck<|Eb<|Et<|Cr<|V0 (Yi O O O aj)<|ad O<|Ln ?_;exact cU ((g.1+1,y,z):Z×(az a0×Z)×Tk) (by show b.length-(g.1+1)<b.length-g.1;omega) ⟨by show g.1+1<=b.length;omega,by rw [k,v,Z3 K],G⟩ aR
 have R:¬g.1<b.length:=by simpa using o
 rw [wX aj] at k;refine Ce<|Ex<|Ex<|dy ?_;refine E0 O λj f=>?_;exact bA ⟨g.2.1,g.2.2,O,by rw [k];rfl,t,f⟩
def b4 (b:Z) (d:View) (r:az a0×Z) (l:Tk) (H:View) (a:az a0) (n:Z) (c:I Tx) (m:Sl rdStr 1 H a n c) (o:Sl aZ 3 d r.1 r.2 l):xQ aB 207 [b0<|aa ⟨b,0,ak⟩,aC a c.length n] (bZ b r l) [d,H] (ι:=(az a0×Z)×Tk) (κ:=(az a0×Z)×Tk) (λ_=>cN #[]) (λi=>bZ b i.1 i.2) (λi=>l7 c l=aa i.2/\Sl aZ 3 d i.1.1 i.1.2 i.2) (λ_=>iz) (λi=>bZ b i.1 i.2)<|λ_=>l7 c l=ak:=⟨bf,λw p=>(Z9 b d r l H _ _ c w m o p).mono λe t h=>by
 rcases h with ⟨f,q,g,j,k,s⟩ | ⟨f,q,g,j,k⟩;·exact bA ⟨(f,q),g,⟨j,k⟩,s⟩
 ·exact bl ⟨(f,q),g,j,k⟩⟩
def Z' (b:Z) (c:View) (r:az a0×Z) (l:Tk) (k:ab) (w:aL) (f:Sl aZ 3 c r.1 r.2 l) (g:Ws w (c5 bc.ids<|bZ b r l) (bZ b r l) [c] w) : cr aB 259 #[b0 (aa ⟨b,0,ak⟩),an am k] w λe o=>(∃(t:Tok) (j:az a0×Z) (q:Tk),e = ax (bU #[an am t.kind,an am t.n,st t.text])/\nN k l=aa (t,q)/\Sl aZ 3 c j.1 j.2 q/\Ws w (c5 bc.ids<|bZ b r l) (bZ b j q) [c] o)\/(∃(j:az a0×Z) (q:Tk),e = .panicked iz/\nN k l=ak/\Ws w (c5 bc.ids<|bZ b r l) (bZ b j q) [c] o):=by
 have y:=f.cap;have D:=f.max;have p:=f.drop 1;refine enter func259 O 40 O O ?_;refine CE g<|ai ?_;refine Al Y O sM λE=>?_;refine ag<|Cs<|ai<|ad O<|V0 (bP O)<|V0 (Yf e0 O)<|V0 (Yd 1 O O O ah)<|V0 (Yn rH O)<|V0 (bN O O)<|ad O ?_;apply Lo 9 (x:=!((l.head?.map λt=>t.kind==k).getD au)) O O O O Y O O O O O
 ·intro z;obtain ⟨t,a,rfl⟩:∃t a,l=t::a:=by cases l with| nil=>simp at z| cons t a=>exact ⟨t,a,rfl⟩
  obtain ⟨s,u,v,d⟩:=f.b7 0 t rfl;have d:ct c s (u+0*3) t.cells:=d;refine Vg (Ym O)<|Vg (bP O)<|Vg (Yf e0 O)<|Vg (Yd 1 O O O ah)<|Vg (Yo (i:=0) rH O O v aG)<|Vg (Yf BZ O)<|Vg (dQ 0 ah O O<|d 0 _ O)<|Vg (Ym O) ?_;refine Vg (g2 O O) ?_;exact Gt 9 O O O
 refine ag ?_;refine Cc O (λm=>?_)<|λm=>?_
 ·have A:nN k l=ak:=by cases l with| nil=>rfl| cons t a=>simp only [nN];rw [ao];intro h;simp [h] at m;omega
  refine Cr<|V0 (Yb va u_ O O)<|V0 (qW vb O) ?_;refine WL.panic Y O ?_;refine Ep ?_;refine b3 λo g=>?_;exact bl ⟨r,l,O,A,by have h:=g;have h:=h.av 1 O;have h:=Wt 1 h;exact h⟩
 obtain ⟨t,a,rfl⟩:∃t a,l=t::a:=by cases l with| nil=>simp at m| cons t a=>exact ⟨t,a,rfl⟩
 have B:t.kind=k:=by simp at m;exact m.2
 have C:nN k (t::a)=aa (t,a):=by simp only [nN];rw [aU B]
 have p:=p aG;obtain ⟨s,u,v,d⟩:=f.b7 0 t rfl;have d:ct c s (u+0*3) t.cells:=d;refine bO<|ai<|ad O<|V0 (bP O)<|V0 (Yf e0 O)<|V0 (Yd 1 O O O ah)<|V0 (Yo (i:=0) rH O O v aG)<|V0 (dG 0 i1 O O O<|d) ?_;refine Al Y O sM λF=>?_;refine aq 0 Y O O O lY O O O<|ag<|ai<|ad O<|ad O<|V0 (bP O)<|V0 (Yf e0 O)<|V0 (Yd 2 O O O ah)<|V0 (AX 1 rH O O O aG y) ?_;refine V0 (bP O)<|V0 (Yf e0 O)<|aq 2 Y O O O wx O O O<|ag<|ai<|V0 (dv 0 O O i1 O)<|aq 1 Y O O O lY O O O<|ag<|bq ?_;refine WE.gt (j_ O<|e1 1 O O i1 O) λo g=>?_;exact bA ⟨t,(if r.2-1=0 then r.1 else r.1.map (·.add<|1*3),r.2-1),a,O,C,p,Wd 2 g⟩
def Q' (a:Z) (b:View) (r:az a0×Z) (l:Tk) (k:ab) (j:Sl aZ 3 b r.1 r.2 l):xQ aB 259 [b0<|aa ⟨a,0,ak⟩,an am k] (bZ a r l) [b] (ι:=Tok×(az a0×Z)×Tk) (κ:=(az a0×Z)×Tk) (λi=>bU #[an am i.1.kind,an am i.1.n,st i.1.text]) (λi=>bZ a i.2.1 i.2.2) (λi=>nN k l=aa (i.1,i.2.2)/\Sl aZ 3 b i.2.1.1 i.2.1.2 i.2.2) (λ_=>iz) (λi=>bZ a i.1 i.2)<|λ_=>nN k l=ak:=⟨bf,λw m=>(Z' a b r l k w j m).mono λe p h=>by
 rcases h with ⟨t,c,q,d,f,g,o⟩ | ⟨c,q,d,f,g⟩;·exact bA ⟨(t,c,q),d,⟨f,g⟩,o⟩
 ·exact bl ⟨(c,q),d,f,g⟩⟩
def Z_ (a:Z) (c:View) (r:az a0×Z) (l:Tk) (w:aL) (n:Sl aZ 3 c r.1 r.2 l) (b:Ws w (c5 bc.ids<|bZ a r l) (bZ a r l) [c] w) : cr aB 208 #[b0 (aa ⟨a,0,ak⟩)] w λe d=>(∃(s:Tx) (f:az a0×Z) (q:Tk),e = ax (st s)/\hU l=aa (s,q)/\Sl aZ 3 c f.1 f.2 q/\Ws w (c5 bc.ids<|bZ a r l) (bZ a f q) [c] d)\/(∃(f:az a0×Z) (q:Tk),e = .panicked iz/\hU l=ak/\Ws w (c5 bc.ids<|bZ a r l) (bZ a f q) [c] d):=by
 refine enter func208 O 13 O O ?_;refine CE b<|ai<|ar O<|ag<|ai<|ad O ?_;refine WL.kx (Q' a c r l 1 n) ?_ ?_;·intro ⟨o,p⟩ t;refine Ep ?_;refine b3 λd b=>?_;exact bl ⟨o,p,O,by unfold hU;rw [t];rfl,by have h:=b;exact h⟩
 intro ⟨j,k,g⟩ ⟨m,u⟩;refine V0 (My Z6 O O)<|ar O<|ag<|Cs<|ai<|ad O<|Lp Y O bf O (λw b=>Ff _ w)<|V0 (hV O)<|ag ?_;refine Cc O (λi=>?_)<|λi=>?_
 ·have v:hU l=ak:=by unfold hU;rw [m];simp only [cF];rw [ao (by simpa using i)]
  refine Cr<|V0 (Yb va u_ O O)<|V0 (qW vb O) ?_;refine WL.panic Y O ?_;refine Ep ?_;refine b3 λd b=>?_;exact bl ⟨k,g,O,v,by have h:=b;exact h⟩
 have x:hU l=aa (j.text,g):=by unfold hU;rw [m];simp only [cF];rw [aU (by simpa using i)]
 refine bO<|ai<|ad O<|ar O<|ag<|bq ?_;refine R1 O O λd b=>?_;exact bA ⟨j.text,k,g,O,x,u,b⟩
def sX (a:Z) (b:View) (r:az a0×Z) (l:Tk) (j:Sl aZ 3 b r.1 r.2 l):xQ aB 208 [b0<|aa ⟨a,0,ak⟩] (bZ a r l) [b] (ι:=(Tx)×(az a0×Z)×Tk) (κ:=(az a0×Z)×Tk) (λi=>st i.1) (λi=>bZ a i.2.1 i.2.2) (λi=>hU l=aa (i.1,i.2.2)/\Sl aZ 3 b i.2.1.1 i.2.1.2 i.2.2) (λ_=>iz) (λi=>bZ a i.1 i.2)<|λ_=>hU l=ak:=⟨bf,λw k=>(Z_ a b r l w j k).mono λe n h=>by
 rcases h with ⟨t,c,q,d,f,g,m⟩ | ⟨c,q,d,f,g⟩;·exact bA ⟨(t,c,q),d,⟨f,g⟩,m⟩
 ·exact bl ⟨(c,q),d,f,g⟩⟩
def aaa (a:Z) (b:View) (r:az a0×Z) (l:Tk) (w:aL) (g:Sl aZ 3 b r.1 r.2 l) (c:Ws w (c5 bc.ids<|bZ a r l) (bZ a r l) [b] w) : cr aB 260 #[b0 (aa ⟨a,0,ak⟩)] w λe f=>(∃(n:ab) (d:az a0×Z) (q:Tk),e = ax (an am n)/\nO l=aa (n,q)/\Sl aZ 3 b d.1 d.2 q/\Ws w (c5 bc.ids<|bZ a r l) (bZ a d q) [b] f)\/(∃(d:az a0×Z) (q:Tk),e = .panicked iz/\nO l=ak/\Ws w (c5 bc.ids<|bZ a r l) (bZ a d q) [b] f):=by
 refine enter func260 O 6 O O ?_;refine CE c<|ai<|ar O<|ag<|ai<|ad O ?_;refine WL.kx (Q' a b r l 2 g) ?_ ?_;·intro ⟨i,j⟩ k;refine Ep ?_;refine b3 λf c=>?_;exact bl ⟨i,j,O,by unfold nO;rw [k];rfl,by have h:=c;exact h⟩
 intro ⟨m,o,p⟩ ⟨s,t⟩;refine V0 (My Z7 O O)<|ar O<|ag<|bq ?_;refine R1 O O λf c=>?_;exact bA ⟨m.n,o,p,O,by unfold nO;rw [s];rfl,t,c⟩
def JG (a:Z) (b:View) (r:az a0×Z) (l:Tk) (j:Sl aZ 3 b r.1 r.2 l):xQ aB 260 [b0<|aa ⟨a,0,ak⟩] (bZ a r l) [b] (ι:=(ab)×(az a0×Z)×Tk) (κ:=(az a0×Z)×Tk) (λi=>an am i.1) (λi=>bZ a i.2.1 i.2.2) (λi=>nO l=aa (i.1,i.2.2)/\Sl aZ 3 b i.2.1.1 i.2.1.2 i.2.2) (λ_=>iz) (λi=>bZ a i.1 i.2)<|λ_=>nO l=ak:=⟨bf,λw k=>(aaa a b r l w j k).mono λe n h=>by
 rcases h with ⟨t,c,q,d,f,g,m⟩ | ⟨c,q,d,f,g⟩;·exact bA ⟨(t,c,q),d,⟨f,g⟩,m⟩
 ·exact bl ⟨(c,q),d,f,g⟩⟩
def aab (a:Z) (c:View) (r:az a0×Z) (l:Tk) (w:aL) (x:eA l) (y:Sl aZ 3 c r.1 r.2 l) (b:Ws w (c5 bc.ids<|bZ a r l) (bZ a r l) [c] w) : cr aB 314 #[b0 (aa ⟨a,0,ak⟩)] w λe d=>(∃(p:Tx×Tx) (f:az a0×Z) (q:Tk),e = ax (cN #[st p.1,st p.2])/\l4 l=aa (p,q)/\Sl aZ 3 c f.1 f.2 q/\Ws w (c5 bc.ids<|bZ a r l) (bZ a f q) [c] d)\/(∃(f:az a0×Z) (q:Tk),e = .panicked iz/\l4 l=ak/\Ws w (c5 bc.ids<|bZ a r l) (bZ a f q) [c] d):=by
 refine enter func314 O 13 O O ?_;refine CE b<|ai<|ar O<|ar O<|ag<|ai<|ad O ?_;refine WL.kx (sX a c r l y) ?_ ?_;·intro ⟨i,j⟩ k;refine Ep ?_;refine b3 λd b=>?_;exact bl ⟨i,j,O,by unfold l4;rw [k];rfl,by have h:=b;exact h⟩
 intro ⟨o,z,s⟩ ⟨g,A⟩;have B:=sW x g;refine ar O<|ag<|Cs<|ai<|ad O ?_;refine WL.kw (jR a c z s [46] A) ?_;intro ⟨N,t,C⟩ ⟨D,E,u⟩;refine ag ?_;refine Cc O (λm=>?_)<|λm=>?_
 ·have n:=D m;have F:=kl B n;refine ai<|ad O<|ad O ?_;refine WL.kx (sX a c t C u) ?_ ?_;·intro ⟨i,j⟩ k;refine Ep<|Ep ?_;refine b3 λd b=>?_;exact bl ⟨i,j,O,by unfold l4;rw [g];simp only [cF];rw [n];simp only;rw [k];rfl,by have h:=b;exact h⟩
  intro ⟨G,H,J⟩ ⟨v,K⟩;have P:=sW F v;refine ar O<|ar O<|ag<|bq<|Er ?_;refine WE.iA O O O λd b=>?_;exact bA ⟨(o,G),H,J,O,by unfold l4;rw [g];simp only [cF];rw [n];simp only;rw [v];rfl,K,b⟩
 obtain ⟨L,M⟩:=E m;subst M;refine bO<|ai<|ad O<|ar O<|ar O<|ag<|bq ?_;refine WE.iA O O O λd b=>?_;exact bA ⟨([],o),t,s,O,by unfold l4;rw [g];simp only [cF];rw [L],u,b⟩
def Q_ (a:Z) (b:View) (r:az a0×Z) (l:Tk) (j:eA l) (k:Sl aZ 3 b r.1 r.2 l):xQ aB 314 [b0<|aa ⟨a,0,ak⟩] (bZ a r l) [b] (ι:=(Tx×Tx)×(az a0×Z)×Tk) (κ:=(az a0×Z)×Tk) (λi=>cN #[st i.1.1,st i.1.2]) (λi=>bZ a i.2.1 i.2.2) (λi=>l4 l=aa (i.1,i.2.2)/\Sl aZ 3 b i.2.1.1 i.2.1.2 i.2.2) (λ_=>iz) (λi=>bZ a i.1 i.2)<|λ_=>l4 l=ak:=⟨bf,λw m=>(aab a b r l w j k m).mono λe o h=>by
 rcases h with ⟨t,c,q,d,f,g,n⟩ | ⟨c,q,d,f,g⟩;·exact bA ⟨(t,c,q),d,⟨f,g⟩,n⟩
 ·exact bl ⟨(c,q),d,f,g⟩⟩
abbrev XE:=cu×az a0×Z
def XE.cells (e:XE):I aT:=xi e.1 e.2.1 e.2.2
def XE.dA (e:XE):(XE.cells e).length=5:=rfl
def XE.one (e:XE):(XE.cells e).all (·.oneCell')=ac:=rfl
def e6 (H:View) (b o:Z) (e:XE):Prop:=ct H b o<|XE.cells e
def l8 (J:View) (f:Z) (es:I XE):Prop:=∀e ∈ es,Sl (jI f) 5 J e.2.1 e.2.2 e.1.args
def l8.nil (J:View) (f:Z):l8 J f []:=by intro e h;simp at h
def l8.snoc {J g c:View} {f:Z} {es:I XE} {e:XE} (h:l8 J f es) (i:cV J c) (j:cV g c) (k:Sl (jI f) 5 g e.2.1 e.2.2 e.1.args):l8 c f<|es++[e]:=by
 intro x a;rcases bm.1 a with a | a;·exact (h x a).imp λb o y d=>yY i (eC _) b o y d
 ·rw [fq] at a;subst a;exact k.imp λb o y d=>yY j (eC _) b o y d
variable {bt bX lT:View} {aH:Z} {b':az a0}
def rO {es:I XE} (h:Sl e6 5 bt b' aH es) (hv:cV bt lT) (d:cV bX lT) (f:l8 bX ae es):Sl (jI<|ae+1) 5 lT b' aH (es.map (·.1)):=by refine ⟨by simpa using h.cap,h.max,h.spot,λi x a=>?_⟩;rw [gh] at a;obtain ⟨e,c,rfl⟩:=eD.1 a;obtain ⟨b,o,g,j⟩:=h.b7 i e c;exact ⟨b,o,g,e.2.1,e.2.2,ct.mono hv j,(f e<|dJ c).imp λb o y k=>yY d (eC _) b o y k⟩
variable {dw:I cu}
def B6 (h:Sl (jI ae) 5 bt b' aH dw) (hv:cV bt bX):Sl (jI ae) 5 bX b' aH dw:=h.imp λb o y a=>yY hv (eC _) b o y a
structure GA where
 es:I XE
 a:az a0
 c:Z
 J:View
 r:az a0×Z
 q:Tk
def Fp (b:View) (f:Z):Prop:=∀(a:Z) (r:az a0×Z) (l:Tk) (d:Z) (w:aL),f+d=7->eA l->Sl aZ 3 b r.1 r.2 l->Ws w (c5 bc.ids<|bZ a r l) (bZ a r l) [b] w-> cr aB 313 #[b0 (aa ⟨a,0,ak⟩),an am (d:ab)] w λe g=>(∃(x:cu) (s:az a0×Z) (c:az a0×Z) (q:Tk),e = ax (bU #[an am (x).op,an am (x).n,st (x).mod,st (x).nm,aC s.1 (x).args.length s.2])/\fg f l=aa (x,q)/\Sl (jI f) 5 (nv w g) s.1 s.2 x.args/\Sl aZ 3 b c.1 c.2 q/\Ws w (c5 bc.ids<|bZ a r l) (bZ a c q) [b] g)\/(∃(c:az a0×Z) (q:Tk),e = .panicked iz/\fg f l=ak/\Ws w (c5 bc.ids<|bZ a r l) (bZ a c q) [b] g)
variable {gD:Tk->az (cu×Tk)} {iZ:Tk}
def aac (a:gD a_=aa (aw,cm)) (b:bD [41] cm=aa iZ):mB gD (ae+1) a_=aa ([aw],iZ):=by rw [mB,a];simp only [cF];rw [b]
def aad (a:gD a_=aa (aw,cm)) (b:bD [41] cm=ak) (c:bD [44] cm=aa iZ):mB gD (ae+1) a_=(mB gD ae iZ).map λp=>(aw::p.1,p.2):=by rw [mB,a];simp only [cF];rw [b];simp only;rw [c]
def aae (a:gD a_=aa (aw,cm)) (b:bD [41] cm=ak) (c:bD [44] cm=ak):mB gD (ae+1) a_=ak:=by rw [mB,a];simp only [cF];rw [b];simp only;rw [c]
def aaf (a:gD a_=ak):mB gD (ae+1) a_=ak:=by rw [mB,a];rfl
def Rb:∀(a:I Tx) (i k:Z) (w:Tx) (l q:Tk),a[i]? = aa w->(∀j v,j<i->a[j]? = aa v->bD v l=ak)->bD w l=aa q->pk a k l=aa (k+i,q)| [],i,k,w,l,q,h,_,_=>by simp at h| v::a,0,k,w,l,q,h,_,b=>by simp at h;subst h;rw [pk,b];rfl| v::a,i+1,k,w,l,q,h,c,b=>by rw [pk,c 0 v aj rfl];simp only;rw [Rb a i (k+1) w l q (by simpa using h) (λj u e d=>c (j+1) u aj (by simpa using d)) b];congr 2;omega
def Rc:∀(a:I Tx) (k:Z) (l:Tk),(∀w ∈ a,bD w l=ak)->pk a k l=ak| [],_,_,_=>rfl| w::a,k,l,h=>by rw [pk,h w aG];exact Rc a (k+1) l λv hv=>h v<|mI _ hv
def aag (h:opsL[ae]? = aa bw):((opsL.map st).toArray)[ae]? = aa (st bw):=by rw [I.getElem?_toArray,gh,h];rfl
def fi:hW aB 237 239 (bU #[an am 0,an am 0,st [],st [],aC ak 0 0]) 5 72:=jD ah
def rQ (j:Fp bt ae) (a:Z) (r:az a0×Z) (l:Tk) (d:Z) (v:ae+d=7) (k:eA l) (m:Sl aZ 3 bt r.1 r.2 l):P_ aB 313 [b0<|aa ⟨a,0,ak⟩,an am (d:ab)] (bZ a r l) [bt] (ι:=(cu×(az a0×Z))×(az a0×Z)×Tk) (κ:=(az a0×Z)×Tk) (λi=>bU #[an am (i.1.1).op,an am (i.1.1).n,st (i.1.1).mod,st (i.1.1).nm,aC i.1.2.1 (i.1.1).args.length i.1.2.2]) (λi=>bZ a i.2.1 i.2.2) (λo i=>fg ae l=aa (i.1.1,i.2.2)/\Sl (jI ae) 5 o i.1.2.1 i.1.2.2 i.1.1.args/\Sl aZ 3 bt i.2.1.1 i.2.1.2 i.2.2) (λ_=>iz) (λi=>bZ a i.1 i.2)<|λ_=>fg ae l=ak:=⟨⟨bf,λ_ _ h=>h⟩,λw p=>(j a r l d w aj k m p).mono λe y h=>by
 rcases h with ⟨x,s,b,q,c,f,g,t,u⟩ | ⟨b,q,c,f,g⟩;·exact bA ⟨((x,s),b,q),c,⟨f,g,t⟩,u⟩
 ·exact bl ⟨(b,q),c,f,g⟩⟩
def Rd (i:Z) (b:View) (r:az a0×Z) (l:Tk) (f d:Z) (w:aL) (aD:Fp b f) (aE:f+d=7) (z:eA l) (aH:Sl aZ 3 b r.1 r.2 l) (j:Ws w (c5 bc.ids<|bZ i r l) (bZ i r l) [b] w) :
   cr aB 315 #[b0 (aa ⟨i,0,ak⟩),an am (d:ab)] w λe u=>(∃(xs:I cu) (s:az a0×Z) (v:az a0×Z) (q:Tk),e = ax (aC s.1 xs.length s.2)/\l5 (fg f) l=aa (xs,q)/\Sl (jI<|f+1) 5 (nv w u) s.1 s.2 xs/\Sl aZ 3 b v.1 v.2 q/\Ws w (c5 bc.ids<|bZ i r l) (bZ i v q) [b] u)\/(∃(v:az a0×Z) (q:Tk),e = .panicked iz/\l5 (fg f) l=ak/\Ws w (c5 bc.ids<|bZ i r l) (bZ i v q) [b] u):=by
 refine enter func315 O 21 O O ?_;refine CE j<|ai<|ar O<|ag<|ai<|ar O<|LW (λ_ h=>h.bJ 239 5) ?_;refine WL.v0 ?_;refine ag<|Cs<|ai<|ad O<|Lf 1 O ?_;refine WL.kw (jR i b r l [41] aH) ?_;intro ⟨bd,L,aI⟩ ⟨aK,aP,M⟩;refine ag ?_;refine Cc O (λC=>?_)<|λC=>?_;·have N:=aK C;have be:=kl z N;refine ai<|ad O<|ar O<|ag<|bq<|Er ?_;refine R1 O O λu j=>?_;exact bA ⟨[],(ak,0),L,aI,O,by rw [l5,N],Sl.nil,M,Wv 1<|Wt 1 j⟩
 obtain ⟨aR,aS⟩:=aP C;subst aS;refine bO<|Cb ?_;refine dZ (ι:=GA) (λg=>[(5,aC g.a g.es.length g.c)]) [(0,_),(1,_)] (λg=>Ws w (c5 bc.ids<|bZ i r l) (bZ i g.r g.q++[cO 239 5 XE.cells g.a g.c g.es]) [g.J,b]) (λg=>(g.es.length+g.q.length<=l.length/\eA g.q)/\Sl aZ 3 b g.r.1 g.r.2 g.q/\(g8 w g.J/\l8 g.J f g.es)/\∃n,g.q.length<n/\l5 (fg f) l=(mB (fg f) n g.q).map λp=>(g.es.map (·.1)++p.1,p.2)) (λg=>g.q.length) ⟨[],ak,0,v0,L,l⟩ ⟨⟨aG,z⟩,M,⟨ec w,l8.nil _ _⟩,l.length+1,aG,by rw [l5,aR];simp⟩ (λ_ h=>by have h:=Ws.dr h (cB:=[v0,b]) aG;exact h) ?_;intro g ⟨⟨bf,D⟩,aU,⟨P,Q⟩,o⟩;refine Cb<|ai<|ad O<|ad O<|ad O ?_;refine WL.ke (rQ aD i g.r g.q d aE D aU) ?_ ?_;·intro ⟨E,F⟩ G;refine Ep<|WE.aF<|Ep<|WE.aF ?_;refine b3 λu j=>?_;obtain ⟨n,R,o⟩:=o;obtain ⟨n,rfl⟩:∃k,n=k+1:=⟨n-1,aj⟩;exact bl ⟨E,F,O,by rw [o,aaf G];rfl,by have h:=j;have h:=Wt 1 h;have h:=Ws.dr h (cB:=[b]) aG;exact h⟩
 intro bh ⟨⟨A,t⟩,aW,B⟩ S ⟨x,U,aX⟩;have V:eA B:=rK D x;have bi:B.length+1<=dV g.q:=rL D x;refine WL.jJ λW X ae af=>?_;refine Lb Y O fi O O O O λbj=>?_;refine dK 0 (aM (XE.cells (A,t.1,t.2)).toArray 239 (0,0)) O O ?_;refine LA ((A,t.1,t.2):XE) 2 0 Y O fi O O O O O O (by have:=z.len;omega) (by have:=z.len;omega) λah al=>?_;refine ar O<|ag<|Cs<|ai<|ad O<|Lf 1 O ?_;refine WL.kw (jR i b aW B [41] aX) ?_;intro ⟨bk,ao,a1⟩ ⟨a2,a3,ap⟩;refine ag ?_;refine Cc O (λH=>?_)<|λH=>?_;·have aq:=a2 H;have bm:=kl V aq;obtain ⟨n,R,o⟩:=o;obtain ⟨n,rfl⟩:∃k,n=k+1:=⟨n-1,aj⟩;refine Cs ?_;refine WC.pH (rd:=e6) 2 O (λk aw=>by simp [bZ,aJ] at aw;subst aw;simp [fR,bZ,aJ,eK]) XE.dA fp λbn a4 a5=>?_;refine Cr<|ad O<|ar O<|ag<|bq<|Er<|cZ<|Er<|cZ ?_;refine R1 O O λu j=>?_;exact bA ⟨(g.es++[(A,t.1,t.2)]).map (·.1),(ah,al),ao,a1,by rw [fK],by rw [o,aac x aq];simp,rO a5 (e7 j aG a4) (e7 j aG<|af _ S P)<|l8.snoc Q ae X U,ap,Wv 2<|Wt 1 j⟩
 obtain ⟨aA,a6⟩:=a3 H;subst a6;obtain ⟨n,R,o⟩:=o;obtain ⟨n,rfl⟩:∃k,n=k+1:=⟨n-1,aj⟩;refine bO<|Cr<|ad O ?_;refine Lb Y O dI O O O O λbo=>?_;refine aY (T:=9) (m:=1) 0 [[44]] O O (show 1<=1 by decide) a' λa8 a9=>?_;refine WL.kx (b4 i b ao B a8 _ _ [[44]] a9 ap) ?_ ?_;·intro ⟨E,F⟩ G;refine WE.aF<|Ep<|WE.aF ?_;refine b3 λu j=>?_;exact bl ⟨E,F,O,by rw [o,aae x aA<|(gf _ _).symm.trans G];rfl,by have h:=j;have h:=Wt 1 h;have h:=Ws.dr h (cB:=[b]) aG;exact h⟩
 intro ⟨a_,K⟩ ⟨y,ba⟩;have bb:=km V y;refine Ln<|Eb ?_;exact cU (⟨g.es++[(A,t.1,t.2)],ah,al,W,a_,K⟩:GA) (by have:=B5 y;simp at this;show K.length<g.q.length;omega) ⟨⟨by have:=B5 y;simp at this ⊢;omega,bb⟩,ba,⟨af _ S P,l8.snoc Q ae X U⟩,n,(show K.length<n by have:=B5 y;simp at this;omega),by rw [o,aad x aA<|(gf _ _).symm.trans y];simp [uh]⟩ (λ_ h=>by have h:=h.av 2 rfl;have h:=h.av 1 rfl;have h:=Wt 2 h;have h:=Ws.dr h (cB:=[W,b]) aG;exact h)
def aah (h:bD [105,110] a_=aa cm):mC gD a_=aa (cu.mk 2 0 [] [] [],cm):=by unfold mC;rw [show wd=[105,110] from rfl,h]
def Re (a:bD [105,110] a_=ak) (h:bD [33] a_=aa cm):mC gD a_=(gD cm).map λx=>(cu.mk 6 0 [] [] [x.1],x.2):=by unfold mC;rw [show wd=[105,110] from rfl,a];simp only;rw [h]
def Rf (a:bD [105,110] a_=ak) (b:bD [33] a_=ak) (h:bD [40] a_=aa cm):mC gD a_=nP gD cm:=by unfold mC;rw [show wd=[105,110] from rfl,a];simp only;rw [b];simp only;rw [h]
def x5 (a:bD [105,110] a_=ak) (b:bD [33] a_=ak) (h:bD [40] a_=ak):mC gD a_=(l4 a_).bind λp=>oz gD p.1.1 p.1.2 p.2:=by unfold mC;rw [show wd=[105,110] from rfl,a];simp only;rw [b];simp only;rw [h]
variable {aS:Tx}
def JH (h:bD [91] a_=aa cm):oz gD bw aS a_=(gD cm).bind λx=>(bD [93] x.2).map λr=>(cu.mk 4 0 bw aS [x.1],r):=by unfold oz;rw [h]
def Rg {l q:Tk} (a:bD [91] l=ak) (h:bD [40] l=aa q):oz gD bw aS l=(l5 gD q).map λq=>(cu.mk 5 0 bw aS q.1,q.2):=by unfold oz;rw [a];simp only;rw [h]
def aai (a:bD [91] a_=ak) (h:bD [40] a_=ak):oz gD bw aS a_=aa (cu.mk 3 0 bw aS [],a_):=by unfold oz;rw [a];simp only;rw [h]
def aaj (a:ae+aH=7) (h:6<aH\/a_=[]):fg ae a_=ak:=by
 rcases h with h | rfl;·obtain rfl:ae=0:=aj;rfl
 ·cases ae<;>rfl
variable {jp:Tok}
def aak (h:jp.kind=2):fg (ae+1) (jp::a_)=aa (cu.mk 1 jp.n [] [] [],a_):=by rw [fg,aU h]
def aal {f:Z}  {r:Tk} (h:¬jp.kind=2):fg (f+1) (jp::r)=mC (fg f) (jp::r):=by rw [fg,ao h]
def Rh (h:jp.kind=2):nO (jp::a_)=aa (jp.n,a_):=by simp [nO,nN,h]
def B7:hy aB 239=aa [(0,1),(1,1),(2,1),(3,1),(4,1)]:=ah
def jO:eP aB 237=aa 1:=ah
def aam (b:Z) (c:View) (r:az a0×Z) (l:Tk) (f d:Z) (w:aL) (R:Fp c f) (S:f+d=7) (G:eA l) (al:Sl aZ 3 c r.1 r.2 l) (a:Ws w (c5 bc.ids<|bZ b r l) (bZ b r l) [c] w) :
   cr aB 349 #[b0 (aa ⟨b,0,ak⟩),an am (d:ab)] w λe t=>(∃(x:cu) (s:az a0×Z) (y:az a0×Z) (q:Tk),e = ax (bU #[an am (x).op,an am (x).n,st (x).mod,st (x).nm,aC s.1 (x).args.length s.2])/\nP (fg f) l=aa (x,q)/\Sl (jI<|f+1) 5 (nv w t) s.1 s.2 x.args/\Sl aZ 3 c y.1 y.2 q/\Ws w (c5 bc.ids<|bZ b r l) (bZ b y q) [c] t)\/(∃(y:az a0×Z) (q:Tk),e = .panicked iz/\nP (fg f) l=ak/\Ws w (c5 bc.ids<|bZ b r l) (bZ b y q) [c] t):=by
 refine enter func349 O 35 O O ?_;refine CE a<|ai ?_;refine Al Y O pp λao=>?_;refine dK 0 (aM (xi (cu.mk 0 0 [] [] []) ak 0).toArray 239 (0,0)) O O<|ag<|ai<|ad O<|ad O<|Lf 1 O ?_;refine WL.ke (rQ R b r l d S G al) ?_ ?_;·intro ⟨z,A⟩ B;refine Ep ?_;refine b3 λt a=>?_;exact bl ⟨z,A,O,by rw [nP,B];rfl,by have h:=a;have h:=Wt 1 h;exact h⟩
 intro ap ⟨⟨H,C⟩,av,p⟩ aw ⟨u,aA,aD⟩;have aE:eA p:=rK G u;have bh:p.length+1<=dV l:=rL G u;refine Al Y O pp λaG=>?_;refine aq 0 Y O O O oF O O O<|ag<|Cs<|ai<|Lp Y O bf O (λw a=>QR w)<|ad O<|ag<|Cb ?_;refine dZ (ι:=Z×(az a0×Z)) (λg=>[(13,an am (g.1:ab))]) [(0,_),(1,_),(4,_),(5,_),(12,_)] (λg=>Ws w (c5 bc.ids<|bZ b r l) (bZ b g.2 p++[aJ aG<|aM (XE.cells (H,C.1,C.2)).toArray 239 (0,0),aJ ao<|aM (xi (cu.mk 0 0 [] [] []) ak 0).toArray 239 (0,0)]) [ap,c]) (λg=>g.1<=9/\(∀j v,j<g.1->opsL[j]? = aa v->bD v p=ak)/\Sl aZ 3 c g.2.1 g.2.2 p) (λg=>9-g.1) (0,av) ⟨de _,by simp,aD⟩ (λ_ h=>(((h.f 2 O).f 1 O).f 2 O:)) ?_;intro g ⟨hi,J,aH⟩;refine ai<|V0 (cP O O)<|ag<|Cs ?_;refine Cc O (λK=>?_)<|λK=>?_
 ·have U:g.1<9:=by simp at K;omega
  obtain ⟨o,L⟩:∃o,opsL[g.1]? = aa o:=⟨_,dh (by show g.1<9;exact U)⟩;refine bO<|Cs<|Cb<|ai<|ad O<|V0 (G8 (i:=g.1) QO O O U<|aag L)<|ar O<|ar O<|ag<|ai<|ad O<|ad O ?_;refine WL.kw (jR b c g.2 p o aH) ?_;intro ⟨bi,V,D⟩ ⟨aI,aK,W⟩;refine ag ?_;refine Cc O (λM=>?_)<|λM=>?_
  ·have X:=aI M;have N:=kl aE X;have P:pk opsL 0 p=aa (g.1,D):=by rw [Rb opsL g.1 0 o p D L J X,k0]
   refine ai<|ad O<|ad O ?_;refine WL.ke (rQ R b V D d S N W) ?_ ?_;·intro ⟨z,A⟩ B;refine Ep<|WE.aF<|Ep<|Ep<|WE.aF<|Ep ?_;refine b3 λt a=>?_;exact bl ⟨z,A,O,by rw [nP,u];simp only [cF];rw [P];simp only [cF];rw [B];rfl,by have h:=a;have h:=Wt 1 h;have h:=Ws.dr h (cB:=[c]) (by simp);exact h⟩
   intro bj ⟨⟨ae,af⟩,aP,Q⟩ aR ⟨E,aS,aU⟩;have aW:eA Q:=rK N E;have bk:Q.length+1<=dV D:=rL N E;refine WL.jJ λaX a1 a2 a3=>?_;refine Al Y O pp λbm=>?_;refine aq 0 Y O O O oF O O O<|ag<|ai<|ad O ?_;refine Lb Y O dI O O O O λbn=>?_;refine aY (T:=9) (m:=1) 0 [[41]] O O (show 1<=1 by decide) (by decide) λa4 a5=>?_;refine Lf 1 O ?_;refine WL.kx (b4 b c aP Q a4 _ _ [[41]] a5 aU) ?_ ?_;·intro ⟨z,A⟩ B;refine Ep<|WE.aF<|Ep<|Ep<|WE.aF<|Ep ?_;refine b3 λt a=>?_;exact bl ⟨z,A,O,by rw [nP,u];simp only [cF];rw [P];simp only [cF];rw [E];simp only [cF];rw [<-gf,B];rfl,by have h:=a;have h:=Wt 1 h;have h:=Ws.dr h (cB:=[c]) (by simp);exact h⟩
   intro ⟨a6,a8⟩ ⟨ah,a9⟩;have bo:=km aW ah;refine ag<|ai<|ad O<|V0 (Dx ((7:ab)+(g.1:ab)) O O O (by omega))<|V0 (dv 2 O O iy O)<|V0 (dv 1 O O iy O) ?_;refine Lb Y O fi O O O O λa'=>?_;refine LN (rd:=e6) (f:=XE.cells) (m:=2) 0 [(H,C.1,C.2),(ae,af.1,af.2)] O O (λk aj=>by simp [bZ,aJ] at aj;subst aj;simp [fR,bZ,aJ,eK]) XE.dA (λ_ _ _ _ h=>h) (show 2<=2 by decide) (by decide) λbp a_ ba=>?_;refine V0 (Yb pp B7 O O)<|aq 3 Y O O O oF O O O<|ag<|bq<|cZ<|Er<|Er<|cZ<|Er ?_;refine WE.gt (j_ O<|e1 3 O O iy O) λt a=>?_;exact bA ⟨cu.mk (7+(g.1:ab)) 0 [] [] [H,ae],(aa ⟨a',0,ak⟩,2),a6,a8,O,by rw [nP,u];simp only [cF];rw [P];simp only [cF];rw [E];simp only [cF];rw [<-gf,ah];rfl,rO ba (e7 a (by simp) a_) (e7 a (by simp)<|a3 _ aR aw)<|((l8.nil aX f).snoc (cV.refl _) a2 aA).snoc (cV.refl _) a1 aS,a9,Wv 3<|Wt 1 a⟩
  obtain ⟨bb,bd⟩:=aK M;subst bd;refine Ck<|Eb<|Et<|Cr<|V0 (Yi O O O (by omega))<|ad O<|Ln ?_;exact cU ((g.1+1,V):Z×(az a0×Z)) (by show 9-(g.1+1)<9-g.1;omega) ⟨by show g.1+1<=9;omega,λj v F hv=>by
   rcases dd.1 F with h | rfl;·exact J j v h hv
   ·rw [L] at hv;injection hv with hv;subst hv;exact bb,W⟩<|λ_ h=>h
 have br:¬g.1<9:=by simp at K;omega
 have be:pk opsL 0 p=ak:=Rc _ _ _ λv hv=>by obtain ⟨j,F⟩:=ls hv;exact J j v (by have:=(c_.1 F).1;have:opsL.length=9:=rfl;omega) F
 refine Ce<|Ex<|Ex<|dy<|Et<|Cr<|V0 (Yb va u_ O O)<|V0 (qW vb O) ?_;refine WL.panic Y O ?_;refine b3 λt a=>?_;exact bl ⟨g.2,p,O,by rw [nP,u];simp only [cF];rw [be];rfl,by have h:=a;have h:=Wt 1 h;have h:=Ws.dr h (cB:=[c]) (by simp);exact h⟩
def wy (c:View) (f:Z) (b:Z) (r:az a0×Z) (l:Tk) (d:Z) (w:aL) (bn:f+d=7) (K:eA l) (M:Sl aZ 3 c r.1 r.2 l) (a:Ws w (c5 bc.ids<|bZ b r l) (bZ b r l) [c] w) :
   cr aB 313 #[b0 (aa ⟨b,0,ak⟩),an am (d:ab)] w λe g=>(∃(x:cu) (s:az a0×Z) (o:az a0×Z) (q:Tk),e = ax (bU #[an am (x).op,an am (x).n,st (x).mod,st (x).nm,aC s.1 (x).args.length s.2])/\fg f l=aa (x,q)/\Sl (jI f) 5 (nv w g) s.1 s.2 x.args/\Sl aZ 3 c o.1 o.2 q/\Ws w (c5 bc.ids<|bZ b r l) (bZ b o q) [c] g)\/(∃(o:az a0×Z) (q:Tk),e = .panicked iz/\fg f l=ak/\Ws w (c5 bc.ids<|bZ b r l) (bZ b o q) [c] g):=by
 induction f using c8 generalizing b r l d w;rename_i f bo;have cM:=M.cap;have cO:=M.max;refine enter func313 O 83 O O ?_;refine CE a<|ai ?_;refine Al Y O pp λcP=>?_;refine dK 0 (aM (xi (cu.mk 0 0 [] [] []) ak 0).toArray 239 (0,0)) O O<|ag<|Cs<|ai<|ad O<|V0 (ek O O)<|ad O ?_;apply Lo 6 O O O O Y O O O O O;·intro cQ;refine Vg (Ym O)<|Vg (bP O)<|Vg (Yf e0 O)<|Vg (Yd 1 O O O ah)<|Vg (Yn rH O)<|Vg (bN O O) ?_;exact Gt 6 O O O
 refine ag ?_;refine Cc O (λN=>?_)<|λN=>?_
 ·have bp:fg f l=ak:=aaj bn (by
   simp at N;rcases N with h | h;·left;omega
   ·right;exact h);refine Cr<|V0 (Yb va u_ O O)<|V0 (qW vb O) ?_;refine WL.panic Y O ?_;refine Ep ?_;refine b3 λg a=>?_;exact bl ⟨r,l,O,bp,by have h:=a;have h:=h.av 1 O;have h:=Wt 1 h;exact h⟩
 have cR:¬6<d:=by intro h;have y:(6:ab)<(d:ab):=aj;simp [y] at N
 obtain ⟨f,rfl⟩:∃k,f=k+1:=⟨f-1,aj⟩;obtain ⟨B,F,rfl⟩:∃t r,l=t::r:=by cases l with| nil=>simp at N| cons t r=>exact ⟨t,r,rfl⟩
 obtain ⟨br,bs,bt,U⟩:=M.b7 0 B rfl;have U:ct c br (bs+0*3) B.cells:=U;have Q:Fp c f:=λb r l d w C y D P=>bo f aj b r l d w C y D P;refine bO<|Cs<|Cb<|ai<|ad O<|V0 (bP O)<|V0 (Yf e0 O)<|V0 (Yd 1 O O O ah)<|V0 (Yo (i:=0) rH O O bt aG)<|V0 (Yf BZ O)<|V0 (dQ 0 ah O O<|U 0 _ O) ?_;refine V0 (bN O O)<|ar O<|ag ?_;refine Cc O (λV=>?_)<|λV=>?_
 ·have z:B.kind=2:=by simpa using V
  refine ai<|ad O<|Lf 1 O ?_;refine WL.kx (JG b c r (B::F) M) ?_ ?_;·intro ⟨p,u⟩ j;refine Ep<|WE.aF<|Ep ?_;refine b3 λg a=>?_;rw [Rh z] at j;cases j
  intro ⟨cS,bu,cT⟩ ⟨G,bv⟩;have cU:=JF K G;refine V0 (Yb pp B7 O O) ?_;rw [Rh z] at G;injection G with G;injection G with bw G;subst bw;subst G;refine aq 1 Y O O O oF O O O<|ag<|bq<|cZ<|Er ?_;refine WE.gt (j_ O<|e1 1 O O iy O) λg a=>?_;exact bA ⟨cu.mk 1 B.n [] [] [],(ak,0),bu,F,O,aak z,Sl.nil,bv,Wt 1 a⟩
 have z:¬B.kind=2:=by simpa using V
 have v:=aal (f:=f) (r:=F) z;refine ai<|ad O<|Lf 1 O ?_;refine WL.kw (jR b c r (B::F) [105,110] M) ?_;intro ⟨cW,aX,bx⟩ ⟨bz,bB,a1⟩;refine ar O<|ag ?_;refine Cc O (λW=>?_)<|λW=>?_;·have a2:=bz W;have cX:=kl K a2;refine ai<|V0 (Yb pp B7 O O)<|aq 1 Y O O O oF O O O<|ag<|bq<|cZ<|Er ?_;refine WE.gt (j_ O<|e1 1 O O iy O) λg a=>?_;exact bA ⟨cu.mk 2 0 [] [] [],(ak,0),aX,bx,O,by rw [v,aah a2],Sl.nil,a1,Wt 1 a⟩
 obtain ⟨A,bC⟩:=bB W;subst bC;refine ai<|ad O ?_;refine WL.kw (jR b c aX (B::F) [33] a1) ?_;intro ⟨cY,a3,a4⟩ ⟨bD,bF,a5⟩;refine ar O<|ag ?_;refine Cc O (λX=>?_)<|λX=>?_
 ·have ae:=bD X;have af:=kl K ae;refine ai<|ad O<|ad O<|V0 (Yi O O O aj) ?_;refine WL.ke (rQ Q b a3 a4 (d+1) aj af a5) ?_ ?_;·intro ⟨p,u⟩ j;refine Ep<|WE.aF<|Ep ?_;refine b3 λg a=>?_;exact bl ⟨p,u,O,by rw [v,Re A ae,j];rfl,by have h:=a;have h:=Wt 1 h;exact h⟩
  intro bG ⟨⟨a6,a8⟩,bH,al⟩ bI ⟨ao,bJ,bK⟩;have c0:eA al:=rK af ao;have c1:al.length+1<=dV a4:=rL af ao;refine Lb Y O fi O O O O λbL=>?_;refine LN (rd:=e6) (f:=XE.cells) (m:=1) 0 [(a6,a8.1,a8.2)] O O (λk z=>by simp [bZ,aJ] at z;subst z;simp [fR,bZ,aJ,eK]) XE.dA fp (show 1<=1 by decide) a' λc2 bM bQ=>?_;refine V0 (Yb pp B7 O O)<|aq 1 Y O O O oF O O O<|ag<|bq<|cZ<|Er ?_;refine WE.gt (j_ O<|e1 1 O O iy O) λg a=>?_;exact bA ⟨cu.mk 6 0 [] [] [a6],(aa ⟨bL,0,ak⟩,1),bH,al,O,by rw [v,Re A ae,ao];rfl,rO bQ (e7 a aG bM) (e7 a aG bI)<|(l8.nil bG f).snoc (cV.refl _) (cV.refl _) bJ,bK,Wv 2<|Wt 1 a⟩
 obtain ⟨E,bR⟩:=bF X;subst bR;refine ai<|ad O ?_;refine WL.kw (jR b c a3 (B::F) [40] a5) ?_;intro ⟨c3,a9,ap⟩ ⟨bS,bT,a_⟩;refine ar O<|ag ?_;refine Cc O (λaw=>?_)<|λaw=>?_
 ·have aA:=bS aw;have bW:=kl K aA;refine ai<|ad O<|ad O<|V0 (Yi O O O aj) ?_;refine qq (ι:=((cu)×(az a0×Z))×(az a0×Z)×Tk) (κ:=(az a0×Z)×Tk) [_] _ Y O bf O O (λi=>bU #[an am (i.1.1).op,an am (i.1.1).n,st (i.1.1).mod,st (i.1.1).nm,aC i.1.2.1 (i.1.1).args.length i.1.2.2]) (λi=>bZ b i.2.1 i.2.2) (λaD i=>nP (fg f) ap=aa (i.1.1,i.2.2)/\Sl (jI<|f+1) 5 aD i.1.2.1 i.1.2.2 i.1.1.args/\Sl aZ 3 c i.2.1.1 i.2.1.2 i.2.2) (λ_=>iz) (λi=>bZ b i.1 i.2) (λ_=>nP (fg f) ap=ak) [c] aG ud (λw a=>(aam b c a9 ap f (d+1) w Q aj bW a_ a).mono λe g h=>by
   rcases h with ⟨x,s,o,q,C,y,D,P,aE⟩ | ⟨o,q,C,y,D⟩;·exact bA ⟨((x,s),o,q),C,⟨y,D,P⟩,aE⟩
   ·exact bl ⟨(o,q),C,y,D⟩) ?_ ?_;·intro ⟨p,u⟩ j;refine Ep<|WE.aF<|Ep ?_;refine b3 λg a=>?_;exact bl ⟨p,u,O,by rw [v,Rf A E aA,j],by have h:=a;have h:=Wt 1 h;exact h⟩
  intro c4 ⟨⟨bX,bY⟩,b1,b2⟩ b5 ⟨b6,b8,b9⟩;refine aq 1 Y O O O oF O O O<|ag<|bq<|cZ<|Er ?_;refine WE.gt (j_ O<|e1 1 O O iy O) λg a=>?_;exact bA ⟨bX,bY,b1,b2,O,by rw [v,Rf A E aA,b6],B6 b8<|e7 a aG b5,b9,Wv 1<|Wt 1 a⟩
 obtain ⟨H,b'⟩:=bT aw;subst b';refine Ck<|Eb<|Et<|ai<|ad O ?_;refine WL.kx (Q_ b c a9 (B::F) K a_) ?_ ?_;·intro ⟨p,u⟩ j;refine Ep ?_;refine b3 λg a=>?_;exact bl ⟨p,u,O,by rw [v,x5 A E H,j];rfl,by have h:=a;have h:=Wt 1 h;exact h⟩
 intro ⟨L,ca,aH⟩ ⟨J,cb⟩;have ba:=Q9 K J;refine ad O<|V0 (Yx O O)<|V0 (Yx O O)<|ar O<|ar O<|ag<|ai<|ad O<|ad O ?_;refine V0 (Yb pp B7 O O) ?_;refine Al Y O pp λc6=>?_;refine aq 0 Y O O O oF O O O<|ag<|Cs<|Cb<|ai<|ad O<|Lf 1 O ?_;refine WL.kw (jR b c ca aH [91] cb) ?_;intro ⟨c7,bb,bd⟩ ⟨cc,cd,be⟩;refine ar O<|ag ?_;refine Cc O (λaI=>?_)<|λaI=>?_
 ·have R:=cc aI;have aK:=kl ba R;refine ai<|ad O<|ad O<|V0 (Yi O O O aj) ?_;refine WL.ke (rQ Q b bb bd (d+1) aj aK be) ?_ ?_;·intro ⟨p,u⟩ j;refine Ep<|WE.aF<|Ep ?_;refine b3 λg a=>?_;exact bl ⟨p,u,O,by rw [v,x5 A E H,J];simp only [cF];rw [JH R,j];rfl,by have h:=a;have h:=Wt 1 h;exact h⟩
  intro ce ⟨⟨bh,bi⟩,cf,aP⟩ cg ⟨S,ch,cj⟩;have ck:eA aP:=rK aK S;have c9:aP.length+1<=dV bd:=rL aK S;refine Lb Y O fi O O O O λcl=>?_;refine LN (rd:=e6) (f:=XE.cells) (m:=1) 0 [(bh,bi.1,bi.2)] O O (λk z=>by simp [bZ,aJ] at z;subst z;simp [fR,bZ,aJ,eK]) XE.dA fp (show 1<=1 by decide) a' λc' cm cn=>?_;refine V0 (Yf u6 O)<|aq 1 Y O O O ei O O O<|V0 (Yf sO O)<|aq 1 Y O O O jO O O O<|ag<|Cr<|ad O ?_;refine Lb Y O dI O O O O λc_=>?_;refine aY (T:=9) (m:=1) 0 [[93]] O O (show 1<=1 by decide) a' λco cp=>?_;refine WL.kx (b4 b c cf aP co _ _ [[93]] cp cj) ?_ ?_;·intro ⟨p,u⟩ j;refine WE.aF<|Ep ?_;refine b3 λg a=>?_;exact bl ⟨p,u,O,by rw [v,x5 A E H,J];simp only [cF];rw [JH R,S];simp only [cF];rw [<-gf,j];rfl,by have h:=a;have h:=Wt 1 h;have h:=Ws.dr h (cB:=[c]) aG;exact h⟩
  intro ⟨cq,cs⟩ ⟨bj,cv⟩;have da:=km ck bj;refine Ln<|Eb<|Et<|ai<|V0 (dv 1 O O iy O)<|aq 2 Y O O O oF O O O<|ag<|bq ?_;refine WE.gt (j_ O<|e1 2 O O iy O) λg a=>?_;exact bA ⟨cu.mk 4 0 L.1 L.2 [bh],(aa ⟨cl,0,ak⟩,1),cq,cs,O,by rw [v,x5 A E H,J];simp only [cF];rw [JH R,S];simp only [cF];rw [<-gf,bj];rfl,rO cn (e7 a aG cm) (e7 a aG cg)<|(l8.nil ce f).snoc (cV.refl _) (cV.refl _) ch,cv,Wv 3<|Wt 1 a⟩
 obtain ⟨aR,cw⟩:=cd aI;subst cw;refine ai<|ad O ?_;refine WL.kw (jR b c bb aH [40] be) ?_;intro ⟨db,bk,aS⟩ ⟨cx,cy,bm⟩;refine ar O<|ag ?_;refine Cc O (λaU=>?_)<|λaU=>?_
 ·have aW:=cx aU;have cz:=kl ba aW;refine Cr<|ad O<|ad O<|V0 (Yi O O O aj) ?_;refine qq (ι:=((I cu)×(az a0×Z))×(az a0×Z)×Tk) (κ:=(az a0×Z)×Tk) [_] _ Y O bf O O (λi=>aC i.1.2.1 i.1.1.length i.1.2.2) (λi=>bZ b i.2.1 i.2.2) (λaD i=>l5 (fg f) aS=aa (i.1.1,i.2.2)/\Sl (jI<|f+1) 5 aD i.1.2.1 i.1.2.2 i.1.1/\Sl aZ 3 c i.2.1.1 i.2.1.2 i.2.2) (λ_=>iz) (λi=>bZ b i.1 i.2) (λ_=>l5 (fg f) aS=ak) [c] aG ud (λw a=>(Rd b c bk aS f (d+1) w Q aj cz bm a).mono λe g h=>by
   rcases h with ⟨x,s,o,q,C,y,D,P,aE⟩ | ⟨o,q,C,y,D⟩;·exact bA ⟨((x,s),o,q),C,⟨y,D,P⟩,aE⟩
   ·exact bl ⟨(o,q),C,y,D⟩) ?_ ?_;·intro ⟨p,u⟩ j;refine WE.aF<|Ep ?_;refine b3 λg a=>?_;exact bl ⟨p,u,O,by rw [v,x5 A E H,J];simp only [cF];rw [Rg aR aW,j];rfl,by have h:=a;have h:=Wt 1 h;exact h⟩
  intro dc ⟨⟨cA,cC⟩,cD,cE⟩ cG ⟨cH,cI,cJ⟩;refine V0 (Yf u6 O)<|aq 1 Y O O O ei O O O<|V0 (Yf sO O)<|aq 1 Y O O O jO O O O<|Ln<|Eb<|Et<|ai<|V0 (dv 1 O O iy O)<|aq 2 Y O O O oF O O O<|ag<|bq ?_;refine WE.gt (j_ O<|e1 2 O O iy O) λg a=>?_;exact bA ⟨cu.mk 5 0 L.1 L.2 cA,cC,cD,cE,O,by rw [v,x5 A E H,J];simp only [cF];rw [Rg aR aW,cH];rfl,B6 cI<|e7 a aG cG,cJ,Wv 1<|Wt 1 a⟩
 obtain ⟨cK,cL⟩:=cy aU;subst cL;refine Ck<|Eb<|Et<|ai<|V0 (dv 1 O O iy O)<|aq 2 Y O O O oF O O O<|ag<|bq ?_;refine WE.gt (j_ O<|e1 2 O O iy O) λg a=>?_;exact bA ⟨cu.mk 3 0 L.1 L.2 [],(ak,0),bk,aH,O,by rw [v,x5 A E H,J];simp only [cF];rw [aai aR cK],Sl.nil,bm,Wt 1 a⟩
structure z6 where
 s1:az a0×Z
 s2:az a0×Z
 s3:az a0×Z
abbrev SX:=cv×z6
def SX.cells (e:SX):I aT:=xj e.1 e.2.s1.1 e.2.s1.2 e.2.s2.1 e.2.s2.2 e.2.s3.1 e.2.s3.2
def SX.dA (e:SX):(SX.cells e).length=6:=rfl
def Ri (H:View) (b o:Z) (e:SX):Prop:=ct H b o<|SX.cells e
structure x6 (f:Z) (N:View) (x:cv) (p:z6):Prop where
 args:Sl (jI 7) 5 N p.s1.1 p.s1.2 x.args
 body:Sl (iG 7 f) 6 N p.s2.1 p.s2.2 x.body
 other:Sl (iG 7 f) 6 N p.s3.1 p.s3.2 x.other
variable {c7:I cv}
def lB (h:Sl (iG 7 ae) 6 bt b' aH c7) (hv:cV bt bX):Sl (iG 7 ae) 6 bX b' aH c7:=h.imp λb o y a=>xl hv (eC _) (eC _) b o y a
variable {cL:cv} {FF:z6}
def x6.mv (h:x6 ae bt cL FF) (hv:cV bt bX):x6 ae bX cL FF:=⟨B6 h.args hv,lB h.body hv,lB h.other hv⟩
def vd (J:View) (f:Z) (es:I SX):Prop:=∀e ∈ es,x6 f J e.1 e.2
def vd.nil (J:View) (f:Z):vd J f []:=by intro e h;simp at h
def vd.snoc {J c b:View} {f:Z} {es:I SX} {e:SX} (h:vd J f es) (d:cV J b) (g:cV c b) (i:x6 f c e.1 e.2):vd b f<|es++[e]:=by
 intro x a;rcases bm.1 a with a | a;·exact (h x a).mv d
 ·rw [fq] at a;subst a;exact i.mv g
def aan {es:I SX} (h:Sl Ri 6 bt b' aH es) (hv:cV bt lT) (f:cV bX lT) (g:vd bX ae es):Sl (iG 7<|ae+1) 6 lT b' aH (es.map (·.1)):=by refine ⟨by simpa using h.cap,h.max,h.spot,λi x c=>?_⟩;rw [gh] at c;obtain ⟨e,d,rfl⟩:=eD.1 c;obtain ⟨b,o,j,k⟩:=h.b7 i e d;have a:=(g e<|dJ d).mv f;exact ⟨b,o,j,e.2.s1.1,e.2.s1.2,e.2.s2.1,e.2.s2.2,e.2.s3.1,e.2.s3.2,ct.mono hv k,a.args,a.body,a.other⟩
structure GS where
 es:I SX
 a:az a0
 c:Z
 J:View
 r:az a0×Z
 q:Tk
def Rk (b:View) (f:Z):Prop:=∀(a:Z) (r:az a0×Z) (l:Tk) (d:Z) (w:aL),f+d=7->eA l->Sl aZ 3 b r.1 r.2 l->Ws w (c5 bc.ids<|bZ a r l) (bZ a r l) [b] w-> cr aB 212 #[b0 (aa ⟨a,0,ak⟩),an am (d:ab)] w λe g=>(∃(x:I cv) (s:az a0×Z) (c:az a0×Z) (q:Tk),e = ax (aC s.1 x.length s.2)/\ib f l=aa (x,q)/\Sl (iG 7 f) 6 (nv w g) s.1 s.2 x/\Sl aZ 3 b c.1 c.2 q/\Ws w (c5 bc.ids<|bZ a r l) (bZ a c q) [b] g)\/(∃(c:az a0×Z) (q:Tk),e = .panicked iz/\ib f l=ak/\Ws w (c5 bc.ids<|bZ a r l) (bZ a c q) [b] g)
def B8 (h:eA a_) (e:ib ae a_=aa (c7,cm)):eA cm:=u' h<|zR ae a_ c7 cm h.all e
def aao (h:eA a_) (e:gC (ib ae) a_=aa (cL,cm)):eA cm:=u' h<|IX (zR ae) h.all e
def aap (h:eA a_) (e:l5 (fg 6) a_=aa (dw,cm)):eA cm:=by unfold l5 at e;cases a:bD [41] a_ with| some q=>rw [a] at e;simp only [gi,dY] at e;obtain ⟨_,rfl⟩:=e;exact kl h a| none=>rw [a] at e;exact u' h<|IU (zQ 6) _ _ _ _ h.all e
def B9 (h:l7 [bw,aS] a_=aa cm):∃a,bD bw a_=aa a/\bD aS a=aa cm:=by rw [Q7] at h;exact dl.1 h
def aaq (h:l7 [bw,aS] a_=ak):bD bw a_=ak\/∃a,bD bw a_=aa a/\bD aS a=ak:=by rw [Q7] at h;cases hv:bD bw a_ with| none=>exact bA rfl| some a=>rw [hv] at h;exact bl ⟨a,rfl,h⟩
variable {z7:Tk->az (cv×Tk)}
def aar (h:bD [125] a_=aa cm):oA z7 (ae+1) a_=aa ([],cm):=by rw [oA,h]
def aas (h:bD [125] a_=ak) (a:z7 a_=aa (cL,cm)):oA z7 (ae+1) a_=(oA z7 ae cm).map λp=>(cL::p.1,p.2):=by rw [oA,h];simp only;rw [a];rfl
def aat (h:bD [125] a_=ak) (a:z7 a_=ak):oA z7 (ae+1) a_=ak:=by rw [oA,h];simp only;rw [a];rfl
def B':eP aB 25=aa 1:=ah
def B_:eP aB 9=aa 1:=ah
def Rl:hW aB 25 241 (bU #[an am 0,st [],st [],aC ak 0 0,aC ak 0 0,aC ak 0 0]) 6 112:=jD ah
def aau (b:Z) (c:View) (r:az a0×Z) (l:Tk) (f d:Z) (w:aL) (a9:Rk c f) (eG:f+(d+1)=7) (af:eA l) (cY:Sl aZ 3 c r.1 r.2 l) (a:Ws w (c5 bc.ids<|bZ b r l) (bZ b r l) [c] w) :
   cr aB 261 #[b0 (aa ⟨b,0,ak⟩),an am (d:ab)] w λe o=>(∃(x:cv) (p:z6) (C:az a0×Z) (q:Tk),e = ax (bU #[an am (x).op,st (x).mod,st (x).nm,aC (p).s1.1 (x).args.length (p).s1.2,aC (p).s2.1 (x).body.length (p).s2.2,aC (p).s3.1 (x).other.length (p).s3.2])/\gC (ib f) l=aa (x,q)/\x6 f (nv w o) x p/\Sl aZ 3 c C.1 C.2 q/\Ws w (c5 bc.ids<|bZ b r l) (bZ b C q) [c] o)\/(∃(C:az a0×Z) (q:Tk),e = .panicked iz/\gC (ib f) l=ak/\Ws w (c5 bc.ids<|bZ b r l) (bZ b C q) [c] o):=by
 refine enter func261 O 104 O O ?_;refine CE a<|ai ?_;refine Al Y O qN λeH=>?_;refine dK 0 (aM (xj (cv.mk 0 [] [] [] [] []) ak 0 ak 0 ak 0).toArray 241 (0,0)) O O<|ag<|ai ?_;refine Al Y O qN λeJ=>?_;refine dK 0 (aM (xj (cv.mk 0 [] [] [] [] []) ak 0 ak 0 ak 0).toArray 241 (0,0)) O O<|ag<|Cs<|Cb<|ai<|ad O<|Lf 2 O ?_;refine WL.kw (jR b c r l [105,102] cY) ?_;intro ⟨eM,bR,bS⟩ ⟨c0,c1,bT⟩;refine ar O<|ag ?_;refine Cc O (λa'=>?_)<|λa'=>?_
 ·have V:=c0 a';have a_:=kl af V;refine ai<|ad O ?_;refine WL.ke (rQ (λb r l d w t u v z=>wy c 6 b r l d w t u v z) b bR bS 1 O a_ bT) ?_ ?_;·intro ⟨j,n⟩ g;refine Ep<|WE.aF<|Ep ?_;refine b3 λo a=>?_;exact bl ⟨j,n,O,by simp only [gC,ht,fQ,gn,fZ,bF,gq,V,g,cF,eI,eX,bb],by have h:=a;have h:=Wt 1 h;exact h⟩
  intro bW ⟨⟨ba,bX⟩,c2,ap⟩ bY ⟨W,b1,c3⟩;have b2:eA ap:=rK a_ W;have eN:ap.length+1<=dV bS:=rL a_ W;refine Lb Y O fi O O O O λb5=>?_;refine LN (rd:=e6) (f:=XE.cells) (m:=1) 0 [(ba,bX.1,bX.2)] O O (λk D=>by simp [bZ,aJ] at D;subst D;simp [fR,bZ,aJ,eK]) XE.dA (λ_ _ _ _ h=>h) (show 1<=1 by decide) (by decide) λeO b6 b7=>?_;refine V0 (Yf oG O)<|aq 1 Y O O O ei O O O<|V0 (Yf mG O)<|aq 1 Y O O O jO O O O<|ag<|ai<|ad O<|ad O<|V0 (Yi O O O (by omega)) ?_;refine qq (ι:=((I cv)×(az a0×Z))×(az a0×Z)×Tk) (κ:=(az a0×Z)×Tk) [_] _ Y O bf O O (λi=>aC i.1.2.1 i.1.1.length i.1.2.2) (λi=>bZ b i.2.1 i.2.2) (λX i=>ib f ap=aa (i.1.1,i.2.2)/\Sl (iG 7 f) 6 X i.1.2.1 i.1.2.2 i.1.1/\Sl aZ 3 c i.2.1.1 i.2.1.2 i.2.2) (λ_=>iz) (λi=>bZ b i.1 i.2) (λ_=>ib f ap=ak) [c] (by simp) (λ_ _ h=>h) (λw a=>(a9 b c2 ap (d+1) w (by omega) b2 c3 a).mono λe o h=>by
   rcases h with ⟨x,s,C,q,t,u,v,z,ae⟩ | ⟨C,q,t,u,v⟩;·exact bA ⟨((x,s),C,q),t,⟨u,v,z⟩,ae⟩
   ·exact bl ⟨(C,q),t,u,v⟩) ?_ ?_;·intro ⟨j,n⟩ g;refine Ep<|WE.aF<|Ep ?_;refine b3 λo a=>?_;exact bl ⟨j,n,O,by simp only [gC,ht,fQ,gn,fZ,bF,gq,V,W,g,cF,eI,eX,bb],by have h:=a;have h:=Wt 1 h;have h:=Ws.dr h (cB:=[c]) (by simp);exact h⟩
  intro eP ⟨⟨b8,b9⟩,c4,bd⟩ b' ⟨av,ca,c6⟩;have c7:eA bd:=B8 b2 av;refine V0 (Yf wq O)<|aq 1 Y O O O B' O O O<|ag<|Cs<|ai<|ad O ?_;refine WL.kw (jR b c c4 bd [101,108,115,101] c6) ?_;intro ⟨eQ,cb,be⟩ ⟨c9,c',cc⟩;refine ag ?_;refine Cc O (λbh=>?_)<|λbh=>?_
  ·have aH:=c9 bh;have cd:=kl c7 aH;refine ai<|ad O<|ad O<|V0 (Yi O O O (by omega)) ?_;refine qq (ι:=((I cv)×(az a0×Z))×(az a0×Z)×Tk) (κ:=(az a0×Z)×Tk) [_] _ Y O bf O O (λi=>aC i.1.2.1 i.1.1.length i.1.2.2) (λi=>bZ b i.2.1 i.2.2) (λX i=>ib f be=aa (i.1.1,i.2.2)/\Sl (iG 7 f) 6 X i.1.2.1 i.1.2.2 i.1.1/\Sl aZ 3 c i.2.1.1 i.2.1.2 i.2.2) (λ_=>iz) (λi=>bZ b i.1 i.2) (λ_=>ib f be=ak) [c] (by simp) (λ_ _ h=>h) (λw a=>(a9 b cb be (d+1) w (by omega) cd cc a).mono λe o h=>by
    rcases h with ⟨x,s,C,q,t,u,v,z,ae⟩ | ⟨C,q,t,u,v⟩;·exact bA ⟨((x,s),C,q),t,⟨u,v,z⟩,ae⟩
    ·exact bl ⟨(C,q),t,u,v⟩) ?_ ?_;·intro ⟨j,n⟩ g;refine Ep<|Ep<|WE.aF<|Ep ?_;refine b3 λo a=>?_;exact bl ⟨j,n,O,by simp only [gC,ht,fQ,gn,fZ,bF,gq,V,W,av,aH,g,cF,eI,eX,bb],by have h:=a;have h:=Wt 1 h;have h:=Ws.dr h (cB:=[c]) (by simp);exact h⟩
   intro eR ⟨⟨bi,c_⟩,ce,bj⟩ da ⟨bk,db,dc⟩;have eS:eA bj:=B8 cd bk;refine V0 (Yf sP O)<|aq 1 Y O O O B' O O O<|ag<|ai<|V0 (Yf sP O)<|V0 (Yd 1 O O O ah)<|V0 (Yn pq O)<|V0 (bN O O)<|ag ?_;refine Cc O (λbm=>?_)<|λbm=>?_
   ·have bn:bi.length=0:=by simpa using bm
    refine Cr<|V0 (Yb va u_ O O)<|V0 (qW vb O) ?_;refine WL.panic Y O ?_;refine Ep<|WE.aF<|Ep ?_;refine b3 λo a=>?_;exact bl ⟨ce,bj,O,by simp only [gC,ht,fQ,gn,fZ,bF,gq,V,W,av,aH,bk,cF,eI,eX,bb,aU bn],by have h:=a;have h:=Wt 1 h;have h:=Ws.dr h (cB:=[c]) (by simp);exact h⟩
   have bn:¬bi.length=0:=by simpa using bm
   refine bO<|ai<|V0 (dv 1 O O lm O)<|aq 2 Y O O O rI O O O<|ag<|bq<|cZ<|Er ?_;refine WE.gt (j_ O<|e1 2 O O lm O) λo a=>?_;exact bA ⟨cv.mk 4 [] [] [ba] b8 bi,⟨(aa ⟨b5,0,ak⟩,1),b9,c_⟩,ce,bj,O,by simp only [gC,ht,fQ,gn,fZ,bF,gq,V,W,av,aH,bk,cF,eI,eX,bb,ao bn],⟨rO b7 (e7 a (by simp) b6) (e7 a (by simp) bY)<|(l8.nil bW 6).snoc (cV.refl _) (cV.refl _) b1,lB ca<|e7 a (by simp) b',lB db<|e7 a (by simp) da⟩,dc,Wv 4<|Wt 1 a⟩
  obtain ⟨dd,de⟩:=c' bh;subst de;refine bO<|ai<|V0 (dv 1 O O lm O)<|aq 2 Y O O O rI O O O<|ag<|bq<|cZ<|Er ?_;refine WE.gt (j_ O<|e1 2 O O lm O) λo a=>?_;exact bA ⟨cv.mk 4 [] [] [ba] b8 [],⟨(aa ⟨b5,0,ak⟩,1),b9,((ak,0):az a0×Z)⟩,cb,bd,O,by simp only [gC,ht,fQ,gn,fZ,bF,gq,V,W,av,dd,cF,eI,eX,bb],⟨rO b7 (e7 a (by simp) b6) (e7 a (by simp) bY)<|(l8.nil bW 6).snoc (cV.refl _) (cV.refl _) b1,lB ca<|e7 a (by simp) b',Sl.nil⟩,cc,Wv 3<|Wt 1 a⟩
 obtain ⟨y,df⟩:=c1 a';subst df;refine ai<|ad O ?_;refine WL.kw (jR b c bR l [119,104,105,108,101] bT) ?_;intro ⟨eT,cf,cg⟩ ⟨dg,dh,ch⟩;refine ar O<|ag ?_;refine Cc O (λbo=>?_)<|λbo=>?_
 ·have aI:=dg bo;have bp:=kl af aI;refine ai<|ad O ?_;refine WL.ke (rQ (λb r l d w t u v z=>wy c 6 b r l d w t u v z) b cf cg 1 O bp ch) ?_ ?_;·intro ⟨j,n⟩ g;refine Ep<|WE.aF<|Ep ?_;refine b3 λo a=>?_;exact bl ⟨j,n,O,by simp only [gC,ht,fQ,gn,fZ,bF,gq,y,aI,g,cF,eI,eX,bb],by have h:=a;have h:=Wt 1 h;exact h⟩
  intro di ⟨⟨cj,ck⟩,dj,aw⟩ dk ⟨aK,dl,dm⟩;have cl:eA aw:=rK bp aK;have eU:aw.length+1<=dV cg:=rL bp aK;refine Lb Y O fi O O O O λdn=>?_;refine LN (rd:=e6) (f:=XE.cells) (m:=1) 0 [(cj,ck.1,ck.2)] O O (λk D=>by simp [bZ,aJ] at D;subst D;simp [fR,bZ,aJ,eK]) XE.dA (λ_ _ _ _ h=>h) (show 1<=1 by decide) (by decide) λeV dp dq=>?_;refine V0 (Yf oG O)<|aq 1 Y O O O ei O O O<|V0 (Yf mG O)<|aq 1 Y O O O jO O O O<|ag<|ai<|ad O<|ad O<|V0 (Yi O O O (by omega)) ?_;refine qq (ι:=((I cv)×(az a0×Z))×(az a0×Z)×Tk) (κ:=(az a0×Z)×Tk) [_] _ Y O bf O O (λi=>aC i.1.2.1 i.1.1.length i.1.2.2) (λi=>bZ b i.2.1 i.2.2) (λX i=>ib f aw=aa (i.1.1,i.2.2)/\Sl (iG 7 f) 6 X i.1.2.1 i.1.2.2 i.1.1/\Sl aZ 3 c i.2.1.1 i.2.1.2 i.2.2) (λ_=>iz) (λi=>bZ b i.1 i.2) (λ_=>ib f aw=ak) [c] (by simp) (λ_ _ h=>h) (λw a=>(a9 b dj aw (d+1) w (by omega) cl dm a).mono λe o h=>by
   rcases h with ⟨x,s,C,q,t,u,v,z,ae⟩ | ⟨C,q,t,u,v⟩;·exact bA ⟨((x,s),C,q),t,⟨u,v,z⟩,ae⟩
   ·exact bl ⟨(C,q),t,u,v⟩) ?_ ?_;·intro ⟨j,n⟩ g;refine Ep<|WE.aF<|Ep ?_;refine b3 λo a=>?_;exact bl ⟨j,n,O,by simp only [gC,ht,fQ,gn,fZ,bF,gq,y,aI,aK,g,cF,eI,eX,bb],by have h:=a;have h:=Wt 1 h;have h:=Ws.dr h (cB:=[c]) (by simp);exact h⟩
  intro eW ⟨⟨ds,dt⟩,du,cm⟩ dw ⟨co,dx,dy⟩;have eY:eA cm:=B8 cl co;refine V0 (Yf wq O)<|aq 1 Y O O O B' O O O<|ag<|ai<|V0 (dv 1 O O lm O)<|aq 2 Y O O O rI O O O<|ag<|bq<|cZ<|Er ?_;refine WE.gt (j_ O<|e1 2 O O lm O) λo a=>?_;exact bA ⟨cv.mk 5 [] [] [cj] ds [],⟨(aa ⟨dn,0,ak⟩,1),dt,((ak,0):az a0×Z)⟩,du,cm,O,by simp only [gC,ht,fQ,gn,fZ,bF,gq,y,aI,aK,co,cF,eI,eX,bb],⟨rO dq (e7 a (by simp) dp) (e7 a (by simp) dk)<|(l8.nil di 6).snoc (cV.refl _) (cV.refl _) dl,lB dx<|e7 a (by simp) dw,Sl.nil⟩,dy,Wv 3<|Wt 1 a⟩
 obtain ⟨B,dz⟩:=dh bo;subst dz;refine ai<|ad O ?_;refine WL.kw (jR b c cf l [114,101,116,117,114,110] ch) ?_;intro ⟨eZ,cp,cq⟩ ⟨dB,dC,cs⟩;refine ar O<|ag ?_;refine Cc O (λbr=>?_)<|λbr=>?_
 ·have aP:=dB br;have bs:=kl af aP;refine Cr<|ad O ?_;refine WL.ke (rQ (λb r l d w t u v z=>wy c 6 b r l d w t u v z) b cp cq 1 O bs cs) ?_ ?_;·intro ⟨j,n⟩ g;refine WE.aF<|Ep ?_;refine b3 λo a=>?_;exact bl ⟨j,n,O,by simp only [gC,ht,fQ,gn,fZ,bF,gq,y,B,aP,g,cF,eI,eX,bb],by have h:=a;have h:=Wt 1 h;exact h⟩
  intro dD ⟨⟨ct,cw⟩,dE,bt⟩ dG ⟨aR,dH,dJ⟩;have dL:eA bt:=rK bs aR;have e0:bt.length+1<=dV cq:=rL bs aR;refine Lb Y O fi O O O O λdM=>?_;refine LN (rd:=e6) (f:=XE.cells) (m:=1) 0 [(ct,cw.1,cw.2)] O O (λk D=>by simp [bZ,aJ] at D;subst D;simp [fR,bZ,aJ,eK]) XE.dA (λ_ _ _ _ h=>h) (show 1<=1 by decide) (by decide) λe2 dN dO=>?_;refine V0 (Yf oG O)<|aq 1 Y O O O ei O O O<|V0 (Yf mG O)<|aq 1 Y O O O jO O O O<|Ln<|Eb<|Et<|ai<|ad O ?_;refine Lb Y O dI O O O O λaA=>?_;refine aY (T:=9) (m:=1) 0 [[59]] O O (show 1<=1 by decide) (by decide) λJ K=>?_;refine WL.kx (b4 b c dE bt J _ _ [[59]] K dJ) ?_ ?_;·intro ⟨j,n⟩ g;rw [gf] at g;refine Ep ?_;refine b3 λo a=>?_;exact bl ⟨j,n,O,by simp only [gC,ht,fQ,gn,fZ,bF,gq,y,B,aP,aR,g,cF,eI,eX,bb],by have h:=a;have h:=Wt 1 h;have h:=Ws.dr h (cB:=[c]) (by simp);exact h⟩
  intro ⟨L,M⟩ ⟨A,N⟩;have aD:=km dL A;rw [gf] at A;refine ag<|ai<|V0 (dv 1 O O lm O)<|aq 2 Y O O O rI O O O<|ag<|bq ?_;refine WE.gt (j_ O<|e1 2 O O lm O) λo a=>?_;exact bA ⟨cv.mk 6 [] [] [ct] [] [],⟨(aa ⟨dM,0,ak⟩,1),((ak,0):az a0×Z),((ak,0):az a0×Z)⟩,L,M,O,by simp only [gC,ht,fQ,gn,fZ,bF,gq,y,B,aP,aR,A,cF,eI,eX,bb],⟨rO dO (e7 a (by simp) dN) (e7 a (by simp) dG)<|(l8.nil dD 6).snoc (cV.refl _) (cV.refl _) dH,Sl.nil,Sl.nil⟩,N,Wv 3<|Wt 1 a⟩
 obtain ⟨E,dP⟩:=dC br;subst dP;refine ai<|ad O ?_;refine WL.kw (jR b c cp l [111,117,116] cs) ?_;intro ⟨e3,cx,cy⟩ ⟨dQ,dR,cz⟩;refine ar O<|ag ?_;refine Cc O (λbu=>?_)<|λbu=>?_
 ·have aS:=dQ bu;have bv:=kl af aS;refine Cr<|ad O ?_;refine WL.ke (rQ (λb r l d w t u v z=>wy c 6 b r l d w t u v z) b cx cy 1 O bv cz) ?_ ?_;·intro ⟨j,n⟩ g;refine WE.aF<|Ep ?_;refine b3 λo a=>?_;exact bl ⟨j,n,O,by simp only [gC,ht,fQ,gn,fZ,bF,gq,y,B,E,aS,g,cF,eI,eX,bb],by have h:=a;have h:=Wt 1 h;exact h⟩
  intro dS ⟨⟨cA,cC⟩,dU,bw⟩ dW ⟨aW,dX,dY⟩;have dZ:eA bw:=rK bv aW;have e4:bw.length+1<=dV cy:=rL bv aW;refine Lb Y O fi O O O O λd0=>?_;refine LN (rd:=e6) (f:=XE.cells) (m:=1) 0 [(cA,cC.1,cC.2)] O O (λk D=>by simp [bZ,aJ] at D;subst D;simp [fR,bZ,aJ,eK]) XE.dA (λ_ _ _ _ h=>h) (show 1<=1 by decide) (by decide) λe5 d1 d2=>?_;refine V0 (Yf oG O)<|aq 1 Y O O O ei O O O<|V0 (Yf mG O)<|aq 1 Y O O O jO O O O<|Ln<|Eb<|Et<|ai<|ad O ?_;refine Lb Y O dI O O O O λaA=>?_;refine aY (T:=9) (m:=1) 0 [[59]] O O (show 1<=1 by decide) (by decide) λJ K=>?_;refine WL.kx (b4 b c dU bw J _ _ [[59]] K dY) ?_ ?_;·intro ⟨j,n⟩ g;rw [gf] at g;refine Ep ?_;refine b3 λo a=>?_;exact bl ⟨j,n,O,by simp only [gC,ht,fQ,gn,fZ,bF,gq,y,B,E,aS,aW,g,cF,eI,eX,bb],by have h:=a;have h:=Wt 1 h;have h:=Ws.dr h (cB:=[c]) (by simp);exact h⟩
  intro ⟨L,M⟩ ⟨A,N⟩;have aD:=km dZ A;rw [gf] at A;refine ag<|ai<|V0 (dv 1 O O lm O)<|aq 2 Y O O O rI O O O<|ag<|bq ?_;refine WE.gt (j_ O<|e1 2 O O lm O) λo a=>?_;exact bA ⟨cv.mk 7 [] [] [cA] [] [],⟨(aa ⟨d0,0,ak⟩,1),((ak,0):az a0×Z),((ak,0):az a0×Z)⟩,L,M,O,by simp only [gC,ht,fQ,gn,fZ,bF,gq,y,B,E,aS,aW,A,cF,eI,eX,bb],⟨rO d2 (e7 a (by simp) d1) (e7 a (by simp) dW)<|(l8.nil dS 6).snoc (cV.refl _) (cV.refl _) dX,Sl.nil,Sl.nil⟩,N,Wv 3<|Wt 1 a⟩
 obtain ⟨F,d3⟩:=dR bu;subst d3;refine ai<|ad O ?_;refine WL.kx (Q_ b c cx l af cz) ?_ ?_;·intro ⟨j,n⟩ g;refine Ep<|WE.aF<|Ep ?_;refine b3 λo a=>?_;exact bl ⟨j,n,O,by simp only [gC,ht,fQ,gn,fZ,bF,gq,y,B,E,F,g,cF,eI,eX,bb],by have h:=a;have h:=Wt 1 h;exact h⟩
 intro ⟨U,d4,bx⟩ ⟨G,d5⟩;have bz:=Q9 af G;refine ad O<|V0 (Yx O O)<|V0 (Yx O O)<|V0 (Yf wn O)<|aq 1 Y O O O B_ O O O<|V0 (Yf wo O)<|aq 1 Y O O O B_ O O O<|ag<|Cb<|ai ?_;refine ad O ?_;refine WL.kw (jR b c d4 bx [40] d5) ?_;intro ⟨e8,cD,bB⟩ ⟨d6,d7,cE⟩;refine ar O<|ag ?_;refine Cc O (λbC=>?_)<|λbC=>?_
 ·have aX:=d6 bC;have cG:=kl bz aX;refine Cr<|ad O ?_;refine qq (ι:=((I cu)×(az a0×Z))×(az a0×Z)×Tk) (κ:=(az a0×Z)×Tk) [_] _ Y O bf O O (λi=>aC i.1.2.1 i.1.1.length i.1.2.2) (λi=>bZ b i.2.1 i.2.2) (λX i=>l5 (fg 6) bB=aa (i.1.1,i.2.2)/\Sl (jI<|6+1) 5 X i.1.2.1 i.1.2.2 i.1.1/\Sl aZ 3 c i.2.1.1 i.2.1.2 i.2.2) (λ_=>iz) (λi=>bZ b i.1 i.2) (λ_=>l5 (fg 6) bB=ak) [c] (by simp) (λ_ _ h=>h) (λw a=>(Rd b c cD bB 6 1 w (λb r l d w t u v z=>wy c 6 b r l d w t u v z) (by omega) cG cE a).mono λe o h=>by
   rcases h with ⟨x,s,C,q,t,u,v,z,ae⟩ | ⟨C,q,t,u,v⟩;·exact bA ⟨((x,s),C,q),t,⟨u,v,z⟩,ae⟩
   ·exact bl ⟨(C,q),t,u,v⟩) ?_ ?_;·intro ⟨j,n⟩ g;refine WE.aF<|WE.aF<|Ep ?_;refine b3 λo a=>?_;exact bl ⟨j,n,O,by simp only [gC,ht,fQ,gn,fZ,bF,gq,y,B,E,F,G,aX,g,cF,eI,eX,bb],by have h:=a;have h:=Wt 1 h;exact h⟩
  intro e9 ⟨⟨d8,d9⟩,d',cH⟩ d_ ⟨bD,ea,eb⟩;have ec:eA cH:=aap cG bD;refine V0 (Yf oG O)<|aq 1 Y O O O ei O O O<|V0 (Yf mG O)<|aq 1 Y O O O jO O O O<|Ln<|Eb<|Eb<|Et<|ai<|ad O ?_;refine Lb Y O dI O O O O λaA=>?_;refine aY (T:=9) (m:=1) 0 [[59]] O O (show 1<=1 by decide) (by decide) λJ K=>?_;refine WL.kx (b4 b c d' cH J _ _ [[59]] K eb) ?_ ?_;·intro ⟨j,n⟩ g;rw [gf] at g;refine Ep ?_;refine b3 λo a=>?_;exact bl ⟨j,n,O,by simp only [gC,ht,fQ,gn,fZ,bF,gq,y,B,E,F,G,aX,bD,g,cF,eI,eX,bb],by have h:=a;have h:=Wt 1 h;have h:=Ws.dr h (cB:=[c]) (by simp);exact h⟩
  intro ⟨L,M⟩ ⟨A,N⟩;have aD:=km ec A;rw [gf] at A;refine ag<|ai<|V0 (dv 1 O O lm O)<|aq 2 Y O O O rI O O O<|ag<|bq ?_;refine WE.gt (j_ O<|e1 2 O O lm O) λo a=>?_;exact bA ⟨cv.mk 3 U.1 U.2 d8 [] [],⟨d9,((ak,0):az a0×Z),((ak,0):az a0×Z)⟩,L,M,O,by simp only [gC,ht,fQ,gn,fZ,bF,gq,y,B,E,F,G,aX,bD,A,cF,eI,eX,bb],⟨B6 ea<|e7 a (by simp) d_,Sl.nil,Sl.nil⟩,N,Wv 2<|Wt 1 a⟩
 obtain ⟨H,ed⟩:=d7 bC;subst ed;refine ai<|ad O ?_;refine WL.kw (jR b c cD bx [91] cE) ?_;intro ⟨fa,cI,cJ⟩ ⟨ee,ef,cK⟩;refine ar O<|ag ?_;refine Cc O (λbG=>?_)<|λbG=>?_
 ·have P:=ee bG;have bH:=kl bz P;refine ai<|ad O ?_;refine WL.ke (rQ (λb r l d w t u v z=>wy c 6 b r l d w t u v z) b cI cJ 1 O bH cK) ?_ ?_;·intro ⟨j,n⟩ g;refine Ep<|WE.aF<|WE.aF<|Ep ?_;refine b3 λo a=>?_;exact bl ⟨j,n,O,by simp only [gC,ht,fQ,gn,fZ,bF,gq,y,B,E,F,G,H,P,g,cF,eI,eX,bb],by have h:=a;have h:=Wt 1 h;exact h⟩
  intro fb ⟨⟨a1,a2⟩,eg,bI⟩ cL ⟨Q,cM,eh⟩;have ej:eA bI:=rK bH Q;have fc:bI.length+1<=dV cJ:=rL bH Q;refine Al Y O pp λfd=>?_;refine aq 0 Y O O O oF O O O<|ag<|ai<|ad O ?_;refine Lb Y O dI O O O O λfe=>?_;refine aY (T:=9) (m:=2) 0 [[93],[61]] O O (show 2<=2 by decide) (by decide) λek el=>?_;refine Lf 1 O ?_;refine WL.kx (b4 b c eg bI ek _ _ [[93],[61]] el eh) ?_ ?_
  ·intro ⟨j,n⟩ g;refine Ep<|WE.aF<|WE.aF<|Ep ?_;refine b3 λo a=>?_;rcases aaq g with g | ⟨aE,em,g⟩;·exact bl ⟨j,n,O,by simp only [gC,ht,fQ,gn,fZ,bF,gq,y,B,E,F,G,H,P,Q,g,cF,eI,eX,bb],by have h:=a;have h:=Wt 1 h;have h:=Ws.dr h (cB:=[c]) (by simp);exact h⟩
   ·exact bl ⟨j,n,O,by simp only [gC,ht,fQ,gn,fZ,bF,gq,y,B,E,F,G,H,P,Q,em,g,cF,eI,eX,bb],by have h:=a;have h:=Wt 1 h;have h:=Ws.dr h (cB:=[c]) (by simp);exact h⟩
  intro ⟨en,cO⟩ ⟨aj,eo⟩;have bJ:=km ej aj;refine ag ?_;refine CU (λ_=>ac) [2,0] [7] (.q ac 0<|.q au 1<|.q au 4<|.e 2 (.e 3 (.e 5 (.q au 6 .nil) .stop)<|.e 5 (.e 3 (.q au 6 .nil) .stop) .stop) .stop) mixed (by kernel_rfl) (λ_ _ _ d _ _ h=>by cases d<;>exact h) ?_;refine U0 O (cn [2,0]) (dv 0 O O iy O)<|U0 O (cn [2,0]) (Ym O)<|U0 O (cn [2,0]) (Yf oG O) ?_;refine Ue O (cn [2,0]) ?_ WU.stop;refine WL.ke (rQ (λb r l d w t u v z=>wy c 6 b r l d w t u v z) b en cO 1 O bJ eo) ?_ ?_;·intro ⟨j,n⟩ g;refine Ep<|WE.aF<|WE.aF<|Ep ?_;refine b3 λo a=>?_;obtain ⟨aE,R,S⟩:=B9 aj;exact bl ⟨j,n,O,by simp only [gC,ht,fQ,gn,fZ,bF,gq,y,B,E,F,G,H,P,Q,R,S,g,cF,eI,eX,bb],by have h:=a;have h:=Wt 1 h;have h:=Ws.dr h (cB:=[c]) (by simp);exact h⟩
  intro ff ⟨⟨a3,a4⟩,cP,a5⟩ cQ ⟨al,cR,cS⟩;have cT:eA a5:=rK bJ al;have fh:a5.length+1<=dV cO:=rL bJ al;refine Ln<|Eu ?_;refine Ue O (λ_ h=>(Wv 1<|Wo 0<|Wo 2 h:)) ?_ ?_
  ·refine Lb Y O fi O O O O λbK=>?_;refine LN (rd:=e6) (f:=XE.cells) (m:=2) 0 [(a1,a2.1,a2.2),(a3,a4.1,a4.2)] O O (λk D=>by simp [bZ,aJ] at D;subst D;simp [fR,bZ,aJ,eK]) XE.dA (λ_ _ _ _ h=>h) (show 2<=2 by decide) (by decide) λep bL bM=>?_;refine Ln<|Eu ?_;refine Ue O (λ_ h=>(Wv 2<|Wo 0<|Wo 2 h:)) ?_ WU.stop;refine aq 2 Y O O O ei O O O<|Ln<|Eu<|U0 O (λ_ h=>(Wv 2<|Wo 0<|Wo 2 h:)) (Yf mG O) ?_;refine WU.nil (λ_ h=>(Wv 2<|Wo 0<|Wo 2 h:)) ?_;refine WS.e O ?_;refine aq 2 Y O O O jO O O O<|Ln<|Es ?_;refine WS.nil ?_;refine Eb<|Eb<|Et<|ai<|ad O ?_;refine Lb Y O dI O O O O λaA=>?_;refine aY (T:=9) (m:=1) 0 [[59]] O O (show 1<=1 by decide) (by decide) λJ K=>?_;refine WL.kx (b4 b c cP a5 J _ _ [[59]] K cS) ?_ ?_;·intro ⟨j,n⟩ g;rw [gf] at g;refine Ep ?_;refine b3 λo a=>?_;obtain ⟨aE,R,S⟩:=B9 aj;exact bl ⟨j,n,O,by simp only [gC,ht,fQ,gn,fZ,bF,gq,y,B,E,F,G,H,P,Q,R,S,al,g,cF,eI,eX,bb],by have h:=a;have h:=Wt 1 h;have h:=Ws.dr h (cB:=[c]) (by simp);exact h⟩
   intro ⟨L,M⟩ ⟨A,N⟩;have aD:=km cT A;rw [gf] at A;refine ag<|ai<|V0 (dv 2 O O lm O)<|aq 3 Y O O O rI O O O<|ag<|bq ?_;refine WE.gt (j_ O<|e1 3 O O lm O) λo a=>?_;obtain ⟨aE,R,S⟩:=B9 aj;exact bA ⟨cv.mk 2 U.1 U.2 [a1,a3] [] [],⟨(aa ⟨bK,0,ak⟩,2),((ak,0):az a0×Z),((ak,0):az a0×Z)⟩,L,M,O,by simp only [gC,ht,fQ,gn,fZ,bF,gq,y,B,E,F,G,H,P,Q,R,S,al,A,cF,eI,eX,bb],⟨rO bM (e7 a (by simp) bL) (cV.refl _)<|((l8.nil (nv w o) 6).snoc (cV.refl _) (e7 a (by simp) cL) cM).snoc (cV.refl _) (e7 a (by simp) cQ) cR,Sl.nil,Sl.nil⟩,N,Wv 5<|Wt 1 a⟩
  refine Ue O (λ_ h=>(Wv 1<|Wo 0<|Wo 2 h:)) ?_ WU.stop;refine aq 2 Y O O O ei O O O<|Ln<|Eu ?_;refine Ue O (λ_ h=>(Wv 1<|Wo 0<|Wo 2 h:)) ?_ WU.stop;refine Lb Y O fi O O O O λbK=>?_;refine LN (rd:=e6) (f:=XE.cells) (m:=2) 0 [(a1,a2.1,a2.2),(a3,a4.1,a4.2)] O O (λk D=>by simp [bZ,aJ] at D;subst D;simp [fR,bZ,aJ,eK]) XE.dA (λ_ _ _ _ h=>h) (show 2<=2 by decide) (by decide) λep bL bM=>?_;refine Ln<|Eu<|U0 O (λ_ h=>(Wv 2<|Wo 0<|Wo 2 h:)) (Yf mG O) ?_;refine WU.nil (λ_ h=>(Wv 2<|Wo 0<|Wo 2 h:)) ?_;refine WS.e O ?_;refine aq 2 Y O O O jO O O O<|Ln<|Es ?_;refine WS.nil ?_;refine Eb<|Eb<|Et<|ai<|ad O ?_;refine Lb Y O dI O O O O λaA=>?_;refine aY (T:=9) (m:=1) 0 [[59]] O O (show 1<=1 by decide) (by decide) λJ K=>?_;refine WL.kx (b4 b c cP a5 J _ _ [[59]] K cS) ?_ ?_;·intro ⟨j,n⟩ g;rw [gf] at g;refine Ep ?_;refine b3 λo a=>?_;obtain ⟨aE,R,S⟩:=B9 aj;exact bl ⟨j,n,O,by simp only [gC,ht,fQ,gn,fZ,bF,gq,y,B,E,F,G,H,P,Q,R,S,al,g,cF,eI,eX,bb],by have h:=a;have h:=Wt 1 h;have h:=Ws.dr h (cB:=[c]) (by simp);exact h⟩
  intro ⟨L,M⟩ ⟨A,N⟩;have aD:=km cT A;rw [gf] at A;refine ag<|ai<|V0 (dv 2 O O lm O)<|aq 3 Y O O O rI O O O<|ag<|bq ?_;refine WE.gt (j_ O<|e1 3 O O lm O) λo a=>?_;obtain ⟨aE,R,S⟩:=B9 aj;exact bA ⟨cv.mk 2 U.1 U.2 [a1,a3] [] [],⟨(aa ⟨bK,0,ak⟩,2),((ak,0):az a0×Z),((ak,0):az a0×Z)⟩,L,M,O,by simp only [gC,ht,fQ,gn,fZ,bF,gq,y,B,E,F,G,H,P,Q,R,S,al,A,cF,eI,eX,bb],⟨rO bM (e7 a (by simp) bL) (cV.refl _)<|((l8.nil (nv w o) 6).snoc (cV.refl _) (e7 a (by simp) cL) cM).snoc (cV.refl _) (e7 a (by simp) cQ) cR,Sl.nil,Sl.nil⟩,N,Wv 5<|Wt 1 a⟩
 obtain ⟨a6,eq⟩:=ef bG;subst eq;refine ai<|ad O ?_;refine Lb Y O dI O O O O λfj=>?_;refine aY (T:=9) (m:=1) 0 [[61]] O O (show 1<=1 by decide) (by decide) λer es=>?_;refine WL.kx (b4 b c cI bx er _ _ [[61]] es cK) ?_ ?_;·intro ⟨j,n⟩ g;rw [gf] at g;refine Ep<|WE.aF<|WE.aF<|Ep ?_;refine b3 λo a=>?_;exact bl ⟨j,n,O,by simp only [gC,ht,fQ,gn,fZ,bF,gq,y,B,E,F,G,H,a6,g,cF,eI,eX,bb],by have h:=a;have h:=Wt 1 h;have h:=Ws.dr h (cB:=[c]) (by simp);exact h⟩
 intro ⟨et,cU⟩ ⟨aG,eu⟩;have bP:=km bz aG;rw [gf] at aG;refine ag<|Cr<|ad O ?_;refine WL.ke (rQ (λb r l d w t u v z=>wy c 6 b r l d w t u v z) b et cU 1 O bP eu) ?_ ?_;·intro ⟨j,n⟩ g;refine WE.aF<|WE.aF<|Ep ?_;refine b3 λo a=>?_;exact bl ⟨j,n,O,by simp only [gC,ht,fQ,gn,fZ,bF,gq,y,B,E,F,G,H,a6,aG,g,cF,eI,eX,bb],by have h:=a;have h:=Wt 1 h;have h:=Ws.dr h (cB:=[c]) (by simp);exact h⟩
 intro ev ⟨⟨cW,cX⟩,ew,bQ⟩ ex ⟨a8,ey,ez⟩;have eC:eA bQ:=rK bP a8;have fk:bQ.length+1<=dV cU:=rL bP a8;refine Lb Y O fi O O O O λeD=>?_;refine LN (rd:=e6) (f:=XE.cells) (m:=1) 0 [(cW,cX.1,cX.2)] O O (λk D=>by simp [bZ,aJ] at D;subst D;simp [fR,bZ,aJ,eK]) XE.dA (λ_ _ _ _ h=>h) (show 1<=1 by decide) (by decide) λfl eE eF=>?_;refine V0 (Yf oG O)<|aq 1 Y O O O ei O O O<|V0 (Yf mG O)<|aq 1 Y O O O jO O O O<|Ln<|Eb<|Eb<|Et<|ai<|ad O ?_;refine Lb Y O dI O O O O λaA=>?_;refine aY (T:=9) (m:=1) 0 [[59]] O O (show 1<=1 by decide) (by decide) λJ K=>?_;refine WL.kx (b4 b c ew bQ J _ _ [[59]] K ez) ?_ ?_;·intro ⟨j,n⟩ g;rw [gf] at g;refine Ep ?_;refine b3 λo a=>?_;exact bl ⟨j,n,O,by simp only [gC,ht,fQ,gn,fZ,bF,gq,y,B,E,F,G,H,a6,aG,a8,g,cF,eI,eX,bb],by have h:=a;have h:=Wt 1 h;have h:=Ws.dr h (cB:=[c]) (by simp);exact h⟩
 intro ⟨L,M⟩ ⟨A,N⟩;have aD:=km eC A;rw [gf] at A;refine ag<|ai<|V0 (dv 1 O O lm O)<|aq 2 Y O O O rI O O O<|ag<|bq ?_;refine WE.gt (j_ O<|e1 2 O O lm O) λo a=>?_;exact bA ⟨cv.mk 1 U.1 U.2 [cW] [] [],⟨(aa ⟨eD,0,ak⟩,1),((ak,0):az a0×Z),((ak,0):az a0×Z)⟩,L,M,O,by simp only [gC,ht,fQ,gn,fZ,bF,gq,y,B,E,F,G,H,a6,aG,a8,A,cF,eI,eX,bb],⟨rO eF (e7 a (by simp) eE) (e7 a (by simp) ex)<|(l8.nil ev 6).snoc (cV.refl _) (cV.refl _) ey,Sl.nil,Sl.nil⟩,N,Wv 4<|Wt 1 a⟩
def Rm (b:View) (f:Z) (j:Z) (r:az a0×Z) (l:Tk) (d:Z) (w:aL) (be:f+d=7) (F:eA l) (al:Sl aZ 3 b r.1 r.2 l) (o:Ws w (c5 bc.ids<|bZ j r l) (bZ j r l) [b] w) :
   cr aB 212 #[b0 (aa ⟨j,0,ak⟩),an am (d:ab)] w λe u=>(∃(x:I cv) (s:az a0×Z) (t:az a0×Z) (q:Tk),e = ax (aC s.1 x.length s.2)/\ib f l=aa (x,q)/\Sl (iG 7 f) 6 (nv w u) s.1 s.2 x/\Sl aZ 3 b t.1 t.2 q/\Ws w (c5 bc.ids<|bZ j r l) (bZ j t q) [b] u)\/(∃(t:az a0×Z) (q:Tk),e = .panicked iz/\ib f l=ak/\Ws w (c5 bc.ids<|bZ j r l) (bZ j t q) [b] u):=by
 induction f using c8 generalizing j r l d w;rename_i f ao;refine enter func212 O 23 O O ?_;refine CE o<|ai<|ar O<|ag<|Cs<|ai<|ad O<|V0 (ek O O)<|ag ?_;refine Cc O (λG=>?_)<|λG=>?_
 ·have ap:ib f l=ak:=by
   obtain rfl:f=0:=by simp at G;omega
   rfl
  refine Cr<|V0 (Yb va u_ O O)<|V0 (qW vb O) ?_;refine WL.panic Y O ?_;refine Ep ?_;refine b3 λu o=>?_;exact bl ⟨r,l,O,ap,by have h:=o;exact h⟩
 have bh:¬6<d:=by simp at G;omega
 obtain ⟨f,rfl⟩:∃k,f=k+1:=⟨f-1,aj⟩;have aq:Rk b f:=λj r l d w y z A H=>ao f aj j r l d w y z A H;refine bO<|ai<|ad O ?_;refine Lb Y O dI O O O O λbi=>?_;refine aY (T:=9) (m:=1) 0 [[123]] O O (show 1<=1 by decide) a' λaw aA=>?_;refine WL.kx (b4 j b r l aw _ _ [[123]] aA al) ?_ ?_;·intro ⟨K,L⟩ C;rw [gf] at C;refine Ep ?_;refine b3 λu o=>?_;exact bl ⟨K,L,O,by rw [ib,C];rfl,by have h:=o;have h:=Ws.dr h (cB:=[b]) aG;exact h⟩
 intro ⟨aD,M⟩ ⟨D,aE⟩;have aH:=km F D;rw [gf] at D;refine ag<|ai<|ar O<|LW (λ_ h=>h.bJ 241 6) ?_;refine WL.v0 ?_;refine ag<|Cs<|Cb ?_;refine dZ (ι:=GS) (λg=>[(5,aC g.a g.es.length g.c)]) [(0,_),(1,_),(4,_)] (λg=>Ws w (c5 bc.ids<|bZ j r l) (bZ j g.r g.q++[cO 241 6 SX.cells g.a g.c g.es]) [g.J,b]) (λg=>(g.es.length+g.q.length<=l.length/\eA g.q)/\Sl aZ 3 b g.r.1 g.r.2 g.q/\(g8 w g.J/\vd g.J f g.es)/\∃n,g.q.length<n/\ib (f+1) l=(oA (gC<|ib f) n g.q).map λp=>(g.es.map (·.1)++p.1,p.2)) (λg=>g.q.length) ⟨[],ak,0,v0,aD,M⟩ ⟨⟨by have:M.length+1=l.length:=kk D;simp;omega,aH⟩,aE,⟨ec w,vd.nil _ _⟩,M.length+1,aG,by rw [ib,D];simp⟩ (λ_ h=>by have h:=h.av 1 O;have h:=Ws.dr h (cB:=[v0,b]) aG;exact h) ?_;intro g ⟨⟨bj,E⟩,aI,⟨S,U⟩,v⟩;refine Cs<|ai<|ad O ?_;refine WL.kw (jR j b g.r g.q [125] aI) ?_;intro ⟨bk,V,aK⟩ ⟨aP,aR,W⟩;refine V0 (hV O)<|ag ?_;refine Cc O (λN=>?_)<|λN=>?_
 ·obtain ⟨X,aS⟩:=aR (by simpa using N);subst aS;obtain ⟨n,aU,v⟩:=v;obtain ⟨n,rfl⟩:∃k,n=k+1:=⟨n-1,aj⟩;refine bO<|Cb<|Cr<|ad O<|ad O<|ad O ?_;refine qq (ι:=(cv×z6)×(az a0×Z)×Tk) (κ:=(az a0×Z)×Tk) [_] _ Y O bf O O (λi=>bU #[an am (i.1.1).op,st (i.1.1).mod,st (i.1.1).nm,aC (i.1.2).s1.1 (i.1.1).args.length (i.1.2).s1.2,aC (i.1.2).s2.1 (i.1.1).body.length (i.1.2).s2.2,aC (i.1.2).s3.1 (i.1.1).other.length (i.1.2).s3.2]) (λi=>bZ j i.2.1 i.2.2) (λaW i=>gC (ib f) g.q=aa (i.1.1,i.2.2)/\x6 f aW i.1.1 i.1.2/\Sl aZ 3 b i.2.1.1 i.2.1.2 i.2.2) (λ_=>iz) (λi=>bZ j i.1 i.2) (λ_=>gC (ib f) g.q=ak) [b] aG ud (λw o=>(aau j b V g.q f d w aq aj E W o).mono λe u h=>by
   rcases h with ⟨x,s,t,q,y,z,A,H,aX⟩ | ⟨t,q,y,z,A⟩;·exact bA ⟨((x,s),t,q),y,⟨z,A,H⟩,aX⟩
   ·exact bl ⟨(t,q),y,z,A⟩) ?_ ?_;·intro ⟨K,L⟩ C;refine WE.aF<|Ep<|WE.aF<|Ep ?_;refine b3 λu o=>?_;exact bl ⟨K,L,O,by rw [v,aat X C];rfl,by have h:=o;have h:=Wt 1 h;have h:=Ws.dr h (cB:=[b]) aG;exact h⟩
  intro bm ⟨⟨P,Q⟩,a1,B⟩ a2 ⟨R,a3,a4⟩;have a5:eA B:=aao E R;have bn:B.length<dV g.q:=X0 (zR f) (E).all R;refine WL.jJ λae a6 a8 a9=>?_;refine Lb Y O Rl O O O O λbo=>?_;refine dK 0 (aM (SX.cells (P,Q)).toArray 241 (0,0)) O O ?_;refine LA ((P,Q):SX) 2 0 Y O Rl O O O O O O (by have:=F.len;omega) (by have:=F.len;omega) λa_ ba=>?_;refine ar O<|Ln<|Eb ?_;exact cU (⟨g.es++[(P,Q)],a_,ba,ae,a1,B⟩:GS) (by show B.length<g.q.length;omega) ⟨⟨by simp;omega,a5⟩,a4,⟨a9 _ a2 S,vd.snoc U a8 a6 a3⟩,n,(show B.length<n by omega),by rw [v,aas X R];simp [uh]⟩ (λ_ h=>by have h:=h.av 2 rfl;have h:=h.av 2 rfl;have h:=Wt 2 h;have h:=Ws.dr h (cB:=[ae,b]) aG;exact h)
 have af:=aP (by simpa using N);have bp:=kl E af;obtain ⟨n,aU,v⟩:=v;obtain ⟨n,rfl⟩:∃k,n=k+1:=⟨n-1,aj⟩;refine Ce<|Ex<|Ex<|dy<|Et<|Cs ?_;refine WC.pH (rd:=Ri) 1 O (λk ah=>by simp [bZ,aJ] at ah;subst ah;simp [fR,bZ,aJ,eK]) SX.dA fp λbr bb bd=>?_;refine Cr<|ad O<|ar O<|ag<|bq ?_;refine R1 O O λu o=>?_;exact bA ⟨g.es.map (·.1),(g.a,g.c),V,aK,by rw [fK],by rw [v,aar af];simp,aan bd (e7 o aG bb) (e7 o aG S) U,W,Wv 2 o⟩
variable {dE:aQ}
def aav {o:az eQ} (h:eA a_) (e:hD dE a_=aa (o,cm)):eA cm:=by cases o with| none=>obtain rfl:=E7 e;exact h| some d=>exact u' h (IZ h.all e).1
variable {fI:eQ}
def aaw (h:eA a_) (e:hD dE a_=aa (aa fI,cm)):cm.length<a_.length:=by have a:=(IZ h.all e).1.2;rw [a];simp [rz];omega
variable {iw:bz}
def aax (h:eA a_) (e:kV dE a_=aa (iw,cm)):eA cm:=u' h (I0 h.all e).1
def JI (h:eA a_) (e:kV dE a_=aa (iw,cm)):cm.length<a_.length:=by have a:=(I0 h.all e).1.2;rw [a];simp [iX];omega
def p4 (h:eA a_) (e:hU a_=aa (bw,cm)):cm.length<a_.length:=by have a:=(ry h.all e).1.2;rw [a];simp
def JJ (a:dE=ac->bD [112,117,98] a_=aa cm) (b:dE=au->bD [112,117,98] a_=ak/\a_=cm):bx a_=(dE,cm):=by unfold bx;rw [show nM=[112,117,98] from rfl];cases dE with| true=>rw [a rfl];rfl| false=>obtain ⟨c,d⟩:=b rfl;rw [c,d];rfl
def JK (h:eA a_) (a:dE=ac->bD [112,117,98] a_=aa cm) (b:dE=au->bD [112,117,98] a_=ak/\a_=cm):eA cm/\cm.length<=a_.length:=by cases dE with| true=>exact ⟨kl h<|a rfl,by have:=kk<|a rfl;omega⟩| false=>obtain ⟨_,c⟩:=b rfl;subst c;exact ⟨h,eC _⟩
def aay (h:bD [41] a_=aa cm):kF (ae+1) dE a_=aa ([],cm):=by rw [kF,h]
def aaz (h:bD [41] a_=ak) (a:hU a_=aa (bw,cm)):kF (ae+1) ac a_=(kF ae au cm).map λp=>(bw::p.1,p.2):=by rw [kF,h];simp [a]
def aaA (h:bD [41] a_=ak) (a:hU a_=ak):kF (ae+1) ac a_=ak:=by rw [kF,h];simp [a]
def aaB (h:bD [41] a_=ak) (a:bD [44] a_=aa cm) (b:hU cm=aa (bw,iZ)):kF (ae+1) au a_=(kF ae au iZ).map λp=>(bw::p.1,p.2):=by rw [kF,h];simp [b,a]
def aaC (h:bD [41] a_=ak) (a:bD [44] a_=ak):kF (ae+1) au a_=ak:=by rw [kF,h];simp [a]
def aaD (h:bD [41] a_=ak) (a:bD [44] a_=aa cm) (b:hU cm=ak):kF (ae+1) au a_=ak:=by rw [kF,h];simp [b,a]
def isNil (l:I Tx):aQ:=match l with| []=>ac| _=>au
def Rn (l:I Tx) (x:Tx):isNil (l++[x])=au:=by cases l<;>rfl
def aaE (h:¬0<cI.length):isNil cI=ac:=by cases cI with| nil=>rfl| cons _ _=>exact absurd aG h
def aaF (h:0<cI.length):isNil cI=au:=by cases cI with| nil=>simp at h| cons _ _=>rfl
structure z8 where
 s1:az a0×Z
 s2:az a0×Z
 s3:az a0×Z
abbrev PX:=bz×z8
def PX.cells (e:PX):I aT:=xk e.1 e.2.s1.1 e.2.s1.2 e.2.s2.1 e.2.s2.2 e.2.s3.1 e.2.s3.2
def PX.dA (e:PX):(PX.cells e).length=5:=rfl
def Ro (H:View) (b o:Z) (e:PX):Prop:=ct H b o<|PX.cells e
structure x7 (N:View) (x:bz) (p:z8):Prop where
 params:Sl rdStr 1 N p.s1.1 p.s1.2 x.params
 a6:Sl rdStr 1 N p.s2.1 p.s2.2 x.a6
 body:Sl (iG 7 6) 6 N p.s3.1 p.s3.2 x.body
def ve (h:Sl rdStr 1 bt b' ae cI) (hv:cV bt bX):Sl rdStr 1 bX b' ae cI:=h.imp λb o y a=>yW hv b o y a
def Ov {l:I eQ} (h:Sl yX 4 bt b' ae l) (hv:cV bt bX):Sl yX 4 bX b' ae l:=h.imp λb o y a=>Ui hv b o y a
variable {Fq:z8}
def x7.mv (h:x7 bt iw Fq) (hv:cV bt bX):x7 bX iw Fq:=⟨ve h.params hv,ve h.a6 hv,lB h.body hv⟩
def vf (J:View) (es:I PX):Prop:=∀e ∈ es,x7 J e.1 e.2
def vf.nil (J:View):vf J []:=by intro e h;simp at h
def vf.snoc {J c b:View} {es:I PX} {e:PX} (h:vf J es) (d:cV J b) (f:cV c b) (g:x7 c e.1 e.2):vf b<|es++[e]:=by
 intro x a;rcases bm.1 a with a | a;·exact (h x a).mv d
 ·rw [fq] at a;subst a;exact g.mv f
def aaG {es:I PX} (h:Sl Ro 5 bt b' ae es) (hv:cV bt lT) (f:cV bX lT) (g:vf bX es):Sl (DT 7 6) 5 lT b' ae (es.map (·.1)):=by refine ⟨by simpa using h.cap,h.max,h.spot,λi x c=>?_⟩;rw [gh] at c;obtain ⟨e,d,rfl⟩:=eD.1 c;obtain ⟨b,o,j,k⟩:=h.b7 i e d;have a:=(g e<|dJ d).mv f;exact ⟨b,o,j,e.2.s1.1,e.2.s1.2,e.2.s2.1,e.2.s2.2,e.2.s3.1,e.2.s3.2,ct.mono hv k,a.params,a.a6,a.body⟩
structure GN where
 ps:I Tx
 a:az a0
 c:Z
 r:az a0×Z
 q:Tk
structure GD where
 ds:I eQ
 a:az a0
 c:Z
 cz:aQ
 r:az a0×Z
 q:Tk
structure GM where
 ps:I PX
 a:az a0
 c:Z
 J:View
 cz:aQ
 r:az a0×Z
 q:Tk
def aaH (h:bD [108,111,99,97,108] a_=ak):lE (ae+1) a_=aa ([],a_):=by rw [lE,show my=[108,111,99,97,108] from rfl,h]
variable {pv:Tk}
def aaI (h:bD [108,111,99,97,108] a_=aa cm) (a:hU cm=aa (bw,iZ)) (b:bD [59] iZ=aa pv):lE (ae+1) a_=(lE ae pv).map λp=>(bw::p.1,p.2):=by rw [lE,show my=[108,111,99,97,108] from rfl,h];simp [a,b]
def aaJ (h:bD [108,111,99,97,108] a_=aa cm) (a:hU cm=ak):lE (ae+1) a_=ak:=by rw [lE,show my=[108,111,99,97,108] from rfl,h];simp [a]
def aaK (h:bD [108,111,99,97,108] a_=aa cm) (a:hU cm=aa (bw,iZ)) (b:bD [59] iZ=ak):lE (ae+1) a_=ak:=by rw [lE,show my=[108,111,99,97,108] from rfl,h];simp [a,b]
def aaL (h:bD [117,115,101] a_=ak):lj (ae+1) a_=aa ([],a_):=by rw [lj,show lD=[117,115,101] from rfl,h]
def aaM (h:bD [117,115,101] a_=aa cm) (a:hU cm=aa (bw,iZ)) (b:bD [59] iZ=aa pv):lj (ae+1) a_=(lj ae pv).map λp=>(bw::p.1,p.2):=by rw [lj,show lD=[117,115,101] from rfl,h];simp [a,b]
def aaN (h:bD [117,115,101] a_=aa cm) (a:hU cm=ak):lj (ae+1) a_=ak:=by rw [lj,show lD=[117,115,101] from rfl,h];simp [a]
def aaO (h:bD [117,115,101] a_=aa cm) (a:hU cm=aa (bw,iZ)) (b:bD [59] iZ=ak):lj (ae+1) a_=ak:=by rw [lj,show lD=[117,115,101] from rfl,h];simp [a,b]
def aaP (h:hD dE a_=aa (ak,cm)):mD (ae+1) dE a_=aa (([],dE),cm):=by rw [mD,h];rfl
variable {pK:aQ}
def aaQ (h:hD dE a_=aa (aa fI,cm)) (a:bx cm=(pK,iZ)):mD (ae+1) dE a_=(mD ae pK iZ).map λp=>((fI::p.1.1,p.1.2),p.2):=by rw [mD,h];simp only [cF];rw [a]
def aaR (h:hD dE a_=ak):mD (ae+1) dE a_=ak:=by rw [mD,h];rfl
def aaS (h:bD [112,114,111,99] a_=ak):mE (ae+1) dE a_=aa (([],dE),a_):=by rw [mE,show li=[112,114,111,99] from rfl,h]
def aaT (a:bD [112,114,111,99] a_=aa cm) (h:kV dE cm=aa (iw,iZ)) (b:bx iZ=(pK,pv)):mE (ae+1) dE a_=(mE ae pK pv).map λp=>((iw::p.1.1,p.1.2),p.2):=by rw [mE,show li=[112,114,111,99] from rfl,a];simp only;rw [h];simp only [cF];rw [b]
def aaU (a:bD [112,114,111,99] a_=aa cm) (h:kV dE cm=ak):mE (ae+1) dE a_=ak:=by rw [mE,show li=[112,114,111,99] from rfl,a];simp only;rw [h];rfl
def aaV:hy aB 109=aa [(0,1),(1,1),(2,1),(3,1)]:=ah
def aaW (d:Z) (b:View) (r:az a0×Z) (l:Tk) (cz:aQ) (w:aL) (J:eA l) (af:Sl aZ 3 b r.1 r.2 l) (a:Ws w (c5 bc.ids<|bZ d r l) (bZ d r l) [b] w) :
   cr aB 210 #[b0 (aa ⟨d,0,ak⟩),bV cz] w λe i=>(∃(o:az eQ) (x:az a0×Z) (q:Tk),e = ax (cN #[bU #[an am ((o).getD (⟨0,[],cz,0⟩:eQ)).kind,st ((o).getD (⟨0,[],cz,0⟩:eQ)).nm,bV ((o).getD (⟨0,[],cz,0⟩:eQ)).cz,an am ((o).getD (⟨0,[],cz,0⟩:eQ)).n],bV (o).isSome])/\hD cz l=aa (o,q)/\Sl aZ 3 b x.1 x.2 q/\Ws w (c5 bc.ids<|bZ d r l) (bZ d x q) [b] i)\/(∃(x:az a0×Z) (q:Tk),e = .panicked iz/\hD cz l=ak/\Ws w (c5 bc.ids<|bZ d r l) (bZ d x q) [b] i):=by
 refine enter func210 O 50 O O ?_;refine CE a<|ai ?_;refine Al Y O wv λbM=>?_;refine ar O<|ag<|ai<|ad O<|V0 (Yb wv aaV O O) ?_;refine Al Y O wv λbN=>?_;refine aq 0 Y O O O tV O O O<|ag<|Cs<|Cb<|ai<|ad O<|Lf 2 O ?_;refine WL.kw (jR d b r l [99,111,110,115,116] af) ?_;intro ⟨bO,Q,ah⟩ ⟨aj,al,R⟩;refine ar O<|ag ?_;refine Cc O (λK=>?_)<|λK=>?_
 ·have t:=aj K;have ao:=kl J t;refine ai<|ad O ?_;refine WL.kx (sX d b Q ah R) ?_ ?_;·intro ⟨f,g⟩ c;refine Ep<|WE.aF<|Ep ?_;refine b3 λi a=>?_;exact bl ⟨f,g,O,by simp only [hD,lf,lg,lh,t,c,cF,eI,eX,bb],by have h:=a;have h:=Wt 1 h;exact h⟩
  intro ⟨ap,av,aw⟩ ⟨y,aA⟩;have aD:=sW ao y;refine V0 (Yf xU O)<|aq 1 Y O O O ei O O O<|V0 (Yf wm O)<|aq 1 Y O O O B_ O O O<|ag<|ai<|ad O ?_;refine Lb Y O dI O O O O λbP=>?_;refine aY (T:=9) (m:=1) 0 [[61]] O O (show 1<=1 by decide) a' λaE aH=>?_;refine WL.kx (b4 d b av aw aE _ _ [[61]] aH aA) ?_ ?_;·intro ⟨f,g⟩ c;rw [gf] at c;refine Ep<|WE.aF<|Ep ?_;refine b3 λi a=>?_;exact bl ⟨f,g,O,by simp only [hD,lf,lg,lh,t,y,c,cF,eI,eX,bb],by have h:=a;have h:=Wt 1 h;have h:=Ws.dr h (cB:=[b]) aG;exact h⟩
  intro ⟨aI,aJ⟩ ⟨z,aK⟩;have aP:=km aD z;rw [gf] at z;refine ag<|Cr<|ad O ?_;refine WL.kx (JG d b aI aJ aK) ?_ ?_;·intro ⟨f,g⟩ c;refine WE.aF<|Ep ?_;refine b3 λi a=>?_;exact bl ⟨f,g,O,by simp only [hD,lf,lg,lh,t,y,z,c,cF,eI,eX,bb],by have h:=a;have h:=Wt 1 h;have h:=Ws.dr h (cB:=[b]) aG;exact h⟩
  intro ⟨aR,aS,aU⟩ ⟨L,aW⟩;have aX:=JF aP L;refine V0 (Yf sN O)<|aq 1 Y O O O ei O O O<|Ln<|Eb<|Et<|ai<|ad O ?_;refine Lb Y O dI O O O O λS=>?_;refine aY (T:=9) (m:=1) 0 [[59]] O O (show 1<=1 by decide) a' λA B=>?_;refine WL.kx (b4 d b aS aU A _ _ [[59]] B aW) ?_ ?_;·intro ⟨f,g⟩ c;rw [gf] at c;refine Ep ?_;refine b3 λi a=>?_;exact bl ⟨f,g,O,by simp only [hD,lf,lg,lh,t,y,z,L,c,cF,eI,eX,bb],by have h:=a;have h:=Wt 1 h;have h:=Ws.dr h (cB:=[b]) aG;exact h⟩
  intro ⟨C,D⟩ ⟨j,E⟩;have U:=km aX j;rw [gf] at j;refine ag<|ai<|V0 (dv 1 O O p2 O)<|aq 2 Y O O O tV O O O<|ar O<|ag<|bq ?_;refine WE.gt (hG O (e1 2 O O p2 O)<|ja O) λi a=>?_;exact bA ⟨aa ⟨1,ap,cz,aR⟩,C,D,O,by simp only [hD,lf,lg,lh,t,y,z,L,j,cF,eI,eX,bb],E,Wv 2<|Wt 1 a⟩
 obtain ⟨k,a1⟩:=al K;subst a1;refine ai<|ad O ?_;refine WL.kw (jR d b Q l [118,97,114] R) ?_;intro ⟨bQ,V,a2⟩ ⟨a3,a4,W⟩;refine ar O<|ag ?_;refine Cc O (λM=>?_)<|λM=>?_
 ·have F:=a3 M;have a5:=kl J F;refine Cr<|ad O ?_;refine WL.kx (sX d b V a2 W) ?_ ?_;·intro ⟨f,g⟩ c;refine WE.aF<|Ep ?_;refine b3 λi a=>?_;exact bl ⟨f,g,O,by simp only [hD,lf,lg,lh,k,F,c,cF,eI,eX,bb],by have h:=a;have h:=Wt 1 h;exact h⟩
  intro ⟨a6,a8,a9⟩ ⟨N,a_⟩;have ba:=sW a5 N;refine V0 (Yf xU O)<|aq 1 Y O O O ei O O O<|V0 (Yf wm O)<|aq 1 Y O O O B_ O O O<|Ln<|Eb<|Et<|ai<|ad O ?_;refine Lb Y O dI O O O O λS=>?_;refine aY (T:=9) (m:=1) 0 [[59]] O O (show 1<=1 by decide) a' λA B=>?_;refine WL.kx (b4 d b a8 a9 A _ _ [[59]] B a_) ?_ ?_;·intro ⟨f,g⟩ c;rw [gf] at c;refine Ep ?_;refine b3 λi a=>?_;exact bl ⟨f,g,O,by simp only [hD,lf,lg,lh,k,F,N,c,cF,eI,eX,bb],by have h:=a;have h:=Wt 1 h;have h:=Ws.dr h (cB:=[b]) aG;exact h⟩
  intro ⟨C,D⟩ ⟨j,E⟩;have U:=km ba j;rw [gf] at j;refine ag<|ai<|V0 (dv 1 O O p2 O)<|aq 2 Y O O O tV O O O<|ar O<|ag<|bq ?_;refine WE.gt (hG O (e1 2 O O p2 O)<|ja O) λi a=>?_;exact bA ⟨aa ⟨2,a6,cz,0⟩,C,D,O,by simp only [hD,lf,lg,lh,k,F,N,j,cF,eI,eX,bb],E,Wv 1<|Wt 1 a⟩
 obtain ⟨p,bd⟩:=a4 M;subst bd;refine ai<|ad O ?_;refine WL.kw (jR d b V l [97,114,114,97,121] W) ?_;intro ⟨bR,X,be⟩ ⟨bf,bh,ae⟩;refine ar O<|ag ?_;refine Cc O (λP=>?_)<|λP=>?_
 ·have s:=bf P;have bi:=kl J s;refine ai<|ad O ?_;refine WL.kx (sX d b X be ae) ?_ ?_;·intro ⟨f,g⟩ c;refine Ep<|WE.aF<|Ep ?_;refine b3 λi a=>?_;exact bl ⟨f,g,O,by simp only [hD,lf,lg,lh,k,p,s,c,cF,eI,eX,bb],by have h:=a;have h:=Wt 1 h;exact h⟩
  intro ⟨bj,bk,bm⟩ ⟨u,bn⟩;have bo:=sW bi u;refine V0 (Yf xU O)<|aq 1 Y O O O ei O O O<|V0 (Yf wm O)<|aq 1 Y O O O B_ O O O<|ag<|ai<|ad O ?_;refine Lb Y O dI O O O O λbS=>?_;refine aY (T:=9) (m:=1) 0 [[91]] O O (show 1<=1 by decide) a' λbp br=>?_;refine WL.kx (b4 d b bk bm bp _ _ [[91]] br bn) ?_ ?_;·intro ⟨f,g⟩ c;rw [gf] at c;refine Ep<|WE.aF<|Ep ?_;refine b3 λi a=>?_;exact bl ⟨f,g,O,by simp only [hD,lf,lg,lh,k,p,s,u,c,cF,eI,eX,bb],by have h:=a;have h:=Wt 1 h;have h:=Ws.dr h (cB:=[b]) aG;exact h⟩
  intro ⟨bs,bt⟩ ⟨v,bu⟩;have bv:=km bo v;rw [gf] at v;refine ag<|ai<|ad O ?_;refine WL.kx (JG d b bs bt bu) ?_ ?_;·intro ⟨f,g⟩ c;refine Ep<|WE.aF<|Ep ?_;refine b3 λi a=>?_;exact bl ⟨f,g,O,by simp only [hD,lf,lg,lh,k,p,s,u,v,c,cF,eI,eX,bb],by have h:=a;have h:=Wt 1 h;have h:=Ws.dr h (cB:=[b]) aG;exact h⟩
  intro ⟨bw,bx,bz⟩ ⟨G,bB⟩;have bC:=JF bv G;refine V0 (Yf sN O)<|aq 1 Y O O O ei O O O<|ag<|Cr<|ad O ?_;refine Lb Y O dI O O O O λbT=>?_;refine aY (T:=9) (m:=1) 0 [[93]] O O (show 1<=1 by decide) a' λbD bF=>?_;refine WL.kx (b4 d b bx bz bD _ _ [[93]] bF bB) ?_ ?_;·intro ⟨f,g⟩ c;rw [gf] at c;refine WE.aF<|Ep ?_;refine b3 λi a=>?_;exact bl ⟨f,g,O,by simp only [hD,lf,lg,lh,k,p,s,u,v,G,c,cF,eI,eX,bb],by have h:=a;have h:=Wt 1 h;have h:=Ws.dr h (cB:=[b]) aG;exact h⟩
  intro ⟨bG,bH⟩ ⟨H,bI⟩;have bJ:=km bC H;rw [gf] at H;refine Ln<|Eb<|Et<|ai<|ad O ?_;refine Lb Y O dI O O O O λS=>?_;refine aY (T:=9) (m:=1) 0 [[59]] O O (show 1<=1 by decide) a' λA B=>?_;refine WL.kx (b4 d b bG bH A _ _ [[59]] B bI) ?_ ?_;·intro ⟨f,g⟩ c;rw [gf] at c;refine Ep ?_;refine b3 λi a=>?_;exact bl ⟨f,g,O,by simp only [hD,lf,lg,lh,k,p,s,u,v,G,H,c,cF,eI,eX,bb],by have h:=a;have h:=Wt 1 h;have h:=Ws.dr h (cB:=[b]) aG;exact h⟩
  intro ⟨C,D⟩ ⟨j,E⟩;have U:=km bJ j;rw [gf] at j;refine ag<|ai<|V0 (dv 1 O O p2 O)<|aq 2 Y O O O tV O O O<|ar O<|ag<|bq ?_;refine WE.gt (hG O (e1 2 O O p2 O)<|ja O) λi a=>?_;exact bA ⟨aa ⟨3,bj,cz,bw⟩,C,D,O,by simp only [hD,lf,lg,lh,k,p,s,u,v,G,H,j,cF,eI,eX,bb],E,Wv 3<|Wt 1 a⟩
 obtain ⟨bK,bL⟩:=bh P;subst bL;refine ai<|V0 (dv 1 O O p2 O)<|aq 2 Y O O O tV O O O<|ar O<|ag<|bq<|cZ<|Er ?_;refine WE.gt (hG O (e1 2 O O p2 O)<|ja O) λi a=>?_;exact bA ⟨ak,X,l,O,by simp only [hD,lf,lg,lh,k,p,bK,cF,eI,eX,bb],ae,Wt 1 a⟩
def aaX (a:Z) (b:View) (r:az a0×Z) (l:Tk) (cz:aQ) (j:eA l) (k:Sl aZ 3 b r.1 r.2 l):xQ aB 210 [b0<|aa ⟨a,0,ak⟩,bV cz] (bZ a r l) [b] (ι:=(az eQ)×(az a0×Z)×Tk) (κ:=(az a0×Z)×Tk) (λi=>cN #[bU #[an am ((i.1).getD (⟨0,[],cz,0⟩:eQ)).kind,st ((i.1).getD (⟨0,[],cz,0⟩:eQ)).nm,bV ((i.1).getD (⟨0,[],cz,0⟩:eQ)).cz,an am ((i.1).getD (⟨0,[],cz,0⟩:eQ)).n],bV (i.1).isSome]) (λi=>bZ a i.2.1 i.2.2) (λi=>hD cz l=aa (i.1,i.2.2)/\Sl aZ 3 b i.2.1.1 i.2.1.2 i.2.2) (λ_=>iz) (λi=>bZ a i.1 i.2)<|λ_=>hD cz l=ak:=⟨bf,λw m=>(aaW a b r l cz w j k m).mono λe p h=>by
 rcases h with ⟨t,c,q,d,f,g,o⟩ | ⟨c,q,d,f,g⟩;·exact bA ⟨(t,c,q),d,⟨f,g⟩,o⟩
 ·exact bl ⟨(c,q),d,f,g⟩⟩
def qO (nm:Tx) (cz:aQ) (a1:az a0) (n1 c1:Z) (a2:az a0) (n2 c2:Z) (a3:az a0) (n3 c3:Z):I aT:=[st nm,bV cz,aC a1 n1 c1,aC a2 n2 c2,aC a3 n3 c3]
def aaY:hy aB 113=aa [(0,1),(1,1),(2,1),(3,1),(4,1)]:=ah
def Ft:eP aB 22=aa 1:=ah
def aaZ (j:Z) (b:View) (r:az a0×Z) (l:Tk) (cz:aQ) (w:aL) (G:eA l) (be:Sl aZ 3 b r.1 r.2 l) (f:Ws w (c5 bc.ids<|bZ j r l) (bZ j r l) [b] w) :
   cr aB 211 #[b0 (aa ⟨j,0,ak⟩),bV cz] w λe z=>(∃(p:bz) (s:z8) (F:az a0×Z) (q:Tk),e = ax (bU #[st (p).nm,bV (p).cz,aC (s).s1.1 (p).params.length (s).s1.2,aC (s).s2.1 (p).a6.length (s).s2.2,aC (s).s3.1 (p).body.length (s).s3.2])/\kV cz l=aa (p,q)/\x7 (nv w z) p s/\Sl aZ 3 b F.1 F.2 q/\Ws w (c5 bc.ids<|bZ j r l) (bZ j F q) [b] z)\/(∃(F:az a0×Z) (q:Tk),e = .panicked iz/\kV cz l=ak/\Ws w (c5 bc.ids<|bZ j r l) (bZ j F q) [b] z):=by
 refine enter func211 O 46 O O ?_;refine CE f<|ai ?_;refine Al Y O ww λa5=>?_;refine dK 0 (aM (qO [] au ak 0 0 ak 0 0 ak 0 0).toArray 113 (0,0)) O O<|ag<|ai<|ad O<|ad O<|Lf 1 O ?_;refine WL.kx (sX j b r l be) ?_ ?_;·intro ⟨u,y⟩ t;refine Ep ?_;refine b3 λz f=>?_;exact bl ⟨u,y,O,by simp only [kV,t,eX],by have h:=f;have h:=Wt 1 h;exact h⟩
 intro ⟨al,bh,ao⟩ ⟨D,bi⟩;have bj:=sW G D;refine V0 (Yb ww aaY O O) ?_;refine Al Y O ww λa8=>?_;refine aq 0 Y O O O x1 O O O<|LW (λ_ h=>h.bJ 9 1)<|LW (λ_ h=>h.bJ 9 1)<|ag<|ai<|ad O ?_;refine Lb Y O dI O O O O λce=>?_;refine aY (T:=9) (m:=1) 0 [[40]] O O (show 1<=1 by decide) a' λbk bm=>?_;refine Lf 3 O ?_;refine WL.kx (b4 j b bh ao bk _ _ [[40]] bm bi) ?_ ?_;·intro ⟨u,y⟩ t;rw [gf] at t;refine Ep ?_;refine b3 λz f=>?_;exact bl ⟨u,y,O,by simp only [kV,D,t,cF,eX],by have h:=f;have h:=Wt 1 h;have h:=Ws.dr h (cB:=[b]) aG;exact h⟩
 intro ⟨bn,U⟩ ⟨E,bo⟩;have bp:=km bj E;rw [gf] at E;refine ag<|Cs<|Cb ?_;refine dZ (ι:=GN) (λg=>[]) [(0,_),(4,_),(5,_)] (λg=>Ws w (c5 bc.ids<|bZ j r l) (bZ j g.r g.q++[aJ a8<|aM (qO al cz g.a g.ps.length g.c ak 0 0 ak 0 0).toArray 113 (0,0),cO 9 1 fV g.a g.c g.ps,cO 9 1 fV ak 0 ([]:I Tx),aJ a5<|aM (qO [] au ak 0 0 ak 0 0 ak 0 0).toArray 113 (0,0)]) [b]) (λg=>(g.ps.length+g.q.length<=l.length/\eA g.q)/\Sl aZ 3 b g.r.1 g.r.2 g.q/\∃n,g.q.length<n/\kF (U.length+1) ac U=(kF n (isNil g.ps) g.q).map λp=>(g.ps++p.1,p.2)) (λg=>g.q.length) ⟨[],ak,0,bn,U⟩ ⟨⟨by have:ao.length<l.length:=p4 G D;have:U.length+1=ao.length:=kk E;simp;omega,bp⟩,bo,U.length+1,aG,by simp [isNil]⟩ (λ_ h=>by have h:=h.av 4 O;have h:=h.av 3 O;have h:=h.av 3 O;have h:=h.av 4 O;have h:=h.av 4 O;have h:=Ws.dr h (cB:=[b]) aG;exact h) ?_;intro g ⟨⟨cf,P⟩,br,o⟩;refine Cs<|ai<|ad O ?_;refine WL.kw (jR j b g.r g.q [41] br) ?_;intro ⟨cg,ap,V⟩ ⟨bs,bt,ar⟩;refine V0 (hV O)<|ag ?_;refine Cc O (λaw=>?_)<|λaw=>?_
 ·obtain ⟨W,bu⟩:=bt (by simpa using aw);subst bu;obtain ⟨n,aA,o⟩:=o;obtain ⟨n,rfl⟩:∃k,n=k+1:=⟨n-1,aj⟩;refine bO<|Cb<|Cs<|ai<|V0 (Yf sS O)<|V0 (Yd 1 O O O ah)<|V0 (Yn e4 O)<|V0 (ek O O)<|ag ?_;refine Cc O (λaD=>?_)<|λaD=>?_
  ·have aE:0<g.ps.length:=by simpa using aD
   rw [aaF aE] at o;refine Cr<|ad O ?_;refine Lb Y O dI O O O O λch=>?_;refine aY (T:=9) (m:=1) 0 [[44]] O O (show 1<=1 by decide) a' λbv bw=>?_;refine WL.kx (b4 j b ap g.q bv _ _ [[44]] bw ar) ?_ ?_;·intro ⟨u,y⟩ t;rw [gf] at t;refine Ep<|WE.aF<|Ep<|WE.aF<|Ep ?_;refine b3 λz f=>?_;rw [aaC W t] at o;exact bl ⟨u,y,O,by simp only [kV,D,E,o,cF,eX,bb],by have h:=f;have h:=Wt 1 h;have h:=Ws.dr h (cB:=[b]) aG;exact h⟩
   intro ⟨bx,H⟩ ⟨J,bB⟩;have ae:=km P J;rw [gf] at J;refine ag ?_;refine CU (λ_=>ac) [0,1] [6,7] (.q au 0<|.q ac 1<|.q au 2<|.e 3 (.e 4 (.e 5 .nil .stop) .stop) .stop) mixed ah (λ_ _ _ d _ _ h=>by cases d<;>exact h) ?_;refine U0 O (cn [0,1]) (Yf sS O)<|U0 O (cn [0,1]) (Yd 0 O O O ah)<|U0 O (cn [0,1]) (Ym O) ?_;refine Ue O (cn [0,1]) ?_ WU.stop;refine WL.kx (sX j b bx H bB) ?_ ?_;·intro ⟨u,y⟩ t;refine Ep<|WE.aF<|Ep<|WE.aF<|Ep ?_;refine b3 λz f=>?_;rw [aaD W J t] at o;exact bl ⟨u,y,O,by simp only [kV,D,E,o,cF,eX,bb],by have h:=f;have h:=Wt 1 h;have h:=Ws.dr h (cB:=[b]) aG;exact h⟩
   intro ⟨K,aH,A⟩ ⟨C,aI⟩;have aK:=sW ae C;refine Ln<|Eu ?_;refine Ue O (cn [0,1]) ?_ WU.stop;refine Lb Y O dI O O O O λbC=>?_;refine dK 0 (aM (fV K).toArray 9 (0,0)) O O<|Ln<|Eu ?_;refine Ue O (λ_ h=>(Wo 1<|Wo 0<|Wd 1 h:)) ?_ WU.stop;refine LA (K:Tx) 3 0 Y O dI O O O O O O (by have:=G.len;omega) (by have:=G.len;omega) λaP aS=>?_;refine Ln<|Eu ?_;refine WU.nil (λ_ h=>(Wo 1<|Wo 0<|Wd 1 h:)) ?_;refine WS.e O ?_;refine V0 (Yf sS O)<|Ln<|Es ?_;refine WS.e O ?_;refine aq 2 Y O O O Ft O O O<|Ln<|Es ?_;refine WS.nil ?_;refine Eb ?_;exact cU (⟨g.ps++[K],aP,aS,aH,A⟩:GN) (by have:A.length<H.length:=p4 ae C;have:H.length+1=g.q.length:=kk J;show A.length<g.q.length;omega) ⟨⟨by have:A.length<H.length:=p4 ae C;have:H.length+1=g.q.length:=kk J;simp;omega,aK⟩,aI,n,(show A.length<n by have:A.length<H.length:=p4 ae C;have:H.length+1=g.q.length:=kk J;omega),by rw [o,aaB W J C,Rn];simp [uh]⟩ (λ_ h=>by have h:=h.av 5 rfl;have h:=h.av 5 rfl;have h:=h.av 5 rfl;have h:=h.av 5 rfl;have h:=h.av 5 rfl;have h:=Wt 5 h;have h:=Ws.dr h (cB:=[b]) aG;exact h)
  have aE:¬0<g.ps.length:=by simpa using aD
  rw [aaE aE] at o;refine bO ?_;refine CU (λ_=>ac) [0,1] [6,7] (.q au 0<|.q ac 1<|.q au 2<|.e 3 (.e 4 (.e 5 .nil .stop) .stop) .stop) mixed ah (λ_ _ _ d _ _ h=>by cases d<;>exact h) ?_;refine U0 O (cn [0,1]) (Yf sS O)<|U0 O (cn [0,1]) (Yd 0 O O O ah)<|U0 O (cn [0,1]) (Ym O) ?_;refine Ue O (cn [0,1]) ?_ WU.stop;refine WL.kx (sX j b ap g.q ar) ?_ ?_;·intro ⟨u,y⟩ t;refine Ep<|WE.aF<|Ep<|WE.aF<|Ep ?_;refine b3 λz f=>?_;rw [aaA W t] at o;exact bl ⟨u,y,O,by simp only [kV,D,E,o,cF,eX,bb],by have h:=f;have h:=Wt 1 h;exact h⟩
  intro ⟨K,aH,A⟩ ⟨C,aI⟩;have aK:=sW P C;refine Ln<|Eu ?_;refine Ue O (cn [0,1]) ?_ WU.stop;refine Lb Y O dI O O O O λbC=>?_;refine dK 0 (aM (fV K).toArray 9 (0,0)) O O<|Ln<|Eu ?_;refine Ue O (λ_ h=>(Wo 1<|Wo 0<|Wd 1 h:)) ?_ WU.stop;refine LA (K:Tx) 3 0 Y O dI O O O O O O (by have:=G.len;omega) (by have:=G.len;omega) λaP aS=>?_;refine Ln<|Eu ?_;refine WU.nil (λ_ h=>(Wo 1<|Wo 0<|Wd 1 h:)) ?_;refine WS.e O ?_;refine V0 (Yf sS O)<|Ln<|Es ?_;refine WS.e O ?_;refine aq 2 Y O O O Ft O O O<|Ln<|Es ?_;refine WS.nil ?_;refine Eb ?_;exact cU (⟨g.ps++[K],aP,aS,aH,A⟩:GN) (by have:A.length<g.q.length:=p4 P C;show A.length<g.q.length;omega) ⟨⟨by have:A.length<g.q.length:=p4 P C;simp;omega,aK⟩,aI,n,(show A.length<n by have:A.length<g.q.length:=p4 P C;omega),by rw [o,aaz W C,Rn];simp [uh]⟩ (λ_ h=>by have h:=h.av 5 rfl;have h:=h.av 5 rfl;have h:=h.av 5 rfl;have h:=h.av 5 rfl;have h:=h.av 5 rfl;have h:=Wt 5 h;have h:=Ws.dr h (cB:=[b]) aG;exact h)
 have aU:=bs (by simpa using aw);have bD:=kl P aU;obtain ⟨n,aA,o⟩:=o;obtain ⟨n,rfl⟩:∃k,n=k+1:=⟨n-1,aj⟩;rw [aay aU] at o;simp at o;refine Ce<|Ex<|Ex<|dy<|Et<|Cs<|Cb ?_;refine dZ (ι:=GN) (λv=>[]) [(0,_),(4,_),(5,_)] (λv=>Ws w (c5 bc.ids<|bZ j r l) (bZ j v.r v.q++[aJ a8<|aM (qO al cz g.a g.ps.length g.c v.a v.ps.length v.c ak 0 0).toArray 113 (0,0),cO 9 1 fV g.a g.c g.ps,cO 9 1 fV v.a v.c v.ps,aJ a5<|aM (qO [] au ak 0 0 ak 0 0 ak 0 0).toArray 113 (0,0)]) [b]) (λv=>(v.ps.length+v.q.length<=l.length/\eA v.q)/\Sl aZ 3 b v.r.1 v.r.2 v.q/\∃n,v.q.length<n/\lE (V.length+1) V=(lE n v.q).map λp=>(v.ps++p.1,p.2)) (λv=>v.q.length) ⟨[],ak,0,ap,V⟩ ⟨⟨by have:V.length+1=g.q.length:=kk aU;simp;omega,bD⟩,ar,V.length+1,aG,aG⟩ aR ?_;intro v ⟨⟨cj,aW⟩,bF,B⟩;refine Cs<|ai<|ad O ?_;refine WL.kw (jR j b v.r v.q [108,111,99,97,108] bF) ?_;intro ⟨ck,a9,L⟩ ⟨bG,bH,a_⟩;refine ag ?_;refine Cc O (λaX=>?_)<|λaX=>?_
 ·have M:=bG aX;have af:=kl aW M;obtain ⟨n,aA,B⟩:=B;obtain ⟨n,rfl⟩:∃k,n=k+1:=⟨n-1,aj⟩;refine bO<|Cb<|Cs ?_;refine CU (λ_=>ac) [0,2] [6,7] (.q au 0<|.q ac 1<|.q au 2<|.e 3 (.e 4 (.e 5 .nil .stop) .stop) .stop) mixed ah (λ_ _ _ d _ _ h=>by cases d<;>exact h) ?_;refine U0 O (cn [0,2]) (Yf x2 O)<|U0 O (cn [0,2]) (Yd 0 O O O ah)<|U0 O (cn [0,2]) (Ym O) ?_;refine Ue O (cn [0,2]) ?_ WU.stop;refine WL.kx (sX j b a9 L a_) ?_ ?_;·intro ⟨u,y⟩ t;refine Ep<|Ep<|WE.aF<|Ep<|WE.aF<|Ep ?_;refine b3 λz f=>?_;rw [aaJ M t] at B;exact bl ⟨u,y,O,by simp only [kV,D,E,o,B,cF,eX,bb],by have h:=f;have h:=Wt 1 h;exact h⟩
  intro ⟨a1,bI,N⟩ ⟨Q,bK⟩;have bL:=sW af Q;refine Ln<|Eu ?_;refine Ue O (cn [0,2]) ?_ WU.stop;refine Lb Y O dI O O O O λcl=>?_;refine dK 0 (aM (fV a1).toArray 9 (0,0)) O O<|Ln<|Eu ?_;refine Ue O (λ_ h=>(Wo 2<|Wo 0<|Wd 1 h:)) ?_ WU.stop;refine LA (a1:Tx) 4 0 Y O dI O O O O O O (by have:=G.len;omega) (by have:=G.len;omega) λbM bN=>?_;refine Ln<|Eu ?_;refine WU.nil (λ_ h=>(Wo 2<|Wo 0<|Wd 1 h:)) ?_;refine WS.e O ?_;refine V0 (Yf x2 O)<|Ln<|Es ?_;refine WS.e O ?_;refine aq 2 Y O O O Ft O O O<|Ln<|Es ?_;refine WS.nil ?_;refine Et<|Cr<|ad O ?_;refine Lb Y O dI O O O O λcm=>?_;refine aY (T:=9) (m:=1) 0 [[59]] O O (show 1<=1 by decide) a' λbP bQ=>?_;refine Lf 1 O ?_;refine WL.kx (b4 j b bI N bP _ _ [[59]] bQ bK) ?_ ?_;·intro ⟨u,y⟩ t;rw [gf] at t;refine WE.aF<|Ep<|WE.aF<|Ep ?_;refine b3 λz f=>?_;rw [aaK M Q t] at B;exact bl ⟨u,y,O,by simp only [kV,D,E,o,B,cF,eX,bb],by have h:=f;have h:=Wt 1 h;have h:=Ws.dr h (cB:=[b]) aG;exact h⟩
  intro ⟨bR,R⟩ ⟨S,bS⟩;have bT:=km bL S;rw [gf] at S;refine Ln<|Eb ?_;exact cU (⟨v.ps++[a1],bM,bN,bR,R⟩:GN) (by have:L.length+1=v.q.length:=kk M;have:N.length<L.length:=p4 af Q;have:R.length+1=N.length:=kk S;show R.length<v.q.length;omega) ⟨⟨by have:L.length+1=v.q.length:=kk M;have:N.length<L.length:=p4 af Q;have:R.length+1=N.length:=kk S;simp;omega,bT⟩,bS,n,(show R.length<n by have:L.length+1=v.q.length:=kk M;have:N.length<L.length:=p4 af Q;have:R.length+1=N.length:=kk S;omega),by rw [B,aaI M Q S];simp [uh]⟩ (λ_ h=>by have h:=h.av 5 rfl;have h:=h.av 5 rfl;have h:=h.av 5 rfl;have h:=h.av 5 rfl;have h:=h.av 4 rfl;have h:=Wt 5 h;have h:=Ws.dr h (cB:=[b]) aG;exact h)
 obtain ⟨bW,bX⟩:=bH aX;subst bX;obtain ⟨n,aA,B⟩:=B;obtain ⟨n,rfl⟩:∃k,n=k+1:=⟨n-1,aj⟩;rw [aaH bW] at B;simp at B;refine Ce<|Ex<|Ex<|dy<|Et<|ai<|ad O ?_;refine qq (ι:=((I cv)×(az a0×Z))×(az a0×Z)×Tk) (κ:=(az a0×Z)×Tk) [_] _ Y O bf O O (λi=>aC i.1.2.1 i.1.1.length i.1.2.2) (λi=>bZ j i.2.1 i.2.2) (λbY i=>ib 6 v.q=aa (i.1.1,i.2.2)/\Sl (iG 7 6) 6 bY i.1.2.1 i.1.2.2 i.1.1/\Sl aZ 3 b i.2.1.1 i.2.1.2 i.2.2) (λ_=>iz) (λi=>bZ j i.1 i.2) (λ_=>ib 6 v.q=ak) [b] aG ud (λw f=>(Rm b 6 j a9 v.q 1 w aj aW a_ f).mono λe z h=>by
  rcases h with ⟨x,s,F,q,a2,a3,a4,b1,b2⟩ | ⟨F,q,a2,a3,a4⟩;·exact bA ⟨((x,s),F,q),a2,⟨a3,a4,b1⟩,b2⟩
  ·exact bl ⟨(F,q),a2,a3,a4⟩) ?_ ?_;·intro ⟨u,y⟩ t;refine Ep ?_;refine b3 λz f=>?_;exact bl ⟨u,y,O,by simp only [kV,D,E,o,B,t,cF,eX,bb],by have h:=f;have h:=Wt 1 h;exact h⟩
 intro co ⟨⟨b5,b6⟩,b7,ba⟩ b8 ⟨bd,b9,b'⟩;have cp:eA ba:=B8 aW bd;refine V0 (Yf xn O)<|aq 1 Y O O O B' O O O<|ag<|Cs ?_;refine WC.pH (rd:=rdStr) 2 O (λk X=>by simp [bZ,aJ] at X;subst X;simp [fR,bZ,aJ,eK]) pG fp λcq ca cb=>?_;refine WC.pH (rd:=rdStr) 2 O (λk X=>by simp [bZ,aJ] at X;subst X;simp [fR,bZ,aJ,eK]) pG fp λcs cc cd=>?_;refine Cr<|V0 (dv 1 O O x0 O)<|aq 2 Y O O O x1 O O O<|ag<|bq ?_;refine WE.gt (j_ O<|e1 2 O O x0 O) λz f=>?_;exact bA ⟨⟨al,cz,g.ps,v.ps,b5⟩,⟨(g.a,g.c),(v.a,v.c),b6⟩,b7,ba,O,by simp only [kV,D,E,o,B,bd,cF,eI],⟨ve cb<|e7 f aG ca,ve cd<|e7 f aG cc,lB b9<|e7 f aG b8⟩,b',Wv 3<|Wt 1 f⟩
structure GU where
 us:I Tx
 a:az a0
 c:Z
 r:az a0×Z
 q:Tk
def p5 (nm:Tx) (a1:az a0) (n1 c1:Z) (a2:az a0) (n2 c2:Z) (a3:az a0) (n3 c3:Z) (a4:az a0) (a c4:Z):I aT:=[st nm,aC a1 n1 c1,aC a2 n2 c2,aC a3 n3 c3,aC a4 a c4]
def vh (a:bD [109,111,100,117,108,101] a_=aa cm) (c:hU cm=aa (bw,iZ)) (e:bD [123] iZ=aa pv):lF a_=(lj (pv.length+1) pv).bind λu=>
   (mD ((bx u.2).2.length+1) (bx u.2).1 (bx u.2).2).bind λd=>(mE (d.2.length+1) d.1.2 d.2).bind λp=>if p.1.2=ac then ak else
   (bD h2 p.2).bind λr=>(ib 6 r).bind λb=>(bD [125] b.2).map λr=>(⟨bw,u.1,d.1.1,p.1.1,b.1⟩,r):=by rw [lF,show np=[109,111,100,117,108,101] from rfl,a];simp only [cF];rw [c];simp only [cF];rw [e];rfl
def sY:zeroOf aB 27=aa (bU #[st [],aC ak 0 0,aC ak 0 0,aC ak 0 0,aC ak 0 0]):=ah
def JL:hy aB 27=aa [(0,1),(1,1),(2,1),(3,1),(4,1)]:=ah
def sZ:eP aB 27=aa 5:=ah
def Rt:hW aB 24 113 (bU #[st [],bV au,aC ak 0 0,aC ak 0 0,aC ak 0 0]) 5 96:=jD ah
def aa0:eP aB 24=aa 1:=ah
def Ru:hW aB 23 109 (bU #[an am 0,st [],bV au,an am 0]) 4 40:=jD ah
def aa1:eP aB 23=aa 1:=ah
def aa2 (j:Z) (b:View) (r:az a0×Z) (l:Tk) (w:aL) (K:eA l) (bY:Sl aZ 3 b r.1 r.2 l) (f:Ws w (c5 bc.ids<|bZ j r l) (bZ j r l) [b] w) :
   cr aB 122 #[b0 (aa ⟨j,0,ak⟩)] w λe z=>(∃(m:cM) (s:mf) (C:az a0×Z) (q:Tk),e = ax (bU (hk m s).toArray)/\lF l=aa (m,q)/\mg 7 6 (nv w z) s m/\Sl aZ 3 b C.1 C.2 q/\Ws w (c5 bc.ids<|bZ j r l) (bZ j C q) [b] z)\/(∃(C:az a0×Z) (q:Tk),e = .panicked iz/\lF l=ak/\Ws w (c5 bc.ids<|bZ j r l) (bZ j C q) [b] z):=by
 refine enter func122 O 71 O O ?_;refine CE f<|ai ?_;refine Al Y O sY λaX=>?_;refine dK 0 (aM (p5 [] ak 0 0 ak 0 0 ak 0 0 ak 0 0).toArray 27 (0,0)) O O<|ag<|ai<|ad O ?_;refine Lb Y O dI O O O O λdB=>?_;refine aY (T:=9) (m:=1) 0 [[109,111,100,117,108,101]] O O (show 1<=1 by decide) a' λb1 b2=>?_;refine Lf 1 O ?_;refine WL.kx (b4 j b r l b1 _ _ [[109,111,100,117,108,101]] b2 bY) ?_ ?_;·intro ⟨t,u⟩ o;rw [gf] at o;refine Ep ?_;refine b3 λz f=>?_;exact bl ⟨t,u,O,by simp only [lF,np,o,eX],by have h:=f;have h:=Wt 1 h;have h:=Ws.dr h (cB:=[b]) aG;exact h⟩
 intro ⟨b5,a1⟩ ⟨B,b6⟩;have bs:=km K B;rw [gf] at B;refine ag<|ai<|ad O ?_;refine WL.kx (sX j b b5 a1 b6) ?_ ?_;·intro ⟨t,u⟩ o;refine Ep ?_;refine b3 λz f=>?_;exact bl ⟨t,u,O,by simp only [lF,np,B,o,cF,eX],by have h:=f;have h:=Wt 1 h;have h:=Ws.dr h (cB:=[b]) aG;exact h⟩
 intro ⟨aD,b7,a2⟩ ⟨D,b8⟩;have b9:=sW bs D;refine V0 (Yb sY JL O O) ?_;refine Al Y O sY λa3=>?_;refine aq 0 Y O O O sZ O O O<|LW (λ_ h=>h.bJ 9 1)<|LW (λ_ h=>h.bJ 109 4)<|LW (λ_ h=>h.bJ 113 5) ?_;refine WL.v0 ?_;refine ag<|ai<|ad O ?_;refine Lb Y O dI O O O O λdC=>?_;refine aY (T:=9) (m:=1) 0 [[123]] O O (show 1<=1 by decide) a' λb' ca=>?_;refine Lf 4 O ?_;refine WL.kx (b4 j b b7 a2 b' _ _ [[123]] ca b8) ?_ ?_;·intro ⟨t,u⟩ o;rw [gf] at o;refine Ep ?_;refine b3 λz f=>?_;exact bl ⟨t,u,O,by simp only [lF,np,B,D,o,cF,eX],by have h:=f;have h:=Wt 1 h;have h:=Ws.dr h (cB:=[b]) aG;exact h⟩
 intro ⟨cb,aE⟩ ⟨E,cc⟩;have cd:=km b9 E;rw [gf] at E;refine ag<|Cs<|Cb ?_;refine dZ (ι:=GU) (λg=>[]) [(0,_),(2,_),(3,_)] (λg=>Ws w (c5 bc.ids<|bZ j r l) (bZ j g.r g.q++[aJ a3<|aM (p5 aD g.a g.us.length g.c ak 0 0 ak 0 0 ak 0 0).toArray 27 (0,0),cO 9 1 fV g.a g.c g.us,cO 109 4 eQ.cells ak 0 ([]:I eQ),cO 113 5 PX.cells ak 0 ([]:I PX),aJ aX<|aM (p5 [] ak 0 0 ak 0 0 ak 0 0 ak 0 0).toArray 27 (0,0)]) [v0,b]) (λg=>(g.us.length+g.q.length<=l.length/\eA g.q)/\Sl aZ 3 b g.r.1 g.r.2 g.q/\∃n,g.q.length<n/\lj (aE.length+1) aE=(lj n g.q).map λp=>(g.us++p.1,p.2)) (λg=>g.q.length) ⟨[],ak,0,cb,aE⟩ ⟨⟨by have:a1.length+1=l.length:=kk B;have:a2.length<a1.length:=p4 bs D;have:aE.length+1=a2.length:=kk E;simp;omega,cd⟩,cc,aE.length+1,aG,aG⟩ (λ_ h=>by have h:=h.av 5 O;have h:=h.av 2 O;have h:=h.av 3 O;have h:=h.av 4 O;have h:=h.av 5 O;have h:=h.av 5 O;have h:=Ws.dr h (cB:=[v0,b]) aG;exact h) ?_;intro g ⟨⟨dD,bt⟩,ce,y⟩;refine Cs<|ai<|ad O ?_;refine WL.kw (jR j b g.r g.q [117,115,101] ce) ?_;intro ⟨dE,bu,L⟩ ⟨cf,cg,bv⟩;refine ag ?_;refine Cc O (λa4=>?_)<|λa4=>?_
 ·have M:=cf a4;have aP:=kl bt M;obtain ⟨n,W,y⟩:=y;obtain ⟨n,rfl⟩:∃k,n=k+1:=⟨n-1,aj⟩;refine bO<|Cb<|Cs ?_;refine CU (λ_=>ac) [0,1] [6,7] (.q au 0<|.q ac 1<|.q au 2<|.e 3 (.e 4 (.e 5 .nil .stop) .stop) .stop) mixed ah (λ_ _ _ d _ _ h=>by cases d<;>exact h) ?_;refine U0 O (cn [0,1]) (Yf rJ O)<|U0 O (cn [0,1]) (Yd 0 O O O ah)<|U0 O (cn [0,1]) (Ym O) ?_;refine Ue O (cn [0,1]) ?_ WU.stop;refine WL.kx (sX j b bu L bv) ?_ ?_;·intro ⟨t,u⟩ o;refine Ep<|Ep<|WE.aF<|Ep<|WE.aF<|Ep ?_;refine b3 λz f=>?_;rw [aaN M o] at y;exact bl ⟨t,u,O,by rw [vh B D E];simp only [h2,y,cF,eI,eX,bb],by have h:=f;have h:=Wt 1 h;have h:=Ws.dr h (cB:=[b]) aG;exact h⟩
  intro ⟨a5,ch,N⟩ ⟨X,cj⟩;have ck:=sW aP X;refine Ln<|Eu ?_;refine Ue O (cn [0,1]) ?_ WU.stop;refine Lb Y O dI O O O O λdG=>?_;refine dK 0 (aM (fV a5).toArray 9 (0,0)) O O<|Ln<|Eu ?_;refine Ue O (λ_ h=>(Wo 1<|Wo 0<|Wd 1 h:)) ?_ WU.stop;refine LA (a5:Tx) 3 0 Y O dI O O O O O O (by have:=K.len;omega) (by have:=K.len;omega) λcl cm=>?_;refine Ln<|Eu ?_;refine WU.nil (λ_ h=>(Wo 1<|Wo 0<|Wd 1 h:)) ?_;refine WS.e O ?_;refine V0 (Yf rJ O)<|Ln<|Es ?_;refine WS.e O ?_;refine aq 2 Y O O O Ft O O O<|Ln<|Es ?_;refine WS.nil ?_;refine Et<|Cr<|ad O ?_;refine Lb Y O dI O O O O λdH=>?_;refine aY (T:=9) (m:=1) 0 [[59]] O O (show 1<=1 by decide) a' λco cp=>?_;refine Lf 1 O ?_;refine WL.kx (b4 j b ch N co _ _ [[59]] cp cj) ?_ ?_;·intro ⟨t,u⟩ o;rw [gf] at o;refine WE.aF<|Ep<|WE.aF<|Ep ?_;refine b3 λz f=>?_;rw [aaO M X o] at y;exact bl ⟨t,u,O,by rw [vh B D E];simp only [h2,y,cF,eI,eX,bb],by have h:=f;have h:=Wt 1 h;have h:=Ws.dr h (cB:=[b]) aG;exact h⟩
  intro ⟨cq,ae⟩ ⟨af,cs⟩;have ct:=km ck af;rw [gf] at af;refine Ln<|Eb ?_;exact cU (⟨g.us++[a5],cl,cm,cq,ae⟩:GU) (by have:L.length+1=g.q.length:=kk M;have:N.length<L.length:=p4 aP X;have:ae.length+1=N.length:=kk af;show ae.length<g.q.length;omega) ⟨⟨by have:L.length+1=g.q.length:=kk M;have:N.length<L.length:=p4 aP X;have:ae.length+1=N.length:=kk af;simp;omega,ct⟩,cs,n,(show ae.length<n by have:L.length+1=g.q.length:=kk M;have:N.length<L.length:=p4 aP X;have:ae.length+1=N.length:=kk af;omega),by rw [y,aaM M X af];simp [uh]⟩ (λ_ h=>by have h:=h.av 6 rfl;have h:=h.av 6 rfl;have h:=h.av 6 rfl;have h:=h.av 6 rfl;have h:=h.av 6 rfl;have h:=h.av 5 rfl;have h:=Wt 6 h;have h:=Ws.dr h (cB:=[v0,b]) aG;exact h)
 obtain ⟨cu,cw⟩:=cg a4;subst cw;obtain ⟨n,W,y⟩:=y;obtain ⟨n,rfl⟩:∃k,n=k+1:=⟨n-1,aj⟩;rw [aaL cu] at y;simp at y;refine Ce<|Ex<|Ex<|dy<|Et<|ai<|ad O ?_;refine WL.kw (jR j b bu g.q [112,117,98] bv) ?_;intro ⟨a8,cx,P⟩ ⟨bw,bB,cy⟩;have Q:bx g.q=(a8,P):=JJ bw bB;obtain ⟨cC,dJ⟩:eA P/\P.length<=dV g.q:=JK bt bw bB;refine ar O<|ag<|Cs<|Cb ?_;refine dZ (ι:=GD) (λv=>[(4,bV v.cz)]) [(0,_),(2,_),(3,_)] (λv=>Ws w (c5 bc.ids<|bZ j r l) (bZ j v.r v.q++[aJ a3<|aM (p5 aD g.a g.us.length g.c v.a v.ds.length v.c ak 0 0 ak 0 0).toArray 27 (0,0),cO 9 1 fV g.a g.c g.us,cO 109 4 eQ.cells v.a v.c v.ds,cO 113 5 PX.cells ak 0 ([]:I PX),aJ aX<|aM (p5 [] ak 0 0 ak 0 0 ak 0 0 ak 0 0).toArray 27 (0,0)]) [v0,b]) (λv=>(v.ds.length+v.q.length<=l.length/\eA v.q)/\Sl aZ 3 b v.r.1 v.r.2 v.q/\∃n,v.q.length<n/\mD (P.length+1) a8 P=(mD n v.cz v.q).map λp=>((v.ds++p.1.1,p.1.2),p.2)) (λv=>v.q.length) ⟨[],ak,0,a8,cx,P⟩ ⟨⟨by simp;omega,cC⟩,cy,P.length+1,aG,aG⟩ aR ?_;intro v ⟨⟨dL,a9⟩,cD,A⟩;refine Cb<|ai<|ad O<|ad O ?_;refine WL.kx (aaX j b v.r v.q v.cz a9 cD) ?_ ?_;·intro ⟨t,u⟩ o;refine Ep<|WE.aF<|Ep<|WE.aF<|Ep ?_;refine b3 λz f=>?_;obtain ⟨n,W,A⟩:=A;obtain ⟨n,rfl⟩:∃k,n=k+1:=⟨n-1,aj⟩;rw [aaR o] at A;exact bl ⟨t,u,O,by rw [vh B D E];simp only [h2,y,Q,A,cF,eI,eX,bb],by have h:=f;have h:=Wt 1 h;have h:=Ws.dr h (cB:=[b]) aG;exact h⟩
 intro ⟨a_,bC,F⟩ ⟨al,bD⟩;have bF:=aav a9 al;refine ad O<|V0 (Yx O O)<|V0 (Yx O O) ?_;refine Al Y O wv λdM=>?_;refine aq 0 Y O O O tV O O O<|ar O<|ag<|Cs<|ai<|ad O<|V0 (hV O)<|ag ?_;refine Cc O (λaS=>?_)<|λaS=>?_
 ·obtain ⟨n,W,A⟩:=A;obtain ⟨n,rfl⟩:∃k,n=k+1:=⟨n-1,aj⟩;cases aU:a_ with
  | some x=>rw [aU] at aS;simp at aS
  | none=>
   rw [aU] at al;have cE:F=v.q:=E7 al;rw [aaP al] at A;simp at A;refine Ce<|Ex<|AH O<|Ex<|dy<|Et<|Cs<|Cb ?_;refine dZ (ι:=GM) (λe=>[(4,bV e.cz)]) [(0,_),(2,_),(3,_)] (λe=>Ws w (c5 bc.ids<|bZ j r l) (bZ j e.r e.q++[aJ a3<|aM (p5 aD g.a g.us.length g.c v.a v.ds.length v.c e.a e.ps.length e.c ak 0 0).toArray 27 (0,0),cO 9 1 fV g.a g.c g.us,cO 109 4 eQ.cells v.a v.c v.ds,cO 113 5 PX.cells e.a e.c e.ps,aJ aX<|aM (p5 [] ak 0 0 ak 0 0 ak 0 0 ak 0 0).toArray 27 (0,0)]) [e.J,b]) (λe=>(e.ps.length+e.q.length<=l.length/\eA e.q)/\Sl aZ 3 b e.r.1 e.r.2 e.q/\(g8 w e.J/\vf e.J e.ps)/\∃n,e.q.length<n/\mE (F.length+1) v.cz F=(mE n e.cz e.q).map λp=>((e.ps.map (·.1)++p.1.1,p.1.2),p.2)) (λe=>e.q.length) ⟨[],ak,0,v0,v.cz,bC,F⟩ ⟨⟨by have h:=congrArg dV cE;simp at h ⊢;omega,bF⟩,bD,⟨ec w,vf.nil _⟩,F.length+1,aG,aG⟩ (λ_ h=>by have h:=h.av 6 O;have h:=h.av 6 O;have h:=h.av 6 O;have h:=h.av 6 O;have h:=h.av 6 O;have h:=h.av 6 O;have h:=Wt 6 h;have h:=Ws.dr h (cB:=[v0,b]) aG;exact h) ?_;intro e ⟨⟨dN,bG⟩,cG,⟨bH,bI⟩,hC⟩;refine Cs<|ai<|ad O ?_;refine WL.kw (jR j b e.r e.q [112,114,111,99] cG) ?_;intro ⟨dO,ba,G⟩ ⟨cH,cI,bK⟩;refine ag ?_;refine Cc O (λbd=>?_)<|λbd=>?_
   ·have ao:=cH bd;have aH:=kl bG ao;obtain ⟨n,W,hC⟩:=hC;obtain ⟨n,rfl⟩:∃k,n=k+1:=⟨n-1,aj⟩;refine bO<|Cb<|Cs ?_;refine CU (λ_=>ac) [0,3] [7,8] (.q au 0<|.q ac 1<|.q au 2<|.q au 3<|.e 4 (.e 5 (.e 6 .nil .stop) .stop) .stop) mixed ah (λ_ _ _ d _ _ h=>by cases d<;>exact h) ?_;refine U0 O (cn [0,3]) (Yf wu O)<|U0 O (cn [0,3]) (Yd 0 O O O ah)<|U0 O (cn [0,3]) (Ym O)<|U0 O (cn [0,3]) (Ym O) ?_;refine Ue O (cn [0,3]) ?_ WU.stop;refine qq (ι:=(bz×z8)×(az a0×Z)×Tk) (κ:=(az a0×Z)×Tk) [_] _ Y O bf O O (λi=>bU #[st (i.1.1).nm,bV (i.1.1).cz,aC (i.1.2).s1.1 (i.1.1).params.length (i.1.2).s1.2,aC (i.1.2).s2.1 (i.1.1).a6.length (i.1.2).s2.2,aC (i.1.2).s3.1 (i.1.1).body.length (i.1.2).s3.2]) (λi=>bZ j i.2.1 i.2.2) (λbe i=>kV e.cz G=aa (i.1.1,i.2.2)/\x7 be i.1.1 i.1.2/\Sl aZ 3 b i.2.1.1 i.2.1.2 i.2.2) (λ_=>iz) (λi=>bZ j i.1 i.2) (λ_=>kV e.cz G=ak) [b] aG ud (λw f=>(aaZ j b ba G e.cz w aH bK f).mono λe z h=>by
     rcases h with ⟨x,s,C,q,R,S,U,bh,bi⟩ | ⟨C,q,R,S,U⟩;·exact bA ⟨((x,s),C,q),R,⟨S,U,bh⟩,bi⟩
     ·exact bl ⟨(C,q),R,S,U⟩) ?_ ?_;·intro ⟨t,u⟩ o;refine Ep<|Ep<|WE.aF<|Ep<|WE.aF<|Ep ?_;refine b3 λz f=>?_;rw [aaU ao o] at hC;exact bl ⟨t,u,O,by rw [vh B D E];simp only [h2,y,Q,A,hC,cF,eI,eX,bb],by have h:=f;have h:=Wt 1 h;have h:=Ws.dr h (cB:=[b]) aG;exact h⟩
    intro dQ ⟨⟨bj,bk⟩,cJ,V⟩ cK ⟨aI,cL,cP⟩;have cQ:eA V:=aax aH aI;refine Ln<|Eu ?_;refine Ue O (λ_ h=>(Wv 1<|Wo 3<|Wo 0 h:)) ?_ WU.stop;refine Lb Y O Rt O O O O λdR=>?_;refine dK 0 (aM (PX.cells (bj,bk)).toArray 113 (0,0)) O O<|Ln<|Eu ?_;refine Ue O (λ_ h=>(Wv 1<|Wo 3<|Wo 0<|Wd 1 h:)) ?_ WU.stop;refine LA ((bj,bk):PX) 5 0 Y O Rt O O O O O O (by have:=K.len;omega) (by have:=K.len;omega) λcR cS=>?_;refine Ln<|Eu ?_;refine WU.nil (λ_ h=>(Wv 1<|Wo 3<|Wo 0<|Wd 1 h:)) ?_;refine WS.e O ?_;refine V0 (Yf wu O)<|Ln<|Es ?_;refine WS.e O ?_;refine aq 2 Y O O O aa0 O O O<|Ln<|Es ?_;refine WS.nil ?_;refine Et ?_;refine WC.jJ λbL cT cV cW=>?_;refine Cr<|ad O<|Lf 1 O ?_;refine WL.kw (jR j b cJ V [112,117,98] cP) ?_;intro ⟨bM,cX,ap⟩ ⟨bN,bP,cY⟩;have cZ:bx V=(bM,ap):=JJ bN bP;obtain ⟨c0,dS⟩:eA ap/\ap.length<=dV V:=JK cQ bN bP;refine ar O<|Ln<|Eb ?_;exact cU (⟨e.ps++[(bj,bk)],cR,cS,bL,bM,cX,ap⟩:GM) (by have:G.length+1=e.q.length:=kk ao;have:V.length<G.length:=JI aH aI;show ap.length<e.q.length;omega) ⟨⟨by have:G.length+1=e.q.length:=kk ao;have:V.length<G.length:=JI aH aI;simp;omega,c0⟩,cY,⟨cW _ cK bH,vf.snoc bI cV cT cL⟩,n,(show ap.length<n by have:G.length+1=e.q.length:=kk ao;have:V.length<G.length:=JI aH aI;omega),by rw [hC,aaT ao aI cZ];simp [uh]⟩ (λ_ h=>by have h:=h.av 6 rfl;have h:=h.av 6 rfl;have h:=h.av 6 rfl;have h:=h.av 6 rfl;have h:=h.av 6 rfl;have h:=h.av 5 rfl;have h:=Wt 6 h;have h:=Ws.dr h (cB:=[bL,b]) aG;exact h)
   obtain ⟨c1,c2⟩:=cI bd;subst c2;obtain ⟨n,W,hC⟩:=hC;obtain ⟨n,rfl⟩:∃k,n=k+1:=⟨n-1,aj⟩;rw [aaS c1] at hC;simp at hC;refine Ce<|Ex<|Ex<|dy<|Et<|Cs<|ai<|ad O<|ag ?_;refine Cc O (λbm=>?_)<|λbm=>?_;·have aw:e.cz=ac:=bm;refine Cr<|V0 (Yb va u_ O O)<|V0 (qW vb O) ?_;refine WL.panic Y O ?_;refine Ep ?_;refine b3 λz f=>?_;exact bl ⟨ba,e.q,O,by rw [vh B D E];simp only [h2,y,Q,A,hC,aw,dp,cF,eI,eX,bb],by have h:=f;have h:=Wt 1 h;have h:=Ws.dr h (cB:=[b]) aG;exact h⟩
   have aw:e.cz=au:=bm;refine bO<|ai<|ad O ?_;refine Lb Y O dI O O O O λdU=>?_;refine aY (T:=9) (m:=1) 0 [[109,97,105,110]] O O (show 1<=1 by decide) a' λc3 c4=>?_;refine WL.kx (b4 j b ba e.q c3 _ _ [[109,97,105,110]] c4 bK) ?_ ?_;·intro ⟨t,u⟩ o;rw [gf] at o;refine Ep ?_;refine b3 λz f=>?_;exact bl ⟨t,u,O,by rw [vh B D E];simp only [h2,y,Q,A,hC,aw,o,dP,dq,cF,eI,eX,bb],by have h:=f;have h:=Wt 1 h;have h:=Ws.dr h (cB:=[b]) aG;exact h⟩
   intro ⟨c6,bn⟩ ⟨aK,c7⟩;have bQ:=km bG aK;rw [gf] at aK;refine ag<|ai<|ad O ?_;refine qq (ι:=((I cv)×(az a0×Z))×(az a0×Z)×Tk) (κ:=(az a0×Z)×Tk) [_] _ Y O bf O O (λi=>aC i.1.2.1 i.1.1.length i.1.2.2) (λi=>bZ j i.2.1 i.2.2) (λbe i=>ib 6 bn=aa (i.1.1,i.2.2)/\Sl (iG 7 6) 6 be i.1.2.1 i.1.2.2 i.1.1/\Sl aZ 3 b i.2.1.1 i.2.1.2 i.2.2) (λ_=>iz) (λi=>bZ j i.1 i.2) (λ_=>ib 6 bn=ak) [b] aG ud (λw f=>(Rm b 6 j c6 bn 1 w aj bQ c7 f).mono λe z h=>by
    rcases h with ⟨x,s,C,q,R,S,U,bh,bi⟩ | ⟨C,q,R,S,U⟩;·exact bA ⟨((x,s),C,q),R,⟨S,U,bh⟩,bi⟩
    ·exact bl ⟨(C,q),R,S,U⟩) ?_ ?_;·intro ⟨t,u⟩ o;refine Ep ?_;refine b3 λz f=>?_;exact bl ⟨t,u,O,by rw [vh B D E];simp only [h2,y,Q,A,hC,aw,aK,o,dP,dq,cF,eI,eX,bb],by have h:=f;have h:=Wt 1 h;have h:=Ws.dr h (cB:=[b]) aG;exact h⟩
   intro dW ⟨⟨bR,aW⟩,c9,bS⟩ c' ⟨bo,c_,da⟩;have db:eA bS:=B8 bQ bo;refine V0 (Yf Fj O)<|aq 1 Y O O O B' O O O<|ag<|ai<|ad O ?_;refine Lb Y O dI O O O O λdX=>?_;refine aY (T:=9) (m:=1) 0 [[125]] O O (show 1<=1 by decide) a' λdc dd=>?_;refine WL.kx (b4 j b c9 bS dc _ _ [[125]] dd da) ?_ ?_;·intro ⟨t,u⟩ o;rw [gf] at o;refine Ep ?_;refine b3 λz f=>?_;exact bl ⟨t,u,O,by rw [vh B D E];simp only [h2,y,Q,A,hC,aw,aK,bo,o,dP,dq,cF,eI,eX,bb],by have h:=f;have h:=Wt 1 h;have h:=Ws.dr h (cB:=[b]) aG;exact h⟩
   intro ⟨de,df⟩ ⟨bp,dg⟩;have dY:=km db bp;rw [gf] at bp;refine ag<|Cs ?_;refine WC.pH (rd:=rdStr) 2 O (λk H=>by simp [bZ,aJ] at H;subst H;simp [fR,bZ,aJ,eK]) pG fp λd0 dh di=>?_;refine WC.pH (rd:=yX) 2 O (λk H=>by simp [bZ,aJ] at H;subst H;simp [fR,bZ,aJ,eK]) eQ.dA fp λd1 dj dk=>?_;refine WC.pH (rd:=Ro) 2 O (λk H=>by simp [bZ,aJ] at H;subst H;simp [fR,bZ,aJ,eK]) PX.dA fp λd2 dl dm=>?_;refine Cr<|V0 (dv 1 O O cA O)<|aq 2 Y O O O sZ O O O<|ag<|bq ?_;refine WE.gt (j_ O<|e1 2 O O cA O) λz f=>?_;exact bA ⟨⟨aD,g.us,v.ds,e.ps.map (·.1),bR⟩,⟨g.a,g.c,v.a,v.c,e.a,e.c,aW.1,aW.2⟩,de,df,by show Ending.returned (bU #[st aD,aC g.a g.us.length g.c,aC v.a v.ds.length v.c,aC e.a e.ps.length e.c,aC aW.1 bR.length aW.2])=_;simp [hk],by rw [vh B D E];simp only [h2,y,Q,A,hC,aw,aK,bo,bp,dP,dq,cF,eI,eX,bb],⟨ve di<|e7 f aG dh,Ov dk<|e7 f aG dj,aaG dm (e7 f aG dl) (e7 f aG bH) bI,lB c_<|e7 f aG c'⟩,dg,Wv 7<|Wt 1 f⟩
 obtain ⟨n,W,A⟩:=A;obtain ⟨n,rfl⟩:∃k,n=k+1:=⟨n-1,aj⟩;obtain ⟨br,aU⟩:∃x,a_=aa x:=by cases a_ with| none=>simp at aS| some x=>exact ⟨x,rfl⟩
 subst aU;have d3:F.length<v.q.length:=aaw a9 al;refine bO<|ai<|V0 (Yf xZ O)<|V0 (Yd 2 O O O ah)<|V0 (dv 0 O O p2 O) ?_;refine Lb Y O Ru O O O O λd4=>?_;refine dK 0 (aM (eQ.cells br).toArray 109 (0,0)) O O ?_;refine LA (br:eQ) 5 0 Y O Ru O O O O O O (by have:=K.len;omega) (by have:=K.len;omega) λdn dt=>?_;refine V0 (Yf xZ O)<|aq 3 Y O O O aa1 O O O<|ag<|Cr<|ad O<|Lf 2 O ?_;refine WL.kw (jR j b bC F [112,117,98] bD) ?_;intro ⟨bT,du,aA⟩ ⟨bW,bX,dw⟩;have dx:bx F=(bT,aA):=JJ bW bX;obtain ⟨dz,d5⟩:eA aA/\aA.length<=dV F:=JK bF bW bX;refine ar O<|Ln<|Eb ?_;exact cU (⟨v.ds++[br],dn,dt,bT,du,aA⟩:GD) (by show aA.length<v.q.length;omega) ⟨⟨by simp;omega,dz⟩,dw,n,(show aA.length<n by omega),by rw [A,aaQ al dx];simp [uh]⟩ (λ_ h=>by have h:=h.av 7 rfl;have h:=h.av 7 rfl;have h:=h.av 7 rfl;have h:=h.av 7 rfl;have h:=h.av 7 rfl;have h:=h.av 5 rfl;have h:=Wt 6 h;have h:=Ws.dr h (cB:=[v0,b]) aG;exact h)
def aa3 (h:¬(g4 bw).2=0):fJ bw=(tR,(g4 bw).2):=by rw [fJ,aU h]
def aa4 (h:(g4 bw).2=0) (a:lF (g4 bw).1=ak):fJ bw=(tR,1):=by rw [fJ,ao (by simp [h]),a]
variable {a8:cM}
def aa5 (h:(g4 bw).2=0) (b:lF (g4 bw).1=aa (a8,a_)) (a:0<a_.length\/¬hI a8=0):fJ bw=(tR,1):=by
 rw [fJ,ao (by simp [h]),b];cases a_ with
 | cons t r=>rfl
 | nil=>
  simp only;rw [ao];rcases a with a | a;·simp at a
  ·exact a
def aa6 (h:(g4 bw).2=0) (a:lF (g4 bw).1=aa (a8,a_)) (b:a_.length=0) (c:hI a8=0):fJ bw=(a8,0):=by rw [fJ,ao (by simp [h]),a];obtain rfl:a_=[]:=r5 b;simp only;rw [aU c]
def JM (h:(g4 bw).2=0):eA (g4 bw).1:=⟨Py h,(Mg<|Mh h).2⟩
def Fu:mf:=⟨ak,0,ak,0,ak,0,ak,0⟩
def JN (N:View):mg 7 6 N Fu tR:=⟨Sl.nil,Sl.nil,Sl.nil,Sl.nil⟩
def aa7 {s:mf}  (h:mg ae aH bt s a8) (hv:cV bt bX):mg ae aH bX s a8:=⟨ve h.aI hv,Ov h.decls hv,h.procs.imp λb o x a=>Mo hv (eC _) (eC _) b o x a,h.main.imp λb o x a=>xl hv (eC _) (eC _) b o x a⟩
def Fv:aB.underlying 20=aa (.interface<|aB.methodsAt 20):=ah
def nj:eP aB 30=aa 1:=ah
def BD:zeroOf aB 30=aa (an am 0):=ah
def aa8:hy aB 227=aa [(0,1)]:=ah
def aa9:zeroOf aB 227=aa (bU #[aC ak 0 0]):=ah
def aa' (a b:Z) (c:bE aT) (i:c.size=5) (d:ab) (w:aL) (f:Ws w (c5 bc.ids [aJ a<|aM c 27 (0,0),aJ b<|aM #[an am d] 30 (0,0)]) [aJ a<|aM c 27 (0,0),aJ b<|aM #[an am d] 30 (0,0)] [] w) : CallsD aB 121 #[b0 (aa ⟨a,0,ak⟩),b0 (aa ⟨b,0,ak⟩)] (.returning) w λe h g=>h = .returning/\(e = ax (cN #[])/\Ws w (c5 bc.ids [aJ a<|aM c 27 (0,0),aJ b<|aM #[an am d] 30 (0,0)]) [aJ a<|aM c 27 (0,0),aJ b<|aM #[an am d] 30 (0,0)] [] g):=by refine w9 func121 O 5 O O O O O (λ_=>rfl) (bA ⟨O,O,O⟩) ?_;refine LW (W':=Ws w (c5 bc.ids [aJ a<|aM c 27 (0,0),aJ b<|aM #[an am d] 30 (0,0)]) [aJ a<|aM c 27 (0,0),aJ b<|aM #[an am d] 30 (0,0)] []) (λ_ e=>by subst e;exact f)<|V0 (D1 Fv O)<|ag ?_;refine WC.r6 O ?_;refine Ck ?_;refine E0 O λg f=>?_;exact ⟨O,f⟩
def Rv (a b:Z) (c:I aT) (g:c.length=5) (d:ab) (w:aL) (f:Ws w (c5 bc.ids [aJ a<|aM c.toArray 27 (0,0),aJ b<|aM #[an am d] 30 (0,0)]) [aJ a<|aM c.toArray 27 (0,0),aJ b<|aM #[an am d] 30 (0,0)] [] w) : CallsD aB 121 #[b0 (aa ⟨a,0,ak⟩),b0 (aa ⟨b,0,ak⟩)] (.panicking iz) w λe i h=>i = .panicking [⟨.iface 229<|bU #[],ac,au⟩]/\(e = ax (cN #[])/\Ws w (c5 bc.ids [aJ a<|aM c.toArray 27 (0,0),aJ b<|aM #[an am d] 30 (0,0)]) [aJ a<|aM (p5 [] ak 0 0 ak 0 0 ak 0 0 ak 0 0).toArray 27 (0,0),aJ b<|aM #[an am 1] 30 (0,0)] [] h):=by refine w9 func121 O 5 O O O O O (λ_=>rfl) (bl ⟨_,O,O,O⟩) ?_;refine LW (W':=Ws w (c5 bc.ids [aJ a<|aM c.toArray 27 (0,0),aJ b<|aM #[an am d] 30 (0,0)]) [aJ a<|aM c.toArray 27 (0,0),aJ b<|aM #[an am d] 30 (0,0)] []) (λ_ e=>by subst e;exact f)<|V0 (TN Fv O)<|ag ?_;refine WC.s6 O ?_;refine Cr<|V0 (Yb sY JL O O) ?_;refine WL.yJ 0 (aM (p5 [] ak 0 0 ak 0 0 ak 0 0 ak 0 0).toArray 27 (0,0)) Y O O O sZ O O (by simp [qe,g]) (by simp [lQ,fh,p5,g,wX]) ?_;refine aq 1 Y O O O nj O O O<|Ln ?_;refine E0 O λh f=>?_;exact ⟨O,f⟩
def Rw (l:View) (s:Tx) (w:aL) (E:Le l w) (F:Laid l) : cr aB 44 #[st s] w λe d=>∃r:mf,e = ax (cN #[bU (hk (fJ s).1 r).toArray,an am (fJ s).2])/\Ext w d/\mg 7 6 (nv w d) r (fJ s).1:=by
 refine DA func44 O 35 O O ?_;refine CE (Vs:=[l]) (Ws.init (by simp [E]))<|ai ?_;refine Al Y O sY λf=>?_;refine dK 0 (aM (p5 [] ak 0 0 ak 0 0 ak 0 0 ak 0 0).toArray 27 (0,0)) O O ?_;refine Al Y O BD λj=>?_;refine dK 0 (aM #[an am 0] 30 (0,0)) O O<|ag<|ai<|ad O ?_;refine Ld Y O bf O (λr:az a0×Z=>cN #[aC r.1 (g4 s).1.length r.2,an am (g4 s).2]) (λo r=>Sl aZ 3 o r.1 r.2 (g4 s).1) (λw a=>YF l s w a.V F) ?_;intro p G R H;refine ad O<|V0 (Yx O O)<|V0 (Yx O O)<|ar O<|aq 0 Y O O O nj O O O<|ag<|Cs<|ai<|V0 (Yd 0 O O O ah)<|V0 (g2 O O) ?_;refine ag ?_;refine Cc O (λt=>?_)<|λt=>?_
 ·have c:¬(g4 s).2=0:=by simpa using t
  refine Cs ?_;refine CU (nB [.cell 2 27,.cell 3 30]) [1] [3] (.q au 0<|.q ac 1<|.e 2 .nil .stop) mixed ah (λ_ _ _ _ _ J h=>qh (fn:=f44) [.cell 2 27,.cell 3 30] O J h) ?_;refine U0 O (Wp 1) (Yb sY JL O O)<|U0 O (Wp 1) (Yd 0 O O O ah) ?_;refine Ue O (Wp 1) ?_ WU.stop;refine aq 1 Y O O O sZ O O O<|Ln<|Eu ?_;refine WU.nil (Wp 1) ?_;refine WS.e O ?_;refine aq 0 Y O O O nj O O O<|Ln<|Es ?_;refine WS.nil ?_;refine Et<|bq<|Er ?_;refine WE.uv (hG O (e1 1 O O cA O)<|jb 0 O O O ah) λd a=>?_;rw [aa3 c];exact ⟨Fu,O,a.fr,JN _⟩
 have c:(g4 s).2=0:=by simpa using t
 refine gL 0 (aM #[an am 0] 30 (0,0)) O (by show Obj.cells #[an am (g4 s).2] _ _=_;rw [c])<|bO<|ai<|V0 (vC O) ?_;refine WL.defer Y O ?_;refine ag<|ai<|ad O<|V0 (Yb aa9 aa8 O O) ?_;refine WL.box Y O O λu=>?_;refine ar O<|ag<|ai<|ad O ?_;refine qq (ι:=(cM×mf)×(az a0×Z)×Tk) (κ:=(az a0×Z)×Tk) [_] _ Y O bf O O (λi=>bU (hk i.1.1 i.1.2).toArray) (λi=>bZ u i.2.1 i.2.2) (λo i=>lF (g4 s).1=aa (i.1.1,i.2.2)/\mg 7 6 o i.1.2 i.1.1/\Sl aZ 3 p i.2.1.1 i.2.1.2 i.2.2) (λ_=>iz) (λi=>bZ u i.1 i.2) (λ_=>lF (g4 s).1=ak) [p] aG ud (λw a=>(aa2 u p G (g4 s).1 w (JM c) H a).mono λe d h=>by
  rcases h with ⟨x,s,v,q,m,y,z,K,L⟩ | ⟨v,q,m,y,z⟩;·exact bA ⟨((x,s),v,q),m,⟨y,z,K⟩,L⟩
  ·exact bl ⟨(v,q),m,y,z⟩) ?_ ?_;·intro ⟨S,T⟩ M;refine Ep ?_;refine WE.front 1 O ?_;refine WE.front 2 O ?_;refine WE.r7 bf (pC [_,_] _ [aJ f<|aM (p5 [] ak 0 0 ak 0 0 ak 0 0 ak 0 0).toArray 27 (0,0),aJ j<|aM #[an am 1] 30 (0,0)] O<|λw a=>Rv f j (p5 [] ak 0 0 ak 0 0 ak 0 0 ak 0 0) O 0 w a) (hG O (e1 0 O O cA O)<|jb 1 O O O ah) λd a=>?_;rw [aa4 c M];exact ⟨Fu,O,a.fr,JN _⟩
 intro N ⟨⟨b,k⟩,U,n⟩ P ⟨A,C,W⟩;have X:wM b<=73728:=by have m:wM b+18*n.length<=18*(g4 s).1.length:=P8 A;have:=(JM c).len;omega
 refine aq 2 Y O O O sZ O O O<|ag<|Cs<|Cs<|gL 2 (aM (hk b k).toArray 27 (0,0)) O O<|Cr<|ad O<|V0 (bP O)<|V0 (Yf e0 O)<|V0 (Yd 0 O O O ah) ?_;refine V0 (Yn rH O)<|V0 (ek O O)<|ad O ?_;apply Lo 3 O O O O Y O O O O O;·intro ae;refine Vg (dv 2 O O cA O)<|Lp (.g O O O) O bf O (λw a=>Fk N 7 6 k b w a.V C aj)<|Vg (g2 O O) ?_;exact Gt 3 O O O
 refine ag ?_;refine Cc O (λB=>?_)<|λB=>?_
 ·have Q:0<n.length\/¬hI b=0:=by simpa using B
  refine Cr<|V0 (Yb va u_ O O)<|V0 (qW vb O) ?_;refine WL.panic Y O ?_;refine Ep ?_;refine WE.front 1 O ?_;refine WE.front 2 O ?_;refine WE.r7 bf (pC [_,_] _ [aJ f<|aM (p5 [] ak 0 0 ak 0 0 ak 0 0 ak 0 0).toArray 27 (0,0),aJ j<|aM #[an am 1] 30 (0,0)] O<|λw a=>Rv f j (hk b k) O 0 w a) (hG O (e1 0 O O cA O)<|jb 1 O O O ah) λd a=>?_;rw [aa5 c A Q];exact ⟨Fu,O,a.fr,JN _⟩
 have D:¬0<n.length/\hI b=0:=by simpa using B
 refine bO<|ai<|V0 (dv 2 O O cA O)<|aq 2 Y O O O sZ O O O<|aq 1 Y O O O nj O O O<|ag<|bq ?_;refine WE.front 1 O ?_;refine WE.front 2 O ?_;refine WE.GR bf (pC [_,_] _ [aJ f<|aM (hk b k).toArray 27 (0,0),aJ j<|aM #[an am 0] 30 (0,0)] O<|λw a=>aa' f j (hk b k).toArray O 0 w a) (hG O (e1 0 O O cA O)<|jb 1 O O O ah) λd a=>?_;rw [aa6 c A (by have:=D.1;show n.length=0;omega) D.2];exact ⟨k,O,a.fr,aa7 C<|e7 a aG P⟩
def Rx (s:Tx):(fV s).all (·.oneCell')=ac:=rfl
def asks (s:Tx) (l:Tk):aQ:=(l.head?.map λt=>!(t.kind==2)&&(t.text==s)).getD au
structure GE where
 es:I XE
 a:az a0
 c:Z
 J:View
 r:az a0×Z
 q:Tk
 more:aQ
structure GO where
 j:Z
 o:ab
 r:az a0×Z
 q:Tk
structure qT (f:Z) (N:View) (x:cv) (p:z6):Prop where
 args:Sl (jI 8) 5 N p.s1.1 p.s1.2 x.args
 body:Sl (iG 8 f) 6 N p.s2.1 p.s2.2 x.body
 other:Sl (iG 8 f) 6 N p.s3.1 p.s3.2 x.other
def JO (h:Sl (iG 8 ae) 6 bt b' aH c7) (hv:cV bt bX):Sl (iG 8 ae) 6 bX b' aH c7:=h.imp λb o y a=>xl hv (eC _) (eC _) b o y a
def qT.mv (h:qT ae bt cL FF) (hv:cV bt bX):qT ae bX cL FF:=⟨B6 h.args hv,JO h.body hv,JO h.other hv⟩
def re (J:View) (f:Z) (es:I SX):Prop:=∀e ∈ es,qT f J e.1 e.2
def re.nil (J:View) (f:Z):re J f []:=by intro e h;simp at h
def re.snoc {J c b:View} {f:Z} {es:I SX} {e:SX} (h:re J f es) (d:cV J b) (g:cV c b) (i:qT f c e.1 e.2):re b f<|es++[e]:=by
 intro x a;rcases bm.1 a with a | a;·exact (h x a).mv d
 ·rw [fq] at a;subst a;exact i.mv g
variable {pb:Tk->I cv×Tk} {l r q1 q2 q3 q4:Tk} {x y:cu} {b o:I cv} {p:Tx×Tx} {xs:I cu}
variable {ps:Tk->cv×Tk} {s:cv} {n:Z}
structure ri (N:View) (x:bz) (p:z8):Prop where
 params:Sl rdStr 1 N p.s1.1 p.s1.2 x.params
 a6:Sl rdStr 1 N p.s2.1 p.s2.2 x.a6
 body:Sl (iG 8 6) 6 N p.s3.1 p.s3.2 x.body
def ri.mv (h:ri bt iw Fq) (hv:cV bt bX):ri bX iw Fq:=⟨ve h.params hv,ve h.a6 hv,JO h.body hv⟩
def Cf (J:View) (es:I PX):Prop:=∀e ∈ es,ri J e.1 e.2
def Cf.nil (J:View):Cf J []:=by intro e h;simp at h
def Cf.snoc {J c b:View} {es:I PX} {e:PX} (h:Cf J es) (d:cV J b) (f:cV c b) (g:ri c e.1 e.2):Cf b<|es++[e]:=by
 intro x a;rcases bm.1 a with a | a;·exact (h x a).mv d
 ·rw [fq] at a;subst a;exact g.mv f
structure age where
 ds:I eQ
 a:az a0
 c:Z
 go:aQ
 cz:aQ
 r:az a0×Z
 q:Tk
structure GH where
 ps:I Tx
 a:az a0
 c:Z
 more:aQ
 r:az a0×Z
 q:Tk
def BE:eP aB 4=aa 1:=ah
abbrev SP:=az a0×Z
def x8:aW->I a7:=λx=>x.name
abbrev pr:=I a7×ab×Z
def iv (M:I pr):I qf:=M.map λe=>(e.1,an am e.2.1,e.2.2)
def oH (k:I a7):I pr->Z->az (Z×ab)| [],_=>ak| e::r,i=>if (k==e.1)=ac then aa (i,e.2.1) else oH k r (i+1)
def JP (k:I a7) (M:I pr):ab:=match oH k M 0 with| aa (_,n)=>n| ak=>0
def Cg (k:I a7) (n:ab) (M:I pr) (c:Z):I pr:=match oH k M 0 with| aa (i,_)=>M.modify i λe=>(k,n,e.2.2)| ak=>M++[(k,n,c)]
def JQ (k:I a7) (M:I pr) (c:Z):Z:=match oH k M 0 with| aa _=>c| ak=>c+1
def Fw (k:I a7):∀(M:I pr) (i:Z),qg k (iv M) i=(oH k M i).map λr=>(r.1,an am r.2)
 | [],_=>rfl
 | e::r,i=>by
  simp only [iv,l_,qg,oH];cases (k==e.1);·simp only [dP,dq];exact Fw k r<|i+1
  ·simp
def aa_ (k:I a7) (M:I pr):AU k (iv M) (an am 0) = an am (JP k M):=by unfold AU JP;rw [Fw];cases oH k M 0<;>rfl
def aba (k:I a7) (n:ab) (M:I pr) (c:Z):yO k (an am n) (iv M) c=iv (Cg k n M c):=by unfold yO Cg;rw [Fw];cases oH k M 0 with| none=>simp [iv]| some r=>simp only [eI];apply r3;intro i;simp only [iv,yt,gh];cases M[i]? with| none=>simp| some e=>by_cases h:r.1=i<;>simp [h]
def abb (k:I a7) (M:I pr) (c:Z):yP k (iv M) c=JQ k M c:=by unfold yP JQ;rw [Fw];cases oH k M 0<;>rfl
def keysOf (M:I pr):I<|I a7:=M.map (·.1)
def JR {k:I a7}:∀{M:I pr} {i:Z},oH k M i=ak↔k ∉ keysOf M
 | [],_=>by simp [oH,keysOf]
 | e::r,i=>by
  simp only [oH,keysOf,l_,eZ,not_or];by_cases h:k=e.1;·simp [h]
  ·have:=JR (k:=k) (M:=r) (i:=i+1);simp [h,keysOf] at this ⊢;exact this
variable {be:I a7}
def Ry:∀{M:I pr} {i j:Z} {n:ab},oH be M i=aa (j,n)->i<=j/\(M[j-i]?).map (·.1)=aa be
 | [],_,_,_,h=>by simp [oH] at h
 | e::r,i,j,n,h=>by
  simp only [oH] at h;split at h;·rename_i a;injection h with h;injection h with b c;subst b;simp at a;simp [a]
  ·obtain ⟨b,c⟩:=Ry h;refine ⟨aj,?_⟩;have:j-i=(j-(i+1))+1:=aj;rw [this];simpa using c
def Ra (k:I a7) (n:ab) (M:I pr) (c:Z):keysOf (Cg k n M c)=if k ∈ keysOf M then keysOf M else keysOf M++[k]:=by
 unfold Cg;cases h:oH k M 0 with
 | none=>rw [ao<|JR.1 h];simp [keysOf]
 | some r=>
  obtain ⟨j,v⟩:=r;have a:=(Ry h).2;have f:k ∈ keysOf M:=by cases Classical.em (k ∈ keysOf M) with| inl b=>exact b| inr b=>rw [JR.2 b] at h;cases h
  rw [aU f];apply r3;intro i;simp only [keysOf,gh,yt];cases g:M[i]? with
  | none=>simp
  | some e=>
   by_cases d:j=i;·subst d;simp only [p_,g] at a;simp at a;simp [a]
   ·simp [d]
def ea (l:I<|I a7):Z->I pr×Z| 0=>([],0)| i+1=>(Cg (l[i]?.getD []) (am.wrap<|JP (l[i]?.getD []) (ea l i).1+1) (ea l i).1 (ea l i).2,JQ (l[i]?.getD []) (ea l i).1 (ea l i).2)
def RA (l:I<|I a7) (k:I a7):∀i,k ∈ keysOf (ea l i).1↔∃j,j<i/\l[j]?.getD []=k
 | 0=>by simp [ea,keysOf]
 | i+1=>by
  have b:=RA l k i;simp only [ea,Ra];have step:(∃j,j<i+1/\l[j]?.getD []=k)↔(∃j,j<i/\l[j]?.getD []=k)\/l[i]?.getD []=k:=by
   constructor
   ·rintro ⟨j,a,e⟩;rcases dd.1 a with h | rfl;·exact bA ⟨j,h,e⟩
    ·exact bl e
   ·rintro (⟨j,a,e⟩ | e);·exact ⟨j,aj,e⟩
    ·exact ⟨i,aj,e⟩
  rw [step,<-b];split
  ·rename_i c;constructor;·exact bA
   ·rintro (h | h);·exact h
    ·rw [<-h];exact c
  ·simp [eq_comm]
def RB (l:I<|I a7):∀i,(keysOf (ea l i).1).length<=i/\((keysOf (ea l i).1).length<i↔∃c,c<i/\∃j,j<c/\l[j]?.getD []=l[c]?.getD [])
 | 0=>by simp [ea,keysOf]
 | i+1=>by
  obtain ⟨n,g⟩:=RB l i;have k:=RA l (l[i]?.getD []) i;simp only [ea,Ra];split;·rename_i f;obtain ⟨j,d,e⟩:=k.1 f;exact ⟨aj,⟨λ_=>⟨i,aj,j,d,e⟩,λ_=>by omega⟩⟩
  ·rename_i f;refine ⟨by simp;omega,?_⟩;rw [e_,n_];constructor;·intro h;obtain ⟨c,a,b⟩:=g.1 aj;exact ⟨c,aj,b⟩
   ·rintro ⟨c,m,j,d,e⟩;rcases dd.1 m with h | rfl;·have:=g.2 ⟨c,h,j,d,e⟩;omega
    ·exact absurd (k.2 ⟨j,d,e⟩) f
def abc (l:I<|I a7):decide (((ea l l.length).1.length:ab)<(l.length:ab))=gV l:=by
 have h:=(RB l l.length).2;simp only [keysOf,fK] at h;rw [lK];unfold gV;simp only [mb,s8,wT,j8];constructor;·intro b;obtain ⟨i,hi,j,a,e⟩:=h.1 aj;exact ⟨i,hi,j,a,e.symm⟩
 ·rintro ⟨i,hi,j,a,e⟩;have:=h.2 ⟨i,hi,j,a,e.symm⟩;omega
def i0:aB.underlying 124=aa (.map 9 3):=ah
def cw:zeroOf aB 3=aa (an am 0):=ah
def Ch:cX aB 48 0=aa 0:=ah
def x9:cX aB 48 3=aa 3:=ah
def rR:cX aB 48 1=aa 1:=ah
def nQ:cX aB 48 2=aa 2:=ah
def Ci:cX aB 42 1=aa 1:=ah
def x':g1 aB 40=aa 4:=ah
def oI:iC aB 48=aa 4:=ah
def nt:zeroOf aB 48=aa (bU #[an am 0,an am 0,an am 0,st []]):=ah
def nR:eP aB 48=aa 4:=ah
def JS:cX aB 42 0=aa 0:=ah
def JT (H:View) (a:az a0) (c:Z) (l:I<|I a7) (w:aL) (g:Le H w) (b:Sl rdStr 1 H a c l) : cr aB 70 #[aC a l.length c] w λe f=>e = ax (bV<|gV l)/\Ext w f:=by
 have s:=b.cap;have t:=b.max;refine enter func70 O 23 O O ?_;refine CE (Vs:=[H]) (Ws.init (by simp [g]))<|ai<|ar O<|ag<|ai ?_;refine WL.TI Y O λh=>?_;refine ar O<|ag<|Cs<|ai<|ad O<|V0 (Yn e4 O)<|ad O<|ag<|Cb ?_;refine dZ (ι:=Z) (λi=>[(9,an am (i:ab))]) [(0,_),(2,_),(3,_),(7,_),(8,_)] (λi=>Ws w [] [aJ h<|qV (iv (ea l i).1) (ea l i).2] [H]) (λi=>i<=l.length) (λi=>l.length-i) 0 (de _) aR ?_;intro i hi;refine ai<|V0 (cP O O)<|ag<|Cs ?_;refine Cc O (λd=>?_)<|λd=>?_
 ·have j:i<l.length:=by simpa using d
  obtain ⟨k,m,n,o⟩:=b.b7 i (l[i]?.getD []) (by rw [dh j];rfl);have p:vc H k (m+i*1)=aa (st<|l[i]?.getD []):=o 0 _ rfl;refine bO<|Cs<|Cb<|ai<|V0 (Yo e4 O O n aj)<|V0 (dQ 0 ah O O<|p)<|ar O<|ag<|Cr<|ad O<|ad O<|V0 (TJ 0 i0 ah cw O O O) ?_;rw [aa_];refine V0 (s_ O O) ?_;refine WL.TK 0 Y i0 ah O O O O ?_;rw [aba,abb];refine Ln<|Eb<|Et<|Cr<|V0 (Yi O O O aj)<|ad O<|Ln ?_;exact cU (i+1) aj aj aR
 have q:i=l.length:=by simp at d;omega
 subst q;refine Ce<|Ex<|Ex<|dy<|Et<|ai<|ad O<|V0 (Dz 0 i0 O O)<|ad O<|V0 (Yn e4 O)<|V0 (cP O O)<|ar O ?_;refine ag<|bq ?_;refine R1 O O λf r=>?_;exact ⟨by rw [<-abc];simp [iv],r.fr⟩
def abd (x:aW) (w:aL) : cr aB 127 #[bU #[an am x.kind,an am x.n,an am x.pl,st x.name]] w λe c=>e = ax (bV<|o3 x)/\Ext w c:=by
 refine enter func127 O 42 O O ?_;refine CE (Vs:=[]) (Ws.init aG)<|ai ?_;refine WL.box Y O O λm=>?_;refine ar O<|ag<|ai<|ar O<|ar O<|ag<|ai<|ar O<|ag<|Cs<|ai<|V0 (Yf Ch O) ?_;refine V0 (Yd 0 O O O ah)<|ag<|Cb<|ai<|V0 (bN O O)<|ar O<|ag ?_;refine Cc O (λd=>?_)<|λd=>?_
 ·refine Cr<|ar O<|Ln<|Eb<|Et<|ai<|V0 (Yf x9 O)<|V0 (Yd 0 O O O ah)<|Lp Y O bf O (λw a=>rG _ w)<|ad O ?_;apply La 4 O O O O Y O O O O O;·intro i;refine Vg (Yf rR O)<|Vg (Yd 0 O O O ah)<|Vg (Ym O)<|Vg (hE O O) ?_;exact Gt 4 O O O
  refine ad O ?_;apply La 4 O O O O Y O O O O O;·intro j;refine Vg (Yf rR O)<|Vg (Yd 0 O O O ah)<|Vg (Ym O)<|Vg (kM O O) ?_;exact Gt 4 O O O
  refine ad O ?_;apply La 3 O O O O Y O O O O O;·intro k;refine Vg (Yf nQ O)<|Vg (Yd 0 O O O ah)<|Vg (hE O O) ?_;exact Gt 3 O O O
  refine ad O ?_;apply La 4 O O O O Y O O O O O;·intro l;refine Vg (Yf nQ O)<|Vg (Yd 0 O O O ah)<|Vg (Ym O)<|Vg (kM O O) ?_;exact Gt 4 O O O
  refine ar O<|ag<|bq ?_;refine R1 O O λc a=>?_;have b:x.kind=1:=by simpa using d
  exact ⟨by rw [D8 (by simp [b])],a.fr⟩
 refine ai<|V0 (bN O O)<|ar O<|ag ?_;refine Cc O (λf=>?_)<|λf=>?_
 ·refine Cr<|ar O<|Ln<|Eb<|Et<|ai<|V0 (Yf x9 O)<|V0 (Yd 0 O O O ah)<|Lp Y O bf O (λw a=>rG _ w)<|ad O ?_;apply La 4 O O O O Y O O O O O;·intro i;refine Vg (Yf rR O)<|Vg (Yd 0 O O O ah)<|Vg (Ym O)<|Vg (hE O O) ?_;exact Gt 4 O O O
  refine ad O ?_;apply La 4 O O O O Y O O O O O;·intro j;refine Vg (Yf rR O)<|Vg (Yd 0 O O O ah)<|Vg (Ym O)<|Vg (kM O O) ?_;exact Gt 4 O O O
  refine ad O ?_;apply La 3 O O O O Y O O O O O;·intro k;refine Vg (Yf nQ O)<|Vg (Yd 0 O O O ah)<|Vg (hE O O) ?_;exact Gt 3 O O O
  refine ad O ?_;apply La 4 O O O O Y O O O O O;·intro l;refine Vg (Yf nQ O)<|Vg (Yd 0 O O O ah)<|Vg (Ym O)<|Vg (kM O O) ?_;exact Gt 4 O O O
  refine ar O<|ag<|bq ?_;refine R1 O O λc a=>?_;have b:x.kind=2:=by simpa using f
  exact ⟨by rw [D8 (by simp [b])],a.fr⟩
 refine ai<|V0 (bN O O)<|ar O<|ag ?_;refine Cc O (λg=>?_)<|λg=>?_
 ·refine Cr<|ar O<|ar O<|Ln<|Eb<|Et<|ai<|V0 (Yf x9 O)<|V0 (Yd 0 O O O ah)<|Lp Y O bf O (λw a=>rG _ w)<|ad O ?_;apply La 4 O O O O Y O O O O O;·intro i;refine Vg (Yf rR O)<|Vg (Yd 0 O O O ah)<|Vg (Ym O)<|Vg (hE O O) ?_;exact Gt 4 O O O
  refine ad O ?_;apply La 4 O O O O Y O O O O O;·intro j;refine Vg (Yf rR O)<|Vg (Yd 0 O O O ah)<|Vg (Ym O)<|Vg (kM O O) ?_;exact Gt 4 O O O
  refine ad O ?_;apply La 3 O O O O Y O O O O O;·intro k;refine Vg (Yf nQ O)<|Vg (Yd 0 O O O ah)<|Vg (hE O O) ?_;exact Gt 3 O O O
  refine ad O ?_;apply La 4 O O O O Y O O O O O;·intro l;refine Vg (Yf nQ O)<|Vg (Yd 0 O O O ah)<|Vg (Ym O)<|Vg (kM O O) ?_;exact Gt 4 O O O
  refine ar O<|ag<|bq ?_;refine R1 O O λc a=>?_;have b:x.kind=3:=by simpa using g
  exact ⟨by rw [D8 (by simp [b])],a.fr⟩
 refine ai<|V0 (bN O O)<|ar O<|ag ?_;refine Cc O (λh=>?_)<|λh=>?_
 ·refine Cr<|ar O<|Ln<|Eb<|Et<|ai<|V0 (Yf x9 O)<|V0 (Yd 0 O O O ah)<|Lp Y O bf O (λw a=>rG _ w)<|ad O ?_;apply La 4 O O O O Y O O O O O;·intro i;refine Vg (Yf rR O)<|Vg (Yd 0 O O O ah)<|Vg (Ym O)<|Vg (hE O O) ?_;exact Gt 4 O O O
  refine ad O ?_;apply La 4 O O O O Y O O O O O;·intro j;refine Vg (Yf rR O)<|Vg (Yd 0 O O O ah)<|Vg (Ym O)<|Vg (kM O O) ?_;exact Gt 4 O O O
  refine ad O ?_;apply La 3 O O O O Y O O O O O;·intro k;refine Vg (Yf nQ O)<|Vg (Yd 0 O O O ah)<|Vg (hE O O) ?_;exact Gt 3 O O O
  refine ad O ?_;apply La 4 O O O O Y O O O O O;·intro l;refine Vg (Yf nQ O)<|Vg (Yd 0 O O O ah)<|Vg (Ym O)<|Vg (kM O O) ?_;exact Gt 4 O O O
  refine ar O<|ag<|bq ?_;refine R1 O O λc a=>?_;have b:x.kind=4:=by simpa using h
  exact ⟨by rw [D8 (by simp [b])],a.fr⟩
 refine ai<|ar O<|ag<|bq<|cZ<|Er ?_;refine R1 O O λc a=>?_;simp at d f g h;exact ⟨by rw [UI d f g h],a.fr⟩
def abe (H:View) (a:az a0) (c:Z) (name:I a7) (b:I aW) (w:aL) (t:Le H w) (m:Sl dL 4 H a c b) : cr aB 51 #[bU #[st name,aC a b.length c]] w λe i=>e = ax (an am<|ee name b)/\Ext w i:=by
 have N:=m.cap;have P:=m.max;refine enter func51 O 34 O O ?_;refine CE (Vs:=[H]) (Ws.init (by simp [t]))<|ai ?_;refine WL.box Y O O λu=>?_;refine ar O<|ag<|Cs<|ai<|V0 (Yf Ci O)<|V0 (Yd 0 O O O ah)<|V0 (Yn x' O)<|V0 (ek O O)<|ag ?_;refine Cc O (λn=>?_)<|λn=>?_
 ·have k:16<b.length:=by simp at n;omega
  refine ai<|ar O<|ag<|bq<|Er ?_;refine R1 O O λi f=>?_;exact ⟨by rw [ee,aU k],f.fr⟩
 have k:¬16<b.length:=by simp at n;omega
 refine bO<|ai<|ar O<|LW (λ_ h=>h.bJ 9 1)<|ag<|Cs<|ai<|V0 (Yf Ci O)<|V0 (Yd 1 O O O ah)<|V0 (Yn x' O)<|ad O ?_;refine ag<|Cb ?_;refine dZ (ι:=Z×az a0×Z) (λg=>[(13,an am (g.1:ab)),(3,aC g.2.1 ((b.take g.1).map (·.name)).length g.2.2)]) [(1,_),(11,_),(12,_)] (λg=>Ws w [] [cO 9 1 fV g.2.1 g.2.2 ((b.take g.1).map (·.name)),aJ u<|aM (aT.agg #[st name,aC a b.length c]).cells 42 (0,0)] [H]) (λg=>g.1<=b.length/\∀j x,j<g.1->b[j]? = aa x->o3 x=ac) (λg=>b.length-g.1) (0,ak,0) ⟨de _,aG⟩ aR ?_;intro g ⟨hi,o⟩;refine ai<|V0 (cP O O)<|ag<|Cs ?_;refine Cc O (λp=>?_)<|λp=>?_
 ·have v:g.1<b.length:=by simpa using p
  obtain ⟨x,l⟩:=dO v;obtain ⟨z,A,B,q⟩:=m.b7 g.1 x l;have q:ct H z (A+g.1*4) x.cells:=q;have C:(b.take<|g.1+1).map (·.name)=(b.take g.1).map (·.name)++[x.name]:=by rw [hP,l];simp
  have hL:((b.take g.1).map (·.name)).length=g.1:=by simp;omega
  refine bO<|Cs<|Cb<|ai<|V0 (Yo x' O O B aj)<|V0 (dG 0 oI O O O<|q) ?_;refine Al Y O nt λQ=>?_;refine aq 0 Y O O O nR O O O<|ag<|Cs<|ai<|V0 (dv 0 O O oI O)<|Lp Y O bf O (λw f=>abd x w)<|V0 (hV O)<|ag ?_;refine Cc O (λr=>?_)<|λr=>?_;·have D:=UK l (by simpa using r);refine ai<|ar O<|ag<|bq<|Er<|cZ<|Er<|Er<|cZ<|Er ?_;refine R1 O O λi f=>?_;exact ⟨by rw [ee,ao k,D];rfl,f.fr⟩
  have E:o3 x=ac:=by simpa using r
  refine bO<|Cr<|ad O<|V0 (Yf x9 O)<|V0 (Yd 0 O O O ah) ?_;refine Lb Y O dI O O O O λR=>?_;refine dK 0 (aM (fV x.name).toArray 9 (0,0)) O O ?_;refine LA x.name 2 0 Y O dI O O O O O O aj aj λF G=>?_;refine ar O<|Ln<|Eb<|Et<|Cr<|V0 (Yi O O O aj)<|ad O<|Ln ?_;rw [<-C];exact cU ((g.1+1,F,G):Z×az a0×Z) (by first|omega|(dsimp only;omega)) ⟨by first|omega|(dsimp only;omega),λj y J d=>by
   rcases dd.1 J with h | h;·exact o j y h d
   ·subst h;rw [l] at d;injection d with d;subst d;exact E⟩<|λ_ h=>Wd 2 h
 have K:g.1=b.length:=by simp at p;omega
 rw [K,gJ];refine Ce<|Ex<|Ex<|dy<|Et<|Cs<|Cs ?_;refine WC.cK (rd:=rdStr) 0 O pG fp λL M=>?_;refine Cr<|ad O ?_;refine Lp Y O bf O (λw f=>by have:=JT L g.2.1 g.2.2 (b.map (·.name)) w f.V M;exact this) ?_;refine ad O ?_;apply Lo 4 O O O O Y O O O O O;·intro S;refine Vg (Yf JS O)<|Vg (Yd 0 O O O ah)<|Lp (.g O O O) O bf O (λw f=>rG _ w)<|Vg (hV O) ?_;exact Gt 4 O O O
 refine ag ?_;refine Cc O (λs=>?_)<|λs=>?_;·refine ai<|ar O<|ag<|bq<|Er ?_;refine R1 O O λi f=>?_;have d:=MJ λj y d=>o j y (by have:=(c_.1 d).1;omega) d;exact ⟨by rw [ee,ao k,d,s];rfl,f.fr⟩
 refine bO<|ai<|ar O<|ag<|bq ?_;refine R1 O O λi f=>?_;have d:=MJ λj y d=>o j y (by have:=(c_.1 d).1;omega) d;exact ⟨by rw [ee,ao k,d,s];rfl,f.fr⟩
def JU (h:hI a8=0):mV a8:=BO<|BR.1 h
def abf (h:E4 fI):0<=kP fI/\kP fI<=32:=by
 unfold kP;have a:=h.n3;split;·omega
 ·split;·rename_i b;have:=a b;omega
  ·omega
def RC:∀{l:I eQ},(∀d ∈ l,(jZ d).cy=0)->0<=hA l/\hA l<=32*(l.length:ab)| [],_=>by simp [hA]| d::l,h=>by have b:=abf<|we<|h d aG;have c:=RC (l:=l) λx a=>h x<|mI _ a;simp only [hA,eL];omega
def RD (a:mV a8) (i:Z):0<=hA (a8.decls.take i)/\hA (a8.decls.take i)<=320:=by
 have h:=RC (l:=a8.decls.take i) λd b=>a.decls d<|pR b;have c:=a.gu.2.1;have e:((a8.decls.take i).length:ab)<=10:=by rw [lr];omega
 omega
def abg (h:fI.kind=1):aW.cells (pL aP fI)=[an am fI.kind,an am fI.n,an am 0,st fI.nm]:=by rw [pL,aU h];rfl
def RE (h:¬fI.kind=1):aW.cells (pL aP fI)=[an am fI.kind,an am fI.n,an am aP,st fI.nm]:=by rw [pL,ao h];rfl
def abh (h:fI.kind=1):kP fI=0:=by rw [kP,ao aj,ao aj]
def abi (h:fI.kind=2):kP fI=1:=by rw [kP,aU h]
def abj (h:fI.kind=3):kP fI=fI.n:=by rw [kP,ao aj,aU h]
def JV:hy aB 48=aa [(0,1),(1,1),(2,1),(3,1)]:=ah
def tY:hW aB 40 48 (bU #[an am 0,an am 0,an am 0,st []]) 4 40:=jD ah
def RF (H:View) (ke ks:Z) (r:mf) (m:cM) (w:aL) (K:Le H w) (a:mg ke ks H r m) (j:mV m) :
   cr aB 56 #[bU (hk m r).toArray] w λe n=>∃r:SP,e = ax (cN #[aC r.1 (gW m).length r.2,an am (od m)])/\Ext w n/\Sl dL 4 (nv w n) r.1 r.2 (gW m):=by
 have gu:=j.gu;have W:=a.decls.max;have X:=a.decls.cap;have ae:=a.procs.max;have af:=a.procs.cap;refine enter func56 O 67 O O ?_;refine CE (Vs:=[H]) (Ws.init (by simp [K]))<|ai ?_;refine WL.box Y O O λy=>?_;refine ar O<|ar O<|ag<|ai<|ar O<|LW (λ_ h=>h.bJ 48 4)<|ag<|ai<|ar O<|ag<|Cs<|ai ?_;refine V0 (Yf xZ O)<|V0 (Yd 1 O O O ah)<|V0 (Yn u7 O)<|ad O<|ag<|Cb ?_;refine dZ (ι:=Z×az a0×Z) (λg=>[(14,an am (g.1:ab)),(4,aC g.2.1 (k4 (m.decls.take g.1) 0).length g.2.2),(5,an am<|hA<|m.decls.take g.1)]) [(1,_),(2,_),(3,_),(12,_),(13,_)] (λg=>Ws w [] [cO 48 4 aW.cells g.2.1 g.2.2<|k4 (m.decls.take g.1) 0,aJ y<|aM (hk m r).toArray 27 (0,0)] [H]) (λg=>g.1<=m.decls.length) (λg=>m.decls.length-g.1) (0,ak,0) (de _) aR ?_;intro g hi;refine ai<|V0 (cP O O)<|ag<|Cs ?_;refine Cc O (λk=>?_)<|λk=>?_
 ·have o:g.1<m.decls.length:=by simpa using k
  obtain ⟨d,q⟩:=dO o;obtain ⟨L,M,N,s⟩:=a.decls.b7 g.1 d q;have s:ct H L (M+g.1*4) d.cells:=s;have z:=we<|j.decls d<|dJ q;have A:m.decls.take (g.1+1)=m.decls.take g.1++[d]:=jl q;have b:k4 (m.decls.take<|g.1+1) 0=k4 (m.decls.take g.1) 0++[pL (hA<|m.decls.take g.1) d]:=by rw [A,ML,ab.zero_add]
  have t:hA (m.decls.take<|g.1+1)=hA (m.decls.take g.1)+kP d:=by rw [A,MK]
  have al:=RD j g.1;have ao:=RD j<|g.1+1;have ap:(k4 (m.decls.take g.1) 0).length=g.1:=by rw [D9,lr];omega
  have av:=z.n3;refine bO<|Cs<|Cb<|ai<|V0 (Yo u7 O O N aj)<|V0 (dG 0 p2 O O O<|s) ?_;refine Al Y O wv λaw=>?_;refine aq 0 Y O O O tV O O O<|ag<|ai<|V0 (Yf xU O)<|V0 (Yd 0 O O O ah)<|V0 (Yf sN O)<|V0 (Yd 0 O O O ah)<|V0 (Yf wm O)<|V0 (Yd 0 O O O ah) ?_;refine V0 (Yb nt JV O O) ?_;refine Al Y O nt λaA=>?_;refine aq 0 Y O O O nR O O O<|ag<|Cs<|ai<|V0 (Yf xU O)<|V0 (Yd 1 O O O ah)<|ag<|Cb<|ai<|V0 (bN O O)<|ar O<|ag ?_;refine Cc O (λu=>?_)<|λu=>?_
  ·have B:d.kind=2:=by simpa using u
   have c:=abi B;refine ai<|ad O<|V0 (Yf nQ O)<|aq 0 Y O O O ei O O O<|ag<|Cr<|ad O<|V0 (Dx (hA<|m.decls.take<|g.1+1) O O (by rw [t,c]) aj)<|ar O ?_;refine Ln<|Eb<|Et<|Cr<|ad O<|V0 (dv 0 O O oI O) ?_;refine Lb Y O tY O O O O λC=>?_;refine dK 0 (aM (aW.cells<|pL (hA<|m.decls.take g.1) d).toArray 48 (0,0)) O (by rw [RE aj];rfl) ?_;refine LA (pL (hA<|m.decls.take g.1) d) 3 0 Y O tY O O O O O O aj aj λf i=>?_;refine ar O<|Ln<|Eb<|Et<|Cr<|V0 (Yi O O O aj)<|ad O<|Ln ?_;rw [<-b];exact cU ((g.1+1,f,i):Z×az a0×Z) (by first|omega|(dsimp only;omega)) (by first|omega|(dsimp only;omega))<|λ_ h=>Wd 3 h
  have B:¬d.kind=2:=by simpa using u
  refine ai<|V0 (bN O O)<|ar O<|ag ?_;refine Cc O (λv=>?_)<|λv=>?_
  ·have D:d.kind=3:=by simpa using v
   have c:=abj D;refine ai<|ad O<|V0 (Yf nQ O)<|aq 0 Y O O O ei O O O<|ag<|Cr<|ad O<|V0 (Yf sN O)<|V0 (Yd 1 O O O ah) ?_;refine V0 (Dx (hA<|m.decls.take<|g.1+1) O O (by rw [t,c]) aj)<|ar O<|Ln<|Eb<|Et<|Cr<|ad O<|V0 (dv 0 O O oI O) ?_;refine Lb Y O tY O O O O λC=>?_;refine dK 0 (aM (aW.cells<|pL (hA<|m.decls.take g.1) d).toArray 48 (0,0)) O (by rw [RE aj];rfl) ?_;refine LA (pL (hA<|m.decls.take g.1) d) 3 0 Y O tY O O O O O O aj aj λf i=>?_;refine ar O<|Ln<|Eb<|Et<|Cr<|V0 (Yi O O O aj)<|ad O<|Ln ?_;rw [<-b];exact cU ((g.1+1,f,i):Z×az a0×Z) (by first|omega|(dsimp only;omega)) (by first|omega|(dsimp only;omega))<|λ_ h=>Wd 3 h
  have D:¬d.kind=3:=by simpa using v
  have E:d.kind=1:=by have:=z.kind;omega
  have c:=abh E;have P:hA (m.decls.take<|g.1+1)=hA (m.decls.take g.1):=by rw [t,c];omega
  refine Ck<|Eb<|Et<|Cr<|ad O<|V0 (dv 0 O O oI O) ?_;refine Lb Y O tY O O O O λC=>?_;refine dK 0 (aM (aW.cells<|pL (hA<|m.decls.take g.1) d).toArray 48 (0,0)) O (by rw [abg E];rfl) ?_;refine LA (pL (hA<|m.decls.take g.1) d) 3 0 Y O tY O O O O O O aj aj λf i=>?_;refine ar O<|Ln<|Eb<|Et<|Cr<|V0 (Yi O O O aj)<|ad O<|Ln ?_;rw [<-b];rw [<-P];exact cU ((g.1+1,f,i):Z×az a0×Z) (by first|omega|(dsimp only;omega)) (by first|omega|(dsimp only;omega))<|λ_ h=>Wd 3 h
 have l:g.1=m.decls.length:=by simp at k;omega
 rw [l,gJ];clear l k hi;refine Ce<|Ex<|Ex<|dy<|Et<|Cs<|ai<|V0 (Yf wu O)<|V0 (Yd 1 O O O ah)<|V0 (Yn sR O)<|ad O<|ag<|Cb ?_;rw [show k4 m.decls 0=k4 m.decls 0++m_ (m.procs.take 0) 0 by simp [m_]];refine dZ (ι:=Z×az a0×Z) (λg=>[(49,an am (g.1:ab)),(4,aC g.2.1 (k4 m.decls 0++m_ (m.procs.take g.1) 0).length g.2.2)]) [(2,_),(3,_),(5,_),(47,_),(48,_)] (λg=>Ws w [] [cO 48 4 aW.cells g.2.1 g.2.2<|k4 m.decls 0++m_ (m.procs.take g.1) 0,aJ y<|aM (hk m r).toArray 27 (0,0)] [H]) (λg=>g.1<=m.procs.length) (λg=>m.procs.length-g.1) (0,g.2.1,g.2.2) (de _) aR ?_;clear g;intro g hi;refine ai<|V0 (cP O O)<|ag<|Cs ?_;refine Cc O (λx=>?_)<|λx=>?_
 ·have o:g.1<m.procs.length:=by simpa using x
  obtain ⟨p,F⟩:=dO o;obtain ⟨aD,aE,Q,R⟩:=a.procs.b7 g.1 p F;obtain ⟨aF,aG,aH,aI,aK,aP,S,G,aS,aU⟩:=R;have aX:=G.max;have aY:=G.cap;have T:m.procs.take (g.1+1)=m.procs.take g.1++[p]:=jl F;have b:k4 m.decls 0++m_ (m.procs.take<|g.1+1) 0=(k4 m.decls 0++m_ (m.procs.take g.1) 0)++[qr g.1 p]:=by rw [T,MM,ho,k0,lr,lU aj]
  have aZ:(k4 m.decls 0++m_ (m.procs.take g.1) 0).length<=16:=by rw [e_,D9,Ho,lr];omega
  refine bO<|Cs<|Cb<|ai<|ad O<|V0 (Yo sR O O Q aj)<|V0 (dG 0 x0 O O O<|S) ?_;refine Al Y O ww λa1=>?_;refine ar O<|aq 0 Y O O O x1 O O O<|ag<|Cr<|ad O<|V0 (Yf sS O)<|V0 (Yd 0 O O O ah)<|V0 (Yn e4 O)<|ad O ?_;refine V0 (Yf Jv O)<|V0 (Yd 0 O O O ah)<|V0 (Yb nt JV O O) ?_;refine Lb Y O tY O O O O λa2=>?_;refine dK 0 (aM (aW.cells<|qr g.1 p).toArray 48 (0,0)) O O ?_;refine LA (qr g.1 p) 2 0 Y O tY O O O O O O aj aj λU V=>?_;refine ar O<|Ln<|Eb<|Et<|Cr<|V0 (Yi O O O aj)<|ad O<|Ln ?_;rw [<-b];exact cU ((g.1+1,U,V):Z×az a0×Z) (by first|omega|(dsimp only;omega)) (by first|omega|(dsimp only;omega))<|λ_ h=>Wd 2 h
 have l:g.1=m.procs.length:=by simp at x;omega
 rw [l,gJ];refine Ce<|Ex<|Ex<|dy<|Et<|ai<|ad O<|ad O<|ar O<|ar O<|ag<|bq ?_;refine WE.iA O O O λn J=>?_;exact ⟨(g.2.1,g.2.2),O,J.fr,J.jF 0 O aW.dA fp⟩
def abk (h:a8.procs[ae]? = aa iw):a8.decls.map (·.cz)++(a8.procs.take<|ae+1).map (·.cz)=(a8.decls.map (·.cz)++(a8.procs.take ae).map (·.cz))++[iw.cz]:=by rw [jl h];simp
def abl (h:a8.decls[ae]? = aa fI):(a8.decls.take<|ae+1).map (·.cz)=(a8.decls.take ae).map (·.cz)++[fI.cz]:=by rw [jl h];simp
def RG (h:¬hI a8=0):fk a8=(([],[]),hI a8):=by rw [fk,aU h]
def RH (h:hI a8=0) (a:(gV ((gW a8).map (·.name))||gV a8.aI)=ac):fk a8=(([],[]),6):=by rw [fk,ao (by simp [h]),aU a]
def abm (h:hI a8=0) (a:(gV ((gW a8).map (·.name))||gV a8.aI)=au):fk a8=((a8.nm,k5 (gW a8)<|o4 a8),0):=by rw [fk,ao (by simp [h]),ao (by simp [a])]
def FQ (m:cM) (i:Z):I aW:=k5 ((gW m).take i)<|(o4 m).take i
def abn (m:cM):FQ m (gW m).length=k5 (gW m) (o4 m):=by unfold FQ;rw [gJ,A_,<-D',gJ]
variable {fb:aW}
def abo (a:(gW a8)[ae]? = aa fb) (b:(o4 a8)[ae]? = aa dE):FQ a8 (ae+1)=FQ a8 ae++(if dE=ac then [fb] else []):=UL (by rw [A_,D']) a b
def abp (m:cM) (i:Z):(FQ m i).length<=i:=by have:=Hp ((gW m).take i)<|(o4 m).take i;simp at this;show (k5 _ _).length<=i;omega
structure GF where
 i:Z
 n:SP
 f:SP
def zx:hW aB 132 4 (bV au) 1 1:=jD ah
def vi:zeroOf aB 42=aa (bU #[st [],aC ak 0 0]):=ah
def JX:hy aB 42=aa [(0,1),(1,1)]:=ah
def x_:eP aB 42=aa 2:=ah
def ya:iC aB 42=aa 2:=ah
def v':g1 aB 132=aa 1:=ah
def abq:eP aB 40=aa 1:=ah
def abr (H:View) (ke ks:Z) (r:mf) (m:cM) (w:aL) (t:Le H w) (a:mg ke ks H r m) (u:mV m) :
   cr aB 69 #[bU (hk m r).toArray] w λe f=>∃r:SP,e = ax (aC r.1 (o4 m).length r.2)/\Ext w f/\Sl rdBool 1 (nv w f) r.1 r.2 (o4 m):=by
 have gu:=u.gu;have J:=a.decls.max;have K:=a.decls.cap;have L:=a.procs.max;have M:=a.procs.cap;refine enter func69 O 35 O O ?_;refine CE (Vs:=[H]) (Ws.init (by simp [t]))<|ai ?_;refine WL.box Y O O λn=>?_;refine ar O<|ag<|ai<|ar O<|LW (λ_ h=>h.bJ 4 1)<|ag<|Cs<|ai<|V0 (Yf xZ O)<|V0 (Yd 1 O O O ah)<|V0 (Yn u7 O) ?_;refine ad O<|ag<|Cb ?_;refine dZ (ι:=Z×az a0×Z) (λg=>[(11,an am (g.1:ab)),(3,aC g.2.1 ((m.decls.take g.1).map (·.cz)).length g.2.2)]) [(1,_),(2,_),(9,_),(10,_)] (λg=>Ws w [] [cO 4 1 xm g.2.1 g.2.2 ((m.decls.take g.1).map (·.cz)),aJ n<|aM (hk m r).toArray 27 (0,0)] [H]) (λg=>g.1<=m.decls.length) (λg=>m.decls.length-g.1) (0,ak,0) (de _) aR ?_;intro g hi;refine ai<|V0 (cP O O)<|ag<|Cs ?_;refine Cc O (λb=>?_)<|λb=>?_
 ·have i:g.1<m.decls.length:=by simpa using b
  obtain ⟨d,o⟩:=dO i;obtain ⟨v,x,y,j⟩:=a.decls.b7 g.1 d o;have j:ct H v (x+g.1*4) d.cells:=j;have k:=abl o;have z:((m.decls.take g.1).map (·.cz)).length=g.1:=by simp;omega
  refine bO<|Cs<|Cb<|ai<|V0 (Yo u7 O O y aj)<|V0 (dG 0 p2 O O O<|j) ?_;refine Al Y O wv λN=>?_;refine aq 0 Y O O O tV O O O<|ag<|Cr<|ad O<|V0 (Yf QW O)<|V0 (Yd 0 O O O ah) ?_;refine Lb Y O zx O O O O λP=>?_;refine dK 0 (aM (xm d.cz).toArray 4 (0,0)) O O ?_;refine LA d.cz 2 0 Y O zx O O O O O O aj aj λA B=>?_;refine ar O<|Ln<|Eb<|Et<|Cr<|V0 (Yi O O O aj)<|ad O<|Ln ?_;rw [<-k];exact cU ((g.1+1,A,B):Z×az a0×Z) (by first|omega|(dsimp only;omega)) (by first|omega|(dsimp only;omega))<|λ_ h=>Wd 2 h
 have c:g.1=m.decls.length:=by simp at b;omega
 rw [c,gJ];clear c b hi;refine Ce<|Ex<|Ex<|dy<|Et<|Cs<|ai<|V0 (Yf wu O)<|V0 (Yd 1 O O O ah)<|V0 (Yn sR O)<|ad O<|ag<|Cb ?_;rw [show m.decls.map (·.cz)=m.decls.map (·.cz)++(m.procs.take 0).map (·.cz) by simp];refine dZ (ι:=Z×az a0×Z) (λg=>[(24,an am (g.1:ab)),(3,aC g.2.1 (m.decls.map (·.cz)++(m.procs.take g.1).map (·.cz)).length g.2.2)]) [(2,_),(22,_),(23,_)] (λg=>Ws w [] [cO 4 1 xm g.2.1 g.2.2 (m.decls.map (·.cz)++(m.procs.take g.1).map (·.cz)),aJ n<|aM (hk m r).toArray 27 (0,0)] [H]) (λg=>g.1<=m.procs.length) (λg=>m.procs.length-g.1) (0,g.2.1,g.2.2) (de _) aR ?_;clear g;intro g hi;refine ai<|V0 (cP O O)<|ag<|Cs ?_;refine Cc O (λl=>?_)<|λl=>?_
 ·have i:g.1<m.procs.length:=by simpa using l
  obtain ⟨p,q⟩:=dO i;obtain ⟨Q,R,C,D⟩:=a.procs.b7 g.1 p q;obtain ⟨S,T,U,V,W,X,E,ae,af,al⟩:=D;have k:=abk q;have z:(m.decls.map (·.cz)++(m.procs.take g.1).map (·.cz)).length<=16:=by simp;omega
  refine bO<|Cs<|Cb<|ai<|V0 (Yo sR O O C aj)<|V0 (dG 0 x0 O O O<|E) ?_;refine Al Y O ww λao=>?_;refine aq 0 Y O O O x1 O O O<|ag<|Cr<|ad O<|V0 (Yf QX O)<|V0 (Yd 0 O O O ah) ?_;refine Lb Y O zx O O O O λap=>?_;refine dK 0 (aM (xm p.cz).toArray 4 (0,0)) O O ?_;refine LA p.cz 2 0 Y O zx O O O O O O aj aj λF G=>?_;refine ar O<|Ln<|Eb<|Et<|Cr<|V0 (Yi O O O aj)<|ad O<|Ln ?_;rw [<-k];exact cU ((g.1+1,F,G):Z×az a0×Z) (by first|omega|(dsimp only;omega)) (by first|omega|(dsimp only;omega))<|λ_ h=>Wd 2 h
 have c:g.1=m.procs.length:=by simp at l;omega
 rw [c,gJ];refine Ce<|Ex<|Ex<|dy<|Et<|ai<|ad O<|ar O<|ag<|bq ?_;refine R1 O O λf s=>?_;exact ⟨(g.2.1,g.2.2),O,s.fr,s.jF 0 O Ut fp⟩
def RI (H:View) (ke ks:Z) (r:mf) (m:cM) (w:aL) (K:Le H w) (b:mg ke ks H r m) (aE:wM m<=109951162777) : cr aB 15 #[bU (hk m r).toArray] w λe c=>∃r:SP,e = ax (cN #[bU #[st (fk m).1.1,aC r.1 (fk m).1.2.length r.2],an am (fk m).2])/\Ext w c/\Sl dL 4 (nv w c) r.1 r.2 (fk m).1.2:=by
 refine enter func15 O 60 O O ?_;refine CE (Vs:=[H]) (Ws.init (by simp [K]))<|ai ?_;refine WL.box Y O O λL=>?_;refine Al Y O vi λM=>?_;refine ar O<|ag<|Cs<|ai<|V0 (dv 1 O O cA O)<|Lp Y O bf O (λw a=>Fk H ke ks r m w a.V b aj)<|ar O<|ag<|ai<|ad O<|V0 (g2 O O) ?_;refine ag ?_;refine Cc O (λk=>?_)<|λk=>?_
 ·have d:¬hI m=0:=by simpa using k
  refine ai<|V0 (Yb vi JX O O)<|ad O<|aq 0 Y O O O x_ O O O<|ar O<|ag<|bq<|Er ?_;refine WE.td 0 O O O O ya O λc a=>?_;rw [RG d];exact ⟨(ak,0),O,a.fr,Sl.nil⟩
 have d:hI m=0:=by simpa using k
 have l:=JU d;have gu:=l.gu;have aF:=b.decls.max;have aG:=b.decls.cap;have aH:=b.procs.max;have aK:=b.procs.cap;have il:=A_ m;have pl:=D' m;refine bO<|ai<|V0 (dv 1 O O cA O) ?_;refine Ld Y O bf O (λr:SP=>cN #[aC r.1 (gW m).length r.2,an am (od m)]) (λH r=>Sl dL 4 H r.1 r.2<|gW m) (λw a=>RF H ke ks r m w a.V b l) ?_;intro A aP aR o;refine ad O<|V0 (Yx O O)<|V0 (Yx O O)<|ar O<|ar O<|ag<|ai<|V0 (Yf wr O)<|V0 (Yd 1 O O O ah) ?_;refine V0 (Yb vi JX O O)<|LW (λ_ h=>h.bJ 48 4) ?_;refine Al Y O vi λN=>?_;refine aq 0 Y O O O x_ O O O<|ag<|ai<|ar O<|LW (λ_ h=>h.bJ 9 1)<|ag<|ai<|V0 (dv 4 O O cA O) ?_;refine Ld Y O bf O (λr:SP=>aC r.1 (o4 m).length r.2) (λH r=>Sl rdBool 1 H r.1 r.2<|o4 m) (λw a=>abr H ke ks r m w a.V b l) ?_;intro B aS aX p;have aY:=o.max;have aZ:=o.cap;have a2:=p.max;have a3:=p.cap;refine ar O<|ag<|Cs<|ai<|ad O<|V0 (Yn x' O)<|ad O<|ag<|Cb ?_;refine dZ (ι:=GF) (λg=>[(30,an am (g.i:ab)),(8,aC g.n.1 (((gW m).take g.i).map x8).length g.n.2)]) [(1,_),(2,_),(3,_),(7,_),(9,_),(28,_),(29,_)] (λg=>Ws w [] [aJ N<|aM #[st m.nm,aC g.f.1 (FQ m g.i).length g.f.2] 42 (0,0),cO 9 1 fV g.n.1 g.n.2<|((gW m).take g.i).map x8,cO 48 4 aW.cells g.f.1 g.f.2<|FQ m g.i,aJ M<|aM #[st [],aC ak 0 0] 42 (0,0),aJ L<|aM (hk m r).toArray 27 (0,0)] [B,A,H]) (λg=>g.i<=(gW m).length) (λg=>(gW m).length-g.i) ⟨0,(ak,0),(ak,0)⟩ (de _) (λ_ h=>by exact (((((h.f 4 O).f 4 O).f 4 O).f 3 O).f 4 O:)) ?_;intro g hi;refine ai<|V0 (cP O O)<|ag<|Cs ?_;refine Cc O (λq=>?_)<|λq=>?_
 ·have C:g.i<(gW m).length:=by simpa using q
  obtain ⟨x,s⟩:=dO C;obtain ⟨P,Q,R,t⟩:=o.b7 g.i x s;have t:ct A P (Q+g.i*4) x.cells:=t;obtain ⟨j,D⟩:=dO (by rw [D',<-A_];exact C);obtain ⟨S,T,U,u⟩:=p.b7 g.i j D;have u:ct B S (T+g.i*1)<|xm j:=u;have E:((gW m).take<|g.i+1).map x8=((gW m).take g.i).map x8++[x.name]:=by rw [hP,s];simp [x8]
  have hL:(((gW m).take g.i).map x8).length=g.i:=by simp;omega
  have F:=abo s D;have a4:=abp m g.i;refine bO<|Cs<|Cb<|ai<|ad O<|V0 (Yo x' O O R aj)<|V0 (dG 1 oI O O O<|t) ?_;refine Al Y O nt λa5=>?_;refine ar O<|aq 0 Y O O O nR O O O<|ag<|ai<|ad O<|V0 (Yf x9 O)<|V0 (Yd 0 O O O ah) ?_;refine Lb Y O dI O O O O λa6=>?_;refine dK 0 (aM (fV x.name).toArray 9 (0,0)) O O ?_;refine LA (x.name:I a7) 3 0 Y O dI O O O O O O aj aj λG J=>?_;refine ar O<|ag<|ai<|ad O<|ad O<|V0 (Yo v' O O U aj)<|V0 (dQ 0 ah O O<|u 0 _ O)<|ag ?_;refine Cc O (λv=>?_)<|λv=>?_
  ·have W:j=ac:=by simpa using v
   have X:FQ m (g.i+1)=FQ m g.i++[x]:=by rw [F,aU W]
   refine Cr<|V0 (Yf Ci O)<|V0 (Yd 2 O O O ah)<|V0 (dv 1 O O oI O) ?_;refine Lb Y O tY O O O O λa8=>?_;refine dK 0 (aM (aW.cells x).toArray 48 (0,0)) O O ?_;refine LA x 5 0 Y O tY O O O O O O aj aj λae af=>?_;refine V0 (Yf Ci O)<|aq 3 Y O O O abq O O O<|Ln<|Eb<|Et<|Cr<|V0 (Yi O O O aj)<|ad O<|Ln ?_;rw [<-E];rw [<-X];exact cU (⟨g.i+1,(G,J),(ae,af)⟩:GF) (by first|omega|(dsimp only;omega)) (by first|omega|(dsimp only;omega))<|λ_ h=>Wd 3 h
  have al:¬j=ac:=by simpa using v
  have ap:FQ m (g.i+1)=FQ m g.i:=by rw [F,ao al,qd]
  refine Ck<|Eb<|Et<|Cr<|V0 (Yi O O O aj)<|ad O<|Ln ?_;rw [<-E];rw [<-ap];exact cU (⟨g.i+1,(G,J),g.f⟩:GF) (by first|omega|(dsimp only;omega)) (by first|omega|(dsimp only;omega))<|λ_ h=>Wd 2 h
 have av:g.i=(gW m).length:=by simp at q;omega
 have aw:=abn m;refine Ce<|Ex<|Ex<|dy<|Et<|Cs<|Cs ?_;rw [av,gJ];refine WC.cK (rd:=rdStr) 1 O pG fp λaA aD=>?_;refine Cr<|ad O ?_;refine Lp Y O bf O (λw a=>by have:=JT aA g.n.1 g.n.2 ((gW m).map x8) w a.V aD;exact this) ?_;refine ad O ?_;apply Lo 3 O O O O Y O O O O O;·intro a9;refine Vg (Yf rJ O)<|Vg (Yd 3 O O O ah)<|Lp (.g O O O) O bf O (λw a=>JT H r.a1 r.c1 m.aI w a.V b.aI) ?_;exact Gt 3 O O O
 refine ag ?_;refine Cc O (λy=>?_)<|λy=>?_;·have z:(gV ((gW m).map (·.name))||gV m.aI)=ac:=y;refine ai<|V0 (Yb vi JX O O)<|aq 2 Y O O O x_ O O O<|ar O<|ag<|bq<|Er ?_;refine WE.td 2 O O O O ya O λc a=>?_;rw [RH d z];exact ⟨(ak,0),O,a.fr,Sl.nil⟩
 have z:(gV ((gW m).map (·.name))||gV m.aI)=au:=y;refine bO<|ai<|V0 (dv 0 O O ya O)<|aq 2 Y O O O x_ O O O<|ar O<|ag<|bq ?_;refine WE.td 2 O O O O ya O λc a=>?_;rw [abm d z];rw [aw] at a ⊢;exact ⟨g.f,O,a.fr,a.jF 1 O aW.dA fp⟩
structure GI where
 i:Z
 s:SP
 p:SP
def dj:I a7:=[99,110,116]
variable {jc:I aW}
def abs (h:(jc.map (·.name)).Nodup) (b:jc[ae]? = aa fb):fb.name ∉ (jc.take ae).map (·.name):=by
 intro d;have i:ae<jc.length:=(c_.1 b).1;obtain ⟨j,c⟩:=ls d;rw [gh] at c;obtain ⟨y,a,e⟩:=eD.1 c;have f:j<ae:=by have:=(c_.1 a).1;simp at this;omega
 rw [b8,aU f] at a;have g:(jc.map (·.name))[j]? = (jc.map (·.name))[ae]?:=by rw [gh,gh,a,b];simp [e]
 have:=(s9 (by simpa using (c_.1 a).1) h).1 g;omega
def JY:aB.underlying 122=aa (.map 9 48):=ah
def RJ (H:View) (a:az a0) (c:Z) (l:I aW) (w:aL) (p:Le H w) (d:Sl dL 4 H a c l) (q:(l.map (·.name)).Nodup) : cr aB 57 #[aC a l.length c] w λe f=>∃b:Z,e = ax (.map<|aa b)/\Ext w f/\(nv w f) b=aa (dH st (cf l 0) l.length):=by
 have y:=d.cap;have z:=d.max;refine enter func57 O 19 O O ?_;refine CE (Vs:=[H]) (Ws.init (by simp [p]))<|ai<|ar O<|ag<|ai ?_;refine WL.oX st Y O λm=>?_;refine dK 0 (dH st (cf (l.take 0) 0) (l.take 0).length) O O<|ar O<|ag<|Cs<|ai<|ad O<|V0 (Yn x' O)<|ad O<|ag<|Cb ?_;refine dZ (ι:=Z) (λi=>[(9,an am (i:ab))]) [(2,_),(3,_),(7,_),(8,_)] (λi=>Ws w [] [aJ m<|dH st (cf (l.take i) 0) (l.take i).length] [H]) (λi=>i<=l.length) (λi=>l.length-i) 0 (de _) aR ?_;intro i hi;refine ai<|V0 (cP O O)<|ag<|Cs ?_;refine Cc O (λg=>?_)<|λg=>?_
 ·have r:i<l.length:=by simpa using g
  obtain ⟨x,j⟩:=dO r;obtain ⟨s,t,u,k⟩:=d.b7 i x j;have k:ct H s (t+i*4) x.cells:=k;have n:=UT<|abs q j;refine bO<|Cs<|Cb<|ai<|V0 (Yo x' O O u aj)<|V0 (dG 0 oI O O O<|k) ?_;refine Al Y O nt λA=>?_;refine aq 0 Y O O O nR O O O<|ag<|Cr<|ad O<|V0 (Yf x9 O)<|V0 (Yd 0 O O O ah)<|V0 (dv 0 O O oI O) ?_;refine WL.ql 1 i2 Y JY ah O O O O ?_;refine Ln<|Eb<|Et<|Cr<|V0 (Yi O O O aj)<|ad O<|Ln ?_;refine WE.pI 1 (dH st (cf (l.take<|i+1) 0) (l.take<|i+1).length) O (by rw [jl j,<-n.1,<-n.2];rfl) ?_;exact cU (i+1) aj aj<|λ_ h=>Wd 1 h
 have v:i=l.length:=by simp at g;omega
 rw [v,gJ];refine Ce<|Ex<|Ex<|dy<|Et<|ai<|ad O<|ar O<|ag<|bq ?_;refine R1 O O λf o=>?_;exact ⟨m,O,o.fr,o.ME 0 O⟩
def jz (e:ab):I nW:=[⟨.iface 116<|bU #[an am e],au,au⟩]
def JZ (H:View) (b o:Z) (l:I aW):Prop:=∃a:Z,vc H b o=aa (.map<|aa a)/\H a=aa (dH st (cf l 0) l.length)
structure lH (H:View) (sb:Z) (σ:h6):Prop where
 at_:∃(ob ub:Z) (fa:az a0) (fc lb:Z),(vc H sb 0=aa (.map<|aa ob)/\vc H sb 1=aa (.map<|aa ub)/\vc H sb 2=aa (aC fa σ.vM.length fc)/\vc H sb 3=aa (.map<|aa lb))/\H ob=aa (dH st (cf σ.own 0) σ.own.length)/\H ub=aa (dH st (i3 σ.aI 0) σ.aI.length)/\Sl JZ 1 H fa fc σ.vM/\H lb=aa (dH st (i3 σ.a6 0) σ.a6.length)
 nd:σ.aI.Nodup
 len:σ.aI.length=σ.vM.length
 gu:σ.aI.length<=3/\σ.a6.length<=7
def abt:aW:=⟨0,0,0,[]⟩
def oJ (nm:I a7) (l:I<|I a7):ab:=match idxOf nm l 0 with| aa k=>((k+1:Z):ab)| ak=>0
def J0 (nm:I a7) (l:I<|I a7):hj nm (i3 l 0) (an am 0) = an am (oJ nm l):=MX nm l
def J1 {nm:I a7} {l:I<|I a7} (h:0<oJ nm l):∃k:Z,idxOf nm l 0=aa k/\oJ nm l=((k+1:Z):ab)/\k<l.length:=by unfold oJ at h ⊢;cases a:idxOf nm l 0 with| none=>rw [a] at h;exact absurd h a'| some k=>exact ⟨k,rfl,rfl,by have:=(sd a).2;exact (c_.1 this).1⟩
def J2 {nm:I a7} {l:I<|I a7} (h:¬0<oJ nm l):idxOf nm l 0=ak:=by unfold oJ at h;cases a:idxOf nm l 0 with| none=>rfl| some k=>rw [a] at h;exact absurd (by simp only;omega) h
def z9 (nm:I a7) (l:I aW):aW:=(iQ nm l).getD abt
def Rj (nm:I a7) (l:I aW):hj nm (cf l 0) (bU #[an am 0,an am 0,an am 0,st []]) = bU (z9 nm l).cells.toArray:=by rw [(MW nm l _).1];unfold z9;cases iQ nm l<;>rfl
def RO (nm:I a7) (l:I aW):qj nm (cf l 0)=(iQ nm l).isSome:=(MW nm l<|bV au).2
def RP (h:(iQ be jc).isSome=ac):iQ be jc=aa (z9 be jc):=by unfold z9;cases a:iQ be jc with| none=>rw [a] at h;cases h| some x=>rfl
def RQ (h:(iQ be jc).isSome=au):iQ be jc=ak:=by cases a:iQ be jc with| none=>rfl| some x=>rw [a] at h;cases h
variable {Fs:h6}
def abu (h:idxOf be Fs.a6 0=aa ae):hl Fs [] be=aa (-1,Ht ae):=by rw [hl,aU rfl,h]
def BV (h:idxOf be Fs.a6 0=ak):hl Fs [] be=(iQ be Fs.own).map λx=>(0,x):=by rw [hl,aU rfl,h]
variable {eu:I a7}
def RR (h:¬be=[]) (a:Fs.aI.Nodup) (b:Fs.aI.length=Fs.vM.length)   (c:idxOf be Fs.aI 0=aa ae) (d:Fs.vM[ae]? = aa jc):hl Fs be eu=(iQ eu jc).map λx=>(((ae+1:Z):ab),x):=by rw [hl,ao h,M0 a b,c];simp [d]
def abv (h:¬be=[]) (a:idxOf be Fs.aI 0=ak):hl Fs be eu=ak:=by rw [hl,ao h,HD<|tq.1 a]
def J3:∀{us:I<|I a7} {fs:I<|I aW} {s:Z} {m:ab} {x:aW},mj be eu us fs s=aa (m,x)->0<=m
 | [],_,_,_,_,h=>by simp [mj] at h| u::us,[],_,_,_,h=>by simp [mj] at h
 | u::us,f::fs,s,m,x,h=>by
  rw [mj] at h;split at h
  ·split at h;·injection h with h;injection h with a b;omega
   ·exact J3 h
  ·exact J3 h
def tZ (h:hl Fs be eu=aa (aP,fb)):aP = -1\/0<=aP:=by
 unfold hl at h;split at h
 ·split at h;·injection h with h;injection h with a c;exact bA a.symm
  ·cases b:iQ eu Fs.own with| none=>rw [b] at h;cases h| some y=>rw [b] at h;injection h with h;injection h with a c;right;omega
 ·exact bl<|J3 h
def jA (a:h6) (mod nm:I a7) (kind args:ab):ab:=match hl a mod nm with| ak=>5| aa (m,it)=>if ¬(0<=m/\it.kind=kind) then 7 else if kind=4/\¬it.n=args then 8 else 0
variable {cp:ab}
def Cj (h:hl Fs be eu=ak):jA Fs be eu aP cp=5:=by unfold jA;rw [h]
def vk {kind args m:ab}  (h:hl Fs be eu=aa (m,fb)):jA Fs be eu kind args=if ¬(0<=m/\fb.kind=kind) then 7 else if kind=4/\¬fb.n=args then 8 else 0:=by unfold jA;rw [h]
def J4 (g:View) (h:Z) (b:h6) (k:Z):Prop:=∀(f:View) (l:I cu) (a:az a0) (c:Z) (w:aL),Le g w->Le f w->Sl (jI k) 5 f a c l->gF l<=109951162777-> cr aB 224 #[b0 (aa ⟨h,0,ak⟩),aC a l.length c] w λe d=>(∃r:SP,e = ax (aC r.1 (iR b l).length r.2)/\Ext w d/\ce b l=0/\Sl (kQ<|k+1) 5 (nv w d) r.1 r.2 (iR b l))\/(∃_:dT,e = .panicked (jz<|ce b l)/\Ext w d/\ce b l≠0)
def abw:hy aB 116=aa [(0,1)]:=ah
def Fy:zeroOf aB 116=aa (bU #[an am 0]):=ah
def abx:aB.concrete 116=ac:=ah
def rs:cX aB 127 3=aa 3:=ah
def aby:cX aB 127 0=aa 0:=ah
def RS:cX aB 127 1=aa 1:=ah
def J5:cX aB 127 2=aa 2:=ah
def abz:g1 aB 125=aa 1:=ah
def vl (b:aQ) (n:ab) (w:aL) : cr aB 58 #[bV b,an am n] w λe a=>(∃_:dT,e = ax (cN #[])/\Ext w a/\b=ac)\/(∃_:dT,e = .panicked (jz n)/\Ext w a/\b=au):=by
 refine enter func58 O 9 O O ?_;refine CE (Vs:=[]) (Ws.init aG)<|ai<|ad O<|V0 (hV O)<|ag ?_;refine Cc O (λc=>?_)<|λc=>?_;·refine Cr<|ad O<|V0 (Yb Fy abw O O)<|V0 (qW abx O) ?_;refine WL.panic Y O ?_;refine b3 λa d=>?_;exact bl ⟨(),O,d.fr,by simpa using c⟩
 refine Ck ?_;refine E0 O λa d=>?_;exact bA ⟨(),O,d.fr,by simpa using c⟩
def J6 (n:View) (t:Z) (b:h6) (w:aL) (x:Le n w) (y:lH n t b) (mod nm:I a7) : cr aB 222 #[b0 (aa ⟨t,0,ak⟩),st mod,st nm] w λe c=>(∃i:ab×aW,e = ax (cN #[an am i.1,bU i.2.cells.toArray])/\Ext w c/\hl b mod nm=aa i)\/(∃_:dT,e = .panicked (jz 5)/\Ext w c/\hl b mod nm=ak):=by
 obtain ⟨⟨P,Q,fa,fc,lb,⟨z,A,B,C⟩,D,E,o,F⟩,u,v,gu⟩:=y;refine enter func222 O 65 O O ?_;refine CE (Vs:=[n]) (Ws.init (by simp [x]))<|ai<|ar O ?_;refine Al Y O nt λR=>?_;refine ag<|Cs<|ai<|ad O<|V0 (AI O O)<|ag ?_;refine Cc O (λp=>?_)<|λp=>?_
 ·obtain rfl:mod=[]:=by simpa using p
  refine Cs<|ai<|ad O<|V0 (bP O)<|V0 (Yf rs O)<|V0 (dQ 0 ah O O<|C)<|ad O<|V0 (DY 0 O i2 i0 ah cw O O<|F) ?_;rw [J0];refine ar O<|ag<|ai<|ad O<|V0 (ek O O)<|ag ?_;refine Cc O (λq=>?_)<|λq=>?_;·obtain ⟨k,g,m,G⟩:=J1 (nm:=nm) (l:=b.a6) (by simpa using q);refine ai<|ad O<|V0 (m7 (k:ab) O O (by rw [m];omega) (by omega))<|V0 (Yb nt JV O O)<|ar O<|aq 0 Y O O O nR O O O<|ag<|bq<|Er<|Er ?_;refine WE.gt (hG O (ja O)<|e1 0 O O oI O) λc a=>?_;exact bA ⟨(-1,Ht k),O,a.fr,abu g⟩
  have g:=J2 (nm:=nm) (l:=b.a6) (by simpa using q);refine bO<|ai<|ad O<|V0 (bP O)<|V0 (Yf aby O)<|V0 (dQ 0 ah O O<|z)<|ad O<|V0 (MD 0 O i2 JY ah nt O O<|D) ?_;rw [Rj,RO];refine ad O<|V0 (Yx O O)<|V0 (Yx O O) ?_;refine Al Y O nt λS=>?_;refine aq 0 Y O O O nR O O O<|ar O<|ag<|ai<|ad O ?_;refine WL.dD (ι:=dT) (κ:=dT) Y O bf O (λ_=>cN #[]) (λ_=>(iQ nm b.own).isSome=ac) (λ_=>jz 5) (λ_=>(iQ nm b.own).isSome=au) (λw a=>vl _ _ w) ?_ ?_;·intro _ j;refine Ep<|Ep ?_;refine b3 λc a=>?_;exact bl ⟨(),O,a.fr,by rw [BV g,RQ j];rfl⟩
  intro _ H;refine ag<|Cs ?_;refine WC.m6 1 [(0,ac),(1,ac),(2,au)] mixed (by kernel_rfl) (λ_ _ _ d _ h=>by cases d<;>exact h) ?_;refine D0 O (Wp 1) (dv 0 O O oI O)<|D0 O (Wp 1) (Ya O) ?_;refine De O (Wp 1) ?_;refine aq 1 Y O O O nR O O O<|Ln<|Ed ?_;refine WD.nil (Wp 1) ?_;refine Et<|bq<|Er ?_;refine WE.gt (hG O (ja O)<|e1 1 O O oI O) λc a=>?_;exact bA ⟨(0,z9 nm b.own),O,a.fr,by rw [BV g,RP H];rfl⟩
 have r:¬mod=[]:=by simpa using p
 refine bO<|ai<|ad O<|V0 (bP O)<|V0 (Yf RS O)<|V0 (dQ 0 ah O O<|A)<|ad O<|V0 (DY 0 O i2 i0 ah cw O O<|E) ?_;rw [J0];refine ar O<|ag<|ai<|ad O<|V0 (ek O O) ?_;refine WL.dD (ι:=dT) (κ:=dT) Y O bf O (λ_=>cN #[]) (λ_=>decide (0<oJ mod b.aI)=ac) (λ_=>jz 5) (λ_=>decide (0<oJ mod b.aI)=au) (λw a=>vl _ _ w) ?_ ?_;·intro _ j;refine Ep ?_;refine b3 λc a=>?_;exact bl ⟨(),O,a.fr,abv r<|J2 (by simpa using j)⟩
 intro _ J;obtain ⟨k,g,m,G⟩:=J1 (nm:=mod) (l:=b.aI) (by simpa using J);obtain ⟨f,s⟩:∃f,b.vM[k]? = aa f:=⟨_,dh (by omega)⟩;obtain ⟨T,U,K,V,L,M⟩:=o.b7 k f s;have W:=o.cap;have X:=o.max;refine ag<|ai<|ad O<|V0 (bP O)<|V0 (Yf J5 O)<|V0 (dQ 0 ah O O<|B)<|ad O<|V0 (m7 (k:ab) O O (by rw [m];omega) (by omega))<|V0 (Yo abz O O K (by omega)) ?_;refine V0 (dQ 0 ah O O<|L)<|ad O<|V0 (MD 0 O i2 JY ah nt O O<|M) ?_;rw [Rj,RO];refine ad O<|V0 (Yx O O)<|V0 (Yx O O) ?_;refine Al Y O nt λae=>?_;refine aq 0 Y O O O nR O O O<|ar O<|ag<|ai<|ad O ?_;refine WL.dD (ι:=dT) (κ:=dT) Y O bf O (λ_=>cN #[]) (λ_=>(iQ nm f).isSome=ac) (λ_=>jz 5) (λ_=>(iQ nm f).isSome=au) (λw a=>vl _ _ w) ?_ ?_;·intro _ j;refine Ep ?_;refine b3 λc a=>?_;exact bl ⟨(),O,a.fr,by rw [RR r u v g s,RQ j];rfl⟩
 intro _ N;refine ag<|Cs ?_;refine WC.m6 1 [(0,ac),(1,ac),(2,ac),(3,au)] mixed (by kernel_rfl) (λ_ _ _ d _ h=>by cases d<;>exact h) ?_;refine D0 O (Wp 1) (Ym O)<|D0 O (Wp 1) (dv 0 O O oI O)<|D0 O (Wp 1) (Ya O) ?_;refine De O (Wp 1) ?_;refine aq 1 Y O O O nR O O O<|Ln<|Ed ?_;refine WD.nil (Wp 1) ?_;refine Et<|bq ?_;refine WE.gt (hG O (ja O)<|e1 1 O O oI O) λc a=>?_;rw [m] at *;exact bA ⟨(((k+1:Z):ab),z9 nm f),O,a.fr,by rw [RR r u v g s,RP N];rfl⟩
def abA {n m:ab}   {len:Z} (h:hl Fs be eu=aa (m,fb)):ed Fs 3 n be eu len=if m = -1 then ⟨16,n,0,fb.pl,0⟩ else if fb.kind=1 then ⟨1,fb.n,0,0,0⟩ else if fb.kind=2 then ⟨3,n,m,fb.pl,0⟩ else ⟨3,n,0,0,7⟩:=by unfold ed;rw [aU a',h];simp
def J7 (a:aP=3\/aP=4\/aP=5) (h:hl Fs be eu=ak):ed Fs aP cp be eu ae=⟨aP,cp,0,0,5⟩:=by unfold ed;rw [aU (by unfold fm;simp;omega),h]
def abB (a:¬aP=3) (b:¬aP=4) (c:¬aP=5):ed Fs aP cp be eu ae=⟨aP,cp,0,0,0⟩:=by unfold ed;rw [ao (by unfold fm;simp;omega)]
def abC (h:jA Fs be eu 3 0≠0):(ed Fs 4 aP be eu ae).e=jA Fs be eu 3 0:=by
 cases a:hl Fs be eu with
 | none=>rw [J7 aG a,Cj a]
 | some i=>
  obtain ⟨m,it⟩:=i;have d:=tZ a;rw [vk a] at h ⊢;unfold ed;rw [aU a',a];by_cases b:m = -1;·simp [b]
  ·by_cases c:it.kind=3;·exact absurd (by rw [ao aj,ao aj]) h
   ·simp [b,c]
def abD (a:hl Fs be eu=aa (cp,fb)) (h:jA Fs be eu 3 0=0):ed Fs 4 aP be eu ae=⟨4,fb.n,cp,fb.pl,0⟩:=by
 rw [vk a] at h;have d:=tZ a;have c:0<=cp/\fb.kind=3:=by
  by_cases b:0<=cp/\fb.kind=3;·exact b
  ·rw [aU b] at h;cases h
 unfold ed;rw [aU a',a];simp [c.2,show ¬cp = -1 by omega]
def abE {len:Z} (h:jA Fs be eu 4 (len:ab)≠0):(ed Fs 5 aP be eu len).e=jA Fs be eu 4 (len:ab):=by
 cases a:hl Fs be eu with
 | none=>rw [J7 aG a,Cj a]
 | some i=>
  obtain ⟨m,it⟩:=i;have f:=tZ a;rw [vk a] at h ⊢;unfold ed;rw [aU a',a];by_cases b:m = -1;·simp [b]
  ·by_cases c:it.kind=4
   ·by_cases d:it.n=(len:ab);·exact absurd (by rw [ao aj,ao aj]) h
    ·simp [b,c,d,show 0<=m by omega]
   ·simp [b,c]
def abF {len:Z} (b:hl Fs be eu=aa (cp,fb)) (h:jA Fs be eu 4 (len:ab)=0):ed Fs 5 aP be eu len=⟨5,aP,cp,fb.pl,0⟩:=by
 rw [vk b] at h;have e:=tZ b;have c:0<=cp/\fb.kind=4:=by
  by_cases a:0<=cp/\fb.kind=4;·exact a
  ·rw [aU a] at h;cases h
 have d:fb.n=(len:ab):=by
  rw [ao<|λa=>a c] at h;by_cases a:fb.n=(len:ab);·exact a
  ·rw [aU ⟨rfl,a⟩] at h;cases h
 unfold ed;rw [aU a',b];simp [c.2,d,show ¬cp = -1 by omega]
def J8 (a:aP=1\/aP=2\/aP=3) (h:hl Fs be eu=ak):ew Fs aP be eu ae=⟨aP,0,0,0,5⟩:=by unfold ew;rw [aU (by unfold fm;simp;omega),h]
def abG (a:¬aP=1) (b:¬aP=2) (c:¬aP=3):ew Fs aP be eu ae=⟨aP,0,0,0,0⟩:=by unfold ew;rw [ao (by unfold fm;simp;omega)]
def abH {len:Z} (h:hl Fs be eu=aa (aP,fb)):ew Fs 1 be eu len=if aP = -1\/fb.kind=2 then ⟨1,0,aP,fb.pl,0⟩ else ⟨1,0,0,0,7⟩:=by
 unfold ew;rw [aU a',h];by_cases a:aP = -1\/fb.kind=2;·simp [a]
 ·simp [a,show ¬aP = -1 from λe=>a<|bA e]
def abI (h:jA Fs be eu 3 0≠0):(ew Fs 2 be eu ae).e=jA Fs be eu 3 0:=by
 cases a:hl Fs be eu with
 | none=>rw [J8 aG a,Cj a]
 | some i=>
  obtain ⟨m,it⟩:=i;have d:=tZ a;rw [vk a] at h ⊢;unfold ew;rw [aU a',a];by_cases b:m = -1;·simp [b]
  ·by_cases c:it.kind=3;·exact absurd (by rw [ao aj,ao aj]) h
   ·simp [b,c]
def abJ (a:hl Fs be eu=aa (aP,fb)) (h:jA Fs be eu 3 0=0):ew Fs 2 be eu ae=⟨2,fb.n,aP,fb.pl,0⟩:=by
 rw [vk a] at h;have d:=tZ a;have c:0<=aP/\fb.kind=3:=by
  by_cases b:0<=aP/\fb.kind=3;·exact b
  ·rw [aU b] at h;cases h
 unfold ew;rw [aU a',a];simp [c.2,show ¬aP = -1 by omega]
def abK {len:Z} (h:jA Fs be eu 4 (len:ab)≠0):(ew Fs 3 be eu len).e=jA Fs be eu 4 (len:ab):=by
 cases a:hl Fs be eu with
 | none=>rw [J8 aG a,Cj a]
 | some i=>
  obtain ⟨m,it⟩:=i;have f:=tZ a;rw [vk a] at h ⊢;unfold ew;rw [aU a',a];by_cases b:m = -1;·simp [b]
  ·by_cases c:it.kind=4
   ·by_cases d:it.n=(len:ab);·exact absurd (by rw [ao aj,ao aj]) h
    ·simp [b,c,d,show 0<=m by omega]
   ·simp [b,c]
def abL {len:Z} (b:hl Fs be eu=aa (aP,fb)) (h:jA Fs be eu 4 (len:ab)=0):ew Fs 3 be eu len=⟨3,0,aP,fb.pl,0⟩:=by
 rw [vk b] at h;have e:=tZ b;have c:0<=aP/\fb.kind=4:=by
  by_cases a:0<=aP/\fb.kind=4;·exact a
  ·rw [aU a] at h;cases h
 have d:fb.n=(len:ab):=by
  rw [ao<|λa=>a c] at h;by_cases a:fb.n=(len:ab);·exact a
  ·rw [aU ⟨rfl,a⟩] at h;cases h
 unfold ew;rw [aU a',b];simp [c.2,d,show ¬aP = -1 by omega]
structure GX (X:Type) where
 i:Z
 es:I X
 a:az a0
 c:Z
 J:View
def z':zeroOf aB 53=aa (bU #[an am 0,an am 0,an am 0,an am 0,aC ak 0 0]):=ah
def abM:hy aB 53=aa [(0,1),(1,1),(2,1),(3,1),(4,1)]:=ah
def rY:eP aB 53=aa 5:=ah
def qK:cX aB 53 0=aa 0:=ah
def mH:cX aB 53 3=aa 3:=ah
def oK:cX aB 53 1=aa 1:=ah
def nS:cX aB 53 2=aa 2:=ah
def mX:cX aB 53 4=aa 4:=ah
def RT:eP aB 49=aa 1:=ah
def h3:iC aB 53=aa 5:=ah
def Fz (k:View) (l:Z) (c:h6) (w:aL) (t:Le k w) (u:lH k l c) (mod nm:I a7) (kind args:ab) : cr aB 223 #[b0 (aa ⟨l,0,ak⟩),st mod,st nm,an am kind,an am args] w λe f=>(∃i:ab×aW,e = ax (cN #[an am i.1,bU i.2.cells.toArray])/\Ext w f/\hl c mod nm=aa i/\jA c mod nm kind args=0)\/(∃_:dT,e = .panicked (jz<|jA c mod nm kind args)/\Ext w f/\jA c mod nm kind args≠0):=by
 refine enter func223 O 41 O O ?_;refine CE (Vs:=[k]) (Ws.init (by simp [t]))<|ai<|ar O ?_;refine Al Y O nt λz=>?_;refine ag<|ai<|ad O<|ad O<|ad O ?_;refine WL.dD Y O bf O _ _ _ _ (λw a=>J6 k l c w a.V u mod nm) ?_ ?_;·intro _ g;refine Ep ?_;refine b3 λf a=>?_;rw [Cj g];exact bl ⟨(),O,a.fr,a'⟩
 intro ⟨m,j⟩ s;have b:=vk (kind:=kind) (args:=args) s;refine ad O<|V0 (Yx O O)<|V0 (Yx O O) ?_;refine Al Y O nt λA=>?_;refine ar O<|aq 0 Y O O O nR O O O<|ag<|ai<|ad O<|V0 (hE O O)<|ad O ?_;apply La 4 O O O O Y O O O O O;·intro B;refine Vg (Yf Ch O)<|Vg (Yd 0 O O O ah)<|Vg (Ym O)<|Vg (bN O O) ?_;exact Gt 4 O O O
 refine WL.dD (ι:=dT) (κ:=dT) Y O bf O (λ_=>cN #[]) (λ_=>_=ac) (λ_=>jz _) (λ_=>_=au) (λw a=>vl _ _ w) ?_ ?_
 ·intro _ g;refine Ep ?_;refine b3 λf a=>?_;have o:¬(0<=m/\j.kind=kind):=by rintro ⟨p,q⟩;simp [p,q] at g
  rw [aU o] at b;rw [b];exact bl ⟨(),O,a.fr,a'⟩
 intro _ v;have o:0<=m/\j.kind=kind:=by simpa using v
 rw [ao<|λx=>x o] at b;refine ag<|ai<|ad O<|V0 (g2 O O)<|ad O ?_;apply Lo 4 O O O O Y O O O O O;·intro C;refine Vg (Yf rR O)<|Vg (Yd 0 O O O ah)<|Vg (Ym O)<|Vg (bN O O) ?_;exact Gt 4 O O O
 refine WL.dD (ι:=dT) (κ:=dT) Y O bf O (λ_=>cN #[]) (λ_=>_=ac) (λ_=>jz _) (λ_=>_=au) (λw a=>vl _ _ w) ?_ ?_
 ·intro _ g;refine Ep ?_;refine b3 λf a=>?_;have r:kind=4/\¬j.n=args:=by simpa using g
  rw [aU r] at b;rw [b];exact bl ⟨(),O,a.fr,a'⟩
 intro _ y;refine ag<|Cs ?_;refine WC.m6 1 [(0,ac),(1,ac),(2,ac),(3,au)] mixed ah (λ_ _ _ d _ h=>by cases d<;>exact h) ?_;refine D0 O (Wp 1) (Ym O)<|D0 O (Wp 1) (dv 0 O O oI O)<|D0 O (Wp 1) (Ya O) ?_;refine De O (Wp 1) ?_;refine aq 1 Y O O O nR O O O<|Ln<|Ed ?_;refine WD.nil (Wp 1) ?_;refine Et<|bq ?_;refine WE.gt (hG O (ja O)<|e1 1 O O oI O) λf a=>?_;have r:¬(kind=4/\¬j.n=args):=by rintro ⟨p,q⟩;simp [p,q] at y
 rw [ao r] at b;exact bA ⟨(m,j),O,a.fr,s,b⟩
def abN (p v:View) (t:Z) (b:h6) (k:Z) (x:cu) (a:az a0) (c:Z) (w:aL) (R:Le p w) (S:Le v w) (y:lH p t b) (hN:J4 p t b k) (z:Sl (jI k) 5 v a c x.args) (aR:wE x<=109951162777) : cr aB 268 #[b0 (aa ⟨t,0,ak⟩),bU (xi x a c).toArray] w λe l=>(∃r:SP,e = ax (bU (oe (oh b x) r.1 r.2).toArray)/\Ext w l/\lx b x=0/\h4 (k+1) (nv w l) (oh b x,r))\/(∃_:dT,e = .panicked (jz<|lx b x)/\Ext w l/\lx b x≠0):=by
 have aS:=Mp x;have aX:=z.cap;have aY:=z.max;refine enter func268 O 98 O O ?_;refine CE (Vs:=[v,p]) (Ws.init (by simp [S,R]))<|ai ?_;refine WL.box Y O O λK=>?_;refine Al Y O z' λL=>?_;refine ag<|ai<|V0 (Yf u6 O)<|V0 (Yd 1 O O O ah)<|V0 (Yf B1 O)<|V0 (Yd 1 O O O ah)<|V0 (Yb z' abM O O) ?_;refine Al Y O z' λM=>?_;refine aq 0 Y O O O rY O O O<|ag ?_;refine WC.A0 (ι:=dT) (λ_u=>[(0,b0<|aa ⟨t,0,ak⟩),(3,b0<|aa ⟨K,0,ak⟩),(4,b0<|aa ⟨L,0,ak⟩),(5,b0<|aa ⟨M,0,ak⟩)]) (λ_u=>Ws w [] [aJ M<|aM #[an am (ed b x.op x.n x.mod x.nm x.args.length).op,an am (ed b x.op x.n x.mod x.nm x.args.length).n,an am (ed b x.op x.n x.mod x.nm x.args.length).m,an am (ed b x.op x.n x.mod x.nm x.args.length).pl,aC ak 0 0] 53 (0,0),aJ L<|aM #[an am 0,an am 0,an am 0,an am 0,aC ak 0 0] 53 (0,0),aJ K<|aM (xi x a c).toArray 239 (0,0)] [v,p]) (λ_u=>(ed b x.op x.n x.mod x.nm x.args.length).e=0) ?_ ?_
 ·refine ai<|V0 (Yf u6 O)<|V0 (Yd 2 O O O ah)<|ag<|Cb<|ai<|V0 (bN O O)<|ar O<|ag ?_;refine Cc O (λA=>?_)<|λA=>?_
  ·have q:x.op=3:=by simpa using A
   refine ai<|ad O<|V0 (Yf xV O)<|V0 (Yd 2 O O O ah)<|V0 (Yf xW O)<|V0 (Yd 2 O O O ah) ?_;refine WL.dD (ι:=ab×aW) (κ:=dT) Y O bf O (λi=>cN #[an am i.1,bU i.2.cells.toArray]) (λi=>hl b x.mod x.nm=aa i) (λ_=>jz 5) (λ_=>hl b x.mod x.nm=ak) (λw f=>J6 p t b w f.V y x.mod x.nm) ?_ ?_
   ·intro _ j;refine Ep<|WE.aF<|Ep ?_;refine b3 λl f=>?_;have o:lx b x=5:=by rw [vN,J7 aj j];rfl
    rw [o];exact bl ⟨(),O,f.fr,a'⟩
   intro ⟨B,u⟩ N;have s:=abA (n:=x.n) (len:=x.args.length) N;have aZ:=tZ N;rw [<-q] at s;refine ad O<|V0 (Yx O O)<|V0 (Yx O O) ?_;refine Al Y O nt λa1=>?_;refine ar O<|aq 0 Y O O O nR O O O<|ag<|Cb<|ai<|ad O<|V0 (cP O O)<|ar O<|ag ?_;refine Cc O (λC=>?_)<|λC=>?_
   ·have D:B = -1:=by simp at C;omega
    have g:(ed b x.op x.n x.mod x.nm x.args.length)=⟨16,x.n,0,u.pl,0⟩:=by rw [s,aU D]
    refine WC.m6 1 [(0,ac),(1,ac),(2,ac),(3,au),(4,au),(5,au)] mixed ah (λ_ _ _ d _ h=>by cases d<;>exact h) ?_;refine D0 O (Wp 1) (Yf nQ O)<|D0 O (Wp 1) (Yd 0 O O O ah)<|D0 O (Wp 1) (Yf qK O) ?_;refine De O (Wp 1) ?_;refine aq 1 Y O O O ei O O O<|Ln<|Ed ?_;refine De O (Wp 1) ?_;refine V0 (Yf mH O)<|Ln<|Ed ?_;refine De O (Wp 1) ?_;refine aq 1 Y O O O ei O O O<|Ln<|Ed ?_;refine WD.nil (Wp 1) ?_;refine Eb<|Eb ?_;refine WE.pI 1 (aM #[an am (ed b x.op x.n x.mod x.nm x.args.length).op,an am (ed b x.op x.n x.mod x.nm x.args.length).n,an am (ed b x.op x.n x.mod x.nm x.args.length).m,an am (ed b x.op x.n x.mod x.nm x.args.length).pl,aC ak 0 0] 53 (0,0)) O (by rw [g];rfl) ?_;exact jo () (by rw [g]) (λ_ h=>by have h:=h.av 3 rfl;have h:=h.av 3 rfl;have h:=h.av 3 rfl;have h:=Wt 3 h;exact h)
   have D:¬B = -1:=by simp at C;omega
   rw [ao D] at s;refine ai<|V0 (Yf Ch O)<|V0 (Yd 0 O O O ah)<|V0 (bN O O)<|ar O<|ag ?_;refine Cc O (λE=>?_)<|λE=>?_
   ·have F:u.kind=1:=by simpa using E
    have g:(ed b x.op x.n x.mod x.nm x.args.length)=⟨1,u.n,0,0,0⟩:=by rw [s,aU F]
    refine WC.m6 1 [(0,ac),(1,ac),(2,ac),(3,au),(4,au),(5,au)] mixed ah (λ_ _ _ d _ h=>by cases d<;>exact h) ?_;refine D0 O (Wp 1) (Yf rR O)<|D0 O (Wp 1) (Yd 0 O O O ah)<|D0 O (Wp 1) (Yf qK O) ?_;refine De O (Wp 1) ?_;refine aq 1 Y O O O ei O O O<|Ln<|Ed ?_;refine De O (Wp 1) ?_;refine V0 (Yf oK O)<|Ln<|Ed ?_;refine De O (Wp 1) ?_;refine aq 1 Y O O O ei O O O<|Ln<|Ed ?_;refine WD.nil (Wp 1) ?_;refine Eb<|Eb ?_;refine WE.pI 1 (aM #[an am (ed b x.op x.n x.mod x.nm x.args.length).op,an am (ed b x.op x.n x.mod x.nm x.args.length).n,an am (ed b x.op x.n x.mod x.nm x.args.length).m,an am (ed b x.op x.n x.mod x.nm x.args.length).pl,aC ak 0 0] 53 (0,0)) O (by rw [g];rfl) ?_;exact jo () (by rw [g]) (λ_ h=>by have h:=h.av 3 rfl;have h:=h.av 3 rfl;have h:=h.av 3 rfl;have h:=Wt 3 h;exact h)
   have F:¬u.kind=1:=by simpa using E
   rw [ao F] at s;refine ai<|V0 (Yf Ch O)<|V0 (Yd 0 O O O ah)<|V0 (bN O O) ?_;refine WL.dD (ι:=dT) (κ:=dT) Y O bf O (λ_=>cN #[]) (λ_=>_=ac) (λ_=>jz _) (λ_=>_=au) (λw f=>vl _ _ w) ?_ ?_
   ·intro _ j;refine Ep<|WE.aF<|WE.aF<|Ep ?_;refine b3 λl f=>?_;have G:¬u.kind=2:=by simpa using j
    rw [ao G] at s;have o:lx b x=7:=by rw [vN,s];rfl
    rw [o];exact bl ⟨(),O,f.fr,a'⟩
   intro _ T;have G:u.kind=2:=by simpa using T
   have g:(ed b x.op x.n x.mod x.nm x.args.length)=⟨x.op,x.n,B,u.pl,0⟩:=by rw [s,aU G,q]
   refine ag ?_;refine WC.m6 1 [(0,ac),(1,ac),(2,ac),(3,ac),(4,au),(5,au),(6,au)] mixed ah (λ_ _ _ d _ h=>by cases d<;>exact h) ?_;refine D0 O (Wp 1) (Ym O)<|D0 O (Wp 1) (Yf nQ O)<|D0 O (Wp 1) (Yd 0 O O O ah)<|D0 O (Wp 1) (Yf nS O) ?_;refine De O (Wp 1) ?_;refine aq 1 Y O O O ei O O O<|Ln<|Ed ?_;refine De O (Wp 1) ?_;refine V0 (Yf mH O)<|Ln<|Ed ?_;refine De O (Wp 1) ?_;refine aq 1 Y O O O ei O O O<|Ln<|Ed ?_;refine WD.nil (Wp 1) ?_;refine Eb<|Eb ?_;refine WE.pI 1 (aM #[an am (ed b x.op x.n x.mod x.nm x.args.length).op,an am (ed b x.op x.n x.mod x.nm x.args.length).n,an am (ed b x.op x.n x.mod x.nm x.args.length).m,an am (ed b x.op x.n x.mod x.nm x.args.length).pl,aC ak 0 0] 53 (0,0)) O (by rw [g];rfl) ?_;exact jo () (by rw [g]) (λ_ h=>by have h:=h.av 3 rfl;have h:=h.av 3 rfl;have h:=h.av 3 rfl;have h:=Wt 3 h;exact h)
  have U:¬x.op=3:=by simpa using A
  refine ai<|V0 (bN O O)<|ar O<|ag ?_;refine Cc O (λH=>?_)<|λH=>?_
  ·have q:x.op=4:=by simpa using H
   refine ai<|ad O<|V0 (Yf xV O)<|V0 (Yd 2 O O O ah)<|V0 (Yf xW O)<|V0 (Yd 2 O O O ah) ?_;refine WL.dD (ι:=ab×aW) (κ:=dT) Y O bf O (λi=>cN #[an am i.1,bU i.2.cells.toArray]) (λi=>hl b x.mod x.nm=aa i/\jA b x.mod x.nm 3 0=0) (λ_=>jz<|jA b x.mod x.nm 3 0) (λ_=>jA b x.mod x.nm 3 0≠0) (λw f=>Fz p t b w f.V y x.mod x.nm 3 0) ?_ ?_
   ·intro _ j;refine Ep<|WE.aF<|Ep ?_;refine b3 λl f=>?_;have o:lx b x=jA b x.mod x.nm 3 0:=by rw [vN,q,abC j,tm j]
    rw [o];exact bl ⟨(),O,f.fr,j⟩
   intro ⟨W,P⟩ ⟨X,ae⟩;have g:(ed b x.op x.n x.mod x.nm x.args.length)=⟨x.op,P.n,W,P.pl,0⟩:=by rw [q];exact abD X ae
   refine ad O<|V0 (Yx O O)<|V0 (Yx O O) ?_;refine Al Y O nt λa2=>?_;refine ar O<|aq 0 Y O O O nR O O O<|ag ?_;refine WC.m6 1 [(0,ac),(1,ac),(2,ac),(3,ac),(4,ac),(5,ac),(6,au),(7,au),(8,au),(9,au),(10,au)] mixed ah (λ_ _ _ d _ h=>by cases d<;>exact h) ?_;refine D0 O (Wp 1) (Ym O)<|D0 O (Wp 1) (Yf nQ O)<|D0 O (Wp 1) (Yd 0 O O O ah)<|D0 O (Wp 1) (Yf rR O)<|D0 O (Wp 1) (Yd 0 O O O ah)<|D0 O (Wp 1) (Yf nS O) ?_;refine De O (Wp 1) ?_;refine aq 1 Y O O O ei O O O<|Ln<|Ed ?_;refine De O (Wp 1) ?_;refine V0 (Yf mH O)<|Ln<|Ed ?_;refine De O (Wp 1) ?_;refine aq 1 Y O O O ei O O O<|Ln<|Ed ?_;refine De O (Wp 1) ?_;refine V0 (Yf oK O)<|Ln<|Ed ?_;refine De O (Wp 1) ?_;refine aq 1 Y O O O ei O O O<|Ln<|Ed ?_;refine WD.nil (Wp 1) ?_;refine Eb ?_;refine WE.pI 1 (aM #[an am (ed b x.op x.n x.mod x.nm x.args.length).op,an am (ed b x.op x.n x.mod x.nm x.args.length).n,an am (ed b x.op x.n x.mod x.nm x.args.length).m,an am (ed b x.op x.n x.mod x.nm x.args.length).pl,aC ak 0 0] 53 (0,0)) O (by rw [g];rfl) ?_;exact jo () (by rw [g]) (λ_ h=>by have h:=h.av 3 rfl;have h:=h.av 3 rfl;have h:=h.av 3 rfl;have h:=Wt 3 h;exact h)
  have af:¬x.op=4:=by simpa using H
  refine ai<|V0 (bN O O)<|ar O<|ag ?_;refine Cc O (λJ=>?_)<|λJ=>?_
  ·have q:x.op=5:=by simpa using J
   refine ai<|ad O<|V0 (Yf xV O)<|V0 (Yd 2 O O O ah)<|V0 (Yf xW O)<|V0 (Yd 2 O O O ah)<|V0 (Yf sO O)<|V0 (Yd 2 O O O ah) ?_;refine V0 (Yn ll O) ?_;refine WL.dD (ι:=ab×aW) (κ:=dT) Y O bf O (λi=>cN #[an am i.1,bU i.2.cells.toArray]) (λi=>hl b x.mod x.nm=aa i/\jA b x.mod x.nm 4 (x.args.length:ab)=0) (λ_=>jz<|jA b x.mod x.nm 4 (x.args.length:ab)) (λ_=>jA b x.mod x.nm 4 (x.args.length:ab)≠0) (λw f=>Fz p t b w f.V y x.mod x.nm 4 (x.args.length:ab)) ?_ ?_
   ·intro _ j;refine Ep<|WE.aF<|Ep ?_;refine b3 λl f=>?_;have o:lx b x=jA b x.mod x.nm 4 (x.args.length:ab):=by rw [vN,q,abE j,tm j]
    rw [o];exact bl ⟨(),O,f.fr,j⟩
   intro ⟨al,ap⟩ ⟨aw,aA⟩;have g:(ed b x.op x.n x.mod x.nm x.args.length)=⟨x.op,x.n,al,ap.pl,0⟩:=by rw [q];exact abF aw aA
   refine ad O<|V0 (Yx O O)<|V0 (Yx O O) ?_;refine Al Y O nt λa3=>?_;refine ar O<|aq 0 Y O O O nR O O O<|ag ?_;refine WC.m6 1 [(0,ac),(1,ac),(2,ac),(3,ac),(4,au),(5,au),(6,au)] mixed ah (λ_ _ _ d _ h=>by cases d<;>exact h) ?_;refine D0 O (Wp 1) (Ym O)<|D0 O (Wp 1) (Yf nQ O)<|D0 O (Wp 1) (Yd 0 O O O ah)<|D0 O (Wp 1) (Yf nS O) ?_;refine De O (Wp 1) ?_;refine aq 1 Y O O O ei O O O<|Ln<|Ed ?_;refine De O (Wp 1) ?_;refine V0 (Yf mH O)<|Ln<|Ed ?_;refine De O (Wp 1) ?_;refine aq 1 Y O O O ei O O O<|Ln<|Ed ?_;refine WD.nil (Wp 1) ?_;refine Eb ?_;refine WE.pI 1 (aM #[an am (ed b x.op x.n x.mod x.nm x.args.length).op,an am (ed b x.op x.n x.mod x.nm x.args.length).n,an am (ed b x.op x.n x.mod x.nm x.args.length).m,an am (ed b x.op x.n x.mod x.nm x.args.length).pl,aC ak 0 0] 53 (0,0)) O (by rw [g];rfl) ?_;exact jo () (by rw [g]) (λ_ h=>by have h:=h.av 3 rfl;have h:=h.av 3 rfl;have h:=h.av 3 rfl;have h:=Wt 3 h;exact h)
  have aD:¬x.op=5:=by simpa using J
  have g:(ed b x.op x.n x.mod x.nm x.args.length)=⟨x.op,x.n,0,0,0⟩:=abB U af aD;refine Ck<|Eb ?_;refine WE.pI 0 (aM #[an am (ed b x.op x.n x.mod x.nm x.args.length).op,an am (ed b x.op x.n x.mod x.nm x.args.length).n,an am (ed b x.op x.n x.mod x.nm x.args.length).m,an am (ed b x.op x.n x.mod x.nm x.args.length).pl,aC ak 0 0] 53 (0,0)) O (by rw [g];rfl) ?_;exact jo () (by rw [g]) (λ_ h=>by have h:=h.av 2 rfl;have h:=h.av 2 rfl;have h:=h.av 2 rfl;exact h)
 intro _ Q;refine ai<|ad O<|V0 (Yf sO O)<|V0 (Yd 2 O O O ah) ?_;refine WL.vG (ι:=SP) (κ:=dT) Y O bf O (λr=>aC r.1 (iR b x.args).length r.2) (λaE r=>ce b x.args=0/\Sl (kQ<|k+1) 5 aE r.1 r.2 (iR b x.args)) (λ_=>jz<|ce b x.args) (λ_=>ce b x.args≠0) (λw f=>hN v x.args a c w f.V f.V z aj) ?_ ?_
 ·intro _ j;refine Ep ?_;refine b3 λl f=>?_;have o:lx b x=ce b x.args:=by rw [vN,Q,nD]
  rw [o];exact bl ⟨(),O,f.fr,j⟩
 intro a4 aH aI ⟨aK,aP⟩;refine V0 (Yf mX O)<|aq 0 Y O O O RT O O O<|ag<|ai<|V0 (dv 0 O O h3 O)<|aq 1 Y O O O rY O O O<|ag<|bq ?_;refine WE.gt (j_ O<|e1 1 O O h3 O) λl f=>?_;rw [Hu];exact bA ⟨aH,O,f.fr,by rw [vN,Q,nD,aK],D_ aP<|e7 f aG aI⟩
def abO (g:View) (h:Z) (b:h6) (ke k:Z):Prop:=∀(f:View) (l:I cv) (a:az a0) (c:Z) (w:aL),Le g w->Le f w->Sl (iG ke k) 6 f a c l->fj l<=109951162777-> cr aB 61 #[b0 (aa ⟨h,0,ak⟩),aC a l.length c] w λe d=>(∃r:SP,e = ax (aC r.1 (ga b l).length r.2)/\Ext w d/\gX b l=0/\Sl (jd (ke+1)<|k+1) 7 (nv w d) r.1 r.2 (ga b l))\/(∃_:dT,e = .panicked (jz<|gX b l)/\Ext w d/\gX b l≠0)
variable {bW ju uK:Type}
def Cm {f:bW->ju} {g:uK->ju} {es:I bW} {l:I uK}  {x:uK} {e:bW} (h:es.map f=(l.take ae).map g) (a:l[ae]? = aa x) (b:f e=g x):(es++[e]).map f=(l.take<|ae+1).map g:=by rw [jl a];simp [h,b]
def Cn {f:bW->ju} {g:uK->ju} {es:I bW} {l:I uK}  (h:es.map f=(l.take ae).map g) (hi:ae<=l.length):es.length=ae:=by have:=congrArg dV h;simpa [lU hi] using this
def Co {f:bW->ju} {g:uK->ju} {es:I bW} {l:I uK}  (h:es.map f=(l.take ae).map g) (hi:ae=l.length):es.map f=l.map g:=by subst hi;simpa using h
def RU:hW aB 49 53 (bU #[an am 0,an am 0,an am 0,an am 0,aC ak 0 0]) 5 56:=jD ah
def z_:zeroOf aB 51=aa (bU #[an am 0,an am 0,an am 0,an am 0,aC ak 0 0,aC ak 0 0,aC ak 0 0]):=ah
def abP:hy aB 51=aa [(0,1),(1,1),(2,1),(3,1),(4,1),(5,1),(6,1)]:=ah
def Cp:eP aB 51=aa 7:=ah
def nT:cX aB 51 2=aa 2:=ah
def oL:cX aB 51 3=aa 3:=ah
def wA:cX aB 51 1=aa 1:=ah
def mY:cX aB 51 4=aa 4:=ah
def yc:cX aB 51 5=aa 5:=ah
def J9:eP aB 35=aa 1:=ah
def wB:cX aB 51 6=aa 6:=ah
def wC:iC aB 51=aa 7:=ah
def RV:hW aB 35 51 (bU #[an am 0,an am 0,an am 0,an am 0,aC ak 0 0,aC ak 0 0,aC ak 0 0]) 7 104:=jD ah
def abQ (m d:View) (p:Z) (b:h6) (E:lH m p b) (k:Z) (l:I cu) (a:az a0) (c:Z) (w:aL) (F:Le m w) (G:Le d w) (q:Sl (jI k) 5 d a c l) (aK:gF l<=109951162777) : cr aB 224 #[b0 (aa ⟨p,0,ak⟩),aC a l.length c] w λe n=>(∃r:SP,e = ax (aC r.1 (iR b l).length r.2)/\Ext w n/\ce b l=0/\Sl (kQ<|k+1) 5 (nv w n) r.1 r.2 (iR b l))\/(∃_:dT,e = .panicked (jz<|ce b l)/\Ext w n/\ce b l≠0):=by
 induction k using c8 generalizing d l a c w;rename_i k H;have aP:=q.cap;have aR:=q.max;have aS:=Mt l;refine enter func224 O 22 O O ?_;refine CE (Vs:=[d,m]) (Ws.init (by simp [G,F]))<|ai<|ar O<|ag<|ai<|ar O<|LW (λ_ h=>h.bJ 53 5) ?_;refine WL.v0 ?_;refine ag<|Cs<|ai<|ad O<|V0 (Yn ll O)<|ad O<|ag<|Cb ?_;refine dZ (ι:=GX XN) (λg=>[(10,an am (g.i:ab)),(5,aC g.a g.es.length g.c)]) [(0,_),(4,_),(8,_),(9,_)] (λg=>Ws w [] [cO 53 5 XN.cells g.a g.c g.es] [g.J,d,m]) (λg=>g.i<=l.length/\g.es.map (·.1)=(l.take g.i).map (oh b)/\iS (lx b) (l.take g.i)=0/\(g8 w g.J/\Xs (h4 k) g.J g.es)) (λg=>l.length-g.i) ⟨0,[],ak,0,v0⟩ ⟨de _,O,O,⟨ec w,Xs.nil _⟩⟩ (λ_ h=>by have h:=Ws.dr h (cB:=[v0,d,m]) aG;exact h) ?_;intro g ⟨hi,s,t,⟨x,z⟩⟩;refine ai<|V0 (cP O O)<|ag<|Cs ?_;refine Cc O (λu=>?_)<|λu=>?_
 ·have K:g.i<l.length:=by simpa using u
  obtain ⟨y,o⟩:=dO K;obtain ⟨aU,aW,L,A⟩:=q.b7 g.i y o;obtain ⟨j,rfl⟩:∃j,k=j+1:=by cases k with| zero=>exact A.elim| succ j=>exact ⟨j,rfl⟩
  obtain ⟨M,N,P,Q⟩:=A;have aX:=Cn s hi;refine bO<|Cs<|Cb<|ai<|V0 (Yo ll O O L aj)<|V0 (dG 1 iy O O O<|P) ?_;refine Al Y O pp λaY=>?_;refine aq 0 Y O O O oF O O O<|ag<|Cr<|ad O<|ad O<|V0 (dv 0 O O iy O) ?_;refine WL.vG (ι:=SP) (κ:=dT) Y O bf O (λr=>bU (oe (oh b y) r.1 r.2).toArray) (λS r=>lx b y=0/\h4 (j+1) S (oh b y,r)) (λ_=>jz<|lx b y) (λ_=>lx b y≠0) (λw f=>abN m d p b j y M N w f.V f.V E (λd l a c w T U W X=>H j aj d l a c w T U W X) Q (by have:=Mr o;omega)) ?_ ?_
  ·intro _ B;refine WE.aF<|Ep<|Ep<|WE.aF<|Ep ?_;refine b3 λn f=>?_;have ae:ce b l=lx b y:=by rw [Hy,y_ (lx b) o t B]
   rw [ae];exact bl ⟨(),O,f.fr,B⟩
  intro aZ v af ⟨ah,al⟩;refine WL.jJ λao ap av aw=>?_;refine Lb Y O RU O O O O λa1=>?_;refine dK 0 (aM (XN.cells (oh b y,v)).toArray 53 (0,0)) O O ?_;refine LA ((oh b y,v):XN) 2 0 Y O RU O O O O O O aj aj λaA aD=>?_;refine ar O<|Ln<|Eb<|Et<|Cr<|V0 (Yi O O O aj)<|ad O<|Ln ?_;exact cU (⟨g.i+1,g.es++[(oh b y,v)],aA,aD,ao⟩:GX XN) (by show _-(g.i+1)<_;omega) ⟨by show g.i+1<=_;omega,Cm s o O,by show iS (lx b) (l.take<|g.i+1)=0;rw [Hx (lx b) o,t,nD,ah],⟨aw _ af x,Xs.snoc (R:=h4 _) (λhv h=>h4.mv hv h) z av ap al⟩⟩<|λ_ h=>Wd 2 h
 have C:g.i=l.length:=by simp at u;omega
 refine Ce<|Ex<|Ex<|dy<|Et<|Cs ?_;refine WC.pH (rd:=KF) 0 O (λ_ aE=>by cases aE) XN.dA fp λa2 aH aI=>?_;refine Cr<|ad O<|ar O<|ag<|bq ?_;refine R1 O O λn f=>?_;have aJ:ce b l=0:=by rw [Hy,<-t,C,gJ]
 have D:=Co s C;rw [<-y'] at D;rw [<-D];exact bA ⟨(g.a,g.c),by rw [fK],f.fr,aJ,UN aI (e7 f aG aH) (e7 f aG x) z⟩
def abR (b:View) (d:Z) (e:h6) (f:lH b d e) (k:Z):J4 b d e k:=by intro g l a c w h i j m;exact abQ b g d e f k l a c w h i j m
def abS (p q:View) (s:Z) (b:h6) (ke k:Z) (x:cv) (a:az a0) (c:Z) (a2:az a0) (c2:Z) (a3:az a0) (c3:Z) (w:aL) (R:Le p w) (S:Le q w) (y:lH p s b) (hN:J4 p s b ke) (J:abO p s b ke k) (z:Sl (jI ke) 5 q a c x.args) (T:Sl (iG ke k) 6 q a2 c2 x.body) (U:Sl (iG ke k) 6 q a3 c3 x.other) (a5:wS x<=109951162777) : cr aB 131 #[b0 (aa ⟨s,0,ak⟩),bU (xj x a c a2 c2 a3 c3).toArray] w λe l=>(∃r:vJ,e = ax (bU (qs (oi b x) r).toArray)/\Ext w l/\kR b x=0/\eh (ke+1) (k+1) (nv w l) (oi b x,r))\/(∃_:dT,e = .panicked (jz<|kR b x)/\Ext w l/\kR b x≠0):=by
 have a6:=Mq x;have a8:=z.cap;have a9:=z.max;refine enter func131 O 88 O O ?_;refine CE (Vs:=[q,p]) (Ws.init (by simp [S,R]))<|ai ?_;refine WL.box Y O O λK=>?_;refine Al Y O z_ λL=>?_;refine ag<|ai<|V0 (Yf oG O)<|V0 (Yd 1 O O O ah)<|V0 (Yb z_ abP O O) ?_;refine Al Y O z_ λM=>?_;refine aq 0 Y O O O Cp O O O<|ag<|ai ?_;refine Al Y O nt λa_=>?_;refine ag ?_;refine WC.A0 (ι:=dT) (λ_u=>[(0,b0<|aa ⟨s,0,ak⟩),(3,b0<|aa ⟨K,0,ak⟩),(4,b0<|aa ⟨L,0,ak⟩),(5,b0<|aa ⟨M,0,ak⟩)]) (λ_u=>Ws w [] [aJ M<|aM #[an am (ew b x.op x.mod x.nm x.args.length).op,an am (ew b x.op x.mod x.nm x.args.length).n,an am (ew b x.op x.mod x.nm x.args.length).m,an am (ew b x.op x.mod x.nm x.args.length).pl,aC ak 0 0,aC ak 0 0,aC ak 0 0] 51 (0,0),aJ L<|aM #[an am 0,an am 0,an am 0,an am 0,aC ak 0 0,aC ak 0 0,aC ak 0 0] 51 (0,0),aJ K<|aM (xj x a c a2 c2 a3 c3).toArray 241 (0,0)] [q,p]) (λ_u=>(ew b x.op x.mod x.nm x.args.length).e=0) ?_ ?_
 ·refine ai<|V0 (Yf oG O)<|V0 (Yd 3 O O O ah)<|ag<|Cb<|ai<|V0 (bN O O)<|ar O<|ag ?_;refine Cc O (λA=>?_)<|λA=>?_
  ·have t:x.op=1:=by simpa using A
   refine ai<|ad O<|V0 (Yf wn O)<|V0 (Yd 3 O O O ah)<|V0 (Yf wo O)<|V0 (Yd 3 O O O ah) ?_;refine WL.dD (ι:=ab×aW) (κ:=dT) Y O bf O (λi=>cN #[an am i.1,bU i.2.cells.toArray]) (λi=>hl b x.mod x.nm=aa i) (λ_=>jz 5) (λ_=>hl b x.mod x.nm=ak) (λw f=>J6 p s b w f.V y x.mod x.nm) ?_ ?_
   ·intro _ g;refine Ep<|WE.aF<|Ep ?_;refine b3 λl f=>?_;have j:kR b x=5:=by rw [tn,J8 aj g];rfl
    rw [j];exact bl ⟨(),O,f.fr,a'⟩
   intro ⟨B,C⟩ N;have D:=abH (len:=x.args.length) N;have ba:=tZ N;refine ad O<|V0 (Yx O O)<|V0 (Yx O O)<|V0 (Yf nT O)<|aq 1 Y O O O ei O O O<|aq 0 Y O O O nR O O O<|ag<|ai<|V0 (Yf nT O) ?_;refine V0 (Yd 1 O O O ah)<|V0 (cP O O)<|ad O ?_;apply Lo 3 O O O O Y O O O O O;·intro bb;refine Vg (Yf Ch O)<|Vg (Yd 0 O O O ah)<|Vg (bN O O) ?_;exact Gt 3 O O O
   refine WL.dD (ι:=dT) (κ:=dT) Y O bf O (λ_=>cN #[]) (λ_=>_=ac) (λ_=>jz _) (λ_=>_=au) (λw f=>vl _ _ w) ?_ ?_
   ·intro _ g;refine Ep<|WE.aF<|Ep ?_;refine b3 λl f=>?_;have E:¬(B = -1\/C.kind=2):=by simp at g;omega
    rw [ao E] at D;have j:kR b x=7:=by rw [tn,t,D];rfl
    rw [j];exact bl ⟨(),O,f.fr,a'⟩
   intro _ W;have E:B = -1\/C.kind=2:=by simp at W;omega
   have o:(ew b x.op x.mod x.nm x.args.length)=⟨x.op,0,B,C.pl,0⟩:=by rw [t];rw [D,aU E]
   refine ag<|Cr<|V0 (Yf nQ O)<|V0 (Yd 0 O O O ah)<|V0 (Yf oL O)<|aq 1 Y O O O ei O O O<|Ln<|Eb ?_;refine WE.pI 1 (aM #[an am (ew b x.op x.mod x.nm x.args.length).op,an am (ew b x.op x.mod x.nm x.args.length).n,an am (ew b x.op x.mod x.nm x.args.length).m,an am (ew b x.op x.mod x.nm x.args.length).pl,aC ak 0 0,aC ak 0 0,aC ak 0 0] 51 (0,0)) O (by rw [o];rfl) ?_;exact jo () (by rw [o]) (λ_ h=>by have h:=h.av 3 rfl;have h:=h.av 3 rfl;have h:=h.av 3 rfl;have h:=Wt 3 h;exact h)
  have X:¬x.op=1:=by simpa using A
  refine ai<|V0 (bN O O)<|ar O<|ag ?_;refine Cc O (λF=>?_)<|λF=>?_
  ·have t:x.op=2:=by simpa using F
   refine ai<|ad O<|V0 (Yf wn O)<|V0 (Yd 3 O O O ah)<|V0 (Yf wo O)<|V0 (Yd 3 O O O ah) ?_;refine WL.dD (ι:=ab×aW) (κ:=dT) Y O bf O (λi=>cN #[an am i.1,bU i.2.cells.toArray]) (λi=>hl b x.mod x.nm=aa i/\jA b x.mod x.nm 3 0=0) (λ_=>jz<|jA b x.mod x.nm 3 0) (λ_=>jA b x.mod x.nm 3 0≠0) (λw f=>Fz p s b w f.V y x.mod x.nm 3 0) ?_ ?_
   ·intro _ g;refine Ep<|WE.aF<|Ep ?_;refine b3 λl f=>?_;have j:kR b x=jA b x.mod x.nm 3 0:=by rw [tn,t,abI g,tm g]
    rw [j];exact bl ⟨(),O,f.fr,g⟩
   intro ⟨ae,P⟩ ⟨af,al⟩;have o:(ew b x.op x.mod x.nm x.args.length)=⟨x.op,P.n,ae,P.pl,0⟩:=by rw [t];exact abJ af al
   refine ad O<|V0 (Yx O O)<|V0 (Yx O O)<|V0 (Yf nT O)<|aq 1 Y O O O ei O O O<|aq 0 Y O O O nR O O O<|ag ?_;refine WC.m6 1 [(0,ac),(1,ac),(2,ac),(3,ac),(4,ac),(5,au),(6,au),(7,au)] mixed ah (λ_ _ _ d _ h=>by cases d<;>exact h) ?_;refine D0 O (Wp 1) (Yf nQ O)<|D0 O (Wp 1) (Yd 0 O O O ah)<|D0 O (Wp 1) (Yf rR O)<|D0 O (Wp 1) (Yd 0 O O O ah)<|D0 O (Wp 1) (Yf oL O) ?_;refine De O (Wp 1) ?_;refine aq 1 Y O O O ei O O O<|Ln<|Ed ?_;refine De O (Wp 1) ?_;refine V0 (Yf wA O)<|Ln<|Ed ?_;refine De O (Wp 1) ?_;refine aq 1 Y O O O ei O O O<|Ln<|Ed ?_;refine WD.nil (Wp 1) ?_;refine Eb ?_;refine WE.pI 1 (aM #[an am (ew b x.op x.mod x.nm x.args.length).op,an am (ew b x.op x.mod x.nm x.args.length).n,an am (ew b x.op x.mod x.nm x.args.length).m,an am (ew b x.op x.mod x.nm x.args.length).pl,aC ak 0 0,aC ak 0 0,aC ak 0 0] 51 (0,0)) O (by rw [o];rfl) ?_;exact jo () (by rw [o]) (λ_ h=>by have h:=h.av 3 rfl;have h:=h.av 3 rfl;have h:=h.av 3 rfl;have h:=Wt 3 h;exact h)
  have ap:¬x.op=2:=by simpa using F
  refine ai<|V0 (bN O O)<|ar O<|ag ?_;refine Cc O (λG=>?_)<|λG=>?_
  ·have t:x.op=3:=by simpa using G
   refine ai<|ad O<|V0 (Yf wn O)<|V0 (Yd 3 O O O ah)<|V0 (Yf wo O)<|V0 (Yd 3 O O O ah)<|V0 (Yf mG O)<|V0 (Yd 3 O O O ah) ?_;refine V0 (Yn ll O) ?_;refine WL.dD (ι:=ab×aW) (κ:=dT) Y O bf O (λi=>cN #[an am i.1,bU i.2.cells.toArray]) (λi=>hl b x.mod x.nm=aa i/\jA b x.mod x.nm 4 (x.args.length:ab)=0) (λ_=>jz<|jA b x.mod x.nm 4 (x.args.length:ab)) (λ_=>jA b x.mod x.nm 4 (x.args.length:ab)≠0) (λw f=>Fz p s b w f.V y x.mod x.nm 4 (x.args.length:ab)) ?_ ?_
   ·intro _ g;refine Ep<|WE.aF<|Ep ?_;refine b3 λl f=>?_;have j:kR b x=jA b x.mod x.nm 4 (x.args.length:ab):=by rw [tn,t,abK g,tm g]
    rw [j];exact bl ⟨(),O,f.fr,g⟩
   intro ⟨aw,aA⟩ ⟨aD,aE⟩;have o:(ew b x.op x.mod x.nm x.args.length)=⟨x.op,0,aw,aA.pl,0⟩:=by rw [t];exact abL aD aE
   refine ad O<|V0 (Yx O O)<|V0 (Yx O O)<|V0 (Yf nT O)<|aq 1 Y O O O ei O O O<|aq 0 Y O O O nR O O O<|ag<|Cr<|V0 (Yf nQ O) ?_;refine V0 (Yd 0 O O O ah)<|V0 (Yf oL O)<|aq 1 Y O O O ei O O O<|Ln<|Eb ?_;refine WE.pI 1 (aM #[an am (ew b x.op x.mod x.nm x.args.length).op,an am (ew b x.op x.mod x.nm x.args.length).n,an am (ew b x.op x.mod x.nm x.args.length).m,an am (ew b x.op x.mod x.nm x.args.length).pl,aC ak 0 0,aC ak 0 0,aC ak 0 0] 51 (0,0)) O (by rw [o];rfl) ?_;exact jo () (by rw [o]) (λ_ h=>by have h:=h.av 3 rfl;have h:=h.av 3 rfl;have h:=h.av 3 rfl;have h:=Wt 3 h;exact h)
  have aH:¬x.op=3:=by simpa using G
  have o:(ew b x.op x.mod x.nm x.args.length)=⟨x.op,0,0,0,0⟩:=abG X ap aH;refine Ck<|Eb ?_;refine WE.pI 1 (aM #[an am (ew b x.op x.mod x.nm x.args.length).op,an am (ew b x.op x.mod x.nm x.args.length).n,an am (ew b x.op x.mod x.nm x.args.length).m,an am (ew b x.op x.mod x.nm x.args.length).pl,aC ak 0 0,aC ak 0 0,aC ak 0 0] 51 (0,0)) O (by rw [o];rfl) ?_;exact jo () (by rw [o]) (λ_ h=>by have h:=h.av 3 rfl;have h:=h.av 3 rfl;have h:=h.av 3 rfl;have h:=Wt 3 h;exact h)
 intro _ v;refine ai<|ad O<|V0 (Yf mG O)<|V0 (Yd 2 O O O ah) ?_;refine WL.vG (ι:=SP) (κ:=dT) Y O bf O (λr=>aC r.1 (iR b x.args).length r.2) (λu r=>ce b x.args=0/\Sl (kQ<|ke+1) 5 u r.1 r.2 (iR b x.args)) (λ_=>jz<|ce b x.args) (λ_=>ce b x.args≠0) (λw f=>hN q x.args a c w f.V f.V z aj) ?_ ?_
 ·intro _ g;refine Ep ?_;refine b3 λl f=>?_;have j:kR b x=ce b x.args:=by rw [tn,v,nD,tm g]
  rw [j];exact bl ⟨(),O,f.fr,g⟩
 intro bc aI aK ⟨H,aP⟩;refine V0 (Yf mY O)<|aq 0 Y O O O RT O O O<|ag<|Cs ?_;refine WC.m6 0 [(0,ac),(1,ac),(2,ac),(4,ac),(5,ac),(6,ac),(3,au),(8,ac),(7,au),(9,au),(10,au),(11,au)] mixed ah (λ_ _ _ d _ h=>by cases d<;>exact h) ?_;refine D0 O (Wp 0) (Ym O)<|D0 O (Wp 0) (Yf wq O)<|D0 O (Wp 0) (Yd 1 O O O ah)<|D0 O (Wp 0) (Ym O)<|D0 O (Wp 0) (Yf sP O)<|D0 O (Wp 0) (Yd 1 O O O ah) ?_;refine De O (Wp 0) ?_;refine WL.vG (ι:=SP) (κ:=dT) Y O bf O (λr=>aC r.1 (ga b x.body).length r.2) (λu r=>gX b x.body=0/\Sl (jd (ke+1)<|k+1) 7 u r.1 r.2 (ga b x.body)) (λ_=>jz<|gX b x.body) (λ_=>gX b x.body≠0) (λw f=>J q x.body a2 c2 w f.V f.V T aj) ?_ ?_
 ·intro _ g;refine Ep<|Ep ?_;refine b3 λl f=>?_;have j:kR b x=gX b x.body:=by rw [tn,v,nD,H,nD,tm g]
  rw [j];exact bl ⟨(),O,f.fr,g⟩
 intro bd aR aS ⟨Q,aX⟩;refine Ln<|Ed<|D0 O (λ_ h=>(Wv 1<|Wo 0 h:)) (Yf yc O) ?_;refine De O (λ_ h=>(Wv 1<|Wo 0 h:)) ?_;refine WL.vG (ι:=SP) (κ:=dT) Y O bf O (λr=>aC r.1 (ga b x.other).length r.2) (λu r=>gX b x.other=0/\Sl (jd (ke+1)<|k+1) 7 u r.1 r.2 (ga b x.other)) (λ_=>jz<|gX b x.other) (λ_=>gX b x.other≠0) (λw f=>J q x.other a3 c3 w f.V f.V U aj) ?_ ?_
 ·intro _ g;refine Ep<|Ep ?_;refine b3 λl f=>?_;have j:kR b x=gX b x.other:=by rw [tn,v,nD,H,nD,Q,nD]
  rw [j];exact bl ⟨(),O,f.fr,g⟩
 intro be aY aZ ⟨a1,a4⟩;refine Ln<|Ed ?_;refine De O (λ_ h=>(Wv 2<|Wo 0 h:)) ?_;refine aq 0 Y O O O J9 O O O<|Ln<|Ed ?_;refine De O (λ_ h=>(Wv 2<|Wo 0 h:)) ?_;refine V0 (Yf wB O)<|Ln<|Ed ?_;refine De O (λ_ h=>(Wv 2<|Wo 0 h:)) ?_;refine aq 0 Y O O O J9 O O O<|Ln<|Ed ?_;refine WD.nil (λ_ h=>(Wv 2<|Wo 0 h:)) ?_;refine Et<|ai<|V0 (dv 0 O O wC O)<|aq 1 Y O O O Cp O O O<|ag<|bq ?_;refine WE.gt (j_ O<|e1 1 O O wC O) λl f=>?_;rw [Hv];exact bA ⟨⟨aI,aR,aY⟩,O,f.fr,by rw [tn,v,H,Q,a1];rfl,D_ aP<|e7 f aG aK,vK aX<|e7 f aG aS,vK a4<|e7 f aG aZ⟩
def RW (j d:View) (p:Z) (b:h6) (ke:Z) (x:lH j p b) (k:Z) (l:I cv) (a:az a0) (c:Z) (w:aL) (F:Le j w) (G:Le d w) (q:Sl (iG ke k) 6 d a c l) (aX:fj l<=109951162777) : cr aB 61 #[b0 (aa ⟨p,0,ak⟩),aC a l.length c] w λe n=>(∃r:SP,e = ax (aC r.1 (ga b l).length r.2)/\Ext w n/\gX b l=0/\Sl (jd (ke+1)<|k+1) 7 (nv w n) r.1 r.2 (ga b l))\/(∃_:dT,e = .panicked (jz<|gX b l)/\Ext w n/\gX b l≠0):=by
 induction k using c8 generalizing d l a c w;rename_i k H;have aY:=q.cap;have aZ:=q.max;have a1:=Mu l;refine enter func61 O 22 O O ?_;refine CE (Vs:=[d,j]) (Ws.init (by simp [G,F]))<|ai<|ar O<|ag<|ai<|ar O<|LW (λ_ h=>h.bJ 51 7) ?_;refine WL.v0 ?_;refine ag<|Cs<|ai<|ad O<|V0 (Yn pq O)<|ad O<|ag<|Cb ?_;refine dZ (ι:=GX XA) (λg=>[(10,an am (g.i:ab)),(5,aC g.a g.es.length g.c)]) [(0,_),(4,_),(8,_),(9,_)] (λg=>Ws w [] [cO 51 7 XA.cells g.a g.c g.es] [g.J,d,j]) (λg=>g.i<=l.length/\g.es.map (·.1)=(l.take g.i).map (oi b)/\iS (kR b) (l.take g.i)=0/\(g8 w g.J/\Xs (eh (ke+1) k) g.J g.es)) (λg=>l.length-g.i) ⟨0,[],ak,0,v0⟩ ⟨de _,O,O,⟨ec w,Xs.nil _⟩⟩ (λ_ h=>by have h:=Ws.dr h (cB:=[v0,d,j]) aG;exact h) ?_;intro g ⟨hi,s,t,⟨z,A⟩⟩;refine ai<|V0 (cP O O)<|ag<|Cs ?_;refine Cc O (λu=>?_)<|λu=>?_
 ·have K:g.i<l.length:=by simpa using u
  obtain ⟨y,o⟩:=dO K;obtain ⟨a2,a3,L,B⟩:=q.b7 g.i y o;obtain ⟨m,rfl⟩:∃m,k=m+1:=by cases k with| zero=>exact B.elim| succ m=>exact ⟨m,rfl⟩
  obtain ⟨M,N,P,Q,S,T,U,W,X,ae⟩:=B;have a4:=Cn s hi;refine bO<|Cs<|Cb<|ai<|V0 (Yo pq O O L aj)<|V0 (dG 1 lm O O O<|U) ?_;refine Al Y O qN λa5=>?_;refine aq 0 Y O O O rI O O O<|ag<|Cr<|ad O<|ad O<|V0 (dv 0 O O lm O) ?_;refine WL.vG (ι:=vJ) (κ:=dT) Y O bf O (λr=>bU (qs (oi b y) r).toArray) (λaf r=>kR b y=0/\eh (ke+1) (m+1) af (oi b y,r)) (λ_=>jz<|kR b y) (λ_=>kR b y≠0) (λw f=>abS j d p b ke m y M N P Q S T w f.V f.V x (abR j p b x ke) (λd l a c w ah al ao ap=>H m aj d l a c w ah al ao ap) W X ae (by have:=Ms o;omega)) ?_ ?_
  ·intro _ C;refine WE.aF<|Ep<|Ep<|WE.aF<|Ep ?_;refine b3 λn f=>?_;have av:gX b l=kR b y:=by rw [Hz,y_ (kR b) o t C]
   rw [av];exact bl ⟨(),O,f.fr,C⟩
  intro a6 v aw ⟨aA,aD⟩;refine WL.jJ λaE aH aI aJ=>?_;refine Lb Y O RV O O O O λa8=>?_;refine dK 0 (aM (XA.cells (oi b y,v)).toArray 51 (0,0)) O O ?_;refine LA ((oi b y,v):XA) 2 0 Y O RV O O O O O O aj aj λaK aP=>?_;refine ar O<|Ln<|Eb<|Et<|Cr<|V0 (Yi O O O aj)<|ad O<|Ln ?_;exact cU (⟨g.i+1,g.es++[(oi b y,v)],aK,aP,aE⟩:GX XA) (by show _-(g.i+1)<_;omega) ⟨by show g.i+1<=_;omega,Cm s o O,by show iS (kR b) (l.take<|g.i+1)=0;rw [Hx (kR b) o,t,nD,aA],⟨aJ _ aw z,Xs.snoc (R:=eh _ _) (λhv h=>eh.mv hv h) A aI aH aD⟩⟩<|λ_ h=>Wd 2 h
 have D:g.i=l.length:=by simp at u;omega
 refine Ce<|Ex<|Ex<|dy<|Et<|Cs ?_;refine WC.pH (rd:=MQ) 0 O (λ_ aR=>by cases aR) XA.dA fp λa9 aS aU=>?_;refine Cr<|ad O<|ar O<|ag<|bq ?_;refine R1 O O λn f=>?_;have aW:gX b l=0:=by rw [Hz,<-t,D,gJ]
 have E:=Co s D;rw [<-tp] at E;rw [<-E];exact bA ⟨(g.a,g.c),by rw [fK],f.fr,aW,UO aU (e7 f aG aS) (e7 f aG z) A⟩
def xE (H:View) (b o:Z) (e:SP×I Tx):Prop:=vc H b o=aa (aC e.1.1 e.2.length e.1.2)/\Sl rdStr 1 H e.1.1 e.1.2 e.2
def ii (a:I<|(az a0×Z)×I Tx):Z:=(a.map (·.2.length)).sum
def Br {a:I<|(az a0×Z)×I Tx}  {x:(az a0×Z)×I Tx} (h:a[ae]? = aa x):ii (a.take<|ae+1)=ii (a.take ae)+x.2.length:=by simp [ii,hP,h]
def Bs (a:I<|(az a0×Z)×I Tx) (i:Z):ii (a.take i)<=ii a:=by
 have e:ii a=ii (a.take i)+ii (a.drop i):=by unfold ii;rw [<-K3,<-nY,qb]
 omega
def Bt (a:I<|(az a0×Z)×I Tx):(a.flatMap (·.2)).length=ii a:=by simp [ii,K4]
def FA:g1 aB 244=aa 1:=ah
def RX:eP aB 116=aa 1:=ah
def FB:hy aB 37=aa [(0,1),(1,1),(2,1),(3,1),(4,1)]:=ah
def ft:zeroOf aB 37=aa (bU #[st [],aC ak 0 0,an am 0,aC ak 0 0,aC ak 0 0]):=ah
def abT:cX aB 116 0=aa 0:=ah
def rT:eP aB 37=aa 5:=ah
def RY (H:View) (a:az a0) (c:Z) (l:I Tx) (w:aL) (j:Le H w) (f:Sl rdStr 1 H a c l) (p:l.length<=1048576) : cr aB 59 #[aC a l.length c] w λe g=>∃r:SP,e = ax (aC r.1 l.length r.2)/\Ext w g/\Sl rdStr 1 (nv w g) r.1 r.2 l:=by
 have q:=f.cap;have s:=f.max;refine enter func59 O 8 O O ?_;refine CE (Vs:=[H]) (Ws.init (by simp [j]))<|ai<|ar O<|ag<|Cs<|ai<|ad O<|V0 (Du e4 O)<|ag ?_;refine Cc O (λi=>?_)<|λi=>?_
 ·have k:l=[]:=by cases l with| nil=>rfl| cons x r=>obtain ⟨b,o,h,_⟩:=f.b7 0 x rfl;rw [h] at i;cases i
  refine ai<|ar O<|ag<|bq<|Er ?_;refine R1 O O λg d=>?_;subst k;exact ⟨(ak,0),O,d.fr,Sl.nil⟩
 refine bO<|ai ?_;refine WL.AQ Y O dI O O O λt=>?_;refine WL.yM (size:=1) 0 O (eC 0) (de _) O ?_;refine WL.AS 0 ([]:I Tx).length (([]:I Tx).flatMap fV) O O O ?_;refine ad O ?_;refine WL.vF (ys:=l) (xs:=[]) 0 (λ_=>H) Y O dI O O O (λw d=>⟨d.vs H aG,f⟩) fp pG Rx (by simp;omega) (by simp;omega) λm n=>?_;refine ar O<|ag<|bq ?_;refine R1 O O λg d=>?_;exact ⟨(m,n),O,d.fr,d.jF 0 O pG fp⟩
def abU (m:Z) (w:aL) (k:m<=1048576) : cr aB 130 #[aC ak 0 0,an am (m:ab)] w λe a=>∃r:SP,e = ax (aC r.1 ([]:I Tx).length r.2)/\Ws w [] [cO 9 1 fV r.1 r.2 ([]:I Tx)] [] a:=by
 refine enter func130 O 27 O O ?_;refine CE (Vs:=[]) (Ws.init aG)<|ai<|ar O<|ag<|Cs<|ai<|ad O<|V0 (cP O O)<|ag ?_;refine Cc O (λc=>?_)<|λc=>?_;·exfalso;simp at c;omega
 refine bO<|Cs<|ai<|ad O<|ad O<|V0 (DI e4 O)<|ad O<|V0 (Yn e4 O)<|V0 (m7 0 O O aG aj)<|V0 (m7 (m:ab) O O aG aj) ?_;refine ar O<|ag<|ai<|ad O<|V0 (ek O O)<|ag ?_;refine Cc O (λd=>?_)<|λd=>?_
 ·have g:0<m:=by simp at d;omega
  refine Cr<|ad O<|ad O<|V0 (DI e4 O)<|V0 (uw 0 e4 O aG O O<|de _)<|ad O ?_;refine WL.KC m Y O dI kD O O g (by unfold maxLen;omega) aj λh f l n i j=>?_;refine WL.yM (m:=0) (cap:=f) (size:=1) 0 O (de _) i (by rw [j,Au]) ?_;refine WL.AS 0 ([]:I Tx).length (([]:I Tx).flatMap fV) O O aG ?_;refine ad O<|V0 (Yn e4 O)<|V0 (uw ([]:I Tx).length e4 O aG O O<|de _)<|ar O<|ag<|ai<|ad O<|ar O<|ag<|bq ?_;refine R1 O O λa b=>?_;exact ⟨(aa ⟨h,0,ak⟩,f),O,b⟩
 refine bO<|ai<|ad O<|ar O<|ag<|bq ?_;refine R1 O O λa b=>?_;exact ⟨(ak,0),O,b.bJ 9 1⟩
def abV (H:View) (a:az a0) (c:Z) (d:I<|SP×I Tx) (w:aL) (y:Le H w) (j:Sl xE 1 H a c d) (z:ii d<=1048576) (J:d.length<=1048576) :
   cr aB 60 #[aC a d.length c] w λe k=>∃r:SP,e = ax (aC r.1 (d.flatMap (·.2)).length r.2)/\Ext w k/\Sl rdStr 1 (nv w k) r.1 r.2 (d.flatMap (·.2)):=by
 have K:=j.cap;have L:=j.max;refine enter func60 O 36 O O ?_;refine CE (Vs:=[H]) (Ws.init (by simp [y]))<|ai<|ar O<|ag<|ai<|ar O<|ag<|Cs<|ai<|ad O<|V0 (Yn FA O) ?_;refine ad O<|ag<|Cb ?_;refine dg (ι:=Z) (λi=>[(11,an am (i:ab)),(3,an am (ii<|d.take i:ab))]) [(0,_),(2,_),(9,_),(10,_)] (λi=>i<=d.length) (λi=>d.length-i) 0 (de _) ?_;intro i hi;refine ai<|V0 (cP O O)<|ag<|Cs ?_;refine Cc O (λm=>?_)<|λm=>?_
 ·have n:i<d.length:=by simpa using m
  obtain ⟨x,f⟩:=dO n;obtain ⟨A,B,o,p,s⟩:=j.b7 i x f;have t:=Br f;have C:=Bs d<|i+1;refine bO<|Cs<|Cb<|ai<|V0 (Yo FA O O o aj)<|V0 (dQ 0 ah O O<|p)<|ar O<|ag<|ai<|ad O<|ad O<|V0 (Yn e4 O) ?_;refine V0 (n7 (a:=ii<|d.take i) (b:=x.2.length) O O O O aj)<|ar O<|ag<|ai<|ad O<|V0 (cP O O)<|ag ?_;refine Cc O (λu=>?_)<|λu=>?_;·exfalso;simp at u;omega
  refine Ck<|Eb<|Et<|Cr<|V0 (Yi O O O aj)<|ad O<|Ln ?_;rw [<-t];exact cU (i+1) aj aj aR
 have l:i=d.length:=by simp at m;omega
 subst l;rw [gJ];refine Ce<|Ex<|Ex<|dy<|Et<|ai<|ad O ?_;refine Lw (ι:=SP) [] _ Y O bf O O (λr=>aC r.1 ([]:I Tx).length r.2) (λr=>[cO 9 1 fV r.1 r.2 ([]:I Tx)]) (λ_=>True) [] aG (λw h=>(abU (ii d) w z).mono λe k ⟨r,D,E⟩=>⟨r,D,trivial,E⟩) ?_;intro v _;refine ar O<|ag<|Cs<|ai<|ad O<|V0 (Yn FA O)<|ad O<|ag<|Cb ?_;refine dZ (ι:=Z×az a0×Z) (λg=>[(27,an am (g.1:ab)),(6,aC g.2.1 ((d.take g.1).flatMap (·.2)).length g.2.2)]) [(2,_),(25,_),(26,_)] (λg=>Ws w [] [cO 9 1 fV g.2.1 g.2.2 ((d.take g.1).flatMap (·.2))] [H]) (λg=>g.1<=d.length) (λg=>d.length-g.1) (0,v.1,v.2) (de _) aR ?_;intro g hi;refine ai<|V0 (cP O O)<|ag<|Cs ?_;refine Cc O (λq=>?_)<|λq=>?_
 ·have n:g.1<d.length:=by simpa using q
  obtain ⟨x,f⟩:=dO n;obtain ⟨A,B,o,p,s⟩:=j.b7 g.1 x f;have t:=Br f;have C:=Bs d<|g.1+1;refine bO<|Cs<|Cb<|ai<|V0 (Yo FA O O o aj)<|V0 (dQ 0 ah O O<|p)<|ar O<|ag<|Cr<|ad O<|ad O ?_;refine WL.vF (xs:=(d.take g.1).flatMap (·.2)) (ys:=x.2) 0 (λ_=>H) Y O dI O O O (λw h=>⟨h.vs H aG,s⟩) fp pG Rx (by rw [Bt];omega) (by rw [Bt];omega) λF G=>?_;rw [show ((d.take g.1).flatMap (·.2))++x.2=(d.take<|g.1+1).flatMap (·.2) by rw [hP,f];simp];refine ar O<|Ln<|Eb<|Et<|Cr<|V0 (Yi O O O aj)<|ad O<|Ln ?_;exact cU ((g.1+1,F,G):Z×az a0×Z) (by first|omega|(dsimp only;omega)) (by first|omega|(dsimp only;omega)) aR
 have l:g.1=d.length:=by simp at q;omega
 refine Ce<|Ex<|Ex<|dy<|Et<|ai<|ad O<|ar O<|ag<|bq ?_;refine R1 O O λk h=>?_;rw [l,gJ] at h;rw [l,gJ];exact ⟨(g.2.1,g.2.2),O,h.fr,h.jF 0 O pG fp⟩
def abW (a b:Z) (c:I aT) (i:c.length=5) (d j:ab) (w:aL) (f:Ws w (c5 bc.ids [aJ a<|aM c.toArray 37 (0,0),aJ b<|aM #[an am d] 30 (0,0)]) [aJ a<|aM c.toArray 37 (0,0),aJ b<|aM #[an am d] 30 (0,0)] [] w) : CallsD aB 55 #[b0 (aa ⟨a,0,ak⟩),b0 (aa ⟨b,0,ak⟩)] (.returning) w λe h g=>h = .returning/\(e = ax (cN #[])/\Ws w (c5 bc.ids [aJ a<|aM c.toArray 37 (0,0),aJ b<|aM #[an am d] 30 (0,0)]) [aJ a<|aM c.toArray 37 (0,0),aJ b<|aM #[an am d] 30 (0,0)] [] g):=by refine w9 func55 O 18 O O O O O (λ_=>rfl) (bA ⟨O,O,O⟩) ?_;refine LW (W':=Ws w (c5 bc.ids [aJ a<|aM c.toArray 37 (0,0),aJ b<|aM #[an am d] 30 (0,0)]) [aJ a<|aM c.toArray 37 (0,0),aJ b<|aM #[an am d] 30 (0,0)] []) (λ_ e=>by subst e;exact f)<|ar O<|ag<|ai<|ad O<|V0 (MH underlying116 Fy O)<|ad O<|V0 (Yx O O)<|V0 (Yx O O) ?_;refine Al Y O Fy λk=>?_;refine aq 0 Y O O O RX O O O<|ar O<|ag<|ai<|ad O<|ag ?_;refine WC.r6 O ?_;refine ai<|ad O<|V0 (D1 Fv O)<|ag ?_;refine WC.r6 O ?_;refine Ck ?_;refine E0 O λg f=>?_;exact ⟨O,Wd 1 f⟩
def FC (a b:Z) (c:I aT) (j:c.length=5) (f g:ab) (w:aL) (i:Ws w (c5 bc.ids [aJ a<|aM c.toArray 37 (0,0),aJ b<|aM #[an am f] 30 (0,0)]) [aJ a<|aM c.toArray 37 (0,0),aJ b<|aM #[an am f] 30 (0,0)] [] w) : CallsD aB 55 #[b0 (aa ⟨a,0,ak⟩),b0 (aa ⟨b,0,ak⟩)] (.panicking<|jz g) w λe l k=>l = .panicking [⟨.iface 116<|bU #[an am g],ac,au⟩]/\(e = ax (cN #[])/\Ws w (c5 bc.ids [aJ a<|aM c.toArray 37 (0,0),aJ b<|aM #[an am f] 30 (0,0)]) [aJ a<|aM (hX lw nC).toArray 37 (0,0),aJ b<|aM #[an am g] 30 (0,0)] [] k):=by refine w9 func55 O 18 O O O O O (λ_=>rfl) (bl ⟨_,O,O,O⟩) ?_;refine LW (W':=Ws w (c5 bc.ids [aJ a<|aM c.toArray 37 (0,0),aJ b<|aM #[an am f] 30 (0,0)]) [aJ a<|aM c.toArray 37 (0,0),aJ b<|aM #[an am f] 30 (0,0)] []) (λ_ e=>by subst e;exact i)<|ar O<|ag<|ai<|ad O<|V0 (MG underlying116 O)<|ad O<|V0 (Yx O O)<|V0 (Yx O O) ?_;refine Al Y O Fy λm=>?_;refine aq 0 Y O O O RX O O O<|ar O<|ag<|ai<|ad O<|ag ?_;refine WC.s6 O ?_;refine WC.w_ (λ_=>ac) [1,1] [(0,ac),(1,ac),(2,ac),(3,au),(4,au)] mixed ah ah (λ_ _ _ d _ _ h=>by cases d<;>exact h) ?_;refine D0 O (cn [1,1]) (Yb ft FB O O)<|D0 O (cn [1,1]) (Yf abT O)<|D0 O (cn [1,1]) (Yd 0 O O O ah) ?_;refine De O (cn [1,1]) ?_;refine WL.yJ 1 (aM (hX lw nC).toArray 37 (0,0)) Y O O O rT O O (by simp [qe,j]) (by simp [lQ,fh,hX,lw,nC,j,wX]) ?_;refine Ln<|Ed ?_;refine De O (cn [1,1]) ?_;refine aq 2 Y O O O nj O O O<|Ln<|Ed ?_;refine WD.nil (cn [1,1]) ?_;refine E0 O λk i=>?_;exact ⟨O,Wd 1 i⟩
end Go.Proofs.YtgeahfjicmlocaaGreatDoor
end
