/- WholeSame: Exec tells what Mean tells: the same numbers, the same end, the same data, as many ticks; and what is executed is never Broken, nor out of steps. -/
import Derived.Lib.AppendZeros
import Derived.Test.YtgeahfjicmlocaaGreatDoorR4
set_option linter.unusedVariables false
set_option linter.unusedSimpArgs false
set_option linter.defProp false
open _root_ renaming List->I,Nat->Z,Int->ac,Option->aA,Bool->aS,UInt8->ar,Array->bH,Unit->ef
open Option renaming some->aa,none->ao
open Bool renaming true->ad,false->aq
open Go.Value renaming int->am,slice->aE,bool->bW,agg->b0,pointer->b8,tuple->cO
open Go.IntKind renaming i64->an
open Go.Proofs.Tryz renaming prog->aC
open Go renaming World->aP,Value->aR,Addr->a6,Calls->cx,PanicEntry->oZ
open Go.Obj renaming cells->aY
open Or renaming inr->be,inl->bB
open Go.Ending renaming returned->cf
open List renaming flatMap->c6,length->m0
open Nat renaming strongRecOn->om
section
namespace Go.Proofs.YtgeahfjicmlocaaGreatDoor
open Go.Bw Go.Proofs.Tryz
structure Bp where
 s1:aA a6×Z
 s2:aA a6×Z
 s3:aA a6×Z
abbrev SX:=cG×Bp
def SX.cells (e:SX):I aR:=yE e.1 e.2.s1.1 e.2.s1.2 e.2.s2.1 e.2.s2.2 e.2.s3.1 e.2.s3.2
def SX.dR (e:SX):(SX.cells e).length=6:=rfl
def SH (a:View) (b o:Z) (e:SX):Prop:=cB a b o<|SX.cells e
structure zp (f:Z) (N:View) (x:cG) (p:Bp):Prop where
 args:Sl (lm 7) 5 N p.s1.1 p.s1.2 x.args
 body:Sl (jV 7 f) 6 N p.s2.1 p.s2.2 x.body
 other:Sl (jV 7 f) 6 N p.s3.1 p.s3.2 x.other
variable {bN cR:View} {bE aL:Z} {cq:aA a6} {dV:I cG}
def wn (h:Sl (jV 7 bE) 6 bN cq aL dV) (hv:cX bN cR):Sl (jV 7 bE) 6 cR cq aL dV:=h.imp λb o y a=>yF hv (c7 _) (c7 _) b o y a
variable {ol:cG} {F8:Bp}
def zp.mv (h:zp bE bN ol F8) (hv:cX bN cR):zp bE cR ol F8:=⟨Dv h.args hv,wn h.body hv,wn h.other hv⟩
def wo (J:View) (f:Z) (es:I SX):Prop:=∀e ∈ es,zp f J e.1 e.2
def wo.nil (J:View) (f:Z):wo J f []:=by intro e h;simp at h
def wo.snoc {J c b:View} {f:Z} {es:I SX} {e:SX} (h:wo J f es) (d:cX J b) (g:cX c b) (i:zp f c e.1 e.2):wo b f<|es++[e]:=by
 intro x a;rcases fe.1 a with a | a;·exact (h x a).mv d
 ·rw [e_] at a;subst a;exact i.mv g
variable {nY:View}
def abQ {es:I SX} (h:Sl SH 6 bN cq aL es) (hv:cX bN nY) (f:cX cR nY) (g:wo cR bE es):Sl (jV 7<|bE+1) 6 nY cq aL (es.map (·.1)):=by refine ⟨by simpa using h.cap,h.max,h.spot,λi x c=>?_⟩;rw [fp] at c;obtain ⟨e,d,rfl⟩:=eQ.1 c;obtain ⟨b,o,j,k⟩:=h.ct i e d;have a:=(g e<|aW d).mv f;exact ⟨b,o,j,e.2.s1.1,e.2.s1.2,e.2.s2.1,e.2.s2.2,e.2.s3.1,e.2.s3.2,cB.mono hv k,a.args,a.body,a.other⟩
structure GS where
 es:I SX
 a:aA a6
 c:Z
 J:View
 r:aA a6×Z
 q:Tk
def SJ (b:View) (f:Z):Prop:=∀(a:Z) (r:aA a6×Z) (l:Tk) (d:Z) (w:aP),f+d=7->eP l->Sl e3 3 b r.1 r.2 l->Ws w (c6 bh.ids<|b5 a r l) (b5 a r l) [b] w-> cx aC 212 #[b8 (aa ⟨a,0,ao⟩),am an (d:ac)] w λe c=>(∃(x:I cG) (s:aA a6×Z) (r2:aA a6×Z) (q:Tk),e = cf (aE s.1 x.length s.2)/\iF f l=aa (x,q)/\Sl (jV 7 f) 6 (nv w c) s.1 s.2 x/\Sl e3 3 b r2.1 r2.2 q/\Ws w (c6 bh.ids<|b5 a r l) (b5 a r2 q) [b] c)\/(∃(r2:aA a6×Z) (q:Tk),e = .panicked iZ/\iF f l=ao/\Ws w (c6 bh.ids<|b5 a r l) (b5 a r2 q) [b] c)
variable {bb cr:Tk}
def Dx (h:eP bb) (e:iF bE bb=aa (dV,cr)):eP cr:=wj h<|Dg bE bb dV cr h.all e
def abR (h:eP bb) (e:gL (iF bE) bb=aa (ol,cr)):eP cr:=wj h<|KA (Dg bE) h.all e
def abS {xs:I cF} (h:eP bb) (e:mT (bl 6) bb=aa (xs,cr)):eP cr:=by unfold mT at e;cases a:bG [41] bb with| some q=>rw [a] at e;simp only [gI,eJ] at e;obtain ⟨_,rfl⟩:=e;exact kS h a| none=>rw [a] at e;exact wj h<|Ky (A8 6) _ _ _ _ h.all e
variable {bR dK:Tx}
def Dy (h:mW [bR,dK] bb=aa cr):∃a,bG bR bb=aa a/\bG dK a=aa cr:=by rw [Su] at h;exact dL.1 h
def abT (h:mW [bR,dK] bb=ao):bG bR bb=ao\/∃a,bG bR bb=aa a/\bG dK a=ao:=by rw [Su] at h;cases hv:bG bR bb with| none=>exact bB rfl| some a=>rw [hv] at h;exact be ⟨a,rfl,h⟩
variable {Bq:Tk->aA (cG×Tk)}
def abU (h:bG [125] bb=aa cr):pw Bq (bE+1) bb=aa ([],cr):=by rw [pw,h]
def abV (h:bG [125] bb=ao) (a:Bq bb=aa (ol,cr)):pw Bq (bE+1) bb=(pw Bq bE cr).map λp=>(ol::p.1,p.2):=by rw [pw,h];simp only;rw [a];rfl
def abW (h:bG [125] bb=ao) (a:Bq bb=ao):pw Bq (bE+1) bb=ao:=by rw [pw,h];simp only;rw [a];rfl
def Dz:e2 aC 25=aa 1:=ah
def DA:e2 aC 9=aa 1:=ah
def SK:ii aC 25 241 (b0 #[am an 0,st [],st [],aE ao 0 0,aE ao 0 0,aE ao 0 0]) 6 112:=j_ ah
def abX (b:Z) (c:View) (r:aA a6×Z) (l:Tk) (f d:Z) (w:aP) (a3:SJ c f) (ex:f+(d+1)=7) (ae:eP l) (cR:Sl e3 3 c r.1 r.2 l) (a:Ws w (c6 bh.ids<|b5 b r l) (b5 b r l) [c] w) :
   cx aC 261 #[b8 (aa ⟨b,0,ao⟩),am an (d:ac)] w λe o=>(∃(x:cG) (p:Bp) (r2:aA a6×Z) (q:Tk),e = cf (b0 #[am an (x).op,st (x).mod,st (x).nm,aE (p).s1.1 (x).args.length (p).s1.2,aE (p).s2.1 (x).body.length (p).s2.2,aE (p).s3.1 (x).other.length (p).s3.2])/\gL (iF f) l=aa (x,q)/\zp f (nv w o) x p/\Sl e3 3 c r2.1 r2.2 q/\Ws w (c6 bh.ids<|b5 b r l) (b5 b r2 q) [c] o)\/(∃(r2:aA a6×Z) (q:Tk),e = .panicked iZ/\gL (iF f) l=ao/\Ws w (c6 bh.ids<|b5 b r l) (b5 b r2 q) [c] o):=by
 refine enter func261 O 104 O O<|CE a<|ak ?_;refine Al Y O GR λey=>eb 0 (aY (yE (cG.mk 0 [] [] [] [] []) ao 0 ao 0 ao 0).toArray 241 (0,0)) O O<|ag<|ak ?_;refine Al Y O GR λez=>eb 0 (aY (yE (cG.mk 0 [] [] [] [] []) ao 0 ao 0 ao 0).toArray 241 (0,0)) O O<|ag<|Cs<|Cb<|ak<|ab O<|Lf 2 O ?_;refine WL.kw (kr b c r l [105,102] cR) λ⟨eA,bK,bL⟩ ⟨cS,cT,bM⟩=>au O<|ag ?_;refine Cc O (λa4=>?_)<|λa4=>?_
 ·have V:=cS a4;have a7:=kS ae V;refine ak<|ab O ?_;refine WL.ke (sS (λb r l d w t u v z=>xH c 6 b r l d w t u v z) b bK bL 1 O a7 bM) ?_ ?_;·intro ⟨j,n⟩ g;refine Ep<|WE.cp<|Ep ?_;refine b_ λo a=>be ⟨j,n,O,by simp only [gL,hI,hT,hF,hU,hG,hH,V,g,cH,a5,fg,bi],by have h:=a;have h:=Wt 1 h;exact h⟩
  intro bN ⟨⟨a8,bO⟩,cU,al⟩ bP ⟨W,bQ,cV⟩;have bR:eP al:=sM a7 W;have eB:al.length+1<=m0 bL:=sN a7 W;refine Lb Y O sR O O O O λbS=>LN (rd:=sP) (f:=XE.cells) (m:=1) 0 [(a8,bO.1,bO.2)] O O (λk C=>by simp [b5,aQ] at C;subst C;simp [gk,b5,aQ,eV]) XE.dR (λ_ _ _ _ h=>h) (show 1<=1 by decide) (by decide) λeC bT bU=>V0 (Yf e1 O)<|aw 1 Y O O O eE O O O<|V0 (Yf sL O)<|aw 1 Y O O O u7 O O O<|ag<|ak<|ab O<|ab O<|V0 (Yi O O O (by omega)) ?_;refine ro (ι:=((I cG)×(aA a6×Z))×(aA a6×Z)×Tk) (κ:=(aA a6×Z)×Tk) [_] _ Y O bp O O (λi=>aE i.1.2.1 i.1.1.length i.1.2.2) (λi=>b5 b i.2.1 i.2.2) (λF i=>iF f al=aa (i.1.1,i.2.2)/\Sl (jV 7 f) 6 F i.1.2.1 i.1.2.2 i.1.1/\Sl e3 3 c i.2.1.1 i.2.1.2 i.2.2) (λ_=>iZ) (λi=>b5 b i.1 i.2) (λ_=>iF f al=ao) [c] (by simp) (λ_ _ h=>h) (λw a=>(a3 b cU al (d+1) w (by omega) bR cV a).mono λe o h=>by
   rcases h with ⟨x,s,r2,q,t,u,v,z,X⟩ | ⟨r2,q,t,u,v⟩;·exact bB ⟨((x,s),r2,q),t,⟨u,v,z⟩,X⟩
   ·exact be ⟨(r2,q),t,u,v⟩) ?_ ?_;·intro ⟨j,n⟩ g;refine Ep<|WE.cp<|Ep ?_;refine b_ λo a=>be ⟨j,n,O,by simp only [gL,hI,hT,hF,hU,hG,hH,V,W,g,cH,a5,fg,bi],by have h:=a;have h:=Wt 1 h;have h:=Ws.aZ h (cI:=[c]) (by simp);exact h⟩
  intro eD ⟨⟨bV,bX⟩,cW,a9⟩ bZ ⟨ap,b1,c0⟩;have c1:eP a9:=Dx bR ap;refine V0 (Yf Bj O)<|aw 1 Y O O O Dz O O O<|ag<|Cs<|ak<|ab O ?_;refine WL.kw (kr b c cW a9 [101,108,115,101] c0) λ⟨eF,b2,a'⟩ ⟨c2,c3,b3⟩=>ag<|Cc O (λa_=>?_)<|λa_=>?_
  ·have aG:=c2 a_;have b4:=kS c1 aG;refine ak<|ab O<|ab O<|V0 (Yi O O O (by omega)) ?_;refine ro (ι:=((I cG)×(aA a6×Z))×(aA a6×Z)×Tk) (κ:=(aA a6×Z)×Tk) [_] _ Y O bp O O (λi=>aE i.1.2.1 i.1.1.length i.1.2.2) (λi=>b5 b i.2.1 i.2.2) (λF i=>iF f a'=aa (i.1.1,i.2.2)/\Sl (jV 7 f) 6 F i.1.2.1 i.1.2.2 i.1.1/\Sl e3 3 c i.2.1.1 i.2.1.2 i.2.2) (λ_=>iZ) (λi=>b5 b i.1 i.2) (λ_=>iF f a'=ao) [c] (by simp) (λ_ _ h=>h) (λw a=>(a3 b b2 a' (d+1) w (by omega) b4 b3 a).mono λe o h=>by
    rcases h with ⟨x,s,r2,q,t,u,v,z,X⟩ | ⟨r2,q,t,u,v⟩;·exact bB ⟨((x,s),r2,q),t,⟨u,v,z⟩,X⟩
    ·exact be ⟨(r2,q),t,u,v⟩) ?_ ?_;·intro ⟨j,n⟩ g;refine Ep<|Ep<|WE.cp<|Ep ?_;refine b_ λo a=>be ⟨j,n,O,by simp only [gL,hI,hT,hF,hU,hG,hH,V,W,ap,aG,g,cH,a5,fg,bi],by have h:=a;have h:=Wt 1 h;have h:=Ws.aZ h (cI:=[c]) (by simp);exact h⟩
   intro eG ⟨⟨ba,c4⟩,b6,bb⟩ c5 ⟨bc,c7,c8⟩;have eH:eP bb:=Dx b4 bc;refine V0 (Yf xG O)<|aw 1 Y O O O Dz O O O<|ag<|ak<|V0 (Yf xG O)<|V0 (Yd 1 O O O ah)<|V0 (Yn tQ O)<|V0 (bY O O)<|ag ?_;refine Cc O (λbd=>?_)<|λbd=>?_
   ·have bf:ba.length=0:=by simpa using bd
    refine Cr<|V0 (Yb wl kA O O)<|V0 (r6 wm O) ?_;refine WL.panic Y O<|Ep<|WE.cp<|Ep ?_;refine b_ λo a=>be ⟨b6,bb,O,by simp only [gL,hI,hT,hF,hU,hG,hH,V,W,ap,aG,bc,cH,a5,fg,bi,aD bf],by have h:=a;have h:=Wt 1 h;have h:=Ws.aZ h (cI:=[c]) (by simp);exact h⟩
   have bf:¬ba.length=0:=by simpa using bd
   refine ay<|ak<|V0 (dW 1 O O mV O)<|aw 2 Y O O O tR O O O<|ag<|bu<|aU<|Er ?_;refine WE.gF (kJ O<|fj 2 O O mV O) λo a=>bB ⟨cG.mk 4 [] [] [a8] bV ba,⟨(aa ⟨bS,0,ao⟩,1),bX,c4⟩,b6,bb,O,by simp only [gL,hI,hT,hF,hU,hG,hH,V,W,ap,aG,bc,cH,a5,fg,bi,aj bf],⟨sQ bU (fm a (by simp) bT) (fm a (by simp) bP)<|(mX.nil bN 6).snoc (cX.refl _) (cX.refl _) bQ,wn b1<|fm a (by simp) bZ,wn c7<|fm a (by simp) c5⟩,c8,Wv 4<|Wt 1 a⟩
  obtain ⟨c9,c'⟩:=c3 a_;subst c';refine ay<|ak<|V0 (dW 1 O O mV O)<|aw 2 Y O O O tR O O O<|ag<|bu<|aU<|Er ?_;refine WE.gF (kJ O<|fj 2 O O mV O) λo a=>bB ⟨cG.mk 4 [] [] [a8] bV [],⟨(aa ⟨bS,0,ao⟩,1),bX,((ao,0):aA a6×Z)⟩,b2,a9,O,by simp only [gL,hI,hT,hF,hU,hG,hH,V,W,ap,c9,cH,a5,fg,bi],⟨sQ bU (fm a (by simp) bT) (fm a (by simp) bP)<|(mX.nil bN 6).snoc (cX.refl _) (cX.refl _) bQ,wn b1<|fm a (by simp) bZ,Sl.nil⟩,b3,Wv 3<|Wt 1 a⟩
 obtain ⟨y,c_⟩:=cT a4;subst c_;refine ak<|ab O ?_;refine WL.kw (kr b c bK l [119,104,105,108,101] bM) λ⟨eI,b7,b9⟩ ⟨da,db,b'⟩=>au O<|ag ?_;refine Cc O (λbg=>?_)<|λbg=>?_
 ·have aH:=da bg;have bj:=kS ae aH;refine ak<|ab O ?_;refine WL.ke (sS (λb r l d w t u v z=>xH c 6 b r l d w t u v z) b b7 b9 1 O bj b') ?_ ?_;·intro ⟨j,n⟩ g;refine Ep<|WE.cp<|Ep ?_;refine b_ λo a=>be ⟨j,n,O,by simp only [gL,hI,hT,hF,hU,hG,hH,y,aH,g,cH,a5,fg,bi],by have h:=a;have h:=Wt 1 h;exact h⟩
  intro dc ⟨⟨ca,cb⟩,dd,av⟩ de ⟨aI,df,dg⟩;have cc:eP av:=sM bj aI;have eJ:av.length+1<=m0 b9:=sN bj aI;refine Lb Y O sR O O O O λdh=>LN (rd:=sP) (f:=XE.cells) (m:=1) 0 [(ca,cb.1,cb.2)] O O (λk C=>by simp [b5,aQ] at C;subst C;simp [gk,b5,aQ,eV]) XE.dR (λ_ _ _ _ h=>h) (show 1<=1 by decide) (by decide) λeK dj dk=>V0 (Yf e1 O)<|aw 1 Y O O O eE O O O<|V0 (Yf sL O)<|aw 1 Y O O O u7 O O O<|ag<|ak<|ab O<|ab O<|V0 (Yi O O O (by omega)) ?_;refine ro (ι:=((I cG)×(aA a6×Z))×(aA a6×Z)×Tk) (κ:=(aA a6×Z)×Tk) [_] _ Y O bp O O (λi=>aE i.1.2.1 i.1.1.length i.1.2.2) (λi=>b5 b i.2.1 i.2.2) (λF i=>iF f av=aa (i.1.1,i.2.2)/\Sl (jV 7 f) 6 F i.1.2.1 i.1.2.2 i.1.1/\Sl e3 3 c i.2.1.1 i.2.1.2 i.2.2) (λ_=>iZ) (λi=>b5 b i.1 i.2) (λ_=>iF f av=ao) [c] (by simp) (λ_ _ h=>h) (λw a=>(a3 b dd av (d+1) w (by omega) cc dg a).mono λe o h=>by
   rcases h with ⟨x,s,r2,q,t,u,v,z,X⟩ | ⟨r2,q,t,u,v⟩;·exact bB ⟨((x,s),r2,q),t,⟨u,v,z⟩,X⟩
   ·exact be ⟨(r2,q),t,u,v⟩) ?_ ?_;·intro ⟨j,n⟩ g;refine Ep<|WE.cp<|Ep ?_;refine b_ λo a=>be ⟨j,n,O,by simp only [gL,hI,hT,hF,hU,hG,hH,y,aH,aI,g,cH,a5,fg,bi],by have h:=a;have h:=Wt 1 h;have h:=Ws.aZ h (cI:=[c]) (by simp);exact h⟩
  intro eL ⟨⟨dl,dm⟩,dp,cd⟩ dq ⟨ce,dr,ds⟩;have eM:eP cd:=Dx cc ce;refine V0 (Yf Bj O)<|aw 1 Y O O O Dz O O O<|ag<|ak<|V0 (dW 1 O O mV O)<|aw 2 Y O O O tR O O O<|ag<|bu<|aU<|Er ?_;refine WE.gF (kJ O<|fj 2 O O mV O) λo a=>bB ⟨cG.mk 5 [] [] [ca] dl [],⟨(aa ⟨dh,0,ao⟩,1),dm,((ao,0):aA a6×Z)⟩,dp,cd,O,by simp only [gL,hI,hT,hF,hU,hG,hH,y,aH,aI,ce,cH,a5,fg,bi],⟨sQ dk (fm a (by simp) dj) (fm a (by simp) de)<|(mX.nil dc 6).snoc (cX.refl _) (cX.refl _) df,wn dr<|fm a (by simp) dq,Sl.nil⟩,ds,Wv 3<|Wt 1 a⟩
 obtain ⟨B,dt⟩:=db bg;subst dt;refine ak<|ab O ?_;refine WL.kw (kr b c b7 l [114,101,116,117,114,110] b') λ⟨eN,ch,ci⟩ ⟨du,dv,cj⟩=>au O<|ag ?_;refine Cc O (λbk=>?_)<|λbk=>?_
 ·have aK:=du bk;have bm:=kS ae aK;refine Cr<|ab O ?_;refine WL.ke (sS (λb r l d w t u v z=>xH c 6 b r l d w t u v z) b ch ci 1 O bm cj) ?_ ?_;·intro ⟨j,n⟩ g;refine WE.cp<|Ep ?_;refine b_ λo a=>be ⟨j,n,O,by simp only [gL,hI,hT,hF,hU,hG,hH,y,B,aK,g,cH,a5,fg,bi],by have h:=a;have h:=Wt 1 h;exact h⟩
  intro dw ⟨⟨ck,cl⟩,dx,bn⟩ dy ⟨aL,dz,dA⟩;have dB:eP bn:=sM bm aL;have eO:bn.length+1<=m0 ci:=sN bm aL;refine Lb Y O sR O O O O λdC=>LN (rd:=sP) (f:=XE.cells) (m:=1) 0 [(ck,cl.1,cl.2)] O O (λk C=>by simp [b5,aQ] at C;subst C;simp [gk,b5,aQ,eV]) XE.dR (λ_ _ _ _ h=>h) (show 1<=1 by decide) (by decide) λeQ dD dE=>V0 (Yf e1 O)<|aw 1 Y O O O eE O O O<|V0 (Yf sL O)<|aw 1 Y O O O u7 O O O<|Ln<|Eb<|Et<|ak<|ab O ?_;refine Lb Y O gQ O O O O λax=>jW (T:=9) (m:=1) 0 [[59]] O O (show 1<=1 by decide) (by decide) λJ K=>WL.kx (kU b c dx bn J _ _ [[59]] K dA) ?_ ?_;·intro ⟨j,n⟩ g;rw [gy] at g;refine Ep<|b_ λo a=>be ⟨j,n,O,by simp only [gL,hI,hT,hF,hU,hG,hH,y,B,aK,aL,g,cH,a5,fg,bi],by have h:=a;have h:=Wt 1 h;have h:=Ws.aZ h (cI:=[c]) (by simp);exact h⟩
  intro ⟨L,M⟩ ⟨A,N⟩;have az:=kT dB A;rw [gy] at A;refine ag<|ak<|V0 (dW 1 O O mV O)<|aw 2 Y O O O tR O O O<|ag<|bu ?_;refine WE.gF (kJ O<|fj 2 O O mV O) λo a=>bB ⟨cG.mk 6 [] [] [ck] [] [],⟨(aa ⟨dC,0,ao⟩,1),((ao,0):aA a6×Z),((ao,0):aA a6×Z)⟩,L,M,O,by simp only [gL,hI,hT,hF,hU,hG,hH,y,B,aK,aL,A,cH,a5,fg,bi],⟨sQ dE (fm a (by simp) dD) (fm a (by simp) dy)<|(mX.nil dw 6).snoc (cX.refl _) (cX.refl _) dz,Sl.nil,Sl.nil⟩,N,Wv 3<|Wt 1 a⟩
 obtain ⟨D,dF⟩:=dv bk;subst dF;refine ak<|ab O ?_;refine WL.kw (kr b c ch l [111,117,116] cj) λ⟨eR,cm,co⟩ ⟨dG,dH,cq⟩=>au O<|ag ?_;refine Cc O (λbo=>?_)<|λbo=>?_
 ·have aM:=dG bo;have bq:=kS ae aM;refine Cr<|ab O ?_;refine WL.ke (sS (λb r l d w t u v z=>xH c 6 b r l d w t u v z) b cm co 1 O bq cq) ?_ ?_;·intro ⟨j,n⟩ g;refine WE.cp<|Ep ?_;refine b_ λo a=>be ⟨j,n,O,by simp only [gL,hI,hT,hF,hU,hG,hH,y,B,D,aM,g,cH,a5,fg,bi],by have h:=a;have h:=Wt 1 h;exact h⟩
  intro dI ⟨⟨cr,cs⟩,dK,br⟩ dL ⟨aN,dM,dN⟩;have dO:eP br:=sM bq aN;have eS:br.length+1<=m0 co:=sN bq aN;refine Lb Y O sR O O O O λdP=>LN (rd:=sP) (f:=XE.cells) (m:=1) 0 [(cr,cs.1,cs.2)] O O (λk C=>by simp [b5,aQ] at C;subst C;simp [gk,b5,aQ,eV]) XE.dR (λ_ _ _ _ h=>h) (show 1<=1 by decide) (by decide) λeT dQ dS=>V0 (Yf e1 O)<|aw 1 Y O O O eE O O O<|V0 (Yf sL O)<|aw 1 Y O O O u7 O O O<|Ln<|Eb<|Et<|ak<|ab O ?_;refine Lb Y O gQ O O O O λax=>jW (T:=9) (m:=1) 0 [[59]] O O (show 1<=1 by decide) (by decide) λJ K=>WL.kx (kU b c dK br J _ _ [[59]] K dN) ?_ ?_;·intro ⟨j,n⟩ g;rw [gy] at g;refine Ep<|b_ λo a=>be ⟨j,n,O,by simp only [gL,hI,hT,hF,hU,hG,hH,y,B,D,aM,aN,g,cH,a5,fg,bi],by have h:=a;have h:=Wt 1 h;have h:=Ws.aZ h (cI:=[c]) (by simp);exact h⟩
  intro ⟨L,M⟩ ⟨A,N⟩;have az:=kT dO A;rw [gy] at A;refine ag<|ak<|V0 (dW 1 O O mV O)<|aw 2 Y O O O tR O O O<|ag<|bu ?_;refine WE.gF (kJ O<|fj 2 O O mV O) λo a=>bB ⟨cG.mk 7 [] [] [cr] [] [],⟨(aa ⟨dP,0,ao⟩,1),((ao,0):aA a6×Z),((ao,0):aA a6×Z)⟩,L,M,O,by simp only [gL,hI,hT,hF,hU,hG,hH,y,B,D,aM,aN,A,cH,a5,fg,bi],⟨sQ dS (fm a (by simp) dQ) (fm a (by simp) dL)<|(mX.nil dI 6).snoc (cX.refl _) (cX.refl _) dM,Sl.nil,Sl.nil⟩,N,Wv 3<|Wt 1 a⟩
 obtain ⟨E,dT⟩:=dH bo;subst dT;refine ak<|ab O ?_;refine WL.kx (Sy b c cm l ae cq) ?_ ?_;·intro ⟨j,n⟩ g;refine Ep<|WE.cp<|Ep ?_;refine b_ λo a=>be ⟨j,n,O,by simp only [gL,hI,hT,hF,hU,hG,hH,y,B,D,E,g,cH,a5,fg,bi],by have h:=a;have h:=Wt 1 h;exact h⟩
 intro ⟨U,dU,bs⟩ ⟨G,dV⟩;have bt:=Sw ae G;refine ab O<|V0 (Yx O O)<|V0 (Yx O O)<|V0 (Yf Ds O)<|aw 1 Y O O O DA O O O<|V0 (Yf Dt O)<|aw 1 Y O O O DA O O O<|ag<|Cb<|ak ?_;refine ab O<|WL.kw (kr b c dU bs [40] dV) λ⟨eU,ct,bv⟩ ⟨dX,dY,cu⟩=>au O<|ag ?_;refine Cc O (λbw=>?_)<|λbw=>?_
 ·have aO:=dX bw;have cv:=kS bt aO;refine Cr<|ab O ?_;refine ro (ι:=((I cF)×(aA a6×Z))×(aA a6×Z)×Tk) (κ:=(aA a6×Z)×Tk) [_] _ Y O bp O O (λi=>aE i.1.2.1 i.1.1.length i.1.2.2) (λi=>b5 b i.2.1 i.2.2) (λF i=>mT (bl 6) bv=aa (i.1.1,i.2.2)/\Sl (lm<|6+1) 5 F i.1.2.1 i.1.2.2 i.1.1/\Sl e3 3 c i.2.1.1 i.2.1.2 i.2.2) (λ_=>iZ) (λi=>b5 b i.1 i.2) (λ_=>mT (bl 6) bv=ao) [c] (by simp) (λ_ _ h=>h) (λw a=>(SC b c ct bv 6 1 w (λb r l d w t u v z=>xH c 6 b r l d w t u v z) (by omega) cv cu a).mono λe o h=>by
   rcases h with ⟨x,s,r2,q,t,u,v,z,X⟩ | ⟨r2,q,t,u,v⟩;·exact bB ⟨((x,s),r2,q),t,⟨u,v,z⟩,X⟩
   ·exact be ⟨(r2,q),t,u,v⟩) ?_ ?_;·intro ⟨j,n⟩ g;refine WE.cp<|WE.cp<|Ep ?_;refine b_ λo a=>be ⟨j,n,O,by simp only [gL,hI,hT,hF,hU,hG,hH,y,B,D,E,G,aO,g,cH,a5,fg,bi],by have h:=a;have h:=Wt 1 h;exact h⟩
  intro eW ⟨⟨dZ,d0⟩,d1,cw⟩ d2 ⟨bx,d3,d4⟩;have d5:eP cw:=abS cv bx;refine V0 (Yf e1 O)<|aw 1 Y O O O eE O O O<|V0 (Yf sL O)<|aw 1 Y O O O u7 O O O<|Ln<|Eb<|Eb<|Et<|ak<|ab O ?_;refine Lb Y O gQ O O O O λax=>jW (T:=9) (m:=1) 0 [[59]] O O (show 1<=1 by decide) (by decide) λJ K=>WL.kx (kU b c d1 cw J _ _ [[59]] K d4) ?_ ?_;·intro ⟨j,n⟩ g;rw [gy] at g;refine Ep<|b_ λo a=>be ⟨j,n,O,by simp only [gL,hI,hT,hF,hU,hG,hH,y,B,D,E,G,aO,bx,g,cH,a5,fg,bi],by have h:=a;have h:=Wt 1 h;have h:=Ws.aZ h (cI:=[c]) (by simp);exact h⟩
  intro ⟨L,M⟩ ⟨A,N⟩;have az:=kT d5 A;rw [gy] at A;refine ag<|ak<|V0 (dW 1 O O mV O)<|aw 2 Y O O O tR O O O<|ag<|bu ?_;refine WE.gF (kJ O<|fj 2 O O mV O) λo a=>bB ⟨cG.mk 3 U.1 U.2 dZ [] [],⟨d0,((ao,0):aA a6×Z),((ao,0):aA a6×Z)⟩,L,M,O,by simp only [gL,hI,hT,hF,hU,hG,hH,y,B,D,E,G,aO,bx,A,cH,a5,fg,bi],⟨Dv d3<|fm a (by simp) d2,Sl.nil,Sl.nil⟩,N,Wv 2<|Wt 1 a⟩
 obtain ⟨H,d6⟩:=dY bw;subst d6;refine ak<|ab O ?_;refine WL.kw (kr b c ct bs [91] cu) λ⟨eX,cy,cz⟩ ⟨d7,d8,cA⟩=>au O<|ag ?_;refine Cc O (λbz=>?_)<|λbz=>?_
 ·have P:=d7 bz;have bA:=kS bt P;refine ak<|ab O ?_;refine WL.ke (sS (λb r l d w t u v z=>xH c 6 b r l d w t u v z) b cy cz 1 O bA cA) ?_ ?_;·intro ⟨j,n⟩ g;refine Ep<|WE.cp<|WE.cp<|Ep ?_;refine b_ λo a=>be ⟨j,n,O,by simp only [gL,hI,hT,hF,hU,hG,hH,y,B,D,E,G,H,P,g,cH,a5,fg,bi],by have h:=a;have h:=Wt 1 h;exact h⟩
  intro eY ⟨⟨aT,aV⟩,d9,bC⟩ cB ⟨Q,cC,d'⟩;have d_:eP bC:=sM bA Q;have eZ:bC.length+1<=m0 cz:=sN bA Q;refine Al Y O qZ λe0=>aw 0 Y O O O qk O O O<|ag<|ak<|ab O ?_;refine Lb Y O gQ O O O O λe2=>jW (T:=9) (m:=2) 0 [[93],[61]] O O (show 2<=2 by decide) (by decide) λea ec=>Lf 1 O<|WL.kx (kU b c d9 bC ea _ _ [[93],[61]] ec d') ?_ ?_
  ·intro ⟨j,n⟩ g;refine Ep<|WE.cp<|WE.cp<|Ep ?_;refine b_ λo a=>?_;rcases abT g with g | ⟨aB,ed,g⟩;·exact be ⟨j,n,O,by simp only [gL,hI,hT,hF,hU,hG,hH,y,B,D,E,G,H,P,Q,g,cH,a5,fg,bi],by have h:=a;have h:=Wt 1 h;have h:=Ws.aZ h (cI:=[c]) (by simp);exact h⟩
   ·exact be ⟨j,n,O,by simp only [gL,hI,hT,hF,hU,hG,hH,y,B,D,E,G,H,P,Q,ed,g,cH,a5,fg,bi],by have h:=a;have h:=Wt 1 h;have h:=Ws.aZ h (cI:=[c]) (by simp);exact h⟩
  intro ⟨ee,cD⟩ ⟨af,eg⟩;have bD:=kT d_ af;refine ag<|CU (λ_=>ad) [2,0] [7] (.q ad 0<|.q aq 1<|.q aq 4<|.e 2 (.e 3 (.e 5 (.q aq 6 .nil) .stop)<|.e 5 (.e 3 (.q aq 6 .nil) .stop) .stop) .stop) mixed (by kernel_rfl) (λ_ _ _ d _ _ h=>by cases d<;>exact h)<|U0 O (dn [2,0]) (dW 0 O O cZ O)<|U0 O (dn [2,0]) (Ym O)<|U0 O (dn [2,0]) (Yf e1 O) ?_;refine Ue O (dn [2,0]) ?_ WU.stop;refine WL.ke (sS (λb r l d w t u v z=>xH c 6 b r l d w t u v z) b ee cD 1 O bD eg) ?_ ?_;·intro ⟨j,n⟩ g;refine Ep<|WE.cp<|WE.cp<|Ep ?_;refine b_ λo a=>?_;obtain ⟨aB,R,S⟩:=Dy af;exact be ⟨j,n,O,by simp only [gL,hI,hT,hF,hU,hG,hH,y,B,D,E,G,H,P,Q,R,S,g,cH,a5,fg,bi],by have h:=a;have h:=Wt 1 h;have h:=Ws.aZ h (cI:=[c]) (by simp);exact h⟩
  intro e4 ⟨⟨aW,aX⟩,cE,a0⟩ cJ ⟨ai,cK,cL⟩;have cM:eP a0:=sM bD ai;have e5:a0.length+1<=m0 cD:=sN bD ai;refine Ln<|Eu ?_;refine Ue O (λ_ h=>(Wv 1<|Wo 0<|Wo 2 h:)) ?_ ?_
  ·refine Lb Y O sR O O O O λbE=>LN (rd:=sP) (f:=XE.cells) (m:=2) 0 [(aT,aV.1,aV.2),(aW,aX.1,aX.2)] O O (λk C=>by simp [b5,aQ] at C;subst C;simp [gk,b5,aQ,eV]) XE.dR (λ_ _ _ _ h=>h) (show 2<=2 by decide) (by decide) λeh bF bG=>Ln<|Eu ?_;refine Ue O (λ_ h=>(Wv 2<|Wo 0<|Wo 2 h:)) ?_ WU.stop;refine aw 2 Y O O O eE O O O<|Ln<|Eu<|U0 O (λ_ h=>(Wv 2<|Wo 0<|Wo 2 h:)) (Yf sL O) ?_;refine WU.nil (λ_ h=>(Wv 2<|Wo 0<|Wo 2 h:))<|WS.e O<|aw 2 Y O O O u7 O O O<|Ln<|Es ?_;refine WS.nil<|Eb<|Eb<|Et<|ak<|ab O ?_;refine Lb Y O gQ O O O O λax=>jW (T:=9) (m:=1) 0 [[59]] O O (show 1<=1 by decide) (by decide) λJ K=>WL.kx (kU b c cE a0 J _ _ [[59]] K cL) ?_ ?_;·intro ⟨j,n⟩ g;rw [gy] at g;refine Ep<|b_ λo a=>?_;obtain ⟨aB,R,S⟩:=Dy af;exact be ⟨j,n,O,by simp only [gL,hI,hT,hF,hU,hG,hH,y,B,D,E,G,H,P,Q,R,S,ai,g,cH,a5,fg,bi],by have h:=a;have h:=Wt 1 h;have h:=Ws.aZ h (cI:=[c]) (by simp);exact h⟩
   intro ⟨L,M⟩ ⟨A,N⟩;have az:=kT cM A;rw [gy] at A;refine ag<|ak<|V0 (dW 2 O O mV O)<|aw 3 Y O O O tR O O O<|ag<|bu ?_;refine WE.gF (kJ O<|fj 3 O O mV O) λo a=>?_;obtain ⟨aB,R,S⟩:=Dy af;exact bB ⟨cG.mk 2 U.1 U.2 [aT,aW] [] [],⟨(aa ⟨bE,0,ao⟩,2),((ao,0):aA a6×Z),((ao,0):aA a6×Z)⟩,L,M,O,by simp only [gL,hI,hT,hF,hU,hG,hH,y,B,D,E,G,H,P,Q,R,S,ai,A,cH,a5,fg,bi],⟨sQ bG (fm a (by simp) bF) (cX.refl _)<|((mX.nil (nv w o) 6).snoc (cX.refl _) (fm a (by simp) cB) cC).snoc (cX.refl _) (fm a (by simp) cJ) cK,Sl.nil,Sl.nil⟩,N,Wv 5<|Wt 1 a⟩
  refine Ue O (λ_ h=>(Wv 1<|Wo 0<|Wo 2 h:)) ?_ WU.stop;refine aw 2 Y O O O eE O O O<|Ln<|Eu ?_;refine Ue O (λ_ h=>(Wv 1<|Wo 0<|Wo 2 h:)) ?_ WU.stop;refine Lb Y O sR O O O O λbE=>LN (rd:=sP) (f:=XE.cells) (m:=2) 0 [(aT,aV.1,aV.2),(aW,aX.1,aX.2)] O O (λk C=>by simp [b5,aQ] at C;subst C;simp [gk,b5,aQ,eV]) XE.dR (λ_ _ _ _ h=>h) (show 2<=2 by decide) (by decide) λeh bF bG=>Ln<|Eu<|U0 O (λ_ h=>(Wv 2<|Wo 0<|Wo 2 h:)) (Yf sL O) ?_;refine WU.nil (λ_ h=>(Wv 2<|Wo 0<|Wo 2 h:))<|WS.e O<|aw 2 Y O O O u7 O O O<|Ln<|Es ?_;refine WS.nil<|Eb<|Eb<|Et<|ak<|ab O ?_;refine Lb Y O gQ O O O O λax=>jW (T:=9) (m:=1) 0 [[59]] O O (show 1<=1 by decide) (by decide) λJ K=>WL.kx (kU b c cE a0 J _ _ [[59]] K cL) ?_ ?_;·intro ⟨j,n⟩ g;rw [gy] at g;refine Ep<|b_ λo a=>?_;obtain ⟨aB,R,S⟩:=Dy af;exact be ⟨j,n,O,by simp only [gL,hI,hT,hF,hU,hG,hH,y,B,D,E,G,H,P,Q,R,S,ai,g,cH,a5,fg,bi],by have h:=a;have h:=Wt 1 h;have h:=Ws.aZ h (cI:=[c]) (by simp);exact h⟩
  intro ⟨L,M⟩ ⟨A,N⟩;have az:=kT cM A;rw [gy] at A;refine ag<|ak<|V0 (dW 2 O O mV O)<|aw 3 Y O O O tR O O O<|ag<|bu ?_;refine WE.gF (kJ O<|fj 3 O O mV O) λo a=>?_;obtain ⟨aB,R,S⟩:=Dy af;exact bB ⟨cG.mk 2 U.1 U.2 [aT,aW] [] [],⟨(aa ⟨bE,0,ao⟩,2),((ao,0):aA a6×Z),((ao,0):aA a6×Z)⟩,L,M,O,by simp only [gL,hI,hT,hF,hU,hG,hH,y,B,D,E,G,H,P,Q,R,S,ai,A,cH,a5,fg,bi],⟨sQ bG (fm a (by simp) bF) (cX.refl _)<|((mX.nil (nv w o) 6).snoc (cX.refl _) (fm a (by simp) cB) cC).snoc (cX.refl _) (fm a (by simp) cJ) cK,Sl.nil,Sl.nil⟩,N,Wv 5<|Wt 1 a⟩
 obtain ⟨a1,ej⟩:=d8 bz;subst ej;refine ak<|ab O ?_;refine Lb Y O gQ O O O O λe6=>jW (T:=9) (m:=1) 0 [[61]] O O (show 1<=1 by decide) (by decide) λek el=>WL.kx (kU b c cy bs ek _ _ [[61]] el cA) ?_ ?_;·intro ⟨j,n⟩ g;rw [gy] at g;refine Ep<|WE.cp<|WE.cp<|Ep ?_;refine b_ λo a=>be ⟨j,n,O,by simp only [gL,hI,hT,hF,hU,hG,hH,y,B,D,E,G,H,a1,g,cH,a5,fg,bi],by have h:=a;have h:=Wt 1 h;have h:=Ws.aZ h (cI:=[c]) (by simp);exact h⟩
 intro ⟨em,cN⟩ ⟨aF,en⟩;have bI:=kT bt aF;rw [gy] at aF;refine ag<|Cr<|ab O ?_;refine WL.ke (sS (λb r l d w t u v z=>xH c 6 b r l d w t u v z) b em cN 1 O bI en) ?_ ?_;·intro ⟨j,n⟩ g;refine WE.cp<|WE.cp<|Ep ?_;refine b_ λo a=>be ⟨j,n,O,by simp only [gL,hI,hT,hF,hU,hG,hH,y,B,D,E,G,H,a1,aF,g,cH,a5,fg,bi],by have h:=a;have h:=Wt 1 h;have h:=Ws.aZ h (cI:=[c]) (by simp);exact h⟩
 intro eo ⟨⟨cP,cQ⟩,ep,bJ⟩ eq ⟨a2,er,es⟩;have et:eP bJ:=sM bI a2;have e7:bJ.length+1<=m0 cN:=sN bI a2;refine Lb Y O sR O O O O λeu=>LN (rd:=sP) (f:=XE.cells) (m:=1) 0 [(cP,cQ.1,cQ.2)] O O (λk C=>by simp [b5,aQ] at C;subst C;simp [gk,b5,aQ,eV]) XE.dR (λ_ _ _ _ h=>h) (show 1<=1 by decide) (by decide) λe8 ev ew=>V0 (Yf e1 O)<|aw 1 Y O O O eE O O O<|V0 (Yf sL O)<|aw 1 Y O O O u7 O O O<|Ln<|Eb<|Eb<|Et<|ak<|ab O ?_;refine Lb Y O gQ O O O O λax=>jW (T:=9) (m:=1) 0 [[59]] O O (show 1<=1 by decide) (by decide) λJ K=>WL.kx (kU b c ep bJ J _ _ [[59]] K es) ?_ ?_;·intro ⟨j,n⟩ g;rw [gy] at g;refine Ep<|b_ λo a=>be ⟨j,n,O,by simp only [gL,hI,hT,hF,hU,hG,hH,y,B,D,E,G,H,a1,aF,a2,g,cH,a5,fg,bi],by have h:=a;have h:=Wt 1 h;have h:=Ws.aZ h (cI:=[c]) (by simp);exact h⟩
 intro ⟨L,M⟩ ⟨A,N⟩;have az:=kT et A;rw [gy] at A;refine ag<|ak<|V0 (dW 1 O O mV O)<|aw 2 Y O O O tR O O O<|ag<|bu ?_;refine WE.gF (kJ O<|fj 2 O O mV O) λo a=>bB ⟨cG.mk 1 U.1 U.2 [cP] [] [],⟨(aa ⟨eu,0,ao⟩,1),((ao,0):aA a6×Z),((ao,0):aA a6×Z)⟩,L,M,O,by simp only [gL,hI,hT,hF,hU,hG,hH,y,B,D,E,G,H,a1,aF,a2,A,cH,a5,fg,bi],⟨sQ ew (fm a (by simp) ev) (fm a (by simp) eq)<|(mX.nil eo 6).snoc (cX.refl _) (cX.refl _) er,Sl.nil,Sl.nil⟩,N,Wv 4<|Wt 1 a⟩
def SL (b:View) (f:Z) (j:Z) (r:aA a6×Z) (l:Tk) (d:Z) (w:aP) (a7:f+d=7) (E:eP l) (aj:Sl e3 3 b r.1 r.2 l) (o:Ws w (c6 bh.ids<|b5 j r l) (b5 j r l) [b] w) :
   cx aC 212 #[b8 (aa ⟨j,0,ao⟩),am an (d:ac)] w λe t=>(∃(x:I cG) (s:aA a6×Z) (r2:aA a6×Z) (q:Tk),e = cf (aE s.1 x.length s.2)/\iF f l=aa (x,q)/\Sl (jV 7 f) 6 (nv w t) s.1 s.2 x/\Sl e3 3 b r2.1 r2.2 q/\Ws w (c6 bh.ids<|b5 j r l) (b5 j r2 q) [b] t)\/(∃(r2:aA a6×Z) (q:Tk),e = .panicked iZ/\iF f l=ao/\Ws w (c6 bh.ids<|b5 j r l) (b5 j r2 q) [b] t):=by
 induction f using om generalizing j r l d w;rename_i f al;refine enter func212 O 23 O O<|CE o<|ak<|au O<|ag<|Cs<|ak<|ab O<|V0 (eZ O O)<|ag ?_;refine Cc O (λG=>?_)<|λG=>?_
 ·have ap:iF f l=ao:=by
   obtain rfl:f=0:=by simp at G;omega
   rfl
  refine Cr<|V0 (Yb wl kA O O)<|V0 (r6 wm O) ?_;refine WL.panic Y O<|Ep<|b_ λt o=>be ⟨r,l,O,ap,by have h:=o;exact h⟩
 have a9:¬6<d:=by simp at G;omega
 obtain ⟨f,rfl⟩:∃k,f=k+1:=⟨f-1,ai⟩;have av:SJ b f:=λj r l d w v y z H=>al f ai j r l d w v y z H;refine ay<|ak<|ab O ?_;refine Lb Y O gQ O O O O λa'=>jW (T:=9) (m:=1) 0 [[123]] O O (show 1<=1 by decide) a8 λaw ax=>WL.kx (kU j b r l aw _ _ [[123]] ax aj) ?_ ?_;·intro ⟨K,L⟩ B;rw [gy] at B;refine Ep<|b_ λt o=>be ⟨K,L,O,by rw [iF,B];rfl,by have h:=o;have h:=Ws.aZ h (cI:=[b]) aK;exact h⟩
 intro ⟨az,M⟩ ⟨C,aB⟩;have aD:=kT E C;rw [gy] at C;refine ag<|ak<|au O<|LW (λ_ h=>h.hM 241 6) ?_;refine WL.v0<|ag<|Cs<|Cb ?_;refine f_ (ι:=GS) (λg=>[(5,aE g.a g.es.length g.c)]) [(0,_),(1,_),(4,_)] (λg=>Ws w (c6 bh.ids<|b5 j r l) (b5 j g.r g.q++[cQ 241 6 SX.cells g.a g.c g.es]) [g.J,b]) (λg=>(g.es.length+g.q.length<=l.length/\eP g.q)/\Sl e3 3 b g.r.1 g.r.2 g.q/\(hf w g.J/\wo g.J f g.es)/\∃n,g.q.length<n/\iF (f+1) l=(pw (gL<|iF f) n g.q).map λp=>(g.es.map (·.1)++p.1,p.2)) (λg=>g.q.length) ⟨[],ao,0,v0,az,M⟩ ⟨⟨by have:M.length+1=l.length:=kR C;simp;omega,aD⟩,aB,⟨fK w,wo.nil _ _⟩,M.length+1,aK,by rw [iF,C];simp⟩ (λ_ h=>by have h:=h.bs 1 O;have h:=Ws.aZ h (cI:=[v0,b]) aK;exact h) λg ⟨⟨a_,D⟩,aF,⟨S,U⟩,u⟩=>Cs<|ak<|ab O ?_;refine WL.kw (kr j b g.r g.q [125] aF) λ⟨ba,V,aG⟩ ⟨aH,aI,W⟩=>V0 (ih O)<|ag ?_;refine Cc O (λN=>?_)<|λN=>?_
 ·obtain ⟨X,aL⟩:=aI (by simpa using N);subst aL;obtain ⟨n,aM,u⟩:=u;obtain ⟨n,rfl⟩:∃k,n=k+1:=⟨n-1,ai⟩;refine ay<|Cb<|Cr<|ab O<|ab O<|ab O ?_;refine ro (ι:=(cG×Bp)×(aA a6×Z)×Tk) (κ:=(aA a6×Z)×Tk) [_] _ Y O bp O O (λi=>b0 #[am an (i.1.1).op,st (i.1.1).mod,st (i.1.1).nm,aE (i.1.2).s1.1 (i.1.1).args.length (i.1.2).s1.2,aE (i.1.2).s2.1 (i.1.1).body.length (i.1.2).s2.2,aE (i.1.2).s3.1 (i.1.1).other.length (i.1.2).s3.2]) (λi=>b5 j i.2.1 i.2.2) (λF i=>gL (iF f) g.q=aa (i.1.1,i.2.2)/\zp f F i.1.1 i.1.2/\Sl e3 3 b i.2.1.1 i.2.1.2 i.2.2) (λ_=>iZ) (λi=>b5 j i.1 i.2) (λ_=>gL (iF f) g.q=ao) [b] aK x5 (λw o=>(abX j b V g.q f d w av ai D W o).mono λe t h=>by
   rcases h with ⟨x,s,r2,q,v,y,z,H,aN⟩ | ⟨r2,q,v,y,z⟩;·exact bB ⟨((x,s),r2,q),v,⟨y,z,H⟩,aN⟩
   ·exact be ⟨(r2,q),v,y,z⟩) ?_ ?_;·intro ⟨K,L⟩ B;refine WE.cp<|Ep<|WE.cp<|Ep ?_;refine b_ λt o=>be ⟨K,L,O,by rw [u,abW X B];rfl,by have h:=o;have h:=Wt 1 h;have h:=Ws.aZ h (cI:=[b]) aK;exact h⟩
  intro bb ⟨⟨P,Q⟩,aO,A⟩ aT ⟨R,aU,aV⟩;have aW:eP A:=abR D R;have bc:A.length<m0 g.q:=Z2 (Dg f) (D).all R;refine WL.cb λae aX a0 a1=>Lb Y O SK O O O O λbd=>eb 0 (aY (SX.cells (P,Q)).toArray 241 (0,0)) O O<|LA ((P,Q):SX) 2 0 Y O SK O O O O O O (by have:=E.len;omega) (by have:=E.len;omega) λa2 a3=>au O<|Ln<|Eb ?_;exact ep (⟨g.es++[(P,Q)],a2,a3,ae,aO,A⟩:GS) (by show A.length<g.q.length;omega) ⟨⟨by simp;omega,aW⟩,aV,⟨a1 _ aT S,wo.snoc U a0 aX aU⟩,n,(show A.length<n by omega),by rw [u,abV X R];simp [kl]⟩ (λ_ h=>by have h:=h.bs 2 rfl;have h:=h.bs 2 rfl;have h:=Wt 2 h;have h:=Ws.aZ h (cI:=[ae,b]) aK;exact h)
 have af:=aH (by simpa using N);have bf:=kS D af;obtain ⟨n,aM,u⟩:=u;obtain ⟨n,rfl⟩:∃k,n=k+1:=⟨n-1,ai⟩;refine Ce<|Ex<|Ex<|ee<|Et<|Cs ?_;refine WC.qD (rd:=SH) 1 O (λk ah=>by simp [b5,aQ] at ah;subst ah;simp [gk,b5,aQ,eV]) SX.dR iH λbg a4 a5=>Cr<|ab O<|au O<|ag<|bu ?_;refine R1 O O λt o=>bB ⟨g.es.map (·.1),(g.a,g.c),V,aG,by rw [fB],by rw [u,abU af];simp,abQ a5 (fm o aK a4) (fm o aK S) U,W,Wv 2 o⟩
variable {dS:aS}
def abY {o:aA fd} (h:eP bb) (e:hV dS bb=aa (o,cr)):eP cr:=by cases o with| none=>obtain rfl:=KB e;exact h| some d=>exact wj h (QW h.all e).1
variable {h4:fd}
def abZ (h:eP bb) (e:hV dS bb=aa (aa h4,cr)):cr.length<bb.length:=by have a:=(QW h.all e).1.2;rw [a];simp [hK];omega
variable {i7:gU}
def ab0 (h:eP bb) (e:lC dS bb=aa (i7,cr)):eP cr:=wj h (QZ h.all e).1
def Lc (h:eP bb) (e:lC dS bb=aa (i7,cr)):cr.length<bb.length:=by have a:=(QZ h.all e).1.2;rw [a];simp [wc];omega
def q0 (h:eP bb) (e:ie bb=aa (bR,cr)):cr.length<bb.length:=by have a:=(uY h.all e).1.2;rw [a];simp
def Ei (a:dS=ad->bG [112,117,98] bb=aa cr) (b:dS=aq->bG [112,117,98] bb=ao/\bb=cr):gD bb=(dS,cr):=by unfold gD;rw [show y6=[112,117,98] from rfl];cases dS with| true=>rw [a rfl];rfl| false=>obtain ⟨c,d⟩:=b rfl;rw [c,d];rfl
def Eo (h:eP bb) (a:dS=ad->bG [112,117,98] bb=aa cr) (b:dS=aq->bG [112,117,98] bb=ao/\bb=cr):eP cr/\cr.length<=bb.length:=by cases dS with| true=>exact ⟨kS h<|a rfl,by have:=kR<|a rfl;omega⟩| false=>obtain ⟨_,c⟩:=b rfl;subst c;exact ⟨h,c7 _⟩
def ab1 (h:bG [41] bb=aa cr):cD (bE+1) dS bb=aa ([],cr):=by rw [cD,h]
def ab2 (h:bG [41] bb=ao) (a:ie bb=aa (bR,cr)):cD (bE+1) ad bb=(cD bE aq cr).map λp=>(bR::p.1,p.2):=by rw [cD,h];simp [a]
def ab3 (h:bG [41] bb=ao) (a:ie bb=ao):cD (bE+1) ad bb=ao:=by rw [cD,h];simp [a]
variable {i8:Tk}
def ab4 (h:bG [41] bb=ao) (a:bG [44] bb=aa cr) (b:ie cr=aa (bR,i8)):cD (bE+1) aq bb=(cD bE aq i8).map λp=>(bR::p.1,p.2):=by rw [cD,h];simp [b,a]
def ab5 (h:bG [41] bb=ao) (a:bG [44] bb=ao):cD (bE+1) aq bb=ao:=by rw [cD,h];simp [a]
def ab6 (h:bG [41] bb=ao) (a:bG [44] bb=aa cr) (b:ie cr=ao):cD (bE+1) aq bb=ao:=by rw [cD,h];simp [b,a]
def isNil (l:I Tx):aS:=match l with| []=>ad| _=>aq
def SM (l:I Tx) (x:Tx):isNil (l++[x])=aq:=by cases l<;>rfl
variable {eh:I Tx}
def ab7 (h:¬0<eh.length):isNil eh=ad:=by cases eh with| nil=>rfl| cons _ _=>exact absurd aK h
def ab8 (h:0<eh.length):isNil eh=aq:=by cases eh with| nil=>simp at h| cons _ _=>rfl
structure Br where
 s1:aA a6×Z
 s2:aA a6×Z
 s3:aA a6×Z
abbrev PX:=gU×Br
def PX.cells (e:PX):I aR:=IW e.1 e.2.s1.1 e.2.s1.2 e.2.s2.1 e.2.s2.2 e.2.s3.1 e.2.s3.2
def PX.dR (e:PX):(PX.cells e).length=5:=rfl
def SN (a:View) (b o:Z) (e:PX):Prop:=cB a b o<|PX.cells e
structure zq (N:View) (x:gU) (p:Br):Prop where
 params:Sl rdStr 1 N p.s1.1 p.s1.2 x.params
 aX:Sl rdStr 1 N p.s2.1 p.s2.2 x.aX
 body:Sl (jV 7 6) 6 N p.s3.1 p.s3.2 x.body
def wq (h:Sl rdStr 1 bN cq bE eh) (hv:cX bN cR):Sl rdStr 1 cR cq bE eh:=h.imp λb o y a=>Aj hv b o y a
def SO {l:I fd} (h:Sl Ak 4 bN cq bE l) (hv:cX bN cR):Sl Ak 4 cR cq bE l:=h.imp λb o y a=>Wn hv b o y a
variable {Hq:Br}
def zq.mv (h:zq bN i7 Hq) (hv:cX bN cR):zq cR i7 Hq:=⟨wq h.params hv,wq h.aX hv,wn h.body hv⟩
def wr (J:View) (es:I PX):Prop:=∀e ∈ es,zq J e.1 e.2
def wr.nil (J:View):wr J []:=by intro e h;simp at h
def wr.snoc {J c b:View} {es:I PX} {e:PX} (h:wr J es) (d:cX J b) (f:cX c b) (g:zq c e.1 e.2):wr b<|es++[e]:=by
 intro x a;rcases fe.1 a with a | a;·exact (h x a).mv d
 ·rw [e_] at a;subst a;exact g.mv f
def ab9 {es:I PX} (h:Sl SN 5 bN cq bE es) (hv:cX bN nY) (f:cX cR nY) (g:wr cR es):Sl (Ft 7 6) 5 nY cq bE (es.map (·.1)):=by refine ⟨by simpa using h.cap,h.max,h.spot,λi x c=>?_⟩;rw [fp] at c;obtain ⟨e,d,rfl⟩:=eQ.1 c;obtain ⟨b,o,j,k⟩:=h.ct i e d;have a:=(g e<|aW d).mv f;exact ⟨b,o,j,e.2.s1.1,e.2.s1.2,e.2.s2.1,e.2.s2.2,e.2.s3.1,e.2.s3.2,cB.mono hv k,a.params,a.aX,a.body⟩
structure GN where
 ps:I Tx
 a:aA a6
 c:Z
 r:aA a6×Z
 q:Tk
structure GD where
 ds:I fd
 a:aA a6
 c:Z
 dp:aS
 r:aA a6×Z
 q:Tk
structure GM where
 ps:I PX
 a:aA a6
 c:Z
 J:View
 dp:aS
 r:aA a6×Z
 q:Tk
def ab' (h:bG [108,111,99,97,108] bb=ao):mn (bE+1) bb=aa ([],bb):=by rw [mn,show tK=[108,111,99,97,108] from rfl,h]
variable {zi:Tk}
def ab_ (h:bG [108,111,99,97,108] bb=aa cr) (a:ie cr=aa (bR,i8)) (b:bG [59] i8=aa zi):mn (bE+1) bb=(mn bE zi).map λp=>(bR::p.1,p.2):=by rw [mn,show tK=[108,111,99,97,108] from rfl,h];simp [a,b]
def aca (h:bG [108,111,99,97,108] bb=aa cr) (a:ie cr=ao):mn (bE+1) bb=ao:=by rw [mn,show tK=[108,111,99,97,108] from rfl,h];simp [a]
def acb (h:bG [108,111,99,97,108] bb=aa cr) (a:ie cr=aa (bR,i8)) (b:bG [59] i8=ao):mn (bE+1) bb=ao:=by rw [mn,show tK=[108,111,99,97,108] from rfl,h];simp [a,b]
def acc (h:bG [117,115,101] bb=ao):mU (bE+1) bb=aa ([],bb):=by rw [mU,show sA=[117,115,101] from rfl,h]
def acd (h:bG [117,115,101] bb=aa cr) (a:ie cr=aa (bR,i8)) (b:bG [59] i8=aa zi):mU (bE+1) bb=(mU bE zi).map λp=>(bR::p.1,p.2):=by rw [mU,show sA=[117,115,101] from rfl,h];simp [a,b]
def ace (h:bG [117,115,101] bb=aa cr) (a:ie cr=ao):mU (bE+1) bb=ao:=by rw [mU,show sA=[117,115,101] from rfl,h];simp [a]
def acf (h:bG [117,115,101] bb=aa cr) (a:ie cr=aa (bR,i8)) (b:bG [59] i8=ao):mU (bE+1) bb=ao:=by rw [mU,show sA=[117,115,101] from rfl,h];simp [a,b]
def acg (h:hV dS bb=aa (ao,cr)):dz (bE+1) dS bb=aa (([],dS),cr):=by rw [dz,h];rfl
variable {qG:aS}
def ach (h:hV dS bb=aa (aa h4,cr)) (a:gD cr=(qG,i8)):dz (bE+1) dS bb=(dz bE qG i8).map λp=>((h4::p.1.1,p.1.2),p.2):=by rw [dz,h];simp only [cH];rw [a]
def aci (h:hV dS bb=ao):dz (bE+1) dS bb=ao:=by rw [dz,h];rfl
def acj (h:bG [112,114,111,99] bb=ao):od (bE+1) dS bb=aa (([],dS),bb):=by rw [od,show sB=[112,114,111,99] from rfl,h]
def ack (a:bG [112,114,111,99] bb=aa cr) (h:lC dS cr=aa (i7,i8)) (b:gD i8=(qG,zi)):od (bE+1) dS bb=(od bE qG zi).map λp=>((i7::p.1.1,p.1.2),p.2):=by rw [od,show sB=[112,114,111,99] from rfl,a];simp only;rw [h];simp only [cH];rw [b]
def acl (a:bG [112,114,111,99] bb=aa cr) (h:lC dS cr=ao):od (bE+1) dS bb=ao:=by rw [od,show sB=[112,114,111,99] from rfl,a];simp only;rw [h];rfl
def acm:hW aC 109=aa [(0,1),(1,1),(2,1),(3,1)]:=ah
def acn (d:Z) (b:View) (r:aA a6×Z) (l:Tk) (dp:aS) (w:aP) (H:eP l) (ae:Sl e3 3 b r.1 r.2 l) (a:Ws w (c6 bh.ids<|b5 d r l) (b5 d r l) [b] w) :
   cx aC 210 #[b8 (aa ⟨d,0,ao⟩),bW dp] w λe i=>(∃(o:aA fd) (r2:aA a6×Z) (q:Tk),e = cf (cO #[b0 #[am an ((o).getD (⟨0,[],dp,0⟩:fd)).kind,st ((o).getD (⟨0,[],dp,0⟩:fd)).nm,bW ((o).getD (⟨0,[],dp,0⟩:fd)).dp,am an ((o).getD (⟨0,[],dp,0⟩:fd)).n],bW (o).isSome])/\hV dp l=aa (o,q)/\Sl e3 3 b r2.1 r2.2 q/\Ws w (c6 bh.ids<|b5 d r l) (b5 d r2 q) [b] i)\/(∃(r2:aA a6×Z) (q:Tk),e = .panicked iZ/\hV dp l=ao/\Ws w (c6 bh.ids<|b5 d r l) (b5 d r2 q) [b] i):=by
 refine enter func210 O 50 O O<|CE a<|ak ?_;refine Al Y O zm λbF=>au O<|ag<|ak<|ab O<|V0 (Yb zm acm O O) ?_;refine Al Y O zm λbG=>aw 0 Y O O O wi O O O<|ag<|Cs<|Cb<|ak<|ab O<|Lf 2 O ?_;refine WL.kw (kr d b r l [99,111,110,115,116] ae) λ⟨bI,P,af⟩ ⟨ah,ai,Q⟩=>au O<|ag ?_;refine Cc O (λJ=>?_)<|λJ=>?_
 ·have t:=ah J;have aj:=kS H t;refine ak<|ab O ?_;refine WL.kx (tV d b P af Q) ?_ ?_;·intro ⟨f,g⟩ c;refine Ep<|WE.cp<|Ep ?_;refine b_ λi a=>be ⟨f,g,O,by simp only [hV,l0,l1,l2,t,c,cH,a5,fg,bi],by have h:=a;have h:=Wt 1 h;exact h⟩
  intro ⟨al,ap,av⟩ ⟨x,ax⟩;have ay:=h5 aj x;refine V0 (Yf Bf O)<|aw 1 Y O O O eE O O O<|V0 (Yf p' O)<|aw 1 Y O O O DA O O O<|ag<|ak<|ab O ?_;refine Lb Y O gQ O O O O λbJ=>jW (T:=9) (m:=1) 0 [[61]] O O (show 1<=1 by decide) a8 λaz aB=>WL.kx (kU d b ap av az _ _ [[61]] aB ax) ?_ ?_;·intro ⟨f,g⟩ c;rw [gy] at c;refine Ep<|WE.cp<|Ep ?_;refine b_ λi a=>be ⟨f,g,O,by simp only [hV,l0,l1,l2,t,x,c,cH,a5,fg,bi],by have h:=a;have h:=Wt 1 h;have h:=Ws.aZ h (cI:=[b]) aK;exact h⟩
  intro ⟨aD,aF⟩ ⟨y,aG⟩;have aH:=kT ay y;rw [gy] at y;refine ag<|Cr<|ab O ?_;refine WL.kx (CS d b aD aF aG) ?_ ?_;·intro ⟨f,g⟩ c;refine WE.cp<|Ep ?_;refine b_ λi a=>be ⟨f,g,O,by simp only [hV,l0,l1,l2,t,x,y,c,cH,a5,fg,bi],by have h:=a;have h:=Wt 1 h;have h:=Ws.aZ h (cI:=[b]) aK;exact h⟩
  intro ⟨aI,aL,aM⟩ ⟨K,aN⟩;have aO:=K_ aH K;refine V0 (Yf wg O)<|aw 1 Y O O O eE O O O<|Ln<|Eb<|Et<|ak<|ab O ?_;refine Lb Y O gQ O O O O λR=>jW (T:=9) (m:=1) 0 [[59]] O O (show 1<=1 by decide) a8 λz A=>WL.kx (kU d b aL aM z _ _ [[59]] A aN) ?_ ?_;·intro ⟨f,g⟩ c;rw [gy] at c;refine Ep<|b_ λi a=>be ⟨f,g,O,by simp only [hV,l0,l1,l2,t,x,y,K,c,cH,a5,fg,bi],by have h:=a;have h:=Wt 1 h;have h:=Ws.aZ h (cI:=[b]) aK;exact h⟩
  intro ⟨B,C⟩ ⟨j,D⟩;have S:=kT aO j;rw [gy] at j;refine ag<|ak<|V0 (dW 1 O O e5 O)<|aw 2 Y O O O wi O O O<|au O<|ag<|bu ?_;refine WE.gF (hX O (fj 2 O O e5 O)<|jI O) λi a=>bB ⟨aa ⟨1,al,dp,aI⟩,B,C,O,by simp only [hV,l0,l1,l2,t,x,y,K,j,cH,a5,fg,bi],D,Wv 2<|Wt 1 a⟩
 obtain ⟨k,aQ⟩:=ai J;subst aQ;refine ak<|ab O ?_;refine WL.kw (kr d b P l [118,97,114] Q) λ⟨bK,U,aT⟩ ⟨aV,aW,V⟩=>au O<|ag ?_;refine Cc O (λL=>?_)<|λL=>?_
 ·have E:=aV L;have aX:=kS H E;refine Cr<|ab O ?_;refine WL.kx (tV d b U aT V) ?_ ?_;·intro ⟨f,g⟩ c;refine WE.cp<|Ep ?_;refine b_ λi a=>be ⟨f,g,O,by simp only [hV,l0,l1,l2,k,E,c,cH,a5,fg,bi],by have h:=a;have h:=Wt 1 h;exact h⟩
  intro ⟨a0,a1,a2⟩ ⟨M,a3⟩;have a4:=h5 aX M;refine V0 (Yf Bf O)<|aw 1 Y O O O eE O O O<|V0 (Yf p' O)<|aw 1 Y O O O DA O O O<|Ln<|Eb<|Et<|ak<|ab O ?_;refine Lb Y O gQ O O O O λR=>jW (T:=9) (m:=1) 0 [[59]] O O (show 1<=1 by decide) a8 λz A=>WL.kx (kU d b a1 a2 z _ _ [[59]] A a3) ?_ ?_;·intro ⟨f,g⟩ c;rw [gy] at c;refine Ep<|b_ λi a=>be ⟨f,g,O,by simp only [hV,l0,l1,l2,k,E,M,c,cH,a5,fg,bi],by have h:=a;have h:=Wt 1 h;have h:=Ws.aZ h (cI:=[b]) aK;exact h⟩
  intro ⟨B,C⟩ ⟨j,D⟩;have S:=kT a4 j;rw [gy] at j;refine ag<|ak<|V0 (dW 1 O O e5 O)<|aw 2 Y O O O wi O O O<|au O<|ag<|bu ?_;refine WE.gF (hX O (fj 2 O O e5 O)<|jI O) λi a=>bB ⟨aa ⟨2,a0,dp,0⟩,B,C,O,by simp only [hV,l0,l1,l2,k,E,M,j,cH,a5,fg,bi],D,Wv 1<|Wt 1 a⟩
 obtain ⟨p,a7⟩:=aW L;subst a7;refine ak<|ab O ?_;refine WL.kw (kr d b U l [97,114,114,97,121] V) λ⟨bL,W,a9⟩ ⟨a',a_,X⟩=>au O<|ag ?_;refine Cc O (λN=>?_)<|λN=>?_
 ·have s:=a' N;have ba:=kS H s;refine ak<|ab O ?_;refine WL.kx (tV d b W a9 X) ?_ ?_;·intro ⟨f,g⟩ c;refine Ep<|WE.cp<|Ep ?_;refine b_ λi a=>be ⟨f,g,O,by simp only [hV,l0,l1,l2,k,p,s,c,cH,a5,fg,bi],by have h:=a;have h:=Wt 1 h;exact h⟩
  intro ⟨bb,bc,bd⟩ ⟨u,bf⟩;have bg:=h5 ba u;refine V0 (Yf Bf O)<|aw 1 Y O O O eE O O O<|V0 (Yf p' O)<|aw 1 Y O O O DA O O O<|ag<|ak<|ab O ?_;refine Lb Y O gQ O O O O λbM=>jW (T:=9) (m:=1) 0 [[91]] O O (show 1<=1 by decide) a8 λbj bk=>WL.kx (kU d b bc bd bj _ _ [[91]] bk bf) ?_ ?_;·intro ⟨f,g⟩ c;rw [gy] at c;refine Ep<|WE.cp<|Ep ?_;refine b_ λi a=>be ⟨f,g,O,by simp only [hV,l0,l1,l2,k,p,s,u,c,cH,a5,fg,bi],by have h:=a;have h:=Wt 1 h;have h:=Ws.aZ h (cI:=[b]) aK;exact h⟩
  intro ⟨bl,bm⟩ ⟨v,bn⟩;have bo:=kT bg v;rw [gy] at v;refine ag<|ak<|ab O ?_;refine WL.kx (CS d b bl bm bn) ?_ ?_;·intro ⟨f,g⟩ c;refine Ep<|WE.cp<|Ep ?_;refine b_ λi a=>be ⟨f,g,O,by simp only [hV,l0,l1,l2,k,p,s,u,v,c,cH,a5,fg,bi],by have h:=a;have h:=Wt 1 h;have h:=Ws.aZ h (cI:=[b]) aK;exact h⟩
  intro ⟨bp,bq,br⟩ ⟨F,bs⟩;have bt:=K_ bo F;refine V0 (Yf wg O)<|aw 1 Y O O O eE O O O<|ag<|Cr<|ab O ?_;refine Lb Y O gQ O O O O λbN=>jW (T:=9) (m:=1) 0 [[93]] O O (show 1<=1 by decide) a8 λbv bw=>WL.kx (kU d b bq br bv _ _ [[93]] bw bs) ?_ ?_;·intro ⟨f,g⟩ c;rw [gy] at c;refine WE.cp<|Ep ?_;refine b_ λi a=>be ⟨f,g,O,by simp only [hV,l0,l1,l2,k,p,s,u,v,F,c,cH,a5,fg,bi],by have h:=a;have h:=Wt 1 h;have h:=Ws.aZ h (cI:=[b]) aK;exact h⟩
  intro ⟨bx,bz⟩ ⟨G,bA⟩;have bC:=kT bt G;rw [gy] at G;refine Ln<|Eb<|Et<|ak<|ab O ?_;refine Lb Y O gQ O O O O λR=>jW (T:=9) (m:=1) 0 [[59]] O O (show 1<=1 by decide) a8 λz A=>WL.kx (kU d b bx bz z _ _ [[59]] A bA) ?_ ?_;·intro ⟨f,g⟩ c;rw [gy] at c;refine Ep<|b_ λi a=>be ⟨f,g,O,by simp only [hV,l0,l1,l2,k,p,s,u,v,F,G,c,cH,a5,fg,bi],by have h:=a;have h:=Wt 1 h;have h:=Ws.aZ h (cI:=[b]) aK;exact h⟩
  intro ⟨B,C⟩ ⟨j,D⟩;have S:=kT bC j;rw [gy] at j;refine ag<|ak<|V0 (dW 1 O O e5 O)<|aw 2 Y O O O wi O O O<|au O<|ag<|bu ?_;refine WE.gF (hX O (fj 2 O O e5 O)<|jI O) λi a=>bB ⟨aa ⟨3,bb,dp,bp⟩,B,C,O,by simp only [hV,l0,l1,l2,k,p,s,u,v,F,G,j,cH,a5,fg,bi],D,Wv 3<|Wt 1 a⟩
 obtain ⟨bD,bE⟩:=a_ N;subst bE;refine ak<|V0 (dW 1 O O e5 O)<|aw 2 Y O O O wi O O O<|au O<|ag<|bu<|aU<|Er ?_;refine WE.gF (hX O (fj 2 O O e5 O)<|jI O) λi a=>bB ⟨ao,W,l,O,by simp only [hV,l0,l1,l2,k,p,bD,cH,a5,fg,bi],X,Wt 1 a⟩
def aco (a:Z) (b:View) (r:aA a6×Z) (l:Tk) (dp:aS) (g:eP l) (j:Sl e3 3 b r.1 r.2 l):zc aC 210 [b8<|aa ⟨a,0,ao⟩,bW dp] (b5 a r l) [b] (ι:=(aA fd)×(aA a6×Z)×Tk) (κ:=(aA a6×Z)×Tk) (λi=>cO #[b0 #[am an ((i.1).getD (⟨0,[],dp,0⟩:fd)).kind,st ((i.1).getD (⟨0,[],dp,0⟩:fd)).nm,bW ((i.1).getD (⟨0,[],dp,0⟩:fd)).dp,am an ((i.1).getD (⟨0,[],dp,0⟩:fd)).n],bW (i.1).isSome]) (λi=>b5 a i.2.1 i.2.2) (λi=>hV dp l=aa (i.1,i.2.2)/\Sl e3 3 b i.2.1.1 i.2.1.2 i.2.2) (λ_=>iZ) (λi=>b5 a i.1 i.2)<|λ_=>hV dp l=ao:=⟨bp,λw k=>(acn a b r l dp w g j k).mono λe o h=>by
 rcases h with ⟨t,r2,q,c,d,f,m⟩ | ⟨r2,q,c,d,f⟩;·exact bB ⟨(t,r2,q),c,⟨d,f⟩,m⟩
 ·exact be ⟨(r2,q),c,d,f⟩⟩
def DC (nm:Tx) (dp:aS) (a1:aA a6) (n1 c1:Z) (a2:aA a6) (n2 c2:Z) (a3:aA a6) (n3 c3:Z):I aR:=[st nm,bW dp,aE a1 n1 c1,aE a2 n2 c2,aE a3 n3 c3]
def acp:hW aC 113=aa [(0,1),(1,1),(2,1),(3,1),(4,1)]:=ah
def GW:e2 aC 22=aa 1:=ah
def acq (j:Z) (b:View) (r:aA a6×Z) (l:Tk) (dp:aS) (w:aP) (G:eP l) (a7:Sl e3 3 b r.1 r.2 l) (f:Ws w (c6 bh.ids<|b5 j r l) (b5 j r l) [b] w) :
   cx aC 211 #[b8 (aa ⟨j,0,ao⟩),bW dp] w λe z=>(∃(p:gU) (s:Br) (r2:aA a6×Z) (q:Tk),e = cf (b0 #[st (p).nm,bW (p).dp,aE (s).s1.1 (p).params.length (s).s1.2,aE (s).s2.1 (p).aX.length (s).s2.2,aE (s).s3.1 (p).body.length (s).s3.2])/\lC dp l=aa (p,q)/\zq (nv w z) p s/\Sl e3 3 b r2.1 r2.2 q/\Ws w (c6 bh.ids<|b5 j r l) (b5 j r2 q) [b] z)\/(∃(r2:aA a6×Z) (q:Tk),e = .panicked iZ/\lC dp l=ao/\Ws w (c6 bh.ids<|b5 j r l) (b5 j r2 q) [b] z):=by
 refine enter func211 O 46 O O<|CE f<|ak ?_;refine Al Y O zn λaW=>eb 0 (aY (DC [] aq ao 0 0 ao 0 0 ao 0 0).toArray 113 (0,0)) O O<|ag<|ak<|ab O<|ab O<|Lf 1 O ?_;refine WL.kx (tV j b r l a7) ?_ ?_;·intro ⟨u,y⟩ t;refine Ep<|b_ λz f=>be ⟨u,y,O,by simp only [lC,t,fg],by have h:=f;have h:=Wt 1 h;exact h⟩
 intro ⟨aj,a9,al⟩ ⟨D,a_⟩;have ba:=h5 G D;refine V0 (Yb zn acp O O)<|Al Y O zn λa0=>aw 0 Y O O O Bn O O O<|LW (λ_ h=>h.hM 9 1)<|LW (λ_ h=>h.hM 9 1)<|ag<|ak<|ab O ?_;refine Lb Y O gQ O O O O λb2=>jW (T:=9) (m:=1) 0 [[40]] O O (show 1<=1 by decide) a8 λbb bc=>Lf 3 O<|WL.kx (kU j b a9 al bb _ _ [[40]] bc a_) ?_ ?_;·intro ⟨u,y⟩ t;rw [gy] at t;refine Ep<|b_ λz f=>be ⟨u,y,O,by simp only [lC,D,t,cH,fg],by have h:=f;have h:=Wt 1 h;have h:=Ws.aZ h (cI:=[b]) aK;exact h⟩
 intro ⟨bd,U⟩ ⟨E,bf⟩;have bg:=kT ba E;rw [gy] at E;refine ag<|Cs<|Cb ?_;refine f_ (ι:=GN) (λg=>[]) [(0,_),(4,_),(5,_)] (λg=>Ws w (c6 bh.ids<|b5 j r l) (b5 j g.r g.q++[aQ a0<|aY (DC aj dp g.a g.ps.length g.c ao 0 0 ao 0 0).toArray 113 (0,0),cQ 9 1 g4 g.a g.c g.ps,cQ 9 1 g4 ao 0 ([]:I Tx),aQ aW<|aY (DC [] aq ao 0 0 ao 0 0 ao 0 0).toArray 113 (0,0)]) [b]) (λg=>(g.ps.length+g.q.length<=l.length/\eP g.q)/\Sl e3 3 b g.r.1 g.r.2 g.q/\∃n,g.q.length<n/\cD (U.length+1) ad U=(cD n (isNil g.ps) g.q).map λp=>(g.ps++p.1,p.2)) (λg=>g.q.length) ⟨[],ao,0,bd,U⟩ ⟨⟨by have:al.length<l.length:=q0 G D;have:U.length+1=al.length:=kR E;simp;omega,bg⟩,bf,U.length+1,aK,by simp [isNil]⟩ (λ_ h=>by have h:=h.bs 4 O;have h:=h.bs 3 O;have h:=h.bs 3 O;have h:=h.bs 4 O;have h:=h.bs 4 O;have h:=Ws.aZ h (cI:=[b]) aK;exact h) λg ⟨⟨b3,P⟩,bj,o⟩=>Cs<|ak<|ab O ?_;refine WL.kw (kr j b g.r g.q [41] bj) λ⟨b4,ap,V⟩ ⟨bk,bl,au⟩=>V0 (ih O)<|ag ?_;refine Cc O (λav=>?_)<|λav=>?_
 ·obtain ⟨W,bm⟩:=bl (by simpa using av);subst bm;obtain ⟨n,ax,o⟩:=o;obtain ⟨n,rfl⟩:∃k,n=k+1:=⟨n-1,ai⟩;refine ay<|Cb<|Cs<|ak<|V0 (Yf u6 O)<|V0 (Yd 1 O O O ah)<|V0 (Yn gf O)<|V0 (eZ O O)<|ag ?_;refine Cc O (λaz=>?_)<|λaz=>?_
  ·have aB:0<g.ps.length:=by simpa using az
   rw [ab8 aB] at o;refine Cr<|ab O ?_;refine Lb Y O gQ O O O O λb6=>jW (T:=9) (m:=1) 0 [[44]] O O (show 1<=1 by decide) a8 λbn bo=>WL.kx (kU j b ap g.q bn _ _ [[44]] bo au) ?_ ?_;·intro ⟨u,y⟩ t;rw [gy] at t;refine Ep<|WE.cp<|Ep<|WE.cp<|Ep ?_;refine b_ λz f=>?_;rw [ab5 W t] at o;exact be ⟨u,y,O,by simp only [lC,D,E,o,cH,fg,bi],by have h:=f;have h:=Wt 1 h;have h:=Ws.aZ h (cI:=[b]) aK;exact h⟩
   intro ⟨bq,H⟩ ⟨J,br⟩;have ae:=kT P J;rw [gy] at J;refine ag<|CU (λ_=>ad) [0,1] [6,7] (.q aq 0<|.q ad 1<|.q aq 2<|.e 3 (.e 4 (.e 5 .nil .stop) .stop) .stop) mixed ah (λ_ _ _ d _ _ h=>by cases d<;>exact h)<|U0 O (dn [0,1]) (Yf u6 O)<|U0 O (dn [0,1]) (Yd 0 O O O ah)<|U0 O (dn [0,1]) (Ym O) ?_;refine Ue O (dn [0,1]) ?_ WU.stop;refine WL.kx (tV j b bq H br) ?_ ?_;·intro ⟨u,y⟩ t;refine Ep<|WE.cp<|Ep<|WE.cp<|Ep ?_;refine b_ λz f=>?_;rw [ab6 W J t] at o;exact be ⟨u,y,O,by simp only [lC,D,E,o,cH,fg,bi],by have h:=f;have h:=Wt 1 h;have h:=Ws.aZ h (cI:=[b]) aK;exact h⟩
   intro ⟨K,aD,A⟩ ⟨C,aF⟩;have aG:=h5 ae C;refine Ln<|Eu ?_;refine Ue O (dn [0,1]) ?_ WU.stop;refine Lb Y O gQ O O O O λbt=>eb 0 (aY (g4 K).toArray 9 (0,0)) O O<|Ln<|Eu ?_;refine Ue O (λ_ h=>(Wo 1<|Wo 0<|Wd 1 h:)) ?_ WU.stop;refine LA (K:Tx) 3 0 Y O gQ O O O O O O (by have:=G.len;omega) (by have:=G.len;omega) λaH aI=>Ln<|Eu ?_;refine WU.nil (λ_ h=>(Wo 1<|Wo 0<|Wd 1 h:))<|WS.e O<|V0 (Yf u6 O)<|Ln<|Es ?_;refine WS.e O<|aw 2 Y O O O GW O O O<|Ln<|Es ?_;refine WS.nil<|Eb<|ep (⟨g.ps++[K],aH,aI,aD,A⟩:GN) (by have:A.length<H.length:=q0 ae C;have:H.length+1=g.q.length:=kR J;show A.length<g.q.length;omega) ⟨⟨by have:A.length<H.length:=q0 ae C;have:H.length+1=g.q.length:=kR J;simp;omega,aG⟩,aF,n,(show A.length<n by have:A.length<H.length:=q0 ae C;have:H.length+1=g.q.length:=kR J;omega),by rw [o,ab4 W J C,SM];simp [kl]⟩ (λ_ h=>by have h:=h.bs 5 rfl;have h:=h.bs 5 rfl;have h:=h.bs 5 rfl;have h:=h.bs 5 rfl;have h:=h.bs 5 rfl;have h:=Wt 5 h;have h:=Ws.aZ h (cI:=[b]) aK;exact h)
  have aB:¬0<g.ps.length:=by simpa using az
  rw [ab7 aB] at o;refine ay<|CU (λ_=>ad) [0,1] [6,7] (.q aq 0<|.q ad 1<|.q aq 2<|.e 3 (.e 4 (.e 5 .nil .stop) .stop) .stop) mixed ah (λ_ _ _ d _ _ h=>by cases d<;>exact h)<|U0 O (dn [0,1]) (Yf u6 O)<|U0 O (dn [0,1]) (Yd 0 O O O ah)<|U0 O (dn [0,1]) (Ym O) ?_;refine Ue O (dn [0,1]) ?_ WU.stop;refine WL.kx (tV j b ap g.q au) ?_ ?_;·intro ⟨u,y⟩ t;refine Ep<|WE.cp<|Ep<|WE.cp<|Ep ?_;refine b_ λz f=>?_;rw [ab3 W t] at o;exact be ⟨u,y,O,by simp only [lC,D,E,o,cH,fg,bi],by have h:=f;have h:=Wt 1 h;exact h⟩
  intro ⟨K,aD,A⟩ ⟨C,aF⟩;have aG:=h5 P C;refine Ln<|Eu ?_;refine Ue O (dn [0,1]) ?_ WU.stop;refine Lb Y O gQ O O O O λbt=>eb 0 (aY (g4 K).toArray 9 (0,0)) O O<|Ln<|Eu ?_;refine Ue O (λ_ h=>(Wo 1<|Wo 0<|Wd 1 h:)) ?_ WU.stop;refine LA (K:Tx) 3 0 Y O gQ O O O O O O (by have:=G.len;omega) (by have:=G.len;omega) λaH aI=>Ln<|Eu ?_;refine WU.nil (λ_ h=>(Wo 1<|Wo 0<|Wd 1 h:))<|WS.e O<|V0 (Yf u6 O)<|Ln<|Es ?_;refine WS.e O<|aw 2 Y O O O GW O O O<|Ln<|Es ?_;refine WS.nil<|Eb<|ep (⟨g.ps++[K],aH,aI,aD,A⟩:GN) (by have:A.length<g.q.length:=q0 P C;show A.length<g.q.length;omega) ⟨⟨by have:A.length<g.q.length:=q0 P C;simp;omega,aG⟩,aF,n,(show A.length<n by have:A.length<g.q.length:=q0 P C;omega),by rw [o,ab2 W C,SM];simp [kl]⟩ (λ_ h=>by have h:=h.bs 5 rfl;have h:=h.bs 5 rfl;have h:=h.bs 5 rfl;have h:=h.bs 5 rfl;have h:=h.bs 5 rfl;have h:=Wt 5 h;have h:=Ws.aZ h (cI:=[b]) aK;exact h)
 have aL:=bk (by simpa using av);have bv:=kS P aL;obtain ⟨n,ax,o⟩:=o;obtain ⟨n,rfl⟩:∃k,n=k+1:=⟨n-1,ai⟩;rw [ab1 aL] at o;simp at o;refine Ce<|Ex<|Ex<|ee<|Et<|Cs<|Cb ?_;refine f_ (ι:=GN) (λv=>[]) [(0,_),(4,_),(5,_)] (λv=>Ws w (c6 bh.ids<|b5 j r l) (b5 j v.r v.q++[aQ a0<|aY (DC aj dp g.a g.ps.length g.c v.a v.ps.length v.c ao 0 0).toArray 113 (0,0),cQ 9 1 g4 g.a g.c g.ps,cQ 9 1 g4 v.a v.c v.ps,aQ aW<|aY (DC [] aq ao 0 0 ao 0 0 ao 0 0).toArray 113 (0,0)]) [b]) (λv=>(v.ps.length+v.q.length<=l.length/\eP v.q)/\Sl e3 3 b v.r.1 v.r.2 v.q/\∃n,v.q.length<n/\mn (V.length+1) V=(mn n v.q).map λp=>(v.ps++p.1,p.2)) (λv=>v.q.length) ⟨[],ao,0,ap,V⟩ ⟨⟨by have:V.length+1=g.q.length:=kR aL;simp;omega,bv⟩,au,V.length+1,aK,aK⟩ a' λv ⟨⟨b7,aM⟩,bw,B⟩=>Cs<|ak<|ab O ?_;refine WL.kw (kr j b v.r v.q [108,111,99,97,108] bw) λ⟨b9,a1,L⟩ ⟨bx,bz,a2⟩=>ag<|Cc O (λaN=>?_)<|λaN=>?_
 ·have M:=bx aN;have af:=kS aM M;obtain ⟨n,ax,B⟩:=B;obtain ⟨n,rfl⟩:∃k,n=k+1:=⟨n-1,ai⟩;refine ay<|Cb<|Cs ?_;refine CU (λ_=>ad) [0,2] [6,7] (.q aq 0<|.q ad 1<|.q aq 2<|.e 3 (.e 4 (.e 5 .nil .stop) .stop) .stop) mixed ah (λ_ _ _ d _ _ h=>by cases d<;>exact h)<|U0 O (dn [0,2]) (Yf Bo O)<|U0 O (dn [0,2]) (Yd 0 O O O ah)<|U0 O (dn [0,2]) (Ym O) ?_;refine Ue O (dn [0,2]) ?_ WU.stop;refine WL.kx (tV j b a1 L a2) ?_ ?_;·intro ⟨u,y⟩ t;refine Ep<|Ep<|WE.cp<|Ep<|WE.cp<|Ep ?_;refine b_ λz f=>?_;rw [aca M t] at B;exact be ⟨u,y,O,by simp only [lC,D,E,o,B,cH,fg,bi],by have h:=f;have h:=Wt 1 h;exact h⟩
  intro ⟨aO,bA,N⟩ ⟨Q,bC⟩;have bD:=h5 af Q;refine Ln<|Eu ?_;refine Ue O (dn [0,2]) ?_ WU.stop;refine Lb Y O gQ O O O O λb'=>eb 0 (aY (g4 aO).toArray 9 (0,0)) O O<|Ln<|Eu ?_;refine Ue O (λ_ h=>(Wo 2<|Wo 0<|Wd 1 h:)) ?_ WU.stop;refine LA (aO:Tx) 4 0 Y O gQ O O O O O O (by have:=G.len;omega) (by have:=G.len;omega) λbE bF=>Ln<|Eu ?_;refine WU.nil (λ_ h=>(Wo 2<|Wo 0<|Wd 1 h:))<|WS.e O<|V0 (Yf Bo O)<|Ln<|Es ?_;refine WS.e O<|aw 2 Y O O O GW O O O<|Ln<|Es ?_;refine WS.nil<|Et<|Cr<|ab O ?_;refine Lb Y O gQ O O O O λca=>jW (T:=9) (m:=1) 0 [[59]] O O (show 1<=1 by decide) a8 λbG bI=>Lf 1 O<|WL.kx (kU j b bA N bG _ _ [[59]] bI bC) ?_ ?_;·intro ⟨u,y⟩ t;rw [gy] at t;refine WE.cp<|Ep<|WE.cp<|Ep ?_;refine b_ λz f=>?_;rw [acb M Q t] at B;exact be ⟨u,y,O,by simp only [lC,D,E,o,B,cH,fg,bi],by have h:=f;have h:=Wt 1 h;have h:=Ws.aZ h (cI:=[b]) aK;exact h⟩
  intro ⟨bJ,R⟩ ⟨S,bK⟩;have bL:=kT bD S;rw [gy] at S;refine Ln<|Eb ?_;exact ep (⟨v.ps++[aO],bE,bF,bJ,R⟩:GN) (by have:L.length+1=v.q.length:=kR M;have:N.length<L.length:=q0 af Q;have:R.length+1=N.length:=kR S;show R.length<v.q.length;omega) ⟨⟨by have:L.length+1=v.q.length:=kR M;have:N.length<L.length:=q0 af Q;have:R.length+1=N.length:=kR S;simp;omega,bL⟩,bK,n,(show R.length<n by have:L.length+1=v.q.length:=kR M;have:N.length<L.length:=q0 af Q;have:R.length+1=N.length:=kR S;omega),by rw [B,ab_ M Q S];simp [kl]⟩ (λ_ h=>by have h:=h.bs 5 rfl;have h:=h.bs 5 rfl;have h:=h.bs 5 rfl;have h:=h.bs 5 rfl;have h:=h.bs 4 rfl;have h:=Wt 5 h;have h:=Ws.aZ h (cI:=[b]) aK;exact h)
 obtain ⟨bM,bN⟩:=bz aN;subst bN;obtain ⟨n,ax,B⟩:=B;obtain ⟨n,rfl⟩:∃k,n=k+1:=⟨n-1,ai⟩;rw [ab' bM] at B;simp at B;refine Ce<|Ex<|Ex<|ee<|Et<|ak<|ab O ?_;refine ro (ι:=((I cG)×(aA a6×Z))×(aA a6×Z)×Tk) (κ:=(aA a6×Z)×Tk) [_] _ Y O bp O O (λi=>aE i.1.2.1 i.1.1.length i.1.2.2) (λi=>b5 j i.2.1 i.2.2) (λF i=>iF 6 v.q=aa (i.1.1,i.2.2)/\Sl (jV 7 6) 6 F i.1.2.1 i.1.2.2 i.1.1/\Sl e3 3 b i.2.1.1 i.2.1.2 i.2.2) (λ_=>iZ) (λi=>b5 j i.1 i.2) (λ_=>iF 6 v.q=ao) [b] aK x5 (λw f=>(SL b 6 j a1 v.q 1 w ai aM a2 f).mono λe z h=>by
  rcases h with ⟨x,s,r2,q,aT,aU,aV,bO,bP⟩ | ⟨r2,q,aT,aU,aV⟩;·exact bB ⟨((x,s),r2,q),aT,⟨aU,aV,bO⟩,bP⟩
  ·exact be ⟨(r2,q),aT,aU,aV⟩) ?_ ?_;·intro ⟨u,y⟩ t;refine Ep<|b_ λz f=>be ⟨u,y,O,by simp only [lC,D,E,o,B,t,cH,fg,bi],by have h:=f;have h:=Wt 1 h;exact h⟩
 intro cb ⟨⟨bQ,bR⟩,bS,a3⟩ bT ⟨a4,bU,bV⟩;have cc:eP a3:=Dx aM a4;refine V0 (Yf K7 O)<|aw 1 Y O O O Dz O O O<|ag<|Cs ?_;refine WC.qD (rd:=rdStr) 2 O (λk X=>by simp [b5,aQ] at X;subst X;simp [gk,b5,aQ,eV]) rn iH λcd bX bY=>WC.qD (rd:=rdStr) 2 O (λk X=>by simp [b5,aQ] at X;subst X;simp [gk,b5,aQ,eV]) rn iH λce bZ b1=>Cr<|V0 (dW 1 O O Bm O)<|aw 2 Y O O O Bn O O O<|ag<|bu ?_;refine WE.gF (kJ O<|fj 2 O O Bm O) λz f=>bB ⟨⟨aj,dp,g.ps,v.ps,bQ⟩,⟨(g.a,g.c),(v.a,v.c),bR⟩,bS,a3,O,by simp only [lC,D,E,o,B,a4,cH,a5],⟨wq bY<|fm f aK bX,wq b1<|fm f aK bZ,wn bU<|fm f aK bT⟩,bV,Wv 3<|Wt 1 f⟩
structure GU where
 us:I Tx
 a:aA a6
 c:Z
 r:aA a6×Z
 q:Tk
def d_ (nm:Tx) (a1:aA a6) (n1 c1:Z) (a2:aA a6) (n2 c2:Z) (a3:aA a6) (n3 c3:Z) (a4:aA a6) (a c4:Z):I aR:=[st nm,aE a1 n1 c1,aE a2 n2 c2,aE a3 n3 c3,aE a4 a c4]
def wv (a:bG [109,111,100,117,108,101] bb=aa cr) (c:ie cr=aa (bR,i8)) (e:bG [123] i8=aa zi):mo bb=(mU (zi.length+1) zi).bind λu=>
   (dz ((gD u.2).2.length+1) (gD u.2).1 (gD u.2).2).bind λd=>(od (d.2.length+1) d.1.2 d.2).bind λp=>if p.1.2=ad then ao else
   (bG cj p.2).bind λr=>(iF 6 r).bind λb=>(bG [125] b.2).map λr=>(⟨bR,u.1,d.1.1,p.1.1,b.1⟩,r):=by rw [mo,show wb=[109,111,100,117,108,101] from rfl,a];simp only [cH];rw [c];simp only [cH];rw [e];rfl
def u9:zeroOf aC 27=aa (b0 #[st [],aE ao 0 0,aE ao 0 0,aE ao 0 0,aE ao 0 0]):=ah
def Fb:hW aC 27=aa [(0,1),(1,1),(2,1),(3,1),(4,1)]:=ah
def u':e2 aC 27=aa 5:=ah
def SS:ii aC 24 113 (b0 #[st [],bW aq,aE ao 0 0,aE ao 0 0,aE ao 0 0]) 5 96:=j_ ah
def acr:e2 aC 24=aa 1:=ah
def SU:ii aC 23 109 (b0 #[am an 0,st [],bW aq,am an 0]) 4 40:=j_ ah
def acs:e2 aC 23=aa 1:=ah
def act (j:Z) (b:View) (r:aA a6×Z) (l:Tk) (w:aP) (K:eP l) (bM:Sl e3 3 b r.1 r.2 l) (f:Ws w (c6 bh.ids<|b5 j r l) (b5 j r l) [b] w) :
   cx aC 122 #[b8 (aa ⟨j,0,ao⟩)] w λe z=>(∃(m:cV) (s:ox) (r2:aA a6×Z) (q:Tk),e = cf (b0 (b7 m s).toArray)/\mo l=aa (m,q)/\oy 7 6 (nv w z) s m/\Sl e3 3 b r2.1 r2.2 q/\Ws w (c6 bh.ids<|b5 j r l) (b5 j r2 q) [b] z)\/(∃(r2:aA a6×Z) (q:Tk),e = .panicked iZ/\mo l=ao/\Ws w (c6 bh.ids<|b5 j r l) (b5 j r2 q) [b] z):=by
 refine enter func122 O 71 O O<|CE f<|ak ?_;refine Al Y O u9 λaN=>eb 0 (aY (d_ [] ao 0 0 ao 0 0 ao 0 0 ao 0 0).toArray 27 (0,0)) O O<|ag<|ak<|ab O ?_;refine Lb Y O gQ O O O O λdk=>jW (T:=9) (m:=1) 0 [[109,111,100,117,108,101]] O O (show 1<=1 by decide) a8 λbN bO=>Lf 1 O<|WL.kx (kU j b r l bN _ _ [[109,111,100,117,108,101]] bO bM) ?_ ?_;·intro ⟨t,u⟩ o;rw [gy] at o;refine Ep<|b_ λz f=>be ⟨t,u,O,by simp only [mo,wb,o,fg],by have h:=f;have h:=Wt 1 h;have h:=Ws.aZ h (cI:=[b]) aK;exact h⟩
 intro ⟨bP,aO⟩ ⟨B,bQ⟩;have bj:=kT K B;rw [gy] at B;refine ag<|ak<|ab O ?_;refine WL.kx (tV j b bP aO bQ) ?_ ?_;·intro ⟨t,u⟩ o;refine Ep<|b_ λz f=>be ⟨t,u,O,by simp only [mo,wb,B,o,cH,fg],by have h:=f;have h:=Wt 1 h;have h:=Ws.aZ h (cI:=[b]) aK;exact h⟩
 intro ⟨az,bR,aT⟩ ⟨C,bS⟩;have bT:=h5 bj C;refine V0 (Yb u9 Fb O O)<|Al Y O u9 λaU=>aw 0 Y O O O u' O O O<|LW (λ_ h=>h.hM 9 1)<|LW (λ_ h=>h.hM 109 4)<|LW (λ_ h=>h.hM 113 5) ?_;refine WL.v0<|ag<|ak<|ab O ?_;refine Lb Y O gQ O O O O λdl=>jW (T:=9) (m:=1) 0 [[123]] O O (show 1<=1 by decide) a8 λbU bV=>Lf 4 O<|WL.kx (kU j b bR aT bU _ _ [[123]] bV bS) ?_ ?_;·intro ⟨t,u⟩ o;rw [gy] at o;refine Ep<|b_ λz f=>be ⟨t,u,O,by simp only [mo,wb,B,C,o,cH,fg],by have h:=f;have h:=Wt 1 h;have h:=Ws.aZ h (cI:=[b]) aK;exact h⟩
 intro ⟨bX,aB⟩ ⟨D,bY⟩;have bZ:=kT bT D;rw [gy] at D;refine ag<|Cs<|Cb ?_;refine f_ (ι:=GU) (λg=>[]) [(0,_),(2,_),(3,_)] (λg=>Ws w (c6 bh.ids<|b5 j r l) (b5 j g.r g.q++[aQ aU<|aY (d_ az g.a g.us.length g.c ao 0 0 ao 0 0 ao 0 0).toArray 27 (0,0),cQ 9 1 g4 g.a g.c g.us,cQ 109 4 fd.cells ao 0 ([]:I fd),cQ 113 5 PX.cells ao 0 ([]:I PX),aQ aN<|aY (d_ [] ao 0 0 ao 0 0 ao 0 0 ao 0 0).toArray 27 (0,0)]) [v0,b]) (λg=>(g.us.length+g.q.length<=l.length/\eP g.q)/\Sl e3 3 b g.r.1 g.r.2 g.q/\∃n,g.q.length<n/\mU (aB.length+1) aB=(mU n g.q).map λp=>(g.us++p.1,p.2)) (λg=>g.q.length) ⟨[],ao,0,bX,aB⟩ ⟨⟨by have:aO.length+1=l.length:=kR B;have:aT.length<aO.length:=q0 bj C;have:aB.length+1=aT.length:=kR D;simp;omega,bZ⟩,bY,aB.length+1,aK,aK⟩ (λ_ h=>by have h:=h.bs 5 O;have h:=h.bs 2 O;have h:=h.bs 3 O;have h:=h.bs 4 O;have h:=h.bs 5 O;have h:=h.bs 5 O;have h:=Ws.aZ h (cI:=[v0,b]) aK;exact h) λg ⟨⟨dm,bk⟩,b1,y⟩=>Cs<|ak<|ab O ?_;refine WL.kw (kr j b g.r g.q [117,115,101] b1) λ⟨dq,bl,L⟩ ⟨b2,b3,bm⟩=>ag<|Cc O (λaV=>?_)<|λaV=>?_
 ·have M:=b2 aV;have aH:=kS bk M;obtain ⟨n,W,y⟩:=y;obtain ⟨n,rfl⟩:∃k,n=k+1:=⟨n-1,ai⟩;refine ay<|Cb<|Cs ?_;refine CU (λ_=>ad) [0,1] [6,7] (.q aq 0<|.q ad 1<|.q aq 2<|.e 3 (.e 4 (.e 5 .nil .stop) .stop) .stop) mixed ah (λ_ _ _ d _ _ h=>by cases d<;>exact h)<|U0 O (dn [0,1]) (Yf h2 O)<|U0 O (dn [0,1]) (Yd 0 O O O ah)<|U0 O (dn [0,1]) (Ym O) ?_;refine Ue O (dn [0,1]) ?_ WU.stop;refine WL.kx (tV j b bl L bm) ?_ ?_;·intro ⟨t,u⟩ o;refine Ep<|Ep<|WE.cp<|Ep<|WE.cp<|Ep ?_;refine b_ λz f=>?_;rw [ace M o] at y;exact be ⟨t,u,O,by rw [wv B C D];simp only [cj,y,cH,a5,fg,bi],by have h:=f;have h:=Wt 1 h;have h:=Ws.aZ h (cI:=[b]) aK;exact h⟩
  intro ⟨aW,b4,N⟩ ⟨X,b6⟩;have b9:=h5 aH X;refine Ln<|Eu ?_;refine Ue O (dn [0,1]) ?_ WU.stop;refine Lb Y O gQ O O O O λdr=>eb 0 (aY (g4 aW).toArray 9 (0,0)) O O<|Ln<|Eu ?_;refine Ue O (λ_ h=>(Wo 1<|Wo 0<|Wd 1 h:)) ?_ WU.stop;refine LA (aW:Tx) 3 0 Y O gQ O O O O O O (by have:=K.len;omega) (by have:=K.len;omega) λb' ca=>Ln<|Eu ?_;refine WU.nil (λ_ h=>(Wo 1<|Wo 0<|Wd 1 h:))<|WS.e O<|V0 (Yf h2 O)<|Ln<|Es ?_;refine WS.e O<|aw 2 Y O O O GW O O O<|Ln<|Es ?_;refine WS.nil<|Et<|Cr<|ab O ?_;refine Lb Y O gQ O O O O λdt=>jW (T:=9) (m:=1) 0 [[59]] O O (show 1<=1 by decide) a8 λcc cd=>Lf 1 O<|WL.kx (kU j b b4 N cc _ _ [[59]] cd b6) ?_ ?_;·intro ⟨t,u⟩ o;rw [gy] at o;refine WE.cp<|Ep<|WE.cp<|Ep ?_;refine b_ λz f=>?_;rw [acf M X o] at y;exact be ⟨t,u,O,by rw [wv B C D];simp only [cj,y,cH,a5,fg,bi],by have h:=f;have h:=Wt 1 h;have h:=Ws.aZ h (cI:=[b]) aK;exact h⟩
  intro ⟨ce,ae⟩ ⟨af,ch⟩;have ci:=kT b9 af;rw [gy] at af;refine Ln<|Eb ?_;exact ep (⟨g.us++[aW],b',ca,ce,ae⟩:GU) (by have:L.length+1=g.q.length:=kR M;have:N.length<L.length:=q0 aH X;have:ae.length+1=N.length:=kR af;show ae.length<g.q.length;omega) ⟨⟨by have:L.length+1=g.q.length:=kR M;have:N.length<L.length:=q0 aH X;have:ae.length+1=N.length:=kR af;simp;omega,ci⟩,ch,n,(show ae.length<n by have:L.length+1=g.q.length:=kR M;have:N.length<L.length:=q0 aH X;have:ae.length+1=N.length:=kR af;omega),by rw [y,acd M X af];simp [kl]⟩ (λ_ h=>by have h:=h.bs 6 rfl;have h:=h.bs 6 rfl;have h:=h.bs 6 rfl;have h:=h.bs 6 rfl;have h:=h.bs 6 rfl;have h:=h.bs 5 rfl;have h:=Wt 6 h;have h:=Ws.aZ h (cI:=[v0,b]) aK;exact h)
 obtain ⟨ck,cl⟩:=b3 aV;subst cl;obtain ⟨n,W,y⟩:=y;obtain ⟨n,rfl⟩:∃k,n=k+1:=⟨n-1,ai⟩;rw [acc ck] at y;simp at y;refine Ce<|Ex<|Ex<|ee<|Et<|ak<|ab O ?_;refine WL.kw (kr j b bl g.q [112,117,98] bm) ?_;intro ⟨a0,cm,P⟩ ⟨bn,bo,co⟩;have Q:gD g.q=(a0,P):=Ei bn bo;obtain ⟨cq,du⟩:eP P/\P.length<=m0 g.q:=Eo bk bn bo;refine au O<|ag<|Cs<|Cb ?_;refine f_ (ι:=GD) (λv=>[(4,bW v.dp)]) [(0,_),(2,_),(3,_)] (λv=>Ws w (c6 bh.ids<|b5 j r l) (b5 j v.r v.q++[aQ aU<|aY (d_ az g.a g.us.length g.c v.a v.ds.length v.c ao 0 0 ao 0 0).toArray 27 (0,0),cQ 9 1 g4 g.a g.c g.us,cQ 109 4 fd.cells v.a v.c v.ds,cQ 113 5 PX.cells ao 0 ([]:I PX),aQ aN<|aY (d_ [] ao 0 0 ao 0 0 ao 0 0 ao 0 0).toArray 27 (0,0)]) [v0,b]) (λv=>(v.ds.length+v.q.length<=l.length/\eP v.q)/\Sl e3 3 b v.r.1 v.r.2 v.q/\∃n,v.q.length<n/\dz (P.length+1) a0 P=(dz n v.dp v.q).map λp=>((v.ds++p.1.1,p.1.2),p.2)) (λv=>v.q.length) ⟨[],ao,0,a0,cm,P⟩ ⟨⟨by simp;omega,cq⟩,co,P.length+1,aK,aK⟩ a' λv ⟨⟨dv,a1⟩,cr,A⟩=>Cb<|ak<|ab O<|ab O ?_;refine WL.kx (aco j b v.r v.q v.dp a1 cr) ?_ ?_;·intro ⟨t,u⟩ o;refine Ep<|WE.cp<|Ep<|WE.cp<|Ep ?_;refine b_ λz f=>?_;obtain ⟨n,W,A⟩:=A;obtain ⟨n,rfl⟩:∃k,n=k+1:=⟨n-1,ai⟩;rw [aci o] at A;exact be ⟨t,u,O,by rw [wv B C D];simp only [cj,y,Q,A,cH,a5,fg,bi],by have h:=f;have h:=Wt 1 h;have h:=Ws.aZ h (cI:=[b]) aK;exact h⟩
 intro ⟨a2,bq,E⟩ ⟨aj,br⟩;have bt:=abY a1 aj;refine ab O<|V0 (Yx O O)<|V0 (Yx O O) ?_;refine Al Y O zm λdw=>aw 0 Y O O O wi O O O<|au O<|ag<|Cs<|ak<|ab O<|V0 (ih O)<|ag ?_;refine Cc O (λaI=>?_)<|λaI=>?_
 ·obtain ⟨n,W,A⟩:=A;obtain ⟨n,rfl⟩:∃k,n=k+1:=⟨n-1,ai⟩;cases aL:a2 with
  | some x=>rw [aL] at aI;simp at aI
  | none=>
   rw [aL] at aj;have cs:E=v.q:=KB aj;rw [acg aj] at A;simp at A;refine Ce<|Ex<|B3 O<|Ex<|ee<|Et<|Cs<|Cb ?_;refine f_ (ι:=GM) (λe=>[(4,bW e.dp)]) [(0,_),(2,_),(3,_)] (λe=>Ws w (c6 bh.ids<|b5 j r l) (b5 j e.r e.q++[aQ aU<|aY (d_ az g.a g.us.length g.c v.a v.ds.length v.c e.a e.ps.length e.c ao 0 0).toArray 27 (0,0),cQ 9 1 g4 g.a g.c g.us,cQ 109 4 fd.cells v.a v.c v.ds,cQ 113 5 PX.cells e.a e.c e.ps,aQ aN<|aY (d_ [] ao 0 0 ao 0 0 ao 0 0 ao 0 0).toArray 27 (0,0)]) [e.J,b]) (λe=>(e.ps.length+e.q.length<=l.length/\eP e.q)/\Sl e3 3 b e.r.1 e.r.2 e.q/\(hf w e.J/\wr e.J e.ps)/\∃n,e.q.length<n/\od (E.length+1) v.dp E=(od n e.dp e.q).map λp=>((e.ps.map (·.1)++p.1.1,p.1.2),p.2)) (λe=>e.q.length) ⟨[],ao,0,v0,v.dp,bq,E⟩ ⟨⟨by have h:=congrArg m0 cs;simp at h ⊢;omega,bt⟩,br,⟨fK w,wr.nil _⟩,E.length+1,aK,aK⟩ (λ_ h=>by have h:=h.bs 6 O;have h:=h.bs 6 O;have h:=h.bs 6 O;have h:=h.bs 6 O;have h:=h.bs 6 O;have h:=h.bs 6 O;have h:=Wt 6 h;have h:=Ws.aZ h (cI:=[v0,b]) aK;exact h) λe ⟨⟨dx,bv⟩,ct,⟨bw,bx⟩,hC⟩=>Cs<|ak<|ab O ?_;refine WL.kw (kr j b e.r e.q [112,114,111,99] ct) λ⟨dy,a3,G⟩ ⟨cu,cv,bz⟩=>ag<|Cc O (λa4=>?_)<|λa4=>?_
   ·have al:=cu a4;have aD:=kS bv al;obtain ⟨n,W,hC⟩:=hC;obtain ⟨n,rfl⟩:∃k,n=k+1:=⟨n-1,ai⟩;refine ay<|Cb<|Cs ?_;refine CU (λ_=>ad) [0,3] [7,8] (.q aq 0<|.q ad 1<|.q aq 2<|.q aq 3<|.e 4 (.e 5 (.e 6 .nil .stop) .stop) .stop) mixed ah (λ_ _ _ d _ _ h=>by cases d<;>exact h)<|U0 O (dn [0,3]) (Yf zl O)<|U0 O (dn [0,3]) (Yd 0 O O O ah)<|U0 O (dn [0,3]) (Ym O)<|U0 O (dn [0,3]) (Ym O) ?_;refine Ue O (dn [0,3]) ?_ WU.stop;refine ro (ι:=(gU×Br)×(aA a6×Z)×Tk) (κ:=(aA a6×Z)×Tk) [_] _ Y O bp O O (λi=>b0 #[st (i.1.1).nm,bW (i.1.1).dp,aE (i.1.2).s1.1 (i.1.1).params.length (i.1.2).s1.2,aE (i.1.2).s2.1 (i.1.1).aX.length (i.1.2).s2.2,aE (i.1.2).s3.1 (i.1.1).body.length (i.1.2).s3.2]) (λi=>b5 j i.2.1 i.2.2) (λF i=>lC e.dp G=aa (i.1.1,i.2.2)/\zq F i.1.1 i.1.2/\Sl e3 3 b i.2.1.1 i.2.1.2 i.2.2) (λ_=>iZ) (λi=>b5 j i.1 i.2) (λ_=>lC e.dp G=ao) [b] aK x5 (λw f=>(acq j b a3 G e.dp w aD bz f).mono λe z h=>by
     rcases h with ⟨x,s,r2,q,R,S,U,a7,a9⟩ | ⟨r2,q,R,S,U⟩;·exact bB ⟨((x,s),r2,q),R,⟨S,U,a7⟩,a9⟩
     ·exact be ⟨(r2,q),R,S,U⟩) ?_ ?_;·intro ⟨t,u⟩ o;refine Ep<|Ep<|WE.cp<|Ep<|WE.cp<|Ep ?_;refine b_ λz f=>?_;rw [acl al o] at hC;exact be ⟨t,u,O,by rw [wv B C D];simp only [cj,y,Q,A,hC,cH,a5,fg,bi],by have h:=f;have h:=Wt 1 h;have h:=Ws.aZ h (cI:=[b]) aK;exact h⟩
    intro dA ⟨⟨a_,ba⟩,cw,V⟩ cy ⟨aF,cz,cA⟩;have cB:eP V:=ab0 aD aF;refine Ln<|Eu ?_;refine Ue O (λ_ h=>(Wv 1<|Wo 3<|Wo 0 h:)) ?_ WU.stop;refine Lb Y O SS O O O O λdB=>eb 0 (aY (PX.cells (a_,ba)).toArray 113 (0,0)) O O<|Ln<|Eu ?_;refine Ue O (λ_ h=>(Wv 1<|Wo 3<|Wo 0<|Wd 1 h:)) ?_ WU.stop;refine LA ((a_,ba):PX) 5 0 Y O SS O O O O O O (by have:=K.len;omega) (by have:=K.len;omega) λcC cD=>Ln<|Eu ?_;refine WU.nil (λ_ h=>(Wv 1<|Wo 3<|Wo 0<|Wd 1 h:))<|WS.e O<|V0 (Yf zl O)<|Ln<|Es ?_;refine WS.e O<|aw 2 Y O O O acr O O O<|Ln<|Es ?_;refine WS.nil<|Et<|WC.cb λbA cE cF cJ=>Cr<|ab O<|Lf 1 O ?_;refine WL.kw (kr j b cw V [112,117,98] cA) ?_;intro ⟨bC,cK,ap⟩ ⟨bD,bE,cL⟩;have cM:gD V=(bC,ap):=Ei bD bE;obtain ⟨cN,dC⟩:eP ap/\ap.length<=m0 V:=Eo cB bD bE;refine au O<|Ln<|Eb ?_;exact ep (⟨e.ps++[(a_,ba)],cC,cD,bA,bC,cK,ap⟩:GM) (by have:G.length+1=e.q.length:=kR al;have:V.length<G.length:=Lc aD aF;show ap.length<e.q.length;omega) ⟨⟨by have:G.length+1=e.q.length:=kR al;have:V.length<G.length:=Lc aD aF;simp;omega,cN⟩,cL,⟨cJ _ cy bw,wr.snoc bx cF cE cz⟩,n,(show ap.length<n by have:G.length+1=e.q.length:=kR al;have:V.length<G.length:=Lc aD aF;omega),by rw [hC,ack al aF cM];simp [kl]⟩ (λ_ h=>by have h:=h.bs 6 rfl;have h:=h.bs 6 rfl;have h:=h.bs 6 rfl;have h:=h.bs 6 rfl;have h:=h.bs 6 rfl;have h:=h.bs 5 rfl;have h:=Wt 6 h;have h:=Ws.aZ h (cI:=[bA,b]) aK;exact h)
   obtain ⟨cP,cR⟩:=cv a4;subst cR;obtain ⟨n,W,hC⟩:=hC;obtain ⟨n,rfl⟩:∃k,n=k+1:=⟨n-1,ai⟩;rw [acj cP] at hC;simp at hC;refine Ce<|Ex<|Ex<|ee<|Et<|Cs<|ak<|ab O<|ag ?_;refine Cc O (λbb=>?_)<|λbb=>?_;·have av:e.dp=ad:=bb;refine Cr<|V0 (Yb wl kA O O)<|V0 (r6 wm O) ?_;refine WL.panic Y O<|Ep<|b_ λz f=>be ⟨a3,e.q,O,by rw [wv B C D];simp only [cj,y,Q,A,hC,av,dD,cH,a5,fg,bi],by have h:=f;have h:=Wt 1 h;have h:=Ws.aZ h (cI:=[b]) aK;exact h⟩
   have av:e.dp=aq:=bb;refine ay<|ak<|ab O ?_;refine Lb Y O gQ O O O O λdE=>jW (T:=9) (m:=1) 0 [[109,97,105,110]] O O (show 1<=1 by decide) a8 λcS cT=>WL.kx (kU j b a3 e.q cS _ _ [[109,97,105,110]] cT bz) ?_ ?_;·intro ⟨t,u⟩ o;rw [gy] at o;refine Ep<|b_ λz f=>be ⟨t,u,O,by rw [wv B C D];simp only [cj,y,Q,A,hC,av,o,en,dF,cH,a5,fg,bi],by have h:=f;have h:=Wt 1 h;have h:=Ws.aZ h (cI:=[b]) aK;exact h⟩
   intro ⟨cU,bc⟩ ⟨aG,cW⟩;have bF:=kT bv aG;rw [gy] at aG;refine ag<|ak<|ab O ?_;refine ro (ι:=((I cG)×(aA a6×Z))×(aA a6×Z)×Tk) (κ:=(aA a6×Z)×Tk) [_] _ Y O bp O O (λi=>aE i.1.2.1 i.1.1.length i.1.2.2) (λi=>b5 j i.2.1 i.2.2) (λF i=>iF 6 bc=aa (i.1.1,i.2.2)/\Sl (jV 7 6) 6 F i.1.2.1 i.1.2.2 i.1.1/\Sl e3 3 b i.2.1.1 i.2.1.2 i.2.2) (λ_=>iZ) (λi=>b5 j i.1 i.2) (λ_=>iF 6 bc=ao) [b] aK x5 (λw f=>(SL b 6 j cU bc 1 w ai bF cW f).mono λe z h=>by
    rcases h with ⟨x,s,r2,q,R,S,U,a7,a9⟩ | ⟨r2,q,R,S,U⟩;·exact bB ⟨((x,s),r2,q),R,⟨S,U,a7⟩,a9⟩
    ·exact be ⟨(r2,q),R,S,U⟩) ?_ ?_;·intro ⟨t,u⟩ o;refine Ep<|b_ λz f=>be ⟨t,u,O,by rw [wv B C D];simp only [cj,y,Q,A,hC,av,aG,o,en,dF,cH,a5,fg,bi],by have h:=f;have h:=Wt 1 h;have h:=Ws.aZ h (cI:=[b]) aK;exact h⟩
   intro dG ⟨⟨bG,aM⟩,cX,bI⟩ cZ ⟨bd,c0,c1⟩;have c2:eP bI:=Dx bF bd;refine V0 (Yf K8 O)<|aw 1 Y O O O Dz O O O<|ag<|ak<|ab O ?_;refine Lb Y O gQ O O O O λdH=>jW (T:=9) (m:=1) 0 [[125]] O O (show 1<=1 by decide) a8 λc3 c4=>WL.kx (kU j b cX bI c3 _ _ [[125]] c4 c1) ?_ ?_;·intro ⟨t,u⟩ o;rw [gy] at o;refine Ep<|b_ λz f=>be ⟨t,u,O,by rw [wv B C D];simp only [cj,y,Q,A,hC,av,aG,bd,o,en,dF,cH,a5,fg,bi],by have h:=f;have h:=Wt 1 h;have h:=Ws.aZ h (cI:=[b]) aK;exact h⟩
   intro ⟨c5,c7⟩ ⟨bf,c8⟩;have dI:=kT c2 bf;rw [gy] at bf;refine ag<|Cs ?_;refine WC.qD (rd:=rdStr) 2 O (λk H=>by simp [b5,aQ] at H;subst H;simp [gk,b5,aQ,eV]) rn iH λdK c9 c'=>WC.qD (rd:=Ak) 2 O (λk H=>by simp [b5,aQ] at H;subst H;simp [gk,b5,aQ,eV]) fd.dR iH λdL c_ da=>WC.qD (rd:=SN) 2 O (λk H=>by simp [b5,aQ] at H;subst H;simp [gk,b5,aQ,eV]) PX.dR iH λdM db dc=>Cr<|V0 (dW 1 O O nn O)<|aw 2 Y O O O u' O O O<|ag<|bu ?_;refine WE.gF (kJ O<|fj 2 O O nn O) λz f=>bB ⟨⟨az,g.us,v.ds,e.ps.map (·.1),bG⟩,⟨g.a,g.c,v.a,v.c,e.a,e.c,aM.1,aM.2⟩,c5,c7,by show Ending.returned (b0 #[st az,aE g.a g.us.length g.c,aE v.a v.ds.length v.c,aE e.a e.ps.length e.c,aE aM.1 bG.length aM.2])=_;simp [b7],by rw [wv B C D];simp only [cj,y,Q,A,hC,av,aG,bd,bf,en,dF,cH,a5,fg,bi],⟨wq c'<|fm f aK c9,SO da<|fm f aK c_,ab9 dc (fm f aK db) (fm f aK bw) bx,wn c0<|fm f aK cZ⟩,c8,Wv 7<|Wt 1 f⟩
 obtain ⟨n,W,A⟩:=A;obtain ⟨n,rfl⟩:∃k,n=k+1:=⟨n-1,ai⟩;obtain ⟨bg,aL⟩:∃x,a2=aa x:=by cases a2 with| none=>simp at aI| some x=>exact ⟨x,rfl⟩
 subst aL;have dN:E.length<v.q.length:=abZ a1 aj;refine ay<|ak<|V0 (Yf Bl O)<|V0 (Yd 2 O O O ah)<|V0 (dW 0 O O e5 O) ?_;refine Lb Y O SU O O O O λdO=>eb 0 (aY (fd.cells bg).toArray 109 (0,0)) O O<|LA (bg:fd) 5 0 Y O SU O O O O O O (by have:=K.len;omega) (by have:=K.len;omega) λdd de=>V0 (Yf Bl O)<|aw 3 Y O O O acs O O O<|ag<|Cr<|ab O<|Lf 2 O ?_;refine WL.kw (kr j b bq E [112,117,98] br) ?_;intro ⟨bJ,df,ax⟩ ⟨bK,bL,dg⟩;have dh:gD E=(bJ,ax):=Ei bK bL;obtain ⟨dj,dP⟩:eP ax/\ax.length<=m0 E:=Eo bt bK bL;refine au O<|Ln<|Eb ?_;exact ep (⟨v.ds++[bg],dd,de,bJ,df,ax⟩:GD) (by show ax.length<v.q.length;omega) ⟨⟨by simp;omega,dj⟩,dg,n,(show ax.length<n by omega),by rw [A,ach aj dh];simp [kl]⟩ (λ_ h=>by have h:=h.bs 7 rfl;have h:=h.bs 7 rfl;have h:=h.bs 7 rfl;have h:=h.bs 7 rfl;have h:=h.bs 7 rfl;have h:=h.bs 5 rfl;have h:=Wt 6 h;have h:=Ws.aZ h (cI:=[v0,b]) aK;exact h)
def acu (h:¬(bL bR).2=0):hJ bR=(u1,(bL bR).2):=by rw [hJ,aD h]
def acv (h:(bL bR).2=0) (a:mo (bL bR).1=ao):hJ bR=(u1,1):=by rw [hJ,aj (by simp [h]),a]
variable {bD:cV}
def acw (h:(bL bR).2=0) (b:mo (bL bR).1=aa (bD,bb)) (a:0<bb.length\/¬jh bD=0):hJ bR=(u1,1):=by
 rw [hJ,aj (by simp [h]),b];cases bb with
 | cons t r=>rfl
 | nil=>
  simp only;rw [aj];rcases a with a | a;·simp at a
  ·exact a
def acx (h:(bL bR).2=0) (a:mo (bL bR).1=aa (bD,bb)) (b:bb.length=0) (c:jh bD=0):hJ bR=(bD,0):=by rw [hJ,aj (by simp [h]),a];obtain rfl:bb=[]:=s' b;simp only;rw [aD c]
def Lg (h:(bL bR).2=0):eP (bL bR).1:=⟨Z3 h,(NW<|NX h).2⟩
def Au:ox:=⟨ao,0,ao,0,ao,0,ao,0⟩
def Lh (N:View):oy 7 6 N Au u1:=⟨Sl.nil,Sl.nil,Sl.nil,Sl.nil⟩
def acy {s:ox}  (h:oy bE aL bN s bD) (hv:cX bN cR):oy bE aL cR s bD:=⟨wq h.aN hv,SO h.decls hv,h.procs.imp λb o x a=>N2 hv (c7 _) (c7 _) b o x a,h.main.imp λb o x a=>yF hv (c7 _) (c7 _) b o x a⟩
def GY:aC.underlying 20=aa (.interface<|aC.methodsAt 20):=ah
def n8:e2 aC 30=aa 1:=ah
def C3:zeroOf aC 30=aa (am an 0):=ah
def acz:hW aC 227=aa [(0,1)]:=ah
def acA:zeroOf aC 227=aa (b0 #[aE ao 0 0]):=ah
def acB (a b:Z) (c:bH aR) (i:c.size=5) (d:ac) (w:aP) (f:Ws w (c6 bh.ids [aQ a<|aY c 27 (0,0),aQ b<|aY #[am an d] 30 (0,0)]) [aQ a<|aY c 27 (0,0),aQ b<|aY #[am an d] 30 (0,0)] [] w) : CallsD aC 121 #[b8 (aa ⟨a,0,ao⟩),b8 (aa ⟨b,0,ao⟩)] (.returning) w λe h g=>h = .returning/\(e = cf (cO #[])/\Ws w (c6 bh.ids [aQ a<|aY c 27 (0,0),aQ b<|aY #[am an d] 30 (0,0)]) [aQ a<|aY c 27 (0,0),aQ b<|aY #[am an d] 30 (0,0)] [] g):=by refine lx func121 O 5 O O O O O (λ_=>rfl) (bB ⟨O,O,O⟩)<|LW (W':=Ws w (c6 bh.ids [aQ a<|aY c 27 (0,0),aQ b<|aY #[am an d] 30 (0,0)]) [aQ a<|aY c 27 (0,0),aQ b<|aY #[am an d] 30 (0,0)] []) (λ_ e=>by subst e;exact f)<|V0 (IA GY O)<|ag ?_;refine WC.uc O<|Ck<|E0 O λg f=>⟨O,f⟩
def SV (a b:Z) (c:I aR) (g:c.length=5) (d:ac) (w:aP) (f:Ws w (c6 bh.ids [aQ a<|aY c.toArray 27 (0,0),aQ b<|aY #[am an d] 30 (0,0)]) [aQ a<|aY c.toArray 27 (0,0),aQ b<|aY #[am an d] 30 (0,0)] [] w) : CallsD aC 121 #[b8 (aa ⟨a,0,ao⟩),b8 (aa ⟨b,0,ao⟩)] (.panicking iZ) w λe i h=>i = .panicking [⟨.iface 229<|b0 #[],ad,aq⟩]/\(e = cf (cO #[])/\Ws w (c6 bh.ids [aQ a<|aY c.toArray 27 (0,0),aQ b<|aY #[am an d] 30 (0,0)]) [aQ a<|aY (d_ [] ao 0 0 ao 0 0 ao 0 0 ao 0 0).toArray 27 (0,0),aQ b<|aY #[am an 1] 30 (0,0)] [] h):=by refine lx func121 O 5 O O O O O (λ_=>rfl) (be ⟨_,O,O,O⟩)<|LW (W':=Ws w (c6 bh.ids [aQ a<|aY c.toArray 27 (0,0),aQ b<|aY #[am an d] 30 (0,0)]) [aQ a<|aY c.toArray 27 (0,0),aQ b<|aY #[am an d] 30 (0,0)] []) (λ_ e=>by subst e;exact f)<|V0 (VQ GY O)<|ag ?_;refine WC.EN O<|Cr<|V0 (Yb u9 Fb O O) ?_;refine WL.z8 0 (aY (d_ [] ao 0 0 ao 0 0 ao 0 0 ao 0 0).toArray 27 (0,0)) Y O O O u' O O (by simp [ra,g]) (by simp [mD,bm,d_,g,k0])<|aw 1 Y O O O n8 O O O<|Ln ?_;refine E0 O λh f=>⟨O,f⟩
def acC (l:View) (s:Tx) (w:aP) (C:Le l w) (D:Laid l) : cx aC 44 #[st s] w λe d=>∃r:ox,e = cf (cO #[b0 (b7 (hJ s).1 r).toArray,am an (hJ s).2])/\Ext w d/\oy 7 6 (nv w d) r (hJ s).1:=by
 refine E' func44 O 35 O O<|CE (Vs:=[l]) (Ws.init (by simp [C]))<|ak ?_;refine Al Y O u9 λf=>eb 0 (aY (d_ [] ao 0 0 ao 0 0 ao 0 0 ao 0 0).toArray 27 (0,0)) O O<|Al Y O C3 λj=>eb 0 (aY #[am an 0] 30 (0,0)) O O<|ag<|ak<|ab O ?_;refine Ld Y O bp O (λr:aA a6×Z=>cO #[aE r.1 (bL s).1.length r.2,am an (bL s).2]) (λF r=>Sl e3 3 F r.1 r.2 (bL s).1) (λw a=>aaS l s w (a.vs _ (by simp)) D) λo E Q G=>ab O<|V0 (Yx O O)<|V0 (Yx O O)<|au O<|aw 0 Y O O O n8 O O O<|ag<|Cs<|ak<|V0 (Yd 0 O O O ah)<|V0 (ha O O) ?_;refine ag<|Cc O (λp=>?_)<|λp=>?_
 ·have c:¬(bL s).2=0:=by simpa using p
  refine Cs<|CU (ow [.cell 2 27,.cell 3 30]) [1] [3] (.q aq 0<|.q ad 1<|.e 2 .nil .stop) mixed (by kernel_rfl) (λ_ _ _ _ _ H h=>rf (fn:=f44) [.cell 2 27,.cell 3 30] O H h)<|U0 O (Wp 1) (Yb u9 Fb O O)<|U0 O (Wp 1) (Yd 0 O O O ah) ?_;refine Ue O (Wp 1) ?_ WU.stop;refine aw 1 Y O O O u' O O O<|Ln<|Eu ?_;refine WU.nil (Wp 1)<|WS.e O<|aw 0 Y O O O n8 O O O<|Ln<|Es ?_;refine WS.nil<|Et<|bu<|Er ?_;refine WE.vB (hX O (fj 1 O O nn O)<|jJ 0 O O O ah) λd a=>?_;rw [acu c];exact ⟨Au,O,a.fr,Lh _⟩
 have c:(bL s).2=0:=by simpa using p
 refine hk 0 (aY #[am an 0] 30 (0,0)) O (by show Obj.cells #[am an (bL s).2] _ _=_;rw [c])<|ay<|ak<|V0 (wW O) ?_;refine WL.defer Y O<|ag<|ak<|ab O<|V0 (Yb acA acz O O) ?_;refine WL.box Y O O λt=>au O<|ag<|ak<|ab O ?_;refine ro (ι:=(cV×ox)×(aA a6×Z)×Tk) (κ:=(aA a6×Z)×Tk) [_] _ Y O bp O O (λi=>b0 (b7 i.1.1 i.1.2).toArray) (λi=>b5 t i.2.1 i.2.2) (λF i=>mo (bL s).1=aa (i.1.1,i.2.2)/\oy 7 6 F i.1.2 i.1.1/\Sl e3 3 o i.2.1.1 i.2.1.2 i.2.2) (λ_=>iZ) (λi=>b5 t i.1 i.2) (λ_=>mo (bL s).1=ao) [o] (by simp) (λ_ _ h=>h) (λw a=>(act t o E (bL s).1 w (Lg c) G a).mono λe d h=>by
  rcases h with ⟨x,s,r2,q,m,u,v,J,K⟩ | ⟨r2,q,m,u,v⟩;·exact bB ⟨((x,s),r2,q),m,⟨u,v,J⟩,K⟩
  ·exact be ⟨(r2,q),m,u,v⟩) ?_ ?_;·intro ⟨R,S⟩ L;refine Ep<|WE.front 1 O<|WE.front 2 O<|WE.td bp (qx [_,_] _ [aQ f<|aY (d_ [] ao 0 0 ao 0 0 ao 0 0 ao 0 0).toArray 27 (0,0),aQ j<|aY #[am an 1] 30 (0,0)] O<|λw a=>SV f j (d_ [] ao 0 0 ao 0 0 ao 0 0 ao 0 0) O 0 w a) (hX O (fj 0 O O nn O)<|jJ 1 O O O ah) λd a=>?_;rw [acv c L];exact ⟨Au,O,a.fr,Lh _⟩
 intro M ⟨⟨b,k⟩,T,n⟩ N ⟨y,A,U⟩;have V:wM b<=73728:=by have m:wM b+18*n.length<=18*(bL s).1.length:=RV y;have:=(Lg c).len;omega
 refine aw 2 Y O O O u' O O O<|ag<|Cs<|Cs<|hk 2 (aY (b7 b k).toArray 27 (0,0)) O O<|Cr<|ab O<|V0 (bS O)<|V0 (Yf sO O)<|V0 (Yd 0 O O O ah) ?_;refine V0 (Yn u3 O)<|V0 (eZ O O)<|ab O ?_;apply Lo 3 O O O O Y O O O O O;·intro W;refine Vg (dW 2 O O nn O)<|Lp (.g O O O) O bp O (λw a=>K9 M 7 6 k b w (a.vs _ (by simp)) A (by omega))<|Vg (ha O O) ?_;exact Gt 3 O O O
 refine ag<|Cc O (λz=>?_)<|λz=>?_
 ·have P:0<n.length\/¬jh b=0:=by simpa using z
  refine Cr<|V0 (Yb wl kA O O)<|V0 (r6 wm O) ?_;refine WL.panic Y O<|Ep<|WE.front 1 O<|WE.front 2 O<|WE.td bp (qx [_,_] _ [aQ f<|aY (d_ [] ao 0 0 ao 0 0 ao 0 0 ao 0 0).toArray 27 (0,0),aQ j<|aY #[am an 1] 30 (0,0)] O<|λw a=>SV f j (b7 b k) O 0 w a) (hX O (fj 0 O O nn O)<|jJ 1 O O O ah) λd a=>?_;rw [acw c y P];exact ⟨Au,O,a.fr,Lh _⟩
 have B:¬0<n.length/\jh b=0:=by simpa using z
 refine ay<|ak<|V0 (dW 2 O O nn O)<|aw 2 Y O O O u' O O O<|aw 1 Y O O O n8 O O O<|ag<|bu ?_;refine WE.front 1 O<|WE.front 2 O<|WE.Iz bp (qx [_,_] _ [aQ f<|aY (b7 b k).toArray 27 (0,0),aQ j<|aY #[am an 0] 30 (0,0)] O<|λw a=>acB f j (b7 b k).toArray O 0 w a) (hX O (fj 0 O O nn O)<|jJ 1 O O O ah) λd a=>?_;rw [acx c y (by have:=B.1;show n.length=0;omega) B.2];exact ⟨k,O,a.fr,acy A<|fm a (by simp) N⟩
def SQ (s:Tx):(g4 s).all (·.oneCell')=ad:=rfl
def asks (s:Tx) (l:Tk):aS:=(l.head?.map λt=>!(t.kind==2)&&(t.text==s)).getD aq
structure GE where
 es:I XE
 a:aA a6
 c:Z
 J:View
 r:aA a6×Z
 q:Tk
 more:aS
structure GO where
 j:Z
 o:ac
 r:aA a6×Z
 q:Tk
structure DD (f:Z) (N:View) (x:cG) (p:Bp):Prop where
 args:Sl (lm 8) 5 N p.s1.1 p.s1.2 x.args
 body:Sl (jV 8 f) 6 N p.s2.1 p.s2.2 x.body
 other:Sl (jV 8 f) 6 N p.s3.1 p.s3.2 x.other
def Li (h:Sl (jV 8 bE) 6 bN cq aL dV) (hv:cX bN cR):Sl (jV 8 bE) 6 cR cq aL dV:=h.imp λb o y a=>yF hv (c7 _) (c7 _) b o y a
def DD.mv (h:DD bE bN ol F8) (hv:cX bN cR):DD bE cR ol F8:=⟨Dv h.args hv,Li h.body hv,Li h.other hv⟩
def DE (J:View) (f:Z) (es:I SX):Prop:=∀e ∈ es,DD f J e.1 e.2
def DE.nil (J:View) (f:Z):DE J f []:=by intro e h;simp at h
def DE.snoc {J c b:View} {f:Z} {es:I SX} {e:SX} (h:DE J f es) (d:cX J b) (g:cX c b) (i:DD f c e.1 e.2):DE b f<|es++[e]:=by
 intro x a;rcases fe.1 a with a | a;·exact (h x a).mv d
 ·rw [e_] at a;subst a;exact i.mv g
variable {pb:Tk->I cG×Tk} {l r q1 q2 q3 q4:Tk} {x y:cF} {b o:I cG} {p:Tx×Tx} {xs:I cF}
variable {ps:Tk->cG×Tk} {s:cG} {n:Z}
structure DF (N:View) (x:gU) (p:Br):Prop where
 params:Sl rdStr 1 N p.s1.1 p.s1.2 x.params
 aX:Sl rdStr 1 N p.s2.1 p.s2.2 x.aX
 body:Sl (jV 8 6) 6 N p.s3.1 p.s3.2 x.body
def DF.mv (h:DF bN i7 Hq) (hv:cX bN cR):DF cR i7 Hq:=⟨wq h.params hv,wq h.aX hv,Li h.body hv⟩
def DG (J:View) (es:I PX):Prop:=∀e ∈ es,DF J e.1 e.2
def DG.nil (J:View):DG J []:=by intro e h;simp at h
def DG.snoc {J c b:View} {es:I PX} {e:PX} (h:DG J es) (d:cX J b) (f:cX c b) (g:DF c e.1 e.2):DG b<|es++[e]:=by
 intro x a;rcases fe.1 a with a | a;·exact (h x a).mv d
 ·rw [e_] at a;subst a;exact g.mv f
structure GD2 where
 ds:I fd
 a:aA a6
 c:Z
 go:aS
 dp:aS
 r:aA a6×Z
 q:Tk
structure GH where
 ps:I Tx
 a:aA a6
 c:Z
 more:aS
 r:aA a6×Z
 q:Tk
def C4:e2 aC 4=aa 1:=ah
abbrev SP:=aA a6×Z
def zr:dB->I ar:=λx=>x.name
abbrev ql:=I ar×ac×Z
def iv (M:I ql):I rc:=M.map λe=>(e.1,am an e.2.1,e.2.2)
def pz (k:I ar):I ql->Z->aA (Z×ac)| [],_=>ao| e::r,i=>if (k==e.1)=ad then aa (i,e.2.1) else pz k r (i+1)
def Lj (k:I ar) (M:I ql):ac:=match pz k M 0 with| aa (_,n)=>n| ao=>0
def DH (k:I ar) (n:ac) (M:I ql) (c:Z):I ql:=match pz k M 0 with| aa (i,_)=>M.modify i λe=>(k,n,e.2.2)| ao=>M++[(k,n,c)]
def Lk (k:I ar) (M:I ql) (c:Z):Z:=match pz k M 0 with| aa _=>c| ao=>c+1
def GZ (k:I ar):∀(M:I ql) (i:Z),re k (iv M) i=(pz k M i).map λr=>(r.1,am an r.2)
 | [],_=>rfl
 | e::r,i=>by
  simp only [iv,nt,re,pz];cases (k==e.1);·simp only [en,dF];exact GZ k r<|i+1
  ·simp
def acD (k:I ar) (M:I ql):nE k (iv M) (am an 0) = am an (Lj k M):=by unfold nE Lj;rw [GZ];cases pz k M 0<;>rfl
def acE (k:I ar) (n:ac) (M:I ql) (c:Z):Ab k (am an n) (iv M) c=iv (DH k n M c):=by unfold Ab DH;rw [GZ];cases pz k M 0 with| none=>simp [iv]| some r=>simp only [a5];apply r0;intro i;simp only [iv,vp,fp];cases M[i]? with| none=>simp| some e=>by_cases h:r.1=i<;>simp [h]
def acF (k:I ar) (M:I ql) (c:Z):Ac k (iv M) c=Lk k M c:=by unfold Ac Lk;rw [GZ];cases pz k M 0<;>rfl
def keysOf (M:I ql):I<|I ar:=M.map (·.1)
def Ll {k:I ar}:∀{M:I ql} {i:Z},pz k M i=ao↔k ∉ keysOf M
 | [],_=>by simp [pz,keysOf]
 | e::r,i=>by
  simp only [pz,keysOf,nt,eR,not_or];by_cases h:k=e.1;·simp [h]
  ·have:=Ll (k:=k) (M:=r) (i:=i+1);simp [h,keysOf] at this ⊢;exact this
variable {bc:I ar}
def SR:∀{M:I ql} {i j:Z} {n:ac},pz bc M i=aa (j,n)->i<=j/\(M[j-i]?).map (·.1)=aa bc
 | [],_,_,_,h=>by simp [pz] at h
 | e::r,i,j,n,h=>by
  simp only [pz] at h;split at h;·rename_i a;injection h with h;injection h with b c;subst b;simp at a;simp [a]
  ·obtain ⟨b,c⟩:=SR h;refine ⟨ai,?_⟩;have:j-i=(j-(i+1))+1:=ai;rw [this];simpa using c
def SY (k:I ar) (n:ac) (M:I ql) (c:Z):keysOf (DH k n M c)=if k ∈ keysOf M then keysOf M else keysOf M++[k]:=by
 unfold DH;cases h:pz k M 0 with
 | none=>rw [aj<|Ll.1 h];simp [keysOf]
 | some r=>
  obtain ⟨j,v⟩:=r;have a:=(SR h).2;have f:k ∈ keysOf M:=by cases Classical.em (k ∈ keysOf M) with| inl b=>exact b| inr b=>rw [Ll.2 b] at h;cases h
  rw [aD f];apply r0;intro i;simp only [keysOf,fp,vp];cases g:M[i]? with
  | none=>simp
  | some e=>
   by_cases d:j=i;·subst d;simp only [qp,g] at a;simp at a;simp [a]
   ·simp [d]
def qm (l:I<|I ar):Z->I ql×Z| 0=>([],0)| i+1=>(DH (l[i]?.getD []) (an.wrap<|Lj (l[i]?.getD []) (qm l i).1+1) (qm l i).1 (qm l i).2,Lk (l[i]?.getD []) (qm l i).1 (qm l i).2)
def SZ (l:I<|I ar) (k:I ar):∀i,k ∈ keysOf (qm l i).1↔∃j,j<i/\l[j]?.getD []=k
 | 0=>by simp [qm,keysOf]
 | i+1=>by
  have b:=SZ l k i;simp only [qm,SY];have step:(∃j,j<i+1/\l[j]?.getD []=k)↔(∃j,j<i/\l[j]?.getD []=k)\/l[i]?.getD []=k:=by
   constructor
   ·rintro ⟨j,a,e⟩;rcases oq.1 a with h | rfl;·exact bB ⟨j,h,e⟩
    ·exact be e
   ·rintro (⟨j,a,e⟩ | e);·exact ⟨j,ai,e⟩
    ·exact ⟨i,ai,e⟩
  rw [step,<-b];split
  ·rename_i c;constructor;·exact bB
   ·rintro (h | h);·exact h
    ·rw [<-h];exact c
  ·simp [eq_comm]
def S9 (l:I<|I ar):∀i,(keysOf (qm l i).1).length<=i/\((keysOf (qm l i).1).length<i↔∃c,c<i/\∃j,j<c/\l[j]?.getD []=l[c]?.getD [])
 | 0=>by simp [qm,keysOf]
 | i+1=>by
  obtain ⟨n,g⟩:=S9 l i;have k:=SZ l (l[i]?.getD []) i;simp only [qm,SY];split;·rename_i f;obtain ⟨j,d,e⟩:=k.1 f;exact ⟨ai,⟨λ_=>⟨i,ai,j,d,e⟩,λ_=>by omega⟩⟩
  ·rename_i f;refine ⟨by simp;omega,?_⟩;rw [iy,zP];constructor;·intro h;obtain ⟨c,a,b⟩:=g.1 ai;exact ⟨c,ai,b⟩
   ·rintro ⟨c,m,j,d,e⟩;rcases oq.1 m with h | rfl;·have:=g.2 ⟨c,h,j,d,e⟩;omega
    ·exact absurd (k.2 ⟨j,d,e⟩) f
def acG (l:I<|I ar):decide (((qm l l.length).1.length:ac)<(l.length:ac))=g6 l:=by
 have h:=(S9 l l.length).2;simp only [keysOf,fB] at h;rw [mA];unfold g6;simp only [cw,ta,yb,j8];constructor;·intro b;obtain ⟨i,hi,j,a,e⟩:=h.1 ai;exact ⟨i,hi,j,a,e.symm⟩
 ·rintro ⟨i,hi,j,a,e⟩;have:=h.2 ⟨i,hi,j,a,e.symm⟩;omega
def js:aC.underlying 124=aa (.map 9 3):=ah
def lY:zeroOf aC 3=aa (am an 0):=ah
def DI:aT aC 48 0=aa 0:=ah
def lz:aT aC 48 3=aa 3:=ah
def sT:aT aC 48 1=aa 1:=ah
def oR:aT aC 48 2=aa 2:=ah
def DJ:aT aC 42 1=aa 1:=ah
def zt:g_ aC 40=aa 4:=ah
def pA:i2 aC 48=aa 4:=ah
def oh:zeroOf aC 48=aa (b0 #[am an 0,am an 0,am an 0,st []]):=ah
def oS:e2 aC 48=aa 4:=ah
def Lm:aT aC 42 0=aa 0:=ah
def FA (b:View) (a:aA a6) (c:Z) (l:I<|I ar) (w:aP) (h:Le b w) (d:Sl rdStr 1 b a c l) : cx aC 70 #[aE a l.length c] w λe g=>e = cf (bW<|g6 l)/\Ext w g:=by
 have s:=d.cap;have t:=d.max;refine enter func70 O 23 O O<|CE (Vs:=[b]) (Ws.init (by simp [h]))<|ak<|au O<|ag<|ak ?_;refine WL.VL Y O λj=>au O<|ag<|Cs<|ak<|ab O<|V0 (Yn gf O)<|ab O<|ag<|Cb ?_;refine f_ (ι:=Z) (λi=>[(9,am an (i:ac))]) [(0,_),(2,_),(3,_),(7,_),(8,_)] (λi=>Ws w [] [aQ j<|r5 (iv (qm l i).1) (qm l i).2] [b]) (λi=>i<=l.length) (λi=>l.length-i) 0 (dw _) a' λi hi=>ak<|V0 (c8 O O)<|ag<|Cs ?_;refine Cc O (λf=>?_)<|λf=>?_
 ·have k:i<l.length:=by simpa using f
  obtain ⟨pb,m,n,o⟩:=d.ct i (l[i]?.getD []) (by rw [cy k];rfl);have p:vc b pb (m+i*1)=aa (st<|l[i]?.getD []):=o 0 _ rfl;refine ay<|Cs<|Cb<|ak<|V0 (Yo gf O O n ai)<|V0 (ew 0 ah O O<|p)<|au O<|ag<|Cr<|ab O<|ab O<|V0 (VM 0 js ah lY O O O) ?_;rw [acD];refine V0 (ud O O)<|WL.VN 0 Y js ah O O O O ?_;rw [acE,acF];refine Ln<|Eb<|Et<|Cr<|V0 (Yi O O O ai)<|ab O<|Ln ?_;exact ep (i+1) ai ai a'
 have q:i=l.length:=by simp at f;omega
 subst q;refine Ce<|Ex<|Ex<|ee<|Et<|ak<|ab O<|V0 (E9 0 js O O)<|ab O<|V0 (Yn gf O)<|V0 (c8 O O)<|au O ?_;refine ag<|bu ?_;refine R1 O O λg r=>⟨by rw [<-acG];simp [iv],r.fr⟩
def acH (x:dB) (w:aP) : cx aC 127 #[b0 #[am an x.kind,am an x.n,am an x.pl,st x.name]] w λe c=>e = cf (bW<|pZ x)/\Ext w c:=by
 refine enter func127 O 42 O O<|CE (Vs:=[]) (Ws.init aK)<|ak ?_;refine WL.box Y O O λm=>au O<|ag<|ak<|au O<|au O<|ag<|ak<|au O<|ag<|Cs<|ak<|V0 (Yf DI O) ?_;refine V0 (Yd 0 O O O ah)<|ag<|Cb<|ak<|V0 (bY O O)<|au O<|ag ?_;refine Cc O (λd=>?_)<|λd=>?_
 ·refine Cr<|au O<|Ln<|Eb<|Et<|ak<|V0 (Yf lz O)<|V0 (Yd 0 O O O ah)<|Lp Y O bp O (λw a=>h0 _ w)<|ab O ?_;apply La 4 O O O O Y O O O O O;·intro i;refine Vg (Yf sT O)<|Vg (Yd 0 O O O ah)<|Vg (Ym O)<|Vg (h9 O O) ?_;exact Gt 4 O O O
  refine ab O ?_;apply La 4 O O O O Y O O O O O;·intro j;refine Vg (Yf sT O)<|Vg (Yd 0 O O O ah)<|Vg (Ym O)<|Vg (li O O) ?_;exact Gt 4 O O O
  refine ab O ?_;apply La 3 O O O O Y O O O O O;·intro k;refine Vg (Yf oR O)<|Vg (Yd 0 O O O ah)<|Vg (h9 O O) ?_;exact Gt 3 O O O
  refine ab O ?_;apply La 4 O O O O Y O O O O O;·intro l;refine Vg (Yf oR O)<|Vg (Yd 0 O O O ah)<|Vg (Ym O)<|Vg (li O O) ?_;exact Gt 4 O O O
  refine au O<|ag<|bu ?_;refine R1 O O λc a=>?_;have b:x.kind=1:=by simpa using d
  exact ⟨by rw [FH (by simp [b])],a.fr⟩
 refine ak<|V0 (bY O O)<|au O<|ag ?_;refine Cc O (λf=>?_)<|λf=>?_
 ·refine Cr<|au O<|Ln<|Eb<|Et<|ak<|V0 (Yf lz O)<|V0 (Yd 0 O O O ah)<|Lp Y O bp O (λw a=>h0 _ w)<|ab O ?_;apply La 4 O O O O Y O O O O O;·intro i;refine Vg (Yf sT O)<|Vg (Yd 0 O O O ah)<|Vg (Ym O)<|Vg (h9 O O) ?_;exact Gt 4 O O O
  refine ab O ?_;apply La 4 O O O O Y O O O O O;·intro j;refine Vg (Yf sT O)<|Vg (Yd 0 O O O ah)<|Vg (Ym O)<|Vg (li O O) ?_;exact Gt 4 O O O
  refine ab O ?_;apply La 3 O O O O Y O O O O O;·intro k;refine Vg (Yf oR O)<|Vg (Yd 0 O O O ah)<|Vg (h9 O O) ?_;exact Gt 3 O O O
  refine ab O ?_;apply La 4 O O O O Y O O O O O;·intro l;refine Vg (Yf oR O)<|Vg (Yd 0 O O O ah)<|Vg (Ym O)<|Vg (li O O) ?_;exact Gt 4 O O O
  refine au O<|ag<|bu ?_;refine R1 O O λc a=>?_;have b:x.kind=2:=by simpa using f
  exact ⟨by rw [FH (by simp [b])],a.fr⟩
 refine ak<|V0 (bY O O)<|au O<|ag ?_;refine Cc O (λg=>?_)<|λg=>?_
 ·refine Cr<|au O<|au O<|Ln<|Eb<|Et<|ak<|V0 (Yf lz O)<|V0 (Yd 0 O O O ah)<|Lp Y O bp O (λw a=>h0 _ w)<|ab O ?_;apply La 4 O O O O Y O O O O O;·intro i;refine Vg (Yf sT O)<|Vg (Yd 0 O O O ah)<|Vg (Ym O)<|Vg (h9 O O) ?_;exact Gt 4 O O O
  refine ab O ?_;apply La 4 O O O O Y O O O O O;·intro j;refine Vg (Yf sT O)<|Vg (Yd 0 O O O ah)<|Vg (Ym O)<|Vg (li O O) ?_;exact Gt 4 O O O
  refine ab O ?_;apply La 3 O O O O Y O O O O O;·intro k;refine Vg (Yf oR O)<|Vg (Yd 0 O O O ah)<|Vg (h9 O O) ?_;exact Gt 3 O O O
  refine ab O ?_;apply La 4 O O O O Y O O O O O;·intro l;refine Vg (Yf oR O)<|Vg (Yd 0 O O O ah)<|Vg (Ym O)<|Vg (li O O) ?_;exact Gt 4 O O O
  refine au O<|ag<|bu ?_;refine R1 O O λc a=>?_;have b:x.kind=3:=by simpa using g
  exact ⟨by rw [FH (by simp [b])],a.fr⟩
 refine ak<|V0 (bY O O)<|au O<|ag ?_;refine Cc O (λh=>?_)<|λh=>?_
 ·refine Cr<|au O<|Ln<|Eb<|Et<|ak<|V0 (Yf lz O)<|V0 (Yd 0 O O O ah)<|Lp Y O bp O (λw a=>h0 _ w)<|ab O ?_;apply La 4 O O O O Y O O O O O;·intro i;refine Vg (Yf sT O)<|Vg (Yd 0 O O O ah)<|Vg (Ym O)<|Vg (h9 O O) ?_;exact Gt 4 O O O
  refine ab O ?_;apply La 4 O O O O Y O O O O O;·intro j;refine Vg (Yf sT O)<|Vg (Yd 0 O O O ah)<|Vg (Ym O)<|Vg (li O O) ?_;exact Gt 4 O O O
  refine ab O ?_;apply La 3 O O O O Y O O O O O;·intro k;refine Vg (Yf oR O)<|Vg (Yd 0 O O O ah)<|Vg (h9 O O) ?_;exact Gt 3 O O O
  refine ab O ?_;apply La 4 O O O O Y O O O O O;·intro l;refine Vg (Yf oR O)<|Vg (Yd 0 O O O ah)<|Vg (Ym O)<|Vg (li O O) ?_;exact Gt 4 O O O
  refine au O<|ag<|bu ?_;refine R1 O O λc a=>?_;have b:x.kind=4:=by simpa using h
  exact ⟨by rw [FH (by simp [b])],a.fr⟩
 refine ak<|au O<|ag<|bu<|aU<|Er ?_;refine R1 O O λc a=>?_;simp at d f g h;exact ⟨by rw [WN d f g h],a.fr⟩
def acI (i:View) (a:aA a6) (c:Z) (name:I ar) (b:I dB) (w:aP) (u:Le i w) (n:Sl nV 4 i a c b) : cx aC 51 #[b0 #[st name,aE a b.length c]] w λe k=>e = cf (am an<|pc name b)/\Ext w k:=by
 have M:=n.cap;have N:=n.max;refine enter func51 O 34 O O<|CE (Vs:=[i]) (Ws.init (by simp [u]))<|ak ?_;refine WL.box Y O O λv=>au O<|ag<|Cs<|ak<|V0 (Yf DJ O)<|V0 (Yd 0 O O O ah)<|V0 (Yn zt O)<|V0 (eZ O O)<|ag ?_;refine Cc O (λo=>?_)<|λo=>?_
 ·have l:16<b.length:=by simp at o;omega
  refine ak<|au O<|ag<|bu<|Er ?_;refine R1 O O λk f=>⟨by rw [pc,aD l],f.fr⟩
 have l:¬16<b.length:=by simp at o;omega
 refine ay<|ak<|au O<|LW (λ_ h=>h.hM 9 1)<|ag<|Cs<|ak<|V0 (Yf DJ O)<|V0 (Yd 1 O O O ah)<|V0 (Yn zt O)<|ab O ?_;refine ag<|Cb ?_;refine f_ (ι:=Z×aA a6×Z) (λg=>[(13,am an (g.1:ac)),(3,aE g.2.1 ((b.take g.1).map (·.name)).length g.2.2)]) [(1,_),(11,_),(12,_)] (λg=>Ws w [] [cQ 9 1 g4 g.2.1 g.2.2 ((b.take g.1).map (·.name)),aQ v<|aY (aR.agg #[st name,aE a b.length c]).cells 42 (0,0)] [i]) (λg=>g.1<=b.length/\∀j x,j<g.1->b[j]? = aa x->pZ x=ad) (λg=>b.length-g.1) (0,ao,0) ⟨dw _,aK⟩ a' λg ⟨hi,p⟩=>ak<|V0 (c8 O O)<|ag<|Cs ?_;refine Cc O (λq=>?_)<|λq=>?_
 ·have z:g.1<b.length:=by simpa using q
  obtain ⟨x,m⟩:=bk z;obtain ⟨pb,A,B,r⟩:=n.ct g.1 x m;have r:cB i pb (A+g.1*4) x.cells:=r;have C:(b.take<|g.1+1).map (·.name)=(b.take g.1).map (·.name)++[x.name]:=by rw [h7,m];simp
  have hL:((b.take g.1).map (·.name)).length=g.1:=by simp;omega
  refine ay<|Cs<|Cb<|ak<|V0 (Yo zt O O B ai)<|V0 (eB 0 pA O O O<|r) ?_;refine Al Y O oh λP=>aw 0 Y O O O oS O O O<|ag<|Cs<|ak<|V0 (dW 0 O O pA O)<|Lp Y O bp O (λw f=>acH x w)<|V0 (ih O)<|ag ?_;refine Cc O (λs=>?_)<|λs=>?_;·have D:=WP m (by simpa using s);refine ak<|au O<|ag<|bu<|Er<|aU<|Er<|Er<|aU<|Er ?_;refine R1 O O λk f=>⟨by rw [pc,aj l,D];rfl,f.fr⟩
  have E:pZ x=ad:=by simpa using s
  refine ay<|Cr<|ab O<|V0 (Yf lz O)<|V0 (Yd 0 O O O ah) ?_;refine Lb Y O gQ O O O O λQ=>eb 0 (aY (g4 x.name).toArray 9 (0,0)) O O<|LA x.name 2 0 Y O gQ O O O O O O ai ai λF G=>au O<|Ln<|Eb<|Et<|Cr<|V0 (Yi O O O ai)<|ab O<|Ln ?_;rw [<-C];exact ep ((g.1+1,F,G):Z×aA a6×Z) (by first|omega|(dsimp only;omega)) ⟨by first|omega|(dsimp only;omega),λj y H d=>by
   rcases oq.1 H with h | h;·exact p j y h d
   ·subst h;rw [m] at d;injection d with d;subst d;exact E⟩<|λ_ h=>Wd 2 h
 have J:g.1=b.length:=by simp at q;omega
 rw [J,gH];refine Ce<|Ex<|Ex<|ee<|Et<|Cs<|Cs ?_;refine WC.dM (rd:=rdStr) 0 O rn iH λK L=>Cr<|ab O ?_;refine Lp Y O bp O (λw f=>by have:=FA K g.2.1 g.2.2 (b.map (·.name)) w f.V L;exact this)<|ab O ?_;apply Lo 4 O O O O Y O O O O O;·intro R;refine Vg (Yf Lm O)<|Vg (Yd 0 O O O ah)<|Lp (.g O O O) O bp O (λw f=>h0 _ w)<|Vg (ih O) ?_;exact Gt 4 O O O
 refine ag<|Cc O (λt=>?_)<|λt=>?_;·refine ak<|au O<|ag<|bu<|Er ?_;refine R1 O O λk f=>?_;have d:=Om λj y d=>p j y (by have:=(cN.1 d).1;omega) d;exact ⟨by rw [pc,aj l,d,t];rfl,f.fr⟩
 refine ay<|ak<|au O<|ag<|bu ?_;refine R1 O O λk f=>?_;have d:=Om λj y d=>p j y (by have:=(cN.1 d).1;omega) d;exact ⟨by rw [pc,aj l,d,t];rfl,f.fr⟩
def FB (h:jh bD=0):nG bD:=Gz<|KL.1 h
def acJ (h:Gy h4):0<=lp h4/\lp h4<=32:=by
 unfold lp;have a:=h.n3;split;·omega
 ·split;·rename_i b;have:=a b;omega
  ·omega
def S1:∀{l:I fd},(∀d ∈ l,(kz d).aM=0)->0<=hO l/\hO l<=32*(l.length:ac)| [],_=>by simp [hO]| d::l,h=>by have b:=acJ<|y'<|h d aK;have c:=S1 (l:=l) λx a=>h x<|m1 _ a;simp only [hO,gj];omega
def S2 (a:nG bD) (i:Z):0<=hO (bD.decls.take i)/\hO (bD.decls.take i)<=320:=by
 have h:=S1 (l:=bD.decls.take i) λd b=>a.decls d<|BX b;have c:=a.fH.2.1;have e:((bD.decls.take i).length:ac)<=10:=by rw [m3];omega
 omega
variable {az:ac}
def acK (h:h4.kind=1):dB.cells (qH az h4)=[am an h4.kind,am an h4.n,am an 0,st h4.nm]:=by rw [qH,aD h];rfl
def S3 (h:¬h4.kind=1):dB.cells (qH az h4)=[am an h4.kind,am an h4.n,am an az,st h4.nm]:=by rw [qH,aj h];rfl
def acL (h:h4.kind=1):lp h4=0:=by rw [lp,aj ai,aj ai]
def acM (h:h4.kind=2):lp h4=1:=by rw [lp,aD h]
def acN (h:h4.kind=3):lp h4=h4.n:=by rw [lp,aj ai,aD h]
def FC:hW aC 48=aa [(0,1),(1,1),(2,1),(3,1)]:=ah
def u_:ii aC 40 48 (b0 #[am an 0,am an 0,am an 0,st []]) 4 40:=j_ ah
def S4 (a:View) (ke ks:Z) (r:ox) (m:cV) (w:aP) (K:Le a w) (b:oy ke ks a r m) (k:nG m) :
   cx aC 56 #[b0 (b7 m r).toArray] w λe o=>∃r:SP,e = cf (cO #[aE r.1 (gJ m).length r.2,am an (oz m)])/\Ext w o/\Sl nV 4 (nv w o) r.1 r.2 (gJ m):=by
 have fH:=k.fH;have W:=b.decls.max;have X:=b.decls.cap;have ae:=b.procs.max;have af:=b.procs.cap;refine enter func56 O 67 O O<|CE (Vs:=[a]) (Ws.init (by simp [K]))<|ak ?_;refine WL.box Y O O λz=>au O<|au O<|ag<|ak<|au O<|LW (λ_ h=>h.hM 48 4)<|ag<|ak<|au O<|ag<|Cs<|ak ?_;refine V0 (Yf Bl O)<|V0 (Yd 1 O O O ah)<|V0 (Yn zk O)<|ab O<|ag<|Cb ?_;refine f_ (ι:=Z×aA a6×Z) (λg=>[(14,am an (g.1:ac)),(4,aE g.2.1 (lP (m.decls.take g.1) 0).length g.2.2),(5,am an<|hO<|m.decls.take g.1)]) [(1,_),(2,_),(3,_),(12,_),(13,_)] (λg=>Ws w [] [cQ 48 4 dB.cells g.2.1 g.2.2<|lP (m.decls.take g.1) 0,aQ z<|aY (b7 m r).toArray 27 (0,0)] [a]) (λg=>g.1<=m.decls.length) (λg=>m.decls.length-g.1) (0,ao,0) (dw _) a' λg hi=>ak<|V0 (c8 O O)<|ag<|Cs ?_;refine Cc O (λl=>?_)<|λl=>?_
 ·have q:g.1<m.decls.length:=by simpa using l
  obtain ⟨d,s⟩:=bk q;obtain ⟨L,M,N,t⟩:=b.decls.ct g.1 d s;have t:cB a L (M+g.1*4) d.cells:=t;have A:=y'<|k.decls d<|aW s;have B:m.decls.take (g.1+1)=m.decls.take g.1++[d]:=l3 s;have c:lP (m.decls.take<|g.1+1) 0=lP (m.decls.take g.1) 0++[qH (hO<|m.decls.take g.1) d]:=by rw [B,Oo,If]
  have u:hO (m.decls.take<|g.1+1)=hO (m.decls.take g.1)+lp d:=by rw [B,On]
  have aj:=S2 k g.1;have al:=S2 k<|g.1+1;have ap:(lP (m.decls.take g.1) 0).length=g.1:=by rw [FI,m3];omega
  have av:=A.n3;refine ay<|Cs<|Cb<|ak<|V0 (Yo zk O O N ai)<|V0 (eB 0 e5 O O O<|t) ?_;refine Al Y O zm λax=>aw 0 Y O O O wi O O O<|ag<|ak<|V0 (Yf Bf O)<|V0 (Yd 0 O O O ah)<|V0 (Yf wg O)<|V0 (Yd 0 O O O ah)<|V0 (Yf p' O)<|V0 (Yd 0 O O O ah) ?_;refine V0 (Yb oh FC O O)<|Al Y O oh λaz=>aw 0 Y O O O oS O O O<|ag<|Cs<|ak<|V0 (Yf Bf O)<|V0 (Yd 1 O O O ah)<|ag<|Cb<|ak<|V0 (bY O O)<|au O<|ag ?_;refine Cc O (λv=>?_)<|λv=>?_
  ·have C:d.kind=2:=by simpa using v
   have f:=acM C;refine ak<|ab O<|V0 (Yf oR O)<|aw 0 Y O O O eE O O O<|ag<|Cr<|ab O<|V0 (E7 (hO<|m.decls.take<|g.1+1) O O (by rw [u,f]) ai)<|au O ?_;refine Ln<|Eb<|Et<|Cr<|ab O<|V0 (dW 0 O O pA O) ?_;refine Lb Y O u_ O O O O λD=>eb 0 (aY (dB.cells<|qH (hO<|m.decls.take g.1) d).toArray 48 (0,0)) O (by rw [S3 ai];rfl)<|LA (qH (hO<|m.decls.take g.1) d) 3 0 Y O u_ O O O O O O ai ai λi j=>au O<|Ln<|Eb<|Et<|Cr<|V0 (Yi O O O ai)<|ab O<|Ln ?_;rw [<-c];exact ep ((g.1+1,i,j):Z×aA a6×Z) (by first|omega|(dsimp only;omega)) (by first|omega|(dsimp only;omega))<|λ_ h=>Wd 3 h
  have C:¬d.kind=2:=by simpa using v
  refine ak<|V0 (bY O O)<|au O<|ag ?_;refine Cc O (λx=>?_)<|λx=>?_
  ·have E:d.kind=3:=by simpa using x
   have f:=acN E;refine ak<|ab O<|V0 (Yf oR O)<|aw 0 Y O O O eE O O O<|ag<|Cr<|ab O<|V0 (Yf wg O)<|V0 (Yd 1 O O O ah) ?_;refine V0 (E7 (hO<|m.decls.take<|g.1+1) O O (by rw [u,f]) ai)<|au O<|Ln<|Eb<|Et<|Cr<|ab O<|V0 (dW 0 O O pA O) ?_;refine Lb Y O u_ O O O O λD=>eb 0 (aY (dB.cells<|qH (hO<|m.decls.take g.1) d).toArray 48 (0,0)) O (by rw [S3 ai];rfl)<|LA (qH (hO<|m.decls.take g.1) d) 3 0 Y O u_ O O O O O O ai ai λi j=>au O<|Ln<|Eb<|Et<|Cr<|V0 (Yi O O O ai)<|ab O<|Ln ?_;rw [<-c];exact ep ((g.1+1,i,j):Z×aA a6×Z) (by first|omega|(dsimp only;omega)) (by first|omega|(dsimp only;omega))<|λ_ h=>Wd 3 h
  have E:¬d.kind=3:=by simpa using x
  have F:d.kind=1:=by have:=A.kind;omega
  have f:=acL F;have P:hO (m.decls.take<|g.1+1)=hO (m.decls.take g.1):=by rw [u,f];omega
  refine Ck<|Eb<|Et<|Cr<|ab O<|V0 (dW 0 O O pA O) ?_;refine Lb Y O u_ O O O O λD=>eb 0 (aY (dB.cells<|qH (hO<|m.decls.take g.1) d).toArray 48 (0,0)) O (by rw [acK F];rfl)<|LA (qH (hO<|m.decls.take g.1) d) 3 0 Y O u_ O O O O O O ai ai λi j=>au O<|Ln<|Eb<|Et<|Cr<|V0 (Yi O O O ai)<|ab O<|Ln ?_;rw [<-c];rw [<-P];exact ep ((g.1+1,i,j):Z×aA a6×Z) (by first|omega|(dsimp only;omega)) (by first|omega|(dsimp only;omega))<|λ_ h=>Wd 3 h
 have n:g.1=m.decls.length:=by simp at l;omega
 rw [n,gH];clear n l hi;refine Ce<|Ex<|Ex<|ee<|Et<|Cs<|ak<|V0 (Yf zl O)<|V0 (Yd 1 O O O ah)<|V0 (Yn wh O)<|ab O<|ag<|Cb ?_;rw [show lP m.decls 0=lP m.decls 0++nW (m.procs.take 0) 0 by simp [nW]];refine f_ (ι:=Z×aA a6×Z) (λg=>[(49,am an (g.1:ac)),(4,aE g.2.1 (lP m.decls 0++nW (m.procs.take g.1) 0).length g.2.2)]) [(2,_),(3,_),(5,_),(47,_),(48,_)] (λg=>Ws w [] [cQ 48 4 dB.cells g.2.1 g.2.2<|lP m.decls 0++nW (m.procs.take g.1) 0,aQ z<|aY (b7 m r).toArray 27 (0,0)] [a]) (λg=>g.1<=m.procs.length) (λg=>m.procs.length-g.1) (0,g.2.1,g.2.2) (dw _) a' ?_;clear g;intro g hi;refine ak<|V0 (c8 O O)<|ag<|Cs ?_;refine Cc O (λy=>?_)<|λy=>?_
 ·have q:g.1<m.procs.length:=by simpa using y
  obtain ⟨p,G⟩:=bk q;obtain ⟨aB,aD,Q,R⟩:=b.procs.ct g.1 p G;obtain ⟨aF,aG,aH,aI,aK,aL,S,H,aM,aN⟩:=R;have aO:=H.max;have aT:=H.cap;have T:m.procs.take (g.1+1)=m.procs.take g.1++[p]:=l3 G;have c:lP m.decls 0++nW (m.procs.take<|g.1+1) 0=(lP m.decls 0++nW (m.procs.take g.1) 0)++[Cu g.1 p]:=by rw [T,Oq,g2,lJ,m3,vn ai]
  have aU:(lP m.decls 0++nW (m.procs.take g.1) 0).length<=16:=by rw [iy,FI,I7,m3];omega
  refine ay<|Cs<|Cb<|ak<|ab O<|V0 (Yo wh O O Q ai)<|V0 (eB 0 Bm O O O<|S) ?_;refine Al Y O zn λaV=>au O<|aw 0 Y O O O Bn O O O<|ag<|Cr<|ab O<|V0 (Yf u6 O)<|V0 (Yd 0 O O O ah)<|V0 (Yn gf O)<|ab O ?_;refine V0 (Yf Sr O)<|V0 (Yd 0 O O O ah)<|V0 (Yb oh FC O O) ?_;refine Lb Y O u_ O O O O λaX=>eb 0 (aY (dB.cells<|Cu g.1 p).toArray 48 (0,0)) O O<|LA (Cu g.1 p) 2 0 Y O u_ O O O O O O ai ai λU V=>au O<|Ln<|Eb<|Et<|Cr<|V0 (Yi O O O ai)<|ab O<|Ln ?_;rw [<-c];exact ep ((g.1+1,U,V):Z×aA a6×Z) (by first|omega|(dsimp only;omega)) (by first|omega|(dsimp only;omega))<|λ_ h=>Wd 2 h
 have n:g.1=m.procs.length:=by simp at y;omega
 rw [n,gH];refine Ce<|Ex<|Ex<|ee<|Et<|ak<|ab O<|ab O<|au O<|au O<|ag<|bu ?_;refine WE.jv O O O λo J=>⟨(g.2.1,g.2.2),O,J.fr,J.kb 0 O dB.dR iH⟩
def acO (h:bD.procs[bE]? = aa i7):bD.decls.map (·.dp)++(bD.procs.take<|bE+1).map (·.dp)=(bD.decls.map (·.dp)++(bD.procs.take bE).map (·.dp))++[i7.dp]:=by rw [l3 h];simp
def acP (h:bD.decls[bE]? = aa h4):(bD.decls.take<|bE+1).map (·.dp)=(bD.decls.take bE).map (·.dp)++[h4.dp]:=by rw [l3 h];simp
def S5 (h:¬jh bD=0):eW bD=(([],[]),jh bD):=by rw [eW,aD h]
def S6 (h:jh bD=0) (a:(g6 ((gJ bD).map (·.name))||g6 bD.aN)=ad):eW bD=(([],[]),6):=by rw [eW,aj (by simp [h]),aD a]
def acQ (h:jh bD=0) (a:(g6 ((gJ bD).map (·.name))||g6 bD.aN)=aq):eW bD=((bD.nm,lQ (gJ bD)<|nX bD),0):=by rw [eW,aj (by simp [h]),aj (by simp [a])]
def FQ (m:cV) (i:Z):I dB:=lQ ((gJ m).take i)<|(nX m).take i
def acR (m:cV):FQ m (gJ m).length=lQ (gJ m) (nX m):=by unfold FQ;rw [gH,Cv,<-FJ,gH]
variable {ir:dB}
def acS (a:(gJ bD)[bE]? = aa ir) (b:(nX bD)[bE]? = aa dS):FQ bD (bE+1)=FQ bD bE++(if dS=ad then [ir] else []):=WQ (by rw [Cv,FJ]) a b
def acT (m:cV) (i:Z):(FQ m i).length<=i:=by have:=I8 ((gJ m).take i)<|(nX m).take i;simp at this;show (lQ _ _).length<=i;omega
structure GF where
 i:Z
 n:SP
 f:SP
def AT:ii aC 132 4 (bW aq) 1 1:=j_ ah
def ww:zeroOf aC 42=aa (b0 #[st [],aE ao 0 0]):=ah
def Lr:hW aC 42=aa [(0,1),(1,1)]:=ah
def zu:e2 aC 42=aa 2:=ah
def zv:i2 aC 42=aa 2:=ah
def xp:g_ aC 132=aa 1:=ah
def acU:e2 aC 40=aa 1:=ah
def acV (a:View) (ke ks:Z) (r:ox) (m:cV) (w:aP) (u:Le a w) (b:oy ke ks a r m) (v:nG m) :
   cx aC 69 #[b0 (b7 m r).toArray] w λe i=>∃r:SP,e = cf (aE r.1 (nX m).length r.2)/\Ext w i/\Sl rdBool 1 (nv w i) r.1 r.2 (nX m):=by
 have fH:=v.fH;have J:=b.decls.max;have K:=b.decls.cap;have L:=b.procs.max;have M:=b.procs.cap;refine enter func69 O 35 O O<|CE (Vs:=[a]) (Ws.init (by simp [u]))<|ak ?_;refine WL.box Y O O λo=>au O<|ag<|ak<|au O<|LW (λ_ h=>h.hM 4 1)<|ag<|Cs<|ak<|V0 (Yf Bl O)<|V0 (Yd 1 O O O ah)<|V0 (Yn zk O) ?_;refine ab O<|ag<|Cb ?_;refine f_ (ι:=Z×aA a6×Z) (λg=>[(11,am an (g.1:ac)),(3,aE g.2.1 ((m.decls.take g.1).map (·.dp)).length g.2.2)]) [(1,_),(2,_),(9,_),(10,_)] (λg=>Ws w [] [cQ 4 1 yG g.2.1 g.2.2 ((m.decls.take g.1).map (·.dp)),aQ o<|aY (b7 m r).toArray 27 (0,0)] [a]) (λg=>g.1<=m.decls.length) (λg=>m.decls.length-g.1) (0,ao,0) (dw _) a' λg hi=>ak<|V0 (c8 O O)<|ag<|Cs ?_;refine Cc O (λc=>?_)<|λc=>?_
 ·have j:g.1<m.decls.length:=by simpa using c
  obtain ⟨d,q⟩:=bk j;obtain ⟨x,y,z,k⟩:=b.decls.ct g.1 d q;have k:cB a x (y+g.1*4) d.cells:=k;have l:=acP q;have A:((m.decls.take g.1).map (·.dp)).length=g.1:=by simp;omega
  refine ay<|Cs<|Cb<|ak<|V0 (Yo zk O O z ai)<|V0 (eB 0 e5 O O O<|k) ?_;refine Al Y O zm λN=>aw 0 Y O O O wi O O O<|ag<|Cr<|ab O<|V0 (Yf abs O)<|V0 (Yd 0 O O O ah) ?_;refine Lb Y O AT O O O O λP=>eb 0 (aY (yG d.dp).toArray 4 (0,0)) O O<|LA d.dp 2 0 Y O AT O O O O O O ai ai λB C=>au O<|Ln<|Eb<|Et<|Cr<|V0 (Yi O O O ai)<|ab O<|Ln ?_;rw [<-l];exact ep ((g.1+1,B,C):Z×aA a6×Z) (by first|omega|(dsimp only;omega)) (by first|omega|(dsimp only;omega))<|λ_ h=>Wd 2 h
 have f:g.1=m.decls.length:=by simp at c;omega
 rw [f,gH];clear f c hi;refine Ce<|Ex<|Ex<|ee<|Et<|Cs<|ak<|V0 (Yf zl O)<|V0 (Yd 1 O O O ah)<|V0 (Yn wh O)<|ab O<|ag<|Cb ?_;rw [show m.decls.map (·.dp)=m.decls.map (·.dp)++(m.procs.take 0).map (·.dp) by simp];refine f_ (ι:=Z×aA a6×Z) (λg=>[(24,am an (g.1:ac)),(3,aE g.2.1 (m.decls.map (·.dp)++(m.procs.take g.1).map (·.dp)).length g.2.2)]) [(2,_),(22,_),(23,_)] (λg=>Ws w [] [cQ 4 1 yG g.2.1 g.2.2 (m.decls.map (·.dp)++(m.procs.take g.1).map (·.dp)),aQ o<|aY (b7 m r).toArray 27 (0,0)] [a]) (λg=>g.1<=m.procs.length) (λg=>m.procs.length-g.1) (0,g.2.1,g.2.2) (dw _) a' ?_;clear g;intro g hi;refine ak<|V0 (c8 O O)<|ag<|Cs ?_;refine Cc O (λn=>?_)<|λn=>?_
 ·have j:g.1<m.procs.length:=by simpa using n
  obtain ⟨p,s⟩:=bk j;obtain ⟨Q,R,D,E⟩:=b.procs.ct g.1 p s;obtain ⟨S,T,U,V,W,X,F,ae,af,aj⟩:=E;have l:=acO s;have A:(m.decls.map (·.dp)++(m.procs.take g.1).map (·.dp)).length<=16:=by simp;omega
  refine ay<|Cs<|Cb<|ak<|V0 (Yo wh O O D ai)<|V0 (eB 0 Bm O O O<|F) ?_;refine Al Y O zn λal=>aw 0 Y O O O Bn O O O<|ag<|Cr<|ab O<|V0 (Yf abt O)<|V0 (Yd 0 O O O ah) ?_;refine Lb Y O AT O O O O λap=>eb 0 (aY (yG p.dp).toArray 4 (0,0)) O O<|LA p.dp 2 0 Y O AT O O O O O O ai ai λG H=>au O<|Ln<|Eb<|Et<|Cr<|V0 (Yi O O O ai)<|ab O<|Ln ?_;rw [<-l];exact ep ((g.1+1,G,H):Z×aA a6×Z) (by first|omega|(dsimp only;omega)) (by first|omega|(dsimp only;omega))<|λ_ h=>Wd 2 h
 have f:g.1=m.procs.length:=by simp at n;omega
 rw [f,gH];refine Ce<|Ex<|Ex<|ee<|Et<|ak<|ab O<|au O<|ag<|bu ?_;refine R1 O O λi t=>⟨(g.2.1,g.2.2),O,t.fr,t.kb 0 O Wy iH⟩
def S7 (b:View) (ke ks:Z) (r:ox) (m:cV) (w:aP) (L:Le b w) (c:oy ke ks b r m) (az:wM m<=109951162777) : cx aC 15 #[b0 (b7 m r).toArray] w λe d=>∃r:SP,e = cf (cO #[b0 #[st (eW m).1.1,aE r.1 (eW m).1.2.length r.2],am an (eW m).2])/\Ext w d/\Sl nV 4 (nv w d) r.1 r.2 (eW m).1.2:=by
 refine enter func15 O 60 O O<|CE (Vs:=[b]) (Ws.init (by simp [L]))<|ak ?_;refine WL.box Y O O λM=>Al Y O ww λN=>au O<|ag<|Cs<|ak<|V0 (dW 1 O O nn O)<|Lp Y O bp O (λw a=>K9 b ke ks r m w (a.vs _ (by simp)) c (by omega))<|au O<|ag<|ak<|ab O<|V0 (ha O O) ?_;refine ag<|Cc O (λl=>?_)<|λl=>?_
 ·have j:¬jh m=0:=by simpa using l
  refine ak<|V0 (Yb ww Lr O O)<|ab O<|aw 0 Y O O O zu O O O<|au O<|ag<|bu<|Er ?_;refine WE.uh 0 O O O O zv O λd a=>?_;rw [S5 j];exact ⟨(ao,0),O,a.fr,Sl.nil⟩
 have j:jh m=0:=by simpa using l
 have o:=FB j;have fH:=o.fH;have aB:=c.decls.max;have aF:=c.decls.cap;have aG:=c.procs.max;have aH:=c.procs.cap;have il:=Cv m;have pl:=FJ m;refine ay<|ak<|V0 (dW 1 O O nn O) ?_;refine Ld Y O bp O (λr:SP=>cO #[aE r.1 (gJ m).length r.2,am an (oz m)]) (λb r=>Sl nV 4 b r.1 r.2<|gJ m) (λw a=>S4 b ke ks r m w (a.vs _ (by simp)) c o) λC aI aK q=>ab O<|V0 (Yx O O)<|V0 (Yx O O)<|au O<|au O<|ag<|ak<|V0 (Yf zj O)<|V0 (Yd 1 O O O ah) ?_;refine V0 (Yb ww Lr O O)<|LW (λ_ h=>h.hM 48 4) ?_;refine Al Y O ww λP=>aw 0 Y O O O zu O O O<|ag<|ak<|au O<|LW (λ_ h=>h.hM 9 1)<|ag<|ak<|V0 (dW 4 O O nn O) ?_;refine Ld Y O bp O (λr:SP=>aE r.1 (nX m).length r.2) (λb r=>Sl rdBool 1 b r.1 r.2<|nX m) (λw a=>acV b ke ks r m w (a.vs _ (by simp)) c o) ?_;intro D aL aM s;have aO:=q.max;have aT:=q.cap;have aU:=s.max;have aV:=s.cap;refine au O<|ag<|Cs<|ak<|ab O<|V0 (Yn zt O)<|ab O<|ag<|Cb ?_;refine nQ (ι:=GF) (λg=>[(30,am an (g.i:ac)),(8,aE g.n.1 (((gJ m).take g.i).map zr).length g.n.2)]) [(1,_),(2,_),(3,_),(7,_),(9,_),(28,_),(29,_)] (λg=>Ws w [] [aQ P<|aY #[st m.nm,aE g.f.1 (FQ m g.i).length g.f.2] 42 (0,0),cQ 9 1 g4 g.n.1 g.n.2<|((gJ m).take g.i).map zr,cQ 48 4 dB.cells g.f.1 g.f.2<|FQ m g.i,aQ N<|aY #[st [],aE ao 0 0] 42 (0,0),aQ M<|aY (b7 m r).toArray 27 (0,0)] [D,C,b]) (λg=>g.i<=(gJ m).length) (λg=>(gJ m).length-g.i) ⟨0,(ao,0),(ao,0)⟩ (dw _) (sc O<|sc O<|sc O<|sc O<|sc O<|sc O<|sc O<|sc O<|sc O sn) (λ_ h=>by exact (((((h.f 4 O).f 4 O).f 4 O).f 3 O).f 4 O:)) λg hi=>ak<|V0 (c8 O O)<|ag<|Cs ?_;refine Cc O (λt=>?_)<|λt=>?_
 ·have E:g.i<(gJ m).length:=by simpa using t
  obtain ⟨x,u⟩:∃x,(gJ m)[g.i]? = aa x:=⟨_,cy E⟩;obtain ⟨pb,Q,R,v⟩:=q.ct g.i x u;have v:cB C pb (Q+g.i*4) x.cells:=v;obtain ⟨k,F⟩:∃p,(nX m)[g.i]? = aa p:=⟨_,cy (by rw [FJ,<-Cv];exact E)⟩;obtain ⟨S,T,U,y⟩:=s.ct g.i k F;have y:cB D S (T+g.i*1)<|yG k:=y;have G:((gJ m).take<|g.i+1).map zr=((gJ m).take g.i).map zr++[x.name]:=by rw [h7,u];simp [zr]
  have hL:(((gJ m).take g.i).map zr).length=g.i:=by simp;omega
  have H:=acS u F;have aW:=acT m g.i;refine ay<|Cs<|Cb<|ak<|ab O<|V0 (Yo zt O O R (by omega))<|V0 (eB 1 pA O O O<|v) ?_;refine Al Y O oh λaX=>au O<|aw 0 Y O O O oS O O O<|ag<|ak<|ab O<|V0 (Yf lz O)<|V0 (Yd 0 O O O ah) ?_;refine Lb Y O gQ O O O O λaZ=>eb 0 (aY (g4 x.name).toArray 9 (0,0)) O O<|LA (x.name:I ar) 3 0 Y O gQ O O O O O O (by omega) (by omega) λJ K=>au O<|ag<|ak<|ab O<|ab O<|V0 (Yo xp O O U (by omega))<|V0 (ew 0 ah O O<|y 0 _ O)<|ag ?_;refine Cc O (λz=>?_)<|λz=>?_
  ·have V:k=ad:=by simpa using z
   have W:FQ m (g.i+1)=FQ m g.i++[x]:=by rw [H,aD V]
   refine Cr<|V0 (Yf DJ O)<|V0 (Yd 2 O O O ah)<|V0 (dW 1 O O pA O) ?_;refine Lb Y O u_ O O O O λa0=>eb 0 (aY (dB.cells x).toArray 48 (0,0)) O O<|LA x 5 0 Y O u_ O O O O O O (by omega) (by omega) λX ae=>V0 (Yf DJ O)<|aw 3 Y O O O acU O O O<|Ln<|Eb<|Et<|Cr<|V0 (Yi O O O (by omega))<|ab O<|Ln ?_;rw [<-G];rw [<-W];exact Ea (⟨g.i+1,(J,K),(X,ae)⟩:GF) (by first|omega|(dsimp only;omega)) (by first|omega|(dsimp only;omega)) (sc O<|sc O<|sc O<|sc O<|sc O<|sc O<|sc O<|sc O<|sc O sn)<|λ_ h=>Wd 3 h
  have af:¬k=ad:=by simpa using z
  have ai:FQ m (g.i+1)=FQ m g.i:=by rw [H,aj af,yd]
  refine Ck<|Eb<|Et<|Cr<|V0 (Yi O O O (by omega))<|ab O<|Ln ?_;rw [<-G];rw [<-ai];exact Ea (⟨g.i+1,(J,K),g.f⟩:GF) (by first|omega|(dsimp only;omega)) (by first|omega|(dsimp only;omega)) (sc O<|sc O<|sc O<|sc O<|sc O<|sc O<|sc O<|sc O<|sc O sn)<|λ_ h=>Wd 2 h
 have al:g.i=(gJ m).length:=by simp at t;omega
 have ap:=acR m;refine Ce<|Ex<|Ex<|ee<|Et<|Cs<|Cs ?_;rw [al,gH];refine WC.dM (rd:=rdStr) 1 O rn (λ_ _ _ _ h=>h) λav ax=>Cr<|ab O ?_;refine Lp Y O bp O (λw a=>by have:=FA av g.n.1 g.n.2 ((gJ m).map zr) w (a.vs _ (by simp)) ax;exact this)<|ab O ?_;apply Lo 3 O O O O Y O O O O O;·intro a2;refine Vg (Yf h2 O)<|Vg (Yd 3 O O O ah)<|Lp (.g O O O) O bp O (λw a=>FA b r.a1 r.c1 m.aN w (a.vs _ (by simp)) c.aN) ?_;exact Gt 3 O O O
 refine ag<|Cc O (λA=>?_)<|λA=>?_;·have B:(g6 ((gJ m).map (·.name))||g6 m.aN)=ad:=A;refine ak<|V0 (Yb ww Lr O O)<|aw 2 Y O O O zu O O O<|au O<|ag<|bu<|Er ?_;refine WE.uh 2 O O O O zv O λd a=>?_;rw [S6 j B];exact ⟨(ao,0),O,a.fr,Sl.nil⟩
 have B:(g6 ((gJ m).map (·.name))||g6 m.aN)=aq:=A;refine ay<|ak<|V0 (dW 0 O O zv O)<|aw 2 Y O O O zu O O O<|au O<|ag<|bu ?_;refine WE.uh 2 O O O O zv O λd a=>?_;rw [acQ j B];rw [ap] at a ⊢;exact ⟨g.f,O,a.fr,a.kb 1 O dB.dR<|λ_ _ _ _ h=>h⟩
structure GI where
 i:Z
 s:SP
 p:SP
def du:I ar:=[99,110,116]
variable {hn:I dB}
def acW (h:(hn.map (·.name)).Nodup) (b:hn[bE]? = aa ir):ir.name ∉ (hn.take bE).map (·.name):=by
 intro d;have i:bE<hn.length:=(cN.1 b).1;obtain ⟨j,c⟩:=jd d;rw [fp] at c;obtain ⟨y,a,e⟩:=eQ.1 c;have f:j<bE:=by have:=(cN.1 a).1;simp at this;omega
 rw [jF,aD f] at a;have g:(hn.map (·.name))[j]? = (hn.map (·.name))[bE]?:=by rw [fp,fp,a,b];simp [e]
 have:=(ib (by simpa using (cN.1 a).1) h).1 g;omega
def Ls:aC.underlying 122=aa (.map 9 48):=ah
def S8 (d:View) (a:aA a6) (c:Z) (l:I dB) (w:aP) (q:Le d w) (f:Sl nV 4 d a c l) (r:(l.map (·.name)).Nodup) : cx aC 57 #[aE a l.length c] w λe g=>∃b:Z,e = cf (.map<|aa b)/\Ext w g/\(nv w g) b=aa (dT st (k3 l 0) l.length):=by
 have z:=f.cap;have A:=f.max;refine enter func57 O 19 O O<|CE (Vs:=[d]) (Ws.init (by simp [q]))<|ak<|au O<|ag<|ak ?_;refine WL.pT st Y O λn=>eb 0 (dT st (k3 (l.take 0) 0) (l.take 0).length) O O<|au O<|ag<|Cs<|ak<|ab O<|V0 (Yn zt O)<|ab O<|ag<|Cb ?_;refine f_ (ι:=Z) (λi=>[(9,am an (i:ac))]) [(2,_),(3,_),(7,_),(8,_)] (λi=>Ws w [] [aQ n<|dT st (k3 (l.take i) 0) (l.take i).length] [d]) (λi=>i<=l.length) (λi=>l.length-i) 0 (dw _) a' λi hi=>ak<|V0 (c8 O O)<|ag<|Cs ?_;refine Cc O (λj=>?_)<|λj=>?_
 ·have s:i<l.length:=by simpa using j
  obtain ⟨x,k⟩:=bk s;obtain ⟨t,u,v,m⟩:=f.ct i x k;have m:cB d t (u+i*4) x.cells:=m;have o:=WY<|acW r k;refine ay<|Cs<|Cb<|ak<|V0 (Yo zt O O v ai)<|V0 (eB 0 pA O O O<|m) ?_;refine Al Y O oh λB=>aw 0 Y O O O oS O O O<|ag<|Cr<|ab O<|V0 (Yf lz O)<|V0 (Yd 0 O O O ah)<|V0 (dW 0 O O pA O) ?_;refine WL.rk 1 jx Y Ls ah O O O O<|Ln<|Eb<|Et<|Cr<|V0 (Yi O O O ai)<|ab O<|Ln ?_;refine WE.qE 1 (dT st (k3 (l.take<|i+1) 0) (l.take<|i+1).length) O (by rw [l3 k,<-o.1,<-o.2];rfl)<|ep (i+1) ai ai<|λ_ h=>Wd 1 h
 have y:i=l.length:=by simp at j;omega
 rw [y,gH];refine Ce<|Ex<|Ex<|ee<|Et<|ak<|ab O<|au O<|ag<|bu ?_;refine R1 O O λg p=>⟨n,O,p.fr,p.Og 0 O⟩
def i_ (e:ac):I oZ:=[⟨.iface 116<|b0 #[am an e],aq,aq⟩]
def Lt (a:View) (b o:Z) (l:I dB):Prop:=∃c:Z,vc a b o=aa (.map<|aa c)/\a c=aa (dT st (k3 l 0) l.length)
structure wx (H:View) (sb:Z) (σ:iA):Prop where
 at_:∃(ob ub:Z) (fa:aA a6) (fc lb:Z),(vc H sb 0=aa (.map<|aa ob)/\vc H sb 1=aa (.map<|aa ub)/\vc H sb 2=aa (aE fa σ.w7.length fc)/\vc H sb 3=aa (.map<|aa lb))/\H ob=aa (dT st (k3 σ.own 0) σ.own.length)/\H ub=aa (dT st (jy σ.aN 0) σ.aN.length)/\Sl Lt 1 H fa fc σ.w7/\H lb=aa (dT st (jy σ.aX 0) σ.aX.length)
 nd:σ.aN.Nodup
 len:σ.aN.length=σ.w7.length
 fH:σ.aN.length<=3/\σ.aX.length<=7
def acX:dB:=⟨0,0,0,[]⟩
def pB (nm:I ar) (l:I<|I ar):ac:=match idxOf nm l 0 with| aa k=>((k+1:Z):ac)| ao=>0
def Lu (nm:I ar) (l:I<|I ar):bO nm (jy l 0) (am an 0) = am an (pB nm l):=OD nm l
def FE {nm:I ar} {l:I<|I ar} (h:0<pB nm l):∃k:Z,idxOf nm l 0=aa k/\pB nm l=((k+1:Z):ac)/\k<l.length:=by unfold pB at h ⊢;cases a:idxOf nm l 0 with| none=>rw [a] at h;exact absurd h a8| some k=>exact ⟨k,rfl,rfl,by have:=(se a).2;exact (cN.1 this).1⟩
def FF {nm:I ar} {l:I<|I ar} (h:¬0<pB nm l):idxOf nm l 0=ao:=by unfold pB at h;cases a:idxOf nm l 0 with| none=>rfl| some k=>rw [a] at h;exact absurd (by simp only;omega) h
def Bs (nm:I ar) (l:I dB):dB:=(jj nm l).getD acX
def S_ (nm:I ar) (l:I dB):bO nm (k3 l 0) (b0 #[am an 0,am an 0,am an 0,st []]) = b0 (Bs nm l).cells.toArray:=by rw [(OC nm l _).1];unfold Bs;cases jj nm l<;>rfl
def Ta (nm:I ar) (l:I dB):ri nm (k3 l 0)=(jj nm l).isSome:=(OC nm l<|bW aq).2
def Tb (h:(jj bc hn).isSome=ad):jj bc hn=aa (Bs bc hn):=by unfold Bs;cases a:jj bc hn with| none=>rw [a] at h;cases h| some x=>rfl
def Tc (h:(jj bc hn).isSome=aq):jj bc hn=ao:=by cases a:jj bc hn with| none=>rfl| some x=>rw [a] at h;cases h
variable {Mj:iA}
def acY (h:idxOf bc Mj.aX 0=aa bE):gV Mj [] bc=aa (-1,Ja bE):=by rw [gV,aD rfl,h]
def Dl (h:idxOf bc Mj.aX 0=ao):gV Mj [] bc=(jj bc Mj.own).map λx=>(0,x):=by rw [gV,aD rfl,h]
variable {ey:I ar}
def Td (h:¬bc=[]) (a:Mj.aN.Nodup) (b:Mj.aN.length=Mj.w7.length)   (c:idxOf bc Mj.aN 0=aa bE) (d:Mj.w7[bE]? = aa hn):gV Mj bc ey=(jj ey hn).map λx=>(((bE+1:Z):ac),x):=by rw [gV,aj h,OG a b,c];simp [d]
def acZ (h:¬bc=[]) (a:idxOf bc Mj.aN 0=ao):gV Mj bc ey=ao:=by rw [gV,aj h,Jk<|sd.1 a]
def Lx:∀{us:I<|I ar} {fs:I<|I dB} {s:Z} {m:ac} {x:dB},m8 bc ey us fs s=aa (m,x)->0<=m
 | [],_,_,_,_,h=>by simp [m8] at h| u::us,[],_,_,_,h=>by simp [m8] at h
 | u::us,f::fs,s,m,x,h=>by
  rw [m8] at h;split at h
  ·split at h;·injection h with h;injection h with a b;omega
   ·exact Lx h
  ·exact Lx h
def va (h:gV Mj bc ey=aa (az,ir)):az = -1\/0<=az:=by
 unfold gV at h;split at h
 ·split at h;·injection h with h;injection h with a c;exact bB a.symm
  ·cases b:jj ey Mj.own with| none=>rw [b] at h;cases h| some y=>rw [b] at h;injection h with h;injection h with a c;right;omega
 ·exact be<|Lx h
def iO (a:iA) (mod nm:I ar) (kind args:ac):ac:=match gV a mod nm with| ao=>5| aa (m,it)=>if ¬(0<=m/\it.kind=kind) then 7 else if kind=4/\¬it.n=args then 8 else 0
variable {b':ac}
def DK (h:gV Mj bc ey=ao):iO Mj bc ey az b'=5:=by unfold iO;rw [h]
def wy {kind args m:ac}  (h:gV Mj bc ey=aa (m,ir)):iO Mj bc ey kind args=if ¬(0<=m/\ir.kind=kind) then 7 else if kind=4/\¬ir.n=args then 8 else 0:=by unfold iO;rw [h]
def Ly (g:View) (h:Z) (b:iA) (k:Z):Prop:=∀(f:View) (l:I cF) (a:aA a6) (c:Z) (w:aP),Le g w->Le f w->Sl (lm k) 5 f a c l->g5 l<=109951162777-> cx aC 224 #[b8 (aa ⟨h,0,ao⟩),aE a l.length c] w λe d=>(∃r:SP,e = cf (aE r.1 (iT b l).length r.2)/\Ext w d/\kf b l=0/\Sl (cC<|k+1) 5 (nv w d) r.1 r.2 (iT b l))\/(∃_:ef,e = .panicked (i_<|kf b l)/\Ext w d/\kf b l≠0)
def ac0:hW aC 116=aa [(0,1)]:=ah
def G1:zeroOf aC 116=aa (b0 #[am an 0]):=ah
def ac1:aC.concrete 116=ad:=ah
def DL:aT aC 127 3=aa 3:=ah
def ac2:aT aC 127 0=aa 0:=ah
def Te:aT aC 127 1=aa 1:=ah
def Lz:aT aC 127 2=aa 2:=ah
def ac3:g_ aC 125=aa 1:=ah
def wz (b:aS) (n:ac) (w:aP) : cx aC 58 #[bW b,am an n] w λe a=>(∃_:ef,e = cf (cO #[])/\Ext w a/\b=ad)\/(∃_:ef,e = .panicked (i_ n)/\Ext w a/\b=aq):=by
 refine enter func58 O 9 O O<|CE (Vs:=[]) (Ws.init aK)<|ak<|ab O<|V0 (ih O)<|ag ?_;refine Cc O (λc=>?_)<|λc=>?_;·refine Cr<|ab O<|V0 (Yb G1 ac0 O O)<|V0 (r6 ac1 O) ?_;refine WL.panic Y O<|b_ λa d=>be ⟨(),O,d.fr,by simpa using c⟩
 refine Ck<|E0 O λa d=>bB ⟨(),O,d.fr,by simpa using c⟩
def FG (n:View) (t:Z) (b:iA) (w:aP) (x:Le n w) (y:wx n t b) (mod nm:I ar) : cx aC 222 #[b8 (aa ⟨t,0,ao⟩),st mod,st nm] w λe c=>(∃i:ac×dB,e = cf (cO #[am an i.1,b0 i.2.cells.toArray])/\Ext w c/\gV b mod nm=aa i)\/(∃_:ef,e = .panicked (i_ 5)/\Ext w c/\gV b mod nm=ao):=by
 obtain ⟨⟨P,Q,fa,fc,lb,⟨z,A,B,C⟩,D,E,o,F⟩,u,v,fH⟩:=y;refine enter func222 O 65 O O<|CE (Vs:=[n]) (Ws.init (by simp [x]))<|ak<|au O ?_;refine Al Y O oh λR=>ag<|Cs<|ak<|ab O<|V0 (B4 O O)<|ag ?_;refine Cc O (λp=>?_)<|λp=>?_
 ·obtain rfl:mod=[]:=by simpa using p
  refine Cs<|ak<|ab O<|V0 (bS O)<|V0 (Yf DL O)<|V0 (ew 0 ah O O<|C)<|ab O<|V0 (Fy 0 O jx js ah lY O O<|F) ?_;rw [Lu];refine au O<|ag<|ak<|ab O<|V0 (eZ O O)<|ag ?_;refine Cc O (λq=>?_)<|λq=>?_;·obtain ⟨k,g,m,G⟩:=FE (nm:=nm) (l:=b.aX) (by simpa using q);refine ak<|ab O<|V0 (dC (k:ac) O O (by rw [m];omega) (by omega))<|V0 (Yb oh FC O O)<|au O<|aw 0 Y O O O oS O O O<|ag<|bu<|Er<|Er ?_;refine WE.gF (hX O (jI O)<|fj 0 O O pA O) λc a=>bB ⟨(-1,Ja k),O,a.fr,acY g⟩
  have g:=FF (nm:=nm) (l:=b.aX) (by simpa using q);refine ay<|ak<|ab O<|V0 (bS O)<|V0 (Yf ac2 O)<|V0 (ew 0 ah O O<|z)<|ab O<|V0 (Of 0 O jx Ls ah oh O O<|D) ?_;rw [S_,Ta];refine ab O<|V0 (Yx O O)<|V0 (Yx O O) ?_;refine Al Y O oh λS=>aw 0 Y O O O oS O O O<|au O<|ag<|ak<|ab O ?_;refine WL.dP (ι:=ef) (κ:=ef) Y O bp O (λ_=>cO #[]) (λ_=>(jj nm b.own).isSome=ad) (λ_=>i_ 5) (λ_=>(jj nm b.own).isSome=aq) (λw a=>wz _ _ w) ?_ ?_;·intro _ j;refine Ep<|Ep ?_;refine b_ λc a=>be ⟨(),O,a.fr,by rw [Dl g,Tc j];rfl⟩
  intro _ H;refine ag<|Cs ?_;refine WC.nS 1 [(0,ad),(1,ad),(2,aq)] mixed (by kernel_rfl) (λ_ _ _ d _ h=>by cases d<;>exact h)<|D0 O (Wp 1) (dW 0 O O pA O)<|D0 O (Wp 1) (Ya O) ?_;refine De O (Wp 1)<|aw 1 Y O O O oS O O O<|Ln<|Ed ?_;refine WD.nil (Wp 1)<|Et<|bu<|Er ?_;refine WE.gF (hX O (jI O)<|fj 1 O O pA O) λc a=>bB ⟨(0,Bs nm b.own),O,a.fr,by rw [Dl g,Tb H];rfl⟩
 have r:¬mod=[]:=by simpa using p
 refine ay<|ak<|ab O<|V0 (bS O)<|V0 (Yf Te O)<|V0 (ew 0 ah O O<|A)<|ab O<|V0 (Fy 0 O jx js ah lY O O<|E) ?_;rw [Lu];refine au O<|ag<|ak<|ab O<|V0 (eZ O O) ?_;refine WL.dP (ι:=ef) (κ:=ef) Y O bp O (λ_=>cO #[]) (λ_=>decide (0<pB mod b.aN)=ad) (λ_=>i_ 5) (λ_=>decide (0<pB mod b.aN)=aq) (λw a=>wz _ _ w) ?_ ?_;·intro _ j;refine Ep<|b_ λc a=>be ⟨(),O,a.fr,acZ r<|FF (by simpa using j)⟩
 intro _ J;obtain ⟨k,g,m,G⟩:=FE (nm:=mod) (l:=b.aN) (by simpa using J);obtain ⟨f,s⟩:∃f,b.w7[k]? = aa f:=⟨_,cy (by omega)⟩;obtain ⟨pb,T,K,U,L,M⟩:=o.ct k f s;have V:=o.cap;have W:=o.max;refine ag<|ak<|ab O<|V0 (bS O)<|V0 (Yf Lz O)<|V0 (ew 0 ah O O<|B)<|ab O<|V0 (dC (k:ac) O O (by rw [m];omega) (by omega))<|V0 (Yo ac3 O O K (by omega)) ?_;refine V0 (ew 0 ah O O<|L)<|ab O<|V0 (Of 0 O jx Ls ah oh O O<|M) ?_;rw [S_,Ta];refine ab O<|V0 (Yx O O)<|V0 (Yx O O) ?_;refine Al Y O oh λX=>aw 0 Y O O O oS O O O<|au O<|ag<|ak<|ab O ?_;refine WL.dP (ι:=ef) (κ:=ef) Y O bp O (λ_=>cO #[]) (λ_=>(jj nm f).isSome=ad) (λ_=>i_ 5) (λ_=>(jj nm f).isSome=aq) (λw a=>wz _ _ w) ?_ ?_;·intro _ j;refine Ep<|b_ λc a=>be ⟨(),O,a.fr,by rw [Td r u v g s,Tc j];rfl⟩
 intro _ N;refine ag<|Cs ?_;refine WC.nS 1 [(0,ad),(1,ad),(2,ad),(3,aq)] mixed (by kernel_rfl) (λ_ _ _ d _ h=>by cases d<;>exact h)<|D0 O (Wp 1) (Ym O)<|D0 O (Wp 1) (dW 0 O O pA O)<|D0 O (Wp 1) (Ya O) ?_;refine De O (Wp 1)<|aw 1 Y O O O oS O O O<|Ln<|Ed ?_;refine WD.nil (Wp 1)<|Et<|bu ?_;refine WE.gF (hX O (jI O)<|fj 1 O O pA O) λc a=>?_;rw [m] at *;exact bB ⟨(((k+1:Z):ac),Bs nm f),O,a.fr,by rw [Td r u v g s,Tb N];rfl⟩
def ac4 {n m:ac}   {len:Z} (h:gV Mj bc ey=aa (m,ir)):ez Mj 3 n bc ey len=if m = -1 then ⟨16,n,0,ir.pl,0⟩ else if ir.kind=1 then ⟨1,ir.n,0,0,0⟩ else if ir.kind=2 then ⟨3,n,m,ir.pl,0⟩ else ⟨3,n,0,0,7⟩:=by unfold ez;rw [aD a8,h];simp
def LB (a:az=3\/az=4\/az=5) (h:gV Mj bc ey=ao):ez Mj az b' bc ey bE=⟨az,b',0,0,5⟩:=by unfold ez;rw [aD (by unfold fL;simp;omega),h]
def ac5 (a:¬az=3) (b:¬az=4) (c:¬az=5):ez Mj az b' bc ey bE=⟨az,b',0,0,0⟩:=by unfold ez;rw [aj (by unfold fL;simp;omega)]
def ac6 (h:iO Mj bc ey 3 0≠0):(ez Mj 4 az bc ey bE).e=iO Mj bc ey 3 0:=by
 cases a:gV Mj bc ey with
 | none=>rw [LB aK a,DK a]
 | some i=>
  obtain ⟨m,it⟩:=i;have d:=va a;rw [wy a] at h ⊢;unfold ez;rw [aD a8,a];by_cases b:m = -1;·simp [b]
  ·by_cases c:it.kind=3;·exact absurd (by rw [aj ai,aj ai]) h
   ·simp [b,c]
def ac7 (a:gV Mj bc ey=aa (b',ir)) (h:iO Mj bc ey 3 0=0):ez Mj 4 az bc ey bE=⟨4,ir.n,b',ir.pl,0⟩:=by
 rw [wy a] at h;have d:=va a;have c:0<=b'/\ir.kind=3:=by
  by_cases b:0<=b'/\ir.kind=3;·exact b
  ·rw [aD b] at h;cases h
 unfold ez;rw [aD a8,a];simp [c.2,show ¬b' = -1 by omega]
def ac8 {len:Z} (h:iO Mj bc ey 4 (len:ac)≠0):(ez Mj 5 az bc ey len).e=iO Mj bc ey 4 (len:ac):=by
 cases a:gV Mj bc ey with
 | none=>rw [LB aK a,DK a]
 | some i=>
  obtain ⟨m,it⟩:=i;have f:=va a;rw [wy a] at h ⊢;unfold ez;rw [aD a8,a];by_cases b:m = -1;·simp [b]
  ·by_cases c:it.kind=4
   ·by_cases d:it.n=(len:ac);·exact absurd (by rw [aj ai,aj ai]) h
    ·simp [b,c,d,show 0<=m by omega]
   ·simp [b,c]
def ac9 {len:Z} (b:gV Mj bc ey=aa (b',ir)) (h:iO Mj bc ey 4 (len:ac)=0):ez Mj 5 az bc ey len=⟨5,az,b',ir.pl,0⟩:=by
 rw [wy b] at h;have e:=va b;have c:0<=b'/\ir.kind=4:=by
  by_cases a:0<=b'/\ir.kind=4;·exact a
  ·rw [aD a] at h;cases h
 have d:ir.n=(len:ac):=by
  rw [aj<|λa=>a c] at h;by_cases a:ir.n=(len:ac);·exact a
  ·rw [aD ⟨rfl,a⟩] at h;cases h
 unfold ez;rw [aD a8,b];simp [c.2,d,show ¬b' = -1 by omega]
def LC (a:az=1\/az=2\/az=3) (h:gV Mj bc ey=ao):a7 Mj az bc ey bE=⟨az,0,0,0,5⟩:=by unfold a7;rw [aD (by unfold fL;simp;omega),h]
def ac' (a:¬az=1) (b:¬az=2) (c:¬az=3):a7 Mj az bc ey bE=⟨az,0,0,0,0⟩:=by unfold a7;rw [aj (by unfold fL;simp;omega)]
def ac_ {len:Z} (h:gV Mj bc ey=aa (az,ir)):a7 Mj 1 bc ey len=if az = -1\/ir.kind=2 then ⟨1,0,az,ir.pl,0⟩ else ⟨1,0,0,0,7⟩:=by
 unfold a7;rw [aD a8,h];by_cases a:az = -1\/ir.kind=2;·simp [a]
 ·simp [a,show ¬az = -1 from λe=>a<|bB e]
def ada (h:iO Mj bc ey 3 0≠0):(a7 Mj 2 bc ey bE).e=iO Mj bc ey 3 0:=by
 cases a:gV Mj bc ey with
 | none=>rw [LC aK a,DK a]
 | some i=>
  obtain ⟨m,it⟩:=i;have d:=va a;rw [wy a] at h ⊢;unfold a7;rw [aD a8,a];by_cases b:m = -1;·simp [b]
  ·by_cases c:it.kind=3;·exact absurd (by rw [aj ai,aj ai]) h
   ·simp [b,c]
def adb (a:gV Mj bc ey=aa (az,ir)) (h:iO Mj bc ey 3 0=0):a7 Mj 2 bc ey bE=⟨2,ir.n,az,ir.pl,0⟩:=by
 rw [wy a] at h;have d:=va a;have c:0<=az/\ir.kind=3:=by
  by_cases b:0<=az/\ir.kind=3;·exact b
  ·rw [aD b] at h;cases h
 unfold a7;rw [aD a8,a];simp [c.2,show ¬az = -1 by omega]
def adc {len:Z} (h:iO Mj bc ey 4 (len:ac)≠0):(a7 Mj 3 bc ey len).e=iO Mj bc ey 4 (len:ac):=by
 cases a:gV Mj bc ey with
 | none=>rw [LC aK a,DK a]
 | some i=>
  obtain ⟨m,it⟩:=i;have f:=va a;rw [wy a] at h ⊢;unfold a7;rw [aD a8,a];by_cases b:m = -1;·simp [b]
  ·by_cases c:it.kind=4
   ·by_cases d:it.n=(len:ac);·exact absurd (by rw [aj ai,aj ai]) h
    ·simp [b,c,d,show 0<=m by omega]
   ·simp [b,c]
def ade {len:Z} (b:gV Mj bc ey=aa (az,ir)) (h:iO Mj bc ey 4 (len:ac)=0):a7 Mj 3 bc ey len=⟨3,0,az,ir.pl,0⟩:=by
 rw [wy b] at h;have e:=va b;have c:0<=az/\ir.kind=4:=by
  by_cases a:0<=az/\ir.kind=4;·exact a
  ·rw [aD a] at h;cases h
 have d:ir.n=(len:ac):=by
  rw [aj<|λa=>a c] at h;by_cases a:ir.n=(len:ac);·exact a
  ·rw [aD ⟨rfl,a⟩] at h;cases h
 unfold a7;rw [aD a8,b];simp [c.2,d,show ¬az = -1 by omega]
structure GX (X:Type) where
 i:Z
 es:I X
 a:aA a6
 c:Z
 J:View
def Bt:zeroOf aC 53=aa (b0 #[am an 0,am an 0,am an 0,am an 0,aE ao 0 0]):=ah
def adf:hW aC 53=aa [(0,1),(1,1),(2,1),(3,1),(4,1)]:=ah
def DM:e2 aC 53=aa 5:=ah
def rO:aT aC 53 0=aa 0:=ah
def c5:aT aC 53 3=aa 3:=ah
def pC:aT aC 53 1=aa 1:=ah
def oT:aT aC 53 2=aa 2:=ah
def nJ:aT aC 53 4=aa 4:=ah
def Tf:e2 aC 49=aa 1:=ah
def bZ:i2 aC 53=aa 5:=ah
def G2 (k:View) (l:Z) (c:iA) (w:aP) (t:Le k w) (u:wx k l c) (mod nm:I ar) (kind args:ac) : cx aC 223 #[b8 (aa ⟨l,0,ao⟩),st mod,st nm,am an kind,am an args] w λe f=>(∃i:ac×dB,e = cf (cO #[am an i.1,b0 i.2.cells.toArray])/\Ext w f/\gV c mod nm=aa i/\iO c mod nm kind args=0)\/(∃_:ef,e = .panicked (i_<|iO c mod nm kind args)/\Ext w f/\iO c mod nm kind args≠0):=by
 refine enter func223 O 41 O O<|CE (Vs:=[k]) (Ws.init (by simp [t]))<|ak<|au O ?_;refine Al Y O oh λz=>ag<|ak<|ab O<|ab O<|ab O ?_;refine WL.dP Y O bp O _ _ _ _ (λw a=>FG k l c w a.V u mod nm) ?_ ?_;·intro _ g;refine Ep<|b_ λf a=>?_;rw [DK g];exact be ⟨(),O,a.fr,a8⟩
 intro ⟨m,j⟩ s;have b:=wy (kind:=kind) (args:=args) s;refine ab O<|V0 (Yx O O)<|V0 (Yx O O) ?_;refine Al Y O oh λA=>au O<|aw 0 Y O O O oS O O O<|ag<|ak<|ab O<|V0 (h9 O O)<|ab O ?_;apply La 4 O O O O Y O O O O O;·intro B;refine Vg (Yf DI O)<|Vg (Yd 0 O O O ah)<|Vg (Ym O)<|Vg (bY O O) ?_;exact Gt 4 O O O
 refine WL.dP (ι:=ef) (κ:=ef) Y O bp O (λ_=>cO #[]) (λ_=>_=ad) (λ_=>i_ _) (λ_=>_=aq) (λw a=>wz _ _ w) ?_ ?_
 ·intro _ g;refine Ep<|b_ λf a=>?_;have o:¬(0<=m/\j.kind=kind):=by rintro ⟨p,q⟩;simp [p,q] at g
  rw [aD o] at b;rw [b];exact be ⟨(),O,a.fr,a8⟩
 intro _ v;have o:0<=m/\j.kind=kind:=by simpa using v
 rw [aj<|λx=>x o] at b;refine ag<|ak<|ab O<|V0 (ha O O)<|ab O ?_;apply Lo 4 O O O O Y O O O O O;·intro C;refine Vg (Yf sT O)<|Vg (Yd 0 O O O ah)<|Vg (Ym O)<|Vg (bY O O) ?_;exact Gt 4 O O O
 refine WL.dP (ι:=ef) (κ:=ef) Y O bp O (λ_=>cO #[]) (λ_=>_=ad) (λ_=>i_ _) (λ_=>_=aq) (λw a=>wz _ _ w) ?_ ?_
 ·intro _ g;refine Ep<|b_ λf a=>?_;have r:kind=4/\¬j.n=args:=by simpa using g
  rw [aD r] at b;rw [b];exact be ⟨(),O,a.fr,a8⟩
 intro _ y;refine ag<|Cs ?_;refine WC.nS 1 [(0,ad),(1,ad),(2,ad),(3,aq)] mixed ah (λ_ _ _ d _ h=>by cases d<;>exact h)<|D0 O (Wp 1) (Ym O)<|D0 O (Wp 1) (dW 0 O O pA O)<|D0 O (Wp 1) (Ya O) ?_;refine De O (Wp 1)<|aw 1 Y O O O oS O O O<|Ln<|Ed ?_;refine WD.nil (Wp 1)<|Et<|bu ?_;refine WE.gF (hX O (jI O)<|fj 1 O O pA O) λf a=>?_;have r:¬(kind=4/\¬j.n=args):=by rintro ⟨p,q⟩;simp [p,q] at y
 rw [aj r] at b;exact bB ⟨(m,j),O,a.fr,s,b⟩
def adg (p v:View) (t:Z) (b:iA) (k:Z) (x:cF) (a:aA a6) (c:Z) (w:aP) (S:Le p w) (T:Le v w) (y:wx p t b) (hN:Ly p t b k) (z:Sl (lm k) 5 v a c x.args) (aG:wE x<=109951162777) : cx aC 268 #[b8 (aa ⟨t,0,ao⟩),b0 (yD x a c).toArray] w λe l=>(∃r:SP,e = cf (b0 (dQ (pf b x) r.1 r.2).toArray)/\Ext w l/\mc b x=0/\ut (k+1) (nv w l) (pf b x,r))\/(∃_:ef,e = .panicked (i_<|mc b x)/\Ext w l/\mc b x≠0):=by
 have aH:=N3 x;have aI:=z.cap;have aK:=z.max;refine enter func268 O 98 O O<|CE (Vs:=[v,p]) (Ws.init (by simp [T,S]))<|ak ?_;refine WL.box Y O O λL=>Al Y O Bt λM=>ag<|ak<|V0 (Yf zh O)<|V0 (Yd 1 O O O ah)<|V0 (Yf y3 O)<|V0 (Yd 1 O O O ah)<|V0 (Yb Bt adf O O) ?_;refine Al Y O Bt λN=>aw 0 Y O O O DM O O O<|ag ?_;refine WC.nI (ι:=ef) (λ_u=>[(0,b8<|aa ⟨t,0,ao⟩),(3,b8<|aa ⟨L,0,ao⟩),(4,b8<|aa ⟨M,0,ao⟩),(5,b8<|aa ⟨N,0,ao⟩)]) (λ_u=>Ws w [] [aQ N<|aY #[am an (ez b x.op x.n x.mod x.nm x.args.length).op,am an (ez b x.op x.n x.mod x.nm x.args.length).n,am an (ez b x.op x.n x.mod x.nm x.args.length).m,am an (ez b x.op x.n x.mod x.nm x.args.length).pl,aE ao 0 0] 53 (0,0),aQ M<|aY #[am an 0,am an 0,am an 0,am an 0,aE ao 0 0] 53 (0,0),aQ L<|aY (yD x a c).toArray 239 (0,0)] [v,p]) (λ_u=>(ez b x.op x.n x.mod x.nm x.args.length).e=0) ?_ ?_
 ·refine ak<|V0 (Yf zh O)<|V0 (Yd 2 O O O ah)<|ag<|Cb<|ak<|V0 (bY O O)<|au O<|ag ?_;refine Cc O (λA=>?_)<|λA=>?_
  ·have q:x.op=3:=by simpa using A
   refine ak<|ab O<|V0 (Yf yv O)<|V0 (Yd 2 O O O ah)<|V0 (Yf yH O)<|V0 (Yd 2 O O O ah) ?_;refine WL.dP (ι:=ac×dB) (κ:=ef) Y O bp O (λi=>cO #[am an i.1,b0 i.2.cells.toArray]) (λi=>gV b x.mod x.nm=aa i) (λ_=>i_ 5) (λ_=>gV b x.mod x.nm=ao) (λw f=>FG p t b w (f.vs _ (by simp)) y x.mod x.nm) ?_ ?_
   ·intro _ j;refine Ep<|WE.cp<|Ep ?_;refine b_ λl f=>?_;have o:mc b x=5:=by rw [w8,LB (by omega) j];rfl
    rw [o];exact be ⟨(),O,f.fr,by decide⟩
   intro ⟨B,u⟩ P;have s:=ac4 (n:=x.n) (len:=x.args.length) P;have aL:=va P;rw [<-q] at s;refine ab O<|V0 (Yx O O)<|V0 (Yx O O) ?_;refine Al Y O oh λaM=>au O<|aw 0 Y O O O oS O O O<|ag<|Cb<|ak<|ab O<|V0 (c8 O O)<|au O<|ag ?_;refine Cc O (λC=>?_)<|λC=>?_
   ·have D:B = -1:=by simp at C;omega
    have g:(ez b x.op x.n x.mod x.nm x.args.length)=⟨16,x.n,0,u.pl,0⟩:=by rw [s,aD D]
    refine WC.nS 1 [(0,ad),(1,ad),(2,ad),(3,aq),(4,aq),(5,aq)] mixed (by kernel_rfl) (λ_ _ _ d _ h=>by cases d<;>exact h)<|D0 O (Wp 1) (Yf oR O)<|D0 O (Wp 1) (Yd 0 O O O ah)<|D0 O (Wp 1) (Yf rO O) ?_;refine De O (Wp 1)<|aw 1 Y O O O eE O O O<|Ln<|Ed ?_;refine De O (Wp 1)<|V0 (Yf c5 O)<|Ln<|Ed ?_;refine De O (Wp 1)<|aw 1 Y O O O eE O O O<|Ln<|Ed ?_;refine WD.nil (Wp 1)<|Eb<|Eb ?_;refine WE.qE 1 (aY #[am an (ez b x.op x.n x.mod x.nm x.args.length).op,am an (ez b x.op x.n x.mod x.nm x.args.length).n,am an (ez b x.op x.n x.mod x.nm x.args.length).m,am an (ez b x.op x.n x.mod x.nm x.args.length).pl,aE ao 0 0] 53 (0,0)) O (by rw [g];rfl)<|Em () (by rw [g]) (sc O<|sc O<|sc O<|sc O sn) (λ_ h=>by have h:=h.bs 3 rfl;have h:=h.bs 3 rfl;have h:=h.bs 3 rfl;have h:=Wt 3 h;exact h)
   have D:¬B = -1:=by simp at C;omega
   rw [aj D] at s;refine ak<|V0 (Yf DI O)<|V0 (Yd 0 O O O ah)<|V0 (bY O O)<|au O<|ag ?_;refine Cc O (λE=>?_)<|λE=>?_
   ·have G:u.kind=1:=by simpa using E
    have g:(ez b x.op x.n x.mod x.nm x.args.length)=⟨1,u.n,0,0,0⟩:=by rw [s,aD G]
    refine WC.nS 1 [(0,ad),(1,ad),(2,ad),(3,aq),(4,aq),(5,aq)] mixed (by kernel_rfl) (λ_ _ _ d _ h=>by cases d<;>exact h)<|D0 O (Wp 1) (Yf sT O)<|D0 O (Wp 1) (Yd 0 O O O ah)<|D0 O (Wp 1) (Yf rO O) ?_;refine De O (Wp 1)<|aw 1 Y O O O eE O O O<|Ln<|Ed ?_;refine De O (Wp 1)<|V0 (Yf pC O)<|Ln<|Ed ?_;refine De O (Wp 1)<|aw 1 Y O O O eE O O O<|Ln<|Ed ?_;refine WD.nil (Wp 1)<|Eb<|Eb ?_;refine WE.qE 1 (aY #[am an (ez b x.op x.n x.mod x.nm x.args.length).op,am an (ez b x.op x.n x.mod x.nm x.args.length).n,am an (ez b x.op x.n x.mod x.nm x.args.length).m,am an (ez b x.op x.n x.mod x.nm x.args.length).pl,aE ao 0 0] 53 (0,0)) O (by rw [g];rfl)<|Em () (by rw [g]) (sc O<|sc O<|sc O<|sc O sn) (λ_ h=>by have h:=h.bs 3 rfl;have h:=h.bs 3 rfl;have h:=h.bs 3 rfl;have h:=Wt 3 h;exact h)
   have G:¬u.kind=1:=by simpa using E
   rw [aj G] at s;refine ak<|V0 (Yf DI O)<|V0 (Yd 0 O O O ah)<|V0 (bY O O) ?_;refine WL.dP (ι:=ef) (κ:=ef) Y O bp O (λ_=>cO #[]) (λ_=>_=ad) (λ_=>i_ _) (λ_=>_=aq) (λw f=>wz _ _ w) ?_ ?_
   ·intro _ j;refine Ep<|WE.cp<|WE.cp<|Ep ?_;refine b_ λl f=>?_;have H:¬u.kind=2:=by simpa using j
    rw [aj H] at s;have o:mc b x=7:=by rw [w8,s];rfl
    rw [o];exact be ⟨(),O,f.fr,by decide⟩
   intro _ U;have H:u.kind=2:=by simpa using U
   have g:(ez b x.op x.n x.mod x.nm x.args.length)=⟨x.op,x.n,B,u.pl,0⟩:=by rw [s,aD H,q]
   refine ag<|WC.nS 1 [(0,ad),(1,ad),(2,ad),(3,ad),(4,aq),(5,aq),(6,aq)] mixed (by kernel_rfl) (λ_ _ _ d _ h=>by cases d<;>exact h)<|D0 O (Wp 1) (Ym O)<|D0 O (Wp 1) (Yf oR O)<|D0 O (Wp 1) (Yd 0 O O O ah)<|D0 O (Wp 1) (Yf oT O) ?_;refine De O (Wp 1)<|aw 1 Y O O O eE O O O<|Ln<|Ed ?_;refine De O (Wp 1)<|V0 (Yf c5 O)<|Ln<|Ed ?_;refine De O (Wp 1)<|aw 1 Y O O O eE O O O<|Ln<|Ed ?_;refine WD.nil (Wp 1)<|Eb<|Eb ?_;refine WE.qE 1 (aY #[am an (ez b x.op x.n x.mod x.nm x.args.length).op,am an (ez b x.op x.n x.mod x.nm x.args.length).n,am an (ez b x.op x.n x.mod x.nm x.args.length).m,am an (ez b x.op x.n x.mod x.nm x.args.length).pl,aE ao 0 0] 53 (0,0)) O (by rw [g];rfl)<|Em () (by rw [g]) (sc O<|sc O<|sc O<|sc O sn) (λ_ h=>by have h:=h.bs 3 rfl;have h:=h.bs 3 rfl;have h:=h.bs 3 rfl;have h:=Wt 3 h;exact h)
  have V:¬x.op=3:=by simpa using A
  refine ak<|V0 (bY O O)<|au O<|ag ?_;refine Cc O (λJ=>?_)<|λJ=>?_
  ·have q:x.op=4:=by simpa using J
   refine ak<|ab O<|V0 (Yf yv O)<|V0 (Yd 2 O O O ah)<|V0 (Yf yH O)<|V0 (Yd 2 O O O ah) ?_;refine WL.dP (ι:=ac×dB) (κ:=ef) Y O bp O (λi=>cO #[am an i.1,b0 i.2.cells.toArray]) (λi=>gV b x.mod x.nm=aa i/\iO b x.mod x.nm 3 0=0) (λ_=>i_<|iO b x.mod x.nm 3 0) (λ_=>iO b x.mod x.nm 3 0≠0) (λw f=>G2 p t b w (f.vs _ (by simp)) y x.mod x.nm 3 0) ?_ ?_
   ·intro _ j;refine Ep<|WE.cp<|Ep ?_;refine b_ λl f=>?_;have o:mc b x=iO b x.mod x.nm 3 0:=by rw [w8,q,ac6 j,uu j]
    rw [o];exact be ⟨(),O,f.fr,j⟩
   intro ⟨W,Q⟩ ⟨X,ae⟩;have g:(ez b x.op x.n x.mod x.nm x.args.length)=⟨x.op,Q.n,W,Q.pl,0⟩:=by rw [q];exact ac7 X ae
   refine ab O<|V0 (Yx O O)<|V0 (Yx O O) ?_;refine Al Y O oh λaN=>au O<|aw 0 Y O O O oS O O O<|ag ?_;refine WC.nS 1 [(0,ad),(1,ad),(2,ad),(3,ad),(4,ad),(5,ad),(6,aq),(7,aq),(8,aq),(9,aq),(10,aq)] mixed (by kernel_rfl) (λ_ _ _ d _ h=>by cases d<;>exact h)<|D0 O (Wp 1) (Ym O)<|D0 O (Wp 1) (Yf oR O)<|D0 O (Wp 1) (Yd 0 O O O ah)<|D0 O (Wp 1) (Yf sT O)<|D0 O (Wp 1) (Yd 0 O O O ah)<|D0 O (Wp 1) (Yf oT O) ?_;refine De O (Wp 1)<|aw 1 Y O O O eE O O O<|Ln<|Ed ?_;refine De O (Wp 1)<|V0 (Yf c5 O)<|Ln<|Ed ?_;refine De O (Wp 1)<|aw 1 Y O O O eE O O O<|Ln<|Ed ?_;refine De O (Wp 1)<|V0 (Yf pC O)<|Ln<|Ed ?_;refine De O (Wp 1)<|aw 1 Y O O O eE O O O<|Ln<|Ed ?_;refine WD.nil (Wp 1)<|Eb<|WE.qE 1 (aY #[am an (ez b x.op x.n x.mod x.nm x.args.length).op,am an (ez b x.op x.n x.mod x.nm x.args.length).n,am an (ez b x.op x.n x.mod x.nm x.args.length).m,am an (ez b x.op x.n x.mod x.nm x.args.length).pl,aE ao 0 0] 53 (0,0)) O (by rw [g];rfl)<|Em () (by rw [g]) (sc O<|sc O<|sc O<|sc O sn) (λ_ h=>by have h:=h.bs 3 rfl;have h:=h.bs 3 rfl;have h:=h.bs 3 rfl;have h:=Wt 3 h;exact h)
  have af:¬x.op=4:=by simpa using J
  refine ak<|V0 (bY O O)<|au O<|ag ?_;refine Cc O (λK=>?_)<|λK=>?_
  ·have q:x.op=5:=by simpa using K
   refine ak<|ab O<|V0 (Yf yv O)<|V0 (Yd 2 O O O ah)<|V0 (Yf yH O)<|V0 (Yd 2 O O O ah)<|V0 (Yf Bh O)<|V0 (Yd 2 O O O ah) ?_;refine V0 (Yn u5 O)<|WL.dP (ι:=ac×dB) (κ:=ef) Y O bp O (λi=>cO #[am an i.1,b0 i.2.cells.toArray]) (λi=>gV b x.mod x.nm=aa i/\iO b x.mod x.nm 4 (x.args.length:ac)=0) (λ_=>i_<|iO b x.mod x.nm 4 (x.args.length:ac)) (λ_=>iO b x.mod x.nm 4 (x.args.length:ac)≠0) (λw f=>G2 p t b w (f.vs _ (by simp)) y x.mod x.nm 4 (x.args.length:ac)) ?_ ?_
   ·intro _ j;refine Ep<|WE.cp<|Ep ?_;refine b_ λl f=>?_;have o:mc b x=iO b x.mod x.nm 4 (x.args.length:ac):=by rw [w8,q,ac8 j,uu j]
    rw [o];exact be ⟨(),O,f.fr,j⟩
   intro ⟨ai,al⟩ ⟨ap,av⟩;have g:(ez b x.op x.n x.mod x.nm x.args.length)=⟨x.op,x.n,ai,al.pl,0⟩:=by rw [q];exact ac9 ap av
   refine ab O<|V0 (Yx O O)<|V0 (Yx O O) ?_;refine Al Y O oh λaO=>au O<|aw 0 Y O O O oS O O O<|ag ?_;refine WC.nS 1 [(0,ad),(1,ad),(2,ad),(3,ad),(4,aq),(5,aq),(6,aq)] mixed (by kernel_rfl) (λ_ _ _ d _ h=>by cases d<;>exact h)<|D0 O (Wp 1) (Ym O)<|D0 O (Wp 1) (Yf oR O)<|D0 O (Wp 1) (Yd 0 O O O ah)<|D0 O (Wp 1) (Yf oT O) ?_;refine De O (Wp 1)<|aw 1 Y O O O eE O O O<|Ln<|Ed ?_;refine De O (Wp 1)<|V0 (Yf c5 O)<|Ln<|Ed ?_;refine De O (Wp 1)<|aw 1 Y O O O eE O O O<|Ln<|Ed ?_;refine WD.nil (Wp 1)<|Eb<|WE.qE 1 (aY #[am an (ez b x.op x.n x.mod x.nm x.args.length).op,am an (ez b x.op x.n x.mod x.nm x.args.length).n,am an (ez b x.op x.n x.mod x.nm x.args.length).m,am an (ez b x.op x.n x.mod x.nm x.args.length).pl,aE ao 0 0] 53 (0,0)) O (by rw [g];rfl)<|Em () (by rw [g]) (sc O<|sc O<|sc O<|sc O sn) (λ_ h=>by have h:=h.bs 3 rfl;have h:=h.bs 3 rfl;have h:=h.bs 3 rfl;have h:=Wt 3 h;exact h)
  have ax:¬x.op=5:=by simpa using K
  have g:(ez b x.op x.n x.mod x.nm x.args.length)=⟨x.op,x.n,0,0,0⟩:=ac5 V af ax;refine Ck<|Eb ?_;refine WE.qE 0 (aY #[am an (ez b x.op x.n x.mod x.nm x.args.length).op,am an (ez b x.op x.n x.mod x.nm x.args.length).n,am an (ez b x.op x.n x.mod x.nm x.args.length).m,am an (ez b x.op x.n x.mod x.nm x.args.length).pl,aE ao 0 0] 53 (0,0)) O (by rw [g];rfl)<|Em () (by rw [g]) (sc O<|sc O<|sc O<|sc O sn) (λ_ h=>by have h:=h.bs 2 rfl;have h:=h.bs 2 rfl;have h:=h.bs 2 rfl;exact h)
 intro _ R;refine ak<|ab O<|V0 (Yf Bh O)<|V0 (Yd 2 O O O ah) ?_;refine WL.ln (ι:=SP) (κ:=ef) Y O bp O (λr=>aE r.1 (iT b x.args).length r.2) (λF r=>kf b x.args=0/\Sl (cC<|k+1) 5 F r.1 r.2 (iT b x.args)) (λ_=>i_<|kf b x.args) (λ_=>kf b x.args≠0) (λw f=>hN v x.args a c w (f.vs _ (by simp)) (f.vs _ (by simp)) z (by omega)) ?_ ?_
 ·intro _ j;refine Ep<|b_ λl f=>?_;have o:mc b x=kf b x.args:=by rw [w8,R,oB]
  rw [o];exact be ⟨(),O,f.fr,j⟩
 intro aT ay az ⟨aB,aF⟩;refine V0 (Yf nJ O)<|aw 0 Y O O O Tf O O O<|ag<|ak<|V0 (dW 0 O O bZ O)<|aw 1 Y O O O DM O O O<|ag<|bu ?_;refine WE.gF (kJ O<|fj 1 O O bZ O) λl f=>?_;rw [Jb];exact bB ⟨ay,O,f.fr,by rw [w8,R,oB,aB],ul aF<|fm f (by simp) az⟩
def adh (g:View) (h:Z) (b:iA) (ke k:Z):Prop:=∀(f:View) (l:I cG) (a:aA a6) (c:Z) (w:aP),Le g w->Le f w->Sl (jV ke k) 6 f a c l->bC l<=109951162777-> cx aC 61 #[b8 (aa ⟨h,0,ao⟩),aE a l.length c] w λe d=>(∃r:SP,e = cf (aE r.1 (gu b l).length r.2)/\Ext w d/\g7 b l=0/\Sl (jK (ke+1)<|k+1) 7 (nv w d) r.1 r.2 (gu b l))\/(∃_:ef,e = .panicked (i_<|g7 b l)/\Ext w d/\g7 b l≠0)
variable {aB qe nA:Type}
def DN {f:aB->qe} {g:nA->qe} {es:I aB} {l:I nA}  {x:nA} {e:aB} (h:es.map f=(l.take bE).map g) (a:l[bE]? = aa x) (b:f e=g x):(es++[e]).map f=(l.take<|bE+1).map g:=by rw [l3 a];simp [h,b]
def DO {f:aB->qe} {g:nA->qe} {es:I aB} {l:I nA}  (h:es.map f=(l.take bE).map g) (hi:bE<=l.length):es.length=bE:=by have:=congrArg m0 h;simpa [vn hi] using this
def DP {f:aB->qe} {g:nA->qe} {es:I aB} {l:I nA}  (h:es.map f=(l.take bE).map g) (hi:bE=l.length):es.map f=l.map g:=by subst hi;simpa using h
def Tg:ii aC 49 53 (b0 #[am an 0,am an 0,am an 0,am an 0,aE ao 0 0]) 5 56:=j_ ah
def Bu:zeroOf aC 51=aa (b0 #[am an 0,am an 0,am an 0,am an 0,aE ao 0 0,aE ao 0 0,aE ao 0 0]):=ah
def adi:hW aC 51=aa [(0,1),(1,1),(2,1),(3,1),(4,1),(5,1),(6,1)]:=ah
def DQ:e2 aC 51=aa 7:=ah
def oU:aT aC 51 2=aa 2:=ah
def pD:aT aC 51 3=aa 3:=ah
def xJ:aT aC 51 1=aa 1:=ah
def nK:aT aC 51 4=aa 4:=ah
def zx:aT aC 51 5=aa 5:=ah
def LD:e2 aC 35=aa 1:=ah
def xK:aT aC 51 6=aa 6:=ah
def xL:i2 aC 51=aa 7:=ah
def Th:ii aC 35 51 (b0 #[am an 0,am an 0,am an 0,am an 0,aE ao 0 0,aE ao 0 0,aE ao 0 0]) 7 104:=j_ ah
def adj (j d:View) (o:Z) (b:iA) (D:wx j o b) (k:Z) (l:I cF) (a:aA a6) (c:Z) (w:aP) (E:Le j w) (G:Le d w) (p:Sl (lm k) 5 d a c l) (aH:g5 l<=109951162777) : cx aC 224 #[b8 (aa ⟨o,0,ao⟩),aE a l.length c] w λe m=>(∃r:SP,e = cf (aE r.1 (iT b l).length r.2)/\Ext w m/\kf b l=0/\Sl (cC<|k+1) 5 (nv w m) r.1 r.2 (iT b l))\/(∃_:ef,e = .panicked (i_<|kf b l)/\Ext w m/\kf b l≠0):=by
 induction k using om generalizing d l a c w;rename_i k H;have aI:=p.cap;have aL:=p.max;have aM:=N7 l;refine enter func224 O 22 O O<|CE (Vs:=[d,j]) (Ws.init (by simp [G,E]))<|ak<|au O<|ag<|ak<|au O<|LW (λ_ h=>h.hM 53 5) ?_;refine WL.v0<|ag<|Cs<|ak<|ab O<|V0 (Yn u5 O)<|ab O<|ag<|Cb ?_;refine f_ (ι:=GX XN) (λg=>[(10,am an (g.i:ac)),(5,aE g.a g.es.length g.c)]) [(0,_),(4,_),(8,_),(9,_)] (λg=>Ws w [] [cQ 53 5 XN.cells g.a g.c g.es] [g.J,d,j]) (λg=>g.i<=l.length/\g.es.map (·.1)=(l.take g.i).map (pf b)/\jk (mc b) (l.take g.i)=0/\(hf w g.J/\Xs (ut k) g.J g.es)) (λg=>l.length-g.i) ⟨0,[],ao,0,v0⟩ ⟨dw _,O,O,⟨fK w,Xs.nil _⟩⟩ (λ_ h=>by have h:=Ws.aZ h (cI:=[v0,d,j]) aK;exact h) λg ⟨hi,q,s,⟨v,x⟩⟩=>ak<|V0 (c8 O O)<|ag<|Cs ?_;refine Cc O (λt=>?_)<|λt=>?_
 ·have K:g.i<l.length:=by simpa using t
  obtain ⟨y,n⟩:=bk K;obtain ⟨aN,aO,L,z⟩:=p.ct g.i y n;obtain ⟨k2,rfl⟩:∃k2,k=k2+1:=by cases k with| zero=>exact z.elim| succ k2=>exact ⟨k2,rfl⟩
  obtain ⟨M,N,P,Q⟩:=z;have aQ:=DO q hi;refine ay<|Cs<|Cb<|ak<|V0 (Yo u5 O O L ai)<|V0 (eB 1 cZ O O O<|P) ?_;refine Al Y O qZ λaT=>aw 0 Y O O O qk O O O<|ag<|Cr<|ab O<|ab O<|V0 (dW 0 O O cZ O) ?_;refine WL.ln (ι:=SP) (κ:=ef) Y O bp O (λr=>b0 (dQ (pf b y) r.1 r.2).toArray) (λF r=>mc b y=0/\ut (k2+1) F (pf b y,r)) (λ_=>i_<|mc b y) (λ_=>mc b y≠0) (λw f=>adg j d o b k2 y M N w f.V f.V D (λd l a c w S T U W=>H k2 ai d l a c w S T U W) Q (by have:=N5 n;omega)) ?_ ?_
  ·intro _ A;refine WE.cp<|Ep<|Ep<|WE.cp<|Ep ?_;refine b_ λm f=>?_;have X:kf b l=mc b y:=by rw [Jf,Ay (mc b) n s A]
   rw [X];exact be ⟨(),O,f.fr,A⟩
  intro aU u ae ⟨af,ah⟩;refine WL.cb λaj al ap av=>Lb Y O Tg O O O O λaV=>eb 0 (aY (XN.cells (pf b y,u)).toArray 53 (0,0)) O O<|LA ((pf b y,u):XN) 2 0 Y O Tg O O O O O O ai ai λax az=>au O<|Ln<|Eb<|Et<|Cr<|V0 (Yi O O O ai)<|ab O<|Ln ?_;exact ep (⟨g.i+1,g.es++[(pf b y,u)],ax,az,aj⟩:GX XN) (by show _-(g.i+1)<_;omega) ⟨by show g.i+1<=_;omega,DN q n O,by show jk (mc b) (l.take<|g.i+1)=0;rw [Je (mc b) n,s,oB,af],⟨av _ ae v,Xs.snoc (R:=ut _) (λhv h=>ut.mv hv h) x ap al ah⟩⟩<|λ_ h=>Wd 2 h
 have B:g.i=l.length:=by simp at t;omega
 refine Ce<|Ex<|Ex<|ee<|Et<|Cs ?_;refine WC.qD (rd:=Ov) 0 O (λ_ aB=>by cases aB) XN.dR iH λaW aD aF=>Cr<|ab O<|au O<|ag<|bu ?_;refine R1 O O λm f=>?_;have aG:kf b l=0:=by rw [Jf,<-s,B,gH]
 have C:=DP q B;rw [<-Ax] at C;rw [<-C];exact bB ⟨(g.a,g.c),by rw [fB],f.fr,aG,ahB aF (fm f aK aD) (fm f aK v) x⟩
def adk (b:View) (d:Z) (e:iA) (f:wx b d e) (k:Z):Ly b d e k:=by intro g l a c w h i j m;exact adj b g d e f k l a c w h i j m
def adl (p q:View) (s:Z) (b:iA) (ke k:Z) (x:cG) (a:aA a6) (c:Z) (a2:aA a6) (c2:Z) (a3:aA a6) (c3:Z) (w:aP) (R:Le p w) (S:Le q w) (v:wx p s b) (hN:Ly p s b ke) (J:adh p s b ke k) (y:Sl (lm ke) 5 q a c x.args) (T:Sl (jV ke k) 6 q a2 c2 x.body) (U:Sl (jV ke k) 6 q a3 c3 x.other) (aV:wS x<=109951162777) : cx aC 131 #[b8 (aa ⟨s,0,ao⟩),b0 (yE x a c a2 c2 a3 c3).toArray] w λe l=>(∃r:w4,e = cf (b0 (rq (pg b x) r).toArray)/\Ext w l/\lq b x=0/\fQ (ke+1) (k+1) (nv w l) (pg b x,r))\/(∃_:ef,e = .panicked (i_<|lq b x)/\Ext w l/\lq b x≠0):=by
 have aW:=N4 x;have aX:=y.cap;have aZ:=y.max;refine enter func131 O 88 O O<|CE (Vs:=[q,p]) (Ws.init (by simp [S,R]))<|ak ?_;refine WL.box Y O O λK=>Al Y O Bu λL=>ag<|ak<|V0 (Yf e1 O)<|V0 (Yd 1 O O O ah)<|V0 (Yb Bu adi O O) ?_;refine Al Y O Bu λM=>aw 0 Y O O O DQ O O O<|ag<|ak ?_;refine Al Y O oh λa0=>ag<|WC.nI (ι:=ef) (λ_u=>[(0,b8<|aa ⟨s,0,ao⟩),(3,b8<|aa ⟨K,0,ao⟩),(4,b8<|aa ⟨L,0,ao⟩),(5,b8<|aa ⟨M,0,ao⟩)]) (λ_u=>Ws w [] [aQ M<|aY #[am an (a7 b x.op x.mod x.nm x.args.length).op,am an (a7 b x.op x.mod x.nm x.args.length).n,am an (a7 b x.op x.mod x.nm x.args.length).m,am an (a7 b x.op x.mod x.nm x.args.length).pl,aE ao 0 0,aE ao 0 0,aE ao 0 0] 51 (0,0),aQ L<|aY #[am an 0,am an 0,am an 0,am an 0,aE ao 0 0,aE ao 0 0,aE ao 0 0] 51 (0,0),aQ K<|aY (yE x a c a2 c2 a3 c3).toArray 241 (0,0)] [q,p]) (λ_u=>(a7 b x.op x.mod x.nm x.args.length).e=0) ?_ ?_
 ·refine ak<|V0 (Yf e1 O)<|V0 (Yd 3 O O O ah)<|ag<|Cb<|ak<|V0 (bY O O)<|au O<|ag ?_;refine Cc O (λz=>?_)<|λz=>?_
  ·have t:x.op=1:=by simpa using z
   refine ak<|ab O<|V0 (Yf Ds O)<|V0 (Yd 3 O O O ah)<|V0 (Yf Dt O)<|V0 (Yd 3 O O O ah) ?_;refine WL.dP (ι:=ac×dB) (κ:=ef) Y O bp O (λi=>cO #[am an i.1,b0 i.2.cells.toArray]) (λi=>gV b x.mod x.nm=aa i) (λ_=>i_ 5) (λ_=>gV b x.mod x.nm=ao) (λw f=>FG p s b w f.V v x.mod x.nm) ?_ ?_
   ·intro _ g;refine Ep<|WE.cp<|Ep ?_;refine b_ λl f=>?_;have j:lq b x=5:=by rw [uv,LC ai g];rfl
    rw [j];exact be ⟨(),O,f.fr,a8⟩
   intro ⟨A,B⟩ N;have C:=ac_ (len:=x.args.length) N;have a1:=va N;refine ab O<|V0 (Yx O O)<|V0 (Yx O O)<|V0 (Yf oU O)<|aw 1 Y O O O eE O O O<|aw 0 Y O O O oS O O O<|ag<|ak<|V0 (Yf oU O) ?_;refine V0 (Yd 1 O O O ah)<|V0 (c8 O O)<|ab O ?_;apply Lo 3 O O O O Y O O O O O;·intro a4;refine Vg (Yf DI O)<|Vg (Yd 0 O O O ah)<|Vg (bY O O) ?_;exact Gt 3 O O O
   refine WL.dP (ι:=ef) (κ:=ef) Y O bp O (λ_=>cO #[]) (λ_=>_=ad) (λ_=>i_ _) (λ_=>_=aq) (λw f=>wz _ _ w) ?_ ?_
   ·intro _ g;refine Ep<|WE.cp<|Ep ?_;refine b_ λl f=>?_;have D:¬(A = -1\/B.kind=2):=by simp at g;omega
    rw [aj D] at C;have j:lq b x=7:=by rw [uv,t,C];rfl
    rw [j];exact be ⟨(),O,f.fr,a8⟩
   intro _ W;have D:A = -1\/B.kind=2:=by simp at W;omega
   have o:(a7 b x.op x.mod x.nm x.args.length)=⟨x.op,0,A,B.pl,0⟩:=by rw [t];rw [C,aD D]
   refine ag<|Cr<|V0 (Yf oR O)<|V0 (Yd 0 O O O ah)<|V0 (Yf pD O)<|aw 1 Y O O O eE O O O<|Ln<|Eb ?_;refine WE.qE 1 (aY #[am an (a7 b x.op x.mod x.nm x.args.length).op,am an (a7 b x.op x.mod x.nm x.args.length).n,am an (a7 b x.op x.mod x.nm x.args.length).m,am an (a7 b x.op x.mod x.nm x.args.length).pl,aE ao 0 0,aE ao 0 0,aE ao 0 0] 51 (0,0)) O (by rw [o];rfl)<|lL () (by rw [o]) (λ_ h=>by have h:=h.bs 3 rfl;have h:=h.bs 3 rfl;have h:=h.bs 3 rfl;have h:=Wt 3 h;exact h)
  have X:¬x.op=1:=by simpa using z
  refine ak<|V0 (bY O O)<|au O<|ag ?_;refine Cc O (λE=>?_)<|λE=>?_
  ·have t:x.op=2:=by simpa using E
   refine ak<|ab O<|V0 (Yf Ds O)<|V0 (Yd 3 O O O ah)<|V0 (Yf Dt O)<|V0 (Yd 3 O O O ah) ?_;refine WL.dP (ι:=ac×dB) (κ:=ef) Y O bp O (λi=>cO #[am an i.1,b0 i.2.cells.toArray]) (λi=>gV b x.mod x.nm=aa i/\iO b x.mod x.nm 3 0=0) (λ_=>i_<|iO b x.mod x.nm 3 0) (λ_=>iO b x.mod x.nm 3 0≠0) (λw f=>G2 p s b w f.V v x.mod x.nm 3 0) ?_ ?_
   ·intro _ g;refine Ep<|WE.cp<|Ep ?_;refine b_ λl f=>?_;have j:lq b x=iO b x.mod x.nm 3 0:=by rw [uv,t,ada g,uu g]
    rw [j];exact be ⟨(),O,f.fr,g⟩
   intro ⟨ae,P⟩ ⟨af,al⟩;have o:(a7 b x.op x.mod x.nm x.args.length)=⟨x.op,P.n,ae,P.pl,0⟩:=by rw [t];exact adb af al
   refine ab O<|V0 (Yx O O)<|V0 (Yx O O)<|V0 (Yf oU O)<|aw 1 Y O O O eE O O O<|aw 0 Y O O O oS O O O<|ag ?_;refine WC.nS 1 [(0,ad),(1,ad),(2,ad),(3,ad),(4,ad),(5,aq),(6,aq),(7,aq)] mixed ah (λ_ _ _ d _ h=>by cases d<;>exact h)<|D0 O (Wp 1) (Yf oR O)<|D0 O (Wp 1) (Yd 0 O O O ah)<|D0 O (Wp 1) (Yf sT O)<|D0 O (Wp 1) (Yd 0 O O O ah)<|D0 O (Wp 1) (Yf pD O) ?_;refine De O (Wp 1)<|aw 1 Y O O O eE O O O<|Ln<|Ed ?_;refine De O (Wp 1)<|V0 (Yf xJ O)<|Ln<|Ed ?_;refine De O (Wp 1)<|aw 1 Y O O O eE O O O<|Ln<|Ed ?_;refine WD.nil (Wp 1)<|Eb<|WE.qE 1 (aY #[am an (a7 b x.op x.mod x.nm x.args.length).op,am an (a7 b x.op x.mod x.nm x.args.length).n,am an (a7 b x.op x.mod x.nm x.args.length).m,am an (a7 b x.op x.mod x.nm x.args.length).pl,aE ao 0 0,aE ao 0 0,aE ao 0 0] 51 (0,0)) O (by rw [o];rfl)<|lL () (by rw [o]) (λ_ h=>by have h:=h.bs 3 rfl;have h:=h.bs 3 rfl;have h:=h.bs 3 rfl;have h:=Wt 3 h;exact h)
  have ap:¬x.op=2:=by simpa using E
  refine ak<|V0 (bY O O)<|au O<|ag ?_;refine Cc O (λG=>?_)<|λG=>?_
  ·have t:x.op=3:=by simpa using G
   refine ak<|ab O<|V0 (Yf Ds O)<|V0 (Yd 3 O O O ah)<|V0 (Yf Dt O)<|V0 (Yd 3 O O O ah)<|V0 (Yf sL O)<|V0 (Yd 3 O O O ah) ?_;refine V0 (Yn u5 O)<|WL.dP (ι:=ac×dB) (κ:=ef) Y O bp O (λi=>cO #[am an i.1,b0 i.2.cells.toArray]) (λi=>gV b x.mod x.nm=aa i/\iO b x.mod x.nm 4 (x.args.length:ac)=0) (λ_=>i_<|iO b x.mod x.nm 4 (x.args.length:ac)) (λ_=>iO b x.mod x.nm 4 (x.args.length:ac)≠0) (λw f=>G2 p s b w f.V v x.mod x.nm 4 (x.args.length:ac)) ?_ ?_
   ·intro _ g;refine Ep<|WE.cp<|Ep ?_;refine b_ λl f=>?_;have j:lq b x=iO b x.mod x.nm 4 (x.args.length:ac):=by rw [uv,t,adc g,uu g]
    rw [j];exact be ⟨(),O,f.fr,g⟩
   intro ⟨av,ax⟩ ⟨ay,az⟩;have o:(a7 b x.op x.mod x.nm x.args.length)=⟨x.op,0,av,ax.pl,0⟩:=by rw [t];exact ade ay az
   refine ab O<|V0 (Yx O O)<|V0 (Yx O O)<|V0 (Yf oU O)<|aw 1 Y O O O eE O O O<|aw 0 Y O O O oS O O O<|ag<|Cr<|V0 (Yf oR O) ?_;refine V0 (Yd 0 O O O ah)<|V0 (Yf pD O)<|aw 1 Y O O O eE O O O<|Ln<|Eb ?_;refine WE.qE 1 (aY #[am an (a7 b x.op x.mod x.nm x.args.length).op,am an (a7 b x.op x.mod x.nm x.args.length).n,am an (a7 b x.op x.mod x.nm x.args.length).m,am an (a7 b x.op x.mod x.nm x.args.length).pl,aE ao 0 0,aE ao 0 0,aE ao 0 0] 51 (0,0)) O (by rw [o];rfl)<|lL () (by rw [o]) (λ_ h=>by have h:=h.bs 3 rfl;have h:=h.bs 3 rfl;have h:=h.bs 3 rfl;have h:=Wt 3 h;exact h)
  have aB:¬x.op=3:=by simpa using G
  have o:(a7 b x.op x.mod x.nm x.args.length)=⟨x.op,0,0,0,0⟩:=ac' X ap aB;refine Ck<|Eb ?_;refine WE.qE 1 (aY #[am an (a7 b x.op x.mod x.nm x.args.length).op,am an (a7 b x.op x.mod x.nm x.args.length).n,am an (a7 b x.op x.mod x.nm x.args.length).m,am an (a7 b x.op x.mod x.nm x.args.length).pl,aE ao 0 0,aE ao 0 0,aE ao 0 0] 51 (0,0)) O (by rw [o];rfl)<|lL () (by rw [o]) (λ_ h=>by have h:=h.bs 3 rfl;have h:=h.bs 3 rfl;have h:=h.bs 3 rfl;have h:=Wt 3 h;exact h)
 intro _ u;refine ak<|ab O<|V0 (Yf sL O)<|V0 (Yd 2 O O O ah) ?_;refine WL.ln (ι:=SP) (κ:=ef) Y O bp O (λr=>aE r.1 (iT b x.args).length r.2) (λF r=>kf b x.args=0/\Sl (cC<|ke+1) 5 F r.1 r.2 (iT b x.args)) (λ_=>i_<|kf b x.args) (λ_=>kf b x.args≠0) (λw f=>hN q x.args a c w f.V f.V y ai) ?_ ?_
 ·intro _ g;refine Ep<|b_ λl f=>?_;have j:lq b x=kf b x.args:=by rw [uv,u,oB,uu g]
  rw [j];exact be ⟨(),O,f.fr,g⟩
 intro a5 aF aG ⟨H,aH⟩;refine V0 (Yf nK O)<|aw 0 Y O O O Tf O O O<|ag<|Cs ?_;refine WC.nS 0 [(0,ad),(1,ad),(2,ad),(4,ad),(5,ad),(6,ad),(3,aq),(8,ad),(7,aq),(9,aq),(10,aq),(11,aq)] mixed ah (λ_ _ _ d _ h=>by cases d<;>exact h)<|D0 O (Wp 0) (Ym O)<|D0 O (Wp 0) (Yf Bj O)<|D0 O (Wp 0) (Yd 1 O O O ah)<|D0 O (Wp 0) (Ym O)<|D0 O (Wp 0) (Yf xG O)<|D0 O (Wp 0) (Yd 1 O O O ah) ?_;refine De O (Wp 0)<|WL.ln (ι:=SP) (κ:=ef) Y O bp O (λr=>aE r.1 (gu b x.body).length r.2) (λF r=>g7 b x.body=0/\Sl (jK (ke+1)<|k+1) 7 F r.1 r.2 (gu b x.body)) (λ_=>i_<|g7 b x.body) (λ_=>g7 b x.body≠0) (λw f=>J q x.body a2 c2 w f.V f.V T ai) ?_ ?_
 ·intro _ g;refine Ep<|Ep ?_;refine b_ λl f=>?_;have j:lq b x=g7 b x.body:=by rw [uv,u,oB,H,oB,uu g]
  rw [j];exact be ⟨(),O,f.fr,g⟩
 intro a9 aI aL ⟨Q,aM⟩;refine Ln<|Ed<|D0 O (λ_ h=>(Wv 1<|Wo 0 h:)) (Yf zx O) ?_;refine De O (λ_ h=>(Wv 1<|Wo 0 h:))<|WL.ln (ι:=SP) (κ:=ef) Y O bp O (λr=>aE r.1 (gu b x.other).length r.2) (λF r=>g7 b x.other=0/\Sl (jK (ke+1)<|k+1) 7 F r.1 r.2 (gu b x.other)) (λ_=>i_<|g7 b x.other) (λ_=>g7 b x.other≠0) (λw f=>J q x.other a3 c3 w f.V f.V U ai) ?_ ?_
 ·intro _ g;refine Ep<|Ep ?_;refine b_ λl f=>?_;have j:lq b x=g7 b x.other:=by rw [uv,u,oB,H,oB,Q,oB]
  rw [j];exact be ⟨(),O,f.fr,g⟩
 intro a' aN aO ⟨aT,aU⟩;refine Ln<|Ed ?_;refine De O (λ_ h=>(Wv 2<|Wo 0 h:))<|aw 0 Y O O O LD O O O<|Ln<|Ed ?_;refine De O (λ_ h=>(Wv 2<|Wo 0 h:))<|V0 (Yf xK O)<|Ln<|Ed ?_;refine De O (λ_ h=>(Wv 2<|Wo 0 h:))<|aw 0 Y O O O LD O O O<|Ln<|Ed ?_;refine WD.nil (λ_ h=>(Wv 2<|Wo 0 h:))<|Et<|ak<|V0 (dW 0 O O xL O)<|aw 1 Y O O O DQ O O O<|ag<|bu ?_;refine WE.gF (kJ O<|fj 1 O O xL O) λl f=>?_;rw [Jc];exact bB ⟨⟨aF,aI,aN⟩,O,f.fr,by rw [uv,u,H,Q,aT];rfl,ul aH<|fm f aK aG,w5 aM<|fm f aK aL,w5 aU<|fm f aK aO⟩
def Ti (j d:View) (o:Z) (b:iA) (ke:Z) (v:wx j o b) (k:Z) (l:I cG) (a:aA a6) (c:Z) (w:aP) (E:Le j w) (G:Le d w) (p:Sl (jV ke k) 6 d a c l) (aQ:bC l<=109951162777) : cx aC 61 #[b8 (aa ⟨o,0,ao⟩),aE a l.length c] w λe m=>(∃r:SP,e = cf (aE r.1 (gu b l).length r.2)/\Ext w m/\g7 b l=0/\Sl (jK (ke+1)<|k+1) 7 (nv w m) r.1 r.2 (gu b l))\/(∃_:ef,e = .panicked (i_<|g7 b l)/\Ext w m/\g7 b l≠0):=by
 induction k using om generalizing d l a c w;rename_i k H;have aT:=p.cap;have aU:=p.max;have aV:=N8 l;refine enter func61 O 22 O O<|CE (Vs:=[d,j]) (Ws.init (by simp [G,E]))<|ak<|au O<|ag<|ak<|au O<|LW (λ_ h=>h.hM 51 7) ?_;refine WL.v0<|ag<|Cs<|ak<|ab O<|V0 (Yn tQ O)<|ab O<|ag<|Cb ?_;refine f_ (ι:=GX XA) (λg=>[(10,am an (g.i:ac)),(5,aE g.a g.es.length g.c)]) [(0,_),(4,_),(8,_),(9,_)] (λg=>Ws w [] [cQ 51 7 XA.cells g.a g.c g.es] [g.J,d,j]) (λg=>g.i<=l.length/\g.es.map (·.1)=(l.take g.i).map (pg b)/\jk (lq b) (l.take g.i)=0/\(hf w g.J/\Xs (fQ (ke+1) k) g.J g.es)) (λg=>l.length-g.i) ⟨0,[],ao,0,v0⟩ ⟨dw _,O,O,⟨fK w,Xs.nil _⟩⟩ (λ_ h=>by have h:=Ws.aZ h (cI:=[v0,d,j]) aK;exact h) λg ⟨hi,q,s,⟨x,z⟩⟩=>ak<|V0 (c8 O O)<|ag<|Cs ?_;refine Cc O (λt=>?_)<|λt=>?_
 ·have K:g.i<l.length:=by simpa using t
  obtain ⟨y,n⟩:=bk K;obtain ⟨aW,aX,L,A⟩:=p.ct g.i y n;obtain ⟨k2,rfl⟩:∃k2,k=k2+1:=by cases k with| zero=>exact A.elim| succ k2=>exact ⟨k2,rfl⟩
  obtain ⟨M,N,P,Q,S,T,U,W,X,ae⟩:=A;have a0:=DO q hi;refine ay<|Cs<|Cb<|ak<|V0 (Yo tQ O O L ai)<|V0 (eB 1 mV O O O<|U) ?_;refine Al Y O GR λa1=>aw 0 Y O O O tR O O O<|ag<|Cr<|ab O<|ab O<|V0 (dW 0 O O mV O) ?_;refine WL.ln (ι:=w4) (κ:=ef) Y O bp O (λr=>b0 (rq (pg b y) r).toArray) (λF r=>lq b y=0/\fQ (ke+1) (k2+1) F (pg b y,r)) (λ_=>i_<|lq b y) (λ_=>lq b y≠0) (λw f=>adl j d o b ke k2 y M N P Q S T w f.V f.V v (adk j o b v ke) (λd l a c w af ah aj al=>H k2 ai d l a c w af ah aj al) W X ae (by have:=N6 n;omega)) ?_ ?_
  ·intro _ B;refine WE.cp<|Ep<|Ep<|WE.cp<|Ep ?_;refine b_ λm f=>?_;have ap:g7 b l=lq b y:=by rw [Jg,Ay (lq b) n s B]
   rw [ap];exact be ⟨(),O,f.fr,B⟩
  intro a2 u av ⟨ax,az⟩;refine WL.cb λaB aD aF aG=>Lb Y O Th O O O O λa3=>eb 0 (aY (XA.cells (pg b y,u)).toArray 51 (0,0)) O O<|LA ((pg b y,u):XA) 2 0 Y O Th O O O O O O ai ai λaH aI=>au O<|Ln<|Eb<|Et<|Cr<|V0 (Yi O O O ai)<|ab O<|Ln ?_;exact ep (⟨g.i+1,g.es++[(pg b y,u)],aH,aI,aB⟩:GX XA) (by show _-(g.i+1)<_;omega) ⟨by show g.i+1<=_;omega,DN q n O,by show jk (lq b) (l.take<|g.i+1)=0;rw [Je (lq b) n,s,oB,ax],⟨aG _ av x,Xs.snoc (R:=fQ _ _) (λhv h=>fQ.mv hv h) z aF aD az⟩⟩<|λ_ h=>Wd 2 h
 have C:g.i=l.length:=by simp at t;omega
 refine Ce<|Ex<|Ex<|ee<|Et<|Cs ?_;refine WC.qD (rd:=Ow) 0 O (λ_ aL=>by cases aL) XA.dR iH λa4 aM aN=>Cr<|ab O<|au O<|ag<|bu ?_;refine R1 O O λm f=>?_;have aO:g7 b l=0:=by rw [Jg,<-s,C,gH]
 have D:=DP q C;rw [<-uw] at D;rw [<-D];exact bB ⟨(g.a,g.c),by rw [fB],f.fr,aO,ahC aN (fm f aK aM) (fm f aK x) z⟩
def yV (a:View) (b o:Z) (e:SP×I Tx):Prop:=vc a b o=aa (aE e.1.1 e.2.length e.1.2)/\Sl rdStr 1 a e.1.1 e.1.2 e.2
def iK (a:I<|(aA a6×Z)×I Tx):Z:=(a.map (·.2.length)).sum
def CT {a:I<|(aA a6×Z)×I Tx}  {x:(aA a6×Z)×I Tx} (h:a[bE]? = aa x):iK (a.take<|bE+1)=iK (a.take bE)+x.2.length:=by simp [iK,h7,h]
def pN (a:I<|(aA a6×Z)×I Tx) (i:Z):iK (a.take i)<=iK a:=by
 have e:iK a=iK (a.take i)+iK (a.drop i):=by unfold iK;rw [<-H8,<-qs,rZ]
 omega
def CV (a:I<|(aA a6×Z)×I Tx):(a.flatMap (·.2)).length=iK a:=by simp [iK,MG]
def G3:g_ aC 244=aa 1:=ah
def Tj:e2 aC 116=aa 1:=ah
def G4:hW aC 37=aa [(0,1),(1,1),(2,1),(3,1),(4,1)]:=ah
def sU:zeroOf aC 37=aa (b0 #[st [],aE ao 0 0,am an 0,aE ao 0 0,aE ao 0 0]):=ah
def adm:aT aC 116 0=aa 0:=ah
def sV:e2 aC 37=aa 5:=ah
def S' (f:View) (a:aA a6) (c:Z) (l:I Tx) (w:aP) (k:Le f w) (g:Sl rdStr 1 f a c l) (q:l.length<=1048576) : cx aC 59 #[aE a l.length c] w λe i=>∃r:SP,e = cf (aE r.1 l.length r.2)/\Ext w i/\Sl rdStr 1 (nv w i) r.1 r.2 l:=by
 have s:=g.cap;have t:=g.max;refine enter func59 O 8 O O<|CE (Vs:=[f]) (Ws.init (by simp [k]))<|ak<|au O<|ag<|Cs<|ak<|ab O<|V0 (E4 gf O)<|ag ?_;refine Cc O (λj=>?_)<|λj=>?_
 ·have m:l=[]:=by cases l with| nil=>rfl| cons x r=>obtain ⟨b,o,h,_⟩:=g.ct 0 x rfl;rw [h] at j;cases j
  refine ak<|au O<|ag<|bu<|Er ?_;refine R1 O O λi d=>?_;subst m;exact ⟨(ao,0),O,d.fr,Sl.nil⟩
 refine ay<|ak ?_;refine WL.Ca Y O gQ O O O λu=>WL.z_ (size:=1) 0 O (c7 0) (dw _) O<|WL.m7 0 ([]:I Tx).length (([]:I Tx).flatMap g4) O O O<|ab O<|WL.wZ (ys:=l) (xs:=[]) 0 (λ_=>f) Y O gQ O O O (λw d=>⟨d.vs f aK,g⟩) iH rn SQ (by simp;omega) (by simp;omega) λn p=>au O<|ag<|bu ?_;refine R1 O O λi d=>⟨(n,p),O,d.fr,d.kb 0 O rn iH⟩
def adn (m:Z) (w:aP) (k:m<=1048576) : cx aC 130 #[aE ao 0 0,am an (m:ac)] w λe a=>∃r:SP,e = cf (aE r.1 ([]:I Tx).length r.2)/\Ws w [] [cQ 9 1 g4 r.1 r.2 ([]:I Tx)] [] a:=by
 refine enter func130 O 27 O O<|CE (Vs:=[]) (Ws.init aK)<|ak<|au O<|ag<|Cs<|ak<|ab O<|V0 (c8 O O)<|ag ?_;refine Cc O (λc=>?_)<|λc=>?_;·exfalso;simp at c;omega
 refine ay<|Cs<|ak<|ab O<|ab O<|V0 (tW gf O)<|ab O<|V0 (Yn gf O)<|V0 (dC 0 O O aK ai)<|V0 (dC (m:ac) O O aK ai) ?_;refine au O<|ag<|ak<|ab O<|V0 (eZ O O)<|ag ?_;refine Cc O (λd=>?_)<|λd=>?_
 ·have g:0<m:=by simp at d;omega
  refine Cr<|ab O<|ab O<|V0 (tW gf O)<|V0 (vC 0 gf O aK O O<|dw _)<|ab O ?_;refine WL.NH m Y O gQ k' O O g (by unfold maxLen;omega) ai λh f l n i j=>WL.z_ (m:=0) (cap:=f) (size:=1) 0 O (dw _) i (by rw [j,vo])<|WL.m7 0 ([]:I Tx).length (([]:I Tx).flatMap g4) O O aK<|ab O<|V0 (Yn gf O)<|V0 (vC ([]:I Tx).length gf O aK O O<|dw _)<|au O<|ag<|ak<|ab O<|au O<|ag<|bu ?_;refine R1 O O λa b=>⟨(aa ⟨h,0,ao⟩,f),O,b⟩
 refine ay<|ak<|ab O<|au O<|ag<|bu ?_;refine R1 O O λa b=>⟨(ao,0),O,b.hM 9 1⟩
def ado (f:View) (a:aA a6) (c:Z) (d:I<|SP×I Tx) (w:aP) (z:Le f w) (k:Sl yV 1 f a c d) (A:iK d<=1048576) (H:d.length<=1048576) :
   cx aC 60 #[aE a d.length c] w λe l=>∃r:SP,e = cf (aE r.1 (d.flatMap (·.2)).length r.2)/\Ext w l/\Sl rdStr 1 (nv w l) r.1 r.2 (d.flatMap (·.2)):=by
 have J:=k.cap;have K:=k.max;refine enter func60 O 36 O O<|CE (Vs:=[f]) (Ws.init (by simp [z]))<|ak<|au O<|ag<|ak<|au O<|ag<|Cs<|ak<|ab O<|V0 (Yn G3 O) ?_;refine ab O<|ag<|Cb ?_;refine pL (ι:=Z) (λi=>[(11,am an (i:ac)),(3,am an (iK<|d.take i:ac))]) [(0,_),(2,_),(9,_),(10,_)] (λi=>i<=d.length) (λi=>d.length-i) 0 (dw _) λi hi=>ak<|V0 (c8 O O)<|ag<|Cs ?_;refine Cc O (λn=>?_)<|λn=>?_
 ·have o:i<d.length:=by simpa using n
  obtain ⟨x,h⟩:=bk o;obtain ⟨pb,B,p,q,t⟩:=k.ct i x h;have u:=CT h;have C:=pN d<|i+1;refine ay<|Cs<|Cb<|ak<|V0 (Yo G3 O O p ai)<|V0 (ew 0 ah O O<|q)<|au O<|ag<|ak<|ab O<|ab O<|V0 (Yn gf O) ?_;refine V0 (o7 (a:=iK<|d.take i) (b:=x.2.length) O O O O ai)<|au O<|ag<|ak<|ab O<|V0 (c8 O O)<|ag ?_;refine Cc O (λv=>?_)<|λv=>?_;·exfalso;simp at v;omega
  refine Ck<|Eb<|Et<|Cr<|V0 (Yi O O O ai)<|ab O<|Ln ?_;rw [<-u];exact ep (i+1) ai ai a'
 have m:i=d.length:=by simp at n;omega
 subst m;rw [gH];refine Ce<|Ex<|Ex<|ee<|Et<|ak<|ab O ?_;refine Lw (ι:=SP) [] _ Y O bp O O (λr=>aE r.1 ([]:I Tx).length r.2) (λr=>[cQ 9 1 g4 r.1 r.2 ([]:I Tx)]) (λ_=>True) [] aK (λw j=>(adn (iK d) w A).mono λe l ⟨r,D,E⟩=>⟨r,D,trivial,E⟩) λy _=>au O<|ag<|Cs<|ak<|ab O<|V0 (Yn G3 O)<|ab O<|ag<|Cb ?_;refine f_ (ι:=Z×aA a6×Z) (λg=>[(27,am an (g.1:ac)),(6,aE g.2.1 ((d.take g.1).flatMap (·.2)).length g.2.2)]) [(2,_),(25,_),(26,_)] (λg=>Ws w [] [cQ 9 1 g4 g.2.1 g.2.2 ((d.take g.1).flatMap (·.2))] [f]) (λg=>g.1<=d.length) (λg=>d.length-g.1) (0,y.1,y.2) (dw _) a' λg hi=>ak<|V0 (c8 O O)<|ag<|Cs ?_;refine Cc O (λs=>?_)<|λs=>?_
 ·have o:g.1<d.length:=by simpa using s
  obtain ⟨x,h⟩:=bk o;obtain ⟨pb,B,p,q,t⟩:=k.ct g.1 x h;have u:=CT h;have C:=pN d<|g.1+1;refine ay<|Cs<|Cb<|ak<|V0 (Yo G3 O O p ai)<|V0 (ew 0 ah O O<|q)<|au O<|ag<|Cr<|ab O<|ab O ?_;refine WL.wZ (xs:=(d.take g.1).flatMap (·.2)) (ys:=x.2) 0 (λ_=>f) Y O gQ O O O (λw j=>⟨j.vs f aK,t⟩) iH rn SQ (by rw [CV];omega) (by rw [CV];omega) λF G=>?_;rw [show ((d.take g.1).flatMap (·.2))++x.2=(d.take<|g.1+1).flatMap (·.2) by rw [h7,h];simp];refine au O<|Ln<|Eb<|Et<|Cr<|V0 (Yi O O O ai)<|ab O<|Ln ?_;exact ep ((g.1+1,F,G):Z×aA a6×Z) (by first|omega|(dsimp only;omega)) (by first|omega|(dsimp only;omega)) a'
 have m:g.1=d.length:=by simp at s;omega
 refine Ce<|Ex<|Ex<|ee<|Et<|ak<|ab O<|au O<|ag<|bu ?_;refine R1 O O λl j=>?_;rw [m,gH] at j;rw [m,gH];exact ⟨(g.2.1,g.2.2),O,j.fr,j.kb 0 O rn iH⟩
def adp (a b:Z) (c:I aR) (i:c.length=5) (d j:ac) (w:aP) (f:Ws w (c6 bh.ids [aQ a<|aY c.toArray 37 (0,0),aQ b<|aY #[am an d] 30 (0,0)]) [aQ a<|aY c.toArray 37 (0,0),aQ b<|aY #[am an d] 30 (0,0)] [] w) : CallsD aC 55 #[b8 (aa ⟨a,0,ao⟩),b8 (aa ⟨b,0,ao⟩)] (.returning) w λe h g=>h = .returning/\(e = cf (cO #[])/\Ws w (c6 bh.ids [aQ a<|aY c.toArray 37 (0,0),aQ b<|aY #[am an d] 30 (0,0)]) [aQ a<|aY c.toArray 37 (0,0),aQ b<|aY #[am an d] 30 (0,0)] [] g):=by refine lx func55 O 18 O O O O O (λ_=>rfl) (bB ⟨O,O,O⟩)<|LW (W':=Ws w (c6 bh.ids [aQ a<|aY c.toArray 37 (0,0),aQ b<|aY #[am an d] 30 (0,0)]) [aQ a<|aY c.toArray 37 (0,0),aQ b<|aY #[am an d] 30 (0,0)] []) (λ_ e=>by subst e;exact f)<|au O<|ag<|ak<|ab O<|V0 (Oj underlying116 G1 O)<|ab O<|V0 (Yx O O)<|V0 (Yx O O) ?_;refine Al Y O G1 λk=>aw 0 Y O O O Tj O O O<|au O<|ag<|ak<|ab O<|ag ?_;refine WC.uc O<|ak<|ab O<|V0 (IA GY O)<|ag ?_;refine WC.uc O<|Ck<|E0 O λg f=>⟨O,Wd 1 f⟩
def G5 (a b:Z) (c:I aR) (j:c.length=5) (f g:ac) (w:aP) (i:Ws w (c6 bh.ids [aQ a<|aY c.toArray 37 (0,0),aQ b<|aY #[am an f] 30 (0,0)]) [aQ a<|aY c.toArray 37 (0,0),aQ b<|aY #[am an f] 30 (0,0)] [] w) : CallsD aC 55 #[b8 (aa ⟨a,0,ao⟩),b8 (aa ⟨b,0,ao⟩)] (.panicking<|i_ g) w λe l k=>l = .panicking [⟨.iface 116<|b0 #[am an g],ad,aq⟩]/\(e = cf (cO #[])/\Ws w (c6 bh.ids [aQ a<|aY c.toArray 37 (0,0),aQ b<|aY #[am an f] 30 (0,0)]) [aQ a<|aY (ij mb oA).toArray 37 (0,0),aQ b<|aY #[am an g] 30 (0,0)] [] k):=by refine lx func55 O 18 O O O O O (λ_=>rfl) (be ⟨_,O,O,O⟩)<|LW (W':=Ws w (c6 bh.ids [aQ a<|aY c.toArray 37 (0,0),aQ b<|aY #[am an f] 30 (0,0)]) [aQ a<|aY c.toArray 37 (0,0),aQ b<|aY #[am an f] 30 (0,0)] []) (λ_ e=>by subst e;exact i)<|au O<|ag<|ak<|ab O<|V0 (Oi underlying116 O)<|ab O<|V0 (Yx O O)<|V0 (Yx O O) ?_;refine Al Y O G1 λm=>aw 0 Y O O O Tj O O O<|au O<|ag<|ak<|ab O<|ag ?_;refine WC.EN O<|WC.Fa (λ_=>ad) [1,1] [(0,ad),(1,ad),(2,ad),(3,aq),(4,aq)] mixed ah ah (λ_ _ _ d _ _ h=>by cases d<;>exact h)<|D0 O (dn [1,1]) (Yb sU G4 O O)<|D0 O (dn [1,1]) (Yf adm O)<|D0 O (dn [1,1]) (Yd 0 O O O ah) ?_;refine De O (dn [1,1])<|WL.z8 1 (aY (ij mb oA).toArray 37 (0,0)) Y O O O sV O O (by simp [ra,j]) (by simp [mD,bm,ij,mb,oA,j,k0])<|Ln<|Ed ?_;refine De O (dn [1,1])<|aw 2 Y O O O n8 O O O<|Ln<|Ed ?_;refine WD.nil (dn [1,1])<|E0 O λk i=>⟨O,Wd 1 i⟩
def Tl (f:I ar×I dB) (r:SP):I aR:=[st f.1,aE r.1 f.2.length r.2]
def G6 (a:View) (b o:Z) (f:I ar×I dB):Prop:=∃r:SP,cB a b o (Tl f r)/\Sl nV 4 a r.1 r.2 f.2
abbrev XM:=I dB×Z
def XM.cells (e:XM):I aR:=[.map<|aa e.2]
def XM.dR (e:XM):(XM.cells e).length=1:=rfl
def adq (a:View) (b o:Z) (e:XM):Prop:=cB a b o<|XM.cells e
def Bv (J:View) (e:XM):Prop:=J e.2=aa (dT st (k3 e.1 0) e.1.length)
def Bv.mv {e:XM} (hv:cX bN cR) (h:Bv bN e):Bv cR e:=hv _ _ h
def xM (u:I ar) (f:I ar×I dB):aS:=(pc f.1 f.2==0)&&(f.1==u)
def LF:∀{us:I<|I ar} {fs:I<|I ar×I dB},qI us fs=ad↔∀(k:Z) u f,us[k]? = aa u->fs[k]? = aa f->xM u f=ad
 | [],fs=>by simp [qI]| u::us,[]=>by simp [qI]
 | u::us,f::fs=>by
  have e:=LF (us:=us) (fs:=fs);simp only [qI,eI];constructor;·rintro ⟨g,i⟩ k c d a b;cases k with| zero=>simp at a b;subst a;subst b;simp only [xM,eI];exact g| succ k=>exact e.1 i k c d (by simpa using a) (by simpa using b)
  ·intro h;refine ⟨by have:=h 0 u f O O;simp only [xM,eI] at this;exact this,e.2 λk c d a b=>h (k+1) c d (by simpa using a) (by simpa using b)⟩
def adr (h:pc bc hn=0):(hn.map (·.name)).Nodup/\hn.length<=16:=by
 unfold pc at h;split at h;·cases h
 ·split at h;·rename_i b a;simp only [eI,BZ,kG] at a;exact ⟨kK.2 a.2.1,ai⟩
  ·cases h
variable {nL:I<|I ar×I dB}
def ads (h:¬(eW bD).2=0):jL bD nL=(mb,(eW bD).2):=by rw [jL,aD h]
def adt (h:(eW bD).2=0) (a:¬nL.length=bD.aN.length):jL bD nL=(mb,8):=by rw [jL,aj (by simp [h]),aD a]
def adu (h:(eW bD).2=0) (a:nL.length=bD.aN.length) (b:qI bD.aN nL=aq):jL bD nL=(mb,1):=by rw [jL,aj (by simp [h]),aj (by simp [a]),aD b]
def LG (h:(eW bD).2=0) (a:nL.length=bD.aN.length) (b:qI bD.aN nL=ad) (c:oC bD nL≠0):jL bD nL=(mb,oC bD nL):=by rw [jL,aj (by simp [h]),aj (by simp [a]),aj (by simp [b]),aD c]
def adv (h:(eW bD).2=0) (a:nL.length=bD.aN.length) (b:qI bD.aN nL=ad) (c:oC bD nL=0):jL bD nL=(fi bD nL,0):=by rw [jL,aj (by simp [h]),aj (by simp [a]),aj (by simp [b]),aj (by simp [c])]
def adw (h:(eW bD).2=0):jh bD=0/\g6 ((gJ bD).map (·.name))=aq/\g6 bD.aN=aq:=by
 by_cases a:jh bD=0
 ·by_cases b:(g6 ((gJ bD).map (·.name))||g6 bD.aN)=ad;·rw [S6 a b] at h;cases h
  ·rw [B0,kG] at b;exact ⟨a,b⟩
 ·rw [S5 a] at h;exact absurd h a
variable {bg:I<|I ar}
def Tm (a:bg[bE]? = aa bc) (c:bc ∉ bg.take bE):dT st (gB bc (am an ((bE+1:Z):ac)) (jy (bg.take bE) 0) bE) (kc bc (jy (bg.take bE) 0) bE)=dT st (jy (bg.take<|bE+1) 0) (bE+1):=by
 have d:=(cN.1 a).1;have b:(bg.take bE).length=bE:=by simp;omega
 have h:=OF c;rw [b] at h;rw [h.1,h.2,l3 a];simp [b]
def adx (h:bg.Nodup)   (b:bg[bE]? = aa bc):bc ∉ bg.take bE:=by
 intro c;obtain ⟨j,a⟩:=jd c;have d:j<bE:=by have:=(cN.1 a).1;simp at this;omega
 rw [jF,aD d] at a;have e:=(cN.1 a).1;have:=(ib e h).1<|a.trans b.symm;omega
def ady (h:(pB bc bg==0)=ad):bc ∉ bg:=by
 have:¬0<pB bc bg:=by simp at h;omega
 exact sd.1<|FF this
def adz (b:bg[bE]? = aa bc) (h:(pB bc (bg.take bE)==0)=aq):g6 bg=ad:=by
 have a:¬pB bc (bg.take bE)=0:=by simpa using h
 have e:0<pB bc (bg.take bE):=by unfold pB at a ⊢;cases hi:idxOf bc (bg.take bE) 0 with| none=>rw [hi] at a;exact absurd rfl a| some j=>simp only;omega
 obtain ⟨j,f,_,g⟩:=FE e;have c:=(se f).2;have d:j<bE:=by simp at g;omega
 rw [qp,jF,aD d] at c;exact I6.2 ⟨bE,j,(cN.1 b).1,d,by rw [b,c]⟩
def adA (d:bg[bE]? = aa bc) (f:bc ∉ bg.take bE) (h:(bg.take bE).Nodup):(bg.take<|bE+1).Nodup:=by rw [l3 d,l9];exact ⟨h,aK,λa g b c=>by rw [e_] at c;subst c;intro e;subst e;exact f g⟩
def Tn (h:g6 (i7.params++i7.aX)=ad):fZ bD nL i7=6:=by rw [fZ,aD h];rfl
def LH (h:g6 (i7.params++i7.aX)=aq):fZ bD nL i7=g7 (dd bD nL<|i7.params++i7.aX) i7.body:=by rw [fZ,aj (by simp [h])];rfl
structure GP where
 i:Z
 es:I XP
 a:aA a6
 c:Z
 J:View
 lb:aR
def Bx (m:cV) (c:SP) (n:Z) (p:SP):I aR:=[st m.nm,aE c.1 m.aN.length c.2,am an<|oz m,aE p.1 n p.2,aE ao 0 0]
def mY:i2 aC 37=aa 5:=ah
def LI:g_ aC 28=aa 2:=ah
def adB:hW aC 127=aa [(0,1),(1,1),(2,1),(3,1)]:=ah
def adC:zeroOf aC 127=aa (b0 #[.map ao,.map ao,aE ao 0 0,.map ao]):=ah
def Tp:ii aC 125 122 (.map ao) 1 8:=j_ ah
def adD:e2 aC 125=aa 1:=ah
def Tq:e2 aC 124=aa 1:=ah
def adE:ii aC 244 22 (aE ao 0 0) 1 24:=j_ ah
def zy:aT aC 37 3=aa 3:=ah
def Tr:hW aC 107=aa [(0,1),(1,1),(2,1)]:=ah
def By:zeroOf aC 107=aa (b0 #[am an 0,am an 0,aE ao 0 0]):=ah
def Ts:ii aC 34 107 (b0 #[am an 0,am an 0,aE ao 0 0]) 3 40:=j_ ah
def adF:e2 aC 34=aa 1:=ah
def G7:aT aC 37 4=aa 4:=ah
def adG (l v:View) (ke ks:Z) (r:ox) (m:cV) (fa:aA a6) (fc:Z) (fs:I<|I ar×I dB) (w:aP) (bN:Le l w) (bO:Le v w) (y:oy ke ks l r m) (aF:Sl G6 2 v fa fc fs) (bP:wM m<=109951162777) :
   cx aC 13 #[b0 (b7 m r).toArray,aE fa fs.length fc] w λe B=>∃r:p0,e = cf (cO #[b0 (ij (jL m fs).1 r).toArray,am an (jL m fs).2])/\Ext w B/\dY (ke+1) (ks+1) (nv w B) r (jL m fs).1:=by
 have c_:=aF.cap;have da:=aF.max;refine E' func13 O 159 O O<|CE (Vs:=[v,l]) (Ws.init (by simp [bO,bN]))<|ak ?_;refine WL.box Y O O λaG=>Al Y O sU λn=>eb 0 (aY (ij mb oA).toArray 37 (0,0)) O O<|Al Y O C3 λt=>eb 0 (aY #[am an 0] 30 (0,0)) O O<|ag<|Cs<|ak<|V0 (dW 2 O O nn O) ?_;refine Ld Y O bp O (λr:SP=>cO #[b0 #[st (eW m).1.1,aE r.1 (eW m).1.2.length r.2],am an (eW m).2]) (λl r=>Sl nV 4 l r.1 r.2 (eW m).1.2) (λw d=>S7 l ke ks r m w (d.vs _ (by simp)) y bP) λdb dc de df=>ab O<|V0 (Yx O O)<|V0 (Yx O O) ?_;refine Al Y O ww λdg=>aw 0 Y O O O zu O O O<|au O<|ag<|ak<|ab O<|V0 (ha O O)<|ag ?_;refine Cc O (λaH=>?_)<|λaH=>?_
 ·have C:¬(eW m).2=0:=by simpa using aH
  refine ak<|V0 (Yb sU G4 O O)<|ab O<|aw 2 Y O O O sV O O O<|aw 1 Y O O O n8 O O O<|ag<|bu<|Er ?_;refine WE.vB (hX O (fj 2 O O mY O)<|jJ 1 O O O ah) λB d=>?_;rw [ads C];exact ⟨oA,O,d.fr,Aw _⟩
 have C:(eW m).2=0:=by simpa using aH
 obtain ⟨bQ,aI,Q⟩:=adw C;have S:=FB bQ;have aI:=kK.2 aI;have Q:=kK.2 Q;have fH:=S.fH;have dh:=y.aN.max;have dj:=y.aN.cap;have dk:=y.procs.max;have dl:=y.procs.cap;have dm:wM m=1+m.nm.length+wN m.aN+wD m.decls+wP m.procs+bC m.main:=rfl;refine ay<|Cs<|ak<|ab O<|V0 (Yn LI O)<|V0 (Yf h2 O)<|V0 (Yd 3 O O O ah)<|V0 (Yn gf O)<|V0 (ha O O)<|ag ?_;refine Cc O (λaK=>?_)<|λaK=>?_
 ·have bR:¬fs.length=m.aN.length:=by simp at aK;omega
  refine ak<|V0 (Yb sU G4 O O)<|aw 2 Y O O O sV O O O<|aw 1 Y O O O n8 O O O<|ag<|bu<|Er ?_;refine WE.vB (hX O (fj 2 O O mY O)<|jJ 1 O O O ah) λB d=>?_;rw [adt C bR];exact ⟨oA,O,d.fr,Aw _⟩
 have D:fs.length=m.aN.length:=by simp at aK;omega
 refine ay<|ak<|V0 (wW O) ?_;refine WL.defer Y O<|ag<|ak<|V0 (dW 3 O O nn O) ?_;refine Ld Y O bp O (λr:SP=>cO #[aE r.1 (gJ m).length r.2,am an (oz m)]) (λl r=>Sl nV 4 l r.1 r.2<|gJ m) (λw d=>S4 l ke ks r m w (d.vs _ (by simp)) y S) λbT bn dn bU=>ab O<|V0 (Yx O O)<|V0 (Yx O O)<|au O<|au O<|ag<|ak<|ab O ?_;refine Ld Y O bp O (λb:Z=>.map<|aa b) (λl b=>l b=aa (dT st (k3 (gJ m) 0) (gJ m).length)) (λw d=>S8 bT bn.1 bn.2 (gJ m) w (d.vs _ (by simp)) bU aI) λN T dp bo=>WL.pT st Y O λK=>eb 0 (dT st (jy (m.aN.take 0) 0) 0) O O<|V0 (Yb adC adB O O) ?_;refine WL.box Y O O λE=>LW (λ_ h=>h.hM 122 1)<|WL.v0<|au O<|ag<|Cs<|ak<|ab O<|V0 (Yn LI O)<|ab O<|ag<|Cb ?_;refine f_ (ι:=GX XM) (λg=>[(46,am an (g.i:ac))]) [(2,_),(4,_),(5,_),(9,_),(10,_),(44,_),(45,_)] (λg=>Ws w [] [aQ E<|aY #[.map (aa T),.map (aa K),aE g.a g.es.length g.c,.map ao] 127 (0,0),aQ K<|dT st (jy (m.aN.take g.i) 0) g.i,cQ 122 1 XM.cells g.a g.c g.es,aQ t<|aY #[am an 0] 30 (0,0),aQ n<|aY (ij mb oA).toArray 37 (0,0),aQ aG<|aY (b7 m r).toArray 27 (0,0)] [g.J,N,v,l]) (λg=>g.i<=fs.length/\g.es.map (·.1)=(fs.take g.i).map (·.2)/\(∀(k:Z) u f,k<g.i->m.aN[k]? = aa u->fs[k]? = aa f->xM u f=ad)/\(hf w g.J/\Xs Bv g.J g.es)) (λg=>fs.length-g.i) ⟨0,[],ao,0,v0⟩ ⟨dw _,O,λk u f U=>absurd U<|EJ k,⟨fK w,Xs.nil _⟩⟩ (λ_ h=>by have h:=h.bs 6 O;have h:=h.bs 6 O;have h:=h.bs 6 O;have h:=h.bs 3 O;have h:=h.bs 5 O;have h:=h.bs 5 O;have h:=Wt 6 h;have h:=Ws.aZ h (cI:=[v0,N,v,l]) (by simp);exact h) λg ⟨hi,aL,bq,⟨bV,aM⟩⟩=>ak<|V0 (c8 O O)<|ag<|Cs ?_;refine Cc O (λaO=>?_)<|λaO=>?_
 ·have V:g.i<fs.length:=by simpa using aO
  obtain ⟨f,ai⟩:∃f,fs[g.i]? = aa f:=⟨_,cy V⟩;obtain ⟨dq,dr,bX,aj,bZ,br⟩:=aF.ct g.i f ai;obtain ⟨u,W⟩:∃u,m.aN[g.i]? = aa u:=⟨_,cy (by omega)⟩;obtain ⟨b1,b2,b3,aT⟩:=y.aN.ct g.i u W;have aT:cB l b1 (b2+g.i*1)<|g4 u:=aT;have ds:=DO aL hi;refine ay<|Cs<|Cb<|ak<|ab O<|V0 (Yo LI O O bX (by omega))<|V0 (eB 2 zv O O O<|bZ) ?_;refine Al Y O ww λdt=>au O<|aw 0 Y O O O zu O O O<|ag<|Cs ?_;refine WC.Fa (ow [.cell 4 37,.cell 5 30]) [] [(0,ad),(1,aq),(2,ad),(3,ad),(4,ad),(5,ad),(6,ad),(7,ad),(8,ad),(9,ad),(10,ad),(11,ad),(12,ad),(13,aq)] mixed (by kernel_rfl) (by kernel_rfl) (λ_ _ _ _ _ G h=>rf (fn:=f13) [.cell 4 37,.cell 5 30] O G h)<|D0 O (λ_ h=>h) (dW 0 O O zv O)<|De O (λ_ h=>h)<|Lp Y O bp O (λw d=>acI v aj.1 aj.2 f.1 f.2 w (d.vs _ (by simp)) br)<|Ln<|Ed<|D0 O (λ_ h=>h) (bY O O)<|D0 O (λ_ h=>h) (Ym O) ?_;apply WD.and 8 O O O O O Y O (λ_ h=>h) O O O O;·intro du;refine Dq O (.g O O O) O (λ_ h=>h) (Yf Lm O)<|Dq O (.g O O O) O (λ_ h=>h) (Yd 0 O O O ah)<|Dq O (.g O O O) O (λ_ h=>h) (Yf h2 O)<|Dq O (.g O O O) O (λ_ h=>h) (Yd 6 O O O ah)<|Dq O (.g O O O) O (λ_ h=>h) (Ym O)<|Dq O (.g O O O) O (λ_ h=>h) (Yo gf O O b3 (by omega))<|Dq O (.g O O O) O (λ_ h=>h) (ew 3 ah O O<|aT 0 _ O)<|Dq O (.g O O O) O (λ_ h=>h) (B4 O O) ?_;exact Gi 8 (λ_ h=>h) O O O
  refine De O (λ_ h=>h)<|WL.dP (ι:=ef) (κ:=ef) Y O bp O (λ_=>cO #[]) (λ_=>xM u f=ad) (λ_=>i_ 1) (λ_=>xM u f=aq) (λw d=>wz _ _ w) ?_ ?_
  ·intro _ H;refine Ep<|Ep<|WE.cp<|Ep<|Ep<|WE.cp<|Ep ?_;refine WE.front 4 O<|WE.front 5 O<|WE.td bp (qx [_,_] _ [aQ n<|aY (ij mb oA).toArray 37 (0,0),aQ t<|aY #[am an 1] 30 (0,0)] O<|λw d=>G5 n t (ij mb oA) O 0 1 w d) (hX O (fj 0 O O mY O)<|jJ 1 O O O ah) λB d=>?_;have b4:qI m.aN fs=aq:=by rw [vr];intro h;have:=LF.1 h g.i u f W ai;rw [H] at this;cases this
   rw [adu C D b4];exact ⟨oA,O,d.fr,Aw _⟩
  intro _ b5;refine Ln<|Ed ?_;refine WD.nil (λ_ h=>h)<|Et<|Cs ?_;have bt:xM u f=ad:=b5;have bv:=bt;simp only [xM,eI,j8] at bv;obtain ⟨b6,aU⟩:=bv;obtain ⟨b9,dv⟩:=adr b6;have al:f.1 ∉ m.aN.take g.i:=by rw [aU];exact adx Q W
  refine WC.Fa (ow [.cell 4 37,.cell 5 30]) [2] [(0,ad),(1,ad),(2,ad),(3,ad),(4,ad),(5,ad),(6,ad),(7,ad),(8,aq)] mixed (by kernel_rfl) (by kernel_rfl) (λ_ _ _ _ _ G h=>rf (fn:=f13) [.cell 4 37,.cell 5 30] O G h)<|D0 O (Wp 2) (Ym O)<|D0 O (Wp 2) (bS O)<|D0 O (Wp 2) (Yf Te O)<|D0 O (Wp 2) (Yd 1 O O O ah)<|D0 O (Wp 2) (Yf Lm O)<|D0 O (Wp 2) (Yd 0 O O O ah)<|D0 O (Wp 2) (Ym O)<|D0 O (Wp 2) (Yi O O O (by omega)) ?_;refine De O (Wp 2)<|WL.rk 2 jx Y js ah O O O O<|eb 2 (dT st (jy (m.aN.take<|g.i+1) 0)<|g.i+1) O (by rw [aU];exact Tm W<|aU▸al)<|Ln<|Ed ?_;refine WD.nil (Wp 2)<|Et<|CU (ow [.cell 4 37,.cell 5 30]) [3] [10,11,12] (.q aq 0<|.q aq 1<|.q aq 2<|.q aq 3<|.q ad 4<|.q aq 5<|.q ad 6<|.e 7 (.e 8 (.e 9 .nil .stop) .stop) .stop) mixed (by kernel_rfl) (λ_ _ _ _ _ G h=>rf (fn:=f13) [.cell 4 37,.cell 5 30] O G h)<|U0 O (Wp 3) (Ym O)<|U0 O (Wp 3) (Ym O)<|U0 O (Wp 3) (bS O)<|U0 O (Wp 3) (Yf Lz O)<|U0 O (Wp 3) (Yd 1 O O O ah)<|U0 O (Wp 3) (Yf DJ O)<|U0 O (Wp 3) (Yd 0 O O O ah) ?_;refine Ue O (Wp 3) ?_ WU.stop;refine Ld Y O bp O (λb:Z=>.map<|aa b) (λl b=>l b=aa (dT st (k3 f.2 0) f.2.length)) (λw d=>S8 v aj.1 aj.2 f.2 w (d.vs _ (by simp)) br b9) λdx aV b' b_=>Ln<|Eu ?_;refine Ue O (λ_ h=>(Wv 1<|Wo 3 h:)) ?_ WU.stop;refine Lb Y O Tp O O O O λdy=>eb 0 (aY (XM.cells (f.2,aV)).toArray 122 (0,0)) O O<|Ln<|Eu ?_;refine Ue O (λ_ h=>(Wv 1<|Wo 3<|Wd 1 h:)) ?_ WU.stop;refine LA ((f.2,aV):XM) 4 0 Y O Tp O O O O O O (by omega) (by omega) λca cc=>Ln<|Eu ?_;refine WU.nil (λ_ h=>(Wv 1<|Wo 3<|Wd 1 h:))<|WS.e O<|V0 (bS O)<|Ln<|Es ?_;refine WS.e O<|V0 (Yf Lz O)<|Ln<|Es ?_;refine WS.e O<|aw 2 Y O O O adD O O O<|Ln<|Es ?_;refine WS.nil<|Eb<|Et ?_;refine WC.cb λcd ce ch ci=>Cr<|V0 (Yi O O O (by omega))<|ab O<|Ln ?_;exact ep (⟨g.i+1,g.es++[(f.2,aV)],ca,cc,cd⟩:GX XM) (by show _-(g.i+1)<_;omega) ⟨by show g.i+1<=_;omega,DN aL ai O,λk cj ck U X ae=>by
   rcases oq.1 U with h | rfl;·exact bq k cj ck h X ae
   ·rw [W] at X;rw [ai] at ae;injection X with X;injection ae with ae;subst X;subst ae;exact bt,⟨ci _ b' bV,Xs.snoc (R:=Bv) (λhv h=>Bv.mv hv h) aM ch ce b_⟩⟩<|λ_ h=>Wd 2 h
 have a0:g.i=fs.length:=by simp at aO;omega
 have ap:qI m.aN fs=ad:=LF.2 λk u f cl bw=>bq k u f (by have:=(cN.1 bw).1;omega) cl bw;have av:=DP aL a0;have cm:m.aN.take g.i=m.aN:=by rw [a0,D,gH]
 have co:g.i=m.aN.length:=by rw [a0,D]
 rw [cm,co];refine Ce<|Ex<|Ex<|ee<|Et<|Cs ?_;refine WC.dM (rd:=adq) 2 O XM.dR (λ_ _ _ _ h=>h) λaf bx=>WC.Fa (ow [.cell 4 37,.cell 5 30]) [3] [(0,ad),(1,ad),(2,ad),(3,ad),(5,ad),(4,aq),(6,ad),(7,aq)] mixed (by kernel_rfl) (by kernel_rfl) (λ_ _ _ _ _ G h=>rf (fn:=f13) [.cell 4 37,.cell 5 30] O G h)<|D0 O (Wp 3) (Yf zj O)<|D0 O (Wp 3) (Yd 3 O O O ah)<|D0 O (Wp 3) (Yf h2 O)<|D0 O (Wp 3) (Yd 3 O O O ah)<|D0 O (Wp 3) (Ym O) ?_;refine De O (Wp 3)<|Ld Y O bp O (λr:SP=>aE r.1 m.aN.length r.2) (λF r=>Sl rdStr 1 F r.1 r.2 m.aN) (λw d=>S' l r.a1 r.c1 m.aN w (d.vs _ (by simp)) y.aN (by omega)) λa2 A cq cr=>Ln<|Ed<|D0 O (λ_ h=>(Wv 1<|Wo 3 h:)) (Yb sU G4 O O) ?_;refine De O (λ_ h=>(Wv 1<|Wo 3 h:))<|aw 3 Y O O O sV O O O<|Ln<|Ed ?_;refine WD.nil (λ_ h=>(Wv 1<|Wo 3 h:))<|Et<|Cs<|Cs<|hk 3 (aY (Bx m A ([]:I XP).length (ao,0)).toArray 37 (0,0)) O O ?_;refine pI (λ_ h=>h.hM 107 3)<|pI (λ_ h=>h.v0)<|Cr<|V0 (Yf zl O)<|V0 (Yd 5 O O O ah)<|V0 (Yn wh O)<|ab O<|ag<|Cb ?_;refine f_ (ι:=GP) (λz=>[(96,am an (z.i:ac))]) [(2,_),(4,_),(5,_),(10,_),(94,_),(95,_)] (λz=>Ws w [] [aQ E<|aY #[.map (aa T),.map (aa K),aE g.a g.es.length g.c,z.lb] 127 (0,0),aQ K<|dT st (jy m.aN 0) m.aN.length,cQ 107 3 XP.cells z.a z.c z.es,aQ t<|aY #[am an 0] 30 (0,0),aQ n<|aY (Bx m A z.es.length (z.a,z.c)).toArray 37 (0,0),aQ aG<|aY (b7 m r).toArray 27 (0,0)] [z.J,a2,af,g.J,N,v,l]) (λz=>z.i<=m.procs.length/\z.es.map (·.1)=(m.procs.take z.i).map (rr m fs)/\jk (fZ m fs) (m.procs.take z.i)=0/\(hf w z.J/\Xs (w6 (ke+1)<|ks+1) z.J z.es)) (λz=>m.procs.length-z.i) ⟨0,[],ao,0,v0,.map ao⟩ ⟨dw _,O,O,⟨fK w,Xs.nil _⟩⟩ (λ_ h=>by have h:=h.bs 5 O;have h:=h.bs 5 O;have h:=h.bs 5 O;have h:=h.bs 3 O;have h:=h.bs 5 O;have h:=h.bs 5 O;have h:=Ws.aZ h (cI:=[v0,a2,af,g.J,N,v,l]) (by simp);exact h) λz ⟨cs,a3,ax,⟨bz,bA⟩⟩=>ak<|V0 (c8 O O)<|ag<|Cs ?_;refine Cc O (λa5=>?_)<|λa5=>?_
 ·have V:z.i<m.procs.length:=by simpa using a5
  obtain ⟨p,P⟩:∃q,m.procs[z.i]? = aa q:=⟨_,cy V⟩;obtain ⟨dz,dA,cu,cv⟩:=y.procs.ct z.i p P;obtain ⟨a7,a8,a9,a',bD,bE,cz,a_,ba,cA⟩:=cv;have op:=y_<|S.procs p<|aW P;have dC:=op.fH;have dD:=So P;have dE:=a_.max;have dF:=a_.cap;have dG:=ba.max;have dH:=ba.cap;have dI:=DO a3 cs;refine ay<|Cs<|Cb<|ak<|V0 (Yo wh O O cu (by omega))<|V0 (eB 6 Bm O O O<|cz) ?_;refine Al Y O zn λcC=>aw 0 Y O O O Bn O O O<|ag<|ak<|ab O ?_;refine WL.pT st Y O λaz=>eb 0 (dT st (jy ((p.params++p.aX).take 0) 0) 0) O O<|V0 (bS O)<|V0 (Yf DL O)<|aw 2 Y O O O Tq O O O<|ag<|Cs<|ak<|V0 (Yf u6 O)<|V0 (Yd 1 O O O ah)<|V0 (Yf Bo O) ?_;refine V0 (Yd 1 O O O ah)<|Lb Y O adE O O O O λbb=>Ld Y O bp O (λr:SP=>aE r.1 (p.params++p.aX).length r.2) (λF r=>Sl rdStr 1 F r.1 r.2<|p.params++p.aX) (λw d=>by have cD:Sl yV 1 (hv w) (aa ⟨bb,0,ao⟩) 2 [((a7,a8),p.params),((a9,a'),p.aX)]:=⟨by simp,by decide,by simp,λj x L=>⟨bb,0,rfl,by match j,L with| 0,L=>simp only [mB,gI] at L;subst L;exact ⟨d.jH 0 rfl rfl,a_.imp λb o x bc=>Aj (o5<|d.vs l (by simp)) b o x bc⟩| 1,L=>simp only [lh,mB,gI] at L;subst L;exact ⟨d.jH 0 rfl rfl,ba.imp λb o x bc=>Aj (o5<|d.vs l (by simp)) b o x bc⟩⟩⟩;have bF:=ado (hv w) (aa ⟨bb,0,ao⟩) 2 _ w (kZ w) cD (by simp [iK];omega) (by simp);rw [show [((a7,a8),p.params),((a9,a'),p.aX)].flatMap (·.2)=p.params++p.aX by simp] at bF;exact bF) λbG dK cE bd=>V0 (Yn gf O)<|ab O<|ag<|Cb ?_;refine f_ (ι:=Z) (λj=>[(111,am an (j:ac))]) [(2,_),(4,_),(5,_),(10,_),(14,_),(94,_),(95,_),(96,_),(109,_),(110,_)] (λj=>Ws w [] [aQ E<|aY #[.map (aa T),.map (aa K),aE g.a g.es.length g.c,.map (aa az)] 127 (0,0),aQ az<|dT st (jy ((p.params++p.aX).take j) 0) j,aQ cC<|aY (IW p a7 a8 a9 a' bD bE).toArray 113 (0,0),aQ K<|dT st (jy m.aN 0) m.aN.length,cQ 107 3 XP.cells z.a z.c z.es,aQ t<|aY #[am an 0] 30 (0,0),aQ n<|aY (Bx m A z.es.length (z.a,z.c)).toArray 37 (0,0),aQ aG<|aY (b7 m r).toArray 27 (0,0)] [bG,z.J,a2,af,g.J,N,v,l]) (λj=>j<=(p.params++p.aX).length/\((p.params++p.aX).take j).Nodup) (λj=>(p.params++p.aX).length-j) 0 ⟨dw _,I.nodup_nil⟩ (λ_ h=>by exact (Wt 8<|(((((((h.f 8 O).f 8 O).f 8 O).f 8 O).f 8 O).f 7 O).f 7 O).f 8 O:)) λj ⟨L,bf⟩=>ak<|V0 (c8 O O)<|ag<|Cs ?_;refine Cc O (λbg=>?_)<|λbg=>?_
  ·have V:j<(p.params++p.aX).length:=by simp only [cw] at bg;omega
   obtain ⟨s,aB⟩:∃q,(p.params++p.aX)[j]? = aa q:=⟨_,cy V⟩;obtain ⟨cF,pos,cG,bh⟩:=bd.ct j s aB;have bh:cB bG cF (pos+j*1)<|g4 s:=bh;have dL:=bd.cap;have dN:=bd.max;refine ay<|Cs<|Cb<|ak<|ab O<|V0 (Yo gf O O cG (by omega))<|V0 (ew 0 ah O O<|bh 0 _ O)<|au O<|au O<|ag<|ak<|ab O ?_;refine V0 (bS O)<|V0 (Yf DL O)<|V0 (Yd 0 O O O ah)<|ab O<|V0 (rj 1 jx js ah lY O O O) ?_;rw [Lu];refine V0 (bY O O)<|WL.dP (ι:=ef) (κ:=ef) Y O bp O (λ_=>cO #[]) (λ_=>(pB s ((p.params++p.aX).take j)==0)=ad) (λ_=>i_ 6) (λ_=>(pB s ((p.params++p.aX).take j)==0)=aq) (λw d=>wz _ _ w) ?_ ?_
   ·intro _ H;refine Ep<|WE.cp<|Ep<|Ep<|WE.cp<|Ep<|WE.cp<|Ep ?_;refine Ep<|WE.cp<|Ep ?_;refine WE.front 5 O<|WE.front 6 O<|WE.td bp (qx [_,_] _ [aQ n<|aY (ij mb oA).toArray 37 (0,0),aQ t<|aY #[am an 6] 30 (0,0)] O<|λw d=>G5 n t (Bx m A z.es.length (z.a,z.c)) O 0 6 w d) (hX O (fj 0 O O mY O)<|jJ 1 O O O ah) λB d=>?_;have bI:=adz aB H;have M:oC m fs=6:=by rw [oC,Ay (fZ m fs) P ax (by rw [Tn bI];decide),Tn bI];rfl
    rw [LG C D ap (by rw [M];decide),M];exact ⟨oA,O,d.fr,Aw _⟩
   intro _ cH;have al:=ady cH;refine ag<|Cr<|ab O<|V0 (bS O)<|V0 (Yf DL O)<|V0 (Yd 0 O O O ah)<|ab O<|ab O<|V0 (Yi O O O (by omega)) ?_;refine WL.rk 1 jx Y js ah O O O O<|eb 1 (dT st (jy ((p.params++p.aX).take<|j+1) 0)<|j+1) O (Tm aB al)<|Ln<|Eb<|Et<|Cr<|V0 (Yi O O O (by omega))<|ab O<|Ln ?_;exact ep (j+1) (by omega) ⟨by omega,adA aB al bf⟩<|λ_ h=>h
  have bJ:j=(p.params++p.aX).length:=by simp only [mC] at bg;omega
  have bi:g6 (p.params++p.aX)=aq:=kK.1 (by rw [bJ,gH] at bf;exact bf);rw [bJ,gH];refine Ce<|Ex<|Ex<|ee<|Et ?_;refine CU (ow [.cell 4 37,.cell 5 30]) [4] [15,16] (.q aq 0<|.q ad 1<|.q aq 2<|.q ad 3<|.q aq 4<|.q aq 5<|.q ad 6<|.q aq 7<|.q aq 8<|.q aq 9<|.q ad 10<|.e 11 (.q aq 12<|.e 13 (.e 14 .nil .stop) .stop) .stop) mixed (by kernel_rfl) (λ_ _ _ _ _ G h=>rf (fn:=f13) [.cell 4 37,.cell 5 30] O G h)<|U0 O (Wp 4) (Yf zy O)<|U0 O (Wp 4) (Yd 5 O O O ah)<|U0 O (Wp 4) (Yf u6 O)<|U0 O (Wp 4) (Yd 2 O O O ah)<|U0 O (Wp 4) (Yn gf O)<|U0 O (Wp 4) (Yf Bo O)<|U0 O (Wp 4) (Yd 2 O O O ah)<|U0 O (Wp 4) (Yn gf O) ?_;refine U0 O (Wp 4) (Ym O)<|U0 O (Wp 4) (Yf K7 O)<|U0 O (Wp 4) (Yd 2 O O O ah) ?_;refine Ue O (Wp 4) ?_ WU.stop;refine WL.ln (ι:=SP) (κ:=ef) Y O bp O (λr=>aE r.1 (gu (dd m fs<|p.params++p.aX) p.body).length r.2) (λF r=>g7 (dd m fs<|p.params++p.aX) p.body=0/\Sl (jK (ke+1)<|ks+1) 7 F r.1 r.2 (gu (dd m fs<|p.params++p.aX) p.body)) (λ_=>i_<|g7 (dd m fs<|p.params++p.aX) p.body) (λ_=>g7 (dd m fs<|p.params++p.aX) p.body≠0) (λw d=>by have bj:wx (hv w) E<|dd m fs<|p.params++p.aX:=⟨⟨T,K,g.a,g.c,az,⟨d.jH 0 rfl rfl,d.jH 0 rfl rfl,by show vc (hv w) E 2=aa (aE g.a (fs.map (·.2)).length g.c);rw [<-av,fB];exact mL (d.qF 0 rfl) rfl,d.jH 0 rfl rfl⟩,d.vs N (by simp) _ _ bo,d.qF 3 rfl,by show Sl Lt 1 (hv w) g.a g.c (fs.map (·.2));rw [<-av];exact yJ bx aM λb o e bk bl=>⟨e.2,(o5<|d.vs af (by simp)).cell<|bk 0 _ rfl,d.vs g.J (by simp) _ _ bl⟩,d.qF 1 rfl⟩,Q,by show m.aN.length=(fs.map (·.2)).length;rw [fB,D],⟨S.fH.1,by show (p.params++p.aX).length<=7;rw [iy];omega⟩⟩;exact Ti (hv w) l E (dd m fs<|p.params++p.aX) ke bj ks p.body bD bE w (kZ w) (d.vs l (by simp)) cA (by omega)) ?_ ?_
  ·intro _ H;refine Ep<|WE.cp<|Ep<|Ep<|WE.cp<|Ep ?_;refine WE.front 5 O<|WE.front 6 O<|WE.td bp (qx [_,_] _ [aQ n<|aY (ij mb oA).toArray 37 (0,0),aQ t<|aY #[am an (g7 (dd m fs<|p.params++p.aX) p.body)] 30 (0,0)] O<|λw d=>G5 n t (Bx m A z.es.length (z.a,z.c)) O 0 (g7 (dd m fs<|p.params++p.aX) p.body) w d) (hX O (fj 0 O O mY O)<|jJ 1 O O O ah) λB d=>?_;have M:oC m fs=g7 (dd m fs<|p.params++p.aX) p.body:=by rw [oC,Ay (fZ m fs) P ax (by rw [LH bi];exact H),LH bi,uu H]
   rw [LG C D ap (by rw [M];exact H),M];exact ⟨oA,O,d.fr,Aw _⟩
  intro dO bm cJ ⟨cK,cL⟩;refine Ln<|Eu<|U0 O (λ_ h=>(Wv 1<|Wo 4 h:)) (Yb By Tr O O) ?_;refine Ue O (λ_ h=>(Wv 1<|Wo 4 h:)) ?_ WU.stop;refine Lb Y O Ts O O O O λdQ=>eb 0 (aY (XP.cells (rr m fs p,bm)).toArray 107 (0,0)) O O<|Ln<|Eu ?_;refine Ue O (λ_ h=>(Wv 1<|Wo 4<|Wd 1 h:)) ?_ WU.stop;refine LA ((rr m fs p,bm):XP) 5 0 Y O Ts O O O O O O (by omega) (by omega) λcM cP=>Ln<|Eu ?_;refine WU.nil (λ_ h=>(Wv 1<|Wo 4<|Wd 1 h:))<|WS.e O<|V0 (Yf zy O)<|Ln<|Es ?_;refine WS.e O<|aw 7 Y O O O adF O O O<|Ln<|Es ?_;refine WS.nil<|Eb<|Et ?_;refine WC.cb λdS cR dU cS=>WC.cb λcT cU cW cZ=>Cr<|V0 (Yi O O O (by omega))<|ab O<|Ln ?_;exact ep (⟨z.i+1,z.es++[(rr m fs p,bm)],cM,cP,cT,.map<|aa az⟩:GP) (by show _-(z.i+1)<_;omega) ⟨by show z.i+1<=_;omega,DN a3 P O,by show jk (fZ m fs) (m.procs.take<|z.i+1)=0;rw [Je _ P,ax,oB,LH bi,cK],⟨cZ _ (cS _ cJ cE) bz,Xs.snoc (R:=w6 _ _) (λhv h=>w6.mv hv h) bA cW (cX.trans cR cU) cL⟩⟩ (λ_ h=>by exact (Wt 6<|(((((h.f 8 O).f 8 O).f 8 O).f 8 O).f 8 O).f 6 O:))
 have bK:z.i=m.procs.length:=by simp at a5;omega
 have c0:=DP a3 bK;have bL:jk (fZ m fs) m.procs=0:=by rw [<-ax,bK,gH]
 have bM:fi m fs=⟨m.nm,m.aN,oz m,z.es.map (·.1),gu (dd m fs []) m.main⟩:=by rw [c0];rfl
 refine Ce<|Ex<|Ex<|ee<|Et<|ak<|ab O ?_;refine WL.pT st Y O λc2=>V0 (bS O)<|V0 (Yf DL O)<|aw 1 Y O O O Tq O O O<|ag<|ak<|ab O<|V0 (Yf K8 O)<|V0 (Yd 6 O O O ah) ?_;refine WL.ln (ι:=SP) (κ:=ef) Y O bp O (λr=>aE r.1 (gu (dd m fs []) m.main).length r.2) (λF r=>g7 (dd m fs []) m.main=0/\Sl (jK (ke+1)<|ks+1) 7 F r.1 r.2 (gu (dd m fs []) m.main)) (λ_=>i_<|g7 (dd m fs []) m.main) (λ_=>g7 (dd m fs []) m.main≠0) (λw d=>by have bj:wx (hv w) E<|dd m fs []:=⟨⟨T,K,g.a,g.c,c2,⟨d.jH 1 rfl rfl,d.jH 1 rfl rfl,by show vc (hv w) E 2=aa (aE g.a (fs.map (·.2)).length g.c);rw [<-av,fB];exact mL (d.qF 1 rfl) rfl,d.jH 1 rfl rfl⟩,d.vs N (by simp) _ _ bo,d.qF 2 rfl,by show Sl Lt 1 (hv w) g.a g.c (fs.map (·.2));rw [<-av];exact yJ bx aM λb o e bk bl=>⟨e.2,(o5<|d.vs af (by simp)).cell<|bk 0 _ rfl,d.vs g.J (by simp) _ _ bl⟩,d.qF 0 rfl⟩,Q,by show m.aN.length=(fs.map (·.2)).length;rw [fB,D],⟨S.fH.1,by show (0:Z)<=7;omega⟩⟩;exact Ti (hv w) l E (dd m fs []) ke bj ks m.main r.a4 r.c4 w (kZ w) (d.vs l (by simp)) y.main (by omega)) ?_ ?_
 ·intro _ H;refine Ep<|WE.front 4 O<|WE.front 5 O<|WE.td bp (qx [_,_] _ [aQ n<|aY (ij mb oA).toArray 37 (0,0),aQ t<|aY #[am an (g7 (dd m fs []) m.main)] 30 (0,0)] O<|λw d=>G5 n t (Bx m A z.es.length (z.a,z.c)) O 0 (g7 (dd m fs []) m.main) w d) (hX O (fj 0 O O mY O)<|jJ 1 O O O ah) λB d=>?_;have M:oC m fs=g7 (dd m fs []) m.main:=by rw [oC,bL,oB]
  rw [LG C D ap (by rw [M];exact H),M];exact ⟨oA,O,d.fr,Aw _⟩
 intro dV aD c3 ⟨c5,c7⟩;refine V0 (Yf G7 O)<|aw 5 Y O O O LD O O O<|ag<|Cs ?_;refine WC.qD (rd:=Ox) 3 O (λ_ U=>by cases U) XP.dR (λ_ _ _ _ h=>h) λdX c9 c'=>hk 4 (aY (ij (fi m fs) ⟨A,(z.a,z.c),aD⟩).toArray 37 (0,0)) O (by rw [bM];show Obj.cells _ _ _=Obj.cells (ij _ _).toArray _ _;simp only [ij,fB];rfl)<|Cr<|V0 (dW 4 O O mY O)<|aw 4 Y O O O sV O O O<|aw 3 Y O O O n8 O O O<|ag<|bu ?_;refine WE.front 3 O<|WE.front 4 O<|WE.Iz bp (qx [_,_] _ [aQ n<|aY (ij (fi m fs) ⟨A,(z.a,z.c),aD⟩).toArray 37 (0,0),aQ t<|aY #[am an 0] 30 (0,0)] O<|λw d=>adp n t (ij (fi m fs) ⟨A,(z.a,z.c),aD⟩) O 0 0 w d) (hX O (fj 0 O O mY O)<|jJ 1 O O O ah) λB d=>?_;rw [adv C D ap (by rw [oC,bL,oB,c5])];exact ⟨⟨A,(z.a,z.c),aD⟩,O,d.fr,⟨wq cr<|fm d (by simp) cq,by rw [bM];exact ahD c' (fm d (by simp) c9) (fm d (by simp) bz) bA,w5 c7<|fm d (by simp) c3⟩⟩
structure ah9 where
 ma:ox
 fa:SP
 oa:SP
 na:SP
structure ain (HS:View) (m:cV) (fs:I<|I ar×I dB) (ns:I<|I ar) (q:ah9):Prop where
 aN:Sl rdStr 1 HS q.ma.a1 q.ma.c1 m.aN
 w7:Sl G6 2 HS q.fa.1 q.fa.2 fs
 own:Sl nV 4 HS q.oa.1 q.oa.2<|gJ m
 names:Sl rdStr 1 HS q.na.1 q.na.2 ns
 len:m.aN.length=fs.length
structure GQ where
 i:Z
 es:I XP
 a:aA a6
 c:Z
 J:View
 ns:I<|I ar
 na:SP
def LJ (hv:cX bN cR)    (h:Sl nV 4 bN cq bE hn):Sl nV 4 cR cq bE hn:=h.imp λb o x a=>WM hv b o x a
def iP:g_ aC 49=aa 5:=ah
def sW:g_ aC 35=aa 7:=ah
def DR:aT aC 51 0=aa 0:=ah
def Bz:aT aC 37 0=aa 0:=ah
def zz:aT aC 37 1=aa 1:=ah
def vb:aT aC 37 2=aa 2:=ah
def xN:g_ aC 34=aa 3:=ah
def mh:aT aC 107 0=aa 0:=ah
def DS:aT aC 107 1=aa 1:=ah
def LK:aT aC 107 2=aa 2:=ah
def fb:cV:=(⟨[99,110,116],[],[(⟨1,[107],ad,3⟩:fd),(⟨2,[115,117,109],ad,0⟩:fd),(⟨3,[116],ad,4⟩:fd)],[(⟨[100,111,119,110],ad,[[110]],[[105]],[cG.mk 1 [] [105] [cF.mk 3 0 [] [110] []] [] [],cG.mk 5 [] [] [cF.mk 3 0 [] [105] []] [cG.mk 1 [] [115,117,109] [cF.mk 9 0 [] [] [cF.mk 3 0 [] [115,117,109] [],cF.mk 3 0 [] [105] []]] [] [],cG.mk 1 [] [105] [cF.mk 10 0 [] [] [cF.mk 3 0 [] [105] [],cF.mk 1 1 [] [] []]] [] []] [],cG.mk 6 [] [] [cF.mk 3 0 [] [115,117,109] []] [] []]⟩:gU)],[]⟩:cV)
def sX:Tx:=[109,111,100,117,108,101,32,116,111,112,123,117,115,101,32,99,110,116,59,109,97,105,110,123,99,110,116,46,116,91,49,93,61,99,110,116,46,100,111,119,110,40,99,110,116,46,107,41,59,111,117,116,32,99,110,116,46,116,91,105,110,93,59,105,102,40,99,110,116,46,115,117,109,61,54,41,123,111,117,116,32,55,59,125,101,108,115,101,123,111,117,116,32,56,59,125,125,125]
def eH:cV:=(hJ sX).1
def adI:(hJ sX).2=0:=by decide +kernel
def Tu (s:Tx):wM (hJ s).1<=73728:=by
 unfold hJ;split;·show wM u1<=_;decide
 ·rename_i h;have a:(bL s).2=0:=by simpa using h
  have c:=(Lg a).len;split
  ·rename_i m b;split;·have:=RV b;simp at this;show wM m<=_;omega
   ·show wM u1<=_;decide
  ·show wM u1<=_;decide
def Tv:ii aC 28 42 (b0 #[st [],aE ao 0 0]) 2 40:=j_ ah
def adJ (w:aP) : cx aC 48 #[] w λe a=>e = cf (st sX)/\Ext w a:=by refine enter func48 O 1 O O<|CE (Vs:=[]) (Ws.init aK)<|ak<|au O<|ag<|ak<|au O<|ag<|bu ?_;refine R1 O O λa b=>⟨O,b.fr⟩
def G9:aT aC 350 0=aa 0:=ah
def G':g_ aC 274=aa 3:=ah
def G_:i2 aC 276=aa 3:=ah
def DT:zeroOf aC 276=aa (b0 #[bW aq,am an 0,aE ao 0 0]):=ah
def Ha:e2 aC 276=aa 3:=ah
def Tw:aT aC 276 0=aa 0:=ah
def adK:aT aC 276 1=aa 1:=ah
def Hb:aT aC 276 2=aa 2:=ah
def e8:g_ aC 29=aa 1:=ah
def LL:aT aC 350 1=aa 1:=ah
def AN (b d:View) (f:Z) (p:aA a6) (q:Z) (kn:I e7) (aX:ac) (m pl n:ac) (w:aP) (u:Le b w) (v:Le d w) (r:vc b f 0=aa (aE p kn.length q)) (A:vc b f 1=aa (am an aX)) (g:Sl rt 3 d p q kn) (B:0<=n/\n<=32) : cx aC 327 #[b8 (aa ⟨f,0,ao⟩),am an m,am an pl,am an n] w λe c=>e = cf (bW<|ls kn m pl n)/\Ext w c:=by
 have C:=g.cap;have D:=g.max;refine enter func327 O 52 O O<|CE (Vs:=[b,d]) (Ws.init (by simp [u,v]))<|ak<|au O<|ag<|Cs<|ak<|ab O<|V0 (c8 O O)<|ab O ?_;apply Lo 7 O O O O Y O O O O O;·intro E;refine Vg (Ym O)<|Vg (Ym O)<|Vg (bS O)<|Vg (Yf G9 O)<|Vg (ew 0 ah O O<|r)<|Vg (Yn G' O)<|Vg (h9 O O) ?_;exact Gt 7 O O O
 refine ab O ?_;apply Lo 2 O O O O Y O O O O O;·intro F;refine Vg (Ym O)<|Vg (c8 O O) ?_;exact Gt 2 O O O
 refine ab O ?_;apply Lo 2 O O O O Y O O O O O;·intro G;refine Vg (Ym O)<|Vg (eZ O O) ?_;exact Gt 2 O O O
 refine ag<|Cc O (λi=>?_)<|λi=>?_;·refine ak<|au O<|ag<|bu<|Er ?_;refine R1 O O λc a=>⟨by rw [Cx n i],a.fr⟩
 have j:oD kn m pl=aq:=i;obtain ⟨⟨x,rfl,s⟩,H,J⟩:=Cy j;obtain ⟨k,l⟩:=bk s;obtain ⟨K,L,y,M,z,t⟩:=g.ct x k l;have N:=t.cap;have P:=t.max;refine ay<|Cs<|ak<|ab O<|V0 (bS O)<|V0 (Yf G9 O)<|V0 (ew 0 ah O O<|r)<|ab O<|V0 (Yo G' O O y s)<|V0 (eB 1 G_ O O O<|z) ?_;refine Al Y O DT λQ=>aw 0 Y O O O Ha O O O<|ag<|ak<|V0 (Yf Tw O)<|V0 (Yd 0 O O O ah)<|ag ?_;refine Cc O (λo=>?_)<|λo=>?_;·refine ak<|ab O<|ab O<|V0 (pK O O ai)<|V0 (Yf adK O)<|V0 (Yd 0 O O O ah)<|V0 (li O O)<|au O ?_;refine ag<|bu<|Er ?_;refine R1 O O λc a=>⟨by rw [w9 j l,aD o],a.fr⟩
 refine ay<|ak<|ab O<|V0 (bY O O)<|ab O ?_;apply Lo 4 O O O O Y O O O O O;·intro R;refine Vg (Ym O)<|Vg (Ym O)<|Vg (pK O O ai)<|Vg (li O O) ?_;exact Gt 4 O O O
 refine au O<|ag<|bu ?_;refine R1 O O λc a=>⟨by rw [w9 j l,aj (λe=>by have h:=o.symm.trans e;cases h)],a.fr⟩
def To (c d:View) (g:Z) (s:aA a6) (t:Z) (kn:I e7) (aX:ac) (m pl n:ac) (w:aP) (B:Le c w) (C:Le d w) (u:vc c g 0=aa (aE s kn.length t)) (M:vc c g 1=aa (am an aX)) (i:Sl rt 3 d s t kn)  :
   cx aC 329 #[b8 (aa ⟨g,0,ao⟩),am an m,am an pl,am an n] w λe f=>e = cf (bW<|k4 kn m pl n)/\Ext w f:=by
 have N:=i.cap;have P:=i.max;refine enter func329 O 54 O O<|CE (Vs:=[c,d]) (Ws.init (by simp [B,C]))<|ak<|au O<|ag<|Cs<|ak<|ab O<|V0 (c8 O O)<|ab O ?_;apply Lo 7 O O O O Y O O O O O;·intro Q;refine Vg (Ym O)<|Vg (Ym O)<|Vg (bS O)<|Vg (Yf G9 O)<|Vg (ew 0 ah O O<|u)<|Vg (Yn G' O)<|Vg (h9 O O) ?_;exact Gt 7 O O O
 refine ab O ?_;apply Lo 2 O O O O Y O O O O O;·intro R;refine Vg (Ym O)<|Vg (c8 O O) ?_;exact Gt 2 O O O
 refine ag<|Cc O (λj=>?_)<|λj=>?_;·refine ak<|au O<|ag<|bu<|Er ?_;refine R1 O O λf b=>⟨by rw [Cz n j],b.fr⟩
 have l:n0 kn m pl=aq:=j;obtain ⟨⟨D,rfl,v⟩,a,rfl⟩:=CA l;obtain ⟨k,o⟩:=bk v;obtain ⟨S,T,E,U,F,p⟩:=i.ct D k o;have V:=p.cap;have W:=p.max;refine ay<|Cs<|ak<|ab O<|V0 (bS O)<|V0 (Yf G9 O)<|V0 (ew 0 ah O O<|u)<|ab O<|V0 (Yo G' O O E v)<|V0 (eB 1 G_ O O O<|F) ?_;refine Al Y O DT λX=>aw 0 Y O O O Ha O O O<|ag<|ak<|V0 (Yf Tw O)<|V0 (Yd 0 O O O ah)<|ag ?_;refine Cc O (λq=>?_)<|λq=>?_
 ·refine ak<|ab O<|V0 (Yf Hb O)<|V0 (Yd 0 O O O ah)<|V0 (Yn e8 O)<|V0 (c8 O O)<|ab O ?_;apply La 7 (x:=(k.parts[((a:ac)).toNat]?).getD 0==n) O O O O Y O O O O O
  ·intro G;have z:a<k.parts.length:=by simpa using G
   obtain ⟨y,A⟩:=bk z;obtain ⟨H,J,K,r⟩:=p.ct a y A;have r:cB d H (J+a*1)<|ik y:=r;have L:(k.parts[a]?).getD 0=y:=by rw [A];rfl
   refine Vg (Yf Hb O)<|Vg (Yd 0 O O O ah)<|Vg (Ym O)<|Vg (Yo e8 O O K z)<|Vg (ew 1 ah O O<|r 0 _ O)<|Vg (Ym O)<|Vg (bY O O) ?_;rw [show (y==n)=((k.parts[((a:ac)).toNat]?).getD 0==n) from by rw [ku,L]];exact Gt 7 O O O
  refine au O<|ag<|bu<|Er ?_;refine R1 O O λf b=>⟨by rw [ux l o,aD q],b.fr⟩
 refine ay<|ak<|ab O<|V0 (c8 O O)<|ab O ?_;apply La 2 O O O O Y O O O O O;·intro ae;refine Vg (Ym O)<|Vg (li O O) ?_;exact Gt 2 O O O
 refine au O<|ag<|bu ?_;refine R1 O O λf b=>⟨by rw [ux l o,aj (λe=>by have h:=q.symm.trans e;cases h)],b.fr⟩
def Ty (a b:View) (c:Z) (d:aA a6) (f:Z) (kn:I e7) (aX:ac) (pl:ac) (w:aP) (i:Le a w) (j:Le b w) (m:vc a c 0=aa (aE d kn.length f)) (k:vc a c 1=aa (am an aX)) (g:Sl rt 3 b d f kn)  : cx aC 326 #[b8 (aa ⟨c,0,ao⟩),am an pl] w λe h=>e = cf (bW<|gT aX pl)/\Ext w h:=by
 have n:=g.cap;have o:=g.max;refine enter func326 O 15 O O<|CE (Vs:=[a,b]) (Ws.init (by simp [i,j]))<|ak<|au O<|ag<|ak<|ab O<|V0 (h9 O O)<|ab O ?_;apply La 6 O O O O Y O O O O O;·intro p;refine Vg (Ym O)<|Vg (Ym O)<|Vg (bS O)<|Vg (Yf LL O)<|Vg (ew 0 ah O O<|k)<|Vg (c8 O O) ?_;exact Gt 6 O O O
 refine au O<|ag<|bu ?_;refine R1 O O λh l=>⟨O,l.fr⟩
def Tz (n:ac) (w:aP) : cx aC 328 #[am an n] w λe a=>e = cf (bW<|tm n)/\Ext w a:=by
 refine enter func328 O 9 O O<|CE (Vs:=[]) (Ws.init aK)<|ak<|au O<|ag<|ak<|ab O<|V0 (h9 O O)<|ab O ?_;apply La 2 O O O O Y O O O O O;·intro c;refine Vg (Ym O)<|Vg (li O O) ?_;exact Gt 2 O O O
 refine au O<|ag<|bu ?_;refine R1 O O λa b=>⟨O,b.fr⟩
def adL (j k:View) (o:Z) (q:aA a6) (r:Z) (kn:I e7) (aX:ac) (x:eC) (a:aA a6) (c:Z) (w:aP) (af:Le j w) (al:Le k w) (y:vc j o 0=aa (aE q kn.length r)) (z:vc j o 1=aa (am an aX)) (s:Sl rt 3 k q r kn)  : cx aC 330 #[b8 (aa ⟨o,0,ao⟩),b0 (dQ x a c).toArray] w λe i=>e = cf (bW<|node1 kn aX x.op x.n x.m x.pl x.args.length)/\Ext w i:=by
 have av:=s.cap;have aw:=s.max;refine enter func330 O 170 O O<|CE (Vs:=[j,k]) (Ws.init (by simp [af,al]))<|ak ?_;refine WL.box Y O O λU=>au O<|ag<|Cs<|ak<|V0 (Yf nJ O)<|V0 (Yd 0 O O O ah)<|V0 (Yn iP O)<|au O<|ag<|ak<|V0 (Yf rO O) ?_;refine V0 (Yd 0 O O O ah)<|ag<|Cb<|ak<|V0 (bY O O)<|au O<|ag ?_;refine Cc O (λB=>?_)<|λB=>?_
 ·have f:x.op=1:=by simpa using B
  refine ak<|V0 (Yf oT O)<|V0 (Yd 0 O O O ah)<|V0 (bY O O)<|ab O ?_;apply La 3 O O O O Y O O O O O;·intro ax;refine Vg (Yf c5 O)<|Vg (Yd 0 O O O ah)<|Vg (bY O O) ?_;exact Gt 3 O O O
  refine ab O ?_;apply La 2 O O O O Y O O O O O;·intro ay;refine Vg (Ym O)<|Vg (bY O O) ?_;exact Gt 2 O O O
  refine ab O ?_;apply La 3 O O O O Y O O O O O;·intro az;refine Vg (Yf pC O)<|Vg (Yd 0 O O O ah)<|Vg (h9 O O) ?_;exact Gt 3 O O O
  refine ab O ?_;apply La 3 O O O O Y O O O O O;·intro aB;refine Vg (Yf pC O)<|Vg (Yd 0 O O O ah)<|Vg (li O O) ?_;exact Gt 3 O O O
  refine au O<|ag<|bu<|aU<|Er ?_;refine R1 O O λi b=>⟨by rw [node1,aD f],b.fr⟩
 have l:¬x.op=1:=by simpa using B
 refine ak<|V0 (bY O O)<|au O<|ag ?_;refine Cc O (λC=>?_)<|λC=>?_
 ·have f:x.op=3:=by simpa using C
  refine ak<|V0 (Yf pC O)<|V0 (Yd 0 O O O ah)<|V0 (bY O O)<|ab O ?_;apply La 2 O O O O Y O O O O O;·intro aF;refine Vg (Ym O)<|Vg (bY O O) ?_;exact Gt 2 O O O
  refine ab O ?_;apply La 6 O O O O Y O O O O O;·intro aG;refine Vg (Ym O)<|Vg (Yf oT O)<|Vg (Yd 0 O O O ah)<|Vg (Yf c5 O)<|Vg (Yd 0 O O O ah)<|Lp (.g O O O) O bp O (λw b=>AN j k o q r kn aX x.m x.pl 1 w b.V b.V y z s ai) ?_;exact Gt 6 O O O
  refine au O<|ag<|bu<|aU<|Er ?_;refine R1 O O λi b=>⟨by rw [node1,aj l,aD f],b.fr⟩
 have p:¬x.op=3:=by simpa using C
 refine ak<|V0 (bY O O)<|au O<|ag ?_;refine Cc O (λD=>?_)<|λD=>?_
 ·have f:x.op=4:=by simpa using D
  refine ak<|V0 (Yf pC O)<|V0 (Yd 0 O O O ah)<|Lp Y O bp O (λw b=>Tz _ w)<|ab O ?_;apply La 2 O O O O Y O O O O O;·intro aH;refine Vg (Ym O)<|Vg (bY O O) ?_;exact Gt 2 O O O
  refine ab O ?_;apply La 8 O O O O Y O O O O O
  ·intro W;have ap:0<=x.n/\x.n<=32:=by unfold tm at W;simp at W;omega
   refine Vg (Ym O)<|Vg (Yf oT O)<|Vg (Yd 0 O O O ah)<|Vg (Yf c5 O)<|Vg (Yd 0 O O O ah)<|Vg (Yf pC O)<|Vg (Yd 0 O O O ah)<|Lp (.g O O O) O bp O (λw b=>AN j k o q r kn aX x.m x.pl x.n w b.V b.V y z s ap) ?_;exact Gt 8 O O O
  refine au O<|ag<|bu<|aU<|Er ?_;refine R1 O O λi b=>⟨by rw [node1,aj l,aj p,aD f],b.fr⟩
 have t:¬x.op=4:=by simpa using D
 refine ak<|V0 (bY O O)<|au O<|ag ?_;refine Cc O (λE=>?_)<|λE=>?_
 ·have f:x.op=5:=by simpa using E
  refine ak<|V0 (Yf pC O)<|V0 (Yd 0 O O O ah)<|V0 (bY O O)<|ab O ?_;apply La 7 O O O O Y O O O O O;·intro aI;refine Vg (Ym O)<|Vg (Yf oT O)<|Vg (Yd 0 O O O ah)<|Vg (Yf c5 O)<|Vg (Yd 0 O O O ah)<|Vg (Ym O)<|Lp (.g O O O) O bp O (λw b=>To j k o q r kn aX x.m x.pl x.args.length w b.V b.V y z s) ?_;exact Gt 7 O O O
  refine au O<|ag<|bu<|aU<|Er ?_;refine R1 O O λi b=>⟨by rw [node1,aj l,aj p,aj t,aD f],b.fr⟩
 have u:¬x.op=5:=by simpa using E
 refine ak<|V0 (bY O O)<|au O<|ag ?_;refine Cc O (λF=>?_)<|λF=>?_
 ·have f:x.op=16:=by simpa using F
  refine ak<|V0 (Yf oT O)<|V0 (Yd 0 O O O ah)<|V0 (bY O O)<|ab O ?_;apply La 3 O O O O Y O O O O O;·intro aK;refine Vg (Yf pC O)<|Vg (Yd 0 O O O ah)<|Vg (bY O O) ?_;exact Gt 3 O O O
  refine ab O ?_;apply La 2 O O O O Y O O O O O;·intro aL;refine Vg (Ym O)<|Vg (bY O O) ?_;exact Gt 2 O O O
  refine ab O ?_;apply La 4 O O O O Y O O O O O;·intro aM;refine Vg (Ym O)<|Vg (Yf c5 O)<|Vg (Yd 0 O O O ah)<|Lp (.g O O O) O bp O (λw b=>Ty j k o q r kn aX x.pl w b.V b.V y z s) ?_;exact Gt 4 O O O
  refine au O<|ag<|bu<|aU<|Er ?_;refine R1 O O λi b=>⟨by rw [node1,aj l,aj p,aj t,aj u,aD f],b.fr⟩
 have A:¬x.op=16:=by simpa using F
 refine ak<|V0 (bY O O)<|au O<|ag ?_;refine Cc O (λG=>?_)<|λG=>?_
 ·have f:x.op=2:=by simpa using G
  refine ak<|V0 (Yf oT O)<|V0 (Yd 0 O O O ah)<|V0 (bY O O)<|ab O ?_;apply La 3 O O O O Y O O O O O;·intro aN;refine Vg (Yf c5 O)<|Vg (Yd 0 O O O ah)<|Vg (bY O O) ?_;exact Gt 3 O O O
  refine ab O ?_;apply La 3 O O O O Y O O O O O;·intro aO;refine Vg (Yf pC O)<|Vg (Yd 0 O O O ah)<|Vg (bY O O) ?_;exact Gt 3 O O O
  refine ab O ?_;apply La 2 O O O O Y O O O O O;·intro aT;refine Vg (Ym O)<|Vg (bY O O) ?_;exact Gt 2 O O O
  refine au O<|ag<|bu<|aU<|Er ?_;refine R1 O O λi b=>⟨by rw [node1,aj l,aj p,aj t,aj u,aj A,aD f],b.fr⟩
 have H:¬x.op=2:=by simpa using G
 refine ak<|V0 (bY O O)<|au O<|ag ?_;refine Cc O (λJ=>?_)<|λJ=>?_
 ·have f:x.op=6:=by simpa using J
  refine ak<|V0 (Yf oT O)<|V0 (Yd 0 O O O ah)<|V0 (bY O O)<|ab O ?_;apply La 3 O O O O Y O O O O O;·intro aV;refine Vg (Yf c5 O)<|Vg (Yd 0 O O O ah)<|Vg (bY O O) ?_;exact Gt 3 O O O
  refine ab O ?_;apply La 3 O O O O Y O O O O O;·intro aW;refine Vg (Yf pC O)<|Vg (Yd 0 O O O ah)<|Vg (bY O O) ?_;exact Gt 3 O O O
  refine ab O ?_;apply La 2 O O O O Y O O O O O;·intro aZ;refine Vg (Ym O)<|Vg (bY O O) ?_;exact Gt 2 O O O
  refine au O<|ag<|bu<|aU<|Er ?_;refine R1 O O λi b=>⟨by rw [node1,aj l,aj p,aj t,aj u,aj A,aj H,aD f],b.fr⟩
 have X:¬x.op=6:=by simpa using J
 refine WC.nI (ι:=aS) (λv=>[(3,b8<|aa ⟨U,0,ao⟩),(5,am an (x.args.length:ac)),(143,bW v)]) (λv=>Ws w [] [aQ U<|aY (dQ x a c).toArray 53 (0,0)] [j,k]) (λv=>v=decide (7<=x.op/\x.op<=15)) ?_ ?_
 ·refine ak<|V0 (bY O O)<|au O<|ag ?_;refine Cc O (λK=>?_)<|λK=>?_;·refine Ck<|lL (x.op==7) (by have d:x.op=7:=(by simpa using K);rw [d];decide) (λ_ h=>by have h:=h.bs 0 rfl;exact h)
  have a0:¬x.op=7:=by simpa using K
  refine ak<|V0 (bY O O)<|au O<|ag ?_;refine Cc O (λL=>?_)<|λL=>?_;·refine Ck<|lL (x.op==8) (by have d:x.op=8:=(by simpa using L);rw [d];decide) (λ_ h=>by have h:=h.bs 0 rfl;exact h)
  have a1:¬x.op=8:=by simpa using L
  refine ak<|V0 (bY O O)<|au O<|ag ?_;refine Cc O (λM=>?_)<|λM=>?_;·refine Ck<|lL (x.op==9) (by have d:x.op=9:=(by simpa using M);rw [d];decide) (λ_ h=>by have h:=h.bs 0 rfl;exact h)
  have a2:¬x.op=9:=by simpa using M
  refine ak<|V0 (bY O O)<|au O<|ag ?_;refine Cc O (λN=>?_)<|λN=>?_;·refine Ck<|lL (x.op==10) (by have d:x.op=10:=(by simpa using N);rw [d];decide) (λ_ h=>by have h:=h.bs 0 rfl;exact h)
  have a3:¬x.op=10:=by simpa using N
  refine ak<|V0 (bY O O)<|au O<|ag ?_;refine Cc O (λP=>?_)<|λP=>?_;·refine Ck<|lL (x.op==11) (by have d:x.op=11:=(by simpa using P);rw [d];decide) (λ_ h=>by have h:=h.bs 0 rfl;exact h)
  have a4:¬x.op=11:=by simpa using P
  refine ak<|V0 (bY O O)<|au O<|ag ?_;refine Cc O (λQ=>?_)<|λQ=>?_;·refine Ck<|lL (x.op==12) (by have d:x.op=12:=(by simpa using Q);rw [d];decide) (λ_ h=>by have h:=h.bs 0 rfl;exact h)
  have a5:¬x.op=12:=by simpa using Q
  refine ak<|V0 (bY O O)<|au O<|ag ?_;refine Cc O (λR=>?_)<|λR=>?_;·refine Ck<|lL (x.op==13) (by have d:x.op=13:=(by simpa using R);rw [d];decide) (λ_ h=>by have h:=h.bs 0 rfl;exact h)
  have a7:¬x.op=13:=by simpa using R
  refine ak<|V0 (bY O O)<|au O<|ag ?_;refine Cc O (λS=>?_)<|λS=>?_;·refine Ck<|lL (x.op==14) (by have d:x.op=14:=(by simpa using S);rw [d];decide) (λ_ h=>by have h:=h.bs 0 rfl;exact h)
  have a8:¬x.op=14:=by simpa using S
  refine Cr<|V0 (bY O O)<|au O<|Ln ?_;exact lL (x.op==15) (by rw [mA];simp;omega) (λ_ h=>by have h:=h.bs 0 rfl;exact h)
 intro v ae;refine Cc O (λT=>?_)<|λT=>?_
 ·refine ak<|V0 (Yf oT O)<|V0 (Yd 0 O O O ah)<|V0 (bY O O)<|ab O ?_;apply La 3 O O O O Y O O O O O;·intro a9;refine Vg (Yf c5 O)<|Vg (Yd 0 O O O ah)<|Vg (bY O O) ?_;exact Gt 3 O O O
  refine ab O ?_;apply La 3 O O O O Y O O O O O;·intro a';refine Vg (Yf pC O)<|Vg (Yd 0 O O O ah)<|Vg (bY O O) ?_;exact Gt 3 O O O
  refine ab O ?_;apply La 2 O O O O Y O O O O O;·intro a_;refine Vg (Ym O)<|Vg (bY O O) ?_;exact Gt 2 O O O
  refine au O<|ag<|bu<|aU<|Er ?_;refine R1 O O λi b=>⟨by rw [node1,aj l,aj p,aj t,aj u,aj A,aj H,aj X,aD<|vu<|ae.symm.trans T],b.fr⟩
 refine Ck<|Eb<|Et<|ak<|au O<|ag<|bu ?_;refine R1 O O λi b=>⟨by rw [node1,aj l,aj p,aj t,aj u,aj A,aj H,aj X,aj<|Ih<|ae.symm.trans T],b.fr⟩
end Go.Proofs.YtgeahfjicmlocaaGreatDoor
end
