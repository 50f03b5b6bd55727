/- WholeSame: Exec tells what Mean tells: the same numbers, the same end, the same data, as many ticks; and what is executed is never Broken, nor out of steps. -/
import Derived.Test.YtgeahfjicmlocaaGreatDoorR5
set_option linter.unusedVariables false
set_option linter.unusedSimpArgs false
set_option linter.defProp false
open _root_ renaming List->I,Nat->Z,Int->ac,Option->aA,Bool->aS,UInt8->ar,Array->bH,Unit->ef,String->fO
open Option renaming some->aa,none->ao
open Bool renaming true->ad,false->aq
open Go.Value renaming int->am,slice->aE,bool->bW,agg->b0,pointer->b8,tuple->cO
open Go.IntKind renaming i64->an
open Go.Proofs.Tryz renaming prog->aC
open Go renaming World->aP,Value->aR,Addr->a6,TypeId->cn,Calls->cx,Oper->cg,Act->cY,Exit->di,Operand->ei,Deferred->fw,Edge->fY
open Go.Obj renaming cells->aY
open Or renaming inr->be,inl->bB
open Go.Ending renaming returned->cf
open List renaming flatMap->c6,replicate->gb
open Nat renaming blt->e',strongRecOn->om
section
namespace Go.Proofs.YtgeahfjicmlocaaGreatDoor
open Go.Bw Go.Proofs.Tryz
def adM {a b:Z} (c:a<=9223372036854775807) (d:b<=9223372036854775807):(an.wrap ((a:ac)+(b:ac))==0)=((a:ac)+(b:ac)==0):=by rw [mA];simp only [j8];rw [IntKind.wrap_i64];omega
def adN (f j:View) (m:Z) (n:aA a6) (o:Z) (kn:I e7) (aX:ac) (p:View) (k:Z) (l:I eC) (a:aA a6) (c:Z) (d:Z) (w:aP) (E:Le f w) (F:Le j w) (G:vc f m 0=aa (aE n kn.length o)) (H:vc f m 1=aa (am an aX)) (q:Sl rt 3 j n o kn) (J:Le p w) (r:Sl (cC k) 5 p a c l) (R:d<=7) : cx aC 275 #[b8 (aa ⟨m,0,ao⟩),aE a l.length c,am an (d:ac)] w λe s=>e = cf (bW<|hZ kn aX l d)/\Ext w s:=by
 have S:=q.cap;have T:=q.max;induction k using om generalizing l a c d w;rename_i k K;have U:=r.cap;have W:=r.max;refine enter func275 O 33 O O<|CE (Vs:=[f,j,p]) (Ws.init (by simp [E,F,J]))<|ak<|au O<|ag<|Cs<|ak<|ab O<|V0 (Yn iP O)<|ab O<|ag<|Cb ?_;refine pL (ι:=Z) (λi=>[(11,am an (i:ac))]) [(0,_),(2,_),(9,_),(10,_)] (λi=>i<=l.length/\(l.take i).all (k5 kn aX · d)=ad) (λi=>l.length-i) 0 ⟨dw _,O⟩ λi ⟨hi,t⟩=>ak<|V0 (c8 O O)<|ag<|Cs ?_;refine Cc O (λu=>?_)<|λu=>?_
 ·have C:i<l.length:=by simpa using u
  obtain ⟨x,v⟩:=bk C;obtain ⟨X,ae,L,D⟩:=r.ct i x v;obtain ⟨k2,rfl⟩:∃k2,k=k2+1:=by cases k with| zero=>exact D.elim| succ k2=>exact ⟨k2,rfl⟩
  obtain ⟨y,z,M,N⟩:=D;refine ay<|Cs<|Cb<|ak<|V0 (Yo iP O O L C)<|V0 (eB 2 bZ O O O<|M) ?_;refine Al Y O Bt λaf=>aw 0 Y O O O DM O O O<|ag<|Cs<|hk 0 (aY (dQ x y z).toArray 53 (0,0)) O O<|Cr<|ab O<|V0 (eZ O O)<|ab O ?_;apply Lo 4 O O O O Y O O O O O;·intro aj;refine Vg (Ym O)<|Vg (dW 0 O O bZ O)<|Lp (.g O O O) O bp O (λw b=>adL f j m n o kn aX x y z w b.V b.V G H q)<|Vg (ih O) ?_;exact Gt 4 O O O
  refine ab O ?_;apply Lo 7 O O O O Y O O O O O
  ·intro P;have al:d<=6:=by have Q:=(kG.1 P).1;simp at Q;omega
   refine Vg (Ym O)<|Vg (Yf nJ O)<|Vg (Yd 0 O O O ah)<|Vg (Ym O)<|Vg (Yi O O O ai)<|Lp (.g O O O) O bp O (λw b=>K k2 ai x.args y z (d+1) w b.V b.V b.V N ai)<|Vg (ih O) ?_;exact Gt 7 O O O
  refine ag ?_;rw [W0];refine Cc O (λA=>?_)<|λA=>?_
  ·have B:k5 kn aX x d=aq:=by simpa using A
   refine ak<|au O<|ag<|bu<|aU<|Er<|Er<|aU<|Er ?_;refine R1 O O λs b=>⟨by rw [CB,Az v B],b.fr⟩
  have B:k5 kn aX x d=ad:=by simpa using A
  refine Ck<|Eb<|Et<|Cr<|V0 (Yi O O O ai)<|ab O<|Ln ?_;exact ep (i+1) ai ⟨ai,l4 v t B⟩<|λ_ h=>Wd 1 h
 have ap:¬i<l.length:=by simpa using u
 rw [mz ai] at t;refine Ce<|Ex<|Ex<|ee<|Et<|ak<|au O<|ag<|bu ?_;refine R1 O O λs b=>⟨by rw [CB,t],b.fr⟩
def adO (b f:View) (j:Z) (k:aA a6) (l:Z) (kn:I e7) (aX:ac) (x:et) (r:w4) (w:aP) (K:Le b w) (L:Le f w) (t:vc b j 0=aa (aE k kn.length l)) (u:vc b j 1=aa (am an aX)) (o:Sl rt 3 f k l kn) (M:x.body.length<=9223372036854775807) (N:x.other.length<=9223372036854775807) : cx aC 274 #[b8 (aa ⟨j,0,ao⟩),b0 (rq x r).toArray] w λe i=>e = cf (bW<|gC kn aX x.op x.n x.m x.pl x.args.length x.body.length x.other.length)/\Ext w i:=by
 have S:=o.cap;have T:=o.max;refine enter func274 O 135 O O<|CE (Vs:=[b,f]) (Ws.init (by simp [K,L]))<|ak ?_;refine WL.box Y O O λP=>au O<|ag<|Cs ?_;refine WC.o6 [(0,ad),(1,ad),(2,ad),(3,ad),(4,ad),(5,ad),(6,ad),(7,ad),(8,ad),(9,ad),(10,ad),(11,ad),(12,ad)] mixed ah (λ_ _ _ d _ h=>by cases d<;>exact h)<|D0 O a' (Yf nK O)<|D0 O a' (Yd 0 O O O ah)<|D0 O a' (Yn iP O)<|D0 O a' (Yf zx O)<|D0 O a' (Yd 0 O O O ah)<|D0 O a' (Yn sW O)<|D0 O a' (Yf xK O)<|D0 O a' (Yd 0 O O O ah) ?_;refine D0 O a' (Yn sW O)<|D0 O a' (ud O O)<|D0 O a' (bY O O) ?_;rw [adM M N];refine D0 O a' (Ya O)<|D0 O a' (Ya O) ?_;refine WD.nil a'<|Et<|ak<|V0 (Yf oU O)<|V0 (Yd 0 O O O ah)<|V0 (bY O O)<|ab O ?_;apply La 3 O O O O Y O O O O O;·intro U;refine Vg (Yf pD O)<|Vg (Yd 0 O O O ah)<|Vg (bY O O) ?_;exact Gt 3 O O O
 refine ab O ?_;apply La 3 O O O O Y O O O O O;·intro W;refine Vg (Yf xJ O)<|Vg (Yd 0 O O O ah)<|Vg (bY O O) ?_;exact Gt 3 O O O
 refine au O<|ag<|Cs<|ak<|V0 (Yf DR O)<|V0 (Yd 0 O O O ah)<|ag<|Cb<|ak<|V0 (bY O O)<|au O<|ag ?_;refine Cc O (λz=>?_)<|λz=>?_
 ·have c:x.op=1:=by simpa using z
  refine ak<|ab O<|ab O ?_;apply La 2 O O O O Y O O O O O;·intro X;refine Vg (Ym O)<|Vg (bY O O) ?_;exact Gt 2 O O O
  refine ab O ?_;apply La 3 O O O O Y O O O O O;·intro ae;refine Vg (Yf xJ O)<|Vg (Yd 0 O O O ah)<|Vg (bY O O) ?_;exact Gt 3 O O O
  refine ab O ?_;apply La 17 O O O O Y O O O O O
  ·intro af;refine Vg (Yf oU O)<|Vg (Yd 0 O O O ah)<|Vg (bY O O)<|Vg (Ym O) ?_;apply La 4 O O O O (.g O O O) O O O O O;·intro al;refine Vg (Ym O)<|Vg (Yf pD O)<|Vg (Yd 0 O O O ah)<|Lp (.g O O O) O bp O (λw a=>Ty b f j k l kn aX x.pl w a.V a.V t u o) ?_;exact Gt 4 O O O
   refine Vg (Ym O) ?_;apply Lo 6 O O O O (.g O O O) O O O O O;·intro ap;refine Vg (Ym O)<|Vg (Yf oU O)<|Vg (Yd 0 O O O ah)<|Vg (Yf pD O)<|Vg (Yd 0 O O O ah)<|Lp (.g O O O) O bp O (λw a=>AN b f j k l kn aX x.m x.pl 1 w a.V a.V t u o ai) ?_;exact Gt 6 O O O
   exact Gt 7 O O O
  refine au O<|ag<|bu<|aU<|Er ?_;refine R1 O O λi a=>⟨by rw [gC,aD c],a.fr⟩
 have p:¬x.op=1:=by simpa using z
 refine ak<|V0 (bY O O)<|au O<|ag ?_;refine Cc O (λA=>?_)<|λA=>?_
 ·have c:x.op=2:=by simpa using A
  refine ak<|ab O<|ab O ?_;apply La 2 O O O O Y O O O O O;·intro av;refine Vg (Ym O)<|Vg (bY O O) ?_;exact Gt 2 O O O
  refine ab O ?_;apply La 3 O O O O Y O O O O O;·intro aw;refine Vg (Yf xJ O)<|Vg (Yd 0 O O O ah)<|Lp (.g O O O) O bp O (λw a=>Tz _ w) ?_;exact Gt 3 O O O
  refine ab O ?_;apply La 8 O O O O Y O O O O O
  ·intro Q;have R:0<=x.n/\x.n<=32:=by have v:=(bz.1 Q).2;unfold tm at v;simp at v;omega
   refine Vg (Ym O)<|Vg (Yf oU O)<|Vg (Yd 0 O O O ah)<|Vg (Yf pD O)<|Vg (Yd 0 O O O ah)<|Vg (Yf xJ O)<|Vg (Yd 0 O O O ah)<|Lp (.g O O O) O bp O (λw a=>AN b f j k l kn aX x.m x.pl x.n w a.V a.V t u o R) ?_;exact Gt 8 O O O
  refine au O<|ag<|bu<|aU<|Er ?_;refine R1 O O λi a=>⟨by rw [gC,aj p,aD c],a.fr⟩
 have q:¬x.op=2:=by simpa using A
 refine ak<|V0 (bY O O)<|au O<|ag ?_;refine Cc O (λB=>?_)<|λB=>?_
 ·have c:x.op=3:=by simpa using B
  refine ak<|ab O<|ab O ?_;apply La 3 O O O O Y O O O O O;·intro ax;refine Vg (Yf xJ O)<|Vg (Yd 0 O O O ah)<|Vg (bY O O) ?_;exact Gt 3 O O O
  refine ab O ?_;apply La 7 O O O O Y O O O O O;·intro ay;refine Vg (Ym O)<|Vg (Yf oU O)<|Vg (Yd 0 O O O ah)<|Vg (Yf pD O)<|Vg (Yd 0 O O O ah)<|Vg (Ym O)<|Lp (.g O O O) O bp O (λw a=>To b f j k l kn aX x.m x.pl x.args.length w a.V a.V t u o) ?_;exact Gt 7 O O O
  refine au O<|ag<|bu<|aU<|Er ?_;refine R1 O O λi a=>⟨by rw [gC,aj p,aj q,aD c],a.fr⟩
 have y:¬x.op=3:=by simpa using B
 refine ak<|V0 (bY O O)<|au O<|ag ?_;refine Cc O (λC=>?_)<|λC=>?_
 ·have c:x.op=4:=by simpa using C
  refine ak<|ab O<|ab O ?_;apply La 2 O O O O Y O O O O O;·intro az;refine Vg (Ym O)<|Vg (bY O O) ?_;exact Gt 2 O O O
  refine au O<|ag<|bu<|aU<|Er ?_;refine R1 O O λi a=>⟨by rw [gC,aj p,aj q,aj y,aD c],a.fr⟩
 have D:¬x.op=4:=by simpa using C
 refine ak<|V0 (bY O O)<|au O<|ag ?_;refine Cc O (λE=>?_)<|λE=>?_
 ·have c:x.op=5:=by simpa using E
  refine ak<|ab O<|ab O ?_;apply La 2 O O O O Y O O O O O;·intro aB;refine Vg (Ym O)<|Vg (bY O O) ?_;exact Gt 2 O O O
  refine ab O ?_;apply La 4 O O O O Y O O O O O;·intro aF;refine Vg (Yf xK O)<|Vg (Yd 0 O O O ah)<|Vg (Yn sW O)<|Vg (bY O O) ?_;exact Gt 4 O O O
  refine au O<|ag<|bu<|aU<|Er ?_;refine R1 O O λi a=>⟨by rw [gC,aj p,aj q,aj y,aj D,aD c],a.fr⟩
 have H:¬x.op=5:=by simpa using E
 refine WC.nI (ι:=aS) (λs=>[(5,am an (x.args.length:ac)),(6,bW<|(x.body.length:ac)+(x.other.length:ac)==0),(7,bW<|((x.m==0)&&(x.pl==0))&&(x.n==0)),(124,bW s)]) (λs=>Ws w [] [aQ P<|aY (rq x r).toArray 51 (0,0)] [b,f]) (λs=>s=decide (x.op=6\/x.op=7)) ?_ ?_
 ·refine ak<|V0 (bY O O)<|au O<|ag ?_;refine Cc O (λF=>?_)<|λF=>?_;·refine Ck<|lL (x.op==6) (by have v:x.op=6:=(by simpa using F);rw [v];decide) (λ_ h=>by have h:=h.bs 0 rfl;exact h)
  have aG:¬x.op=6:=by simpa using F
  refine Cr<|V0 (bY O O)<|au O<|Ln ?_;exact lL (x.op==7) (by rw [mA];simp;omega) (λ_ h=>by have h:=h.bs 0 rfl;exact h)
 intro s J;refine Cc O (λG=>?_)<|λG=>?_
 ·refine ak<|ab O<|ab O ?_;apply La 1 O O O O Y O O O O O;·intro aH;refine Vg (Ym O)<|Gt 1 O O O
  refine ab O ?_;apply La 2 O O O O Y O O O O O;·intro aI;refine Vg (Ym O)<|Vg (bY O O) ?_;exact Gt 2 O O O
  refine au O<|ag<|bu<|aU<|Er ?_;refine R1 O O λi a=>⟨by rw [gC,aj p,aj q,aj y,aj D,aj H,aD<|vu<|J.symm.trans G],a.fr⟩
 refine Ck<|Eb<|Et<|ak<|au O<|ag<|bu ?_;refine R1 O O λi a=>⟨by rw [gC,aj p,aj q,aj y,aj D,aj H,aj<|Ih<|J.symm.trans G],a.fr⟩
def TA (f j:View) (m:Z) (n:aA a6) (o:Z) (kn:I e7) (aX:ac) (p:View) (ke k:Z) (l:I et) (a:aA a6) (c:Z) (d:Z) (w:aP) (L:Le f w) (M:Le j w) (E:vc f m 0=aa (aE n kn.length o)) (F:vc f m 1=aa (am an aX)) (q:Sl rt 3 j n o kn) (N:Le p w) (t:Sl (jK ke k) 7 p a c l) (S:d<=7) : cx aC 235 #[b8 (aa ⟨m,0,ao⟩),aE a l.length c,am an (d:ac)] w λe s=>e = cf (bW<|bX kn aX l d)/\Ext w s:=by
 have T:=q.cap;have U:=q.max;induction k using om generalizing l a c d w;rename_i k G;have W:=t.cap;have X:=t.max;refine enter func235 O 68 O O<|CE (Vs:=[f,j,p]) (Ws.init (by simp [L,M,N]))<|ak<|au O<|ag<|Cs<|ak<|ab O<|V0 (eZ O O)<|ab O ?_;apply Lo 3 O O O O Y O O O O O;·intro ae;refine Vg (Ym O)<|Vg (Yn sW O)<|Vg (eZ O O) ?_;exact Gt 3 O O O
 refine ag<|Cc O (λu=>?_)<|λu=>?_;·refine ak<|au O<|ag<|bu<|Er ?_;refine R1 O O λs b=>⟨by rw [W2 kn aX l d u],b.fr⟩
 have H:=W3 u;refine ay<|Cs<|ak<|ab O<|V0 (Yn sW O)<|ab O<|ag<|Cb ?_;refine pL (ι:=Z) (λi=>[(18,am an (i:ac))]) [(0,_),(2,_),(16,_),(17,_)] (λi=>i<=l.length/\(l.take i).all (lR kn aX · d)=ad) (λi=>l.length-i) 0 ⟨dw _,O⟩ λi ⟨hi,v⟩=>ak<|V0 (c8 O O)<|ag<|Cs ?_;refine Cc O (λy=>?_)<|λy=>?_
 ·have J:i<l.length:=by simpa using y
  obtain ⟨x,z⟩:=bk J;obtain ⟨af,aj,P,K⟩:=t.ct i x z;obtain ⟨k2,rfl⟩:∃k2,k=k2+1:=by cases k with| zero=>exact K.elim| succ k2=>exact ⟨k2,rfl⟩
  obtain ⟨r,Q,R,A,B⟩:=K;have al:=A.cap;have ap:=A.max;have av:=B.cap;have ax:=B.max;refine ay<|Cs<|Cb<|ak<|V0 (Yo sW O O P J)<|V0 (eB 2 xL O O O<|Q) ?_;refine Al Y O Bu λaz=>aw 0 Y O O O DQ O O O<|ag<|Cs<|hk 0 (aY (rq x r).toArray 51 (0,0)) O O<|Cr<|ab O<|V0 (dW 0 O O xL O)<|Lp Y O bp O (λw b=>adO f j m n o kn aX x r w b.V b.V E F q ai ai)<|V0 (ih O) ?_;refine ab O ?_;apply Lo 5 O O O O Y O O O O O;·intro aB;refine Vg (Ym O)<|Vg (Yf nK O)<|Vg (Yd 0 O O O ah)<|Lp (.g O O O) O bp O (λw b=>adN f j m n o kn aX p ke x.args r.s1.1 r.s1.2 1 w b.V b.V E F q b.V R ai)<|Vg (ih O) ?_;exact Gt 5 O O O
  refine ab O ?_;apply Lo 17 O O O O Y O O O O O
  ·intro aD;refine Vg (Yf DR O)<|Vg (Yd 0 O O O ah)<|Vg (bY O O)<|Vg (Ym O) ?_;apply Lo 3 O O O O (.g O O O) O O O O O;·intro aF;refine Vg (Yf DR O)<|Vg (Yd 0 O O O ah)<|Vg (bY O O) ?_;exact Gt 3 O O O
   refine Vg (Ym O) ?_;apply La 7 O O O O (.g O O O) O O O O O;·intro aG;refine Vg (Ym O)<|Vg (Yf zx O)<|Vg (Yd 0 O O O ah)<|Vg (Ym O)<|Vg (Yi O O O ai)<|Lp (.g O O O) O bp O (λw b=>G k2 ai x.body r.s2.1 r.s2.2 (d+1) w b.V b.V b.V A ai)<|Vg (ih O) ?_;exact Gt 7 O O O
   exact Gt 7 O O O
  refine ab O ?_;apply Lo 13 O O O O Y O O O O O
  ·intro aH;refine Vg (Yf xK O)<|Vg (Yd 0 O O O ah)<|Vg (Yn sW O)<|Vg (eZ O O)<|Vg (Ym O) ?_;apply La 7 O O O O (.g O O O) O O O O O;·intro aI;refine Vg (Ym O)<|Vg (Yf xK O)<|Vg (Yd 0 O O O ah)<|Vg (Ym O)<|Vg (Yi O O O ai)<|Lp (.g O O O) O bp O (λw b=>G k2 ai x.other r.s3.1 r.s3.2 (d+1) w b.V b.V b.V B ai)<|Vg (ih O) ?_;exact Gt 7 O O O
   exact Gt 6 O O O
  refine ag ?_;rw [W1];refine Cc O (λC=>?_)<|λC=>?_
  ·have D:lR kn aX x d=aq:=by simpa using C
   refine ak<|au O<|ag<|bu<|aU<|Er<|Er<|aU<|Er ?_;refine R1 O O λs b=>⟨by rw [OH kn aX H,Az z D],b.fr⟩
  have D:lR kn aX x d=ad:=by simpa using C
  refine Ck<|Eb<|Et<|Cr<|V0 (Yi O O O ai)<|ab O<|Ln ?_;exact ep (i+1) ai ⟨ai,l4 z v D⟩<|λ_ h=>Wd 1 h
 have aK:¬i<l.length:=by simpa using y
 rw [mz ai] at v;refine Ce<|Ex<|Ex<|ee<|Et<|ak<|au O<|ag<|bu ?_;refine R1 O O λs b=>⟨by rw [OH kn aX H,v],b.fr⟩
abbrev XK:=e7×(aA a6×Z)
def XK.cells (e:XK):I aR:=e.1.cells e.2
def XK.dR (e:XK):(XK.cells e).length=3:=rfl
def XK.one (e:XK):(XK.cells e).all (·.oneCell')=ad:=rfl
def DU (a:View) (b o:Z) (e:XK):Prop:=cB a b o<|XK.cells e
def sY (J:View) (e:XK):Prop:=Sl gW 1 J e.2.1 e.2.2 e.1.parts
variable {bN cR:View}
def sY.mv {e:XK} (hv:cX bN cR) (h:sY bN e):sY cR e:=h.imp λ_ _ _ r=>cB.mono hv r
def TB (a:View) (b o:Z) (e:XK):Prop:=cB a b o (XK.cells e)/\sY a e
variable {cq:aA a6} {bE:Z} {kM:I e7}
def adP (h:Sl rt 3 bN cq bE kM):∃ys:I XK,ys.map (·.1)=kM/\Sl TB 3 bN cq bE ys:=by
 obtain ⟨ys,e,f⟩:=Rq (β:=aA a6×Z) (p:=λi x r=>∃b o,cq=aa ⟨b,o,ao⟩/\cB bN b (o+i*3) (e7.cells x r)/\Sl gW 1 bN r.1 r.2 x.parts) kM 0 λi x g=>by obtain ⟨b,o,c,r,a,d⟩:=h.ct i x g;exact ⟨r,b,o,c,by rw [lJ];exact a,d⟩
 have j:ys.length=kM.length:=by rw [<-e,fB]
 refine ⟨ys,e,by rw [j];exact h.cap,h.max,h.spot,λi y k=>?_⟩;obtain ⟨b,o,c,a,d⟩:=f i y k;rw [lJ] at a;exact ⟨b,o,c,a,d⟩
def F9 {es:I XK} (h:Sl DU 3 bN cq bE es) (hv:cX bN cR) (d:∀e ∈ es,sY cR e):Sl rt 3 cR cq bE (es.map (·.1)):=by refine ⟨by rw [fB];exact h.cap,h.max,h.spot,λi x a=>?_⟩;rw [fp] at a;obtain ⟨y,c,rfl⟩:=eQ.1 a;obtain ⟨b,o,f,g⟩:=h.ct i y c;exact ⟨b,o,f,y.2,cB.mono hv g,d y<|aW c⟩
variable {eA:aI}
def TC (h:p2 eA=aq):eA.parts.length<=6/\eA.aN.length<=3/\0<=eA.data/\eA.data<=512:=by unfold p2 at h;simp only [kG,mC] at h;omega
variable {b4:b3}
def adQ (h:(((decide (b4.params<0)||decide (3<b4.params))||decide (b4.locals<0))||decide (4<b4.locals))=ad):nw kM b4=aq:=by unfold nw;rw [h];rfl
def adR {kn:I e7}  (h:(((decide (b4.params<0)||decide (3<b4.params))||decide (b4.locals<0))||decide (4<b4.locals))=aq):nw kn b4=bX kn (b4.params+b4.locals) b4.body 1:=by unfold nw;rw [h];rfl
def adS (b:aS):decide (1<(if b=ad then (1:ac) else 0)+1)=b:=by cases b<;>decide
def adT:hW aC 276=aa [(0,1),(1,1),(2,1)]:=ah
def DV:i2 aC 107=aa 3:=ah
def Hd:e2 aC 107=aa 3:=ah
def gn:ii aC 29 3 (am an 0) 1 8:=j_ ah
def lX:e2 aC 29=aa 1:=ah
def DW:ii aC 274 276 (b0 #[bW aq,am an 0,aE ao 0 0]) 3 40:=j_ ah
def adU:hW aC 350=aa [(0,1),(1,1)]:=ah
def adV:zeroOf aC 350=aa (b0 #[aE ao 0 0,am an 0]):=ah
def TD (a:View) (ke k:Z) (u:aI) (r:p0) (w:aP) (l:Le a w) (b:dY ke k a r u) (C:u.parts.length<=1048576) : cx aC 160 #[b0 (ij u r).toArray] w λe c=>∃q:aA a6×Z,e = cf (b0 ((ec u).cells q).toArray)/\Ext w c/\Sl gW 1 (nv w c) q.1 q.2 (ec u).parts:=by
 have D:=b.parts.cap;have E:=b.parts.max;refine enter func160 O 25 O O<|CE (Vs:=[a]) (Ws.init (by simp [l]))<|ak ?_;refine WL.box Y O O λm=>Al Y O DT λn=>ag<|ak<|V0 (Yf vb O)<|V0 (Yd 1 O O O ah)<|V0 (Yb DT adT O O) ?_;refine Al Y O DT λo=>aw 0 Y O O O Ha O O O<|ag<|Cs<|Cs<|hk 0 (aY #[bW ad,am an u.data,aE ao 0 0] 276 (0,0)) O O<|Cr<|V0 (Yf zy O)<|V0 (Yd 2 O O O ah)<|V0 (Yn xN O)<|ab O ?_;refine LW (λ_ h=>h.hM 3 1)<|ag<|Cb ?_;refine f_ (ι:=Z×(aA a6×Z)) (λg=>[(12,am an (g.1:ac))]) [(2,_),(3,_),(10,_),(11,_)] (λg=>Ws w [] [cQ 3 1 ik g.2.1 g.2.2 ((u.parts.take g.1).map (·.params)),aQ o (aY #[bW ad,am an u.data,aE g.2.1 ((u.parts.take g.1).map (·.params)).length g.2.2] 276 (0,0)),aQ n<|aY #[bW aq,am an 0,aE ao 0 0] 276 (0,0),aQ m<|aY (ij u r).toArray 37 (0,0)] [a]) (λg=>g.1<=u.parts.length) (λg=>u.parts.length-g.1) (0,(ao,0)) (dw _) a' λg F=>ak<|V0 (c8 O O)<|ag<|Cs ?_;refine Cc O (λd=>?_)<|λd=>?_
 ·have f:g.1<u.parts.length:=by simpa using d
  obtain ⟨x,i⟩:=bk f;obtain ⟨G,H,p,s⟩:=b.parts.ct g.1 x i;obtain ⟨t,v,J⟩:=s;have y:(u.parts.take<|g.1+1).map (·.params)=(u.parts.take g.1).map (·.params)++[x.params]:=by rw [h7,i];simp
  have hL:((u.parts.take g.1).map (·.params)).length=g.1:=by simp;omega
  refine ay<|Cs<|Cb<|ak<|V0 (Yo xN O O p f)<|V0 (eB 0 DV O O O<|v) ?_;refine Al Y O By λK=>aw 0 Y O O O Hd O O O<|ag<|hk 0 (aY (yI x t).toArray 107 (0,0)) O O<|Cr<|V0 (Yf Hb O)<|V0 (Yd 2 O O O ah)<|V0 (Yf mh O)<|V0 (Yd 0 O O O ah) ?_;refine Lb Y O gn O O O O λL=>eb 0 (aY (ik x.params).toArray 3 (0,0)) O O<|LA x.params 2 0 Y O gn O O O O O O ai ai λz A=>V0 (Yf Hb O)<|aw 3 Y O O O lX O O O<|Ln<|Eb<|Et<|Cr<|V0 (Yi O O O ai)<|ab O<|LW (λ_ h=>h.hM 3 1)<|Ln ?_;rw [<-y];exact ep ((g.1+1,(z,A)):Z×(aA a6×Z)) (by show _-(g.1+1)<_;omega) (by show g.1+1<=_;omega)<|λ_ h=>Wd 3 h
 have B:g.1=u.parts.length:=by simp at d;omega
 rw [B,gH];refine Ce<|Ex<|Ex<|ee<|Et<|ak<|V0 (dW 1 O O G_ O)<|aw 2 Y O O O Ha O O O<|ag<|bu ?_;refine WE.Nd 2 O O O G_ O λc j=>⟨g.2,O,j.fr,j.kb 0 O lr iH⟩
def TE (l m:View) (ke k:Z) (u:aI) (r:p0) (us:I e7) (ua:aA a6) (H:Z) (w:aP) (az:Le l w) (aB:Le m w) (o:dY ke k l r u) (aD:Sl rt 3 m ua H us) (a8:us.length<=1048576) :
   cx aC 161 #[b0 (ij u r).toArray,aE ua us.length H] w λe v=>e = cf (bW<|jY u us)/\Ext w v:=by
 have a9:=o.aN.cap;have a':=o.aN.max;have a_:=o.parts.cap;have ba:=o.parts.max;refine enter func161 O 115 O O<|CE (Vs:=[l,m]) (Ws.init (by simp [az,aB]))<|ak ?_;refine WL.box Y O O λV=>au O<|ag<|ak ?_;refine WL.pT st Y O λaF=>V0 (Yf Bz O)<|V0 (Yd 1 O O O ah) ?_;refine WL.pU 0 jx Y js ah O O O O<|ab O<|au O<|ag<|Cs<|ak<|V0 (Yf zz O)<|V0 (Yd 1 O O O ah)<|V0 (Yn gf O)<|ab O<|ag<|Cb ?_;refine nQ (ι:=Z) (λi=>[(18,am an (i:ac))]) [(1,_),(2,_),(5,_),(16,_),(17,_)] (λi=>Ws w [] [aQ aF<|dT st (p5 (u.nm::u.aN.take i) 0) (u.nm::u.aN.take i).length,aQ V<|aY (ij u r).toArray 37 (0,0)] [l,m]) (λi=>i<=u.aN.length/\(u.nm::u.aN.take i).Nodup/\(u.aN.take i).all gG=ad) (λi=>u.aN.length-i) 0 ⟨dw _,by simp,O⟩ (sc O<|sc O<|sc O<|sc O<|sc O<|sc O sn) (λ_ h=>h) λi ⟨hi,J,K⟩=>ak<|V0 (c8 O O)<|ag<|Cs ?_;refine Cc O (λL=>?_)<|λL=>?_
 ·have A:i<u.aN.length:=by simpa using L
  obtain ⟨s,C⟩:∃q,u.aN[i]? = aa q:=⟨_,cy A⟩;obtain ⟨aG,pos,aH,M⟩:=o.aN.ct i s C;have M:cB l aG (pos+i*1)<|g4 s:=M;refine ay<|Cs<|Cb<|ak<|V0 (Yo gf O O aH A)<|V0 (ew 0 ah O O<|M 0 _ O)<|au O<|ag<|ak<|ab O<|ab O<|V0 (rj 0 jx js ah lY O O O) ?_;rw [Xh];refine V0 (pK O O (by split<;>omega))<|WL.rk 0 jx Y js ah O O O O<|ag<|ak<|ab O<|ab O<|V0 (rj 0 jx js ah lY O O O) ?_;rw [yM];refine V0 (eZ O O) ?_;rw [adS];refine ab O ?_;apply Lo 3 (x:=!(gG s)) O O O O Y O O O O O;·intro bb;refine Vg (Ym O)<|Lp (.g O O O) O bp O (λw d=>h0 _ w)<|Vg (ih O) ?_;exact Gt 3 O O O
  refine ag<|Cc O (λN=>?_)<|λN=>?_
  ·have aK:(u.nm::u.aN.take i).contains s=ad\/gG s=aq:=by have j:=N;cases y:(u.nm::u.aN.take i).contains s with| true=>exact bB rfl| false=>rw [y] at j;exact be (by simpa using j)
   refine ak<|au O<|ag<|bu<|aU<|Er<|Er<|aU<|Er ?_;refine R1 O O λv d=>⟨by rw [jY,Xj C aK];rfl,d.fr⟩
  obtain ⟨y,aL⟩:(u.nm::u.aN.take i).contains s=aq/\gG s=ad:=by have j:=kG.1 N;exact ⟨j.1,by simpa using j.2⟩
  have W:(u.nm::u.aN.take i)++[s]=u.nm::u.aN.take (i+1):=by rw [h7,C];simp
  rw [y,show ((if aq=ad then (1:ac) else 0)+1)=1 from rfl,(OT y).1,(OT y).2,W];have aM:(u.nm::u.aN.take (i+1)).Nodup:=by
   rw [<-W,l9];refine ⟨J,by simp,λa aO b X e=>?_⟩;rw [e_] at X;subst X;subst e;have j:(u.nm::u.aN.take i).contains a=ad:=by simpa using aO
   rw [y] at j;cases j
  refine Ck<|Eb<|Et<|Cr<|V0 (Yi O O O (by omega))<|ab O<|Ln ?_;exact Ea (i+1) (by omega) ⟨by omega,aM,l4 C K aL⟩ (sc O<|sc O<|sc O<|sc O<|sc O<|sc O sn)<|λ_ h=>h
 have aT:i=u.aN.length:=by simp at L;omega
 rw [aT,gH] at J K;refine Ce<|Ex<|Ex<|ee<|Et<|Cs<|ak<|V0 (Yf Bz O)<|V0 (Yd 1 O O O ah)<|Lp Y O bp O (λw d=>h0 _ w)<|V0 (ih O)<|ab O ?_;apply Lo 4 O O O O Y O O O O O;·intro bc;refine Vg (Yf zz O)<|Vg (Yd 1 O O O ah)<|Vg (Yn gf O)<|Vg (eZ O O) ?_;exact Gt 4 O O O
 refine ab O ?_;apply Lo 3 O O O O Y O O O O O;·intro bd;refine Vg (Yf vb O)<|Vg (Yd 1 O O O ah)<|Vg (c8 O O) ?_;exact Gt 3 O O O
 refine ab O ?_;apply Lo 3 O O O O Y O O O O O;·intro bf;refine Vg (Yf vb O)<|Vg (Yd 1 O O O ah)<|Vg (eZ O O) ?_;exact Gt 3 O O O
 refine ab O ?_;apply Lo 4 O O O O Y O O O O O;·intro bg;refine Vg (Yf zy O)<|Vg (Yd 1 O O O ah)<|Vg (Yn xN O)<|Vg (eZ O O) ?_;exact Gt 4 O O O
 refine ag<|Cc O (λP=>?_)<|λP=>?_;·refine ak<|au O<|ag<|bu<|Er ?_;refine R1 O O λv d=>⟨by rw [jY,show p2 u=ad from P];simp,d.fr⟩
 have ae:p2 u=aq:=P;obtain ⟨bh,bi,bj,bk⟩:=TC ae;refine ay<|Cs ?_;obtain ⟨ys,af,ai⟩:=adP aD;have aj:ys.length=us.length:=by rw [<-af,fB]
 have aV:∀q,([((ec u,q):XK)]++ys).length=(ec u::us).length:=λq=>by simp [aj]
 refine Cr<|V0 (dW 1 O O mY O) ?_;refine Ld Y O bp O (λq:aA a6×Z=>b0 ((ec u).cells q).toArray) (λF q=>Sl gW 1 F q.1 q.2 (ec u).parts) (λw d=>TD l ke k u r w (d.vs _ (by simp)) o (by omega)) λal D bl aW=>Lb Y O DW O O O O λbm=>eb 0 (aY (([(ec u,D)]:I XK).flatMap XK.cells).toArray 276 (0,0)) O O<|LW (λ_ h=>h.r9 (f:=XK.cells) (xs:=[(ec u,D)]) (c:=1) 0 O XK.dR O (by decide))<|ab O ?_;refine WL.wZ (f:=XK.cells) (rd:=TB) (xs:=[((ec u,D):XK)]) (ys:=ys) 0 (λ_=>m) Y O DW O (by show aa (aR.slice ua us.length H)=_;rw [<-aj]) O (λw d=>⟨d.vs m (by simp),ai⟩) (λ_ _ _ _ h=>h.1) XK.dR XK.one (by simp;omega) (by simp;omega) λp t=>V0 (Yb adV adU O O)<|WL.box Y O O λQ=>eb 0 (aY #[aE p (ec u::us).length t,am an 0] 350 (0,0)) O (congrArg (λn=>Obj.cells #[aE p n t,am an 0] 350 (0,0))<|aV D)<|au O<|ag<|Cs<|Cs ?_;refine WC.dM (rd:=DU) 1 O XK.dR (λ_ _ _ _ h=>h) λap aX=>?_;have av:∀w,Le ap w->Le al w->Le m w->Sl rt 3 (hv w) p t (ec u::us):=λw aZ a0 a1=>by
  have j:=F9 aX (o5 aZ) λe z=>by
   rcases fe.1 z with z | z;·rw [e_] at z;subst z;exact sY.mv (o5 a0) aW
   ·obtain ⟨q,a2⟩:=jd z;obtain ⟨_,_,_,_,h⟩:=ai.ct q e a2;exact sY.mv (o5 a1) h
  rw [qs,af] at j;exact j
 refine Cr<|V0 (Yf zy O)<|V0 (Yd 2 O O O ah)<|V0 (Yn xN O)<|ab O<|ag<|Cb ?_;refine nQ (ι:=Z×ac) (λg=>[(72,am an (g.1:ac))]) [(2,_),(8,_),(70,_),(71,_)] (λg=>Ws w [] [aQ Q<|aY #[aE p (ec u::us).length t,am an g.2] 350 (0,0),aQ V<|aY (ij u r).toArray 37 (0,0)] [ap,al,l,m]) (λg=>g.1<=u.parts.length/\(u.parts.take g.1).all (nw<|ec u::us)=ad) (λg=>u.parts.length-g.1) (0,0) ⟨dw _,O⟩ (sc O<|sc O<|sc O<|sc O<|sc O sn) (λ_ h=>(Wt 2<|(h.f 2 O).f 1 O:)) λg ⟨bn,R⟩=>ak<|V0 (c8 O O)<|ag<|Cs ?_;refine Cc O (λS=>?_)<|λS=>?_
 ·have A:g.1<u.parts.length:=by simpa using S
  obtain ⟨x,E⟩:∃q,u.parts[g.1]? = aa q:=⟨_,cy A⟩;obtain ⟨bo,bq,a3,a4⟩:=o.parts.ct g.1 x E;obtain ⟨T,a5,a7⟩:=a4;refine ay<|Cs<|Cb<|ak<|V0 (Yo xN O O a3 A)<|V0 (eB 2 DV O O O<|a5) ?_;refine Al Y O By λbr=>aw 0 Y O O O Hd O O O<|ag<|Cs<|Cs<|hk 0 (aY (yI x T).toArray 107 (0,0)) O O<|Cr<|V0 (Yf mh O)<|V0 (Yd 0 O O O ah)<|V0 (c8 O O)<|ab O ?_;apply Lo 3 O O O O Y O O O O O;·intro bs;refine Vg (Yf mh O)<|Vg (Yd 0 O O O ah)<|Vg (eZ O O) ?_;exact Gt 3 O O O
  refine ab O ?_;apply Lo 3 O O O O Y O O O O O;·intro bt;refine Vg (Yf DS O)<|Vg (Yd 0 O O O ah)<|Vg (c8 O O) ?_;exact Gt 3 O O O
  refine ab O ?_;apply Lo 3 O O O O Y O O O O O;·intro bv;refine Vg (Yf DS O)<|Vg (Yd 0 O O O ah)<|Vg (eZ O O) ?_;exact Gt 3 O O O
  refine ag<|Cc O (λG=>?_)<|λG=>?_;·have B:nw (ec u::us) x=aq:=adQ G;refine ak<|au O<|ag<|bu<|Er<|aU<|Er<|Er<|aU<|Er ?_;refine R1 O O λv d=>⟨by rw [jY,Az E B];simp,d.fr⟩
  have ax:=adR (kn:=ec u::us) G;have bw:0<=x.params/\x.params<=3/\0<=x.locals/\x.locals<=4:=by simp only [kG,mC] at G;omega
  refine ay<|ak<|ab O<|V0 (Yf mh O)<|V0 (Yd 0 O O O ah)<|V0 (Yf DS O)<|V0 (Yd 0 O O O ah)<|V0 (pK O O (by omega))<|V0 (bS O) ?_;refine V0 (Yf LL O)<|aw 1 Y O O O eE O O O<|ag<|Cs<|hk 1 (aY #[aE p (ec u::us).length t,am an (x.params+x.locals)] 350 (0,0)) O O<|Cr<|ab O<|V0 (Yf LK O)<|V0 (Yd 0 O O O ah) ?_;refine Lp Y O bp O (λw d=>TA (hv w) (hv w) Q p t (ec u::us) (x.params+x.locals) l ke k x.body T.1 T.2 1 w (kZ w) (kZ w) (gR (d.qF 1 O) O) (gR (d.qF 1 O) O) (av w (d.vs _ (by simp)) (d.vs _ (by simp))<|d.vs _ (by simp)) (d.vs _ (by simp)) a7 (by omega))<|V0 (ih O)<|ag ?_;refine Cc O (λU=>?_)<|λU=>?_
  ·have B:nw (ec u::us) x=aq:=by rw [ax];simpa using U
   refine ak<|au O<|ag<|bu<|aU<|Er<|Er<|aU<|Er ?_;refine R1 O O λv d=>⟨by rw [jY,Az E B];simp,d.fr⟩
  have B:nw (ec u::us) x=ad:=by rw [ax];simpa using U
  refine Ck<|Eb<|Et<|Cr<|V0 (Yi O O O (by omega))<|ab O<|Ln ?_;exact Ea ((g.1+1,x.params+x.locals):Z×ac) (by show _-(g.1+1)<_;omega) ⟨by show g.1+1<=_;omega,l4 E R B⟩ (sc O<|sc O<|sc O<|sc O<|sc O sn)<|λ_ h=>Wd 1 h
 have bx:¬g.1<u.parts.length:=by simpa using S
 rw [mz (by omega)] at R;refine Ce<|Ex<|Ex<|ee<|Et<|ak<|ab O<|V0 (bS O)<|V0 (Yf LL O)<|aw 0 Y O O O eE O O O<|ag<|Cs<|hk 0 (aY #[aE p (ec u::us).length t,am an 0] 350 (0,0)) O O ?_;refine Cr<|ab O<|V0 (Yf G7 O)<|V0 (Yd 1 O O O ah)<|Lp Y O bp O (λw d=>TA (hv w) (hv w) Q p t (ec u::us) 0 l ke k u.main r.s3.1 r.s3.2 1 w (kZ w) (kZ w) (gR (d.qF 0 O) O) (gR (d.qF 0 O) O) (av w (d.vs _ (by simp)) (d.vs _ (by simp))<|d.vs _ (by simp)) (d.vs _ (by simp)) o.main (by omega))<|au O<|ag<|bu ?_;refine R1 O O λv d=>⟨by rw [jY,OU J K,ae,R];rfl,d.fr⟩
def adW {α:Type} {l:I α}  {x:α} {p:α->Prop} (b:l[bE]? = aa x) (h:∀y ∈ l.take bE,p y) (c:p x):∀y ∈ l.take (bE+1),p y:=by
 intro y a;rw [l3 b] at a;rcases fe.1 a with a | a;·exact h y a
 ·rw [e_] at a;subst a;exact c
def adX (ke k:Z) (a:View) (b o:Z) (u:aI):Prop:=∃r:p0,cB a b o (ij u r)/\dY ke k a r u
variable {df:I aI}
def TF (h:df[bE]? = aa eA):(fR df)[bE]? = aa eA.nm:=by unfold fR;rw [fp,h];rfl
def DX (l:I aI):(fR l).length=l.length:=by simp [fR]
variable {bR:Tx}
def adY (a:df[bE]? = aa eA) (c:bR ∈ eA.aN) (h:bR ∉ (fR df).take bE):uy df=aq:=by cases d:uy df with| false=>rfl| true=>have b:=gA.1 d bE<|yb.2 (cN.1 a).1;rw [a] at b;have e:=gA.1 b bR c;exact absurd (by simpa using e) h
def adZ (h:∀(n:Z) u,df[n]? = aa u->∀s ∈ u.aN,s ∈ (fR df).take n):uy df=ad:=by refine gA.2 λn b=>?_;have a:=yb.1 b;rw [cy a];refine gA.2 λs c=>?_;simpa using h n _ (cy a) s c
def TG (a:ac) (h:df[bE]? = aa eA):c_ (df.drop bE) a=(!(decide (eA.data<0)||decide (a<eA.data))&&c_ (df.drop<|bE+1) (a-eA.data)):=by obtain ⟨b,c⟩:=cN.1 h;rw [qr b,c];rfl
def DY (l:I aI) (s:Tx):e7:=match idxOf s (fR l) 0 with| aa i=>(l[i]?.map ec).getD nZ| ao=>nZ
def TH (l:I aI) (u:aI):fV l u=u.aN.map (DY l):=rfl
def ad0 (g:(fR df).Nodup)   (d:bR ∈ (fR df).take bE):∃p z,idxOf bR (fR df) 0=aa p/\p<bE/\df[p]? = aa z:=by
 cases f:idxOf bR (fR df) 0 with
 | none=>exact absurd (BX d)<|sd.1 f
 | some p=>
  obtain ⟨j,a⟩:=jd d;rw [jF] at a;split at a;·rename_i h;have b:=(se f).2;rw [qp] at b;have c:=(cN.1 b).1;have e:p=j:=(ib c g).1<|b.trans a.symm;rw [DX] at c;exact ⟨p,_,O,ai,cy c⟩
  ·cases a
def ad1 (a:idxOf bR (fR df) 0=aa bE) (b:df[bE]? = aa eA):DY df bR=ec eA:=by unfold DY;rw [a];show (aA.map ec df[bE]?).getD nZ=ec eA;rw [b];rfl
def TI (h:jY eA kM=ad):p2 eA=aq:=by unfold jY at h;cases a:p2 eA with| false=>rfl| true=>rw [a] at h;simp at h
def TJ {M:I<|fz Tx}  (h:vJ (fR df) df.length M bE):(M.length<df.length->g6 (fR df)=ad)/\(¬M.length<df.length->(fR df).Nodup/\M=jy (fR df) 0):=by
 have d:=h.ot;rw [<-DX df,gH] at d;rcases d with ⟨b,a,_⟩ | ⟨b,a⟩;·refine ⟨λc=>?_,λ_=>⟨b,a⟩⟩;rw [a,Jh,DX] at c;omega
 ·rw [DX] at a;exact ⟨λ_=>by rw [kK] at b;simpa using b,λc=>absurd a c⟩
def oV:g_ aC 71=aa 5:=ah
def ad2 (r:View) (ke k:Z) (a:aA a6) (c:Z) (l:I aI) (w:aP) (bf:Le r w) (D:Sl (adX ke k) 5 r a c l) (bg:∀u ∈ l,u.aN.length<=1048576) :
   cx aC 94 #[aE a l.length c] w λe x=>e = cf (am an<|lS l)/\Ext w x:=by
 have b6:=D.cap;have b7:=D.max;refine enter func94 O 110 O O<|CE (Vs:=[r]) (Ws.init (by simp [bf]))<|ak<|au O<|ag<|Cs<|ak<|ab O<|V0 (Yn oV O)<|V0 (c8 O O)<|ab O ?_;apply Lo 3 O O O O Y O O O O O;·intro b9;refine Vg (Ym O)<|Vg (Yn oV O)<|Vg (eZ O O) ?_;exact Gt 3 O O O
 refine ag<|Cc O (λN=>?_)<|λN=>?_;·refine ak<|au O<|ag<|bu<|Er ?_;refine R1 O O λx d=>⟨by rw [lS,aD N],d.fr⟩
 have E:¬(decide ((l.length:ac)<1)||decide (4<(l.length:ac)))=ad:=by rw [N];decide
 have b':l.length<=4:=by simp at N;omega
 refine ay<|ak ?_;refine WL.pT st Y O λae=>au O<|ag<|Cs<|ak<|ab O<|V0 (Yn oV O)<|ab O<|ag<|Cb ?_;refine f_ (ι:=Z×I (fz Tx)×Z) (λb=>[(27,am an (b.1:ac))]) [(0,_),(3,_),(25,_),(26,_)] (λb=>Ws w [] [aQ ae<|dT st b.2.1 b.2.2] [r]) (λb=>b.1<=l.length/\vJ (fR l) b.1 b.2.1 b.2.2/\∀(n:Z) v,n<b.1->l[n]? = aa v->∀s ∈ v.aN,s ∈ (fR l).take n) (λb=>l.length-b.1) (0,[],0) ⟨dw _,Xi _,λn v h=>absurd h<|EJ _⟩ a' λb ⟨b_,A,P⟩=>ak<|V0 (c8 O O)<|ag<|Cs ?_;refine Cc O (λaf=>?_)<|λaf=>?_
 ·have m:b.1<l.length:=by simpa using af
  obtain ⟨u,o⟩:=bk m;obtain ⟨a8,a9,G,H⟩:=D.ct b.1 u o;obtain ⟨B,K,t⟩:=H;have bh:=t.aN.cap;have bi:=t.aN.max;have a_:=TF o;refine ay<|Cs<|Cb<|ak<|ab O<|V0 (Yo oV O O G m)<|V0 (eB 0 mY O O O<|K) ?_;refine Al Y O sU λca=>au O<|aw 0 Y O O O sV O O O<|ag<|Cs<|Cs<|hk 0 (aY (ij u B).toArray 37 (0,0)) O O<|Cr<|V0 (Yf zz O)<|V0 (Yd 0 O O O ah)<|V0 (Yn gf O) ?_;refine ab O<|ag<|Cb ?_;refine pL (ι:=Z) (λj=>[(35,am an (j:ac))]) [(0,_),(3,_),(4,_),(5,_),(25,_),(26,_),(27,_),(33,_),(34,_)] (λj=>j<=u.aN.length/\∀s ∈ u.aN.take j,s ∈ (fR l).take b.1) (λj=>u.aN.length-j) 0 ⟨dw _,aK⟩ λj ⟨cc,Q⟩=>ak<|V0 (c8 O O)<|ag<|Cs ?_;refine Cc O (λal=>?_)<|λal=>?_
  ·have m:j<u.aN.length:=by simpa using al
   obtain ⟨s,ap⟩:=bk m;obtain ⟨bj,pos,bl,av⟩:=t.aN.ct j s ap;have av:cB r bj (pos+j*1)<|g4 s:=av;obtain ⟨v,hv,L⟩:=A.mem s;refine ay<|Cs<|Cb<|ak<|V0 (Yo gf O O bl m)<|V0 (ew 0 ah O O<|av 0 _ O)<|au O<|ag<|ak<|ab O<|ab O<|V0 (rj 1 jx js ah lY O O O) ?_;rw [hv];refine V0 (bY O O)<|ag ?_;refine Cc O (λax=>?_)<|λax=>?_;·have az:s ∉ (fR l).take b.1:=L.1 (by simpa using ax);refine ak<|au O<|ag<|bu<|aU<|Er<|Er<|aU<|Er<|aU<|Er<|Er<|aU<|Er ?_;refine R1 O O λx d=>⟨by rw [lS,aj E,aD<|adY o (aW ap) az],d.fr⟩
   have aB:s ∈ (fR l).take b.1:=by
    have aF:¬v=0:=by simpa using ax
    exact Ic λh=>aF<|L.2 h
   refine Ck<|Eb<|Et<|Cr<|V0 (Yi O O O ai)<|ab O<|Ln ?_;exact ep (j+1) ai ⟨ai,adW ap Q aB⟩ a'
  have bm:j=u.aN.length:=by simp at al;omega
  rw [bm,gH] at Q;obtain ⟨v,hv,L⟩:=A.mem u.nm;refine Ce<|Ex<|Ex<|ee<|Et<|ak<|ab O<|V0 (Yf Bz O)<|V0 (Yd 0 O O O ah)<|V0 (rj 1 jx js ah lY O O O) ?_;rw [hv];refine V0 (bY O O)<|ag ?_;refine Cc O (λaG=>?_)<|λaG=>?_
  ·have az:u.nm ∉ (fR l).take b.1:=L.1 (by simpa using aG);have aH:=A.new a_ az;refine Cr<|ab O<|V0 (Yf Bz O)<|V0 (Yd 0 O O O ah)<|ab O<|V0 (Yi O O O ai) ?_;refine WL.rk 1 jx Y js ah O O O O<|Ln<|Eb<|Et<|Cr<|V0 (Yi O O O ai)<|ab O<|Ln ?_;exact ep ((b.1+1,gB u.nm (am an ((b.1+1:Z):ac)) b.2.1 b.2.2,kc u.nm b.2.1 b.2.2):Z×I (fz Tx)×Z) (by show _-(b.1+1)<_;omega) ⟨by show b.1+1<=_;omega,aH,λn v aL hv s C=>by
    rcases oq.1 aL with h | h;·exact P n v h hv s C
    ·subst h;rw [o] at hv;injection hv with hv;subst hv;exact Q s C⟩<|λ_ h=>Wd 1 h
  have aB:u.nm ∈ (fR l).take b.1:=by
   have aF:¬v=0:=by simpa using aG
   exact Ic λh=>aF<|L.2 h
  have aH:=A.old a_ aB;refine Ck<|Eb<|Et<|Cr<|V0 (Yi O O O ai)<|ab O<|Ln ?_;exact ep ((b.1+1,b.2):Z×I (fz Tx)×Z) (by show _-(b.1+1)<_;omega) ⟨by show b.1+1<=_;omega,aH,λn v aL hv s C=>by
   rcases oq.1 aL with h | h;·exact P n v h hv s C
   ·subst h;rw [o] at hv;injection hv with hv;subst hv;exact Q s C⟩<|λ_ h=>Wd 1 h
 have bn:b.1=l.length:=by simp at af;omega
 rw [bn] at A;have S:uy l=ad:=adZ λn v hv s C=>P n v (by have:=(cN.1 hv).1;omega) hv s C;refine Ce<|Ex<|Ex<|ee<|Et<|Cs<|ak<|ab O<|V0 (E9 0 js O O)<|ab O<|V0 (Yn oV O)<|V0 (c8 O O)<|ag ?_;refine Cc O (λaM=>?_)<|λaM=>?_;·have M:=(TJ A).1 (by simp at aM;omega);refine ak<|au O<|ag<|bu<|Er ?_;refine R1 O O λx d=>⟨by rw [lS,aj E,aj (by rw [S];decide),aD M],d.fr⟩
 obtain ⟨ba,bo⟩:=(TJ A).2 (by simp at aM;omega);have M:=kK.1 ba;refine ay<|ak<|au O<|ag<|Cs<|ak<|ab O<|V0 (Yn oV O)<|ab O<|ag<|Cb ?_;refine pL (ι:=Z×ac) (λg=>[(62,am an (g.1:ac)),(8,am an g.2)]) [(0,_),(3,_),(60,_),(61,_)] (λg=>g.1<=l.length/\(0<=g.2/\g.2<=512)/\c_ (l.drop g.1) g.2=c_ l 512) (λg=>l.length-g.1) (0,512) ⟨dw _,ai,O⟩ λg ⟨cd,ce,aO⟩=>ak<|V0 (c8 O O)<|ag<|Cs ?_;refine Cc O (λaT=>?_)<|λaT=>?_
 ·have m:g.1<l.length:=by simpa using aT
  obtain ⟨u,o⟩:=bk m;obtain ⟨a8,a9,G,H⟩:=D.ct g.1 u o;obtain ⟨B,K,t⟩:=H;refine ay<|Cs<|Cb<|ak<|V0 (Yo oV O O G m)<|V0 (eB 0 mY O O O<|K) ?_;refine Al Y O sU λch=>aw 0 Y O O O sV O O O<|ag<|Cs<|Cs<|hk 0 (aY (ij u B).toArray 37 (0,0)) O O<|Cr<|V0 (Yf vb O)<|V0 (Yd 0 O O O ah)<|V0 (c8 O O)<|ab O ?_;apply Lo 4 O O O O Y O O O O O;·intro ci;refine Vg (Yf vb O)<|Vg (Yd 0 O O O ah)<|Vg (Ym O)<|Vg (eZ O O) ?_;exact Gt 4 O O O
  refine ag<|Cc O (λT=>?_)<|λT=>?_
  ·have U:c_ l 512=aq:=by rw [<-aO,TG _ o,show (decide (u.data<0)||decide (g.2<u.data))=ad from T];rfl
   refine ak<|au O<|ag<|bu<|Er<|aU<|Er<|Er<|aU<|Er ?_;refine R1 O O λx d=>⟨by rw [lS,aj E,aj (by rw [S];decide),aj (by rw [M];decide),aD U],d.fr⟩
  have bq:c_ (l.drop<|g.1+1) (g.2-u.data)=c_ l 512:=by rw [<-aO,TG _ o,show (decide (u.data<0)||decide (g.2<u.data))=aq from T];rfl
  have cj:0<=u.data/\u.data<=g.2:=by simp only [kG,mC] at T;omega
  refine ay<|Cr<|ab O<|V0 (Yf vb O)<|V0 (Yd 0 O O O ah)<|V0 (EQ O O ai)<|au O<|Ln<|Eb<|Et<|Cr<|V0 (Yi O O O ai) ?_;refine ab O<|Ln ?_;exact ep ((g.1+1,g.2-u.data):Z×ac) (by show _-(g.1+1)<_;omega) ⟨by show g.1+1<=_;omega,by show 0<=g.2-u.data/\g.2-u.data<=512;omega,bq⟩<|λ_ h=>Wd 1 h
 have br:g.1=l.length:=by simp at aT;omega
 have U:c_ l 512=ad:=by rw [<-aO,br,wL];rfl
 refine Ce<|Ex<|Ex<|ee<|Et<|Cs<|ak<|ab O<|V0 (Yn oV O)<|ab O<|ag<|Cb ?_;refine f_ (ι:=Z) (λi=>[(82,am an (i:ac))]) [(0,_),(3,_),(80,_),(81,_)] (λi=>Ws w [] [aQ ae<|dT st b.2.1 b.2.2] [r]) (λi=>i<=l.length/\(l.take i).all (λu=>jY u<|fV l u)=ad) (λi=>l.length-i) 0 ⟨dw _,O⟩ a' λi ⟨ck,W⟩=>ak<|V0 (c8 O O)<|ag<|Cs ?_;refine Cc O (λaV=>?_)<|λaV=>?_
 ·have m:i<l.length:=by simpa using aV
  obtain ⟨u,o⟩:=bk m;obtain ⟨a8,a9,G,H⟩:=D.ct i u o;obtain ⟨B,K,t⟩:=H;have bh:=t.aN.cap;have bi:=t.aN.max;have bs:=bg u<|aW o;have cl:i<l.length:=m;refine ay<|Cs<|Cb<|ak<|V0 (Yo oV O O G m)<|V0 (eB 0 mY O O O<|K) ?_;refine Al Y O sU λbt=>aw 0 Y O O O sV O O O<|ag<|Cs<|hk 0 (aY (ij u B).toArray 37 (0,0)) O O<|Cr<|au O<|LW (λ_ h=>h.hM 276 3) ?_;refine WL.v0<|ag<|Cs<|ak<|V0 (Yf zz O)<|V0 (Yd 1 O O O ah)<|V0 (Yn gf O)<|ab O<|ag<|Cb ?_;refine f_ (ι:=GX XK) (λg=>[(89,am an (g.i:ac)),(13,aE g.a g.es.length g.c)]) [(0,_),(3,_),(12,_),(80,_),(81,_),(82,_),(87,_),(88,_)] (λg=>Ws w [] [cQ 276 3 XK.cells g.a g.c g.es,aQ bt<|aY (ij u B).toArray 37 (0,0),aQ ae<|dT st b.2.1 b.2.2] [g.J,r]) (λg=>g.i<=u.aN.length/\g.es.map (·.1)=(u.aN.take g.i).map (DY l)/\(hf w g.J/\Xs sY g.J g.es)) (λg=>u.aN.length-g.i) ⟨0,[],ao,0,v0⟩ ⟨dw _,O,⟨fK w,Xs.nil _⟩⟩ (λ_ h=>by have h:=Ws.aZ h (cI:=[v0,r]) aK;exact h) λg ⟨hi,aX,⟨bv,bb⟩⟩=>ak<|V0 (c8 O O)<|ag<|Cs ?_;refine Cc O (λa0=>?_)<|λa0=>?_
  ·have m:g.i<u.aN.length:=by simpa using a0
   obtain ⟨y,a1⟩:=bk m;obtain ⟨bw,bx,bz,a2⟩:=t.aN.ct g.i y a1;have a2:cB r bw (bx+g.i*1)<|g4 y:=a2;have cm:=DO aX hi;obtain ⟨p,z,bc,bA,X⟩:=ad0 ba<|P i u ai o y<|aW a1;obtain ⟨co,cp,bC,bD,bE,bF⟩:=D.ct p z X;have bG:=(cN.1 X).1;have bI:jY z (fV l z)=ad:=gA.1 W z<|aW (by rw [jF,aD bA];exact X);have bJ:(DY l y)=ec z:=ad1 bc X;refine ay<|Cs<|Cb<|ak<|V0 (Yo gf O O bz m)<|V0 (ew 1 ah O O<|a2 0 _ O)<|au O<|ag<|Cr<|ab O<|ab O<|ab O ?_;refine ab O<|V0 (rj 2 jx js ah lY O O O) ?_;rw [bo,OD,bc];show WL _ _ _ _ _ ((_,am an ((p+1:Z):ac))::_) _ _;refine V0 (EQ O O ai) ?_;rw [show ((p+1:Z):ac)-1=(p:ac) by omega];refine V0 (Yo oV O O bC bG)<|V0 (eB 1 mY O O O<|bE) ?_;refine Ld Y O bp O (λq:aA a6×Z=>b0 ((ec z).cells q).toArray) (λF q=>sY F (ec z,q)) (λw d=>TD r ke k z bD w d.V bF (by have:=(TC<|TI bI).1;omega)) λcq a3 bK bL=>WL.cb λbM bN bO bP=>Lb Y O DW O O O O λcr=>eb 0 (aY (XK.cells (ec z,a3)).toArray 276 (0,0)) O O<|LA ((ec z,a3):XK) 1 0 Y O DW O O O O O O ai ai λbQ bR=>au O<|Ln<|Eb<|Et<|Cr<|V0 (Yi O O O ai)<|ab O<|Ln ?_;exact ep (⟨g.i+1,g.es++[(ec z,a3)],bQ,bR,bM⟩:GX XK) (by show _-(g.i+1)<_;omega) ⟨by show g.i+1<=_;omega,DN aX a1 bJ.symm,⟨bP _ bK bv,Xs.snoc (R:=sY) (λhv h=>sY.mv hv h) bb bO bN bL⟩⟩<|λ_ h=>Wd 1 h
  have bS:g.i=u.aN.length:=by simp at a0;omega
  refine Ce<|Ex<|Ex<|ee<|Et<|Cs ?_;refine WC.qD (rd:=DU) 0 O (λ_ bT=>by cases bT) XK.dR iH λbU cs bV=>?_;have a4:=DP aX bS;rw [<-TH] at a4;have bX:(fV l u).length=g.es.length:=by rw [<-a4,fB]
  have bZ:(fV l u).length<=1048576:=by rw [TH,fB];exact bs
  have b1:∀w,Le bU w->Le g.J w->Sl rt 3 (hv w) g.a g.c (fV l u):=λw b2 b3=>by rw [<-a4];exact F9 bV (o5 b2) λe b4=>sY.mv (o5 b3)<|bb e b4
  refine Cr<|V0 (dW 0 O O mY O)<|ab O ?_;refine Lp Y O bp O (λw d=>by have bd:=TE r (hv w) ke k u B (fV l u) g.a g.c w (d.vs r aK) (kZ w) t (b1 w d.V d.V) bZ;rw [bX] at bd;exact bd)<|V0 (ih O)<|ag ?_;refine Cc O (λa5=>?_)<|λa5=>?_
  ·have a7:jY u (fV l u)=aq:=by simpa using a5
   refine ak<|au O<|ag<|bu<|aU<|Er<|Er<|aU<|Er ?_;refine R1 O O λx d=>⟨by rw [lS,aj E,aj (by rw [S];decide),aj (by rw [M];decide),aj (by rw [U];decide),aj (by rw [Az (f:=λu=>jY u<|fV l u) o a7];decide)],d.fr⟩
  have a7:jY u (fV l u)=ad:=by simpa using a5
  refine Ck<|Eb<|Et<|Cr<|V0 (Yi O O O ai)<|ab O<|Ln ?_;exact ep (i+1) ai ⟨ai,l4 (f:=λu=>jY u<|fV l u) o W a7⟩<|λ_ h=>Ws.aZ (Wd 1 h)<|λ_ b5=>s_ [_,_] b5
 have cu:¬i<l.length:=by simpa using aV
 rw [mz ai] at W;refine Ce<|Ex<|Ex<|ee<|Et<|ak<|au O<|ag<|bu ?_;refine R1 O O λx d=>⟨by rw [lS,aj E,aj (by rw [S];decide),aj (by rw [M];decide),aj (by rw [U];decide),aD W],d.fr⟩
def sZ (T:cn) (f:FuncId) (vs:I aR) (d:I View) (c e:Z) (h:Gs->Gs) (v:Gs->aR):Prop:=Enters aC f/\∀(a:Z) (b:rz) (t:pk) (w:aP),t.g.code.length+c<=1000000000000->t.g.fix.length+e<=1000000000000->Ws w (c6 bh.ids<|jz T 62 198 a b t) (jz T 62 198 a b t) d w-> cx aC f (b8 (aa ⟨a,0,ao⟩)::vs).toArray w λe i=>∃q:SP×SP,e = cf (v t.g)/\Ws w (c6 bh.ids<|jz T 62 198 a b t) (jz T 62 198 a b ⟨h t.g,q.1,q.2⟩) d i
def gz {T:TypeId} {f:FuncId} {vs:List Value} {i:List View} {c e:Nat} {j:Gs->Gs} {v:Gs->Value} {ops:Array Oper} {Q:Exit->Act->World->Prop} {n:Nat} {ds:List Deferred} {l:List<|Nat×Value} {o:World} {F:List Nat} {L L2:List bh} {Vs:List View} {rest:List Oper} {d:Nat} {ty:TypeId} {pos:String} {af:Array Edge} {g:Option<|Nat×Bool} {args:Array Operand} {ts:Array TypeId} {b:Nat} {h:rz} {a:Gs} {a1 k:Option Addr} {a2 m:Nat} (hC:sZ T f vs i c e j v) (p:∀q:SP×SP,WL prog ops Q n ds ((d,v a)::l) (Ws o F ((jz T 62 198 b h ⟨j a,q.1,q.2⟩)++L2) Vs) rest) (r:h' l args.toList=some (.pointer (some ⟨b,0,none⟩)::vs):=by rfl) (hL:L=(jz T 62 198 b h (⟨a,(a1,a2),(k,m)⟩:pk))++L2:=by rfl) (s:a.code.length+c<=1000000000000:=by first|omega|(simp only [si];omega)|(simp;omega)) (t:a.fix.length+e<=1000000000000:=by first|omega|(simp only [si];omega)|(simp;omega)) (u:∀X ∈ i,X ∈ Vs:=by simp) (x:eS ops l g:=by first|exact .inl rfl|exact .inr ⟨_,_,_,rfl,rfl,rfl⟩) (y:Nat.blt d n=true:=by rfl):WL prog ops Q n ds l (Ws o F L Vs)<|⟨some d,.call ⟨.value<|.func f,args,ts⟩,ty,pos,af,g⟩::rest:= Lw (ι:=SP×SP) (jz T 62 198 b h (⟨a,(a1,a2),(k,m)⟩:pk)) L2 x y hC.1 r hL (λ_=>v a) (λq=>jz T 62 198 b h ⟨j a,q.1,q.2⟩) (λ_=>True) i u (λw z=>(hC.2 b h (⟨a,(a1,a2),(k,m)⟩:pk) w s t z).mono λe C ⟨q,A,B⟩=>⟨q,A,trivial,B⟩)<|λq _=>p q
def pE:aT aC 190 0=aa 0:=ah
def ed:aT aC 77 3=aa 3:=ah
def ci:ii aC 55 62 (b0 #[am an 0,am an 0,am an 0]) 3 24:=j_ ah
def C6:e2 aC 55=aa 1:=ah
def hE:g_ aC 55=aa 3:=ah
def DZ:aT aC 77 4=aa 4:=ah
def ad3:hW aC 198=aa [(0,1),(1,1),(2,1)]:=ah
def He:zeroOf aC 198=aa (b0 #[am an 0,am an 0,am an 0]):=ah
def TK:ii aC 75 198 (b0 #[am an 0,am an 0,am an 0]) 3 24:=j_ ah
def ad4:e2 aC 75=aa 1:=ah
def xk:i2 aC 62=aa 3:=ah
def i6:hW aC 62=aa [(0,1),(1,1),(2,1)]:=ah
def iq:zeroOf aC 62=aa (b0 #[am an 0,am an 0,am an 0]):=ah
def kN:aT aC 62 1=aa 1:=ah
def nM {l:I cK}  (b:Sl kj 3 bN cq bE l):sZ 190 165 [aE cq l.length bE] [bN] l.length 0 (dg l)<|λ_=>cO #[]:=by refine ⟨bp,λe f t w h i a=>?_⟩;have j:=b.cap;have k:=b.max;refine enter func165 O 15 O O<|CE a<|Cr<|ab O<|ab O<|V0 (bS O)<|V0 (Yf pE O)<|V0 (Yf ed O)<|V0 (Yd 0 O O O ah) ?_;refine ab O<|WL.wZ (xs:=t.g.code) (ys:=l) 1 (λ_=>bN) Y O ci O O O (λw a=>⟨a.vs bN aK,b⟩) iH cK.dR cK.one ai ai λc d=>V0 (bS O)<|V0 (Yf pE O)<|V0 (Yf ed O)<|aw 0 Y O O O C6 O O O<|Ln ?_;refine E0 O λm a=>⟨((c,d),t.fa),O,a⟩
def BB   (i:cK) (kind m:ac)  : sZ 190 281 [b0 i.cells.toArray,am an kind,am an m] [] 1 1 (dk i kind m)<|λs=>am an (s.code.length:ac):=by refine ⟨bp,λc a t w o p b=>?_⟩;refine enter func281 O 36 O O<|CE b<|ak ?_;refine WL.box Y O O λj=>au O<|ag<|ak<|ab O<|V0 (bS O)<|V0 (Yf pE O)<|V0 (Yf ed O)<|V0 (Yd 1 O O O ah)<|V0 (Yn hE O) ?_;refine au O<|ag<|ak<|ab O<|ab O<|V0 (bS O)<|V0 (Yf pE O)<|V0 (Yf DZ O)<|V0 (Yd 1 O O O ah) ?_;refine ab O<|ab O<|ab O<|V0 (Yb He ad3 O O) ?_;refine Lb Y O TK O O O O λq=>eb 0 (aY (ho.cells ⟨(t.g.code.length:ac),kind,m⟩).toArray 198 (0,0)) O O<|LA (⟨(t.g.code.length:ac),kind,m⟩:ho) 4 0 Y O TK O O O O O O ai ai λd e=>V0 (bS O)<|V0 (Yf pE O)<|V0 (Yf DZ O)<|aw 2 Y O O O ad4 O O O<|ag<|Cs<|hk 2 (iJ 190 a (⟨⟨t.g.code,t.g.fix++[(⟨(t.g.code.length:ac),kind,m⟩:ho)]⟩,t.ca,(d,e)⟩:pk)) O O ?_;refine pI (W':=Ws w (c6 bh.ids<|jz 190 62 198 c a t) ((jz 190 62 198 c a (⟨⟨t.g.code,t.g.fix++[(⟨(t.g.code.length:ac),kind,m⟩:ho)]⟩,t.ca,(d,e)⟩:pk))++[aQ j<|aY i.cells.toArray 62 (0,0)]) []) (λ_ h=>by exact (Wt 4<|(((h.f 1 O).f 4 O).f 4 O).f 4 O:))<|Cr<|ab O<|V0 (dW 3 O O xk O) ?_;refine Lb Y O ci O O O O λr=>WL.m6 (rd:=kj) (f:=cK.cells) (k:=3) (m:=1) 0 [i] O O cK.dR iH aK a8 λu l=>gz (nM l) λn=>ag<|ak<|ab O<|au O<|ag<|bu ?_;refine R1 O O λv b=>⟨n,O,Wv 1<|Wt 3 b⟩
def ad5 (a:Z) (b:rz) (t:pk) (op:ac) (w:aP) (k:t.g.code.length+1<=1000000000000) (l:t.g.fix.length+1<=1000000000000) (c:Ws w (c6 bh.ids<|jz 190 62 198 a b t) (jz 190 62 198 a b t) [] w) : cx aC 284 #[b8 (aa ⟨a,0,ao⟩),am an op] w λe d=>∃q:(SP×SP)×Z×Z,e = cf (.func (.func 333) #[] #[b8 (aa ⟨q.2.1,0,ao⟩),b8 (aa ⟨q.2.2,0,ao⟩)])/\Ws w (c6 bh.ids<|jz 190 62 198 a b t) ((jz 190 62 198 a b ⟨dk ⟨op,0,0⟩ 1 0 t.g,q.1.1,q.1.2⟩)++[aQ q.2.1<|aY #[b8 (aa ⟨a,0,ao⟩)] 188 (0,0),aQ q.2.2<|aY #[am an (t.g.code.length:ac)] 3 (0,0)]) [] d:=by refine enter func284 O 11 O O<|CE c<|ak ?_;refine WL.box Y O O λf=>au O<|ag<|ak<|V0 (Yd 0 O O O ah)<|ab O<|V0 (Yb iq i6 O O)<|Lf 3 O<|Lf 3 O<|Lf 3 O ?_;refine gz (BB ⟨op,0,0⟩ 1 0) λi=>Al Y O lY λj=>aw 0 Y O O O eE O O O<|ag<|ak<|V0 (wW O)<|au O<|ag<|bu ?_;refine R1 O O λd c=>⟨(i,f,j),O,by have h:=c;have h:=h.bs 4 O;have h:=h.bs 4 O;have h:=h.bs 4 O;have h:=h.bs 4 O;exact h⟩
def ad6 (a:Z) (c:rz) (t:pk) (p f n:Z) (x:cK) (w:aP) (i:t.g.code[n]? = aa x) (j:Ws w (c6 bh.ids<|(jz 190 62 198 a c t)++[aQ p<|aY #[b8 (aa ⟨a,0,ao⟩)] 188 (0,0),aQ f<|aY #[am an (n:ac)] 3 (0,0)]) ((jz 190 62 198 a c t)++[aQ p<|aY #[b8 (aa ⟨a,0,ao⟩)] 188 (0,0),aQ f<|aY #[am an (n:ac)] 3 (0,0)]) [] w) :
   cx aC 333 #[b8 (aa ⟨p,0,ao⟩),b8 (aa ⟨f,0,ao⟩)] w λe k=>e = cf (cO #[])/\Ws w (c6 bh.ids<|(jz 190 62 198 a c t)++[aQ p<|aY #[b8 (aa ⟨a,0,ao⟩)] 188 (0,0),aQ f<|aY #[am an (n:ac)] 3 (0,0)]) ((jz 190 62 198 a c ⟨eT n t.g,t.ca,t.fa⟩)++[aQ p<|aY #[b8 (aa ⟨a,0,ao⟩)] 188 (0,0),aQ f<|aY #[am an (n:ac)] 3 (0,0)]) [] k:=by have m:=(cN.1 i).1;refine enter func333 O 16 O O<|CE j<|WC.tf 1 O ai λo l q r=>WC.nS 1 [(0,ad),(1,ad),(2,ad),(3,ad),(4,ad),(5,ad),(6,ad),(7,ad),(8,ad),(9,ad),(10,ad),(11,ad),(12,ad),(13,ad),(14,aq)] mixed ah (λ_ _ _ d _ h=>by cases d<;>exact h)<|D0 O (Wp 1) (Yd 2 O O O ah)<|D0 O (Wp 1) (bS O)<|D0 O (Wp 1) (Yf pE O)<|D0 O (Wp 1) (Yf ed O)<|D0 O (Wp 1) (Yd 0 O O O ah)<|D0 O (Wp 1) (Yd 3 O O O ah)<|D0 O (Wp 1) (Yd 2 O O O ah)<|D0 O (Wp 1) (bS O) ?_;refine D0 O (Wp 1) (Yf pE O)<|D0 O (Wp 1) (Yf ed O)<|D0 O (Wp 1) (Yd 0 O O O ah)<|D0 O (Wp 1) (Yn hE O)<|D0 O (Wp 1) (Yo hE O O l m)<|D0 O (Wp 1) (Yf kN O) ?_;refine De O (Wp 1)<|WL.storeT (y:=x) 1 n 1 (⟨x.op,(t.g.code.length:ac),x.b⟩:cK) Y O O O l O cK.dR i eE O O a8 O<|Ln<|Ed ?_;refine WD.nil (Wp 1)<|E0 O λk j=>?_;rw [ahG i];exact ⟨O,j.pS 0 O (show aQ a (iJ 190 c t)=aQ a (iJ 190 c ⟨{ t.g with code:=t.g.code.set n ⟨x.op,(t.g.code.length:ac),x.b⟩ },t.ca,t.fa⟩) by simp [iJ])⟩
variable {az:ac} {tc:bH cg} {q_:di->cY->aP->Prop} {vw:I fw} {a_:I<|Z×aR} {cm:aP} {cS:I Z} {dG BC:I bh} {fh:I View} {aH:I cg} {aL dl j' nP:Z} {bx:cn} {gS:fO} {hy:bH fY} {bP:aA<|Z×aS} {hc:bH ei} {jU:bH cn} {Ek:rz} {dH:Gs} {xO:aA a6}
def zA (a:∀q:(SP×SP)×Z×Z,WL aC tc q_ bE vw ((aL,.func (.func 333) #[] #[b8 (aa ⟨q.2.1,0,ao⟩),b8 (aa ⟨q.2.2,0,ao⟩)])::a_) (Ws cm cS (((jz 190 62 198 dl Ek ⟨dk ⟨az,0,0⟩ 1 0 dH,q.1.1,q.1.2⟩)++[aQ q.2.1<|aY #[b8 (aa ⟨dl,0,ao⟩)] 188 (0,0),aQ q.2.2<|aY #[am an (dH.code.length:ac)] 3 (0,0)])++BC) fh) aH) (b:h' a_ hc.toList=aa [b8<|aa ⟨dl,0,ao⟩,am an az]:=by rfl) (hL:dG=(jz 190 62 198 dl Ek (⟨dH,(cq,j'),(xO,nP)⟩:pk))++BC:=by rfl) (c:dH.code.length+1<=1000000000000:=by first|omega|(simp only [si];omega)|(simp;omega)) (d:dH.fix.length+1<=1000000000000:=by first|omega|(simp only [si];omega)|(simp;omega)) (f:eS tc a_ bP:=by first|exact bB rfl|exact be ⟨_,_,_,rfl,rfl,rfl⟩) (g:e' aL bE=ad:=by rfl):WL aC tc q_ bE vw a_ (Ws cm cS dG fh)<|⟨aa aL,.call ⟨.value<|.func 284,hc,jU⟩,bx,gS,hy,bP⟩::aH:= Lw (ι:=(SP×SP)×Z×Z) (jz 190 62 198 dl Ek (⟨dH,(cq,j'),(xO,nP)⟩:pk)) BC f g bp b hL (λq=>.func (.func 333) #[] #[b8 (aa ⟨q.2.1,0,ao⟩),b8 (aa ⟨q.2.2,0,ao⟩)]) (λq=>(jz 190 62 198 dl Ek ⟨dk ⟨az,0,0⟩ 1 0 dH,q.1.1,q.1.2⟩)++[aQ q.2.1<|aY #[b8 (aa ⟨dl,0,ao⟩)] 188 (0,0),aQ q.2.2<|aY #[am an (dH.code.length:ac)] 3 (0,0)]) (λ_=>True) [] aK (λw h=>(ad5 dl Ek (⟨dH,(cq,j'),(xO,nP)⟩:pk) az w c d h).mono λe k ⟨q,i,j⟩=>⟨q,i,trivial,j⟩)<|λq _=>a q
def xP {b:ei} {p a m:Z}                       (c:WL aC tc q_ bE vw ((aL,cO #[])::a_) (Ws cm cS (((jz 190 62 198 dl Ek ⟨eT m dH,(cq,j'),(xO,nP)⟩)++[aQ p<|aY #[b8 (aa ⟨dl,0,ao⟩)] 188 (0,0),aQ a<|aY #[am an (m:ac)] 3 (0,0)])++BC) fh) aH) (d:b9 a_ b=aa (.func (.func 333) #[] #[b8 (aa ⟨p,0,ao⟩),b8 (aa ⟨a,0,ao⟩)]):=by rfl) (f:h' a_ hc.toList=aa []:=by rfl) (hL:dG=((jz 190 62 198 dl Ek (⟨dH,(cq,j'),(xO,nP)⟩:pk))++[aQ p<|aY #[b8 (aa ⟨dl,0,ao⟩)] 188 (0,0),aQ a<|aY #[am an (m:ac)] 3 (0,0)])++BC:=by rfl) (g:m<dH.code.length:=by first|omega|(simp only [si];omega)) (i:eS tc a_ bP:=by first|exact bB rfl|exact be ⟨_,_,_,rfl,rfl,rfl⟩) (j:e' aL bE=ad:=by rfl):WL aC tc q_ bE vw a_ (Ws cm cS dG fh)<|⟨aa aL,.call ⟨.value b,hc,jU⟩,bx,gS,hy,bP⟩::aH:= WL.Xo (ι:=ef) ((jz 190 62 198 dl Ek (⟨dH,(cq,j'),(xO,nP)⟩:pk))++[aQ p<|aY #[b8 (aa ⟨dl,0,ao⟩)] 188 (0,0),aQ a<|aY #[am an (m:ac)] 3 (0,0)]) BC i j bp d f hL (λ_=>cO #[]) (λ_=>(jz 190 62 198 dl Ek ⟨eT m dH,(cq,j'),(xO,nP)⟩)++[aQ p<|aY #[b8 (aa ⟨dl,0,ao⟩)] 188 (0,0),aQ a<|aY #[am an (m:ac)] 3 (0,0)]) (λ_=>True) [] aK (λw k=>(ad6 dl Ek (⟨dH,(cq,j'),(xO,nP)⟩:pk) p a m _ w (cy g) k).mono λe l h=>⟨(),h.1,trivial,h.2⟩)<|λ_ _=>c
def qn (b:View) (k:Z):Prop:=∀⦃x:eC⦄ ⦃a:aA a6⦄ ⦃c:Z⦄,Sl (cC k) 5 b a c x.args->AI x->sZ 190 280 [b0 (dQ x a c).toArray] [b] (8*kh x) (8*kh x) (fk x) (λ_=>cO #[])
variable {jX:I eC} {ft:eC}
def zB (h:jX[bE]? = aa ft):kh ft<=jn jX:=by have:=AH h;omega
def G0 {x y:eC} (h:jX[0]? = aa x) (a:jX[1]? = aa y):kh x+kh y<=jn jX:=by have b:jn (jX.take 1)=jn (jX.take 0)+kh x:=(AH h).1;have c:jn (jX.take 2)=jn (jX.take 1)+kh y:=(AH a).1;have d:jn (jX.take 2)<=jn jX:=(AH a).2;omega
def TL (hN:∀k2,k2<bE->qn bN k2) (b:Sl (cC bE) 5 bN cq aL jX) (l:AJ jX):sZ 190 332 [aE cq jX.length aL] [bN] (8*jn jX) (8*jn jX) (rx jX)<|λ_=>cO #[]:=by
 refine ⟨bp,λe f t w u v c=>?_⟩;have y:=b.cap;have z:=b.max;refine enter func332 O 16 O O<|CE c<|ak<|ab O<|V0 (Yn iP O)<|ab O<|ag<|Cb ?_;refine f_ (ι:=Z×SP×SP) (λg=>[(8,am an (g.1:ac))]) [(0,_),(6,_),(7,_)] (λg=>Ws w (c6 bh.ids<|jz 190 62 198 e f t) (jz 190 62 198 e f ⟨rx (jX.take g.1) t.g,g.2.1,g.2.2⟩) [bN]) (λg=>g.1<=jX.length) (λg=>jX.length-g.1) (0,t.ca,t.fa) (dw _) a' λg A=>ak<|V0 (c8 O O)<|ag<|Cs ?_;refine Cc O (λd=>?_)<|λd=>?_
 ·have i:g.1<jX.length:=by simpa using d
  obtain ⟨x,a⟩:=bk i;obtain ⟨B,C,m,j⟩:=b.ct g.1 x a;obtain ⟨k2,rfl⟩:∃k2,bE=k2+1:=by cases bE with| zero=>exact j.elim| succ k2=>exact ⟨k2,rfl⟩
  obtain ⟨n,o,p,q⟩:=j;have D:=AH a;have k:=FX (jX.take g.1) t.g;have E:=k.hi;have F:=k.j0;refine ay<|Cs<|Cb<|ak<|V0 (Yo iP O O m i)<|V0 (eB 0 bZ O O O<|p) ?_;refine Al Y O Bt λG=>aw 0 Y O O O DM O O O<|ag<|hk 0 (aY (dQ x n o).toArray 53 (0,0)) O O<|Cr<|ab O<|V0 (dW 0 O O bZ O)<|Lf 3 O<|Lf 3 O ?_;refine Lf 3 O<|gz (hN k2 ai q<|l.at_ a) λr=>Ln<|Eb<|Et<|Cr<|V0 (Yi O O O ai)<|ab O<|Ln ?_;rw [<-Xk a];exact ep ((g.1+1,r):Z×SP×SP) (by show _-(g.1+1)<_;omega) (by show g.1+1<=_;omega)<|λ_ h=>(Wt 3 h:)
 have s:g.1=jX.length:=by simp at d;omega
 rw [s,gH];refine Ce<|Ex<|Ex<|ee ?_;refine E0 O λH c=>⟨g.2,O,c⟩
variable {b':ac}
def TM (hN:∀k2,k2<bE->qn bN k2) (c:Sl (cC bE) 5 bN cq aL jX) (d:AJ jX):sZ 190 283 [am an az,am an b',aE cq jX.length aL] [bN] (8*(1+jn jX)) (8*(1+jn jX)) (λs=>dk ⟨13,b',0⟩ 2 az<|rx jX s)<|λ_=>cO #[]:=by refine ⟨bp,λf h t w i j a=>?_⟩;have b:=FX jX t.g;have k:=b.hi;have l:=b.j0;refine enter func283 O 16 O O<|CE a<|ak<|ab O<|ab O ?_;refine gz (TL hN c d) λm=>ag<|Cr<|ab O<|ab O<|V0 (Yb iq i6 O O)<|ab O ?_;refine gz (BB ⟨13,b',0⟩ 2 az) λe=>Ln<|E0 O λn a=>⟨e,O,a⟩
variable {j1:ac}
def TN (hN:qn bN bE) (c:Sl (cC bE) 5 bN cq aL ft.args) (d:AI ft):sZ 190 282 [am an az,am an b',am an j1,b0 (dQ ft cq aL).toArray] [bN] (8*kh ft+1) (8*kh ft+1) (λs=>dk ⟨6,b',j1⟩ 3 az<|fk ft s)<|λ_=>cO #[]:=by refine ⟨bp,λf h t w i j a=>?_⟩;have b:=pj ft t.g;have k:=b.hi;have l:=b.j0;refine enter func282 O 19 O O<|CE a<|ak ?_;refine WL.box Y O O λm=>ag<|ak<|ab O<|V0 (dW 0 O O bZ O)<|Lf 3 O<|Lf 3 O<|Lf 3 O ?_;refine gz (hN c d) λn=>ag<|Cr<|ab O<|ab O<|ab O<|V0 (Yb iq i6 O O)<|ab O ?_;refine gz (BB ⟨6,b',j1⟩ 3 az) λe=>Ln<|E0 O λo a=>⟨e,O,Wt 3 a⟩
def ad7 {k:Z}     (p:Sl (cC k) 5 bN cq bE ft.args) (o:AI ft):sZ 190 280 [b0 (dQ ft cq bE).toArray] [bN] (8*kh ft) (8*kh ft) (fk ft)<|λ_=>cO #[]:=by
 induction k using om generalizing ft cq bE;rename_i k a5;have hN:∀k2,k2<k->qn bN k2:=λk2 h _ _ _ a7 a8=>a5 k2 h a7 a8;refine ⟨bp,λbs bt t w bv bw a=>?_⟩;have bx:=p.cap;have bz:=p.max;have bA:=Xp ft;refine enter func280 O 143 O O<|CE a<|ak ?_;refine WL.box Y O O λbC=>ag<|ak<|V0 (Yf rO O)<|V0 (Yd 0 O O O ah)<|ag<|Cb<|ak<|V0 (bY O O)<|au O<|ag ?_;refine Cc O (λR=>?_)<|λR=>?_
 ·have b:ft.op=1:=by simpa using R
  refine Cr<|ab O<|V0 (Yf pC O)<|V0 (Yd 0 O O O ah)<|V0 (Yb iq i6 O O) ?_;refine Lb Y O ci O O O O λbD=>WL.m6 (rd:=kj) (f:=cK.cells) (k:=3) (m:=1) 0 [⟨1,ft.n,0⟩] O O cK.dR (λ_ _ _ _ h=>h) (by simp) (by decide) λbF a9=>Lf 3 O<|Lf 3 O<|Lf 3 O ?_;refine gz (nM a9) λaK=>Ln<|Eb ?_;refine E0 O λr a=>?_;have c:fk ft t.g=dg [⟨1,ft.n,0⟩] t.g:=by rw [uC,im,aD b]
  rw [c];exact ⟨(aK.1,aK.2),O,Wv 1<|Wt 3 a⟩
 have s:¬ft.op=1:=by simpa using R
 refine ak<|V0 (bY O O)<|au O<|ag ?_;refine Cc O (λS=>?_)<|λS=>?_
 ·have b:ft.op=2:=by simpa using S
  refine Cr<|ab O<|V0 (Yb iq i6 O O) ?_;refine Lb Y O ci O O O O λbG=>WL.m6 (rd:=kj) (f:=cK.cells) (k:=3) (m:=1) 0 [⟨18,0,0⟩] O O cK.dR (λ_ _ _ _ h=>h) (by simp) (by decide) λbI a'=>Lf 3 O<|Lf 3 O<|Lf 3 O ?_;refine gz (nM a') λaL=>Ln<|Eb ?_;refine E0 O λr a=>?_;have c:fk ft t.g=dg [⟨18,0,0⟩] t.g:=by rw [uC,im,aj s,aD b]
  rw [c];exact ⟨(aL.1,aL.2),O,Wv 1<|Wt 3 a⟩
 have v:¬ft.op=2:=by simpa using S
 refine ak<|V0 (bY O O)<|au O<|ag ?_;refine Cc O (λT=>?_)<|λT=>?_
 ·have b:ft.op=16:=by simpa using T
  refine Cr<|ab O<|V0 (Yf c5 O)<|V0 (Yd 0 O O O ah)<|V0 (Yb iq i6 O O) ?_;refine Lb Y O ci O O O O λbJ=>WL.m6 (rd:=kj) (f:=cK.cells) (k:=3) (m:=1) 0 [⟨2,ft.pl,0⟩] O O cK.dR (λ_ _ _ _ h=>h) (by simp) (by decide) λbK a_=>Lf 3 O<|Lf 3 O<|Lf 3 O ?_;refine gz (nM a_) λaM=>Ln<|Eb ?_;refine E0 O λr a=>?_;have c:fk ft t.g=dg [⟨2,ft.pl,0⟩] t.g:=by rw [uC,im,aj s,aj v,aD b]
  rw [c];exact ⟨(aM.1,aM.2),O,Wv 1<|Wt 3 a⟩
 have A:¬ft.op=16:=by simpa using T
 refine ak<|V0 (bY O O)<|au O<|ag ?_;refine Cc O (λU=>?_)<|λU=>?_
 ·have b:ft.op=3:=by simpa using U
  refine Cr<|ab O<|V0 (Yf c5 O)<|V0 (Yd 0 O O O ah)<|V0 (Yb iq i6 O O)<|V0 (Yf oT O)<|V0 (Yd 0 O O O ah)<|Lf 3 O ?_;refine Lf 3 O<|Lf 3 O ?_;refine gz (BB ⟨4,ft.pl,0⟩ 3 ft.m) λaN=>Ln<|Eb ?_;refine E0 O λr a=>?_;have c:fk ft t.g=dk ⟨4,ft.pl,0⟩ 3 ft.m t.g:=by rw [uC,im,aj s,aj v,aj A,aD b]
  rw [c];exact ⟨(aN.1,aN.2),O,Wt 3 a⟩
 have F:¬ft.op=3:=by simpa using U
 refine ak<|V0 (bY O O)<|au O<|ag ?_;refine Cc O (λV=>?_)<|λV=>?_
 ·have b:ft.op=4:=by simpa using V
  refine Cs ?_;have bL:=o.args.2.1 (by omega);obtain ⟨y,j⟩:∃y,ft.args[0]? = aa y:=⟨_,cy (by omega)⟩;obtain ⟨aO,aQ,G,x⟩:=p.ct 0 y j;obtain ⟨k2,rfl⟩:∃k2,k=k2+1:=by cases k with| zero=>exact x.elim| succ k2=>exact ⟨k2,rfl⟩
  obtain ⟨aT,aV,H,J⟩:=x;have B:=hN k2 (by omega);have K:=o.args.1.at_ j;have l:=pj y t.g;have W:=l.hi;have X:=l.j0;have aW:=l.lo;have bM:=zB j;refine CU (λ_=>ad) [1,1,1] [] (.q aq 0<|.q aq 1<|.q ad 2<|.q aq 3<|.q ad 4<|.q aq 5<|.q ad 6<|.q aq 7<|.q ad 8<|.q aq 9<|.q ad 10<|.e 11 .nil .stop) mixed (by kernel_rfl) (λ_ _ _ d _ _ h=>by cases d<;>exact h)<|U0 O (dn [1,1,1]) (Ym O)<|U0 O (dn [1,1,1]) (Yf oT O)<|U0 O (dn [1,1,1]) (Yd 0 O O O ah)<|U0 O (dn [1,1,1]) (Yf c5 O)<|U0 O (dn [1,1,1]) (Yd 0 O O O ah)<|U0 O (dn [1,1,1]) (Yf pC O)<|U0 O (dn [1,1,1]) (Yd 0 O O O ah)<|U0 O (dn [1,1,1]) (Yf nJ O) ?_;refine U0 O (dn [1,1,1]) (Yd 0 O O O ah)<|U0 O (dn [1,1,1]) (Yo (i:=0) iP O O G (by omega))<|U0 O (dn [1,1,1]) (eB 0 bZ O O O<|H) ?_;refine Ue O (dn [1,1,1]) ?_ WU.stop;refine Lf 3 O<|Lf 3 O<|Lf 3 O ?_;refine gz (TN B J K) λbO=>Ln<|Eu ?_;refine WU.nil (λ_ h=>(Wo 1<|Wo 1<|Wo 1<|h.f 3 O:))<|WS.nil<|Et<|Cr<|ab O<|V0 (Yb iq i6 O O) ?_;refine Lb Y O ci O O O O λbP=>WL.m6 (rd:=kj) (f:=cK.cells) (k:=3) (m:=1) 0 [⟨7,0,0⟩] O O cK.dR (λ_ _ _ _ h=>h) (by simp) (by decide) λbQ ba=>gz (nM ba) λaX=>Ln<|Eb ?_;refine E0 O λr a=>?_;have c:fk ft t.g=dg [⟨7,0,0⟩] (dk ⟨6,ft.pl,ft.n⟩ 3 ft.m<|fk y t.g):=by rw [uC,im,aj s,aj v,aj A,aj F,aD b];rw [oH j]
  rw [c];exact ⟨(aX.1,aX.2),O,Wv 1<|Wt 3 a⟩
 have L:¬ft.op=4:=by simpa using V
 refine ak<|V0 (bY O O)<|au O<|ag ?_;refine Cc O (λae=>?_)<|λae=>?_
 ·have b:ft.op=5:=by simpa using ae
  refine Cr<|ab O<|V0 (Yf oT O)<|V0 (Yd 0 O O O ah)<|V0 (Yf c5 O)<|V0 (Yd 0 O O O ah)<|V0 (Yf nJ O)<|V0 (Yd 0 O O O ah) ?_;refine Lf 3 O<|Lf 3 O<|Lf 3 O ?_;refine gz (TM hN p o.args.1) λaZ=>Ln<|Eb ?_;refine E0 O λr a=>?_;have c:fk ft t.g=dk ⟨13,ft.pl,0⟩ 2 ft.m (rx ft.args t.g):=by rw [uC,im,aj s,aj v,aj A,aj F,aj L,aD b];rw [pF]
  rw [c];exact ⟨(aZ.1,aZ.2),O,Wt 3 a⟩
 have P:¬ft.op=5:=by simpa using ae
 refine Cs<|ak<|V0 (bY O O)<|au O<|ag ?_;refine Cc O (λQ=>?_)<|λQ=>?_
 ·have b:ft.op=7:=by simpa using Q
  refine ay<|Cc O (λC=>?_)<|λC=>?_
  ·refine Cs ?_;have bb:=o.args.2.2.1 (by omega);obtain ⟨y,j⟩:∃y,ft.args[0]? = aa y:=⟨_,cy (by omega)⟩;obtain ⟨aO,aQ,G,x⟩:=p.ct 0 y j;obtain ⟨z,u⟩:∃y,ft.args[1]? = aa y:=⟨_,cy (by omega)⟩;obtain ⟨bc,bd,af,ai⟩:=p.ct 1 z u;obtain ⟨k2,rfl⟩:∃k2,k=k2+1:=by cases k with| zero=>exact x.elim| succ k2=>exact ⟨k2,rfl⟩
   obtain ⟨aT,aV,H,J⟩:=x;have B:=hN k2 (by omega);have K:=o.args.1.at_ j;have l:=pj y t.g;have W:=l.hi;have X:=l.j0;have aW:=l.lo;obtain ⟨bf,bg,al,ap⟩:=ai;have av:=o.args.1.at_ u;have bh:=G0 j u;have D:=pj z<|dk ⟨12,0,0⟩ 1 0<|fk y t.g;have aw:=D.hi;have ax:=D.j0;have az:=D.lo;have E:=pj z<|eT ((fk y t.g).code.length)<|dk ⟨11,0,0⟩ 1 0<|dg [⟨1,1,0⟩]<|dk ⟨12,0,0⟩ 1 0<|fk y t.g;have aB:=E.hi;have aF:=E.j0;have aG:=E.lo;simp only [si] at aw ax az aB aF aG;refine Cr<|ab O<|V0 (Yf nJ O)<|V0 (Yd 0 O O O ah)<|V0 (Yo (i:=0) iP O O G (by omega))<|V0 (eB 0 bZ O O O<|H)<|Lf 3 O<|Lf 3 O ?_;refine Lf 3 O<|gz (B J K) λbi=>ag<|ak<|ab O ?_;refine zA λbj=>au O<|ag<|Cs<|ak<|V0 (Yf rO O)<|V0 (Yd 5 O O O ah)<|V0 (bY O O)<|ag ?_;refine Cc O (λM=>?_)<|λM=>?_;·exact absurd M (by rw [b];decide)
   refine ay<|Cs<|ak<|V0 (Yf rO O)<|V0 (Yd 5 O O O ah)<|V0 (bY O O)<|ag ?_;refine Cc O (λN=>?_)<|λN=>?_;·exact absurd N (by rw [b];decide)
   refine ay<|ak<|ab O<|V0 (Yf nJ O)<|V0 (Yd 5 O O O ah)<|V0 (Yo (i:=1) iP O O af (by omega))<|V0 (eB 0 bZ O O O<|al) ?_;refine gz (B ap av) λbR=>ag<|ak<|ab O<|V0 (Yb iq i6 O O) ?_;refine Lb Y O ci O O O O λbS=>WL.m6 (rd:=kj) (f:=cK.cells) (k:=3) (m:=1) 0 [⟨22,0,0⟩] O O cK.dR (λ_ _ _ _ h=>h) (by simp) (by decide) λbT bk=>gz (nM bk) λbU=>ag<|ak<|ab O ?_;refine zA λbV=>au O<|ag<|ak<|ab O<|Lf 6 O<|Lf 6 O<|Lf 4 O<|Lf 4 O<|Lf 4 O ?_;refine xP<|ag<|ak<|ab O<|V0 (Yb iq i6 O O) ?_;refine Lb Y O ci O O O O λbX=>WL.m6 (rd:=kj) (f:=cK.cells) (k:=3) (m:=1) 0 [⟨1,0,0⟩] O O cK.dR (λ_ _ _ _ h=>h) (by simp) (by decide) λb1 bl=>gz (nM bl) λa0=>ag<|Cr<|ab O<|Lf 6 O<|Lf 6 O<|Lf 4 O<|Lf 4 O<|Lf 4 O ?_;refine xP<|Ln<|Eb ?_;refine E0 O λr a=>?_;have c:fk ft t.g=(eT ((dg [⟨22,0,0⟩]<|fk z<|dk ⟨12,0,0⟩ 1 0<|fk y t.g).code.length)<|dg [⟨1,0,0⟩]<|eT ((fk y t.g).code.length)<|dk ⟨11,0,0⟩ 1 0<|dg [⟨22,0,0⟩]<|fk z<|dk ⟨12,0,0⟩ 1 0<|fk y t.g):=by rw [uC,im,aj s,aj v,aj A,aj F,aj L,aj P,aD b];unfold xc;rw [oH j,oH u]
   rw [c];exact ⟨(a0.1,a0.2),O,Wv 2<|Wt 3 a⟩
  rw [Q] at C;cases C
 have aH:¬ft.op=7:=by simpa using Q
 refine Cr<|V0 (bY O O)<|au O<|ag ?_;refine Cc O (λC=>?_)<|λC=>?_
 ·have b:ft.op=8:=by simpa using C
  refine Cs ?_;have bb:=o.args.2.2.1 (by omega);obtain ⟨y,j⟩:∃y,ft.args[0]? = aa y:=⟨_,cy (by omega)⟩;obtain ⟨aO,aQ,G,x⟩:=p.ct 0 y j;obtain ⟨z,u⟩:∃y,ft.args[1]? = aa y:=⟨_,cy (by omega)⟩;obtain ⟨bc,bd,af,ai⟩:=p.ct 1 z u;obtain ⟨k2,rfl⟩:∃k2,k=k2+1:=by cases k with| zero=>exact x.elim| succ k2=>exact ⟨k2,rfl⟩
  obtain ⟨aT,aV,H,J⟩:=x;have B:=hN k2 (by omega);have K:=o.args.1.at_ j;have l:=pj y t.g;have W:=l.hi;have X:=l.j0;have aW:=l.lo;obtain ⟨bf,bg,al,ap⟩:=ai;have av:=o.args.1.at_ u;have bh:=G0 j u;have D:=pj z<|dk ⟨12,0,0⟩ 1 0<|fk y t.g;have aw:=D.hi;have ax:=D.j0;have az:=D.lo;have E:=pj z<|eT ((fk y t.g).code.length)<|dk ⟨11,0,0⟩ 1 0<|dg [⟨1,1,0⟩]<|dk ⟨12,0,0⟩ 1 0<|fk y t.g;have aB:=E.hi;have aF:=E.j0;have aG:=E.lo;simp only [si] at aw ax az aB aF aG;refine Cr<|ab O<|V0 (Yf nJ O)<|V0 (Yd 0 O O O ah)<|V0 (Yo (i:=0) iP O O G (by omega))<|V0 (eB 0 bZ O O O<|H)<|Lf 3 O<|Lf 3 O ?_;refine Lf 3 O<|gz (B J K) λbi=>ag<|ak<|ab O ?_;refine zA λbj=>au O<|ag<|Cs<|ak<|V0 (Yf rO O)<|V0 (Yd 5 O O O ah)<|V0 (bY O O)<|ag ?_;refine Cc O (λM=>?_)<|λM=>?_
  ·refine ak<|ab O<|V0 (Yb iq i6 O O) ?_;refine Lb Y O ci O O O O λb2=>WL.m6 (rd:=kj) (f:=cK.cells) (k:=3) (m:=1) 0 [⟨1,1,0⟩] O O cK.dR (λ_ _ _ _ h=>h) (by simp) (by decide) λb3 bm=>gz (nM bm) λb4=>ag<|ak<|ab O ?_;refine zA λb5=>au O<|ag<|ak<|ab O<|Lf 6 O<|Lf 6 O<|Lf 4 O<|Lf 4 O<|Lf 4 O ?_;refine xP<|ag<|Cr<|ab O<|au O<|ag<|Cs<|ak<|V0 (Yf rO O)<|V0 (Yd 7 O O O ah)<|V0 (bY O O)<|ag ?_;refine Cc O (λN=>?_)<|λN=>?_
   ·refine ak<|ab O<|V0 (Yf nJ O)<|V0 (Yd 7 O O O ah)<|V0 (Yo (i:=1) iP O O af (by omega))<|V0 (eB 1 bZ O O O<|al) ?_;refine gz (B ap av) λb6=>ag<|ak<|ab O<|V0 (Yb iq i6 O O) ?_;refine Lb Y O ci O O O O λb7=>WL.m6 (rd:=kj) (f:=cK.cells) (k:=3) (m:=1) 0 [⟨22,0,0⟩] O O cK.dR (λ_ _ _ _ h=>h) (by simp) (by decide) λb9 bn=>gz (nM bn) λa1=>ag<|ak<|ab O<|Lf 6 O<|Lf 6 O<|Lf 4 O<|Lf 4 O<|Lf 4 O ?_;refine xP<|ag<|bu<|Er<|aU ?_;refine WE.z3 O λr a=>?_;have c:fk ft t.g=(eT ((dg [⟨1,1,0⟩]<|dk ⟨12,0,0⟩ 1 0<|fk y t.g).code.length)<|dg [⟨22,0,0⟩]<|fk z<|eT ((fk y t.g).code.length)<|dk ⟨11,0,0⟩ 1 0<|dg [⟨1,1,0⟩]<|dk ⟨12,0,0⟩ 1 0<|fk y t.g):=by rw [uC,im,aj s,aj v,aj A,aj F,aj L,aj P,aj aH,aD b];unfold xd;rw [oH j,oH u]
    rw [c];exact ⟨(a1.1,a1.2),O,Wv 2<|Wt 3 a⟩
   exact absurd N (by rw [b];decide)
  exact absurd M (by rw [b];decide)
 have a2:¬ft.op=8:=by simpa using C
 refine Cs ?_;have l:=FX ft.args t.g;have W:=l.hi;have X:=l.j0;refine Cr<|ab O<|V0 (Yf nJ O)<|V0 (Yd 0 O O O ah)<|Lf 3 O<|Lf 3 O<|Lf 3 O ?_;refine gz (TL hN p o.args.1) λb'=>ag<|ak<|V0 (Yf rO O)<|V0 (Yd 3 O O O ah)<|V0 (bY O O)<|ag ?_;refine Cc O (λaI=>?_)<|λaI=>?_
 ·have b:ft.op=6:=by simpa using aI
  refine Cr<|ab O<|V0 (Yb iq i6 O O) ?_;refine Lb Y O ci O O O O λb_=>WL.m6 (rd:=kj) (f:=cK.cells) (k:=3) (m:=1) 0 [⟨9,0,0⟩] O O cK.dR (λ_ _ _ _ h=>h) (by simp) (by decide) λca bo=>gz (nM bo) λa3=>Ln<|Eb ?_;refine E0 O λr a=>?_;have c:fk ft t.g=dg [⟨9,0,0⟩] (rx ft.args t.g):=by rw [uC,im,aj s,aj v,aj A,aj F,aj L,aj P,aj aH,aj a2,aD b];rw [pF]
  rw [c];exact ⟨(a3.1,a3.2),O,Wv 1<|Wt 3 a⟩
 have bq:¬ft.op=6:=by simpa using aI
 refine Cr<|ab O<|V0 (Yf rO O)<|V0 (Yd 3 O O O ah)<|V0 (Yb iq i6 O O) ?_;refine Lb Y O ci O O O O λcb=>WL.m6 (rd:=kj) (f:=cK.cells) (k:=3) (m:=1) 0 [⟨10,ft.op,0⟩] O O cK.dR (λ_ _ _ _ h=>h) (by simp) (by decide) λcc br=>gz (nM br) λa4=>Ln<|Eb ?_;refine E0 O λr a=>?_;have c:fk ft t.g=dg [⟨10,ft.op,0⟩] (rx ft.args t.g):=by rw [uC,im,aj s,aj v,aj A,aj F,aj L,aj P,aj aH,aj a2,aj bq,pF]
 rw [c];exact ⟨(a4.1,a4.2),O,Wv 1<|Wt 3 a⟩
def TO (b:View) (ke k:Z):Prop:=∀⦃l:I et⦄ ⦃a:aA a6⦄ ⦃c:Z⦄,Sl (jK ke k) 7 b a c l->uG l->sZ 190 166 [aE a l.length c] [b] (8*ki l) (8*ki l) (ff l) (λ_=>cO #[])
variable {rQ:et}
def ad8 {r:w4}  (U:TO bN bE aL) (s:Sl (cC bE) 5 bN r.s1.1 r.s1.2 rQ.args) (R:Sl (jK bE aL) 7 bN r.s2.1 r.s2.2 rQ.body) (V:Sl (jK bE aL) 7 bN r.s3.1 r.s3.2 rQ.other) (j:FY rQ):sZ 190 237 [b0 (rq rQ r).toArray] [bN] (8*tt rQ) (8*tt rQ) (mf rQ)<|λ_=>cO #[]:=by
 refine ⟨bp,λbj bk t w bl bm c=>?_⟩;have hN:∀k2,qn bN k2:=λk2 _ _ _ s R=>ad7 s R;have bn:=s.cap;have bo:=s.max;have bq:=V.cap;have br:=V.max;have bs:=Xq rQ;refine enter func237 O 155 O O<|CE c<|ak ?_;refine WL.box Y O O λbt=>ag<|ak<|V0 (Yf DR O)<|V0 (Yd 0 O O O ah)<|ag<|Cb<|ak<|V0 (bY O O)<|au O<|ag ?_;refine Cc O (λW=>?_)<|λW=>?_
 ·have p:rQ.op=1:=by simpa using W
  refine Cs ?_;have S:=j.parts.2.2.2.1 (by omega);obtain ⟨y,a⟩:∃y,rQ.args[0]? = aa y:=⟨_,cy (by omega)⟩;obtain ⟨J,K,v,l⟩:=s.ct 0 y a;obtain ⟨k2,rfl⟩:∃k2,bE=k2+1:=by cases bE with| zero=>exact l.elim| succ k2=>exact ⟨k2,rfl⟩
  obtain ⟨L,M,x,A⟩:=l;have u:=hN k2;have B:=j.parts.1.at_ a;have N:=zB a;have b:=pj y t.g;have F:=b.hi;have G:=b.j0;have P:=b.lo;refine Cr<|ab O<|V0 (Yf nK O)<|V0 (Yd 0 O O O ah)<|V0 (Yo (i:=0) iP O O v (by omega))<|V0 (eB 0 bZ O O O<|x)<|Lf 3 O<|Lf 3 O ?_;refine Lf 3 O<|gz (u A B) λbu=>ag<|ak<|V0 (Yf oU O)<|V0 (Yd 3 O O O ah)<|V0 (c8 O O)<|ag ?_;refine Cc O (λX=>?_)<|λX=>?_
  ·have ae:rQ.m<0:=by simpa using X
   refine Cr<|ab O<|V0 (Yf pD O)<|V0 (Yd 3 O O O ah)<|V0 (Yb iq i6 O O) ?_;refine Lb Y O ci O O O O λbv=>WL.m6 (rd:=kj) (f:=cK.cells) (k:=3) (m:=1) 0 [⟨3,rQ.pl,0⟩] O O cK.dR (λ_ _ _ _ h=>h) (by simp) (by decide) λbw a1=>gz (nM a1) λaM=>Ln<|Eb ?_;refine E0 O λC c=>?_;have o:mf rQ t.g=dg [⟨3,rQ.pl,0⟩] (fk y t.g):=by rw [vN,jo,aD p,aD ae,oH a]
   rw [o];exact ⟨(aM.1,aM.2),O,Wv 1<|Wt 3 c⟩
  have ae:¬rQ.m<0:=by simpa using X
  refine Cr<|ab O<|V0 (Yf pD O)<|V0 (Yd 3 O O O ah)<|V0 (Yb iq i6 O O)<|V0 (Yf oU O)<|V0 (Yd 3 O O O ah) ?_;refine gz (BB ⟨5,rQ.pl,0⟩ 3 rQ.m) λaN=>Ln<|Eb ?_;refine E0 O λC c=>?_;have o:mf rQ t.g=dk ⟨5,rQ.pl,0⟩ 3 rQ.m (fk y t.g):=by rw [vN,jo,aD p,aj ae,oH a]
  rw [o];exact ⟨(aN.1,aN.2),O,Wt 3 c⟩
 have D:¬rQ.op=1:=by simpa using W
 refine ak<|V0 (bY O O)<|au O<|ag ?_;refine Cc O (λaf=>?_)<|λaf=>?_
 ·have p:rQ.op=2:=by simpa using af
  refine Cs ?_;have bx:=j.parts.2.2.2.2.1 (by omega);obtain ⟨y,a⟩:∃y,rQ.args[0]? = aa y:=⟨_,cy (by omega)⟩;obtain ⟨J,K,v,l⟩:=s.ct 0 y a;obtain ⟨z,T⟩:∃y,rQ.args[1]? = aa y:=⟨_,cy (by omega)⟩;obtain ⟨bz,bA,a2,a3⟩:=s.ct 1 z T;obtain ⟨k2,rfl⟩:∃k2,bE=k2+1:=by cases bE with| zero=>exact l.elim| succ k2=>exact ⟨k2,rfl⟩
  obtain ⟨L,M,x,A⟩:=l;have u:=hN k2;have B:=j.parts.1.at_ a;have N:=zB a;have b:=pj y t.g;have F:=b.hi;have G:=b.j0;have P:=b.lo;obtain ⟨bC,bD,a4,a5⟩:=a3;have a7:=j.parts.1.at_ T;have bF:=G0 a T;have ai:=pj z<|dk ⟨6,rQ.pl,rQ.n⟩ 3 rQ.m<|fk y t.g;have a8:=ai.hi;have a9:=ai.j0;have a':=ai.lo;try simp only [si] at a8 a9 a'
  refine CU (λ_=>ad) [1,1,1] [] (.q aq 0<|.q aq 1<|.q ad 2<|.q aq 3<|.q ad 4<|.q aq 5<|.q ad 6<|.q aq 7<|.q ad 8<|.q aq 9<|.q ad 10<|.e 11 .nil .stop) mixed (by kernel_rfl) (λ_ _ _ d _ _ h=>by cases d<;>exact h)<|U0 O (dn [1,1,1]) (Ym O)<|U0 O (dn [1,1,1]) (Yf oU O)<|U0 O (dn [1,1,1]) (Yd 0 O O O ah)<|U0 O (dn [1,1,1]) (Yf pD O)<|U0 O (dn [1,1,1]) (Yd 0 O O O ah)<|U0 O (dn [1,1,1]) (Yf xJ O)<|U0 O (dn [1,1,1]) (Yd 0 O O O ah)<|U0 O (dn [1,1,1]) (Yf nK O) ?_;refine U0 O (dn [1,1,1]) (Yd 0 O O O ah)<|U0 O (dn [1,1,1]) (Yo (i:=0) iP O O v (by omega))<|U0 O (dn [1,1,1]) (eB 0 bZ O O O<|x) ?_;refine Ue O (dn [1,1,1]) ?_ WU.stop;refine Lf 3 O<|Lf 3 O<|Lf 3 O ?_;refine gz (TN u A B) λbG=>Ln<|Eu ?_;refine WU.nil (λ_ h=>(Wo 1<|Wo 1<|Wo 1<|h.f 3 O:))<|WS.nil<|Et<|ak<|ab O<|V0 (Yf nK O)<|V0 (Yd 3 O O O ah)<|V0 (Yo (i:=1) iP O O a2 (by omega))<|V0 (eB 0 bZ O O O<|a4) ?_;refine gz (u a5 a7) λbI=>ag<|Cr<|ab O<|V0 (Yb iq i6 O O) ?_;refine Lb Y O ci O O O O λbJ=>WL.m6 (rd:=kj) (f:=cK.cells) (k:=3) (m:=1) 0 [⟨8,0,0⟩] O O cK.dR (λ_ _ _ _ h=>h) (by simp) (by decide) λbK a_=>gz (nM a_) λaO=>Ln<|Eb ?_;refine E0 O λC c=>?_;have o:mf rQ t.g=dg [⟨8,0,0⟩] (fk z<|dk ⟨6,rQ.pl,rQ.n⟩ 3 rQ.m<|fk y t.g):=by rw [vN,jo,aj D,aD p,oH a,oH T]
  rw [o];exact ⟨(aO.1,aO.2),O,Wv 1<|Wt 3 c⟩
 have H:¬rQ.op=2:=by simpa using af
 refine ak<|V0 (bY O O)<|au O<|ag ?_;refine Cc O (λal=>?_)<|λal=>?_
 ·have p:rQ.op=3:=by simpa using al
  refine Cs ?_;have aQ:=FX rQ.args t.g;have F:=aQ.hi;have G:=aQ.j0;refine Cr<|ab O<|V0 (Yf oU O)<|V0 (Yd 0 O O O ah)<|V0 (Yf pD O)<|V0 (Yd 0 O O O ah)<|V0 (Yf nK O)<|V0 (Yd 0 O O O ah) ?_;refine Lf 3 O<|Lf 3 O<|Lf 3 O ?_;refine gz (TM (λk2 _=>hN k2) s j.parts.1) λbL=>ag<|Cr<|ab O<|V0 (Yb iq i6 O O) ?_;refine Lb Y O ci O O O O λbM=>WL.m6 (rd:=kj) (f:=cK.cells) (k:=3) (m:=1) 0 [⟨17,0,0⟩] O O cK.dR (λ_ _ _ _ h=>h) (by simp) (by decide) λbO ba=>gz (nM ba) λaT=>Ln<|Eb ?_;refine E0 O λC c=>?_;have o:mf rQ t.g=dg [⟨17,0,0⟩] (dk ⟨13,rQ.pl,0⟩ 2 rQ.m<|rx rQ.args t.g):=by rw [vN,jo,aj D,aj H,aD p,pF]
  rw [o];exact ⟨(aT.1,aT.2),O,Wv 1<|Wt 3 c⟩
 have Q:¬rQ.op=3:=by simpa using al
 refine ak<|V0 (bY O O)<|au O<|ag ?_;refine Cc O (λap=>?_)<|λap=>?_
 ·have p:rQ.op=4:=by simpa using ap
  refine Cs ?_;have S:=j.parts.2.2.2.1 (by omega);obtain ⟨y,a⟩:∃y,rQ.args[0]? = aa y:=⟨_,cy (by omega)⟩;obtain ⟨J,K,v,l⟩:=s.ct 0 y a;obtain ⟨k2,rfl⟩:∃k2,bE=k2+1:=by cases bE with| zero=>exact l.elim| succ k2=>exact ⟨k2,rfl⟩
  obtain ⟨L,M,x,A⟩:=l;have u:=hN k2;have B:=j.parts.1.at_ a;have N:=zB a;have b:=pj y t.g;have F:=b.hi;have G:=b.j0;have P:=b.lo;have E:=vO rQ.body<|dk ⟨12,0,0⟩ 1 0<|fk y t.g;have av:=E.hi;have aw:=E.j0;have ax:=E.lo;try simp only [si] at av aw ax
  have az:=vO rQ.other<|eT ((fk y t.g).code.length)<|dk ⟨11,0,0⟩ 1 0<|ff rQ.body<|dk ⟨12,0,0⟩ 1 0<|fk y t.g;have bb:=az.hi;have bc:=az.j0;have bd:=az.lo;try simp only [si] at bb bc bd
  refine Cr<|ab O<|V0 (Yf nK O)<|V0 (Yd 0 O O O ah)<|V0 (Yo (i:=0) iP O O v (by omega))<|V0 (eB 0 bZ O O O<|x)<|Lf 3 O<|Lf 3 O ?_;refine Lf 3 O<|gz (u A B) λbP=>ag<|ak<|ab O ?_;refine zA λbQ=>au O<|ag<|ak<|ab O<|V0 (Yf zx O)<|V0 (Yd 5 O O O ah) ?_;refine gz (U R<|j.parts.2.1 (by omega)) λaU=>ag<|Cs<|ak<|V0 (Yf xK O)<|V0 (Yd 5 O O O ah)<|V0 (Yn sW O)<|V0 (eZ O O)<|ag ?_;refine Cc O (λaB=>?_)<|λaB=>?_
  ·have aF:0<rQ.other.length:=by simpa using aB
   refine ak<|ab O ?_;refine zA λbR=>au O<|ag<|ak<|ab O<|Lf 6 O<|Lf 6 O<|Lf 4 O<|Lf 4 O<|Lf 4 O ?_;refine xP<|ag<|ak<|ab O<|V0 (Yf xK O)<|V0 (Yd 7 O O O ah) ?_;refine gz (U V j.parts.2.2.1) λaV=>ag<|Cr<|ab O<|au O<|ag<|Cr<|ab O<|Lf 6 O<|Lf 6 O<|Lf 4 O ?_;refine Lf 4 O<|Lf 4 O ?_;refine xP<|Ln<|Eb ?_;refine E0 O λC c=>?_;have o:mf rQ t.g=eT ((ff rQ.body<|dk ⟨12,0,0⟩ 1 0<|fk y t.g).code.length) (ff rQ.other<|eT ((fk y t.g).code.length)<|dk ⟨11,0,0⟩ 1 0<|ff rQ.body<|dk ⟨12,0,0⟩ 1 0<|fk y t.g):=by rw [vN,jo,aj D,aj H,aj Q,aD p,oH a];unfold vM;rw [aD aF]
   rw [o];exact ⟨(aV.1,aV.2),O,Wt 3 c⟩
  have aF:¬0<rQ.other.length:=by simpa using aB
  refine ay<|Cr<|ab O ?_;refine xP<|Ln<|Eb ?_;refine E0 O λC c=>?_;have o:mf rQ t.g=eT ((fk y t.g).code.length) (ff rQ.body<|dk ⟨12,0,0⟩ 1 0<|fk y t.g):=by rw [vN,jo,aj D,aj H,aj Q,aD p,oH a];unfold vM;rw [aj aF]
  rw [o];exact ⟨(aU.1,aU.2),O,Wt 3 c⟩
 have aG:¬rQ.op=4:=by simpa using ap
 refine ak<|V0 (bY O O)<|au O<|ag ?_;refine Cc O (λaH=>?_)<|λaH=>?_
 ·have p:rQ.op=5:=by simpa using aH
  refine ak<|ab O<|V0 (bS O)<|V0 (Yf pE O)<|V0 (Yf ed O)<|V0 (Yd 1 O O O ah)<|V0 (Yn hE O)<|au O ?_;refine ag<|Cs ?_;have S:=j.parts.2.2.2.1 (by omega);obtain ⟨y,a⟩:∃y,rQ.args[0]? = aa y:=⟨_,cy (by omega)⟩;obtain ⟨J,K,v,l⟩:=s.ct 0 y a;obtain ⟨k2,rfl⟩:∃k2,bE=k2+1:=by cases bE with| zero=>exact l.elim| succ k2=>exact ⟨k2,rfl⟩
  obtain ⟨L,M,x,A⟩:=l;have u:=hN k2;have B:=j.parts.1.at_ a;have N:=zB a;have b:=pj y t.g;have F:=b.hi;have G:=b.j0;have P:=b.lo;have E:=vO rQ.body<|dg [⟨16,0,0⟩]<|dk ⟨12,0,0⟩ 1 0<|fk y t.g;have av:=E.hi;have aw:=E.j0;have ax:=E.lo;try simp only [si] at av aw ax
  refine Cr<|ab O<|V0 (Yf nK O)<|V0 (Yd 0 O O O ah)<|V0 (Yo (i:=0) iP O O v (by omega))<|V0 (eB 0 bZ O O O<|x)<|Lf 3 O<|Lf 3 O ?_;refine Lf 3 O<|gz (u A B) λbT=>ag<|ak<|ab O ?_;refine zA λbU=>au O<|ag<|ak<|ab O<|V0 (Yb iq i6 O O) ?_;refine Lb Y O ci O O O O λbV=>WL.m6 (rd:=kj) (f:=cK.cells) (k:=3) (m:=1) 0 [⟨16,0,0⟩] O O cK.dR (λ_ _ _ _ h=>h) (by simp) (by decide) λbX bf=>gz (nM bf) λb1=>ag<|ak<|ab O<|V0 (Yf zx O)<|V0 (Yd 5 O O O ah) ?_;refine gz (U R<|j.parts.2.1 (by omega)) λb2=>ag<|ak<|ab O<|ab O<|V0 (Yb iq i6 O O) ?_;refine gz (BB ⟨11,(t.g.code.length:ac),0⟩ 1 0) λaW=>ag<|Cr<|ab O ?_;refine xP<|Ln<|Eb ?_;refine E0 O λC c=>?_;have o:mf rQ t.g=eT ((fk y t.g).code.length) (dk ⟨11,(t.g.code.length:ac),0⟩ 1 0<|ff rQ.body<|dg [⟨16,0,0⟩]<|dk ⟨12,0,0⟩ 1 0<|fk y t.g):=by rw [vN,jo,aj D,aj H,aj Q,aj aG,aD p,oH a];rfl
  rw [o];exact ⟨(aW.1,aW.2),O,Wv 1<|Wt 3 c⟩
 have aX:¬rQ.op=5:=by simpa using aH
 refine ak<|V0 (bY O O)<|au O<|ag ?_;refine Cc O (λaI=>?_)<|λaI=>?_
 ·have p:rQ.op=6:=by simpa using aI
  refine Cs ?_;have S:=j.parts.2.2.2.1 (by omega);obtain ⟨y,a⟩:∃y,rQ.args[0]? = aa y:=⟨_,cy (by omega)⟩;obtain ⟨J,K,v,l⟩:=s.ct 0 y a;obtain ⟨k2,rfl⟩:∃k2,bE=k2+1:=by cases bE with| zero=>exact l.elim| succ k2=>exact ⟨k2,rfl⟩
  obtain ⟨L,M,x,A⟩:=l;have u:=hN k2;have B:=j.parts.1.at_ a;have N:=zB a;have b:=pj y t.g;have F:=b.hi;have G:=b.j0;have P:=b.lo;refine Cr<|ab O<|V0 (Yf nK O)<|V0 (Yd 0 O O O ah)<|V0 (Yo (i:=0) iP O O v (by omega))<|V0 (eB 0 bZ O O O<|x)<|Lf 3 O<|Lf 3 O ?_;refine Lf 3 O<|gz (u A B) λb3=>ag<|Cr<|ab O<|V0 (Yb iq i6 O O) ?_;refine Lb Y O ci O O O O λb4=>WL.m6 (rd:=kj) (f:=cK.cells) (k:=3) (m:=1) 0 [⟨15,0,0⟩] O O cK.dR (λ_ _ _ _ h=>h) (by simp) (by decide) λb5 bg=>gz (nM bg) λaZ=>Ln<|Eb ?_;refine E0 O λC c=>?_;have o:mf rQ t.g=dg [⟨15,0,0⟩] (fk y t.g):=by rw [vN,jo,aj D,aj H,aj Q,aj aG,aj aX,aD p,oH a]
  rw [o];exact ⟨(aZ.1,aZ.2),O,Wv 1<|Wt 3 c⟩
 have bh:¬rQ.op=6:=by simpa using aI
 refine ak<|V0 (bY O O)<|au O<|ag ?_;refine Cc O (λaK=>?_)<|λaK=>?_
 ·have p:rQ.op=7:=by simpa using aK
  refine Cs ?_;have S:=j.parts.2.2.2.1 (by omega);obtain ⟨y,a⟩:∃y,rQ.args[0]? = aa y:=⟨_,cy (by omega)⟩;obtain ⟨J,K,v,l⟩:=s.ct 0 y a;obtain ⟨k2,rfl⟩:∃k2,bE=k2+1:=by cases bE with| zero=>exact l.elim| succ k2=>exact ⟨k2,rfl⟩
  obtain ⟨L,M,x,A⟩:=l;have u:=hN k2;have B:=j.parts.1.at_ a;have N:=zB a;have b:=pj y t.g;have F:=b.hi;have G:=b.j0;have P:=b.lo;refine Cr<|ab O<|V0 (Yf nK O)<|V0 (Yd 0 O O O ah)<|V0 (Yo (i:=0) iP O O v (by omega))<|V0 (eB 0 bZ O O O<|x)<|Lf 3 O<|Lf 3 O ?_;refine Lf 3 O<|gz (u A B) λb6=>ag<|Cr<|ab O<|V0 (Yb iq i6 O O) ?_;refine Lb Y O ci O O O O λb7=>WL.m6 (rd:=kj) (f:=cK.cells) (k:=3) (m:=1) 0 [⟨19,0,0⟩] O O cK.dR (λ_ _ _ _ h=>h) (by simp) (by decide) λb9 bi=>gz (nM bi) λa0=>Ln<|Eb ?_;refine E0 O λC c=>?_;have o:mf rQ t.g=dg [⟨19,0,0⟩] (fk y t.g):=by rw [vN,jo,aj D,aj H,aj Q,aj aG,aj aX,aj bh,aD p,oH a]
  rw [o];exact ⟨(a0.1,a0.2),O,Wv 1<|Wt 3 c⟩
 exfalso;have b':¬rQ.op=7:=by simpa using aK
 have b_:=j.parts.2.2.2.2.2;omega
variable {gK:I et}
def ad9 {ke k:Z}     (b:Sl (jK ke k) 7 bN cq bE gK) (o:uG gK):sZ 190 166 [aE cq gK.length bE] [bN] (8*ki gK) (8*ki gK) (ff gK)<|λ_=>cO #[]:=by
 induction k using om generalizing gK cq bE;rename_i k p;refine ⟨bp,λi j t w A B c=>?_⟩;have C:=b.cap;have D:=b.max;refine enter func166 O 16 O O<|CE c<|ak<|ab O<|V0 (Yn sW O)<|ab O<|ag<|Cb ?_;refine f_ (ι:=Z×SP×SP) (λg=>[(8,am an (g.1:ac))]) [(0,_),(6,_),(7,_)] (λg=>Ws w (c6 bh.ids<|jz 190 62 198 i j t) (jz 190 62 198 i j ⟨ff (gK.take g.1) t.g,g.2.1,g.2.2⟩) [bN]) (λg=>g.1<=gK.length) (λg=>gK.length-g.1) (0,t.ca,t.fa) (dw _) a' λg E=>ak<|V0 (c8 O O)<|ag<|Cs ?_;refine Cc O (λd=>?_)<|λd=>?_
 ·have l:g.1<gK.length:=by simpa using d
  obtain ⟨x,a⟩:=bk l;obtain ⟨F,G,q,m⟩:=b.ct g.1 x a;obtain ⟨k2,rfl⟩:∃k2,k=k2+1:=by cases k with| zero=>exact m.elim| succ k2=>exact ⟨k2,rfl⟩
  obtain ⟨r,s,e,f,u⟩:=m;have H:=O1 a;have n:=vO (gK.take g.1) t.g;have J:=n.hi;have K:=n.j0;have v:TO bN ke k2:=λ_ _ _ e f=>p k2 ai e f;refine ay<|Cs<|Cb<|ak<|V0 (Yo sW O O q l)<|V0 (eB 0 xL O O O<|s) ?_;refine Al Y O Bu λL=>aw 0 Y O O O DQ O O O<|ag<|hk 0 (aY (rq x r).toArray 51 (0,0)) O O<|Cr<|ab O<|V0 (dW 0 O O xL O)<|Lf 3 O<|Lf 3 O ?_;refine Lf 3 O<|gz (ad8 v e f u<|o.at_ a) λy=>Ln<|Eb<|Et<|Cr<|V0 (Yi O O O ai)<|ab O<|Ln ?_;rw [<-Xl a];exact ep ((g.1+1,y):Z×SP×SP) (by show _-(g.1+1)<_;omega) (by show g.1+1<=_;omega)<|λ_ h=>(Wt 3 h:)
 have z:g.1=gK.length:=by simp at d;omega
 rw [z,gH];refine Ce<|Ex<|Ex<|ee ?_;refine E0 O λM c=>⟨g.2,O,c⟩
def LO (params locals:ac) (c:Sl (jK bE aL) 7 bN cq dl gK) (d:uG gK):sZ 190 100 [b0 (yI ⟨params,locals,gK⟩ (cq,dl)).toArray] [bN] (8*(1+ki gK)) (8*(1+ki gK)) (kL params locals gK)<|λs=>am an (s.code.length:ac):=by refine ⟨bp,λn o t w p q a=>?_⟩;have b:=vO gK<|dg [⟨14,params,locals⟩] t.g;have e:=b.hi;have h:=b.j0;simp only [si] at e h;refine enter func100 O 30 O O<|CE a<|ak ?_;refine WL.box Y O O λr=>au O<|ag<|ak<|ab O<|V0 (bS O)<|V0 (Yf pE O)<|V0 (Yf ed O)<|V0 (Yd 1 O O O ah)<|V0 (Yn hE O) ?_;refine au O<|ag<|ak<|ab O<|V0 (Yf mh O)<|V0 (Yd 0 O O O ah)<|V0 (Yf DS O)<|V0 (Yd 0 O O O ah)<|V0 (Yb iq i6 O O) ?_;refine Lb Y O ci O O O O λu=>WL.m6 (rd:=kj) (f:=cK.cells) (k:=3) (m:=1) 0 [⟨14,params,locals⟩] O O cK.dR iH aK a8 λv i=>Lf 3 O<|Lf 3 O<|Lf 3 O ?_;refine gz (nM i) λx=>ag<|ak<|ab O<|V0 (Yf LK O)<|V0 (Yd 3 O O O ah) ?_;refine gz (ad9 c d) λy=>ag<|ak<|ab O<|V0 (Yb iq i6 O O)<|V0 (Yb iq i6 O O) ?_;refine Lb Y O ci O O O O λz=>WL.m6 (rd:=kj) (f:=cK.cells) (k:=3) (m:=2) 0 [⟨1,0,0⟩,⟨15,0,0⟩] O O cK.dR iH aK a8 λA j=>gz (nM j) λl=>ag<|ak<|ab O<|au O<|ag<|bu ?_;refine R1 O O λB a=>⟨l,O,Wv 2<|Wt 3 a⟩
def D1:XK:=(nZ,(ao,0))
def ad' (h:Sl DU 3 bN (aa ⟨bE,0,ao⟩) aL<|gb aL D1)  (hv:cX bN cR):Sl rt 3 cR (aa ⟨bE,0,ao⟩) aL<|gb aL nZ:=by
 have a:=F9 h hv λe b=>by have c:e=D1:=I.eq_of_mem_replicate b;subst c;exact Sl.nil
 rw [I.map_replicate] at a;exact a
def ad_ (a:View) (ke k:Z) (u:aI) (r:p0) (w:aP) (j:Le a w) (c:dY ke k a r u) (p:u.aN.length<=1048576) : cx aC 99 #[b0 (ij u r).toArray] w λe g=>e = cf (bW<|ry u)/\Ext w g:=by have s:=c.aN.cap;have t:=c.aN.max;refine enter func99 O 9 O O<|CE (Vs:=[a]) (Ws.init (by simp [j]))<|ak ?_;refine WL.box Y O O λv=>au O<|ag<|Cs ?_;refine CU (λ_=>ad) [] [] (.q ad 0<|.q aq 1<|.q ad 2<|.q aq 3<|.e 4 (.e 5 (.q aq 6 .nil) .stop) .stop) mixed ah (λ_ _ _ d _ _ h=>by cases d<;>exact h)<|U0 O a' (dW 0 O O mY O)<|U0 O a' (Yf zz O)<|U0 O a' (Yd 0 O O O ah)<|U0 O a' (Yn gf O) ?_;refine Ue O a' ?_ WU.stop;refine WL.make Y O DW O O ai ai ai ai λl=>eb 0 (aY ((gb u.aN.length D1).flatMap XK.cells).toArray 276 (0,0)) O (by rw [<-O4 (f:=XK.cells) (x:=D1) (zs:=(aR.agg #[bW aq,am an 0,aE ao 0 0]).cells) O a8];rfl)<|WL.m6 (rd:=DU) (f:=XK.cells) (k:=3) (m:=u.aN.length) 0 (gb u.aN.length D1) O O XK.dR iH aK ai λn o=>Ln<|Eu ?_;refine Ue O (λ_ h=>(Wv 1 h:)) ?_ WU.stop;refine Lp Y O bp O (λw b=>by have i:=TE a (hv w) ke k u r (gb u.aN.length nZ) (aa ⟨l,0,ao⟩) u.aN.length w (b.vs a aK) (kZ w) c (ad' o<|o5<|b.vs n aK) (by simp;omega);rw [ED] at i;exact i)<|Ln<|Eu<|U0 O (λ_ h=>(Wv 1 h:)) (Ya O) ?_;refine WU.nil (λ_ h=>(Wv 1 h:))<|WS.nil<|Et<|bu ?_;refine R1 O O λg b=>⟨O,b.fr⟩
def vd:zeroOf aC 77=aa (b0 #[st [],aE ao 0 0,am an 0,aE ao 0 0,aE ao 0 0,aE ao 0 0,am an 0]):=ah
def LP:hW aC 77=aa [(0,1),(1,1),(2,1),(3,1),(4,1),(5,1),(6,1)]:=ah
def wA:e2 aC 77=aa 7:=ah
def h_:i2 aC 77=aa 7:=ah
def aea:hW aC 190=aa [(0,7)]:=ah
def aeb:zeroOf aC 190=aa (b0 #[st [],aE ao 0 0,am an 0,aE ao 0 0,aE ao 0 0,aE ao 0 0,am an 0]):=ah
def xQ:aT aC 77 5=aa 5:=ah
def Hf:aT aC 77 6=aa 6:=ah
def aec (j:View) (ke k:Z) (u:aI) (r:p0) (w:aP) (M:Le j w) (l:dY ke k j r u) (az:vK u<=1048576) :
   cx aC 27 #[b0 (ij u r).toArray] w λe p=>∃q:eG,e = cf (cO #[b0 (JN (bI u).1 q).toArray,am an (bI u).2])/\Ext w p/\JO (nv w p) q (bI u).1:=by
 have aB:=l.aN.cap;have aF:=l.aN.max;have aG:=l.parts.cap;have aH:=l.parts.max;have aK:=O9 u;have aL:=Am u.aN;have aM:=O8 u.parts;refine enter func27 O 64 O O<|CE (Vs:=[j]) (Ws.init (by simp [M]))<|ak ?_;refine WL.box Y O O λN=>Al Y O vd λP=>au O<|ag<|Cs<|ak<|V0 (dW 1 O O mY O)<|Lp Y O bp O (λw a=>ad_ j ke k u r w (a.vs j (by simp)) l (by omega))<|V0 (ih O)<|ag ?_;refine Cc O (λz=>?_)<|λz=>?_
 ·have t:ry u=aq:=by simpa using z
  refine ak<|V0 (Yb vd LP O O)<|aw 0 Y O O O wA O O O<|au O<|ag<|bu<|Er ?_;refine WE.uh 0 O O O O h_ O λp a=>?_;rw [show bI u=(CL,1) from by rw [bI,aD t]];exact ⟨JP,O,a.fr,O5 _⟩
 have t:ry u=ad:=by simpa using z
 obtain ⟨Q,R⟩:=Xu t;refine ay<|Cs ?_;refine CU (λ_=>ad) [] [] (.q aq 0<|.q ad 1<|.q aq 2<|.q ad 3<|.q aq 5<|.q ad 6<|.e 4 (.q aq 7<|.q aq 8<|.e 9 (.q aq 10 .nil) .stop) .stop) mixed (by kernel_rfl) (λ_ _ _ d _ _ h=>by cases d<;>exact h)<|U0 O (λ_ h=>h) (Yf Bz O)<|U0 O (λ_ h=>h) (Yd 1 O O O ah)<|U0 O (λ_ h=>h) (Yf zz O)<|U0 O (λ_ h=>h) (Yd 1 O O O ah)<|U0 O (λ_ h=>h) (Yf vb O)<|U0 O (λ_ h=>h) (Yd 1 O O O ah) ?_;refine Ue O (λ_ h=>h) ?_ WU.stop;refine Ld Y O bp O (λr:SP=>aE r.1 u.aN.length r.2) (λF r=>Sl rdStr 1 F r.1 r.2 u.aN) (λw a=>S' j r.s1.1 r.s1.2 u.aN w (a.vs j (by simp)) l.aN (by omega)) λS b T U=>Ln<|Eu<|U0 O (λ_ h=>(Wv 1 h:)) (Yb vd LP O O)<|U0 O (λ_ h=>(Wv 1 h:)) (Yb aeb aea O O) ?_;refine Ue O (λ_ h=>(Wv 1 h:)) ?_ WU.stop;refine WL.box Y O O λV=>?_;obtain ⟨W,X⟩:∃s,s=V:=⟨_,rfl⟩;subst X;refine eb 0 (iJ 190 (⟨u.nm,aE b.1 u.aN.length b.2,u.data,aE ao 0 0,am an 0⟩:rz) ⟨⟨[],[]⟩,(ao,0),(ao,0)⟩) O O<|LW (λ_ h=>h.hM 3 1)<|LW (λ_ h=>h.hM 198 3)<|LW (λ_ h=>h.hM 62 3)<|Ln<|Eu<|U0 O (λ_ h=>(Wv 1<|Wd 4 h:)) (Ya O) ?_;refine WU.nil (λ_ h=>(Wv 1<|Wd 4 h:))<|WS.nil<|Et<|Cs<|ak<|V0 (Yf zy O)<|V0 (Yd 5 O O O ah)<|V0 (Yn xN O)<|ab O<|ag<|Cb ?_;refine nQ (ι:=Z×(SP×SP)×SP) (λg=>[(24,am an (g.1:ac))]) [(1,_),(2,_),(3,_),(4,_),(22,_),(23,_)] (λg=>Ws w [] ((jz 190 62 198 W (⟨u.nm,aE b.1 u.aN.length b.2,u.data,aE g.2.2.1 (fC (u.parts.take g.1) ⟨[],[]⟩).1.length g.2.2.2,am an 0⟩:rz) ⟨(fC (u.parts.take g.1) ⟨[],[]⟩).2,g.2.1.1,g.2.1.2⟩)++[cQ 3 1 ly g.2.2.1 g.2.2.2 (fC (u.parts.take g.1) ⟨[],[]⟩).1,aQ P<|aY (aR.cells<|b0 #[st [],aE ao 0 0,am an 0,aE ao 0 0,aE ao 0 0,aE ao 0 0,am an 0]) 77 (0,0),aQ N<|aY (ij u r).toArray 37 (0,0)]) [S,j]) (λg=>g.1<=u.parts.length) (λg=>u.parts.length-g.1) (0,(((ao,0),(ao,0)),(ao,0))) (dw _) (sc O<|sc O<|sc O<|sc O<|sc O<|sc O<|sc O sn) (λ_ h=>by exact ((((((h.f 5 O).f 5 O).f 4 O).f 4 O).f 4 O).f 5 O:)) λg aO=>ak<|V0 (c8 O O)<|ag<|Cs ?_;refine Cc O (λA=>?_)<|λA=>?_
 ·have G:g.1<u.parts.length:=by simpa using A
  obtain ⟨x,v⟩:∃q,u.parts[g.1]? = aa q:=⟨_,cy G⟩;obtain ⟨aT,aU,ae,af⟩:=l.parts.ct g.1 x v;obtain ⟨ai,al,H⟩:=af;have aV:=O6 v;have o:=FW (u.parts.take g.1) ⟨[],[]⟩;have ap:(fC (u.parts.take g.1) ⟨[],[]⟩).2.code.length<=8*nz (u.parts.take g.1):=by have c:=o.1.hi;simpa using c
  have av:(fC (u.parts.take g.1) ⟨[],[]⟩).2.fix.length<=8*nz (u.parts.take g.1):=by have c:=o.1.j0;simpa using c
  have aX:(fC (u.parts.take g.1) ⟨[],[]⟩).1.length=g.1:=by rw [o.2,m3];omega
  have aZ:AG x=1+ki x.body:=rfl;have J:=Q x<|aW v;have K:=Xt v ⟨[],[]⟩;have B:(fC (u.parts.take<|g.1+1) ⟨[],[]⟩).1=(fC (u.parts.take g.1) ⟨[],[]⟩).1++[(fC (u.parts.take g.1) ⟨[],[]⟩).2.code.length]:=by rw [K]
  have C:(fC (u.parts.take<|g.1+1) ⟨[],[]⟩).2=(kL x.params x.locals x.body (fC (u.parts.take g.1) ⟨[],[]⟩).2):=by rw [K]
  refine ay<|Cs<|Cb<|ak<|V0 (Yo xN O O ae G)<|V0 (eB 1 DV O O O<|al) ?_;refine Al Y O By λa0=>aw 0 Y O O O Hd O O O<|ag<|hk 0 (aY (yI x ai).toArray 107 (0,0)) O O ?_;refine CU (λ_=>ad) [1,1,1,1] [14] (.q aq 0<|.q aq 1<|.q aq 2<|.q aq 3<|.q aq 4<|.q aq 6<|.q ad 7<|.e 5 (.e 8 (.e 9 (.e 10 (.q aq 11<|.q aq 12<|.q aq 13 .nil) .stop) .stop) .stop)<|.e 8 (.e 5 (.e 9 (.e 10 (.q aq 11<|.q aq 12<|.q aq 13 .nil) .stop) .stop)<|.e 9 (.e 5 (.e 10 (.q aq 11<|.q aq 12<|.q aq 13 .nil) .stop) .stop) .stop) .stop) mixed (by kernel_rfl) (λ_ _ _ d _ _ h=>by cases d<;>exact h)<|U0 O (dn [1,1,1,1]) (Ym O)<|U0 O (dn [1,1,1,1]) (Ym O)<|U0 O (dn [1,1,1,1]) (bS O)<|U0 O (dn [1,1,1,1]) (Yf pE O)<|U0 O (dn [1,1,1,1]) (Yf xQ O)<|U0 O (dn [1,1,1,1]) (Ym O)<|U0 O (dn [1,1,1,1]) (dW 0 O O DV O) ?_;refine Ue O (dn [1,1,1,1]) ?_ ?_;·refine V0 (Yd 1 O O O ah)<|Ln<|Eu ?_;refine Ue O (dn [1,1,1,1]) ?_ WU.stop;refine Lf 3 O<|Lf 3 O<|Lf 3 O ?_;refine gz (LO x.params x.locals H J) λi=>Ln<|Eu ?_;refine Ue O (λ_ h=>by exact (Wo 1<|Wo 1<|Wo 1<|Wo 1<|((((((h.f 6 O).f 6 O).f 6 O).f 5 O).f 5 O).f 5 O).f 6 O:)) ?_ WU.stop;refine Lb Y O gn O O O O λL=>eb 0 (aY (ly (fC (u.parts.take g.1) ⟨[],[]⟩).2.code.length).toArray 3 (0,0)) O O<|Ln<|Eu ?_;refine Ue O (λ_ h=>by exact (Wo 1<|Wo 1<|Wo 1<|Wo 1<|Wt 7<|((((((h.f 7 O).f 7 O).f 7 O).f 6 O).f 6 O).f 6 O).f 7 O:)) ?_ WU.stop;refine LA ((fC (u.parts.take g.1) ⟨[],[]⟩).2.code.length) 5 0 Y O gn O O O O O O (by omega) (by omega) λm n=>Ln<|Eu<|U0 O (λ_ h=>by exact (Wo 1<|Wo 1<|Wo 1<|Wo 1<|Wt 7<|((((((h.f 7 O).f 7 O).f 7 O).f 6 O).f 6 O).f 6 O).f 7 O:)) (bS O)<|U0 O (λ_ h=>by exact (Wo 1<|Wo 1<|Wo 1<|Wo 1<|Wt 7<|((((((h.f 7 O).f 7 O).f 7 O).f 6 O).f 6 O).f 6 O).f 7 O:)) (Yf pE O)<|U0 O (λ_ h=>by exact (Wo 1<|Wo 1<|Wo 1<|Wo 1<|Wt 7<|((((((h.f 7 O).f 7 O).f 7 O).f 6 O).f 6 O).f 6 O).f 7 O:)) (Yf xQ O) ?_;refine WU.nil (λ_ h=>by exact (Wo 1<|Wo 1<|Wo 1<|Wo 1<|Wt 7<|((((((h.f 7 O).f 7 O).f 7 O).f 6 O).f 6 O).f 6 O).f 7 O:))<|WS.e O<|aw 1 Y O O O lX O O O<|Ln<|Es ?_;refine WS.nil<|Eb<|Et<|Cr<|V0 (Yi O O O (by omega))<|ab O<|Ln ?_;rw [<-B,<-C];refine WE.qE 1 (iJ 190 (⟨u.nm,aE b.1 u.aN.length b.2,u.data,aE m (fC (u.parts.take<|g.1+1) ⟨[],[]⟩).1.length n,am an 0⟩:rz) ⟨(fC (u.parts.take<|g.1+1) ⟨[],[]⟩).2,i.1,i.2⟩) O O<|Ea ((g.1+1,(i,(m,n))):Z×(SP×SP)×SP) (by show _-(g.1+1)<_;omega) (by show g.1+1<=_;omega) (sc O<|sc O<|sc O<|sc O<|sc O<|sc O<|sc O sn) (λ_ h=>by exact (Wt 6<|(((((h.f 7 O).f 7 O).f 7 O).f 6 O).f 6 O).f 6 O:))
  refine Ue O (dn [1,1,1,1]) ?_ WU.stop;refine Lf 3 O<|Lf 3 O<|Lf 3 O ?_;refine gz (LO x.params x.locals H J) λi=>Ln<|Eu ?_;refine Ue O (λ_ h=>by exact (Wo 1<|Wo 1<|Wo 1<|Wo 1<|((((((h.f 6 O).f 6 O).f 6 O).f 5 O).f 5 O).f 5 O).f 6 O:)) ?_ ?_;·refine V0 (Yd 0 O O O ah)<|Ln<|Eu ?_;refine Ue O (λ_ h=>by exact (Wo 1<|Wo 1<|Wo 1<|Wo 1<|((((((h.f 6 O).f 6 O).f 6 O).f 5 O).f 5 O).f 5 O).f 6 O:)) ?_ WU.stop;refine Lb Y O gn O O O O λL=>eb 0 (aY (ly (fC (u.parts.take g.1) ⟨[],[]⟩).2.code.length).toArray 3 (0,0)) O O<|Ln<|Eu ?_;refine Ue O (λ_ h=>by exact (Wo 1<|Wo 1<|Wo 1<|Wo 1<|Wt 7<|((((((h.f 7 O).f 7 O).f 7 O).f 6 O).f 6 O).f 6 O).f 7 O:)) ?_ WU.stop;refine LA ((fC (u.parts.take g.1) ⟨[],[]⟩).2.code.length) 5 0 Y O gn O O O O O O (by omega) (by omega) λm n=>Ln<|Eu<|U0 O (λ_ h=>by exact (Wo 1<|Wo 1<|Wo 1<|Wo 1<|Wt 7<|((((((h.f 7 O).f 7 O).f 7 O).f 6 O).f 6 O).f 6 O).f 7 O:)) (bS O)<|U0 O (λ_ h=>by exact (Wo 1<|Wo 1<|Wo 1<|Wo 1<|Wt 7<|((((((h.f 7 O).f 7 O).f 7 O).f 6 O).f 6 O).f 6 O).f 7 O:)) (Yf pE O)<|U0 O (λ_ h=>by exact (Wo 1<|Wo 1<|Wo 1<|Wo 1<|Wt 7<|((((((h.f 7 O).f 7 O).f 7 O).f 6 O).f 6 O).f 6 O).f 7 O:)) (Yf xQ O) ?_;refine WU.nil (λ_ h=>by exact (Wo 1<|Wo 1<|Wo 1<|Wo 1<|Wt 7<|((((((h.f 7 O).f 7 O).f 7 O).f 6 O).f 6 O).f 6 O).f 7 O:))<|WS.e O<|aw 1 Y O O O lX O O O<|Ln<|Es ?_;refine WS.nil<|Eb<|Et<|Cr<|V0 (Yi O O O (by omega))<|ab O<|Ln ?_;rw [<-B,<-C];refine WE.qE 1 (iJ 190 (⟨u.nm,aE b.1 u.aN.length b.2,u.data,aE m (fC (u.parts.take<|g.1+1) ⟨[],[]⟩).1.length n,am an 0⟩:rz) ⟨(fC (u.parts.take<|g.1+1) ⟨[],[]⟩).2,i.1,i.2⟩) O O<|Ea ((g.1+1,(i,(m,n))):Z×(SP×SP)×SP) (by show _-(g.1+1)<_;omega) (by show g.1+1<=_;omega) (sc O<|sc O<|sc O<|sc O<|sc O<|sc O<|sc O sn) (λ_ h=>by exact (Wt 6<|(((((h.f 7 O).f 7 O).f 7 O).f 6 O).f 6 O).f 6 O:))
  refine Ue O (λ_ h=>by exact (Wo 1<|Wo 1<|Wo 1<|Wo 1<|((((((h.f 6 O).f 6 O).f 6 O).f 5 O).f 5 O).f 5 O).f 6 O:)) ?_ WU.stop;refine Lb Y O gn O O O O λL=>eb 0 (aY (ly (fC (u.parts.take g.1) ⟨[],[]⟩).2.code.length).toArray 3 (0,0)) O O<|Ln<|Eu ?_;refine Ue O (λ_ h=>by exact (Wo 1<|Wo 1<|Wo 1<|Wo 1<|Wt 7<|((((((h.f 7 O).f 7 O).f 7 O).f 6 O).f 6 O).f 6 O).f 7 O:)) ?_ WU.stop;refine V0 (Yd 1 O O O ah)<|Ln<|Eu ?_;refine Ue O (λ_ h=>by exact (Wo 1<|Wo 1<|Wo 1<|Wo 1<|Wt 7<|((((((h.f 7 O).f 7 O).f 7 O).f 6 O).f 6 O).f 6 O).f 7 O:)) ?_ WU.stop;refine LA ((fC (u.parts.take g.1) ⟨[],[]⟩).2.code.length) 5 0 Y O gn O O O O O O (by omega) (by omega) λm n=>Ln<|Eu<|U0 O (λ_ h=>by exact (Wo 1<|Wo 1<|Wo 1<|Wo 1<|Wt 7<|((((((h.f 7 O).f 7 O).f 7 O).f 6 O).f 6 O).f 6 O).f 7 O:)) (bS O)<|U0 O (λ_ h=>by exact (Wo 1<|Wo 1<|Wo 1<|Wo 1<|Wt 7<|((((((h.f 7 O).f 7 O).f 7 O).f 6 O).f 6 O).f 6 O).f 7 O:)) (Yf pE O)<|U0 O (λ_ h=>by exact (Wo 1<|Wo 1<|Wo 1<|Wo 1<|Wt 7<|((((((h.f 7 O).f 7 O).f 7 O).f 6 O).f 6 O).f 6 O).f 7 O:)) (Yf xQ O) ?_;refine WU.nil (λ_ h=>by exact (Wo 1<|Wo 1<|Wo 1<|Wo 1<|Wt 7<|((((((h.f 7 O).f 7 O).f 7 O).f 6 O).f 6 O).f 6 O).f 7 O:))<|WS.e O<|aw 1 Y O O O lX O O O<|Ln<|Es ?_;refine WS.nil<|Eb<|Et<|Cr<|V0 (Yi O O O (by omega))<|ab O<|Ln ?_;rw [<-B,<-C];refine WE.qE 1 (iJ 190 (⟨u.nm,aE b.1 u.aN.length b.2,u.data,aE m (fC (u.parts.take<|g.1+1) ⟨[],[]⟩).1.length n,am an 0⟩:rz) ⟨(fC (u.parts.take<|g.1+1) ⟨[],[]⟩).2,i.1,i.2⟩) O O<|Ea ((g.1+1,(i,(m,n))):Z×(SP×SP)×SP) (by show _-(g.1+1)<_;omega) (by show g.1+1<=_;omega) (sc O<|sc O<|sc O<|sc O<|sc O<|sc O<|sc O sn) (λ_ h=>by exact (Wt 6<|(((((h.f 7 O).f 7 O).f 7 O).f 6 O).f 6 O).f 6 O:))
 have ax:g.1=u.parts.length:=by simp at A;omega
 rw [ax,gH];have o:=FW u.parts ⟨[],[]⟩;have ap:(fC u.parts ⟨[],[]⟩).2.code.length<=8*nz u.parts:=by have c:=o.1.hi;simpa using c
 have av:(fC u.parts ⟨[],[]⟩).2.fix.length<=8*nz u.parts:=by have c:=o.1.j0;simpa using c
 refine Ce<|Ex<|Ex<|ee<|Et<|ak<|ab O<|ab O<|V0 (Yf G7 O)<|V0 (Yd 5 O O O ah)<|V0 (Yb By Tr O O) ?_;refine gz (LO 0 0 l.main R) λy=>?_;refine V0 (bS O)<|V0 (Yf pE O)<|V0 (Yf Hf O)<|aw 0 Y O O O eE O O O<|ag<|Cs<|Cs<|hk 0 (iJ 190 (⟨u.nm,aE b.1 u.aN.length b.2,u.data,aE g.2.2.1 (fC u.parts ⟨[],[]⟩).1.length g.2.2.2,am an ((fC u.parts ⟨[],[]⟩).2.code.length:ac)⟩:rz) ⟨kL 0 0 u.main (fC u.parts ⟨[],[]⟩).2,y.1,y.2⟩) O O<|Cr<|ab O ?_;refine V0 (bS O)<|V0 (Yf pE O)<|V0 (Yf ed O)<|V0 (Yd 0 O O O ah)<|V0 (Yn hE O)<|V0 (eZ O O)<|ag ?_;refine Cc O (λD=>?_)<|λD=>?_
 ·have E:2048<(fo u).g.code.length:=by have c:=D;simp at c;show 2048<(kL 0 0 u.main (fC u.parts ⟨[],[]⟩).2).code.length;omega
  refine ak<|V0 (Yb vd LP O O)<|aw 4 Y O O O wA O O O<|au O<|ag<|bu<|Er ?_;refine WE.uh 4 O O O O h_ O λp a=>?_;rw [show bI u=(CL,2) from by rw [bI,aj (by rw [t];decide),aD E]];exact ⟨JP,O,a.fr,O5 _⟩
 have E:¬2048<(fo u).g.code.length:=by have c:=D;simp at c;show ¬2048<(kL 0 0 u.main (fC u.parts ⟨[],[]⟩).2).code.length;omega
 refine ay<|ak<|ab O<|V0 (bS O)<|V0 (Yf pE O)<|V0 (dW 0 O O h_ O)<|aw 4 Y O O O wA O O O<|au O<|ag<|bu ?_;refine WE.uh 4 O O O O h_ O λp a=>?_;rw [show bI u=(fo u,0) from by rw [bI,aj (by rw [t];decide),aj E]];exact ⟨⟨b,y.1,y.2,g.2.2⟩,O,a.fr,U.imp<|λ_ _ _ h=>cB.mono (fm a (by simp) T) h,a.kb 1 O cK.dR<|λ_ _ _ _ h=>h,a.kb 2 O ho.dR<|λ_ _ _ _ h=>h,a.kb 3 O AK<|λ_ _ _ _ h=>h⟩
def D2 (ke k:Z) (a:View) (b o:Z) (u:aI):Prop:=∃r:p0,cB a b o (ij u r)/\dY ke k a r u
structure aip (us:I aI) (nu:Z) (al:aS) (kn:I e7):Prop where
 len:kn.length=nu+1
 far:al=ad->∀mi,0<mi->mi<=nu->kn[mi]? = aa nZ
 air:∀mi,mi<=nu->(al=ad->mi=0)->∃u,us[mi]? = aa u/\kn[mi]? = aa (ec u)
abbrev XU:=aI×p0
def XU.cells (e:XU):I aR:=ij e.1 e.2
def XU.dR (e:XU):(XU.cells e).length=5:=rfl
def XU.one (e:XU):(XU.cells e).all (·.oneCell')=ad:=rfl
def TQ (a:View) (b o:Z) (e:XU):Prop:=cB a b o<|XU.cells e
def aed {es:I XU} (h:Sl TQ 5 bN cq dl es) (hv:cX bN cR) (d:∀e ∈ es,dY bE aL cR e.2 e.1):Sl (D2 bE aL) 5 cR cq dl (es.map (·.1)):=by refine ⟨by rw [fB];exact h.cap,h.max,h.spot,λi x a=>?_⟩;rw [fp] at a;obtain ⟨y,c,rfl⟩:=eQ.1 a;obtain ⟨b,o,f,g⟩:=h.ct i y c;exact ⟨b,o,f,y.2,cB.mono hv g,d y<|aW c⟩
def TR:ii aC 71 37 (b0 #[st [],aE ao 0 0,am an 0,aE ao 0 0,aE ao 0 0]) 5 96:=j_ ah
def aee (nm s:I ar):bO s [((nm,am an 1,0):fz (I ar))] (am an 0) = am an ((([nm]:I (I ar)).count s:Z):ac):=by
 by_cases h:nm=s;·subst h;simp [bO,eq]
 ·have a:¬s=nm:=λe=>h e.symm;simp [bO,eq,h,a,Ie]
def aef {seen:I<|I ar} {M:I<|fz<|I ar} (h:∀s,bO s M (am an 0) = am an ((seen.count s:Z):ac)) (x:I ar) (c:Z):∀s,bO s (gB x (am an<|((seen.count x:Z):ac)+1) M c) (am an 0) = am an (((seen++[x]).count s:Z):ac):=by
 intro s;by_cases e:s=x;·subst e;rw [yM,EI];simp
 ·rw [CF _ M c _ e,h s,EI];have a:¬x=s:=λk=>e k.symm;simp [Ie,a]
def D3:aT aC 77 1=aa 1:=ah
def Hg:aT aC 77 0=aa 0:=ah
def LR:aT aC 77 2=aa 2:=ah
def yT:e2 aC 62=aa 3:=ah
def sp:aT aC 62 0=aa 0:=ah
def BD:g_ aC 75=aa 3:=ah
def LS:i2 aC 198=aa 3:=ah
def LU:e2 aC 198=aa 3:=ah
def BE:aT aC 198 0=aa 0:=ah
def LV:aT aC 198 1=aa 1:=ah
def zC:aT aC 198 2=aa 2:=ah
def Hh (a:View) (b n:Z) (x:ac) (w:aP) (d:Le a w) (f:vc a b 0=aa (am an (n:ac))) : cx aC 238 #[am an x,b8 (aa ⟨b,0,ao⟩)] w λe c=>e = cf (bW<|jr n x)/\Ext w c:=by
 refine enter func238 O 11 O O<|CE (Vs:=[a]) (Ws.init (by simp [d]))<|ak<|au O<|ag<|ak<|ab O<|V0 (h9 O O)<|ab O ?_;apply La 3 O O O O Y O O O O O;·intro h;refine Vg (Ym O)<|Vg (ew 0 ah O O<|f)<|Vg (c8 O O) ?_;exact Gt 3 O O O
 refine au O<|ag<|bu ?_;refine R1 O O λc g=>⟨O,g.fr⟩
def aeg (k:View) (o:dU) (q:eG) (w:aP) (aG:Le k w) (j:jb k q o) :
   cx aC 167 #[b0 (nD o q).toArray] w λe z=>e = cf (am an<|j2 o)/\Ext w z:=by
 have a5:=j.aN.cap;have a7:=j.aN.max;have a9:=j.code.cap;have a_:=j.code.max;have ba:=j.fix.cap;have bb:=j.fix.max;have bc:=j.ge.cap;have bd:=j.ge.max;refine enter func167 O 191 O O<|CE (Vs:=[k]) (Ws.init (by simp [aG]))<|ak ?_;refine WL.box Y O O λL=>au O<|ag<|ak<|V0 (Yf ed O)<|V0 (Yd 0 O O O ah)<|V0 (Yn hE O) ?_;refine Al Y O lY λt=>aw 0 Y O O O eE O O O<|ag<|Cs<|Cs<|hk 0 (aY ([am an (o.code.length:ac)]).toArray 3 (0,0)) O O<|Cr<|V0 (Yf D3 O)<|V0 (Yd 1 O O O ah)<|V0 (Yn gf O)<|V0 (eZ O O) ?_;refine ab O ?_;apply Lo 4 O O O O Y O O O O O;·intro bf;refine Vg (Yf xQ O)<|Vg (Yd 1 O O O ah)<|Vg (Yn e8 O)<|Vg (eZ O O) ?_;exact Gt 4 O O O
 refine ab O ?_;apply Lo 2 O O O O Y O O O O O;·intro bg;refine Vg (Yd 0 O O O ah)<|Vg (c8 O O) ?_;exact Gt 2 O O O
 refine ab O ?_;apply Lo 2 O O O O Y O O O O O;·intro bh;refine Vg (Yd 0 O O O ah)<|Vg (eZ O O) ?_;exact Gt 2 O O O
 refine ag<|Cc O (λR=>?_)<|λR=>?_;·refine ak<|au O<|ag<|bu<|Er ?_;refine R1 O O λz i=>⟨by rw [j2,aD<|show sy o=ad from R],i.fr⟩
 have C:sy o=aq:=R;have bi:o.aN.length<=3:=by unfold sy at C;simp only [kG,mC] at C;omega
 refine ay<|ak ?_;refine WL.pT st Y O λM=>V0 (Yf Hg O)<|V0 (Yd 2 O O O ah) ?_;refine WL.pU 0 jx Y js ah O O O O<|ab O<|au O<|ag<|ak<|V0 (Yf Hg O)<|V0 (Yd 2 O O O ah)<|Lp Y O bp O (λw i=>h0 _ w)<|ab O ?_;apply La 3 O O O O Y O O O O O;·intro bj;refine Vg (Yf LR O)<|Vg (Yd 2 O O O ah)<|Vg (h9 O O) ?_;exact Gt 3 O O O
 refine ab O ?_;apply La 3 O O O O Y O O O O O;·intro bl;refine Vg (Yf LR O)<|Vg (Yd 2 O O O ah)<|Vg (li O O) ?_;exact Gt 3 O O O
 refine au O<|ag<|Cs<|ak<|V0 (Yf D3 O)<|V0 (Yd 2 O O O ah)<|V0 (Yn gf O)<|ab O<|ag<|Cb ?_;refine f_ (ι:=Z×I (fz<|I ar)×Z×aS) (λg=>[(58,am an (g.1:ac)),(5,bW g.2.2.2)]) [(1,_),(2,_),(3,_),(4,_),(56,_),(57,_)] (λg=>Ws w [] [aQ M<|dT st g.2.1 g.2.2.1,aQ t<|aY #[am an (o.code.length:ac)] 3 (0,0),aQ L<|aY (nD o q).toArray 77 (0,0)] [k]) (λg=>g.1<=o.aN.length/\(∀s,bO s g.2.1 (am an 0) = am an (((o.nm::o.aN.take g.1).count s:Z):ac))/\n_ (o.nm::o.aN.take g.1) (o.aN.drop g.1) g.2.2.2=n_ [o.nm] o.aN (ht o)) (λg=>o.aN.length-g.1) (0,[((o.nm,am an 1,0):fz (I ar))],1,ht o) ⟨dw _,aee o.nm,O⟩ a' λg ⟨bm,av,D⟩=>ak<|V0 (c8 O O)<|ag<|Cs ?_;refine Cc O (λS=>?_)<|λS=>?_
 ·have l:g.1<o.aN.length:=by simpa using S
  obtain ⟨s,T⟩:=bk l;obtain ⟨aH,pos,aI,V⟩:=j.aN.ct g.1 s T;have V:cB k aH (pos+g.1*1)<|g4 s:=V;have aL:(o.nm::o.aN.take g.1)++[s]=o.nm::o.aN.take (g.1+1):=by rw [h7,T];simp
  have bn:((o.nm::o.aN.take g.1).count s:Z)<=4:=by have N:(o.nm::o.aN.take g.1).count s<=(o.nm::o.aN.take g.1).length:=MO;simp at N;omega
  refine ay<|Cs<|Cb<|ak<|V0 (Yo gf O O aI l)<|V0 (ew 0 ah O O<|V 0 _ O)<|au O<|ag<|ak<|ab O<|ab O<|V0 (rj 0 jx js ah lY O O O) ?_;rw [av s];refine V0 (pK O O ai)<|WL.rk 0 jx Y js ah O O O O<|ag<|Cr<|ab O<|ab O ?_;apply La 2 (x:=gG s) O O O O Y O O O O O;·intro bo;refine Vg (Ym O)<|Lp (.g O O O) O bp O (λw i=>h0 _ w) ?_;exact Gt 2 O O O
  refine ab O ?_;apply La 4 (x:=(((o.nm::o.aN.take g.1).count s:Z):ac)+1==1) O O O O Y O O O O O;·intro bq;refine Vg (Ym O)<|Vg (Ym O)<|Vg (rj 0 jx js ah lY O O O) ?_;rw [yM];refine Vg (bY O O)<|Gt 4 O O O
  refine au O<|Ln<|Eb<|Et<|Cr<|V0 (Yi O O O ai)<|ab O<|Ln ?_;exact ep ((g.1+1,_,_,(g.2.2.2&&gG s)&&((((o.nm::o.aN.take g.1).count s:Z):ac)+1==1)):Z×I (fz<|I ar)×Z×aS) (by show _-(g.1+1)<_;omega) ⟨by show g.1+1<=_;omega,by rw [<-aL];exact aef av s _,(Y5 (seen:=[o.nm]) T _).symm.trans D⟩ a'
 have aM:g.1=o.aN.length:=by simp at S;omega
 rw [aM,wL] at D;have D:g.2.2.2=n_ [o.nm] o.aN (ht o):=D;refine Ce<|Ex<|Ex<|ee<|Et<|Cs<|ak<|V0 (Yf ed O)<|V0 (Yd 2 O O O ah)<|V0 (Yn hE O)<|ab O<|ag<|Cb ?_;refine f_ (ι:=Z×aS) (λf=>[(81,am an (f.1:ac)),(5,bW f.2)]) [(1,_),(2,_),(3,_),(79,_),(80,_)] (λf=>Ws w [] [aQ M<|dT st g.2.1 g.2.2.1,aQ t<|aY #[am an (o.code.length:ac)] 3 (0,0),aQ L<|aY (nD o q).toArray 77 (0,0)] [k]) (λf=>f.1<=o.code.length/\dZ (o.code.drop f.1) f.2=dZ o.code (n_ [o.nm] o.aN<|ht o)) (λf=>o.code.length-f.1) (0,g.2.2.2) ⟨dw _,by rw [D];rfl⟩ a' λf ⟨br,E⟩=>ak<|V0 (c8 O O)<|ag<|Cs ?_;refine Cc O (λW=>?_)<|λW=>?_
 ·have l:f.1<o.code.length:=by simpa using W
  obtain ⟨x,u⟩:=bk l;obtain ⟨F,G,H,n⟩:=j.code.ct f.1 x u;have n:cB k F (G+f.1*3) x.cells:=n;refine ay<|Cs<|Cb<|ak<|V0 (Yo hE O O H l)<|V0 (eB 0 xk O O O<|n) ?_;refine Al Y O iq λbs=>aw 0 Y O O O yT O O O<|ag<|hk 0 (aY (x.cells).toArray 62 (0,0)) O O<|Cr<|ab O<|ab O ?_;apply La 3 O O O O Y O O O O O;·intro bt;refine Vg (Yf sp O)<|Vg (Yd 0 O O O ah)<|Vg (h9 O O) ?_;exact Gt 3 O O O
  refine ab O ?_;apply La 3 O O O O Y O O O O O;·intro bv;refine Vg (Yf sp O)<|Vg (Yd 0 O O O ah)<|Vg (li O O) ?_;exact Gt 3 O O O
  refine au O<|Ln<|Eb<|Et<|Cr<|V0 (Yi O O O ai)<|ab O<|Ln ?_;exact ep ((f.1+1,_):Z×aS) (by show _-(f.1+1)<_;omega) ⟨by show f.1+1<=_;omega,(Y6 u _).symm.trans E⟩<|λ_ h=>Wd 1 h
 have aO:f.1=o.code.length:=by simp at W;omega
 rw [aO,wL] at E;have E:f.2=dZ o.code (n_ [o.nm] o.aN<|ht o):=E;refine Ce<|Ex<|Ex<|ee<|Et<|ak<|V0 (wW O)<|au O<|ag<|Cs<|ak<|V0 (Yf xQ O)<|V0 (Yd 2 O O O ah)<|V0 (Yn e8 O) ?_;refine ab O<|ag<|Cb ?_;refine f_ (ι:=Z×aS) (λd=>[(101,am an (d.1:ac)),(5,bW d.2)]) [(1,_),(2,_),(3,_),(10,_),(99,_),(100,_)] (λd=>Ws w [] [aQ M<|dT st g.2.1 g.2.2.1,aQ t<|aY #[am an (o.code.length:ac)] 3 (0,0),aQ L<|aY (nD o q).toArray 77 (0,0)] [k]) (λd=>d.1<=o.ge.length/\qR o.code.length (o.ge.drop d.1) d.2=qR o.code.length o.ge (dZ o.code<|n_ [o.nm] o.aN<|ht o)) (λd=>o.ge.length-d.1) (0,f.2) ⟨dw _,by rw [E];rfl⟩ a' λd ⟨bw,J⟩=>ak<|V0 (c8 O O)<|ag<|Cs ?_;refine Cc O (λX=>?_)<|λX=>?_
 ·have l:d.1<o.ge.length:=by simpa using X
  obtain ⟨x,u⟩:=bk l;obtain ⟨F,G,H,n⟩:=j.ge.ct d.1 x u;have n:cB k F (G+d.1*1)<|ik x:=n;refine ay<|Cs<|Cb<|ak<|V0 (Yo e8 O O H l)<|V0 (ew 0 ah O O<|n 0 _ O)<|au O<|ag<|Cr<|ab O<|ab O ?_;apply La 3 (x:=jr o.code.length x) O O O O Y O O O O O;·intro bx;refine Vg (Ym O)<|Vg (Ym O) ?_;refine WL.vy (.g O O O) O bp O O (λw i=>Hh (hv w) t o.code.length x w (kZ w)<|gR (i.qF 1 O) O)<|Gt 3 O O O
  refine au O<|Ln<|Eb<|Et<|Cr<|V0 (Yi O O O ai)<|ab O<|Ln ?_;exact ep ((d.1+1,d.2&&jr o.code.length x):Z×aS) (by show _-(d.1+1)<_;omega) ⟨by show d.1+1<=_;omega,(Y7 u _).symm.trans J⟩ a'
 have aT:d.1=o.ge.length:=by simp at X;omega
 rw [aT,wL] at J;have J:d.2=qR o.code.length o.ge (dZ o.code<|n_ [o.nm] o.aN<|ht o):=J;refine Ce<|Ex<|Ex<|ee<|Et<|ak<|au O<|ag<|Cs<|ak<|V0 (Yf DZ O)<|V0 (Yd 2 O O O ah)<|V0 (Yn BD O)<|ab O ?_;refine ag<|Cb ?_;refine f_ (ι:=Z×ac×aS) (λb=>[(115,am an (b.1:ac)),(13,am an b.2.1),(5,bW b.2.2)]) [(1,_),(2,_),(3,_),(10,_),(113,_),(114,_)] (λb=>Ws w [] [aQ M<|dT st g.2.1 g.2.2.1,aQ t<|aY #[am an (o.code.length:ac)] 3 (0,0),aQ L<|aY (nD o q).toArray 77 (0,0)] [k]) (λb=>b.1<=o.fix.length/\oM o.aN.length o.code (o.fix.drop b.1) b.2.1 b.2.2=xu o) (λb=>o.fix.length-b.1) (0,-1,d.2) ⟨dw _,by rw [J];rfl⟩ a' λb ⟨bA,A⟩=>ak<|V0 (c8 O O)<|ag<|Cs ?_;refine Cc O (λae=>?_)<|λae=>?_
 ·have l:b.1<o.fix.length:=by simpa using ae
  obtain ⟨x,u⟩:=bk l;obtain ⟨F,G,H,n⟩:=j.fix.ct b.1 x u;have n:cB k F (G+b.1*3) x.cells:=n;have r:=Y8 (U:=o.aN.length) (c:=o.code) u b.2.1 b.2.2;rw [A] at r;refine ay<|Cs<|Cb<|ak<|V0 (Yo BD O O H l)<|V0 (eB 0 LS O O O<|n) ?_;refine Al Y O He λbC=>aw 0 Y O O O LU O O O<|ag<|Cs<|hk 0 (aY (x.cells).toArray 198 (0,0)) O O<|Cr<|ab O<|ab O ?_;apply La 4 O O O O Y O O O O O;·intro bD;refine Vg (Yf BE O)<|Vg (Yd 0 O O O ah)<|Vg (Ym O)<|Vg (eZ O O) ?_;exact Gt 4 O O O
  refine ab O ?_;apply La 4 (x:=jr o.code.length x.at_) O O O O Y O O O O O;·intro bE;refine Vg (Ym O)<|Vg (Yf BE O)<|Vg (Yd 0 O O O ah) ?_;refine WL.vy (.g O O O) O bp O O (λw i=>Hh (hv w) t o.code.length x.at_ w (kZ w)<|gR (i.qF 2 O) O)<|Gt 4 O O O
  refine au O<|ag<|Cs<|ak<|ab O<|V0 (ih O)<|ag ?_;refine Cc O (λaf=>?_)<|λaf=>?_
  ·have ax:((b.2.2&&decide (b.2.1<x.at_))&&jr o.code.length x.at_)=aq:=by have N:=af;cases aU:((b.2.2&&decide (b.2.1<x.at_))&&jr o.code.length x.at_) with| false=>rfl| true=>rw [aU] at N;cases N
   rw [aD ax] at r;refine Ce<|Ex<|B3 O<|Ex<|Ex<|ee<|Et<|Cs<|ak<|ab O<|V0 (ih O)<|ab O ?_;apply Lo 5 (x:=!(jr o.code.length o.main)) O O O O Y O O O O O;·intro aV;refine Vg (Ym O)<|Vg (Yf Hf O)<|Vg (Yd 3 O O O ah) ?_;refine WL.vy (.g O O O) O bp O O (λw i=>Hh (hv w) t o.code.length o.main w (kZ w)<|gR (i.qF 2 O) O)<|Vg (ih O)<|Gt 5 O O O
   refine ag<|Cc O (λv=>?_)<|λv=>?_;·refine ak<|au O<|ag<|bu<|Er ?_;refine R1 O O λz i=>⟨by rw [j2,C,aj a8,aD (by rw [r];rfl)],i.fr⟩
   refine ay<|ak<|au O<|ag<|bu ?_;refine R1 O O λz i=>?_;rw [ax] at v;exact absurd v aK
  have az:((b.2.2&&decide (b.2.1<x.at_))&&jr o.code.length x.at_)=ad:=by simpa using af
  rw [aj (by rw [az];decide)] at r;obtain ⟨p,bF,aW⟩:=uQ (bz.1 az).2;have aB:x.at_.toNat=p:=ai;obtain ⟨y,aF⟩:=bk aW;obtain ⟨aX,aZ,a0,P⟩:=j.code.ct p y aF;have P:cB k aX (aZ+p*3) y.cells:=P;rw [<-aB] at P;have a1:ko o.code x.at_=y.a:=by unfold ko;rw [aB,aF];rfl
  rw [a1] at r;refine ay<|ak<|V0 (Yf BE O)<|V0 (Yd 0 O O O ah)<|au O<|ag<|ak<|V0 (Yf ed O)<|V0 (Yd 3 O O O ah)<|V0 (Yf BE O) ?_;refine V0 (Yd 0 O O O ah)<|V0 (k8 hE O O a0 ai ai)<|V0 (Yf kN O)<|V0 (ew 0 ah O O<|P 1 _ O)<|au O<|ag<|ak<|ab O<|V0 (h9 O O) ?_;refine ab O ?_;apply La 2 O O O O Y O O O O O;·intro bG;refine Vg (Ym O)<|Vg (li O O) ?_;exact Gt 2 O O O
  refine au O<|ag<|ak<|V0 (Yf LV O)<|V0 (Yd 0 O O O ah)<|ag<|Cb<|ak<|V0 (bY O O)<|au O<|ag ?_;refine Cc O (λal=>?_)<|λal=>?_
  ·have K:x.kind=1:=by simpa using al
   refine Cr<|ab O<|ab O ?_;apply La 3 O O O O Y O O O O O;·intro bI;refine Vg (Yf zC O)<|Vg (Yd 0 O O O ah)<|Vg (bY O O) ?_;exact Gt 3 O O O
   refine ab O ?_;apply La 3 O O O O Y O O O O O;·intro bJ;refine Vg (Ym O)<|Vg (Yd 2 O O O ah)<|Vg (li O O) ?_;exact Gt 3 O O O
   refine au O<|Ln<|Eb<|Eb<|Et<|Cr<|V0 (Yi O O O ai)<|ab O<|Ln ?_;exact ep ((b.1+1,x.at_,((decide (0<=y.a)&&decide (y.a<=2048))&&(x.m==0))&&decide (y.a<=(o.code.length:ac))):Z×ac×aS) (by show _-(b.1+1)<_;omega) ⟨by show b.1+1<=_;omega,(congrArg (oM o.aN.length o.code (o.fix.drop<|b.1+1) x.at_)<|show (((decide (0<=y.a)&&decide (y.a<=2048))&&(x.m==0))&&decide (y.a<=(o.code.length:ac)))=mm o.aN.length o.code.length x.kind x.m y.a from (by unfold mm;rw [aD K])).trans r.symm⟩<|λ_ h=>Wd 1 h
  have K:¬x.kind=1:=by simpa using al
  refine Cs<|ak<|V0 (bY O O)<|au O<|ag ?_;refine Cc O (λQ=>?_)<|λQ=>?_
  ·have ap:x.kind=2:=by simpa using Q
   refine ay<|Cc O (λB=>?_)<|λB=>?_
   ·refine Cr<|ab O<|ab O ?_;apply La 3 O O O O Y O O O O O;·intro a2;refine Vg (Yf zC O)<|Vg (Yd 0 O O O ah)<|Vg (h9 O O) ?_;exact Gt 3 O O O
    refine ab O ?_;apply La 6 O O O O Y O O O O O;·intro a3;refine Vg (Yf zC O)<|Vg (Yd 0 O O O ah)<|Vg (Yf D3 O)<|Vg (Yd 3 O O O ah)<|Vg (Yn gf O)<|Vg (li O O) ?_;exact Gt 6 O O O
    refine au O<|Ln<|Eb<|Eb<|Et<|Cr<|V0 (Yi O O O ai)<|ab O<|Ln ?_;exact ep ((b.1+1,x.at_,((decide (0<=y.a)&&decide (y.a<=2048))&&decide (0<=x.m))&&decide (x.m<=(o.aN.length:ac))):Z×ac×aS) (by show _-(b.1+1)<_;omega) ⟨by show b.1+1<=_;omega,(congrArg (oM o.aN.length o.code (o.fix.drop<|b.1+1) x.at_)<|show (((decide (0<=y.a)&&decide (y.a<=2048))&&decide (0<=x.m))&&decide (x.m<=(o.aN.length:ac)))=mm o.aN.length o.code.length x.kind x.m y.a from (by unfold mm;rw [aj K,aD<|bB ap])).trans r.symm⟩<|λ_ h=>Wd 1 h
   refine Cr<|au O<|Ln<|Eb<|Eb<|Et<|Cr<|V0 (Yi O O O ai)<|ab O<|Ln ?_;exact ep ((b.1+1,x.at_,aq):Z×ac×aS) (by show _-(b.1+1)<_;omega) ⟨by show b.1+1<=_;omega,(congrArg (oM o.aN.length o.code (o.fix.drop<|b.1+1) x.at_)<|show aq=mm o.aN.length o.code.length x.kind x.m y.a from (by exact absurd (Q.symm.trans B) a8)).trans r.symm⟩<|λ_ h=>Wd 1 h
  have ap:¬x.kind=2:=by simpa using Q
  refine Cr<|V0 (bY O O)<|au O<|ag ?_;refine Cc O (λB=>?_)<|λB=>?_
  ·refine Cr<|ab O<|ab O ?_;apply La 3 O O O O Y O O O O O;·intro a2;refine Vg (Yf zC O)<|Vg (Yd 0 O O O ah)<|Vg (h9 O O) ?_;exact Gt 3 O O O
   refine ab O ?_;apply La 6 O O O O Y O O O O O;·intro a3;refine Vg (Yf zC O)<|Vg (Yd 0 O O O ah)<|Vg (Yf D3 O)<|Vg (Yd 3 O O O ah)<|Vg (Yn gf O)<|Vg (li O O) ?_;exact Gt 6 O O O
   refine au O<|Ln<|Eb<|Eb<|Et<|Cr<|V0 (Yi O O O ai)<|ab O<|Ln ?_;exact ep ((b.1+1,x.at_,((decide (0<=y.a)&&decide (y.a<=2048))&&decide (0<=x.m))&&decide (x.m<=(o.aN.length:ac))):Z×ac×aS) (by show _-(b.1+1)<_;omega) ⟨by show b.1+1<=_;omega,(congrArg (oM o.aN.length o.code (o.fix.drop<|b.1+1) x.at_)<|show (((decide (0<=y.a)&&decide (y.a<=2048))&&decide (0<=x.m))&&decide (x.m<=(o.aN.length:ac)))=mm o.aN.length o.code.length x.kind x.m y.a from (by unfold mm;rw [aj K,aD<|be (by simpa using B)])).trans r.symm⟩<|λ_ h=>Wd 1 h
  refine Cr<|au O<|Ln<|Eb<|Eb<|Et<|Cr<|V0 (Yi O O O ai)<|ab O<|Ln ?_;exact ep ((b.1+1,x.at_,aq):Z×ac×aS) (by show _-(b.1+1)<_;omega) ⟨by show b.1+1<=_;omega,(congrArg (oM o.aN.length o.code (o.fix.drop<|b.1+1) x.at_)<|show aq=mm o.aN.length o.code.length x.kind x.m y.a from (by unfold mm;rw [aj K,aj<|λh=>h.elim ap (by simpa using B)])).trans r.symm⟩<|λ_ h=>Wd 1 h
 have a4:b.1=o.fix.length:=by simp at ae;omega
 rw [a4,wL] at A;have A:b.2.2=xu o:=A;refine Ce<|Ex<|Ex<|ee<|Et<|Cs<|ak<|ab O<|V0 (ih O)<|ab O ?_;apply Lo 5 (x:=!(jr o.code.length o.main)) O O O O Y O O O O O;·intro aV;refine Vg (Ym O)<|Vg (Yf Hf O)<|Vg (Yd 2 O O O ah) ?_;refine WL.vy (.g O O O) O bp O O (λw i=>Hh (hv w) t o.code.length o.main w (kZ w)<|gR (i.qF 1 O) O)<|Vg (ih O)<|Gt 5 O O O
 refine ag<|Cc O (λv=>?_)<|λv=>?_;·refine ak<|au O<|ag<|bu<|Er ?_;refine R1 O O λz i=>⟨by rw [j2,C,aj a8,<-A,aD v],i.fr⟩
 refine ay<|ak<|au O<|ag<|bu ?_;refine R1 O O λz i=>⟨by rw [j2,C,aj a8,<-A,aj (by rw [v];decide)],i.fr⟩
def Qi (s:I ar):(Gq s).length=s.length+1:=rfl
variable {l7:I cK}
def TS {y:cK} (h:az.toNat=bE) (b:l7[bE]? = aa y):ko l7 az=y.a:=by unfold ko;rw [h,b];rfl
def J2:aT aC 62 2=aa 2:=ah
abbrev XO:=dU×eG
def XO.cells (e:XO):I aR:=nD e.1 e.2
def XO.dR (e:XO):(XO.cells e).length=7:=rfl
def G8 (a:View) (b o:Z) (e:XO):Prop:=cB a b o<|XO.cells e
def D4 (a:View) (b o:Z) (x:dU):Prop:=∃q,cB a b o (nD x q)/\jb a q x
variable {dv:dU}
def LX {q:eG}  (h:jb bN q dv) (hv:cX bN cR):jb cR q dv:=⟨h.aN.imp λ_ _ _ r=>cB.mono hv r,h.code.imp λ_ _ _ r=>cB.mono hv r,h.fix.imp λ_ _ _ r=>cB.mono hv r,h.ge.imp λ_ _ _ r=>cB.mono hv r⟩
def aeh {es:I XO} (h:Sl G8 7 bN cq bE es) (hv:cX bN cR) (d:∀e ∈ es,jb cR e.2 e.1):Sl D4 7 cR cq bE (es.map (·.1)):=by refine ⟨by rw [fB];exact h.cap,h.max,h.spot,λi x a=>?_⟩;rw [fp] at a;obtain ⟨y,c,rfl⟩:=eQ.1 a;obtain ⟨b,o,f,g⟩:=h.ct i y c;exact ⟨b,o,f,y.2,cB.mono hv g,d y<|aW c⟩
def TT:ii aC 74 77 (b0 #[st [],aE ao 0 0,am an 0,aE ao 0 0,aE ao 0 0,aE ao 0 0,am an 0]) 7 128:=j_ ah
def TU (a b:View) (a1 a2:aA a6) (c1 c2:Z) (l:I ac) (w:aP) (o:Le a w) (p:Le b w) (c:Sl gW 1 a a1 c1 l) (f:Sl gW 1 b a2 c2 l) : cx aC 24 #[aE a1 l.length c1,aE a2 l.length c2] w λe k=>e = cf (bW ad)/\Ext w k:=by
 have z:=c.cap;have A:=c.max;have B:=f.cap;have C:=f.max;refine enter func24 O 26 O O<|CE (Vs:=[a,b]) (Ws.init (by simp [o,p]))<|ak<|au O<|ag<|Cs<|ak<|ab O<|V0 (Yn e8 O)<|ab O<|V0 (Yn e8 O) ?_;refine V0 (Ok O O O)<|ag ?_;refine WC.uc O<|ay<|Cs<|ak<|au O<|ag<|Cb ?_;refine pL (ι:=Z) (λi=>[(5,am an (i:ac))]) [(0,_),(1,_)] (λi=>i<=l.length) (λi=>l.length-i) 0 (dw _) λi hi=>Cs<|ak<|ab O<|ab O<|V0 (Yn e8 O)<|V0 (c8 O O)<|ag ?_;refine Cc O (λm=>?_)<|λm=>?_
 ·have q:i<l.length:=by simpa using m
  obtain ⟨x,n⟩:=bk q;obtain ⟨pb,r,s,g⟩:=c.ct i x n;obtain ⟨t,u,v,j⟩:=f.ct i x n;have g:cB a pb (r+i*1)<|ik x:=g;have j:cB b t (u+i*1)<|ik x:=j;refine ay<|Cs<|Cb<|Cs ?_;refine WC.o6 [(0,ad),(1,ad),(2,ad),(3,ad),(4,ad),(5,ad),(6,ad),(7,ad),(8,ad)] mixed ah (λ_ _ _ d _ h=>by cases d<;>exact h)<|D0 O a' (Ym O)<|D0 O a' (Ym O)<|D0 O a' (Yo e8 O O s ai)<|D0 O a' (ew 0 ah O O<|g 0 _ O)<|D0 O a' (Ym O)<|D0 O a' (Ym O)<|D0 O a' (Yo e8 O O v ai)<|D0 O a' (ew 1 ah O O<|j 0 _ O) ?_;refine D0 O a' (Ok O O O)<|WD.nil a'<|Et<|WC.uc O<|Ck<|Eb<|Et<|Cr<|ab O<|V0 (Yi O O O ai)<|au O<|Ln ?_;exact ep (i+1) ai ai a'
 refine Ce<|Ex<|Ex<|ee<|Et<|ak<|au O<|ag<|bu ?_;refine R1 O O λk y=>⟨O,y.fr⟩
def aei (a:View) (ke k:Z) (u:aI) (r:p0) (w:aP) (c:Le a w) (d:dY ke k a r u) (f:vK u<=1048576):cx aC 27 #[b0 (ij u r).toArray] w λe b=>∃r:eG,e = cf (cO #[b0 (nD (bI u).1.to r).toArray,am an (bI u).2])/\Ext w b/\jb (nv w b) r (bI u).1.to:= (aec a ke k u r w c d f).mono λe b ⟨r,g,h,i⟩=>⟨r,by rw [g,Y3],h,Y4 i⟩
def Hi (p:Pl) (q:SP):I aR:=[am an p.code,am an p.data,aE q.1 p.vI.length q.2]
abbrev mw:=Pl×SP
def mw.cells (e:mw):I aR:=Hi e.1 e.2
def mw.dR (e:mw):(mw.cells e).length=3:=rfl
def TV (a:View) (b o:Z) (e:mw):Prop:=cB a b o<|mw.cells e
def zD (J:View) (e:mw):Prop:=Sl sj 1 J e.2.1 e.2.2 e.1.vI
def LY {e:mw} (hv:cX bN cR) (h:zD bN e):zD cR e:=Sl.imp (λb o x h=>cB.mono hv h) h
def LZ (a:View) (b o:Z) (p:Pl):Prop:=∃q:SP,cB a b o (Hi p q)/\Sl sj 1 a q.1 q.2 p.vI
def aej {a J N:View}   {es:I mw} (h:Sl TV 3 a cq bE es) (hv:cX a N) (c:cX J N) (d:Xs zD J es):Sl LZ 3 N cq bE (es.map (·.1)):= yJ h d λb o e f g=>⟨e.2,cB.mono hv f,LY c g⟩
def hS (l:I dU):I Pl:=if kP l=0 then qS l++[je l] else []
variable {gw:I dU}
def D5 (h:¬kP gw=0):hS gw=[]:=by rw [hS,aj h]
structure Tt where
 i:Z
 es:I mw
 oa:SP
 J:View
def aek (l:I dU):(qS l).take l.length=qS l:=mz (by rw [xw];exact c7 _)
def ael {U n:Z}  (h:mm U n az b' j1=ad) (a:az=2):0<=j1/\j1<=2048/\0<=b'/\b'<=(U:ac):=by subst a;unfold mm at h;rw [aj a8,aD<|bB rfl] at h;simp only [eI,cw] at h;omega
def oW:g_ aC 74=aa 7:=ah
def TX:hW aC 196=aa [(0,1),(1,1),(2,1)]:=ah
def D6:zeroOf aC 196=aa (b0 #[am an 0,am an 0,aE ao 0 0]):=ah
def L0:e2 aC 196=aa 3:=ah
def xS:aT aC 196 0=aa 0:=ah
def BF:aT aC 196 1=aa 1:=ah
def Hj:aT aC 196 2=aa 2:=ah
def Io:i2 aC 196=aa 3:=ah
def Hk:ii aC 192 196 (b0 #[am an 0,am an 0,aE ao 0 0]) 3 40:=j_ ah
def xT:g_ aC 192=aa 3:=ah
def aem (A:View) (a:aA a6) (c:Z) (l:I dU) (w:aP) (bE:Le A w) (M:Sl D4 7 A a c l) :
   cx aC 101 #[aE a l.length c] w λe G=>∃q:SP,e = cf (cO #[aE q.1 (hS l).length q.2,am an (kP l)])/\Ext w G/\Sl LZ 3 (nv w G) q.1 q.2 (hS l):=by
 have cK:=M.cap;have cL:=M.max;refine enter func101 O 163 O O<|CE (Vs:=[A]) (Ws.init (by simp [bE]))<|ak<|au O<|au O<|ag<|Cs<|ak<|ab O<|V0 (Yn oW O)<|V0 (c8 O O) ?_;refine ab O ?_;apply Lo 3 O O O O Y O O O O O;·intro bF;refine Vg (Ym O)<|Vg (Yn oW O)<|Vg (eZ O O) ?_;exact Gt 3 O O O
 refine ag<|Cc O (λax=>?_)<|λax=>?_
 ·have L:l.length<1\/4<l.length:=by simp at ax;omega
  have v:=Qo L;refine ak<|au O<|au O<|ag<|bu<|Er ?_;refine WE.jv O O O λG z=>?_;rw [D5 (by rw [v];decide),v];exact ⟨(ao,0),O,z.fr,Sl.nil⟩
 have L:¬(l.length<1\/4<l.length):=by simp at ax;omega
 refine ay<|ak ?_;refine WL.pT st Y O λbG=>au O<|ag<|Cs<|ak<|ab O<|V0 (Yn oW O)<|ab O<|ag<|Cb ?_;refine f_ (ι:=Z×I (fz<|I ar)×Z) (λt=>[(33,am an (t.1:ac))]) [(0,_),(4,_),(31,_),(32,_)] (λt=>Ws w [] [aQ bG<|dT st t.2.1 t.2.2] [A]) (λt=>t.1<=l.length/\(∀o ∈ l.take t.1,j2 o=0)/\wa (g0 l) t.1 t.2.1) (λt=>l.length-t.1) (0,[],0) ⟨dw _,by simp,wa.zero _⟩ (λ_ h=>h) λt ⟨bF,F,U⟩=>ak<|V0 (c8 O O)<|ag<|Cs ?_;refine Cc O (λaz=>?_)<|λaz=>?_
 ·have C:t.1<l.length:=by simpa using az
  obtain ⟨o,u⟩:∃q,l[t.1]? = aa q:=⟨_,cy C⟩;obtain ⟨a8,a9,P,Q⟩:=M.ct t.1 o u;obtain ⟨H,S,r⟩:=Q;have V:=aW u;have a':=r.aN.cap;have a_:=r.aN.max;have ba:=r.fix.cap;have bb:=r.fix.max;have bc:=r.code.cap;have bd:=r.code.max;refine ay<|Cs<|Cb<|ak<|V0 (Yo oW O O P C)<|V0 (eB 0 h_ O O O<|S) ?_;refine Al Y O vd λcM=>aw 0 Y O O O wA O O O<|ag<|Cs<|Cs<|hk 0 (aY (nD o H).toArray 77 (0,0)) O O<|Cr<|V0 (dW 0 O O h_ O)<|Lp Y O bp O (λw z=>aeg A o H w (z.vs _ (by simp)) r)<|au O<|ag<|ak ?_;refine ab O<|V0 (ha O O)<|ag ?_;refine Cc O (λaB=>?_)<|λaB=>?_
  ·have E:¬j2 o=0:=by simpa using aB
   have v:=Zg L u F E;refine ak<|ab O<|au O<|au O<|ag<|bu<|Er<|aU<|Er<|Er<|aU<|Er ?_;refine WE.jv O O O λG z=>?_;rw [D5 (by rw [v];exact E),v];exact ⟨(ao,0),O,z.fr,Sl.nil⟩
  have E:j2 o=0:=by simpa using aB
  refine ay<|Cr<|ab O<|V0 (Yf Hg O)<|V0 (Yd 0 O O O ah)<|V0 (rj 1 jx js ah lY O O O) ?_;rw [U.1 o.nm];refine V0 (pK O O (by have B:((g0 l).take t.1).count o.nm<=((g0 l).take t.1).length:=MO;rw [m3,A4] at B;omega))<|WL.rk 1 jx Y js ah O O O O<|Ln<|Eb<|Et<|Cr<|V0 (Yi O O O (by omega))<|ab O<|Ln ?_;exact ep ((t.1+1,_,_):Z×I (fz<|I ar)×Z) (by show _-(t.1+1)<_;omega) ⟨by show t.1+1<=_;omega,Qk u F E,U.step (Qn u) _⟩<|λ_ h=>Wd 1 h
 have bf:t.1=l.length:=by simp at az;omega
 rw [bf,gH] at F;rw [bf,<-A4 l] at U;have bg:=U.fH;refine Ce<|Ex<|Ex<|ee<|Et<|Cs<|ak<|ab O<|V0 (E9 0 js O O)<|ab O<|V0 (Yn oW O)<|V0 (c8 O O)<|ag ?_;refine Cc O (λaF=>?_)<|λaF=>?_
 ·have W:g6 (g0 l)=ad:=bg.1 (by rw [A4];simp at aF;omega);have v:kP l=6:=by rw [vP L F,aD W]
  refine ak<|au O<|au O<|ag<|bu<|Er ?_;refine WE.jv O O O λG z=>?_;rw [D5 (by rw [v];decide),v];exact ⟨(ao,0),O,z.fr,Sl.nil⟩
 have W:g6 (g0 l)=aq:=by cases bI:g6 (g0 l) with| false=>rfl| true=>have:=bg.2 bI;rw [A4] at this;simp at aF;omega
 have bJ:=kK.2 W;have T:=vP L F;rw [W,aj (by decide)] at T;refine ay<|ak ?_;refine WL.pT st Y O λX=>au O<|ag<|ak<|ab O<|V0 (Yn oW O)<|V0 (Yi O O O (by omega))<|V0 (Yb D6 TX O O) ?_;refine Al Y O D6 λae=>aw 0 Y O O O L0 O O O<|ag<|ak<|au O<|ag<|Cs<|Cs<|hk 0 (aY #[am an ((l.length:ac)+1),am an 0,aE ao 0 0] 196 (0,0)) O O ?_;have bL:((l.length:ac)+1)=bw l 0:=by simp [bw,rH]
 rw [bL];refine hk 0 (aY #[am an (bw l 0),am an (bK l 0),aE ao 0 0] 196 (0,0)) O O<|pI (λ_ h=>h.hM 196 3)<|pI (λ_ h=>h.v0)<|Cr<|ab O<|V0 (Yn oW O)<|ab O<|ag<|Cb ?_;refine f_ (ι:=Tt) (λg=>[(60,am an (g.i:ac)),(10,aE g.oa.1 g.es.length g.oa.2)]) [(0,_),(8,_),(9,_),(58,_),(59,_)] (λg=>Ws w [] [cQ 196 3 mw.cells g.oa.1 g.oa.2 g.es,aQ X<|dT st (i5 ((g0 l).take g.i) 0) g.i,aQ ae<|aY #[am an (bw l g.i),am an (bK l g.i),aE ao 0 0] 196 (0,0)] [g.J,A]) (λg=>g.i<=l.length/\g.es.map (·.1)=(qS l).take g.i/\(hf w g.J/\Xs zD g.J g.es)/\∀n o,n<g.i->l[n]? = aa o->uR ((g0 l).take n) o=ad) (λg=>l.length-g.i) ⟨0,[],(ao,0),v0⟩ ⟨dw _,O,⟨fK _,Xs.nil _⟩,λn o h=>absurd h<|EJ _⟩ (λ_ h=>by have h:=h.bs 1 O;have h:=h.bs 2 O;have h:=h.bs 2 O;have h:=Wt 3 h;have h:=Ws.aZ h (cI:=[v0,A]) (by simp);exact h) λg ⟨cP,N,⟨bh,aG⟩,bi⟩=>ak<|V0 (c8 O O)<|ag<|Cs ?_;refine Cc O (λaH=>?_)<|λaH=>?_
 ·have C:g.i<l.length:=by simpa using aH
  obtain ⟨o,u⟩:∃q,l[g.i]? = aa q:=⟨_,cy C⟩;obtain ⟨a8,a9,P,Q⟩:=M.ct g.i o u;obtain ⟨H,S,r⟩:=Q;have V:=aW u;have a':=r.aN.cap;have a_:=r.aN.max;have ba:=r.fix.cap;have bb:=r.fix.max;have bc:=r.code.cap;have bd:=r.code.max;have E:=F o V;have af:=C8 E;have cR:=af.aN;have bM:=af.code;have cS:=Qs E;have bj:=Qn u;have bk:=Pj bJ bj;have bl:((g0 l).take g.i).length=g.i:=by rw [m3,A4];omega
  have bN:(g0 l).take (g.i+1)=((g0 l).take g.i)++[o.nm]:=by rw [h7,bj];rfl
  have cT:=C' L F (k:=g.i) (by omega);have cU:=C_ L F (k:=g.i) (by omega);have bO:g.es.length=g.i:=by rw [<-fB,N,m3,xw];omega
  refine ay<|Cs<|Cb<|ak<|ab O<|V0 (Yo oW O O P C)<|V0 (eB 1 h_ O O O<|S) ?_;refine Al Y O vd λbP=>au O<|aw 0 Y O O O wA O O O<|ag<|Cs<|hk 0 (aY (nD o H).toArray 77 (0,0)) O O<|Cr<|V0 (Yf xS O)<|V0 (Yd 3 O O O ah)<|V0 (Yf BF O) ?_;refine V0 (Yd 3 O O O ah)<|ab O ?_;refine Lb Y O gn O O O O λbQ=>eb 0 (aY ((([g.i]:I Z)).flatMap ly).toArray 3 (0,0)) O O<|LW (λ_ h=>h.r9 (f:=ly) (xs:=([g.i]:I Z)) (c:=1) 0 O AK O (by decide))<|V0 (Yb D6 TX O O) ?_;refine Al Y O D6 λbR=>aw 0 Y O O O L0 O O O<|ag<|Cs<|ak<|V0 (Yf D3 O)<|V0 (Yd 2 O O O ah)<|V0 (Yn gf O)<|ab O<|ag<|Cb ?_;refine f_ (ι:=Z×SP) (λb=>[(75,am an (b.1:ac))]) [(0,_),(8,_),(9,_),(10,_),(11,_),(12,_),(13,_),(58,_),(59,_),(60,_),(73,_),(74,_)] (λb=>Ws w [] [cQ 3 1 ly b.2.1 b.2.2<|g.i::(o.aN.take b.1).map (hA<|(g0 l).take g.i),aQ bR<|aY #[am an (bw l g.i),am an (bK l g.i),aE b.2.1 (g.i::(o.aN.take b.1).map (hA<|(g0 l).take g.i)).length b.2.2] 196 (0,0),aQ bP<|aY (nD o H).toArray 77 (0,0),cQ 196 3 mw.cells g.oa.1 g.oa.2 g.es,aQ X<|dT st (i5 ((g0 l).take g.i) 0) g.i,aQ ae<|aY #[am an (bw l g.i),am an (bK l g.i),aE ao 0 0] 196 (0,0)] [g.J,A]) (λb=>b.1<=o.aN.length/\((o.aN.take b.1).all λs=>(idxOf s ((g0 l).take g.i) 0).isSome)=ad) (λb=>o.aN.length-b.1) (0,(aa ⟨bQ,0,ao⟩,1)) ⟨dw _,O⟩ (λ_ h=>by exact ((((((h.f 5 O).f 5 O).f 5 O).f 5 O).f 4 O).f 5 O:)) λb ⟨cV,aI⟩=>ak<|V0 (c8 O O)<|ag<|Cs ?_;refine Cc O (λaK=>?_)<|λaK=>?_
  ·have C:b.1<o.aN.length:=by simpa using aK
   obtain ⟨s,ai⟩:∃q,o.aN[b.1]? = aa q:=⟨_,cy C⟩;obtain ⟨bS,pos,bT,aL⟩:=r.aN.ct b.1 s ai;have aL:cB A bS (pos+b.1*1)<|g4 s:=aL;refine ay<|Cs<|Cb<|ak<|V0 (Yo gf O O bT C)<|V0 (ew 1 ah O O<|aL 0 _ O)<|au O<|ag<|ak<|ab O<|ab O<|V0 (Fl 4 jx js ah lY O O O) ?_;rw [(AE _ _).1,(AE _ _).2];refine ab O<|V0 (Yx O O)<|V0 (Yx O O)<|au O<|au O<|ag<|Cs<|ak<|ab O<|V0 (ih O) ?_;refine ag<|Cc O (λaM=>?_)<|λaM=>?_
   ·have bU:(idxOf s ((g0 l).take g.i) 0).isSome=aq:=by simpa using aM
    have v:kP l=9:=by rw [T,aD<|Kc u ?_];rw [BZ,uR,zU];exact ⟨s,aW ai,by rw [bU];decide⟩
    refine ak<|au O<|au O<|ag<|bu<|Er<|aU<|Er<|Er<|aU<|Er<|aU<|Er<|Er<|aU<|Er ?_;refine WE.jv O O O λG z=>?_;rw [D5 (by rw [v];decide),v];exact ⟨(ao,0),O,z.fr,Sl.nil⟩
   have bV:(idxOf s ((g0 l).take g.i) 0).isSome=ad:=by simpa using aM
   refine ay<|Cr<|V0 (Yf Hj O)<|V0 (Yd 1 O O O ah)<|ab O ?_;refine Lb Y O gn O O O O λcW=>eb 0 (aY (ly<|hA ((g0 l).take g.i) s).toArray 3 (0,0)) O O<|LA (hA ((g0 l).take g.i) s) 1 0 Y O gn O O O O O O (by simp;omega) (by simp;omega) λbX bZ=>?_;rw [show (g.i::(o.aN.take b.1).map (hA<|(g0 l).take g.i))++[hA ((g0 l).take g.i) s]=(g.i::(o.aN.take<|b.1+1).map (hA<|(g0 l).take g.i)) by rw [h7,ai];simp];refine V0 (Yf Hj O)<|aw 2 Y O O O lX O O O<|Ln<|Eb<|Et<|Cr<|V0 (Yi O O O (by omega))<|ab O<|Ln ?_;exact ep ((b.1+1,(bX,bZ)):Z×SP) (by show _-(b.1+1)<_;omega) ⟨by show b.1+1<=_;omega,l4 ai aI bV⟩<|λ_ h=>Wd 1 h
  have b1:b.1=o.aN.length:=by simp at aK;omega
  refine Ce<|Ex<|Ex<|ee<|Et<|Cs ?_;have b2:b.1=o.aN.length:=b1;rw [b2,gH] at aI ⊢;refine WC.qD (rd:=sj) 0 O (by simp) AK (λ_ _ _ _ h=>h) λcX b3 b4=>WC.cb λb5 b6 b7 b9=>Cr<|ab O<|V0 (Yf Hg O)<|V0 (Yd 1 O O O ah)<|ab O ?_;refine WL.rk 3 jx Y js ah O O O O<|ag<|Cs ?_;rw [(F6 bk bl).1,(F6 bk bl).2,<-bN];refine Cr<|V0 (Yf xS O)<|V0 (Yd 4 O O O ah)<|V0 (Yf ed O)<|V0 (Yd 1 O O O ah)<|V0 (Yn hE O)<|V0 (pK O O (by omega))<|V0 (Yf xS O) ?_;refine aw 4 Y O O O eE O O O<|ag<|Cs ?_;rw [<-Kf u];refine Cr<|V0 (Yf BF O)<|V0 (Yd 4 O O O ah)<|V0 (Yf LR O)<|V0 (Yd 1 O O O ah)<|V0 (pK O O (by omega))<|V0 (Yf BF O)<|aw 4 Y O O O eE O O O ?_;refine ag ?_;rw [<-Zh u];refine Cr<|ab O<|V0 (dW 0 O O Io O) ?_;refine Lb Y O Hk O O O O λcZ=>eb 0 (aY (mw.cells (tJ l g.i o,b.2)).toArray 196 (0,0)) O O<|LA ((tJ l g.i o,b.2):mw) 3 0 Y O Hk O O O O O O (by omega) (by omega) λb' b_=>au O<|Ln<|Eb<|Et<|Cr<|V0 (Yi O O O (by omega))<|ab O<|Ln ?_;exact ep (⟨g.i+1,g.es++[(tJ l g.i o,b.2)],(b',b_),b5⟩:Tt) (by show _-(g.i+1)<_;omega) ⟨by show g.i+1<=_;omega,by show (g.es++[(tJ l g.i o,b.2)]).map (·.1)=_;rw [qs,N,Zi u];rfl,⟨b9 _ b3 bh,Xs.snoc (R:=zD) (λhv h=>LY hv h) aG b7 b6 b4⟩,λn aO D B=>by
   rcases oq.1 D with h | h;·exact bi n aO h B
   ·subst h;rw [u] at B;injection B with B;subst B;exact aI⟩<|λ_ h=>Wd 3 h
 have bm:g.i=l.length:=by simp at aH;omega
 rw [bm,aek] at N;rw [bm];have bO:g.es.length=l.length:=by rw [<-fB,N,xw]
 have bn:∀n o,l[n]? = aa o->uR ((g0 l).take n) o=ad:=λn o D=>bi n o (by have:=(cN.1 D).1;omega) D;rw [Gr (λn o D=>by rw [bn n o D];rfl),aj (by decide)] at T;refine Ce<|Ex<|Ex<|ee<|Et<|Cs<|Cs ?_;refine WC.tf 0 O (by show 0<g.es.length;omega) λc0 bo c1 c2=>Cr<|ab O<|V0 (Yn oW O)<|ab O<|ag<|Cb ?_;refine f_ (ι:=Z) (λj=>[(118,am an (j:ac))]) [(0,_),(9,_),(10,_),(116,_),(117,_)] (λj=>Ws w [] [cQ 196 3 mw.cells g.oa.1 g.oa.2 g.es,aQ X<|dT st (i5 ((g0 l).take l.length) 0) l.length,aQ ae<|aY #[am an (bw l l.length),am an (bK l l.length),aE ao 0 0] 196 (0,0)] [g.J,A]) (λj=>j<=l.length/\∀n o,n<j->l[n]? = aa o->∀f ∈ o.fix,sz l n o f=aq) (λj=>l.length-j) 0 ⟨dw _,λn o h=>absurd h<|EJ _⟩ (λ_ h=>h) λj ⟨c3,bq⟩=>ak<|V0 (c8 O O)<|ag<|Cs ?_;refine Cc O (λaT=>?_)<|λaT=>?_
 ·have aV:j<l.length:=by simpa using aT
  obtain ⟨o,u⟩:∃q,l[j]? = aa q:=⟨_,cy aV⟩;obtain ⟨a8,a9,P,Q⟩:=M.ct j o u;obtain ⟨H,S,r⟩:=Q;have V:=aW u;have a':=r.aN.cap;have a_:=r.aN.max;have ba:=r.fix.cap;have bb:=r.fix.max;have bc:=r.code.cap;have bd:=r.code.max;have E:=F o V;have ca:=(xv E).2;have af:=C8 E;have bM:=af.code;refine ay<|Cs<|Cb<|ak<|ab O<|V0 (Yo oW O O P aV)<|V0 (eB 1 h_ O O O<|S) ?_;refine Al Y O vd λcc=>au O<|aw 0 Y O O O wA O O O<|ag<|Cs<|hk 0 (aY (nD o H).toArray 77 (0,0)) O O<|Cr<|V0 (Yf DZ O)<|V0 (Yd 0 O O O ah)<|V0 (Yn BD O) ?_;refine ab O<|ag<|Cb ?_;refine f_ (ι:=Z) (λk=>[(126,am an (k:ac))]) [(0,_),(9,_),(10,_),(18,_),(19,_),(116,_),(117,_),(118,_),(124,_),(125,_)] (λk=>Ws w [] [aQ cc<|aY (nD o H).toArray 77 (0,0),cQ 196 3 mw.cells g.oa.1 g.oa.2 g.es,aQ X<|dT st (i5 ((g0 l).take l.length) 0) l.length,aQ ae<|aY #[am an (bw l l.length),am an (bK l l.length),aE ao 0 0] 196 (0,0)] [g.J,A]) (λk=>k<=o.fix.length/\∀f ∈ o.fix.take k,sz l j o f=aq) (λk=>o.fix.length-k) 0 ⟨dw _,by simp⟩ (λ_ h=>h) λk ⟨c4,aX⟩=>ak<|V0 (c8 O O)<|ag<|Cs ?_;refine Cc O (λa0=>?_)<|λa0=>?_
  ·have C:k<o.fix.length:=by simpa using a0
   obtain ⟨x,al⟩:∃q,o.fix[k]? = aa q:=⟨_,cy C⟩;obtain ⟨cd,ce,ch,a1⟩:=r.fix.ct k x al;have a1:cB A cd (ce+k*3) x.cells:=a1;refine ay<|Cs<|Cb<|ak<|V0 (Yo BD O O ch C)<|V0 (eB 1 LS O O O<|a1) ?_;refine Al Y O He λc5=>aw 0 Y O O O LU O O O<|ag<|Cs<|hk 0 (aY (x.cells).toArray 198 (0,0)) O O ?_;refine WC.o6 [(0,ad),(1,ad),(2,ad),(3,ad),(4,ad),(5,ad),(6,ad),(7,ad),(8,ad),(9,ad),(10,ad),(11,ad),(12,ad),(13,ad),(14,ad),(15,ad),(16,ad),(17,ad),(18,ad),(19,ad),(20,ad),(21,ad),(22,ad),(23,ad),(24,ad),(25,ad),(26,ad)] mixed (by kernel_rfl) (λ_ _ _ d _ h=>by cases d<;>exact h)<|D0 O (λ_ h=>h) (Yf LV O)<|D0 O (λ_ h=>h) (Yd 0 O O O ah)<|D0 O (λ_ h=>h) (bY O O)<|D0 O (λ_ h=>h) (Ym O) ?_;apply WD.and 22 (x:=decide<|(jf l<|h3 l j o x.m:ac)<=ko o.code x.at_) O O O O O Y O (λ_ h=>h) O O O O
   ·intro ci;have cj:x.kind=2:=by simpa using ci
    have br:=ca.fix x<|aW al;obtain ⟨p,c7,ck⟩:=uQ br.1;have bt:x.at_.toNat=p:=by omega
    obtain ⟨y,bv⟩:∃y,o.code[p]? = aa y:=⟨_,cy ck⟩;obtain ⟨bx,bz,cl,ap⟩:=r.code.ct p y bv;have ap:cB A bx (bz+p*3) y.cells:=ap;rw [<-bt] at ap;have cm:=TS bt bv;have co:vc A bx (bz+x.at_.toNat*3+1)=aa (am an<|ko o.code x.at_):=by rw [cm];exact ap 1 _ O
    obtain ⟨c9,c',cp,cq⟩:=ael br.2 cj;obtain ⟨cr,bA⟩:=Qt aV (bn j o u) cp cq;obtain ⟨e,a2⟩:∃e,g.es[j]? = aa e:=⟨_,cy (by omega)⟩;have bC:e.1=tJ l j o:=by
     have K:(g.es.map (·.1))[j]? = aa e.1:=by rw [fp,a2];rfl
     rw [N,Kg u] at K;injection K with K;exact K.symm
    have a3:Sl sj 1 g.J e.2.1 e.2.2<|qf l j o:=by have K:=aG e<|aW a2;unfold zD at K;rw [bC] at K;exact K
    have c_:=a3.cap;have da:=a3.max;have cs:=Ki l j o;have db:(tJ l j o).vI.length=o.aN.length+1:=cs;obtain ⟨cu,cv,cw,a4⟩:=a3.ct x.m.toNat _ cr;have a4:cB g.J cu (cv+x.m.toNat*1)<|ly<|h3 l j o x.m:=a4;obtain ⟨av,bD⟩:∃av,l[h3 l j o x.m]? = aa av:=⟨_,cy bA⟩;obtain ⟨dc,dd,cz,de,cA,df⟩:=M.ct _ av bD;have cC:jf l (h3 l j o x.m)=av.ge.length:=by unfold jf;rw [bD];rfl
    refine Dq O (.g O O O) O (λ_ h=>h) (Yf ed O)<|Dq O (.g O O O) O (λ_ h=>h) (Yd 1 O O O ah)<|Dq O (.g O O O) O (λ_ h=>h) (Yf BE O)<|Dq O (.g O O O) O (λ_ h=>h) (Yd 0 O O O ah)<|Dq O (.g O O O) O (λ_ h=>h) (k8 hE O O cl (by omega) (by omega))<|Dq O (.g O O O) O (λ_ h=>h) (Yf kN O)<|Dq O (.g O O O) O (λ_ h=>h) (ew 1 ah O O<|co)<|Dq O (.g O O O) O (λ_ h=>h) (Ym O) ?_;refine Dq O (.g O O O) O (λ_ h=>h) (Ym O)<|Dq O (.g O O O) O (λ_ h=>h) (Ym O)<|Dq O (.g O O O) O (λ_ h=>h) (Yo xT O O bo (by omega))<|Dq O (.g O O O) O (λ_ h=>h) (Yf Hj O)<|Dq O (.g O O O) O (λ_ h=>h) (nU (y:=e) 2 j 2 O O bo O mw.dR a2 (by rw [show mw.cells e=Hi e.1 e.2 from O,bC];rfl) ah)<|Dq O (.g O O O) O (λ_ h=>h) (Yf zC O)<|Dq O (.g O O O) O (λ_ h=>h) (Yd 0 O O O ah)<|Dq O (.g O O O) O (λ_ h=>h) (k8 e8 O O cw (by omega) (by omega)) ?_;refine Dq O (.g O O O) O (λ_ h=>h) (ew 0 ah O O<|a4 0 _ O)<|Dq O (.g O O O) O (λ_ h=>h) (Yo oW O O cz bA)<|Dq O (.g O O O) O (λ_ h=>h) (Yf xQ O)<|Dq O (.g O O O) O (λ_ h=>h) (ew 1 ah O O<|cA 5 _ O)<|Dq O (.g O O O) O (λ_ h=>h) (Yn e8 O) ?_;rw [<-cC];refine Dq O (.g O O O) O (λ_ h=>h) (h9 O O)<|Gi 22 (λ_ h=>h) O O O
   refine WD.nil (λ_ h=>h)<|Et<|Cc O (λa5=>?_)<|λa5=>?_
   ·have a7:sz l j o x=ad:=a5;have v:kP l=5:=by rw [T,aD<|Kc (p:=λn o=>o.fix.any<|sz l n o) u ?_];rw [ta];exact ⟨x,aW al,a7⟩
    refine ak<|au O<|au O<|ag<|bu<|aU<|Er<|Er<|aU<|aU<|Er<|Er<|aU<|Er ?_;refine WE.jv O O O λG z=>?_;rw [D5 (by rw [v];decide),v];exact ⟨(ao,0),O,z.fr,Sl.nil⟩
   have a7:sz l j o x=aq:=a5;refine Ck<|Eb<|Et<|Cr<|V0 (Yi O O O (by omega))<|ab O<|Ln ?_;exact ep (k+1) (by omega) ⟨by omega,Qk al aX a7⟩<|λ_ h=>Wd 1 h
  have cD:k=o.fix.length:=by simp at a0;omega
  rw [cD,gH] at aX;refine Ce<|Ex<|Ex<|ee<|Eb<|Et<|Cr<|V0 (Yi O O O (by omega))<|ab O<|Ln ?_;exact ep (j+1) (by omega) ⟨by omega,λn aO D B=>by
   rcases oq.1 D with h | h;·exact bq n aO h B
   ·subst h;rw [u] at B;injection B with B;subst B;exact aX⟩<|λ_ h=>Wd 1 h
 have dg:j=l.length:=by simp at aT;omega
 have v:kP l=0:=by rw [T,Gr<|λn o D=>?_,aj (by decide)];rw [vq];intro f cE;rw [bq n o (by have:=(cN.1 D).1;omega) D f cE];decide
 refine Ce<|Ex<|Ex<|ee<|Et<|ak<|ab O<|V0 (dW 2 O O Io O) ?_;refine Lb Y O Hk O O O O λdh=>eb 0 (aY (mw.cells (je l,((ao,0):SP))).toArray 196 (0,0)) O O<|LA ((je l,(ao,0)):mw) 1 0 Y O Hk O O O O O O (by omega) (by omega) λcF cG=>au O<|au O<|ag<|bu ?_;refine WE.jv O O O λG z=>?_;have cH:hS l=(g.es++[(je l,((ao,0):SP))]).map (·.1):=by rw [hS,aD v,qs,N];rfl
 rw [v,cH];have cJ:=z.kb (rd:=TV) 1 rfl mw.dR<|λ_ _ _ _ h=>h;exact ⟨(cF,cG),by rw [fB],z.fr,aej (J:=g.J) cJ (λ_ _ h=>h) (fm z (by simp) bh)<|Xs.snoc (R:=zD) (λhv h=>LY hv h) aG (λ_ _ h=>h) (λ_ _ h=>h) Sl.nil⟩
def cK.aen (x:cK):x.cells.all (·.oneCell')=ad:=rfl
def TY (h:¬kP gw=0):iu gw=(([],0),kP gw):=by rw [iu,aD h]
def TZ (h:kP gw=0) (a:2048<bw gw gw.length\/512<bK gw gw.length):iu gw=(([],0),2):=by rw [iu,aj<|λe=>e h,aD a]
def IL (h:kP gw=0) (a:¬(2048<bw gw gw.length\/512<bK gw gw.length)):iu gw=((jN gw,bK gw gw.length),0):=by rw [iu,aj<|λe=>e h,aj a]
def aeo {U n:Z}  (h:mm U n az b' j1=ad):(az=1\/az=2\/az=3)/\0<=j1/\j1<=2048/\0<=b'/\b'<=(U:ac):=by
 unfold mm at h;split at h;·simp only [eI,cw,j8] at h;omega
 ·split at h;·simp only [eI,cw] at h;omega
  ·cases h
def aep (l:I dU):(qT l).take l.length=qT l:=mz (by rw [y5];exact c7 _)
def aeq (l:I dU):qT l++[(⟨20,0,0⟩:cK)]=iL l 0:=by unfold iL;rw [Kk,yd]
def T0 (h:gw[bE]? = aa dv):bw gw bE+(dv.code.length:ac)<=bw gw gw.length:=by
 rw [<-Kf h];have hi:=(cN.1 h).1;have a:∀k,bE+1+k<=gw.length->bw gw (bE+1)<=bw gw (bE+1+k):=λk=>by induction k with| zero=>intro _;exact zZ _| succ k b=>intro d;obtain ⟨q,c⟩:∃q,gw[bE+1+k]? = aa q:=⟨_,cy (by omega)⟩;have:=b (by omega);have e:=Kf c;show bw gw (bE+1)<=bw gw (bE+1+k+1);omega
 have:=a (gw.length-(bE+1)) (by omega);rwa [show bE+1+(gw.length-(bE+1))=gw.length by omega] at this
def eM:zeroOf aC 57=aa (b0 #[aE ao 0 0,am an 0]):=ah
def xr:hW aC 57=aa [(0,1),(1,1)]:=ah
def sx:e2 aC 57=aa 2:=ah
def pn:i2 aC 57=aa 2:=ah
def nf:aT aC 57 0=aa 0:=ah
def aer (t:View) (a:aA a6) (c:Z) (l:I dU) (w:aP) (bg:Le t w) (G:Sl D4 7 t a c l) : cx aC 28 #[aE a l.length c] w λe L=>∃q:SP,e = cf (cO #[b0 #[aE q.1 (iu l).1.1.length q.2,am an (iu l).1.2],am an (iu l).2])/\Ext w L/\Sl kj 3 (nv w L) q.1 q.2 (iu l).1.1:=by
 have cp:=G.cap;have cq:=G.max;refine enter func28 O 160 O O<|CE (Vs:=[t]) (Ws.init (by simp [bg]))<|ak ?_;refine Al Y O eM λal=>au O<|ag<|ak<|ab O ?_;refine Ld Y O bp O (λq:SP=>cO #[aE q.1 (hS l).length q.2,am an (kP l)]) (λF q=>Sl LZ 3 F q.1 q.2<|hS l) (λw u=>aem t a c l w (u.vs _ (by simp)) G) λA cr cs B=>ab O<|V0 (Yx O O)<|V0 (Yx O O)<|au O<|au O<|ag<|Cs<|ak<|ab O<|V0 (ha O O) ?_;refine ag<|Cc O (λap=>?_)<|λap=>?_
 ·have H:¬kP l=0:=by simpa using ap
  refine ak<|V0 (Yb eM xr O O)<|ab O<|aw 0 Y O O O sx O O O<|au O<|ag<|bu<|Er ?_;refine WE.gF (hX O (fj 0 O O pn O)<|jI O) λL u=>?_;rw [TY H];exact ⟨(ao,0),O,u.fr,Sl.nil⟩
 have H:kP l=0:=by simpa using ap
 have j:=Ke.1 H;have bh:hS l=qS l++[je l]:=by rw [hS,aD H]
 rw [bh] at B ⊢;have cu:=B.cap;have cv:=B.max;have cz:=xw l;have cA:=j.fH;obtain ⟨cC,cD,bi,bj,bk,cE⟩:=B.ct l.length _<|Zj l;have cF:(qS l++[je l]).length=l.length+1:=by simp [xw]
 refine ay<|ak<|ab O<|ab O<|V0 (Yn oW O)<|V0 (Yo (i:=l.length) xT O O bi (by omega))<|V0 (eB 0 Io O O O<|bk) ?_;refine Al Y O D6 λcG=>aw 0 Y O O O L0 O O O<|ag<|Cs<|Cs<|hk 0 (aY (Hi (je l) bj).toArray 196 (0,0)) O O<|Cr<|V0 (Yf xS O)<|V0 (Yd 0 O O O ah)<|V0 (eZ O O)<|ab O ?_;apply Lo 3 O O O O Y O O O O O;·intro cI;refine Vg (Yf BF O)<|Vg (Yd 0 O O O ah)<|Vg (eZ O O) ?_;exact Gt 3 O O O
 refine ag<|Cc O (λav=>?_)<|λav=>?_
 ·have ax:2048<bw l l.length\/512<bK l l.length:=by have J:=av;simp only [zS,cw] at J;exact J
  refine ak<|V0 (Yb eM xr O O)<|aw 1 Y O O O sx O O O<|au O<|ag<|bu<|Er ?_;refine WE.gF (hX O (fj 1 O O pn O)<|jI O) λL u=>?_;rw [TZ H ax];exact ⟨(ao,0),O,u.fr,Sl.nil⟩
 have ax:¬(2048<bw l l.length\/512<bK l l.length):=by have J:=av;simp only [kG,mC] at J;exact λh=>h.elim J.1 J.2
 refine ay<|ak<|V0 (Yf BF O)<|V0 (Yd 0 O O O ah)<|V0 (Yb eM xr O O) ?_;refine Al Y O eM λaz=>aw 0 Y O O O sx O O O<|ag<|Cs<|Cs<|hk 0 (aY #[aE ao 0 0,am an (bK l l.length)] 57 (0,0)) O O ?_;refine pI (λ_ h=>h.hM 62 3)<|Cr<|ab O<|V0 (Yn oW O)<|ab O<|ag<|Cb ?_;refine nQ (ι:=Z×SP) (λg=>[(44,am an (g.1:ac))]) [(0,_),(2,_),(3,_),(4,_),(7,_),(42,_),(43,_)] (λg=>Ws w [] [cQ 62 3 cK.cells g.2.1 g.2.2<|(qT l).take g.1,aQ az<|aY #[aE g.2.1 ((qT l).take g.1).length g.2.2,am an (bK l l.length)] 57 (0,0),aQ al<|aY #[aE ao 0 0,am an 0] 57 (0,0)] [A,t]) (λg=>g.1<=l.length) (λg=>l.length-g.1) (0,(ao,0)) (dw _) (sc O<|sc O<|sc O<|sc O<|sc O<|sc O<|sc O<|sc O sn) (λ_ h=>(Wt 3<|((h.f 3 O).f 2 O).f 2 O:)) λg cJ=>ak<|V0 (c8 O O)<|ag<|Cs ?_;refine Cc O (λaB=>?_)<|λaB=>?_
 ·have M:g.1<l.length:=by simpa using aB
  obtain ⟨o,s⟩:∃q,l[g.1]? = aa q:=⟨_,cy M⟩;obtain ⟨bl,bm,aF,aG⟩:=G.ct g.1 o s;obtain ⟨T,aH,r⟩:=aG;have U:=aW s;have bn:=r.aN.cap;have bo:=r.aN.max;have bq:=r.fix.cap;have br:=r.fix.max;have bs:=r.code.cap;have bt:=r.code.max;obtain ⟨aI,aK,N,bv,V,W⟩:=B.ct g.1 _<|Kh s;have X:vc A aI (aK+g.1*3+0)=aa (am an<|bw l g.1):=V 0 _ rfl;have bx:=C' j.fH j.dt (k:=g.1) (by omega);have bz:=C_ j.fH j.dt (k:=g.1) (by omega);have bA:=T0 s;have bC:=(xv<|j.dt o U).2.main;obtain ⟨cL,cM,cN⟩:=uQ bC;have bD:((qT l).take g.1).length=g.1:=by rw [m3,y5];omega
  refine ay<|Cs<|Cb<|ak<|ab O<|V0 (Yo oW O O aF M)<|V0 (eB 1 h_ O O O<|aH) ?_;refine Al Y O vd λcP=>au O<|aw 0 Y O O O wA O O O<|ag<|hk 0 (aY (nD o T).toArray 77 (0,0)) O O ?_;refine CU (λ_=>ad) [1] [13,14] (.q aq 0<|.q ad 1<|.q aq 2<|.q aq 3<|.q aq 4<|.q aq 5<|.q ad 6<|.q aq 7<|.q ad 8<|.q aq 9<|.q aq 10<|.e 11 (.e 12 .nil .stop) .stop) mixed (by kernel_rfl) (λ_ _ _ d _ _ h=>by cases d<;>exact h)<|U0 O (Wp 1) (Yf nf O)<|U0 O (Wp 1) (Yd 1 O O O ah)<|U0 O (Wp 1) (Ym O)<|U0 O (Wp 1) (Ym O)<|U0 O (Wp 1) (Yo xT O O N (by omega))<|U0 O (Wp 1) (Yf xS O)<|U0 O (Wp 1) (ew 0 ah O O<|X)<|U0 O (Wp 1) (Yf Hf O) ?_;refine U0 O (Wp 1) (Yd 0 O O O ah)<|U0 O (Wp 1) (pK O O (by omega))<|U0 O (Wp 1) (Yb iq i6 O O) ?_;refine Ue O (Wp 1) ?_ WU.stop;refine Lb Y O ci O O O O λcR=>eb 0 (aY (cK.cells ⟨13,bw l g.1+o.main,0⟩).toArray 62 (0,0)) O O<|Ln<|Eu ?_;refine Ue O (λ_ h=>(Wo 1<|Wd 1 h:)) ?_ WU.stop;refine LA (⟨13,bw l g.1+o.main,0⟩:cK) 2 0 Y O ci O O O O O O (by omega) (by omega) λbE bF=>?_;rw [<-Zn s];refine Ln<|Eu ?_;refine WU.nil (λ_ h=>(Wo 1<|Wd 1 h:))<|WS.e O<|V0 (Yf nf O)<|Ln<|Es ?_;refine WS.e O<|aw 3 Y O O O C6 O O O<|Ln<|Es ?_;refine WS.nil<|Eb<|Et<|Cr<|V0 (Yi O O O (by omega))<|ab O<|Ln ?_;exact Ea ((g.1+1,(bE,bF)):Z×SP) (by show _-(g.1+1)<_;omega) (by show g.1+1<=_;omega) (sc O<|sc O<|sc O<|sc O<|sc O<|sc O<|sc O<|sc O sn)<|λ_ h=>Wd 2 h
 have bG:g.1=l.length:=by simp at aB;omega
 rw [bG,aep];have bD:=y5 l;refine Ce<|Ex<|Ex<|ee<|Et<|ak<|V0 (Yf nf O)<|V0 (Yd 1 O O O ah)<|V0 (Yb iq i6 O O) ?_;refine Lb Y O ci O O O O λcS=>eb 0 (aY (cK.cells ⟨20,0,0⟩).toArray 62 (0,0)) O O<|LA (⟨20,0,0⟩:cK) 1 0 Y O ci O O O O O O (by omega) (by omega) λbI bJ=>?_;rw [aeq];refine V0 (Yf nf O)<|aw 2 Y O O O C6 O O O<|ag<|Cs<|ak<|ab O<|V0 (Yn oW O)<|ab O<|ag<|Cb ?_;refine nQ (ι:=Z×SP) (λe=>[(72,am an (e.1:ac))]) [(0,_),(2,_),(3,_),(4,_),(7,_),(70,_),(71,_)] (λe=>Ws w [] [cQ 62 3 cK.cells e.2.1 e.2.2<|iL l e.1,aQ az<|aY #[aE e.2.1 (iL l e.1).length e.2.2,am an (bK l l.length)] 57 (0,0),aQ al<|aY #[aE ao 0 0,am an 0] 57 (0,0)] [A,t]) (λe=>e.1<=l.length) (λe=>l.length-e.1) (0,(bI,bJ)) (dw _) (sc O<|sc O<|sc O<|sc O<|sc O<|sc O<|sc O<|sc O sn) (λ_ h=>(Wt 3<|((h.f 3 O).f 3 O).f 3 O:)) λe cT=>ak<|V0 (c8 O O)<|ag<|Cs ?_;refine Cc O (λaL=>?_)<|λaL=>?_
 ·have aM:e.1<l.length:=by simpa using aL
  obtain ⟨o,s⟩:∃q,l[e.1]? = aa q:=⟨_,cy aM⟩;obtain ⟨bl,bm,aF,aG⟩:=G.ct e.1 o s;obtain ⟨T,aH,r⟩:=aG;have U:=aW s;have bn:=r.aN.cap;have bo:=r.aN.max;have bq:=r.fix.cap;have br:=r.fix.max;have bs:=r.code.cap;have bt:=r.code.max;obtain ⟨aI,aK,N,bv,V,W⟩:=B.ct e.1 _<|Kh s;have X:vc A aI (aK+e.1*3+0)=aa (am an<|bw l e.1):=V 0 _ rfl;have bx:=C' j.fH j.dt (k:=e.1) (by omega);have bz:=C_ j.fH j.dt (k:=e.1) (by omega);have bA:=T0 s;have bL:=Km (l:=l) (i:=e.1) (by omega);have a7:=(xv<|j.dt o U).2;have bM:=C8<|j.dt o U;have cU:=bM.code;have cV:=W.cap;have cW:=W.max;have bN:=Ki l e.1 o;have cX:(tJ l e.1 o).vI.length=o.aN.length+1:=bN;refine ay<|Cs<|Cb<|ak<|ab O<|V0 (Yo oW O O aF aM)<|V0 (eB 1 h_ O O O<|aH) ?_;refine Al Y O vd λbO=>au O<|aw 0 Y O O O wA O O O<|ag<|Cs<|hk 0 (aY (nD o T).toArray 77 (0,0)) O O<|Cr<|V0 (Yf nf O)<|V0 (Yd 2 O O O ah)<|V0 (Yf ed O) ?_;refine V0 (Yd 0 O O O ah)<|WL.wZ (f:=cK.cells) (rd:=kj) (xs:=iL l e.1) (ys:=o.code) 1 (λ_=>t) Y O ci O O O (λw u=>⟨u.vs t (by simp),r.code⟩) (λ_ _ _ _ h=>h) cK.dR cK.aen (by omega) (by omega) λaO aT=>V0 (Yf nf O)<|aw 2 Y O O O C6 O O O<|ag<|ak<|V0 (Yf DZ O)<|V0 (Yd 0 O O O ah)<|V0 (Yn BD O)<|ab O<|ag<|Cb ?_;refine nQ (ι:=Z) (λk=>[(86,am an (k:ac))]) [(0,_),(2,_),(3,_),(4,_),(7,_),(10,_),(70,_),(71,_),(72,_),(84,_),(85,_)] (λk=>Ws w [] [cQ 62 3 cK.cells aO aT<|iL l e.1++ni l e.1 o o.code (o.fix.take k),aQ bO<|aY (nD o T).toArray 77 (0,0),aQ az<|aY #[aE aO (iL l e.1++o.code).length aT,am an (bK l l.length)] 57 (0,0),aQ al<|aY #[aE ao 0 0,am an 0] 57 (0,0)] [A,t]) (λk=>k<=o.fix.length) (λk=>o.fix.length-k) 0 (dw _) (sc O<|sc O<|sc O<|sc O<|sc O<|sc O<|sc O<|sc O<|sc O<|sc O<|sc O<|sc O sn) (λ_ h=>((((h.f 3 O).f 3 O).f 2 O).f 3 O:)) λk cZ=>ak<|V0 (c8 O O)<|ag<|Cs ?_;refine Cc O (λaU=>?_)<|λaU=>?_
  ·have M:k<o.fix.length:=by simpa using aU
   obtain ⟨x,C⟩:∃q,o.fix[k]? = aa q:=⟨_,cy M⟩;obtain ⟨bP,bQ,bR,aV⟩:=r.fix.ct k x C;have aV:cB t bP (bQ+k*3) x.cells:=aV;have a8:=a7.fix x<|aW C;obtain ⟨c0,bT,bU,bV,bX⟩:=aeo a8.2;obtain ⟨p,bZ,b1⟩:=uQ a8.1;have P:x.at_.toNat=p:=by omega
   obtain ⟨y,a9⟩:∃y,o.code[p]? = aa y:=⟨_,cy b1⟩;have Q:=TS P a9;rw [Q] at bT bU;have ae:(ni l e.1 o o.code<|o.fix.take k)[p]? = aa y:=by have a':=Zm (l:=l) (n:=e.1) a7 C;rw [P] at a';rw [a',a9]
   have K:(iL l e.1++ni l e.1 o o.code (o.fix.take k))[(iL l e.1).length+p]? = aa y:=by rw [pH (by omega),zQ];exact ae
   obtain ⟨b2,a_⟩:=Qt aM (j.known e.1 o s) bV bX;obtain ⟨b3,b4,b5,aX⟩:=W.ct x.m.toNat _ b2;have aX:cB A b3 (b4+x.m.toNat*1)<|ly<|h3 l e.1 o x.m:=aX;obtain ⟨D,R⟩:∃D,l[h3 l e.1 o x.m]? = aa D:=⟨_,cy a_⟩;obtain ⟨c1,c2,b6,c3,b7,aZ⟩:=G.ct _ D R;obtain ⟨ba,bb,bc,c4,bd,c5⟩:=B.ct _ _<|Kh R;have b9:vc A ba (bb+h3 l e.1 o x.m*3+0)=aa (am an<|bw l<|h3 l e.1 o x.m):=bd 0 _ rfl;have b':vc A ba (bb+h3 l e.1 o x.m*3+1)=aa (am an<|bK l<|h3 l e.1 o x.m):=bd 1 _ rfl;have c7:=C' j.fH j.dt (k:=h3 l e.1 o x.m) (by omega);have c9:=C_ j.fH j.dt (k:=h3 l e.1 o x.m) (by omega);have c':(ni l e.1 o o.code<|o.fix.take k).length=o.code.length:=Gu _ _ _ _ _;refine ay<|Cs<|Cb<|ak<|V0 (Yo BD O O bR M)<|V0 (eB 1 LS O O O<|aV) ?_;refine Al Y O He λc_=>aw 0 Y O O O LU O O O<|ag<|Cs<|hk 0 (aY (x.cells).toArray 198 (0,0)) O O ?_;refine WC.tf 1 O (by simp only [iy];omega) λda E db dc=>WC.o6 [(0,ad),(1,ad),(2,ad),(3,ad),(4,ad),(5,ad),(6,ad),(7,ad),(8,ad),(9,ad),(10,ad),(11,ad),(12,ad)] mixed (by kernel_rfl) (λ_ _ _ d _ h=>by cases d<;>exact h)<|D0 O (λ_ h=>h) (Yf nf O)<|D0 O (λ_ h=>h) (Yd 3 O O O ah)<|D0 O (λ_ h=>h) (Ym O)<|D0 O (λ_ h=>h) (Ym O)<|D0 O (λ_ h=>h) (Yo xT O O N (by omega))<|D0 O (λ_ h=>h) (Yf xS O)<|D0 O (λ_ h=>h) (ew 0 ah O O<|X)<|D0 O (λ_ h=>h) (Yf BE O) ?_;refine D0 O (λ_ h=>h) (Yd 0 O O O ah)<|D0 O (λ_ h=>h) (o7 (a:=(iL l e.1).length) (b:=p) O O bL.symm bZ (by omega))<|D0 O (λ_ h=>h) (Yo (i:=(iL l e.1).length+p) hE O O E (by simp only [iy];omega))<|D0 O (λ_ h=>h) (Yf kN O)<|D0 O (λ_ h=>h) (Ya O) ?_;refine WD.nil (λ_ h=>h)<|Et<|Cs ?_;refine WC.o6 [(0,ad),(1,ad),(2,ad),(3,ad),(4,ad),(5,ad),(6,ad),(7,ad),(8,ad),(9,ad)] mixed (by kernel_rfl) (λ_ _ _ d _ h=>by cases d<;>exact h)<|D0 O (λ_ h=>h) (Ym O)<|D0 O (λ_ h=>h) (Ym O)<|D0 O (λ_ h=>h) (Yo xT O O N (by omega))<|D0 O (λ_ h=>h) (Yf Hj O)<|D0 O (λ_ h=>h) (ew 0 ah O O<|V 2 _ O)<|D0 O (λ_ h=>h) (Yf zC O)<|D0 O (λ_ h=>h) (Yd 0 O O O ah)<|D0 O (λ_ h=>h) (k8 e8 O O b5 (by omega) (by omega)) ?_;refine D0 O (λ_ h=>h) (ew 0 ah O O<|aX 0 _ O)<|D0 O (λ_ h=>h) (Ya O) ?_;refine WD.nil (λ_ h=>h)<|Et<|ak<|V0 (Yf LV O)<|V0 (Yd 0 O O O ah)<|ag<|Cb<|ak<|V0 (bY O O)<|au O<|ag ?_;refine Cc O (λa0=>?_)<|λa0=>?_
   ·have af:x.kind=1:=by simpa using a0
    refine CU (λ_=>ad) [] [9,10] (.q aq 0<|.q aq 1<|.q ad 2<|.q aq 3<|.q aq 4<|.q aq 5<|.q aq 6<|.q ad 7<|.q aq 8 .nil) mixed (by kernel_rfl) (λ_ _ _ d _ _ h=>by cases d<;>exact h)<|U0 O (λ_ h=>h) (Ym O)<|U0 O (λ_ h=>h) (bS O)<|U0 O (λ_ h=>h) (nU (y:=y) 1 ((iL l e.1).length+p) 1 O O E (by omega) cK.dR K O ah)<|U0 O (λ_ h=>h) (Ym O)<|U0 O (λ_ h=>h) (Ym O)<|U0 O (λ_ h=>h) (Yo xT O O N (by omega))<|U0 O (λ_ h=>h) (Yf xS O)<|U0 O (λ_ h=>h) (ew 0 ah O O<|X) ?_;refine U0 O (λ_ h=>h) (pK O O (by omega))<|WU.nil (λ_ h=>h)<|WS.e O<|V0 (bS O)<|Ln<|Es ?_;refine WS.e O<|WL.storeT (y:=y) 1 ((iL l e.1).length+p) 1 ⟨y.op,y.a+bw l e.1,y.b⟩ Y O O O E (by omega) cK.dR K eE O O (by decide) O ?_;have S:rI l e.1 o x=y.a+bw l e.1:=by unfold rI;rw [Q];rw [aD af]
    rw [Ko (l:=l) (n:=e.1) (o:=o) (c:=ni l e.1 o o.code<|o.fix.take k) (p:=p) (x:=y) (y.a+bw l e.1) ae,<-S,<-P,<-Kj C];refine Ln<|Es ?_;refine WS.nil<|Eb<|Eb<|Et<|Cr<|V0 (Yi O O O (by omega))<|ab O<|Ln ?_;exact Ea (k+1) (by omega) (by omega) (sc O<|sc O<|sc O<|sc O<|sc O<|sc O<|sc O<|sc O<|sc O<|sc O<|sc O<|sc O sn)<|λ_ h=>Wd 1 h
   have af:¬x.kind=1:=by simpa using a0
   refine ak<|V0 (bY O O)<|au O<|ag ?_;refine Cc O (λa1=>?_)<|λa1=>?_
   ·have ai:x.kind=2:=by simpa using a1
    have a2:=j.km e.1 o s x<|aW C;have b_:jf l (h3 l e.1 o x.m)=D.ge.length:=by unfold jf;rw [R];rfl
    have ca:y.a.toNat<D.ge.length:=by unfold sz at a2;rw [ai,b_,Q] at a2;simp at a2;omega
    obtain ⟨v2,a3⟩:∃v,D.ge[y.a.toNat]? = aa v:=⟨_,cy ca⟩;obtain ⟨cb,cc,cd,a4⟩:=aZ.ge.ct _ v2 a3;have a4:cB t cb (cc+y.a.toNat*1)<|ik v2:=a4;have dd:=aZ.ge.cap;have de:=aZ.ge.max;have ce:A5 l (h3 l e.1 o x.m) y.a=v2:=by unfold A5;rw [R,cH,a3];rfl
    have df:0<=v2/\v2<=2048:=by have bf:=j.dt D<|aW R;obtain ⟨z,dg,dh⟩:=uQ<|(xv bf).2.ge v2<|aW a3;have:=(C8 bf).code;omega
    refine CU (λ_=>ad) [] [17,18] (.q aq 0<|.q aq 1<|.q aq 2<|.q aq 3<|.q aq 4<|.q ad 5<|.q aq 6<|.q aq 7<|.q aq 8<|.q aq 9<|.q ad 10<|.q aq 11<|.q aq 12<|.q ad 13<|.q aq 14<|.q ad 15<|.q aq 16 .nil) mixed (by kernel_rfl) (λ_ _ _ d _ _ h=>by cases d<;>exact h)<|U0 O (λ_ h=>h) (Ym O)<|U0 O (λ_ h=>h) (Ym O)<|U0 O (λ_ h=>h) (Ym O)<|U0 O (λ_ h=>h) (Yo xT O O bc (by omega))<|U0 O (λ_ h=>h) (Yf xS O)<|U0 O (λ_ h=>h) (ew 0 ah O O<|b9)<|U0 O (λ_ h=>h) (Ym O)<|U0 O (λ_ h=>h) (Ym O) ?_;refine U0 O (λ_ h=>h) (Yo oW O O b6 a_)<|U0 O (λ_ h=>h) (Yf xQ O)<|U0 O (λ_ h=>h) (ew 1 ah O O<|b7 5 _ O)<|U0 O (λ_ h=>h) (Ym O)<|U0 O (λ_ h=>h) (bS O)<|U0 O (λ_ h=>h) (nU (y:=y) 1 ((iL l e.1).length+p) 1 O O E (by omega) cK.dR K O ah)<|U0 O (λ_ h=>h) (k8 e8 O O cd (by omega) (by omega))<|U0 O (λ_ h=>h) (ew 1 ah O O<|a4 0 _ O) ?_;refine U0 O (λ_ h=>h) (pK O O (by omega))<|WU.nil (λ_ h=>h)<|WS.e O<|V0 (bS O)<|Ln<|Es ?_;refine WS.e O<|WL.storeT (y:=y) 1 ((iL l e.1).length+p) 1 ⟨y.op,bw l (h3 l e.1 o x.m)+v2,y.b⟩ Y O O O E (by omega) cK.dR K eE O O (by decide) O ?_;have S:rI l e.1 o x=bw l (h3 l e.1 o x.m)+v2:=by unfold rI;rw [Q];rw [aj af,aD ai,ce]
    rw [Ko (l:=l) (n:=e.1) (o:=o) (c:=ni l e.1 o o.code<|o.fix.take k) (p:=p) (x:=y) (bw l (h3 l e.1 o x.m)+v2) ae,<-S,<-P,<-Kj C];refine Ln<|Es ?_;refine WS.nil<|Eb<|Eb<|Et<|Cr<|V0 (Yi O O O (by omega))<|ab O<|Ln ?_;exact Ea (k+1) (by omega) (by omega) (sc O<|sc O<|sc O<|sc O<|sc O<|sc O<|sc O<|sc O<|sc O<|sc O<|sc O<|sc O sn)<|λ_ h=>Wd 1 h
   have ai:¬x.kind=2:=by simpa using a1
   refine ak<|V0 (bY O O)<|au O<|ag ?_;refine Cc O (λa5=>?_)<|λa5=>?_
   ·have ch:x.kind=3:=by simpa using a5
    refine CU (λ_=>ad) [] [9,10] (.q aq 0<|.q aq 1<|.q ad 2<|.q aq 3<|.q aq 4<|.q aq 5<|.q aq 6<|.q ad 7<|.q aq 8 .nil) mixed (by kernel_rfl) (λ_ _ _ d _ _ h=>by cases d<;>exact h)<|U0 O (λ_ h=>h) (Ym O)<|U0 O (λ_ h=>h) (bS O)<|U0 O (λ_ h=>h) (nU (y:=y) 1 ((iL l e.1).length+p) 1 O O E (by omega) cK.dR K O ah)<|U0 O (λ_ h=>h) (Ym O)<|U0 O (λ_ h=>h) (Ym O)<|U0 O (λ_ h=>h) (Yo xT O O bc (by omega))<|U0 O (λ_ h=>h) (Yf BF O)<|U0 O (λ_ h=>h) (ew 0 ah O O<|b') ?_;refine U0 O (λ_ h=>h) (pK O O (by omega))<|WU.nil (λ_ h=>h)<|WS.e O<|V0 (bS O)<|Ln<|Es ?_;refine WS.e O<|WL.storeT (y:=y) 1 ((iL l e.1).length+p) 1 ⟨y.op,y.a+bK l (h3 l e.1 o x.m),y.b⟩ Y O O O E (by omega) cK.dR K eE O O (by decide) O ?_;have S:rI l e.1 o x=y.a+bK l (h3 l e.1 o x.m):=by unfold rI;rw [Q];rw [aj af,aj ai]
    rw [Ko (l:=l) (n:=e.1) (o:=o) (c:=ni l e.1 o o.code<|o.fix.take k) (p:=p) (x:=y) (y.a+bK l (h3 l e.1 o x.m)) ae,<-S,<-P,<-Kj C];refine Ln<|Es ?_;refine WS.nil<|Eb<|Eb<|Et<|Cr<|V0 (Yi O O O (by omega))<|ab O<|Ln ?_;exact Ea (k+1) (by omega) (by omega) (sc O<|sc O<|sc O<|sc O<|sc O<|sc O<|sc O<|sc O<|sc O<|sc O<|sc O<|sc O sn)<|λ_ h=>Wd 1 h
   have ch:¬x.kind=3:=by simpa using a5
   omega
  have cj:k=o.fix.length:=by simp at aU;omega
  rw [cj,gH];have ck:iL l e.1++ni l e.1 o o.code o.fix=iL l (e.1+1):=(Kn s).symm;rw [ck];have cl:(iL l e.1++o.code).length=(iL l<|e.1+1).length:=by rw [Kn s,iy,iy];unfold v_;rw [Gu]
  rw [cl];refine Ce<|Ex<|Ex<|ee<|Eb<|Et<|Cr<|V0 (Yi O O O (by omega))<|ab O<|Ln ?_;exact Ea ((e.1+1,(aO,aT)):Z×SP) (by show _-(e.1+1)<_;omega) (by show e.1+1<=_;omega) (sc O<|sc O<|sc O<|sc O<|sc O<|sc O<|sc O<|sc O sn)<|λ_ h=>(Wt 3<|((h.f 3 O).f 3 O).f 2 O:)
 have cm:e.1=l.length:=by simp at aL;omega
 rw [cm];have co:=IL H ax;refine Ce<|Ex<|Ex<|ee<|Et<|ak<|V0 (dW 1 O O pn O)<|aw 2 Y O O O sx O O O<|au O<|ag<|bu ?_;refine WE.gF (hX O (fj 2 O O pn O)<|jI O) λL u=>?_;rw [co];exact ⟨e.2,O,u.fr,u.kb 0 O cK.dR<|λ_ _ _ _ h=>h⟩
def toI (x:cK):Mch.ce:=⟨x.op,x.a,x.b⟩
def aes (h:Sl kj 3 bN cq bE l7):Sl Mch.qN 3 bN cq bE<|l7.map toI:=by refine ⟨by rw [fB];exact h.cap,h.max,h.spot,λi x a=>?_⟩;rw [fp] at a;obtain ⟨y,b,rfl⟩:=eQ.1 a;exact h.ct i y b
variable {gO:I ac}
def aet (h:Sl gW 1 bN cq bE gO):Sl Mch.lW 1 bN cq bE gO:=h.imp λb o x h=>h 0 _ rfl
def T1 (h:Sl Mch.lW 1 bN cq bE gO):Sl gW 1 bN cq bE gO:=h.imp λb o x h k v a=>by match k,a with| 0,a=>cases a;exact h
def Hl {l:I dU} (h:(iu l).2=0):kP l=0/\¬(2048<bw l l.length\/512<bK l l.length):=by
 by_cases a:kP l=0;·refine ⟨a,λb=>?_⟩;rw [TZ a b] at h;cases h
 ·rw [TY a] at h;exact absurd h a
def aeu (h:(iu gw).2=0):Mch.h1 ((iu gw).1.1.map toI) (iu gw).1.2=0:=by
 obtain ⟨b,c⟩:=Hl h;have a:=Ke.1 b;rw [IL b c];have k:=C_ a.fH a.dt<|c7 _;have l:=C' a.fH a.dt<|c7 _;have d:=QA gw;have m:1<=bw gw gw.length:=by unfold bw;omega
 have e:(decide ((((jN gw).map toI).length:ac)<1)||decide (2048<(((jN gw).map toI).length:ac)))=aq:=by rw [fB,d];simp only [kG,mC];omega
 have f:((jN gw).map toI).any Mch.vU=aq:=by rw [vq];intro x g;obtain ⟨y,i,rfl⟩:=o2.1 g;have:=Zp a.dt y i;unfold Mch.vU toI;simp only [zS,cw];unfold nh at this;omega
 have j:(decide (bK gw gw.length<0)||decide (512<bK gw gw.length))=aq:=by simp only [kG,mC];omega
 show Mch.h1 ((jN gw).map toI) (bK gw gw.length)=0;unfold Mch.h1;rw [e,f,j];rfl
def yY:aT aC 64 0=aa 0:=ah
def vY:aT aC 64 3=aa 3:=ah
def v3:aT aC 64 1=aa 1:=ah
def uK:aT aC 64 2=aa 2:=ah
def mP:zeroOf aC 64=aa (b0 #[am an 0,aE ao 0 0,aE ao 0 0,am an 0]):=ah
def mO:e2 aC 64=aa 4:=ah
def CR:aT aC 57 1=aa 1:=ah
def kD:i2 aC 64=aa 4:=ah
def tC:hW aC 64=aa [(0,1),(1,1),(2,1),(3,1)]:=ah
def L3 (b c:View) (R:Mch.jM) (r1 r2:SP×SP) (w:aP) (i:Le b w) (j:Le c w) (d:Sl gW 1 b r1.1.1 r1.1.2 R.out/\Sl gW 1 b r1.2.1 r1.2.2 R.data) (f:Sl gW 1 c r2.1.1 r2.1.2 R.out/\Sl gW 1 c r2.2.1 r2.2.2 R.data) : cx aC 29 #[b0 #[am an R.fin,aE r1.1.1 R.out.length r1.1.2,aE r1.2.1 R.data.length r1.2.2,am an R.a0],b0 #[am an R.fin,aE r2.1.1 R.out.length r2.1.2,aE r2.2.1 R.data.length r2.2.2,am an R.a0]] w λe h=>e = cf (bW ad)/\Ext w h:=by
 refine enter func29 O 31 O O<|CE (Vs:=[b,c]) (Ws.init (by simp [i,j]))<|ak ?_;refine WL.box Y O O λk=>WL.box Y O O λl=>au O<|ag<|ak<|V0 (Yf yY O)<|V0 (Yd 1 O O O ah)<|V0 (Yf yY O)<|V0 (Yd 0 O O O ah)<|V0 (Aq O O O)<|ab O ?_;apply La 5 (x:=ad) O O O O Y O O O O O;·intro m;refine Vg (Yf vY O)<|Vg (Yd 1 O O O ah)<|Vg (Yf vY O)<|Vg (Yd 0 O O O ah)<|Vg (Aq O O O) ?_;exact Gt 5 O O O
 refine ab O ?_;apply La 5 (x:=ad) O O O O Y O O O O O;·intro n;refine Vg (Yf v3 O)<|Vg (Yd 1 O O O ah)<|Vg (Yf v3 O)<|Vg (Yd 0 O O O ah)<|Lp (.g O O O) O bp O (λw a=>TU b c r1.1.1 r2.1.1 r1.1.2 r2.1.2 R.out w a.V a.V d.1 f.1) ?_;exact Gt 5 O O O
 refine ab O ?_;apply La 5 (x:=ad) O O O O Y O O O O O;·intro o;refine Vg (Yf uK O)<|Vg (Yd 1 O O O ah)<|Vg (Yf uK O)<|Vg (Yd 0 O O O ah)<|Lp (.g O O O) O bp O (λw a=>TU b c r1.2.1 r2.2.1 r1.2.2 r2.2.2 R.data w a.V a.V d.2 f.2) ?_;exact Gt 5 O O O
 refine au O<|ag<|bu ?_;refine R1 O O λh a=>⟨O,a.fr⟩
def aev:hW aC 182=aa [(0,1)]:=ah
def Hm:zeroOf aC 182=aa (b0 #[am an 0]):=ah
def aew:aC.concrete 182=ad:=ah
def tY:aT aC 180 6=aa 6:=ah
def aex:aT aC 180 4=aa 4:=ah
def eo:aT aC 281 0=aa 0:=ah
def D7:aT aC 180 2=aa 2:=ah
def BG:aT aC 180 1=aa 1:=ah
def T2:aT aC 281 1=aa 1:=ah
def yW:g_ aC 178=aa 1:=ah
def D8 (b:aS) (e:ac) (w:aP) : cx aC 163 #[bW b,am an e] w λf a=>(∃_:ef,f = cf (cO #[])/\b=aq/\Ext w a)\/(∃_:ef,f = .panicked (oI 182 e)/\b=ad/\Ext w a):=by
 refine enter func163 O 8 O O<|CE (Vs:=[]) (Ws.init aK)<|ak<|ab O<|ag ?_;refine Cc O (λc=>?_)<|λc=>?_;·refine Cr<|ab O<|V0 (Yb Hm aev O O)<|V0 (r6 aew O) ?_;refine WL.panic Y O<|b_ λa d=>be ⟨(),O,c,d.fr⟩
 refine Ck<|E0 O λa d=>bB ⟨(),O,c,d.fr⟩
def zE (b:aS) (w:aP) : cx aC 331 #[bW b] w λe a=>e = cf (am an<|mI b)/\Ext w a:=by
 refine enter func331 O 4 O O<|CE (Vs:=[]) (Ws.init aK)<|ak<|au O<|ag<|Cs<|ak<|ab O<|ag ?_;refine Cc O (λc=>?_)<|λc=>?_;·refine ak<|au O<|ag<|bu<|Er ?_;refine R1 O O λa d=>⟨by rw [c];rfl,d.fr⟩
 refine ay<|ak<|au O<|ag<|bu ?_;refine R1 O O λa d=>⟨by rw [c];rfl,d.fr⟩
def T3 (b:Z) (f:KW) (l:I aI) (aO C:Z) (g:View) (s:fW)  (w:aP) (c:kC g (av l aO) (d' l) C s) (v:aO<=2000) (a:Ws w (c6 bh.ids<|eO 180 3 b f (av l aO) s) (eO 180 3 b f (av l aO) s) [g] w) :
   cx aC 162 #[b8 (aa ⟨b,0,ao⟩)] w λe j=>(∃r:ef×fW,e = cf (cO #[])/\(mJ (av l aO) s.w = .ok r.1 r.2.w/\kC g (av l aO) (d' l) C r.2)/\Ws w (c6 bh.ids<|eO 180 3 b f (av l aO) s) (eO 180 3 b f (av l aO) r.2) [g] j)\/(∃r:ac×fW,e = .panicked (oI 182 r.1)/\mJ (av l aO) s.w = .ov r.1 r.2.w/\Ws w (c6 bh.ids<|eO 180 3 b f (av l aO) s) (eO 180 3 b f (av l aO) r.2) [g] j):=by
 have x:=c.out;have q:=c.tk;have y:=c.hr;refine enter func162 O 22 O O<|CE a<|Cs ?_;refine WC.o6 [(0,ad),(1,ad),(2,ad),(3,ad),(4,ad),(5,ad),(6,ad),(7,ad),(8,ad),(9,ad),(10,aq)] mixed ah (λ_ _ _ d _ h=>by cases d<;>exact h)<|D0 O a' (Ym O)<|D0 O a' (bS O)<|D0 O a' (Yf tY O)<|D0 O a' (Yf vY O)<|D0 O a' (Yd 0 O O O ah)<|D0 O a' (Ym O)<|D0 O a' (bS O)<|D0 O a' (Yf aex O) ?_;refine D0 O a' (Yd 0 O O O ah)<|D0 O a' (bY O O) ?_;refine De O a'<|bU (ι:=ef) (κ:=ef) [] _ Y O bp O O (λ_=>cO #[]) (λ_=>[]) (λ_=>((s.w.a0:ac)==(aO:ac))=aq) (λ_=>oI 182 3) (λ_=>[]) (λ_=>((s.w.a0:ac)==(aO:ac))=ad) [] aK (λw a=>(D8 _ 3 w).mono λe j h=>by
  rcases h with ⟨_,m,n,p⟩ | ⟨_,m,n,p⟩;·exact bB ⟨(),m,n,a.ext p⟩
  ·exact be ⟨(),m,n,a.ext p⟩) ?_ ?_;·intro _ k;refine Ep<|Ep ?_;refine b_ λj a=>be ⟨(3,s),O,by rw [mJ,aD (show s.w.a0=(av l aO).aO from by have h:=k;simp at h;show s.w.a0=aO;omega)],a⟩
 intro _ k;refine Ln<|Ed ?_;refine WD.nil a'<|Et ?_;have t:¬s.w.a0=aO:=by intro h;rw [h] at k;simp at k
 have u:s.w.a0<aO:=by have:s.w.a0<=aO:=q;omega
 refine Cr<|ab O<|V0 (bS O)<|V0 (Yf tY O)<|V0 (Yf vY O)<|V0 (Yd 0 O O O ah)<|V0 (Yi O O O ai)<|V0 (bS O) ?_;refine V0 (Yf tY O)<|V0 (Yf vY O)<|aw 0 Y O O O eE O O O<|Ln ?_;refine E0 O λj a=>bB ⟨((),⟨{ s.w with a0:=s.w.a0+1 },s.i,s.o,s.d⟩),O,⟨by rw [mJ,aj<|show ¬s.w.a0=(av l aO).aO from t],⟨c.bn,c.out,u,c.hr,c.cl⟩⟩,a⟩
def Hn (c:Z) (g:KW) (l:I aI) (aO C:Z) (f:View) (s:fW) (n i u:Z) (x:SP) (k:Z) (v:ac) (z:aI) (o j b p:Z) (m pl:ac) (w:aP) (H:kC f (av l aO) (d' l) C s) (q:iU f n g l aO) (B:l[u]? = aa z) (D:(u::z.aN.map λs=>(idxOf s (fR l) 0).getD 0)[o]? = aa j) (E:(jZ l 0)[j]? = aa b) (Y:b+p<d' l) (J:m=(o:ac)) (K:pl=(p:ac)) (t:Ws w (c6 bh.ids<|(eO 180 3 c g (av l aO) s)++[aQ i<|xh 281 c u x k v]) ((eO 180 3 c g (av l aO) s)++[aQ i<|xh 281 c u x k v]) [f] w) : cx aC 277 #[b8 (aa ⟨i,0,ao⟩),am an m,am an pl] w λe F=>∃r:Z,e = cf (b8<|aa ⟨r,0+(b+p)*1,ao⟩)/\s.d.1=aa ⟨r,0,ao⟩/\Ws w (c6 bh.ids<|(eO 180 3 c g (av l aO) s)++[aQ i<|xh 281 c u x k v]) ((eO 180 3 c g (av l aO) s)++[aQ i<|xh 281 c u x k v]) [f] F:=by subst J K;have ab:=H.hr;have ae:=yS q.ok;obtain ⟨pu,af,L,aj,M,N⟩:=q.aN.ct u _<|yP B;obtain ⟨P,Q,R,y⟩:=N.ct o j D;obtain ⟨pb,S,T,A⟩:=q.g1.ct j b E;have U:=(cN.1<|yP B).1;have V:=(cN.1 D).1;have W:=(cN.1 E).1;have y:cB f P (Q+o*1)<|ly j:=y;have A:cB f pb (S+j*1)<|ly b:=A;refine enter func277 O 43 O O<|CE t<|ak<|au O<|ag<|Cs ?_;refine WC.tf 2 O ai λX G al ap=>WC.o6 [(0,ad),(1,ad),(2,ad),(3,ad),(4,ad),(5,ad),(6,ad),(7,ad),(8,ad),(9,ad),(10,ad),(11,ad),(12,ad),(13,ad),(14,ad),(15,ad),(16,ad),(17,ad),(18,ad),(19,ad),(20,ad),(21,ad),(22,ad),(23,ad),(24,ad),(25,ad),(26,ad),(27,ad),(28,ad),(29,ad),(30,ad),(31,ad),(32,ad),(33,ad),(34,ad),(35,ad),(36,ad)] mixed ah (λ_ _ _ d _ h=>by cases d<;>exact h)<|D0 O a' (Ym O)<|D0 O a' (bS O)<|D0 O a' (Yf eo O)<|D0 O a' (Yd 3 O O O ah)<|D0 O a' (bS O)<|D0 O a' (Yf tY O)<|D0 O a' (Yf uK O)<|D0 O a' (Yd 0 O O O ah) ?_;refine D0 O a' (Ym O)<|D0 O a' (bS O)<|D0 O a' (Yf eo O)<|D0 O a' (Yd 3 O O O ah)<|D0 O a' (bS O)<|D0 O a' (Yf D7 O)<|D0 O a' (Yd 0 O O O ah)<|D0 O a' (Ym O) ?_;refine D0 O a' (bS O)<|D0 O a' (Yf eo O)<|D0 O a' (Yd 3 O O O ah)<|D0 O a' (bS O)<|D0 O a' (Yf BG O)<|D0 O a' (Yd 0 O O O ah)<|D0 O a' (Ym O)<|D0 O a' (bS O) ?_;refine D0 O a' (Yf T2 O)<|D0 O a' (Yd 3 O O O ah)<|D0 O a' (Yo yW O O L U)<|D0 O a' (ew 0 ah O O<|M 0 _ O)<|D0 O a' (Ym O)<|D0 O a' (Yo e8 O O R V)<|D0 O a' (ew 0 ah O O<|y 0 _ O)<|D0 O a' (Yo e8 O O T W) ?_;refine D0 O a' (ew 0 ah O O<|A 0 _ O)<|D0 O a' (Ym O)<|D0 O a' (o7 (a:=b) (b:=p) O O O O ai)<|D0 O a' (Yo e8 O O G (by show b+p<s.w.data.length;omega))<|D0 O a' (Ya O) ?_;refine WD.nil a'<|Et<|bu ?_;refine R1 O O λF t=>⟨X,O,G,t⟩
def Ho (f:View) (n:Z) (g:KW) (l:I aI) (aO b C d:Z) (k:Z):Prop:=∀(h u:Z) (z:aI) (x:SP) (loc:I ac) (v:ac) (y:eC) (a:aA a6) (c j:Z) (s:fW) (w:aP),kC f (av l aO) (d' l) C s->l[u]? = aa z->Sl (cC k) 5 f a c y.args->k5 (ec z::fV l z) loc.length y j=ad->Ws w (c6 bh.ids<|(eO 180 3 b g (av l aO) s)++(g9 281 3 h b u x loc v)) ((eO 180 3 b g (av l aO) s)++(g9 281 3 h b u x loc v)) [f] w-> cx aC 276 #[b8 (aa ⟨h,0,ao⟩),b0 (dQ y a c).toArray] w λe i=>(∃r:ac×fW,e = cf (am an r.1)/\(bA (av l aO) (dE (av l aO) d) u y loc s.w = .ok r.1 r.2.w/\kC f (av l aO) (d' l) C r.2)/\Ws w (c6 bh.ids<|(eO 180 3 b g (av l aO) s)++(g9 281 3 h b u x loc v)) ((eO 180 3 b g (av l aO) r.2)++(g9 281 3 h b u x loc v)) [f] i)\/(∃r:ac×fW,e = .panicked (oI 182 r.1)/\bA (av l aO) (dE (av l aO) d) u y loc s.w = .ov r.1 r.2.w/\Ws w (c6 bh.ids<|(eO 180 3 b g (av l aO) s)++(g9 281 3 h b u x loc v)) (eO 180 3 b g (av l aO) r.2) [f] i)
def zF (f:View) (n:Z) (g:KW) (l:I aI) (aO b C d:Z):Prop:=∀(u:Z) (z:aI) (x:SP) (loc:I ac) (body:I et) (a:aA a6) (c k1 k2:Z) (s:fW) (w:aP),kC f (av l aO) (d' l) C s->l[u]? = aa z->Sl (jK k1 k2) 7 f a c body->bX (ec z::fV l z) loc.length body 1=ad->Ws w (c6 bh.ids<|(eO 180 3 b g (av l aO) s)++[cQ 3 1 ik x.1 x.2 loc]) ((eO 180 3 b g (av l aO) s)++[cQ 3 1 ik x.1 x.2 loc]) [f] w-> cx aC 96 #[b8 (aa ⟨b,0,ao⟩),am an (u:ac),aE x.1 loc.length x.2,aE a body.length c] w λe h=>(∃r:ac×fW,e = cf (am an r.1)/\(dE (av l aO) d u loc body s.w = .ok r.1 r.2.w/\kC f (av l aO) (d' l) C r.2)/\Ws w (c6 bh.ids<|(eO 180 3 b g (av l aO) s)++[cQ 3 1 ik x.1 x.2 loc]) (eO 180 3 b g (av l aO) r.2) [f] h)\/(∃r:ac×fW,e = .panicked (oI 182 r.1)/\dE (av l aO) d u loc body s.w = .ov r.1 r.2.w/\Ws w (c6 bh.ids<|(eO 180 3 b g (av l aO) s)++[cQ 3 1 ik x.1 x.2 loc]) (eO 180 3 b g (av l aO) r.2) [f] h)
def T4 (k:Z):(madeCells (aR.int an 0).cells<|k*1)=((gb k (0:ac)).flatMap ik).toArray:=O4 (f:=ik) (x:=(0:ac)) (zs:=(aR.int an 0).cells) rfl a8 k
def aey:aT aC 180 0=aa 0:=ah
def T5 (t:View) (n:Z) (A:KW) (l:I aI) (aO i C d:Z) (D u:Z) (z:aI) (x:SP) (loc:I ac) (v:ac) (m pl:ac) (args:I eC) (a:aA a6) (c k aL:Z) (s:fW) (w:aP) (ae:kC t (av l aO) (d' l) C s) (G:iU t n A l aO) (K:l[u]? = aa z) (hN:∀k2,k2<k->Ho t n A l aO i C d k2) (hC:zF t n A l aO i C d) (aM:k4 (ec z::fV l z) m pl args.length=ad) (M:Sl (cC k) 5 t a c args) (aT:hZ (ec z::fV l z) loc.length args aL=ad) (B:Ws w (c6 bh.ids<|(eO 180 3 i A (av l aO) s)++(g9 281 3 D i u x loc v)) ((eO 180 3 i A (av l aO) s)++(g9 281 3 D i u x loc v)) [t] w) :
   cx aC 279 #[b8 (aa ⟨D,0,ao⟩),am an m,am an pl,aE a args.length c] w λe H=>(∃r:ac×fW,e = cf (am an r.1)/\(qJ (av l aO) (dE (av l aO) d) u m pl (hx (av l aO) (dE (av l aO) d) u args) loc s.w = .ok r.1 r.2.w/\kC t (av l aO) (d' l) C r.2)/\Ws w (c6 bh.ids<|(eO 180 3 i A (av l aO) s)++(g9 281 3 D i u x loc v)) ((eO 180 3 i A (av l aO) r.2)++(g9 281 3 D i u x loc v)) [t] H)\/(∃r:ac×fW,e = .panicked (oI 182 r.1)/\qJ (av l aO) (dE (av l aO) d) u m pl (hx (av l aO) (dE (av l aO) d) u args) loc s.w = .ov r.1 r.2.w/\Ws w (c6 bh.ids<|(eO 180 3 i A (av l aO) s)++(g9 281 3 D i u x loc v)) (eO 180 3 i A (av l aO) r.2) [t] H):=by
 have bw:=ae.hr;have bx:=yS G.ok;obtain ⟨N,j,q,P,p,rfl,rfl,af,E,J,bz,aj⟩:=CH G.ok aO K aM;obtain ⟨pu,bA,aU,bC,aV,aX⟩:=G.aN.ct u _<|yP K;obtain ⟨aZ,a0,a1,Q⟩:=aX.ct N j af;obtain ⟨bD,bE,a2,bF,a3,a4⟩:=G.ahO.ct j P E;obtain ⟨bG,bI,a5,R,a7,a9⟩:=a4.parts.ct q p J;have a_:=(cN.1<|yP K).1;have ba:=(cN.1 af).1;have bb:=(cN.1 E).1;have bc:=(cN.1 J).1;have Q:cB t aZ (a0+N*1)<|ly j:=Q;have bd:=G.ok.oF P<|aW E;obtain ⟨bJ,bK,bL,bM,bf⟩:=yQ<|(iD bd).1 p<|aW J;obtain ⟨np,bg⟩:∃np:Z,p.params=np:=⟨p.params.toNat,ai⟩;obtain ⟨o,bi⟩:∃o:Z,p.locals=o:=⟨p.locals.toNat,ai⟩;have bN:np=args.length:=ai;have bO:=M.cap;have bP:=M.max;refine enter func279 O 73 O O<|CE B<|ak<|au O<|ag<|Cs ?_;refine WC.o6 [(0,ad),(1,ad),(2,ad),(3,ad),(4,ad),(5,ad),(6,ad),(7,ad),(8,ad),(9,ad),(10,ad),(11,ad),(12,ad),(13,ad),(14,ad),(15,ad),(16,ad)] mixed ah (λ_ _ _ d _ h=>by cases d<;>exact h)<|D0 O a' (Ym O)<|D0 O a' (bS O)<|D0 O a' (Yf eo O)<|D0 O a' (Yd 3 O O O ah)<|D0 O a' (bS O)<|D0 O a' (Yf BG O)<|D0 O a' (Yd 0 O O O ah)<|D0 O a' (Ym O) ?_;refine D0 O a' (bS O)<|D0 O a' (Yf T2 O)<|D0 O a' (Yd 3 O O O ah)<|D0 O a' (Yo yW O O aU a_)<|D0 O a' (ew 0 ah O O<|aV 0 _ O)<|D0 O a' (Ym O)<|D0 O a' (Yo e8 O O a1 ba)<|D0 O a' (ew 0 ah O O<|Q 0 _ O) ?_;refine D0 O a' (Ya O)<|WD.nil a'<|Et<|ak<|ab O<|V0 (bS O)<|V0 (Yf eo O)<|V0 (Yd 3 O O O ah)<|V0 (bS O)<|V0 (Yf aey O)<|V0 (Yd 0 O O O ah) ?_;refine ab O<|V0 (Yo oV O O a2 bb)<|V0 (Yf zy O)<|V0 (ew 0 ah O O<|a3 3 _ O)<|ab O<|V0 (Yo xN O O a5 bc)<|V0 (eB 0 DV O O O<|a7) ?_;refine Al Y O By λbj=>aw 0 Y O O O Hd O O O<|ag<|ak<|V0 (Yf mh O)<|V0 (Yd 0 O O O ah)<|V0 (Yf DS O)<|V0 (Yd 0 O O O ah)<|V0 (o7 (a:=np) (b:=o) O O bg bi ai) ?_;refine WL.make Y O gn O O ai ai ai ai λal=>eb 0 (aY ((gb (np+o) (0:ac)).flatMap ik).toArray 3 (0,0)) O (by rw [ku,T4])<|LW (λ_ h=>h.r9 (f:=ik) (xs:=gb (np+o) 0) (c:=np+o) 0 O lr aK (by unfold maxLen;omega))<|au O<|ag<|Cs<|Cs ?_;have bl:lv loc (hx (av l aO) (dE (av l aO) d) u args) s.w=_:=XF;refine Cr<|ab O<|V0 (Yn iP O)<|ab O<|ag<|Cb ?_;refine f_ (ι:=Z×I ac×fW) (λg=>[(52,am an (g.1:ac))]) [(0,_),(8,_),(9,_),(10,_),(11,_),(50,_),(51,_)] (λg=>Ws w (c6 bh.ids<|(eO 180 3 i A (av l aO) s)++(g9 281 3 D i u x loc v)) ((eO 180 3 i A (av l aO) g.2.2)++(g9 281 3 D i u x loc v)++[cQ 3 1 ik (aa ⟨al,0,ao⟩) (np+o)<|g.2.1++gb (np+o-g.1) 0,aQ bj<|aY (yI p R).toArray 107 (0,0)]) [t]) (λg=>g.1<=args.length/\g.2.1.length=g.1/\(kC t (av l aO) (d' l) C g.2.2)/\lv loc (hx (av l aO) (dE (av l aO) d) u args) s.w=(lv loc (hx (av l aO) (dE (av l aO) d) u<|args.drop g.1) g.2.2.w).bind λvs w=>.ok (g.2.1++vs) w) (λg=>args.length-g.1) (0,[],s) ⟨dw _,O,ae,bl⟩ (λ_ h=>by exact (((((h.f 6 O).f 6 O).f 6 O).f 6 O).f 6 O:)) λg ⟨bQ,S,ap,T⟩=>ak<|V0 (c8 O O)<|ag<|Cs ?_;refine Cc O (λU=>?_)<|λU=>?_
 ·have ax:g.1<args.length:=by simpa using U
  obtain ⟨y,L⟩:=bk ax;obtain ⟨bR,bT,bm,az⟩:=M.ct g.1 y L;obtain ⟨k2,rfl⟩:∃k2,k=k2+1:=by cases k with| zero=>exact az.elim| succ k2=>exact ⟨k2,rfl⟩
  obtain ⟨aB,aD,bn,bo⟩:=az;have bq:=hN k2 ai;have br:=mM aT L;refine ay<|Cs<|Cb<|ak<|ab O<|V0 (Yo iP O O bm ax)<|V0 (eB 0 bZ O O O<|bn) ?_;refine Al Y O Bt λbV=>au O<|aw 0 Y O O O DM O O O<|ag<|hk 0 (aY (dQ y aB aD).toArray 53 (0,0)) O O<|Cr<|ab O<|ab O<|ab O ?_;refine V0 (dW 0 O O bZ O)<|Lf 5 O<|Lf 5 O<|Lf 5 O<|Lf 5 O<|Lf 5 O ?_;refine bU [_,_,_,_,_] _ Y O bp O O _ _ _ _ _ _ [t] aK (λw B=>bq D u z x loc v y aB aD _ g.2.2 w ap K bo br B) ?_ ?_;·intro F V;refine WE.cp<|Ep<|Ep<|WE.cp<|Ep ?_;refine b_ λH B=>be ⟨F,O,by rw [Pg aj O E J];exact kk<|XD T L V,by have h:=B;have h:=Wt 3 h;exact h⟩
  intro F ⟨V,bs⟩;refine V0 (qu e8 O O ai)<|WL.storeT (y:=0) 6 g.1 0 F.1 Y O O O O (by rw [vo];rfl) lr (XG S ai) eE O O a8 O<|Ln<|Eb<|Et<|Cr<|V0 (Yi O O O ai)<|ab O<|Ln ?_;rw [XH _ S ai];exact ep ((g.1+1,g.2.1++[F.1],F.2):Z×I ac×fW) (by show _-(g.1+1)<_;omega) ⟨by show g.1+1<=_;omega,by show (g.2.1++[F.1]).length=g.1+1;simp [S],bs,XC T L V⟩ (λ_ h=>by exact (Wt 7<|((((((h.f 7 O).f 7 O).f 6 O).f 6 O).f 6 O).f 6 O).f 6 O:))
 have bX:args.length<=g.1:=by simp at U;omega
 have aF:(g.2.1++gb (np+o-g.1) 0).length=np+o:=by rw [iy,ED];omega
 have bt:=ahJ (pre:=g.2.1) T ai;have aG:qJ (av l aO) (dE (av l aO) d) u (N:ac) (q:ac) (hx (av l aO) (dE (av l aO) d) u args) loc s.w=dE (av l aO) d j (g.2.1++gb (np+o-g.1) 0) p.body g.2.2.w:=by rw [Pg aj rfl E J,gX bt,show p.locals.toNat=np+o-g.1 by omega]
 refine Ce<|Ex<|Ex<|ee<|Et<|Cs ?_;refine CU (λ_=>ad) [0,0,0,2] [] (.q aq 0<|.q aq 1<|.q aq 2<|.q ad 3<|.q aq 4<|.q aq 5<|.q aq 6<|.q ad 7<|.e 8 (.q aq 9 .nil) .stop) mixed ah (λ_ _ _ d _ _ h=>by cases d<;>exact h)<|U0 O (dn [0,0,0,2]) (Ym O)<|U0 O (dn [0,0,0,2]) (bS O)<|U0 O (dn [0,0,0,2]) (Yf eo O)<|U0 O (dn [0,0,0,2]) (Yd 0 O O O ah)<|U0 O (dn [0,0,0,2]) (Ym O)<|U0 O (dn [0,0,0,2]) (Ym O)<|U0 O (dn [0,0,0,2]) (Yf LK O)<|U0 O (dn [0,0,0,2]) (Yd 2 O O O ah) ?_;refine Ue O (dn [0,0,0,2]) ?_ WU.stop;refine Lf 5 O<|Lf 3 O<|Lf 3 O<|Lf 3 O ?_;refine bU (ι:=_) (κ:=_) [_,_,_,_] _ Y O bp O O _ _ _ _ _ _ [t] aK (λw B=>by have aH:=hC j P (aa ⟨al,0,ao⟩,np+o) (g.2.1++gb (np+o-g.1) 0) p.body R.1 R.2 n n g.2.2 w ap E a9 (by rw [aF,show ((np+o:Z):ac)=p.params+p.locals by omega];exact bf) B;rw [aF] at aH;exact aH) ?_ ?_;·intro W X;refine Ep<|Ep ?_;refine b_ λH B=>be ⟨W,O,aG.trans X,by have h:=B;have h:=Wt 3 h;exact h⟩
 intro W ⟨X,bv⟩;refine Ln<|Eu<|U0 O (λ_ h=>(Wd 3 h:)) (Ya O) ?_;refine WU.nil (λ_ h=>(Wd 3 h:))<|WS.nil<|Et<|bu ?_;refine R1 O O λH B=>bB ⟨W,O,⟨aG.trans X,bv⟩,Wt 5 B⟩
def T6 (g:View) (n:Z) (i:KW) (l:I aI) (aO b C d:Z) (m u:Z) (z:aI) (x:SP) (loc:I ac) (v:ac) (y:eC) (p:ac) (a:aA a6) (c k F:Z) (s:fW) (w:aP) (E:kC g (av l aO) (d' l) C s) (G:iU g n i l aO) (H:l[u]? = aa z) (J:Ho g n i l aO b C d k) (K:Sl (cC k) 5 g a c y.args) (L:k5 (ec z::fV l z) loc.length y F=ad) (f:Ws w (c6 bh.ids<|(eO 180 3 b i (av l aO) s)++(g9 281 3 m b u x loc v)) ((eO 180 3 b i (av l aO) s)++(g9 281 3 m b u x loc v)) [g] w) : cx aC 278 #[b8 (aa ⟨m,0,ao⟩),b0 (dQ y a c).toArray,am an p] w λe o=>(∃r:ac×fW,e = cf (am an r.1)/\(p7 p (bA (av l aO) (dE (av l aO) d) u y) loc s.w = .ok r.1 r.2.w/\kC g (av l aO) (d' l) C r.2)/\Ws w (c6 bh.ids<|(eO 180 3 b i (av l aO) s)++(g9 281 3 m b u x loc v)) ((eO 180 3 b i (av l aO) r.2)++(g9 281 3 m b u x loc v)) [g] o)\/(∃r:ac×fW,e = .panicked (oI 182 r.1)/\p7 p (bA (av l aO) (dE (av l aO) d) u y) loc s.w = .ov r.1 r.2.w/\Ws w (c6 bh.ids<|(eO 180 3 b i (av l aO) s)++(g9 281 3 m b u x loc v)) (eO 180 3 b i (av l aO) r.2) [g] o):=by
 have N:=E.hr;have P:=yS G.ok;refine enter func278 O 20 O O<|CE f<|ak ?_;refine WL.box Y O O λQ=>au O<|ag<|Cs<|hk 0 (aY (dQ y a c).toArray 53 (0,0)) O O<|Cr<|ab O<|V0 (dW 0 O O bZ O)<|Lf 5 O<|Lf 5 O ?_;refine Lf 5 O<|Lf 5 O<|Lf 5 O ?_;refine bU [_,_,_,_,_] _ Y O bp O O _ _ _ _ _ _ [g] aK (λw f=>J m u z x loc v y a c _ s w E H K L f) ?_ ?_;·intro j q;refine Ep<|b_ λo f=>be ⟨j,O,kk q,by have h:=f;have h:=Wt 3 h;exact h⟩
 intro j ⟨q,M⟩;refine au O<|ag<|ak<|ab O<|V0 (c8 O O)<|ab O ?_;apply Lo 3 O O O O Y O O O O O;·intro R;refine Vg (Ym O)<|Vg (Ym O)<|Vg (h9 O O) ?_;exact Gt 3 O O O
 refine bU (ι:=ef) (κ:=ef) [] _ Y O bp O O (λ_=>cO #[]) (λ_=>[]) (λ_=>(decide (j.1<0)||decide (p<=j.1))=aq) (λ_=>oI 182 2) (λ_=>[]) (λ_=>(decide (j.1<0)||decide (p<=j.1))=ad) [] aK (λw f=>(D8 _ 2 w).mono λe o h=>by
  rcases h with ⟨_,t,A,B⟩ | ⟨_,t,A,B⟩;·exact bB ⟨(),t,A,f.ext B⟩
  ·exact be ⟨(),t,A,f.ext B⟩) ?_ ?_;·intro _ D;refine Ep<|b_ λo f=>be ⟨(2,j.2),O,(gX q).trans<|aD D,by have h:=f;have h:=Wt 3 h;exact h⟩
 intro _ D;refine ag<|ak<|ab O<|au O<|ag<|bu ?_;refine R1 O O λo f=>bB ⟨j,O,⟨(gX q).trans<|aj (by rw [D];simp),M⟩,Wt 5 f⟩
variable {p9 xg:Wm}
def T7 {k:Ev}    (h:p7 az k gO p9 = .ok b' xg):0<=b'/\b'<az:=by
 unfold p7 at h;cases a:k gO p9 with
 | ok j s=>
  rw [a] at h;change (if _ then _ else _)=_ at h;split at h;·cases h
  ·rename_i b;simp only [Rz.ok.injEq] at h;obtain ⟨rfl,_⟩:=h;simp at b;omega| ov e s=>rw [a] at h;cases h
def L4 (h:gO[bE]? = aa az):ru gO bE=az:=by unfold ru;rw [h];rfl
def Hp:aT aC 180 3=aa 3:=ah
def T8:aT aC 281 2=aa 2:=ah
def aez (E:View) (n:Z) (N:KW) (l:I aI) (aO K C d:Z) (H u:Z) (z:aI) (x:SP) (loc:I ac) (v:ac) (y:eC) (a:aA a6) (c k bc:Z) (s:fW) (w:aP) (J:kC E (av l aO) (d' l) C s) (aB:iU E n N l aO) (P:l[u]? = aa z) (hC:zF E n N l aO K C d) (R:Sl (cC k) 5 E a c y.args) (cw:k5 (ec z::fV l z) loc.length y bc=ad) (t:Ws w (c6 bh.ids<|(eO 180 3 K N (av l aO) s)++(g9 281 3 H K u x loc v)) ((eO 180 3 K N (av l aO) s)++(g9 281 3 H K u x loc v)) [E] w) :
   cx aC 276 #[b8 (aa ⟨H,0,ao⟩),b0 (dQ y a c).toArray] w λe D=>(∃r:ac×fW,e = cf (am an r.1)/\(bA (av l aO) (dE (av l aO) d) u y loc s.w = .ok r.1 r.2.w/\kC E (av l aO) (d' l) C r.2)/\Ws w (c6 bh.ids<|(eO 180 3 K N (av l aO) s)++(g9 281 3 H K u x loc v)) ((eO 180 3 K N (av l aO) r.2)++(g9 281 3 H K u x loc v)) [E] D)\/(∃r:ac×fW,e = .panicked (oI 182 r.1)/\bA (av l aO) (dE (av l aO) d) u y loc s.w = .ov r.1 r.2.w/\Ws w (c6 bh.ids<|(eO 180 3 K N (av l aO) s)++(g9 281 3 H K u x loc v)) (eO 180 3 K N (av l aO) r.2) [E] D):=by
 have cW:=J.hr;have cX:=yS aB.ok;induction k using om generalizing H u z x loc v y a c bc s w;rename_i k cz;have hN:∀k2,k2<k->Ho E n N l aO K C d k2:=λk2 h H u z x loc v y a c bc s w aK aT aV cA cB=>cz k2 h H u z x loc v y a c bc s w aK aT aV cA cB aK.hr;have cZ:=R.cap;have c0:=R.max;obtain ⟨L,X⟩:=F4 cw;have aW:=O2 L;have bd:=F1 L;refine enter func276 O 199 O O<|CE t<|ak ?_;refine WL.box Y O O λc1=>au O<|ag<|Cs<|ak<|V0 (Yf rO O)<|V0 (Yd 0 O O O ah)<|ag<|Cb<|ak<|V0 (bY O O)<|au O<|ag ?_;refine Cc O (λbt=>?_)<|λbt=>?_
 ·have A:y.op=1:=by simpa using bt
  refine ak<|V0 (Yf pC O)<|V0 (Yd 0 O O O ah)<|au O<|ag<|bu<|aU<|Er ?_;refine R1 O O λD t=>?_;have B:bA (av l aO) (dE (av l aO) d) u y loc s.w = .ok y.n s.w:=by rw [qK,cU,aD A]
  exact bB ⟨(y.n,s),O,⟨B,J⟩,Wd 1 t⟩
 have L:¬y.op=1:=by simpa using bt
 refine ak<|V0 (bY O O)<|au O<|ag ?_;refine Cc O (λbv=>?_)<|λbv=>?_
 ·have A:y.op=2:=by simpa using bv
  refine Cs<|ak<|ab O<|V0 (bS O)<|V0 (Yf eo O)<|V0 (Yd 4 O O O ah)<|V0 (bS O)<|V0 (Yf Hp O)<|V0 (Yd 1 O O O ah) ?_;refine V0 (Yn e8 O)<|V0 (bY O O)<|ag ?_;refine Cc O (λbf=>?_)<|λbf=>?_
  ·have aL:s.w.bn=[]:=by simpa using bf
   refine ak<|au O<|ag<|bu<|Er<|aU<|Er ?_;refine R1 O O λD t=>?_;have B:bA (av l aO) (dE (av l aO) d) u y loc s.w = .ok 0 s.w:=by rw [qK,cU,aj L,aD A,aL]
   exact bB ⟨(0,s),O,⟨B,J⟩,Wd 1 t⟩
  obtain ⟨bw,r,aL⟩:∃x r,s.w.bn=x::r:=by cases h:s.w.bn with| nil=>rw [h] at bf;cases bf| cons x r=>exact ⟨x,r,rfl⟩
  obtain ⟨c2,c3,cD,cE⟩:=J.bn.ct 0 bw (by rw [aL];rfl);have c4:s.w.bn.length=r.length+1:=by rw [aL];rfl
  have cF:=J.bn.cap;refine ay<|ak<|ab O<|V0 (bS O)<|V0 (Yf eo O)<|V0 (Yd 4 O O O ah)<|V0 (bS O)<|V0 (Yf Hp O)<|V0 (Yd 1 O O O ah) ?_;refine V0 (Yo (i:=0) e8 O O cD (by omega))<|V0 (ew 0 ah O O<|cE 0 _ O)<|au O<|ag<|Cs ?_;refine CU (λ_=>ad) [] [14] (.q aq 0<|.q aq 1<|.q aq 2<|.q ad 3<|.q aq 4<|.q aq 5<|.q aq 6<|.q ad 7<|.q aq 8<|.q aq 9<|.q ad 10<|.q aq 11<|.q aq 12<|.q aq 13 .nil) mixed (by kernel_rfl) (λ_ _ _ d _ _ h=>by cases d<;>exact h)<|U0 O (λ_ h=>h) (Ym O)<|U0 O (λ_ h=>h) (bS O)<|U0 O (λ_ h=>h) (Yf eo O)<|U0 O (λ_ h=>h) (Yd 4 O O O ah)<|U0 O (λ_ h=>h) (Ym O)<|U0 O (λ_ h=>h) (bS O)<|U0 O (λ_ h=>h) (Yf eo O)<|U0 O (λ_ h=>h) (Yd 4 O O O ah) ?_;refine U0 O (λ_ h=>h) (bS O)<|U0 O (λ_ h=>h) (Yf Hp O)<|U0 O (λ_ h=>h) (Yd 1 O O O ah)<|U0 O (λ_ h=>h) (Ch 1 e8 O O O (by omega) cF)<|U0 O (λ_ h=>h) (bS O)<|U0 O (λ_ h=>h) (Yf Hp O) ?_;refine WU.nil (λ_ h=>h)<|WS.e O<|aw 1 Y O O O lX O O O<|Ln<|Es ?_;refine WS.nil<|Et<|ak<|ab O<|au O<|ag<|bu<|aU<|Er ?_;refine R1 O O λD t=>?_;have B:bA (av l aO) (dE (av l aO) d) u y loc s.w = .ok bw { s.w with bn:=r }:=by rw [qK,cU,aj L,aD A,aL]
  have cc:=J.bn.drop 1 (by omega);rw [show s.w.bn.drop 1=r by rw [aL];rfl] at cc;rw [show s.w.bn.length-1=r.length by omega] at t;exact bB ⟨(bw,⟨{ s.w with bn:=r },(_,s.i.2-1),s.o,s.d⟩),O,⟨B,⟨cc,J.out,J.tk,J.hr,J.cl⟩⟩,by have h:=t;have h:=h.bs 5 O;have h:=h.bs 5 O;have h:=h.bs 5 O;have h:=h.bs 5 O;have h:=h.bs 5 O;have h:=Wt 5 h;exact h⟩
 have S:¬y.op=2:=by simpa using bv
 refine ak<|V0 (bY O O)<|au O<|ag ?_;refine Cc O (λbx=>?_)<|λbx=>?_
 ·have A:y.op=16:=by simpa using bx
  refine Cs ?_;obtain ⟨c7,c9⟩:=bd.2.2.2 A;obtain ⟨aX,cd⟩:∃aX:Z,y.pl=aX:=⟨y.pl.toNat,by omega⟩;obtain ⟨bz,ce⟩:∃v,loc[aX]? = aa v:=⟨_,cy (by omega)⟩;refine WC.tf 5 O (by omega) λlb ch c' c_=>WC.o6 [(0,ad),(1,ad),(2,ad),(3,ad),(4,ad),(5,ad),(6,ad),(7,ad),(8,ad)] mixed (by kernel_rfl) (λ_ _ _ d _ h=>by cases d<;>exact h)<|D0 O (λ_ h=>h) (Ym O)<|D0 O (λ_ h=>h) (bS O)<|D0 O (λ_ h=>h) (Yf T8 O)<|D0 O (λ_ h=>h) (Yd 4 O O O ah)<|D0 O (λ_ h=>h) (Yf c5 O)<|D0 O (λ_ h=>h) (Yd 0 O O O ah) ?_;rw [cd];refine D0 O (λ_ h=>h) (Yo (i:=aX) e8 O O ch (by omega))<|D0 O (λ_ h=>h) (nU (y:=bz) 5 aX 0 O O ch O lr ce O ah)<|D0 O (λ_ h=>h) (Ya O) ?_;refine WD.nil (λ_ h=>h)<|Et<|bu<|aU<|Er ?_;refine R1 O O λD t=>?_;have B:bA (av l aO) (dE (av l aO) d) u y loc s.w = .ok bz s.w:=by rw [qK,cU,aj L,aj S,aD A,cd,ku,L4 ce]
  exact bB ⟨(bz,s),O,⟨B,J⟩,Wd 1 t⟩
 have V:¬y.op=16:=by simpa using bx
 refine ak<|V0 (bY O O)<|au O<|ag ?_;refine Cc O (λbC=>?_)<|λbC=>?_
 ·have A:y.op=3:=by simpa using bC
  refine Cs ?_;obtain ⟨bD,j,b,p,bE,aZ,bF,bG,cG,cH,bI⟩:=AF aB.ok aO P (bd.1 A) (by decide);have cI:=J.hr;obtain ⟨bJ,ci⟩:∃v,s.w.data[b+p]? = aa v:=⟨_,cy (by omega)⟩;refine Cr<|ab O<|V0 (Yf oT O)<|V0 (Yd 0 O O O ah)<|V0 (Yf c5 O)<|V0 (Yd 0 O O O ah)<|Lf 4 O<|Lf 4 O ?_;refine Lf 4 O<|Lf 4 O ?_;refine Lw [_,_,_,_] _ Y O bp O O _ _ _ [E] (by simp) (λw t=>Hn K N l aO C E s n H u x loc.length v z bD j b p y.m y.pl w J aB P bF bG (by omega) bE aZ t) λda cJ=>V0 (bS O)<|V0 (nU (y:=bJ) 2 (b+p) 0 O O cJ O lr ci O ah)<|au O<|ag<|bu<|aU<|Er ?_;refine R1 O O λD t=>?_;have bK:(av l aO).at_ u y.m y.pl=b+p:=by rw [aZ];exact bI 0
  have B:bA (av l aO) (dE (av l aO) d) u y loc s.w = .ok bJ s.w:=by rw [qK,cU,aj L,aj S,aj V,aD A,bK,L4 ci]
  exact bB ⟨(bJ,s),O,⟨B,J⟩,by have h:=t;have h:=h.bs 5 O;have h:=h.bs 4 O;have h:=h.bs 4 O;have h:=h.bs 4 O;have h:=h.bs 4 O;exact Wt 5 h⟩
 have ae:¬y.op=3:=by simpa using bC
 refine ak<|V0 (bY O O)<|au O<|ag ?_;refine Cc O (λbL=>?_)<|λbL=>?_
 ·have A:y.op=4:=by simpa using bL
  refine Cs ?_;have cK:=aW.1<|bB A;obtain ⟨f,G⟩:∃v,y.args[0]? = aa v:=⟨_,cy (by omega)⟩;obtain ⟨bg,bi,af,M⟩:=R.ct 0 f G;obtain ⟨k2,rfl⟩:∃k2,k=k2+1:=by cases k with| zero=>exact M.elim| succ k2=>exact ⟨k2,rfl⟩
  obtain ⟨fa,fc,ai,al⟩:=M;have Q:=hN k2 (by omega);have ap:=mM X G;obtain ⟨⟨db,dc⟩,cL⟩:=bd.2.1 A;obtain ⟨bD,j,b,p,bE,aZ,bF,bG,cG,cH,bI⟩:=AF aB.ok aO P cL (by omega);refine CU (λ_=>ad) [1,1,1,1,1] [] (.q aq 0<|.q aq 1<|.q ad 2<|.q aq 3<|.q ad 4<|.q aq 5<|.q aq 6<|.q ad 7<|.q aq 8<|.q ad 9<|.q aq 10<|.q ad 11<|.e 12 (.q aq 13<|.e 14 (.q aq 15<|.e 16 (.q aq 17 .nil) .stop) .stop) .stop) mixed (by kernel_rfl) (λ_ _ _ d _ _ h=>by cases d<;>exact h)<|U0 O (λ_ h=>by exact (Wo 1<|Wo 1<|Wo 1<|Wo 1<|Wo 1 h:)) (Ym O)<|U0 O (λ_ h=>by exact (Wo 1<|Wo 1<|Wo 1<|Wo 1<|Wo 1 h:)) (Yf oT O)<|U0 O (λ_ h=>by exact (Wo 1<|Wo 1<|Wo 1<|Wo 1<|Wo 1 h:)) (Yd 0 O O O ah)<|U0 O (λ_ h=>by exact (Wo 1<|Wo 1<|Wo 1<|Wo 1<|Wo 1 h:)) (Yf c5 O)<|U0 O (λ_ h=>by exact (Wo 1<|Wo 1<|Wo 1<|Wo 1<|Wo 1 h:)) (Yd 0 O O O ah)<|U0 O (λ_ h=>by exact (Wo 1<|Wo 1<|Wo 1<|Wo 1<|Wo 1 h:)) (Ym O)<|U0 O (λ_ h=>by exact (Wo 1<|Wo 1<|Wo 1<|Wo 1<|Wo 1 h:)) (Yf nJ O)<|U0 O (λ_ h=>by exact (Wo 1<|Wo 1<|Wo 1<|Wo 1<|Wo 1 h:)) (Yd 0 O O O ah) ?_;refine U0 O (λ_ h=>by exact (Wo 1<|Wo 1<|Wo 1<|Wo 1<|Wo 1 h:)) (Yo (i:=0) iP O O af (by omega))<|U0 O (λ_ h=>by exact (Wo 1<|Wo 1<|Wo 1<|Wo 1<|Wo 1 h:)) (eB 0 bZ O O O<|ai)<|U0 O (λ_ h=>by exact (Wo 1<|Wo 1<|Wo 1<|Wo 1<|Wo 1 h:)) (Yf pC O)<|U0 O (λ_ h=>by exact (Wo 1<|Wo 1<|Wo 1<|Wo 1<|Wo 1 h:)) (Yd 0 O O O ah) ?_;refine Ue O (λ_ h=>by exact (Wo 1<|Wo 1<|Wo 1<|Wo 1<|Wo 1 h:)) ?_ WU.stop;refine Lf 5 O<|Lf 5 O<|Lf 5 O<|Lf 5 O<|Lf 5 O ?_;refine bU [_,_,_,_,_] _ Y O bp O O _ _ _ _ _ _ [E] (by simp) (λw t=>T6 E n N l aO K C d H u z x loc v f y.n fa fc k2 _ s w J aB P Q al ap t) ?_ ?_
  ·intro W bj;refine Ep<|Ep<|WE.cp<|Ep ?_;refine b_ λD t=>?_;have B:bA (av l aO) (dE (av l aO) d) u y loc s.w=(p7 y.n (bA (av l aO) (dE (av l aO) d) u f) loc s.w).bind λi w=>.ok (ru w.data<|(av l aO).at_ u y.m<|y.pl+i) w:=by rw [qK,cU,aj L,aj S,aj V,aj ae,aD A,mg G]
   exact be ⟨W,O,B.trans<|kk bj,by have h:=t;have h:=Wt 3 h;exact h⟩
  intro W ⟨bj,bM⟩;have dd:0<=W.1/\W.1<y.n:=T7 bj;obtain ⟨ax,cj⟩:∃ax:Z,W.1=ax:=⟨W.1.toNat,by omega⟩;have cI:=bM.hr;obtain ⟨ck,cm⟩:∃v,W.2.w.data[b+(p+ax)]? = aa v:=⟨_,cy (by omega)⟩;refine Ln<|Eu<|U0 O (λ_ h=>by exact (Wo 1<|Wo 1<|Wo 1<|Wo 1<|Wo 1<|h.f 5 O:)) (o7 (a:=p) (b:=ax) O O aZ cj (by omega)) ?_;refine Ue O (λ_ h=>by exact (Wo 1<|Wo 1<|Wo 1<|Wo 1<|Wo 1<|h.f 5 O:)) ?_ WU.stop;refine Lw [_,_,_,_] _ Y O bp O O _ _ _ [E] (by simp) (λw t=>Hn K N l aO C E W.2 n H u x loc.length v z bD j b (p+ax) y.m _ w bM aB P bF bG (by omega) bE O t) λde cM=>Ln<|Eu<|U0 O (λ_ h=>by exact (Wo 1<|Wo 1<|Wo 1<|Wo 1<|Wo 1<|h.f 5 O:)) (bS O) ?_;refine Ue O (λ_ h=>by exact (Wo 1<|Wo 1<|Wo 1<|Wo 1<|Wo 1<|h.f 5 O:)) ?_ WU.stop;refine V0 (nU (y:=ck) 2 (b+(p+ax)) 0 O O cM O lr cm O ah)<|Ln<|Eu<|U0 O (λ_ h=>by exact (Wo 1<|Wo 1<|Wo 1<|Wo 1<|Wo 1<|h.f 5 O:)) (Ya O) ?_;refine WU.nil (λ_ h=>by exact (Wo 1<|Wo 1<|Wo 1<|Wo 1<|Wo 1<|h.f 5 O:))<|WS.nil<|Et<|bu<|aU<|Er ?_;refine R1 O O λD t=>?_;have bK:(av l aO).at_ u y.m (y.pl+W.1)=b+(p+ax):=by rw [aZ,cj];exact bI ax
  have B:bA (av l aO) (dE (av l aO) d) u y loc s.w=(p7 y.n (bA (av l aO) (dE (av l aO) d) u f) loc s.w).bind λi w=>.ok (ru w.data<|(av l aO).at_ u y.m<|y.pl+i) w:=by rw [qK,cU,aj L,aj S,aj V,aj ae,aD A,mg G]
  exact bB ⟨(ck,W.2),O,⟨(B.trans<|gX bj).trans (by rw [bK,L4 cm]),bM⟩,Wt 5 t⟩
 have aF:¬y.op=4:=by simpa using bL
 refine ak<|V0 (bY O O)<|au O<|ag ?_;refine Cc O (λbN=>?_)<|λbN=>?_
 ·have A:y.op=5:=by simpa using bN
  refine ak<|ab O<|V0 (Yf oT O)<|V0 (Yd 0 O O O ah)<|V0 (Yf c5 O)<|V0 (Yd 0 O O O ah)<|V0 (Yf nJ O)<|V0 (Yd 0 O O O ah) ?_;refine Lf 5 O<|Lf 5 O<|Lf 5 O<|Lf 5 O<|Lf 5 O ?_;refine bU [_,_,_,_,_] _ Y O bp O O _ _ _ _ _ _ [E] (by simp) (λw t=>T5 E n N l aO K C d H u z x loc v y.m y.pl y.args a c k _ s w J aB P hN hC (bd.2.2.1 A) R X t) ?_ ?_
  ·intro bO bP;refine Ep<|WE.cp<|Ep ?_;refine b_ λD t=>?_;have B:bA (av l aO) (dE (av l aO) d) u y loc s.w=qJ (av l aO) (dE (av l aO) d) u y.m y.pl (hx (av l aO) (dE (av l aO) d) u y.args) loc s.w:=by rw [qK,cU,aj L,aj S,aj V,aj ae,aj aF,aD A]
   exact be ⟨bO,O,B.trans bP,by have h:=t;have h:=Wt 3 h;exact h⟩
  intro bO ⟨bP,cN⟩;refine au O<|ag<|bu<|aU<|Er ?_;refine R1 O O λD t=>?_;have B:bA (av l aO) (dE (av l aO) d) u y loc s.w=qJ (av l aO) (dE (av l aO) d) u y.m y.pl (hx (av l aO) (dE (av l aO) d) u y.args) loc s.w:=by rw [qK,cU,aj L,aj S,aj V,aj ae,aj aF,aD A]
  exact bB ⟨bO,O,⟨B.trans bP,cN⟩,Wt 5 t⟩
 have a0:¬y.op=5:=by simpa using bN
 refine ak<|V0 (bY O O)<|au O<|ag ?_;refine Cc O (λbQ=>?_)<|λbQ=>?_
 ·have A:y.op=6:=by simpa using bQ
  refine Cs ?_;have cK:=aW.1<|be A;obtain ⟨f,G⟩:∃v,y.args[0]? = aa v:=⟨_,cy (by omega)⟩;obtain ⟨bg,bi,af,M⟩:=R.ct 0 f G;obtain ⟨k2,rfl⟩:∃k2,k=k2+1:=by cases k with| zero=>exact M.elim| succ k2=>exact ⟨k2,rfl⟩
  obtain ⟨fa,fc,ai,al⟩:=M;have Q:=hN k2 (by omega);have ap:=mM X G;refine Cr<|ab O<|V0 (Yf nJ O)<|V0 (Yd 0 O O O ah)<|V0 (Yo (i:=0) iP O O af (by omega))<|V0 (eB 0 bZ O O O<|ai)<|Lf 5 O<|Lf 5 O ?_;refine Lf 5 O<|Lf 5 O<|Lf 5 O ?_;refine bU [_,_,_,_,_] _ Y O bp O O _ _ _ _ _ _ [E] (by simp) (λw t=>Q H u z x loc v f fa fc _ s w J P al ap t) ?_ ?_
  ·intro bk bR;refine Ep<|WE.cp<|Ep ?_;refine b_ λD t=>?_;have B:bA (av l aO) (dE (av l aO) d) u y loc s.w=(bA (av l aO) (dE (av l aO) d) u f loc s.w).bind λv w=>.ok (mI<|v==0) w:=by rw [qK,cU,aj L,aj S,aj V,aj ae,aj aF,aj a0,aD A,mg G]
   exact be ⟨bk,O,B.trans<|kk bR,by have h:=t;have h:=Wt 3 h;exact h⟩
  intro bk ⟨bR,cP⟩;refine V0 (bY O O)<|Lp Y O bp O (λw t=>zE _ w)<|au O<|ag<|bu<|aU<|Er ?_;refine R1 O O λD t=>?_;have B:bA (av l aO) (dE (av l aO) d) u y loc s.w=(bA (av l aO) (dE (av l aO) d) u f loc s.w).bind λv w=>.ok (mI<|v==0) w:=by rw [qK,cU,aj L,aj S,aj V,aj ae,aj aF,aj a0,aD A,mg G]
  exact bB ⟨(mI<|bk.1==0,bk.2),O,⟨B.trans<|gX bR,cP⟩,Wt 5 t⟩
 have bT:¬y.op=6:=by simpa using bQ
 refine ak<|V0 (bY O O)<|au O<|ag ?_;refine Cc O (λbV=>?_)<|λbV=>?_
 ·have A:y.op=7:=by simpa using bV
  refine Cs ?_;have co:=aW.2.1 (by omega);obtain ⟨f,G⟩:∃v,y.args[0]? = aa v:=⟨_,cy (by omega)⟩;obtain ⟨bg,bi,af,M⟩:=R.ct 0 f G;obtain ⟨g,T⟩:∃v,y.args[1]? = aa v:=⟨_,cy (by omega)⟩;obtain ⟨cq,cr,a1,a2⟩:=R.ct 1 g T;obtain ⟨k2,rfl⟩:∃k2,k=k2+1:=by cases k with| zero=>exact M.elim| succ k2=>exact ⟨k2,rfl⟩
  obtain ⟨fa,fc,ai,al⟩:=M;have Q:=hN k2 (by omega);have ap:=mM X G;obtain ⟨a3,a4,a5,a7⟩:=a2;have a8:=mM X T;have B:bA (av l aO) (dE (av l aO) d) u y loc s.w=(bA (av l aO) (dE (av l aO) d) u f loc s.w).bind λv w=>if v=0 then .ok 0 w else (bA (av l aO) (dE (av l aO) d) u g loc w).bind λv w=>.ok (mI<|!(v==0)) w:=by rw [qK,cU,aj L,aj S,aj V,aj ae,aj aF,aj a0,aj bT,aD A,mg G,mg T]
  refine Cr<|ab O<|V0 (Yf nJ O)<|V0 (Yd 0 O O O ah)<|V0 (Yo (i:=0) iP O O af (by omega))<|V0 (eB 0 bZ O O O<|ai)<|Lf 5 O<|Lf 5 O ?_;refine Lf 5 O<|Lf 5 O<|Lf 5 O ?_;refine bU [_,_,_,_,_] _ Y O bp O O _ _ _ _ _ _ [E] (by simp) (λw t=>Q H u z x loc v f fa fc _ s w J P al ap t) ?_ ?_;·intro a9 a';refine Ep<|WE.cp<|Ep ?_;refine b_ λD t=>be ⟨a9,O,B.trans<|kk a',by have h:=t;have h:=Wt 3 h;exact h⟩
  intro a9 ⟨a',cs⟩;refine V0 (ha O O)<|ab O ?_;rcases I3 (a9.1 != 0) with aM | aM
  ·rw [aM];refine Vg (Ym O)<|Vg (Yf nJ O)<|Vg (Yd 5 O O O ah)<|Vg (Yo (i:=1) iP O O a1 (by omega))<|Vg (eB 0 bZ O O O<|a5) ?_;refine bU [_,_,_,_,_] _ (.g O O O) O bp O O _ _ _ _ _ _ [E] (by simp) (λw t=>Q H u z x loc v g a3 a4 _ a9.2 w cs P a7 a8 t) ?_ ?_;·intro bl bX;refine Ep<|WE.cp<|Ep ?_;refine b_ λD t=>be ⟨bl,O,(B.trans<|gX a').trans<|(aj (by simpa using aM)).trans<|kk bX,by have h:=t;have h:=Wt 3 h;exact h⟩
   intro bl ⟨bX,cQ⟩;refine Vg (ha O O)<|V0 (M1 O O)<|Lp Y O bp O (λw t=>zE _ w)<|au O<|ag<|bu<|aU<|Er ?_;refine R1 O O λD t=>bB ⟨(mI<|bl.1 != 0,bl.2),O,⟨(B.trans<|gX a').trans<|(aj (by simpa using aM)).trans<|gX bX,cQ⟩,Wt 5 t⟩
  rw [aM];refine WL.skip O O O O O<|WL.skip O O O O O<|WL.skip O O O O O<|WL.skip O O O O O<|WL.skip O O O O O<|WL.skip O O O O O<|WL.skip O O O O O<|V0 (M2 O O)<|Lp Y O bp O (λw t=>zE _ w)<|au O<|ag<|bu<|aU<|Er ?_;refine R1 O O λD t=>bB ⟨(0,a9.2),O,⟨(B.trans<|gX a').trans<|aD (by simpa using aM),cs⟩,Wt 5 t⟩
 have cu:¬y.op=7:=by simpa using bV
 refine ak<|V0 (bY O O)<|au O<|ag ?_;refine Cc O (λb1=>?_)<|λb1=>?_
 ·have A:y.op=8:=by simpa using b1
  refine Cs ?_;have co:=aW.2.1 (by omega);obtain ⟨f,G⟩:∃v,y.args[0]? = aa v:=⟨_,cy (by omega)⟩;obtain ⟨bg,bi,af,M⟩:=R.ct 0 f G;obtain ⟨g,T⟩:∃v,y.args[1]? = aa v:=⟨_,cy (by omega)⟩;obtain ⟨cq,cr,a1,a2⟩:=R.ct 1 g T;obtain ⟨k2,rfl⟩:∃k2,k=k2+1:=by cases k with| zero=>exact M.elim| succ k2=>exact ⟨k2,rfl⟩
  obtain ⟨fa,fc,ai,al⟩:=M;have Q:=hN k2 (by omega);have ap:=mM X G;obtain ⟨a3,a4,a5,a7⟩:=a2;have a8:=mM X T;have B:bA (av l aO) (dE (av l aO) d) u y loc s.w=(bA (av l aO) (dE (av l aO) d) u f loc s.w).bind λv w=>if v=0 then (bA (av l aO) (dE (av l aO) d) u g loc w).bind λv w=>.ok (mI<|!(v==0)) w else .ok 1 w:=by rw [qK,cU,aj L,aj S,aj V,aj ae,aj aF,aj a0,aj bT,aj cu,aD A,mg G,mg T]
  refine Cr<|ab O<|V0 (Yf nJ O)<|V0 (Yd 0 O O O ah)<|V0 (Yo (i:=0) iP O O af (by omega))<|V0 (eB 0 bZ O O O<|ai)<|Lf 5 O<|Lf 5 O ?_;refine Lf 5 O<|Lf 5 O<|Lf 5 O ?_;refine bU [_,_,_,_,_] _ Y O bp O O _ _ _ _ _ _ [E] (by simp) (λw t=>Q H u z x loc v f fa fc _ s w J P al ap t) ?_ ?_;·intro a_ ba;refine Ep<|WE.cp<|Ep ?_;refine b_ λD t=>be ⟨a_,O,B.trans<|kk ba,by have h:=t;have h:=Wt 3 h;exact h⟩
  intro a_ ⟨ba,cv⟩;refine V0 (ha O O)<|ab O ?_;rcases I3 (a_.1 != 0) with aN | aN;·rw [aN];refine WL.skip O O O O O<|WL.skip O O O O O<|WL.skip O O O O O<|WL.skip O O O O O<|WL.skip O O O O O<|WL.skip O O O O O<|WL.skip O O O O O<|V0 (M1 O O)<|Lp Y O bp O (λw t=>zE _ w)<|au O<|ag<|bu<|aU<|Er ?_;refine R1 O O λD t=>bB ⟨(1,a_.2),O,⟨(B.trans<|gX ba).trans<|aj (by simpa using aN),cv⟩,Wt 5 t⟩
  rw [aN];refine Vg (Ym O)<|Vg (Yf nJ O)<|Vg (Yd 5 O O O ah)<|Vg (Yo (i:=1) iP O O a1 (by omega))<|Vg (eB 0 bZ O O O<|a5) ?_;refine bU [_,_,_,_,_] _ (.g O O O) O bp O O _ _ _ _ _ _ [E] (by simp) (λw t=>Q H u z x loc v g a3 a4 _ a_.2 w cv P a7 a8 t) ?_ ?_;·intro bm b2;refine Ep<|WE.cp<|Ep ?_;refine b_ λD t=>be ⟨bm,O,(B.trans<|gX ba).trans<|(aD (by simpa using aN)).trans<|kk b2,by have h:=t;have h:=Wt 3 h;exact h⟩
  intro bm ⟨b2,cR⟩;refine Vg (ha O O)<|V0 (M2 O O)<|Lp Y O bp O (λw t=>zE _ w)<|au O<|ag<|bu<|aU<|Er ?_;refine R1 O O λD t=>bB ⟨(mI<|bm.1 != 0,bm.2),O,⟨(B.trans<|gX ba).trans<|(aD (by simpa using aN)).trans<|gX b2,cR⟩,Wt 5 t⟩
 have cS:¬y.op=8:=by simpa using b1
 refine Ck<|Eb<|Et<|Cs ?_;have df:9<=y.op:=by omega
 have co:=aW.2.1 (by omega);obtain ⟨f,G⟩:∃v,y.args[0]? = aa v:=⟨_,cy (by omega)⟩;obtain ⟨bg,bi,af,M⟩:=R.ct 0 f G;obtain ⟨g,T⟩:∃v,y.args[1]? = aa v:=⟨_,cy (by omega)⟩;obtain ⟨cq,cr,a1,a2⟩:=R.ct 1 g T;obtain ⟨k2,rfl⟩:∃k2,k=k2+1:=by cases k with| zero=>exact M.elim| succ k2=>exact ⟨k2,rfl⟩
 obtain ⟨fa,fc,ai,al⟩:=M;have Q:=hN k2 (by omega);have ap:=mM X G;obtain ⟨a3,a4,a5,a7⟩:=a2;have a8:=mM X T;have B:bA (av l aO) (dE (av l aO) d) u y loc s.w=(bA (av l aO) (dE (av l aO) d) u f loc s.w).bind λa w=>(bA (av l aO) (dE (av l aO) d) u g loc w).bind λb w=>m_ y.op a b w:=by rw [qK,cU,aj L,aj S,aj V,aj ae,aj aF,aj a0,aj bT,aj cu,aj cS,mg G,mg T]
 refine Cr<|ab O<|V0 (Yf nJ O)<|V0 (Yd 0 O O O ah)<|V0 (Yo (i:=0) iP O O af (by omega))<|V0 (eB 0 bZ O O O<|ai)<|Lf 5 O<|Lf 5 O ?_;refine Lf 5 O<|Lf 5 O<|Lf 5 O ?_;refine bU [_,_,_,_,_] _ Y O bp O O _ _ _ _ _ _ [E] (by simp) (λw t=>Q H u z x loc v f fa fc _ s w J P al ap t) ?_ ?_;·intro U bo;refine Ep<|b_ λD t=>be ⟨U,O,B.trans<|kk bo,by have h:=t;have h:=Wt 3 h;exact h⟩
 intro U ⟨bo,cT⟩;refine au O<|ag<|ak<|ab O<|V0 (Yf nJ O)<|V0 (Yd 5 O O O ah)<|V0 (Yo (i:=1) iP O O a1 (by omega))<|V0 (eB 0 bZ O O O<|a5) ?_;refine bU [_,_,_,_,_] _ Y O bp O O _ _ _ _ _ _ [E] (by simp) (λw t=>Q H u z x loc v g a3 a4 _ U.2 w cT P a7 a8 t) ?_ ?_;·intro F b3;refine Ep<|b_ λD t=>be ⟨F,O,B.trans<|(gX bo).trans<|kk b3,by have h:=t;have h:=Wt 3 h;exact h⟩
 intro F ⟨b3,aG⟩;refine au O<|ag<|Cs<|Cs ?_;have az:bA (av l aO) (dE (av l aO) d) u y loc s.w=m_ y.op U.1 F.1 F.2.w:=B.trans<|(gX bo).trans<|gX b3;refine Cr<|V0 (Yf rO O)<|V0 (Yd 5 O O O ah)<|ag<|Cb<|ak<|V0 (bY O O)<|au O<|ag ?_;refine Cc O (λb4=>?_)<|λb4=>?_
 ·have A:y.op=9:=by simpa using b4
  refine ak<|ab O<|ab O<|V0 (ud O O)<|au O<|ag<|bu<|aU<|Er ?_;refine R1 O O λD t=>bB ⟨(an.wrap<|U.1+F.1,F.2),O,⟨az.trans (by rw [m_,aD A]),aG⟩,Wt 5 t⟩
 have aH:¬y.op=9:=by simpa using b4
 refine ak<|V0 (bY O O)<|au O<|ag ?_;refine Cc O (λb5=>?_)<|λb5=>?_
 ·have A:y.op=10:=by simpa using b5
  refine ak<|ab O<|ab O<|V0 (EP O O)<|au O<|ag<|bu<|aU<|Er ?_;refine R1 O O λD t=>bB ⟨(an.wrap<|U.1-F.1,F.2),O,⟨az.trans (by rw [m_,aj aH,aD A]),aG⟩,Wt 5 t⟩
 have aQ:¬y.op=10:=by simpa using b5
 refine ak<|V0 (bY O O)<|au O<|ag ?_;refine Cc O (λb6=>?_)<|λb6=>?_
 ·have A:y.op=11:=by simpa using b6
  refine ak<|ab O<|ab O<|V0 (M3 O O)<|au O<|ag<|bu<|aU<|Er ?_;refine R1 O O λD t=>bB ⟨(an.wrap<|U.1*F.1,F.2),O,⟨az.trans (by rw [m_,aj aH,aj aQ,aD A]),aG⟩,Wt 5 t⟩
 have bb:¬y.op=11:=by simpa using b6
 refine ak<|V0 (bY O O)<|au O<|ag ?_;refine Cc O (λb7=>?_)<|λb7=>?_
 ·have A:y.op=14:=by simpa using b7
  refine ak<|ab O<|ab O<|V0 (bY O O)<|Lp Y O bp O (λw t=>zE _ w)<|au O<|ag<|bu<|aU<|Er ?_;refine R1 O O λD t=>bB ⟨(mI<|U.1==F.1,F.2),O,⟨az.trans (by rw [m_,aj aH,aj aQ,aj bb,aD A]),aG⟩,Wt 5 t⟩
 have bq:¬y.op=14:=by simpa using b7
 refine ak<|V0 (bY O O)<|au O<|ag ?_;refine Cc O (λb9=>?_)<|λb9=>?_
 ·have A:y.op=15:=by simpa using b9
  refine ak<|ab O<|ab O<|V0 (c8 O O)<|Lp Y O bp O (λw t=>zE _ w)<|au O<|ag<|bu<|aU<|Er ?_;refine R1 O O λD t=>bB ⟨(mI<|decide<|U.1<F.1,F.2),O,⟨az.trans (by rw [m_,aj aH,aj aQ,aj bb,aj bq,aD A]),aG⟩,Wt 5 t⟩
 have b':¬y.op=15:=by simpa using b9
 refine Ck<|Eb<|Et<|ak<|ab O<|V0 (bY O O) ?_;refine bU (ι:=ef) (κ:=ef) [] _ Y O bp O O (λ_=>cO #[]) (λ_=>[]) (λ_=>(F.1==0)=aq) (λ_=>oI 182 1) (λ_=>[]) (λ_=>(F.1==0)=ad) [] (by simp) (λw t=>(D8 _ 1 w).mono λe D h=>by
  rcases h with ⟨_,aK,aT,aV⟩ | ⟨_,aK,aT,aV⟩;·exact bB ⟨(),aK,aT,t.ext aV⟩
  ·exact be ⟨(),aK,aT,t.ext aV⟩) ?_ ?_;·intro _ ca;refine Ep<|b_ λD t=>be ⟨(1,F.2),O,az.trans (by rw [m_,aj aH,aj aQ,aj bb,aj bq,aj b',aD (by simpa using ca)]),by have h:=t;have h:=Wt 3 h;exact h⟩
 intro _ ca;refine ag<|Cs<|Cs ?_;have br:¬F.1=0:=by simpa using ca
 refine Cr<|V0 (Yf rO O)<|V0 (Yd 5 O O O ah)<|V0 (bY O O)<|ag ?_;refine Cc O (λcb=>?_)<|λcb=>?_
 ·have A:y.op=12:=by simpa using cb
  refine ak<|ab O<|ab O<|V0 (Ng O O br)<|au O<|ag<|bu<|Er ?_;refine R1 O O λD t=>bB ⟨(an.wrap<|U.1.tdiv F.1,F.2),O,⟨az.trans (by rw [m_,aj aH,aj aQ,aj bb,aj bq,aj b',aj br,aD A]),aG⟩,Wt 5 t⟩
 have cV:¬y.op=12:=by simpa using cb
 refine ay<|ak<|ab O<|ab O<|V0 (Nh O O br)<|au O<|ag<|bu ?_;refine R1 O O λD t=>bB ⟨(U.1.tmod F.1,F.2),O,⟨az.trans (by rw [m_,aj aH,aj aQ,aj bb,aj bq,aj b',aj br,aj cV]),aG⟩,Wt 5 t⟩
def T9 (f:View) (n:Z) (g:KW) (l:I aI) (aO b C d:Z) (k1 k:Z):Prop:=∀(h u:Z) (z:aI) (x:SP) (loc:I ac) (v:ac) (body:I et) (a:aA a6) (c j:Z) (s:fW) (w:aP),kC f (av l aO) (d' l) C s->l[u]? = aa z->Sl (jK k1 k) 7 f a c body->g8 (ec z::fV l z) loc.length body j=ad->Ws w (c6 bh.ids<|(eO 180 3 b g (av l aO) s)++(g9 281 3 h b u x loc v)) ((eO 180 3 b g (av l aO) s)++(g9 281 3 h b u x loc v)) [f] w-> cx aC 164 #[b8 (aa ⟨h,0,ao⟩),aE a body.length c] w λe i=>(∃r:aS×fW×I ac×ac,e = cf (bW r.1)/\(hP (av l aO) (dE (av l aO) d) u body (⟨loc,v,s.w⟩:Fm) = .ok r.1 ⟨r.2.2.1,r.2.2.2,r.2.1.w⟩/\kC f (av l aO) (d' l) C r.2.1/\r.2.2.1.length=loc.length)/\Ws w (c6 bh.ids<|(eO 180 3 b g (av l aO) s)++(g9 281 3 h b u x loc v)) ((eO 180 3 b g (av l aO) r.2.1)++(g9 281 3 h b u x r.2.2.1 r.2.2.2)) [f] i)\/(∃r:ac×fW,e = .panicked (oI 182 r.1)/\hP (av l aO) (dE (av l aO) d) u body (⟨loc,v,s.w⟩:Fm) = .ov r.1 r.2.w/\Ws w (c6 bh.ids<|(eO 180 3 b g (av l aO) s)++(g9 281 3 h b u x loc v)) (eO 180 3 b g (av l aO) r.2) [f] i)
def aeA (b:View) (n:Z) (e:KW) (l:I aI) (aO f C d:Z) (g:iU b n e l aO) (hC:zF b n e l aO f C d) (k:Z):Ho b n e l aO f C d k:=λh u z x loc v y a c i s w j m o p q=>aez b n e l aO f C d h u z x loc v y a c k i s w j g m hC o p q
variable {kO:Env} {BH:Fm->Rz Fm ac} {CY:Fm->Rz Fm aS} {xb gi:Fm}
def aeB (a:BH xb = .ok az gi) (hv:az=0):nb kO BH CY (bE+1) xb = .ok aq gi:=by unfold nb;rw [gX a];exact aD hv
def aeC (a:BH xb = .ov az p9):nb kO BH CY (bE+1) xb = .ov az p9:=by unfold nb;rw [kk a]
def T' {f a:Fm}  (b:BH f = .ok az a) (hv:¬az=0):nb kO BH CY (bE+1) f=(Rz.fr a<|mJ kO a.w).bind λ_ f=>(CY f).bind λt f=>if t=ad then .ok ad f else nb kO BH CY bE f:=by rw [nb,gX b];exact aj hv
def aeD {x:ef} (h:mJ kO p9 = .ok x xg):xg.a0=p9.a0+1:=by
 unfold mJ at h;split at h;·cases h
 ·simp only [Rz.ok.injEq] at h;rw [<-h.2]
def aeE {t:aS} (h:hP kO (dE kO bE) aL gK xb = .ok t gi):xb.w.a0<=gi.w.a0:=by have a:=CO (P:=kO) (F0 bE) aL gK xb;rw [h] at a;exact a.1.a0
def aeF (h:bA kO (dE kO bE) aL ft gO p9 = .ok az xg):p9.a0<=xg.a0:=by have a:=Pd (P:=kO) (F0 bE) aL ft gO p9;rw [h] at a;exact a.a0
variable {tw:Cl}
def L5 (f:Fm) (h:gK[aL]? = aa rQ):hP kO tw bE (gK.drop aL) f=(nc kO tw bE rQ f).bind λt f=>if t=ad then .ok ad f else hP kO tw bE (gK.drop<|aL+1) f:=by obtain ⟨a,b⟩:=cN.1 h;rw [qr a,b,hP]
def aeG (f:Fm) (h:gK.length<=aL):hP kO tw bE (gK.drop aL) f = .ok aq f:=by rw [k0 h,hP]
def T_:aT aC 281 3=aa 3:=ah
def aeH (B:View) (n:Z) (H:KW) (l:I aI) (aO A C d:Z) (G u:Z) (z:aI) (x:SP) (loc:I ac) (v:ac) (y:et) (r:w4) (k1 k cc:Z) (s:fW) (w:aP) (af:kC B (av l aO) (d' l) C s) (X:iU B n H l aO) (N:l[u]? = aa z) (hC:zF B n H l aO A C d) (bl:T9 B n H l aO A C d k1 k) (W:Sl (cC k1) 5 B r.s1.1 r.s1.2 y.args) (aH:Sl (jK k1 k) 7 B r.s2.1 r.s2.2 y.body) (aT:Sl (jK k1 k) 7 B r.s3.1 r.s3.2 y.other) (cd:lR (ec z::fV l z) loc.length y cc=ad) (c:Ws w (c6 bh.ids<|(eO 180 3 A H (av l aO) s)++(g9 281 3 G A u x loc v)) ((eO 180 3 A H (av l aO) s)++(g9 281 3 G A u x loc v)) [B] w) :
   cx aC 236 #[b8 (aa ⟨G,0,ao⟩),b0 (rq y r).toArray] w λe E=>(∃r:aS×fW×I ac×ac,e = cf (bW r.1)/\(nc (av l aO) (dE (av l aO) d) u y (⟨loc,v,s.w⟩:Fm) = .ok r.1 ⟨r.2.2.1,r.2.2.2,r.2.1.w⟩/\kC B (av l aO) (d' l) C r.2.1/\r.2.2.1.length=loc.length)/\Ws w (c6 bh.ids<|(eO 180 3 A H (av l aO) s)++(g9 281 3 G A u x loc v)) ((eO 180 3 A H (av l aO) r.2.1)++(g9 281 3 G A u x r.2.2.1 r.2.2.2)) [B] E)\/(∃r:ac×fW,e = .panicked (oI 182 r.1)/\nc (av l aO) (dE (av l aO) d) u y (⟨loc,v,s.w⟩:Fm) = .ov r.1 r.2.w/\Ws w (c6 bh.ids<|(eO 180 3 A H (av l aO) s)++(g9 281 3 G A u x loc v)) (eO 180 3 A H (av l aO) r.2) [B] E):=by
 have cX:=yS X.ok;have cZ:=af.hr;have hN:=aeA B n H l aO A C d X hC;have c0:=W.cap;have c1:=W.max;obtain ⟨ae,ai,b2,ce⟩:=F5 cd;have az:=O3 ae;have a_:=F2 ae;have c2:=az.2.2;refine enter func236 O 157 O O<|CE c<|ak ?_;refine WL.box Y O O λch=>au O<|ag<|Cs<|Cs<|hk 0 (aY (rq y r).toArray 51 (0,0)) O O<|Cr<|V0 (Yf DR O)<|V0 (Yd 0 O O O ah)<|ag<|Cb<|ak<|V0 (bY O O) ?_;refine au O<|ag ?_;refine Cc O (λbm=>?_)<|λbm=>?_
 ·have L:y.op=1:=by simpa using bm
  refine Cs ?_;have ba:=az.1 (by omega);obtain ⟨f,K⟩:∃v,y.args[0]? = aa v:=⟨_,cy (by omega)⟩;obtain ⟨aV,aW,R,M⟩:=W.ct 0 f K;obtain ⟨k2,rfl⟩:∃k2,k1=k2+1:=by cases k1 with| zero=>exact M.elim| succ k2=>exact ⟨k2,rfl⟩
  obtain ⟨fa,fc,S,T⟩:=M;have Q:=hN k2;have U:=mM ai K;have D:nc (av l aO) (dE (av l aO) d) u y (⟨loc,v,s.w⟩:Fm)=(Rz.fr (⟨loc,v,s.w⟩:Fm)<|bA (av l aO) (dE (av l aO) d) u f loc s.w).bind λv q=>if y.m<0 then .ok aq { q with loc:=q.loc.set y.pl.toNat v } else .ok aq { q with w:={ q.w with data:=q.w.data.set ((av l aO).at_ u y.m y.pl) v } }:=by rw [yN,qL,aD L,mg K]
  refine Cr<|ab O<|V0 (Yf nK O)<|V0 (Yd 0 O O O ah)<|V0 (Yo (i:=0) iP O O R (by omega))<|V0 (eB 0 bZ O O O<|S)<|Lf 5 O<|Lf 5 O ?_;refine Lf 5 O<|Lf 5 O<|Lf 5 O ?_;refine bU [_,_,_,_,_] _ Y O bp O O _ _ _ _ _ _ [B] (by simp) (λw c=>Q G u z x loc v f fa fc _ s w af N T U c) ?_ ?_;·intro F bb;refine Ep<|WE.cp<|Ep ?_;refine b_ λE c=>be ⟨F,O,D.trans<|kk<|tx bb,by have h:=c;have h:=Wt 3 h;exact h⟩
  intro F ⟨bb,al⟩;refine au O<|ag<|ak<|V0 (Yf oU O)<|V0 (Yd 5 O O O ah)<|V0 (c8 O O)<|ag ?_;refine Cc O (λbo=>?_)<|λbo=>?_
  ·have aX:y.m<0:=by simpa using bo
   obtain ⟨c3,c4⟩:=(a_.1 L).1 aX;obtain ⟨aB,b3⟩:∃aB:Z,y.pl=aB:=⟨y.pl.toNat,by omega⟩;obtain ⟨ci,cj⟩:∃v,loc[aB]? = aa v:=⟨_,cy (by omega)⟩;refine WC.tf 4 O (by omega) λlb b4 c5 c7=>CU (λ_=>ad) [] [8] (.q aq 0<|.q aq 1<|.q aq 2<|.q ad 3<|.q aq 4<|.q ad 5<|.q aq 6<|.q aq 7 .nil) mixed (by kernel_rfl) (λ_ _ _ d _ _ h=>by cases d<;>exact h)<|U0 O (λ_ h=>h) (Ym O)<|U0 O (λ_ h=>h) (bS O)<|U0 O (λ_ h=>h) (Yf T8 O)<|U0 O (λ_ h=>h) (Yd 3 O O O ah)<|U0 O (λ_ h=>h) (Yf pD O)<|U0 O (λ_ h=>h) (Yd 5 O O O ah) ?_;rw [b3];refine U0 O (λ_ h=>h) (Ym O)<|U0 O (λ_ h=>h) (Yo (i:=aB) e8 O O b4 (by omega)) ?_;refine WU.nil (λ_ h=>h)<|WS.e O<|WL.storeT (y:=ci) 4 aB 0 F.1 Y O O O b4 O lr cj eE O O (by decide) O<|Ln<|Es ?_;refine WS.nil<|Eb<|Et<|ak<|au O<|ag<|bu ?_;refine R1 O O λE c=>?_;have aZ:=(by have h:=c;have h:=Wt 5 h;exact h);have aZ:=aZ.pS 3 rfl (show aQ G (xh 281 A u x loc.length v)=aQ G (xh 281 A u x (loc.set aB F.1).length v) by simp);exact bB ⟨(aq,F.2,loc.set aB F.1,v),O,⟨D.trans<|(gX<|ne bb).trans<|(aD aX).trans (by rw [b3,ku]),al,by simp⟩,aZ⟩
  have aX:¬y.m<0:=by simpa using bo
  obtain ⟨bq,j,b,p,br,a1,bt,bv,ck,cm,bw⟩:=AF X.ok aO N ((a_.1 L).2 aX) (by decide);have co:=al.hr;obtain ⟨cq,cr⟩:∃v,F.2.w.data[b+p]? = aa v:=⟨_,cy (by omega)⟩;refine Cr<|ab O<|V0 (Yf oU O)<|V0 (Yd 5 O O O ah)<|V0 (Yf pD O)<|V0 (Yd 5 O O O ah) ?_;refine Lw [_,_,_,_] _ Y O bp O O _ _ _ [B] (by simp) (λw c=>Hn A H l aO C B F.2 n G u x loc.length v z bq j b p y.m y.pl w al X N bt bv (by omega) br a1 c) λc9 cs=>ab O<|V0 (bS O) ?_;refine WL.storeT (y:=cq) 2 (b+p) 0 F.1 Y O O O cs O lr cr eE O O (by decide) O<|Ln<|Eb<|Et<|ak<|au O<|ag<|bu ?_;refine R1 O O λE c=>?_;have c:Ws w (c6 bh.ids<|(eO 180 3 A H (av l aO) s)++(g9 281 3 G A u x loc v)) ((eO 180 3 A H (av l aO) (⟨{ F.2.w with data:=F.2.w.data.set (b+p) F.1 },F.2.i,F.2.o,F.2.d⟩:fW))++(g9 281 3 G A u x loc v)) [B] E:=by have h:=(by have h:=c;have h:=Wt 5 h;exact h);exact h.pS 0 O (show aQ A (n4 180 H (av l aO) F.2)=aQ A (n4 180 H (av l aO) (⟨{ F.2.w with data:=F.2.w.data.set (b+p) F.1 },F.2.i,F.2.o,F.2.d⟩:fW)) by simp [n4])
  have bx:(av l aO).at_ u y.m y.pl=b+p:=by rw [a1];exact bw 0
  exact bB ⟨(aq,⟨{ F.2.w with data:=F.2.w.data.set (b+p) F.1 },F.2.i,F.2.o,F.2.d⟩,loc,v),O,⟨D.trans<|(gX<|ne bb).trans<|(aj aX).trans (by rw [bx]),⟨al.bn,al.out,al.tk,by show (I.set _ _ _).length=_;rw [zW];exact al.hr,al.cl⟩,O⟩,c⟩
 have ae:¬y.op=1:=by simpa using bm
 refine ak<|V0 (bY O O)<|au O<|ag ?_;refine Cc O (λbz=>?_)<|λbz=>?_
 ·have L:y.op=2:=by simpa using bz
  refine Cs ?_;have bc:=az.2.1 L;obtain ⟨f,K⟩:∃v,y.args[0]? = aa v:=⟨_,cy (by omega)⟩;obtain ⟨aV,aW,R,M⟩:=W.ct 0 f K;obtain ⟨g,bC⟩:∃v,y.args[1]? = aa v:=⟨_,cy (by omega)⟩;obtain ⟨c',c_,cu,cv⟩:=W.ct 1 g bC;obtain ⟨k2,rfl⟩:∃k2,k1=k2+1:=by cases k1 with| zero=>exact M.elim| succ k2=>exact ⟨k2,rfl⟩
  obtain ⟨fa,fc,S,T⟩:=M;have Q:=hN k2;have U:=mM ai K;obtain ⟨cw,cz,cA,cB⟩:=cv;have cD:=mM ai bC;obtain ⟨⟨da,db⟩,cE⟩:=a_.2.1 L;obtain ⟨bq,j,b,p,br,a1,bt,bv,ck,cm,bw⟩:=AF X.ok aO N cE (by omega);have D:nc (av l aO) (dE (av l aO) d) u y (⟨loc,v,s.w⟩:Fm)=(Rz.fr (⟨loc,v,s.w⟩:Fm)<|p7 y.n (bA (av l aO) (dE (av l aO) d) u f) loc s.w).bind λi q=>(Rz.fr q<|bA (av l aO) (dE (av l aO) d) u g q.loc q.w).bind λv q=>.ok aq { q with w:={ q.w with data:=q.w.data.set ((av l aO).at_ u y.m<|y.pl+i) v } }:=by rw [yN,qL,aj ae,aD L,mg K,mg bC]
  refine CU (λ_=>ad) [1,1,1,1,1] [] (.q aq 0<|.q aq 1<|.q ad 2<|.q aq 3<|.q ad 4<|.q aq 5<|.q ad 6<|.e 7 (.q aq 8 .nil) .stop) mixed (by kernel_rfl) (λ_ _ _ d _ _ h=>by cases d<;>exact h)<|U0 O (λ_ h=>by exact (Wo 1<|Wo 1<|Wo 1<|Wo 1<|Wo 1 h:)) (Ym O)<|U0 O (λ_ h=>by exact (Wo 1<|Wo 1<|Wo 1<|Wo 1<|Wo 1 h:)) (Yf nK O)<|U0 O (λ_ h=>by exact (Wo 1<|Wo 1<|Wo 1<|Wo 1<|Wo 1 h:)) (Yd 0 O O O ah)<|U0 O (λ_ h=>by exact (Wo 1<|Wo 1<|Wo 1<|Wo 1<|Wo 1 h:)) (Yo (i:=0) iP O O R (by omega))<|U0 O (λ_ h=>by exact (Wo 1<|Wo 1<|Wo 1<|Wo 1<|Wo 1 h:)) (eB 0 bZ O O O<|S)<|U0 O (λ_ h=>by exact (Wo 1<|Wo 1<|Wo 1<|Wo 1<|Wo 1 h:)) (Yf xJ O)<|U0 O (λ_ h=>by exact (Wo 1<|Wo 1<|Wo 1<|Wo 1<|Wo 1 h:)) (Yd 0 O O O ah) ?_;refine Ue O (λ_ h=>by exact (Wo 1<|Wo 1<|Wo 1<|Wo 1<|Wo 1 h:)) ?_ WU.stop;refine Lf 5 O<|Lf 5 O<|Lf 5 O<|Lf 5 O<|Lf 5 O ?_;refine bU [_,_,_,_,_] _ Y O bp O O _ _ _ _ _ _ [B] (by simp) (λw c=>T6 B n H l aO A C d G u z x loc v f y.n fa fc k2 _ s w af X N Q T U c) ?_ ?_;·intro ap a2;refine Ep<|Ep<|WE.cp<|Ep ?_;refine b_ λE c=>be ⟨ap,O,D.trans<|kk<|tx a2,by have h:=c;have h:=Wt 3 h;exact h⟩
  intro ap ⟨a2,cF⟩;refine Ln<|Eu<|U0 O (λ_ h=>by exact (Wo 1<|Wo 1<|Wo 1<|Wo 1<|Wo 1<|h.f 5 O:)) (Ya O) ?_;refine WU.nil (λ_ h=>by exact (Wo 1<|Wo 1<|Wo 1<|Wo 1<|Wo 1<|h.f 5 O:))<|WS.nil<|Et<|ak<|ab O<|V0 (Yf nK O)<|V0 (Yd 5 O O O ah)<|V0 (Yo (i:=1) iP O O cu (by omega))<|V0 (eB 0 bZ O O O<|cA) ?_;refine bU [_,_,_,_,_] _ Y O bp O O _ _ _ _ _ _ [B] (by simp) (λw c=>Q G u z x loc v g cw cz _ ap.2 w cF N cB cD c) ?_ ?_;·intro J bD;refine Ep<|WE.cp<|Ep ?_;refine b_ λE c=>be ⟨J,O,D.trans<|(gX<|ne a2).trans<|kk<|tx bD,by have h:=c;have h:=Wt 3 h;exact h⟩
  intro J ⟨bD,aF⟩;refine au O<|ag ?_;have dc:0<=ap.1/\ap.1<y.n:=T7 a2;obtain ⟨V,b5⟩:∃V:Z,ap.1=V:=⟨ap.1.toNat,by omega⟩;have co:=aF.hr;obtain ⟨cG,cH⟩:∃v,J.2.w.data[b+(p+V)]? = aa v:=⟨_,cy (by omega)⟩;refine Cr<|ab O<|V0 (Yf oU O)<|V0 (Yd 5 O O O ah)<|V0 (Yf pD O)<|V0 (Yd 5 O O O ah)<|ab O<|V0 (o7 (a:=p) (b:=V) O O a1 b5 (by omega)) ?_;refine Lw [_,_,_,_] _ Y O bp O O _ _ _ [B] (by simp) (λw c=>Hn A H l aO C B J.2 n G u x loc.length v z bq j b (p+V) y.m _ w aF X N bt bv (by omega) br O c) λdd cI=>ab O<|V0 (bS O) ?_;refine WL.storeT (y:=cG) 2 (b+(p+V)) 0 J.1 Y O O O cI O lr cH eE O O (by decide) O<|Ln<|Eb<|Et<|ak<|au O<|ag<|bu ?_;refine R1 O O λE c=>?_;have c:Ws w (c6 bh.ids<|(eO 180 3 A H (av l aO) s)++(g9 281 3 G A u x loc v)) ((eO 180 3 A H (av l aO) (⟨{ J.2.w with data:=J.2.w.data.set (b+(p+V)) J.1 },J.2.i,J.2.o,J.2.d⟩:fW))++(g9 281 3 G A u x loc v)) [B] E:=by have h:=(by have h:=c;have h:=Wt 5 h;exact h);exact h.pS 0 O (show aQ A (n4 180 H (av l aO) J.2)=aQ A (n4 180 H (av l aO) (⟨{ J.2.w with data:=J.2.w.data.set (b+(p+V)) J.1 },J.2.i,J.2.o,J.2.d⟩:fW)) by simp [n4])
  have bx:(av l aO).at_ u y.m (y.pl+ap.1)=b+(p+V):=by rw [a1,b5];exact bw V
  exact bB ⟨(aq,⟨{ J.2.w with data:=J.2.w.data.set (b+(p+V)) J.1 },J.2.i,J.2.o,J.2.d⟩,loc,v),O,⟨D.trans<|(gX<|ne a2).trans<|(gX<|ne bD).trans (by rw [bx]),⟨aF.bn,aF.out,aF.tk,by show (I.set _ _ _).length=_;rw [zW];exact aF.hr,aF.cl⟩,O⟩,c⟩
 have a3:¬y.op=2:=by simpa using bz
 refine ak<|V0 (bY O O)<|au O<|ag ?_;refine Cc O (λbE=>?_)<|λbE=>?_
 ·have L:y.op=3:=by simpa using bE
  have D:nc (av l aO) (dE (av l aO) d) u y (⟨loc,v,s.w⟩:Fm)=(Rz.fr (⟨loc,v,s.w⟩:Fm)<|qJ (av l aO) (dE (av l aO) d) u y.m y.pl (hx (av l aO) (dE (av l aO) d) u y.args) loc s.w).bind λ_ q=>.ok aq q:=by rw [yN,qL,aj ae,aj a3,aD L]
  refine Cr<|ab O<|V0 (Yf oU O)<|V0 (Yd 0 O O O ah)<|V0 (Yf pD O)<|V0 (Yd 0 O O O ah)<|V0 (Yf nK O)<|V0 (Yd 0 O O O ah) ?_;refine Lf 5 O<|Lf 5 O<|Lf 5 O<|Lf 5 O<|Lf 5 O ?_;refine bU [_,_,_,_,_] _ Y O bp O O _ _ _ _ _ _ [B] (by simp) (λw c=>T5 B n H l aO A C d G u z x loc v y.m y.pl y.args r.s1.1 r.s1.2 k1 _ s w af X N (λk2 _=>hN k2) hC (a_.2.2 L) W ai c) ?_ ?_;·intro bF bG;refine WE.cp<|Ep ?_;refine b_ λE c=>be ⟨bF,O,D.trans<|kk<|tx bG,by have h:=c;have h:=Wt 3 h;exact h⟩
  intro bF ⟨bG,cJ⟩;refine Ln<|Eb<|Et<|ak<|au O<|ag<|bu ?_;refine R1 O O λE c=>bB ⟨(aq,bF.2,loc,v),O,⟨D.trans<|gX<|ne bG,cJ,O⟩,Wt 5 c⟩
 have bd:¬y.op=3:=by simpa using bE
 refine ak<|V0 (bY O O)<|au O<|ag ?_;refine Cc O (λbI=>?_)<|λbI=>?_
 ·have L:y.op=4:=by simpa using bI
  refine Cs<|Cs ?_;have ba:=az.1 (by omega);obtain ⟨f,K⟩:∃v,y.args[0]? = aa v:=⟨_,cy (by omega)⟩;obtain ⟨aV,aW,R,M⟩:=W.ct 0 f K;obtain ⟨k2,rfl⟩:∃k2,k1=k2+1:=by cases k1 with| zero=>exact M.elim| succ k2=>exact ⟨k2,rfl⟩
  obtain ⟨fa,fc,S,T⟩:=M;have Q:=hN k2;have U:=mM ai K;have D:nc (av l aO) (dE (av l aO) d) u y (⟨loc,v,s.w⟩:Fm)=(Rz.fr (⟨loc,v,s.w⟩:Fm)<|bA (av l aO) (dE (av l aO) d) u f loc s.w).bind λv q=>if v=0 then hP (av l aO) (dE (av l aO) d) u y.other q else hP (av l aO) (dE (av l aO) d) u y.body q:=by rw [yN,qL,aj ae,aj a3,aj bd,aD L,mg K]
  refine Cr<|ab O<|V0 (Yf nK O)<|V0 (Yd 0 O O O ah)<|V0 (Yo (i:=0) iP O O R (by omega))<|V0 (eB 0 bZ O O O<|S)<|Lf 5 O<|Lf 5 O ?_;refine Lf 5 O<|Lf 5 O<|Lf 5 O ?_;refine bU [_,_,_,_,_] _ Y O bp O O _ _ _ _ _ _ [B] (by simp) (λw c=>Q G u z x loc v f fa fc _ s w af N T U c) ?_ ?_;·intro aK aL;refine Ep<|Ep<|WE.cp<|Ep ?_;refine b_ λE c=>be ⟨aK,O,D.trans<|kk<|tx aL,by have h:=c;have h:=Wt 3 h;exact h⟩
  intro aK ⟨aL,b6⟩;refine V0 (ha O O)<|ag ?_;refine Cc O (λbJ=>?_)<|λbJ=>?_
  ·have a4:¬aK.1=0:=by simpa using bJ
   refine ak<|ab O<|V0 (Yf zx O)<|V0 (Yd 5 O O O ah) ?_;refine bU [_,_,_,_,_] _ Y O bp O O _ _ _ _ _ _ [B] (by simp) (λw c=>bl G u z x loc v y.body r.s2.1 r.s2.2 _ aK.2 w b6 N aH (b2 (by omega)) c) ?_ ?_;·intro bK bL;refine Ep<|Ep<|WE.cp<|Ep ?_;refine b_ λE c=>be ⟨bK,O,D.trans<|(gX<|ne aL).trans<|(aj a4).trans bL,by have h:=c;have h:=Wt 3 h;exact h⟩
   intro bK ⟨bL,cK,cL⟩;refine au O<|ag<|bu<|Er<|aU<|Er ?_;refine R1 O O λE c=>bB ⟨bK,O,⟨D.trans<|(gX<|ne aL).trans<|(aj a4).trans bL,cK,cL⟩,Wt 5 c⟩
  have a4:aK.1=0:=by simpa using bJ
  refine ay<|ak<|ab O<|V0 (Yf xK O)<|V0 (Yd 5 O O O ah) ?_;refine bU [_,_,_,_,_] _ Y O bp O O _ _ _ _ _ _ [B] (by simp) (λw c=>bl G u z x loc v y.other r.s3.1 r.s3.2 _ aK.2 w b6 N aT ce c) ?_ ?_;·intro bM bN;refine Ep<|WE.cp<|Ep ?_;refine b_ λE c=>be ⟨bM,O,D.trans<|(gX<|ne aL).trans<|(aD a4).trans bN,by have h:=c;have h:=Wt 3 h;exact h⟩
  intro bM ⟨bN,cM,cN⟩;refine au O<|ag<|bu<|aU<|Er ?_;refine R1 O O λE c=>bB ⟨bM,O,⟨D.trans<|(gX<|ne aL).trans<|(aD a4).trans bN,cM,cN⟩,Wt 5 c⟩
 have bO:¬y.op=4:=by simpa using bI
 refine ak<|V0 (bY O O)<|au O<|ag ?_;refine Cc O (λbP=>?_)<|λbP=>?_
 ·have L:y.op=5:=by simpa using bP
  have ba:=az.1 (by omega);obtain ⟨f,K⟩:∃v,y.args[0]? = aa v:=⟨_,cy (by omega)⟩;obtain ⟨aV,aW,R,M⟩:=W.ct 0 f K;obtain ⟨k2,rfl⟩:∃k2,k1=k2+1:=by cases k1 with| zero=>exact M.elim| succ k2=>exact ⟨k2,rfl⟩
  obtain ⟨fa,fc,S,T⟩:=M;have Q:=hN k2;have U:=mM ai K;have D:nc (av l aO) (dE (av l aO) d) u y (⟨loc,v,s.w⟩:Fm)=nb (av l aO) (λq=>Rz.fr q<|bA (av l aO) (dE (av l aO) d) u f q.loc q.w) (λq=>hP (av l aO) (dE (av l aO) d) u y.body q) ((av l aO).aO+1) (⟨loc,v,s.w⟩:Fm):=by rw [yN,qL,aj ae,aj a3,aj bd,aj bO,aD L,mg K]
  refine Cb<|f_ (ι:=fW×(I ac×ac)×Z) (λt=>[]) [(0,_),(3,_)] (λt=>Ws w (c6 bh.ids<|(eO 180 3 A H (av l aO) s)++(g9 281 3 G A u x loc v)) ((eO 180 3 A H (av l aO) t.1)++(g9 281 3 G A u x t.2.1.1 t.2.1.2)++[aQ ch<|aY (rq y r).toArray 51 (0,0)]) [B]) (λt=>kC B (av l aO) (d' l) C t.1/\t.2.1.1.length=loc.length/\aO+1<=t.2.2+t.1.w.a0/\nb (av l aO) (λq=>Rz.fr q<|bA (av l aO) (dE (av l aO) d) u f q.loc q.w) (λq=>hP (av l aO) (dE (av l aO) d) u y.body q) (aO+1) (⟨loc,v,s.w⟩:Fm)=nb (av l aO) (λq=>Rz.fr q<|bA (av l aO) (dE (av l aO) d) u f q.loc q.w) (λq=>hP (av l aO) (dE (av l aO) d) u y.body q) t.2.2 (⟨t.2.1.1,t.2.1.2,t.1.w⟩:Fm)) (λt=>t.2.2) (s,(loc,v),aO+1) ⟨af,O,Ey _ _,O⟩ (λ_ h=>by exact (((((h.f 5 O).f 5 O).f 5 O).f 5 O).f 5 O:)) λt ⟨b7,a5,de,a7⟩=>Cs<|Cs ?_;obtain ⟨a8,cP⟩:∃a8,t.2.2=a8+1:=⟨t.2.2-1,by have aZ:t.1.w.a0<=aO:=b7.tk;omega⟩;rw [cP] at a7;refine Cr<|ab O<|V0 (Yf nK O)<|V0 (Yd 5 O O O ah)<|V0 (Yo (i:=0) iP O O R (by omega))<|V0 (eB 0 bZ O O O<|S) ?_;refine bU (ι:=_) (κ:=_) [_,_,_,_,_] _ Y O bp O O _ _ _ _ _ _ [B] (by simp) (λw c=>Q G u z x t.2.1.1 t.2.1.2 f fa fc _ t.1 w b7 N T (by rw [a5];exact U) c) ?_ ?_;·intro aG aM;refine Ep<|Ep<|Ep<|WE.cp<|WE.cp<|Ep ?_;refine b_ λE c=>be ⟨aG,O,D.trans<|a7.trans<|aeC<|tx aM,by have h:=c;have h:=Wt 3 h;exact h⟩
  intro aG ⟨aM,b9⟩;refine V0 (ha O O)<|ag ?_;refine Cc O (λbQ=>?_)<|λbQ=>?_
  ·have bf:¬aG.1=0:=by simpa using bQ
   have bc:=a7.trans<|T' (ne aM) bf;refine ay<|Cb<|ak<|ab O<|V0 (bS O)<|V0 (Yf eo O)<|V0 (Yd 3 O O O ah) ?_;refine bU [_,_,_] _ Y O bp O O _ _ _ _ _ _ [B] (by simp) (λw c=>T3 A H l aO C B aG.2 w b9 X.aO c) ?_ ?_;·intro bg aN;refine Ep<|WE.cp<|Ep<|WE.cp<|WE.cp<|Ep ?_;refine b_ λE c=>be ⟨bg,O,D.trans<|bc.trans<|kk<|tx aN,by have h:=c;have h:=Wt 3 h;exact h⟩
   intro bg ⟨aN,cQ⟩;refine ag<|ak<|ab O<|V0 (Yf zx O)<|V0 (Yd 5 O O O ah) ?_;refine bU (ι:=_) (κ:=_) [_,_,_,_,_] _ Y O bp O O _ _ _ _ _ _ [B] (by simp) (λw c=>bl G u z x t.2.1.1 t.2.1.2 y.body r.s2.1 r.s2.2 _ bg.2 w cQ N aH (by rw [a5];exact b2 (by omega)) c) ?_ ?_;·intro ax a9;refine Ep<|WE.cp<|Ep<|WE.cp<|WE.cp<|Ep ?_;refine b_ λE c=>be ⟨ax,O,D.trans<|bc.trans<|(gX<|ne aN).trans<|kk a9,by have h:=c;have h:=Wt 3 h;exact h⟩
   intro ax ⟨a9,b',ca⟩;refine ag<|Cc O (λbR=>?_)<|λbR=>?_;·refine ak<|au O<|ag<|bu<|aU<|Er<|aU<|aU<|Er ?_;refine R1 O O λE c=>?_;have cR:ax.1=ad:=bR;exact bB ⟨(ad,ax.2),O,⟨D.trans<|bc.trans<|(gX<|ne aN).trans<|(gX a9).trans<|aD cR,b',ca.trans a5⟩,Wt 5 c⟩
   refine Ck<|Eb ?_;exact ep ((ax.2.1,ax.2.2,a8):fW×(I ac×ac)×Z) (by show a8<_;omega) ⟨b',ca.trans a5,by have aZ:=aeD aN;have df:t.1.w.a0<=aG.2.w.a0:=aeF aM;have dg:bg.2.w.a0<=ax.2.1.w.a0:=aeE a9;show aO+1<=a8+ax.2.1.w.a0;omega,a7.trans<|(T' (ne aM) bf).trans<|(gX<|ne aN).trans<|(gX a9).trans<|aj (by rw [bR];simp)⟩<|λ_ h=>h
  have bf:aG.1=0:=by simpa using bQ
  refine Ce<|Ex<|Ex<|ee<|Eb<|Et<|ak<|au O<|ag<|bu ?_;refine R1 O O λE c=>bB ⟨(aq,aG.2,t.2.1.1,t.2.1.2),O,⟨D.trans<|a7.trans<|aeB (ne aM) bf,b9,a5⟩,Wt 5 c⟩
 have cb:¬y.op=5:=by simpa using bP
 refine ak<|V0 (bY O O)<|au O<|ag ?_;refine Cc O (λbT=>?_)<|λbT=>?_
 ·have L:y.op=6:=by simpa using bT
  refine Cs ?_;have ba:=az.1 (by omega);obtain ⟨f,K⟩:∃v,y.args[0]? = aa v:=⟨_,cy (by omega)⟩;obtain ⟨aV,aW,R,M⟩:=W.ct 0 f K;obtain ⟨k2,rfl⟩:∃k2,k1=k2+1:=by cases k1 with| zero=>exact M.elim| succ k2=>exact ⟨k2,rfl⟩
  obtain ⟨fa,fc,S,T⟩:=M;have Q:=hN k2;have U:=mM ai K;have D:nc (av l aO) (dE (av l aO) d) u y (⟨loc,v,s.w⟩:Fm)=(Rz.fr (⟨loc,v,s.w⟩:Fm)<|bA (av l aO) (dE (av l aO) d) u f loc s.w).bind λv q=>.ok ad { q with val:=v }:=by rw [yN,qL,aj ae,aj a3,aj bd,aj bO,aj cb,aD L,mg K]
  refine Cr<|ab O<|ab O<|V0 (Yf nK O)<|V0 (Yd 0 O O O ah)<|V0 (Yo (i:=0) iP O O R (by omega))<|V0 (eB 0 bZ O O O<|S)<|Lf 5 O ?_;refine Lf 5 O<|Lf 5 O<|Lf 5 O<|Lf 5 O ?_;refine bU [_,_,_,_,_] _ Y O bp O O _ _ _ _ _ _ [B] (by simp) (λw c=>Q G u z x loc v f fa fc _ s w af N T U c) ?_ ?_;·intro bi bV;refine Ep<|WE.cp<|Ep ?_;refine b_ λE c=>be ⟨bi,O,D.trans<|kk<|tx bV,by have h:=c;have h:=Wt 3 h;exact h⟩
  intro bi ⟨bV,cS⟩;refine V0 (bS O)<|V0 (Yf T_ O)<|aw 3 Y O O O eE O O O<|ag<|ak<|au O<|ag<|bu<|aU<|Er ?_;refine R1 O O λE c=>bB ⟨(ad,bi.2,loc,bi.1),O,⟨D.trans<|gX<|ne bV,cS,O⟩,Wt 5 c⟩
 have cT:¬y.op=6:=by simpa using bT
 refine ak<|V0 (bY O O)<|au O<|ag ?_;refine Cc O (λbX=>?_)<|λbX=>?_
 ·have L:y.op=7:=by simpa using bX
  refine Cs ?_;have ba:=az.1 (by omega);obtain ⟨f,K⟩:∃v,y.args[0]? = aa v:=⟨_,cy (by omega)⟩;obtain ⟨aV,aW,R,M⟩:=W.ct 0 f K;obtain ⟨k2,rfl⟩:∃k2,k1=k2+1:=by cases k1 with| zero=>exact M.elim| succ k2=>exact ⟨k2,rfl⟩
  obtain ⟨fa,fc,S,T⟩:=M;have Q:=hN k2;have U:=mM ai K;have D:nc (av l aO) (dE (av l aO) d) u y (⟨loc,v,s.w⟩:Fm)=(Rz.fr (⟨loc,v,s.w⟩:Fm)<|bA (av l aO) (dE (av l aO) d) u f loc s.w).bind λv q=>(Rz.fr q<|CG v q.w).bind λ_ q=>.ok aq q:=by rw [yN,qL,aj ae,aj a3,aj bd,aj bO,aj cb,aj cT,aD L,mg K]
  refine Cr<|ab O<|V0 (Yf nK O)<|V0 (Yd 0 O O O ah)<|V0 (Yo (i:=0) iP O O R (by omega))<|V0 (eB 0 bZ O O O<|S)<|Lf 5 O<|Lf 5 O ?_;refine Lf 5 O<|Lf 5 O<|Lf 5 O ?_;refine bU [_,_,_,_,_] _ Y O bp O O _ _ _ _ _ _ [B] (by simp) (λw c=>Q G u z x loc v f fa fc _ s w af N T U c) ?_ ?_;·intro P bj;refine Ep<|WE.cp<|Ep ?_;refine b_ λE c=>be ⟨P,O,D.trans<|kk<|tx bj,by have h:=c;have h:=Wt 3 h;exact h⟩
  intro P ⟨bj,a'⟩;refine au O<|ag<|ak<|ab O<|V0 (bS O)<|V0 (Yf eo O)<|V0 (Yd 3 O O O ah)<|V0 (bS O)<|V0 (Yf tY O) ?_;refine V0 (Yf v3 O)<|V0 (Yd 0 O O O ah)<|V0 (Yn e8 O)<|V0 (bY O O) ?_;refine bU (ι:=ef) (κ:=ef) [] _ Y O bp O O (λ_=>cO #[]) (λ_=>[]) (λ_=>(((P.2.w.out.length:Z):ac)==200)=aq) (λ_=>oI 182 5) (λ_=>[]) (λ_=>(((P.2.w.out.length:Z):ac)==200)=ad) [] (by simp) (λw c=>(D8 _ 5 w).mono λe E h=>by
   rcases h with ⟨_,b1,aH,aT⟩ | ⟨_,b1,aH,aT⟩;·exact bB ⟨(),b1,aH,c.ext aT⟩
   ·exact be ⟨(),b1,aH,c.ext aT⟩) ?_ ?_;·intro _ bk;refine Ep<|WE.cp<|Ep ?_;refine b_ λE c=>be ⟨(5,P.2),O,D.trans<|(gX<|ne bj).trans<|kk<|tx<|aD (show P.2.w.out.length=200 from by have h:=bk;simp at h;omega),by have h:=c;have h:=Wt 3 h;exact h⟩
  intro _ bk;refine ag ?_;have cU:¬P.2.w.out.length=200:=by intro h;rw [h] at bk;simp at bk
  have dh:=a'.out;refine CU (λ_=>ad) [1] [18] (.q aq 0<|.q aq 1<|.q aq 2<|.q ad 3<|.q aq 4<|.q aq 5<|.q aq 6<|.q ad 7<|.q aq 8<|.q aq 9<|.q aq 10<|.q ad 11<|.q aq 12<|.e 13 (.e 14 (.q aq 15<|.q aq 16<|.q aq 17 .nil) .stop) .stop) mixed (by kernel_rfl) (λ_ _ _ d _ _ h=>by cases d<;>exact h)<|U0 O (Wp 1) (Ym O)<|U0 O (Wp 1) (bS O)<|U0 O (Wp 1) (Yf eo O)<|U0 O (Wp 1) (Yd 2 O O O ah)<|U0 O (Wp 1) (Ym O)<|U0 O (Wp 1) (bS O)<|U0 O (Wp 1) (Yf eo O)<|U0 O (Wp 1) (Yd 2 O O O ah) ?_;refine U0 O (Wp 1) (bS O)<|U0 O (Wp 1) (Yf tY O)<|U0 O (Wp 1) (Yf v3 O)<|U0 O (Wp 1) (Yd 0 O O O ah)<|U0 O (Wp 1) (Ym O) ?_;refine Ue O (Wp 1) ?_ WU.stop;refine Lb Y O gn O O O O λdj=>Ln<|Eu ?_;refine Ue O (λ_ h=>(Wo 1<|Wd 1 h:)) ?_ WU.stop;refine LA (P.1) 2 0 Y O gn O O O O O O (by omega) (by omega) λcV cW=>Ln<|Eu<|U0 O (λ_ h=>(Wo 1<|Wd 1 h:)) (bS O)<|U0 O (λ_ h=>(Wo 1<|Wd 1 h:)) (Yf tY O)<|U0 O (λ_ h=>(Wo 1<|Wd 1 h:)) (Yf v3 O) ?_;refine WU.nil (λ_ h=>(Wo 1<|Wd 1 h:))<|WS.e O<|aw 1 Y O O O lX O O O<|Ln<|Es ?_;refine WS.nil<|Eb<|Et<|ak<|au O<|ag<|bu ?_;refine R1 O O λE c=>bB ⟨(aq,⟨{ P.2.w with out:=P.2.w.out++[P.1] },P.2.i,(cV,cW),P.2.d⟩,loc,v),O,⟨D.trans<|(gX<|ne bj).trans<|gX<|ne<|aj cU,⟨a'.bn,by show (_++[_]).length<=200;rw [iy,zP];omega,a'.tk,a'.hr,a'.cl⟩,O⟩,by have h:=c;have h:=h.bs 5 O;have h:=h.bs 5 O;have h:=h.bs 5 O;have h:=h.bs 5 O;have h:=h.bs 5 O;exact Wt 5 h⟩
 exfalso;have dk:¬y.op=7:=by simpa using bX
 omega
end Go.Proofs.YtgeahfjicmlocaaGreatDoor
end
