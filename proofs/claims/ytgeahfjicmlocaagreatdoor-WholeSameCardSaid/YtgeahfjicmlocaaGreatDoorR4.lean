/- WholeSame: Exec tells what Mean tells: the same numbers, the same end, the same data, as many ticks; and what is executed is never Broken, nor out of steps. -/
import Derived.Ground.Names2Prog
import Derived.Ground.SlgnProg
import Derived.Lib.AtoiErrMem
import Derived.Shelf.LaysC
import Derived.Shelf.LaysM
import Derived.Shelf.Slices.Clone
import Derived.Shelf.Slices.Turned
import Derived.Shelf.SlicesE.Clone
import Derived.Shelf.Small.Bits
import Derived.Shelf.Small.Strs
import Derived.Shelf.Strconv.Atoi
import Derived.Shelf.Strconv.AtoiAll
import Derived.Shelf.Strconv.AtoiErrFast
import Derived.Shelf.Strconv.AtoiFail
import Derived.Shelf.Strconv.AtoiInnerAll
import Derived.Shelf.Strconv.AtoiLong
import Derived.Shelf.Strconv.Clone
import Derived.Shelf.Strconv.Itoa0
import Derived.Shelf.Strconv.Itoa1
import Derived.Shelf.Strconv.Itoa2
import Derived.Shelf.Strconv.Itoa3
import Derived.Shelf.Strconv.Lower
import Derived.Shelf.Strconv.ParseInt10
import Derived.Shelf.Strconv.ParseIntEmpty
import Derived.Shelf.Strconv.ParseUint10
import Derived.Shelf.Strconv.ParseUint10Any
import Derived.Shelf.Strconv.ParseUint10Empty
import Derived.Shelf.Strconv.ParseUint10b16
import Derived.Shelf.Strconv.ParseUint10b32
import Derived.Shelf.Strconv.ParseUint10b64
import Derived.Shelf.Strconv.ParseUint10b8
import Derived.Shelf.Strconv.ParseUintEmpty
import Derived.Shelf.Strconv.RangeError
import Derived.Shelf.Strconv.SyntaxError
import Derived.Shelf.Strconv.ToError
import Derived.Shelf.Strconv.ToErrorRange
import Derived.Shelf.Strings.Builder1
import Derived.Shelf.Strings.Search1
import Derived.Test.YtgeahfjicmlocaaGreatDoorProg
import Derived.Test.YtgeahfjicmlocaaGreatDoorRows
import Derived.Test.YtgeahfjicmlocaaGreatDoorR3
set_option linter.unusedVariables false
set_option linter.unusedSimpArgs false
set_option linter.defProp false
open _root_ renaming List->I,Nat->Z,Int->ac,Option->aA,Bool->aS,UInt8->ar,Array->bH,String->fO
open Option renaming some->aa,none->ao
open Bool renaming true->ad,false->aq
open Go.Value renaming int->am,slice->aE,bool->bW,agg->b0,pointer->b8,tuple->cO
open Go.IntKind renaming i64->an
open Go.Proofs.Tryz renaming prog->aC
open Go renaming World->aP,Value->aR,Addr->a6,TypeId->cn,Calls->cx,Oper->cg,Act->cY,Exit->di,Program->dJ,Operand->ei,Deferred->fw,Edge->fY,PanicEntry->oZ
open Go.Obj renaming cells->aY
open Or renaming inr->be,inl->bB
open Go.Ending renaming returned->cf
open List renaming flatMap->c6,range->lf,length->m0
open Nat renaming blt->e',strongRecOn->om
open Go.Lib renaming itoa->lg
open Int renaming reduceEq->oo
section
namespace Go.Bw
open Go
def TW (l:I Tx):Tk:=l.map dO
def Dh:TW []=[]:=rfl
def kq (a b:I Tx):TW (a++b)=TW a++TW b:=qs
def ZH (x:Tx) (b:I Tx):TW (x::b)=dO x::TW b:=rfl
variable {bR dK:Tx} {bb:Tk}
def Q0 (h:gG dK=ad):bG bR (dO dK::bb)=if (dK==bR)=ad then aa bb else ao:=by rw [Dd h];rfl
variable {hb:ar}
def u0 (h:hb ∈ vF):bG bR (dO [hb]::bb)=if ([hb]==bR)=ad then aa bb else ao:=by rw [Gv hb h];rfl
variable {az:ac}
def ZI (a:0<=az) (b:az<=1099511627775) (c:bR≠[]):bG bR (dO (lg az)::bb)=ao:=by rw [p6 a b];simp only [bG];rw [aj];intro h;simp only [j8] at h;exact c h.symm
def sE (h:gN bR=ad):ie (dO bR::bb)=aa (bR,bb):=by rw [Dd<|nF h];simp [ie,oO,h]
def Q1 (a:0<=az) (b:az<=1099511627775):oP (dO (lg az)::bb)=aa (az,bb):=by rw [p6 a b];simp [oP,oO]
def ZJ (h:gN bR=ad) (a:dK ∈ ti):(bR==dK)=aq:=by rw [vr];intro e;simp only [j8] at e;subst e;simp only [gN,eI,BZ,I.contains_eq_mem,mC] at h;exact h.2 a
def ZK (h:gG bR=ad) (a:pV (hb.toNat:ac)=aq):(bR==[hb])=aq:=by rw [vr];intro e;simp only [j8] at e;subst e;simp only [gG,eI] at h;have:=h.1.2;simp at this;rw [this] at a;cases a
def Q2 (h:gN bR=ad) (a:dK ∈ ti):bG dK (dO bR::bb)=ao:=by rw [Q0<|nF h,ZJ h a];rfl
def KC (h:gN bR=ad) (a:pV (hb.toNat:ac)=aq):bG [hb] (dO bR::bb)=ao:=by rw [Q0<|nF h,ZK (nF h) a];rfl
structure Stop (q:Tk):Prop where
 dot:bG [46] q=ao
 br:bG [91] q=ao
 pa:bG [40] q=ao
def Q3 (h:hb ∈ vF) (a:hb≠46) (b:hb≠91) (c:hb≠40):Stop<|dO [hb]::bb:= ⟨by rw [u0 h,aj (by simpa using a)],by rw [u0 h,aj (by simpa using b)],by rw [u0 h,aj (by simpa using c)]⟩
def Q4 (h:cJ ad bR dK=aq) (c:bG [46] bb=ao):mS (TW (lA bR dK)++bb)=aa ((bR,dK),bb):=by
 obtain ⟨d,b⟩:=Kt h;unfold lA;split;·rename_i a;simp only [j8] at a;subst a;show mS (dO dK::bb)=_;unfold mS;rw [sE b];simp only [cH];rw [c]
 ·rename_i a;have e:gN bR=ad:=d.resolve_left (by simpa using a);show mS (dO bR::dO [46]::dO dK::bb)=_;unfold mS;rw [sE e];simp only [cH];rw [u0 a8];simp only [MX,dD];rw [sE b];rfl
def KD (h:cJ ad bR dK=aq):∃w r,lA bR dK=w::r/\gN w=ad:=by
 obtain ⟨a,b⟩:=Kt h;unfold lA;split;·exact ⟨dK,[],O,b⟩
 ·rename_i c;exact ⟨bR,_,O,a.resolve_left (by simpa using c)⟩
def sF {mod nm s:Tx} {q:Tk} (h:cJ ad mod nm=aq) (a:s ∈ ti\/∃u,s=[u]/\pV (u.toNat:ac)=aq):bG s (TW (lA mod nm)++q)=ao:=by
 obtain ⟨w,r,e,b⟩:=KD h;rw [e];rcases a with a | ⟨u,rfl,c⟩;·exact Q2 b a
 ·exact KC b c
variable {bE:Z}
def BR (h:cJ ad bR dK=aq) (f:bG [46] bb=ao):bl (bE+1) (TW (lA bR dK)++bb)=pv (bl bE) bR dK bb:=by
 have a:=Q4 h f;have b:=sF (s:=xx) (q:=bb) h<|bB a8;have c:=sF (s:=[33]) (q:=bb) h<|be ⟨33,rfl,a8⟩;have d:=sF (s:=[40]) (q:=bb) h<|be ⟨40,rfl,a8⟩;obtain ⟨w,r,e,g⟩:=KD h;rw [e] at a b c d ⊢;rw [ZH,ix] at a b c d ⊢;have i:(dO w).kind=1:=by rw [Dd<|nF g]
 unfold bl;simp only [];rw [aj ai];unfold nk;rw [b,c,d];simp only [];rw [a];rfl
def Q5 (a:(dO bR).kind≠2):bl (bE+1) (dO bR::bb)=nk (bl bE) (dO bR::bb):=by rw [bl,aj a]
def Q6 (h:hb ∈ vF):(dO [hb]).kind≠2:=by rw [Gv hb h];show (3:ac)≠2;decide
def KF (u:ar):aS:=vF.contains u&&(!(u==46)&&(!(u==91)&&!(u==40)))
def wd (u:ar) (q:Tk) (h:KF u=ad):Stop<|TW [[u]]++q:=by simp [KF] at h;exact Q3 h.1 h.2.1 h.2.2.1 h.2.2.2
def KG (u:ar) (q:Tk) (h:KF u=ad):Stop<|dO [u]::q:=wd u q h
variable {gM:Tk->aA (cF×Tk)}
def ZM:nk gM (dO [33]::bb)=(gM bb).map λx=>(cF.mk 6 0 [] [] [x.1],x.2):=by unfold nk;rw [u0 a8,u0 a8];rfl
def ZN:nk gM (dO [40]::bb)=oQ gM bb:=by unfold nk;rw [u0 a8,u0 a8,u0 a8];rfl
def ZO:∀(j:Z),j<9->qi opsL 0 (dO ((opsL[j]?).getD [])::bb)=aa (j,bb)| 0,_=>rfl| 1,_=>rfl| 2,_=>rfl| 3,_=>rfl| 4,_=>rfl| 5,_=>rfl| 6,_=>rfl| 7,_=>rfl| 8,_=>rfl| n+9,h=>absurd h ai
def ZP (op:ac)  (h:7<=op/\op<=15):Stop<|dO (y7 op)::bb:=by have:op=7\/op=8\/op=9\/op=10\/op=11\/op=12\/op=13\/op=14\/op=15:=ai;rcases this with rfl | rfl | rfl | rfl | rfl | rfl | rfl | rfl | rfl<;>exact Q3 a8 a8 a8 a8
def Q7 (h:cJ (fL az 3 5) bR dK=aq):(3<=az/\az<=5->cJ ad bR dK=aq)/\(¬(3<=az/\az<=5)->bR=[]/\dK=[]):=by
 refine ⟨λa=>?_,λa=>?_⟩;·rw [show fL az 3 5=ad by simp [fL];omega] at h;exact h
 ·rw [show fL az 3 5=aq by rw [vr];simp [fL];omega] at h;exact QL h
def ZQ {op n:ac} (h:lN op n=aq) (a:op≠1):n=0:=by simp [lN,a] at h;exact h
def ZR {l:I<|I Tx}:l.length<=(jO l).length\/∃x ∈ l,x=[]:=by
 induction l with
 | nil=>exact bB<|dw _
 | cons x r a=>
  by_cases b:x=[];·exact be ⟨x,aK,b⟩
  have c:1<=x.length:=by cases x;exact absurd rfl b;simp
  rcases a with a | ⟨y,d,e⟩;·cases r with| nil=>left;simpa [jO] using c| cons y r=>left;simp only [jO,iy,gj] at a ⊢;omega
  ·exact be ⟨y,m1 _ d,e⟩
def ZS (l:I cF):l.length<=(jO<|gx l).length:=by
 rcases ZR (l:=gx l) with h | ⟨x,a,e⟩;·rwa [QF] at h
 ·exact absurd e<|QH l x a
def Q8:∀(x:cF) (d:Z) (q:Tk),(cM x d).aM=0->bG [41] (TW (iE x)++q)=ao
 | .mk op n mod nm args,d,q,h=>by
  have c:=Da h;have l:=c.kind;obtain ⟨i,m⟩:=Q7 c.name;unfold iE qU;by_cases f:op=1;·subst f;obtain ⟨a,b⟩:=Ku c.num;exact ZI a b aK
  rw [aj f];by_cases g:op=2;·rw [aD g];rfl
  rw [aj g];by_cases j:op<=5
  ·have k:=i ⟨ai,j⟩;have e:∀q,bG [41] (TW (lA mod nm)++q)=ao:=λq=>sF k<|be ⟨41,rfl,a8⟩;split;·exact e _
   ·split;·rw [g2,g2,kq,g2];exact e _
    ·rw [aD ai,kq,g2];exact e _
  ·rw [aj ai,aj ai,aj ai];split<;>rfl
mutual
def ZT:∀(x:cF) (d:Z),(cM x d).aM=0->∀(f:Z),f+d=7->∀(q:Tk),Stop q->bl f (TW (iE x)++q)=aa (x,q)
 | .mk op n mod nm args,d,h,f,B,q,k=>by
  have c:=Da h;have w:=c.kind;have C:=c.deep;obtain ⟨f,rfl⟩:∃g,f=g+1:=⟨f-1,ai⟩;obtain ⟨l,m⟩:=Q7 c.name;have e:=KH args (d+1) c.sub f ai;have z:=QU op n mod nm args;rw [z];unfold qU;by_cases o:op=1
  ·subst o;obtain ⟨a,b⟩:=Ku c.num;obtain ⟨rfl,rfl⟩:=m ai;have i:args=[]:=by have:=c.hD;simp [o9,ll] at this;exact this
   subst i;show bl (f+1) (dO (lg n)::q)=_;rw [p6 a b,bl];rfl
  rw [aj o];have A:=ZQ c.num o;subst A;by_cases p:op=2
  ·subst p;obtain ⟨rfl,rfl⟩:=m ai;have i:args=[]:=by have:=c.hD;simp [o9,ll] at this;exact this
   subst i;rfl
  rw [aj p];by_cases s:op=3
  ·subst s;have i:args=[]:=by have:=c.hD;simp [o9,ll] at this;exact this
   subst i;rw [aD rfl,BR (l ai) k.dot];unfold pv;rw [k.br,k.pa]
  rw [aj s];by_cases t:op=4;·subst t;have j:=c.QE<|bB rfl;match args,j,e with| [x],_,e=>rw [aD rfl];simp only [gx,at_,mB,o1,kq,g2];rw [BR (l ai) (by rfl)];unfold pv;rw [show bG [91] (TW [[91]]++(TW (iE x)++(TW [[93]]++q)))=aa (TW (iE x)++(TW [[93]]++q)) from rfl];simp only [];rw [e.1 0 x rfl _<|wd 93 _ a8];rfl
  rw [aj t];by_cases u:op=5;·subst u;rw [aD rfl];simp only [jp,kq,g2];rw [BR (l ai) (by rfl)];unfold pv;rw [show ∀r,bG [91] (TW [[40]]++r)=ao from λr=>rfl,show ∀r,bG [40] (TW [[40]]++r)=aa r from λr=>rfl];simp only [];rw [e.2 q];rfl
  rw [aj u];obtain ⟨rfl,rfl⟩:=m ai;by_cases v:op=6;·subst v;have j:=c.QE<|be rfl;match args,j,e with| [x],_,e=>rw [aD rfl];simp only [gx,at_,mB,o1,kq,g2];show bl (f+1) (dO [33]::(TW (iE x)++q))=_;rw [Q5<|Q6 a8,ZM,e.1 0 x rfl _ k];rfl
  rw [aj v];have j:=c.Zq ai;match args,j,e with| [x,y],_,e=>simp only [gx,at_,mB,lh,o1,kq,g2];show bl (f+1) (dO [40]::(TW (iE x)++(dO (y7 op)::(TW (iE y)++(dO [41]::q)))))=_;rw [Q5<|Q6 a8,ZN,oQ,e.1 0 x rfl _<|ZP op ⟨ai,w.2⟩];simp only [cH];rw [show qi opsL 0 (dO (y7 op)::(TW (iE y)++(dO [41]::q)))=aa ((op-7).toNat,TW (iE y)++(dO [41]::q)) from ZO _ ai];simp only [cH];rw [e.1 1 y rfl _<|KG 41 _ a8];simp only [cH];rw [u0 a8];simp only [MX,dD,a5];rw [show (7:ac)+((op-7).toNat:ac)=op by omega]
def KH:∀(l:I cF) (d:Z),(gg l d).aM=0->∀(f:Z),f+d=7->
   (∀(i:Z) (x:cF),l[i]? = aa x->∀(q:Tk),Stop q->bl f (TW (iE x)++q)=aa (x,q))/\
   (∀(q:Tk),mT (bl f) (TW (jO<|gx l)++(TW [[41]]++q))=aa (l,q))
 | [],_,_,_,_=>⟨aK,λq=>rfl⟩
 | x::r,d,h,f,e=>by
  obtain ⟨a,k⟩:=QD h;have o:=ZT x d a f e;have p:=KH r d k f e;have g:∀(i:Z) (y:cF),(x::r)[i]? = aa y->∀(q:Tk),Stop q->bl f (TW (iE y)++q)=aa (y,q):=by intro i y b;cases i with| zero=>simp at b;subst b;exact o| succ i=>exact p.1 i y (by simpa using b)
  refine ⟨g,λq=>?_⟩;have s:∀(l:I cF),(∀(i:Z) (y:cF),l[i]? = aa y->∀(q:Tk),Stop q->bl f (TW (iE y)++q)=aa (y,q))->l≠[]->∀n,l.length<=n->nj (bl f) n (TW (jO<|gx l)++(TW [[41]]++q))=aa (l,q):=by intro l;induction l with| nil=>intro _ h;exact absurd rfl h| cons z t v=>intro c _ n j;obtain ⟨n,rfl⟩:∃m,n=m+1:=⟨n-1,by simp at j;omega⟩;cases t with| nil=>simp only [gx,jO];unfold nj;rw [c 0 z rfl _<|wd 41 _ a8];rfl| cons y t=>simp only [gx,jO,kq,g2];unfold nj;rw [c 0 z rfl _<|wd 44 _ a8];simp only [cH];rw [show ∀r,bG [41] (TW [[44]]++r)=ao from λr=>rfl,show ∀r,bG [44] (TW [[44]]++r)=aa r from λr=>rfl];simp only [];have:=v (λi u w=>c (i+1) u (by simpa using w)) aK n (by simp at j ⊢;omega);simp only [gx] at this;rw [this];rfl
  have A:bG [41] (TW (jO<|gx<|x::r)++(TW [[41]]++q))=ao:=by cases r with| nil=>simp only [gx,jO];exact Q8 x d _ a| cons y r=>simp only [gx,jO,kq,g2];exact Q8 x d _ a
  unfold mT;rw [A];simp only [];refine s (x::r) g aK _ ?_;have:=ZS<|x::r;simp only [iy,TW,fB];omega
end
def Q9 (h:cJ (fL az 1 3) bR dK=aq):(1<=az/\az<=3->cJ ad bR dK=aq)/\(¬(1<=az/\az<=3)->bR=[]/\dK=[]):=by
 refine ⟨λa=>?_,λa=>?_⟩;·rw [show fL az 1 3=ad by simp [fL];omega] at h;exact h
 ·rw [show fL az 1 3=aq by rw [vr];simp [fL];omega] at h;exact QL h
def KI {q:Tk} (h:cJ ad bR dK=aq) (a:bG [46] q=ao):hI (TW (lA bR dK)++q)=(match bG [40] q with| aa r=>(mT (bl 6) r).map λq=>(cG.mk 3 bR dK q.1 [] [],q.2)| ao=>match bG [91] q with| aa r=>(bl 6 r).bind λi=>(bG [93] i.2).bind λr=>(bG [61] r).bind λr=>(bl 6 r).map λx=>(cG.mk 2 bR dK [i.1,x.1] [] [],x.2)| ao=>(bG [61] q).bind λr=>(bl 6 r).map λx=>(cG.mk 1 bR dK [x.1] [] [],x.2)):=by unfold hI;rw [sF (s:=hG) h<|bB a8,sF (s:=hH) h<|bB a8];simp only [];rw [Q4 h a];rfl
variable {A9:Tk->aA (I cG×Tk)}
def Di (a:bG hT bb=ao) (b:bG hU bb=ao):gL A9 bb=(hI bb).bind λs=>(bG [59] s.2).map λr=>(s.1,r):=by unfold gL;rw [a,b]
def Q' (pb:Tk->aA (I cG×Tk)) (d:Z):Prop:=∀(l:I cG),(bM l d).aM=0->∀q,pb (TW (dy l)++q)=aa (l,q)
def ZU {d:Z} (j:Q' A9<|d+1) (x:cG) (h:(jg x d).aM=0) (q:Tk) (o:bG hF q=ao):gL A9 (TW (oN x)++q)=aa (x,q):=by
 obtain ⟨op,mod,nm,args,body,other⟩:=x;have b:=Db h;have t:=b.kind;have a:=KH args 1 b.exprs 6 rfl;obtain ⟨k,i⟩:=Q9 b.name;obtain ⟨g,f⟩:=b.Zs;rw [uZ];unfold qh;rcases (by omega:op=1\/op=2\/op=3\/op=4\/op=5\/op=6\/op=7) with rfl | rfl | rfl | rfl | rfl | rfl | rfl;·have c:=b.len a8;obtain rfl:=g a8;obtain rfl:=f a8;have e:=k ai;match args,c,a with| [x],_,a=>simp only [dD,dF,reduceCtorEq,oo,iw,gx,at_,mB,o1,kq,g2];rw [Di (sF e<|bB a8)<|sF e<|bB a8,KI e (by rfl),show ∀r,bG [40] (TW [[61]]++r)=ao from λr=>rfl,show ∀r,bG [91] (TW [[61]]++r)=ao from λr=>rfl,show ∀r,bG [61] (TW [[61]]++r)=aa r from λr=>rfl];simp only [cH];rw [a.1 0 x rfl _<|wd 59 _ a8];rfl
 ·have c:=b.len a8;obtain rfl:=g a8;obtain rfl:=f a8;have e:=k ai;match args,c,a with| [x,y],_,a=>simp only [dD,dF,oo,iw,gx,at_,mB,lh,o1,kq,g2];rw [Di (sF e<|bB a8)<|sF e<|bB a8,KI e (by rfl),show ∀r,bG [40] (TW [[91]]++r)=ao from λr=>rfl,show ∀r,bG [91] (TW [[91]]++r)=aa r from λr=>rfl];simp only [];rw [show ∀r,TW [[93],[61]]++r=TW [[93]]++(TW [[61]]++r) from λr=>rfl,a.1 0 x rfl _<|wd 93 _ a8];simp only [cH];rw [show ∀r,bG [93] (TW [[93]]++r)=aa r from λr=>rfl];simp only [cH];rw [show ∀r,bG [61] (TW [[61]]++r)=aa r from λr=>rfl];simp only [cH];rw [a.1 1 y rfl _<|wd 59 _ a8];rfl
 ·obtain rfl:=g a8;obtain rfl:=f a8;have e:=k ai;simp only [dD,dF,oo,iw,jp,kq,g2];rw [Di (sF e<|bB a8)<|sF e<|bB a8,KI e (by rfl),show ∀r,bG [40] (TW [[40]]++r)=aa r from λr=>rfl];simp only [];rw [a.2];rfl
 ·have c:=b.len a8;have l:=j body<|b.body rfl;obtain ⟨rfl,rfl⟩:=i ai;match args,c,a with
  | [x],_,a=>
   simp only [dD,dF,oo,fI,mj,gx,at_,mB,o1,kq,g2];unfold gL;rw [show ∀r,bG hT (TW [hT]++r)=aa r from λr=>rfl];simp only [];have m:∀r,Stop (TW (sC<|kF body)++r):=λr=>KG 123 _ a8;rw [a.1 0 x rfl _<|m _];simp only [cH];have p:∀q,A9 (TW (sC<|kF body)++q)=aa (body,q):=l;rw [p];simp only [cH];by_cases n:0<other.length;·rw [aD n];have s:∀q,A9 (TW (sC<|kF other)++q)=aa (other,q):=j other<|b.other n;simp only [kq,g2];rw [show ∀r,bG hF (TW [hF]++r)=aa r from λr=>rfl];simp only [];rw [s];simp only [cH];rw [aj ai]
   ·rw [aj n];have:other=[]:=s' ai;subst this;rw [Dh,t_,o]
 ·have c:=b.len a8;have l:∀q,A9 (TW (sC<|kF body)++q)=aa (body,q):=j body<|b.body rfl;obtain ⟨rfl,rfl⟩:=i ai;obtain rfl:=f a8;match args,c,a with| [x],_,a=>simp only [dD,dF,oo,or_true,gx,at_,mB,o1,kq,g2,jS,Z.lt_irrefl,Dh,t_];unfold gL;rw [show ∀r,bG hT (TW [hU]++r)=ao from λr=>rfl,show ∀r,bG hU (TW [hU]++r)=aa r from λr=>rfl];simp only [];have m:∀r,Stop (TW (sC<|kF body)++r):=λr=>KG 123 _ a8;rw [a.1 0 x rfl _<|m _];simp only [cH];rw [l];rfl
 ·have c:=b.len a8;obtain rfl:=g a8;obtain rfl:=f a8;obtain ⟨rfl,rfl⟩:=i ai;match args,c,a with| [x],_,a=>simp only [dD,dF,oo,iw,gx,at_,mB,o1,kq,g2];rw [Di (by rfl) (by rfl)];unfold hI;rw [show ∀r,bG hG (TW [hG]++r)=aa r from λr=>rfl];simp only [];rw [a.1 0 x rfl _<|wd 59 _ a8];rfl
 ·have c:=b.len a8;obtain rfl:=g a8;obtain rfl:=f a8;obtain ⟨rfl,rfl⟩:=i ai;match args,c,a with| [x],_,a=>simp only [dD,dF,oo,iw,gx,at_,mB,o1,kq,g2];rw [Di (by rfl) (by rfl)];unfold hI;rw [show ∀r,bG hG (TW [hH]++r)=ao from λr=>rfl,show ∀r,bG hH (TW [hH]++r)=aa r from λr=>rfl];simp only [];rw [a.1 0 x rfl _<|wd 59 _ a8];rfl
variable {ol:cG}
def ZV (h:(jg ol bE).aM=0):∃w r,oN ol=w::r/\(gN w=ad\/w=hT\/w=hU\/w=hG\/w=hH):=by
 obtain ⟨op,mod,nm,args,body,other⟩:=ol;have b:=Db h;have k:=b.kind;obtain ⟨j,l⟩:=Q9 b.name;rw [uZ];unfold qh;by_cases c:op=4\/op=5;·rw [aD c];refine ⟨_,_,O,?_⟩;split<;>simp
 rw [aj c];by_cases d:op=6;·rw [aD d];exact ⟨_,_,rfl,aK⟩
 rw [aj d];by_cases f:op=7;·rw [aD f];exact ⟨_,_,rfl,aK⟩
 rw [aj f];obtain ⟨w,r,e,a⟩:=KD<|j ai;rw [e];by_cases g:op=3;·rw [aD g];exact ⟨_,_,rfl,bB a⟩
 rw [aj g];by_cases i:op=1;·rw [aD i];exact ⟨_,_,rfl,bB a⟩
 rw [aj i,aD ai];exact ⟨_,_,O,bB a⟩
def ZW (h:gN bR=ad\/bR=hT\/bR=hU\/bR=hG\/bR=hH) (a:dK=hF\/dK=[125]):bG dK (dO bR::bb)=ao:=by
 rcases h with h | rfl | rfl | rfl | rfl
 ·rcases a with rfl | rfl;·exact Q2 h a8
  ·exact KC h a8
 all_goals rcases a with rfl | rfl<;>rfl
def Q_ (h:(jg ol bE).aM=0) (a:bR=hF\/bR=[125]):bG bR (TW (oN ol)++bb)=ao:=by obtain ⟨w,r,e,b⟩:=ZV h;rw [e];exact ZW b a
def Ra {ps:Tk->aA (cG×Tk)} {d:Z} (b:∀(x:cG),(jg x d).aM=0->∀q,bG hF q=ao->ps (TW (oN x)++q)=aa (x,q)) (q:Tk):∀(l:I cG),(bf l d).aM=0->∀n,l.length<n->pw ps n (TW (kF l)++(TW [[125]]++q))=aa (l,q)
 | [],_,n,a=>by obtain ⟨n,rfl⟩:∃m,n=m+1:=⟨n-1,by simp at a;omega⟩;rfl
 | x::r,h,n,a=>by
  obtain ⟨n,rfl⟩:∃m,n=m+1:=⟨n-1,by simp at a;omega⟩;obtain ⟨c,e⟩:=Kq h;have f:=Ra b q r e n (by simp at a;omega);have g:bG hF (TW (kF r)++(TW [[125]]++q))=ao:=by cases r with| nil=>rfl| cons y t=>unfold kF;rw [kq,g2];exact Q_ (Kq e).1 Y
  unfold kF pw;rw [kq,g2,Q_ c<|be rfl];simp only [];rw [b x c _ g];simp only [cH];rw [f];rfl
def Rb:∀l:I cG,l.length<=(kF l).length
 | []=>dw _
 | x::r=>by
  have:=Rb r;have b:1<=(oN x).length:=by have:=Mc x;cases a:oN x with| nil=>exact absurd a this| cons _ _=>simp
  unfold kF;simp only [gj,iy];omega
def KJ:∀(f d:Z),f+d=7->Q' (iF f) d| 0,d,a=>λl h=>by unfold bM at h;have:=Dc h;omega| f+1,d,a=>λl h q=>by unfold bM at h;obtain ⟨g,i,b⟩:=Dc h;unfold iF dy sC;simp only [kq,g2];rw [show ∀r,bG [123] (TW [[123]]++r)=aa r from λr=>rfl];simp only [cH];refine Ra (d:=d) (λx c q e=>ZU (d:=d) (KJ f (d+1) ai) x c q e) q l b _ ?_;have:=Rb l;simp only [iy,TW,fB];omega
def B' {b:aS}  (h:bG y6 bb=ao):gD (TW (xy b)++bb)=(b,bb):=by cases b with| true=>rfl| false=>show gD bb=_;unfold gD;rw [h];rfl
variable {h4:fd}
def ZX (h:Gy h4):bG y6 (TW (hK h4)++bb)=ao:=by
 unfold hK uV;rcases h.kind with e | e | e;·rw [aD e];rfl
 ·rw [aj ai,aD e];rfl
 ·rw [aj ai,aj ai,aD e];rfl
def ZY (h:Gy h4):hV h4.dp (TW (hK h4)++bb)=aa (aa h4,bb):=by
 have c:=h.name;obtain ⟨kind,nm,dp,n⟩:=h4;unfold hK uV;rcases h.kind with e | e | e;·obtain ⟨a,b⟩:=h.n1 e;simp only at e a b c;subst e;simp only [dD];show hV dp (dO l0::dO nm::dO [61]::dO (lg n)::dO [59]::bb)=_;unfold hV;rw [show ∀r,bG l0 (dO l0::r)=aa r from λr=>rfl];simp only [];rw [sE c];simp only [cH];rw [show ∀r,bG [61] (dO [61]::r)=aa r from λr=>rfl];simp only [cH];rw [Q1 a b];rfl
 ·have d:=h.n2 e;simp only at e d c;subst e d;simp only [dD,dF,oo];show hV dp (dO l1::dO nm::dO [59]::bb)=_;unfold hV;rw [show ∀r,bG l0 (dO l1::r)=ao from λr=>rfl,show ∀r,bG l1 (dO l1::r)=aa r from λr=>rfl];simp only [];rw [sE c];rfl
 ·obtain ⟨a,b⟩:=h.n3 e;simp only at e a b c;subst e;simp only [dD,dF,oo];show hV dp (dO l2::dO nm::dO [91]::dO (lg n)::dO [93]::dO [59]::bb)=_;unfold hV;rw [show ∀r,bG l0 (dO l2::r)=ao from λr=>rfl,show ∀r,bG l1 (dO l2::r)=ao from λr=>rfl,show ∀r,bG l2 (dO l2::r)=aa r from λr=>rfl];simp only [];rw [sE c];simp only [cH];rw [show ∀r,bG [91] (dO [91]::r)=aa r from λr=>rfl];simp only [cH];rw [Q1 ai ai];rfl
def Rc (b:∀dp,hV dp (gD bb).2=aa (ao,(gD bb).2)):∀(ds:I fd),(∀d ∈ ds,(kz d).aM=0)->∀n,ds.length<n-> dz n (gD<|TW (ds.flatMap pt)++bb).1 (gD<|TW (ds.flatMap pt)++bb).2=aa ((ds,(gD bb).1),(gD bb).2)
 | [],_,n,a=>by obtain ⟨n,rfl⟩:∃m,n=m+1:=⟨n-1,by simp at a;omega⟩;show dz (n+1) (gD bb).1 (gD bb).2=_;unfold dz;rw [b];rfl
 | d::r,h,n,a=>by
  obtain ⟨n,rfl⟩:∃m,n=m+1:=⟨n-1,by simp at a;omega⟩;have c:=y'<|h d aK;have f:=Rc b r (λx g=>h x<|m1 _ g) n (by simp at a;omega);have e:TW ((d::r).flatMap pt)++bb=TW (xy d.dp)++(TW (hK d)++(TW (r.flatMap pt)++bb)):=by rw [lK,pt];simp only [hK,kq,g2]
  rw [e,B'<|ZX c];simp only [];unfold dz;rw [ZY c];simp only [cH];rw [f];rfl
def Rd {q:Tk}:∀(l:I Tx),(∀s ∈ l,gN s=ad)->∀(n:Z) (first:aS),l.length<n->
   cD n first (TW (if first=ad\/l=[] then [] else [[44]])++(TW (jO<|l.map λs=>[s])++(TW [[41]]++q)))=aa (l,q)
 | [],_,n,first,a=>by obtain ⟨n,rfl⟩:∃m,n=m+1:=⟨n-1,by simp at a;omega⟩;rw [aD<|be rfl];rfl
 | x::r,h,n,first,a=>by
  obtain ⟨n,rfl⟩:∃m,n=m+1:=⟨n-1,by simp at a;omega⟩;have b:=h x aK;have c:=Rd (q:=q) r (λs d=>h s<|m1 _ d) n aq (by simp at a;omega);have e:TW (jO<|(x::r).map λs=>[s])++(TW [[41]]++q)=dO x::(TW (if aq=ad\/r=[] then [] else [[44]])++(TW (jO<|r.map λs=>[s])++(TW [[41]]++q))):=by cases r with| nil=>rfl| cons y t=>rfl
  rw [e];cases first with| true=>simp only [mj,dD,Dh,t_];unfold cD;rw [KC b a8];simp only [dD,cH];rw [sE b];simp only [cH];rw [c];rfl| false=>have f:(if aq=ad\/x::r=[] then ([]:I Tx) else [[44]])=[[44]]:=aK;rw [f];unfold cD;rw [show ∀r,bG [41] (TW [[44]]++r)=ao from λr=>rfl,show ∀r,bG [44] (TW [[44]]++r)=aa r from λr=>rfl];rw [aj aK];simp only [cH];rw [sE b];simp only [cH];rw [c];rfl
def Re (b:bG tK bb=ao):∀(l:I Tx),(∀s ∈ l,gN s=ad)->∀n,l.length<n->mn n (TW (l.flatMap tL)++bb)=aa (l,bb)| [],_,n,a=>by obtain ⟨n,rfl⟩:∃m,n=m+1:=⟨n-1,by simp at a;omega⟩;show mn (n+1) bb=_;unfold mn;rw [b]| x::r,h,n,a=>by obtain ⟨n,rfl⟩:∃m,n=m+1:=⟨n-1,by simp at a;omega⟩;have c:=Re b r (λs d=>h s<|m1 _ d) n (by simp at a;omega);show mn (n+1) (dO tK::dO x::dO [59]::(TW (r.flatMap tL)++bb))=_;unfold mn;rw [show ∀r,bG tK (dO tK::r)=aa r from λr=>rfl];simp only [];rw [sE<|h x aK];simp only [cH];rw [show ∀r,bG [59] (dO [59]::r)=aa r from λr=>rfl];simp only [cH];rw [c];rfl
def Rf (b:bG sA bb=ao):∀(l:I Tx),(∀s ∈ l,gN s=ad)->∀n,l.length<n->mU n (TW (l.flatMap y8)++bb)=aa (l,bb)| [],_,n,a=>by obtain ⟨n,rfl⟩:∃m,n=m+1:=⟨n-1,by simp at a;omega⟩;show mU (n+1) bb=_;unfold mU;rw [b]| x::r,h,n,a=>by obtain ⟨n,rfl⟩:∃m,n=m+1:=⟨n-1,by simp at a;omega⟩;have c:=Rf b r (λs d=>h s<|m1 _ d) n (by simp at a;omega);show mU (n+1) (dO sA::dO x::dO [59]::(TW (r.flatMap y8)++bb))=_;unfold mU;rw [show ∀r,bG sA (dO sA::r)=aa r from λr=>rfl];simp only [];rw [sE<|h x aK];simp only [cH];rw [show ∀r,bG [59] (dO [59]::r)=aa r from λr=>rfl];simp only [cH];rw [c];rfl
def Rg {f:Tx->I Tx} (a:∀x,1<=(f x).length):∀l:I Tx,l.length<=(l.flatMap f).length| []=>dw _| x::r=>by have:=Rg a r;have:=a x;rw [lK,iy,gj];omega
def Rh:∀l:I Tx,l.length<=(jO<|l.map λs=>[s]).length| []=>dw _| [x]=>c7 _| x::y::r=>by have:=Rh<|y::r;show _<=([x]++[[44]]++jO ((y::r).map λs=>[s])).length;simp only [iy,gj,jS] at this ⊢;omega
def ZZ {p:gU}  (h:QP p):lC p.dp (TW (wc p)++bb)=aa (p,bb):=by obtain ⟨nm,dp,params,aX,body⟩:=p;unfold lC wc;simp only [kq,g2];rw [show ∀r,TW [nm,[40]]++r=dO nm::(TW [[40]]++r) from λr=>rfl,sE h.name];simp only [cH];rw [show ∀r,bG [40] (TW [[40]]++r)=aa r from λr=>rfl];simp only [cH];have a:=Rd (q:=TW (aX.flatMap tL)++(TW (dy body)++bb)) params h.params ((TW (jO<|params.map λs=>[s])++(TW [[41]]++(TW (aX.flatMap tL)++(TW (dy body)++bb)))).length+1) ad (by have:=Rh params;simp only [iy,TW,fB] at this ⊢;omega);simp only [mj,dD,Dh,t_] at a;rw [a];simp only [cH];rw [Re (by rfl) aX h.aX _ (by have:=Rg (f:=tL) (λx=>by simp [tL]) aX;simp only [iy,TW,fB];omega)];simp only [cH];rw [KJ 6 1 rfl body h.body bb];rfl
def Ri (b:bG sB (gD bb).2=ao):∀(ds:I gU),(∀d ∈ ds,(rl d).aM=0)->∀n,ds.length<n->
   od n (gD<|TW (ds.flatMap lB)++bb).1 (gD<|TW (ds.flatMap lB)++bb).2=aa ((ds,(gD bb).1),(gD bb).2)
 | [],_,n,a=>by obtain ⟨n,rfl⟩:∃m,n=m+1:=⟨n-1,by simp at a;omega⟩;show od (n+1) (gD bb).1 (gD bb).2=_;unfold od;rw [b]
 | d::r,h,n,a=>by
  obtain ⟨n,rfl⟩:∃m,n=m+1:=⟨n-1,by simp at a;omega⟩;have c:=y_<|h d aK;have f:=Ri b r (λx g=>h x<|m1 _ g) n (by simp at a;omega);have e:TW ((d::r).flatMap lB)++bb=TW (xy d.dp)++(dO sB::(TW (wc d)++(TW (r.flatMap lB)++bb))):=by rw [lK,lB,wc];simp only [kq,g2];rfl
  rw [e,B' (by rfl)];simp only [];unfold od;rw [show ∀r,bG sB (dO sB::r)=aa r from λr=>rfl];simp only [];rw [ZZ c];simp only [cH];rw [f];rfl
def GB {α:Type} {f:α->I Tx} (a:∀x,1<=(f x).length):∀l:I α,l.length<=(l.flatMap f).length| []=>dw _| x::r=>by have:=GB a r;have:=a x;rw [lK,iy,gj];omega
def Z0 {ps:I gU}  (a:∃r,bb=dO cj::r):∃r,(gD<|TW (ps.flatMap lB)++bb).2=dO sB::r\/(gD<|TW (ps.flatMap lB)++bb).2=dO cj::r:=by
 obtain ⟨r,rfl⟩:=a;cases ps with
 | nil=>exact ⟨r,be rfl⟩
 | cons d t=>
  have e:TW ((d::t).flatMap lB)++(dO cj::r)=TW (xy d.dp)++(dO sB::(TW (wc d)++(TW (t.flatMap lB)++(dO cj::r)))):=by rw [lK,lB,wc];simp only [kq,g2];rfl
  rw [e,B' (by rfl)];exact ⟨_,bB O⟩
def Rj (l:Tk):l.length<=(gD l).2.length+1:=by
 unfold gD;cases l with
 | nil=>simp
 | cons t r=>
  simp only [bG];split;·simp
  ·simp
def Z1 {m:cV} (h:(tj m).aM=0):mo (TW<|rJ m)=aa (m,[]):=by
 have b:=Gz h;obtain ⟨nm,aN,decls,procs,main⟩:=m;have l:∀q,iF 6 (TW (dy main)++q)=aa (main,q):=KJ 6 1 rfl main b.main;unfold rJ;simp only [kq,g2];have c:(∃r,(TW [cj]++(TW (dy main)++TW [[125]]))=dO cj::r):=⟨_,rfl⟩;generalize n:TW [cj]++(TW (dy main)++TW [[125]])=a at c;obtain ⟨y,o⟩:=Z0 (ps:=procs) c;show mo (dO wb::dO nm::dO [123]::(TW (aN.flatMap y8)++(TW (decls.flatMap pt)++(TW (procs.flatMap lB)++a))))=_;have s:bG sA (TW (decls.flatMap pt)++(TW (procs.flatMap lB)++a))=ao:=by
  cases decls with
  | cons d t=>
   have i:=y'<|b.decls d aK;rw [lK,pt,kq,kq,kq];cases d.dp with
   | true=>rfl
   | false=>
    show bG sA (TW (uV d)++TW [[59]]++TW (t.flatMap pt)++_)=ao;unfold uV;rcases i.kind with e | e | e;·rw [aD e];rfl
    ·rw [aj ai,aD e];rfl
    ·rw [aj ai,aj ai,aD e];rfl
  | nil=>cases procs with| cons p t=>rw [EC,Dh,t_,lK,lB];simp only [kq,g2];cases p.dp<;>rfl| nil=>obtain ⟨r,rfl⟩:=c;rfl
 have i:∀dp,hV dp (gD<|TW (procs.flatMap lB)++a).2=aa (ao,(gD<|TW (procs.flatMap lB)++a).2):=by intro dp;rcases o with e | e<;>rw [e]<;>rfl
 have u:bG sB (gD a).2=ao:=by obtain ⟨r,rfl⟩:=c;rfl
 unfold mo;rw [show ∀r,bG wb (dO wb::r)=aa r from λr=>rfl];simp only [cH];rw [sE b.name];simp only [cH];rw [show ∀r,bG [123] (dO [123]::r)=aa r from λr=>rfl];simp only [cH];rw [Rf s aN b.aN _ (by have:=GB (f:=y8) (λx=>by simp [y8]) aN;simp only [iy,TW,fB];omega)];simp only [cH];have v:decls.length<(gD<|TW (decls.flatMap pt)++(TW (procs.flatMap lB)++a)).2.length+1:=by have g:=Rj<|TW (decls.flatMap pt)++(TW (procs.flatMap lB)++a);have j:=GB (f:=pt) (λx=>by simp [pt];omega) decls;obtain ⟨r,k⟩:=c;rw [k] at g ⊢;simp only [iy,TW,fB,gj] at g j ⊢;omega
 rw [Rc i decls b.decls _ v];simp only [cH];have w:procs.length<(gD<|TW (procs.flatMap lB)++a).2.length+1:=by have g:=Rj<|TW (procs.flatMap lB)++a;have j:=GB (f:=lB) (λx=>by simp [lB];omega) procs;obtain ⟨r,k⟩:=c;rw [k] at g ⊢;simp only [iy,TW,fB,gj] at g j ⊢;omega
 rw [Ri u procs b.procs _ w];simp only [cH];subst n;show (if (gD<|dO cj::(TW (dy main)++TW [[125]])).1=ad then ao else _)=_;rw [show ∀r,gD (dO cj::r)=(aq,dO cj::r) from λr=>rfl];simp only [en,dF];show (bG cj (gD<|dO cj::(TW (dy main)++TW [[125]])).2).bind _=_;rw [show ∀r,gD (dO cj::r)=(aq,dO cj::r) from λr=>rfl];simp only [];rw [show ∀r,bG cj (dO cj::r)=aa r from λr=>rfl];simp only [cH];rw [l];rfl
end Go.Bw
end
section
namespace Go.Bw
open Go
variable {bR:Tx} {bb cr:Tk}
def Rk (a:j3 bb) (h:bG bR bb=aa cr):j3 cr:=by
 cases bb with
 | nil=>cases h
 | cons t q=>
  simp only [bG] at h;split at h;·injection h with h;subst h;exact λx b=>a x<|m1 _ b
  ·cases h
def Z2 {pb:Tk->aA (I cG×Tk)} (a:Kz pb)  {x:cG} (b:j3 bb) (h:gL pb bb=aa (x,cr)):cr.length<bb.length:=by have e:=(KA a b h).2;have c:=Mc x;rw [e];cases d:oN x with| nil=>exact absurd d c| cons w f=>simp;omega
def u1:cV:=⟨[],[],[],[],[]⟩
def hJ (s:Tx):cV×ac:=if (bL s).2≠0 then (u1,(bL s).2) else match mo (bL s).1 with| aa (m,[])=>if jh m=0 then (m,0) else (u1,1)| _=>(u1,1)
def Z3 (h:(bL bR).2=0):j3 (bL bR).1:=(NW<|NX h).1
variable {bD:cV}
def Z4 (h:(tj bD).aM=0):j3<|TW<|rJ bD:=by intro t a;obtain ⟨w,b,rfl⟩:=o2.1 a;exact (QR h w b).1
def KL:jh bD=0↔(tj bD).aM=0:=Zu
def Z5 (h:jh bD=0) (d:(J<|rJ bD).length<=4096):hJ (J<|rJ bD)=(bD,0):=by
 have a:=KL.1 h;have b:=Zv<|QR a;have c:bL (J<|rJ bD)=(TW<|rJ bD,0):=by unfold bL;rw [aj ai,<-b,show i3 (vG<|I.map dO<|rJ bD)=aa (TW<|rJ bD) from NZ (TW<|rJ bD)<|Z4 a]
 unfold hJ;rw [c];simp only [ne_eq,not_true_eq_false,dF];rw [Z1 a];simp only;rw [aD h]
end Go.Bw
end
section
namespace Go.Bw
open Go
def KM:∀{l:I fd},(∀d ∈ l,(kz d).aM=0)->0<=hO l/\hO l<=32*(l.length:ac)
 | [],_=>by simp [hO]
 | d::r,h=>by
  have c:=KM (l:=r) λx b=>h x (by simp [b]);have a:=y'<|h d aK;have f:0<=lp d/\lp d<=32:=by
   unfold lp;rcases a.kind with e | e | e;·simp [e]
   ·simp [e]
   ·have:=a.n3 e;simp [e];omega
  simp only [hO,gj];omega
structure KN (m:cV) (x:dB):Prop where
 name:gN x.name=ad
 kind:(x.kind=1/\0<=x.n/\x.n<=1099511627775/\x.pl=0)\/(x.kind=2/\x.n=0/\0<=x.pl/\x.pl+1<=oz m)\/(x.kind=3/\1<=x.n/\x.n<=32/\0<=x.pl/\x.pl+x.n<=oz m)\/(x.kind=4/\∃(i:Z) (p:gU),x.pl=i/\m.procs[i]? = aa p/\x.n=(p.params.length:ac))
def Rl:∀{l:I fd} {a:ac},(∀d ∈ l,(kz d).aM=0)->0<=a->∀x ∈ lP l a,gN x.name=ad/\((x.kind=1/\0<=x.n/\x.n<=1099511627775/\x.pl=0)\/(x.kind=2/\x.n=0/\0<=x.pl/\x.pl+1<=a+hO l)\/(x.kind=3/\1<=x.n/\x.n<=32/\0<=x.pl/\x.pl+x.n<=a+hO l))
 | [],_,_,_,x,b=>by simp [lP] at b
 | d::r,a,h,g,x,b=>by
  have c:=y'<|h d aK;have i:=KM (l:=r) λx b=>h x (by simp [b]);have j:0<=lp d:=by
   unfold lp;rcases c.kind with e | e | e;·simp [e]
   ·simp [e]
   ·have:=c.n3 e;simp [e];omega
  simp only [lP] at b;simp only [hO];rcases eR.1 b with rfl | b
  ·refine ⟨c.name,?_⟩;unfold qH lp;rcases c.kind with e | e | e;·have:=c.n1 e;simp [e];omega
   ·have:=c.n2 e;simp [e];omega
   ·have:=c.n3 e;simp [e];omega
  ·have f:=Rl (l:=r) (a:=a+lp d) (λx b=>h x (by simp [b])) ai x b;rw [show a+(lp d+hO r)=a+lp d+hO r by omega];exact f
def Rm {m:cV}:∀{l:I gU} {i:Z},(∀p ∈ l,gN p.nm=ad)->(∀(j:Z) p,l[j]? = aa p->m.procs[i+j]? = aa p)->∀x ∈ nW l i,gN x.name=ad/\x.kind=4/\∃(j:Z) (p:gU),x.pl=j/\m.procs[j]? = aa p/\x.n=(p.params.length:ac)
 | [],_,_,_,x,a=>by simp [nW] at a
 | p::r,i,h,b,x,a=>by
  simp only [nW] at a;rcases eR.1 a with rfl | a;·exact ⟨h p aK,O,i,p,O,b 0 p O,O⟩
  ·exact Rm (l:=r) (i:=i+1) (λx a=>h x (by simp [a])) (λj q c=>by rw [show i+1+j=i+(j+1) by omega];exact b (j+1) q c) x a
variable {bD:cV}
def Dj (h:nG bD):∀x ∈ gJ bD,KN bD x:=λx b=>by
 rcases fe.1 b with b | b;·obtain ⟨c,a⟩:=Rl h.decls (zZ 0) x b;rw [If] at a;exact ⟨c,by rcases a with a | a | a;exact bB a;exact be<|bB a;exact be<|be<|bB a⟩
 ·obtain ⟨c,a⟩:=Rm (m:=bD) (λp d=>(y_<|h.procs p d).name) (λj p d=>by rw [lJ];exact d) x b;exact ⟨c,be<|be<|be a⟩
def l_ (h:nG bD):0<=oz bD/\oz bD<=320:=by have:=KM h.decls;have:=h.fH;unfold oz;omega
def Z6 (h:nG bD) {x:dB} (b:KN bD x):pZ x=ad:=by
 have d:=nF b.name;have f:=l_ h;unfold pZ fL;rw [d];rcases b.kind with ⟨e,a⟩ | ⟨e,a⟩ | ⟨e,a⟩ | ⟨e,i,p,a,c,g⟩;·simp [e];omega
 ·simp [e];omega
 ·simp [e];omega
 ·have j:=(y_<|h.procs p<|aW c).fH;have k:=(cN.1 c).1;have l:=h.fH;simp [e];omega
def GC:∀(l:I dB) (ps:I aS),(lQ l ps).Sublist l
 | [],_=>by simp [lQ]| x::l,[]=>by simp [lQ]
 | x::l,p::ps=>by
  simp only [lQ];cases p;·simpa using (GC l ps).cons x
  ·simpa using (GC l ps).cons_cons x
def Dk (h:(eW bD).2=0):pc (eW bD).1.1 (eW bD).1.2=0/\(eW bD).1.1=bD.nm/\nG bD:=by
 unfold eW at h ⊢;split at h;·rename_i b;exact absurd h b
 ·rename_i b;have e:jh bD=0:=by simpa using b
  have a:=Gz<|KL.1 e;split at h;·cases h
  ·rename_i c;rw [aj b,aj c];refine ⟨?_,O,a⟩;show pc bD.nm (lQ (gJ bD)<|nX bD)=0;have f:g6 ((gJ bD).map (·.name))=aq:=by cases g:g6 ((gJ bD).map (·.name)) with| false=>rfl| true=>rw [g] at c;simp at c
   have d:=GC (gJ bD)<|nX bD;have i:((lQ (gJ bD)<|nX bD).map (·.name)).Nodup:=(d.map (·.name)).nodup<|kK.2 f;have j:=I8 (gJ bD)<|nX bD;rw [Cv] at j;have m:=a.fH;unfold pc;have k:(lQ (gJ bD)<|nX bD).all pZ=ad:=gA.2 λx l=>Z6 a<|Dj a x<|d.subset l;rw [k,kK.1 i,nF a.name];simp;omega
section
variable {m:cV} {aX:I Tx}
variable {bR:Tx} {bE:Z}
def Rn {l:I Tx}  (h:idxOf bR l 0=aa bE):bE<l.length:=by have:=(se h).2;rw [qp] at this;exact (cN.1 this).1
def xi:∀{l:I dB} {x:dB},jj bR l=aa x->x ∈ l
 | [],_,h=>by cases h
 | y::r,x,h=>by
  unfold jj at h;split at h;·injection h with h;subst h;simp
  ·exact m1 _<|xi h
variable {dK:Tx} {az:ac}
def Dl (c:m.aN=[])   {it:dB} (h:gV (dd m [] aX) bR dK=aa (az,it)):(az = -1/\0<=it.pl/\it.pl<(aX.length:ac))\/(az=0/\it ∈ gJ m):=by
 unfold gV at h;split at h
 ·split at h;·rename_i i hi;injection h with h;injection h with a b;subst a b;have f:i<aX.length:=Rn hi;exact bB ⟨O,by show (0:ac)<=(i:ac);omega,by show (i:ac)<_;omega⟩
  ·obtain ⟨x,d,e⟩:=eQ.1 h;injection e with a b;subst a b;exact be ⟨O,xi d⟩
 ·unfold dd at h;rw [c] at h;unfold m8 at h;cases h
def px (m:cV):I e7:=[ec<|fi m []]
def xj (a:nG m) {pl n:ac} (d:0<=pl) (b:pl+n<=oz m) (e:0<=n):ls (px m) 0 pl n=ad:=by
 have f:=l_ a;have c:oD (px m) ((0:Z):ac) pl=aq:=by unfold oD px;simp;omega
 have:=w9 (n:=n) (k:=ec<|fi m []) c rfl;rw [show (((0:Z):ac))=0 from rfl] at this;rw [this,aD<|show (ec<|fi m []).p1=ad from rfl];exact jG b
def Ro {i:Z} {p:gU} (a:m.procs[i]? = aa p):k4 (px m) 0 i (p.params.length:ac)=ad:=by
 have b:=(cN.1 a).1;have c:n0 (px m) ((0:Z):ac) (i:ac)=aq:=by unfold n0 px;simp
 have:=ux (n:=(p.params.length:ac)) (k:=ec<|fi m []) c rfl;rw [show (((0:Z):ac))=0 from rfl] at this;rw [this,aD<|show (ec<|fi m []).p1=ad from rfl];have e:(ec<|fi m []).parts=m.procs.map λp=>(p.params.length:ac):=by unfold ec fi;simp [rr]
 rw [e,ku,fp,a,fB];simp;exact b
def mq {n:Z} (h:o9 az n=aq) (a:0<=az):(n:ac)=az:=by unfold o9 at h;rw [jG a] at h;simpa using h
variable {e9:I cF}
def Z7 (o:nG m) (x:m.aN=[]) {op n:ac}    (r:xz op n bR dK e9 bE) (a:(ez (dd m [] aX) op n bR dK e9.length).e=0) :
   node1 (px m) aX.length (ez (dd m [] aX) op n bR dK e9.length).op (ez (dd m [] aX) op n bR dK e9.length).n (ez (dd m [] aX) op n bR dK e9.length).m (ez (dd m [] aX) op n bR dK e9.length).pl e9.length=ad:=by
 have B:=r.kind;have g:=r.num;have d:=r.hD;by_cases j:fL op 3 5=ad
 ·have u:op=3\/op=4\/op=5:=by unfold fL at j;simp at j;omega
  have f:n=0:=by unfold lN at g;have:¬op=1:=ai;simpa [this] using g
  unfold ez at a ⊢;rw [aD j] at a ⊢;cases s:gV (dd m [] aX) bR dK with
  | none=>rw [s] at a;cases a
  | some q=>
   obtain ⟨k,it⟩:=q;rw [s] at a;dsimp only at a ⊢;rcases Dl x s with ⟨rfl,y,z⟩ | ⟨rfl,A⟩
   ·rw [aD rfl] at a ⊢;have t:op=3:=by
     dsimp only at a;split at a;·assumption
     ·cases a
    subst t;have b:=mq d a8;rw [show ll 3=0 from rfl] at b;unfold node1 gT;simp [f,b,y,z]
   ·rw [aj a8] at a ⊢;have hi:=Dj o it A;rcases u with rfl | rfl | rfl
    ·have b:=mq d a8;rw [show ll 3=0 from rfl] at b;rcases hi.kind with ⟨e,c⟩ | ⟨e,c⟩ | ⟨e,c⟩ | ⟨e,c⟩;·rw [aD ⟨rfl,e⟩];unfold node1;simp [b];omega
     ·rw [aj ai,aD ⟨rfl,e⟩];have:=xj o (pl:=it.pl) (n:=1) c.2.1 c.2.2 a8;unfold node1;simp [b,f,this]
     ·rw [aj ai,aj ai,aj ai,aj ai] at a;cases a
     ·rw [aj ai,aj ai,aj ai,aj ai] at a;cases a
    ·have b:=mq d a8;rw [show ll 4=1 from rfl] at b;rw [aj ai,aj ai] at a ⊢;rcases hi.kind with ⟨e,c⟩ | ⟨e,c⟩ | ⟨e,c⟩ | ⟨e,c⟩;·rw [aj ai,aj ai] at a;cases a
     ·rw [aj ai,aj ai] at a;cases a
     ·rw [aD ⟨rfl,e⟩];have:=xj o (pl:=it.pl) (n:=it.n) c.2.2.1 c.2.2.2 ai;unfold node1 tm;simp [b,this];omega
     ·rw [aj ai,aj ai] at a;cases a
    ·rw [aj ai,aj ai,aj ai] at a ⊢;rcases hi.kind with ⟨e,c⟩ | ⟨e,c⟩ | ⟨e,c⟩ | ⟨e,i,p,c,l,t⟩;·rw [aj ai] at a;cases a
     ·rw [aj ai] at a;cases a
     ·rw [aj ai] at a;cases a
     ·rw [aD ⟨rfl,e⟩] at a ⊢;dsimp only at a ⊢;have b:it.n=(e9.length:ac):=by
       split at a;·assumption
       ·cases a
      have:=Ro l;rw [<-c,<-t,b] at this;unfold node1;simp [f,this]
 ·have u:¬(op=3\/op=4\/op=5):=λh=>j (by unfold fL;simp;omega);unfold ez;rw [aj j];dsimp only;by_cases c:op=1;·subst c;have b:=mq d a8;rw [show ll 1=0 from rfl] at b;unfold lN at g;unfold node1;simp [b] at g ⊢;omega
  ·have f:n=0:=by unfold lN at g;simpa [c] using g
   by_cases l:op=2;·subst l;have b:=mq d a8;rw [show ll 2=0 from rfl] at b;unfold node1;simp [f,b]
   ·by_cases v:op=6;·subst v;have b:=mq d a8;rw [show ll 6=1 from rfl] at b;unfold node1;simp [f,b]
    ·have w:ll op=2:=by unfold ll;rw [aj ai,aj ai,aj ai]
     have b:=mq d (by rw [w];decide);rw [w] at b;unfold node1;rw [aj c,aj ai,aj ai,aj ai,aj ai,aj l,aj v,aD ai];simp [f,b]
mutual
def Z8 (b:nG m) (c:m.aN=[]):∀(x:cF) (d:Z),(cM x d).aM=0->mc (dd m [] aX) x=0->k5 (px m) aX.length (pf (dd m [] aX) x) d=ad
 | .mk op n mod nm args,d,e,he=>by
  have a:=Da e;rw [w8] at he;obtain ⟨f,g⟩:=m9.1 he;rw [Jb,k5];have h:(iT (dd m [] aX) (cF.mk op n mod nm args).args).length=args.length:=by rw [Ax,fB];rfl
  rw [h];have i:=Z7 b c a f;have j:=KO b c args (d+1) a.sub g;rw [jG a.deep];show (node1 _ _ (ez (dd m [] aX) op n mod nm args.length).op (ez (dd m [] aX) op n mod nm args.length).n (ez (dd m [] aX) op n mod nm args.length).m (ez (dd m [] aX) op n mod nm args.length).pl args.length&&hZ _ _ (iT (dd m [] aX) args) (d+1))=ad;rw [i,j];rfl
def KO (a:nG m) (b:m.aN=[]):∀(l:I cF) (d:Z),(gg l d).aM=0->kf (dd m [] aX) l=0->hZ (px m) aX.length (iT (dd m [] aX) l) d=ad| [],d,_,_=>by rw [iT,hZ]| x::r,d,c,he=>by unfold gg at c;unfold kf at he;obtain ⟨c1,c2⟩:=iX c;obtain ⟨e,f⟩:=m9.1 he;rw [iT,hZ,Z8 a b x d c1 e,KO a b r d c2 f];rfl
end
def Z9 (s:nG m) (y:m.aN=[])    {body other:I cG}  (t:jw az bR dK e9 body other bE) (a:(a7 (dd m [] aX) az bR dK e9.length).e=0) :
   (a7 (dd m [] aX) az bR dK e9.length).op=az/\gC (px m) aX.length (a7 (dd m [] aX) az bR dK e9.length).op (a7 (dd m [] aX) az bR dK e9.length).n (a7 (dd m [] aX) az bR dK e9.length).m (a7 (dd m [] aX) az bR dK e9.length).pl e9.length body.length other.length=ad:=by
 have E:=t.kind;have l:=t.hD;have o:=t.form;have r:(az≠4/\az≠5->body.length=0)/\(az≠4->other.length=0):=by
  unfold o' inner at o;simp at o;refine ⟨λh=>?_,λh=>?_⟩;·have:=o.1 h.1 h.2;simp [this]
  ·have:=o.2 h;simp [this]
 by_cases g:fL az 1 3=ad
 ·have u:az=1\/az=2\/az=3:=by unfold fL at g;simp at g;omega
  have f:body.length=0:=r.1 ai;have d:other.length=0:=r.2 ai;unfold a7 at a ⊢;rw [aD g] at a ⊢;cases v:gV (dd m [] aX) bR dK with
  | none=>rw [v] at a;cases a
  | some q=>
   obtain ⟨k,it⟩:=q;rw [v] at a;dsimp only at a ⊢;rcases Dl y v with ⟨rfl,z,A⟩ | ⟨rfl,B⟩
   ·rcases u with rfl | rfl | rfl;·have c:=mq l a8;rw [show rm 1=1 from rfl] at c;rw [aD ⟨rfl,bB rfl⟩];refine ⟨O,?_⟩;unfold gC gT;simp [c,f,d,z,A]
    ·rw [aj ai,aD rfl] at a;cases a
    ·rw [aj ai,aD rfl] at a;cases a
   ·have hi:=Dj s it B;rcases u with rfl | rfl | rfl
    ·have c:=mq l a8;rw [show rm 1=1 from rfl] at c;rcases hi.kind with ⟨e,b⟩ | ⟨e,b⟩ | ⟨e,b⟩ | ⟨e,b⟩;·rw [aj ai,aj ai,aj ai,aj ai] at a;cases a
     ·rw [aD ⟨rfl,be e⟩];have:=xj s (pl:=it.pl) (n:=1) b.2.1 b.2.2 a8;refine ⟨O,?_⟩;unfold gC;simp [c,f,d,this]
     ·rw [aj ai,aj ai,aj ai,aj ai] at a;cases a
     ·rw [aj ai,aj ai,aj ai,aj ai] at a;cases a
    ·have c:=mq l a8;rw [show rm 2=2 from rfl] at c;rw [aj ai,aj ai] at a ⊢;rcases hi.kind with ⟨e,b⟩ | ⟨e,b⟩ | ⟨e,b⟩ | ⟨e,b⟩;·rw [aj ai,aj ai] at a;cases a
     ·rw [aj ai,aj ai] at a;cases a
     ·rw [aD ⟨rfl,e⟩];have:=xj s (pl:=it.pl) (n:=it.n) b.2.2.1 b.2.2.2 ai;refine ⟨O,?_⟩;unfold gC tm;simp [c,f,d,this];omega
     ·rw [aj ai,aj ai] at a;cases a
    ·rw [aj ai,aj ai,aj ai] at a ⊢;rcases hi.kind with ⟨e,b⟩ | ⟨e,b⟩ | ⟨e,b⟩ | ⟨e,i,p,b,C,D⟩;·rw [aj ai] at a;cases a
     ·rw [aj ai] at a;cases a
     ·rw [aj ai] at a;cases a
     ·rw [aD ⟨rfl,e⟩] at a ⊢;dsimp only at a ⊢;have c:it.n=(e9.length:ac):=by
       split at a;·assumption
       ·cases a
      have:=Ro C;rw [<-b,<-D,c] at this;refine ⟨O,?_⟩;unfold gC;simp [f,d,this]
 ·have u:¬(az=1\/az=2\/az=3):=λh=>g (by unfold fL;simp;omega);unfold a7;rw [aj g];dsimp only;refine ⟨O,?_⟩;have x:rm az=1:=by unfold rm;rw [aj ai,aj ai]
  have c:=mq l (by rw [x];decide);rw [x] at c;unfold gC;rw [aj ai,aj ai,aj ai];by_cases j:az=4;·rw [aD j];simp [c]
  ·have d:=r.2 j;by_cases w:az=5;·rw [aj j,aD w];simp [c,d]
   ·have f:=r.1 ⟨j,w⟩;rw [aj j,aj w,aD ai];simp [c,d,f]
def A_ {d len:Z} {c:aJ} (h:(pY d len c).aM=0):d<=6/\len<=10/\c.aM=0:=by
 unfold pY at h;split at h;·cases h
 ·obtain ⟨a,b⟩:=iX h;have:=A6 a;simp at this;exact ⟨ai,ai,b⟩
mutual
def Z' (b:nG m) (c:m.aN=[]):∀(x:cG) (d:Z),(jg x d).aM=0->lq (dd m [] aX) x=0->lR (px m) aX.length (pg (dd m [] aX) x) d=ad
 | .mk op mod nm args body other,d,k,he=>by
  have e:=Db k;rw [uv] at he;obtain ⟨l,f⟩:=m9.1 he;obtain ⟨f,g⟩:=m9.1 f;obtain ⟨g,o⟩:=m9.1 g;rw [Jc,lR];have p:(iT (dd m [] aX) args).length=args.length:=by rw [Ax,fB]
  have q:(gu (dd m [] aX) body).length=body.length:=by rw [uw,fB]
  have r:(gu (dd m [] aX) other).length=other.length:=by rw [uw,fB]
  obtain ⟨s,t⟩:=Z9 b c e l;have u:=KO b c args 1 e.exprs f;show (gC _ _ (a7 (dd m [] aX) op mod nm args.length).op (a7 (dd m [] aX) op mod nm args.length).n (a7 (dd m [] aX) op mod nm args.length).m (a7 (dd m [] aX) op mod nm args.length).pl (iT (dd m [] aX) args).length (gu (dd m [] aX) body).length (gu (dd m [] aX) other).length&&(hZ _ _ (iT (dd m [] aX) args) 1&&((!(tn (a7 (dd m [] aX) op mod nm args.length).op)||(decide (d+1<=6)&&(decide ((gu (dd m [] aX) body).length<=10)&&g8 _ _ (gu (dd m [] aX) body) (d+1))))&&(!(decide<|0<(gu (dd m [] aX) other).length)||(decide (d+1<=6)&&(decide ((gu (dd m [] aX) other).length<=10)&&g8 _ _ (gu (dd m [] aX) other) (d+1)))))))=ad;rw [p,q,r,t,u,s];simp only [yc];refine bz.2 ⟨?_,?_⟩
  ·by_cases a:tn op=ad;·obtain ⟨h,i,j⟩:=A_<|e.body (by rw [show inner op=ad from a];rfl);rw [jG h,jG i,GG b c body (d+1) j g];simp
   ·simp [a]
  ·by_cases a:0<other.length;·obtain ⟨h,i,j⟩:=A_<|e.other a;rw [jG h,jG i,GG b c other (d+1) j o];simp
   ·rw [tb a];rfl
def GG (a:nG m) (b:m.aN=[]):∀(l:I cG) (d:Z),(bf l d).aM=0->g7 (dd m [] aX) l=0->g8 (px m) aX.length (gu (dd m [] aX) l) d=ad| [],d,_,_=>by rw [gu,g8]| x::r,d,c,he=>by unfold bf at c;unfold g7 at he;obtain ⟨c1,c2⟩:=iX c;obtain ⟨e,f⟩:=m9.1 he;rw [gu,g8,Z' a b x d c1 e,GG a b r d c2 f];rfl
end
def MY (a:nG m) (b:m.aN=[]) {l:I cG} (c:(bM l 1).aM=0) (d:g7 (dd m [] aX) l=0):bX (px m) aX.length (gu (dd m [] aX) l) 1=ad:=by obtain ⟨e,f,g⟩:=A_ c;unfold bX;rw [uw,fB,<-uw,jG e,jG f,GG a b l 1 g d];rfl
end
def KP {α:Type} {f:α->ac}:∀{l:I α},jk f l=0->∀x ∈ l,f x=0
 | [],_,x,a=>by simp at a
 | y::r,h,x,a=>by
  unfold jk at h;obtain ⟨b,c⟩:=m9.1 h;rcases eR.1 a with rfl | a;·exact b
  ·exact KP c x a
def Z_ (a:nG bD) (b:bD.aN=[]) (e:oC bD []=0):lS [fi bD []]=0:=by
 unfold oC at e;obtain ⟨j,k⟩:=m9.1 e;have u:=l_ a;have v:=a.fH;have l:jY (fi bD []) []=ad:=by
  unfold jY;have a1:tp (fi bD []).nm (fi bD []).aN=ad:=by show tp bD.nm bD.aN=ad;rw [b];unfold tp;rw [kK.1 aK];rfl
  have a2:p2 (fi bD [])=aq:=by
   unfold p2;have m:(fi bD []).parts.length=bD.procs.length:=by unfold fi;simp
   have c:(fi bD []).aN.length=0:=by show bD.aN.length=0;rw [b];rfl
   have n:(fi bD []).nm=bD.nm:=rfl;have d:(fi bD []).data=oz bD:=rfl;rw [m,c,n,d,nF a.name];simp;omega
  have a3:(fi bD []).parts.all (nw<|px bD)=ad:=by refine gA.2 λx o=>?_;obtain ⟨p,f,rfl⟩:=o2.1<|show x ∈ bD.procs.map (rr bD []) from o;have g:=y_<|a.procs p f;have h:=KP j p f;unfold fZ at h;obtain ⟨_,q⟩:=m9.1 h;have i:=MY a b g.body q;rw [iy] at i;unfold nw rr;have w:=g.fH;rw [show ((p.params.length:ac)+(p.aX.length:ac))=((p.params.length+p.aX.length:Z):ac) by omega,i];simp;omega
  have a4:bX (px bD) 0 (fi bD []).main 1=ad:=MY (aX:=[]) a b a.main k;rw [a1,a2,show ec (fi bD [])::[]=px bD from rfl,a3,a4];rfl
 have r:uy [fi bD []]=ad:=by unfold uy;have c:(fi bD []).aN=[]:=b;simp [zX,c]
 have s:c_ [fi bD []] 512=ad:=by unfold c_ c_;have d:(fi bD []).data=oz bD:=rfl;rw [d];simp;omega
 have t:fV [fi bD []] (fi bD [])=[]:=by unfold fV;rw [show (fi bD []).aN=[] from b];rfl
 unfold lS;rw [aj aK,aj (by rw [r];decide),aj (by unfold fR;rw [kK.1 aK];decide),aj (by rw [s];decide),aD (by simp only [x',I.all_nil,t,l];rfl)]
def resolve_right {fs:I<|Tx×I dB} (h:(jL bD fs).2=0):(eW bD).2=0/\(bD.aN=[]->lS [(jL bD fs).1]=0):=by
 unfold jL at h ⊢;split at h;·rename_i a;exact absurd h a
 ·rename_i a;have d:(eW bD).2=0:=by simpa using a
  refine ⟨d,λe=>?_⟩;rw [aj a];split at h;·cases h
  ·rename_i c;rw [aj c];split at h;·cases h
   ·rename_i f;rw [aj f];split at h;·rename_i b;exact absurd h b
    ·rename_i b;rw [aj b];have g:fs=[]:=s' (by rw [e] at c;simpa using c);subst g;exact Z_ (Dk d).2.2 e (by simpa using b)
end Go.Bw
end
section
namespace Go.Bw
open Go
def Rq {α β:Type} {p:Z->α->β->Prop}:∀(l:I α) (s:Z),(∀i x,l[i]? = aa x->∃r,p (s+i) x r)->∃ys:I (α×β),ys.map (·.1)=l/\∀(i:Z) y,ys[i]? = aa y->p (s+i) y.1 y.2
 | [],_,_=>⟨[],rfl,λi y h=>by simp at h⟩
 | x::l,s,h=>by
  obtain ⟨r,b⟩:=h 0 x rfl;obtain ⟨ys,c,d⟩:=Rq l (s+1) λi y a=>by obtain ⟨r,b⟩:=h (i+1) y a;exact ⟨r,by rw [show s+1+i=s+(i+1) by omega];exact b⟩
  refine ⟨(x,r)::ys,by simp [c],λi y a=>?_⟩;cases i with| zero=>simp at a;subst a;exact b| succ i=>rw [show s+(i+1)=s+1+i by omega];exact d i y (by simpa using a)
end Go.Bw
end
section
namespace Go.Bw
open Go
mutual
def aaa (a:iA):∀x:cF,kh (pf a x)<=wE x| .mk op n mod nm args=>by have h:=KQ a args;simp only [pf,kh,wE];omega
def KQ (a:iA):∀l:I cF,jn (iT a l)<=g5 l| []=>c7 _| x::r=>by have b:=aaa a x;have c:=KQ a r;simp only [iT,jn,g5];omega
end
mutual
def aab (a:iA):∀x:cG,tt (pg a x)<=wS x| .mk op mod nm args body other=>by have h:=KQ a args;have b:=Dm a body;have c:=Dm a other;simp only [pg,tt,wS];omega
def Dm (a:iA):∀l:I cG,ki (gu a l)<=bC l| []=>c7 _| x::r=>by have b:=aab a x;have c:=Dm a r;simp only [gu,ki,bC];omega
end
def Rr (m:cV) (fs:I<|I ar×I dB):∀l:I gU,nz (l.map<|rr m fs)<=wP l| []=>c7 _| p::r=>by have a:=Rr m fs r;have b:=Dm (dd m fs<|p.params++p.aX) p.body;simp only [nt,nz,AG,wP,rr];omega
variable {bD:cV}
def aac {fs:I<|I ar×I dB}:vK (jL bD fs).1<=wM bD:=by
 have a:vK mb<=wM bD:=by show 1<=_;unfold wM;omega
 unfold jL;split;·exact a
 ·split;·exact a
  ·split;·exact a
   ·split;·exact a
    ·have b:=Rr bD fs bD.procs;have c:=Dm (dd bD fs []) bD.main;show vK (fi bD fs)<=wM bD;simp only [vK,fi,wM];omega
abbrev j4:=I ar×I dB
def iN:I (I ar×j4)->I ar->j4| [],_=>([],[])| (k,f)::r,s=>if k=s then f else iN r s
def jR (M:I<|I ar×j4) (m:cV):aI×ac:= if (eW m).2≠0 then (mb,(eW m).2) else jL m (m.aN.map<|iN M)
def jD:I cV->I (I ar×j4)->I aI×ac| [],_=>([],0)| m::r,M=>if (jR M m).2≠0 then ([],(jR M m).2) else if (jD r<|(m.nm,(eW m).1)::M).2≠0 then ([],(jD r<|(m.nm,(eW m).1)::M).2) else ((jR M m).1::(jD r<|(m.nm,(eW m).1)::M).1,0)
variable {dh:I cV} {sG:I<|I ar×j4}
def aad (h:¬(jR sG bD).2=0):jD (bD::dh) sG=([],(jR sG bD).2):=by rw [jD,aD h]
def Oz:∀(l:I cV) (M:I<|I ar×j4),(jD l M).1.length<=l.length
 | [],_=>c7 _
 | m::r,M=>by
  have:=Oz r<|(m.nm,(eW m).1)::M;rw [jD];split;·simp
  ·split;·simp
   ·simp;omega
def Rt {b:Z}:∀(l:I cV) (M:I<|I ar×j4),(∀m ∈ l,wM m<=b)->∀u ∈ (jD l M).1,vK u<=b
 | [],_,_,u,a=>by simp [jD] at a
 | m::r,M,h,u,a=>by
  rw [jD] at a;split at a;·simp at a
  ·rename_i c;split at a;·simp at a
   ·rcases eR.1 a with e | a
    ·subst e;unfold jR at c ⊢;split;·rename_i d;rw [aD d] at c;exact absurd d c
     ·exact pG aac<|h m aK
    ·exact Rt r _ (λx f=>h x (by simp [f])) u a
def we (us:I aI) (q:I aI×ac):I aI×ac:=if q.2≠0 then ([],q.2) else (us++q.1,0)
def Ru (l:I cV) (M:I<|I ar×j4):jD l M=we [] (jD l M):=by
 cases l with
 | nil=>rfl
 | cons m r=>
  rw [jD];unfold we;by_cases h:(jR M m).2≠0;·rw [aD h,aD h]
  ·rw [aj h];by_cases a:(jD r<|(m.nm,(eW m).1)::M).2≠0;·rw [aD a,aD a]
   ·rw [aj a];simp
def Rv {us:I aI}    (h:¬(jR sG bD).2=0):we us (jD (bD::dh) sG)=([],(jR sG bD).2):=by rw [aad h,we,aD h]
def KR {us:I aI}  {r:I cV}  (h:(jR sG bD).2=0):we us (jD (bD::r) sG)=we (us++[(jR sG bD).1]) (jD r<|(bD.nm,(eW bD).1)::sG):=by
 rw [jD,aj (by rw [h];simp)];unfold we;by_cases a:(jD r<|(bD.nm,(eW bD).1)::sG).2≠0;·rw [aD a,aD a,aD a]
 ·rw [aj a,aj a,aj aK];simp
def KS (h:¬(eW bD).2=0):jR sG bD=(mb,(eW bD).2):=by rw [jR,aD h]
def Rw {M:I<|I ar×j4}  (h:(eW bD).2=0):jR M bD=jL bD (bD.aN.map<|iN M):=by rw [jR,aj (by rw [h];simp)]
def KT {α:Type} {f:α->ac}:∀{l:I α} {i:Z} {x:α},(∀s ∈ l.take i,f s=0)->l[i]? = aa x->¬f x=0->jk f l=f x| [],i,x,_,h,_=>by simp at h| y::l,0,x,_,h,a=>by rw [mB] at h;injection h with h;subst h;rw [jk,er,aj a]| y::l,i+1,x,b,h,a=>by rw [lh] at h;rw [jk,er,aD<|b y aK];exact KT (λs c=>b s (by simp [c])) h a
abbrev mr:=I ar
def aae (l:I mr):ac:=jk (λs=>(hJ s).2) l
def jE (l:I mr):I cV:=l.map λs=>(hJ s).1
def nH (ms:I cV) (d:I Z):I cV:=d.filterMap λi=>ms[i]?
def qW (l:I mr):ac:=if l.length<1\/4<l.length then 2 else aae l
def tO (l:I mr) (q:I Z×ac):I aI×ac:=if q.2≠0 then ([],q.2) else jD (nH (jE l) q.1) []
def Dn (l:I aI):ac:=jk (λu=>(bI u).2) l
def j5 (r:I aI×ac):(I cK×ac)×ac:=if r.2≠0 then (([],0),r.2) else if Dn r.1≠0 then (([],0),Dn r.1) else iu (r.1.map λu=>(bI u).1.to)
variable {xB:I mr}
def KU (h:qW xB=0):(1<=xB.length/\xB.length<=4)/\∀s ∈ xB,(hJ s).2=0:=by
 unfold qW at h;split at h;·cases h
 ·exact ⟨ai,sf.1 h⟩
def Rx (b:1<=xB.length/\xB.length<=4) (a:∀s ∈ xB,(hJ s).2=0):qW xB=0:=by rw [qW,aj ai];exact sf.2 a
def aaf {d:I Z} {k i:Z}  (h:d[k]? = aa i) (b:dh[i]? = aa bD):nH dh (d.drop k)=bD::nH dh (d.drop<|k+1):=by
 have a:=(cN.1 h).1;unfold nH;rw [qr a,Ig];have:d[k]=i:=by rw [cy a] at h;injection h
 rw [this,b]
end Go.Bw
end
section
namespace Go.Bw
open Go
structure Ry (mu:I e7) (k:ac) (x:dB):Prop where
 pos:0<=k
 kind:(x.kind=1/\0<=x.n/\x.n<=1099511627775)\/(x.kind=2/\ls mu k x.pl 1=ad)\/(x.kind=3/\1<=x.n/\x.n<=32/\ls mu k x.pl x.n=ad)\/(x.kind=4/\k4 mu k x.pl x.n=ad)
def xC (mu:I e7) (m:cV) (fs:I j4) (aX:I Tx):Prop:=∀mod nm k it,gV (dd m fs aX) mod nm=aa (k,it)->(k = -1/\0<=it.pl/\it.pl<(aX.length:ac))\/Ry mu k it
section
variable {m:cV} {aX:I Tx} {fs:I j4} {mu:I e7}
variable {bR dK:Tx} {e9:I cF} {bE:Z}
def aag (t:xC mu m fs aX) {op n:ac}    (j:xz op n bR dK e9 bE) (a:(ez (dd m fs aX) op n bR dK e9.length).e=0) :
   node1 mu aX.length (ez (dd m fs aX) op n bR dK e9.length).op (ez (dd m fs aX) op n bR dK e9.length).n (ez (dd m fs aX) op n bR dK e9.length).m (ez (dd m fs aX) op n bR dK e9.length).pl e9.length=ad:=by
 have x:=j.kind;have g:=j.num;have d:=j.hD;by_cases i:fL op 3 5=ad
 ·have o:op=3\/op=4\/op=5:=by unfold fL at i;simp at i;omega
  have f:n=0:=by unfold lN at g;have:¬op=1:=ai;simpa [this] using g
  unfold ez at a ⊢;rw [aD i] at a ⊢;cases l:gV (dd m fs aX) bR dK with
  | none=>rw [l] at a;cases a
  | some q=>
   obtain ⟨k,it⟩:=q;rw [l] at a;dsimp only at a ⊢;rcases t bR dK k it l with ⟨rfl,u,v⟩ | hi
   ·rw [aD rfl] at a ⊢;have w:op=3:=by
     dsimp only at a;split at a;·assumption
     ·cases a
    subst w;have b:=mq d a8;rw [show ll 3=0 from rfl] at b;unfold node1 gT;simp [f,b,u,v]
   ·have y:=hi.pos;rw [aj ai] at a ⊢;rcases o with rfl | rfl | rfl
    ·have b:=mq d a8;rw [show ll 3=0 from rfl] at b;rcases hi.kind with ⟨e,c⟩ | ⟨e,c⟩ | ⟨e,c⟩ | ⟨e,c⟩;·rw [aD ⟨rfl,e⟩];unfold node1;simp [b];omega
     ·rw [aj ai,aD ⟨rfl,e⟩];have:=c;unfold node1;simp [b,f,this]
     ·rw [aj ai,aj ai,aj ai,aj ai] at a;cases a
     ·rw [aj ai,aj ai,aj ai,aj ai] at a;cases a
    ·have b:=mq d a8;rw [show ll 4=1 from rfl] at b;rw [aj ai,aj ai] at a ⊢;rcases hi.kind with ⟨e,c⟩ | ⟨e,c⟩ | ⟨e,c⟩ | ⟨e,c⟩;·rw [aj ai,aj ai] at a;cases a
     ·rw [aj ai,aj ai] at a;cases a
     ·rw [aD ⟨rfl,e⟩];have:=c.2.2;unfold node1 tm;simp [b,this];omega
     ·rw [aj ai,aj ai] at a;cases a
    ·rw [aj ai,aj ai,aj ai] at a ⊢;rcases hi.kind with ⟨e,c⟩ | ⟨e,c⟩ | ⟨e,c⟩ | ⟨e,c⟩;·rw [aj ai] at a;cases a
     ·rw [aj ai] at a;cases a
     ·rw [aj ai] at a;cases a
     ·rw [aD ⟨rfl,e⟩] at a ⊢;dsimp only at a ⊢;have b:it.n=(e9.length:ac):=by
       split at a;·assumption
       ·cases a
      have:=c;rw [b] at this;unfold node1;simp [f,this]
 ·have o:¬(op=3\/op=4\/op=5):=λh=>i (by unfold fL;simp;omega);unfold ez;rw [aj i];dsimp only;by_cases c:op=1;·subst c;have b:=mq d a8;rw [show ll 1=0 from rfl] at b;unfold lN at g;unfold node1;simp [b] at g ⊢;omega
  ·have f:n=0:=by unfold lN at g;simpa [c] using g
   by_cases p:op=2;·subst p;have b:=mq d a8;rw [show ll 2=0 from rfl] at b;unfold node1;simp [f,b]
   ·by_cases r:op=6;·subst r;have b:=mq d a8;rw [show ll 6=1 from rfl] at b;unfold node1;simp [f,b]
    ·have s:ll op=2:=by unfold ll;rw [aj ai,aj ai,aj ai]
     have b:=mq d (by rw [s];decide);rw [s] at b;unfold node1;rw [aj c,aj ai,aj ai,aj ai,aj ai,aj p,aj r,aD ai];simp [f,b]
mutual
def aah (b:xC mu m fs aX):∀(x:cF) (d:Z),(cM x d).aM=0->mc (dd m fs aX) x=0->k5 mu aX.length (pf (dd m fs aX) x) d=ad
 | .mk op n mod nm args,d,c,he=>by
  have a:=Da c;rw [w8] at he;obtain ⟨e,f⟩:=m9.1 he;rw [Jb,k5];have g:(iT (dd m fs aX) (cF.mk op n mod nm args).args).length=args.length:=by rw [Ax,fB];rfl
  rw [g];have h:=aag b a e;have i:=KV b args (d+1) a.sub f;rw [jG a.deep];show (node1 _ _ (ez (dd m fs aX) op n mod nm args.length).op (ez (dd m fs aX) op n mod nm args.length).n (ez (dd m fs aX) op n mod nm args.length).m (ez (dd m fs aX) op n mod nm args.length).pl args.length&&hZ _ _ (iT (dd m fs aX) args) (d+1))=ad;rw [h,i];rfl
def KV (a:xC mu m fs aX):∀(l:I cF) (d:Z),(gg l d).aM=0->kf (dd m fs aX) l=0->hZ mu aX.length (iT (dd m fs aX) l) d=ad| [],d,_,_=>by rw [iT,hZ]| x::r,d,b,he=>by unfold gg at b;unfold kf at he;obtain ⟨c1,c2⟩:=iX b;obtain ⟨c,e⟩:=m9.1 he;rw [iT,hZ,aah a x d c1 c,KV a r d c2 e];rfl
end
def aai (v:xC mu m fs aX) {op:ac}   {body other:I cG}  (p:jw op bR dK e9 body other bE) (a:(a7 (dd m fs aX) op bR dK e9.length).e=0) :
   (a7 (dd m fs aX) op bR dK e9.length).op=op/\gC mu aX.length (a7 (dd m fs aX) op bR dK e9.length).op (a7 (dd m fs aX) op bR dK e9.length).n (a7 (dd m fs aX) op bR dK e9.length).m (a7 (dd m fs aX) op bR dK e9.length).pl e9.length body.length other.length=ad:=by
 have y:=p.kind;have j:=p.hD;have l:=p.form;have o:(op≠4/\op≠5->body.length=0)/\(op≠4->other.length=0):=by
  unfold o' inner at l;simp at l;refine ⟨λh=>?_,λh=>?_⟩;·have:=l.1 h.1 h.2;simp [this]
  ·have:=l.2 h;simp [this]
 by_cases g:fL op 1 3=ad
 ·have r:op=1\/op=2\/op=3:=by unfold fL at g;simp at g;omega
  have f:body.length=0:=o.1 ai;have d:other.length=0:=o.2 ai;unfold a7 at a ⊢;rw [aD g] at a ⊢;cases s:gV (dd m fs aX) bR dK with
  | none=>rw [s] at a;cases a
  | some q=>
   obtain ⟨k,it⟩:=q;rw [s] at a;dsimp only at a ⊢;rcases v bR dK k it s with ⟨rfl,w,x⟩ | hi
   ·rcases r with rfl | rfl | rfl;·have b:=mq j a8;rw [show rm 1=1 from rfl] at b;rw [aD ⟨rfl,bB rfl⟩];refine ⟨O,?_⟩;unfold gC gT;simp [b,f,d,w,x]
    ·rw [aj ai,aD rfl] at a;cases a
    ·rw [aj ai,aD rfl] at a;cases a
   ·have z:=hi.pos;rcases r with rfl | rfl | rfl
    ·have b:=mq j a8;rw [show rm 1=1 from rfl] at b;rcases hi.kind with ⟨e,c⟩ | ⟨e,c⟩ | ⟨e,c⟩ | ⟨e,c⟩;·rw [aj ai,aj ai,aj ai,aj ai] at a;cases a
     ·rw [aD ⟨rfl,be e⟩];have:=c;refine ⟨O,?_⟩;unfold gC;simp [b,f,d,this]
     ·rw [aj ai,aj ai,aj ai,aj ai] at a;cases a
     ·rw [aj ai,aj ai,aj ai,aj ai] at a;cases a
    ·have b:=mq j a8;rw [show rm 2=2 from rfl] at b;rw [aj ai,aj ai] at a ⊢;rcases hi.kind with ⟨e,c⟩ | ⟨e,c⟩ | ⟨e,c⟩ | ⟨e,c⟩;·rw [aj ai,aj ai] at a;cases a
     ·rw [aj ai,aj ai] at a;cases a
     ·rw [aD ⟨rfl,e⟩];have:=c.2.2;refine ⟨O,?_⟩;unfold gC tm;simp [b,f,d,this];omega
     ·rw [aj ai,aj ai] at a;cases a
    ·rw [aj ai,aj ai,aj ai] at a ⊢;rcases hi.kind with ⟨e,c⟩ | ⟨e,c⟩ | ⟨e,c⟩ | ⟨e,c⟩;·rw [aj ai] at a;cases a
     ·rw [aj ai] at a;cases a
     ·rw [aj ai] at a;cases a
     ·rw [aD ⟨rfl,e⟩] at a ⊢;dsimp only at a ⊢;have b:it.n=(e9.length:ac):=by
       split at a;·assumption
       ·cases a
      have:=c;rw [b] at this;refine ⟨O,?_⟩;unfold gC;simp [f,d,this]
 ·have r:¬(op=1\/op=2\/op=3):=λh=>g (by unfold fL;simp;omega);unfold a7;rw [aj g];dsimp only;refine ⟨O,?_⟩;have u:rm op=1:=by unfold rm;rw [aj ai,aj ai]
  have b:=mq j (by rw [u];decide);rw [u] at b;unfold gC;rw [aj ai,aj ai,aj ai];by_cases i:op=4;·rw [aD i];simp [b]
  ·have d:=o.2 i;by_cases t:op=5;·rw [aj i,aD t];simp [b,d]
   ·have f:=o.1 ⟨i,t⟩;rw [aj i,aj t,aD ai];simp [b,d,f]
mutual
def aaj (b:xC mu m fs aX):∀(x:cG) (d:Z),(jg x d).aM=0->lq (dd m fs aX) x=0->lR mu aX.length (pg (dd m fs aX) x) d=ad
 | .mk op mod nm args body other,d,j,he=>by
  have c:=Db j;rw [uv] at he;obtain ⟨k,e⟩:=m9.1 he;obtain ⟨e,f⟩:=m9.1 e;obtain ⟨f,l⟩:=m9.1 f;rw [Jc,lR];have o:(iT (dd m fs aX) args).length=args.length:=by rw [Ax,fB]
  have p:(gu (dd m fs aX) body).length=body.length:=by rw [uw,fB]
  have q:(gu (dd m fs aX) other).length=other.length:=by rw [uw,fB]
  obtain ⟨r,s⟩:=aai b c k;have t:=KV b args 1 c.exprs e;show (gC _ _ (a7 (dd m fs aX) op mod nm args.length).op (a7 (dd m fs aX) op mod nm args.length).n (a7 (dd m fs aX) op mod nm args.length).m (a7 (dd m fs aX) op mod nm args.length).pl (iT (dd m fs aX) args).length (gu (dd m fs aX) body).length (gu (dd m fs aX) other).length&&(hZ _ _ (iT (dd m fs aX) args) 1&&((!(tn (a7 (dd m fs aX) op mod nm args.length).op)||(decide (d+1<=6)&&(decide ((gu (dd m fs aX) body).length<=10)&&g8 _ _ (gu (dd m fs aX) body) (d+1))))&&(!(decide<|0<(gu (dd m fs aX) other).length)||(decide (d+1<=6)&&(decide ((gu (dd m fs aX) other).length<=10)&&g8 _ _ (gu (dd m fs aX) other) (d+1)))))))=ad;rw [o,p,q,s,t,r];simp only [yc];refine bz.2 ⟨?_,?_⟩
  ·by_cases a:tn op=ad;·obtain ⟨g,h,i⟩:=A_<|c.body (by rw [show inner op=ad from a];rfl);rw [jG g,jG h,xI b body (d+1) i f];simp
   ·simp [a]
  ·by_cases a:0<other.length;·obtain ⟨g,h,i⟩:=A_<|c.other a;rw [jG g,jG h,xI b other (d+1) i l];simp
   ·rw [tb a];rfl
def xI (a:xC mu m fs aX):∀(l:I cG) (d:Z),(bf l d).aM=0->g7 (dd m fs aX) l=0->g8 mu aX.length (gu (dd m fs aX) l) d=ad| [],d,_,_=>by rw [gu,g8]| x::r,d,b,he=>by unfold bf at b;unfold g7 at he;obtain ⟨c1,c2⟩:=iX b;obtain ⟨c,e⟩:=m9.1 he;rw [gu,g8,aaj a x d c1 c,xI a r d c2 e];rfl
end
def ON (a:xC mu m fs aX) {l:I cG} (b:(bM l 1).aM=0) (c:g7 (dd m fs aX) l=0):bX mu aX.length (gu (dd m fs aX) l) 1=ad:=by obtain ⟨d,e,f⟩:=A_ b;unfold bX;rw [uw,fB,<-uw,jG d,jG e,xI a l 1 f c];rfl
end
end Go.Bw
end
section
namespace Go.Bw
open Go
def sH (ms:I cV) (n:Z) (M:I<|mr×j4):I<|mr×j4:=((ms.take n).map λm=>(m.nm,(eW m).1)).reverse++M
def RA:∀{ms:I cV} {M:I<|mr×j4} {us:I aI},jD ms M=(us,0)->us.length=ms.length/\∀(n:Z) (m:cV),ms[n]? = aa m->(jR (sH ms n M) m).2=0/\us[n]? = aa (jR (sH ms n M) m).1
 | [],M,us,h=>by rw [jD] at h;injection h with h _;subst h;exact ⟨O,λn m f=>by simp at f⟩
 | m::r,M,us,h=>by
  rw [jD] at h;split at h;·rename_i b;injection h with _ c;exact absurd c b
  ·rename_i b;split at h;·rename_i d;injection h with _ c;exact absurd c d
   ·rename_i d;injection h with h _;subst h;have g:(jD r<|(m.nm,(eW m).1)::M).2=0:=by simpa using d
    obtain ⟨k1,k2⟩:=RA (ms:=r) (M:=(m.nm,(eW m).1)::M) (us:=(jD r<|(m.nm,(eW m).1)::M).1)<|Prod.ext rfl g;refine ⟨by simp [k1],λn x a=>?_⟩;cases n with
    | zero=>simp at a;subst a;exact ⟨by simpa [sH] using b,by simp [sH]⟩
    | succ n=>
     rw [lh] at a ⊢;have e:sH (m::r) (n+1) M=sH r n ((m.nm,(eW m).1)::M):=by simp [sH]
     rw [e];exact k2 n x a
variable {bD:cV}
def aak {M:I<|mr×j4}  (h:(jR M bD).2=0):(eW bD).2=0/\(jR M bD).1=fi bD (bD.aN.map<|iN M)/\qI bD.aN (bD.aN.map<|iN M)=ad/\oC bD (bD.aN.map<|iN M)=0:=by
 by_cases a:(eW bD).2=0
 ·rw [Rw a] at h ⊢;refine ⟨a,?_⟩;unfold jL at h ⊢;rw [aj (by rw [a];simp)] at h ⊢;rw [aj aK] at h ⊢;split at h;·cases h
  ·rename_i c;rw [aj c];split at h;·rename_i b;exact absurd h b
   ·rename_i b;rw [aj b];exact ⟨O,by simpa using c,by simpa using b⟩
 ·rw [KS a] at h;exact absurd h a
def RB {f:mr->j4}:∀{us:I mr},qI us (us.map f)=ad->∀s ∈ us,pc (f s).1 (f s).2=0/\(f s).1=s
 | [],_,s,a=>by simp at a
 | u::us,h,s,a=>by
  rw [nt] at h;unfold qI at h;simp only [eI,j8] at h;rcases eR.1 a with e | a;·subst e;exact h.1
  ·exact RB h.2 s a
def RC:∀(M:I<|mr×j4) (s:mr),(∃p ∈ M,p.1=s/\p.2=iN M s)\/iN M s=([],[])
 | [],s=>be rfl
 | (k,f)::r,s=>by
  unfold iN;by_cases e:k=s;·rw [aD e];exact bB ⟨(k,f),aK,e,rfl⟩
  ·rw [aj e];rcases RC r s with ⟨p,a,h⟩ | h;·exact bB ⟨p,by simp [a],h⟩
   ·exact be h
variable {sI:mr}
def aal {l:I dB} (h:pc sI l=0):gG sI=ad:=by
 unfold pc at h;split at h;·cases h
 ·split at h;·rename_i a;simp only [eI,BZ,kG,ML] at a;exact a.2.2
  ·cases h
variable {dh:I cV} {bE:Z}
def aam (c:pc (iN (sH dh bE []) sI).1 (iN (sH dh bE []) sI).2=0):∃(j:Z) (m':cV),j<bE/\dh[j]? = aa m'/\m'.nm=sI/\iN (sH dh bE []) sI=(eW m').1:=by
 rcases RC (sH dh bE []) sI with ⟨p,b,d,e⟩ | h
 ·unfold sH at b;rw [yd,I.mem_reverse] at b;obtain ⟨m',f,rfl⟩:=o2.1 b;obtain ⟨j,a⟩:=jd f;rw [jF] at a;split at a;·rename_i g;exact ⟨j,m',g,a,d,e.symm⟩
  ·cases a
 ·rw [h] at c;exact absurd (aal c) a8
structure i9 (ms:I cV) (us:I aI):Prop where
 len:us.length=ms.length
 nd:(ms.map (·.nm)).Nodup
 at_:∀(n:Z) (m:cV),ms[n]? = aa m->(eW m).2=0/\∃fs:I j4,us[n]? = aa (fi m fs)/\fs.length=m.aN.length/\oC m fs=0/\∀(i:Z) (s:mr),m.aN[i]? = aa s->∃(j:Z) (m':cV),j<n/\ms[j]? = aa m'/\m'.nm=s/\fs[i]? = aa (eW m').1
variable {df:I aI}
def aan (h:jD dh []=(df,0)) (f:(dh.map (·.nm)).Nodup):i9 dh df:=by obtain ⟨g,k⟩:=RA h;refine ⟨g,f,λn m l=>?_⟩;obtain ⟨k1,k2⟩:=k n m l;obtain ⟨a,b,c,d⟩:=aak k1;rw [b] at k2;refine ⟨a,_,k2,aK,d,λi s hi=>?_⟩;obtain ⟨e,_⟩:=RB c s<|aW hi;obtain ⟨j,m',o,p,q,r⟩:=aam e;exact ⟨j,m',o,p,q,by rw [fp,hi,a5,r]⟩
def xR {s:mr}:∀{l:I mr} {j k:Z},l.Nodup->l[j]? = aa s->idxOf s l k=aa (k+j)
 | [],j,k,_,h=>by simp at h
 | x::r,j,k,a,h=>by
  rw [kX] at a;unfold idxOf;cases j with
  | zero=>simp at h;subst h;simp
  | succ j=>
   rw [lh] at h;have b:¬x=s:=λe=>by subst e;exact a.1<|aW h
   rw [aj b,xR a.2 h];congr 1;omega
def RD {mod nm:mr}:∀{us:I mr} {fs:I<|I dB} {k:Z} {q:ac} {it:dB},m8 mod nm us fs k=aa (q,it)->∃(j:Z) (f:I dB),us[j]? = aa mod/\fs[j]? = aa f/\q=((k+j+1:Z):ac)/\it ∈ f
 | [],fs,k,q,it,h=>by unfold m8 at h;cases h| u::us,[],k,q,it,h=>by unfold m8 at h;cases h
 | u::us,f::fs,k,q,it,h=>by
  unfold m8 at h;have go:m8 mod nm us fs (k+1)=aa (q,it)->∃(j:Z) (g:I dB),(u::us)[j]? = aa mod/\(f::fs)[j]? = aa g/\q=((k+j+1:Z):ac)/\it ∈ g:=λh=>by obtain ⟨j,g,a,b,c,d⟩:=RD h;exact ⟨j+1,g,by simpa using a,by simpa using b,by rw [c];congr 1;omega,d⟩
  split at h
  ·rename_i e;split at h;·rename_i x i;injection h with h;injection h with l m;subst l m;exact ⟨0,f,by simp [e],aK,O,xi i⟩
   ·exact go h
  ·exact go h
def RE {ks:I e7} {i:Z} {k:e7} {m:cV} (b:ks[i]? = aa k) (hi:k.p1=ad) (f:k.data=oz m) (g:k.parts=m.procs.map λp=>(p.params.length:ac)) (h:nG m) {x:dB} (l:KN m x):Ry ks (i:ac) x:=by
 have r:=(cN.1 b).1;have s:=l_ h;have data (pl n:ac) (t:0<=pl) (a:pl+n<=oz m) (c:0<=n):ls ks (i:ac) pl n=ad:=by
  have d:oD ks (i:ac) pl=aq:=by unfold oD;simp only [kG,mC];omega
  rw [w9 d b,aD hi,f];exact jG a
 refine ⟨ai,?_⟩;rcases l.kind with ⟨e,a⟩ | ⟨e,a⟩ | ⟨e,a⟩ | ⟨e,j,p,a,c,o⟩;·exact bB ⟨e,a.1,a.2.1⟩
 ·exact be<|bB ⟨e,data _ _ a.2.1 a.2.2 a8⟩
 ·exact be<|be<|bB ⟨e,a.1,a.2.1,data _ _ a.2.2.1 a.2.2.2 ai⟩
 ·refine be<|be<|be ⟨e,?_⟩;have d:n0 ks (i:ac) x.pl=aq:=by unfold n0;simp only [kG,mC];omega
  have q:=(cN.1 c).1;rw [ux d b,aD hi,g,a,o,ku,fp,c,fB];simp;exact q
def i9.names (a:i9 dh df):fR df=dh.map (·.nm):=by
 refine r0 λn=>?_;unfold fR;rw [fp,fp];cases b:dh[n]? with
 | none=>
  have:df[n]? = ao:=by rw [MM,a.len];exact MM.1 b
  rw [this];rfl| some m=>obtain ⟨_,fs,c,_⟩:=a.at_ n m b;rw [c];rfl
def i9.kn (a:i9 dh df) {n i:Z}   (g:dh[n]? = aa bD) (d:bD.aN[i]? = aa sI) (fs:I j4):∃(j:Z) (m':cV) (b:I j4),j<n/\dh[j]? = aa m'/\m'.nm=sI/\df[j]? = aa (fi m' b)/\(fV df<|fi bD fs)[i]? = aa (ec<|fi m' b):=by
 obtain ⟨_,o,_,_,_,h⟩:=a.at_ n bD g;obtain ⟨j,m',m,c,e,_⟩:=h i sI d;obtain ⟨_,b,f,_⟩:=a.at_ j m' c;refine ⟨j,m',b,m,c,e,f,?_⟩;have hi:idxOf sI (fR df) 0=aa j:=by have:=xR (k:=0) (s:=sI) (l:=fR df) (j:=j) (by rw [a.names];exact a.nd) (by rw [a.names,fp,c,a5,e]);rw [this,lJ]
 unfold fV;rw [fp,show (fi bD fs).aN=bD.aN from rfl,d,a5];simp only [hi,f,a5,o1]
def i9.it (n:i9 dh df)  {m:cV} {fs:I j4} (t:dh[bE]? = aa m) (H:df[bE]? = aa (fi m fs)) (z:∀(i:Z) (s:mr),m.aN[i]? = aa s->∃(j:Z) (m':cV),j<bE/\dh[j]? = aa m'/\m'.nm=s/\fs[i]? = aa (eW m').1) (aX:I mr):xC (ec (fi m fs)::fV df (fi m fs)) m fs aX:=by
 intro mod nm k it h;have u:=(Dk (n.at_ bE m t).1).2.2;have kp (m:cV) (fs:I j4):(ec<|fi m fs).parts=m.procs.map λp=>(p.params.length:ac):=by unfold ec fi;simp [rr]
 unfold gV at h;split at h
 ·split at h;·rename_i i hi;injection h with h;injection h with o g;subst o g;have J:i<aX.length:=Rn hi;exact bB ⟨O,by show (0:ac)<=(i:ac);omega,by show (i:ac)<_;omega⟩
  ·obtain ⟨x,q,e⟩:=eQ.1 h;injection e with o g;subst o g;exact be<|RE (i:=0) (m:=m) O O O (kp m fs) u<|Dj u x<|xi q
 ·obtain ⟨j,f,a,b,c,d⟩:=RD h;have a:m.aN[j]? = aa mod:=a;obtain ⟨r,m',o,g,A,B⟩:=z j mod a;obtain ⟨v,K,C,k1,k2,D,L,E⟩:=n.kn t a fs;have F:r=v:=by
   have w:(dh.map (·.nm))[r]? = aa mod:=by rw [fp,g,a5,A]
   have G:(dh.map (·.nm))[v]? = aa mod:=by rw [fp,k2,a5,D]
   exact (ib (cN.1 w).1 n.nd).1<|w.trans G.symm
  subst F;rw [g] at k2;injection k2 with k2;subst k2;have b:(fs.map (·.2))[j]? = aa f:=b;rw [fp,B,a5] at b;injection b with b;subst b;have y:=(Dk (n.at_ r m' g).1).2.2;have q:it ∈ gJ m':=by
   have l:=d;unfold eW at l;split at l;·simp at l
   ·split at l;·simp at l
    ·exact (GC _ _).subset l
  have:=RE (ks:=ec (fi m fs)::fV df (fi m fs)) (i:=j+1) (m:=m') (by rw [lh];exact E) rfl rfl (kp m' C) y<|Dj y it q;rw [c,lJ];exact be this
def i9.aao (a:i9 dh df)   (b:dh[bE]? = aa bD):bD.nm ∉ bD.aN:=by
 intro d;obtain ⟨i,hi⟩:=jd d;obtain ⟨_,fs,_,_,_,e⟩:=a.at_ bE bD b;obtain ⟨j,m',k,f,g,_⟩:=e i bD.nm hi;have c:(dh.map (·.nm))[j]? = aa bD.nm:=by rw [fp,f,a5,g]
 have h:(dh.map (·.nm))[bE]? = aa bD.nm:=by rw [fp,b,a5]
 have:=(ib (cN.1 c).1 a.nd).1<|c.trans h.symm;omega
def aap (h:(eW bD).2=0):bD.aN.Nodup:=by
 unfold eW at h;split at h;·rename_i b;exact absurd h b
 ·split at h;·cases h
  ·rename_i a;exact kK.2 (by cases c:g6 bD.aN with| false=>rfl| true=>rw [c] at a;simp at a)
variable {eA:aI}
def i9.oF (b:i9 dh df)  (r:eA ∈ df):jY eA (fV df eA)=ad:=by
 obtain ⟨n,c⟩:=jd r;have t:=(cN.1 c).1;obtain ⟨m,d⟩:=bk (by rw [<-b.len];exact t);obtain ⟨h,fs,e,A,i,j⟩:=b.at_ n m d;rw [c] at e;injection e with e;subst e;have a:=(Dk h).2.2;have B:=l_ a;have C:=a.fH;unfold oC at i;obtain ⟨f,g⟩:=m9.1 i;unfold jY;have a1:tp (fi m fs).nm (fi m fs).aN=ad:=OU (by show (m.nm::m.aN).Nodup;rw [kX];exact ⟨b.aao d,aap h⟩)<|gA.2 λs u=>nF<|a.aN s u;have a2:p2 (fi m fs)=aq:=by
  unfold p2;have f:(fi m fs).parts.length=m.procs.length:=by unfold fi;simp
  have g:(fi m fs).aN.length=m.aN.length:=rfl;have v:(fi m fs).nm=m.nm:=rfl;have w:(fi m fs).data=oz m:=rfl;rw [f,g,v,w,nF a.name];simp;omega
 have a3:(fi m fs).parts.all (nw<|ec (fi m fs)::fV df (fi m fs))=ad:=by refine gA.2 λx y=>?_;obtain ⟨p,k,rfl⟩:=o2.1<|show x ∈ m.procs.map (rr m fs) from y;have l:=y_<|a.procs p k;have o:=KP f p k;unfold fZ at o;obtain ⟨_,z⟩:=m9.1 o;have q:=ON (b.it d c j<|p.params++p.aX) l.body z;rw [iy] at q;unfold nw rr;have D:=l.fH;rw [show ((p.params.length:ac)+(p.aX.length:ac))=((p.params.length+p.aX.length:Z):ac) by omega,q];simp;omega
 have a4:bX (ec (fi m fs)::fV df (fi m fs)) 0 (fi m fs).main 1=ad:=ON (aX:=[]) (b.it d c j []) a.main g;rw [a1,a2,a3,a4];rfl
def i9.ahead (a:i9 dh df):uy df=ad:=by unfold uy;refine gA.2 λn b=>?_;have c:=yb.1 b;obtain ⟨m,d⟩:=bk (by rw [<-a.len];exact c);obtain ⟨_,fs,e,_,_,f⟩:=a.at_ n m d;rw [e,a.names];refine gA.2 λs g=>?_;obtain ⟨i,hi⟩:=jd<|show s ∈ m.aN from g;obtain ⟨j,m',k1,k2,h,_⟩:=f i s hi;rw [EB];refine aW (i:=j) ?_;rw [jF,aD k1,fp,k2,a5,h]
def i9.data (b:i9 dh df):∀u ∈ df,0<=u.data/\u.data<=320:=λu d=>by obtain ⟨n,c⟩:=jd d;have e:=(cN.1 c).1;obtain ⟨m,f⟩:=bk (by rw [<-b.len];exact e);obtain ⟨g,fs,a,_⟩:=b.at_ n m f;rw [c] at a;injection a with a;subst a;exact l_ (Dk g).2.2
def qj (l:I aI):ac:=(l.map (·.data)).sum
def RF:∀{l:I aI} {r:ac},(∀u ∈ l,0<=u.data)->qj l<=r->c_ l r=ad
 | [],r,_,_=>rfl
 | u::l,r,h,d=>by
  have e:=h u aK;have f:qj (u::l)=u.data+qj l:=by simp [qj]
  have g:0<=qj l:=by
   have:∀{l:I aI},(∀u ∈ l,0<=u.data)->0<=qj l:=fun {l}=>by induction l with| nil=>intro _;simp [qj]| cons x t b=>intro h;have:=b λu a=>h u (by simp [a]);have:=h x aK;simp [qj] at *;omega
   exact this λu a=>h u (by simp [a])
  rw [c_,RF (λx c=>h x (by simp [c])) ai];simp;omega
def i9.right (a:i9 dh df) (e:1<=df.length/\df.length<=4) (c:qj df<=512):lS df=0:=by
 unfold lS;have d:g6 (fR df)=aq:=by rw [a.names];exact kK.1 a.nd
 rw [aj (by simp;omega),aj (by rw [a.ahead];decide),aj (by rw [d];decide),aj (by rw [RF (λu b=>(a.data u b).1) c];decide),aD<|gA.2 λu b=>a.oF b]
def i9.alone (a:i9 dh df)  (c:eA ∈ df):ry eA=ad:=by
 have d:=a.oF c;have e:(fV df eA).length=eA.aN.length:=by simp [fV]
 unfold ry;rw [<-e];refine PW (JI λk b=>?_) d;unfold fV at b;obtain ⟨s,_,rfl⟩:=o2.1 b;split;·rename_i i hi;cases f:df[i]? with| none=>intro h;cases h| some z=>exact vE<|a.oF<|aW f
 ·intro h;cases h
end Go.Bw
end
section
namespace Go.Bw
open Go
def xD {u:aI} (h:ry u=ad) (a:(bI u).2=0):(bI u).1=fo u/\(fo u).g.code.length<=2048:=by
 unfold bI at a ⊢;rw [aj (by rw [h];decide)] at a ⊢;split at a;·cases a
 ·rename_i b;rw [aj b];exact ⟨O,ai⟩
def dI (us:I aI):I dU:=us.map λu=>(bI u).1.to
section
variable {dh:I cV} {df:I aI}
def i9.mu (b:i9 dh df) (u:aI):∀k ∈ fV df u,Gj k:=by
 intro k a;unfold fV at a;obtain ⟨s,_,rfl⟩:=o2.1 a;split;·rename_i i hi;cases c:df[i]? with| none=>intro h;cases h| some z=>exact vE<|b.oF<|aW c
 ·intro h;cases h
variable {bE:Z} {eA:aI}
def RG (h:df[bE]? = aa eA):(dI df)[bE]? = aa (bI eA).1.to:=by unfold dI;rw [fp,h];rfl
def i9.obj (d:i9 dh df) (e:∀u ∈ df,(bI u).2=0)  {o:dU} (a:(dI df)[bE]? = aa o):∃u,df[bE]? = aa u/\o=(fo u).to/\(fo u).g.code.length<=2048:=by unfold dI at a;rw [fp] at a;obtain ⟨u,b,rfl⟩:=eQ.1 a;have c:=aW b;obtain ⟨f,h⟩:=xD (d.alone c)<|e u c;exact ⟨u,b,by rw [f],h⟩
def i9.aaq (a:i9 dh df) (c:∀u ∈ df,(bI u).2=0):g0 (dI df)=dh.map (·.nm):=by rw [<-a.names];unfold g0 dI fR;rw [zR];refine ya λu b=>?_;show (bI u).1.to.nm=u.nm;rw [(xD (a.alone b)<|c u b).1];rfl
def i9.mod (b:i9 dh df)   (c:df[bE]? = aa eA):∃(m:cV) (fs:I j4),dh[bE]? = aa m/\eA=fi m fs/\∀(i:Z) (s:mr),m.aN[i]? = aa s->∃(j:Z) (m':cV),j<bE/\dh[j]? = aa m'/\m'.nm=s/\fs[i]? = aa (eW m').1:=by have e:=(cN.1 c).1;obtain ⟨m,d⟩:=bk (by rw [<-b.len];exact e);obtain ⟨_,fs,a,_,_,f⟩:=b.at_ bE m d;rw [c] at a;injection a with a;exact ⟨m,fs,d,a,f⟩
def aar (b:i9 dh df) (d:∀u ∈ df,(bI u).2=0) {n:Z} {u:aI} (c:df[n]? = aa u):jf (dI df) n=u.parts.length:=by have a:=aW c;unfold jf;rw [RG c,a5,o1,(xD (b.alone a)<|d u a).1];show ((fo u).ge.map λn:Z=>(n:ac)).length=_;rw [fB];exact (Gn<|b.alone a).fH
def i9.link (b:i9 dh df) (ae:1<=df.length/\df.length<=4) (v:∀u ∈ df,(bI u).2=0):Kd<|dI df:=by
 have x:=b.aaq v;refine ⟨by unfold dI;rw [fB];omega,λo w=>?_,by rw [x];exact b.nd,λn o w=>?_,λn o w f F=>?_⟩;·obtain ⟨n,G⟩:=jd w;obtain ⟨u,d,rfl,y⟩:=b.obj v G;exact P_ (b.alone<|aW d) y
 ·obtain ⟨u,d,rfl,_⟩:=b.obj v w;obtain ⟨m,fs,y,rfl,D⟩:=b.mod d;unfold uR;refine gA.2 λs z=>?_;obtain ⟨i,hi⟩:=jd<|show s ∈ m.aN from z;obtain ⟨j,m',k1,k2,B,_⟩:=D i s hi;cases H:idxOf s ((g0<|dI df).take n) 0 with| some _=>rfl| none=>refine absurd ?_<|sd.1 H;rw [x];refine aW (i:=j) ?_;rw [jF,aD k1,fp,k2,a5,B]
 ·obtain ⟨u,d,rfl,_⟩:=b.obj v w;have J:=aW d;have K:=J9 (b.oF J) (by simp [fV]) λk h hi=>by have:=(b.mu u k h hi).2.1;omega
  obtain ⟨c,fx,a1,a2,_,a4,_⟩:=K.ap.more;have a2:(fo u).g.fix=fx:=by simpa using a2
  have L:f ∈ fx:=by rw [<-a2];exact F
  obtain ⟨p,i,M,N,_,O⟩:=a4 f L;have P:ko (fo u).to.code f.at_=i.a:=by show ko (fo u).g.code f.at_=_;unfold ko;rw [M,ku,N];rfl
  unfold sz;rcases O with ⟨e,_⟩ | ⟨e,_,c0,c1,c2,c3,Q⟩;·rw [e];rfl
  ·rcases e with e | e
   ·obtain ⟨q,l⟩:=Q e;have hC:n0 (ec u::fV df u) f.m i.a=aq:=by cases R:n0 (ec u::fV df u) f.m i.a with| false=>rfl| true=>rw [Cz q R] at l;cases l
    obtain ⟨⟨S,C,T⟩,af,ag⟩:=CA hC;rw [C] at l hC;obtain ⟨k,h⟩:=bk T;rw [ux hC h] at l;have key:∃(j:Z) (r:aI),df[j]? = aa r/\k=ec r/\h3 (dI df) n (fo u).to f.m=j:=by
     cases S with
     | zero=>refine ⟨n,u,d,by simpa using h.symm,?_⟩;unfold h3 qf;rw [C];rfl
     | succ t=>
      rw [lh] at h;obtain ⟨m,fs,y,rfl,D⟩:=b.mod d;have U:t<m.aN.length:=by
       have E:=(cN.1 h).1;have e:(fV df<|fi m fs).length=(fi m fs).aN.length:=by simp [fV]
       rw [e] at E;exact E
      obtain ⟨s,z⟩:=bk U;obtain ⟨j,m',ah,k1,k2,B,V,A⟩:=b.kn y z fs;rw [h] at A;injection A with A;refine ⟨j,_,V,A,?_⟩;unfold h3 qf;rw [C,show ((t+1:Z):ac).toNat=t+1 from rfl,lh,fp,show (fo<|fi m fs).to.aN=m.aN from rfl,z,a5,o1];unfold hA;have W:((g0<|dI df).take n).Nodup:=by rw [x];exact b.nd.sublist<|MN _ _
      rw [xR (k:=0) (j:=j) W (by rw [jF,aD k1,x,fp,k2,a5,B])];simp
    obtain ⟨j,r,X,rfl,Y⟩:=key;rw [Y,aar b v X,P];rw [aD<|show (ec r).p1=ad from rfl] at l;simp only [eI,cw] at l;have ab:(ec r).parts.length=r.parts.length:=by unfold ec;simp
    rw [ab] at l;rw [tb ai];simp
   ·rw [e];rfl
def i9.built (a:i9 dh df) (d:1<=df.length/\df.length<=4) (b:∀u ∈ df,(bI u).2=0):(iu<|dI df).2=2\/((iu<|dI df).2=0/\(iu<|dI df).1.2=qj df):=by
 have e:=Ke.2<|a.link d b;unfold iu;rw [aj (by rw [e];simp)];split;·exact bB O
 ·refine be ⟨O,?_⟩;show bK (dI df) (dI df).length=qj df;unfold bK v9 qj;rw [gH];unfold dI;rw [zR];congr 1;refine ya λu c=>?_;show (bI u).1.to.data=u.data;rw [(xD (a.alone c)<|b u c).1];rfl
end
end Go.Bw
end
section
namespace Go.Bw
open Go
def gP {s:Tx} {l q:Tk} (h:bG s l=aa q):l.length=q.length+1:=by
 cases l with
 | nil=>cases h
 | cons t r=>
  simp only [bG] at h;split at h;·injection h with h;subst h;rfl
  ·cases h
variable {az:ac} {bb cr:Tk}
def RH {t:Tok} (h:oO az bb=aa (t,cr)):bb.length=cr.length+1:=by
 cases bb with
 | nil=>cases h
 | cons t r=>
  simp only [oO] at h;split at h;·injection h with h;injection h with b a;subst a;rfl
  ·cases h
def u2 {a:Tx} (h:ie bb=aa (a,cr)):a.length<=8/\bb.length=cr.length+1:=by
 unfold ie at h;obtain ⟨⟨t,q⟩,d,b⟩:=dL.1 h;simp only at b;split at b;·rename_i c;simp only [gI,eJ] at b;obtain ⟨rfl,rfl⟩:=b;refine ⟨?_,RH d⟩;simp only [gN,gG,eI,cw] at c;exact c.1.1.1.2
 ·cases b
def RI (h:oP bb=aa (az,cr)):bb.length=cr.length+1:=by unfold oP at h;obtain ⟨⟨t,q⟩,b,a⟩:=eQ.1 h;simp only [eJ] at a;obtain ⟨_,rfl⟩:=a;exact RH b
def RJ {p:Tx×Tx} (h:mS bb=aa (p,cr)):p.1.length+p.2.length<=16/\cr.length+1<=bb.length:=by
 unfold mS at h;obtain ⟨⟨a,q⟩,e,c⟩:=dL.1 h;obtain ⟨i,j⟩:=u2 e;simp only at c;split at c;·rename_i k f;obtain ⟨⟨b,l⟩,g,d⟩:=eQ.1 c;simp only [eJ] at d;obtain ⟨rfl,rfl⟩:=d;obtain ⟨m,n⟩:=u2 g;have:=gP f;simp only;omega
 ·simp only [gI,eJ] at c;obtain ⟨rfl,rfl⟩:=c;simp only [jS];omega
def WB (a:Tk->aA (cF×Tk)):Prop:=∀l x r,a l=aa (x,r)->wE x+18*r.length<=18*l.length
variable {gM:Tk->aA (cF×Tk)}
def RL (c:WB gM):∀(n:Z) (l:Tk) (xs:I cF) (r:Tk),nj gM n l=aa (xs,r)->g5 xs+18*r.length<=18*l.length
 | 0,_,_,_,h=>by cases h
 | n+1,l,xs,r,h=>by
  unfold nj at h;obtain ⟨⟨x,q⟩,f,a⟩:=dL.1 h;have j:=c l x q f;simp only at a;split at a;·rename_i d b;simp only [gI,eJ] at a;obtain ⟨rfl,rfl⟩:=a;have:=gP b;simp only [g5];omega
  ·split at a;·rename_i d b;obtain ⟨⟨ys,g⟩,i,e⟩:=eQ.1 a;simp only [eJ] at e;obtain ⟨rfl,rfl⟩:=e;have:=gP b;have:=RL c n d ys g i;simp only [g5];omega
   ·cases a
def RM (a:WB gM)  {xs:I cF} (h:mT gM bb=aa (xs,cr)):g5 xs+18*cr.length<=18*bb.length:=by
 unfold mT at h;split at h;·rename_i q b;simp only [gI,eJ] at h;obtain ⟨rfl,rfl⟩:=h;have:=gP b;simp only [g5];omega
 ·exact RL a _ _ _ _ h
def OX:∀(a:I Tx) (i k:Z) (l r:Tk),qi a i l=aa (k,r)->r.length+1<=l.length
 | [],_,_,_,_,h=>by cases h
 | w::a,i,k,l,r,h=>by
  unfold qi at h;split at h;·rename_i q b;simp only [gI,eJ] at h;obtain ⟨_,rfl⟩:=h;have:=gP b;omega
  ·exact OX a _ _ _ _ h
variable {kB:cF}
def aas (c:WB gM)   (h:oQ gM bb=aa (kB,cr)):wE kB+18*cr.length<=18*bb.length:=by unfold oQ at h;obtain ⟨⟨a,m⟩,e,f⟩:=dL.1 h;obtain ⟨⟨o,n⟩,g,i⟩:=dL.1 f;obtain ⟨⟨b,p⟩,j,k⟩:=dL.1 i;obtain ⟨q,l,d⟩:=eQ.1 k;simp only [eJ] at d;obtain ⟨rfl,rfl⟩:=d;have r:=c _ _ _ e;have s:=OX _ _ _ _ _ g;have t:=c _ _ _ j;have u:=gP l;simp only [wE,g5,jS] at *;omega
def aat (d:WB gM)  {mod nm:Tx}  (k:mod.length+nm.length<=16) (h:pv gM mod nm bb=aa (kB,cr)):wE kB+18*cr.length<=17+18*bb.length:=by
 unfold pv at h;split at h;·rename_i q b;obtain ⟨⟨y,f⟩,c,a⟩:=dL.1 h;obtain ⟨l,g,e⟩:=eQ.1 a;simp only [eJ] at e;obtain ⟨rfl,rfl⟩:=e;have i:=gP b;have j:=d _ _ _ c;have m:=gP g;simp only [wE,g5] at *;omega
 ·split at h;·rename_i q b;obtain ⟨⟨xs,f⟩,c,a⟩:=eQ.1 h;simp only [eJ] at a;obtain ⟨rfl,rfl⟩:=a;have i:=gP b;have j:=RM d c;simp only [wE] at *;omega
  ·simp only [gI,eJ] at h;obtain ⟨rfl,rfl⟩:=h;simp only [wE,g5] at *;omega
def aau (c:WB gM):WB<|nk gM:=by
 intro l x r h;unfold nk at h;split at h;·rename_i q a;simp only [gI,eJ] at h;obtain ⟨rfl,rfl⟩:=h;have:=gP a;simp only [wE,g5,jS];omega
 ·split at h;·rename_i q a;obtain ⟨⟨y,i⟩,d,b⟩:=eQ.1 h;simp only [eJ] at b;obtain ⟨rfl,rfl⟩:=b;have e:=gP a;have f:=c _ _ _ d;simp only [wE,g5,jS];omega
  ·split at h;·rename_i q a;have e:=gP a;have f:=aas c h;omega
   ·obtain ⟨⟨p,q⟩,d,b⟩:=dL.1 h;obtain ⟨e,f⟩:=RJ d;have g:=aat c e b;simp only at g;omega
def CP:∀f,WB (bl f)
 | 0=>λ_ _ _ h=>by cases h
 | f+1=>by
  intro l x r h;cases l with
  | nil=>cases h
  | cons t q=>
   unfold bl at h;by_cases a:t.kind=2;·simp only [aD a,gI,eJ] at h;obtain ⟨rfl,rfl⟩:=h;simp only [wE,g5,jS,gj];omega
   ·simp only [aj a] at h;exact aau (CP f) _ _ _ h
variable {ol:cG}
def aav (h:hI bb=aa (ol,cr)):wS ol+18*cr.length<=18*bb.length:=by
 have c:=CP 6;unfold hI at h;split at h;·rename_i q a;obtain ⟨⟨x,f⟩,k,b⟩:=eQ.1 h;simp only [eJ] at b;obtain ⟨rfl,rfl⟩:=b;have n:=gP a;have g:=c _ _ _ k;simp only [wS,g5,bC,jS];omega
 ·split at h;·rename_i q a;obtain ⟨⟨x,f⟩,k,b⟩:=eQ.1 h;simp only [eJ] at b;obtain ⟨rfl,rfl⟩:=b;have n:=gP a;have g:=c _ _ _ k;simp only [wS,g5,bC,jS];omega
  ·obtain ⟨⟨⟨mod,nm⟩,q⟩,b,d⟩:=dL.1 h;obtain ⟨s,n⟩:=RJ b;simp only at d s;split at d;·rename_i f a;obtain ⟨⟨xs,o⟩,t,e⟩:=eQ.1 d;simp only [eJ] at e;obtain ⟨rfl,rfl⟩:=e;have g:=gP a;have p:=RM c t;simp only [wS,bC];omega
   ·split at d;·rename_i f a;obtain ⟨⟨i,o⟩,e,l⟩:=dL.1 d;obtain ⟨y,m,j⟩:=dL.1 l;obtain ⟨z,u,v⟩:=dL.1 j;obtain ⟨⟨x,A⟩,w,r⟩:=eQ.1 v;simp only [eJ] at r;obtain ⟨rfl,rfl⟩:=r;have g:=gP a;have p:=c _ _ _ e;have B:=gP m;have C:=gP u;have D:=c _ _ _ w;simp only [wS,g5,bC] at *;omega
    ·obtain ⟨f,e,l⟩:=dL.1 d;obtain ⟨⟨x,o⟩,m,j⟩:=eQ.1 l;simp only [eJ] at j;obtain ⟨rfl,rfl⟩:=j;have g:=gP e;have p:=c _ _ _ m;simp only [wS,g5,bC];omega
def RO (pb:Tk->aA (I cG×Tk)):Prop:=∀l x r,pb l=aa (x,r)->bC x+18*r.length<=18*l.length
def aaw {pb:Tk->aA (I cG×Tk)} (f:RO pb)   (h:gL pb bb=aa (ol,cr)):wS ol+18*cr.length<=18*bb.length:=by
 have k:=CP 6;unfold gL at h;split at h
 ·rename_i q g;obtain ⟨⟨x,l⟩,i,c⟩:=dL.1 h;obtain ⟨⟨b,r⟩,d,a⟩:=dL.1 c;have m:=gP g;have j:=k _ _ _ i;have n:=f _ _ _ d;simp only at a j n;split at a
  ·rename_i u s;obtain ⟨⟨o,v⟩,t,e⟩:=dL.1 a;have w:=gP s;have y:=f _ _ _ t;simp only at e;split at e;·cases e
   ·simp only [gI,eJ] at e;obtain ⟨rfl,rfl⟩:=e;simp only [wS,g5,jS] at *;omega
  ·simp only [gI,eJ] at a;obtain ⟨rfl,rfl⟩:=a;simp only [wS,g5,bC,jS] at *;omega
 ·split at h;·rename_i q g;obtain ⟨⟨x,l⟩,i,c⟩:=dL.1 h;obtain ⟨⟨b,r⟩,d,a⟩:=eQ.1 c;simp only [eJ] at a;obtain ⟨rfl,rfl⟩:=a;have m:=gP g;have j:=k _ _ _ i;have n:=f _ _ _ d;simp only [wS,g5,bC,jS] at *;omega
  ·obtain ⟨⟨z,q⟩,c,d⟩:=dL.1 h;obtain ⟨l,a,p⟩:=eQ.1 d;simp only [eJ] at p;obtain ⟨rfl,rfl⟩:=p;have m:=aav c;have j:=gP a;simp only at *;omega
def RP {ps:Tk->aA (cG×Tk)} (a:∀l x r,ps l=aa (x,r)->wS x+18*r.length<=18*l.length):∀(n:Z) (l:Tk) (xs:I cG) (r:Tk),pw ps n l=aa (xs,r)->bC xs+18*r.length<=18*l.length
 | 0,_,_,_,h=>by cases h
 | n+1,l,xs,r,h=>by
  unfold pw at h;split at h;·rename_i q c;simp only [gI,eJ] at h;obtain ⟨rfl,rfl⟩:=h;have:=gP c;simp only [bC];omega
  ·obtain ⟨⟨s,q⟩,d,e⟩:=dL.1 h;obtain ⟨⟨ys,f⟩,g,b⟩:=eQ.1 e;simp only [eJ] at b;obtain ⟨rfl,rfl⟩:=b;have i:=a _ _ _ d;have j:=RP a n q ys f g;simp only [bC];omega
def KX:∀f,RO (iF f)| 0=>λ_ _ _ h=>by cases h| f+1=>by intro l x r h;unfold iF at h;obtain ⟨q,a,b⟩:=dL.1 h;have d:=gP a;have e:=RP (λl x r c=>aaw (KX f) c) _ _ _ _ b;omega
def KY (l:Tk):(gD l).2.length<=l.length:=by unfold gD;cases h:bG y6 l with| none=>exact c7 _| some q=>have:=gP h;simp only [o1];omega
variable {dS:aS}
def aax {d:fd} (h:hV dS bb=aa (aa d,cr)):1+d.nm.length+18*cr.length<=18*bb.length:=by
 unfold hV at h;split at h;·rename_i q c;obtain ⟨⟨a,l⟩,u,i⟩:=dL.1 h;obtain ⟨m,e,f⟩:=dL.1 i;obtain ⟨⟨n,v⟩,b,j⟩:=dL.1 f;obtain ⟨w,k,g⟩:=eQ.1 j;simp only [eJ,gI] at g;obtain ⟨rfl,rfl⟩:=g;have o:=gP c;obtain ⟨p,r⟩:=u2 u;have s:=gP e;have x:=RI b;have y:=gP k;simp only at *;omega
 ·split at h;·rename_i q c;obtain ⟨⟨a,l⟩,i,e⟩:=dL.1 h;obtain ⟨m,f,b⟩:=eQ.1 e;simp only [eJ,gI] at b;obtain ⟨rfl,rfl⟩:=b;have o:=gP c;obtain ⟨p,r⟩:=u2 i;have s:=gP f;simp only at *;omega
  ·split at h;·rename_i q c;obtain ⟨⟨a,l⟩,e,f⟩:=dL.1 h;obtain ⟨m,b,j⟩:=dL.1 f;obtain ⟨⟨n,v⟩,k,g⟩:=dL.1 j;obtain ⟨w,z,A⟩:=dL.1 g;obtain ⟨C,B,t⟩:=eQ.1 A;simp only [eJ,gI] at t;obtain ⟨rfl,rfl⟩:=t;have o:=gP c;obtain ⟨p,r⟩:=u2 e;have s:=gP b;have x:=RI k;have y:=gP z;have D:=gP B;simp only at *;omega
   ·simp at h
def RQ:∀(n:Z) (dp:aS) (l:Tk) (ds:I fd) (b:aS) (r:Tk),dz n dp l=aa ((ds,b),r)->wD ds+18*r.length<=18*l.length| 0,_,_,_,_,_,h=>by cases h| n+1,dp,l,ds,b,r,h=>by unfold dz at h;obtain ⟨⟨o,q⟩,c,a⟩:=dL.1 h;cases o with| none=>have:=KB c;simp only [gI,eJ] at a;obtain ⟨⟨e,_⟩,f⟩:=a;rw [<-e,<-f,this];simp [wD]| some x=>obtain ⟨⟨⟨ys,pb⟩,i⟩,g,d⟩:=eQ.1 a;simp only [eJ] at d;obtain ⟨⟨rfl,rfl⟩,rfl⟩:=d;have j:=aax c;have k:=RQ n _ _ _ _ _ g;have m:=KY q;simp only [wD] at *;omega
def RR:∀(n:Z) (first:aS) (l:Tk) (xs:I Tx) (r:Tk),cD n first l=aa (xs,r)->wN xs+18*r.length<=18*l.length
 | 0,_,_,_,_,h=>by cases h
 | n+1,first,l,xs,r,h=>by
  unfold cD at h;split at h;·rename_i q e;simp only [gI,eJ] at h;obtain ⟨rfl,rfl⟩:=h;have:=gP e;simp only [wN];omega
  ·obtain ⟨c,b,f⟩:=dL.1 h;obtain ⟨⟨a,q⟩,g,i⟩:=dL.1 f;obtain ⟨⟨ys,j⟩,k,d⟩:=eQ.1 i;simp only [eJ] at d;obtain ⟨rfl,rfl⟩:=d;have m:c.length<=l.length:=by cases first with| true=>simp only [dD,gI] at b;subst b;exact c7 _| false=>have:=gP (s:=[44]) (l:=l) (q:=c) b;omega
   obtain ⟨o,p⟩:=u2 g;have t:=RR n aq q ys j k;simp only [wN] at *;omega
def RS:∀(n:Z) (l:Tk) (xs:I Tx) (r:Tk),mn n l=aa (xs,r)->wN xs+18*r.length<=18*l.length
 | 0,_,_,_,h=>by cases h
 | n+1,l,xs,r,h=>by
  unfold mn at h;split at h;·rename_i q c;obtain ⟨⟨a,m⟩,d,e⟩:=dL.1 h;obtain ⟨f,g,i⟩:=dL.1 e;obtain ⟨⟨ys,j⟩,k,b⟩:=eQ.1 i;simp only [eJ] at b;obtain ⟨rfl,rfl⟩:=b;have o:=gP c;obtain ⟨p,s⟩:=u2 d;have t:=gP g;have u:=RS n f ys j k;simp only [wN] at *;omega
  ·simp only [gI,eJ] at h;obtain ⟨rfl,rfl⟩:=h;simp [wN]
def RT:∀(n:Z) (l:Tk) (xs:I Tx) (r:Tk),mU n l=aa (xs,r)->wN xs+18*r.length<=18*l.length
 | 0,_,_,_,h=>by cases h
 | n+1,l,xs,r,h=>by
  unfold mU at h;split at h;·rename_i q c;obtain ⟨⟨a,m⟩,d,e⟩:=dL.1 h;obtain ⟨f,g,i⟩:=dL.1 e;obtain ⟨⟨ys,j⟩,k,b⟩:=eQ.1 i;simp only [eJ] at b;obtain ⟨rfl,rfl⟩:=b;have o:=gP c;obtain ⟨p,s⟩:=u2 d;have t:=gP g;have u:=RT n f ys j k;simp only [wN] at *;omega
  ·simp only [gI,eJ] at h;obtain ⟨rfl,rfl⟩:=h;simp [wN]
def aay {p:gU} (h:lC dS bb=aa (p,cr)):p.nm.length+wN p.params+wN p.aX+bC p.body+18*cr.length<=18*bb.length:=by unfold lC at h;obtain ⟨⟨a,n⟩,d,e⟩:=dL.1 h;obtain ⟨o,f,g⟩:=dL.1 e;obtain ⟨⟨ps,q⟩,i,j⟩:=dL.1 g;obtain ⟨⟨r,s⟩,k,l⟩:=dL.1 j;obtain ⟨⟨b,t⟩,m,c⟩:=eQ.1 l;simp only [eJ] at c;obtain ⟨rfl,rfl⟩:=c;obtain ⟨u,v⟩:=u2 d;have w:=gP f;have x:=RR _ _ _ _ _ i;have y:=RS _ _ _ _ k;have z:=KX 6 _ _ _ m;simp only at *;omega
def RU:∀(n:Z) (dp:aS) (l:Tk) (ds:I gU) (a:aS) (r:Tk),od n dp l=aa ((ds,a),r)->wP ds+18*r.length<=18*l.length
 | 0,_,_,_,_,_,h=>by cases h
 | n+1,dp,l,ds,a,r,h=>by
  unfold od at h;split at h;·rename_i q c;obtain ⟨⟨p,d⟩,e,f⟩:=dL.1 h;obtain ⟨⟨⟨ys,pb⟩,i⟩,g,b⟩:=eQ.1 f;simp only [eJ] at b;obtain ⟨⟨rfl,rfl⟩,rfl⟩:=b;have j:=gP c;have k:=aay e;have m:=RU n _ _ _ _ _ g;have o:=KY d;simp only [wP] at *;omega
  ·simp only [gI,eJ] at h;obtain ⟨⟨rfl,rfl⟩,rfl⟩:=h;simp [wP]
def RV {m:cV} (h:mo bb=aa (m,cr)):wM m+18*cr.length<=18*bb.length:=by
 unfold mo at h;obtain ⟨p,d,h⟩:=dL.1 h;obtain ⟨⟨a,q⟩,e,h⟩:=dL.1 h;obtain ⟨r,f,h⟩:=dL.1 h;obtain ⟨⟨us,g⟩,i,h⟩:=dL.1 h;obtain ⟨⟨⟨ds,s⟩,t⟩,j,h⟩:=dL.1 h;obtain ⟨⟨⟨ps,u⟩,v⟩,k,h⟩:=dL.1 h;simp only at h;split at h;·cases h
 ·obtain ⟨w,l,h⟩:=dL.1 h;obtain ⟨⟨b,x⟩,n,h⟩:=dL.1 h;obtain ⟨y,o,c⟩:=eQ.1 h;simp only [eJ] at c;obtain ⟨rfl,rfl⟩:=c;have z:=gP d;obtain ⟨A,B⟩:=u2 e;have C:=gP f;have D:=RT _ _ _ _ i;have E:=RQ _ _ _ _ _ _ j;have F:=KY g;have G:=RU _ _ _ _ _ _ k;have H:=gP l;have J:=KX 6 _ _ _ n;have K:=gP o;simp only [wM] at *;omega
end Go.Bw
end
section
namespace Go.Bw
open Go
def RW (l:Tk):Prop:=∀t ∈ l,t.kind=1->t.text.length<=8
structure zb (l r:Tk):Prop where
 ok:RW r
 le:r.length<=l.length
def zb.trans {a b c:Tk} (h:zb a b) (g:zb b c):zb a c:=⟨g.ok,pG g.le h.le⟩
structure aii (l:Tk) (p:cF×Tk):Prop extends zb l p.2 where
 w:wE p.1+40*p.2.length<=20+40*l.length
structure aij (l:Tk) (p:cG×Tk):Prop extends zb l p.2 where
 w:wS p.1+80*p.2.length<=80*l.length\/(p.2.length=l.length/\wS p.1<=40)
structure ah4 (l:Tk) (p:I cG×Tk):Prop extends zb l p.2 where
 w:bC p.1+80*p.2.length<=80*l.length
def KZ (pb:Tk->I cG×Tk):Prop:=∀l,RW l->ah4 l (pb l)
def RX (P:dJ) (f:FuncId) (vs:I aR) (a:I bh) (cI:I View) {ι:Type} (v:ι->aR) (b:ι->I bh) (R:ι->Prop):Prop:= Enters P f/\∀w,Ws w (a.flatMap bh.ids) a cI w->cx P f vs.toArray w λe c=>∃i,e = cf (v i)/\R i/\Ws w (a.flatMap bh.ids) (b i) cI c
def zc (P:dJ) (f:FuncId) (vs:I aR) (a:I bh) (cI:I View) {ι κ:Type} (v:ι->aR) (c:ι->I bh) (R:ι->Prop) (d:κ->I oZ) (Lp:κ->I bh) (g:κ->Prop):Prop:= Enters P f/\∀w,Ws w (a.flatMap bh.ids) a cI w->cx P f vs.toArray w λe b=>(∃i,e = cf (v i)/\R i/\Ws w (a.flatMap bh.ids) (c i) cI b)\/(∃j,e = .panicked (d j)/\g j/\Ws w (a.flatMap bh.ids) (Lp j) cI b)
def ah5 (P:dJ) (f:FuncId) (vs:I aR) (a:I bh) (cI:I View) {ι:Type} (v:ι->aR) (b:ι->I bh) (R:View->ι->Prop):Prop:= (Enters P f/\∀i,∀k ∈ (b i).flatMap bh.ids,k ∈ a.flatMap bh.ids)/\∀w,Ws w (a.flatMap bh.ids) a cI w->cx P f vs.toArray w λe c=>∃i,e = cf (v i)/\R (nv w c) i/\Ws w (a.flatMap bh.ids) (b i) cI c
def RY (P:dJ) (f:FuncId) (vs:I aR) (a:I bh) (cI:I View) {ι κ:Type} (v:ι->aR) (c:ι->I bh) (R:View->ι->Prop) (d:κ->I oZ) (Lp:κ->I bh) (g:κ->Prop):Prop:= (Enters P f/\∀i,∀k ∈ (c i).flatMap bh.ids,k ∈ a.flatMap bh.ids)/\∀w,Ws w (a.flatMap bh.ids) a cI w->cx P f vs.toArray w λe b=>(∃i,e = cf (v i)/\R (nv w b) i/\Ws w (a.flatMap bh.ids) (c i) cI b)\/(∃j,e = .panicked (d j)/\g j/\Ws w (a.flatMap bh.ids) (Lp j) cI b)
section
variable {P:dJ} {ops:bH cg} {Q:di->cY->aP->Prop} {n:Z} {ds:I fw} {l:I<|Z×aR} {w0:aP} {F:I Z} {L:I bh} {Vs:I View} {rest:I cg} {d:Z} {ty:cn} {pos:fO} {af:bH fY} {g:aA<|Z×aS} {ι κ:Type} {f:FuncId} {args:bH ei} {ts:bH cn} {vs:I aR} {L1 L2:I bh} {cI:I View} {v:ι->aR} {sK:ι->I bh} {ch:κ->I oZ} {Lp:κ->I bh} {Rp:κ->Prop}
def WL.kw {R:ι->Prop} (hC:RX P f vs L1 cI v sK R) (a:∀i,R i->WL P ops Q n ds ((d,v i)::l) (Ws w0 F (sK i++L2) Vs) rest) (b:h' l args.toList=aa vs:=by rfl) (hL:L=L1++L2:=by rfl) (c:∀e ∈ cI,e ∈ Vs:=by simp) (h:eS ops l g:=by first|exact bB rfl|exact be ⟨_,_,_,rfl,rfl,rfl⟩) (j:e' d n=ad:=by rfl) : WL P ops Q n ds l (Ws w0 F L Vs)<|⟨aa d,.call ⟨.value<|.func f,args,ts⟩,ty,pos,af,g⟩::rest:=Lw L1 L2 h j hC.1 b hL v sK R cI c hC.2 a
def WL.kx {R:ι->Prop} (hC:zc P f vs L1 cI v sK R ch Lp Rp) (a:∀j,Rp j->WE Q (.panic<|ch j) n ds l (Ws w0 F (Lp j++L2) Vs)) (b:∀i,R i->WL P ops Q n ds ((d,v i)::l) (Ws w0 F (sK i++L2) Vs) rest) (c:h' l args.toList=aa vs:=by rfl) (hL:L=L1++L2:=by rfl) (e:∀h ∈ cI,h ∈ Vs:=by simp) (k:eS ops l g:=by first|exact bB rfl|exact be ⟨_,_,_,rfl,rfl,rfl⟩) (m:e' d n=ad:=by rfl) : WL P ops Q n ds l (Ws w0 F L Vs)<|⟨aa d,.call ⟨.value<|.func f,args,ts⟩,ty,pos,af,g⟩::rest:=bU L1 L2 k m hC.1 c hL v sK R ch Lp Rp cI e hC.2 a b
def WL.kd {R:View->ι->Prop} (hC:ah5 P f vs L1 cI v sK R) (b:∀a i,hf w0 a->R a i->WL P ops Q n ds ((d,v i)::l) (Ws w0 F (sK i++L2)<|a::Vs) rest) (c:h' l args.toList=aa vs:=by rfl) (hL:L=L1++L2:=by rfl) (e:∀a ∈ cI,a ∈ Vs:=by simp) (h:eS ops l g:=by first|exact bB rfl|exact be ⟨_,_,_,rfl,rfl,rfl⟩) (j:e' d n=ad:=by rfl) : WL P ops Q n ds l (Ws w0 F L Vs)<|⟨aa d,.call ⟨.value<|.func f,args,ts⟩,ty,pos,af,g⟩::rest:=Wu L1 L2 h j hC.1.1 c hL v sK R cI e hC.1.2 hC.2 b
def WL.ke {R:View->ι->Prop} (hC:RY P f vs L1 cI v sK R ch Lp Rp) (b:∀j,Rp j->WE Q (.panic<|ch j) n ds l (Ws w0 F (Lp j++L2) Vs)) (c:∀a i,hf w0 a->R a i->WL P ops Q n ds ((d,v i)::l) (Ws w0 F (sK i++L2)<|a::Vs) rest) (e:h' l args.toList=aa vs:=by rfl) (hL:L=L1++L2:=by rfl) (h:∀a ∈ cI,a ∈ Vs:=by simp) (k:eS ops l g:=by first|exact bB rfl|exact be ⟨_,_,_,rfl,rfl,rfl⟩) (m:e' d n=ad:=by rfl) : WL P ops Q n ds l (Ws w0 F L Vs)<|⟨aa d,.call ⟨.value<|.func f,args,ts⟩,ty,pos,af,g⟩::rest:=ro L1 L2 k m hC.1.1 e hL v sK R ch Lp Rp cI h hC.1.2 hC.2 b c
end
end Go.Bw
end
section
namespace Go.Proofs
open Go.Shelf
def Tryz.aaB:Go.Shelf.Ren:=⟨fun| 137=>258| 217=>312| 266=>348| n=>n,fun| 9=>9| 5=>5| 3=>3| n=>n,fun| n=>n⟩
def Tryz.aaC:Go.Proofs.Lays.n137 Tryz.prog Tryz.aaB:=by repeat' first|kernel_rfl|(intro;kernel_rfl)|constructor
def Tryz.aaD:Go.Shelf.Ren:=⟨fun| 171=>124| 243=>216| 246=>263| 283=>319| 284=>320| 285=>321| 286=>322| 129=>302| 317=>351| 318=>352| 319=>353| 320=>354| 337=>359| 338=>360| n=>n,fun| 3=>3| 9=>9| 2=>2| 4=>4| 171=>419| 0=>0| 53=>406| 37=>142| 5=>5| 173=>421| 212=>439| 51=>404| 20=>20| 213=>440| 46=>355| 232=>453| 233=>454| n=>n,fun| 17=>0| 18=>4| 19=>5| n=>n⟩
def Tryz.aaE:Go.Proofs.LaysM.n171 Tryz.prog Tryz.aaD:=by repeat' first|kernel_rfl|(intro;kernel_rfl)|constructor
def Tryz.aaF:Go.Shelf.Ren:=⟨fun| 172=>257| 244=>310| 245=>311| 247=>343| 279=>344| 280=>345| 281=>346| 282=>347| 287=>356| 316=>357| 171=>124| 205=>358| 321=>361| 322=>362| 243=>216| 246=>263| 283=>319| 284=>320| 285=>321| 286=>322| 129=>302| 317=>351| 318=>352| 319=>353| 320=>354| 337=>359| 338=>360| n=>n,fun| 9=>9| 3=>3| 75=>258| 76=>259| 4=>4| 5=>5| 167=>431| 37=>142| 0=>0| 85=>432| 2=>2| 168=>434| 53=>406| 175=>444| 46=>355| 210=>447| 127=>262| 145=>452| 143=>450| 21=>21| 171=>419| 173=>421| 212=>439| 51=>404| 20=>20| 213=>440| 232=>453| 233=>454| 80=>102| n=>n,fun| 15=>1| 16=>2| 17=>0| 18=>4| 19=>5| n=>n⟩
def Tryz.K0:Go.Proofs.LaysC.n172 Tryz.prog Tryz.aaF:=by repeat' first|kernel_rfl|(intro;kernel_rfl)|constructor
end Go.Proofs
end
section
namespace Go.Proofs.YtgeahfjicmlocaaGreatDoor
open Go.Bw Go.Proofs.Tryz
open Go.Proofs
def RZ (n:Z) (u:ac):(((((n:ac)==0)||decide (8<(n:ac)))||decide (u<97))||decide (122<u)) = !((decide (1<=n)&&decide (n<=8))&&pV u):=by rw [mA];simp [pV];omega
variable {bc:I ar} {bE:Z}
def Do (h:bE<bc.length):bc[bE]? = aa (bc[bE]?.getD 0):=by rw [cy h];rfl
variable {GJ:ar->aS}
def aaG (h:bE<bc.length) (a:GJ (bc[bE]?.getD 0)=aq):bc.all GJ=aq:=by rw [zU];exact ⟨_,aW<|Do h,by simp [a]⟩
def aaH (h:∀i,i<bc.length->GJ (bc[i]?.getD 0)=ad):bc.all GJ=ad:=by rw [gA];intro x a;obtain ⟨i,hi⟩:=jd a;have:=h i (cN.1 hi).1;rw [hi] at this;exact this
def R0 (u:ar):∀s:I ar,decide (0<=Lib.indexByte s u)=s.contains u
 | []=>rfl
 | b::l=>by
  have c:=R0 u l;have f:=Lib.indexByte_ge l u;unfold Lib.indexByte;by_cases a:b=u;·subst a;simp
  ·have d:(b==u)=aq:=by simpa using a
   have e:(u==b)=aq:=by simpa using λh=>a h.symm
   rw [aj (by simp [d]),I.contains_cons,e,zT,<-c];split;·rename_i h;simp at h;simp [h]
   ·rename_i h;simp at h;rw [mA];simp;omega
def toNat_inj {u v:ar} (h:(u.toNat:ac)=(v.toNat:ac)):u=v:=MC.1 ai
def k':prog.underlying 3=some (.int .i64):=ah
def Pt:prog.underlying 5=some (.int .u8):=ah
def R2 (u:ac) (w:aP) : cx aC 204 #[am .u8 u] w λe a=>e = cf (bW<|pV u||Cm u)/\Ext w a:=by
 refine enter func204 O 17 O O<|CE (Vs:=[]) (Ws.init aK)<|ak<|au O<|ag<|ak<|ab O<|V0 (h9 O O)<|ab O ?_;apply La 2 O O O O Y O O O O O;·intro c;refine Vg (Ym O)<|Vg (li O O) ?_;exact Gt 2 O O O
 refine ab O ?_;apply Lo 6 O O O O Y O O O O O
 ·intro d;refine Vg (Ym O)<|Vg (h9 O O)<|Vg (Ym O) ?_;apply La 2 O O O O (.g O O O) O O O O O;·intro f;refine Vg (Ym O)<|Vg (li O O) ?_;exact Gt 2 O O O
  exact Gt 4 O O O
 refine au O<|ag<|bu ?_;refine R1 O O λa b=>⟨O,b.fr⟩
def h0 (s:I ar) (w:aP) : cx aC 128 #[st s] w λe c=>e = cf (bW<|gG s)/\Ext w c:=by
 refine enter func128 O 33 O O<|CE (Vs:=[]) (Ws.init aK)<|ak<|au O<|ag<|Cs<|ak<|ab O<|V0 (B5 ah O)<|V0 (bY O O)<|ab O ?_;apply Lo 3 O O O O Y O O O O O;·intro v;refine Vg (Ym O)<|Vg (B5 ah O)<|Vg (eZ O O) ?_;exact Gt 3 O O O
 refine ab O ?_;apply Lo 3 O O O O Y O O O O O
 ·intro q;have d:0<s.length:=by
   rcases H_ s.length with h | h;·simp [h] at q
   ·exact h
  have l:=Do d;refine Vg (Ym O)<|Vg (z7 ah O O zM)<|Vg (c8 O O) ?_;exact Gt 3 O O O
 refine ab O ?_;apply Lo 3 O O O O Y O O O O O
 ·intro r;have d:0<s.length:=by
   rcases H_ s.length with h | h;·simp [h] at r
   ·exact h
  have l:=Do d;refine Vg (Ym O)<|Vg (z7 ah O O l)<|Vg (eZ O O) ?_;exact Gt 3 O O O
 refine ag<|Cc O (λa=>?_)<|λa=>?_
 ·rw [RZ] at a;have t:gG s=aq:=by unfold gG;simp only [BZ] at a;rw [a];rfl
  refine ak<|au O<|ag<|bu<|Er ?_;refine R1 O O λc b=>⟨by rw [t],b.fr⟩
 rw [RZ] at a;have m:((decide (1<=s.length)&&decide (s.length<=8))&&pV ((s[0]?.getD 0).toNat))=ad:=by simpa using a
 have x:s.length<=8:=by simp at m;omega
 refine ay<|Cs<|ak<|ab O<|V0 (B5 ah O)<|ab O<|ag<|Cb ?_;refine pL (ι:=Z) (λi=>[(24,am an (i:ac))]) [(0,_),(23,_)] (λi=>i<=s.length/\∀j,j<i->mF (s[j]?.getD 0)=ad) (λi=>s.length-i) 0 ⟨dw _,aK⟩ λi ⟨hi,n⟩=>ak<|V0 (c8 O O)<|ag<|Cs ?_;refine Cc O (λf=>?_)<|λf=>?_
 ·have o:i<s.length:=by simpa using f
  have u:=Do o;refine ay<|Cs<|Cb<|ak<|ab O<|au O<|ag<|ak<|ab O<|ab O<|V0 (z7 ah O O u)<|Lp Y O bp O (λw b=>R2 _ w) ?_;refine V0 (ih O)<|ag ?_;refine Cc O (λg=>?_)<|λg=>?_
  ·have k:mF (s[i]?.getD 0)=aq:=by unfold mF;revert g;cases pV _<;>cases Cm _<;>simp
   refine ak<|au O<|ag<|bu<|aU<|Er<|Er<|aU<|Er ?_;refine R1 O O λc b=>⟨by unfold gG;rw [aaG o k];simp,b.fr⟩
  have k:mF (s[i]?.getD 0)=ad:=by unfold mF;revert g;cases pV _<;>cases Cm _<;>simp
  refine Ck<|Eb<|Et<|Cr<|V0 (Yi O O O ai)<|ab O<|Ln ?_;exact ep (i+1) ai ⟨ai,λj p=>by rcases oq.1 p with h | rfl;exact n j h;exact k⟩ a'
 have y:¬i<s.length:=by simpa using f
 refine Ce<|Ex<|Ex<|ee<|Et<|ak<|au O<|ag<|bu ?_;refine R1 O O λc b=>⟨by unfold gG;rw [aaH λj p=>n j ai,m];rfl,b.fr⟩
def aaI (s:I ar) (u:ar) (w:aP):cx aC 258 #[st s,am .u8 (u.toNat:ac)] w λe a=>e = cf (am an<|Lib.indexByte s u)/\Ext w a:= (Any.strings_IndexByte Go.Proofs.Tryz.aaC ⟨s.toArray⟩ (u.toNat:ac) w).mono λe a h=>by obtain ⟨b,c⟩:=h;subst c;have d:((u.toNat:ac)).toNat.toUInt8=u:=aK;rw [d] at b;exact ⟨b,Fr.refl _ _⟩
def aaJ (u:ar) (w:aP) : cx aC 206 #[am .u8 (u.toNat:ac)] w λe a=>e = cf (bW<|pW u)/\Ext w a:=by refine enter func206 O 6 O O<|CE (Vs:=[]) (Ws.init aK)<|ak<|au O<|ag<|ak<|ab O<|Lp Y O bp O (λw b=>aaI vF u w)<|V0 (h9 O O)<|au O ?_;refine ag<|bu ?_;refine R1 O O λa b=>⟨by rw [R0];rfl,b.fr⟩
variable {aB:Type} {F':aB->aS} {cv:I aB} {h8:aB}
def any_true (a:cv[bE]? = aa h8) (h:F' h8=ad):cv.any F'=ad:=ta.2 ⟨h8,aW a,h⟩
def any_false (h:∀(j:Z) (x:aB),cv[j]? = aa x->F' x=aq):cv.any F'=aq:=by rw [vq];intro x a;obtain ⟨j,b⟩:=jd a;simp [h j x b]
def l3 (h:cv[bE]? = aa h8):cv.take (bE+1)=cv.take bE++[h8]:=by rw [h7,h];rfl
def R3:aT aC 234 0=aa 0:=ah
def aaK:aT aC 234 2=aa 2:=ah
def u3:g_ aC 222=aa 3:=ah
def Bc:i2 aC 234=aa 3:=ah
def rL (s:I ar):ac:=match Lib.atoiAll s with| .ok v=>v| .range=>Lib.atoiSat s| _=>0
def xE (s:I ar):aS:=match Lib.atoiAll s with| .ok _=>ad| _=>aq
def aaL (s:I ar) : -9223372036854775808<=rL s/\rL s<=9223372036854775807:=by unfold rL;cases h:Lib.atoiAll s with| ok v=>exact Lib.atoiAll_bounds h| range=>exact Lib.atoiSat_bounds s| _=>simp
def aaM (h:gG bc=aq):pX bc=(⟨2,rL bc,[]⟩,((xE bc&&decide (0<=rL bc))&&decide (rL bc<=1099511627775))&&(lg (rL bc)==bc)):=by rw [pX,aj (by simp [h])];unfold rL xE;cases Lib.atoiAll bc<;>simp
variable {r':I Tok}
def R4 {t:I ar} (h:i3 bc=(i3 t).map (r'++·)) (a:i3 t=ao):¬4096<bc.length->bL bc=([],1):=λb=>by rw [bL,aj b,h,a];rfl
def aaN (h:i3 bc=(i3 []).map (r'++·)):¬4096<bc.length->bL bc=(r',0):=λa=>by rw [bL,aj a,h];simp [Co]
variable {m5:Tok}
def R5 {o:aA<|I Tok}  :(o.map (m5::·)).map (r'++·)=o.map ((r'++[m5])++·):=by cases o<;>simp
def K1:hW aC 234=aa [(0,1),(1,1),(2,1)]:=ah
def zd:zeroOf aC 234=aa (b0 #[am an 0,am an 0,st []]):=ah
def GK:ii aC 222 234 (b0 #[am an 0,am an 0,st []]) 3 32:=j_ ah
abbrev Laid (a:View):Prop:=IK aC 0 1 2 a
def R6 : fO := (Rows.restModulesRow.laid.map (·.1)).getD 2 ""
def K2:aC.globalNamed R6=aa 0:=ah
def aaO (b:View) (n:ac) (d : -9223372036854775808<=n) (a:n<=9223372036854775807) (w:aP) (f:Le b w) (g:Laid b) : cx aC 124 #[am an n] w λe c=>e = cf (st<|lg n)/\Ext w c:= (Any.strconv_Itoa Go.Proofs.Tryz.aaE n d a w<|g.ot f K2).mono λe c h=>by obtain ⟨a,k,os,rfl⟩:=h;exact ⟨a,Wa w k os⟩
def aaP (j:View) (s:I ar) (m:s.length<=4096) (w:aP) (k:Le j w) (l:Laid j) : cx aC 257 #[st s] w λe d=>∃r:aR,e = cf (cO #[am an (rL s),r])/\Ext w d/\Ai r (xE s):=by
 have f:(ByteArray.mk s.toArray).size=s.length:=E6 s;cases h:Lib.atoiAll s with
 | ok v=>
  refine (Any.strconv_Atoi_ok Go.Proofs.Tryz.K0 ⟨s.toArray⟩ (by rw [f];omega) v h w).mono λe d a=>?_;obtain ⟨b,c⟩:=a;refine ⟨.nilIface,by simp only [rL,h];exact b,?_,by simp [Ai,xE,h]⟩;rcases c with rfl | ⟨t,rfl⟩;·exact Fr.refl _ _
  ·exact Ext.Ik<|Lib.bytesWorld_below _ _ _| range=>obtain ⟨g,hv,i⟩:=l.V';refine (Any.strconv_Atoi_range Go.Proofs.Tryz.K0 ⟨s.toArray⟩ (by rw [f];omega) h g w (k.cell hv) i).mono λe d a=>?_;obtain ⟨N,b,_,_,c⟩:=a;exact ⟨_,by simp only [rL,h];exact b,Ext.Ik c,by simp [Ai,xE,h]⟩| _=>obtain ⟨g,hv,i⟩:=l.V9;refine (Any.strconv_Atoi_syntax Go.Proofs.Tryz.K0 ⟨s.toArray⟩ (by rw [f];omega) h g w (k.cell hv) i).mono λe d a=>?_;obtain ⟨N,b,_,_,c⟩:=a;exact ⟨_,by simp only [rL,h];exact b,Ext.Ik c,by simp [Ai,xE,h]⟩
def aaQ:aC.underlying 258=aa (.interface<|aC.methodsAt 258):=ah
def Dp:e2 aC 234=aa 3:=ah
def aaR (b:View) (s:I ar) (j:s.length<=4096) (w:aP) (k:Le b w) (h:Laid b) : cx aC 205 #[st s] w λe c=>e = cf (cO #[b0 #[am an (pX s).1.kind,am an (pX s).1.n,st (pX s).1.text],bW (pX s).2])/\Ext w c:=by
 refine enter func205 O 33 O O<|CE (Vs:=[b]) (Ws.init (by simp [k]))<|ak ?_;refine Al Y O zd λm=>au O<|ag<|Cs<|ak<|ab O<|Lp Y O bp O (λw a=>h0 _ w)<|ag ?_;refine Cc O (λd=>?_)<|λd=>?_
 ·have f:pX s=(⟨1,0,s⟩,ad):=by rw [pX,aD d]
  refine ak<|ab O<|V0 (Yb zd K1 O O)<|aw 0 Y O O O Dp O O O<|au O<|ag<|bu<|Er ?_;refine WE.uh 0 O O O O Bc O λc a=>?_;rw [f];exact ⟨O,a.fr⟩
 have f:=aaM d;have i:=aaL s;refine ay<|ak<|ab O ?_;refine Ld Y O bp O (λr:aR=>cO #[am an (rL s),r]) (λ_ r=>Ai r<|xE s) (λw a=>aaP b s j w a.V h) λo p q l=>ab O<|V0 (Yx O O)<|V0 (Yx O O)<|au O<|au O<|ag<|ak<|ab O<|V0 (Yb zd K1 O O) ?_;refine ab O<|V0 (V6 (xE s) aaQ O l)<|ab O ?_;apply La 2 O O O O Y O O O O O;·intro t;refine Vg (Ym O)<|Vg (h9 O O) ?_;exact Gt 2 O O O
 refine ab O ?_;apply La 2 O O O O Y O O O O O;·intro u;refine Vg (Ym O)<|Vg (li O O) ?_;exact Gt 2 O O O
 refine ab O ?_;apply La 4 O O O O Y O O O O O;·intro v;refine Vg (Ym O)<|Lp (.g O O O) O bp O (λw a=>aaO b _ i.1 i.2 w a.V h)<|Vg (Ym O)<|Vg (B4 O O) ?_;exact Gt 4 O O O
 refine aw 0 Y O O O Dp O O O<|au O<|ag<|bu ?_;refine WE.uh 0 O O O O Bc O λc a=>?_;rw [f];exact ⟨O,a.fr⟩
def aaS (l:View) (s:I ar) (w:aP) (D:Le l w) (E:Laid l) :
   cx aC 120 #[st s] w λe f=>∃r:aA a6×Z,e = cf (cO #[aE r.1 (bL s).1.length r.2,am an (bL s).2])/\Ext w f/\Sl e3 3 (nv w f) r.1 r.2 (bL s).1:=by
 refine enter func120 O 66 O O<|CE (Vs:=[l]) (Ws.init (by simp [D]))<|ak<|au O<|au O<|ag<|Cs<|ak<|ab O<|V0 (B5 ah O)<|V0 (eZ O O) ?_;refine ag<|Cc O (λq=>?_)<|λq=>?_
 ·have m:4096<s.length:=by simp at q;omega
  have c:bL s=([],2):=by rw [bL,aD m]
  refine ak<|au O<|au O<|ag<|bu<|Er ?_;refine WE.gF (hX O (jI O)<|jI O) λf a=>?_;rw [c];exact ⟨(ao,0),O,a.fr,Sl.nil⟩
 have m:¬4096<s.length:=by simp at q;omega
 refine ay<|ak<|au O<|LW (λ_ h=>h.hM 234 3)<|ag<|Cs<|Cb ?_;refine f_ (ι:=I ar×I Tok×aA a6×Z) (λg=>[(0,st g.1),(4,aE g.2.2.1 g.2.1.length g.2.2.2)]) [] (λg=>Ws w [] [cQ 234 3 Tok.cells g.2.2.1 g.2.2.2<|g.2.1] [l]) (λg=>g.2.1.length+g.1.length<=s.length/\i3 s=(i3 g.1).map (g.2.1++·)) (λg=>g.1.length) (s,[],ao,0) ⟨aK,aK⟩ a' λg ⟨S,d⟩=>Cs<|ak<|ab O<|V0 (ER O O)<|ag ?_;refine Cc O (λo=>?_)<|λo=>?_
 ·obtain ⟨u,r,b⟩:∃u r,g.1=u::r:=by cases A:g.1 with| nil=>rw [A] at o;simp at o| cons u r=>exact ⟨u,r,rfl⟩
  have T:g.1.length=r.length+1:=by rw [b];rfl
  refine ay<|Cb<|ak<|au O<|ag<|Cs<|Cb ?_;refine pL (ι:=Z) (λi=>[(5,am an (i:ac))]) [(0,_),(4,_)] (λi=>i<=g.1.length/\∀j,j<i->mF (g.1[j]?.getD 0)=ad) (λi=>g.1.length-i) 0 ⟨dw _,aK⟩ λi ⟨hi,B⟩=>Cs<|ak<|ab O<|ab O<|V0 (B5 ah O)<|V0 (c8 O O)<|ab O ?_;apply La 4 O O O O Y O O O O O
  ·intro F;have C:i<g.1.length:=by simpa using F
   have G:=Do C;refine Vg (Ym O)<|Vg (Ym O)<|Vg (z7 ah O O G)<|Lp (.g O O O) O bp O (λw a=>R2 _ w) ?_;exact Gt 4 O O O
  refine ag<|Cc O (λk=>?_)<|λk=>?_
  ·have C:i<g.1.length:=by simp only [eI,cw] at k;omega
   have H:mF (g.1[i]?.getD 0)=ad:=by simp only [eI] at k;exact k.2
   refine ay<|Cb<|Cr<|ab O<|V0 (Yi O O O ai)<|au O<|Ln<|Eb ?_;exact ep (i+1) ai ⟨ai,λj J=>by rcases oq.1 J with h | rfl;exact B j h;exact H⟩ a'
  have t:hY g.1=i:=by
   refine IP _ _ hi B ?_;rcases m2 i g.1.length with h | h;·right;rw [jG (by omega:((i:Z):ac)<(g.1.length:ac)),yc] at k;exact k
   ·left;omega
  have K:g.1[0]? = aa u:=by rw [b];rfl
  refine Ce<|Ex<|Ex<|ee<|Et<|Cs<|ak<|ab O<|V0 (z7 ah O O (i:=0) K)<|au O<|ag<|Cb<|ak<|ab O<|V0 (eZ O O) ?_;refine au O<|ag ?_;refine Cc O (λv=>?_)<|λv=>?_
  ·have U:0<i:=by simp at v;omega
   refine ak<|ab O<|ab O<|V0 (Nt underlying9 O O ai ai) ?_;rw [ku];refine Lp Y O bp O (λw a=>aaR l _ (by simp;omega) w a.V E)<|ab O<|V0 (Yx O O)<|V0 (Yx O O) ?_;refine Al Y O zd λW=>aw 0 Y O O O Dp O O O<|au O<|ag<|Cs<|ak<|ab O<|V0 (ih O)<|ag ?_;refine Cc O (λx=>?_)<|λx=>?_;·have c:bL s=([],1):=R4 d (by rw [yz ai,t,NV,aj (by simpa using x)]) m;refine ak<|au O<|au O<|ag<|bu<|Er<|aU<|Er<|aU<|Er<|aU<|Er ?_;refine WE.gF (hX O (jI O)<|jI O) λf a=>?_;rw [c];exact ⟨(ao,0),O,a.fr,Sl.nil⟩
   have L:th (g.1.take i)=aa ((pX<|g.1.take i).1):=by rw [NV,aD (by simpa using x)]
   refine ay<|ak<|ab O<|V0 (dW 0 O O Bc O) ?_;refine Lb Y O GK O O O O λX=>eb 0 (aY (Tok.cells<|(pX<|g.1.take i).1).toArray 234 (0,0)) O O<|LA ((pX<|g.1.take i).1) 2 0 Y O GK O O O O O O ai ai λM N=>au O<|ag<|ak<|ab O<|ab O<|V0 (IB underlying9 O O ai ai) ?_;rw [ku];refine au O<|ag<|Ce<|B3 O<|Ex<|ee ?_;exact ep ((g.1.drop i,g.2.1++[(pX<|g.1.take i).1],M,N):I ar×I Tok×aA a6×Z) (by dsimp only;simp;omega) ⟨by dsimp only;simp;omega,by dsimp only;rw [d,yz ai,t,L];simp only;rw [R5]⟩<|λ_ h=>Wd 2 h
  have y:hY (u::r)=0:=by rw [<-b,t];simp at v;omega
  refine ak<|ab O<|Lp Y O bp O (λw a=>aaJ _ w)<|au O<|ag ?_;refine Cc O (λp=>?_)<|λp=>?_;·refine Cr<|ab O<|ab O<|V0 (Nt underlying9 O O ai ai) ?_;rw [show g.1.take (1:ac).toNat=[u] by rw [b];rfl];refine V0 (Yb zd K1 O O)<|Lb Y O GK O O O O λae=>eb 0 (aY (Tok.cells<|Tok.mk 3 0 [u]).toArray 234 (0,0)) O O<|LA (Tok.mk 3 0 [u]) 1 0 Y O GK O O O O O O ai ai λP Q=>au O<|Ln<|Eb<|Et<|Cr<|ab O<|V0 (IB underlying9 O O ai ai) ?_;rw [show g.1.drop (1:ac).toNat=r by rw [b];rfl];refine au O<|Ln<|Eb ?_;exact ep ((r,g.2.1++[Tok.mk 3 0 [u]],P,Q):I ar×I Tok×aA a6×Z) (by dsimp only;omega) ⟨by dsimp only;simp;omega,by dsimp only;rw [d,b,Cp y (by simpa using p),R5]⟩<|λ_ h=>Wd 1 h
  refine ak<|ab O<|V0 (ha O O)<|ab O ?_;apply La 2 O O O O Y O O O O O;·intro A;refine Vg (Ym O)<|Vg (ha O O) ?_;exact Gt 2 O O O
  refine au O<|ag ?_;refine Cc O (λn=>?_)<|λn=>?_
  ·have z:¬(u=32\/u=10):=by rintro (h | h)<;>rw [h] at n<;>simp at n
   have c:bL s=([],1):=R4 d (by rw [b,Fq y (by simpa using p) z]) m;refine ak<|au O<|au O<|ag<|bu<|aU<|Er<|aU<|Er<|aU<|Er ?_;refine WE.gF (hX O (jI O)<|jI O) λf a=>?_;rw [c];exact ⟨(ao,0),O,a.fr,Sl.nil⟩
  have z:u=32\/u=10:=by
   simp only [bne,aS.and_eq_false_iff,ML,j8] at n;rcases n with h | h;·left;exact toNat_inj (by simpa using h)
   ·right;exact toNat_inj (by simpa using h)
  refine Ck<|Eb<|Et<|Cr<|ab O<|V0 (IB underlying9 O O ai ai) ?_;rw [show g.1.drop (1:ac).toNat=r by rw [b];rfl];refine au O<|Ln<|Eb ?_;exact ep ((r,g.2.1,g.2.2.1,g.2.2.2):I ar×I Tok×aA a6×Z) (by dsimp only;omega) ⟨by dsimp only;omega,by dsimp only;rw [d,b,Cq y (by simpa using p) z]⟩ a'
 have R:g.1=[]:=by simpa using o
 have c:bL s=(g.2.1,0):=by rw [R] at d;exact aaN d m
 refine Ce<|Ex<|Ex<|ee<|Et<|ak<|ab O<|au O<|au O<|ag<|bu ?_;refine WE.gF (hX O (jI O)<|jI O) λf a=>?_;rw [c];exact ⟨(g.2.2.1,g.2.2.2),O,a.fr,a.kb 0 O Tok.dR iH⟩
abbrev kI:ac->aR:=λn:ac=>aR.int an n
def vS (r:aS) (a:ac):aR:=b0 #[bW r,am an a]
def oe (n:Z):I<|fz ac:=[(1,vS aq 0,0),(2,vS aq 0,1),(3,vS ad 0,2),(4,vS ad 1,3),(5,vS ad<|-1,4),(6,vS aq 1,5)]++(lf n).map λj=>(((7+j:Z):ac),vS aq 2,6+j)
def qX:I<|fz ac:=[(1,vS ad 1,0),(2,vS ad 2,1),(3,vS ad<|-1,2),(4,vS aq 1,3),(5,vS aq 1,4),(6,vS aq 1,5),(7,vS aq 1,6)]
def aaT (n:Z) (h:n<9):dT kI (gB ((7+n:Z):ac) (vS aq 2) (oe n)<|6+n) (kc ((7+n:Z):ac) (oe n)<|6+n)=dT kI (oe<|n+1) (6+(n+1)):=by match n,h with| 0,_=>rfl| 1,_=>rfl| 2,_=>rfl| 3,_=>rfl| 4,_=>rfl| 5,_=>rfl| 6,_=>rfl| 7,_=>rfl| 8,_=>rfl
def R7 (op:ac):bO op (oe 9) (vS aq 0)=vS ((bT op).getD (aq,0)).1 ((bT op).getD (aq,0)).2/\ri op (oe 9) = !(bT op).isNone:=by
 by_cases e:op=1;·subst e;exact ⟨rfl,rfl⟩
 by_cases f:op=2;·subst f;exact ⟨rfl,rfl⟩
 by_cases a:op=3;·subst a;exact ⟨rfl,rfl⟩
 by_cases b:op=4;·subst b;exact ⟨rfl,rfl⟩
 by_cases c:op=5;·subst c;exact ⟨rfl,rfl⟩
 by_cases d:op=6;·subst d;exact ⟨rfl,rfl⟩
 by_cases g:op=7;·subst g;exact ⟨rfl,rfl⟩
 by_cases h:op=8;·subst h;exact ⟨rfl,rfl⟩
 by_cases i:op=9;·subst i;exact ⟨rfl,rfl⟩
 by_cases j:op=10;·subst j;exact ⟨rfl,rfl⟩
 by_cases k:op=11;·subst k;exact ⟨rfl,rfl⟩
 by_cases l:op=12;·subst l;exact ⟨rfl,rfl⟩
 by_cases m:op=13;·subst m;exact ⟨rfl,rfl⟩
 by_cases n:op=14;·subst n;exact ⟨rfl,rfl⟩
 by_cases o:op=15;·subst o;exact ⟨rfl,rfl⟩
 have p:bT op=ao:=by unfold bT;rw [aj ai,aj a,aj b,aj c,aj d,aj ai]
 have q:eq op (oe 9) 0=ao:=by show eq op [(1,vS aq 0,0),(2,vS aq 0,1),(3,vS ad 0,2),(4,vS ad 1,3),(5,vS ad<|-1,4),(6,vS aq 1,5),(7,vS aq 2,6),(8,vS aq 2,7),(9,vS aq 2,8),(10,vS aq 2,9),(11,vS aq 2,10),(12,vS aq 2,11),(13,vS aq 2,12),(14,vS aq 2,13),(15,vS aq 2,14)] 0=ao;simp [eq,e,f,a,b,c,d,g,h,i,j,k,l,m,n,o]
 rw [bO,ri,q,p];exact ⟨O,O⟩
def R8 (op:ac):bO op qX (vS aq 0)=vS ((gt op).getD (aq,0)).1 ((gt op).getD (aq,0)).2/\ri op qX = !(gt op).isNone:=by
 by_cases a:op=1;·subst a;exact ⟨rfl,rfl⟩
 by_cases b:op=2;·subst b;exact ⟨rfl,rfl⟩
 by_cases c:op=3;·subst c;exact ⟨rfl,rfl⟩
 by_cases d:op=4;·subst d;exact ⟨rfl,rfl⟩
 by_cases e:op=5;·subst e;exact ⟨rfl,rfl⟩
 by_cases f:op=6;·subst f;exact ⟨rfl,rfl⟩
 by_cases g:op=7;·subst g;exact ⟨rfl,rfl⟩
 have h:gt op=ao:=by unfold gt;rw [aj a,aj b,aj c,aj ai]
 have i:eq op qX 0=ao:=by simp [qX,eq,a,b,c,d,e,f,g]
 rw [bO,ri,i,h];exact ⟨O,O⟩
def R9:∀a b:I Tx,du (a++b)=du a+du b| [],b=>by apply aJ.ext'<;>simp [aJ.yA,aJ.yB,aJ.yC,du,c0]| x::a,b=>by rw [ix,show ∀q,du (x::q)=hB (!gN x)+du q from λ_=>rfl,R9 a b,show ∀q,du (x::q)=hB (!gN x)+du q from λ_=>rfl,aJ.ky]
def aaU (s:Tx):du [s]=hB (!gN s):=rfl
variable {eh:I Tx} {bR:Tx}
def aaV (h:eh[bE]? = aa bR):du (eh.take<|bE+1)=du (eh.take bE)+hB (!gN bR):=by rw [l3 h,R9,aaU]
def Bd (c:aJ):c+c0=c:=rfl
def aaW (c:aJ):c.f<=c.aM:=by unfold aJ.aM;omega
def aaX (c:aJ):c.m<=c.aM:=by unfold aJ.aM;omega
def aaY (c:aJ):c.k<=c.aM:=by unfold aJ.aM;omega
abbrev ze:Z->Z->I bh:=λ_ _=>[]
abbrev R':Z->Z->I bh:=λa b=>[aQ a<|dT kI (oe 9) 15,aQ b<|dT kI qX 7]
def u4 (f:FuncId) (vs:I aR) (h:I View) (X:Z->Z->I bh) (i B:Z) (g:aJ):Prop:=Enters aC f/\∀(d a b:Z) (c:aJ) (w:aP),c.aM+i<=B->Ws w (d::(X a b).flatMap bh.ids) (aQ d (aY #[am an 0,am an ((c).f:ac),am an ((c).m:ac),am an 0,am an ((c).k:ac),am an 0,am an 0,am an 0,am an 0,am an 0,.map (aa a),.map (aa b)] 252 (0,0))::X a b) h w-> cx aC f (b8 (aa ⟨d,0,ao⟩)::vs).toArray w λe j=>e = cf (cO #[])/\Ws w (d::(X a b).flatMap bh.ids) (aQ d (aY #[am an 0,am an ((c+g).f:ac),am an ((c+g).m:ac),am an 0,am an ((c+g).k:ac),am an 0,am an 0,am an 0,am an 0,am an 0,.map (aa a),.map (aa b)] 252 (0,0))::X a b) h j
def i' {ops:Array Oper} {Q:Exit->Act->World->Prop} {n:Nat} {ds:List Deferred} {l:List<|Nat×Value} {p:World} {F:List Nat} {L L2:List bh} {Vs:List View} {rest:List Oper} {d:Nat} {ty:TypeId} {pos:String} {af:Array Edge} {g:Option<|Nat×Bool} {args:Array Operand} {ts:Array TypeId} {j a b:Nat} {c:aJ} {f:FuncId} {vs:List Value} {o:List View} {X:Nat->Nat->List bh} {q B:Nat} {i:aJ} (hC:u4 f vs o X q B i) (r:WL prog ops Q n ds ((d,.tuple #[])::l) (Ws p F (aQ j (.cells #[.int .i64 0,.int .i64 ((c+i).f:Int),.int .i64 ((c+i).m:Int),.int .i64 0,.int .i64 ((c+i).k:Int),.int .i64 0,.int .i64 0,.int .i64 0,.int .i64 0,.int .i64 0,.map (some a),.map (some b)] 252 (0,0))::(X a b++L2)) Vs) rest) (s:h' l args.toList=some (.pointer (some ⟨j,0,none⟩)::vs):=by rfl) (hL:L=aQ j (.cells #[.int .i64 0,.int .i64 ((c).f:Int),.int .i64 ((c).m:Int),.int .i64 0,.int .i64 ((c).k:Int),.int .i64 0,.int .i64 0,.int .i64 0,.int .i64 0,.int .i64 0,.map (some a),.map (some b)] 252 (0,0))::(X a b++L2):=by rfl) (t:c.aM+q<=B:=by first|omega|(simp only [aJ.ga,gj,jS];omega)) (u:∀v ∈ o,v ∈ Vs:=by simp) (x:eS ops l g:=by first|exact .inl rfl|exact .inr ⟨_,_,_,rfl,rfl,rfl⟩) (y:Nat.blt d n=true:=by rfl) : WL prog ops Q n ds l (Ws p F L Vs)<|⟨some d,.call ⟨.value<|.func f,args,ts⟩,ty,pos,af,g⟩::rest:= Lw (ι:=Unit) (aQ j (.cells #[.int .i64 0,.int .i64 ((c).f:Int),.int .i64 ((c).m:Int),.int .i64 0,.int .i64 ((c).k:Int),.int .i64 0,.int .i64 0,.int .i64 0,.int .i64 0,.int .i64 0,.map (some a),.map (some b)] 252 (0,0))::X a b) L2 x y hC.1 s hL (λ_=>.tuple #[]) (λ_=>aQ j (.cells #[.int .i64 0,.int .i64 ((c+i).f:Int),.int .i64 ((c+i).m:Int),.int .i64 0,.int .i64 ((c+i).k:Int),.int .i64 0,.int .i64 0,.int .i64 0,.int .i64 0,.int .i64 0,.map (some a),.map (some b)] 252 (0,0))::X a b) (λ_=>True) o u (λw z=>(hC.2 j a b c w t z).mono λe A h=>⟨(),h.1,trivial,h.2⟩)<|λ_ _=>r
def gQ:ii aC 22 9 (st []) 1 16:=j_ ah
def gf:g_ aC 22=aa 1:=ah
def qY:hW aC 343=aa [(0,1),(1,1)]:=ah
def og:zeroOf aC 343=aa (b0 #[bW aq,am an 0]):=ah
def py:aC.underlying 248=aa (.map 3 343):=ah
def mixed:aC.follows .mixedOrders=ad:=ah
def zf:aT aC 252 0=aa 0:=ah
def zg:yw aC 250=aa (10,1):=ah
def eE:e2 aC 3=aa 1:=ah
def aaZ (w:aP) :
   cx aC 271 #[] w λe a=>∃r:aA a6×Z,e = cf (aE r.1 ti.length r.2)/\Ext w a/\Sl rdStr 1 (nv w a) r.1 r.2 ti:=by refine enter func271 O 2 O O<|CE (Vs:=[]) (Ws.init aK)<|ak<|au O<|ag<|ak ?_;refine Lb Y O gQ O O O O λb=>au O<|ag<|bu ?_;refine WE.gF (kJ O<|jI O) λa c=>⟨(aa ⟨b,0,ao⟩,15),O,c.fr,⟨show ti.length<=15 by decide,show 15<=9223372036854775807 by decide,aK,λj x f=>⟨b,0,O,λk v d=>c.Ir 0 O (by have:k<1:=(cN.1 d).1;show (ti.flatMap g4)[0+j*1+k]? = aa v;rw [lJ,pM rn f this];exact d)⟩⟩⟩
def aa0 (b:View) (a:aA a6) (c:Z) (l:I Tx) (s:Tx) (w:aP) (t:Le b w) (f:Sl rdStr 1 b a c l) : cx aC 325 #[aE a l.length c,st s] w λe g=>(∃n:ac,e = cf (am an n)/\decide (0<=n)=l.contains s)/\Ext w g:=by
 have C:=f.cap;have D:=f.max;refine enter func325 O 19 O O<|CE (Vs:=[b]) (Ws.init (by simp [t]))<|ak<|au O<|ag<|Cs<|ak<|ab O<|V0 (Yn gf O)<|ab O<|ag<|Cb ?_;refine pL (ι:=Z) (λi=>[(8,am an (i:ac))]) [(0,_),(1,_),(7,_)] (λi=>i<=l.length/\∀j,j<i->l[j]?≠aa s) (λi=>l.length-i) 0 ⟨dw _,aK⟩ λi ⟨hi,r⟩=>ak<|V0 (c8 O O)<|ag<|Cs ?_;refine Cc O (λk=>?_)<|λk=>?_
 ·have u:i<l.length:=by simpa using k
  obtain ⟨x,m⟩:=bk u;obtain ⟨v,y,E,o⟩:=f.ct i x m;have o:cB b v (y+i*1)<|g4 x:=o;refine ay<|Cs<|Cb<|ak<|ab O<|au O<|ag<|ak<|ab O<|ab O<|ab O<|V0 (Yo gf O O zM ai) ?_;refine V0 (ew 0 ah O O<|o 0 _ O)<|V0 (B4 O O)<|ag ?_;refine Cc O (λp=>?_)<|λp=>?_
  ·have z:s=x:=by simpa using p
   refine ak<|ab O<|au O<|ag<|bu<|aU<|Er<|Er<|aU<|Er ?_;refine R1 O O λg q=>⟨⟨_,O,?_⟩,q.fr⟩;rw [jG ai,EB.2 (by rw [z];exact aW m)]
  have A:¬s=x:=by simpa using p
  refine Ck<|Eb<|Et<|Cr<|V0 (Yi O O O ai)<|ab O<|Ln ?_;exact ep (i+1) ai ⟨ai,λj d=>by rcases oq.1 d with h | rfl;exact r j h;rw [m];intro e;injection e with e;exact A e.symm⟩ a'
 have F:¬i<l.length:=by simpa using k
 have B:l.contains s=aq:=by rw [vr];intro h;rw [EB] at h;obtain ⟨j,d⟩:=jd h;exact r j (by have:=(cN.1 d).1;omega) d
 refine Ce<|Ex<|Ex<|ee<|Et<|ak<|au O<|ag<|bu ?_;refine R1 O O λg q=>⟨⟨_,O,?_⟩,q.fr⟩;rw [B];rfl
def aa1 (b:View) (a:aA a6) (c:Z) (l:I Tx) (s:Tx) (w:aP) (g:Le b w) (i:Sl rdStr 1 b a c l) : cx aC 270 #[aE a l.length c,st s] w λe d=>e = cf (bW<|l.contains s)/\Ext w d:=by refine enter func270 O 9 O O<|CE (Vs:=[b]) (Ws.init (by simp [g]))<|ak<|au O<|ag<|ak<|ab O<|ab O ?_;refine Ld Y O bp O (λn:ac=>am an n) (λ_ n=>decide (0<=n)=l.contains s) (λw f=>(aa0 b a c l s w f.V i).mono λe d h=>by obtain ⟨⟨n,j,k⟩,m⟩:=h;exact ⟨n,j,m,k⟩) λp q r o=>V0 (h9 O O)<|au O<|ag<|bu ?_;refine R1 O O λd f=>⟨by rw [o],f.fr⟩
def yo (s:Tx) (w:aP) : cx aC 230 #[st s] w λe b=>e = cf (bW<|gN s)/\Ext w b:=by
 refine enter func230 O 11 O O<|CE (Vs:=[]) (Ws.init aK)<|ak<|au O<|ag<|ak<|ab O<|Lp Y O bp O (λw a=>h0 _ w)<|ab O ?_;apply La 4 O O O O Y O O O O O;·intro k;refine Ld (.g O O O) O bp O (λr:aA a6×Z=>aE r.1 ti.length r.2) (λd r=>Sl rdStr 1 d r.1 r.2 ti) (λw a=>aaZ w) λf c l i=>Vg (Ym O)<|Lp (.g O O O) O bp O (λw a=>aa1 f c.1 c.2 ti s w a.V i)<|Vg (ih O) ?_;refine WL.wk ?_<|Gt 4 O O O;exact λ_ h=>Ws.aZ h<|λ_ j=>s_ [_] j
 refine au O<|ag<|bu ?_;refine R1 O O λb a=>⟨O,a.fr⟩
def aa2 (w:aP) :
   cx aC 134 #[] w λe d=>∃b:Z,e = cf (.map<|aa b)/\Ws w [] [aQ b<|dT kI (oe 9) 15] [] d:=by
 refine enter func134 O 19 O O<|CE (Vs:=[]) (Ws.init aK)<|ak<|au O<|ag<|ak ?_;refine WL.pT (λn:ac=>aR.int an n) Y O λa=>V0 (Yb og qY O O)<|WL.pU 0 m4 Y py k' O O O O<|V0 (Yb og qY O O)<|WL.pU 0 m4 Y py k' O O O O<|V0 (Yb og qY O O)<|WL.pU 0 m4 Y py k' O O O O<|V0 (Yb og qY O O)<|WL.pU 0 m4 Y py k' O O O O<|V0 (Yb og qY O O)<|WL.pU 0 m4 Y py k' O O O O<|V0 (Yb og qY O O)<|WL.pU 0 m4 Y py k' O O O O<|ab O<|eb 0 (dT kI (oe 0)<|6+0) O O<|au O<|ag<|Cs<|ak<|au O<|ag<|Cb ?_;refine f_ (ι:=Z) (λi=>[(2,am an ((7+i:Z):ac))]) [(0,_),(1,_)] (λi=>Ws w [] [aQ a<|dT kI (oe i)<|6+i] []) (λi=>i<=9) (λi=>9-i) 0 (dw _) a' λi hi=>Cs<|ak<|ab O<|V0 (li O O)<|ag ?_;refine Cc O (λc=>?_)<|λc=>?_
 ·have f:i<9:=by simp at c;omega
  refine ay<|Cs<|Cb<|Cr<|ab O<|ab O<|V0 (Yb og qY O O) ?_;refine WL.rk 0 m4 Y py k' O O O O<|Ln<|Eb<|Et<|Cr<|ab O<|V0 (E7 (((7+i:Z):ac)+1) O O O ai)<|au O<|Ln ?_;rw [show (((7+i:Z):ac)+1)=((7+(i+1):Z):ac) by omega];exact ep (i+1) ai ai (λ_ h=>by have h:=Ws.pS h 0 rfl<|congrArg (aQ a)<|aaT i f;exact h)
 have g:i=9:=by simp at c;omega
 subst g;refine Ce<|Ex<|Ex<|ee<|Et<|ak<|ab O<|au O<|ag<|bu ?_;refine WE.gF (kJ O<|jI O) λd j=>⟨a,O,j⟩
def aa3 (w:aP) : cx aC 135 #[] w λe a=>∃b:Z,e = cf (.map<|aa b)/\Ws w [] [aQ b<|dT kI qX 7] [] a:=by refine enter func135 O 10 O O<|CE (Vs:=[]) (Ws.init aK)<|ak<|au O<|ag<|ak ?_;refine WL.pT (λn:ac=>aR.int an n) Y O λc=>V0 (Yb og qY O O)<|WL.pU 0 m4 Y py k' O O O O<|V0 (Yb og qY O O)<|WL.pU 0 m4 Y py k' O O O O<|V0 (Yb og qY O O)<|WL.pU 0 m4 Y py k' O O O O<|V0 (Yb og qY O O)<|WL.pU 0 m4 Y py k' O O O O<|V0 (Yb og qY O O)<|WL.pU 0 m4 Y py k' O O O O<|V0 (Yb og qY O O)<|WL.pU 0 m4 Y py k' O O O O<|V0 (Yb og qY O O)<|WL.pU 0 m4 Y py k' O O O O<|ab O<|au O<|ag<|bu ?_;refine WE.gF (kJ O<|jI O) λa d=>⟨c,O,d⟩
def xF (b:aS):u4 137 [bW b,am an 1] [] ze 0 4611686018427387904<|hB b:=by
 refine ⟨bp,λg j k c w l a=>?_⟩;have m:=aaW c;refine enter func137 O 17 O O<|CE a<|ak<|ab O<|ag ?_;refine Cc O (λe=>?_)<|λe=>?_;·subst e;refine WC.nS 0 [(0,ad),(1,ad),(2,ad),(3,ad),(4,ad),(7,ad),(8,ad),(5,aq),(6,ad),(9,ad),(10,aq)] mixed ah (λ_ _ _ d _ h=>by cases d<;>exact h)<|D0 O (Wp 0) (Ym O)<|D0 O (Wp 0) (Ym O)<|D0 O (Wp 0) (bS O)<|D0 O (Wp 0) (Yf zf O)<|D0 O (Wp 0) (yx (i:=1) zg O O a8)<|D0 O (Wp 0) (bS O)<|D0 O (Wp 0) (Yf zf O) ?_;refine De O (Wp 0)<|V0 (Yd 0 O O O ah)<|Ln<|Ed<|D0 O (Wp 0) (Yi O O O ai)<|D0 O (Wp 0) (yx (i:=1) zg O O a8) ?_;refine De O (Wp 0)<|aw 0 Y O O O eE O O O<|Ln<|Ed ?_;refine WD.nil (Wp 0)<|E0 O λf a=>⟨O,a⟩
 subst e;refine Ck<|E0 O λf a=>⟨O,a⟩
def Be (b:aS):u4 137 [bW b,am an 2] [] ze 0 4611686018427387904<|fq b:=by
 refine ⟨bp,λg j k c w l a=>?_⟩;have m:=aaX c;refine enter func137 O 17 O O<|CE a<|ak<|ab O<|ag ?_;refine Cc O (λe=>?_)<|λe=>?_;·subst e;refine WC.nS 0 [(0,ad),(1,ad),(2,ad),(3,ad),(4,ad),(7,ad),(8,ad),(5,aq),(6,ad),(9,ad),(10,aq)] mixed ah (λ_ _ _ d _ h=>by cases d<;>exact h)<|D0 O (Wp 0) (Ym O)<|D0 O (Wp 0) (Ym O)<|D0 O (Wp 0) (bS O)<|D0 O (Wp 0) (Yf zf O)<|D0 O (Wp 0) (yx (i:=2) zg O O a8)<|D0 O (Wp 0) (bS O)<|D0 O (Wp 0) (Yf zf O) ?_;refine De O (Wp 0)<|V0 (Yd 0 O O O ah)<|Ln<|Ed<|D0 O (Wp 0) (Yi O O O ai)<|D0 O (Wp 0) (yx (i:=2) zg O O a8) ?_;refine De O (Wp 0)<|aw 0 Y O O O eE O O O<|Ln<|Ed ?_;refine WD.nil (Wp 0)<|E0 O λf a=>⟨O,a⟩
 subst e;refine Ck<|E0 O λf a=>⟨O,a⟩
def K3 (b:aS):u4 137 [bW b,am an 4] [] ze 0 4611686018427387904<|i4 b:=by
 refine ⟨bp,λg j k c w l a=>?_⟩;have m:=aaY c;refine enter func137 O 17 O O<|CE a<|ak<|ab O<|ag ?_;refine Cc O (λe=>?_)<|λe=>?_;·subst e;refine WC.nS 0 [(0,ad),(1,ad),(2,ad),(3,ad),(4,ad),(7,ad),(8,ad),(5,aq),(6,ad),(9,ad),(10,aq)] mixed ah (λ_ _ _ d _ h=>by cases d<;>exact h)<|D0 O (Wp 0) (Ym O)<|D0 O (Wp 0) (Ym O)<|D0 O (Wp 0) (bS O)<|D0 O (Wp 0) (Yf zf O)<|D0 O (Wp 0) (yx (i:=4) zg O O a8)<|D0 O (Wp 0) (bS O)<|D0 O (Wp 0) (Yf zf O) ?_;refine De O (Wp 0)<|V0 (Yd 0 O O O ah)<|Ln<|Ed<|D0 O (Wp 0) (Yi O O O ai)<|D0 O (Wp 0) (yx (i:=4) zg O O a8) ?_;refine De O (Wp 0)<|aw 0 Y O O O eE O O O<|Ln<|Ed ?_;refine WD.nil (Wp 0)<|E0 O λf a=>⟨O,a⟩
 subst e;refine Ck<|E0 O λf a=>⟨O,a⟩
def K4:∀l:I Tx,(du l).aM<=l.length| []=>c7 _| s::r=>by have:=K4 r;have:=o_<|!gN s;rw [show du (s::r)=hB (!gN s)+du r from rfl,aJ.ga,gj];omega
def K5 (n:Z):decide ((3:ac)<(n:ac))=decide (3<n):=by rw [mA];simp;omega
def R_ (x:cF) (d:Z):cM x d=if 6<d then ⟨0,1,0⟩ else i4 (bT x.op).isNone+iS ((bT x.op).getD (aq,0)) x.mod x.nm x.args.length+hB (lN x.op x.n)+gg x.args (d+1):=by cases x;rw [cM];rfl
def Sa (d:Z):∀a b:I cF,gg (a++b) d=gg a d+gg b d| [],b=>by apply aJ.ext'<;>simp [aJ.yA,aJ.yB,aJ.yC,gg,c0]| x::a,b=>by rw [ix,show ∀q,gg (x::q) d=cM x d+gg q d from λq=>by rw [gg],Sa d a b,show ∀q,gg (x::q) d=cM x d+gg q d from λq=>by rw [gg],aJ.ky]
variable {e9:I cF} {kB:cF}
def Sb (d:Z) (h:e9[bE]? = aa kB):gg (e9.take<|bE+1) d=gg (e9.take bE) d+cM kB d:=by rw [l3 h,Sa,show gg [kB] d=cM kB d+c0 by rw [gg,gg],Bd]
def Sc:∀(l:I cF) (i:Z),g5 (l.take i)<=g5 l| [],i=>by simp| x::r,0=>by simp [g5]| x::r,i+1=>by have:=Sc r i;simp only [qq,g5];omega
def Sd (h:e9[bE]? = aa kB):g5 (e9.take bE)+wE kB<=g5 e9:=by
 have c:=Sc e9<|bE+1;rw [l3 h] at c;have:∀a b:I cF,g5 (a++b)=g5 a+g5 b:=by intro a b;induction a with| nil=>simp [g5]| cons y a d=>simp only [ix,g5,d];omega
 rw [this] at c;simp only [g5] at c;omega
def yq (x:cG) (d:Z):jg x d=i4 (gt x.op).isNone+iS ((gt x.op).getD (aq,0)) x.mod x.nm x.args.length+gg x.args 1+hB (o' x.op x.body.length x.other.length) + (if (inner x.op||decide (0<x.body.length))=ad then bM x.body (d+1) else c0)+(if 0<x.other.length then bM x.other (d+1) else c0):=by cases x;rw [jg];rfl
def Se (d:Z):∀a b:I cG,bf (a++b) d=bf a d+bf b d| [],b=>by apply aJ.ext'<;>simp [aJ.yA,aJ.yB,aJ.yC,bf,c0]| x::a,b=>by rw [ix,show ∀q,bf (x::q) d=jg x d+bf q d from λq=>by rw [bf],Se d a b,show ∀q,bf (x::q) d=jg x d+bf q d from λq=>by rw [bf],aJ.ky]
variable {dV:I cG} {ol:cG}
def yu (d:Z) (h:dV[bE]? = aa ol):bf (dV.take<|bE+1) d=bf (dV.take bE) d+jg ol d:=by rw [l3 h,Se,show bf [ol] d=jg ol d+c0 by rw [bf,bf],Bd]
def Sf:∀(l:I cG) (i:Z),bC (l.take i)<=bC l| [],i=>by simp| x::r,0=>by simp [bC]| x::r,i+1=>by have:=Sf r i;simp only [qq,bC];omega
def aa4 (h:dV[bE]? = aa ol):bC (dV.take bE)+wS ol<=bC dV:=by
 have c:=Sf dV<|bE+1;rw [l3 h] at c;have:∀a b:I cG,bC (a++b)=bC a+bC b:=by intro a b;induction a with| nil=>simp [bC]| cons y a d=>simp only [ix,bC,d];omega
 rw [this] at c;simp only [bC] at c;omega
def p':aT aC 109 1=aa 1:=ah
def Bf:aT aC 109 0=aa 0:=ah
def wg:aT aC 109 3=aa 3:=ah
def Sg:aT aC 343 0=aa 0:=ah
def Pu:aT aC 343 1=aa 1:=ah
variable {bN:View} {cq:aA a6}
def Bg (b:Sl rdStr 1 bN cq bE eh):u4 136 [aE cq eh.length bE] [bN] ze eh.length 4611686018427387904<|du eh:=by
 refine ⟨bp,λg j l c w s a=>?_⟩;have t:=b.cap;have u:=b.max;refine enter func136 O 18 O O<|CE a<|ak<|ab O<|V0 (Yn gf O)<|ab O<|ag<|Cb ?_;refine f_ (ι:=Z) (λi=>[(8,am an (i:ac))]) [(0,_),(6,_),(7,_)] (λi=>Ws w [g] [aQ g<|aY #[am an 0,am an ((c+du (eh.take i)).f:ac),am an ((c+du (eh.take i)).m:ac),am an 0,am an ((c+du (eh.take i)).k:ac),am an 0,am an 0,am an 0,am an 0,am an 0,.map (aa j),.map (aa l)] 252 (0,0)] [bN]) (λi=>i<=eh.length) (λi=>eh.length-i) 0 (dw _) a' λi hi=>ak<|V0 (c8 O O)<|ag<|Cs ?_;refine Cc O (λd=>?_)<|λd=>?_
 ·have n:i<eh.length:=by simpa using d
  obtain ⟨x,h⟩:=bk n;obtain ⟨o,p,v,e⟩:=b.ct i x h;have e:cB bN o (p+i*1)<|g4 x:=e;have q:c+du (eh.take i)+hB (!gN x)=c+du (eh.take<|i+1):=by rw [aaV h,aJ.ky]
  have y:(c+du (eh.take i)).aM<=4611686018427387904:=by rw [aJ.ga];have:=K4<|eh.take i;simp at this;omega
  refine ay<|Cs<|Cb<|ak<|V0 (Yo gf O O zM ai)<|V0 (ew 0 ah O O<|e 0 _ O)<|au O<|ag<|Cr<|ab O<|ab O<|Lp Y O bp O (λw a=>yo _ w) ?_;refine V0 (ih O)<|i' (xF<|!gN x)<|Ln<|Eb<|Et<|Cr<|V0 (Yi O O O ai)<|ab O<|Ln ?_;rw [q];exact ep (i+1) ai ai a'
 have z:¬i<eh.length:=by simpa using d
 have r:eh.take i=eh:=mz ai;rw [r];refine Ce<|Ex<|Ex<|ee ?_;refine E0 O λA a=>⟨O,a⟩
def aa5 (d:fd):u4 138 [b0 #[am an d.kind,st d.nm,bW d.dp,am an d.n]] [] ze 4 4611686018427387904<|kz d:=by
 refine ⟨bp,λq r s c w e a=>?_⟩;have t:(c+du [d.nm]).aM<=4611686018427387904:=by rw [aJ.ga];have:=K4 [d.nm];simp at this;omega
 refine enter func138 O 44 O O<|CE a<|ak ?_;refine WL.box Y O O λu=>ag<|ak<|ab O<|V0 (Yf p' O)<|V0 (Yd 0 O O O ah) ?_;refine Lb Y O gQ O O O O λv=>jW (T:=9) (m:=1) 0 [d.nm] O O (show 1<=1 by decide) a8 λx p=>Lf 1 O<|i' (Bg p)<|ag<|ak<|V0 (Yf Bf O)<|V0 (Yd 1 O O O ah)<|ag<|Cb<|ak<|V0 (bY O O)<|au O<|ag ?_;refine Cc O (λi=>?_)<|λi=>?_
 ·have g:d.kind=1:=by simpa using i
  have f:∀b,(b=(decide (d.n<0)||decide (1099511627775<d.n)))->c+du [d.nm]+hB b=c+kz d:=λb e=>by rw [e,kz,aD g,aJ.ky]
  refine Cr<|ab O<|V0 (Yf wg O)<|V0 (Yd 1 O O O ah)<|V0 (c8 O O)<|ab O ?_;apply Lo 3 O O O O Y O O O O O;·intro y;refine Vg (Yf wg O)<|Vg (Yd 1 O O O ah)<|Vg (eZ O O) ?_;exact Gt 3 O O O
  refine i' (xF<|decide (d.n<0)||decide (1099511627775<d.n))<|Ln<|Eb ?_;refine E0 O λj a=>?_;rw [f _ rfl] at a;exact ⟨O,Wv 1<|Wt 1 a⟩
 have g:¬d.kind=1:=by simpa using i
 refine ak<|V0 (bY O O)<|au O<|ag ?_;refine Cc O (λk=>?_)<|λk=>?_
 ·have h:d.kind=2:=by simpa using k
  have f:∀b,(b=(!(d.n==0)))->c+du [d.nm]+hB b=c+kz d:=λb e=>by rw [e,kz,aj g,aD h,aJ.ky]
  refine Cr<|ab O<|V0 (Yf wg O)<|V0 (Yd 1 O O O ah)<|V0 (ha O O) ?_;refine i' (xF<|!(d.n==0))<|Ln<|Eb ?_;refine E0 O λj a=>?_;rw [f _ rfl] at a;exact ⟨O,Wv 1<|Wt 1 a⟩
 have h:¬d.kind=2:=by simpa using k
 refine ak<|V0 (bY O O)<|au O<|ag ?_;refine Cc O (λl=>?_)<|λl=>?_
 ·have o:d.kind=3:=by simpa using l
  have f:∀b,(b=(decide (d.n<1)||decide (32<d.n)))->c+du [d.nm]+hB b=c+kz d:=λb e=>by rw [e,kz,aj g,aj h,aD o,aJ.ky]
  refine Cr<|ab O<|V0 (Yf wg O)<|V0 (Yd 1 O O O ah)<|V0 (c8 O O)<|ab O ?_;apply Lo 3 O O O O Y O O O O O;·intro z;refine Vg (Yf wg O)<|Vg (Yd 1 O O O ah)<|Vg (eZ O O) ?_;exact Gt 3 O O O
  refine i' (xF<|decide (d.n<1)||decide (32<d.n))<|Ln<|Eb ?_;refine E0 O λj a=>?_;rw [f _ rfl] at a;exact ⟨O,Wv 1<|Wt 1 a⟩
 have o:¬d.kind=3:=by simpa using l
 have f:∀b,(b=ad)->c+du [d.nm]+i4 b=c+kz d:=λb e=>by rw [e,kz,aj g,aj h,aj o,aJ.ky]
 refine Cr<|ab O ?_;refine i' (K3<|ad)<|Ln<|Eb ?_;refine E0 O λj a=>?_;rw [f _ rfl] at a;exact ⟨O,Wv 1<|Wt 1 a⟩
def aa6 (r:aS) (a:ac) (mod nm:Tx) (len:Z) (d:mod.length+nm.length<=9223372036854775807):u4 231 [b0 #[bW r,am an a],st mod,st nm,am an (len:ac)] [] ze 4 4611686018427387904<|iS (r,a) mod nm len:=by
 refine ⟨bp,λf h i c w j b=>?_⟩;have k:(c+hB (cJ r mod nm)).aM<=4611686018427387904:=by rw [aJ.ga];have:=o_<|cJ r mod nm;omega
 have l:(c+hB (cJ r mod nm)+hB (o9 a len)).aM<=4611686018427387904:=by rw [aJ.ga,aJ.ga];have:=o_<|cJ r mod nm;have:=o_<|o9 a len;omega
 have e:c+hB (cJ r mod nm)+hB (o9 a len)+fq (decide<|3<len)=c+iS (r,a) mod nm len:=by rw [iS,aJ.ky,aJ.ky,aJ.ky]
 refine enter func231 O 54 O O<|CE b<|ak ?_;refine WL.box Y O O λm=>ag<|ak<|ab O<|V0 (Yf Sg O)<|V0 (Yd 0 O O O ah)<|ab O ?_;apply La 12 O O O O Y O O O O O
 ·intro n;refine Vg (Ym O)<|Vg (ER O O)<|Vg (Ym O) ?_;apply La 3 O O O O (.g O O O) O O O O O;·intro o;refine Vg (Ym O)<|Lp (.g O O O) O bp O (λw b=>yo _ w)<|Vg (ih O) ?_;exact Gt 3 O O O
  refine Vg (Ym O) ?_;apply Lo 3 O O O O (.g O O O) O O O O O;·intro p;refine Vg (Ym O)<|Lp (.g O O O) O bp O (λw b=>yo _ w)<|Vg (ih O) ?_;exact Gt 3 O O O
  exact Gt 6 O O O
 refine ab O ?_;apply Lo 9 O O O O Y O O O O O
 ·intro q;refine Vg (Yf Sg O)<|Vg (Yd 0 O O O ah)<|Vg (ih O)<|Vg (Ym O) ?_;apply La 4 O O O O (.g O O O) O O O O O;·intro s;refine Vg (Ym O)<|Vg (Ym O)<|Vg (Vp O O d)<|Vg (ER O O) ?_;exact Gt 4 O O O
  exact Gt 5 O O O
 refine Lf 1 O<|i' (xF<|cJ r mod nm)<|ag<|ak<|ab O<|V0 (Yf Pu O)<|V0 (Yd 1 O O O ah)<|V0 (h9 O O)<|ab O ?_;apply La 4 O O O O Y O O O O O;·intro t;refine Vg (Ym O)<|Vg (Yf Pu O)<|Vg (Yd 1 O O O ah)<|Vg (ha O O) ?_;exact Gt 4 O O O
 refine i' (xF<|o9 a len)<|ag<|Cr<|ab O<|ab O<|V0 (eZ O O) ?_;rw [K5];refine i' (Be<|decide<|3<len)<|Ln<|E0 O λu b=>?_;rw [e] at b;exact ⟨O,Wt 1 b⟩
def Si (p:aS×ac) (mod nm:Tx) {len:Z} (a:mod.length+nm.length<=9223372036854775807):u4 231 [b0 #[bW p.1,am an p.2],st mod,st nm,am an (len:ac)] [] ze 4 4611686018427387904<|iS p mod nm len:=aa6 p.1 p.2 mod nm len a
def aa7:aT aC 252 1=aa 10:=ah
def zh:aT aC 239 0=aa 0:=ah
def Sj:e2 aC 343=aa 2:=ah
def Sk:i2 aC 343=aa 2:=ah
def yv:aT aC 239 2=aa 2:=ah
def yH:aT aC 239 3=aa 3:=ah
def Bh:aT aC 239 4=aa 4:=ah
def u5:g_ aC 237=aa 5:=ah
def y3:aT aC 239 1=aa 1:=ah
def cZ:i2 aC 239=aa 5:=ah
def qZ:zeroOf aC 239=aa (b0 #[am an 0,am an 0,st [],st [],aE ao 0 0]):=ah
def qk:e2 aC 239=aa 5:=ah
def aa8 (k:Z)    (d:Z) (e:Sl (lm k) 5 bN cq bE kB.args):u4 232 [b0 #[am an kB.op,am an kB.n,st kB.mod,st kB.nm,aE cq kB.args.length bE],am an (d:ac)] [bN] R' (8*wE kB) 1152921504606846976<|cM kB d:=by
 induction k using om generalizing kB cq bE d;rename_i k u;refine ⟨bp,λs j l c w G a=>?_⟩;have H:=e.cap;have J:=e.max;have K:=N3 kB;have v:bO kB.op (oe 9) (b0 #[bW aq,am an 0]) = b0 #[bW ((bT kB.op).getD (aq,0)).1,am an ((bT kB.op).getD (aq,0)).2]:=(R7 kB.op).1;have x:=(R7 kB.op).2;have L:=oE (bT kB.op).isNone;have M:=Fu ((bT kB.op).getD (aq,0)) kB.mod kB.nm kB.args.length;have N:=o_<|lN kB.op kB.n;refine enter func232 O 76 O O<|CE a<|ak ?_;refine WL.box Y O O λP=>ag<|Cs<|ak<|ab O<|V0 (eZ O O)<|ag ?_;refine Cc O (λo=>?_)<|λo=>?_
 ·have p:6<d:=by simp at o;omega
  refine ak<|ab O<|Lf 1 O ?_;refine i' (Be<|ad)<|ag<|bu<|Er ?_;refine WE.z3 O λz a=>?_;rw [show c+cM kB d=c+fq ad by rw [R_,aD p];rfl];exact ⟨O,by have h:=a;have h:=h.bs 3 O;have h:=h.bs 3 O;have h:=h.bs 2 O;exact Wt 3 h⟩
 have p:¬6<d:=by simp at o;omega
 have A:c+cM kB d=c+i4 (bT kB.op).isNone+iS ((bT kB.op).getD (aq,0)) kB.mod kB.nm kB.args.length+hB (lN kB.op kB.n)+gg kB.args (d+1):=by rw [R_,aj p,aJ.ky,aJ.ky,aJ.ky,aJ.ky,aJ.ky]
 have Q:(c+i4 (bT kB.op).isNone).aM<=1152921504606846980:=by rw [aJ.ga];omega
 have R:(c+i4 (bT kB.op).isNone+iS ((bT kB.op).getD (aq,0)) kB.mod kB.nm kB.args.length).aM<=1152921504606846990:=by rw [aJ.ga,aJ.ga];omega
 refine ay<|Cs ?_;refine WC.o6 [(0,ad),(1,ad),(2,ad),(3,ad),(4,ad),(5,ad),(6,ad),(7,ad),(8,ad),(9,ad),(10,aq),(11,aq),(12,aq)] mixed ah (λ_ _ _ d _ h=>by cases d<;>exact h)<|D0 O a' (Ym O)<|D0 O a' (bS O)<|D0 O a' (Yf aa7 O)<|D0 O a' (Yd 1 O O O ah)<|D0 O a' (Yf zh O)<|D0 O a' (Yd 0 O O O ah)<|D0 O a' (Fl 2 m4 py k' og O O O) ?_;rw [v,x];refine D0 O a' (Ym O)<|D0 O a' (Yx O O)<|D0 O a' (Yx O O) ?_;refine De O a'<|Al Y O og λS=>Ln<|Ed ?_;refine De O (λ_ h=>(Wd 1 h:))<|aw 0 Y O O O Sj O O O<|Ln<|Ed ?_;refine De O (λ_ h=>(Wd 1 h:))<|au O<|Ln<|Ed ?_;refine WD.nil (λ_ h=>(Wd 1 h:))<|Et<|ak<|ab O<|ab O<|V0 (ih O) ?_;rw [aS.not_not];refine Lf 2 O<|i' (K3<|(bT kB.op).isNone)<|ag<|ak<|ab O<|V0 (dW 1 O O Sk O)<|V0 (Yf yv O)<|V0 (Yd 2 O O O ah)<|V0 (Yf yH O)<|V0 (Yd 2 O O O ah)<|V0 (Yf Bh O) ?_;refine V0 (Yd 2 O O O ah)<|V0 (Yn u5 O) ?_;refine i' (Si ((bT kB.op).getD (aq,0)) kB.mod kB.nm ai)<|ag<|ak<|ab O<|V0 (Yf zh O)<|V0 (Yd 2 O O O ah)<|V0 (bY O O)<|ab O ?_;apply La 8 O O O O Y O O O O O
 ·intro T;refine Vg (Yf y3 O)<|Vg (Yd 2 O O O ah)<|Vg (c8 O O)<|Vg (Ym O) ?_;apply Lo 3 O O O O (.g O O O) O O O O O;·intro U;refine Vg (Yf y3 O)<|Vg (Yd 2 O O O ah)<|Vg (eZ O O) ?_;exact Gt 3 O O O
  exact Gt 5 O O O
 refine ab O ?_;apply Lo 8 O O O O Y O O O O O
 ·intro V;refine Vg (Yf zh O)<|Vg (Yd 2 O O O ah)<|Vg (ha O O)<|Vg (Ym O) ?_;apply La 3 O O O O (.g O O O) O O O O O;·intro W;refine Vg (Yf y3 O)<|Vg (Yd 2 O O O ah)<|Vg (ha O O) ?_;exact Gt 3 O O O
  exact Gt 5 O O O
 refine i' (xF<|lN kB.op kB.n)<|ag<|ak<|V0 (Yf Bh O)<|V0 (Yd 2 O O O ah)<|V0 (Yn u5 O)<|ab O<|ag<|Cb ?_;refine f_ (ι:=Z) (λi=>[(66,am an (i:ac))]) [(0,_),(2,_),(64,_),(65,_)] (λi=>Ws w [s,j,l] [aQ s<|aY #[am an 0,am an ((c+i4 (bT kB.op).isNone+iS ((bT kB.op).getD (aq,0)) kB.mod kB.nm kB.args.length+hB (lN kB.op kB.n)+gg (kB.args.take i) (d+1)).f:ac),am an ((c+i4 (bT kB.op).isNone+iS ((bT kB.op).getD (aq,0)) kB.mod kB.nm kB.args.length+hB (lN kB.op kB.n)+gg (kB.args.take i) (d+1)).m:ac),am an 0,am an ((c+i4 (bT kB.op).isNone+iS ((bT kB.op).getD (aq,0)) kB.mod kB.nm kB.args.length+hB (lN kB.op kB.n)+gg (kB.args.take i) (d+1)).k:ac),am an 0,am an 0,am an 0,am an 0,am an 0,.map (aa j),.map (aa l)] 252 (0,0),aQ j<|dT kI (oe 9) 15,aQ l<|dT kI qX 7] [bN]) (λi=>i<=kB.args.length) (λi=>kB.args.length-i) 0 (dw _) (λ_ h=>(Wt 3<|((h.f 4 O).f 4 O).f 2 O:)) λi hi=>ak<|V0 (c8 O O)<|ag<|Cs ?_;refine Cc O (λq=>?_)<|λq=>?_
 ·have B:i<kB.args.length:=by simpa using q
  obtain ⟨y,r⟩:=bk B;obtain ⟨X,ae,C,t⟩:=e.ct i y r;obtain ⟨b,rfl⟩:∃b,k=b+1:=by cases k with| zero=>exact t.elim| succ b=>exact ⟨b,rfl⟩
  obtain ⟨af,al,D,E⟩:=t;have ap:=Sd r;have av:=Ao (kB.args.take i)<|d+1;have ax:(c+i4 (bT kB.op).isNone+iS ((bT kB.op).getD (aq,0)) kB.mod kB.nm kB.args.length+hB (lN kB.op kB.n)+gg (kB.args.take i) (d+1)).aM+8*wE y<=1152921504606846976:=by rw [aJ.ga,aJ.ga,aJ.ga,aJ.ga];omega
  have F:c+i4 (bT kB.op).isNone+iS ((bT kB.op).getD (aq,0)) kB.mod kB.nm kB.args.length+hB (lN kB.op kB.n)+gg (kB.args.take i) (d+1)+cM y (d+1)=c+i4 (bT kB.op).isNone+iS ((bT kB.op).getD (aq,0)) kB.mod kB.nm kB.args.length+hB (lN kB.op kB.n)+gg (kB.args.take<|i+1) (d+1):=by rw [Sb (d+1) r,<-aJ.ky]
  refine ay<|Cs<|Cb<|ak<|V0 (Yo u5 O O C ai)<|V0 (eB 0 cZ O O O<|D) ?_;refine Al Y O qZ λaz=>aw 0 Y O O O qk O O O<|ag<|Cr<|ab O<|V0 (dW 0 O O cZ O)<|ab O<|V0 (Yi O O O ai)<|Lf 3 O<|Lf 3 O ?_;refine Lf 3 O<|i' (u b ai (d+1) E)<|Ln<|Eb<|Et<|Cr<|V0 (Yi O O O ai)<|ab O<|Ln ?_;rw [F];exact ep (i+1) ai ai<|λ_ h=>(Wt 3 h:)
 have aB:¬i<kB.args.length:=by simpa using q
 rw [mz ai,<-A];refine Ce<|Ex<|Ex<|ee ?_;refine E0 O λz a=>⟨O,a⟩
def Bi (c:aJ):c0+c=c:=by apply aJ.ext'<;>simp [aJ.yA,aJ.yB,aJ.yC,c0]
def Dr (n:Z):decide ((0:ac)<(n:ac))=decide (0<n):=by rw [mA];simp
def P0 (n:Z):decide ((10:ac)<(n:ac))=decide (10<n):=by rw [mA];simp;omega
def aa9 (h:¬6<bE):bM dV bE=fq (decide<|10<dV.length)+bf dV bE:=by rw [bM,pY,aj h]
def tQ:g_ aC 25=aa 6:=ah
def mV:i2 aC 241=aa 6:=ah
def GR:zeroOf aC 241=aa (b0 #[am an 0,st [],st [],aE ao 0 0,aE ao 0 0,aE ao 0 0]):=ah
def tR:e2 aC 241=aa 6:=ah
def aa':aT aC 252 2=aa 11:=ah
def e1:aT aC 241 0=aa 0:=ah
def Ds:aT aC 241 1=aa 1:=ah
def Dt:aT aC 241 2=aa 2:=ah
def sL:aT aC 241 3=aa 3:=ah
def Bj:aT aC 241 4=aa 4:=ah
def xG:aT aC 241 5=aa 5:=ah
variable {aL:Z}
def Qf (k:Z) {l:I cG}   (d:Z) (v:Sl (jV bE k) 6 bN cq aL l):u4 139 [aE cq l.length aL,am an (d:ac)] [bN] R' (2+8*bC l) 1152921504606846976<|bM l d:=by
 induction k using om generalizing l cq aL d;rename_i k x;refine ⟨bp,λt o p c w az r=>?_⟩;have aB:=v.cap;have aF:=v.max;have aG:=An<|decide<|10<l.length;refine enter func139 O 116 O O<|CE r<|Cs<|ak<|ab O<|V0 (eZ O O)<|ag ?_;refine Cc O (λA=>?_)<|λA=>?_
 ·have B:6<d:=by simp at A;omega
  refine ak<|ab O ?_;refine i' (Be<|ad)<|ag<|bu<|Er ?_;refine WE.z3 O λN r=>?_;rw [show c+bM l d=c+fq ad by rw [bM,pY,aD B];rfl];exact ⟨O,r⟩
 have B:¬6<d:=by simp at A;omega
 refine ay<|ak<|ab O<|ab O<|V0 (Yn tQ O)<|V0 (eZ O O) ?_;rw [P0];refine i' (Be<|decide<|10<l.length)<|ag<|ak<|ab O<|V0 (Yn tQ O)<|ab O<|ag<|Cb ?_;refine f_ (ι:=Z) (λi=>[(24,am an (i:ac))]) [(0,_),(2,_),(22,_),(23,_)] (λi=>Ws w [t,o,p] [aQ t<|aY #[am an 0,am an ((c+fq (decide<|10<l.length)+bf (l.take i) d).f:ac),am an ((c+fq (decide<|10<l.length)+bf (l.take i) d).m:ac),am an 0,am an ((c+fq (decide<|10<l.length)+bf (l.take i) d).k:ac),am an 0,am an 0,am an 0,am an 0,am an 0,.map (aa o),.map (aa p)] 252 (0,0),aQ o<|dT kI (oe 9) 15,aQ p<|dT kI qX 7] [bN]) (λi=>i<=l.length) (λi=>l.length-i) 0 (dw _) a' λi hi=>ak<|V0 (c8 O O)<|ag<|Cs ?_;refine Cc O (λC=>?_)<|λC=>?_
 ·have D:i<l.length:=by simpa using C
  obtain ⟨y,q⟩:=bk D;obtain ⟨aH,aI,P,L⟩:=v.ct i y q;obtain ⟨a,rfl⟩:∃a,k=a+1:=by cases k with| zero=>exact L.elim| succ a=>exact ⟨a,rfl⟩
  obtain ⟨Q,R,S,T,U,V,W,E,F,u⟩:=L;have aK:=aa4 q;have aN:=N4 y;have aO:=oX (l.take i) d;have aT:=oE (gt y.op).isNone;have aU:=Fu ((gt y.op).getD (aq,0)) y.mod y.nm y.args.length;have aV:=o_<|o' y.op y.body.length y.other.length;have aW:=Ao y.args 1;have aX:=IZ y.body<|d+1;have X:bO y.op qX (b0 #[bW aq,am an 0]) = b0 #[bW ((gt y.op).getD (aq,0)).1,am an ((gt y.op).getD (aq,0)).2]:=(R8 y.op).1;have ae:=(R8 y.op).2;have aZ:=E.cap;have a0:=E.max;have a1:=F.cap;have a2:=F.max;have a3:=u.cap;have a4:=u.max;have a5:(c+fq (decide<|10<l.length)+bf (l.take i) d).aM<=1152921504606846976:=by simp only [aJ.ga];omega
  have a7:(c+fq (decide<|10<l.length)+bf (l.take i) d+i4 (gt y.op).isNone).aM+4<=1152921504606846976:=by simp only [aJ.ga];omega
  have a8:(c+fq (decide<|10<l.length)+bf (l.take i) d+i4 (gt y.op).isNone+iS ((gt y.op).getD (aq,0)) y.mod y.nm y.args.length+gg y.args 1).aM<=1152921504606846976:=by simp only [aJ.ga];omega
  have a9:(c+fq (decide<|10<l.length)+bf (l.take i) d+i4 (gt y.op).isNone+iS ((gt y.op).getD (aq,0)) y.mod y.nm y.args.length+gg y.args 1+hB (o' y.op y.body.length y.other.length)).aM+2+8*bC y.body<=1152921504606846976:=by simp only [aJ.ga];omega
  have a_:(c+fq (decide<|10<l.length)+bf (l.take i) d+i4 (gt y.op).isNone+iS ((gt y.op).getD (aq,0)) y.mod y.nm y.args.length+gg y.args 1+hB (o' y.op y.body.length y.other.length)+bM y.body (d+1)).aM+2+8*bC y.other<=1152921504606846976:=by simp only [aJ.ga];omega
  have ba:(c+fq (decide<|10<l.length)+bf (l.take i) d+i4 (gt y.op).isNone+iS ((gt y.op).getD (aq,0)) y.mod y.nm y.args.length+gg y.args 1+hB (o' y.op y.body.length y.other.length)).aM+2+8*bC y.other<=1152921504606846976:=by simp only [aJ.ga];omega
  refine ay<|Cs<|Cb<|ak<|V0 (Yo tQ O O P ai)<|V0 (eB 0 mV O O O<|W) ?_;refine Al Y O GR λaf=>aw 0 Y O O O tR O O O<|ag<|Cs ?_;refine WC.o6 [(0,ad),(1,ad),(2,ad),(3,ad),(4,ad),(5,ad),(6,ad),(7,ad),(8,ad),(9,ad),(10,aq),(11,aq),(12,aq)] mixed ah (λ_ _ _ d _ h=>by cases d<;>exact h)<|D0 O a' (Ym O)<|D0 O a' (bS O)<|D0 O a' (Yf aa' O)<|D0 O a' (Yd 1 O O O ah)<|D0 O a' (Yf e1 O)<|D0 O a' (Yd 0 O O O ah)<|D0 O a' (Fl 3 m4 py k' og O O O) ?_;rw [X,ae];refine D0 O a' (Ym O)<|D0 O a' (Yx O O)<|D0 O a' (Yx O O) ?_;refine De O a'<|Al Y O og λbb=>Ln<|Ed ?_;refine De O (λ_ h=>(Wd 1 h:))<|aw 0 Y O O O Sj O O O<|Ln<|Ed ?_;refine De O (λ_ h=>(Wd 1 h:))<|au O<|Ln<|Ed ?_;refine WD.nil (λ_ h=>(Wd 1 h:))<|Et<|ak<|ab O<|ab O<|V0 (ih O) ?_;rw [aS.not_not];refine Lf 2 O<|i' (K3<|(gt y.op).isNone)<|ag<|ak<|ab O<|V0 (dW 1 O O Sk O)<|V0 (Yf Ds O)<|V0 (Yd 2 O O O ah)<|V0 (Yf Dt O)<|V0 (Yd 2 O O O ah)<|V0 (Yf sL O) ?_;refine V0 (Yd 2 O O O ah)<|V0 (Yn u5 O) ?_;refine i' (Si ((gt y.op).getD (aq,0)) y.mod y.nm ai)<|ag<|Cs<|ak<|V0 (Yf sL O)<|V0 (Yd 2 O O O ah)<|V0 (Yn u5 O)<|ab O<|ag<|Cb ?_;refine f_ (ι:=Z) (λj=>[(55,am an (j:ac))]) [(0,_),(2,_),(7,_),(22,_),(23,_),(24,_),(53,_),(54,_)] (λj=>Ws w [t,o,p] ([aQ t<|aY #[am an 0,am an ((c+fq (decide<|10<l.length)+bf (l.take i) d+i4 (gt y.op).isNone+iS ((gt y.op).getD (aq,0)) y.mod y.nm y.args.length+gg (y.args.take j) 1).f:ac),am an ((c+fq (decide<|10<l.length)+bf (l.take i) d+i4 (gt y.op).isNone+iS ((gt y.op).getD (aq,0)) y.mod y.nm y.args.length+gg (y.args.take j) 1).m:ac),am an 0,am an ((c+fq (decide<|10<l.length)+bf (l.take i) d+i4 (gt y.op).isNone+iS ((gt y.op).getD (aq,0)) y.mod y.nm y.args.length+gg (y.args.take j) 1).k:ac),am an 0,am an 0,am an 0,am an 0,am an 0,.map (aa o),.map (aa p)] 252 (0,0),aQ o<|dT kI (oe 9) 15,aQ p<|dT kI qX 7]++[aQ af<|aY (yE y Q R S T U V).toArray 241 (0,0)]) [bN]) (λj=>j<=y.args.length) (λj=>y.args.length-j) 0 (dw _) (λ_ h=>by exact (Wt 4<|(((h.f 2 O).f 4 O).f 4 O).f 3 O:)) λj bc=>ak<|V0 (c8 O O)<|ag<|Cs ?_;refine Cc O (λG=>?_)<|λG=>?_
  ·have D:j<y.args.length:=by simpa using G
   obtain ⟨z,H⟩:=bk D;obtain ⟨bd,bg,al,M⟩:=E.ct j z H;obtain ⟨J,rfl⟩:∃J,bE=J+1:=by cases bE with| zero=>exact M.elim| succ a=>exact ⟨a,rfl⟩
   obtain ⟨bh,bi,ap,av⟩:=M;have bj:=Sd H;have bl:=Ao (y.args.take j) 1;have bm:(c+fq (decide<|10<l.length)+bf (l.take i) d+i4 (gt y.op).isNone+iS ((gt y.op).getD (aq,0)) y.mod y.nm y.args.length+gg (y.args.take j) 1).aM+8*wE z<=1152921504606846976:=by simp only [aJ.ga];omega
   have ax:c+fq (decide<|10<l.length)+bf (l.take i) d+i4 (gt y.op).isNone+iS ((gt y.op).getD (aq,0)) y.mod y.nm y.args.length+gg (y.args.take j) 1+cM z 1=c+fq (decide<|10<l.length)+bf (l.take i) d+i4 (gt y.op).isNone+iS ((gt y.op).getD (aq,0)) y.mod y.nm y.args.length+gg (y.args.take<|j+1) 1:=by rw [Sb 1 H,<-aJ.ky]
   refine ay<|Cs<|Cb<|ak<|V0 (Yo u5 O O al ai)<|V0 (eB 0 cZ O O O<|ap) ?_;refine Al Y O qZ λbn=>aw 0 Y O O O qk O O O<|ag<|Cr<|ab O<|V0 (dW 0 O O cZ O)<|Lf 3 O<|Lf 3 O<|Lf 3 O ?_;refine i' (aa8 J 1 av)<|Ln<|Eb<|Et<|Cr<|V0 (Yi O O O ai)<|ab O<|Ln ?_;rw [ax];exact ep (j+1) ai ai (λ_ h=>by exact (Wt 4<|(((h.f 4 O).f 3 O).f 3 O).f 3 O:))
  have bo:¬j<y.args.length:=by simpa using G
  rw [mz (by omega:y.args.length<=j)];refine Ce<|Ex<|Ex<|ee<|Et<|ak<|V0 (Yf e1 O)<|V0 (Yd 3 O O O ah)<|V0 (bY O O)<|ab O ?_;apply Lo 3 O O O O Y O O O O O;·intro bq;refine Vg (Yf e1 O)<|Vg (Yd 3 O O O ah)<|Vg (bY O O) ?_;exact Gt 3 O O O
  refine au O<|ag<|ak<|ab O<|ab O<|V0 (ih O)<|ab O ?_;apply La 4 O O O O Y O O O O O;·intro br;refine Vg (Yf Bj O)<|Vg (Yd 3 O O O ah)<|Vg (Yn tQ O)<|Vg (eZ O O) ?_;rw [Dr];exact Gt 4 O O O
  refine ab O ?_;apply Lo 9 O O O O Y O O O O O
  ·intro bs;refine Vg (Yf e1 O)<|Vg (Yd 3 O O O ah)<|Vg (ha O O)<|Vg (Ym O) ?_;apply La 4 O O O O (.g O O O) O O O O O;·intro bt;refine Vg (Yf xG O)<|Vg (Yd 3 O O O ah)<|Vg (Yn tQ O)<|Vg (eZ O O) ?_;rw [Dr];exact Gt 4 O O O
   exact Gt 5 O O O
  refine i' (xF<|o' y.op y.body.length y.other.length)<|ag<|Cs<|ak<|ab O<|ab O ?_;apply Lo 4 O O O O Y O O O O O;·intro bv;refine Vg (Yf Bj O)<|Vg (Yd 3 O O O ah)<|Vg (Yn tQ O)<|Vg (eZ O O) ?_;rw [Dr];exact Gt 4 O O O
  refine ag<|Cc O (λK=>?_)<|λK=>?_
  ·have s:(if (inner y.op||decide (0<y.body.length))=ad then bM y.body (d+1) else c0)=bM y.body (d+1):=aD K;refine Cr<|ab O<|V0 (Yf Bj O)<|V0 (Yd 3 O O O ah)<|ab O<|V0 (Yi O O O ai) ?_;refine i' (x a ai (d+1) F)<|ag<|ak<|V0 (Yf xG O)<|V0 (Yd 3 O O O ah)<|V0 (Yn tQ O)<|V0 (eZ O O) ?_;rw [Dr];refine ag<|Cc O (λb=>?_)<|λb=>?_;·have n:(if 0<y.other.length then bM y.other (d+1) else c0)=bM y.other (d+1):=aD (by simpa using b);refine Cr<|ab O<|V0 (Yf xG O)<|V0 (Yd 3 O O O ah)<|ab O<|V0 (Yi O O O ai) ?_;refine i' (x a ai (d+1) u)<|Ln<|Eb<|Et<|Cr<|V0 (Yi O O O ai)<|ab O<|Ln ?_;rw [show c+fq (decide<|10<l.length)+bf (l.take i) d+i4 (gt y.op).isNone+iS ((gt y.op).getD (aq,0)) y.mod y.nm y.args.length+gg y.args 1+hB (o' y.op y.body.length y.other.length)+bM y.body (d+1)+bM y.other (d+1)=c+fq (decide<|10<l.length)+bf (l.take<|i+1) d by rw [yu d q,yq,s,n];simp only [aJ.ky,Bd,Bi]];exact ep (i+1) ai ai<|λ_ h=>(Wt 3 h:)
   have n:(if 0<y.other.length then bM y.other (d+1) else c0)=c0:=aj (by simpa using b);refine Ck<|Eb<|Et<|Cr<|V0 (Yi O O O ai)<|ab O<|Ln ?_;rw [show c+fq (decide<|10<l.length)+bf (l.take i) d+i4 (gt y.op).isNone+iS ((gt y.op).getD (aq,0)) y.mod y.nm y.args.length+gg y.args 1+hB (o' y.op y.body.length y.other.length)+bM y.body (d+1)=c+fq (decide<|10<l.length)+bf (l.take<|i+1) d by rw [yu d q,yq,s,n];simp only [aJ.ky,Bd,Bi]];exact ep (i+1) ai ai<|λ_ h=>(Wt 3 h:)
  have s:(if (inner y.op||decide (0<y.body.length))=ad then bM y.body (d+1) else c0)=c0:=aj (λe=>by rw [show (inner y.op||decide (0<y.body.length))=aq from K] at e;cases e);refine ay<|ak<|V0 (Yf xG O)<|V0 (Yd 3 O O O ah)<|V0 (Yn tQ O)<|V0 (eZ O O) ?_;rw [Dr];refine ag<|Cc O (λb=>?_)<|λb=>?_;·have n:(if 0<y.other.length then bM y.other (d+1) else c0)=bM y.other (d+1):=aD (by simpa using b);refine Cr<|ab O<|V0 (Yf xG O)<|V0 (Yd 3 O O O ah)<|ab O<|V0 (Yi O O O ai) ?_;refine i' (x a ai (d+1) u)<|Ln<|Eb<|Et<|Cr<|V0 (Yi O O O ai)<|ab O<|Ln ?_;rw [show c+fq (decide<|10<l.length)+bf (l.take i) d+i4 (gt y.op).isNone+iS ((gt y.op).getD (aq,0)) y.mod y.nm y.args.length+gg y.args 1+hB (o' y.op y.body.length y.other.length)+bM y.other (d+1)=c+fq (decide<|10<l.length)+bf (l.take<|i+1) d by rw [yu d q,yq,s,n];simp only [aJ.ky,Bd,Bi]];exact ep (i+1) ai ai<|λ_ h=>(Wt 3 h:)
  have n:(if 0<y.other.length then bM y.other (d+1) else c0)=c0:=aj (by simpa using b);refine Ck<|Eb<|Et<|Cr<|V0 (Yi O O O ai)<|ab O<|Ln ?_;rw [show c+fq (decide<|10<l.length)+bf (l.take i) d+i4 (gt y.op).isNone+iS ((gt y.op).getD (aq,0)) y.mod y.nm y.args.length+gg y.args 1+hB (o' y.op y.body.length y.other.length)=c+fq (decide<|10<l.length)+bf (l.take<|i+1) d by rw [yu d q,yq,s,n];simp only [aJ.ky,Bd,Bi]];exact ep (i+1) ai ai<|λ_ h=>(Wt 3 h:)
 have bw:¬i<l.length:=by simpa using C
 rw [mz ai,aJ.ky,<-aa9 B];refine Ce<|Ex<|Ex<|ee ?_;refine E0 O λN r=>⟨O,r⟩
def Sn:∀(l:I fd) (i:Z),wD (l.take i)<=wD l| [],i=>by simp| x::r,0=>by simp [wD]| x::r,i+1=>by have:=Sn r i;simp only [qq,wD];omega
def K6:∀(l:I gU) (i:Z),wP (l.take i)<=wP l| [],i=>by simp| x::r,0=>by simp [wP]| x::r,i+1=>by have:=K6 r i;simp only [qq,wP];omega
variable {AL:I gU} {i7:gU}
def So (h:AL[bE]? = aa i7):wP (AL.take bE)+(1+i7.nm.length+wN i7.params+wN i7.aX+bC i7.body)<=wP AL:=by
 have c:=K6 AL<|bE+1;rw [l3 h] at c;have:∀a b:I gU,wP (a++b)=wP a+wP b:=by intro a b;induction a with| nil=>simp [wP]| cons y a d=>simp only [ix,wP,d];omega
 rw [this] at c;simp only [wP] at c;omega
def Sp:∀a b:I fd,hj (a++b)=hj a+hj b| [],b=>by apply aJ.ext'<;>simp [aJ.yA,aJ.yB,aJ.yC,hj,c0]| x::a,b=>by rw [ix,show ∀q,hj (x::q)=kz x+hj q from λ_=>rfl,Sp a b,show ∀q,hj (x::q)=kz x+hj q from λ_=>rfl,aJ.ky]
def aa_ {l:I fd}  {s:fd} (h:l[bE]? = aa s):hj (l.take<|bE+1)=hj (l.take bE)+kz s:=by rw [l3 h,Sp];rfl
def Sq:∀a b:I gU,iz (a++b)=iz a+iz b| [],b=>by apply aJ.ext'<;>simp [aJ.yA,aJ.yB,aJ.yC,iz,c0]| x::a,b=>by rw [ix,show ∀q,iz (x::q)=rl x+iz q from λ_=>rfl,Sq a b,show ∀q,iz (x::q)=rl x+iz q from λ_=>rfl,aJ.ky]
def aba (h:AL[bE]? = aa i7):iz (AL.take<|bE+1)=iz (AL.take bE)+rl i7:=by rw [l3 h,Sq];rfl
def abb (n:Z):decide ((4:ac)<(n:ac))=decide (4<n):=by rw [mA];simp;omega
def abc (n:Z):decide ((6:ac)<(n:ac))=decide (6<n):=by rw [mA];simp;omega
def eN (i:Z):Z:=if i=0 then 4 else if i=1 then 2 else 1
def cE (c:aJ) (i:Z):Z:=if i=0 then c.k else if i=1 then c.m else c.f
def abd {i:Z} (h:i<3):(#[am an 4,am an 2,am an 1]:bH aR)[i]? = aa (am an (eN i:ac)):=by match i,h with| 0,_=>rfl| 1,_=>rfl| 2,_=>rfl
def abe (i:Z):eN i<10:=by unfold eN;split;omega;split<;>omega
def abf {c:aJ} {a b i:Z} (h:i<3) {T:cn} {d:Z×Z}:cz (aY #[am an 0,am an (c.f:ac),am an (c.m:ac),am an 0,am an (c.k:ac),am an 0,am an 0,am an 0,am an 0,am an 0,.map (aa a),.map (aa b)] T d) (0+0+eN i*1)=aa (am an (cE c i:ac)):=by match i,h with| 0,_=>rfl| 1,_=>rfl| 2,_=>rfl
variable {b6:aJ}
def abg {i:Z} (h:i<3) (d:∀j,j<i->cE b6 j=0) (c:0<cE b6 i):(eN i:ac)=vH b6:=by match i,h,d,c with| 0,_,_,c=>unfold vH;rw [aD<|show 0<b6.k from c];rfl| 1,_,d,c=>have:=d 0 ai;unfold vH;rw [aj (by simp [cE] at this;omega),aD<|show 0<b6.m from c];rfl| 2,_,d,c=>have a:=d 0 ai;have b:=d 1 ai;unfold vH;rw [aj (by simp [cE] at a;omega),aj (by simp [cE] at b;omega),aD<|show 0<b6.f from c];rfl
def abh (h:∀j,j<3->cE b6 j=0):vH b6=0:=by have a:=h 0 ai;have b:=h 1 ai;have d:=h 2 ai;simp [cE] at a b d;unfold vH;rw [aj ai,aj ai,aj ai]
def abi:hW aC 252=aa [(0,10),(10,1),(11,1)]:=ah
def abj:zeroOf aC 252=aa (b0 #[am an 0,am an 0,am an 0,am an 0,am an 0,am an 0,am an 0,am an 0,am an 0,am an 0,.map ao,.map ao]):=ah
def zj:aT aC 27 0=aa 0:=ah
def h2:aT aC 27 1=aa 1:=ah
def Bl:aT aC 27 2=aa 2:=ah
def zk:g_ aC 23=aa 4:=ah
def zl:aT aC 27 3=aa 3:=ah
def wh:g_ aC 24=aa 5:=ah
def e5:i2 aC 109=aa 4:=ah
def zm:zeroOf aC 109=aa (b0 #[am an 0,st [],bW aq,am an 0]):=ah
def wi:e2 aC 109=aa 4:=ah
def Bm:i2 aC 113=aa 5:=ah
def zn:zeroOf aC 113=aa (b0 #[st [],bW aq,aE ao 0 0,aE ao 0 0,aE ao 0 0]):=ah
def Bn:e2 aC 113=aa 5:=ah
def Sr:aT aC 113 0=aa 0:=ah
def u6:aT aC 113 2=aa 2:=ah
def Bo:aT aC 113 3=aa 3:=ah
def K7:aT aC 113 4=aa 4:=ah
def K8:aT aC 27 4=aa 4:=ah
def abk:yw aC 256=aa (3,1):=ah
def abl:zeroOf aC 256=aa (b0 #[am an 0,am an 0,am an 0]):=ah
def abm:uk aC 256=aa 3:=ah
def K9 (c:View) (ke ks:Z) (r:ox) (m:cV) (w:aP) (J:Le c w) (a:oy ke ks c r m) (al:wM m<=9007199254740992) :
   cx aC 68 #[b0 (b7 m r).toArray] w λe o=>e = cf (am an<|jh m)/\Ext w o:=by
 have ap:=I0 m.nm;have av:=lO m.aN;have ax:=An<|(decide (3<m.aN.length)||decide (10<m.decls.length))||decide (6<m.procs.length);have az:=IY m.decls;have aB:=Fv m.procs;have aD:=IZ m.main 1;have aF:wM m=1+m.nm.length+wN m.aN+wD m.decls+wP m.procs+bC m.main:=rfl;have aG:c0.aM=0:=rfl;have aH:=Am m.aN;have aI:=a.aN.cap;have aL:=a.aN.max;have aO:=a.decls.cap;have aT:=a.decls.max;have aV:=a.procs.cap;have aW:=a.procs.max;have K:∀i,(hj<|m.decls.take i).aM<=8*wD m.decls:=λi=>by have:=IY<|m.decls.take i;have:=Sn m.decls i;omega
 have L:∀i,(iz<|m.procs.take i).aM<=8*wP m.procs:=λi=>by have:=Fv<|m.procs.take i;have:=K6 m.procs i;omega
 have a0:(c0+du [m.nm]).aM+16+m.aN.length<=1152921504606846976:=by simp only [aJ.ga];omega
 have a1:(c0+du [m.nm]+du m.aN).aM+16+m.aN.length<=1152921504606846976:=by simp only [aJ.ga];omega
 have a2:(c0+du [m.nm]+du m.aN+fq ((decide (3<m.aN.length)||decide (10<m.decls.length))||decide (6<m.procs.length))).aM+16+m.aN.length<=1152921504606846976:=by simp only [aJ.ga];omega
 have a3:(c0+du [m.nm]+du m.aN+fq ((decide (3<m.aN.length)||decide (10<m.decls.length))||decide (6<m.procs.length))+hj m.decls).aM+16+m.aN.length<=1152921504606846976:=by simp only [aJ.ga];omega
 have a4:(c0+du [m.nm]+du m.aN+fq ((decide (3<m.aN.length)||decide (10<m.decls.length))||decide (6<m.procs.length))+hj m.decls+iz m.procs).aM+16+8*bC m.main<=1152921504606846976:=by simp only [aJ.ga];omega
 refine enter func68 O 106 O O<|CE (Vs:=[c]) (Ws.init (by simp [J]))<|ak ?_;refine WL.box Y O O λs=>au O<|ag<|ak ?_;refine WL.Cj (ι:=Z) Y O bp O (λb=>.map<|aa b) (λb=>[aQ b<|dT kI (oe 9) 15]) (λ_=>True) (λw q=>(aa2 w).mono λe o h=>by obtain ⟨b,t,u⟩:=h;exact ⟨b,t,trivial,u⟩) λl _=>WL.Cj (ι:=Z) Y O bp O (λb=>.map<|aa b) (λb=>[aQ b<|dT kI qX 7]) (λ_=>True) (λw q=>(aa3 w).mono λe o h=>by obtain ⟨b,t,u⟩:=h;exact ⟨b,t,trivial,u⟩) λn _=>V0 (Yb abj abi O O)<|WL.box Y O O λv=>eb 0 (aY #[am an 0,am an ((c0).f:ac),am an ((c0).m:ac),am an 0,am an ((c0).k:ac),am an 0,am an 0,am an 0,am an 0,am an 0,.map (aa l),.map (aa n)] 252 (0,0)) O O<|au O<|ag<|ak<|ab O<|V0 (Yf zj O)<|V0 (Yd 3 O O O ah) ?_;refine Lb Y O gQ O O O O λa5=>jW (T:=9) (m:=1) 0 [m.nm] O O (show 1<=1 by decide) a8 λa7 M=>i' (Bg M)<|ag<|ak<|ab O<|V0 (Yf h2 O)<|V0 (Yd 3 O O O ah) ?_;refine i' (Bg a.aN)<|ag<|ak<|ab O<|V0 (Yf h2 O)<|V0 (Yd 3 O O O ah)<|V0 (Yn gf O)<|V0 (eZ O O) ?_;rw [K5];refine ab O ?_;apply Lo 4 O O O O Y O O O O O;·intro a9;refine Vg (Yf Bl O)<|Vg (Yd 3 O O O ah)<|Vg (Yn zk O)<|Vg (eZ O O) ?_;rw [P0];exact Gt 4 O O O
 refine ab O ?_;apply Lo 4 O O O O Y O O O O O;·intro a_;refine Vg (Yf zl O)<|Vg (Yd 3 O O O ah)<|Vg (Yn wh O)<|Vg (eZ O O) ?_;rw [abc];exact Gt 4 O O O
 refine i' (Be<|(decide (3<m.aN.length)||decide (10<m.decls.length))||decide (6<m.procs.length))<|ag<|Cs<|ak<|V0 (Yf Bl O)<|V0 (Yd 3 O O O ah)<|V0 (Yn zk O)<|ab O<|ag<|Cb ?_;refine f_ (ι:=Z) (λi=>[(44,am an (i:ac))]) [(1,_),(2,_),(3,_),(42,_),(43,_)] (λi=>Ws w [] [aQ v<|aY #[am an 0,am an ((c0+du [m.nm]+du m.aN+fq ((decide (3<m.aN.length)||decide (10<m.decls.length))||decide (6<m.procs.length))+hj (m.decls.take i)).f:ac),am an ((c0+du [m.nm]+du m.aN+fq ((decide (3<m.aN.length)||decide (10<m.decls.length))||decide (6<m.procs.length))+hj (m.decls.take i)).m:ac),am an 0,am an ((c0+du [m.nm]+du m.aN+fq ((decide (3<m.aN.length)||decide (10<m.decls.length))||decide (6<m.procs.length))+hj (m.decls.take i)).k:ac),am an 0,am an 0,am an 0,am an 0,am an 0,.map (aa l),.map (aa n)] 252 (0,0),aQ l<|dT kI (oe 9) 15,aQ n<|dT kI qX 7,aQ s<|aY (b7 m r).toArray 27 (0,0)] [c]) (λi=>i<=m.decls.length) (λi=>m.decls.length-i) 0 (dw _) (λ_ h=>by have h:=h.bs 3 O;have h:=h.bs 2 O;have h:=h.bs 3 O;have h:=h.bs 3 O;have h:=Ws.aZ h (cI:=[c]) aK;exact h) λi hi=>ak<|V0 (c8 O O)<|ag<|Cs ?_;refine Cc O (λx=>?_)<|λx=>?_
 ·have g:i<m.decls.length:=by simpa using x
  obtain ⟨d,H⟩:=bk g;obtain ⟨N,P,Q,y⟩:=a.decls.ct i d H;have y:cB c N (P+i*4) d.cells:=y;have R:c0+du [m.nm]+du m.aN+fq ((decide (3<m.aN.length)||decide (10<m.decls.length))||decide (6<m.procs.length))+hj (m.decls.take i)+kz d=c0+du [m.nm]+du m.aN+fq ((decide (3<m.aN.length)||decide (10<m.decls.length))||decide (6<m.procs.length))+hj (m.decls.take<|i+1):=by rw [aa_ H,<-aJ.ky]
  have ba:=K i;have bb:(c0+du [m.nm]+du m.aN+fq ((decide (3<m.aN.length)||decide (10<m.decls.length))||decide (6<m.procs.length))+hj (m.decls.take i)).aM+4<=4611686018427387904:=by simp only [aJ.ga];omega
  refine ay<|Cs<|Cb<|ak<|V0 (Yo zk O O Q ai)<|V0 (eB 0 e5 O O O<|y) ?_;refine Al Y O zm λbc=>aw 0 Y O O O wi O O O<|ag<|Cr<|ab O<|V0 (dW 0 O O e5 O)<|Lf 1 O ?_;refine i' (aa5 d)<|Ln<|Eb<|Et<|Cr<|V0 (Yi O O O ai)<|ab O<|Ln ?_;rw [R];exact ep (i+1) ai ai (λ_ h=>by exact (Wt 4<|(((h.f 4 O).f 4 O).f 4 O).f 3 O:))
 have bd:¬i<m.decls.length:=by simpa using x
 rw [mz ai];refine Ce<|Ex<|Ex<|ee<|Et<|Cs<|ak<|V0 (Yf zl O)<|V0 (Yd 3 O O O ah)<|V0 (Yn wh O)<|ab O<|ag<|Cb ?_;refine f_ (ι:=Z) (λj=>[(55,am an (j:ac))]) [(1,_),(2,_),(3,_),(53,_),(54,_)] (λj=>Ws w [] [aQ v<|aY #[am an 0,am an ((c0+du [m.nm]+du m.aN+fq ((decide (3<m.aN.length)||decide (10<m.decls.length))||decide (6<m.procs.length))+hj m.decls+iz (m.procs.take j)).f:ac),am an ((c0+du [m.nm]+du m.aN+fq ((decide (3<m.aN.length)||decide (10<m.decls.length))||decide (6<m.procs.length))+hj m.decls+iz (m.procs.take j)).m:ac),am an 0,am an ((c0+du [m.nm]+du m.aN+fq ((decide (3<m.aN.length)||decide (10<m.decls.length))||decide (6<m.procs.length))+hj m.decls+iz (m.procs.take j)).k:ac),am an 0,am an 0,am an 0,am an 0,am an 0,.map (aa l),.map (aa n)] 252 (0,0),aQ l<|dT kI (oe 9) 15,aQ n<|dT kI qX 7,aQ s<|aY (b7 m r).toArray 27 (0,0)] [c]) (λj=>j<=m.procs.length) (λj=>m.procs.length-j) 0 (dw _) a' λj z=>ak<|V0 (c8 O O)<|ag<|Cs ?_;refine Cc O (λA=>?_)<|λA=>?_
 ·have g:j<m.procs.length:=by simpa using A
  obtain ⟨p,B⟩:=bk g;obtain ⟨bf,bg,S,U⟩:=a.procs.ct j p B;obtain ⟨bh,bi,bj,bl,bm,bn,V,C,D,W⟩:=U;have bo:=So B;have bq:=L j;have br:=Fv<|m.procs.take j;have bt:=I0 p.nm;have bv:=lO p.params;have bw:=lO p.aX;have bx:=An<|decide (3<p.params.length)||decide (4<p.aX.length);have bz:=Am p.params;have bA:=Am p.aX;have bD:=C.cap;have bE:=C.max;have bF:=D.cap;have bG:=D.max;have X:c0+du [m.nm]+du m.aN+fq ((decide (3<m.aN.length)||decide (10<m.decls.length))||decide (6<m.procs.length))+hj m.decls+iz (m.procs.take j)+du [p.nm]+du p.params+du p.aX+fq (decide (3<p.params.length)||decide (4<p.aX.length))+bM p.body 1=c0+du [m.nm]+du m.aN+fq ((decide (3<m.aN.length)||decide (10<m.decls.length))||decide (6<m.procs.length))+hj m.decls+iz (m.procs.take<|j+1):=by rw [aba B,rl];simp only [aJ.ky]
  have bI:(c0+du [m.nm]+du m.aN+fq ((decide (3<m.aN.length)||decide (10<m.decls.length))||decide (6<m.procs.length))+hj m.decls+iz (m.procs.take j)).aM+16+p.params.length+p.aX.length+8*bC p.body<=1152921504606846976:=by simp only [aJ.ga];omega
  have bJ:(c0+du [m.nm]+du m.aN+fq ((decide (3<m.aN.length)||decide (10<m.decls.length))||decide (6<m.procs.length))+hj m.decls+iz (m.procs.take j)+du [p.nm]).aM+16+p.params.length+p.aX.length+8*bC p.body<=1152921504606846976:=by simp only [aJ.ga];omega
  have bK:(c0+du [m.nm]+du m.aN+fq ((decide (3<m.aN.length)||decide (10<m.decls.length))||decide (6<m.procs.length))+hj m.decls+iz (m.procs.take j)+du [p.nm]+du p.params).aM+16+p.params.length+p.aX.length+8*bC p.body<=1152921504606846976:=by simp only [aJ.ga];omega
  have bL:(c0+du [m.nm]+du m.aN+fq ((decide (3<m.aN.length)||decide (10<m.decls.length))||decide (6<m.procs.length))+hj m.decls+iz (m.procs.take j)+du [p.nm]+du p.params+du p.aX).aM+16+p.params.length+p.aX.length+8*bC p.body<=1152921504606846976:=by simp only [aJ.ga];omega
  have bN:(c0+du [m.nm]+du m.aN+fq ((decide (3<m.aN.length)||decide (10<m.decls.length))||decide (6<m.procs.length))+hj m.decls+iz (m.procs.take j)+du [p.nm]+du p.params+du p.aX+fq (decide (3<p.params.length)||decide (4<p.aX.length))).aM+16+p.params.length+p.aX.length+8*bC p.body<=1152921504606846976:=by simp only [aJ.ga];omega
  refine ay<|Cs<|Cb<|ak<|V0 (Yo wh O O S ai)<|V0 (eB 0 Bm O O O<|V) ?_;refine Al Y O zn λbO=>aw 0 Y O O O Bn O O O<|ag<|ak<|ab O<|V0 (Yf Sr O)<|V0 (Yd 0 O O O ah) ?_;refine Lb Y O gQ O O O O λbP=>jW (T:=9) (m:=1) 0 [p.nm] O O (show 1<=1 by decide) a8 λbQ ae=>Lf 1 O<|i' (Bg ae)<|ag<|ak<|ab O<|V0 (Yf u6 O)<|V0 (Yd 1 O O O ah) ?_;refine i' (Bg C)<|ag<|ak<|ab O<|V0 (Yf Bo O)<|V0 (Yd 1 O O O ah) ?_;refine i' (Bg D)<|ag<|ak<|ab O<|V0 (Yf u6 O)<|V0 (Yd 1 O O O ah)<|V0 (Yn gf O)<|V0 (eZ O O) ?_;rw [K5];refine ab O ?_;apply Lo 4 O O O O Y O O O O O;·intro bR;refine Vg (Yf Bo O)<|Vg (Yd 1 O O O ah)<|Vg (Yn gf O)<|Vg (eZ O O) ?_;rw [abb];exact Gt 4 O O O
  refine i' (Be<|decide (3<p.params.length)||decide (4<p.aX.length))<|ag<|Cr<|ab O<|V0 (Yf K7 O)<|V0 (Yd 1 O O O ah)<|Lf 3 O<|Lf 3 O<|Lf 2 O ?_;refine i' (Qf ks 1 W)<|Ln<|Eb<|Et<|Cr<|V0 (Yi O O O ai)<|ab O<|Ln ?_;rw [X];exact ep (j+1) ai ai (λ_ h=>by exact (Wv 1<|Wt 4<|(((h.f 4 O).f 3 O).f 3 O).f 3 O:))
 have bT:¬j<m.procs.length:=by simpa using A
 rw [mz ai];refine Ce<|Ex<|Ex<|ee<|Et<|ak<|ab O<|V0 (Yf K8 O)<|V0 (Yd 3 O O O ah) ?_;refine i' (Qf ks 1 a.main)<|ag<|Cs<|ak<|V0 (N_ abl abk O O)<|ab O<|ag<|Cb ?_;refine f_ (ι:=Z) (λi=>[(94,am an (i:ac))]) [(3,_),(93,_)] (λi=>Ws w [] [aQ v<|aY #[am an 0,am an ((c0+du [m.nm]+du m.aN+fq ((decide (3<m.aN.length)||decide (10<m.decls.length))||decide (6<m.procs.length))+hj m.decls+iz m.procs+bM m.main 1).f:ac),am an ((c0+du [m.nm]+du m.aN+fq ((decide (3<m.aN.length)||decide (10<m.decls.length))||decide (6<m.procs.length))+hj m.decls+iz m.procs+bM m.main 1).m:ac),am an 0,am an ((c0+du [m.nm]+du m.aN+fq ((decide (3<m.aN.length)||decide (10<m.decls.length))||decide (6<m.procs.length))+hj m.decls+iz m.procs+bM m.main 1).k:ac),am an 0,am an 0,am an 0,am an 0,am an 0,.map (aa l),.map (aa n)] 252 (0,0),aQ l<|dT kI (oe 9) 15,aQ n<|dT kI qX 7,aQ s<|aY (b7 m r).toArray 27 (0,0)] [c]) (λi=>i<=3/\∀j,j<i->cE (c0+du [m.nm]+du m.aN+fq ((decide (3<m.aN.length)||decide (10<m.decls.length))||decide (6<m.procs.length))+hj m.decls+iz m.procs+bM m.main 1) j=0) (λi=>3-i) 0 ⟨dw _,aK⟩ a' λi ⟨hi,E⟩=>ak<|V0 (c8 O O)<|ag<|Cs ?_;refine Cc O (λF=>?_)<|λF=>?_
 ·have g:i<3:=by simp at F;omega
  refine ay<|Cs<|Cb<|ak<|V0 (NL (i:=i) abm O O g<|abd g)<|au O<|ag<|ak<|ab O<|ab O<|V0 (bS O)<|V0 (Yf zf O) ?_;refine V0 (yx (i:=eN i) zg O O<|abe i)<|V0 (Yd 0 O O (abf g) ah)<|V0 (eZ O O)<|ag ?_;refine Cc O (λG=>?_)<|λG=>?_
  ·have af:0<cE (c0+du [m.nm]+du m.aN+fq ((decide (3<m.aN.length)||decide (10<m.decls.length))||decide (6<m.procs.length))+hj m.decls+iz m.procs+bM m.main 1) i:=by simpa using G
   refine ak<|ab O<|au O<|ag<|bu<|aU<|Er<|Er<|aU<|Er ?_;refine R1 O O λo q=>⟨?_,q.fr⟩;rw [abg g E af,show c0+du [m.nm]+du m.aN+fq ((decide (3<m.aN.length)||decide (10<m.decls.length))||decide (6<m.procs.length))+hj m.decls+iz m.procs+bM m.main 1=tj m by rw [tj,Bi]];rfl
  have aj:cE (c0+du [m.nm]+du m.aN+fq ((decide (3<m.aN.length)||decide (10<m.decls.length))||decide (6<m.procs.length))+hj m.decls+iz m.procs+bM m.main 1) i=0:=by simp at G;omega
  refine Ck<|Eb<|Et<|Cr<|V0 (Yi O O O ai)<|ab O<|Ln ?_;exact ep (i+1) ai ⟨ai,λj z=>by rcases oq.1 z with h | rfl;exact E j h;exact aj⟩ a'
 have bU:¬i<3:=by simp at F;omega
 refine Ce<|Ex<|Ex<|ee<|Et<|ak<|au O<|ag<|bu ?_;refine R1 O O λo q=>⟨?_,q.fr⟩;rw [jh,show tj m=c0+du [m.nm]+du m.aN+fq ((decide (3<m.aN.length)||decide (10<m.decls.length))||decide (6<m.procs.length))+hj m.decls+iz m.procs+bM m.main 1 by rw [tj,Bi],abh λj z=>E j ai]
def Ss:e2 aC 222=aa 1:=ah
def abn:uk aC 437=aa 9:=ah
def Sz:zeroOf aC 437=aa (b0 #[st [],st [],st [],st [],st [],st [],st [],st [],st []]):=ah
def abo:yw aC 437=aa (9,1):=ah
def abp:e2 aC 437=aa 9:=ah
def abq:i2 aC 437=aa 9:=ah
def abr (w:aP) : cx aC 350 #[] w λe a=>e = cf (b0 (opsL.map st).toArray)/\Ext w a:=by refine enter func350 O 2 O O<|CE (Vs:=[]) (Ws.init aK)<|ak ?_;refine Al Y O Sz λc=>ag<|ak<|V0 (N_ Sz abo O O)<|aw 0 Y O O O abp O O O<|ag<|bu ?_;refine WE.gF (kJ O<|fj 0 O O abq O) λa b=>⟨O,b.fr⟩
def abs:aT aC 109 2=aa 2:=ah
def abt:aT aC 113 1=aa 1:=ah
def nn:i2 aC 27=aa 5:=ah
abbrev b5 (a:Z) (r:aA a6×Z) (l:Tk):I bh:=[aQ a<|aY #[aE r.1 l.length r.2] 227 (0,0)]
def iZ:I oZ:=[⟨.iface 229<|b0 #[],aq,aq⟩]
def mW:I Tx->Tk->aA Tk| [],l=>aa l| w::ws,l=>(bG w l).bind<|mW ws
def gy (w:Tx) (l:Tk):mW [w] l=bG w l:=by unfold mW;cases bG w l<;>rfl
def Su (v w:Tx) (l:Tk):mW [v,w] l=(bG v l).bind (bG w):=by unfold mW;cases bG v l with| none=>rfl| some q=>exact gy w q
def Sv:∀{b:I Tx} {l r:Tk},j3 l->mW b l=aa r->j3 r| [],l,r,a,h=>by injection h with h;subst h;exact a| w::b,l,r,a,h=>by obtain ⟨q,c,d⟩:=dL.1 h;exact Sv (Rk a c) d
def K' (s:Tx) (t:Tok) (r:Tk):bG s (t::r)=if (t.text==s)=ad then aa r else ao:=rfl
variable {bb cr:Tk}
def kR (h:bG bR bb=aa cr):cr.length+1=bb.length:=by
 cases bb with
 | nil=>cases h
 | cons t r=>
  rw [K'] at h;split at h;·injection h with h;subst h;rfl
  ·cases h
def abu (h:bG bR bb=aa cr):mW (bR::eh) bb=mW eh cr:=by show (bG bR bb).bind (mW eh)=_;rw [h];rfl
def abv (h:bG bR bb=ao):mW (bR::eh) bb=ao:=by show (bG bR bb).bind (mW eh)=_;rw [h];rfl
structure eP (l:Tk):Prop where
 all:j3 l
 len:l.length<=4096
def wj (h:eP bb) (e:iM bb eh cr):eP cr:=⟨e.ok,by have:=h.len;rw [e.2,iy] at this;omega⟩
def kS (h:eP bb) (e:bG bR bb=aa cr):eP cr:=⟨Rk h.all e,by have:=kR e;have:=h.len;omega⟩
def Du:∀{a:I Tx} {l q:Tk},mW a l=aa q->q.length+a.length=l.length| [],l,q,h=>by injection h with h;subst h;rfl| w::a,l,q,h=>by obtain ⟨d,b,c⟩:=dL.1 h;have:=kR b;have:=Du c;simp only [gj];omega
def kT (h:eP bb) (e:mW eh bb=aa cr):eP cr:=⟨Sv h.all e,by have:=Du e;have:=h.len;omega⟩
def h5 (h:eP bb) (e:ie bb=aa (bR,cr)):eP cr:=wj h (uY h.all e).1
def K_ {a:ac} (h:eP bb) (e:oP bb=aa (a,cr)):eP cr:=wj h<|Bk h.all e
def Sw {p:Tx×Tx} (h:eP bb) (e:mS bb=aa (p,cr)):eP cr:=wj h<|Kx (mod:=p.1) (nm:=p.2) h.all e
def sM (h:eP bb) (e:bl bE bb=aa (kB,cr)):eP cr:=wj h<|A8 bE bb kB cr h.all e
def sN (h:eP bb) (e:bl bE bb=aa (kB,cr)):cr.length+1<=bb.length:=by have a:=(A8 bE bb kB cr h.all e).2;have b:=QG kB;rw [a];cases c:iE kB with| nil=>exact absurd c b| cons y t=>simp
def abw (h:eh[bE]? = aa bR):eh.drop bE=bR::eh.drop (bE+1):=by obtain ⟨hi,e⟩:=cN.1 h;rw [<-e];exact qr hi
def sO:aT aC 227 0=aa 0:=ah
def kA:hW aC 229=aa []:=ah
def wl:zeroOf aC 229=aa (b0 #[]):=ah
def wm:aC.concrete 229=ad:=ah
def abx:Fx aC 234 2=aa 2:=ah
def aby:Fx aC 234 1=aa 1:=ah
def abz (c:Z) (d:View) (r:aA a6×Z) (l:Tk) (s:Tx) (w:aP) (f:Sl e3 3 d r.1 r.2 l) (g:Ws w (c6 bh.ids<|b5 c r l) (b5 c r l) [d] w) : cx aC 209 #[b8 (aa ⟨c,0,ao⟩),st s] w λe j=>∃i:aS×(aA a6×Z)×Tk,e = cf (bW i.1)/\((i.1=ad->bG s l=aa i.2.2)/\(i.1=aq->bG s l=ao/\l=i.2.2)/\Sl e3 3 d i.2.1.1 i.2.1.2 i.2.2)/\Ws w (c6 bh.ids<|b5 c r l) (b5 c i.2.1 i.2.2) [d] j:=by
 have n:=f.cap;have z:=f.max;have k:=f.drop 1;refine enter func209 O 33 O O<|CE g<|ak<|au O<|ag<|ak<|ab O<|V0 (bS O)<|V0 (Yf sO O)<|V0 (Yd 0 O O O ah) ?_;refine V0 (Yn u3 O)<|V0 (eZ O O)<|ab O ?_;apply La 9 (x:=(l.head?.map λt=>t.text==s).getD aq) O O O O Y O O O O O
 ·intro o;obtain ⟨t,a,rfl⟩:∃t a,l=t::a:=by cases l with| nil=>simp at o| cons t a=>exact ⟨t,a,rfl⟩
  obtain ⟨p,q,u,m⟩:=f.ct 0 t rfl;have m:cB d p (q+0*3) t.cells:=m;refine Vg (Ym O)<|Vg (bS O)<|Vg (Yf sO O)<|Vg (Yd 0 O O O ah)<|Vg (Yo (i:=0) u3 O O u aK)<|Vg (Yf aaK O)<|Vg (ew 0 ah O O<|m 2 _ O)<|Vg (Ym O) ?_;refine Vg (B4 O O)<|Gt 9 O O O
 refine au O<|ag<|Cs<|ak<|ab O<|ag ?_;refine Cc O (λb=>?_)<|λb=>?_
 ·obtain ⟨t,a,rfl⟩:∃t a,l=t::a:=by cases l with| nil=>simp at b| cons t a=>exact ⟨t,a,rfl⟩
  have v:(t.text==s)=ad:=by simpa using b
  have k:=k aK;refine Cr<|ab O<|ab O<|V0 (bS O)<|V0 (Yf sO O)<|V0 (Yd 0 O O O ah)<|V0 (Ch 1 u3 O O O aK n)<|V0 (bS O) ?_;refine V0 (Yf sO O)<|aw 0 Y O O O Ss O O O<|ag<|ak<|ab O<|au O<|ag<|bu ?_;refine R1 O O λj g=>⟨(ad,(if r.2-1=0 then r.1 else r.1.map (·.add<|1*3),r.2-1),a),by rw [b],⟨λ_=>by rw [K',aD v],λh=>(by cases h),k⟩,g⟩
 have y:bG s l=ao:=by cases l with| nil=>rfl| cons t a=>rw [K',aj];intro h;simp [h] at b
 refine ay<|ak<|ab O<|au O<|ag<|bu ?_;refine R1 O O λj g=>⟨(aq,r,l),by rw [b],⟨λh=>(by cases h),λ_=>⟨y,O⟩,f⟩,g⟩
def kr (a:Z) (b:View) (r:aA a6×Z) (l:Tk) (s:Tx) (c:Sl e3 3 b r.1 r.2 l):RX aC 209 [b8<|aa ⟨a,0,ao⟩,st s] (b5 a r l) [b] (ι:=aS×(aA a6×Z)×Tk) (λi=>bW i.1) (λi=>b5 a i.2.1 i.2.2)<|λi=>(i.1=ad->bG s l=aa i.2.2)/\(i.1=aq->bG s l=ao/\l=i.2.2)/\Sl e3 3 b i.2.1.1 i.2.1.2 i.2.2:=⟨bp,λw d=>abz a b r l s w c d⟩
def abA (c:Z) (d:View) (r:aA a6×Z) (l:Tk) (f:View) (a:aA a6) (n:Z) (b:I Tx) (w:aP) (m:Sl rdStr 1 f a n b) (A:Sl e3 3 d r.1 r.2 l) (i:Ws w (c6 bh.ids<|b5 c r l) (b5 c r l) [d,f] w) : cx aC 207 #[b8 (aa ⟨c,0,ao⟩),aE a b.length n] w λe j=>(∃(r2:aA a6×Z) (q:Tk),e = cf (cO #[])/\mW b l=aa q/\Sl e3 3 d r2.1 r2.2 q/\Ws w (c6 bh.ids<|b5 c r l) (b5 c r2 q) [d,f] j)\/(∃(r2:aA a6×Z) (q:Tk),e = .panicked iZ/\mW b l=ao/\Ws w (c6 bh.ids<|b5 c r l) (b5 c r2 q) [d,f] j):=by
 have K:=m.cap;have L:=m.max;refine enter func207 O 19 O O<|CE i<|ak<|ab O<|V0 (Yn gf O)<|ab O<|ag<|Cb ?_;refine f_ (ι:=Z×(aA a6×Z)×Tk) (λg=>[(8,am an (g.1:ac))]) [(0,_),(6,_),(7,_)] (λg=>Ws w (c6 bh.ids<|b5 c r l) (b5 c g.2.1 g.2.2) [d,f]) (λg=>g.1<=b.length/\mW b l=mW (b.drop g.1) g.2.2/\Sl e3 3 d g.2.1.1 g.2.1.2 g.2.2) (λg=>b.length-g.1) (0,r,l) ⟨dw _,O,A⟩ a' λg ⟨hi,k,t⟩=>ak<|V0 (c8 O O)<|ag<|Cs ?_;refine Cc O (λo=>?_)<|λo=>?_
 ·have B:g.1<b.length:=by simpa using o
  obtain ⟨x,u⟩:=bk B;obtain ⟨C,D,M,p⟩:=m.ct g.1 x u;have p:cB f C (D+g.1*1)<|g4 x:=p;have v:=abw u;refine ay<|Cs<|Cb<|ak<|V0 (Yo gf O O zM ai)<|V0 (ew 1 ah O O<|p 0 _ O)<|au O<|ag<|ak<|ab O<|ab O ?_;refine WL.kw (kr c d g.2.1 g.2.2 x t) λ⟨N,y,z⟩ ⟨E,F,G⟩=>V0 (ih O)<|ag ?_;refine Cc O (λs=>?_)<|λs=>?_;·obtain ⟨H,P⟩:=F (by simpa using s);refine Cr<|V0 (Yb wl kA O O)<|V0 (r6 wm O) ?_;refine WL.panic Y O<|WE.cp<|Ep<|Ep<|WE.cp ?_;refine b_ λj i=>be ⟨y,z,O,by rw [k,v,abv H],by have h:=i;exact h⟩
  have J:=E (by simpa using s);refine Ck<|Eb<|Et<|Cr<|V0 (Yi O O O ai)<|ab O<|Ln ?_;exact ep ((g.1+1,y,z):Z×(aA a6×Z)×Tk) (by show b.length-(g.1+1)<b.length-g.1;omega) ⟨by show g.1+1<=b.length;omega,by rw [k,v,abu J],G⟩ a'
 have Q:¬g.1<b.length:=by simpa using o
 rw [k0 ai] at k;refine Ce<|Ex<|Ex<|ee ?_;refine E0 O λj i=>bB ⟨g.2.1,g.2.2,O,by rw [k];rfl,t,i⟩
def kU (b:Z) (d:View) (r:aA a6×Z) (l:Tk) (f:View) (a:aA a6) (n:Z) (c:I Tx) (m:Sl rdStr 1 f a n c) (o:Sl e3 3 d r.1 r.2 l):zc aC 207 [b8<|aa ⟨b,0,ao⟩,aE a c.length n] (b5 b r l) [d,f] (ι:=(aA a6×Z)×Tk) (κ:=(aA a6×Z)×Tk) (λ_=>cO #[]) (λi=>b5 b i.1 i.2) (λi=>mW c l=aa i.2/\Sl e3 3 d i.1.1 i.1.2 i.2) (λ_=>iZ) (λi=>b5 b i.1 i.2)<|λ_=>mW c l=ao:=⟨bp,λw p=>(abA b d r l f _ _ c w m o p).mono λe t h=>by
 rcases h with ⟨r2,q,g,j,k,s⟩ | ⟨r2,q,g,j,k⟩;·exact bB ⟨(r2,q),g,⟨j,k⟩,s⟩
 ·exact be ⟨(r2,q),g,j,k⟩⟩
def abB (b:Z) (c:View) (r:aA a6×Z) (l:Tk) (k:ac) (w:aP) (f:Sl e3 3 c r.1 r.2 l) (g:Ws w (c6 bh.ids<|b5 b r l) (b5 b r l) [c] w) : cx aC 259 #[b8 (aa ⟨b,0,ao⟩),am an k] w λe m=>(∃(t:Tok) (r2:aA a6×Z) (q:Tk),e = cf (b0 #[am an t.kind,am an t.n,st t.text])/\oO k l=aa (t,q)/\Sl e3 3 c r2.1 r2.2 q/\Ws w (c6 bh.ids<|b5 b r l) (b5 b r2 q) [c] m)\/(∃(r2:aA a6×Z) (q:Tk),e = .panicked iZ/\oO k l=ao/\Ws w (c6 bh.ids<|b5 b r l) (b5 b r2 q) [c] m):=by
 have v:=f.cap;have C:=f.max;have o:=f.drop 1;refine enter func259 O 40 O O<|CE g<|ak ?_;refine Al Y O zd λD=>ag<|Cs<|ak<|ab O<|V0 (bS O)<|V0 (Yf sO O)<|V0 (Yd 1 O O O ah)<|V0 (Yn u3 O)<|V0 (bY O O)<|ab O ?_;apply Lo 9 (x:=!((l.head?.map λt=>t.kind==k).getD aq)) O O O O Y O O O O O
 ·intro y;obtain ⟨t,a,rfl⟩:∃t a,l=t::a:=by cases l with| nil=>simp at y| cons t a=>exact ⟨t,a,rfl⟩
  obtain ⟨p,s,u,d⟩:=f.ct 0 t rfl;have d:cB c p (s+0*3) t.cells:=d;refine Vg (Ym O)<|Vg (bS O)<|Vg (Yf sO O)<|Vg (Yd 1 O O O ah)<|Vg (Yo (i:=0) u3 O O u aK)<|Vg (Yf R3 O)<|Vg (ew 0 ah O O<|d 0 _ O)<|Vg (Ym O) ?_;refine Vg (ha O O)<|Gt 9 O O O
 refine ag<|Cc O (λj=>?_)<|λj=>?_
 ·have z:oO k l=ao:=by cases l with| nil=>rfl| cons t a=>simp only [oO];rw [aj];intro h;simp [h] at j;omega
  refine Cr<|V0 (Yb wl kA O O)<|V0 (r6 wm O) ?_;refine WL.panic Y O<|Ep<|b_ λm g=>be ⟨r,l,O,z,by have h:=g;have h:=h.bs 1 O;have h:=Wt 1 h;exact h⟩
 obtain ⟨t,a,rfl⟩:∃t a,l=t::a:=by cases l with| nil=>simp at j| cons t a=>exact ⟨t,a,rfl⟩
 have A:t.kind=k:=by simp at j;exact j.2
 have B:oO k (t::a)=aa (t,a):=by simp only [oO];rw [aD A]
 have o:=o aK;obtain ⟨p,s,u,d⟩:=f.ct 0 t rfl;have d:cB c p (s+0*3) t.cells:=d;refine ay<|ak<|ab O<|V0 (bS O)<|V0 (Yf sO O)<|V0 (Yd 1 O O O ah)<|V0 (Yo (i:=0) u3 O O u aK)<|V0 (eB 0 Bc O O O<|d) ?_;refine Al Y O zd λE=>aw 0 Y O O O Dp O O O<|ag<|ak<|ab O<|ab O<|V0 (bS O)<|V0 (Yf sO O)<|V0 (Yd 2 O O O ah)<|V0 (Ch 1 u3 O O O aK v) ?_;refine V0 (bS O)<|V0 (Yf sO O)<|aw 2 Y O O O Ss O O O<|ag<|ak<|V0 (dW 0 O O Bc O)<|aw 1 Y O O O Dp O O O<|ag<|bu ?_;refine WE.gF (kJ O<|fj 1 O O Bc O) λm g=>bB ⟨t,(if r.2-1=0 then r.1 else r.1.map (·.add<|1*3),r.2-1),a,O,B,o,Wd 2 g⟩
def Sx (a:Z) (b:View) (r:aA a6×Z) (l:Tk) (k:ac) (g:Sl e3 3 b r.1 r.2 l):zc aC 259 [b8<|aa ⟨a,0,ao⟩,am an k] (b5 a r l) [b] (ι:=Tok×(aA a6×Z)×Tk) (κ:=(aA a6×Z)×Tk) (λi=>b0 #[am an i.1.kind,am an i.1.n,st i.1.text]) (λi=>b5 a i.2.1 i.2.2) (λi=>oO k l=aa (i.1,i.2.2)/\Sl e3 3 b i.2.1.1 i.2.1.2 i.2.2) (λ_=>iZ) (λi=>b5 a i.1 i.2)<|λ_=>oO k l=ao:=⟨bp,λw j=>(abB a b r l k w g j).mono λe o h=>by
 rcases h with ⟨t,r2,q,c,d,f,m⟩ | ⟨r2,q,c,d,f⟩;·exact bB ⟨(t,r2,q),c,⟨d,f⟩,m⟩
 ·exact be ⟨(r2,q),c,d,f⟩⟩
def abC (a:Z) (c:View) (r:aA a6×Z) (l:Tk) (w:aP) (m:Sl e3 3 c r.1 r.2 l) (b:Ws w (c6 bh.ids<|b5 a r l) (b5 a r l) [c] w) : cx aC 208 #[b8 (aa ⟨a,0,ao⟩)] w λe d=>(∃(s:Tx) (r2:aA a6×Z) (q:Tk),e = cf (st s)/\ie l=aa (s,q)/\Sl e3 3 c r2.1 r2.2 q/\Ws w (c6 bh.ids<|b5 a r l) (b5 a r2 q) [c] d)\/(∃(r2:aA a6×Z) (q:Tk),e = .panicked iZ/\ie l=ao/\Ws w (c6 bh.ids<|b5 a r l) (b5 a r2 q) [c] d):=by
 refine enter func208 O 13 O O<|CE b<|ak<|au O<|ag<|ak<|ab O ?_;refine WL.kx (Sx a c r l 1 m) ?_ ?_;·intro ⟨n,o⟩ p;refine Ep<|b_ λd b=>be ⟨n,o,O,by unfold ie;rw [p];rfl,by have h:=b;exact h⟩
 intro ⟨i,j,f⟩ ⟨k,t⟩;refine V0 (Oa abx O O)<|au O<|ag<|Cs<|ak<|ab O<|Lp Y O bp O (λw b=>yo _ w)<|V0 (ih O)<|ag ?_;refine Cc O (λg=>?_)<|λg=>?_
 ·have u:ie l=ao:=by unfold ie;rw [k];simp only [cH];rw [aj (by simpa using g)]
  refine Cr<|V0 (Yb wl kA O O)<|V0 (r6 wm O) ?_;refine WL.panic Y O<|Ep<|b_ λd b=>be ⟨j,f,O,u,by have h:=b;exact h⟩
 have v:ie l=aa (i.text,f):=by unfold ie;rw [k];simp only [cH];rw [aD (by simpa using g)]
 refine ay<|ak<|ab O<|au O<|ag<|bu ?_;refine R1 O O λd b=>bB ⟨i.text,j,f,O,v,t,b⟩
def tV (a:Z) (b:View) (r:aA a6×Z) (l:Tk) (g:Sl e3 3 b r.1 r.2 l):zc aC 208 [b8<|aa ⟨a,0,ao⟩] (b5 a r l) [b] (ι:=(Tx)×(aA a6×Z)×Tk) (κ:=(aA a6×Z)×Tk) (λi=>st i.1) (λi=>b5 a i.2.1 i.2.2) (λi=>ie l=aa (i.1,i.2.2)/\Sl e3 3 b i.2.1.1 i.2.1.2 i.2.2) (λ_=>iZ) (λi=>b5 a i.1 i.2)<|λ_=>ie l=ao:=⟨bp,λw j=>(abC a b r l w g j).mono λe m h=>by
 rcases h with ⟨t,r2,q,c,d,f,k⟩ | ⟨r2,q,c,d,f⟩;·exact bB ⟨(t,r2,q),c,⟨d,f⟩,k⟩
 ·exact be ⟨(r2,q),c,d,f⟩⟩
def abD (a:Z) (b:View) (r:aA a6×Z) (l:Tk) (w:aP) (f:Sl e3 3 b r.1 r.2 l) (c:Ws w (c6 bh.ids<|b5 a r l) (b5 a r l) [b] w) : cx aC 260 #[b8 (aa ⟨a,0,ao⟩)] w λe d=>(∃(n:ac) (r2:aA a6×Z) (q:Tk),e = cf (am an n)/\oP l=aa (n,q)/\Sl e3 3 b r2.1 r2.2 q/\Ws w (c6 bh.ids<|b5 a r l) (b5 a r2 q) [b] d)\/(∃(r2:aA a6×Z) (q:Tk),e = .panicked iZ/\oP l=ao/\Ws w (c6 bh.ids<|b5 a r l) (b5 a r2 q) [b] d):=by
 refine enter func260 O 6 O O<|CE c<|ak<|au O<|ag<|ak<|ab O ?_;refine WL.kx (Sx a b r l 2 f) ?_ ?_;·intro ⟨g,i⟩ j;refine Ep<|b_ λd c=>be ⟨g,i,O,by unfold oP;rw [j];rfl,by have h:=c;exact h⟩
 intro ⟨k,m,o⟩ ⟨p,s⟩;refine V0 (Oa aby O O)<|au O<|ag<|bu ?_;refine R1 O O λd c=>bB ⟨k.n,m,o,O,by unfold oP;rw [p];rfl,s,c⟩
def CS (a:Z) (b:View) (r:aA a6×Z) (l:Tk) (g:Sl e3 3 b r.1 r.2 l):zc aC 260 [b8<|aa ⟨a,0,ao⟩] (b5 a r l) [b] (ι:=(ac)×(aA a6×Z)×Tk) (κ:=(aA a6×Z)×Tk) (λi=>am an i.1) (λi=>b5 a i.2.1 i.2.2) (λi=>oP l=aa (i.1,i.2.2)/\Sl e3 3 b i.2.1.1 i.2.1.2 i.2.2) (λ_=>iZ) (λi=>b5 a i.1 i.2)<|λ_=>oP l=ao:=⟨bp,λw j=>(abD a b r l w g j).mono λe m h=>by
 rcases h with ⟨t,r2,q,c,d,f,k⟩ | ⟨r2,q,c,d,f⟩;·exact bB ⟨(t,r2,q),c,⟨d,f⟩,k⟩
 ·exact be ⟨(r2,q),c,d,f⟩⟩
def abE (a:Z) (c:View) (r:aA a6×Z) (l:Tk) (w:aP) (v:eP l) (x:Sl e3 3 c r.1 r.2 l) (b:Ws w (c6 bh.ids<|b5 a r l) (b5 a r l) [c] w) : cx aC 314 #[b8 (aa ⟨a,0,ao⟩)] w λe d=>(∃(p:Tx×Tx) (r2:aA a6×Z) (q:Tk),e = cf (cO #[st p.1,st p.2])/\mS l=aa (p,q)/\Sl e3 3 c r2.1 r2.2 q/\Ws w (c6 bh.ids<|b5 a r l) (b5 a r2 q) [c] d)\/(∃(r2:aA a6×Z) (q:Tk),e = .panicked iZ/\mS l=ao/\Ws w (c6 bh.ids<|b5 a r l) (b5 a r2 q) [c] d):=by
 refine enter func314 O 13 O O<|CE b<|ak<|au O<|au O<|ag<|ak<|ab O ?_;refine WL.kx (tV a c r l x) ?_ ?_;·intro ⟨g,i⟩ j;refine Ep<|b_ λd b=>be ⟨g,i,O,by unfold mS;rw [j];rfl,by have h:=b;exact h⟩
 intro ⟨n,y,o⟩ ⟨f,z⟩;have A:=h5 v f;refine au O<|ag<|Cs<|ak<|ab O ?_;refine WL.kw (kr a c y o [46] z) λ⟨M,s,B⟩ ⟨C,D,t⟩=>ag<|Cc O (λk=>?_)<|λk=>?_
 ·have m:=C k;have E:=kS A m;refine ak<|ab O<|ab O ?_;refine WL.kx (tV a c s B t) ?_ ?_;·intro ⟨g,i⟩ j;refine Ep<|Ep ?_;refine b_ λd b=>be ⟨g,i,O,by unfold mS;rw [f];simp only [cH];rw [m];simp only;rw [j];rfl,by have h:=b;exact h⟩
  intro ⟨F,G,H⟩ ⟨u,J⟩;have N:=h5 E u;refine au O<|au O<|ag<|bu<|Er ?_;refine WE.jv O O O λd b=>bB ⟨(n,F),G,H,O,by unfold mS;rw [f];simp only [cH];rw [m];simp only;rw [u];rfl,J,b⟩
 obtain ⟨K,L⟩:=D k;subst L;refine ay<|ak<|ab O<|au O<|au O<|ag<|bu ?_;refine WE.jv O O O λd b=>bB ⟨([],n),s,o,O,by unfold mS;rw [f];simp only [cH];rw [K],t,b⟩
def Sy (a:Z) (b:View) (r:aA a6×Z) (l:Tk) (g:eP l) (j:Sl e3 3 b r.1 r.2 l):zc aC 314 [b8<|aa ⟨a,0,ao⟩] (b5 a r l) [b] (ι:=(Tx×Tx)×(aA a6×Z)×Tk) (κ:=(aA a6×Z)×Tk) (λi=>cO #[st i.1.1,st i.1.2]) (λi=>b5 a i.2.1 i.2.2) (λi=>mS l=aa (i.1,i.2.2)/\Sl e3 3 b i.2.1.1 i.2.1.2 i.2.2) (λ_=>iZ) (λi=>b5 a i.1 i.2)<|λ_=>mS l=ao:=⟨bp,λw k=>(abE a b r l w g j k).mono λe n h=>by
 rcases h with ⟨t,r2,q,c,d,f,m⟩ | ⟨r2,q,c,d,f⟩;·exact bB ⟨(t,r2,q),c,⟨d,f⟩,m⟩
 ·exact be ⟨(r2,q),c,d,f⟩⟩
abbrev XE:=cF×aA a6×Z
def XE.cells (e:XE):I aR:=yD e.1 e.2.1 e.2.2
def XE.dR (e:XE):(XE.cells e).length=5:=rfl
def XE.one (e:XE):(XE.cells e).all (·.oneCell')=ad:=rfl
def sP (a:View) (b o:Z) (e:XE):Prop:=cB a b o<|XE.cells e
def mX (J:View) (f:Z) (es:I XE):Prop:=∀e ∈ es,Sl (lm f) 5 J e.2.1 e.2.2 e.1.args
def mX.nil (J:View) (f:Z):mX J f []:=by intro e h;simp at h
def mX.snoc {J g c:View} {f:Z} {es:I XE} {e:XE} (h:mX J f es) (i:cX J c) (j:cX g c) (k:Sl (lm f) 5 g e.2.1 e.2.2 e.1.args):mX c f<|es++[e]:=by
 intro x a;rcases fe.1 a with a | a;·exact (h x a).imp λb o y d=>lM i (c7 _) b o y d
 ·rw [e_] at a;subst a;exact k.imp λb o y d=>lM j (c7 _) b o y d
def sQ {a J N:View}   {es:I XE} (h:Sl sP 5 a cq aL es) (hv:cX a N) (f:cX J N) (g:mX J bE es):Sl (lm<|bE+1) 5 N cq aL (es.map (·.1)):=by refine ⟨by simpa using h.cap,h.max,h.spot,λi x c=>?_⟩;rw [fp] at c;obtain ⟨e,d,rfl⟩:=eQ.1 c;obtain ⟨b,o,j,k⟩:=h.ct i e d;exact ⟨b,o,j,e.2.1,e.2.2,cB.mono hv k,(g e<|aW d).imp λb o y l=>lM f (c7 _) b o y l⟩
def Dv {a N:View}    (h:Sl (lm bE) 5 a cq aL e9) (hv:cX a N):Sl (lm bE) 5 N cq aL e9:=h.imp λb o y c=>lM hv (c7 _) b o y c
structure GA where
 es:I XE
 a:aA a6
 c:Z
 J:View
 r:aA a6×Z
 q:Tk
def za (b:View) (f:Z):Prop:=∀(a:Z) (r:aA a6×Z) (l:Tk) (d:Z) (w:aP),f+d=7->eP l->Sl e3 3 b r.1 r.2 l->Ws w (c6 bh.ids<|b5 a r l) (b5 a r l) [b] w-> cx aC 313 #[b8 (aa ⟨a,0,ao⟩),am an (d:ac)] w λe c=>(∃(x:cF) (s:aA a6×Z) (r2:aA a6×Z) (q:Tk),e = cf (b0 #[am an (x).op,am an (x).n,st (x).mod,st (x).nm,aE s.1 (x).args.length s.2])/\bl f l=aa (x,q)/\Sl (lm f) 5 (nv w c) s.1 s.2 x.args/\Sl e3 3 b r2.1 r2.2 q/\Ws w (c6 bh.ids<|b5 a r l) (b5 a r2 q) [b] c)\/(∃(r2:aA a6×Z) (q:Tk),e = .panicked iZ/\bl f l=ao/\Ws w (c6 bh.ids<|b5 a r l) (b5 a r2 q) [b] c)
variable {gM:Tk->aA (cF×Tk)} {i8:Tk}
def abF (a:gM bb=aa (kB,cr)) (b:bG [41] cr=aa i8):nj gM (bE+1) bb=aa ([kB],i8):=by rw [nj,a];simp only [cH];rw [b]
def abG (a:gM bb=aa (kB,cr)) (b:bG [41] cr=ao) (c:bG [44] cr=aa i8):nj gM (bE+1) bb=(nj gM bE i8).map λp=>(kB::p.1,p.2):=by rw [nj,a];simp only [cH];rw [b];simp only;rw [c]
def abH (a:gM bb=aa (kB,cr)) (b:bG [41] cr=ao) (c:bG [44] cr=ao):nj gM (bE+1) bb=ao:=by rw [nj,a];simp only [cH];rw [b];simp only;rw [c]
def abI (a:gM bb=ao):nj gM (bE+1) bb=ao:=by rw [nj,a];rfl
def SA:∀(a:I Tx) (i k:Z) (w:Tx) (l q:Tk),a[i]? = aa w->(∀j v,j<i->a[j]? = aa v->bG v l=ao)->bG w l=aa q->qi a k l=aa (k+i,q)| [],i,k,w,l,q,h,_,_=>by simp at h| v::a,0,k,w,l,q,h,_,b=>by simp at h;subst h;rw [qi,b];rfl| v::a,i+1,k,w,l,q,h,c,b=>by rw [qi,c 0 v ai rfl];simp only;rw [SA a i (k+1) w l q (by simpa using h) (λj u e d=>c (j+1) u ai (by simpa using d)) b];congr 2;omega
def SB:∀(a:I Tx) (k:Z) (l:Tk),(∀w ∈ a,bG w l=ao)->qi a k l=ao| [],_,_,_=>rfl| w::a,k,l,h=>by rw [qi,h w aK];exact SB a (k+1) l λv hv=>h v<|m1 _ hv
def abJ (h:opsL[bE]? = aa bR):((opsL.map st).toArray)[bE]? = aa (st bR):=by rw [I.getElem?_toArray,fp,h];rfl
def sR:ii aC 237 239 (b0 #[am an 0,am an 0,st [],st [],aE ao 0 0]) 5 72:=j_ ah
def sS (g:za bN bE) (a:Z) (r:aA a6×Z) (l:Tk) (d:Z) (t:bE+d=7) (j:eP l) (k:Sl e3 3 bN r.1 r.2 l):RY aC 313 [b8<|aa ⟨a,0,ao⟩,am an (d:ac)] (b5 a r l) [bN] (ι:=(cF×(aA a6×Z))×(aA a6×Z)×Tk) (κ:=(aA a6×Z)×Tk) (λi=>b0 #[am an (i.1.1).op,am an (i.1.1).n,st (i.1.1).mod,st (i.1.1).nm,aE i.1.2.1 (i.1.1).args.length i.1.2.2]) (λi=>b5 a i.2.1 i.2.2) (λF i=>bl bE l=aa (i.1.1,i.2.2)/\Sl (lm bE) 5 F i.1.2.1 i.1.2.2 i.1.1.args/\Sl e3 3 bN i.2.1.1 i.2.1.2 i.2.2) (λ_=>iZ) (λi=>b5 a i.1 i.2)<|λ_=>bl bE l=ao:=⟨⟨bp,λ_ _ h=>h⟩,λw m=>(g a r l d w ai j k m).mono λe u h=>by
 rcases h with ⟨x,s,r2,q,b,c,f,o,p⟩ | ⟨r2,q,b,c,f⟩;·exact bB ⟨((x,s),r2,q),b,⟨c,f,o⟩,p⟩
 ·exact be ⟨(r2,q),b,c,f⟩⟩
def SC (i:Z) (b:View) (r:aA a6×Z) (l:Tk) (f d:Z) (w:aP) (ax:za b f) (az:f+d=7) (y:eP l) (aB:Sl e3 3 b r.1 r.2 l) (j:Ws w (c6 bh.ids<|b5 i r l) (b5 i r l) [b] w) :
   cx aC 315 #[b8 (aa ⟨i,0,ao⟩),am an (d:ac)] w λe u=>(∃(xs:I cF) (s:aA a6×Z) (r2:aA a6×Z) (q:Tk),e = cf (aE s.1 xs.length s.2)/\mT (bl f) l=aa (xs,q)/\Sl (lm<|f+1) 5 (nv w u) s.1 s.2 xs/\Sl e3 3 b r2.1 r2.2 q/\Ws w (c6 bh.ids<|b5 i r l) (b5 i r2 q) [b] u)\/(∃(r2:aA a6×Z) (q:Tk),e = .panicked iZ/\mT (bl f) l=ao/\Ws w (c6 bh.ids<|b5 i r l) (b5 i r2 q) [b] u):=by
 refine enter func315 O 21 O O<|CE j<|ak<|au O<|ag<|ak<|au O<|LW (λ_ h=>h.hM 239 5) ?_;refine WL.v0<|ag<|Cs<|ak<|ab O<|Lf 1 O ?_;refine WL.kw (kr i b r l [41] aB) λ⟨a7,K,aD⟩ ⟨aF,aG,L⟩=>ag<|Cc O (λB=>?_)<|λB=>?_;·have M:=aF B;have a9:=kS y M;refine ak<|ab O<|au O<|ag<|bu<|Er ?_;refine R1 O O λu j=>bB ⟨[],(ao,0),K,aD,O,by rw [mT,M],Sl.nil,L,Wv 1<|Wt 1 j⟩
 obtain ⟨aH,aI⟩:=aG B;subst aI;refine ay<|Cb ?_;refine f_ (ι:=GA) (λg=>[(5,aE g.a g.es.length g.c)]) [(0,_),(1,_)] (λg=>Ws w (c6 bh.ids<|b5 i r l) (b5 i g.r g.q++[cQ 239 5 XE.cells g.a g.c g.es]) [g.J,b]) (λg=>(g.es.length+g.q.length<=l.length/\eP g.q)/\Sl e3 3 b g.r.1 g.r.2 g.q/\(hf w g.J/\mX g.J f g.es)/\∃n,g.q.length<n/\mT (bl f) l=(nj (bl f) n g.q).map λp=>(g.es.map (·.1)++p.1,p.2)) (λg=>g.q.length) ⟨[],ao,0,v0,K,l⟩ ⟨⟨aK,y⟩,L,⟨fK w,mX.nil _ _⟩,l.length+1,aK,by rw [mT,aH];simp⟩ (λ_ h=>by have h:=Ws.aZ h (cI:=[v0,b]) aK;exact h) λg ⟨⟨a',C⟩,aL,⟨N,P⟩,o⟩=>Cb<|ak<|ab O<|ab O<|ab O ?_;refine WL.ke (sS ax i g.r g.q d az C aL) ?_ ?_;·intro ⟨D,E⟩ F;refine Ep<|WE.cp<|Ep<|WE.cp ?_;refine b_ λu j=>?_;obtain ⟨n,Q,o⟩:=o;obtain ⟨n,rfl⟩:∃k,n=k+1:=⟨n-1,ai⟩;exact be ⟨D,E,O,by rw [o,abI F];rfl,by have h:=j;have h:=Wt 1 h;have h:=Ws.aZ h (cI:=[b]) aK;exact h⟩
 intro a_ ⟨⟨z,t⟩,aM,A⟩ R ⟨v,S,aN⟩;have U:eP A:=sM C v;have ba:A.length+1<=m0 g.q:=sN C v;refine WL.cb λV W X ae=>Lb Y O sR O O O O λbb=>eb 0 (aY (XE.cells (z,t.1,t.2)).toArray 239 (0,0)) O O<|LA ((z,t.1,t.2):XE) 2 0 Y O sR O O O O O O (by have:=y.len;omega) (by have:=y.len;omega) λaf ah=>au O<|ag<|Cs<|ak<|ab O<|Lf 1 O ?_;refine WL.kw (kr i b aM A [41] aN) λ⟨bc,aj,aO⟩ ⟨aT,aV,al⟩=>ag<|Cc O (λG=>?_)<|λG=>?_;·have ap:=aT G;have bd:=kS U ap;obtain ⟨n,Q,o⟩:=o;obtain ⟨n,rfl⟩:∃k,n=k+1:=⟨n-1,ai⟩;refine Cs<|WC.qD (rd:=sP) 2 O (λk av=>by simp [b5,aQ] at av;subst av;simp [gk,b5,aQ,eV]) XE.dR iH λbf aW aX=>Cr<|ab O<|au O<|ag<|bu<|Er<|aU<|Er<|aU ?_;refine R1 O O λu j=>bB ⟨(g.es++[(z,t.1,t.2)]).map (·.1),(af,ah),aj,aO,by rw [fB],by rw [o,abF v ap];simp,sQ aX (fm j aK aW) (fm j aK<|ae _ R N)<|mX.snoc P X W S,al,Wv 2<|Wt 1 j⟩
 obtain ⟨aw,a0⟩:=aV G;subst a0;obtain ⟨n,Q,o⟩:=o;obtain ⟨n,rfl⟩:∃k,n=k+1:=⟨n-1,ai⟩;refine ay<|Cr<|ab O ?_;refine Lb Y O gQ O O O O λbg=>jW (T:=9) (m:=1) 0 [[44]] O O (show 1<=1 by decide) a8 λa1 a2=>WL.kx (kU i b aj A a1 _ _ [[44]] a2 al) ?_ ?_;·intro ⟨D,E⟩ F;refine WE.cp<|Ep<|WE.cp ?_;refine b_ λu j=>be ⟨D,E,O,by rw [o,abH v aw<|(gy _ _).symm.trans F];rfl,by have h:=j;have h:=Wt 1 h;have h:=Ws.aZ h (cI:=[b]) aK;exact h⟩
 intro ⟨a3,H⟩ ⟨x,a4⟩;have a5:=kT U x;refine Ln<|Eb ?_;exact ep (⟨g.es++[(z,t.1,t.2)],af,ah,V,a3,H⟩:GA) (by have:=Du x;simp at this;show H.length<g.q.length;omega) ⟨⟨by have:=Du x;simp at this ⊢;omega,a5⟩,a4,⟨ae _ R N,mX.snoc P X W S⟩,n,(show H.length<n by have:=Du x;simp at this;omega),by rw [o,abG v aw<|(gy _ _).symm.trans x];simp [kl]⟩ (λ_ h=>by have h:=h.bs 2 rfl;have h:=h.bs 1 rfl;have h:=Wt 2 h;have h:=Ws.aZ h (cI:=[V,b]) aK;exact h)
def abK (h:bG [105,110] bb=aa cr):nk gM bb=aa (cF.mk 2 0 [] [] [],cr):=by unfold nk;rw [show xx=[105,110] from rfl,h]
def SD (a:bG [105,110] bb=ao) (h:bG [33] bb=aa cr):nk gM bb=(gM cr).map λx=>(cF.mk 6 0 [] [] [x.1],x.2):=by unfold nk;rw [show xx=[105,110] from rfl,a];simp only;rw [h]
def SE (a:bG [105,110] bb=ao) (b:bG [33] bb=ao) (h:bG [40] bb=aa cr):nk gM bb=oQ gM cr:=by unfold nk;rw [show xx=[105,110] from rfl,a];simp only;rw [b];simp only;rw [h]
def zo (a:bG [105,110] bb=ao) (b:bG [33] bb=ao) (h:bG [40] bb=ao):nk gM bb=(mS bb).bind λp=>pv gM p.1.1 p.1.2 p.2:=by unfold nk;rw [show xx=[105,110] from rfl,a];simp only;rw [b];simp only;rw [h]
variable {dK:Tx}
def DB (h:bG [91] bb=aa cr):pv gM bR dK bb=(gM cr).bind λx=>(bG [93] x.2).map λr=>(cF.mk 4 0 bR dK [x.1],r):=by unfold pv;rw [h]
def SI {l q:Tk} (a:bG [91] l=ao) (h:bG [40] l=aa q):pv gM bR dK l=(mT gM q).map λq=>(cF.mk 5 0 bR dK q.1,q.2):=by unfold pv;rw [a];simp only;rw [h]
def abL (a:bG [91] bb=ao) (h:bG [40] bb=ao):pv gM bR dK bb=aa (cF.mk 3 0 bR dK [],bb):=by unfold pv;rw [a];simp only;rw [h]
def abM (a:bE+aL=7) (h:6<aL\/bb=[]):bl bE bb=ao:=by
 rcases h with h | rfl;·obtain rfl:bE=0:=ai;rfl
 ·cases bE<;>rfl
def abN (h:m5.kind=2):bl (bE+1) (m5::bb)=aa (cF.mk 1 m5.n [] [] [],bb):=by rw [bl,aD h]
def abO {f:Z}  {r:Tk} (h:¬m5.kind=2):bl (f+1) (m5::r)=nk (bl f) (m5::r):=by rw [bl,aj h]
def SG (h:m5.kind=2):oP (m5::bb)=aa (m5.n,bb):=by simp [oP,oO,h]
def Dw:hW aC 239=aa [(0,1),(1,1),(2,1),(3,1),(4,1)]:=ah
def u7:e2 aC 237=aa 1:=ah
def abP (b:Z) (c:View) (r:aA a6×Z) (l:Tk) (f d:Z) (w:aP) (Q:za c f) (R:f+d=7) (F:eP l) (ai:Sl e3 3 c r.1 r.2 l) (a:Ws w (c6 bh.ids<|b5 b r l) (b5 b r l) [c] w) :
   cx aC 349 #[b8 (aa ⟨b,0,ao⟩),am an (d:ac)] w λe t=>(∃(x:cF) (s:aA a6×Z) (r2:aA a6×Z) (q:Tk),e = cf (b0 #[am an (x).op,am an (x).n,st (x).mod,st (x).nm,aE s.1 (x).args.length s.2])/\oQ (bl f) l=aa (x,q)/\Sl (lm<|f+1) 5 (nv w t) s.1 s.2 x.args/\Sl e3 3 c r2.1 r2.2 q/\Ws w (c6 bh.ids<|b5 b r l) (b5 b r2 q) [c] t)\/(∃(r2:aA a6×Z) (q:Tk),e = .panicked iZ/\oQ (bl f) l=ao/\Ws w (c6 bh.ids<|b5 b r l) (b5 b r2 q) [c] t):=by
 refine enter func349 O 35 O O<|CE a<|ak ?_;refine Al Y O qZ λaj=>eb 0 (aY (yD (cF.mk 0 0 [] [] []) ao 0).toArray 239 (0,0)) O O<|ag<|ak<|ab O<|ab O<|Lf 1 O ?_;refine WL.ke (sS Q b r l d R F ai) ?_ ?_;·intro ⟨y,z⟩ A;refine Ep<|b_ λt a=>be ⟨y,z,O,by rw [oQ,A];rfl,by have h:=a;have h:=Wt 1 h;exact h⟩
 intro al ⟨⟨G,B⟩,ap,p⟩ av ⟨u,ax,az⟩;have aB:eP p:=sM F u;have a_:p.length+1<=m0 l:=sN F u;refine Al Y O qZ λaD=>aw 0 Y O O O qk O O O<|ag<|Cs<|ak<|Lp Y O bp O (λw a=>abr w)<|ab O<|ag<|Cb ?_;refine f_ (ι:=Z×(aA a6×Z)) (λg=>[(13,am an (g.1:ac))]) [(0,_),(1,_),(4,_),(5,_),(12,_)] (λg=>Ws w (c6 bh.ids<|b5 b r l) (b5 b g.2 p++[aQ aD<|aY (XE.cells (G,B.1,B.2)).toArray 239 (0,0),aQ aj<|aY (yD (cF.mk 0 0 [] [] []) ao 0).toArray 239 (0,0)]) [al,c]) (λg=>g.1<=9/\(∀j v,j<g.1->opsL[j]? = aa v->bG v p=ao)/\Sl e3 3 c g.2.1 g.2.2 p) (λg=>9-g.1) (0,ap) ⟨dw _,by simp,az⟩ (λ_ h=>(((h.f 2 O).f 1 O).f 2 O:)) λg ⟨hi,H,aF⟩=>ak<|V0 (c8 O O)<|ag<|Cs ?_;refine Cc O (λJ=>?_)<|λJ=>?_
 ·have S:g.1<9:=by simp at J;omega
  obtain ⟨o,K⟩:∃o,opsL[g.1]? = aa o:=⟨_,cy (by show g.1<9;exact S)⟩;refine ay<|Cs<|Cb<|ak<|ab O<|V0 (NL (i:=g.1) abn O O S<|abJ K)<|au O<|au O<|ag<|ak<|ab O<|ab O ?_;refine WL.kw (kr b c g.2 p o aF) λ⟨ba,U,C⟩ ⟨aG,aH,V⟩=>ag<|Cc O (λL=>?_)<|λL=>?_
  ·have W:=aG L;have M:=kS aB W;have N:qi opsL 0 p=aa (g.1,C):=by rw [SA opsL g.1 0 o p C K H W,lJ]
   refine ak<|ab O<|ab O ?_;refine WL.ke (sS Q b U C d R M V) ?_ ?_;·intro ⟨y,z⟩ A;refine Ep<|WE.cp<|Ep<|Ep<|WE.cp<|Ep ?_;refine b_ λt a=>be ⟨y,z,O,by rw [oQ,u];simp only [cH];rw [N];simp only [cH];rw [A];rfl,by have h:=a;have h:=Wt 1 h;have h:=Ws.aZ h (cI:=[c]) (by simp);exact h⟩
   intro bb ⟨⟨X,ae⟩,aI,P⟩ aK ⟨D,aL,aM⟩;have aN:eP P:=sM M D;have bc:P.length+1<=m0 C:=sN M D;refine WL.cb λaO aT aV aW=>Al Y O qZ λbd=>aw 0 Y O O O qk O O O<|ag<|ak<|ab O ?_;refine Lb Y O gQ O O O O λbf=>jW (T:=9) (m:=1) 0 [[41]] O O (show 1<=1 by decide) (by decide) λaX a0=>Lf 1 O<|WL.kx (kU b c aI P aX _ _ [[41]] a0 aM) ?_ ?_;·intro ⟨y,z⟩ A;refine Ep<|WE.cp<|Ep<|Ep<|WE.cp<|Ep ?_;refine b_ λt a=>be ⟨y,z,O,by rw [oQ,u];simp only [cH];rw [N];simp only [cH];rw [D];simp only [cH];rw [<-gy,A];rfl,by have h:=a;have h:=Wt 1 h;have h:=Ws.aZ h (cI:=[c]) (by simp);exact h⟩
   intro ⟨a1,a2⟩ ⟨af,a3⟩;have bg:=kT aN af;refine ag<|ak<|ab O<|V0 (E7 ((7:ac)+(g.1:ac)) O O O (by omega))<|V0 (dW 2 O O cZ O)<|V0 (dW 1 O O cZ O) ?_;refine Lb Y O sR O O O O λa4=>LN (rd:=sP) (f:=XE.cells) (m:=2) 0 [(G,B.1,B.2),(X,ae.1,ae.2)] O O (λk ah=>by simp [b5,aQ] at ah;subst ah;simp [gk,b5,aQ,eV]) XE.dR (λ_ _ _ _ h=>h) (show 2<=2 by decide) (by decide) λbi a5 a7=>V0 (Yb qZ Dw O O)<|aw 3 Y O O O qk O O O<|ag<|bu<|aU<|Er<|Er<|aU<|Er ?_;refine WE.gF (kJ O<|fj 3 O O cZ O) λt a=>bB ⟨cF.mk (7+(g.1:ac)) 0 [] [] [G,X],(aa ⟨a4,0,ao⟩,2),a1,a2,O,by rw [oQ,u];simp only [cH];rw [N];simp only [cH];rw [D];simp only [cH];rw [<-gy,af];rfl,sQ a7 (fm a (by simp) a5) (fm a (by simp)<|aW _ aK av)<|((mX.nil aO f).snoc (cX.refl _) aV ax).snoc (cX.refl _) aT aL,a3,Wv 3<|Wt 1 a⟩
  obtain ⟨a8,a9⟩:=aH L;subst a9;refine Ck<|Eb<|Et<|Cr<|V0 (Yi O O O (by omega))<|ab O<|Ln ?_;exact ep ((g.1+1,U):Z×(aA a6×Z)) (by show 9-(g.1+1)<9-g.1;omega) ⟨by show g.1+1<=9;omega,λj v E hv=>by
   rcases oq.1 E with h | rfl;·exact H j v h hv
   ·rw [K] at hv;injection hv with hv;subst hv;exact a8,V⟩<|λ_ h=>h
 have bj:¬g.1<9:=by simp at J;omega
 have a':qi opsL 0 p=ao:=SB _ _ _ λv hv=>by obtain ⟨j,E⟩:=jd hv;exact H j v (by have:=(cN.1 E).1;have:opsL.length=9:=rfl;omega) E
 refine Ce<|Ex<|Ex<|ee<|Et<|Cr<|V0 (Yb wl kA O O)<|V0 (r6 wm O) ?_;refine WL.panic Y O<|b_ λt a=>be ⟨g.2,p,O,by rw [oQ,u];simp only [cH];rw [a'];rfl,by have h:=a;have h:=Wt 1 h;have h:=Ws.aZ h (cI:=[c]) (by simp);exact h⟩
def xH (c:View) (f:Z) (b:Z) (r:aA a6×Z) (l:Tk) (d:Z) (w:aP) (bd:f+d=7) (K:eP l) (M:Sl e3 3 c r.1 r.2 l) (a:Ws w (c6 bh.ids<|b5 b r l) (b5 b r l) [c] w) :
   cx aC 313 #[b8 (aa ⟨b,0,ao⟩),am an (d:ac)] w λe g=>(∃(x:cF) (s:aA a6×Z) (r2:aA a6×Z) (q:Tk),e = cf (b0 #[am an (x).op,am an (x).n,st (x).mod,st (x).nm,aE s.1 (x).args.length s.2])/\bl f l=aa (x,q)/\Sl (lm f) 5 (nv w g) s.1 s.2 x.args/\Sl e3 3 c r2.1 r2.2 q/\Ws w (c6 bh.ids<|b5 b r l) (b5 b r2 q) [c] g)\/(∃(r2:aA a6×Z) (q:Tk),e = .panicked iZ/\bl f l=ao/\Ws w (c6 bh.ids<|b5 b r l) (b5 b r2 q) [c] g):=by
 induction f using om generalizing b r l d w;rename_i f bf;have cE:=M.cap;have cG:=M.max;refine enter func313 O 83 O O<|CE a<|ak ?_;refine Al Y O qZ λcJ=>eb 0 (aY (yD (cF.mk 0 0 [] [] []) ao 0).toArray 239 (0,0)) O O<|ag<|Cs<|ak<|ab O<|V0 (eZ O O)<|ab O ?_;apply Lo 6 O O O O Y O O O O O;·intro cK;refine Vg (Ym O)<|Vg (bS O)<|Vg (Yf sO O)<|Vg (Yd 1 O O O ah)<|Vg (Yn u3 O)<|Vg (bY O O) ?_;exact Gt 6 O O O
 refine ag<|Cc O (λN=>?_)<|λN=>?_
 ·have bg:bl f l=ao:=abM bd (by
   simp at N;rcases N with h | h;·left;omega
   ·right;exact h);refine Cr<|V0 (Yb wl kA O O)<|V0 (r6 wm O) ?_;refine WL.panic Y O<|Ep<|b_ λg a=>be ⟨r,l,O,bg,by have h:=a;have h:=h.bs 1 O;have h:=Wt 1 h;exact h⟩
 have cL:¬6<d:=by intro h;have v:(6:ac)<(d:ac):=ai;simp [v] at N
 obtain ⟨f,rfl⟩:∃k,f=k+1:=⟨f-1,ai⟩;obtain ⟨A,E,rfl⟩:∃t r,l=t::r:=by cases l with| nil=>simp at N| cons t r=>exact ⟨t,r,rfl⟩
 obtain ⟨bi,bj,bk,U⟩:=M.ct 0 A rfl;have U:cB c bi (bj+0*3) A.cells:=U;have Q:za c f:=λb r l d w B v C P=>bf f ai b r l d w B v C P;refine ay<|Cs<|Cb<|ak<|ab O<|V0 (bS O)<|V0 (Yf sO O)<|V0 (Yd 1 O O O ah)<|V0 (Yo (i:=0) u3 O O bk aK)<|V0 (Yf R3 O)<|V0 (ew 0 ah O O<|U 0 _ O) ?_;refine V0 (bY O O)<|au O<|ag ?_;refine Cc O (λV=>?_)<|λV=>?_
 ·have y:A.kind=2:=by simpa using V
  refine ak<|ab O<|Lf 1 O ?_;refine WL.kx (CS b c r (A::E) M) ?_ ?_;·intro ⟨o,p⟩ j;refine Ep<|WE.cp<|Ep ?_;refine b_ λg a=>?_;rw [SG y] at j;cases j
  intro ⟨cM,bm,cN⟩ ⟨G,bn⟩;have cP:=K_ K G;refine V0 (Yb qZ Dw O O) ?_;rw [SG y] at G;injection G with G;injection G with bo G;subst bo;subst G;refine aw 1 Y O O O qk O O O<|ag<|bu<|aU<|Er ?_;refine WE.gF (kJ O<|fj 1 O O cZ O) λg a=>bB ⟨cF.mk 1 A.n [] [] [],(ao,0),bm,E,O,abN y,Sl.nil,bn,Wt 1 a⟩
 have y:¬A.kind=2:=by simpa using V
 have u:=abO (f:=f) (r:=E) y;refine ak<|ab O<|Lf 1 O ?_;refine WL.kw (kr b c r (A::E) [105,110] M) λ⟨cQ,aN,bq⟩ ⟨br,bt,aO⟩=>au O<|ag ?_;refine Cc O (λW=>?_)<|λW=>?_;·have aT:=br W;have cR:=kS K aT;refine ak<|V0 (Yb qZ Dw O O)<|aw 1 Y O O O qk O O O<|ag<|bu<|aU<|Er ?_;refine WE.gF (kJ O<|fj 1 O O cZ O) λg a=>bB ⟨cF.mk 2 0 [] [] [],(ao,0),aN,bq,O,by rw [u,abK aT],Sl.nil,aO,Wt 1 a⟩
 obtain ⟨z,bv⟩:=bt W;subst bv;refine ak<|ab O ?_;refine WL.kw (kr b c aN (A::E) [33] aO) λ⟨cS,aV,aW⟩ ⟨bw,bx,aX⟩=>au O<|ag ?_;refine Cc O (λX=>?_)<|λX=>?_
 ·have ae:=bw X;have af:=kS K ae;refine ak<|ab O<|ab O<|V0 (Yi O O O ai) ?_;refine WL.ke (sS Q b aV aW (d+1) ai af aX) ?_ ?_;·intro ⟨o,p⟩ j;refine Ep<|WE.cp<|Ep ?_;refine b_ λg a=>be ⟨o,p,O,by rw [u,SD z ae,j];rfl,by have h:=a;have h:=Wt 1 h;exact h⟩
  intro bz ⟨⟨a0,a1⟩,bA,aj⟩ bC ⟨al,bD,bE⟩;have cT:eP aj:=sM af al;have cU:aj.length+1<=m0 aW:=sN af al;refine Lb Y O sR O O O O λbF=>LN (rd:=sP) (f:=XE.cells) (m:=1) 0 [(a0,a1.1,a1.2)] O O (λk y=>by simp [b5,aQ] at y;subst y;simp [gk,b5,aQ,eV]) XE.dR iH (show 1<=1 by decide) a8 λcV bG bI=>V0 (Yb qZ Dw O O)<|aw 1 Y O O O qk O O O<|ag<|bu<|aU<|Er ?_;refine WE.gF (kJ O<|fj 1 O O cZ O) λg a=>bB ⟨cF.mk 6 0 [] [] [a0],(aa ⟨bF,0,ao⟩,1),bA,aj,O,by rw [u,SD z ae,al];rfl,sQ bI (fm a aK bG) (fm a aK bC)<|(mX.nil bz f).snoc (cX.refl _) (cX.refl _) bD,bE,Wv 2<|Wt 1 a⟩
 obtain ⟨D,bJ⟩:=bx X;subst bJ;refine ak<|ab O ?_;refine WL.kw (kr b c aV (A::E) [40] aX) λ⟨cW,a2,ap⟩ ⟨bK,bL,a3⟩=>au O<|ag ?_;refine Cc O (λav=>?_)<|λav=>?_
 ·have ax:=bK av;have bM:=kS K ax;refine ak<|ab O<|ab O<|V0 (Yi O O O ai) ?_;refine ro (ι:=((cF)×(aA a6×Z))×(aA a6×Z)×Tk) (κ:=(aA a6×Z)×Tk) [_] _ Y O bp O O (λi=>b0 #[am an (i.1.1).op,am an (i.1.1).n,st (i.1.1).mod,st (i.1.1).nm,aE i.1.2.1 (i.1.1).args.length i.1.2.2]) (λi=>b5 b i.2.1 i.2.2) (λF i=>oQ (bl f) ap=aa (i.1.1,i.2.2)/\Sl (lm<|f+1) 5 F i.1.2.1 i.1.2.2 i.1.1.args/\Sl e3 3 c i.2.1.1 i.2.1.2 i.2.2) (λ_=>iZ) (λi=>b5 b i.1 i.2) (λ_=>oQ (bl f) ap=ao) [c] aK x5 (λw a=>(abP b c a2 ap f (d+1) w Q ai bM a3 a).mono λe g h=>by
   rcases h with ⟨x,s,r2,q,B,v,C,P,az⟩ | ⟨r2,q,B,v,C⟩;·exact bB ⟨((x,s),r2,q),B,⟨v,C,P⟩,az⟩
   ·exact be ⟨(r2,q),B,v,C⟩) ?_ ?_;·intro ⟨o,p⟩ j;refine Ep<|WE.cp<|Ep ?_;refine b_ λg a=>be ⟨o,p,O,by rw [u,SE z D ax,j],by have h:=a;have h:=Wt 1 h;exact h⟩
  intro c0 ⟨⟨bN,bO⟩,bP,bQ⟩ bR ⟨bT,bU,bV⟩;refine aw 1 Y O O O qk O O O<|ag<|bu<|aU<|Er ?_;refine WE.gF (kJ O<|fj 1 O O cZ O) λg a=>bB ⟨bN,bO,bP,bQ,O,by rw [u,SE z D ax,bT],Dv bU<|fm a aK bR,bV,Wv 1<|Wt 1 a⟩
 obtain ⟨H,bX⟩:=bL av;subst bX;refine Ck<|Eb<|Et<|ak<|ab O ?_;refine WL.kx (Sy b c a2 (A::E) K a3) ?_ ?_;·intro ⟨o,p⟩ j;refine Ep<|b_ λg a=>be ⟨o,p,O,by rw [u,zo z D H,j];rfl,by have h:=a;have h:=Wt 1 h;exact h⟩
 intro ⟨L,bZ,aB⟩ ⟨J,b1⟩;have a4:=Sw K J;refine ab O<|V0 (Yx O O)<|V0 (Yx O O)<|au O<|au O<|ag<|ak<|ab O<|ab O ?_;refine V0 (Yb qZ Dw O O)<|Al Y O qZ λc1=>aw 0 Y O O O qk O O O<|ag<|Cs<|Cb<|ak<|ab O<|Lf 1 O ?_;refine WL.kw (kr b c bZ aB [91] b1) λ⟨c2,a5,a7⟩ ⟨b2,b3,a9⟩=>au O<|ag ?_;refine Cc O (λaD=>?_)<|λaD=>?_
 ·have R:=b2 aD;have aF:=kS a4 R;refine ak<|ab O<|ab O<|V0 (Yi O O O ai) ?_;refine WL.ke (sS Q b a5 a7 (d+1) ai aF a9) ?_ ?_;·intro ⟨o,p⟩ j;refine Ep<|WE.cp<|Ep ?_;refine b_ λg a=>be ⟨o,p,O,by rw [u,zo z D H,J];simp only [cH];rw [DB R,j];rfl,by have h:=a;have h:=Wt 1 h;exact h⟩
  intro b4 ⟨⟨a',a_⟩,b6,aG⟩ b7 ⟨S,b9,b'⟩;have ca:eP aG:=sM aF S;have c3:aG.length+1<=m0 a7:=sN aF S;refine Lb Y O sR O O O O λcb=>LN (rd:=sP) (f:=XE.cells) (m:=1) 0 [(a',a_.1,a_.2)] O O (λk y=>by simp [b5,aQ] at y;subst y;simp [gk,b5,aQ,eV]) XE.dR iH (show 1<=1 by decide) a8 λc4 cc cd=>V0 (Yf zh O)<|aw 1 Y O O O eE O O O<|V0 (Yf Bh O)<|aw 1 Y O O O u7 O O O<|ag<|Cr<|ab O ?_;refine Lb Y O gQ O O O O λc5=>jW (T:=9) (m:=1) 0 [[93]] O O (show 1<=1 by decide) a8 λce ch=>WL.kx (kU b c b6 aG ce _ _ [[93]] ch b') ?_ ?_;·intro ⟨o,p⟩ j;refine WE.cp<|Ep ?_;refine b_ λg a=>be ⟨o,p,O,by rw [u,zo z D H,J];simp only [cH];rw [DB R,S];simp only [cH];rw [<-gy,j];rfl,by have h:=a;have h:=Wt 1 h;have h:=Ws.aZ h (cI:=[c]) aK;exact h⟩
  intro ⟨ci,cj⟩ ⟨ba,ck⟩;have c7:=kT ca ba;refine Ln<|Eb<|Et<|ak<|V0 (dW 1 O O cZ O)<|aw 2 Y O O O qk O O O<|ag<|bu ?_;refine WE.gF (kJ O<|fj 2 O O cZ O) λg a=>bB ⟨cF.mk 4 0 L.1 L.2 [a'],(aa ⟨cb,0,ao⟩,1),ci,cj,O,by rw [u,zo z D H,J];simp only [cH];rw [DB R,S];simp only [cH];rw [<-gy,ba];rfl,sQ cd (fm a aK cc) (fm a aK b7)<|(mX.nil b4 f).snoc (cX.refl _) (cX.refl _) b9,ck,Wv 3<|Wt 1 a⟩
 obtain ⟨aH,cl⟩:=b3 aD;subst cl;refine ak<|ab O ?_;refine WL.kw (kr b c a5 aB [40] a9) λ⟨c8,bb,aI⟩ ⟨cm,co,bc⟩=>au O<|ag ?_;refine Cc O (λaL=>?_)<|λaL=>?_
 ·have aM:=cm aL;have cq:=kS a4 aM;refine Cr<|ab O<|ab O<|V0 (Yi O O O ai) ?_;refine ro (ι:=((I cF)×(aA a6×Z))×(aA a6×Z)×Tk) (κ:=(aA a6×Z)×Tk) [_] _ Y O bp O O (λi=>aE i.1.2.1 i.1.1.length i.1.2.2) (λi=>b5 b i.2.1 i.2.2) (λF i=>mT (bl f) aI=aa (i.1.1,i.2.2)/\Sl (lm<|f+1) 5 F i.1.2.1 i.1.2.2 i.1.1/\Sl e3 3 c i.2.1.1 i.2.1.2 i.2.2) (λ_=>iZ) (λi=>b5 b i.1 i.2) (λ_=>mT (bl f) aI=ao) [c] aK x5 (λw a=>(SC b c bb aI f (d+1) w Q ai cq bc a).mono λe g h=>by
   rcases h with ⟨x,s,r2,q,B,v,C,P,az⟩ | ⟨r2,q,B,v,C⟩;·exact bB ⟨((x,s),r2,q),B,⟨v,C,P⟩,az⟩
   ·exact be ⟨(r2,q),B,v,C⟩) ?_ ?_;·intro ⟨o,p⟩ j;refine WE.cp<|Ep ?_;refine b_ λg a=>be ⟨o,p,O,by rw [u,zo z D H,J];simp only [cH];rw [SI aH aM,j];rfl,by have h:=a;have h:=Wt 1 h;exact h⟩
  intro c9 ⟨⟨cr,cs⟩,cu,cv⟩ cw ⟨cy,cz,cA⟩;refine V0 (Yf zh O)<|aw 1 Y O O O eE O O O<|V0 (Yf Bh O)<|aw 1 Y O O O u7 O O O<|Ln<|Eb<|Et<|ak<|V0 (dW 1 O O cZ O)<|aw 2 Y O O O qk O O O<|ag<|bu ?_;refine WE.gF (kJ O<|fj 2 O O cZ O) λg a=>bB ⟨cF.mk 5 0 L.1 L.2 cr,cs,cu,cv,O,by rw [u,zo z D H,J];simp only [cH];rw [SI aH aM,cy];rfl,Dv cz<|fm a aK cw,cA,Wv 1<|Wt 1 a⟩
 obtain ⟨cC,cD⟩:=co aL;subst cD;refine Ck<|Eb<|Et<|ak<|V0 (dW 1 O O cZ O)<|aw 2 Y O O O qk O O O<|ag<|bu ?_;refine WE.gF (kJ O<|fj 2 O O cZ O) λg a=>bB ⟨cF.mk 3 0 L.1 L.2 [],(ao,0),bb,aB,O,by rw [u,zo z D H,J];simp only [cH];rw [abL aH cC],Sl.nil,bc,Wt 1 a⟩
end Go.Proofs.YtgeahfjicmlocaaGreatDoor
end
