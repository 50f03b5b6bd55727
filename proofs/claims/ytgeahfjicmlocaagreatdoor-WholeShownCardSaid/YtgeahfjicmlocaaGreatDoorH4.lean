/- WholeShown: how a module is written changes nothing: shown anew, in another order, a program means the same. -/
import Derived.Ground.Names2Prog
import Derived.Ground.SlgnProg
import Derived.Lib.AtoiErrMem
import Derived.Shelf.LaysC
import Derived.Shelf.LaysM
import Derived.Shelf.Slices.Clone
import Derived.Shelf.Slices.Turned
import Derived.Shelf.SlicesE.Clone
import Derived.Shelf.Small.Bits
import Derived.Shelf.Small.Strs
import Derived.Shelf.Strconv.Atoi
import Derived.Shelf.Strconv.AtoiAll
import Derived.Shelf.Strconv.AtoiErrFast
import Derived.Shelf.Strconv.AtoiFail
import Derived.Shelf.Strconv.AtoiInnerAll
import Derived.Shelf.Strconv.AtoiLong
import Derived.Shelf.Strconv.Clone
import Derived.Shelf.Strconv.Itoa0
import Derived.Shelf.Strconv.Itoa1
import Derived.Shelf.Strconv.Itoa2
import Derived.Shelf.Strconv.Itoa3
import Derived.Shelf.Strconv.Lower
import Derived.Shelf.Strconv.ParseInt10
import Derived.Shelf.Strconv.ParseIntEmpty
import Derived.Shelf.Strconv.ParseUint10
import Derived.Shelf.Strconv.ParseUint10Any
import Derived.Shelf.Strconv.ParseUint10Empty
import Derived.Shelf.Strconv.ParseUint10b16
import Derived.Shelf.Strconv.ParseUint10b32
import Derived.Shelf.Strconv.ParseUint10b64
import Derived.Shelf.Strconv.ParseUint10b8
import Derived.Shelf.Strconv.ParseUintEmpty
import Derived.Shelf.Strconv.RangeError
import Derived.Shelf.Strconv.SyntaxError
import Derived.Shelf.Strconv.ToError
import Derived.Shelf.Strconv.ToErrorRange
import Derived.Shelf.Strings.Builder1
import Derived.Shelf.Strings.Search1
import Derived.Test.YtgeahfjicmlocaaGreatDoorProg
import Derived.Test.YtgeahfjicmlocaaGreatDoorRows
import Derived.Test.YtgeahfjicmlocaaGreatDoorH3
set_option linter.unusedVariables false
set_option linter.unusedSimpArgs false
set_option linter.defProp false
open _root_ renaming List->I,Nat->Z,Int->ab,Option->az,Bool->aQ,UInt8->a7,Array->bE,String->bg
open Option renaming some->aa,none->ak
open Bool renaming true->ac,false->au
open Go.Value renaming int->an,slice->aC,agg->bU,bool->bV,pointer->b0,tuple->cN
open Go.IntKind renaming i64->am
open Go.Proofs.Tryz renaming prog->aB
open Go renaming World->aL,Value->aT,Addr->a0,TypeId->b_,Calls->cr,Oper->ay,Act->aN,Exit->aO,Program->aV,Operand->dF,Deferred->e',Edge->fw,FuncId->jU,PanicEntry->nW
open Go.Obj renaming cells->aM
open Or renaming inr->bl,inl->bA
open Go.Ending renaming returned->ax
open List renaming flatMap->c5,length->dV,range->kJ
open Nat renaming blt->eB,strongRecOn->c8
open Go.Lib renaming itoa->hO,atoiAll->p'
section
namespace Go.Bw
open Go
def Ja:∀{l:I eQ},(∀d ∈ l,(jZ d).cy=0)->0<=hA l/\hA l<=32*(l.length:ab)
 | [],_=>by simp [hA]
 | d::r,h=>by
  have c:=Ja (l:=r) λx b=>h x (by simp [b]);have a:=we<|h d aG;have f:0<=kP d/\kP d<=32:=by
   unfold kP;rcases a.kind with e | e | e;·simp [e]
   ·simp [e]
   ·have:=a.n3 e;simp [e];omega
  simp only [hA,eL];omega
structure Jb (m:cM) (x:aW):Prop where
 name:gy x.name=ac
 kind:(x.kind=1/\0<=x.n/\x.n<=1099511627775/\x.pl=0)\/(x.kind=2/\x.n=0/\0<=x.pl/\x.pl+1<=od m)\/(x.kind=3/\1<=x.n/\x.n<=32/\0<=x.pl/\x.pl+x.n<=od m)\/(x.kind=4/\∃(i:Z) (p:bz),x.pl=i/\m.procs[i]? = aa p/\x.n=(p.params.length:ab))
def PC:∀{l:I eQ} {a:ab},(∀d ∈ l,(jZ d).cy=0)->0<=a->∀x ∈ k4 l a,gy x.name=ac/\((x.kind=1/\0<=x.n/\x.n<=1099511627775/\x.pl=0)\/(x.kind=2/\x.n=0/\0<=x.pl/\x.pl+1<=a+hA l)\/(x.kind=3/\1<=x.n/\x.n<=32/\0<=x.pl/\x.pl+x.n<=a+hA l))
 | [],_,_,_,x,b=>by simp [k4] at b
 | d::r,a,h,g,x,b=>by
  have c:=we<|h d aG;have i:=Ja (l:=r) λx b=>h x (by simp [b]);have j:0<=kP d:=by
   unfold kP;rcases c.kind with e | e | e;·simp [e]
   ·simp [e]
   ·have:=c.n3 e;simp [e];omega
  simp only [k4] at b;simp only [hA];rcases eZ.1 b with rfl | b
  ·refine ⟨c.name,?_⟩;unfold pL kP;rcases c.kind with e | e | e;·have:=c.n1 e;simp [e];omega
   ·have:=c.n2 e;simp [e];omega
   ·have:=c.n3 e;simp [e];omega
  ·have f:=PC (l:=r) (a:=a+kP d) (λx b=>h x (by simp [b])) aj x b;rw [show a+(kP d+hA r)=a+kP d+hA r by omega];exact f
def PD {m:cM}:∀{l:I bz} {i:Z},(∀p ∈ l,gy p.nm=ac)->(∀(j:Z) p,l[j]? = aa p->m.procs[i+j]? = aa p)->∀x ∈ m_ l i,gy x.name=ac/\x.kind=4/\∃(j:Z) (p:bz),x.pl=j/\m.procs[j]? = aa p/\x.n=(p.params.length:ab)
 | [],_,_,_,x,a=>by simp [m_] at a
 | p::r,i,h,b,x,a=>by
  simp only [m_] at a;rcases eZ.1 a with rfl | a;·exact ⟨h p aG,O,i,p,O,b 0 p O,O⟩
  ·exact PD (l:=r) (i:=i+1) (λx a=>h x (by simp [a])) (λj q c=>by rw [show i+1+j=i+(j+1) by omega];exact b (j+1) q c) x a
variable {a8:cM}
def BS (h:mV a8):∀x ∈ gW a8,Jb a8 x:=λx b=>by
 rcases bm.1 b with b | b;·obtain ⟨c,a⟩:=PC h.decls (zq 0) x b;rw [ab.zero_add] at a;exact ⟨c,by rcases a with a | a | a;exact bA a;exact bl<|bA a;exact bl<|bl<|bA a⟩
 ·obtain ⟨c,a⟩:=PD (m:=a8) (λp d=>(wg<|h.procs p d).name) (λj p d=>by rw [k0];exact d) x b;exact ⟨c,bl<|bl<|bl a⟩
def zT (h:mV a8):0<=od a8/\od a8<=320:=by have:=Ja h.decls;have:=h.gu;unfold od;omega
def X1 (h:mV a8) {x:aW} (b:Jb a8 x):o3 x=ac:=by
 have d:=mA b.name;have f:=zT h;unfold o3 fm;rw [d];rcases b.kind with ⟨e,a⟩ | ⟨e,a⟩ | ⟨e,a⟩ | ⟨e,i,p,a,c,g⟩;·simp [e];omega
 ·simp [e];omega
 ·simp [e];omega
 ·have j:=(wg<|h.procs p<|dJ c).gu;have k:=(c_.1 c).1;have l:=h.gu;simp [e];omega
def E9:∀(l:I aW) (ps:I aQ),(k5 l ps).Sublist l
 | [],_=>by simp [k5]| x::l,[]=>by simp [k5]
 | x::l,p::ps=>by
  simp only [k5];cases p;·simpa using (E9 l ps).cons x
  ·simpa using (E9 l ps).cons_cons x
def BU (h:(fk a8).2=0):ee (fk a8).1.1 (fk a8).1.2=0/\(fk a8).1.1=a8.nm/\mV a8:=by
 unfold fk at h ⊢;split at h;·rename_i b;exact absurd h b
 ·rename_i b;have e:hI a8=0:=by simpa using b
  have a:=BO<|BR.1 e;split at h;·cases h
  ·rename_i c;rw [ao b,ao c];refine ⟨?_,O,a⟩;show ee a8.nm (k5 (gW a8)<|o4 a8)=0;have f:gV ((gW a8).map (·.name))=au:=by cases g:gV ((gW a8).map (·.name)) with| false=>rfl| true=>rw [g] at c;simp at c
   have d:=E9 (gW a8)<|o4 a8;have i:((k5 (gW a8)<|o4 a8).map (·.name)).Nodup:=(d.map (·.name)).nodup<|ku.2 f;have j:=Hp (gW a8)<|o4 a8;rw [A_] at j;have m:=a.gu;unfold ee;have k:(k5 (gW a8)<|o4 a8).all o3=ac:=gw.2 λx l=>X1 a<|BS a x<|d.subset l;rw [k,ku.1 i,mA a.name];simp;omega
section
variable {m:cM} {a6:I Tx}
variable {bw:Tx} {ae:Z}
def PE {l:I Tx}  (h:idxOf bw l 0=aa ae):ae<l.length:=by have:=(sd h).2;rw [p_] at this;exact (c_.1 this).1
def E':∀{l:I aW} {x:aW},iQ bw l=aa x->x ∈ l
 | [],_,h=>by cases h
 | y::r,x,h=>by
  unfold iQ at h;split at h;·injection h with h;subst h;simp
  ·exact mI _<|E' h
variable {aS:Tx} {aP:ab}
def BV (c:m.aI=[])   {it:aW} (h:hl (c9 m [] a6) bw aS=aa (aP,it)):(aP = -1/\0<=it.pl/\it.pl<(a6.length:ab))\/(aP=0/\it ∈ gW m):=by
 unfold hl at h;split at h
 ·split at h;·rename_i i hi;injection h with h;injection h with a b;subst a b;have f:i<a6.length:=PE hi;exact bA ⟨O,by show (0:ab)<=(i:ab);omega,by show (i:ab)<_;omega⟩
  ·obtain ⟨x,d,e⟩:=eD.1 h;injection e with a b;subst a b;exact bl ⟨O,E' d⟩
 ·unfold c9 at h;rw [c] at h;unfold mj at h;cases h
def oB (m:cM):I e8:=[ey<|ff m []]
def E_ (a:mV m) {pl n:ab} (d:0<=pl) (b:pl+n<=od m) (e:0<=n):k6 (oB m) 0 pl n=ac:=by
 have f:=zT a;have c:om (oB m) ((0:Z):ab) pl=au:=by unfold om oB;simp;omega
 have:=vO (n:=n) (k:=ey<|ff m []) c rfl;rw [show (((0:Z):ab))=0 from rfl] at this;rw [this,aU<|show (ey<|ff m []).q6=ac from rfl];exact kL b
def PF {i:Z} {p:bz} (a:m.procs[i]? = aa p):mL (oB m) 0 i (p.params.length:ab)=ac:=by
 have b:=(c_.1 a).1;have c:o6 (oB m) ((0:Z):ab) (i:ab)=au:=by unfold o6 oB;simp
 have:=vP (n:=(p.params.length:ab)) (k:=ey<|ff m []) c rfl;rw [show (((0:Z):ab))=0 from rfl] at this;rw [this,aU<|show (ey<|ff m []).q6=ac from rfl];have e:(ey<|ff m []).parts=m.procs.map λp=>(p.params.length:ab):=by unfold ey ff;simp [qt]
 rw [e,m4,gh,a,fK];simp;exact b
def lG {n:Z} (h:n9 aP n=au) (a:0<=aP):(n:ab)=aP:=by unfold n9 at h;rw [kL a] at h;simpa using h
variable {dw:I cu}
def X2 (o:mV m) (x:m.aI=[]) {op n:ab}    (r:tO op n bw aS dw ae) (a:(ed (c9 m [] a6) op n bw aS dw.length).e=0) :
   node1 (oB m) a6.length (ed (c9 m [] a6) op n bw aS dw.length).op (ed (c9 m [] a6) op n bw aS dw.length).n (ed (c9 m [] a6) op n bw aS dw.length).m (ed (c9 m [] a6) op n bw aS dw.length).pl dw.length=ac:=by
 have B:=r.kind;have g:=r.num;have d:=r.sK;by_cases j:fm op 3 5=ac
 ·have u:op=3\/op=4\/op=5:=by unfold fm at j;simp at j;omega
  have f:n=0:=by unfold k3 at g;have:¬op=1:=aj;simpa [this] using g
  unfold ed at a ⊢;rw [aU j] at a ⊢;cases s:hl (c9 m [] a6) bw aS with
  | none=>rw [s] at a;cases a
  | some q=>
   obtain ⟨k,it⟩:=q;rw [s] at a;dsimp only at a ⊢;rcases BV x s with ⟨rfl,y,z⟩ | ⟨rfl,A⟩
   ·rw [aU rfl] at a ⊢;have t:op=3:=by
     dsimp only at a;split at a;·assumption
     ·cases a
    subst t;have b:=lG d a';rw [show kO 3=0 from rfl] at b;unfold node1 ko;simp [f,b,y,z]
   ·rw [ao a'] at a ⊢;have hi:=BS o it A;rcases u with rfl | rfl | rfl
    ·have b:=lG d a';rw [show kO 3=0 from rfl] at b;rcases hi.kind with ⟨e,c⟩ | ⟨e,c⟩ | ⟨e,c⟩ | ⟨e,c⟩;·rw [aU ⟨rfl,e⟩];unfold node1;simp [b];omega
     ·rw [ao aj,aU ⟨rfl,e⟩];have:=E_ o (pl:=it.pl) (n:=1) c.2.1 c.2.2 a';unfold node1;simp [b,f,this]
     ·rw [ao aj,ao aj,ao aj,ao aj] at a;cases a
     ·rw [ao aj,ao aj,ao aj,ao aj] at a;cases a
    ·have b:=lG d a';rw [show kO 4=1 from rfl] at b;rw [ao aj,ao aj] at a ⊢;rcases hi.kind with ⟨e,c⟩ | ⟨e,c⟩ | ⟨e,c⟩ | ⟨e,c⟩;·rw [ao aj,ao aj] at a;cases a
     ·rw [ao aj,ao aj] at a;cases a
     ·rw [aU ⟨rfl,e⟩];have:=E_ o (pl:=it.pl) (n:=it.n) c.2.2.1 c.2.2.2 aj;unfold node1 se;simp [b,this];omega
     ·rw [ao aj,ao aj] at a;cases a
    ·rw [ao aj,ao aj,ao aj] at a ⊢;rcases hi.kind with ⟨e,c⟩ | ⟨e,c⟩ | ⟨e,c⟩ | ⟨e,i,p,c,l,t⟩;·rw [ao aj] at a;cases a
     ·rw [ao aj] at a;cases a
     ·rw [ao aj] at a;cases a
     ·rw [aU ⟨rfl,e⟩] at a ⊢;dsimp only at a ⊢;have b:it.n=(dw.length:ab):=by
       split at a;·assumption
       ·cases a
      have:=PF l;rw [<-c,<-t,b] at this;unfold node1;simp [f,this]
 ·have u:¬(op=3\/op=4\/op=5):=λh=>j (by unfold fm;simp;omega);unfold ed;rw [ao j];dsimp only;by_cases c:op=1;·subst c;have b:=lG d a';rw [show kO 1=0 from rfl] at b;unfold k3 at g;unfold node1;simp [b] at g ⊢;omega
  ·have f:n=0:=by unfold k3 at g;simpa [c] using g
   by_cases l:op=2;·subst l;have b:=lG d a';rw [show kO 2=0 from rfl] at b;unfold node1;simp [f,b]
   ·by_cases v:op=6;·subst v;have b:=lG d a';rw [show kO 6=1 from rfl] at b;unfold node1;simp [f,b]
    ·have w:kO op=2:=by unfold kO;rw [ao aj,ao aj,ao aj]
     have b:=lG d (by rw [w];decide);rw [w] at b;unfold node1;rw [ao c,ao aj,ao aj,ao aj,ao aj,ao l,ao v,aU aj];simp [f,b]
mutual
def X3 (b:mV m) (c:m.aI=[]):∀(x:cu) (d:Z),(ka x d).cy=0->lx (c9 m [] a6) x=0->lV (oB m) a6.length (oh (c9 m [] a6) x) d=ac
 | .mk op n mod nm args,d,e,he=>by
  have a:=zM e;rw [vN] at he;obtain ⟨f,g⟩:=ml.1 he;rw [Hu,lV];have h:(iR (c9 m [] a6) (cu.mk op n mod nm args).args).length=args.length:=by rw [y',fK];rfl
  rw [h];have i:=X2 b c a f;have j:=Jc b c args (d+1) a.sub g;rw [kL a.deep];show (node1 _ _ (ed (c9 m [] a6) op n mod nm args.length).op (ed (c9 m [] a6) op n mod nm args.length).n (ed (c9 m [] a6) op n mod nm args.length).m (ed (c9 m [] a6) op n mod nm args.length).pl args.length&&iT _ _ (iR (c9 m [] a6) args) (d+1))=ac;rw [i,j];rfl
def Jc (a:mV m) (b:m.aI=[]):∀(l:I cu) (d:Z),(fH l d).cy=0->ce (c9 m [] a6) l=0->iT (oB m) a6.length (iR (c9 m [] a6) l) d=ac| [],d,_,_=>by rw [iR,iT]| x::r,d,c,he=>by unfold fH at c;unfold ce at he;obtain ⟨c1,c2⟩:=bR c;obtain ⟨e,f⟩:=ml.1 he;rw [iR,iT,X3 a b x d c1 e,Jc a b r d c2 f];rfl
end
def X4 (s:mV m) (y:m.aI=[])    {body other:I cv}  (t:pX aP bw aS dw body other ae) (a:(ew (c9 m [] a6) aP bw aS dw.length).e=0) :
   (ew (c9 m [] a6) aP bw aS dw.length).op=aP/\h7 (oB m) a6.length (ew (c9 m [] a6) aP bw aS dw.length).op (ew (c9 m [] a6) aP bw aS dw.length).n (ew (c9 m [] a6) aP bw aS dw.length).m (ew (c9 m [] a6) aP bw aS dw.length).pl dw.length body.length other.length=ac:=by
 have E:=t.kind;have l:=t.sK;have o:=t.form;have r:(aP≠4/\aP≠5->body.length=0)/\(aP≠4->other.length=0):=by
  unfold n' inner at o;simp at o;refine ⟨λh=>?_,λh=>?_⟩;·have:=o.1 h.1 h.2;simp [this]
  ·have:=o.2 h;simp [this]
 by_cases g:fm aP 1 3=ac
 ·have u:aP=1\/aP=2\/aP=3:=by unfold fm at g;simp at g;omega
  have f:body.length=0:=r.1 aj;have d:other.length=0:=r.2 aj;unfold ew at a ⊢;rw [aU g] at a ⊢;cases v:hl (c9 m [] a6) bw aS with
  | none=>rw [v] at a;cases a
  | some q=>
   obtain ⟨k,it⟩:=q;rw [v] at a;dsimp only at a ⊢;rcases BV y v with ⟨rfl,z,A⟩ | ⟨rfl,B⟩
   ·rcases u with rfl | rfl | rfl;·have c:=lG l a';rw [show qp 1=1 from rfl] at c;rw [aU ⟨rfl,bA rfl⟩];refine ⟨O,?_⟩;unfold h7 ko;simp [c,f,d,z,A]
    ·rw [ao aj,aU rfl] at a;cases a
    ·rw [ao aj,aU rfl] at a;cases a
   ·have hi:=BS s it B;rcases u with rfl | rfl | rfl
    ·have c:=lG l a';rw [show qp 1=1 from rfl] at c;rcases hi.kind with ⟨e,b⟩ | ⟨e,b⟩ | ⟨e,b⟩ | ⟨e,b⟩;·rw [ao aj,ao aj,ao aj,ao aj] at a;cases a
     ·rw [aU ⟨rfl,bl e⟩];have:=E_ s (pl:=it.pl) (n:=1) b.2.1 b.2.2 a';refine ⟨O,?_⟩;unfold h7;simp [c,f,d,this]
     ·rw [ao aj,ao aj,ao aj,ao aj] at a;cases a
     ·rw [ao aj,ao aj,ao aj,ao aj] at a;cases a
    ·have c:=lG l a';rw [show qp 2=2 from rfl] at c;rw [ao aj,ao aj] at a ⊢;rcases hi.kind with ⟨e,b⟩ | ⟨e,b⟩ | ⟨e,b⟩ | ⟨e,b⟩;·rw [ao aj,ao aj] at a;cases a
     ·rw [ao aj,ao aj] at a;cases a
     ·rw [aU ⟨rfl,e⟩];have:=E_ s (pl:=it.pl) (n:=it.n) b.2.2.1 b.2.2.2 aj;refine ⟨O,?_⟩;unfold h7 se;simp [c,f,d,this];omega
     ·rw [ao aj,ao aj] at a;cases a
    ·rw [ao aj,ao aj,ao aj] at a ⊢;rcases hi.kind with ⟨e,b⟩ | ⟨e,b⟩ | ⟨e,b⟩ | ⟨e,i,p,b,C,D⟩;·rw [ao aj] at a;cases a
     ·rw [ao aj] at a;cases a
     ·rw [ao aj] at a;cases a
     ·rw [aU ⟨rfl,e⟩] at a ⊢;dsimp only at a ⊢;have c:it.n=(dw.length:ab):=by
       split at a;·assumption
       ·cases a
      have:=PF C;rw [<-b,<-D,c] at this;refine ⟨O,?_⟩;unfold h7;simp [f,d,this]
 ·have u:¬(aP=1\/aP=2\/aP=3):=λh=>g (by unfold fm;simp;omega);unfold ew;rw [ao g];dsimp only;refine ⟨O,?_⟩;have x:qp aP=1:=by unfold qp;rw [ao aj,ao aj]
  have c:=lG l (by rw [x];decide);rw [x] at c;unfold h7;rw [ao aj,ao aj,ao aj];by_cases j:aP=4;·rw [aU j];simp [c]
  ·have d:=r.2 j;by_cases w:aP=5;·rw [ao j,aU w];simp [c,d]
   ·have f:=r.1 ⟨j,w⟩;rw [ao j,ao w,aU aj];simp [c,d,f]
def zU {d len:Z} {c:ci} (h:(o2 d len c).cy=0):d<=6/\len<=10/\c.cy=0:=by
 unfold o2 at h;split at h;·cases h
 ·obtain ⟨a,b⟩:=bR h;have:=zL a;simp at this;exact ⟨aj,aj,b⟩
mutual
def X5 (b:mV m) (c:m.aI=[]):∀(x:cv) (d:Z),(ih x d).cy=0->kR (c9 m [] a6) x=0->mm (oB m) a6.length (oi (c9 m [] a6) x) d=ac
 | .mk op mod nm args body other,d,k,he=>by
  have e:=zN k;rw [tn] at he;obtain ⟨l,f⟩:=ml.1 he;obtain ⟨f,g⟩:=ml.1 f;obtain ⟨g,o⟩:=ml.1 g;rw [Hv,mm];have p:(iR (c9 m [] a6) args).length=args.length:=by rw [y',fK]
  have q:(ga (c9 m [] a6) body).length=body.length:=by rw [tp,fK]
  have r:(ga (c9 m [] a6) other).length=other.length:=by rw [tp,fK]
  obtain ⟨s,t⟩:=X4 b c e l;have u:=Jc b c args 1 e.exprs f;show (h7 _ _ (ew (c9 m [] a6) op mod nm args.length).op (ew (c9 m [] a6) op mod nm args.length).n (ew (c9 m [] a6) op mod nm args.length).m (ew (c9 m [] a6) op mod nm args.length).pl (iR (c9 m [] a6) args).length (ga (c9 m [] a6) body).length (ga (c9 m [] a6) other).length&&(iT _ _ (iR (c9 m [] a6) args) 1&&((!(sf (ew (c9 m [] a6) op mod nm args.length).op)||(decide (d+1<=6)&&(decide ((ga (c9 m [] a6) body).length<=10)&&je _ _ (ga (c9 m [] a6) body) (d+1))))&&(!(decide<|0<(ga (c9 m [] a6) other).length)||(decide (d+1<=6)&&(decide ((ga (c9 m [] a6) other).length<=10)&&je _ _ (ga (c9 m [] a6) other) (d+1)))))))=ac;rw [p,q,r,t,u,s];simp only [wU];refine gj.2 ⟨?_,?_⟩
  ·by_cases a:sf op=ac;·obtain ⟨h,i,j⟩:=zU<|e.body (by rw [show inner op=ac from a];rfl);rw [kL h,kL i,Fa b c body (d+1) j g];simp
   ·simp [a]
  ·by_cases a:0<other.length;·obtain ⟨h,i,j⟩:=zU<|e.other a;rw [kL h,kL i,Fa b c other (d+1) j o];simp
   ·rw [Db a];rfl
def Fa (a:mV m) (b:m.aI=[]):∀(l:I cv) (d:Z),(e2 l d).cy=0->gX (c9 m [] a6) l=0->je (oB m) a6.length (ga (c9 m [] a6) l) d=ac| [],d,_,_=>by rw [ga,je]| x::r,d,c,he=>by unfold e2 at c;unfold gX at he;obtain ⟨c1,c2⟩:=bR c;obtain ⟨e,f⟩:=ml.1 he;rw [ga,je,X5 a b x d c1 e,Fa a b r d c2 f];rfl
end
def PG (a:mV m) (b:m.aI=[]) {l:I cv} (c:(gz l 1).cy=0) (d:gX (c9 m [] a6) l=0):h8 (oB m) a6.length (ga (c9 m [] a6) l) 1=ac:=by obtain ⟨e,f,g⟩:=zU c;unfold h8;rw [tp,fK,<-tp,kL e,kL f,Fa a b l 1 g d];rfl
end
def Jd {α:Type} {f:α->ab}:∀{l:I α},iS f l=0->∀x ∈ l,f x=0
 | [],_,x,a=>by simp at a
 | y::r,h,x,a=>by
  unfold iS at h;obtain ⟨b,c⟩:=ml.1 h;rcases eZ.1 a with rfl | a;·exact b
  ·exact Jd c x a
def X6 (a:mV a8) (b:a8.aI=[]) (e:oj a8 []=0):lW [ff a8 []]=0:=by
 unfold oj at e;obtain ⟨j,k⟩:=ml.1 e;have u:=zT a;have v:=a.gu;have l:j1 (ff a8 []) []=ac:=by
  unfold j1;have a1:tr (ff a8 []).nm (ff a8 []).aI=ac:=by show tr a8.nm a8.aI=ac;rw [b];unfold tr;rw [ku.1 aG];rfl
  have a2:pM (ff a8 [])=au:=by
   unfold pM;have m:(ff a8 []).parts.length=a8.procs.length:=by unfold ff;simp
   have c:(ff a8 []).aI.length=0:=by show a8.aI.length=0;rw [b];rfl
   have n:(ff a8 []).nm=a8.nm:=rfl;have d:(ff a8 []).data=od a8:=rfl;rw [m,c,n,d,mA a.name];simp;omega
  have a3:(ff a8 []).parts.all (mM<|oB a8)=ac:=by refine gw.2 λx o=>?_;obtain ⟨p,f,rfl⟩:=py.1<|show x ∈ a8.procs.map (qt a8 []) from o;have g:=wg<|a.procs p f;have h:=Jd j p f;unfold q5 at h;obtain ⟨_,q⟩:=ml.1 h;have i:=PG a b g.body q;rw [e_] at i;unfold mM qt;have w:=g.gu;rw [show ((p.params.length:ab)+(p.a6.length:ab))=((p.params.length+p.a6.length:Z):ab) by omega,i];simp;omega
  have a4:h8 (oB a8) 0 (ff a8 []).main 1=ac:=PG (a6:=[]) a b a.main k;rw [a1,a2,show ey (ff a8 [])::[]=oB a8 from rfl,a3,a4];rfl
 have r:h' [ff a8 []]=ac:=by unfold h';have c:(ff a8 []).aI=[]:=b;simp [C0,c]
 have s:cQ [ff a8 []] 512=ac:=by unfold cQ cQ;have d:(ff a8 []).data=od a8:=rfl;rw [d];simp;omega
 have t:gB [ff a8 []] (ff a8 [])=[]:=by unfold gB;rw [show (ff a8 []).aI=[] from b];rfl
 unfold lW;rw [ao aG,ao (by rw [r];decide),ao (by unfold bh;rw [ku.1 aG];decide),ao (by rw [s];decide),aU (by simp only [yr,I.all_nil,t,l];rfl)]
def resolve_right {fs:I<|Tx×I aW} (h:(jq a8 fs).2=0):(fk a8).2=0/\(a8.aI=[]->lW [(jq a8 fs).1]=0):=by
 unfold jq at h ⊢;split at h;·rename_i a;exact absurd h a
 ·rename_i a;have d:(fk a8).2=0:=by simpa using a
  refine ⟨d,λe=>?_⟩;rw [ao a];split at h;·cases h
  ·rename_i c;rw [ao c];split at h;·cases h
   ·rename_i f;rw [ao f];split at h;·rename_i b;exact absurd h b
    ·rename_i b;rw [ao b];have g:fs=[]:=r5 (by rw [e] at c;simpa using c);subst g;exact X6 (BU d).2.2 e (by simpa using b)
end Go.Bw
end
section
namespace Go.Bw
open Go
def X7 {l a:I cM} {f:Z->Z} (h:Ren l a f) (b:uC l) {d:I Z} (c:k8 l d) (e:d.length=l.length):ux a<|d.map f:= ⟨h.VV b c,bA (by rw [fK,e,h.len])⟩
def PH {α β:Type} {p:Z->α->β->Prop}:∀(l:I α) (s:Z),(∀i x,l[i]? = aa x->∃r,p (s+i) x r)->∃ys:I (α×β),ys.map (·.1)=l/\∀(i:Z) y,ys[i]? = aa y->p (s+i) y.1 y.2
 | [],_,_=>⟨[],rfl,λi y h=>by simp at h⟩
 | x::l,s,h=>by
  obtain ⟨r,b⟩:=h 0 x rfl;obtain ⟨ys,c,d⟩:=PH l (s+1) λi y a=>by obtain ⟨r,b⟩:=h (i+1) y a;exact ⟨r,by rw [show s+1+i=s+(i+1) by omega];exact b⟩
  refine ⟨(x,r)::ys,by simp [c],λi y a=>?_⟩;cases i with| zero=>simp at a;subst a;exact b| succ i=>rw [show s+(i+1)=s+1+i by omega];exact d i y (by simpa using a)
end Go.Bw
end
section
namespace Go.Bw
open Go
mutual
def X8 (a:h6):∀x:cu,jK (oh a x)<=wE x| .mk op n mod nm args=>by have h:=Je a args;simp only [oh,jK,wE];omega
def Je (a:h6):∀l:I cu,iW (iR a l)<=gF l| []=>eC _| x::r=>by have b:=X8 a x;have c:=Je a r;simp only [iR,iW,gF];omega
end
mutual
def X9 (a:h6):∀x:cv,so (oi a x)<=wS x| .mk op mod nm args body other=>by have h:=Je a args;have b:=BW a body;have c:=BW a other;simp only [oi,so,wS];omega
def BW (a:h6):∀l:I cv,jL (ga a l)<=fj l| []=>eC _| x::r=>by have b:=X9 a x;have c:=BW a r;simp only [ga,jL,fj];omega
end
def PI (m:cM) (fs:I<|I a7×I aW):∀l:I bz,mO (l.map<|qt m fs)<=wP l| []=>eC _| p::r=>by have a:=PI m fs r;have b:=BW (c9 m fs<|p.params++p.a6) p.body;simp only [l_,mO,zh,wP,qt];omega
variable {a8:cM}
def X' {fs:I<|I a7×I aW}:uG (jq a8 fs).1<=wM a8:=by
 have a:uG lw<=wM a8:=by show 1<=_;unfold wM;omega
 unfold jq;split;·exact a
 ·split;·exact a
  ·split;·exact a
   ·split;·exact a
    ·have b:=PI a8 fs a8.procs;have c:=BW (c9 a8 fs []) a8.main;show uG (ff a8 fs)<=wM a8;simp only [uG,ff,wM];omega
abbrev cx:=I a7×I aW
def ki:I (I a7×cx)->I a7->cx| [],_=>([],[])| (k,f)::r,s=>if k=s then f else ki r s
def kj (M:I<|I a7×cx) (m:cM):cD×ab:= if (fk m).2≠0 then (lw,(fk m).2) else jq m (m.aI.map<|ki M)
def kG:I cM->I (I a7×cx)->I cD×ab| [],_=>([],0)| m::r,M=>if (kj M m).2≠0 then ([],(kj M m).2) else if (kG r<|(m.nm,(fk m).1)::M).2≠0 then ([],(kG r<|(m.nm,(fk m).1)::M).2) else ((kj M m).1::(kG r<|(m.nm,(fk m).1)::M).1,0)
variable {aD:I cM} {rC:I<|I a7×cx}
def X_ (h:¬(kj rC a8).2=0):kG (a8::aD) rC=([],(kj rC a8).2):=by rw [kG,aU h]
def PJ:∀(l:I cM) (M:I<|I a7×cx),(kG l M).1.length<=l.length
 | [],_=>eC _
 | m::r,M=>by
  have:=PJ r<|(m.nm,(fk m).1)::M;rw [kG];split;·simp
  ·split;·simp
   ·simp;omega
def PK {b:Z}:∀(l:I cM) (M:I<|I a7×cx),(∀m ∈ l,wM m<=b)->∀u ∈ (kG l M).1,uG u<=b
 | [],_,_,u,a=>by simp [kG] at a
 | m::r,M,h,u,a=>by
  rw [kG] at a;split at a;·simp at a
  ·rename_i c;split at a;·simp at a
   ·rcases eZ.1 a with e | a
    ·subst e;unfold kj at c ⊢;split;·rename_i d;rw [aU d] at c;exact absurd d c
     ·exact qa X'<|h m aG
    ·exact PK r _ (λx f=>h x (by simp [f])) u a
def u4 (us:I cD) (q:I cD×ab):I cD×ab:=if q.2≠0 then ([],q.2) else (us++q.1,0)
def PL (l:I cM) (M:I<|I a7×cx):kG l M=u4 [] (kG l M):=by
 cases l with
 | nil=>rfl
 | cons m r=>
  rw [kG];unfold u4;by_cases h:(kj M m).2≠0;·rw [aU h,aU h]
  ·rw [ao h];by_cases a:(kG r<|(m.nm,(fk m).1)::M).2≠0;·rw [aU a,aU a]
   ·rw [ao a];simp
def PM {us:I cD}    (h:¬(kj rC a8).2=0):u4 us (kG (a8::aD) rC)=([],(kj rC a8).2):=by rw [X_ h,u4,aU h]
def Jf {us:I cD}  {r:I cM}  (h:(kj rC a8).2=0):u4 us (kG (a8::r) rC)=u4 (us++[(kj rC a8).1]) (kG r<|(a8.nm,(fk a8).1)::rC):=by
 rw [kG,ao (by rw [h];simp)];unfold u4;by_cases a:(kG r<|(a8.nm,(fk a8).1)::rC).2≠0;·rw [aU a,aU a,aU a]
 ·rw [ao a,ao a,ao aG];simp
def PN (h:¬(fk a8).2=0):kj rC a8=(lw,(fk a8).2):=by rw [kj,aU h]
def afG {M:I<|I a7×cx}  (h:(fk a8).2=0):kj M a8=jq a8 (a8.aI.map<|ki M):=by rw [kj,ao (by rw [h];simp)]
def Jg {α:Type} {f:α->ab}:∀{l:I α} {i:Z} {x:α},(∀s ∈ l.take i,f s=0)->l[i]? = aa x->¬f x=0->iS f l=f x| [],i,x,_,h,_=>by simp at h| y::l,0,x,_,h,a=>by rw [lL] at h;injection h with h;subst h;rw [iS,er,ao a]| y::l,i+1,x,b,h,a=>by rw [lM] at h;rw [iS,er,aU<|b y aG];exact Jg (λs c=>b s (by simp [c])) h a
abbrev pY:=I a7
def afH (l:I pY):ab:=iS (λs=>(fJ s).2) l
def i8 (l:I pY):I cM:=l.map λs=>(fJ s).1
def pZ (a:I cM) (d:I Z):I cM:=d.filterMap λi=>a[i]?
def pn (l:I pY):ab:=if l.length<1\/4<l.length then 2 else afH l
def eU (l:I pY) (q:I Z×ab):I cD×ab:=if q.2≠0 then ([],q.2) else kG (pZ (i8 l) q.1) []
def Fb (l:I cD):ab:=iS (λu=>(iu u).2) l
def mF (r:I cD×ab):(I c'×ab)×ab:=if r.2≠0 then (([],0),r.2) else if Fb r.1≠0 then (([],0),Fb r.1) else eq (r.1.map λu=>(iu u).1.to)
variable {wi:I pY}
def zV (h:pn wi=0):(1<=wi.length/\wi.length<=4)/\∀s ∈ wi,(fJ s).2=0:=by
 unfold pn at h;split at h;·cases h
 ·exact ⟨aj,sh.1 h⟩
def Jh (b:1<=wi.length/\wi.length<=4) (a:∀s ∈ wi,(fJ s).2=0):pn wi=0:=by rw [pn,ao aj];exact sh.2 a
def PO {l a:I cM} {f:Z->Z} (h:Ren l a f):∀(d:I Z),(∀i ∈ d,i<l.length)->pZ a (d.map f)=pZ l d| [],_=>rfl| i::d,b=>by have c:=PO h d λj e=>b j (by simp [e]);unfold pZ at c ⊢;rw [l_,Gy,Gy,h.get i<|b i aG,c]
def Yc {d:I Z} {k i:Z}  (h:d[k]? = aa i) (b:aD[i]? = aa a8):pZ aD (d.drop k)=a8::pZ aD (d.drop<|k+1):=by
 have a:=(c_.1 h).1;unfold pZ;rw [nZ a,Gy];have:d[k]=i:=by rw [dh a] at h;injection h
 rw [this,b]
end Go.Bw
end
section
namespace Go.Bw
open Go
structure PP (l6:I e8) (k:ab) (x:aW):Prop where
 pos:0<=k
 kind:(x.kind=1/\0<=x.n/\x.n<=1099511627775)\/(x.kind=2/\k6 l6 k x.pl 1=ac)\/(x.kind=3/\1<=x.n/\x.n<=32/\k6 l6 k x.pl x.n=ac)\/(x.kind=4/\mL l6 k x.pl x.n=ac)
def wj (l6:I e8) (m:cM) (fs:I cx) (a6:I Tx):Prop:=∀mod nm k it,hl (c9 m fs a6) mod nm=aa (k,it)->(k = -1/\0<=it.pl/\it.pl<(a6.length:ab))\/PP l6 k it
section
variable {m:cM} {a6:I Tx} {fs:I cx} {l6:I e8}
variable {bw aS:Tx} {dw:I cu} {ae:Z}
def afI (t:wj l6 m fs a6) {op n:ab}    (j:tO op n bw aS dw ae) (a:(ed (c9 m fs a6) op n bw aS dw.length).e=0) :
   node1 l6 a6.length (ed (c9 m fs a6) op n bw aS dw.length).op (ed (c9 m fs a6) op n bw aS dw.length).n (ed (c9 m fs a6) op n bw aS dw.length).m (ed (c9 m fs a6) op n bw aS dw.length).pl dw.length=ac:=by
 have x:=j.kind;have g:=j.num;have d:=j.sK;by_cases i:fm op 3 5=ac
 ·have o:op=3\/op=4\/op=5:=by unfold fm at i;simp at i;omega
  have f:n=0:=by unfold k3 at g;have:¬op=1:=aj;simpa [this] using g
  unfold ed at a ⊢;rw [aU i] at a ⊢;cases l:hl (c9 m fs a6) bw aS with
  | none=>rw [l] at a;cases a
  | some q=>
   obtain ⟨k,it⟩:=q;rw [l] at a;dsimp only at a ⊢;rcases t bw aS k it l with ⟨rfl,u,v⟩ | hi
   ·rw [aU rfl] at a ⊢;have w:op=3:=by
     dsimp only at a;split at a;·assumption
     ·cases a
    subst w;have b:=lG d a';rw [show kO 3=0 from rfl] at b;unfold node1 ko;simp [f,b,u,v]
   ·have y:=hi.pos;rw [ao aj] at a ⊢;rcases o with rfl | rfl | rfl
    ·have b:=lG d a';rw [show kO 3=0 from rfl] at b;rcases hi.kind with ⟨e,c⟩ | ⟨e,c⟩ | ⟨e,c⟩ | ⟨e,c⟩;·rw [aU ⟨rfl,e⟩];unfold node1;simp [b];omega
     ·rw [ao aj,aU ⟨rfl,e⟩];have:=c;unfold node1;simp [b,f,this]
     ·rw [ao aj,ao aj,ao aj,ao aj] at a;cases a
     ·rw [ao aj,ao aj,ao aj,ao aj] at a;cases a
    ·have b:=lG d a';rw [show kO 4=1 from rfl] at b;rw [ao aj,ao aj] at a ⊢;rcases hi.kind with ⟨e,c⟩ | ⟨e,c⟩ | ⟨e,c⟩ | ⟨e,c⟩;·rw [ao aj,ao aj] at a;cases a
     ·rw [ao aj,ao aj] at a;cases a
     ·rw [aU ⟨rfl,e⟩];have:=c.2.2;unfold node1 se;simp [b,this];omega
     ·rw [ao aj,ao aj] at a;cases a
    ·rw [ao aj,ao aj,ao aj] at a ⊢;rcases hi.kind with ⟨e,c⟩ | ⟨e,c⟩ | ⟨e,c⟩ | ⟨e,c⟩;·rw [ao aj] at a;cases a
     ·rw [ao aj] at a;cases a
     ·rw [ao aj] at a;cases a
     ·rw [aU ⟨rfl,e⟩] at a ⊢;dsimp only at a ⊢;have b:it.n=(dw.length:ab):=by
       split at a;·assumption
       ·cases a
      have:=c;rw [b] at this;unfold node1;simp [f,this]
 ·have o:¬(op=3\/op=4\/op=5):=λh=>i (by unfold fm;simp;omega);unfold ed;rw [ao i];dsimp only;by_cases c:op=1;·subst c;have b:=lG d a';rw [show kO 1=0 from rfl] at b;unfold k3 at g;unfold node1;simp [b] at g ⊢;omega
  ·have f:n=0:=by unfold k3 at g;simpa [c] using g
   by_cases p:op=2;·subst p;have b:=lG d a';rw [show kO 2=0 from rfl] at b;unfold node1;simp [f,b]
   ·by_cases r:op=6;·subst r;have b:=lG d a';rw [show kO 6=1 from rfl] at b;unfold node1;simp [f,b]
    ·have s:kO op=2:=by unfold kO;rw [ao aj,ao aj,ao aj]
     have b:=lG d (by rw [s];decide);rw [s] at b;unfold node1;rw [ao c,ao aj,ao aj,ao aj,ao aj,ao p,ao r,aU aj];simp [f,b]
mutual
def Ye (b:wj l6 m fs a6):∀(x:cu) (d:Z),(ka x d).cy=0->lx (c9 m fs a6) x=0->lV l6 a6.length (oh (c9 m fs a6) x) d=ac
 | .mk op n mod nm args,d,c,he=>by
  have a:=zM c;rw [vN] at he;obtain ⟨e,f⟩:=ml.1 he;rw [Hu,lV];have g:(iR (c9 m fs a6) (cu.mk op n mod nm args).args).length=args.length:=by rw [y',fK];rfl
  rw [g];have h:=afI b a e;have i:=Ji b args (d+1) a.sub f;rw [kL a.deep];show (node1 _ _ (ed (c9 m fs a6) op n mod nm args.length).op (ed (c9 m fs a6) op n mod nm args.length).n (ed (c9 m fs a6) op n mod nm args.length).m (ed (c9 m fs a6) op n mod nm args.length).pl args.length&&iT _ _ (iR (c9 m fs a6) args) (d+1))=ac;rw [h,i];rfl
def Ji (a:wj l6 m fs a6):∀(l:I cu) (d:Z),(fH l d).cy=0->ce (c9 m fs a6) l=0->iT l6 a6.length (iR (c9 m fs a6) l) d=ac| [],d,_,_=>by rw [iR,iT]| x::r,d,b,he=>by unfold fH at b;unfold ce at he;obtain ⟨c1,c2⟩:=bR b;obtain ⟨c,e⟩:=ml.1 he;rw [iR,iT,Ye a x d c1 c,Ji a r d c2 e];rfl
end
def afJ (v:wj l6 m fs a6) {op:ab}   {body other:I cv}  (p:pX op bw aS dw body other ae) (a:(ew (c9 m fs a6) op bw aS dw.length).e=0) :
   (ew (c9 m fs a6) op bw aS dw.length).op=op/\h7 l6 a6.length (ew (c9 m fs a6) op bw aS dw.length).op (ew (c9 m fs a6) op bw aS dw.length).n (ew (c9 m fs a6) op bw aS dw.length).m (ew (c9 m fs a6) op bw aS dw.length).pl dw.length body.length other.length=ac:=by
 have y:=p.kind;have j:=p.sK;have l:=p.form;have o:(op≠4/\op≠5->body.length=0)/\(op≠4->other.length=0):=by
  unfold n' inner at l;simp at l;refine ⟨λh=>?_,λh=>?_⟩;·have:=l.1 h.1 h.2;simp [this]
  ·have:=l.2 h;simp [this]
 by_cases g:fm op 1 3=ac
 ·have r:op=1\/op=2\/op=3:=by unfold fm at g;simp at g;omega
  have f:body.length=0:=o.1 aj;have d:other.length=0:=o.2 aj;unfold ew at a ⊢;rw [aU g] at a ⊢;cases s:hl (c9 m fs a6) bw aS with
  | none=>rw [s] at a;cases a
  | some q=>
   obtain ⟨k,it⟩:=q;rw [s] at a;dsimp only at a ⊢;rcases v bw aS k it s with ⟨rfl,w,x⟩ | hi
   ·rcases r with rfl | rfl | rfl;·have b:=lG j a';rw [show qp 1=1 from rfl] at b;rw [aU ⟨rfl,bA rfl⟩];refine ⟨O,?_⟩;unfold h7 ko;simp [b,f,d,w,x]
    ·rw [ao aj,aU rfl] at a;cases a
    ·rw [ao aj,aU rfl] at a;cases a
   ·have z:=hi.pos;rcases r with rfl | rfl | rfl
    ·have b:=lG j a';rw [show qp 1=1 from rfl] at b;rcases hi.kind with ⟨e,c⟩ | ⟨e,c⟩ | ⟨e,c⟩ | ⟨e,c⟩;·rw [ao aj,ao aj,ao aj,ao aj] at a;cases a
     ·rw [aU ⟨rfl,bl e⟩];have:=c;refine ⟨O,?_⟩;unfold h7;simp [b,f,d,this]
     ·rw [ao aj,ao aj,ao aj,ao aj] at a;cases a
     ·rw [ao aj,ao aj,ao aj,ao aj] at a;cases a
    ·have b:=lG j a';rw [show qp 2=2 from rfl] at b;rw [ao aj,ao aj] at a ⊢;rcases hi.kind with ⟨e,c⟩ | ⟨e,c⟩ | ⟨e,c⟩ | ⟨e,c⟩;·rw [ao aj,ao aj] at a;cases a
     ·rw [ao aj,ao aj] at a;cases a
     ·rw [aU ⟨rfl,e⟩];have:=c.2.2;refine ⟨O,?_⟩;unfold h7 se;simp [b,f,d,this];omega
     ·rw [ao aj,ao aj] at a;cases a
    ·rw [ao aj,ao aj,ao aj] at a ⊢;rcases hi.kind with ⟨e,c⟩ | ⟨e,c⟩ | ⟨e,c⟩ | ⟨e,c⟩;·rw [ao aj] at a;cases a
     ·rw [ao aj] at a;cases a
     ·rw [ao aj] at a;cases a
     ·rw [aU ⟨rfl,e⟩] at a ⊢;dsimp only at a ⊢;have b:it.n=(dw.length:ab):=by
       split at a;·assumption
       ·cases a
      have:=c;rw [b] at this;refine ⟨O,?_⟩;unfold h7;simp [f,d,this]
 ·have r:¬(op=1\/op=2\/op=3):=λh=>g (by unfold fm;simp;omega);unfold ew;rw [ao g];dsimp only;refine ⟨O,?_⟩;have u:qp op=1:=by unfold qp;rw [ao aj,ao aj]
  have b:=lG j (by rw [u];decide);rw [u] at b;unfold h7;rw [ao aj,ao aj,ao aj];by_cases i:op=4;·rw [aU i];simp [b]
  ·have d:=o.2 i;by_cases t:op=5;·rw [ao i,aU t];simp [b,d]
   ·have f:=o.1 ⟨i,t⟩;rw [ao i,ao t,aU aj];simp [b,d,f]
mutual
def Yg (b:wj l6 m fs a6):∀(x:cv) (d:Z),(ih x d).cy=0->kR (c9 m fs a6) x=0->mm l6 a6.length (oi (c9 m fs a6) x) d=ac
 | .mk op mod nm args body other,d,j,he=>by
  have c:=zN j;rw [tn] at he;obtain ⟨k,e⟩:=ml.1 he;obtain ⟨e,f⟩:=ml.1 e;obtain ⟨f,l⟩:=ml.1 f;rw [Hv,mm];have o:(iR (c9 m fs a6) args).length=args.length:=by rw [y',fK]
  have p:(ga (c9 m fs a6) body).length=body.length:=by rw [tp,fK]
  have q:(ga (c9 m fs a6) other).length=other.length:=by rw [tp,fK]
  obtain ⟨r,s⟩:=afJ b c k;have t:=Ji b args 1 c.exprs e;show (h7 _ _ (ew (c9 m fs a6) op mod nm args.length).op (ew (c9 m fs a6) op mod nm args.length).n (ew (c9 m fs a6) op mod nm args.length).m (ew (c9 m fs a6) op mod nm args.length).pl (iR (c9 m fs a6) args).length (ga (c9 m fs a6) body).length (ga (c9 m fs a6) other).length&&(iT _ _ (iR (c9 m fs a6) args) 1&&((!(sf (ew (c9 m fs a6) op mod nm args.length).op)||(decide (d+1<=6)&&(decide ((ga (c9 m fs a6) body).length<=10)&&je _ _ (ga (c9 m fs a6) body) (d+1))))&&(!(decide<|0<(ga (c9 m fs a6) other).length)||(decide (d+1<=6)&&(decide ((ga (c9 m fs a6) other).length<=10)&&je _ _ (ga (c9 m fs a6) other) (d+1)))))))=ac;rw [o,p,q,s,t,r];simp only [wU];refine gj.2 ⟨?_,?_⟩
  ·by_cases a:sf op=ac;·obtain ⟨g,h,i⟩:=zU<|c.body (by rw [show inner op=ac from a];rfl);rw [kL g,kL h,Fc b body (d+1) i f];simp
   ·simp [a]
  ·by_cases a:0<other.length;·obtain ⟨g,h,i⟩:=zU<|c.other a;rw [kL g,kL h,Fc b other (d+1) i l];simp
   ·rw [Db a];rfl
def Fc (a:wj l6 m fs a6):∀(l:I cv) (d:Z),(e2 l d).cy=0->gX (c9 m fs a6) l=0->je l6 a6.length (ga (c9 m fs a6) l) d=ac| [],d,_,_=>by rw [ga,je]| x::r,d,b,he=>by unfold e2 at b;unfold gX at he;obtain ⟨c1,c2⟩:=bR b;obtain ⟨c,e⟩:=ml.1 he;rw [ga,je,Yg a x d c1 c,Fc a r d c2 e];rfl
end
def PQ (a:wj l6 m fs a6) {l:I cv} (b:(gz l 1).cy=0) (c:gX (c9 m fs a6) l=0):h8 l6 a6.length (ga (c9 m fs a6) l) 1=ac:=by obtain ⟨d,e,f⟩:=zU b;unfold h8;rw [tp,fK,<-tp,kL d,kL e,Fc a l 1 f c];rfl
end
end Go.Bw
end
section
namespace Go.Bw
open Go
structure kW (ms:I cM) (us:I cD):Prop where
 len:us.length=ms.length
 nd:(ms.map (·.nm)).Nodup
 at_:∀(n:Z) (m:cM),ms[n]? = aa m->(fk m).2=0/\∃fs:I cx,us[n]? = aa (ff m fs)/\fs.length=m.aI.length/\oj m fs=0/\∀(i:Z) (s:pY),m.aI[i]? = aa s->∃(j:Z) (m':cM),j<n/\ms[j]? = aa m'/\m'.nm=s/\fs[i]? = aa (fk m').1
def Jj {s:pY}:∀{l:I pY} {j k:Z},l.Nodup->l[j]? = aa s->idxOf s l k=aa (k+j)
 | [],j,k,_,h=>by simp at h
 | x::r,j,k,a,h=>by
  rw [yw] at a;unfold idxOf;cases j with
  | zero=>simp at h;subst h;simp
  | succ j=>
   rw [lM] at h;have b:¬x=s:=λe=>by subst e;exact a.1<|dJ h
   rw [ao b,Jj a.2 h];congr 1;omega
def PR {mod nm:pY}:∀{us:I pY} {fs:I<|I aW} {k:Z} {q:ab} {it:aW},mj mod nm us fs k=aa (q,it)->∃(j:Z) (f:I aW),us[j]? = aa mod/\fs[j]? = aa f/\q=((k+j+1:Z):ab)/\it ∈ f
 | [],fs,k,q,it,h=>by unfold mj at h;cases h| u::us,[],k,q,it,h=>by unfold mj at h;cases h
 | u::us,f::fs,k,q,it,h=>by
  unfold mj at h;have go:mj mod nm us fs (k+1)=aa (q,it)->∃(j:Z) (g:I aW),(u::us)[j]? = aa mod/\(f::fs)[j]? = aa g/\q=((k+j+1:Z):ab)/\it ∈ g:=λh=>by obtain ⟨j,g,a,b,c,d⟩:=PR h;exact ⟨j+1,g,by simpa using a,by simpa using b,by rw [c];congr 1;omega,d⟩
  split at h
  ·rename_i e;split at h;·rename_i x i;injection h with h;injection h with l m;subst l m;exact ⟨0,f,by simp [e],aG,O,E' i⟩
   ·exact go h
  ·exact go h
def PS {ks:I e8} {i:Z} {k:e8} {m:cM} (b:ks[i]? = aa k) (hi:k.q6=ac) (f:k.data=od m) (g:k.parts=m.procs.map λp=>(p.params.length:ab)) (h:mV m) {x:aW} (l:Jb m x):PP ks (i:ab) x:=by
 have r:=(c_.1 b).1;have s:=zT h;have data (pl n:ab) (t:0<=pl) (a:pl+n<=od m) (c:0<=n):k6 ks (i:ab) pl n=ac:=by
  have d:om ks (i:ab) pl=au:=by unfold om;simp only [lN,ny];omega
  rw [vO d b,aU hi,f];exact kL a
 refine ⟨aj,?_⟩;rcases l.kind with ⟨e,a⟩ | ⟨e,a⟩ | ⟨e,a⟩ | ⟨e,j,p,a,c,o⟩;·exact bA ⟨e,a.1,a.2.1⟩
 ·exact bl<|bA ⟨e,data _ _ a.2.1 a.2.2 a'⟩
 ·exact bl<|bl<|bA ⟨e,a.1,a.2.1,data _ _ a.2.2.1 a.2.2.2 aj⟩
 ·refine bl<|bl<|bl ⟨e,?_⟩;have d:o6 ks (i:ab) x.pl=au:=by unfold o6;simp only [lN,ny];omega
  have q:=(c_.1 c).1;rw [vP d b,aU hi,g,a,o,m4,gh,c,fK];simp;exact q
variable {aD:I cM} {ck:I cD}
def kW.names (a:kW aD ck):bh ck=aD.map (·.nm):=by
 refine r3 λn=>?_;unfold bh;rw [gh,gh];cases b:aD[n]? with
 | none=>
  have:ck[n]? = ak:=by rw [K',a.len];exact K'.1 b
  rw [this];rfl| some m=>obtain ⟨_,fs,c,_⟩:=a.at_ n m b;rw [c];rfl
variable {a8:cM}
def kW.kn (a:kW aD ck) {n i:Z}  {s:pY} (g:aD[n]? = aa a8) (d:a8.aI[i]? = aa s) (fs:I cx):∃(j:Z) (m':cM) (b:I cx),j<n/\aD[j]? = aa m'/\m'.nm=s/\ck[j]? = aa (ff m' b)/\(gB ck<|ff a8 fs)[i]? = aa (ey<|ff m' b):=by
 obtain ⟨_,o,_,_,_,h⟩:=a.at_ n a8 g;obtain ⟨j,m',m,c,e,_⟩:=h i s d;obtain ⟨_,b,f,_⟩:=a.at_ j m' c;refine ⟨j,m',b,m,c,e,f,?_⟩;have hi:idxOf s (bh ck) 0=aa j:=by have:=Jj (k:=0) (s:=s) (l:=bh ck) (j:=j) (by rw [a.names];exact a.nd) (by rw [a.names,gh,c,eI,e]);rw [this,k0]
 unfold gB;rw [gh,show (ff a8 fs).aI=a8.aI from rfl,d,eI];simp only [hi,f,eI,px]
variable {ae:Z}
def kW.it (o:kW aD ck)  {m:cM} {fs:I cx} (u:aD[ae]? = aa m) (J:ck[ae]? = aa (ff m fs)) (A:∀(i:Z) (s:pY),m.aI[i]? = aa s->∃(j:Z) (m':cM),j<ae/\aD[j]? = aa m'/\m'.nm=s/\fs[i]? = aa (fk m').1) (a6:I pY):wj (ey (ff m fs)::gB ck (ff m fs)) m fs a6:=by
 intro mod nm k it h;have v:=(BU (o.at_ ae m u).1).2.2;have kp (m:cM) (fs:I cx):(ey<|ff m fs).parts=m.procs.map λp=>(p.params.length:ab):=by unfold ey ff;simp [qt]
 unfold hl at h;split at h
 ·split at h;·rename_i i hi;injection h with h;injection h with q g;subst q g;have K:i<a6.length:=PE hi;exact bA ⟨O,by show (0:ab)<=(i:ab);omega,by show (i:ab)<_;omega⟩
  ·obtain ⟨x,r,e⟩:=eD.1 h;injection e with q g;subst q g;exact bl<|PS (i:=0) (m:=m) O O O (kp m fs) v<|BS v x<|E' r
 ·obtain ⟨j,f,a,b,c,d⟩:=PR h;have a:m.aI[j]? = aa mod:=a;obtain ⟨t,m',q,g,B,C⟩:=A j mod a;obtain ⟨w,L,D,M,n,E,N,F⟩:=o.kn u a fs;have G:t=w:=by
   have y:(aD.map (·.nm))[t]? = aa mod:=by rw [gh,g,eI,B]
   have H:(aD.map (·.nm))[w]? = aa mod:=by rw [gh,n,eI,E]
   exact (s9 (c_.1 y).1 o.nd).1<|y.trans H.symm
  subst G;rw [g] at n;injection n with n;subst n;have b:(fs.map (·.2))[j]? = aa f:=b;rw [gh,C,eI] at b;injection b with b;subst b;have z:=(BU (o.at_ t m' g).1).2.2;have r:it ∈ gW m':=by
   have l:=d;unfold fk at l;split at l;·simp at l
   ·split at l;·simp at l
    ·exact (E9 _ _).subset l
  have:=PS (ks:=ey (ff m fs)::gB ck (ff m fs)) (i:=j+1) (m:=m') (by rw [lM];exact F) rfl rfl (kp m' D) z<|BS z it r;rw [c,k0];exact bl this
def kW.Yh (a:kW aD ck)   (b:aD[ae]? = aa a8):a8.nm ∉ a8.aI:=by
 intro d;obtain ⟨i,hi⟩:=ls d;obtain ⟨_,fs,_,_,_,e⟩:=a.at_ ae a8 b;obtain ⟨j,m',k,f,g,_⟩:=e i a8.nm hi;have c:(aD.map (·.nm))[j]? = aa a8.nm:=by rw [gh,f,eI,g]
 have h:(aD.map (·.nm))[ae]? = aa a8.nm:=by rw [gh,b,eI]
 have:=(s9 (c_.1 c).1 a.nd).1<|c.trans h.symm;omega
def afK (h:(fk a8).2=0):a8.aI.Nodup:=by
 unfold fk at h;split at h;·rename_i b;exact absurd h b
 ·split at h;·cases h
  ·rename_i a;exact ku.2 (by cases c:gV a8.aI with| false=>rfl| true=>rw [c] at a;simp at a)
variable {dS:cD}
def kW.hJ (b:kW aD ck)  (r:dS ∈ ck):j1 dS (gB ck dS)=ac:=by
 obtain ⟨n,c⟩:=ls r;have t:=(c_.1 c).1;obtain ⟨m,d⟩:=dO (by rw [<-b.len];exact t);obtain ⟨h,fs,e,A,i,j⟩:=b.at_ n m d;rw [c] at e;injection e with e;subst e;have a:=(BU h).2.2;have B:=zT a;have C:=a.gu;unfold oj at i;obtain ⟨f,g⟩:=ml.1 i;unfold j1;have a1:tr (ff m fs).nm (ff m fs).aI=ac:=Nc (by show (m.nm::m.aI).Nodup;rw [yw];exact ⟨b.Yh d,afK h⟩)<|gw.2 λs u=>mA<|a.aI s u;have a2:pM (ff m fs)=au:=by
  unfold pM;have f:(ff m fs).parts.length=m.procs.length:=by unfold ff;simp
  have g:(ff m fs).aI.length=m.aI.length:=rfl;have v:(ff m fs).nm=m.nm:=rfl;have w:(ff m fs).data=od m:=rfl;rw [f,g,v,w,mA a.name];simp;omega
 have a3:(ff m fs).parts.all (mM<|ey (ff m fs)::gB ck (ff m fs))=ac:=by refine gw.2 λx y=>?_;obtain ⟨p,k,rfl⟩:=py.1<|show x ∈ m.procs.map (qt m fs) from y;have l:=wg<|a.procs p k;have o:=Jd f p k;unfold q5 at o;obtain ⟨_,z⟩:=ml.1 o;have q:=PQ (b.it d c j<|p.params++p.a6) l.body z;rw [e_] at q;unfold mM qt;have D:=l.gu;rw [show ((p.params.length:ab)+(p.a6.length:ab))=((p.params.length+p.a6.length:Z):ab) by omega,q];simp;omega
 have a4:h8 (ey (ff m fs)::gB ck (ff m fs)) 0 (ff m fs).main 1=ac:=PQ (a6:=[]) (b.it d c j []) a.main g;rw [a1,a2,a3,a4];rfl
def kW.ahead (a:kW aD ck):h' ck=ac:=by unfold h';refine gw.2 λn b=>?_;have c:=wT.1 b;obtain ⟨m,d⟩:=dO (by rw [<-a.len];exact c);obtain ⟨_,fs,e,_,_,f⟩:=a.at_ n m d;rw [e,a.names];refine gw.2 λs g=>?_;obtain ⟨i,hi⟩:=ls<|show s ∈ m.aI from g;obtain ⟨j,m',h,k,l,_⟩:=f i s hi;rw [C3];refine dJ (i:=j) ?_;rw [b8,aU h,gh,k,eI,l]
def kW.data (b:kW aD ck):∀u ∈ ck,0<=u.data/\u.data<=320:=λu d=>by obtain ⟨n,c⟩:=ls d;have e:=(c_.1 c).1;obtain ⟨m,f⟩:=dO (by rw [<-b.len];exact e);obtain ⟨g,fs,a,_⟩:=b.at_ n m f;rw [c] at a;injection a with a;subst a;exact zT (BU g).2.2
def u5 (l:I cD):ab:=(l.map (·.data)).sum
def PT:∀{l:I cD} {r:ab},(∀u ∈ l,0<=u.data)->u5 l<=r->cQ l r=ac
 | [],r,_,_=>rfl
 | u::l,r,h,d=>by
  have e:=h u aG;have f:u5 (u::l)=u.data+u5 l:=by simp [u5]
  have g:0<=u5 l:=by
   have:∀{l:I cD},(∀u ∈ l,0<=u.data)->0<=u5 l:=fun {l}=>by induction l with| nil=>intro _;simp [u5]| cons x t b=>intro h;have:=b λu a=>h u (by simp [a]);have:=h x aG;simp [u5] at *;omega
   exact this λu a=>h u (by simp [a])
  rw [cQ,PT (λx c=>h x (by simp [c])) aj];simp;omega
def kW.right (a:kW aD ck) (e:1<=ck.length/\ck.length<=4) (c:u5 ck<=512):lW ck=0:=by
 unfold lW;have d:gV (bh ck)=au:=by rw [a.names];exact ku.1 a.nd
 rw [ao (by simp;omega),ao (by rw [a.ahead];decide),ao (by rw [d];decide),ao (by rw [PT (λu b=>(a.data u b).1) c];decide),aU<|gw.2 λu b=>a.hJ b]
def kW.alone (a:kW aD ck)  (c:dS ∈ ck):sq dS=ac:=by
 have d:=a.hJ c;have e:(gB ck dS).length=dS.aI.length:=by simp [gB]
 unfold sq;rw [<-e];refine Oj (Ok λk b=>?_) d;unfold gB at b;obtain ⟨s,_,rfl⟩:=py.1 b;split;·rename_i i hi;cases f:ck[i]? with| none=>intro h;cases h| some g=>exact Iz<|a.hJ<|dJ f
 ·intro h;cases h
end Go.Bw
end
section
namespace Go.Bw
open Go
def PU {u:cD} (h:sq u=ac) (a:(iu u).2=0):(iu u).1=sr u/\(sr u).g.code.length<=2048:=by
 unfold iu at a ⊢;rw [ao (by rw [h];decide)] at a ⊢;split at a;·cases a
 ·rename_i b;rw [ao b];exact ⟨O,aj⟩
def BX (us:I cD):I d_:=us.map λu=>(iu u).1.to
section
variable {aD:I cM} {ck:I cD}
def kW.l6 (b:kW aD ck) (u:cD):∀k ∈ gB ck u,w7 k:=by
 intro k a;unfold gB at a;obtain ⟨s,_,rfl⟩:=py.1 a;split;·rename_i i hi;cases c:ck[i]? with| none=>intro h;cases h| some d=>exact Iz<|b.hJ<|dJ c
 ·intro h;cases h
variable {ae:Z}
def kW.obj (d:kW aD ck) (e:∀u ∈ ck,(iu u).2=0)  {o:d_} (a:(BX ck)[ae]? = aa o):∃u,ck[ae]? = aa u/\o=(sr u).to/\(sr u).g.code.length<=2048:=by unfold BX at a;rw [gh] at a;obtain ⟨u,b,rfl⟩:=eD.1 a;have c:=dJ b;obtain ⟨f,h⟩:=PU (d.alone c)<|e u c;exact ⟨u,b,by rw [f],h⟩
def kW.mod (b:kW aD ck)  {u:cD} (c:ck[ae]? = aa u):∃(m:cM) (fs:I cx),aD[ae]? = aa m/\u=ff m fs/\∀(i:Z) (s:pY),m.aI[i]? = aa s->∃(j:Z) (m':cM),j<ae/\aD[j]? = aa m'/\m'.nm=s/\fs[i]? = aa (fk m').1:=by have e:=(c_.1 c).1;obtain ⟨m,d⟩:=dO (by rw [<-b.len];exact e);obtain ⟨_,fs,a,_,_,f⟩:=b.at_ ae m d;rw [c] at a;injection a with a;exact ⟨m,fs,d,a,f⟩
end
end Go.Bw
end
section
namespace Go.Bw
open Go
def gH {s:Tx} {l q:Tk} (h:bD s l=aa q):l.length=q.length+1:=by
 cases l with
 | nil=>cases h
 | cons t r=>
  simp only [bD] at h;split at h;·injection h with h;subst h;rfl
  ·cases h
variable {aP:ab} {a_ cm:Tk}
def PV {t:Tok} (h:nN aP a_=aa (t,cm)):a_.length=cm.length+1:=by
 cases a_ with
 | nil=>cases h
 | cons t r=>
  simp only [nN] at h;split at h;·injection h with h;injection h with b a;subst a;rfl
  ·cases h
def iY {a:Tx} (h:hU a_=aa (a,cm)):a.length<=8/\a_.length=cm.length+1:=by
 unfold hU at h;obtain ⟨⟨t,q⟩,d,b⟩:=dl.1 h;simp only at b;split at b;·rename_i c;simp only [gi,dY] at b;obtain ⟨rfl,rfl⟩:=b;refine ⟨?_,PV d⟩;simp only [gy,gm,eW,mb] at c;exact c.1.1.1.2
 ·cases b
def PW (h:nO a_=aa (aP,cm)):a_.length=cm.length+1:=by unfold nO at h;obtain ⟨⟨t,q⟩,b,a⟩:=eD.1 h;simp only [dY] at a;obtain ⟨_,rfl⟩:=a;exact PV b
def NS {p:Tx×Tx} (h:l4 a_=aa (p,cm)):p.1.length+p.2.length<=16/\cm.length+1<=a_.length:=by
 unfold l4 at h;obtain ⟨⟨a,q⟩,e,c⟩:=dl.1 h;obtain ⟨i,j⟩:=iY e;simp only at c;split at c;·rename_i k f;obtain ⟨⟨b,l⟩,g,d⟩:=eD.1 c;simp only [dY] at d;obtain ⟨rfl,rfl⟩:=d;obtain ⟨m,n⟩:=iY g;have:=gH f;simp only;omega
 ·simp only [gi,dY] at c;obtain ⟨rfl,rfl⟩:=c;simp only [fT];omega
def WB (a:Tk->az (cu×Tk)):Prop:=∀l x r,a l=aa (x,r)->wE x+18*r.length<=18*l.length
variable {gD:Tk->az (cu×Tk)}
def PY (c:WB gD):∀(n:Z) (l:Tk) (xs:I cu) (r:Tk),mB gD n l=aa (xs,r)->gF xs+18*r.length<=18*l.length
 | 0,_,_,_,h=>by cases h
 | n+1,l,xs,r,h=>by
  unfold mB at h;obtain ⟨⟨x,q⟩,f,a⟩:=dl.1 h;have j:=c l x q f;simp only at a;split at a;·rename_i d b;simp only [gi,dY] at a;obtain ⟨rfl,rfl⟩:=a;have:=gH b;simp only [gF];omega
  ·split at a;·rename_i d b;obtain ⟨⟨ys,g⟩,i,e⟩:=eD.1 a;simp only [dY] at e;obtain ⟨rfl,rfl⟩:=e;have:=gH b;have:=PY c n d ys g i;simp only [gF];omega
   ·cases a
def PZ (a:WB gD)  {xs:I cu} (h:l5 gD a_=aa (xs,cm)):gF xs+18*cm.length<=18*a_.length:=by
 unfold l5 at h;split at h;·rename_i q b;simp only [gi,dY] at h;obtain ⟨rfl,rfl⟩:=h;have:=gH b;simp only [gF];omega
 ·exact PY a _ _ _ _ h
def P0:∀(a:I Tx) (i k:Z) (l r:Tk),pk a i l=aa (k,r)->r.length+1<=l.length
 | [],_,_,_,_,h=>by cases h
 | w::a,i,k,l,r,h=>by
  unfold pk at h;split at h;·rename_i q b;simp only [gi,dY] at h;obtain ⟨_,rfl⟩:=h;have:=gH b;omega
  ·exact P0 a _ _ _ _ h
variable {aw:cu}
def Yj (c:WB gD)   (h:nP gD a_=aa (aw,cm)):wE aw+18*cm.length<=18*a_.length:=by unfold nP at h;obtain ⟨⟨a,m⟩,e,f⟩:=dl.1 h;obtain ⟨⟨o,n⟩,g,i⟩:=dl.1 f;obtain ⟨⟨b,p⟩,j,k⟩:=dl.1 i;obtain ⟨q,l,d⟩:=eD.1 k;simp only [dY] at d;obtain ⟨rfl,rfl⟩:=d;have r:=c _ _ _ e;have s:=P0 _ _ _ _ _ g;have t:=c _ _ _ j;have u:=gH l;simp only [wE,gF,fT] at *;omega
def Yk (d:WB gD)  {mod nm:Tx}  (k:mod.length+nm.length<=16) (h:oz gD mod nm a_=aa (aw,cm)):wE aw+18*cm.length<=17+18*a_.length:=by
 unfold oz at h;split at h;·rename_i q b;obtain ⟨⟨y,f⟩,c,a⟩:=dl.1 h;obtain ⟨l,g,e⟩:=eD.1 a;simp only [dY] at e;obtain ⟨rfl,rfl⟩:=e;have i:=gH b;have j:=d _ _ _ c;have m:=gH g;simp only [wE,gF] at *;omega
 ·split at h;·rename_i q b;obtain ⟨⟨xs,f⟩,c,a⟩:=eD.1 h;simp only [dY] at a;obtain ⟨rfl,rfl⟩:=a;have i:=gH b;have j:=PZ d c;simp only [wE] at *;omega
  ·simp only [gi,dY] at h;obtain ⟨rfl,rfl⟩:=h;simp only [wE,gF] at *;omega
def afL (c:WB gD):WB<|mC gD:=by
 intro l x r h;unfold mC at h;split at h;·rename_i q a;simp only [gi,dY] at h;obtain ⟨rfl,rfl⟩:=h;have:=gH a;simp only [wE,gF,fT];omega
 ·split at h;·rename_i q a;obtain ⟨⟨y,i⟩,d,b⟩:=eD.1 h;simp only [dY] at b;obtain ⟨rfl,rfl⟩:=b;have e:=gH a;have f:=c _ _ _ d;simp only [wE,gF,fT];omega
  ·split at h;·rename_i q a;have e:=gH a;have f:=Yj c h;omega
   ·obtain ⟨⟨p,q⟩,d,b⟩:=dl.1 h;obtain ⟨e,f⟩:=NS d;have g:=Yk c e b;simp only at g;omega
def Jk:∀f,WB (fg f)
 | 0=>λ_ _ _ h=>by cases h
 | f+1=>by
  intro l x r h;cases l with
  | nil=>cases h
  | cons t q=>
   unfold fg at h;by_cases a:t.kind=2;·simp only [aU a,gi,dY] at h;obtain ⟨rfl,rfl⟩:=h;simp only [wE,gF,fT,eL];omega
   ·simp only [ao a] at h;exact afL (Jk f) _ _ _ h
variable {cL:cv}
def afM (h:ht a_=aa (cL,cm)):wS cL+18*cm.length<=18*a_.length:=by
 have c:=Jk 6;unfold ht at h;split at h;·rename_i q a;obtain ⟨⟨x,f⟩,k,b⟩:=eD.1 h;simp only [dY] at b;obtain ⟨rfl,rfl⟩:=b;have n:=gH a;have g:=c _ _ _ k;simp only [wS,gF,fj,fT];omega
 ·split at h;·rename_i q a;obtain ⟨⟨x,f⟩,k,b⟩:=eD.1 h;simp only [dY] at b;obtain ⟨rfl,rfl⟩:=b;have n:=gH a;have g:=c _ _ _ k;simp only [wS,gF,fj,fT];omega
  ·obtain ⟨⟨⟨mod,nm⟩,q⟩,b,d⟩:=dl.1 h;obtain ⟨s,n⟩:=NS b;simp only at d s;split at d;·rename_i f a;obtain ⟨⟨xs,o⟩,t,e⟩:=eD.1 d;simp only [dY] at e;obtain ⟨rfl,rfl⟩:=e;have g:=gH a;have p:=PZ c t;simp only [wS,fj];omega
   ·split at d;·rename_i f a;obtain ⟨⟨i,o⟩,e,l⟩:=dl.1 d;obtain ⟨y,m,j⟩:=dl.1 l;obtain ⟨z,u,v⟩:=dl.1 j;obtain ⟨⟨x,A⟩,w,r⟩:=eD.1 v;simp only [dY] at r;obtain ⟨rfl,rfl⟩:=r;have g:=gH a;have p:=c _ _ _ e;have B:=gH m;have C:=gH u;have D:=c _ _ _ w;simp only [wS,gF,fj] at *;omega
    ·obtain ⟨f,e,l⟩:=dl.1 d;obtain ⟨⟨x,o⟩,m,j⟩:=eD.1 l;simp only [dY] at j;obtain ⟨rfl,rfl⟩:=j;have g:=gH e;have p:=c _ _ _ m;simp only [wS,gF,fj];omega
def NT (a:Tk->az (I cv×Tk)):Prop:=∀l x r,a l=aa (x,r)->fj x+18*r.length<=18*l.length
def afN {k:Tk->az (I cv×Tk)} (f:NT k)   (h:gC k a_=aa (cL,cm)):wS cL+18*cm.length<=18*a_.length:=by
 have l:=Jk 6;unfold gC at h;split at h
 ·rename_i q g;obtain ⟨⟨x,m⟩,i,c⟩:=dl.1 h;obtain ⟨⟨b,s⟩,d,a⟩:=dl.1 c;have n:=gH g;have j:=l _ _ _ i;have p:=f _ _ _ d;simp only at a j p;split at a
  ·rename_i v t;obtain ⟨⟨o,w⟩,u,e⟩:=dl.1 a;have y:=gH t;have z:=f _ _ _ u;simp only at e;split at e;·cases e
   ·simp only [gi,dY] at e;obtain ⟨rfl,rfl⟩:=e;simp only [wS,gF,fT] at *;omega
  ·simp only [gi,dY] at a;obtain ⟨rfl,rfl⟩:=a;simp only [wS,gF,fj,fT] at *;omega
 ·split at h;·rename_i q g;obtain ⟨⟨x,m⟩,i,c⟩:=dl.1 h;obtain ⟨⟨b,s⟩,d,a⟩:=eD.1 c;simp only [dY] at a;obtain ⟨rfl,rfl⟩:=a;have n:=gH g;have j:=l _ _ _ i;have p:=f _ _ _ d;simp only [wS,gF,fj,fT] at *;omega
  ·obtain ⟨⟨A,q⟩,c,d⟩:=dl.1 h;obtain ⟨m,a,r⟩:=eD.1 d;simp only [dY] at r;obtain ⟨rfl,rfl⟩:=r;have n:=afM c;have j:=gH a;simp only at *;omega
def NU {ps:Tk->az (cv×Tk)} (a:∀l x r,ps l=aa (x,r)->wS x+18*r.length<=18*l.length):∀(n:Z) (l:Tk) (xs:I cv) (r:Tk),oA ps n l=aa (xs,r)->fj xs+18*r.length<=18*l.length
 | 0,_,_,_,h=>by cases h
 | n+1,l,xs,r,h=>by
  unfold oA at h;split at h;·rename_i q c;simp only [gi,dY] at h;obtain ⟨rfl,rfl⟩:=h;have:=gH c;simp only [fj];omega
  ·obtain ⟨⟨s,q⟩,d,e⟩:=dl.1 h;obtain ⟨⟨ys,f⟩,g,b⟩:=eD.1 e;simp only [dY] at b;obtain ⟨rfl,rfl⟩:=b;have i:=a _ _ _ d;have j:=NU a n q ys f g;simp only [fj];omega
def Jl:∀f,NT (ib f)| 0=>λ_ _ _ h=>by cases h| f+1=>by intro l x r h;unfold ib at h;obtain ⟨q,a,b⟩:=dl.1 h;have d:=gH a;have e:=NU (λl x r c=>afN (Jl f) c) _ _ _ _ b;omega
def Jm (l:Tk):(bx l).2.length<=l.length:=by unfold bx;cases h:bD nM l with| none=>exact eC _| some q=>have:=gH h;simp only [px];omega
variable {dE:aQ}
def afO {d:eQ} (h:hD dE a_=aa (aa d,cm)):1+d.nm.length+18*cm.length<=18*a_.length:=by
 unfold hD at h;split at h;·rename_i q c;obtain ⟨⟨a,l⟩,u,i⟩:=dl.1 h;obtain ⟨m,e,f⟩:=dl.1 i;obtain ⟨⟨n,v⟩,b,j⟩:=dl.1 f;obtain ⟨w,k,g⟩:=eD.1 j;simp only [dY,gi] at g;obtain ⟨rfl,rfl⟩:=g;have o:=gH c;obtain ⟨p,r⟩:=iY u;have s:=gH e;have x:=PW b;have y:=gH k;simp only at *;omega
 ·split at h;·rename_i q c;obtain ⟨⟨a,l⟩,i,e⟩:=dl.1 h;obtain ⟨m,f,b⟩:=eD.1 e;simp only [dY,gi] at b;obtain ⟨rfl,rfl⟩:=b;have o:=gH c;obtain ⟨p,r⟩:=iY i;have s:=gH f;simp only at *;omega
  ·split at h;·rename_i q c;obtain ⟨⟨a,l⟩,e,f⟩:=dl.1 h;obtain ⟨m,b,j⟩:=dl.1 f;obtain ⟨⟨n,v⟩,k,g⟩:=dl.1 j;obtain ⟨w,z,A⟩:=dl.1 g;obtain ⟨C,B,t⟩:=eD.1 A;simp only [dY,gi] at t;obtain ⟨rfl,rfl⟩:=t;have o:=gH c;obtain ⟨p,r⟩:=iY e;have s:=gH b;have x:=PW k;have y:=gH z;have D:=gH B;simp only at *;omega
   ·simp at h
def P3:∀(n:Z) (cz:aQ) (l:Tk) (ds:I eQ) (b:aQ) (r:Tk),mD n cz l=aa ((ds,b),r)->wD ds+18*r.length<=18*l.length| 0,_,_,_,_,_,h=>by cases h| n+1,cz,l,ds,b,r,h=>by unfold mD at h;obtain ⟨⟨o,q⟩,c,a⟩:=dl.1 h;cases o with| none=>have:=E7 c;simp only [gi,dY] at a;obtain ⟨⟨e,_⟩,f⟩:=a;rw [<-e,<-f,this];simp [wD]| some x=>obtain ⟨⟨⟨ys,i⟩,j⟩,g,d⟩:=eD.1 a;simp only [dY] at d;obtain ⟨⟨rfl,rfl⟩,rfl⟩:=d;have k:=afO c;have m:=P3 n _ _ _ _ _ g;have p:=Jm q;simp only [wD] at *;omega
def P4:∀(n:Z) (first:aQ) (l:Tk) (xs:I Tx) (r:Tk),kF n first l=aa (xs,r)->wN xs+18*r.length<=18*l.length
 | 0,_,_,_,_,h=>by cases h
 | n+1,first,l,xs,r,h=>by
  unfold kF at h;split at h;·rename_i q e;simp only [gi,dY] at h;obtain ⟨rfl,rfl⟩:=h;have:=gH e;simp only [wN];omega
  ·obtain ⟨c,b,f⟩:=dl.1 h;obtain ⟨⟨a,q⟩,g,i⟩:=dl.1 f;obtain ⟨⟨ys,j⟩,k,d⟩:=eD.1 i;simp only [dY] at d;obtain ⟨rfl,rfl⟩:=d;have m:c.length<=l.length:=by cases first with| true=>simp only [dp,gi] at b;subst b;exact eC _| false=>have:=gH (s:=[44]) (l:=l) (q:=c) b;omega
   obtain ⟨o,p⟩:=iY g;have t:=P4 n au q ys j k;simp only [wN] at *;omega
def P5:∀(n:Z) (l:Tk) (xs:I Tx) (r:Tk),lE n l=aa (xs,r)->wN xs+18*r.length<=18*l.length
 | 0,_,_,_,h=>by cases h
 | n+1,l,xs,r,h=>by
  unfold lE at h;split at h;·rename_i q c;obtain ⟨⟨a,m⟩,d,e⟩:=dl.1 h;obtain ⟨f,g,i⟩:=dl.1 e;obtain ⟨⟨ys,j⟩,k,b⟩:=eD.1 i;simp only [dY] at b;obtain ⟨rfl,rfl⟩:=b;have o:=gH c;obtain ⟨p,s⟩:=iY d;have t:=gH g;have u:=P5 n f ys j k;simp only [wN] at *;omega
  ·simp only [gi,dY] at h;obtain ⟨rfl,rfl⟩:=h;simp [wN]
def P6:∀(n:Z) (l:Tk) (xs:I Tx) (r:Tk),lj n l=aa (xs,r)->wN xs+18*r.length<=18*l.length
 | 0,_,_,_,h=>by cases h
 | n+1,l,xs,r,h=>by
  unfold lj at h;split at h;·rename_i q c;obtain ⟨⟨a,m⟩,d,e⟩:=dl.1 h;obtain ⟨f,g,i⟩:=dl.1 e;obtain ⟨⟨ys,j⟩,k,b⟩:=eD.1 i;simp only [dY] at b;obtain ⟨rfl,rfl⟩:=b;have o:=gH c;obtain ⟨p,s⟩:=iY d;have t:=gH g;have u:=P6 n f ys j k;simp only [wN] at *;omega
  ·simp only [gi,dY] at h;obtain ⟨rfl,rfl⟩:=h;simp [wN]
def Yp {p:bz} (h:kV dE a_=aa (p,cm)):p.nm.length+wN p.params+wN p.a6+fj p.body+18*cm.length<=18*a_.length:=by unfold kV at h;obtain ⟨⟨a,n⟩,d,e⟩:=dl.1 h;obtain ⟨o,f,g⟩:=dl.1 e;obtain ⟨⟨ps,q⟩,i,j⟩:=dl.1 g;obtain ⟨⟨r,s⟩,k,l⟩:=dl.1 j;obtain ⟨⟨b,t⟩,m,c⟩:=eD.1 l;simp only [dY] at c;obtain ⟨rfl,rfl⟩:=c;obtain ⟨u,v⟩:=iY d;have w:=gH f;have x:=P4 _ _ _ _ _ i;have y:=P5 _ _ _ _ k;have z:=Jl 6 _ _ _ m;simp only at *;omega
def P7:∀(n:Z) (cz:aQ) (l:Tk) (ds:I bz) (a:aQ) (r:Tk),mE n cz l=aa ((ds,a),r)->wP ds+18*r.length<=18*l.length
 | 0,_,_,_,_,_,h=>by cases h
 | n+1,cz,l,ds,a,r,h=>by
  unfold mE at h;split at h;·rename_i q c;obtain ⟨⟨p,d⟩,e,f⟩:=dl.1 h;obtain ⟨⟨⟨ys,i⟩,j⟩,g,b⟩:=eD.1 f;simp only [dY] at b;obtain ⟨⟨rfl,rfl⟩,rfl⟩:=b;have k:=gH c;have m:=Yp e;have o:=P7 n _ _ _ _ _ g;have s:=Jm d;simp only [wP] at *;omega
  ·simp only [gi,dY] at h;obtain ⟨⟨rfl,rfl⟩,rfl⟩:=h;simp [wP]
def P8 {m:cM} (h:lF a_=aa (m,cm)):wM m+18*cm.length<=18*a_.length:=by
 unfold lF at h;obtain ⟨p,d,h⟩:=dl.1 h;obtain ⟨⟨a,q⟩,e,h⟩:=dl.1 h;obtain ⟨r,f,h⟩:=dl.1 h;obtain ⟨⟨us,g⟩,i,h⟩:=dl.1 h;obtain ⟨⟨⟨ds,s⟩,t⟩,j,h⟩:=dl.1 h;obtain ⟨⟨⟨ps,u⟩,v⟩,k,h⟩:=dl.1 h;simp only at h;split at h;·cases h
 ·obtain ⟨w,l,h⟩:=dl.1 h;obtain ⟨⟨b,x⟩,n,h⟩:=dl.1 h;obtain ⟨y,o,c⟩:=eD.1 h;simp only [dY] at c;obtain ⟨rfl,rfl⟩:=c;have z:=gH d;obtain ⟨A,B⟩:=iY e;have C:=gH f;have D:=P6 _ _ _ _ i;have E:=P3 _ _ _ _ _ _ j;have F:=Jm g;have G:=P7 _ _ _ _ _ _ k;have H:=gH l;have J:=Jl 6 _ _ _ n;have K:=gH o;simp only [wM] at *;omega
end Go.Bw
end
section
namespace Go.Bw
open Go
def P9 (l:Tk):Prop:=∀t ∈ l,t.kind=1->t.text.length<=8
structure xP (l r:Tk):Prop where
 ok:P9 r
 le:r.length<=l.length
def xP.trans {a b c:Tk} (h:xP a b) (g:xP b c):xP a c:=⟨g.ok,qa g.le h.le⟩
structure aga (l:Tk) (p:cu×Tk):Prop extends xP l p.2 where
 w:wE p.1+40*p.2.length<=20+40*l.length
structure agc (l:Tk) (p:cv×Tk):Prop extends xP l p.2 where
 w:wS p.1+80*p.2.length<=80*l.length\/(p.2.length=l.length/\wS p.1<=40)
structure Yq (l:Tk) (p:I cv×Tk):Prop extends xP l p.2 where
 w:fj p.1+80*p.2.length<=80*l.length
def Jn (a:Tk->I cv×Tk):Prop:=∀l,P9 l->Yq l (a l)
def P' (P:aV) (f:jU) (vs:I aT) (a:I bc) (cB:I View) {ι:Type} (v:ι->aT) (b:ι->I bc) (R:ι->Prop):Prop:= Enters P f/\∀w,Ws w (a.flatMap bc.ids) a cB w->cr P f vs.toArray w λe c=>∃i,e = ax (v i)/\R i/\Ws w (a.flatMap bc.ids) (b i) cB c
def xQ (P:aV) (f:jU) (vs:I aT) (a:I bc) (cB:I View) {ι κ:Type} (v:ι->aT) (c:ι->I bc) (R:ι->Prop) (d:κ->I nW) (Lp:κ->I bc) (g:κ->Prop):Prop:= Enters P f/\∀w,Ws w (a.flatMap bc.ids) a cB w->cr P f vs.toArray w λe b=>(∃i,e = ax (v i)/\R i/\Ws w (a.flatMap bc.ids) (c i) cB b)\/(∃j,e = .panicked (d j)/\g j/\Ws w (a.flatMap bc.ids) (Lp j) cB b)
def Yr (P:aV) (f:jU) (vs:I aT) (a:I bc) (cB:I View) {ι:Type} (v:ι->aT) (b:ι->I bc) (R:View->ι->Prop):Prop:= (Enters P f/\∀i,∀k ∈ (b i).flatMap bc.ids,k ∈ a.flatMap bc.ids)/\∀w,Ws w (a.flatMap bc.ids) a cB w->cr P f vs.toArray w λe c=>∃i,e = ax (v i)/\R (nv w c) i/\Ws w (a.flatMap bc.ids) (b i) cB c
def P_ (P:aV) (f:jU) (vs:I aT) (a:I bc) (cB:I View) {ι κ:Type} (v:ι->aT) (c:ι->I bc) (R:View->ι->Prop) (d:κ->I nW) (Lp:κ->I bc) (g:κ->Prop):Prop:= (Enters P f/\∀i,∀k ∈ (c i).flatMap bc.ids,k ∈ a.flatMap bc.ids)/\∀w,Ws w (a.flatMap bc.ids) a cB w->cr P f vs.toArray w λe b=>(∃i,e = ax (v i)/\R (nv w b) i/\Ws w (a.flatMap bc.ids) (c i) cB b)\/(∃j,e = .panicked (d j)/\g j/\Ws w (a.flatMap bc.ids) (Lp j) cB b)
section
variable {P:aV} {ops:bE ay} {Q:aO->aN->aL->Prop} {n:Z} {ds:I e'} {l:I<|Z×aT} {w0:aL} {F:I Z} {L:I bc} {Vs:I View} {rest:I ay} {d:Z} {ty:b_} {pos:bg} {af:bE fw} {g:az<|Z×aQ} {ι κ:Type} {f:jU} {args:bE dF} {ts:bE b_} {vs:I aT} {L1 L2:I bc} {cB:I View} {v:ι->aT} {eV:ι->I bc} {ch:κ->I nW} {Lp:κ->I bc} {Rp:κ->Prop}
def WL.kw {R:ι->Prop} (hC:P' P f vs L1 cB v eV R) (a:∀i,R i->WL P ops Q n ds ((d,v i)::l) (Ws w0 F (eV i++L2) Vs) rest) (b:hF l args.toList=aa vs:=by rfl) (hL:L=L1++L2:=by rfl) (c:∀H ∈ cB,H ∈ Vs:=by simp) (e:eE ops l g:=by first|exact bA rfl|exact bl ⟨_,_,_,rfl,rfl,rfl⟩) (h:eB d n=ac:=by rfl) : WL P ops Q n ds l (Ws w0 F L Vs)<|⟨aa d,.call ⟨.value<|.func f,args,ts⟩,ty,pos,af,g⟩::rest:=Lw L1 L2 e h hC.1 b hL v eV R cB c hC.2 a
def WL.kx {R:ι->Prop} (hC:xQ P f vs L1 cB v eV R ch Lp Rp) (a:∀j,Rp j->WE Q (.panic<|ch j) n ds l (Ws w0 F (Lp j++L2) Vs)) (b:∀i,R i->WL P ops Q n ds ((d,v i)::l) (Ws w0 F (eV i++L2) Vs) rest) (c:hF l args.toList=aa vs:=by rfl) (hL:L=L1++L2:=by rfl) (e:∀H ∈ cB,H ∈ Vs:=by simp) (h:eE ops l g:=by first|exact bA rfl|exact bl ⟨_,_,_,rfl,rfl,rfl⟩) (k:eB d n=ac:=by rfl) : WL P ops Q n ds l (Ws w0 F L Vs)<|⟨aa d,.call ⟨.value<|.func f,args,ts⟩,ty,pos,af,g⟩::rest:=hR L1 L2 h k hC.1 c hL v eV R ch Lp Rp cB e hC.2 a b
def WL.kd {R:View->ι->Prop} (hC:Yr P f vs L1 cB v eV R) (a:∀H i,g8 w0 H->R H i->WL P ops Q n ds ((d,v i)::l) (Ws w0 F (eV i++L2)<|H::Vs) rest) (b:hF l args.toList=aa vs:=by rfl) (hL:L=L1++L2:=by rfl) (c:∀H ∈ cB,H ∈ Vs:=by simp) (e:eE ops l g:=by first|exact bA rfl|exact bl ⟨_,_,_,rfl,rfl,rfl⟩) (h:eB d n=ac:=by rfl) : WL P ops Q n ds l (Ws w0 F L Vs)<|⟨aa d,.call ⟨.value<|.func f,args,ts⟩,ty,pos,af,g⟩::rest:=Up L1 L2 e h hC.1.1 b hL v eV R cB c hC.1.2 hC.2 a
def WL.ke {R:View->ι->Prop} (hC:P_ P f vs L1 cB v eV R ch Lp Rp) (a:∀j,Rp j->WE Q (.panic<|ch j) n ds l (Ws w0 F (Lp j++L2) Vs)) (b:∀H i,g8 w0 H->R H i->WL P ops Q n ds ((d,v i)::l) (Ws w0 F (eV i++L2)<|H::Vs) rest) (c:hF l args.toList=aa vs:=by rfl) (hL:L=L1++L2:=by rfl) (e:∀H ∈ cB,H ∈ Vs:=by simp) (h:eE ops l g:=by first|exact bA rfl|exact bl ⟨_,_,_,rfl,rfl,rfl⟩) (k:eB d n=ac:=by rfl) : WL P ops Q n ds l (Ws w0 F L Vs)<|⟨aa d,.call ⟨.value<|.func f,args,ts⟩,ty,pos,af,g⟩::rest:=qq L1 L2 h k hC.1.1 c hL v eV R ch Lp Rp cB e hC.1.2 hC.2 a b
end
end Go.Bw
end
section
namespace Go.Proofs
open Go.Shelf
def Tryz.Ys:Go.Shelf.Ren:=⟨fun| 137=>258| 217=>312| 266=>348| n=>n,fun| 9=>9| 5=>5| 3=>3| n=>n,fun| n=>n⟩
def Tryz.Yt:Go.Proofs.Lays.n137 Tryz.prog Tryz.Ys:=by repeat' first|kernel_rfl|(intro;kernel_rfl)|constructor
def Tryz.Yu:Go.Shelf.Ren:=⟨fun| 171=>124| 243=>216| 246=>263| 283=>319| 284=>320| 285=>321| 286=>322| 129=>302| 317=>351| 318=>352| 319=>353| 320=>354| 337=>359| 338=>360| n=>n,fun| 3=>3| 9=>9| 2=>2| 4=>4| 171=>419| 0=>0| 53=>406| 37=>142| 5=>5| 173=>421| 212=>439| 51=>404| 20=>20| 213=>440| 46=>355| 232=>453| 233=>454| n=>n,fun| 17=>0| 18=>4| 19=>5| n=>n⟩
def Tryz.Yv:Go.Proofs.LaysM.n171 Tryz.prog Tryz.Yu:=by repeat' first|kernel_rfl|(intro;kernel_rfl)|constructor
def Tryz.Yw:Go.Shelf.Ren:=⟨fun| 172=>257| 244=>310| 245=>311| 247=>343| 279=>344| 280=>345| 281=>346| 282=>347| 287=>356| 316=>357| 171=>124| 205=>358| 321=>361| 322=>362| 243=>216| 246=>263| 283=>319| 284=>320| 285=>321| 286=>322| 129=>302| 317=>351| 318=>352| 319=>353| 320=>354| 337=>359| 338=>360| n=>n,fun| 9=>9| 3=>3| 75=>258| 76=>259| 4=>4| 5=>5| 167=>431| 37=>142| 0=>0| 85=>432| 2=>2| 168=>434| 53=>406| 175=>444| 46=>355| 210=>447| 127=>262| 145=>452| 143=>450| 21=>21| 171=>419| 173=>421| 212=>439| 51=>404| 20=>20| 213=>440| 232=>453| 233=>454| 80=>102| n=>n,fun| 15=>1| 16=>2| 17=>0| 18=>4| 19=>5| n=>n⟩
def Tryz.Jo:Go.Proofs.LaysC.n172 Tryz.prog Tryz.Yw:=by repeat' first|kernel_rfl|(intro;kernel_rfl)|constructor
end Go.Proofs
end
section
namespace Go.Proofs.YtgeahfjicmlocaaGreatDoor
open Go.Bw Go.Proofs.Tryz
open Go.Proofs
def Qa (n:Z) (u:ab):(((((n:ab)==0)||decide (8<(n:ab)))||decide (u<97))||decide (122<u)) = !((decide (1<=n)&&decide (n<=8))&&oZ u):=by rw [lK];simp [oZ];omega
variable {be:I a7} {ae:Z}
def BY (h:ae<be.length):be[ae]? = aa (be[ae]?.getD 0):=by rw [dh h];rfl
variable {Fe:a7->aQ}
def afP (h:ae<be.length) (a:Fe (be[ae]?.getD 0)=au):be.all Fe=au:=by rw [yv];exact ⟨_,dJ<|BY h,by simp [a]⟩
def Yy (h:∀i,i<be.length->Fe (be[i]?.getD 0)=ac):be.all Fe=ac:=by rw [gw];intro x a;obtain ⟨i,hi⟩:=ls a;have:=h i (c_.1 hi).1;rw [hi] at this;exact this
def Qb (u:a7):∀s:I a7,decide (0<=Lib.indexByte s u)=s.contains u
 | []=>rfl
 | b::l=>by
  have c:=Qb u l;have f:=Lib.indexByte_ge l u;unfold Lib.indexByte;by_cases a:b=u;·subst a;simp
  ·have d:(b==u)=au:=by simpa using a
   have e:(u==b)=au:=by simpa using λh=>a h.symm
   rw [ao (by simp [d]),I.contains_cons,e,yu,<-c];split;·rename_i h;simp at h;simp [h]
   ·rename_i h;simp at h;rw [lK];simp;omega
def toNat_inj {u v:a7} (h:(u.toNat:ab)=(v.toNat:ab)):u=v:=K0.1 aj
def kD:prog.underlying 3=some (.int .i64):=ah
def Qc:prog.underlying 5=some (.int .u8):=ah
def Qd (u:ab) (w:aL) : cr aB 204 #[an .u8 u] w λe a=>e = ax (bV<|oZ u||A2 u)/\Ext w a:=by
 refine enter func204 O 17 O O ?_;refine CE (Vs:=[]) (Ws.init aG)<|ai<|ar O<|ag<|ai<|ad O<|V0 (hE O O)<|ad O ?_;apply La 2 O O O O Y O O O O O;·intro c;refine Vg (Ym O)<|Vg (kM O O) ?_;exact Gt 2 O O O
 refine ad O ?_;apply Lo 6 O O O O Y O O O O O
 ·intro d;refine Vg (Ym O)<|Vg (hE O O)<|Vg (Ym O) ?_;apply La 2 O O O O (.g O O O) O O O O O;·intro f;refine Vg (Ym O)<|Vg (kM O O) ?_;exact Gt 2 O O O
  exact Gt 4 O O O
 refine ar O<|ag<|bq ?_;refine R1 O O λa b=>?_;exact ⟨O,b.fr⟩
def rG (s:I a7) (w:aL) : cr aB 128 #[st s] w λe c=>e = ax (bV<|gm s)/\Ext w c:=by
 refine enter func128 O 33 O O ?_;refine CE (Vs:=[]) (Ws.init aG)<|ai<|ar O<|ag<|Cs<|ai<|ad O<|V0 (yH ah O)<|V0 (bN O O)<|ad O ?_;apply Lo 3 O O O O Y O O O O O;·intro v;refine Vg (Ym O)<|Vg (yH ah O)<|Vg (ek O O) ?_;exact Gt 3 O O O
 refine ad O ?_;apply Lo 3 O O O O Y O O O O O
 ·intro q;have d:0<s.length:=by
   rcases Gu s.length with h | h;·simp [h] at q
   ·exact h
  have l:=BY d;refine Vg (Ym O)<|Vg (yI ah O O mW)<|Vg (cP O O) ?_;exact Gt 3 O O O
 refine ad O ?_;apply Lo 3 O O O O Y O O O O O
 ·intro r;have d:0<s.length:=by
   rcases Gu s.length with h | h;·simp [h] at r
   ·exact h
  have l:=BY d;refine Vg (Ym O)<|Vg (yI ah O O l)<|Vg (ek O O) ?_;exact Gt 3 O O O
 refine ag ?_;refine Cc O (λa=>?_)<|λa=>?_
 ·rw [Qa] at a;have t:gm s=au:=by unfold gm;simp only [C'] at a;rw [a];rfl
  refine ai<|ar O<|ag<|bq<|Er ?_;refine R1 O O λc b=>?_;exact ⟨by rw [t],b.fr⟩
 rw [Qa] at a;have m:((decide (1<=s.length)&&decide (s.length<=8))&&oZ ((s[0]?.getD 0).toNat))=ac:=by simpa using a
 have x:s.length<=8:=by simp at m;omega
 refine bO<|Cs<|ai<|ad O<|V0 (yH ah O)<|ad O<|ag<|Cb ?_;refine dg (ι:=Z) (λi=>[(24,an am (i:ab))]) [(0,_),(23,_)] (λi=>i<=s.length/\∀j,j<i->lS (s[j]?.getD 0)=ac) (λi=>s.length-i) 0 ⟨de _,aG⟩ ?_;intro i ⟨hi,n⟩;refine ai<|V0 (cP O O)<|ag<|Cs ?_;refine Cc O (λf=>?_)<|λf=>?_
 ·have o:i<s.length:=by simpa using f
  have u:=BY o;refine bO<|Cs<|Cb<|ai<|ad O<|ar O<|ag<|ai<|ad O<|ad O<|V0 (yI ah O O u)<|Lp Y O bf O (λw b=>Qd _ w) ?_;refine V0 (hV O)<|ag ?_;refine Cc O (λg=>?_)<|λg=>?_
  ·have k:lS (s[i]?.getD 0)=au:=by unfold lS;revert g;cases oZ _<;>cases A2 _<;>simp
   refine ai<|ar O<|ag<|bq<|cZ<|Er<|Er<|cZ<|Er ?_;refine R1 O O λc b=>?_;exact ⟨by unfold gm;rw [afP o k];simp,b.fr⟩
  have k:lS (s[i]?.getD 0)=ac:=by unfold lS;revert g;cases oZ _<;>cases A2 _<;>simp
  refine Ck<|Eb<|Et<|Cr<|V0 (Yi O O O aj)<|ad O<|Ln ?_;exact cU (i+1) aj ⟨aj,λj p=>by rcases dd.1 p with h | rfl;exact n j h;exact k⟩ aR
 have y:¬i<s.length:=by simpa using f
 refine Ce<|Ex<|Ex<|dy<|Et<|ai<|ar O<|ag<|bq ?_;refine R1 O O λc b=>?_;exact ⟨by unfold gm;rw [Yy λj p=>n j aj,m];rfl,b.fr⟩
def Yz (s:I a7) (u:a7) (w:aL):cr aB 258 #[st s,an .u8 (u.toNat:ab)] w λe a=>e = ax (an am<|Lib.indexByte s u)/\Ext w a:= (Any.strings_IndexByte Go.Proofs.Tryz.Yt ⟨s.toArray⟩ (u.toNat:ab) w).mono λe a h=>by obtain ⟨b,c⟩:=h;subst c;have d:((u.toNat:ab)).toNat.toUInt8=u:=aG;rw [d] at b;exact ⟨b,Fr.refl _ _⟩
def YA (u:a7) (w:aL) : cr aB 206 #[an .u8 (u.toNat:ab)] w λe a=>e = ax (bV<|o0 u)/\Ext w a:=by refine enter func206 O 6 O O ?_;refine CE (Vs:=[]) (Ws.init aG)<|ai<|ar O<|ag<|ai<|ad O<|Lp Y O bf O (λw b=>Yz uz u w)<|V0 (hE O O)<|ar O ?_;refine ag<|bq ?_;refine R1 O O λa b=>?_;exact ⟨by rw [Qb];rfl,b.fr⟩
variable {bW:Type} {uO:bW->aQ} {cg:I bW} {hg:bW}
def any_true (a:cg[ae]? = aa hg) (h:uO hg=ac):cg.any uO=ac:=s8.2 ⟨hg,dJ a,h⟩
def any_false (h:∀(j:Z) (x:bW),cg[j]? = aa x->uO x=au):cg.any uO=au:=by rw [wV];intro x a;obtain ⟨j,b⟩:=ls a;simp [h j x b]
def jl (h:cg[ae]? = aa hg):cg.take (ae+1)=cg.take ae++[hg]:=by rw [hP,h];rfl
def BZ:cX aB 234 0=aa 0:=ah
def Qe:cX aB 234 1=aa 1:=ah
def Jp:cX aB 234 2=aa 2:=ah
def rH:g1 aB 222=aa 3:=ah
def i1:iC aB 234=aa 3:=ah
def po (s:I a7):ab:=match p' s with| .ok v=>v| .range=>Lib.atoiSat s| _=>0
def qI (s:I a7):aQ:=match p' s with| .ok _=>ac| _=>au
def YB (s:I a7) : -9223372036854775808<=po s/\po s<=9223372036854775807:=by unfold po;cases h:p' s with| ok v=>exact Lib.atoiAll_bounds h| range=>exact Lib.atoiSat_bounds s| _=>simp
def YC (h:gm be=au):o1 be=(⟨2,po be,[]⟩,((qI be&&decide (0<=po be))&&decide (po be<=1099511627775))&&(hO (po be)==be)):=by rw [o1,ao (by simp [h])];unfold po qI;cases p' be<;>simp
variable {q0:I Tok}
def Qf {t:I a7} (h:iE be=(iE t).map (q0++·)) (a:iE t=ak):¬4096<be.length->g4 be=([],1):=λb=>by rw [g4,ao b,h,a];rfl
def YD (h:iE be=(iE []).map (q0++·)):¬4096<be.length->g4 be=(q0,0):=λa=>by rw [g4,ao a,h];simp [A4]
variable {jp:Tok}
def Qg {o:az<|I Tok}  :(o.map (jp::·)).map (q0++·)=o.map ((q0++[jp])++·):=by cases o<;>simp
def B0:hy aB 234=aa [(0,1),(1,1),(2,1)]:=ah
def sM:zeroOf aB 234=aa (bU #[an am 0,an am 0,st []]):=ah
def oC:hW aB 222 234 (bU #[an am 0,an am 0,st []]) 3 32:=jD ah
abbrev Laid (H:View):Prop:=G4 aB 0 1 2 H
def Qh : bg := (Rows.restModulesRow.laid.map (·.1)).getD 2 ""
def Jq:aB.globalNamed Qh=aa 0:=ah
def zY (b:View) (n:ab) (d : -9223372036854775808<=n) (a:n<=9223372036854775807) (w:aL) (f:Le b w) (g:Laid b) : cr aB 124 #[an am n] w λe c=>e = ax (st<|hO n)/\Ext w c:= (Any.strconv_Itoa Go.Proofs.Tryz.Yv n d a w<|g.A1 f Jq).mono λe c h=>by obtain ⟨a,k,os,rfl⟩:=h;exact ⟨a,T9 w k os⟩
def Qi (j:View) (s:I a7) (m:s.length<=4096) (w:aL) (k:Le j w) (l:Laid j) : cr aB 257 #[st s] w λe d=>∃r:aT,e = ax (cN #[an am (po s),r])/\Ext w d/\yV r (qI s):=by
 have f:(ByteArray.mk s.toArray).size=s.length:=Dw s;cases h:p' s with
 | ok v=>
  refine (Any.strconv_Atoi_ok Go.Proofs.Tryz.Jo ⟨s.toArray⟩ (by rw [f];omega) v h w).mono λe d a=>?_;obtain ⟨b,c⟩:=a;refine ⟨.nilIface,by simp only [po,h];exact b,?_,by simp [yV,qI,h]⟩;rcases c with rfl | ⟨t,rfl⟩;·exact Fr.refl _ _
  ·exact Ext.GC<|Lib.bytesWorld_below _ _ _| range=>obtain ⟨g,hv,i⟩:=l.T7;refine (Any.strconv_Atoi_range Go.Proofs.Tryz.Jo ⟨s.toArray⟩ (by rw [f];omega) h g w (k.cell hv) i).mono λe d a=>?_;obtain ⟨N,b,_,_,c⟩:=a;exact ⟨_,by simp only [po,h];exact b,Ext.GC c,by simp [yV,qI,h]⟩| _=>obtain ⟨g,hv,i⟩:=l.T6;refine (Any.strconv_Atoi_syntax Go.Proofs.Tryz.Jo ⟨s.toArray⟩ (by rw [f];omega) h g w (k.cell hv) i).mono λe d a=>?_;obtain ⟨N,b,_,_,c⟩:=a;exact ⟨_,by simp only [po,h];exact b,Ext.GC c,by simp [yV,qI,h]⟩
def Qj:aB.underlying 258=aa (.interface<|aB.methodsAt 258):=ah
def lY:eP aB 234=aa 3:=ah
def YE (b:View) (s:I a7) (j:s.length<=4096) (w:aL) (k:Le b w) (h:Laid b) : cr aB 205 #[st s] w λe c=>e = ax (cN #[bU #[an am (o1 s).1.kind,an am (o1 s).1.n,st (o1 s).1.text],bV (o1 s).2])/\Ext w c:=by
 refine enter func205 O 33 O O ?_;refine CE (Vs:=[b]) (Ws.init (by simp [k]))<|ai ?_;refine Al Y O sM λm=>?_;refine ar O<|ag<|Cs<|ai<|ad O<|Lp Y O bf O (λw a=>rG _ w)<|ag ?_;refine Cc O (λd=>?_)<|λd=>?_
 ·have f:o1 s=(⟨1,0,s⟩,ac):=by rw [o1,aU d]
  refine ai<|ad O<|V0 (Yb sM B0 O O)<|aq 0 Y O O O lY O O O<|ar O<|ag<|bq<|Er ?_;refine WE.td 0 O O O O i1 O λc a=>?_;rw [f];exact ⟨O,a.fr⟩
 have f:=YC d;have i:=YB s;refine bO<|ai<|ad O ?_;refine Ld Y O bf O (λr:aT=>cN #[an am (po s),r]) (λ_ r=>yV r<|qI s) (λw a=>Qi b s j w a.V h) ?_;intro o p q l;refine ad O<|V0 (Yx O O)<|V0 (Yx O O)<|ar O<|ar O<|ag<|ai<|ad O<|V0 (Yb sM B0 O O) ?_;refine ad O<|V0 (L4 (qI s) Qj O l)<|ad O ?_;apply La 2 O O O O Y O O O O O;·intro t;refine Vg (Ym O)<|Vg (hE O O) ?_;exact Gt 2 O O O
 refine ad O ?_;apply La 2 O O O O Y O O O O O;·intro u;refine Vg (Ym O)<|Vg (kM O O) ?_;exact Gt 2 O O O
 refine ad O ?_;apply La 4 O O O O Y O O O O O;·intro v;refine Vg (Ym O)<|Lp (.g O O O) O bf O (λw a=>zY b _ i.1 i.2 w a.V h)<|Vg (Ym O)<|Vg (AI O O) ?_;exact Gt 4 O O O
 refine aq 0 Y O O O lY O O O<|ar O<|ag<|bq ?_;refine WE.td 0 O O O O i1 O λc a=>?_;rw [f];exact ⟨O,a.fr⟩
def YF (l:View) (s:I a7) (w:aL) (D:Le l w) (E:Laid l) :
   cr aB 120 #[st s] w λe f=>∃r:az a0×Z,e = ax (cN #[aC r.1 (g4 s).1.length r.2,an am (g4 s).2])/\Ext w f/\Sl aZ 3 (nv w f) r.1 r.2 (g4 s).1:=by
 refine enter func120 O 66 O O ?_;refine CE (Vs:=[l]) (Ws.init (by simp [D]))<|ai<|ar O<|ar O<|ag<|Cs<|ai<|ad O<|V0 (yH ah O)<|V0 (ek O O) ?_;refine ag ?_;refine Cc O (λq=>?_)<|λq=>?_
 ·have m:4096<s.length:=by simp at q;omega
  have c:g4 s=([],2):=by rw [g4,aU m]
  refine ai<|ar O<|ar O<|ag<|bq<|Er ?_;refine WE.gt (hG O (ja O)<|ja O) λf a=>?_;rw [c];exact ⟨(ak,0),O,a.fr,Sl.nil⟩
 have m:¬4096<s.length:=by simp at q;omega
 refine bO<|ai<|ar O<|LW (λ_ h=>h.bJ 234 3)<|ag<|Cs<|Cb ?_;refine dZ (ι:=I a7×I Tok×az a0×Z) (λg=>[(0,st g.1),(4,aC g.2.2.1 g.2.1.length g.2.2.2)]) [] (λg=>Ws w [] [cO 234 3 Tok.cells g.2.2.1 g.2.2.2<|g.2.1] [l]) (λg=>g.2.1.length+g.1.length<=s.length/\iE s=(iE g.1).map (g.2.1++·)) (λg=>g.1.length) (s,[],ak,0) ⟨aG,aG⟩ aR ?_;intro g ⟨S,d⟩;refine Cs<|ai<|ad O<|V0 (AJ O O)<|ag ?_;refine Cc O (λo=>?_)<|λo=>?_
 ·obtain ⟨u,r,b⟩:∃u r,g.1=u::r:=by cases A:g.1 with| nil=>rw [A] at o;simp at o| cons u r=>exact ⟨u,r,rfl⟩
  have T:g.1.length=r.length+1:=by rw [b];rfl
  refine bO<|Cb<|ai<|ar O<|ag<|Cs<|Cb ?_;refine dg (ι:=Z) (λi=>[(5,an am (i:ab))]) [(0,_),(4,_)] (λi=>i<=g.1.length/\∀j,j<i->lS (g.1[j]?.getD 0)=ac) (λi=>g.1.length-i) 0 ⟨de _,aG⟩ ?_;intro i ⟨hi,B⟩;refine Cs<|ai<|ad O<|ad O<|V0 (yH ah O)<|V0 (cP O O)<|ad O ?_;apply La 4 O O O O Y O O O O O
  ·intro F;have C:i<g.1.length:=by simpa using F
   have G:=BY C;refine Vg (Ym O)<|Vg (Ym O)<|Vg (yI ah O O G)<|Lp (.g O O O) O bf O (λw a=>Qd _ w) ?_;exact Gt 4 O O O
  refine ag ?_;refine Cc O (λk=>?_)<|λk=>?_
  ·have C:i<g.1.length:=by simp only [eW,mb] at k;omega
   have H:lS (g.1[i]?.getD 0)=ac:=by simp only [eW] at k;exact k.2
   refine bO<|Cb<|Cr<|ad O<|V0 (Yi O O O aj)<|ar O<|Ln<|Eb ?_;exact cU (i+1) aj ⟨aj,λj J=>by rcases dd.1 J with h | rfl;exact B j h;exact H⟩ aR
  have t:hH g.1=i:=by
   refine G9 _ _ hi B ?_;rcases m2 i g.1.length with h | h;·right;rw [kL (by omega:((i:Z):ab)<(g.1.length:ab)),wU] at k;exact k
   ·left;omega
  have K:g.1[0]? = aa u:=by rw [b];rfl
  refine Ce<|Ex<|Ex<|dy<|Et<|Cs<|ai<|ad O<|V0 (yI ah O O (i:=0) K)<|ar O<|ag<|Cb<|ai<|ad O<|V0 (ek O O) ?_;refine ar O<|ag ?_;refine Cc O (λv=>?_)<|λv=>?_
  ·have U:0<i:=by simp at v;omega
   refine ai<|ad O<|ad O<|V0 (JW underlying9 O O aj aj) ?_;rw [m4];refine Lp Y O bf O (λw a=>YE l _ (by simp;omega) w a.V E)<|ad O<|V0 (Yx O O)<|V0 (Yx O O) ?_;refine Al Y O sM λW=>?_;refine aq 0 Y O O O lY O O O<|ar O<|ag<|Cs<|ai<|ad O<|V0 (hV O)<|ag ?_;refine Cc O (λx=>?_)<|λx=>?_;·have c:g4 s=([],1):=Qf d (by rw [xe aj,t,Mf,ao (by simpa using x)]) m;refine ai<|ar O<|ar O<|ag<|bq<|Er<|cZ<|Er<|cZ<|Er<|cZ<|Er ?_;refine WE.gt (hG O (ja O)<|ja O) λf a=>?_;rw [c];exact ⟨(ak,0),O,a.fr,Sl.nil⟩
   have L:r_ (g.1.take i)=aa ((o1<|g.1.take i).1):=by rw [Mf,aU (by simpa using x)]
   refine bO<|ai<|ad O<|V0 (dv 0 O O i1 O) ?_;refine Lb Y O oC O O O O λX=>?_;refine dK 0 (aM (Tok.cells<|(o1<|g.1.take i).1).toArray 234 (0,0)) O O ?_;refine LA ((o1<|g.1.take i).1) 2 0 Y O oC O O O O O O aj aj λM N=>?_;refine ar O<|ag<|ai<|ad O<|ad O<|V0 (D2 underlying9 O O aj aj) ?_;rw [m4];refine ar O<|ag<|Ce<|AH O<|Ex<|dy ?_;exact cU ((g.1.drop i,g.2.1++[(o1<|g.1.take i).1],M,N):I a7×I Tok×az a0×Z) (by dsimp only;simp;omega) ⟨by dsimp only;simp;omega,by dsimp only;rw [d,xe aj,t,L];simp only;rw [Qg]⟩<|λ_ h=>Wd 2 h
  have y:hH (u::r)=0:=by rw [<-b,t];simp at v;omega
  refine ai<|ad O<|Lp Y O bf O (λw a=>YA _ w)<|ar O<|ag ?_;refine Cc O (λp=>?_)<|λp=>?_;·refine Cr<|ad O<|ad O<|V0 (JW underlying9 O O aj aj) ?_;rw [show g.1.take (1:ab).toNat=[u] by rw [b];rfl];refine V0 (Yb sM B0 O O) ?_;refine Lb Y O oC O O O O λae=>?_;refine dK 0 (aM (Tok.cells<|Tok.mk 3 0 [u]).toArray 234 (0,0)) O O ?_;refine LA (Tok.mk 3 0 [u]) 1 0 Y O oC O O O O O O aj aj λP Q=>?_;refine ar O<|Ln<|Eb<|Et<|Cr<|ad O<|V0 (D2 underlying9 O O aj aj) ?_;rw [show g.1.drop (1:ab).toNat=r by rw [b];rfl];refine ar O<|Ln<|Eb ?_;exact cU ((r,g.2.1++[Tok.mk 3 0 [u]],P,Q):I a7×I Tok×az a0×Z) (by dsimp only;omega) ⟨by dsimp only;simp;omega,by dsimp only;rw [d,b,A5 y (by simpa using p),Qg]⟩<|λ_ h=>Wd 1 h
  refine ai<|ad O<|V0 (g2 O O)<|ad O ?_;apply La 2 O O O O Y O O O O O;·intro A;refine Vg (Ym O)<|Vg (g2 O O) ?_;exact Gt 2 O O O
  refine ar O<|ag ?_;refine Cc O (λn=>?_)<|λn=>?_
  ·have z:¬(u=32\/u=10):=by rintro (h | h)<;>rw [h] at n<;>simp at n
   have c:g4 s=([],1):=Qf d (by rw [b,DP y (by simpa using p) z]) m;refine ai<|ar O<|ar O<|ag<|bq<|cZ<|Er<|cZ<|Er<|cZ<|Er ?_;refine WE.gt (hG O (ja O)<|ja O) λf a=>?_;rw [c];exact ⟨(ak,0),O,a.fr,Sl.nil⟩
  have z:u=32\/u=10:=by
   simp only [bne,aQ.and_eq_false_iff,aQ.not_eq_false',j8] at n;rcases n with h | h;·left;exact toNat_inj (by simpa using h)
   ·right;exact toNat_inj (by simpa using h)
  refine Ck<|Eb<|Et<|Cr<|ad O<|V0 (D2 underlying9 O O aj aj) ?_;rw [show g.1.drop (1:ab).toNat=r by rw [b];rfl];refine ar O<|Ln<|Eb ?_;exact cU ((r,g.2.1,g.2.2.1,g.2.2.2):I a7×I Tok×az a0×Z) (by dsimp only;omega) ⟨by dsimp only;omega,by dsimp only;rw [d,b,A6 y (by simpa using p) z]⟩ aR
 have R:g.1=[]:=by simpa using o
 have c:g4 s=(g.2.1,0):=by rw [R] at d;exact YD d m
 refine Ce<|Ex<|Ex<|dy<|Et<|ai<|ad O<|ar O<|ar O<|ag<|bq ?_;refine WE.gt (hG O (ja O)<|ja O) λf a=>?_;rw [c];exact ⟨(g.2.2.1,g.2.2.2),O,a.fr,a.jF 0 O Tok.dA fp⟩
abbrev kI:ab->aT:=λn:ab=>aT.int am n
def vS (r:aQ) (a:ab):aT:=bU #[bV r,an am a]
def nr (n:Z):I<|fe ab:=[(1,vS au 0,0),(2,vS au 0,1),(3,vS ac 0,2),(4,vS ac 1,3),(5,vS ac<|-1,4),(6,vS au 1,5)]++(kJ n).map λj=>(((7+j:Z):ab),vS au 2,6+j)
def p0:I<|fe ab:=[(1,vS ac 1,0),(2,vS ac 2,1),(3,vS ac<|-1,2),(4,vS au 1,3),(5,vS au 1,4),(6,vS au 1,5),(7,vS au 1,6)]
def YG (n:Z) (h:n<9):dH kI (bB ((7+n:Z):ab) (vS au 2) (nr n)<|6+n) (jG ((7+n:Z):ab) (nr n)<|6+n)=dH kI (nr<|n+1) (6+(n+1)):=by match n,h with| 0,_=>rfl| 1,_=>rfl| 2,_=>rfl| 3,_=>rfl| 4,_=>rfl| 5,_=>rfl| 6,_=>rfl| 7,_=>rfl| 8,_=>rfl
def Qk (op:ab):hj op (nr 9) (vS au 0)=vS ((hz op).getD (au,0)).1 ((hz op).getD (au,0)).2/\qj op (nr 9) = !(hz op).isNone:=by
 by_cases e:op=1;·subst e;exact ⟨rfl,rfl⟩
 by_cases f:op=2;·subst f;exact ⟨rfl,rfl⟩
 by_cases a:op=3;·subst a;exact ⟨rfl,rfl⟩
 by_cases b:op=4;·subst b;exact ⟨rfl,rfl⟩
 by_cases c:op=5;·subst c;exact ⟨rfl,rfl⟩
 by_cases d:op=6;·subst d;exact ⟨rfl,rfl⟩
 by_cases g:op=7;·subst g;exact ⟨rfl,rfl⟩
 by_cases h:op=8;·subst h;exact ⟨rfl,rfl⟩
 by_cases i:op=9;·subst i;exact ⟨rfl,rfl⟩
 by_cases j:op=10;·subst j;exact ⟨rfl,rfl⟩
 by_cases k:op=11;·subst k;exact ⟨rfl,rfl⟩
 by_cases l:op=12;·subst l;exact ⟨rfl,rfl⟩
 by_cases m:op=13;·subst m;exact ⟨rfl,rfl⟩
 by_cases n:op=14;·subst n;exact ⟨rfl,rfl⟩
 by_cases o:op=15;·subst o;exact ⟨rfl,rfl⟩
 have p:hz op=ak:=by unfold hz;rw [ao aj,ao a,ao b,ao c,ao d,ao aj]
 have q:dU op (nr 9) 0=ak:=by show dU op [(1,vS au 0,0),(2,vS au 0,1),(3,vS ac 0,2),(4,vS ac 1,3),(5,vS ac<|-1,4),(6,vS au 1,5),(7,vS au 2,6),(8,vS au 2,7),(9,vS au 2,8),(10,vS au 2,9),(11,vS au 2,10),(12,vS au 2,11),(13,vS au 2,12),(14,vS au 2,13),(15,vS au 2,14)] 0=ak;simp [dU,e,f,a,b,c,d,g,h,i,j,k,l,m,n,o]
 rw [hj,qj,q,p];exact ⟨O,O⟩
def Ql (op:ab):hj op p0 (vS au 0)=vS ((f_ op).getD (au,0)).1 ((f_ op).getD (au,0)).2/\qj op p0 = !(f_ op).isNone:=by
 by_cases a:op=1;·subst a;exact ⟨rfl,rfl⟩
 by_cases b:op=2;·subst b;exact ⟨rfl,rfl⟩
 by_cases c:op=3;·subst c;exact ⟨rfl,rfl⟩
 by_cases d:op=4;·subst d;exact ⟨rfl,rfl⟩
 by_cases e:op=5;·subst e;exact ⟨rfl,rfl⟩
 by_cases f:op=6;·subst f;exact ⟨rfl,rfl⟩
 by_cases g:op=7;·subst g;exact ⟨rfl,rfl⟩
 have h:f_ op=ak:=by unfold f_;rw [ao a,ao b,ao c,ao aj]
 have i:dU op p0 0=ak:=by simp [p0,dU,a,b,c,d,e,f,g]
 rw [hj,qj,i,h];exact ⟨O,O⟩
def Qm:∀a b:I Tx,dj (a++b)=dj a+dj b| [],b=>by apply ci.ext'<;>simp [ci.xf,ci.xg,ci.xh,dj,c0]| x::a,b=>by rw [hx,show ∀q,dj (x::q)=hq (!gy x)+dj q from λ_=>rfl,Qm a b,show ∀q,dj (x::q)=hq (!gy x)+dj q from λ_=>rfl,ci.jY]
def YH (s:Tx):dj [s]=hq (!gy s):=rfl
variable {cI:I Tx} {bw:Tx}
def YI (h:cI[ae]? = aa bw):dj (cI.take<|ae+1)=dj (cI.take ae)+hq (!gy bw):=by rw [jl h,Qm,YH]
def zZ (c:ci):c+c0=c:=rfl
def YJ (c:ci):c.f<=c.cy:=by unfold ci.cy;omega
def YK (c:ci):c.m<=c.cy:=by unfold ci.cy;omega
def YL (c:ci):c.k<=c.cy:=by unfold ci.cy;omega
abbrev xR:Z->Z->I bc:=λ_ _=>[]
abbrev Qn:Z->Z->I bc:=λa b=>[aJ a<|dH kI (nr 9) 15,aJ b<|dH kI p0 7]
def jC (f:jU) (vs:I aT) (h:I View) (X:Z->Z->I bc) (i B:Z) (g:ci):Prop:=Enters aB f/\∀(d a b:Z) (c:ci) (w:aL),c.cy+i<=B->Ws w (d::(X a b).flatMap bc.ids) (aJ d (aM #[an am 0,an am ((c).f:ab),an am ((c).m:ab),an am 0,an am ((c).k:ab),an am 0,an am 0,an am 0,an am 0,an am 0,.map (aa a),.map (aa b)] 252 (0,0))::X a b) h w-> cr aB f (b0 (aa ⟨d,0,ak⟩)::vs).toArray w λe j=>e = ax (cN #[])/\Ws w (d::(X a b).flatMap bc.ids) (aJ d (aM #[an am 0,an am ((c+g).f:ab),an am ((c+g).m:ab),an am 0,an am ((c+g).k:ab),an am 0,an am 0,an am 0,an am 0,an am 0,.map (aa a),.map (aa b)] 252 (0,0))::X a b) h j
def iL {ops:Array Oper} {Q:Exit->Act->World->Prop} {n:Nat} {ds:List Deferred} {l:List<|Nat×Value} {p:World} {q:List Nat} {L L2:List bc} {Vs:List View} {rest:List Oper} {d:Nat} {ty:TypeId} {pos:String} {af:Array Edge} {g:Option<|Nat×Bool} {args:Array Operand} {ts:Array TypeId} {j a b:Nat} {c:ci} {f:FuncId} {vs:List Value} {o:List View} {X:Nat->Nat->List bc} {r B:Nat} {i:ci} (hC:jC f vs o X r B i) (s:WL prog ops Q n ds ((d,.tuple #[])::l) (Ws p q (aJ j (.cells #[.int .i64 0,.int .i64 ((c+i).f:Int),.int .i64 ((c+i).m:Int),.int .i64 0,.int .i64 ((c+i).k:Int),.int .i64 0,.int .i64 0,.int .i64 0,.int .i64 0,.int .i64 0,.map (some a),.map (some b)] 252 (0,0))::(X a b++L2)) Vs) rest) (t:hF l args.toList=some (.pointer (some ⟨j,0,none⟩)::vs):=by rfl) (hL:L=aJ j (.cells #[.int .i64 0,.int .i64 ((c).f:Int),.int .i64 ((c).m:Int),.int .i64 0,.int .i64 ((c).k:Int),.int .i64 0,.int .i64 0,.int .i64 0,.int .i64 0,.int .i64 0,.map (some a),.map (some b)] 252 (0,0))::(X a b++L2):=by rfl) (u:c.cy+r<=B:=by first|omega|(simp only [ci.fG,eL,fT];omega)) (v:∀H ∈ o,H ∈ Vs:=by simp) (x:eE ops l g:=by first|exact .inl rfl|exact .inr ⟨_,_,_,rfl,rfl,rfl⟩) (y:Nat.blt d n=true:=by rfl) : WL prog ops Q n ds l (Ws p q L Vs)<|⟨some d,.call ⟨.value<|.func f,args,ts⟩,ty,pos,af,g⟩::rest:= Lw (ι:=Unit) (aJ j (.cells #[.int .i64 0,.int .i64 ((c).f:Int),.int .i64 ((c).m:Int),.int .i64 0,.int .i64 ((c).k:Int),.int .i64 0,.int .i64 0,.int .i64 0,.int .i64 0,.int .i64 0,.map (some a),.map (some b)] 252 (0,0))::X a b) L2 x y hC.1 t hL (λ_=>.tuple #[]) (λ_=>aJ j (.cells #[.int .i64 0,.int .i64 ((c+i).f:Int),.int .i64 ((c+i).m:Int),.int .i64 0,.int .i64 ((c+i).k:Int),.int .i64 0,.int .i64 0,.int .i64 0,.int .i64 0,.int .i64 0,.map (some a),.map (some b)] 252 (0,0))::X a b) (λ_=>True) o v (λw z=>(hC.2 j a b c w u z).mono λe A h=>⟨(),h.1,trivial,h.2⟩)<|λ_ _=>s
def dI:hW aB 22 9 (st []) 1 16:=jD ah
def e4:g1 aB 22=aa 1:=ah
def p1:hy aB 343=aa [(0,1),(1,1)]:=ah
def cY:zeroOf aB 343=aa (bU #[bV au,an am 0]):=ah
def oE:aB.underlying 248=aa (.map 3 343):=ah
def mixed:aB.follows .mixedOrders=ac:=ah
def xS:cX aB 252 0=aa 0:=ah
def xT:xb aB 250=aa (10,1):=ah
def ei:eP aB 3=aa 1:=ah
def YM (w:aL) :
   cr aB 271 #[] w λe a=>∃r:az a0×Z,e = ax (aC r.1 gd.length r.2)/\Ext w a/\Sl rdStr 1 (nv w a) r.1 r.2 gd:=by refine enter func271 O 2 O O ?_;refine CE (Vs:=[]) (Ws.init aG)<|ai<|ar O<|ag<|ai ?_;refine Lb Y O dI O O O O λb=>?_;refine ar O<|ag<|bq ?_;refine WE.gt (j_ O<|ja O) λa c=>?_;exact ⟨(aa ⟨b,0,ak⟩,15),O,c.fr,⟨show gd.length<=15 by decide,show 15<=9223372036854775807 by decide,aG,λj x f=>⟨b,0,O,λk v d=>c.GJ 0 O (by have:k<1:=(c_.1 d).1;show (gd.flatMap fV)[0+j*1+k]? = aa v;rw [k0,oR pG f this];exact d)⟩⟩⟩
def YN (H:View) (a:az a0) (c:Z) (l:I Tx) (s:Tx) (w:aL) (r:Le H w) (d:Sl rdStr 1 H a c l) : cr aB 325 #[aC a l.length c,st s] w λe f=>(∃n:ab,e = ax (an am n)/\decide (0<=n)=l.contains s)/\Ext w f:=by
 have B:=d.cap;have C:=d.max;refine enter func325 O 19 O O ?_;refine CE (Vs:=[H]) (Ws.init (by simp [r]))<|ai<|ar O<|ag<|Cs<|ai<|ad O<|V0 (Yn e4 O)<|ad O<|ag<|Cb ?_;refine dg (ι:=Z) (λi=>[(8,an am (i:ab))]) [(0,_),(1,_),(7,_)] (λi=>i<=l.length/\∀j,j<i->l[j]?≠aa s) (λi=>l.length-i) 0 ⟨de _,aG⟩ ?_;intro i ⟨hi,q⟩;refine ai<|V0 (cP O O)<|ag<|Cs ?_;refine Cc O (λg=>?_)<|λg=>?_
 ·have t:i<l.length:=by simpa using g
  obtain ⟨x,k⟩:=dO t;obtain ⟨u,v,D,m⟩:=d.b7 i x k;have m:ct H u (v+i*1)<|fV x:=m;refine bO<|Cs<|Cb<|ai<|ad O<|ar O<|ag<|ai<|ad O<|ad O<|ad O<|V0 (Yo e4 O O mW aj) ?_;refine V0 (dQ 0 ah O O<|m 0 _ O)<|V0 (AI O O)<|ag ?_;refine Cc O (λo=>?_)<|λo=>?_
  ·have y:s=x:=by simpa using o
   refine ai<|ad O<|ar O<|ag<|bq<|cZ<|Er<|Er<|cZ<|Er ?_;refine R1 O O λf p=>?_;refine ⟨⟨_,O,?_⟩,p.fr⟩;rw [kL aj,C3.2 (by rw [y];exact dJ k)]
  have z:¬s=x:=by simpa using o
  refine Ck<|Eb<|Et<|Cr<|V0 (Yi O O O aj)<|ad O<|Ln ?_;exact cU (i+1) aj ⟨aj,λj b=>by rcases dd.1 b with h | rfl;exact q j h;rw [k];intro e;injection e with e;exact z e.symm⟩ aR
 have E:¬i<l.length:=by simpa using g
 have A:l.contains s=au:=by rw [ug];intro h;rw [C3] at h;obtain ⟨j,b⟩:=ls h;exact q j (by have:=(c_.1 b).1;omega) b
 refine Ce<|Ex<|Ex<|dy<|Et<|ai<|ar O<|ag<|bq ?_;refine R1 O O λf p=>?_;refine ⟨⟨_,O,?_⟩,p.fr⟩;rw [A];rfl
def YO (H:View) (a:az a0) (c:Z) (l:I Tx) (s:Tx) (w:aL) (f:Le H w) (g:Sl rdStr 1 H a c l) : cr aB 270 #[aC a l.length c,st s] w λe b=>e = ax (bV<|l.contains s)/\Ext w b:=by refine enter func270 O 9 O O ?_;refine CE (Vs:=[H]) (Ws.init (by simp [f]))<|ai<|ar O<|ag<|ai<|ad O<|ad O ?_;refine Ld Y O bf O (λn:ab=>an am n) (λ_ n=>decide (0<=n)=l.contains s) (λw d=>(YN H a c l s w d.V g).mono λe b h=>by obtain ⟨⟨n,i,j⟩,k⟩:=h;exact ⟨n,i,k,j⟩) ?_;intro o p q m;refine V0 (hE O O)<|ar O<|ag<|bq ?_;refine R1 O O λb d=>?_;exact ⟨by rw [m],d.fr⟩
def Ff (s:Tx) (w:aL) : cr aB 230 #[st s] w λe b=>e = ax (bV<|gy s)/\Ext w b:=by
 refine enter func230 O 11 O O ?_;refine CE (Vs:=[]) (Ws.init aG)<|ai<|ar O<|ag<|ai<|ad O<|Lp Y O bf O (λw a=>rG _ w)<|ad O ?_;apply La 4 O O O O Y O O O O O;·intro j;refine Ld (.g O O O) O bf O (λr:az a0×Z=>aC r.1 gd.length r.2) (λH r=>Sl rdStr 1 H r.1 r.2 gd) (λw a=>YM w) ?_;intro d c k f;refine Vg (Ym O)<|Lp (.g O O O) O bf O (λw a=>YO d c.1 c.2 gd s w a.V f)<|Vg (hV O) ?_;refine WL.wk ?_<|Gt 4 O O O;exact λ_ h=>Ws.dr h<|λ_ i=>cG [_] i
 refine ar O<|ag<|bq ?_;refine R1 O O λb a=>?_;exact ⟨O,a.fr⟩
def YP (w:aL) :
   cr aB 134 #[] w λe d=>∃b:Z,e = ax (.map<|aa b)/\Ws w [] [aJ b<|dH kI (nr 9) 15] [] d:=by
 refine enter func134 O 19 O O ?_;refine CE (Vs:=[]) (Ws.init aG)<|ai<|ar O<|ag<|ai ?_;refine WL.oX (λn:ab=>aT.int am n) Y O λa=>?_;refine V0 (Yb cY p1 O O) ?_;refine WL.oY 0 me Y oE kD O O O O ?_;refine V0 (Yb cY p1 O O) ?_;refine WL.oY 0 me Y oE kD O O O O ?_;refine V0 (Yb cY p1 O O) ?_;refine WL.oY 0 me Y oE kD O O O O ?_;refine V0 (Yb cY p1 O O) ?_;refine WL.oY 0 me Y oE kD O O O O ?_;refine V0 (Yb cY p1 O O) ?_;refine WL.oY 0 me Y oE kD O O O O ?_;refine V0 (Yb cY p1 O O) ?_;refine WL.oY 0 me Y oE kD O O O O ?_;refine ad O<|dK 0 (dH kI (nr 0)<|6+0) O O<|ar O<|ag<|Cs<|ai<|ar O<|ag<|Cb ?_;refine dZ (ι:=Z) (λi=>[(2,an am ((7+i:Z):ab))]) [(0,_),(1,_)] (λi=>Ws w [] [aJ a<|dH kI (nr i)<|6+i] []) (λi=>i<=9) (λi=>9-i) 0 (de _) aR ?_;intro i hi;refine Cs<|ai<|ad O<|V0 (kM O O)<|ag ?_;refine Cc O (λc=>?_)<|λc=>?_
 ·have f:i<9:=by simp at c;omega
  refine bO<|Cs<|Cb<|Cr<|ad O<|ad O<|V0 (Yb cY p1 O O) ?_;refine WL.ql 0 me Y oE kD O O O O ?_;refine Ln<|Eb<|Et<|Cr<|ad O<|V0 (Dx (((7+i:Z):ab)+1) O O O aj)<|ar O<|Ln ?_;rw [show (((7+i:Z):ab)+1)=((7+(i+1):Z):ab) by omega];exact cU (i+1) aj aj (λ_ h=>by have h:=Ws.oW h 0 rfl<|congrArg (aJ a)<|YG i f;exact h)
 have g:i=9:=by simp at c;omega
 subst g;refine Ce<|Ex<|Ex<|dy<|Et<|ai<|ad O<|ar O<|ag<|bq ?_;refine WE.gt (j_ O<|ja O) λd j=>?_;exact ⟨a,O,j⟩
def YQ (w:aL) : cr aB 135 #[] w λe a=>∃b:Z,e = ax (.map<|aa b)/\Ws w [] [aJ b<|dH kI p0 7] [] a:=by refine enter func135 O 10 O O ?_;refine CE (Vs:=[]) (Ws.init aG)<|ai<|ar O<|ag<|ai ?_;refine WL.oX (λn:ab=>aT.int am n) Y O λc=>?_;refine V0 (Yb cY p1 O O) ?_;refine WL.oY 0 me Y oE kD O O O O ?_;refine V0 (Yb cY p1 O O) ?_;refine WL.oY 0 me Y oE kD O O O O ?_;refine V0 (Yb cY p1 O O) ?_;refine WL.oY 0 me Y oE kD O O O O ?_;refine V0 (Yb cY p1 O O) ?_;refine WL.oY 0 me Y oE kD O O O O ?_;refine V0 (Yb cY p1 O O) ?_;refine WL.oY 0 me Y oE kD O O O O ?_;refine V0 (Yb cY p1 O O) ?_;refine WL.oY 0 me Y oE kD O O O O ?_;refine V0 (Yb cY p1 O O) ?_;refine WL.oY 0 me Y oE kD O O O O ?_;refine ad O<|ar O<|ag<|bq ?_;refine WE.gt (j_ O<|ja O) λa d=>?_;exact ⟨c,O,d⟩
def wl (b:aQ):jC 137 [bV b,an am 1] [] xR 0 4611686018427387904<|hq b:=by
 refine ⟨bf,λg j k c w l a=>?_⟩;have m:=YJ c;refine enter func137 O 17 O O ?_;refine CE a<|ai<|ad O<|ag ?_;refine Cc O (λe=>?_)<|λe=>?_;·subst e;refine WC.m6 0 [(0,ac),(1,ac),(2,ac),(3,ac),(4,ac),(7,ac),(8,ac),(5,au),(6,ac),(9,ac),(10,au)] mixed ah (λ_ _ _ d _ h=>by cases d<;>exact h) ?_;refine D0 O (Wp 0) (Ym O)<|D0 O (Wp 0) (Ym O)<|D0 O (Wp 0) (bP O)<|D0 O (Wp 0) (Yf xS O)<|D0 O (Wp 0) (xc (i:=1) xT O O a')<|D0 O (Wp 0) (bP O)<|D0 O (Wp 0) (Yf xS O) ?_;refine De O (Wp 0) ?_;refine V0 (Yd 0 O O O ah)<|Ln<|Ed<|D0 O (Wp 0) (Yi O O O aj)<|D0 O (Wp 0) (xc (i:=1) xT O O a') ?_;refine De O (Wp 0) ?_;refine aq 0 Y O O O ei O O O<|Ln<|Ed ?_;refine WD.nil (Wp 0) ?_;refine E0 O λf a=>?_;exact ⟨O,a⟩
 subst e;refine Ck ?_;refine E0 O λf a=>?_;exact ⟨O,a⟩
def z0 (b:aQ):jC 137 [bV b,an am 2] [] xR 0 4611686018427387904<|a9 b:=by
 refine ⟨bf,λg j k c w l a=>?_⟩;have m:=YK c;refine enter func137 O 17 O O ?_;refine CE a<|ai<|ad O<|ag ?_;refine Cc O (λe=>?_)<|λe=>?_;·subst e;refine WC.m6 0 [(0,ac),(1,ac),(2,ac),(3,ac),(4,ac),(7,ac),(8,ac),(5,au),(6,ac),(9,ac),(10,au)] mixed ah (λ_ _ _ d _ h=>by cases d<;>exact h) ?_;refine D0 O (Wp 0) (Ym O)<|D0 O (Wp 0) (Ym O)<|D0 O (Wp 0) (bP O)<|D0 O (Wp 0) (Yf xS O)<|D0 O (Wp 0) (xc (i:=2) xT O O a')<|D0 O (Wp 0) (bP O)<|D0 O (Wp 0) (Yf xS O) ?_;refine De O (Wp 0) ?_;refine V0 (Yd 0 O O O ah)<|Ln<|Ed<|D0 O (Wp 0) (Yi O O O aj)<|D0 O (Wp 0) (xc (i:=2) xT O O a') ?_;refine De O (Wp 0) ?_;refine aq 0 Y O O O ei O O O<|Ln<|Ed ?_;refine WD.nil (Wp 0) ?_;refine E0 O λf a=>?_;exact ⟨O,a⟩
 subst e;refine Ck ?_;refine E0 O λf a=>?_;exact ⟨O,a⟩
def Jr (b:aQ):jC 137 [bV b,an am 4] [] xR 0 4611686018427387904<|iF b:=by
 refine ⟨bf,λg j k c w l a=>?_⟩;have m:=YL c;refine enter func137 O 17 O O ?_;refine CE a<|ai<|ad O<|ag ?_;refine Cc O (λe=>?_)<|λe=>?_;·subst e;refine WC.m6 0 [(0,ac),(1,ac),(2,ac),(3,ac),(4,ac),(7,ac),(8,ac),(5,au),(6,ac),(9,ac),(10,au)] mixed ah (λ_ _ _ d _ h=>by cases d<;>exact h) ?_;refine D0 O (Wp 0) (Ym O)<|D0 O (Wp 0) (Ym O)<|D0 O (Wp 0) (bP O)<|D0 O (Wp 0) (Yf xS O)<|D0 O (Wp 0) (xc (i:=4) xT O O a')<|D0 O (Wp 0) (bP O)<|D0 O (Wp 0) (Yf xS O) ?_;refine De O (Wp 0) ?_;refine V0 (Yd 0 O O O ah)<|Ln<|Ed<|D0 O (Wp 0) (Yi O O O aj)<|D0 O (Wp 0) (xc (i:=4) xT O O a') ?_;refine De O (Wp 0) ?_;refine aq 0 Y O O O ei O O O<|Ln<|Ed ?_;refine WD.nil (Wp 0) ?_;refine E0 O λf a=>?_;exact ⟨O,a⟩
 subst e;refine Ck ?_;refine E0 O λf a=>?_;exact ⟨O,a⟩
def Js:∀l:I Tx,(dj l).cy<=l.length| []=>eC _| s::r=>by have:=Js r;have:=du<|!gy s;rw [show dj (s::r)=hq (!gy s)+dj r from rfl,ci.fG,eL];omega
def Jt (n:Z):decide ((3:ab)<(n:ab))=decide (3<n):=by rw [lK];simp;omega
def Qo (x:cu) (d:Z):ka x d=if 6<d then ⟨0,1,0⟩ else iF (hz x.op).isNone+ip ((hz x.op).getD (au,0)) x.mod x.nm x.args.length+hq (k3 x.op x.n)+fH x.args (d+1):=by cases x;rw [ka];rfl
def Qp (d:Z):∀a b:I cu,fH (a++b) d=fH a d+fH b d| [],b=>by apply ci.ext'<;>simp [ci.xf,ci.xg,ci.xh,fH,c0]| x::a,b=>by rw [hx,show ∀q,fH (x::q) d=ka x d+fH q d from λq=>by rw [fH],Qp d a b,show ∀q,fH (x::q) d=ka x d+fH q d from λq=>by rw [fH],ci.jY]
variable {dw:I cu} {aw:cu}
def Qq (d:Z) (h:dw[ae]? = aa aw):fH (dw.take<|ae+1) d=fH (dw.take ae) d+ka aw d:=by rw [jl h,Qp,show fH [aw] d=ka aw d+c0 by rw [fH,fH],zZ]
def Qr:∀(l:I cu) (i:Z),gF (l.take i)<=gF l| [],i=>by simp| x::r,0=>by simp [gF]| x::r,i+1=>by have:=Qr r i;simp only [qc,gF];omega
def Qs (h:dw[ae]? = aa aw):gF (dw.take ae)+wE aw<=gF dw:=by
 have c:=Qr dw<|ae+1;rw [jl h] at c;have:∀a b:I cu,gF (a++b)=gF a+gF b:=by intro a b;induction a with| nil=>simp [gF]| cons y a d=>simp only [hx,gF,d];omega
 rw [this] at c;simp only [gF] at c;omega
def Fg (x:cv) (d:Z):ih x d=iF (f_ x.op).isNone+ip ((f_ x.op).getD (au,0)) x.mod x.nm x.args.length+fH x.args 1+hq (n' x.op x.body.length x.other.length) + (if (inner x.op||decide (0<x.body.length))=ac then gz x.body (d+1) else c0)+(if 0<x.other.length then gz x.other (d+1) else c0):=by cases x;rw [ih];rfl
def Qt (d:Z):∀a b:I cv,e2 (a++b) d=e2 a d+e2 b d| [],b=>by apply ci.ext'<;>simp [ci.xf,ci.xg,ci.xh,e2,c0]| x::a,b=>by rw [hx,show ∀q,e2 (x::q) d=ih x d+e2 q d from λq=>by rw [e2],Qt d a b,show ∀q,e2 (x::q) d=ih x d+e2 q d from λq=>by rw [e2],ci.jY]
variable {c7:I cv} {cL:cv}
def Fh (d:Z) (h:c7[ae]? = aa cL):e2 (c7.take<|ae+1) d=e2 (c7.take ae) d+ih cL d:=by rw [jl h,Qt,show e2 [cL] d=ih cL d+c0 by rw [e2,e2],zZ]
def Qu:∀(l:I cv) (i:Z),fj (l.take i)<=fj l| [],i=>by simp| x::r,0=>by simp [fj]| x::r,i+1=>by have:=Qu r i;simp only [qc,fj];omega
def YR (h:c7[ae]? = aa cL):fj (c7.take ae)+wS cL<=fj c7:=by
 have c:=Qu c7<|ae+1;rw [jl h] at c;have:∀a b:I cv,fj (a++b)=fj a+fj b:=by intro a b;induction a with| nil=>simp [fj]| cons y a d=>simp only [hx,fj,d];omega
 rw [this] at c;simp only [fj] at c;omega
def wm:cX aB 109 1=aa 1:=ah
def xU:cX aB 109 0=aa 0:=ah
def sN:cX aB 109 3=aa 3:=ah
def Qv:cX aB 343 0=aa 0:=ah
def Qw:cX aB 343 1=aa 1:=ah
variable {bt:View} {b':az a0}
def z1 (b:Sl rdStr 1 bt b' ae cI):jC 136 [aC b' cI.length ae] [bt] xR cI.length 4611686018427387904<|dj cI:=by
 refine ⟨bf,λg j l c w s a=>?_⟩;have t:=b.cap;have u:=b.max;refine enter func136 O 18 O O ?_;refine CE a<|ai<|ad O<|V0 (Yn e4 O)<|ad O<|ag<|Cb ?_;refine dZ (ι:=Z) (λi=>[(8,an am (i:ab))]) [(0,_),(6,_),(7,_)] (λi=>Ws w [g] [aJ g<|aM #[an am 0,an am ((c+dj (cI.take i)).f:ab),an am ((c+dj (cI.take i)).m:ab),an am 0,an am ((c+dj (cI.take i)).k:ab),an am 0,an am 0,an am 0,an am 0,an am 0,.map (aa j),.map (aa l)] 252 (0,0)] [bt]) (λi=>i<=cI.length) (λi=>cI.length-i) 0 (de _) aR ?_;intro i hi;refine ai<|V0 (cP O O)<|ag<|Cs ?_;refine Cc O (λd=>?_)<|λd=>?_
 ·have n:i<cI.length:=by simpa using d
  obtain ⟨x,h⟩:=dO n;obtain ⟨o,p,v,e⟩:=b.b7 i x h;have e:ct bt o (p+i*1)<|fV x:=e;have q:c+dj (cI.take i)+hq (!gy x)=c+dj (cI.take<|i+1):=by rw [YI h,ci.jY]
  have y:(c+dj (cI.take i)).cy<=4611686018427387904:=by rw [ci.fG];have:=Js<|cI.take i;simp at this;omega
  refine bO<|Cs<|Cb<|ai<|V0 (Yo e4 O O mW aj)<|V0 (dQ 0 ah O O<|e 0 _ O)<|ar O<|ag<|Cr<|ad O<|ad O<|Lp Y O bf O (λw a=>Ff _ w) ?_;refine V0 (hV O) ?_;refine iL (wl<|!gy x) ?_;refine Ln<|Eb<|Et<|Cr<|V0 (Yi O O O aj)<|ad O<|Ln ?_;rw [q];exact cU (i+1) aj aj aR
 have z:¬i<cI.length:=by simpa using d
 have r:cI.take i=cI:=i' aj;rw [r];refine Ce<|Ex<|Ex<|dy ?_;refine E0 O λA a=>?_;exact ⟨O,a⟩
def YS (d:eQ):jC 138 [bU #[an am d.kind,st d.nm,bV d.cz,an am d.n]] [] xR 4 4611686018427387904<|jZ d:=by
 refine ⟨bf,λq r s c w e a=>?_⟩;have t:(c+dj [d.nm]).cy<=4611686018427387904:=by rw [ci.fG];have:=Js [d.nm];simp at this;omega
 refine enter func138 O 44 O O ?_;refine CE a<|ai ?_;refine WL.box Y O O λu=>?_;refine ag<|ai<|ad O<|V0 (Yf wm O)<|V0 (Yd 0 O O O ah) ?_;refine Lb Y O dI O O O O λv=>?_;refine aY (T:=9) (m:=1) 0 [d.nm] O O (show 1<=1 by decide) a' λx p=>?_;refine Lf 1 O ?_;refine iL (z1 p) ?_;refine ag<|ai<|V0 (Yf xU O)<|V0 (Yd 1 O O O ah)<|ag<|Cb<|ai<|V0 (bN O O)<|ar O<|ag ?_;refine Cc O (λi=>?_)<|λi=>?_
 ·have g:d.kind=1:=by simpa using i
  have f:∀b,(b=(decide (d.n<0)||decide (1099511627775<d.n)))->c+dj [d.nm]+hq b=c+jZ d:=λb e=>by rw [e,jZ,aU g,ci.jY]
  refine Cr<|ad O<|V0 (Yf sN O)<|V0 (Yd 1 O O O ah)<|V0 (cP O O)<|ad O ?_;apply Lo 3 O O O O Y O O O O O;·intro y;refine Vg (Yf sN O)<|Vg (Yd 1 O O O ah)<|Vg (ek O O) ?_;exact Gt 3 O O O
  refine iL (wl<|decide (d.n<0)||decide (1099511627775<d.n)) ?_;refine Ln<|Eb ?_;refine E0 O λj a=>?_;rw [f _ rfl] at a;exact ⟨O,Wv 1<|Wt 1 a⟩
 have g:¬d.kind=1:=by simpa using i
 refine ai<|V0 (bN O O)<|ar O<|ag ?_;refine Cc O (λk=>?_)<|λk=>?_
 ·have h:d.kind=2:=by simpa using k
  have f:∀b,(b=(!(d.n==0)))->c+dj [d.nm]+hq b=c+jZ d:=λb e=>by rw [e,jZ,ao g,aU h,ci.jY]
  refine Cr<|ad O<|V0 (Yf sN O)<|V0 (Yd 1 O O O ah)<|V0 (g2 O O) ?_;refine iL (wl<|!(d.n==0)) ?_;refine Ln<|Eb ?_;refine E0 O λj a=>?_;rw [f _ rfl] at a;exact ⟨O,Wv 1<|Wt 1 a⟩
 have h:¬d.kind=2:=by simpa using k
 refine ai<|V0 (bN O O)<|ar O<|ag ?_;refine Cc O (λl=>?_)<|λl=>?_
 ·have o:d.kind=3:=by simpa using l
  have f:∀b,(b=(decide (d.n<1)||decide (32<d.n)))->c+dj [d.nm]+hq b=c+jZ d:=λb e=>by rw [e,jZ,ao g,ao h,aU o,ci.jY]
  refine Cr<|ad O<|V0 (Yf sN O)<|V0 (Yd 1 O O O ah)<|V0 (cP O O)<|ad O ?_;apply Lo 3 O O O O Y O O O O O;·intro z;refine Vg (Yf sN O)<|Vg (Yd 1 O O O ah)<|Vg (ek O O) ?_;exact Gt 3 O O O
  refine iL (wl<|decide (d.n<1)||decide (32<d.n)) ?_;refine Ln<|Eb ?_;refine E0 O λj a=>?_;rw [f _ rfl] at a;exact ⟨O,Wv 1<|Wt 1 a⟩
 have o:¬d.kind=3:=by simpa using l
 have f:∀b,(b=ac)->c+dj [d.nm]+iF b=c+jZ d:=λb e=>by rw [e,jZ,ao g,ao h,ao o,ci.jY]
 refine Cr<|ad O ?_;refine iL (Jr<|ac) ?_;refine Ln<|Eb ?_;refine E0 O λj a=>?_;rw [f _ rfl] at a;exact ⟨O,Wv 1<|Wt 1 a⟩
def YT (r:aQ) (a:ab) (mod nm:Tx) (len:Z) (d:mod.length+nm.length<=9223372036854775807):jC 231 [bU #[bV r,an am a],st mod,st nm,an am (len:ab)] [] xR 4 4611686018427387904<|ip (r,a) mod nm len:=by
 refine ⟨bf,λf h i c w j b=>?_⟩;have k:(c+hq (jH r mod nm)).cy<=4611686018427387904:=by rw [ci.fG];have:=du<|jH r mod nm;omega
 have l:(c+hq (jH r mod nm)+hq (n9 a len)).cy<=4611686018427387904:=by rw [ci.fG,ci.fG];have:=du<|jH r mod nm;have:=du<|n9 a len;omega
 have e:c+hq (jH r mod nm)+hq (n9 a len)+a9 (decide<|3<len)=c+ip (r,a) mod nm len:=by rw [ip,ci.jY,ci.jY,ci.jY]
 refine enter func231 O 54 O O ?_;refine CE b<|ai ?_;refine WL.box Y O O λm=>?_;refine ag<|ai<|ad O<|V0 (Yf Qv O)<|V0 (Yd 0 O O O ah)<|ad O ?_;apply La 12 O O O O Y O O O O O
 ·intro n;refine Vg (Ym O)<|Vg (AJ O O)<|Vg (Ym O) ?_;apply La 3 O O O O (.g O O O) O O O O O;·intro o;refine Vg (Ym O)<|Lp (.g O O O) O bf O (λw b=>Ff _ w)<|Vg (hV O) ?_;exact Gt 3 O O O
  refine Vg (Ym O) ?_;apply Lo 3 O O O O (.g O O O) O O O O O;·intro p;refine Vg (Ym O)<|Lp (.g O O O) O bf O (λw b=>Ff _ w)<|Vg (hV O) ?_;exact Gt 3 O O O
  exact Gt 6 O O O
 refine ad O ?_;apply Lo 9 O O O O Y O O O O O
 ·intro q;refine Vg (Yf Qv O)<|Vg (Yd 0 O O O ah)<|Vg (hV O)<|Vg (Ym O) ?_;apply La 4 O O O O (.g O O O) O O O O O;·intro s;refine Vg (Ym O)<|Vg (Ym O)<|Vg (yG O O d)<|Vg (AJ O O) ?_;exact Gt 4 O O O
  exact Gt 5 O O O
 refine Lf 1 O ?_;refine iL (wl<|jH r mod nm) ?_;refine ag<|ai<|ad O<|V0 (Yf Qw O)<|V0 (Yd 1 O O O ah)<|V0 (hE O O)<|ad O ?_;apply La 4 O O O O Y O O O O O;·intro t;refine Vg (Ym O)<|Vg (Yf Qw O)<|Vg (Yd 1 O O O ah)<|Vg (g2 O O) ?_;exact Gt 4 O O O
 refine iL (wl<|n9 a len) ?_;refine ag<|Cr<|ad O<|ad O<|V0 (ek O O) ?_;rw [Jt];refine iL (z0<|decide<|3<len) ?_;refine Ln ?_;refine E0 O λu b=>?_;rw [e] at b;exact ⟨O,Wt 1 b⟩
def Qx (p:aQ×ab) (mod nm:Tx) {len:Z} (a:mod.length+nm.length<=9223372036854775807):jC 231 [bU #[bV p.1,an am p.2],st mod,st nm,an am (len:ab)] [] xR 4 4611686018427387904<|ip p mod nm len:=YT p.1 p.2 mod nm len a
def YU:cX aB 252 1=aa 10:=ah
def u6:cX aB 239 0=aa 0:=ah
def Qy:eP aB 343=aa 2:=ah
def Qz:iC aB 343=aa 2:=ah
def xV:cX aB 239 2=aa 2:=ah
def xW:cX aB 239 3=aa 3:=ah
def sO:cX aB 239 4=aa 4:=ah
def ll:g1 aB 237=aa 5:=ah
def B1:cX aB 239 1=aa 1:=ah
def iy:iC aB 239=aa 5:=ah
def pp:zeroOf aB 239=aa (bU #[an am 0,an am 0,st [],st [],aC ak 0 0]):=ah
def oF:eP aB 239=aa 5:=ah
def afT (k:Z)    (d:Z) (e:Sl (jI k) 5 bt b' ae aw.args):jC 232 [bU #[an am aw.op,an am aw.n,st aw.mod,st aw.nm,aC b' aw.args.length ae],an am (d:ab)] [bt] Qn (8*wE aw) 1152921504606846976<|ka aw d:=by
 induction k using c8 generalizing aw b' ae d;rename_i k u;refine ⟨bf,λs j l c w G a=>?_⟩;have H:=e.cap;have J:=e.max;have K:=Mp aw;have v:hj aw.op (nr 9) (bU #[bV au,an am 0]) = bU #[bV ((hz aw.op).getD (au,0)).1,an am ((hz aw.op).getD (au,0)).2]:=(Qk aw.op).1;have x:=(Qk aw.op).2;have L:=A7 (hz aw.op).isNone;have M:=DU ((hz aw.op).getD (au,0)) aw.mod aw.nm aw.args.length;have N:=du<|k3 aw.op aw.n;refine enter func232 O 76 O O ?_;refine CE a<|ai ?_;refine WL.box Y O O λP=>?_;refine ag<|Cs<|ai<|ad O<|V0 (ek O O)<|ag ?_;refine Cc O (λo=>?_)<|λo=>?_
 ·have p:6<d:=by simp at o;omega
  refine ai<|ad O<|Lf 1 O ?_;refine iL (z0<|ac) ?_;refine ag<|bq<|Er ?_;refine WE.ul O λz a=>?_;rw [show c+ka aw d=c+a9 ac by rw [Qo,aU p];rfl];exact ⟨O,by have h:=a;have h:=h.av 3 O;have h:=h.av 3 O;have h:=h.av 2 O;exact Wt 3 h⟩
 have p:¬6<d:=by simp at o;omega
 have A:c+ka aw d=c+iF (hz aw.op).isNone+ip ((hz aw.op).getD (au,0)) aw.mod aw.nm aw.args.length+hq (k3 aw.op aw.n)+fH aw.args (d+1):=by rw [Qo,ao p,ci.jY,ci.jY,ci.jY,ci.jY,ci.jY]
 have Q:(c+iF (hz aw.op).isNone).cy<=1152921504606846980:=by rw [ci.fG];omega
 have R:(c+iF (hz aw.op).isNone+ip ((hz aw.op).getD (au,0)) aw.mod aw.nm aw.args.length).cy<=1152921504606846990:=by rw [ci.fG,ci.fG];omega
 refine bO<|Cs ?_;refine WC.n6 [(0,ac),(1,ac),(2,ac),(3,ac),(4,ac),(5,ac),(6,ac),(7,ac),(8,ac),(9,ac),(10,au),(11,au),(12,au)] mixed ah (λ_ _ _ d _ h=>by cases d<;>exact h) ?_;refine D0 O aR (Ym O)<|D0 O aR (bP O)<|D0 O aR (Yf YU O)<|D0 O aR (Yd 1 O O O ah)<|D0 O aR (Yf u6 O)<|D0 O aR (Yd 0 O O O ah)<|D0 O aR (DL 2 me oE kD cY O O O) ?_;rw [v,x];refine D0 O aR (Ym O)<|D0 O aR (Yx O O)<|D0 O aR (Yx O O) ?_;refine De O aR ?_;refine Al Y O cY λS=>?_;refine Ln<|Ed ?_;refine De O (λ_ h=>(Wd 1 h:)) ?_;refine aq 0 Y O O O Qy O O O<|Ln<|Ed ?_;refine De O (λ_ h=>(Wd 1 h:)) ?_;refine ar O<|Ln<|Ed ?_;refine WD.nil (λ_ h=>(Wd 1 h:)) ?_;refine Et<|ai<|ad O<|ad O<|V0 (hV O) ?_;rw [aQ.not_not];refine Lf 2 O ?_;refine iL (Jr<|(hz aw.op).isNone) ?_;refine ag<|ai<|ad O<|V0 (dv 1 O O Qz O)<|V0 (Yf xV O)<|V0 (Yd 2 O O O ah)<|V0 (Yf xW O)<|V0 (Yd 2 O O O ah)<|V0 (Yf sO O) ?_;refine V0 (Yd 2 O O O ah)<|V0 (Yn ll O) ?_;refine iL (Qx ((hz aw.op).getD (au,0)) aw.mod aw.nm aj) ?_;refine ag<|ai<|ad O<|V0 (Yf u6 O)<|V0 (Yd 2 O O O ah)<|V0 (bN O O)<|ad O ?_;apply La 8 O O O O Y O O O O O
 ·intro T;refine Vg (Yf B1 O)<|Vg (Yd 2 O O O ah)<|Vg (cP O O)<|Vg (Ym O) ?_;apply Lo 3 O O O O (.g O O O) O O O O O;·intro U;refine Vg (Yf B1 O)<|Vg (Yd 2 O O O ah)<|Vg (ek O O) ?_;exact Gt 3 O O O
  exact Gt 5 O O O
 refine ad O ?_;apply Lo 8 O O O O Y O O O O O
 ·intro V;refine Vg (Yf u6 O)<|Vg (Yd 2 O O O ah)<|Vg (g2 O O)<|Vg (Ym O) ?_;apply La 3 O O O O (.g O O O) O O O O O;·intro W;refine Vg (Yf B1 O)<|Vg (Yd 2 O O O ah)<|Vg (g2 O O) ?_;exact Gt 3 O O O
  exact Gt 5 O O O
 refine iL (wl<|k3 aw.op aw.n) ?_;refine ag<|ai<|V0 (Yf sO O)<|V0 (Yd 2 O O O ah)<|V0 (Yn ll O)<|ad O<|ag<|Cb ?_;refine dZ (ι:=Z) (λi=>[(66,an am (i:ab))]) [(0,_),(2,_),(64,_),(65,_)] (λi=>Ws w [s,j,l] [aJ s<|aM #[an am 0,an am ((c+iF (hz aw.op).isNone+ip ((hz aw.op).getD (au,0)) aw.mod aw.nm aw.args.length+hq (k3 aw.op aw.n)+fH (aw.args.take i) (d+1)).f:ab),an am ((c+iF (hz aw.op).isNone+ip ((hz aw.op).getD (au,0)) aw.mod aw.nm aw.args.length+hq (k3 aw.op aw.n)+fH (aw.args.take i) (d+1)).m:ab),an am 0,an am ((c+iF (hz aw.op).isNone+ip ((hz aw.op).getD (au,0)) aw.mod aw.nm aw.args.length+hq (k3 aw.op aw.n)+fH (aw.args.take i) (d+1)).k:ab),an am 0,an am 0,an am 0,an am 0,an am 0,.map (aa j),.map (aa l)] 252 (0,0),aJ j<|dH kI (nr 9) 15,aJ l<|dH kI p0 7] [bt]) (λi=>i<=aw.args.length) (λi=>aw.args.length-i) 0 (de _) (λ_ h=>(Wt 3<|((h.f 4 O).f 4 O).f 2 O:)) ?_;intro i hi;refine ai<|V0 (cP O O)<|ag<|Cs ?_;refine Cc O (λq=>?_)<|λq=>?_
 ·have B:i<aw.args.length:=by simpa using q
  obtain ⟨y,r⟩:=dO B;obtain ⟨X,af,C,t⟩:=e.b7 i y r;obtain ⟨b,rfl⟩:∃b,k=b+1:=by cases k with| zero=>exact t.elim| succ b=>exact ⟨b,rfl⟩
  obtain ⟨al,ap,D,E⟩:=t;have aA:=Qs r;have aD:=y1 (aw.args.take i)<|d+1;have aE:(c+iF (hz aw.op).isNone+ip ((hz aw.op).getD (au,0)) aw.mod aw.nm aw.args.length+hq (k3 aw.op aw.n)+fH (aw.args.take i) (d+1)).cy+8*wE y<=1152921504606846976:=by rw [ci.fG,ci.fG,ci.fG,ci.fG];omega
  have F:c+iF (hz aw.op).isNone+ip ((hz aw.op).getD (au,0)) aw.mod aw.nm aw.args.length+hq (k3 aw.op aw.n)+fH (aw.args.take i) (d+1)+ka y (d+1)=c+iF (hz aw.op).isNone+ip ((hz aw.op).getD (au,0)) aw.mod aw.nm aw.args.length+hq (k3 aw.op aw.n)+fH (aw.args.take<|i+1) (d+1):=by rw [Qq (d+1) r,<-ci.jY]
  refine bO<|Cs<|Cb<|ai<|V0 (Yo ll O O C aj)<|V0 (dG 0 iy O O O<|D) ?_;refine Al Y O pp λaF=>?_;refine aq 0 Y O O O oF O O O<|ag<|Cr<|ad O<|V0 (dv 0 O O iy O)<|ad O<|V0 (Yi O O O aj)<|Lf 3 O<|Lf 3 O ?_;refine Lf 3 O ?_;refine iL (u b aj (d+1) E) ?_;refine Ln<|Eb<|Et<|Cr<|V0 (Yi O O O aj)<|ad O<|Ln ?_;rw [F];exact cU (i+1) aj aj<|λ_ h=>(Wt 3 h:)
 have aG:¬i<aw.args.length:=by simpa using q
 rw [i' aj,<-A];refine Ce<|Ex<|Ex<|dy ?_;refine E0 O λz a=>?_;exact ⟨O,a⟩
def z2 (c:ci):c0+c=c:=by apply ci.ext'<;>simp [ci.xf,ci.xg,ci.xh,c0]
def xX (n:Z):decide ((0:ab)<(n:ab))=decide (0<n):=by rw [lK];simp
def QA (n:Z):decide ((10:ab)<(n:ab))=decide (10<n):=by rw [lK];simp;omega
def YW (h:¬6<ae):gz c7 ae=a9 (decide<|10<c7.length)+e2 c7 ae:=by rw [gz,o2,ao h]
def pq:g1 aB 25=aa 6:=ah
def lm:iC aB 241=aa 6:=ah
def qN:zeroOf aB 241=aa (bU #[an am 0,st [],st [],aC ak 0 0,aC ak 0 0,aC ak 0 0]):=ah
def rI:eP aB 241=aa 6:=ah
def YX:cX aB 252 2=aa 11:=ah
def oG:cX aB 241 0=aa 0:=ah
def wn:cX aB 241 1=aa 1:=ah
def wo:cX aB 241 2=aa 2:=ah
def mG:cX aB 241 3=aa 3:=ah
def wq:cX aB 241 4=aa 4:=ah
def sP:cX aB 241 5=aa 5:=ah
variable {aH:Z}
def QB (k:Z)    (d:Z) (u:Sl (iG ae k) 6 bt b' aH c7):jC 139 [aC b' c7.length aH,an am (d:ab)] [bt] Qn (2+8*fj c7) 1152921504606846976<|gz c7 d:=by
 induction k using c8 generalizing c7 b' aH d;rename_i k v;refine ⟨bf,λs n o c w aA q=>?_⟩;have aD:=u.cap;have aE:=u.max;have aF:=y0<|decide<|10<c7.length;refine enter func139 O 116 O O ?_;refine CE q<|Cs<|ai<|ad O<|V0 (ek O O)<|ag ?_;refine Cc O (λx=>?_)<|λx=>?_
 ·have z:6<d:=by simp at x;omega
  refine ai<|ad O ?_;refine iL (z0<|ac) ?_;refine ag<|bq<|Er ?_;refine WE.ul O λM q=>?_;rw [show c+gz c7 d=c+a9 ac by rw [gz,o2,aU z];rfl];exact ⟨O,q⟩
 have z:¬6<d:=by simp at x;omega
 refine bO<|ai<|ad O<|ad O<|V0 (Yn pq O)<|V0 (ek O O) ?_;rw [QA];refine iL (z0<|decide<|10<c7.length) ?_;refine ag<|ai<|ad O<|V0 (Yn pq O)<|ad O<|ag<|Cb ?_;refine dZ (ι:=Z) (λi=>[(24,an am (i:ab))]) [(0,_),(2,_),(22,_),(23,_)] (λi=>Ws w [s,n,o] [aJ s<|aM #[an am 0,an am ((c+a9 (decide<|10<c7.length)+e2 (c7.take i) d).f:ab),an am ((c+a9 (decide<|10<c7.length)+e2 (c7.take i) d).m:ab),an am 0,an am ((c+a9 (decide<|10<c7.length)+e2 (c7.take i) d).k:ab),an am 0,an am 0,an am 0,an am 0,an am 0,.map (aa n),.map (aa o)] 252 (0,0),aJ n<|dH kI (nr 9) 15,aJ o<|dH kI p0 7] [bt]) (λi=>i<=c7.length) (λi=>c7.length-i) 0 (de _) aR ?_;intro i hi;refine ai<|V0 (cP O O)<|ag<|Cs ?_;refine Cc O (λA=>?_)<|λA=>?_
 ·have B:i<c7.length:=by simpa using A
  obtain ⟨y,p⟩:=dO B;obtain ⟨aG,aI,N,K⟩:=u.b7 i y p;obtain ⟨a,rfl⟩:∃a,k=a+1:=by cases k with| zero=>exact K.elim| succ a=>exact ⟨a,rfl⟩
  obtain ⟨P,Q,R,S,T,U,V,C,D,t⟩:=K;have aK:=YR p;have aP:=Mq y;have aS:=A8 (c7.take i) d;have aW:=A7 (f_ y.op).isNone;have aX:=DU ((f_ y.op).getD (au,0)) y.mod y.nm y.args.length;have aY:=du<|n' y.op y.body.length y.other.length;have aZ:=y1 y.args 1;have a1:=Hg y.body<|d+1;have W:hj y.op p0 (bU #[bV au,an am 0]) = bU #[bV ((f_ y.op).getD (au,0)).1,an am ((f_ y.op).getD (au,0)).2]:=(Ql y.op).1;have X:=(Ql y.op).2;have a2:=C.cap;have a3:=C.max;have a4:=D.cap;have a5:=D.max;have a6:=t.cap;have a8:=t.max;have a':(c+a9 (decide<|10<c7.length)+e2 (c7.take i) d).cy<=1152921504606846976:=by simp only [ci.fG];omega
  have a_:(c+a9 (decide<|10<c7.length)+e2 (c7.take i) d+iF (f_ y.op).isNone).cy+4<=1152921504606846976:=by simp only [ci.fG];omega
  have ba:(c+a9 (decide<|10<c7.length)+e2 (c7.take i) d+iF (f_ y.op).isNone+ip ((f_ y.op).getD (au,0)) y.mod y.nm y.args.length+fH y.args 1).cy<=1152921504606846976:=by simp only [ci.fG];omega
  have bb:(c+a9 (decide<|10<c7.length)+e2 (c7.take i) d+iF (f_ y.op).isNone+ip ((f_ y.op).getD (au,0)) y.mod y.nm y.args.length+fH y.args 1+hq (n' y.op y.body.length y.other.length)).cy+2+8*fj y.body<=1152921504606846976:=by simp only [ci.fG];omega
  have bc:(c+a9 (decide<|10<c7.length)+e2 (c7.take i) d+iF (f_ y.op).isNone+ip ((f_ y.op).getD (au,0)) y.mod y.nm y.args.length+fH y.args 1+hq (n' y.op y.body.length y.other.length)+gz y.body (d+1)).cy+2+8*fj y.other<=1152921504606846976:=by simp only [ci.fG];omega
  have bd:(c+a9 (decide<|10<c7.length)+e2 (c7.take i) d+iF (f_ y.op).isNone+ip ((f_ y.op).getD (au,0)) y.mod y.nm y.args.length+fH y.args 1+hq (n' y.op y.body.length y.other.length)).cy+2+8*fj y.other<=1152921504606846976:=by simp only [ci.fG];omega
  refine bO<|Cs<|Cb<|ai<|V0 (Yo pq O O N aj)<|V0 (dG 0 lm O O O<|V) ?_;refine Al Y O qN λaf=>?_;refine aq 0 Y O O O rI O O O<|ag<|Cs ?_;refine WC.n6 [(0,ac),(1,ac),(2,ac),(3,ac),(4,ac),(5,ac),(6,ac),(7,ac),(8,ac),(9,ac),(10,au),(11,au),(12,au)] mixed ah (λ_ _ _ d _ h=>by cases d<;>exact h) ?_;refine D0 O aR (Ym O)<|D0 O aR (bP O)<|D0 O aR (Yf YX O)<|D0 O aR (Yd 1 O O O ah)<|D0 O aR (Yf oG O)<|D0 O aR (Yd 0 O O O ah)<|D0 O aR (DL 3 me oE kD cY O O O) ?_;rw [W,X];refine D0 O aR (Ym O)<|D0 O aR (Yx O O)<|D0 O aR (Yx O O) ?_;refine De O aR ?_;refine Al Y O cY λbe=>?_;refine Ln<|Ed ?_;refine De O (λ_ h=>(Wd 1 h:)) ?_;refine aq 0 Y O O O Qy O O O<|Ln<|Ed ?_;refine De O (λ_ h=>(Wd 1 h:)) ?_;refine ar O<|Ln<|Ed ?_;refine WD.nil (λ_ h=>(Wd 1 h:)) ?_;refine Et<|ai<|ad O<|ad O<|V0 (hV O) ?_;rw [aQ.not_not];refine Lf 2 O ?_;refine iL (Jr<|(f_ y.op).isNone) ?_;refine ag<|ai<|ad O<|V0 (dv 1 O O Qz O)<|V0 (Yf wn O)<|V0 (Yd 2 O O O ah)<|V0 (Yf wo O)<|V0 (Yd 2 O O O ah)<|V0 (Yf mG O) ?_;refine V0 (Yd 2 O O O ah)<|V0 (Yn ll O) ?_;refine iL (Qx ((f_ y.op).getD (au,0)) y.mod y.nm aj) ?_;refine ag<|Cs<|ai<|V0 (Yf mG O)<|V0 (Yd 2 O O O ah)<|V0 (Yn ll O)<|ad O<|ag<|Cb ?_;refine dZ (ι:=Z) (λj=>[(55,an am (j:ab))]) [(0,_),(2,_),(7,_),(22,_),(23,_),(24,_),(53,_),(54,_)] (λj=>Ws w [s,n,o] ([aJ s<|aM #[an am 0,an am ((c+a9 (decide<|10<c7.length)+e2 (c7.take i) d+iF (f_ y.op).isNone+ip ((f_ y.op).getD (au,0)) y.mod y.nm y.args.length+fH (y.args.take j) 1).f:ab),an am ((c+a9 (decide<|10<c7.length)+e2 (c7.take i) d+iF (f_ y.op).isNone+ip ((f_ y.op).getD (au,0)) y.mod y.nm y.args.length+fH (y.args.take j) 1).m:ab),an am 0,an am ((c+a9 (decide<|10<c7.length)+e2 (c7.take i) d+iF (f_ y.op).isNone+ip ((f_ y.op).getD (au,0)) y.mod y.nm y.args.length+fH (y.args.take j) 1).k:ab),an am 0,an am 0,an am 0,an am 0,an am 0,.map (aa n),.map (aa o)] 252 (0,0),aJ n<|dH kI (nr 9) 15,aJ o<|dH kI p0 7]++[aJ af<|aM (xj y P Q R S T U).toArray 241 (0,0)]) [bt]) (λj=>j<=y.args.length) (λj=>y.args.length-j) 0 (de _) (λ_ h=>by exact (Wt 4<|(((h.f 2 O).f 4 O).f 4 O).f 3 O:)) ?_;intro j bh;refine ai<|V0 (cP O O)<|ag<|Cs ?_;refine Cc O (λE=>?_)<|λE=>?_
  ·have B:j<y.args.length:=by simpa using E
   obtain ⟨F,G⟩:=dO B;obtain ⟨bi,bj,al,L⟩:=C.b7 j F G;obtain ⟨H,rfl⟩:∃H,ae=H+1:=by cases ae with| zero=>exact L.elim| succ a=>exact ⟨a,rfl⟩
   obtain ⟨bk,bm,ap,av⟩:=L;have bn:=Qs G;have bo:=y1 (y.args.take j) 1;have bp:(c+a9 (decide<|10<c7.length)+e2 (c7.take i) d+iF (f_ y.op).isNone+ip ((f_ y.op).getD (au,0)) y.mod y.nm y.args.length+fH (y.args.take j) 1).cy+8*wE F<=1152921504606846976:=by simp only [ci.fG];omega
   have aw:c+a9 (decide<|10<c7.length)+e2 (c7.take i) d+iF (f_ y.op).isNone+ip ((f_ y.op).getD (au,0)) y.mod y.nm y.args.length+fH (y.args.take j) 1+ka F 1=c+a9 (decide<|10<c7.length)+e2 (c7.take i) d+iF (f_ y.op).isNone+ip ((f_ y.op).getD (au,0)) y.mod y.nm y.args.length+fH (y.args.take<|j+1) 1:=by rw [Qq 1 G,<-ci.jY]
   refine bO<|Cs<|Cb<|ai<|V0 (Yo ll O O al aj)<|V0 (dG 0 iy O O O<|ap) ?_;refine Al Y O pp λbr=>?_;refine aq 0 Y O O O oF O O O<|ag<|Cr<|ad O<|V0 (dv 0 O O iy O)<|Lf 3 O<|Lf 3 O<|Lf 3 O ?_;refine iL (afT H 1 av) ?_;refine Ln<|Eb<|Et<|Cr<|V0 (Yi O O O aj)<|ad O<|Ln ?_;rw [aw];exact cU (j+1) aj aj (λ_ h=>by exact (Wt 4<|(((h.f 4 O).f 3 O).f 3 O).f 3 O:))
  have bs:¬j<y.args.length:=by simpa using E
  rw [i' (by omega:y.args.length<=j)];refine Ce<|Ex<|Ex<|dy<|Et<|ai<|V0 (Yf oG O)<|V0 (Yd 3 O O O ah)<|V0 (bN O O)<|ad O ?_;apply Lo 3 O O O O Y O O O O O;·intro bu;refine Vg (Yf oG O)<|Vg (Yd 3 O O O ah)<|Vg (bN O O) ?_;exact Gt 3 O O O
  refine ar O<|ag<|ai<|ad O<|ad O<|V0 (hV O)<|ad O ?_;apply La 4 O O O O Y O O O O O;·intro bv;refine Vg (Yf wq O)<|Vg (Yd 3 O O O ah)<|Vg (Yn pq O)<|Vg (ek O O) ?_;rw [xX];exact Gt 4 O O O
  refine ad O ?_;apply Lo 9 O O O O Y O O O O O
  ·intro bw;refine Vg (Yf oG O)<|Vg (Yd 3 O O O ah)<|Vg (g2 O O)<|Vg (Ym O) ?_;apply La 4 O O O O (.g O O O) O O O O O;·intro bx;refine Vg (Yf sP O)<|Vg (Yd 3 O O O ah)<|Vg (Yn pq O)<|Vg (ek O O) ?_;rw [xX];exact Gt 4 O O O
   exact Gt 5 O O O
  refine iL (wl<|n' y.op y.body.length y.other.length) ?_;refine ag<|Cs<|ai<|ad O<|ad O ?_;apply Lo 4 O O O O Y O O O O O;·intro bz;refine Vg (Yf wq O)<|Vg (Yd 3 O O O ah)<|Vg (Yn pq O)<|Vg (ek O O) ?_;rw [xX];exact Gt 4 O O O
  refine ag ?_;refine Cc O (λJ=>?_)<|λJ=>?_
  ·have r:(if (inner y.op||decide (0<y.body.length))=ac then gz y.body (d+1) else c0)=gz y.body (d+1):=aU J;refine Cr<|ad O<|V0 (Yf wq O)<|V0 (Yd 3 O O O ah)<|ad O<|V0 (Yi O O O aj) ?_;refine iL (v a aj (d+1) D) ?_;refine ag<|ai<|V0 (Yf sP O)<|V0 (Yd 3 O O O ah)<|V0 (Yn pq O)<|V0 (ek O O) ?_;rw [xX];refine ag ?_;refine Cc O (λb=>?_)<|λb=>?_;·have l:(if 0<y.other.length then gz y.other (d+1) else c0)=gz y.other (d+1):=aU (by simpa using b);refine Cr<|ad O<|V0 (Yf sP O)<|V0 (Yd 3 O O O ah)<|ad O<|V0 (Yi O O O aj) ?_;refine iL (v a aj (d+1) t) ?_;refine Ln<|Eb<|Et<|Cr<|V0 (Yi O O O aj)<|ad O<|Ln ?_;rw [show c+a9 (decide<|10<c7.length)+e2 (c7.take i) d+iF (f_ y.op).isNone+ip ((f_ y.op).getD (au,0)) y.mod y.nm y.args.length+fH y.args 1+hq (n' y.op y.body.length y.other.length)+gz y.body (d+1)+gz y.other (d+1)=c+a9 (decide<|10<c7.length)+e2 (c7.take<|i+1) d by rw [Fh d p,Fg,r,l];simp only [ci.jY,zZ,z2]];exact cU (i+1) aj aj<|λ_ h=>(Wt 3 h:)
   have l:(if 0<y.other.length then gz y.other (d+1) else c0)=c0:=ao (by simpa using b);refine Ck<|Eb<|Et<|Cr<|V0 (Yi O O O aj)<|ad O<|Ln ?_;rw [show c+a9 (decide<|10<c7.length)+e2 (c7.take i) d+iF (f_ y.op).isNone+ip ((f_ y.op).getD (au,0)) y.mod y.nm y.args.length+fH y.args 1+hq (n' y.op y.body.length y.other.length)+gz y.body (d+1)=c+a9 (decide<|10<c7.length)+e2 (c7.take<|i+1) d by rw [Fh d p,Fg,r,l];simp only [ci.jY,zZ,z2]];exact cU (i+1) aj aj<|λ_ h=>(Wt 3 h:)
  have r:(if (inner y.op||decide (0<y.body.length))=ac then gz y.body (d+1) else c0)=c0:=ao (λe=>by rw [show (inner y.op||decide (0<y.body.length))=au from J] at e;cases e);refine bO<|ai<|V0 (Yf sP O)<|V0 (Yd 3 O O O ah)<|V0 (Yn pq O)<|V0 (ek O O) ?_;rw [xX];refine ag ?_;refine Cc O (λb=>?_)<|λb=>?_;·have l:(if 0<y.other.length then gz y.other (d+1) else c0)=gz y.other (d+1):=aU (by simpa using b);refine Cr<|ad O<|V0 (Yf sP O)<|V0 (Yd 3 O O O ah)<|ad O<|V0 (Yi O O O aj) ?_;refine iL (v a aj (d+1) t) ?_;refine Ln<|Eb<|Et<|Cr<|V0 (Yi O O O aj)<|ad O<|Ln ?_;rw [show c+a9 (decide<|10<c7.length)+e2 (c7.take i) d+iF (f_ y.op).isNone+ip ((f_ y.op).getD (au,0)) y.mod y.nm y.args.length+fH y.args 1+hq (n' y.op y.body.length y.other.length)+gz y.other (d+1)=c+a9 (decide<|10<c7.length)+e2 (c7.take<|i+1) d by rw [Fh d p,Fg,r,l];simp only [ci.jY,zZ,z2]];exact cU (i+1) aj aj<|λ_ h=>(Wt 3 h:)
  have l:(if 0<y.other.length then gz y.other (d+1) else c0)=c0:=ao (by simpa using b);refine Ck<|Eb<|Et<|Cr<|V0 (Yi O O O aj)<|ad O<|Ln ?_;rw [show c+a9 (decide<|10<c7.length)+e2 (c7.take i) d+iF (f_ y.op).isNone+ip ((f_ y.op).getD (au,0)) y.mod y.nm y.args.length+fH y.args 1+hq (n' y.op y.body.length y.other.length)=c+a9 (decide<|10<c7.length)+e2 (c7.take<|i+1) d by rw [Fh d p,Fg,r,l];simp only [ci.jY,zZ,z2]];exact cU (i+1) aj aj<|λ_ h=>(Wt 3 h:)
 have bB:¬i<c7.length:=by simpa using A
 rw [i' aj,ci.jY,<-YW z];refine Ce<|Ex<|Ex<|dy ?_;refine E0 O λM q=>?_;exact ⟨O,q⟩
def QC:∀(l:I eQ) (i:Z),wD (l.take i)<=wD l| [],i=>by simp| x::r,0=>by simp [wD]| x::r,i+1=>by have:=QC r i;simp only [qc,wD];omega
def Ju:∀(l:I bz) (i:Z),wP (l.take i)<=wP l| [],i=>by simp| x::r,0=>by simp [wP]| x::r,i+1=>by have:=Ju r i;simp only [qc,wP];omega
variable {vg:I bz} {iw:bz}
def QD (h:vg[ae]? = aa iw):wP (vg.take ae)+(1+iw.nm.length+wN iw.params+wN iw.a6+fj iw.body)<=wP vg:=by
 have c:=Ju vg<|ae+1;rw [jl h] at c;have:∀a b:I bz,wP (a++b)=wP a+wP b:=by intro a b;induction a with| nil=>simp [wP]| cons y a d=>simp only [hx,wP,d];omega
 rw [this] at c;simp only [wP] at c;omega
def QE:∀a b:I eQ,g_ (a++b)=g_ a+g_ b| [],b=>by apply ci.ext'<;>simp [ci.xf,ci.xg,ci.xh,g_,c0]| x::a,b=>by rw [hx,show ∀q,g_ (x::q)=jZ x+g_ q from λ_=>rfl,QE a b,show ∀q,g_ (x::q)=jZ x+g_ q from λ_=>rfl,ci.jY]
variable {fI:eQ}
def YY {l:I eQ}   (h:l[ae]? = aa fI):g_ (l.take<|ae+1)=g_ (l.take ae)+jZ fI:=by rw [jl h,QE];rfl
def QF:∀a b:I bz,h5 (a++b)=h5 a+h5 b| [],b=>by apply ci.ext'<;>simp [ci.xf,ci.xg,ci.xh,h5,c0]| x::a,b=>by rw [hx,show ∀q,h5 (x::q)=qn x+h5 q from λ_=>rfl,QF a b,show ∀q,h5 (x::q)=qn x+h5 q from λ_=>rfl,ci.jY]
def YZ (h:vg[ae]? = aa iw):h5 (vg.take<|ae+1)=h5 (vg.take ae)+qn iw:=by rw [jl h,QF];rfl
def Y0 (n:Z):decide ((4:ab)<(n:ab))=decide (4<n):=by rw [lK];simp;omega
def Y1 (n:Z):decide ((6:ab)<(n:ab))=decide (6<n):=by rw [lK];simp;omega
def eN (i:Z):Z:=if i=0 then 4 else if i=1 then 2 else 1
def cE (c:ci) (i:Z):Z:=if i=0 then c.k else if i=1 then c.m else c.f
def Y2 {i:Z} (h:i<3):(#[an am 4,an am 2,an am 1]:bE aT)[i]? = aa (an am (eN i:ab)):=by match i,h with| 0,_=>rfl| 1,_=>rfl| 2,_=>rfl
def Y3 (i:Z):eN i<10:=by unfold eN;split;omega;split<;>omega
def Y4 {c:ci} {a b i:Z} (h:i<3) {T:b_} {d:Z×Z}:jV (aM #[an am 0,an am (c.f:ab),an am (c.m:ab),an am 0,an am (c.k:ab),an am 0,an am 0,an am 0,an am 0,an am 0,.map (aa a),.map (aa b)] T d) (0+0+eN i*1)=aa (an am (cE c i:ab)):=by match i,h with| 0,_=>rfl| 1,_=>rfl| 2,_=>rfl
variable {j6:ci}
def Y5 {i:Z} (h:i<3) (d:∀j,j<i->cE j6 j=0) (c:0<cE j6 i):(eN i:ab)=kc j6:=by match i,h,d,c with| 0,_,_,c=>unfold kc;rw [aU<|show 0<j6.k from c];rfl| 1,_,d,c=>have:=d 0 aj;unfold kc;rw [ao (by simp [cE] at this;omega),aU<|show 0<j6.m from c];rfl| 2,_,d,c=>have a:=d 0 aj;have b:=d 1 aj;unfold kc;rw [ao (by simp [cE] at a;omega),ao (by simp [cE] at b;omega),aU<|show 0<j6.f from c];rfl
def Y6 (h:∀j,j<3->cE j6 j=0):kc j6=0:=by have a:=h 0 aj;have b:=h 1 aj;have d:=h 2 aj;simp [cE] at a b d;unfold kc;rw [ao aj,ao aj,ao aj]
def Y7:hy aB 252=aa [(0,10),(10,1),(11,1)]:=ah
def Y8:zeroOf aB 252=aa (bU #[an am 0,an am 0,an am 0,an am 0,an am 0,an am 0,an am 0,an am 0,an am 0,an am 0,.map ak,.map ak]):=ah
def wr:cX aB 27 0=aa 0:=ah
def rJ:cX aB 27 1=aa 1:=ah
def xZ:cX aB 27 2=aa 2:=ah
def u7:g1 aB 23=aa 4:=ah
def wu:cX aB 27 3=aa 3:=ah
def sR:g1 aB 24=aa 5:=ah
def p2:iC aB 109=aa 4:=ah
def wv:zeroOf aB 109=aa (bU #[an am 0,st [],bV au,an am 0]):=ah
def tV:eP aB 109=aa 4:=ah
def x0:iC aB 113=aa 5:=ah
def ww:zeroOf aB 113=aa (bU #[st [],bV au,aC ak 0 0,aC ak 0 0,aC ak 0 0]):=ah
def x1:eP aB 113=aa 5:=ah
def Jv:cX aB 113 0=aa 0:=ah
def sS:cX aB 113 2=aa 2:=ah
def x2:cX aB 113 3=aa 3:=ah
def xn:cX aB 113 4=aa 4:=ah
def Fj:cX aB 27 4=aa 4:=ah
def Y9:xb aB 256=aa (3,1):=ah
def Y':zeroOf aB 256=aa (bU #[an am 0,an am 0,an am 0]):=ah
def Y_:DM aB 256=aa 3:=ah
def Fk (H:View) (ke ks:Z) (r:mf) (m:cM) (w:aL) (J:Le H w) (a:mg ke ks H r m) (ao:wM m<=9007199254740992) :
   cr aB 68 #[bU (hk m r).toArray] w λe n=>e = ax (an am<|hI m)/\Ext w n:=by
 have ap:=Hh m.nm;have aw:=y2 m.aI;have aA:=y0<|(decide (3<m.aI.length)||decide (10<m.decls.length))||decide (6<m.procs.length);have aD:=Hf m.decls;have aE:=DV m.procs;have aF:=Hg m.main 1;have aH:wM m=1+m.nm.length+wN m.aI+wD m.decls+wP m.procs+fj m.main:=rfl;have aK:c0.cy=0:=rfl;have aP:=yZ m.aI;have aS:=a.aI.cap;have aU:=a.aI.max;have aW:=a.decls.cap;have aX:=a.decls.max;have aZ:=a.procs.cap;have a1:=a.procs.max;have K:∀i,(g_<|m.decls.take i).cy<=8*wD m.decls:=λi=>by have:=Hf<|m.decls.take i;have:=QC m.decls i;omega
 have L:∀i,(h5<|m.procs.take i).cy<=8*wP m.procs:=λi=>by have:=DV<|m.procs.take i;have:=Ju m.procs i;omega
 have a2:(c0+dj [m.nm]).cy+16+m.aI.length<=1152921504606846976:=by simp only [ci.fG];omega
 have a3:(c0+dj [m.nm]+dj m.aI).cy+16+m.aI.length<=1152921504606846976:=by simp only [ci.fG];omega
 have a4:(c0+dj [m.nm]+dj m.aI+a9 ((decide (3<m.aI.length)||decide (10<m.decls.length))||decide (6<m.procs.length))).cy+16+m.aI.length<=1152921504606846976:=by simp only [ci.fG];omega
 have a5:(c0+dj [m.nm]+dj m.aI+a9 ((decide (3<m.aI.length)||decide (10<m.decls.length))||decide (6<m.procs.length))+g_ m.decls).cy+16+m.aI.length<=1152921504606846976:=by simp only [ci.fG];omega
 have a8:(c0+dj [m.nm]+dj m.aI+a9 ((decide (3<m.aI.length)||decide (10<m.decls.length))||decide (6<m.procs.length))+g_ m.decls+h5 m.procs).cy+16+8*fj m.main<=1152921504606846976:=by simp only [ci.fG];omega
 refine enter func68 O 106 O O ?_;refine CE (Vs:=[H]) (Ws.init (by simp [J]))<|ai ?_;refine WL.box Y O O λq=>?_;refine ar O<|ag<|ai ?_;refine WL.AZ (ι:=Z) Y O bf O (λb=>.map<|aa b) (λb=>[aJ b<|dH kI (nr 9) 15]) (λ_=>True) (λw o=>(YP w).mono λe n h=>by obtain ⟨b,s,t⟩:=h;exact ⟨b,s,trivial,t⟩) ?_;intro g _;refine WL.AZ (ι:=Z) Y O bf O (λb=>.map<|aa b) (λb=>[aJ b<|dH kI p0 7]) (λ_=>True) (λw o=>(YQ w).mono λe n h=>by obtain ⟨b,s,t⟩:=h;exact ⟨b,s,trivial,t⟩) ?_;intro l _;refine V0 (Yb Y8 Y7 O O) ?_;refine WL.box Y O O λu=>?_;refine dK 0 (aM #[an am 0,an am ((c0).f:ab),an am ((c0).m:ab),an am 0,an am ((c0).k:ab),an am 0,an am 0,an am 0,an am 0,an am 0,.map (aa g),.map (aa l)] 252 (0,0)) O O<|ar O<|ag<|ai<|ad O<|V0 (Yf wr O)<|V0 (Yd 3 O O O ah) ?_;refine Lb Y O dI O O O O λa_=>?_;refine aY (T:=9) (m:=1) 0 [m.nm] O O (show 1<=1 by decide) a' λba M=>?_;refine iL (z1 M) ?_;refine ag<|ai<|ad O<|V0 (Yf rJ O)<|V0 (Yd 3 O O O ah) ?_;refine iL (z1 a.aI) ?_;refine ag<|ai<|ad O<|V0 (Yf rJ O)<|V0 (Yd 3 O O O ah)<|V0 (Yn e4 O)<|V0 (ek O O) ?_;rw [Jt];refine ad O ?_;apply Lo 4 O O O O Y O O O O O;·intro bb;refine Vg (Yf xZ O)<|Vg (Yd 3 O O O ah)<|Vg (Yn u7 O)<|Vg (ek O O) ?_;rw [QA];exact Gt 4 O O O
 refine ad O ?_;apply Lo 4 O O O O Y O O O O O;·intro bc;refine Vg (Yf wu O)<|Vg (Yd 3 O O O ah)<|Vg (Yn sR O)<|Vg (ek O O) ?_;rw [Y1];exact Gt 4 O O O
 refine iL (z0<|(decide (3<m.aI.length)||decide (10<m.decls.length))||decide (6<m.procs.length)) ?_;refine ag<|Cs<|ai<|V0 (Yf xZ O)<|V0 (Yd 3 O O O ah)<|V0 (Yn u7 O)<|ad O<|ag<|Cb ?_;refine dZ (ι:=Z) (λi=>[(44,an am (i:ab))]) [(1,_),(2,_),(3,_),(42,_),(43,_)] (λi=>Ws w [] [aJ u<|aM #[an am 0,an am ((c0+dj [m.nm]+dj m.aI+a9 ((decide (3<m.aI.length)||decide (10<m.decls.length))||decide (6<m.procs.length))+g_ (m.decls.take i)).f:ab),an am ((c0+dj [m.nm]+dj m.aI+a9 ((decide (3<m.aI.length)||decide (10<m.decls.length))||decide (6<m.procs.length))+g_ (m.decls.take i)).m:ab),an am 0,an am ((c0+dj [m.nm]+dj m.aI+a9 ((decide (3<m.aI.length)||decide (10<m.decls.length))||decide (6<m.procs.length))+g_ (m.decls.take i)).k:ab),an am 0,an am 0,an am 0,an am 0,an am 0,.map (aa g),.map (aa l)] 252 (0,0),aJ g<|dH kI (nr 9) 15,aJ l<|dH kI p0 7,aJ q<|aM (hk m r).toArray 27 (0,0)] [H]) (λi=>i<=m.decls.length) (λi=>m.decls.length-i) 0 (de _) (λ_ h=>by have h:=h.av 3 O;have h:=h.av 2 O;have h:=h.av 3 O;have h:=h.av 3 O;have h:=Ws.dr h (cB:=[H]) aG;exact h) ?_;intro i hi;refine ai<|V0 (cP O O)<|ag<|Cs ?_;refine Cc O (λv=>?_)<|λv=>?_
 ·have c:i<m.decls.length:=by simpa using v
  obtain ⟨d,G⟩:=dO c;obtain ⟨N,P,Q,x⟩:=a.decls.b7 i d G;have x:ct H N (P+i*4) d.cells:=x;have R:c0+dj [m.nm]+dj m.aI+a9 ((decide (3<m.aI.length)||decide (10<m.decls.length))||decide (6<m.procs.length))+g_ (m.decls.take i)+jZ d=c0+dj [m.nm]+dj m.aI+a9 ((decide (3<m.aI.length)||decide (10<m.decls.length))||decide (6<m.procs.length))+g_ (m.decls.take<|i+1):=by rw [YY G,<-ci.jY]
  have bd:=K i;have be:(c0+dj [m.nm]+dj m.aI+a9 ((decide (3<m.aI.length)||decide (10<m.decls.length))||decide (6<m.procs.length))+g_ (m.decls.take i)).cy+4<=4611686018427387904:=by simp only [ci.fG];omega
  refine bO<|Cs<|Cb<|ai<|V0 (Yo u7 O O Q aj)<|V0 (dG 0 p2 O O O<|x) ?_;refine Al Y O wv λbh=>?_;refine aq 0 Y O O O tV O O O<|ag<|Cr<|ad O<|V0 (dv 0 O O p2 O)<|Lf 1 O ?_;refine iL (YS d) ?_;refine Ln<|Eb<|Et<|Cr<|V0 (Yi O O O aj)<|ad O<|Ln ?_;rw [R];exact cU (i+1) aj aj (λ_ h=>by exact (Wt 4<|(((h.f 4 O).f 4 O).f 4 O).f 3 O:))
 have bi:¬i<m.decls.length:=by simpa using v
 rw [i' aj];refine Ce<|Ex<|Ex<|dy<|Et<|Cs<|ai<|V0 (Yf wu O)<|V0 (Yd 3 O O O ah)<|V0 (Yn sR O)<|ad O<|ag<|Cb ?_;refine dZ (ι:=Z) (λj=>[(55,an am (j:ab))]) [(1,_),(2,_),(3,_),(53,_),(54,_)] (λj=>Ws w [] [aJ u<|aM #[an am 0,an am ((c0+dj [m.nm]+dj m.aI+a9 ((decide (3<m.aI.length)||decide (10<m.decls.length))||decide (6<m.procs.length))+g_ m.decls+h5 (m.procs.take j)).f:ab),an am ((c0+dj [m.nm]+dj m.aI+a9 ((decide (3<m.aI.length)||decide (10<m.decls.length))||decide (6<m.procs.length))+g_ m.decls+h5 (m.procs.take j)).m:ab),an am 0,an am ((c0+dj [m.nm]+dj m.aI+a9 ((decide (3<m.aI.length)||decide (10<m.decls.length))||decide (6<m.procs.length))+g_ m.decls+h5 (m.procs.take j)).k:ab),an am 0,an am 0,an am 0,an am 0,an am 0,.map (aa g),.map (aa l)] 252 (0,0),aJ g<|dH kI (nr 9) 15,aJ l<|dH kI p0 7,aJ q<|aM (hk m r).toArray 27 (0,0)] [H]) (λj=>j<=m.procs.length) (λj=>m.procs.length-j) 0 (de _) aR ?_;intro j y;refine ai<|V0 (cP O O)<|ag<|Cs ?_;refine Cc O (λz=>?_)<|λz=>?_
 ·have c:j<m.procs.length:=by simpa using z
  obtain ⟨p,A⟩:=dO c;obtain ⟨bj,bk,S,U⟩:=a.procs.b7 j p A;obtain ⟨bm,bn,bo,bp,br,bs,V,B,C,W⟩:=U;have bt:=QD A;have bu:=L j;have bv:=DV<|m.procs.take j;have bw:=Hh p.nm;have bx:=y2 p.params;have bz:=y2 p.a6;have bB:=y0<|decide (3<p.params.length)||decide (4<p.a6.length);have bC:=yZ p.params;have bD:=yZ p.a6;have bF:=B.cap;have bG:=B.max;have bH:=C.cap;have bI:=C.max;have X:c0+dj [m.nm]+dj m.aI+a9 ((decide (3<m.aI.length)||decide (10<m.decls.length))||decide (6<m.procs.length))+g_ m.decls+h5 (m.procs.take j)+dj [p.nm]+dj p.params+dj p.a6+a9 (decide (3<p.params.length)||decide (4<p.a6.length))+gz p.body 1=c0+dj [m.nm]+dj m.aI+a9 ((decide (3<m.aI.length)||decide (10<m.decls.length))||decide (6<m.procs.length))+g_ m.decls+h5 (m.procs.take<|j+1):=by rw [YZ A,qn];simp only [ci.jY]
  have bJ:(c0+dj [m.nm]+dj m.aI+a9 ((decide (3<m.aI.length)||decide (10<m.decls.length))||decide (6<m.procs.length))+g_ m.decls+h5 (m.procs.take j)).cy+16+p.params.length+p.a6.length+8*fj p.body<=1152921504606846976:=by simp only [ci.fG];omega
  have bK:(c0+dj [m.nm]+dj m.aI+a9 ((decide (3<m.aI.length)||decide (10<m.decls.length))||decide (6<m.procs.length))+g_ m.decls+h5 (m.procs.take j)+dj [p.nm]).cy+16+p.params.length+p.a6.length+8*fj p.body<=1152921504606846976:=by simp only [ci.fG];omega
  have bL:(c0+dj [m.nm]+dj m.aI+a9 ((decide (3<m.aI.length)||decide (10<m.decls.length))||decide (6<m.procs.length))+g_ m.decls+h5 (m.procs.take j)+dj [p.nm]+dj p.params).cy+16+p.params.length+p.a6.length+8*fj p.body<=1152921504606846976:=by simp only [ci.fG];omega
  have bM:(c0+dj [m.nm]+dj m.aI+a9 ((decide (3<m.aI.length)||decide (10<m.decls.length))||decide (6<m.procs.length))+g_ m.decls+h5 (m.procs.take j)+dj [p.nm]+dj p.params+dj p.a6).cy+16+p.params.length+p.a6.length+8*fj p.body<=1152921504606846976:=by simp only [ci.fG];omega
  have bN:(c0+dj [m.nm]+dj m.aI+a9 ((decide (3<m.aI.length)||decide (10<m.decls.length))||decide (6<m.procs.length))+g_ m.decls+h5 (m.procs.take j)+dj [p.nm]+dj p.params+dj p.a6+a9 (decide (3<p.params.length)||decide (4<p.a6.length))).cy+16+p.params.length+p.a6.length+8*fj p.body<=1152921504606846976:=by simp only [ci.fG];omega
  refine bO<|Cs<|Cb<|ai<|V0 (Yo sR O O S aj)<|V0 (dG 0 x0 O O O<|V) ?_;refine Al Y O ww λbQ=>?_;refine aq 0 Y O O O x1 O O O<|ag<|ai<|ad O<|V0 (Yf Jv O)<|V0 (Yd 0 O O O ah) ?_;refine Lb Y O dI O O O O λbR=>?_;refine aY (T:=9) (m:=1) 0 [p.nm] O O (show 1<=1 by decide) a' λbS ae=>?_;refine Lf 1 O ?_;refine iL (z1 ae) ?_;refine ag<|ai<|ad O<|V0 (Yf sS O)<|V0 (Yd 1 O O O ah) ?_;refine iL (z1 B) ?_;refine ag<|ai<|ad O<|V0 (Yf x2 O)<|V0 (Yd 1 O O O ah) ?_;refine iL (z1 C) ?_;refine ag<|ai<|ad O<|V0 (Yf sS O)<|V0 (Yd 1 O O O ah)<|V0 (Yn e4 O)<|V0 (ek O O) ?_;rw [Jt];refine ad O ?_;apply Lo 4 O O O O Y O O O O O;·intro bT;refine Vg (Yf x2 O)<|Vg (Yd 1 O O O ah)<|Vg (Yn e4 O)<|Vg (ek O O) ?_;rw [Y0];exact Gt 4 O O O
  refine iL (z0<|decide (3<p.params.length)||decide (4<p.a6.length)) ?_;refine ag<|Cr<|ad O<|V0 (Yf xn O)<|V0 (Yd 1 O O O ah)<|Lf 3 O<|Lf 3 O<|Lf 2 O ?_;refine iL (QB ks 1 W) ?_;refine Ln<|Eb<|Et<|Cr<|V0 (Yi O O O aj)<|ad O<|Ln ?_;rw [X];exact cU (j+1) aj aj (λ_ h=>by exact (Wv 1<|Wt 4<|(((h.f 4 O).f 3 O).f 3 O).f 3 O:))
 have bW:¬j<m.procs.length:=by simpa using z
 rw [i' aj];refine Ce<|Ex<|Ex<|dy<|Et<|ai<|ad O<|V0 (Yf Fj O)<|V0 (Yd 3 O O O ah) ?_;refine iL (QB ks 1 a.main) ?_;refine ag<|Cs<|ai<|V0 (Mx Y' Y9 O O)<|ad O<|ag<|Cb ?_;refine dZ (ι:=Z) (λi=>[(94,an am (i:ab))]) [(3,_),(93,_)] (λi=>Ws w [] [aJ u<|aM #[an am 0,an am ((c0+dj [m.nm]+dj m.aI+a9 ((decide (3<m.aI.length)||decide (10<m.decls.length))||decide (6<m.procs.length))+g_ m.decls+h5 m.procs+gz m.main 1).f:ab),an am ((c0+dj [m.nm]+dj m.aI+a9 ((decide (3<m.aI.length)||decide (10<m.decls.length))||decide (6<m.procs.length))+g_ m.decls+h5 m.procs+gz m.main 1).m:ab),an am 0,an am ((c0+dj [m.nm]+dj m.aI+a9 ((decide (3<m.aI.length)||decide (10<m.decls.length))||decide (6<m.procs.length))+g_ m.decls+h5 m.procs+gz m.main 1).k:ab),an am 0,an am 0,an am 0,an am 0,an am 0,.map (aa g),.map (aa l)] 252 (0,0),aJ g<|dH kI (nr 9) 15,aJ l<|dH kI p0 7,aJ q<|aM (hk m r).toArray 27 (0,0)] [H]) (λi=>i<=3/\∀j,j<i->cE (c0+dj [m.nm]+dj m.aI+a9 ((decide (3<m.aI.length)||decide (10<m.decls.length))||decide (6<m.procs.length))+g_ m.decls+h5 m.procs+gz m.main 1) j=0) (λi=>3-i) 0 ⟨de _,aG⟩ aR ?_;intro i ⟨hi,D⟩;refine ai<|V0 (cP O O)<|ag<|Cs ?_;refine Cc O (λE=>?_)<|λE=>?_
 ·have c:i<3:=by simp at E;omega
  refine bO<|Cs<|Cb<|ai<|V0 (G8 (i:=i) Y_ O O c<|Y2 c)<|ar O<|ag<|ai<|ad O<|ad O<|V0 (bP O)<|V0 (Yf xS O) ?_;refine V0 (xc (i:=eN i) xT O O<|Y3 i)<|V0 (Yd 0 O O (Y4 c) ah)<|V0 (ek O O)<|ag ?_;refine Cc O (λF=>?_)<|λF=>?_
  ·have af:0<cE (c0+dj [m.nm]+dj m.aI+a9 ((decide (3<m.aI.length)||decide (10<m.decls.length))||decide (6<m.procs.length))+g_ m.decls+h5 m.procs+gz m.main 1) i:=by simpa using F
   refine ai<|ad O<|ar O<|ag<|bq<|cZ<|Er<|Er<|cZ<|Er ?_;refine R1 O O λn o=>?_;refine ⟨?_,o.fr⟩;rw [Y5 c D af,show c0+dj [m.nm]+dj m.aI+a9 ((decide (3<m.aI.length)||decide (10<m.decls.length))||decide (6<m.procs.length))+g_ m.decls+h5 m.procs+gz m.main 1=qo m by rw [qo,z2]];rfl
  have al:cE (c0+dj [m.nm]+dj m.aI+a9 ((decide (3<m.aI.length)||decide (10<m.decls.length))||decide (6<m.procs.length))+g_ m.decls+h5 m.procs+gz m.main 1) i=0:=by simp at F;omega
  refine Ck<|Eb<|Et<|Cr<|V0 (Yi O O O aj)<|ad O<|Ln ?_;exact cU (i+1) aj ⟨aj,λj y=>by rcases dd.1 y with h | rfl;exact D j h;exact al⟩ aR
 have bX:¬i<3:=by simp at E;omega
 refine Ce<|Ex<|Ex<|dy<|Et<|ai<|ar O<|ag<|bq ?_;refine R1 O O λn o=>?_;refine ⟨?_,o.fr⟩;rw [hI,show qo m=c0+dj [m.nm]+dj m.aI+a9 ((decide (3<m.aI.length)||decide (10<m.decls.length))||decide (6<m.procs.length))+g_ m.decls+h5 m.procs+gz m.main 1 by rw [qo,z2],Y6 λj y=>D j aj]
abbrev i9 (a:Z) (r:az a0×Z) (l:I Tok):I bc:=[aJ a<|aM #[aC r.1 l.length r.2] 231 (0,0),cO 234 3 Tok.cells r.1 r.2 l]
def Za (h:gm bw=ac):bw.length<=8:=by simp only [gm,eW,mb] at h;exact h.1.1.2
def sT (h:gy bw=ac):bw.length<=4096:=by have:=Za<|mA h;omega
def QG (h:i6 bw):bw.length<=4096:=by have:=DS h.1.1 h.1.2;rw [h.2] at this;omega
variable {aS:Tx}
def Zb (h:jH ac bw aS=au):bw.length<=4096/\aS.length<=4096:=by
 obtain ⟨a,b⟩:=E1 h;refine ⟨?_,sT b⟩;rcases a with rfl | a;·exact de _
 ·exact sT a
variable {aP:ab}
def Jw (a:0<=aP) (b:aP<=1099511627775):(hO aP).length<=4096:=QG<|xa a b
def Zc (h:qI bw=ac):df bw=⟨2,po bw,[]⟩:=by unfold df po;unfold qI at h;cases a:p' bw with| ok v=>rfl| _=>rw [a] at h;cases h
def Zd (h:qI bw=au):df bw=if gm bw=ac then ⟨1,0,bw⟩ else ⟨3,0,bw⟩:=by unfold df;unfold qI at h;cases a:p' bw with| ok v=>rw [a] at h;cases h| _=>rfl
def Jx (l:I Tx):(TW l).length=l.length:=by simp [TW]
def Ze (h:cI[ae]? = aa bw):TW (cI.take<|ae+1)=TW (cI.take ae)++[df bw]:=by rw [jl h,jy];rfl
def Zf (h:(ka aw ae).cy=0):tO aw.op aw.n aw.mod aw.nm aw.args ae:=by cases aw;exact zM h
def x3 (x:cu):dW x=kU x.op x.n x.mod x.nm (aX x.args):=by cases x;exact IV _ _ _ _ _
def p3:∀{l:I cu} {i:Z} {y:cu},l[i]? = aa y->at_ (aX l) i=dW y| [],i,y,h=>by simp at h| x::r,0,y,h=>by simp at h;subst h;rfl| x::r,i+1,y,h=>by have:=p3 (l:=r) (i:=i) (y:=y) (by simpa using h);unfold aX at_;unfold at_ at this;simpa using this
def sU (h:cg.length=ae) (hi:aH<ae):∃y,cg[aH]? = aa y:=⟨_,dh (by omega)⟩
def qJ {d i:Z} :∀{l:I cu},(fH l d).cy=0->l[i]? = aa aw->(ka aw d).cy=0| [],_,h=>by simp at h| x::r,a,h=>by obtain ⟨b,c⟩:=IN a;cases i with| zero=>simp at h;subst h;exact b| succ i=>exact qJ (i:=i) c (by simpa using h)
def Jy {op n:ab}    (h:tO op n bw aS dw ae) (a:3<=op/\op<=5):jH ac bw aS=au:=(I6 h.name).1 a
def Zg (h:aw.op=1):dW aw=[hO aw.n]:=by rw [x3,kU,aU h]
def Zh (h:aw.op=2):dW aw=[[105,110]]:=by rw [x3,kU,ao aj,aU h];rfl
def Zi (h:aw.op=3):dW aw=gZ aw.mod aw.nm:=by rw [x3,kU,ao aj,ao aj,aU h]
variable {vo:cu}
def Zj (h:aw.op=4) (a:aw.args[0]? = aa vo):dW aw=gZ aw.mod aw.nm++[[91]]++dW vo++[[93]]:=by rw [x3,kU,ao aj,ao aj,ao aj,aU h,p3 a]
def Zk (h:aw.op=5):dW aw=gZ aw.mod aw.nm++mz (aX aw.args):=by rw [x3,kU,ao aj,ao aj,ao aj,ao aj,aU h]
def Zl (h:aw.op=6) (a:aw.args[0]? = aa vo):dW aw=[[33]]++dW vo:=by rw [x3,kU,ao aj,ao aj,ao aj,ao aj,ao aj,aU h,p3 a]
def Zm {x y a:cu} (h:7<=x.op) (b:x.args[0]? = aa y) (c:x.args[1]? = aa a):dW x=[[40]]++dW y++[rx x.op]++dW a++[[41]]:=by rw [x3,kU,ao aj,ao aj,ao aj,ao aj,ao aj,ao aj,p3 b,p3 c]
def Zn (h:7<=aP/\aP<=15):((opsL.map st).toArray)[(aP-7).toNat]? = aa (st<|rx aP):=by have:aP=7\/aP=8\/aP=9\/aP=10\/aP=11\/aP=12\/aP=13\/aP=14\/aP=15:=aj;rcases this with rfl | rfl | rfl | rfl | rfl | rfl | rfl | rfl | rfl<;>rfl
def Zo (op:ab) (h:7<=op/\op<=15):(rx op).length<=4096:=QG<|O2 h
def QH:∀{l:I cu} {i:Z} {y:cu},l[i]? = aa y->(aX l)[i]? = aa (dW y)| [],i,y,h=>by simp at h| x::r,0,y,h=>by simp at h;subst h;rfl| x::r,i+1,y,h=>by have:=QH (l:=r) (i:=i) (y:=y) (by simpa using h);unfold aX;simpa using this
def Ol (x:I Tx):∀l:I<|I Tx,l≠[]->eH (l++[x])=eH l++[[44]]++x| [],h=>absurd rfl h| [y],_=>by simp [eH]| y::z::r,_=>by have:=Ol x (z::r) aG;show y++[[44]]++eH ((z::r)++[x])=y++[[44]]++eH (z::r)++[[44]]++x;rw [this];simp
variable {oy:I<|I Tx}
def QJ (h:oy[ae]? = aa cI) (hi:ae=0):eH (oy.take<|ae+1)=eH (oy.take ae)++cI:=by subst hi;rw [jl h];simp [eH]
def QK (h:oy[ae]? = aa cI) (hi:0<ae):eH (oy.take<|ae+1)=eH (oy.take ae)++[[44]]++cI:=by
 have c:=(c_.1 h).1;rw [jl h,Ol];intro a;have b:(oy.take ae).length=ae:=by rw [lr];omega
 rw [a,fT] at b;omega
def Jz (l:I<|I Tx) (i:Z):(eH<|l.take i).length<=(eH l).length:=by
 have key:∀(a b:I<|I Tx),(eH a).length<=(eH<|a++b).length:=by
  intro a b;induction a with
  | nil=>simp [eH]
  | cons x r c=>
   cases r with
   | nil=>cases b with| nil=>simp| cons y b=>simp only [hx,s7,eH,e_];omega
   | cons y r=>simp only [hx,eH,e_] at c ⊢;omega
 have:=key (l.take i)<|l.drop i;rwa [qb] at this
def sV (f:jU) (vs:I aT) (b H:View) (W:I Tx):Prop:=Enters aB f/\∀(a:Z) (r:az a0×Z) (l:I Tok) (w:aL),l.length+W.length<=1099511627776->Ws w (c5 bc.ids<|i9 a r l) (i9 a r l) [b,H] w->cr aB f (b0 (aa ⟨a,0,ak⟩)::vs).toArray w λe c=>∃d:az a0×Z,e = ax (cN #[])/\Ws w (c5 bc.ids<|i9 a r l) (i9 a d<|l++TW W) [b,H] c
def et {ops:Array Oper} {Q:Exit->Act->World->Prop} {n:Nat} {ds:List Deferred} {l:List<|Nat×Value} {h:World} {i:List Nat} {L L2:List bc} {Vs:List View} {rest:List Oper} {d:Nat} {ty:TypeId} {pos:String} {af:Array Edge} {g:Option<|Nat×Bool} {f:FuncId} {args:Array Operand} {ts:Array TypeId} {vs:List Value} {b:Nat} {r:Option Addr×Nat} {k:List Tok} {c H:View} {W:List Tx} (hC:sV f vs c H W) (j:∀a,WL prog ops Q n ds ((d,.tuple #[])::l) (Ws h i (i9 b a (k++TW W)++L2) Vs) rest) (m:hF l args.toList=some (.pointer (some ⟨b,0,none⟩)::vs):=by rfl) (hL:L=i9 b r k++L2:=by rfl) (o:k.length+W.length<=1099511627776:=by first|omega|(simp only [e_,Jx,eL,fT];omega)) (p:∀X ∈ [c,H],X ∈ Vs:=by simp) (q:eE ops l g:=by first|exact .inl rfl|exact .inr ⟨_,_,_,rfl,rfl,rfl⟩) (s:Nat.blt d n=true:=by rfl) : WL prog ops Q n ds l (Ws h i L Vs)<|⟨some d,.call ⟨.value<|.func f,args,ts⟩,ty,pos,af,g⟩::rest:= Lw (ι:=Option Addr×Nat) (i9 b r k) L2 q s hC.1 m hL (λ_=>.tuple #[]) (λa=>i9 b a<|k++TW W) (λ_=>True) [c,H] p (λw t=>(hC.2 b r k w o t).mono λe x ⟨a,u,v⟩=>⟨a,u,trivial,v⟩)<|λa _=>j a
def tW:cX aB 231 0=aa 0:=ah
def wx:eP aB 222=aa 1:=ah
variable {bX:View}
def gT (v:Laid bt) (a:Sl rdStr 1 bX b' ae cI) (y:∀s ∈ cI,s.length<=4096):sV 213 [aC b' cI.length ae] bt bX<|cI:=by
 refine ⟨bf,λu r l w E f=>?_⟩;have F:=a.cap;have G:=a.max;refine enter func213 O 40 O O ?_;refine CE f<|ai<|ad O<|V0 (Yn e4 O)<|ad O<|ag<|Cb ?_;refine dZ (ι:=Z×(az a0×Z)) (λg=>[(11,an am (g.1:ab))]) [(0,_),(9,_),(10,_)] (λg=>Ws w (c5 bc.ids<|i9 u r l) (i9 u g.2<|l++TW (cI.take g.1)) [bt,bX]) (λg=>g.1<=cI.length) (λg=>cI.length-g.1) (0,r) (de _) (λ_ h=>by simpa [TW] using h) ?_;intro g hi;refine ai<|V0 (cP O O)<|ag<|Cs ?_;refine Cc O (λm=>?_)<|λm=>?_
 ·have z:g.1<cI.length:=by simpa using m
  obtain ⟨x,n⟩:=dO z;obtain ⟨A,B,H,o⟩:=a.b7 g.1 x n;have o:ct bX A (B+g.1*1)<|fV x:=o;have C:=y x<|dJ n;have J:(l++TW (cI.take g.1)).length+1<=1099511627776:=by rw [e_,Jx];simp;omega
  have i:l++TW (cI.take g.1)++[df x]=l++TW (cI.take<|g.1+1):=by rw [Ze n,ho]
  refine bO<|Cs<|Cb<|ai<|V0 (Yo e4 O O mW aj)<|V0 (dQ 1 ah O O<|o 0 _ O)<|ar O<|ag<|ai<|ad O<|V0 (Yb sM B0 O O) ?_;refine Al Y O sM λK=>?_;refine aq 0 Y O O O lY O O O<|ag<|Cs<|ai<|ad O ?_;refine Ld Y O bf O (λr:aT=>cN #[an am (po x),r]) (λ_ r=>yV r<|qI x) (λw f=>Qi bt x C w f.V v) ?_;intro L M N D;refine ad O<|V0 (Yx O O)<|V0 (Yx O O)<|ar O<|ar O<|ag<|ai<|ad O<|V0 (L4 (qI x) Qj O D) ?_;refine ag ?_;refine Cc O (λp=>?_)<|λp=>?_
  ·have j:=Zc p;refine Cr<|ad O<|V0 (Yb sM B0 O O)<|aq 0 Y O O O lY O O O<|ag<|gL 0 (aM (df x).cells.toArray 234 (0,0)) O (by rw [j];rfl) ?_;refine CU (λ_=>ac) [1,1] [10] (.q au 0<|.q au 1<|.q au 2<|.q au 3<|.q ac 5<|.e 4 (.e 6 (.e 7 (.q au 8<|.q au 9 .nil) .stop) .stop)<|.e 6 (.e 4 (.e 7 (.q au 8<|.q au 9 .nil) .stop) .stop) .stop) mixed ah (λ_ _ _ d _ _ h=>by cases d<;>exact h) ?_;refine U0 O (cn [1,1]) (Ym O)<|U0 O (cn [1,1]) (Ym O)<|U0 O (cn [1,1]) (bP O)<|U0 O (cn [1,1]) (Yf tW O)<|U0 O (cn [1,1]) (dv 0 O O i1 O) ?_;refine Ue O (cn [1,1]) ?_ ?_;·refine V0 (Yd 1 O O O ah)<|Ln<|Eu ?_;refine Ue O (cn [1,1]) ?_ WU.stop;refine Lb Y O oC O O O O λk=>?_;refine Ln<|Eu ?_;refine Ue O (λ_ h=>(Wo 1<|Wo 1<|Wd 1 h:)) ?_ WU.stop;refine LA (df x) 3 0 Y O oC O O O O O O aj aj λb c=>?_;refine Ln<|Eu<|U0 O (λ_ h=>(Wo 1<|Wo 1<|Wd 1 h:)) (bP O)<|U0 O (λ_ h=>(Wo 1<|Wo 1<|Wd 1 h:)) (Yf tW O) ?_;refine WU.nil (λ_ h=>(Wo 1<|Wo 1<|Wd 1 h:)) ?_;refine WS.e O ?_;refine aq 2 Y O O O wx O O O<|Ln<|Es ?_;refine WS.nil ?_;refine Eb<|Et<|Cr<|V0 (Yi O O O aj)<|ad O<|Ln ?_;rw [i];exact cU ((g.1+1,b,c):Z×(az a0×Z)) (by show cI.length-(g.1+1)<cI.length-g.1;omega) (by show g.1+1<=cI.length;omega)<|λ_ h=>Ws.dr (Wd 2 h)<|λ_ a=>cG [_] a
   refine Ue O (cn [1,1]) ?_ WU.stop;refine Lb Y O oC O O O O λk=>?_;refine Ln<|Eu ?_;refine Ue O (λ_ h=>(Wo 1<|Wo 1<|Wd 1 h:)) ?_ WU.stop;refine V0 (Yd 2 O O O ah)<|Ln<|Eu ?_;refine Ue O (λ_ h=>(Wo 1<|Wo 1<|Wd 1 h:)) ?_ WU.stop;refine LA (df x) 3 0 Y O oC O O O O O O aj aj λb c=>?_;refine Ln<|Eu<|U0 O (λ_ h=>(Wo 1<|Wo 1<|Wd 1 h:)) (bP O)<|U0 O (λ_ h=>(Wo 1<|Wo 1<|Wd 1 h:)) (Yf tW O) ?_;refine WU.nil (λ_ h=>(Wo 1<|Wo 1<|Wd 1 h:)) ?_;refine WS.e O ?_;refine aq 2 Y O O O wx O O O<|Ln<|Es ?_;refine WS.nil ?_;refine Eb<|Et<|Cr<|V0 (Yi O O O aj)<|ad O<|Ln ?_;rw [i];exact cU ((g.1+1,b,c):Z×(az a0×Z)) (by show cI.length-(g.1+1)<cI.length-g.1;omega) (by show g.1+1<=cI.length;omega)<|λ_ h=>Ws.dr (Wd 2 h)<|λ_ a=>cG [_] a
  have j:=Zd p;refine ai<|ad O<|Lp Y O bf O (λw f=>rG x w)<|ag ?_;refine Cc O (λt=>?_)<|λt=>?_
  ·rw [aU t] at j;refine Cr<|V0 (Yf BZ O)<|aq 0 Y O O O ei O O O<|ag<|gL 0 (aM (df x).cells.toArray 234 (0,0)) O (by rw [j];rfl) ?_;refine CU (λ_=>ac) [1,1] [10] (.q au 0<|.q au 1<|.q au 2<|.q au 3<|.q ac 5<|.e 4 (.e 6 (.e 7 (.q au 8<|.q au 9 .nil) .stop) .stop)<|.e 6 (.e 4 (.e 7 (.q au 8<|.q au 9 .nil) .stop) .stop) .stop) mixed ah (λ_ _ _ d _ _ h=>by cases d<;>exact h) ?_;refine U0 O (cn [1,1]) (Ym O)<|U0 O (cn [1,1]) (Ym O)<|U0 O (cn [1,1]) (bP O)<|U0 O (cn [1,1]) (Yf tW O)<|U0 O (cn [1,1]) (dv 0 O O i1 O) ?_;refine Ue O (cn [1,1]) ?_ ?_;·refine V0 (Yd 1 O O O ah)<|Ln<|Eu ?_;refine Ue O (cn [1,1]) ?_ WU.stop;refine Lb Y O oC O O O O λk=>?_;refine Ln<|Eu ?_;refine Ue O (λ_ h=>(Wo 1<|Wo 1<|Wd 1 h:)) ?_ WU.stop;refine LA (df x) 3 0 Y O oC O O O O O O aj aj λb c=>?_;refine Ln<|Eu<|U0 O (λ_ h=>(Wo 1<|Wo 1<|Wd 1 h:)) (bP O)<|U0 O (λ_ h=>(Wo 1<|Wo 1<|Wd 1 h:)) (Yf tW O) ?_;refine WU.nil (λ_ h=>(Wo 1<|Wo 1<|Wd 1 h:)) ?_;refine WS.e O ?_;refine aq 2 Y O O O wx O O O<|Ln<|Es ?_;refine WS.nil ?_;refine Eb<|Et<|Cr<|V0 (Yi O O O aj)<|ad O<|Ln ?_;rw [i];exact cU ((g.1+1,b,c):Z×(az a0×Z)) (by show cI.length-(g.1+1)<cI.length-g.1;omega) (by show g.1+1<=cI.length;omega)<|λ_ h=>Ws.dr (Wd 2 h)<|λ_ a=>cG [_] a
   refine Ue O (cn [1,1]) ?_ WU.stop;refine Lb Y O oC O O O O λk=>?_;refine Ln<|Eu ?_;refine Ue O (λ_ h=>(Wo 1<|Wo 1<|Wd 1 h:)) ?_ WU.stop;refine V0 (Yd 2 O O O ah)<|Ln<|Eu ?_;refine Ue O (λ_ h=>(Wo 1<|Wo 1<|Wd 1 h:)) ?_ WU.stop;refine LA (df x) 3 0 Y O oC O O O O O O aj aj λb c=>?_;refine Ln<|Eu<|U0 O (λ_ h=>(Wo 1<|Wo 1<|Wd 1 h:)) (bP O)<|U0 O (λ_ h=>(Wo 1<|Wo 1<|Wd 1 h:)) (Yf tW O) ?_;refine WU.nil (λ_ h=>(Wo 1<|Wo 1<|Wd 1 h:)) ?_;refine WS.e O ?_;refine aq 2 Y O O O wx O O O<|Ln<|Es ?_;refine WS.nil ?_;refine Eb<|Et<|Cr<|V0 (Yi O O O aj)<|ad O<|Ln ?_;rw [i];exact cU ((g.1+1,b,c):Z×(az a0×Z)) (by show cI.length-(g.1+1)<cI.length-g.1;omega) (by show g.1+1<=cI.length;omega)<|λ_ h=>Ws.dr (Wd 2 h)<|λ_ a=>cG [_] a
  rw [ao (by simpa using t)] at j;refine bO<|gL 0 (aM (df x).cells.toArray 234 (0,0)) O (by rw [j];rfl) ?_;refine CU (λ_=>ac) [1,1] [10] (.q au 0<|.q au 1<|.q au 2<|.q au 3<|.q ac 5<|.e 4 (.e 6 (.e 7 (.q au 8<|.q au 9 .nil) .stop) .stop)<|.e 6 (.e 4 (.e 7 (.q au 8<|.q au 9 .nil) .stop) .stop) .stop) mixed ah (λ_ _ _ d _ _ h=>by cases d<;>exact h) ?_;refine U0 O (cn [1,1]) (Ym O)<|U0 O (cn [1,1]) (Ym O)<|U0 O (cn [1,1]) (bP O)<|U0 O (cn [1,1]) (Yf tW O)<|U0 O (cn [1,1]) (dv 0 O O i1 O) ?_;refine Ue O (cn [1,1]) ?_ ?_;·refine V0 (Yd 1 O O O ah)<|Ln<|Eu ?_;refine Ue O (cn [1,1]) ?_ WU.stop;refine Lb Y O oC O O O O λk=>?_;refine Ln<|Eu ?_;refine Ue O (λ_ h=>(Wo 1<|Wo 1<|Wd 1 h:)) ?_ WU.stop;refine LA (df x) 3 0 Y O oC O O O O O O aj aj λb c=>?_;refine Ln<|Eu<|U0 O (λ_ h=>(Wo 1<|Wo 1<|Wd 1 h:)) (bP O)<|U0 O (λ_ h=>(Wo 1<|Wo 1<|Wd 1 h:)) (Yf tW O) ?_;refine WU.nil (λ_ h=>(Wo 1<|Wo 1<|Wd 1 h:)) ?_;refine WS.e O ?_;refine aq 2 Y O O O wx O O O<|Ln<|Es ?_;refine WS.nil ?_;refine Eb<|Et<|Cr<|V0 (Yi O O O aj)<|ad O<|Ln ?_;rw [i];exact cU ((g.1+1,b,c):Z×(az a0×Z)) (by show cI.length-(g.1+1)<cI.length-g.1;omega) (by show g.1+1<=cI.length;omega)<|λ_ h=>Ws.dr (Wd 2 h)<|λ_ a=>cG [_] a
  refine Ue O (cn [1,1]) ?_ WU.stop;refine Lb Y O oC O O O O λk=>?_;refine Ln<|Eu ?_;refine Ue O (λ_ h=>(Wo 1<|Wo 1<|Wd 1 h:)) ?_ WU.stop;refine V0 (Yd 2 O O O ah)<|Ln<|Eu ?_;refine Ue O (λ_ h=>(Wo 1<|Wo 1<|Wd 1 h:)) ?_ WU.stop;refine LA (df x) 3 0 Y O oC O O O O O O aj aj λb c=>?_;refine Ln<|Eu<|U0 O (λ_ h=>(Wo 1<|Wo 1<|Wd 1 h:)) (bP O)<|U0 O (λ_ h=>(Wo 1<|Wo 1<|Wd 1 h:)) (Yf tW O) ?_;refine WU.nil (λ_ h=>(Wo 1<|Wo 1<|Wd 1 h:)) ?_;refine WS.e O ?_;refine aq 2 Y O O O wx O O O<|Ln<|Es ?_;refine WS.nil ?_;refine Eb<|Et<|Cr<|V0 (Yi O O O aj)<|ad O<|Ln ?_;rw [i];exact cU ((g.1+1,b,c):Z×(az a0×Z)) (by show cI.length-(g.1+1)<cI.length-g.1;omega) (by show g.1+1<=cI.length;omega)<|λ_ h=>Ws.dr (Wd 2 h)<|λ_ a=>cG [_] a
 have P:¬g.1<cI.length:=by simpa using m
 refine Ce<|Ex<|Ex<|dy ?_;refine E0 O λQ f=>?_;rw [i' aj] at f;exact ⟨g.2,O,f⟩
def Fl (b H:View) (k:Z):Prop:=∀{x:cu} {a:az a0} {n d:Z},Sl (jI k) 5 H a n x.args->(ka x d).cy=0->sV 316 [bU #[an am x.op,an am x.n,st x.mod,st x.nm,aC a x.args.length n]] b H (dW x)
def JA (c H:View) (ke k:Z):Prop:=∀{b:I cv} {a:az a0} {n d:Z},Sl (iG ke k) 6 H a n b->(gz b d).cy=0->sV 215 [aC a b.length n] c H (hd b)
def Zp {mod nm:Tx} (h:(mod==[])=ac):gZ mod nm=[nm]:=by unfold gZ;rw [aU h]
def Zq {mod nm:Tx} (h:(mod==[])=au):gZ mod nm=[mod,[46],nm]:=by unfold gZ;rw [ao (by rw [h];decide)]
def Zr (l:I cv):hd l=[[123]]++fv l++[[125]]:=rfl
def Zs (h:(ih cL ae).cy=0):pX cL.op cL.mod cL.nm cL.args cL.body cL.other ae:=by cases cL;exact zN h
def u9 (x:cv):hc x=j5 x.op x.mod x.nm (aX x.args) (fv x.body) x.other.length (fv x.other):=by cases x;exact sL _ _ _ _ _ _
def Zt (h:cL.op=4) (a:cL.args[0]? = aa aw) (b:0<cL.other.length):hc cL=[fQ]++dW aw++hd cL.body++[gn]++hd cL.other:=by rw [u9,j5,aU<|bA h,ao aj,aU b,p3 a];simp [hd]
def Zu (h:cL.op=4) (a:cL.args[0]? = aa aw) (b:¬0<cL.other.length):hc cL=[fQ]++dW aw++hd cL.body:=by rw [u9,j5,aU<|bA h,ao aj,ao b,p3 a];simp [hd]
def Zv (h:cL.op=5) (a:cL.args[0]? = aa aw) (b:¬0<cL.other.length):hc cL=[fZ]++dW aw++hd cL.body:=by rw [u9,j5,aU<|bl h,aU h,ao b,p3 a];simp [hd]
def Zw (h:cL.op=6) (a:cL.args[0]? = aa aw):hc cL=[bF]++dW aw++[[59]]:=by rw [u9,j5,ao aj,aU h,p3 a]
def Zx (h:cL.op=7) (a:cL.args[0]? = aa aw):hc cL=[gq]++dW aw++[[59]]:=by rw [u9,j5,ao aj,ao aj,aU h,p3 a]
def Zy (h:cL.op=3):hc cL=gZ cL.mod cL.nm++mz (aX cL.args)++[[59]]:=by rw [u9,j5,ao aj,ao aj,ao aj,aU h]
def Zz (h:cL.op=1) (a:cL.args[0]? = aa aw):hc cL=gZ cL.mod cL.nm++[[61]]++dW aw++[[59]]:=by rw [u9,j5,ao aj,ao aj,ao aj,ao aj,aU h,p3 a]
def ZA (h:cL.op=2) (a:cL.args[0]? = aa aw) (b:cL.args[1]? = aa vo):hc cL=gZ cL.mod cL.nm++[[91]]++dW aw++[[93],[61]]++dW vo++[[59]]:=by rw [u9,j5,ao aj,ao aj,ao aj,ao aj,ao aj,aU h,p3 a,p3 b]
def JB:∀a b:I cv,fv (a++b)=fv a++fv b| [],b=>by simp [fv]| x::a,b=>by rw [hx,show ∀q,fv (x::q)=hc x++fv q from λq=>by rw [fv],JB a b,show ∀q,fv (x::q)=hc x++fv q from λq=>by rw [fv],ho]
def QL (h:c7[ae]? = aa cL):fv (c7.take<|ae+1)=fv (c7.take ae)++hc cL:=by rw [jl h,JB];simp [fv]
def QM (l:I cv) (i:Z):(fv<|l.take i).length<=(fv l).length:=by
 conv=>rhs; rw [<-qb i l,JB,e_]
 omega
def QN {d i:Z} :∀{l:I cv},(e2 l d).cy=0->l[i]? = aa cL->(ih cL d).cy=0| [],_,h=>by simp at h| x::r,a,h=>by obtain ⟨b,c⟩:=EW a;cases i with| zero=>simp at h;subst h;exact b| succ i=>exact QN (i:=i) c (by simpa using h)
variable {nq:I cv}
def JC (h:pX aP bw aS dw c7 nq ae) (a:1<=aP/\aP<=3):jH ac bw aS=au:=(I8 h.name).1 a
def B3 (h:pX aP bw aS dw c7 nq ae) (a:aP≠3) (b:aP≠2):dw.length=1:=by rw [h.len a,ao b]
def ZB (h:pX aP bw aS dw c7 nq ae) (a:aP=2):dw.length=2:=by rw [h.len aj,aU a]
def ZC (h:c7[ae]? = aa cL):(fv<|c7.take ae).length+(hc cL).length<=(fv c7).length:=by have:=QM c7<|ae+1;rw [QL h,e_] at this;exact this
def QO:DM aB 437=aa 9:=ah
def QP:zeroOf aB 437=aa (bU #[st [],st [],st [],st [],st [],st [],st [],st [],st []]):=ah
def ZD:xb aB 437=aa (9,1):=ah
def ZE:eP aB 437=aa 9:=ah
def ZF:iC aB 437=aa 9:=ah
def z5 {h H:View}  (c:Laid h) (i:jH ac bw aS=au):sV 317 [st bw,st aS] h H<|gZ bw aS:=by
 refine ⟨bf,λp r l w q a=>?_⟩;have d:=Zb i;refine enter func317 O 16 O O ?_;refine CE a<|Cs<|ai<|ad O<|V0 (AJ O O)<|ag ?_;refine Cc O (λe=>?_)<|λe=>?_
 ·have b:=Zq (nm:=aS) (by simpa using e);have hN:=congrArg dV b;try simp at hN
  refine Cr<|ad O<|ad O ?_;refine Lb Y O dI O O O O λs=>?_;refine aY (T:=9) (m:=2) 0 [bw,[46]] O O (show 2<=2 by decide) a' λt j=>?_;refine et (gT c j<|e5.2 ⟨d.1,e5.2 ⟨(by decide:dV ([46]:Tx)<=4096),gK _⟩⟩) λu=>?_;refine ag<|Cr<|ad O<|ad O ?_;refine Lb Y O dI O O O O λk=>?_;refine aY (T:=9) (m:=1) 0 [aS] O O (show 1<=1 by decide) a' λn f=>?_;refine et (gT c f<|e5.2 ⟨d.2,gK _⟩) λg=>?_;refine Ln ?_;refine E0 O λo a=>?_;rw [show l++TW [bw,[46]]++TW [aS]=l++TW (gZ bw aS) by rw [b];try simp [TW]] at a;exact ⟨g,O,Wv 2 a⟩
 have b:=Zp (nm:=aS) (by simpa using e);have hN:=congrArg dV b;try simp at hN
 refine bO<|Cr<|ad O<|ad O ?_;refine Lb Y O dI O O O O λk=>?_;refine aY (T:=9) (m:=1) 0 [aS] O O (show 1<=1 by decide) a' λn f=>?_;refine et (gT c f<|e5.2 ⟨d.2,gK _⟩) λg=>?_;refine Ln ?_;refine E0 O λo a=>?_;rw [show l++TW [aS]=l++TW (gZ bw aS) by rw [b];try simp [TW]] at a;exact ⟨g,O,Wv 1 a⟩
variable {aK:Z}
def QQ (o:∀a,a<ae->Fl bt bX a)    (f:Laid bt) (i:Sl (jI ae) 5 bX b' aH dw) (x:(fH dw aK).cy=0):sV 318 [aC b' dw.length aH] bt bX<|mz<|aX dw:=by
 refine ⟨bf,λp r l w z d=>?_⟩;have H:=i.cap;have J:=i.max;simp [mz] at z;have K:=IP dw;refine enter func318 O 28 O O ?_;refine CE d<|ai<|ad O ?_;refine Lb Y O dI O O O O λL=>?_;refine aY (T:=9) (m:=1) 0 [[40]] O O (show 1<=1 by decide) a' λM A=>?_;refine et (gT f A<|e5.2 ⟨(by decide:dV ([40]:Tx)<=4096),gK _⟩) λB=>?_;refine ag<|Cs<|ai<|ad O<|V0 (Yn ll O)<|ad O<|ag<|Cb ?_;refine dZ (ι:=Z×(az a0×Z)) (λg=>[(11,an am (g.1:ab))]) [(0,_),(9,_),(10,_)] (λg=>Ws w (c5 bc.ids<|i9 p r l) (i9 p g.2<|l++TW [[40]]++TW (eH<|(aX dw).take g.1)) [bt,bX]) (λg=>g.1<=dw.length) (λg=>dw.length-g.1) (0,B) (de _) (λ_ h=>by have h:=Ws.dr h (cB:=[bt,bX]) aG;simpa [TW,eH,i9,fR] using h) ?_;intro g hi;refine ai<|V0 (cP O O)<|ag<|Cs ?_;refine Cc O (λe=>?_)<|λe=>?_
 ·have q:g.1<dw.length:=by simpa using e
  have q:g.1<dw.length:=by simpa using e
  obtain ⟨y,j⟩:=dO q;obtain ⟨N,P,C,s⟩:=i.b7 g.1 y j;obtain ⟨a,rfl⟩:∃a,ae=a+1:=by cases ae with| zero=>exact s.elim| succ a=>exact ⟨a,rfl⟩
  obtain ⟨Q,R,D,t⟩:=s;have u:=qJ x j;have v:=QH j;have b:=Jz (aX dw)<|g.1+1;refine bO<|Cs<|Cb<|ai<|ad O<|V0 (Yo ll O O C aj)<|V0 (dG 1 iy O O O<|D) ?_;refine Al Y O pp λS=>?_;refine ar O<|aq 0 Y O O O oF O O O<|ag<|Cs<|ai<|ad O<|V0 (ek O O)<|ag ?_;refine Cc O (λk=>?_)<|λk=>?_;·have c:=QK v (by simp at k;omega);rw [c] at b;simp at b;refine Cr<|ad O ?_;refine Lb Y O dI O O O O λU=>?_;refine aY (T:=9) (m:=1) 0 [[44]] O O (show 1<=1 by decide) a' λV E=>?_;refine Lf 2 O<|Lf 2 O ?_;refine et (gT f E<|e5.2 ⟨(by decide:dV ([44]:Tx)<=4096),gK _⟩) λW=>?_;refine ag<|Cr<|ad O<|V0 (dv 2 O O iy O) ?_;refine et (o a aj t u) λn=>?_;refine Ln<|Eb<|Et<|Cr<|V0 (Yi O O O aj)<|ad O<|Ln ?_;rw [show l++TW [[40]]++TW (eH<|(aX dw).take g.1)++TW [[44]]++TW (dW y)=l++TW [[40]]++TW (eH<|(aX dw).take<|g.1+1) by rw [c];simp [TW]];exact cU ((g.1+1,n):Z×(az a0×Z)) (by show dw.length-(g.1+1)<dw.length-g.1;omega) (by show g.1+1<=dw.length;omega)<|λ_ h=>(Wv 1<|Wt 2 h:)
  have c:=QJ v (by simp at k;omega);rw [c] at b;simp at b;refine bO<|Cr<|ad O<|V0 (dv 0 O O iy O)<|Lf 2 O<|Lf 2 O ?_;refine et (o a aj t u) λn=>?_;refine Ln<|Eb<|Et<|Cr<|V0 (Yi O O O aj)<|ad O<|Ln ?_;rw [show l++TW [[40]]++TW (eH<|(aX dw).take g.1)++TW (dW y)=l++TW [[40]]++TW (eH<|(aX dw).take<|g.1+1) by rw [c];simp [TW]];exact cU ((g.1+1,n):Z×(az a0×Z)) (by show dw.length-(g.1+1)<dw.length-g.1;omega) (by show g.1+1<=dw.length;omega)<|λ_ h=>(Wt 2 h:)
 have X:¬g.1<dw.length:=by simpa using e
 have b:=Jz (aX dw) g.1;refine Ce<|Ex<|Ex<|dy<|Et<|Cr<|ad O ?_;refine Lb Y O dI O O O O λaf=>?_;refine aY (T:=9) (m:=1) 0 [[41]] O O (show 1<=1 by decide) a' λah F=>?_;refine et (gT f F<|e5.2 ⟨(by decide:dV ([41]:Tx)<=4096),gK _⟩) λG=>?_;refine Ln ?_;refine E0 O λal d=>?_;rw [show l++TW [[40]]++TW (eH<|(aX dw).take g.1)++TW [[41]]=l++TW (mz<|aX dw) by rw [i' aj];simp [TW,mz]] at d;exact ⟨G,O,Wv 1 d⟩
def QR (w:aL) : cr aB 350 #[] w λe a=>e = ax (bU (opsL.map st).toArray)/\Ext w a:=by refine enter func350 O 2 O O ?_;refine CE (Vs:=[]) (Ws.init aG)<|ai ?_;refine Al Y O QP λc=>?_;refine ag<|ai<|V0 (Mx QP ZD O O)<|aq 0 Y O O O ZE O O O<|ag<|bq ?_;refine WE.gt (j_ O<|e1 0 O O ZF O) λa b=>?_;exact ⟨O,b.fr⟩
def ZG (f:Laid bt) (k:Z)   {n d:Z} (p:Sl (jI k) 5 bX b' n aw.args) (W:(ka aw d).cy=0):sV 316 [bU #[an am aw.op,an am aw.n,st aw.mod,st aw.nm,aC b' aw.args.length n]] bt bX<|dW aw:=by
 induction k using c8 generalizing aw b' n d;rename_i k X;have t:∀b,b<k->Fl bt bX b:=λb e _ _ _ _ L M=>X b e L M;refine ⟨bf,λaW r l w aZ a=>?_⟩;have a1:=p.cap;have a2:=p.max;have g:=Zf W;have a3:=g.kind;refine enter func316 O 96 O O ?_;refine CE a<|ai ?_;refine WL.box Y O O λa4=>?_;refine ag<|ai<|V0 (Yf u6 O)<|V0 (Yd 0 O O O ah)<|ag<|Cb<|ai<|V0 (bN O O)<|ar O<|ag ?_;refine Cc O (λC=>?_)<|λC=>?_
 ·have e:aw.op=1:=by simpa using C
  have c:=Zg e;have hN:=congrArg dV c;try simp at hN
  have N:=E2 (n:=aw.n) (by have:=g.num;rwa [e] at this);refine Cr<|ad O<|V0 (Yf B1 O)<|V0 (Yd 0 O O O ah)<|Lp Y O bf O (λw a=>zY bt aw.n aj aj w a.V f) ?_;refine Lb Y O dI O O O O λa5=>?_;refine aY (T:=9) (m:=1) 0 [hO aw.n] O O (show 1<=1 by decide) a' λa6 ae=>?_;refine Lf 2 O<|Lf 2 O ?_;refine et (gT f ae<|e5.2 ⟨Jw N.1 N.2,gK _⟩) λaf=>?_;refine Ln<|Eb ?_;refine E0 O λq a=>?_;rw [show l++TW [hO aw.n]=l++TW (dW aw) by rw [c];try simp [TW]] at a;exact ⟨af,O,Wv 1<|Wt 2 a⟩
 have L:¬aw.op=1:=by simpa using C
 refine ai<|V0 (bN O O)<|ar O<|ag ?_;refine Cc O (λD=>?_)<|λD=>?_
 ·have e:aw.op=2:=by simpa using D
  have c:=Zh e;have hN:=congrArg dV c;try simp at hN
  refine Cr<|ad O ?_;refine Lb Y O dI O O O O λa8=>?_;refine aY (T:=9) (m:=1) 0 [[105,110]] O O (show 1<=1 by decide) a' λa9 al=>?_;refine Lf 2 O<|Lf 2 O ?_;refine et (gT f al<|e5.2 ⟨(by decide:dV ([105,110]:Tx)<=4096),gK _⟩) λao=>?_;refine Ln<|Eb ?_;refine E0 O λq a=>?_;rw [show l++TW [[105,110]]=l++TW (dW aw) by rw [c];try simp [TW]] at a;exact ⟨ao,O,Wv 1<|Wt 2 a⟩
 have M:¬aw.op=2:=by simpa using D
 refine ai<|V0 (bN O O)<|ar O<|ag ?_;refine Cc O (λE=>?_)<|λE=>?_
 ·have e:aw.op=3:=by simpa using E
  have c:=Zi e;have hN:=congrArg dV c;try simp at hN
  have u:=Jy g aj;refine Cr<|ad O<|V0 (Yf xV O)<|V0 (Yd 0 O O O ah)<|V0 (Yf xW O)<|V0 (Yd 0 O O O ah)<|Lf 2 O<|Lf 2 O ?_;refine et (z5 (H:=bX) f u) λap=>?_;refine Ln<|Eb ?_;refine E0 O λq a=>?_;rw [show l++TW (gZ aw.mod aw.nm)=l++TW (dW aw) by rw [c];try simp [TW]] at a;exact ⟨ap,O,Wt 2 a⟩
 have a_:¬aw.op=3:=by simpa using E
 refine ai<|V0 (bN O O)<|ar O<|ag ?_;refine Cc O (λF=>?_)<|λF=>?_
 ·have e:aw.op=4:=by simpa using F
  have u:=Jy g aj;have s:=g.EV<|bA e;obtain ⟨y,j⟩:∃y,aw.args[0]? = aa y:=sU s a';obtain ⟨P,Q,v,o⟩:=p.b7 0 y j;obtain ⟨b,rfl⟩:∃b,k=b+1:=by cases k with| zero=>exact o.elim| succ b=>exact ⟨b,rfl⟩
  obtain ⟨R,S,x,z⟩:=o;have A:=qJ g.sub j;have c:=Zj e j;have hN:=congrArg dV c;try simp at hN
  refine ai<|ad O<|V0 (Yf xV O)<|V0 (Yd 0 O O O ah)<|V0 (Yf xW O)<|V0 (Yd 0 O O O ah)<|Lf 2 O<|Lf 2 O ?_;refine et (z5 (H:=bX) f u) λba=>?_;refine ag<|ai<|ad O ?_;refine Lb Y O dI O O O O λbb=>?_;refine aY (T:=9) (m:=1) 0 [[91]] O O (show 1<=1 by decide) a' λbc aq=>?_;refine et (gT f aq<|e5.2 ⟨(by decide:dV ([91]:Tx)<=4096),gK _⟩) λbd=>?_;refine ag<|ai<|ad O<|V0 (Yf sO O)<|V0 (Yd 2 O O O ah)<|V0 (Yo (i:=0) ll O O v aj)<|V0 (dG 2 iy O O O<|x) ?_;refine et (t b aj z A) λbe=>?_;refine ag<|Cr<|ad O ?_;refine Lb Y O dI O O O O λbh=>?_;refine aY (T:=9) (m:=1) 0 [[93]] O O (show 1<=1 by decide) a' λbi av=>?_;refine et (gT f av<|e5.2 ⟨(by decide:dV ([93]:Tx)<=4096),gK _⟩) λaA=>?_;refine Ln<|Eb ?_;refine E0 O λq a=>?_;rw [show l++TW (gZ aw.mod aw.nm)++TW [[91]]++TW (dW y)++TW [[93]]=l++TW (dW aw) by rw [c];try simp [TW]] at a;exact ⟨aA,O,Wv 2<|Wt 2 a⟩
 have bj:¬aw.op=4:=by simpa using F
 refine ai<|V0 (bN O O)<|ar O<|ag ?_;refine Cc O (λG=>?_)<|λG=>?_
 ·have e:aw.op=5:=by simpa using G
  have u:=Jy g aj;have c:=Zk e;have hN:=congrArg dV c;try simp at hN
  refine ai<|ad O<|V0 (Yf xV O)<|V0 (Yd 0 O O O ah)<|V0 (Yf xW O)<|V0 (Yd 0 O O O ah)<|Lf 2 O<|Lf 2 O ?_;refine et (z5 (H:=bX) f u) λbk=>?_;refine ag<|Cr<|ad O<|V0 (Yf sO O)<|V0 (Yd 2 O O O ah) ?_;refine et (QQ t f p g.sub) λaD=>?_;refine Ln<|Eb ?_;refine E0 O λq a=>?_;rw [show l++TW (gZ aw.mod aw.nm)++TW (mz<|aX aw.args)=l++TW (dW aw) by rw [c];try simp [TW]] at a;exact ⟨aD,O,Wt 2 a⟩
 have bm:¬aw.op=5:=by simpa using G
 refine ai<|V0 (bN O O)<|ar O<|ag ?_;refine Cc O (λJ=>?_)<|λJ=>?_
 ·have e:aw.op=6:=by simpa using J
  have s:=g.EV<|bl e;obtain ⟨y,j⟩:∃y,aw.args[0]? = aa y:=sU s a';obtain ⟨P,Q,v,o⟩:=p.b7 0 y j;obtain ⟨b,rfl⟩:∃b,k=b+1:=by cases k with| zero=>exact o.elim| succ b=>exact ⟨b,rfl⟩
  obtain ⟨R,S,x,z⟩:=o;have A:=qJ g.sub j;have c:=Zl e j;have hN:=congrArg dV c;try simp at hN
  refine ai<|ad O ?_;refine Lb Y O dI O O O O λbn=>?_;refine aY (T:=9) (m:=1) 0 [[33]] O O (show 1<=1 by decide) a' λbo aE=>?_;refine Lf 2 O<|Lf 2 O ?_;refine et (gT f aE<|e5.2 ⟨(by decide:dV ([33]:Tx)<=4096),gK _⟩) λbp=>?_;refine ag<|Cr<|ad O<|V0 (Yf sO O)<|V0 (Yd 2 O O O ah)<|V0 (Yo (i:=0) ll O O v aj)<|V0 (dG 2 iy O O O<|x) ?_;refine et (t b aj z A) λaF=>?_;refine Ln<|Eb ?_;refine E0 O λq a=>?_;rw [show l++TW [[33]]++TW (dW y)=l++TW (dW aw) by rw [c];try simp [TW]] at a;exact ⟨aF,O,Wv 1<|Wt 2 a⟩
 have bq:¬aw.op=6:=by simpa using J
 have B:7<=aw.op/\aw.op<=15:=aj;have s:=g.OS B.1;obtain ⟨y,j⟩:∃y,aw.args[0]? = aa y:=sU s a';obtain ⟨U,K⟩:∃y,aw.args[1]? = aa y:=sU s a';obtain ⟨P,Q,v,o⟩:=p.b7 0 y j;obtain ⟨br,bs,aG,aH⟩:=p.b7 1 U K;obtain ⟨b,rfl⟩:∃b,k=b+1:=by cases k with| zero=>exact o.elim| succ b=>exact ⟨b,rfl⟩
 obtain ⟨R,S,x,z⟩:=o;obtain ⟨bu,bv,aI,aJ⟩:=aH;have A:=qJ g.sub j;have aK:=qJ g.sub K;have c:=Zm B.1 j K;have hN:=congrArg dV c;try simp at hN
 refine ai<|ad O ?_;refine Lb Y O dI O O O O λbw=>?_;refine aY (T:=9) (m:=1) 0 [[40]] O O (show 1<=1 by decide) a' λbx aP=>?_;refine Lf 2 O<|Lf 2 O ?_;refine et (gT f aP<|e5.2 ⟨(by decide:dV ([40]:Tx)<=4096),gK _⟩) λbz=>?_;refine ag<|ai<|ad O<|V0 (Yf sO O)<|V0 (Yd 2 O O O ah)<|V0 (Yo (i:=0) ll O O v aj)<|V0 (dG 2 iy O O O<|x) ?_;refine et (t b aj z A) λbB=>?_;refine ag<|Cs ?_;refine WC.w_ (λ_=>ac) [0,0] [(0,ac),(2,ac),(3,ac),(4,ac),(1,au),(5,ac),(6,au),(7,au)] mixed ah ah (λ_ _ _ d _ _ h=>by cases d<;>exact h) ?_;refine D0 O (cn [0,0]) (Ym O)<|D0 O (cn [0,0]) (Yf u6 O)<|D0 O (cn [0,0]) (Yd 0 O O O ah)<|D0 O (cn [0,0]) (m7 (((aw.op-7).toNat:Z):ab) O O aj aj) ?_;refine De O (cn [0,0]) ?_;refine Lp Y O bf O (λw a=>QR w)<|Ln<|Ed<|D0 O (cn [0,0]) (G8 (i:=(aw.op-7).toNat) QO O O aj<|Zn B) ?_;refine De O (cn [0,0]) ?_;refine Lb Y O dI O O O O λbC=>?_;refine aY (T:=9) (m:=1) 0 [rx aw.op] O O (show 1<=1 by decide) a' λbD aR=>?_;refine Ln<|Ed ?_;refine De O (λ_ h=>(Wv 1<|Wo 0<|Wo 0 h:)) ?_;refine et (gT f aR<|e5.2 ⟨Zo _ B,gK _⟩) λbF=>?_;refine Ln<|Ed ?_;refine WD.nil (λ_ h=>(Wv 1<|Wo 0<|Wo 0 h:)) ?_;refine Et<|ai<|ad O<|V0 (Yf sO O)<|V0 (Yd 2 O O O ah)<|V0 (Yo (i:=1) ll O O aG aj)<|V0 (dG 3 iy O O O<|aI) ?_;refine et (t b aj aJ aK) λbG=>?_;refine ag<|Cr<|ad O ?_;refine Lb Y O dI O O O O λbH=>?_;refine aY (T:=9) (m:=1) 0 [[41]] O O (show 1<=1 by decide) a' λbI aS=>?_;refine et (gT f aS<|e5.2 ⟨(by decide:dV ([41]:Tx)<=4096),gK _⟩) λaU=>?_;refine Ln<|Eb ?_;refine E0 O λq a=>?_;rw [show l++TW [[40]]++TW (dW y)++TW [rx aw.op]++TW (dW U)++TW [[41]]=l++TW (dW aw) by rw [c];try simp [TW]] at a;exact ⟨aU,O,Wv 3<|Wt 2 a⟩
def QS {x:cv}  (h:x.op=4\/x.op=5) (a:x.args[0]? = aa aw):1+(dW aw).length+(hd x.body).length<=(hc x).length:=by rw [u9,j5,aU h,p3 a];simp only [e_,eL,fT,hd];omega
variable {ju:Type}
def x4 {f:bW->I ju}    (h:cg[ae]? = aa hg):(cg.take<|ae+1).flatMap f=(cg.take ae).flatMap f++f hg:=by rw [jl h];simp
def xz {f:bW->I ju}    (h:cg[ae]? = aa hg):((cg.take ae).flatMap f).length+(f hg).length<=(cg.flatMap f).length:=by
 conv=>rhs; rw [<-qb (ae+1) cg]
 rw [At,e_,x4 h,e_];omega
def ZH (h:fI.kind=1):fO fI=g7 fI.cz++[[99,111,110,115,116],fI.nm,[61],hO fI.n]++[[59]]:=by rw [fO,pj,aU h];rfl
def ZI (h:fI.kind=2):fO fI=g7 fI.cz++[[118,97,114],fI.nm]++[[59]]:=by rw [fO,pj,ao aj,aU h];rfl
def ZJ (h:fI.kind=3):fO fI=g7 fI.cz++[[97,114,114,97,121],fI.nm,[91],hO fI.n,[93]]++[[59]]:=by rw [fO,pj,ao aj,ao aj,aU h];rfl
def ZK (h:cI[ae]? = aa bw):(cI.map λs=>[s])[ae]? = aa [bw]:=by rw [gh,h];rfl
def QT (m:cM):(hf m).length=3+(m.aI.flatMap ge).length+(m.decls.flatMap fO).length+(m.procs.flatMap gv).length+1+(hd m.main).length+1:=by unfold hf;simp only [e_,eL,fT]
def ZL (p:bz):(gv p).length=(g7 p.cz).length+3+(eH<|p.params.map λs=>[s]).length+1+(p.a6.flatMap iJ).length+(hd p.body).length:=by unfold gv;simp only [e_,eL,fT]
def ZM {ke k:Z} (z:∀k,Fl bt bX k) (Q:JA bt bX ke k)    {a2:az a0}  {a3:az a0} {n3 d:Z} (g:Laid bt) (s:Sl (jI ke) 5 bX b' ae cL.args) (av:Sl (iG ke k) 6 bX a2 aH cL.body) (aA:Sl (iG ke k) 6 bX a3 n3 cL.other) (aD:(ih cL d).cy=0):sV 262 [bU #[an am cL.op,st cL.mod,st cL.nm,aC b' cL.args.length ae,aC a2 cL.body.length aH,aC a3 cL.other.length n3]] bt bX<|hc cL:=by
 refine ⟨bf,λa_ r l w ba c=>?_⟩;have bb:=s.cap;have bc:=s.max;have e:=Zs aD;have bd:=e.kind;refine enter func262 O 118 O O ?_;refine CE c<|ai ?_;refine WL.box Y O O λbe=>?_;refine ag<|Cs<|ai<|V0 (Yf oG O)<|V0 (Yd 0 O O O ah)<|ag<|Cb<|Cs<|ai<|V0 (bN O O)<|ar O<|ag ?_;refine Cc O (λR=>?_)<|λR=>?_
 ·have E:cL.op=4:=by simpa using R
  refine bO ?_;refine Cc O (λC=>?_)<|λC=>?_
  ·have j:=B3 e aj aj;obtain ⟨y,b⟩:∃y,cL.args[0]? = aa y:=sU j a';obtain ⟨F,G,n,h⟩:=s.b7 0 y b;obtain ⟨a,rfl⟩:∃a,ke=a+1:=by cases ke with| zero=>exact h.elim| succ a=>exact ⟨a,rfl⟩
   obtain ⟨J,K,o,p⟩:=h;have q:=qJ e.exprs b;have hN:=QS (x:=cL) aj b;have S:(gz cL.body<|d+1).cy=0:=e.body (by simp [inner,E]);refine ai<|ar O<|ag<|Cs<|ai<|V0 (Yf oG O)<|V0 (Yd 0 O O O ah)<|V0 (bN O O)<|ag ?_;refine Cc O (λL=>?_)<|λL=>?_;·simp [E] at L
   refine bO<|ai<|ad O<|ad O ?_;refine Lb Y O dI O O O O λaE=>?_;refine aY (T:=9) (m:=1) 0 [fQ] O O (show 1<=1 by decide) a' λaF U=>?_;refine Lf 2 O<|Lf 2 O ?_;refine et (gT g U<|e5.2 ⟨(by decide:dV fQ<=4096),gK _⟩) λaG=>?_;refine ag<|ai<|ad O<|V0 (Yf mG O)<|V0 (Yd 2 O O O ah)<|V0 (Yo (i:=0) ll O O n aj)<|V0 (dG 2 iy O O O<|o) ?_;refine et (z a p q) λaI=>?_;refine ag<|ai<|ad O<|V0 (Yf wq O)<|V0 (Yd 2 O O O ah) ?_;refine et (Q av S) λV=>?_;refine ag<|Cs<|ai<|V0 (Yf sP O)<|V0 (Yd 2 O O O ah)<|V0 (Yn pq O)<|V0 (ek O O) ?_;rw [xX];refine ag ?_;refine Cc O (λA=>?_)<|λA=>?_
   ·have D:0<cL.other.length:=by simpa using A
    have f:=Zt E b D;have aJ:=congrArg dV f;simp at aJ;have aK:(gz cL.other<|d+1).cy=0:=e.other D;refine ai<|ad O ?_;refine Lb Y O dI O O O O λbh=>?_;refine aY (T:=9) (m:=1) 0 [[101,108,115,101]] O O (show 1<=1 by decide) a' λbi aP=>?_;refine et (gT g aP<|e5.2 ⟨(by decide:dV ([101,108,115,101]:Tx)<=4096),gK _⟩) λbj=>?_;refine ag<|Cr<|ad O<|V0 (Yf sP O)<|V0 (Yd 2 O O O ah) ?_;refine et (Q aA aK) λaR=>?_;refine ag<|bq<|cZ<|Er ?_;refine WE.ul O λB c=>?_;rw [show l++TW [fQ]++TW (dW y)++TW (hd cL.body)++TW [[101,108,115,101]]++TW (hd cL.other)=l++TW (hc cL) by rw [f];try simp [TW,fQ,gn,fZ,bF,gq]] at c;exact ⟨aR,O,Wv 2<|Wt 2 c⟩
   have D:¬0<cL.other.length:=by simpa using A
   have f:=Zu E b D;refine bO<|bq<|cZ<|Er ?_;refine WE.ul O λB c=>?_;rw [show l++TW [fQ]++TW (dW y)++TW (hd cL.body)=l++TW (hc cL) by rw [f];try simp [TW,fQ,gn,fZ,bF,gq]] at c;exact ⟨V,O,Wv 1<|Wt 2 c⟩
  simp [E] at C
 have bk:¬cL.op=4:=by simpa using R
 refine Cr<|V0 (bN O O)<|ar O<|ag ?_;refine Cc O (λC=>?_)<|λC=>?_
 ·have W:cL.op=5:=by simpa using C
  have j:=B3 e aj aj;obtain ⟨y,b⟩:∃y,cL.args[0]? = aa y:=sU j a';obtain ⟨F,G,n,h⟩:=s.b7 0 y b;obtain ⟨a,rfl⟩:∃a,ke=a+1:=by cases ke with| zero=>exact h.elim| succ a=>exact ⟨a,rfl⟩
  obtain ⟨J,K,o,p⟩:=h;have q:=qJ e.exprs b;have hN:=QS (x:=cL) aj b;have S:(gz cL.body<|d+1).cy=0:=e.body (by simp [inner,W]);refine ai<|ar O<|ag<|Cs<|ai<|V0 (Yf oG O)<|V0 (Yd 0 O O O ah)<|V0 (bN O O)<|ag ?_;refine Cc O (λL=>?_)<|λL=>?_
  ·refine Cr<|ar O<|ag<|ai<|ad O<|ad O ?_;refine Lb Y O dI O O O O λaE=>?_;refine aY (T:=9) (m:=1) 0 [fZ] O O (show 1<=1 by decide) a' λaF U=>?_;refine Lf 2 O<|Lf 2 O ?_;refine et (gT g U<|e5.2 ⟨(by decide:dV fZ<=4096),gK _⟩) λaG=>?_;refine ag<|ai<|ad O<|V0 (Yf mG O)<|V0 (Yd 2 O O O ah)<|V0 (Yo (i:=0) ll O O n aj)<|V0 (dG 2 iy O O O<|o) ?_;refine et (z a p q) λaI=>?_;refine ag<|ai<|ad O<|V0 (Yf wq O)<|V0 (Yd 2 O O O ah) ?_;refine et (Q av S) λV=>?_;refine ag<|Cs<|ai<|V0 (Yf sP O)<|V0 (Yd 2 O O O ah)<|V0 (Yn pq O)<|V0 (ek O O) ?_;rw [xX];refine ag ?_;refine Cc O (λA=>?_)<|λA=>?_;·have:=e.OV.2 aj;rw [this] at A;simp at A
   have D:¬0<cL.other.length:=by simpa using A
   have f:=Zv W b D;refine bO<|bq<|cZ<|Er ?_;refine WE.ul O λB c=>?_;rw [show l++TW [fZ]++TW (dW y)++TW (hd cL.body)=l++TW (hc cL) by rw [f];try simp [TW,fQ,gn,fZ,bF,gq]] at c;exact ⟨V,O,Wv 1<|Wt 2 c⟩
  simp [W] at L
 have bm:¬cL.op=5:=by simpa using C
 refine ai<|V0 (bN O O)<|ar O<|ag ?_;refine Cc O (λX=>?_)<|λX=>?_
 ·have t:cL.op=6:=by simpa using X
  have j:=B3 e aj aj;obtain ⟨y,b⟩:∃y,cL.args[0]? = aa y:=sU j a';obtain ⟨F,G,n,h⟩:=s.b7 0 y b;obtain ⟨a,rfl⟩:∃a,ke=a+1:=by cases ke with| zero=>exact h.elim| succ a=>exact ⟨a,rfl⟩
  obtain ⟨J,K,o,p⟩:=h;have q:=qJ e.exprs b;have f:=Zw t b;have hN:=congrArg dV f;try simp at hN
  refine ai<|ad O ?_;refine Lb Y O dI O O O O λbn=>?_;refine aY (T:=9) (m:=1) 0 [[114,101,116,117,114,110]] O O (show 1<=1 by decide) a' λbo aS=>?_;refine Lf 2 O<|Lf 2 O ?_;refine et (gT g aS<|e5.2 ⟨(by decide:dV ([114,101,116,117,114,110]:Tx)<=4096),gK _⟩) λbp=>?_;refine ag<|Cr<|ad O<|V0 (Yf mG O)<|V0 (Yd 2 O O O ah)<|V0 (Yo (i:=0) ll O O n aj)<|V0 (dG 2 iy O O O<|o) ?_;refine et (z a p q) λbr=>?_;refine Ln<|Eb<|Et<|Cr<|ad O ?_;refine Lb Y O dI O O O O λN=>?_;refine aY (T:=9) (m:=1) 0 [[59]] O O (show 1<=1 by decide) a' λP u=>?_;refine et (gT g u<|e5.2 ⟨(by decide:dV ([59]:Tx)<=4096),gK _⟩) λv=>?_;refine Ln ?_;refine E0 O λB c=>?_;rw [show l++TW [[114,101,116,117,114,110]]++TW (dW y)++TW [[59]]=l++TW (hc cL) by rw [f];try simp [TW,fQ,gn,fZ,bF,gq]] at c;exact ⟨v,O,Wv 2<|Wt 2 c⟩
 have bs:¬cL.op=6:=by simpa using X
 refine ai<|V0 (bN O O)<|ar O<|ag ?_;refine Cc O (λaf=>?_)<|λaf=>?_
 ·have t:cL.op=7:=by simpa using af
  have j:=B3 e aj aj;obtain ⟨y,b⟩:∃y,cL.args[0]? = aa y:=sU j a';obtain ⟨F,G,n,h⟩:=s.b7 0 y b;obtain ⟨a,rfl⟩:∃a,ke=a+1:=by cases ke with| zero=>exact h.elim| succ a=>exact ⟨a,rfl⟩
  obtain ⟨J,K,o,p⟩:=h;have q:=qJ e.exprs b;have f:=Zx t b;have hN:=congrArg dV f;try simp at hN
  refine ai<|ad O ?_;refine Lb Y O dI O O O O λbu=>?_;refine aY (T:=9) (m:=1) 0 [[111,117,116]] O O (show 1<=1 by decide) a' λbv aU=>?_;refine Lf 2 O<|Lf 2 O ?_;refine et (gT g aU<|e5.2 ⟨(by decide:dV ([111,117,116]:Tx)<=4096),gK _⟩) λbw=>?_;refine ag<|Cr<|ad O<|V0 (Yf mG O)<|V0 (Yd 2 O O O ah)<|V0 (Yo (i:=0) ll O O n aj)<|V0 (dG 2 iy O O O<|o) ?_;refine et (z a p q) λbx=>?_;refine Ln<|Eb<|Et<|Cr<|ad O ?_;refine Lb Y O dI O O O O λN=>?_;refine aY (T:=9) (m:=1) 0 [[59]] O O (show 1<=1 by decide) a' λP u=>?_;refine et (gT g u<|e5.2 ⟨(by decide:dV ([59]:Tx)<=4096),gK _⟩) λv=>?_;refine Ln ?_;refine E0 O λB c=>?_;rw [show l++TW [[111,117,116]]++TW (dW y)++TW [[59]]=l++TW (hc cL) by rw [f];try simp [TW,fQ,gn,fZ,bF,gq]] at c;exact ⟨v,O,Wv 2<|Wt 2 c⟩
 have bz:¬cL.op=7:=by simpa using af
 refine ai<|V0 (bN O O)<|ar O<|ag ?_;refine Cc O (λal=>?_)<|λal=>?_
 ·have t:cL.op=3:=by simpa using al
  have M:=JC e aj;have f:=Zy t;have hN:=congrArg dV f;try simp at hN
  refine ai<|ad O<|V0 (Yf wn O)<|V0 (Yd 0 O O O ah)<|V0 (Yf wo O)<|V0 (Yd 0 O O O ah)<|Lf 2 O<|Lf 2 O ?_;refine et (z5 (H:=bX) g M) λbB=>?_;refine ag<|Cr<|ad O<|V0 (Yf mG O)<|V0 (Yd 2 O O O ah) ?_;refine et (QQ (λa _=>z a) g s e.exprs) λbC=>?_;refine Ln<|Eb<|Et<|Cr<|ad O ?_;refine Lb Y O dI O O O O λN=>?_;refine aY (T:=9) (m:=1) 0 [[59]] O O (show 1<=1 by decide) a' λP u=>?_;refine et (gT g u<|e5.2 ⟨(by decide:dV ([59]:Tx)<=4096),gK _⟩) λv=>?_;refine Ln ?_;refine E0 O λB c=>?_;rw [show l++TW (gZ cL.mod cL.nm)++TW (mz<|aX cL.args)++TW [[59]]=l++TW (hc cL) by rw [f];try simp [TW,fQ,gn,fZ,bF,gq]] at c;exact ⟨v,O,Wv 1<|Wt 2 c⟩
 have bD:¬cL.op=3:=by simpa using al
 refine ai<|V0 (bN O O)<|ar O<|ag ?_;refine Cc O (λao=>?_)<|λao=>?_
 ·have t:cL.op=1:=by simpa using ao
  have M:=JC e aj;have j:=B3 e aj aj;obtain ⟨y,b⟩:∃y,cL.args[0]? = aa y:=sU j a';obtain ⟨F,G,n,h⟩:=s.b7 0 y b;obtain ⟨a,rfl⟩:∃a,ke=a+1:=by cases ke with| zero=>exact h.elim| succ a=>exact ⟨a,rfl⟩
  obtain ⟨J,K,o,p⟩:=h;have q:=qJ e.exprs b;have f:=Zz t b;have hN:=congrArg dV f;try simp at hN
  refine ai<|ad O<|V0 (Yf wn O)<|V0 (Yd 0 O O O ah)<|V0 (Yf wo O)<|V0 (Yd 0 O O O ah)<|Lf 2 O<|Lf 2 O ?_;refine et (z5 (H:=bX) g M) λbG=>?_;refine ag<|ai<|ad O ?_;refine Lb Y O dI O O O O λbH=>?_;refine aY (T:=9) (m:=1) 0 [[61]] O O (show 1<=1 by decide) a' λbI aW=>?_;refine et (gT g aW<|e5.2 ⟨(by decide:dV ([61]:Tx)<=4096),gK _⟩) λbJ=>?_;refine ag<|Cr<|ad O<|V0 (Yf mG O)<|V0 (Yd 2 O O O ah)<|V0 (Yo (i:=0) ll O O n aj)<|V0 (dG 2 iy O O O<|o) ?_;refine et (z a p q) λbK=>?_;refine Ln<|Eb<|Et<|Cr<|ad O ?_;refine Lb Y O dI O O O O λN=>?_;refine aY (T:=9) (m:=1) 0 [[59]] O O (show 1<=1 by decide) a' λP u=>?_;refine et (gT g u<|e5.2 ⟨(by decide:dV ([59]:Tx)<=4096),gK _⟩) λv=>?_;refine Ln ?_;refine E0 O λB c=>?_;rw [show l++TW (gZ cL.mod cL.nm)++TW [[61]]++TW (dW y)++TW [[59]]=l++TW (hc cL) by rw [f];try simp [TW,fQ,gn,fZ,bF,gq]] at c;exact ⟨v,O,Wv 2<|Wt 2 c⟩
 have bL:¬cL.op=1:=by simpa using ao
 refine ai<|V0 (bN O O)<|ar O<|ag ?_;refine Cc O (λap=>?_)<|λap=>?_
 ·have t:cL.op=2:=by simpa using ap
  have M:=JC e aj;have j:=ZB e aj;obtain ⟨y,b⟩:∃y,cL.args[0]? = aa y:=sU j a';obtain ⟨aw,aq⟩:∃y,cL.args[1]? = aa y:=sU j a';obtain ⟨F,G,n,h⟩:=s.b7 0 y b;obtain ⟨bM,bP,aZ,a1⟩:=s.b7 1 aw aq;obtain ⟨a,rfl⟩:∃a,ke=a+1:=by cases ke with| zero=>exact h.elim| succ a=>exact ⟨a,rfl⟩
  obtain ⟨J,K,o,p⟩:=h;obtain ⟨bQ,bR,a4,a5⟩:=a1;have q:=qJ e.exprs b;have a6:=qJ e.exprs aq;have f:=ZA t b aq;have hN:=congrArg dV f;try simp at hN
  refine ai<|ad O<|V0 (Yf wn O)<|V0 (Yd 0 O O O ah)<|V0 (Yf wo O)<|V0 (Yd 0 O O O ah)<|Lf 2 O<|Lf 2 O ?_;refine et (z5 (H:=bX) g M) λbS=>?_;refine ag<|ai<|ad O ?_;refine Lb Y O dI O O O O λbT=>?_;refine aY (T:=9) (m:=1) 0 [[91]] O O (show 1<=1 by decide) a' λbW a8=>?_;refine et (gT g a8<|e5.2 ⟨(by decide:dV ([91]:Tx)<=4096),gK _⟩) λbY=>?_;refine ag<|ai<|ad O<|V0 (Yf mG O)<|V0 (Yd 2 O O O ah)<|V0 (Yo (i:=0) ll O O n aj)<|V0 (dG 2 iy O O O<|o) ?_;refine et (z a p q) λbZ=>?_;refine ag<|ai<|ad O ?_;refine Lb Y O dI O O O O λb1=>?_;refine aY (T:=9) (m:=2) 0 [[93],[61]] O O (show 2<=2 by decide) a' λb2 a9=>?_;refine et (gT g a9<|e5.2 ⟨(by decide:dV ([93]:Tx)<=4096),e5.2 ⟨(by decide:dV ([61]:Tx)<=4096),gK _⟩⟩) λb3=>?_;refine ag<|Cr<|ad O<|V0 (Yf mG O)<|V0 (Yd 2 O O O ah)<|V0 (Yo (i:=1) ll O O aZ aj)<|V0 (dG 3 iy O O O<|a4) ?_;refine et (z a a5 a6) λb4=>?_;refine Ln<|Eb<|Et<|Cr<|ad O ?_;refine Lb Y O dI O O O O λN=>?_;refine aY (T:=9) (m:=1) 0 [[59]] O O (show 1<=1 by decide) a' λP u=>?_;refine et (gT g u<|e5.2 ⟨(by decide:dV ([59]:Tx)<=4096),gK _⟩) λv=>?_;refine Ln ?_;refine E0 O λB c=>?_;rw [show l++TW (gZ cL.mod cL.nm)++TW [[91]]++TW (dW y)++TW [[93],[61]]++TW (dW aw)++TW [[59]]=l++TW (hc cL) by rw [f];try simp [TW,fQ,gn,fZ,bF,gq]] at c;exact ⟨v,O,Wv 3<|Wt 2 c⟩
 exact (show False by simp at ap;omega).elim
def ZN (e:Laid bt) (q:∀k,Fl bt bX k)  (k:Z)    (f:Sl (iG ae k) 6 bX b' aH c7) (s:(gz c7 aK).cy=0):sV 215 [aC b' c7.length aH] bt bX<|hd c7:=by
 induction k using c8 generalizing c7 b' aH aK;rename_i k t;refine ⟨bf,λi r l w L b=>?_⟩;have M:=f.cap;have N:=f.max;have u:(e2 c7 aK).cy=0:=(zO s).2.2;have j:=Zr c7;have hN:=congrArg dV j;try simp at hN
 refine enter func215 O 22 O O ?_;refine CE b<|ai<|ad O ?_;refine Lb Y O dI O O O O λP=>?_;refine aY (T:=9) (m:=1) 0 [[123]] O O (show 1<=1 by decide) a' λQ v=>?_;refine et (gT e v<|e5.2 ⟨(by decide:dV ([123]:Tx)<=4096),gK _⟩) λn=>?_;refine ag<|Cs<|ai<|ad O<|V0 (Yn pq O)<|ad O<|ag<|Cb ?_;refine dZ (ι:=Z×(az a0×Z)) (λg=>[(11,an am (g.1:ab))]) [(0,_),(9,_),(10,_)] (λg=>Ws w (c5 bc.ids<|i9 i r l) (i9 i g.2<|l++TW [[123]]++TW (fv<|c7.take g.1)) [bt,bX]) (λg=>g.1<=c7.length) (λg=>c7.length-g.1) (0,n) (de _) (λ_ h=>by have h:=Ws.dr h (cB:=[bt,bX]) aG;show Ws w _ (i9 i n<|l++TW [[123]]++TW (fv<|c7.take 0)) [bt,bX] _;rw [show TW (fv<|c7.take 0)=[] from O,qd];exact h) ?_;intro g R;refine ai<|V0 (cP O O)<|ag<|Cs ?_;refine Cc O (λc=>?_)<|λc=>?_
 ·have o:g.1<c7.length:=by simpa using c
  have o:g.1<c7.length:=by simpa using c
  obtain ⟨y,d⟩:=dO o;obtain ⟨S,U,x,p⟩:=f.b7 g.1 y d;obtain ⟨a,rfl⟩:∃a,k=a+1:=by cases k with| zero=>exact p.elim| succ a=>exact ⟨a,rfl⟩
  obtain ⟨V,W,X,af,ah,al,z,A,B,C⟩:=p;have D:=QN u d;have ao:=ZC d;have E:JA bt bX ae a:=λF G=>t a aj F G;refine bO<|Cs<|Cb<|ai<|V0 (Yo pq O O x aj)<|V0 (dG 1 lm O O O<|z) ?_;refine Al Y O qN λap=>?_;refine aq 0 Y O O O rI O O O<|ag<|Cr<|ad O<|V0 (dv 0 O O lm O)<|Lf 2 O<|Lf 2 O ?_;refine et (ZM q E e A B C D) λH=>?_;refine Ln<|Eb<|Et<|Cr<|V0 (Yi O O O aj)<|ad O<|Ln ?_;rw [show l++TW [[123]]++TW (fv<|c7.take g.1)++TW (hc y)=l++TW [[123]]++TW (fv<|c7.take<|g.1+1) by rw [QL d];simp [TW]];exact cU ((g.1+1,H):Z×(az a0×Z)) (by show c7.length-(g.1+1)<c7.length-g.1;omega) (by show g.1+1<=c7.length;omega)<|λ_ h=>(Wt 2 h:)
 have ar:¬g.1<c7.length:=by simpa using c
 have av:=QM c7 g.1;refine Ce<|Ex<|Ex<|dy<|Et<|Cr<|ad O ?_;refine Lb Y O dI O O O O λaw=>?_;refine aY (T:=9) (m:=1) 0 [[125]] O O (show 1<=1 by decide) a' λaA J=>?_;refine et (gT e J<|e5.2 ⟨(by decide:dV ([125]:Tx)<=4096),gK _⟩) λK=>?_;refine Ln ?_;refine E0 O λaD b=>?_;rw [show l++TW [[123]]++TW (fv<|c7.take g.1)++TW [[125]]=l++TW (hd c7) by rw [i' aj,j];simp [TW]] at b;exact ⟨K,O,Wv 1 b⟩
def QU {d H:View} {b:aQ} (f:Laid d):sV 214 [bV b] d H<|g7 b:=by
 refine ⟨bf,λj r l w k a=>?_⟩;refine enter func214 O 8 O O ?_;refine CE a<|ai<|ad O<|ag ?_;refine Cc O (λc=>?_)<|λc=>?_;·subst c;have n:(g7 ac).length=1:=rfl;refine Cr<|ad O ?_;refine Lb Y O dI O O O O λo=>?_;refine aY (T:=9) (m:=1) 0 [[112,117,98]] O O (show 1<=1 by decide) a' λp g=>?_;refine et (gT f g<|e5.2 ⟨(by decide:dV ([112,117,98]:Tx)<=4096),gK _⟩) λh=>?_;refine Ln ?_;refine E0 O λi a=>?_;exact ⟨h,O,Wv 1 a⟩
 subst c;refine Ck ?_;refine E0 O λi a=>?_;have e:l++TW (g7 au)=l:=by simp [TW,g7]
 exact ⟨r,O,by rw [e];exact a⟩
def sg (l:I Tx):I<|I Tx:=l.map λs=>[s]
def ZO (h:cI[ae]? = aa bw):(sg cI)[ae]? = aa [bw]:=ZK h
def ZP (l:I Tx):(sg l).length=l.length:=by simp [sg]
def ZQ (p:bz):gv p=g7 p.cz++[li,p.nm,[40]]++eH (sg p.params)++[[41]]++p.a6.flatMap iJ++hd p.body:=rfl
def QV (p:bz):(gv p).length=(g7 p.cz).length+3+(eH<|sg p.params).length+1+(p.a6.flatMap iJ).length+(hd p.body).length:=ZL p
variable {a8:cM}
def ZR (h:(qo a8).cy=0):jX (TW<|hf a8)=J (hf a8):=IQ<|E5 h
def ZS (l:I Tok) (i:Z) (a:iK l) (c:l.length<=1099511627776):(jX<|l.take i).length<=15393162788864:=by
 have:=Ml (l.take i) λt b=>a t<|pR b;have d:(l.take i).length<=l.length:=by simp;omega
 omega
def QW:cX aB 109 2=aa 2:=ah
def QX:cX aB 113 1=aa 1:=ah
def ZT {q:mf}  (a:Laid bt) (b:mg ae aH bX q a8) (be:(qo a8).cy=0):sV 123 [bU (hk a8 q).toArray] bt bX<|hf a8:=by
 refine ⟨bf,λc r l w bQ x=>?_⟩;have D:=BO be;have hN:=QT a8;have bR:=b.aI.cap;have bS:=b.aI.max;have bT:=b.decls.cap;have bW:=b.decls.max;have bY:=b.procs.cap;have bZ:=b.procs.max;have a4:∀k,JA bt bX ae k:=λk _ _ _ _ M N=>ZN a (λk _ _ _ _ M N=>ZG a k M N) k M N;refine enter func123 O 139 O O ?_;refine CE x<|ai ?_;refine WL.box Y O O λt=>?_;refine ag<|ai<|ad O<|V0 (Yf wr O)<|V0 (Yd 0 O O O ah) ?_;refine Lb Y O dI O O O O λb1=>?_;refine aY (T:=9) (m:=3) 0 [[109,111,100,117,108,101],a8.nm,[123]] O O (show 3<=3 by decide) a' λb2 bh=>?_;refine Lf 2 O<|Lf 2 O ?_;refine et (gT a bh<|e5.2 ⟨(by decide:dV ([109,111,100,117,108,101]:Tx)<=4096),e5.2 ⟨sT D.name,e5.2 ⟨(by decide:dV ([123]:Tx)<=4096),gK _⟩⟩⟩) λa5=>?_;refine ag<|Cs<|ai<|V0 (Yf rJ O)<|V0 (Yd 2 O O O ah)<|V0 (Yn e4 O)<|ad O<|ag<|Cb ?_;refine dZ (ι:=Z×(az a0×Z)) (λg=>[(22,an am (g.1:ab))]) [(0,_),(3,_),(20,_),(21,_)] (λg=>Ws w (c5 bc.ids<|i9 c r l) (i9 c g.2 (l++TW [[109,111,100,117,108,101],a8.nm,[123]]++TW ((a8.aI.take g.1).flatMap ge))++[aJ t<|aM (hk a8 q).toArray 27 (0,0)]) [bt,bX]) (λg=>g.1<=a8.aI.length) (λg=>a8.aI.length-g.1) (0,a5) (de _) (λ_ h=>by have h:=Ws.dr h (cB:=[bt,bX]) aG;show Ws w _ (i9 c a5 (l++TW [[109,111,100,117,108,101],a8.nm,[123]]++TW ((a8.aI.take 0).flatMap ge))++[aJ t<|aM (hk a8 q).toArray 27 (0,0)]) [bt,bX] _;rw [show TW ((a8.aI.take 0).flatMap ge)=[] from O,qd];exact h) ?_;intro g b3;refine ai<|V0 (cP O O)<|ag<|Cs ?_;refine Cc O (λaD=>?_)<|λaD=>?_
 ·have o:g.1<a8.aI.length:=by simpa using aD
  obtain ⟨u,P⟩:=dO o;obtain ⟨bi,bj,E,i⟩:=b.aI.b7 g.1 u P;have i:ct bX bi (bj+g.1*1)<|fV u:=i;have bk:=D.aI u<|dJ P;have aE:=xz (f:=ge) P;simp only [ge,eL,fT] at aE;refine bO<|Cs<|Cb<|ai<|V0 (Yo e4 O O E aj)<|V0 (dQ 1 ah O O<|i 0 _ O)<|ar O<|ag<|Cr<|ad O<|ad O ?_;refine Lb Y O dI O O O O λb4=>?_;refine aY (T:=9) (m:=3) 0 [[117,115,101],u,[59]] O O (show 3<=3 by decide) a' λb5 bm=>?_;refine et (gT a bm<|e5.2 ⟨(by decide:dV ([117,115,101]:Tx)<=4096),e5.2 ⟨sT bk,e5.2 ⟨(by decide:dV ([59]:Tx)<=4096),gK _⟩⟩⟩) λbn=>?_;refine Ln<|Eb<|Et<|Cr<|V0 (Yi O O O aj)<|ad O<|Ln ?_;rw [show l++TW [[109,111,100,117,108,101],a8.nm,[123]]++TW ((a8.aI.take g.1).flatMap ge)++TW [[117,115,101],u,[59]]=l++TW [[109,111,100,117,108,101],a8.nm,[123]]++TW ((a8.aI.take<|g.1+1).flatMap ge) by rw [x4 P];simp [TW,ge,iJ,lD,nM,my,li,h2,np]];exact cU ((g.1+1,bn):Z×(az a0×Z)) (by show a8.aI.length-(g.1+1)<a8.aI.length-g.1;omega) (by show g.1+1<=a8.aI.length;omega)<|λ_ h=>Ws.dr h<|λ_ b=>cG [_] b
 have b6:¬g.1<a8.aI.length:=by simpa using aD
 rw [i' aj];refine Ce<|Ex<|Ex<|dy<|Et<|Cs<|ai<|V0 (Yf xZ O)<|V0 (Yd 2 O O O ah)<|V0 (Yn u7 O)<|ad O<|ag<|Cb ?_;refine dZ (ι:=Z×(az a0×Z)) (λv=>[(34,an am (v.1:ab))]) [(0,_),(3,_),(32,_),(33,_)] (λv=>Ws w (c5 bc.ids<|i9 c r l) (i9 c v.2 (l++TW [[109,111,100,117,108,101],a8.nm,[123]]++TW (a8.aI.flatMap ge)++TW ((a8.decls.take v.1).flatMap fO))++[aJ t<|aM (hk a8 q).toArray 27 (0,0)]) [bt,bX]) (λv=>v.1<=a8.decls.length) (λv=>a8.decls.length-v.1) (0,g.2) (de _) (λ_ h=>by show Ws w _ (i9 c g.2 (l++TW [[109,111,100,117,108,101],a8.nm,[123]]++TW (a8.aI.flatMap ge)++TW ((a8.decls.take 0).flatMap fO))++[aJ t<|aM (hk a8 q).toArray 27 (0,0)]) [bt,bX] _;rw [show TW ((a8.decls.take 0).flatMap fO)=[] from O,qd];exact h) ?_;intro v b8;refine ai<|V0 (cP O O)<|ag<|Cs ?_;refine Cc O (λQ=>?_)<|λQ=>?_
 ·have o:v.1<a8.decls.length:=by simpa using Q
  have o:v.1<a8.decls.length:=by simpa using Q
  obtain ⟨d,B⟩:=dO o;obtain ⟨bo,bp,bq,aF⟩:=b.decls.b7 v.1 d B;have aF:ct bX bo (bp+v.1*4) d.cells:=aF;have C:=we<|D.decls d<|dJ B;have aE:=xz (f:=fO) B;have br:(g7 d.cz).length<=1:=by cases d.cz<;>decide
  have b9:(g7 d.cz).length+1<=(fO d).length:=by unfold fO;simp only [e_,eL,fT];omega
  refine bO<|Cs<|Cb<|ai<|V0 (Yo u7 O O bq aj)<|V0 (dG 1 p2 O O O<|aF) ?_;refine Al Y O wv λb'=>?_;refine aq 0 Y O O O tV O O O<|ag<|ai<|ad O<|V0 (Yf QW O)<|V0 (Yd 0 O O O ah)<|Lf 2 O<|Lf 2 O ?_;refine et (QU (H:=bX) a) λca=>?_;refine ag<|Cs<|ai<|V0 (Yf xU O)<|V0 (Yd 2 O O O ah)<|ag<|Cb<|ai<|V0 (bN O O)<|ar O<|ag ?_;refine Cc O (λaK=>?_)<|λaK=>?_
  ·have A:d.kind=1:=by simpa using aK
   have F:=C.n1 A;have y:=ZH A;have G:=congrArg dV y;simp at G;refine WC.w_ (λ_=>ac) [0,0] [(0,ac),(1,ac),(2,ac),(3,ac),(4,ac),(5,au),(6,au),(7,au)] mixed ah ah (λ_ _ _ d _ _ h=>by cases d<;>exact h) ?_;refine D0 O (cn [0,0]) (Ym O)<|D0 O (cn [0,0]) (Yf wm O)<|D0 O (cn [0,0]) (Yd 0 O O O ah)<|D0 O (cn [0,0]) (Yf sN O)<|D0 O (cn [0,0]) (Yd 0 O O O ah) ?_;refine De O (cn [0,0]) ?_;refine Lp Y O bf O (λw x=>zY bt d.n aj aj w x.V a)<|Ln<|Ed ?_;refine De O (cn [0,0]) ?_;refine Lb Y O dI O O O O λcb=>?_;refine aY (T:=9) (m:=4) 0 [[99,111,110,115,116],d.nm,[61],hO d.n] O O (show 4<=4 by decide) a' λcc bs=>?_;refine Ln<|Ed ?_;refine De O (λ_ h=>(Wv 1<|Wo 0<|Wo 0 h:)) ?_;refine et (gT a bs<|e5.2 ⟨(by decide:dV ([99,111,110,115,116]:Tx)<=4096),e5.2 ⟨sT C.name,e5.2 ⟨(by decide:dV ([61]:Tx)<=4096),e5.2 ⟨Jw F.1 F.2,gK _⟩⟩⟩⟩) λcd=>?_;refine Ln<|Ed ?_;refine WD.nil (λ_ h=>(Wv 1<|Wo 0<|Wo 0 h:)) ?_;refine Eb<|Et<|Cr<|ad O ?_;refine Lb Y O dI O O O O λa9=>?_;refine aY (T:=9) (m:=1) 0 [[59]] O O (show 1<=1 by decide) a' λa_ J=>?_;refine et (gT a J<|e5.2 ⟨(by decide:dV ([59]:Tx)<=4096),gK _⟩) λK=>?_;refine Ln<|Eb<|Et<|Cr<|V0 (Yi O O O aj)<|ad O<|Ln ?_;rw [show l++TW [[109,111,100,117,108,101],a8.nm,[123]]++TW (a8.aI.flatMap ge)++TW ((a8.decls.take v.1).flatMap fO)++TW (g7 d.cz)++TW [[99,111,110,115,116],d.nm,[61],hO d.n]++TW [[59]]=l++TW [[109,111,100,117,108,101],a8.nm,[123]]++TW (a8.aI.flatMap ge)++TW ((a8.decls.take<|v.1+1).flatMap fO) by rw [x4 B,y];simp [TW,ge,iJ,lD,nM,my,li,h2,np]];exact cU ((v.1+1,K):Z×(az a0×Z)) (by show a8.decls.length-(v.1+1)<a8.decls.length-v.1;omega) (by show v.1+1<=a8.decls.length;omega) (λ_ h=>by exact (Wv 2<|Wt 3<|((h.f 3 O).f 2 O).f 2 O:))
  have M:¬d.kind=1:=by simpa using aK
  refine ai<|V0 (bN O O)<|ar O<|ag ?_;refine Cc O (λaP=>?_)<|λaP=>?_
  ·have A:d.kind=2:=by simpa using aP
   have y:=ZI A;have G:=congrArg dV y;simp at G;refine Cr<|ad O<|V0 (Yf wm O)<|V0 (Yd 2 O O O ah) ?_;refine Lb Y O dI O O O O λce=>?_;refine aY (T:=9) (m:=2) 0 [[118,97,114],d.nm] O O (show 2<=2 by decide) a' λcf bu=>?_;refine et (gT a bu<|e5.2 ⟨(by decide:dV ([118,97,114]:Tx)<=4096),e5.2 ⟨sT C.name,gK _⟩⟩) λcg=>?_;refine Ln<|Eb<|Et<|Cr<|ad O ?_;refine Lb Y O dI O O O O λa9=>?_;refine aY (T:=9) (m:=1) 0 [[59]] O O (show 1<=1 by decide) a' λa_ J=>?_;refine et (gT a J<|e5.2 ⟨(by decide:dV ([59]:Tx)<=4096),gK _⟩) λK=>?_;refine Ln<|Eb<|Et<|Cr<|V0 (Yi O O O aj)<|ad O<|Ln ?_;rw [show l++TW [[109,111,100,117,108,101],a8.nm,[123]]++TW (a8.aI.flatMap ge)++TW ((a8.decls.take v.1).flatMap fO)++TW (g7 d.cz)++TW [[118,97,114],d.nm]++TW [[59]]=l++TW [[109,111,100,117,108,101],a8.nm,[123]]++TW (a8.aI.flatMap ge)++TW ((a8.decls.take<|v.1+1).flatMap fO) by rw [x4 B,y];simp [TW,ge,iJ,lD,nM,my,li,h2,np]];exact cU ((v.1+1,K):Z×(az a0×Z)) (by show a8.decls.length-(v.1+1)<a8.decls.length-v.1;omega) (by show v.1+1<=a8.decls.length;omega) (λ_ h=>by exact (Wv 2<|Wt 3<|((h.f 3 O).f 2 O).f 2 O:))
  have N:¬d.kind=2:=by simpa using aP
  refine ai<|V0 (bN O O)<|ar O<|ag ?_;refine Cc O (λaR=>?_)<|λaR=>?_
  ·have A:d.kind=3:=by simpa using aR
   have F:0<=d.n/\d.n<=1099511627775:=by have:=C.n3 A;omega
   have y:=ZJ A;have G:=congrArg dV y;simp at G;refine WC.w_ (λ_=>ac) [0,0] [(0,ac),(1,ac),(2,ac),(3,ac),(4,ac),(5,au),(6,au),(7,au)] mixed ah ah (λ_ _ _ d _ _ h=>by cases d<;>exact h) ?_;refine D0 O (cn [0,0]) (Ym O)<|D0 O (cn [0,0]) (Yf wm O)<|D0 O (cn [0,0]) (Yd 0 O O O ah)<|D0 O (cn [0,0]) (Yf sN O)<|D0 O (cn [0,0]) (Yd 0 O O O ah) ?_;refine De O (cn [0,0]) ?_;refine Lp Y O bf O (λw x=>zY bt d.n aj aj w x.V a)<|Ln<|Ed ?_;refine De O (cn [0,0]) ?_;refine Lb Y O dI O O O O λch=>?_;refine aY (T:=9) (m:=5) 0 [[97,114,114,97,121],d.nm,[91],hO d.n,[93]] O O (show 5<=5 by decide) a' λcj bv=>?_;refine Ln<|Ed ?_;refine De O (λ_ h=>(Wv 1<|Wo 0<|Wo 0 h:)) ?_;refine et (gT a bv<|e5.2 ⟨(by decide:dV ([97,114,114,97,121]:Tx)<=4096),e5.2 ⟨sT C.name,e5.2 ⟨(by decide:dV ([91]:Tx)<=4096),e5.2 ⟨Jw F.1 F.2,e5.2 ⟨(by decide:dV ([93]:Tx)<=4096),gK _⟩⟩⟩⟩⟩) λck=>?_;refine Ln<|Ed ?_;refine WD.nil (λ_ h=>(Wv 1<|Wo 0<|Wo 0 h:)) ?_;refine Eb<|Et<|Cr<|ad O ?_;refine Lb Y O dI O O O O λa9=>?_;refine aY (T:=9) (m:=1) 0 [[59]] O O (show 1<=1 by decide) a' λa_ J=>?_;refine et (gT a J<|e5.2 ⟨(by decide:dV ([59]:Tx)<=4096),gK _⟩) λK=>?_;refine Ln<|Eb<|Et<|Cr<|V0 (Yi O O O aj)<|ad O<|Ln ?_;rw [show l++TW [[109,111,100,117,108,101],a8.nm,[123]]++TW (a8.aI.flatMap ge)++TW ((a8.decls.take v.1).flatMap fO)++TW (g7 d.cz)++TW [[97,114,114,97,121],d.nm,[91],hO d.n,[93]]++TW [[59]]=l++TW [[109,111,100,117,108,101],a8.nm,[123]]++TW (a8.aI.flatMap ge)++TW ((a8.decls.take<|v.1+1).flatMap fO) by rw [x4 B,y];simp [TW,ge,iJ,lD,nM,my,li,h2,np]];exact cU ((v.1+1,K):Z×(az a0×Z)) (by show a8.decls.length-(v.1+1)<a8.decls.length-v.1;omega) (by show v.1+1<=a8.decls.length;omega) (λ_ h=>by exact (Wv 2<|Wt 3<|((h.f 3 O).f 2 O).f 2 O:))
  exact (show False by have:=C.kind;simp at aR;omega).elim
 have cl:¬v.1<a8.decls.length:=by simpa using Q
 rw [i' aj];refine Ce<|Ex<|Ex<|dy<|Et<|Cs<|ai<|V0 (Yf wu O)<|V0 (Yd 2 O O O ah)<|V0 (Yn sR O)<|ad O<|ag<|Cb ?_;refine dZ (ι:=Z×(az a0×Z)) (λj=>[(78,an am (j.1:ab))]) [(0,_),(3,_),(76,_),(77,_)] (λj=>Ws w (c5 bc.ids<|i9 c r l) (i9 c j.2 (l++TW [[109,111,100,117,108,101],a8.nm,[123]]++TW (a8.aI.flatMap ge)++TW (a8.decls.flatMap fO)++TW ((a8.procs.take j.1).flatMap gv))++[aJ t<|aM (hk a8 q).toArray 27 (0,0)]) [bt,bX]) (λj=>j.1<=a8.procs.length) (λj=>a8.procs.length-j.1) (0,v.2) (de _) (λ_ h=>by show Ws w _ (i9 c v.2 (l++TW [[109,111,100,117,108,101],a8.nm,[123]]++TW (a8.aI.flatMap ge)++TW (a8.decls.flatMap fO)++TW ((a8.procs.take 0).flatMap gv))++[aJ t<|aM (hk a8 q).toArray 27 (0,0)]) [bt,bX] _;rw [show TW ((a8.procs.take 0).flatMap gv)=[] from O,qd];exact h) ?_;intro j cm;refine ai<|V0 (cP O O)<|ag<|Cs ?_;refine Cc O (λR=>?_)<|λR=>?_
 ·have o:j.1<a8.procs.length:=by simpa using R
  have o:j.1<a8.procs.length:=by simpa using R
  obtain ⟨p,S⟩:=dO o;obtain ⟨co,cp,bw,bx⟩:=b.procs.b7 j.1 p S;obtain ⟨U,W,X,af,al,ao,i,aS,aU,bz⟩:=bx;have ap:=wg<|D.procs p<|dJ S;have aE:=xz (f:=gv) S;have br:(g7 p.cz).length<=1:=by cases p.cz<;>decide
  have cq:=QV p;have cs:=aS.cap;have cu:=aS.max;have cv:=aU.cap;have cw:=aU.max;refine bO<|Cs<|Cb<|ai<|V0 (Yo sR O O bw aj)<|V0 (dG 1 x0 O O O<|i) ?_;refine Al Y O ww λav=>?_;refine aq 0 Y O O O x1 O O O<|ag<|ai<|ad O<|V0 (Yf QX O)<|V0 (Yd 0 O O O ah)<|Lf 2 O<|Lf 2 O ?_;refine et (QU (H:=bX) a) λcx=>?_;refine ag<|ai<|ad O<|V0 (Yf Jv O)<|V0 (Yd 2 O O O ah) ?_;refine Lb Y O dI O O O O λcA=>?_;refine aY (T:=9) (m:=3) 0 [[112,114,111,99],p.nm,[40]] O O (show 3<=3 by decide) a' λcC bB=>?_;refine et (gT a bB<|e5.2 ⟨(by decide:dV ([112,114,111,99]:Tx)<=4096),e5.2 ⟨sT ap.name,e5.2 ⟨(by decide:dV ([40]:Tx)<=4096),gK _⟩⟩⟩) λba=>?_;refine ag<|Cs<|ai<|V0 (Yf sS O)<|V0 (Yd 2 O O O ah)<|V0 (Yn e4 O)<|ad O<|ag<|Cb ?_;refine dZ (ι:=Z×(az a0×Z)) (λe=>[(94,an am (e.1:ab))]) [(0,_),(3,_),(9,_),(76,_),(77,_),(78,_),(92,_),(93,_)] (λe=>Ws w (c5 bc.ids<|i9 c r l) (i9 c e.2 (l++TW [[109,111,100,117,108,101],a8.nm,[123]]++TW (a8.aI.flatMap ge)++TW (a8.decls.flatMap fO)++TW ((a8.procs.take j.1).flatMap gv)++TW (g7 p.cz)++TW [[112,114,111,99],p.nm,[40]]++TW (eH<|(sg p.params).take e.1))++[aJ av<|aM (xk p U W X af al ao).toArray 113 (0,0),aJ t<|aM (hk a8 q).toArray 27 (0,0)]) [bt,bX]) (λe=>e.1<=p.params.length) (λe=>p.params.length-e.1) (0,ba) (de _) (λ_ h=>by have h:=Ws.dr h (cB:=[bt,bX]) aG;show Ws w _ (i9 c ba (l++TW [[109,111,100,117,108,101],a8.nm,[123]]++TW (a8.aI.flatMap ge)++TW (a8.decls.flatMap fO)++TW ((a8.procs.take j.1).flatMap gv)++TW (g7 p.cz)++TW [[112,114,111,99],p.nm,[40]]++TW (eH<|(sg p.params).take 0))++[aJ av<|aM (xk p U W X af al ao).toArray 113 (0,0),aJ t<|aM (hk a8 q).toArray 27 (0,0)]) [bt,bX] _;rw [show TW (eH<|(sg p.params).take 0)=[] from O,qd];exact h) ?_;intro e cD;refine ai<|V0 (cP O O)<|ag<|Cs ?_;refine Cc O (λaW=>?_)<|λaW=>?_
  ·have o:e.1<p.params.length:=by simpa using aW
   obtain ⟨s,z⟩:=dO o;obtain ⟨aX,pos,E,i⟩:=aS.b7 e.1 s z;have i:ct bX aX (pos+e.1*1)<|fV s:=i;have aw:=ap.params s<|dJ z;have bb:=ZO z;have aA:=Jz (sg p.params)<|e.1+1;refine bO<|Cs<|Cb<|ai<|ad O<|V0 (Yo e4 O O E aj)<|V0 (dQ 1 ah O O<|i 0 _ O)<|ar O<|ar O<|ag<|Cs<|ai<|ad O ?_;refine V0 (ek O O)<|ag ?_;refine Cc O (λaZ=>?_)<|λaZ=>?_;·have L:=QK bb (by simp at aZ;omega);rw [L] at aA;simp only [e_,eL,fT] at aA;refine Cr<|ad O ?_;refine Lb Y O dI O O O O λcE=>?_;refine aY (T:=9) (m:=1) 0 [[44]] O O (show 1<=1 by decide) a' λcF bC=>?_;refine et (gT a bC<|e5.2 ⟨(by decide:dV ([44]:Tx)<=4096),gK _⟩) λcH=>?_;refine ag<|Cr<|ad O<|ad O ?_;refine Lb Y O dI O O O O λbD=>?_;refine aY (T:=9) (m:=1) 0 [s] O O (show 1<=1 by decide) a' λbF a1=>?_;refine et (gT a a1<|e5.2 ⟨sT aw,gK _⟩) λa2=>?_;refine Ln<|Eb<|Et<|Cr<|V0 (Yi O O O aj)<|ad O<|Ln ?_;rw [show l++TW [[109,111,100,117,108,101],a8.nm,[123]]++TW (a8.aI.flatMap ge)++TW (a8.decls.flatMap fO)++TW ((a8.procs.take j.1).flatMap gv)++TW (g7 p.cz)++TW [[112,114,111,99],p.nm,[40]]++TW (eH<|(sg p.params).take e.1)++TW [[44]]++TW [s]=l++TW [[109,111,100,117,108,101],a8.nm,[123]]++TW (a8.aI.flatMap ge)++TW (a8.decls.flatMap fO)++TW ((a8.procs.take j.1).flatMap gv)++TW (g7 p.cz)++TW [[112,114,111,99],p.nm,[40]]++TW (eH<|(sg p.params).take<|e.1+1) by rw [L];simp [TW,ge,iJ,lD,nM,my,li,h2,np]];exact cU ((e.1+1,a2):Z×(az a0×Z)) (by show p.params.length-(e.1+1)<p.params.length-e.1;omega) (by show e.1+1<=p.params.length;omega)<|λ_ h=>Ws.dr h<|λ_ b=>cG [_,_] b
   have L:=QJ bb (by simp at aZ;omega);rw [L] at aA;simp only [e_,eL,fT] at aA;refine bO<|Cr<|ad O<|ad O ?_;refine Lb Y O dI O O O O λbD=>?_;refine aY (T:=9) (m:=1) 0 [s] O O (show 1<=1 by decide) a' λbF a1=>?_;refine et (gT a a1<|e5.2 ⟨sT aw,gK _⟩) λa2=>?_;refine Ln<|Eb<|Et<|Cr<|V0 (Yi O O O aj)<|ad O<|Ln ?_;rw [show l++TW [[109,111,100,117,108,101],a8.nm,[123]]++TW (a8.aI.flatMap ge)++TW (a8.decls.flatMap fO)++TW ((a8.procs.take j.1).flatMap gv)++TW (g7 p.cz)++TW [[112,114,111,99],p.nm,[40]]++TW (eH<|(sg p.params).take e.1)++TW [s]=l++TW [[109,111,100,117,108,101],a8.nm,[123]]++TW (a8.aI.flatMap ge)++TW (a8.decls.flatMap fO)++TW ((a8.procs.take j.1).flatMap gv)++TW (g7 p.cz)++TW [[112,114,111,99],p.nm,[40]]++TW (eH<|(sg p.params).take<|e.1+1) by rw [L];simp [TW,ge,iJ,lD,nM,my,li,h2,np]];exact cU ((e.1+1,a2):Z×(az a0×Z)) (by show p.params.length-(e.1+1)<p.params.length-e.1;omega) (by show e.1+1<=p.params.length;omega)<|λ_ h=>Ws.dr h<|λ_ b=>cG [_] b
  have cI:¬e.1<p.params.length:=by simpa using aW
  rw [i' (l:=sg p.params) (by rw [ZP];omega)];refine Ce<|Ex<|Ex<|dy<|Et<|ai<|ad O ?_;refine Lb Y O dI O O O O λcJ=>?_;refine aY (T:=9) (m:=1) 0 [[41]] O O (show 1<=1 by decide) a' λcK bG=>?_;refine et (gT a bG<|e5.2 ⟨(by decide:dV ([41]:Tx)<=4096),gK _⟩) λbd=>?_;refine ag<|Cs<|ai<|V0 (Yf x2 O)<|V0 (Yd 2 O O O ah)<|V0 (Yn e4 O)<|ad O<|ag<|Cb ?_;refine dZ (ι:=Z×(az a0×Z)) (λf=>[(115,an am (f.1:ab))]) [(0,_),(3,_),(9,_),(76,_),(77,_),(78,_),(113,_),(114,_)] (λf=>Ws w (c5 bc.ids<|i9 c r l) (i9 c f.2 (l++TW [[109,111,100,117,108,101],a8.nm,[123]]++TW (a8.aI.flatMap ge)++TW (a8.decls.flatMap fO)++TW ((a8.procs.take j.1).flatMap gv)++TW (g7 p.cz)++TW [[112,114,111,99],p.nm,[40]]++TW (eH<|sg p.params)++TW [[41]]++TW ((p.a6.take f.1).flatMap iJ))++[aJ av<|aM (xk p U W X af al ao).toArray 113 (0,0),aJ t<|aM (hk a8 q).toArray 27 (0,0)]) [bt,bX]) (λf=>f.1<=p.a6.length) (λf=>p.a6.length-f.1) (0,bd) (de _) (λ_ h=>by have h:=Ws.dr h (cB:=[bt,bX]) aG;show Ws w _ (i9 c bd (l++TW [[109,111,100,117,108,101],a8.nm,[123]]++TW (a8.aI.flatMap ge)++TW (a8.decls.flatMap fO)++TW ((a8.procs.take j.1).flatMap gv)++TW (g7 p.cz)++TW [[112,114,111,99],p.nm,[40]]++TW (eH<|sg p.params)++TW [[41]]++TW ((p.a6.take 0).flatMap iJ))++[aJ av<|aM (xk p U W X af al ao).toArray 113 (0,0),aJ t<|aM (hk a8 q).toArray 27 (0,0)]) [bt,bX] _;rw [show TW ((p.a6.take 0).flatMap iJ)=[] from O,qd];exact h) ?_;intro f cL;refine ai<|V0 (cP O O)<|ag<|Cs ?_;refine Cc O (λa3=>?_)<|λa3=>?_
  ·have o:f.1<p.a6.length:=by simpa using a3
   obtain ⟨s,z⟩:=dO o;obtain ⟨aX,pos,E,i⟩:=aU.b7 f.1 s z;have i:ct bX aX (pos+f.1*1)<|fV s:=i;have aw:=ap.a6 s<|dJ z;have bH:=xz (f:=iJ) z;simp only [iJ,eL,fT] at bH;refine bO<|Cs<|Cb<|ai<|V0 (Yo e4 O O E aj)<|V0 (dQ 1 ah O O<|i 0 _ O)<|ar O<|ag<|Cr<|ad O<|ad O ?_;refine Lb Y O dI O O O O λcM=>?_;refine aY (T:=9) (m:=3) 0 [[108,111,99,97,108],s,[59]] O O (show 3<=3 by decide) a' λcO bI=>?_;refine et (gT a bI<|e5.2 ⟨(by decide:dV ([108,111,99,97,108]:Tx)<=4096),e5.2 ⟨sT aw,e5.2 ⟨(by decide:dV ([59]:Tx)<=4096),gK _⟩⟩⟩) λbJ=>?_;refine Ln<|Eb<|Et<|Cr<|V0 (Yi O O O aj)<|ad O<|Ln ?_;rw [show l++TW [[109,111,100,117,108,101],a8.nm,[123]]++TW (a8.aI.flatMap ge)++TW (a8.decls.flatMap fO)++TW ((a8.procs.take j.1).flatMap gv)++TW (g7 p.cz)++TW [[112,114,111,99],p.nm,[40]]++TW (eH<|sg p.params)++TW [[41]]++TW ((p.a6.take f.1).flatMap iJ)++TW [[108,111,99,97,108],s,[59]]=l++TW [[109,111,100,117,108,101],a8.nm,[123]]++TW (a8.aI.flatMap ge)++TW (a8.decls.flatMap fO)++TW ((a8.procs.take j.1).flatMap gv)++TW (g7 p.cz)++TW [[112,114,111,99],p.nm,[40]]++TW (eH<|sg p.params)++TW [[41]]++TW ((p.a6.take<|f.1+1).flatMap iJ) by rw [x4 z];simp [TW,ge,iJ,lD,nM,my,li,h2,np]];exact cU ((f.1+1,bJ):Z×(az a0×Z)) (by show p.a6.length-(f.1+1)<p.a6.length-f.1;omega) (by show f.1+1<=p.a6.length;omega)<|λ_ h=>Ws.dr h<|λ_ b=>cG [_] b
  have cQ:¬f.1<p.a6.length:=by simpa using a3
  rw [i' (l:=p.a6) aj];refine Ce<|Ex<|Ex<|dy<|Et<|Cr<|ad O<|V0 (Yf xn O)<|V0 (Yd 2 O O O ah) ?_;refine et (a4 aH bz ap.body) λbK=>?_;refine Ln<|Eb<|Et<|Cr<|V0 (Yi O O O aj)<|ad O<|Ln ?_;rw [show l++TW [[109,111,100,117,108,101],a8.nm,[123]]++TW (a8.aI.flatMap ge)++TW (a8.decls.flatMap fO)++TW ((a8.procs.take j.1).flatMap gv)++TW (g7 p.cz)++TW [[112,114,111,99],p.nm,[40]]++TW (eH<|sg p.params)++TW [[41]]++TW (p.a6.flatMap iJ)++TW (hd p.body)=l++TW [[109,111,100,117,108,101],a8.nm,[123]]++TW (a8.aI.flatMap ge)++TW (a8.decls.flatMap fO)++TW ((a8.procs.take<|j.1+1).flatMap gv) by rw [x4 S,ZQ];simp [TW,ge,iJ,lD,nM,my,li,h2,np]];exact cU ((j.1+1,bK):Z×(az a0×Z)) (by show a8.procs.length-(j.1+1)<a8.procs.length-j.1;omega) (by show j.1+1<=a8.procs.length;omega)<|λ_ h=>(Wt 3<|((h.f 3 O).f 2 O).f 2 O:)
 have cR:¬j.1<a8.procs.length:=by simpa using R
 rw [i' aj];refine Ce<|Ex<|Ex<|dy<|Et<|ai<|ad O ?_;refine Lb Y O dI O O O O λcS=>?_;refine aY (T:=9) (m:=1) 0 [[109,97,105,110]] O O (show 1<=1 by decide) a' λcT bL=>?_;refine et (gT a bL<|e5.2 ⟨(by decide:dV ([109,97,105,110]:Tx)<=4096),gK _⟩) λcV=>?_;refine ag<|ai<|ad O<|V0 (Yf Fj O)<|V0 (Yd 2 O O O ah) ?_;refine et (a4 aH b.main D.main) λcW=>?_;refine ag<|Cr<|ad O ?_;refine Lb Y O dI O O O O λcX=>?_;refine aY (T:=9) (m:=1) 0 [[125]] O O (show 1<=1 by decide) a' λcY bM=>?_;refine et (gT a bM<|e5.2 ⟨(by decide:dV ([125]:Tx)<=4096),gK _⟩) λbP=>?_;refine Ln ?_;refine E0 O λcZ x=>?_;rw [show l++TW [[109,111,100,117,108,101],a8.nm,[123]]++TW (a8.aI.flatMap ge)++TW (a8.decls.flatMap fO)++TW (a8.procs.flatMap gv)++TW [[109,97,105,110]]++TW (hd a8.main)++TW [[125]]=l++TW (hf a8) by unfold hf;simp [TW,ge,iJ,lD,nM,my,li,h2,np]] at x;exact ⟨bP,O,Wv 2<|Wt 2 x⟩
def QY (mod nm:Tx):(gZ mod nm).length<=3:=by unfold gZ;split<;>simp
def B4:∀l:I<|I Tx,(eH l).length<=(l.map λx=>x.length+1).sum| []=>de _| [x]=>by simp [eH]| x::y::r=>by have:=B4<|y::r;simp only [eH,e_,l_,AB,eL,fT] at this ⊢;omega
def QZ:∀(l:I<|I Tx),(at_ l 0).length+(at_ l 1).length<=(l.map λx=>x.length+1).sum| []=>by simp [at_]| [x]=>by simp [at_]| x::y::r=>by simp [at_];omega
def ZU (op n:ab) (mod nm:Tx) (a:I<|I Tx):(kU op n mod nm a).length<=5+(a.map λx=>x.length+1).sum:=by
 have b:=QY mod nm;have c:=B4 a;have d:=QZ a;unfold kU mz;repeat' split
 all_goals(try simp only [e_,eL,fT])
 all_goals omega
mutual
def ZV:∀x:cu,(dW x).length+1<=7*wE x| .mk op n mod nm args=>by have a:=ZU op n mod nm<|aX args;have b:=JD args;rw [dW,wE];omega
def JD:∀l:I cu,((aX l).map λx=>x.length+1).sum<=7*gF l| []=>by simp [aX]| x::r=>by have a:=ZV x;have b:=JD r;rw [aX,gF,l_,AB];omega
end
def ZW (op:ab) (mod nm:Tx) (a:I<|I Tx) (b:I Tx) (c:Z) (o:I Tx):(j5 op mod nm a b c o).length<=8+(a.map λx=>x.length+1).sum+b.length+o.length:=by
 have d:=QY mod nm;have e:=B4 a;have f:=QZ a;unfold j5 mz pW;repeat' split
 all_goals(try simp only [e_,eL,fT])
 all_goals omega
mutual
def ZX:∀x:cv,(hc x).length+1<=9*wS x| .mk op mod nm args body other=>by have a:=ZW op mod nm (aX args) (fv body) other.length<|fv other;have b:=JD args;have c:=Fo body;have d:=Fo other;rw [hc,wS];omega
def Fo:∀l:I cv,(fv l).length<=9*fj l| []=>by simp [fv]| x::r=>by have a:=ZX x;have b:=Fo r;rw [fv,fj,e_];omega
end
def Q0:∀l:I Tx,(l.flatMap ge).length<=9*wN l| []=>by simp| x::r=>by have:=Q0 r;rw [jm,e_,wN];simp only [ge,eL,fT];omega
def Q1:∀l:I Tx,(l.flatMap iJ).length<=9*wN l| []=>by simp| x::r=>by have:=Q1 r;rw [jm,e_,wN];simp only [iJ,eL,fT];omega
def Q2 (b:aQ):(g7 b).length<=1:=by cases b<;>decide
def Q3:∀l:I eQ,(l.flatMap fO).length<=9*wD l
 | []=>by simp
 | x::r=>by
  have:=Q3 r;have:=Q2 x.cz;have h:(pj x).length<=5:=by
   unfold pj;split;·simp
   ·split;·simp
    ·split<;>simp
  rw [jm,e_,wD,fO];simp only [e_,eL,fT];omega
def ZY (l:I Tx):(eH<|sg l).length<=9*wN l:=by
 have h:=B4<|sg l;have:((sg l).map λx=>x.length+1).sum<=9*wN l:=by unfold sg;induction l with| nil=>simp| cons x r a=>have:=a<|B4 _;simp only [l_,AB,eL,fT,wN] at this ⊢;omega
 omega
def Q4 (l:I cv):(hd l).length<=2+9*fj l:=by have:=Fo l;unfold hd pW;simp only [e_,eL,fT];omega
def Q5:∀l:I bz,(l.flatMap gv).length<=9*wP l| []=>by simp| x::r=>by have:=Q5 r;have:=Q2 x.cz;have:=QV x;have:=ZY x.params;have:=Q1 x.a6;have:=Q4 x.body;rw [jm,e_,wP];omega
def ZZ (m:cM):(hf m).length<=9*wM m:=by have:=QT m;have:=Q0 m.aI;have:=Q3 m.decls;have:=Q5 m.procs;have:=Q4 m.main;unfold wM;omega
def Q6 (h:EX jp) (a:jp.kind=2):0<=jp.n/\jp.n<=1099511627775:=by have:=h.2;unfold jW at this;rw [ao aj,aU a] at this;simp at this;exact this.2
def cA:iC aB 27=aa 5:=ah
def Z0:hy aB 231=aa [(0,1)]:=ah
def Z1:zeroOf aB 231=aa (bU #[aC ak 0 0]):=ah
def Z2 (g H:View) (ke ks:Z) (q:mf) (m:cM) (w:aL) (M:Le g w) (u:Laid g) (N:Le H w) (F:mg ke ks H q m) (af:wM m<=109951162777) :
   cr aB 45 #[bU (hk m q).toArray] w λe v=>e = ax (cN #[st (wh m).1,an am (wh m).2])/\Ext w v:=by
 have al:=ZZ m;refine enter func45 O 47 O O ?_;refine CE (Vs:=[g,H]) (Ws.init (by simp [M,N]))<|ai ?_;refine WL.box Y O O λP=>?_;refine ar O<|ar O<|ag<|Cs<|ai<|V0 (dv 0 O O cA O)<|Lp Y O bf O (λw a=>Fk H ke ks q m w a.V F aj)<|ar O<|ag<|ai<|ad O ?_;refine V0 (g2 O O)<|ag ?_;refine Cc O (λy=>?_)<|λy=>?_
 ·have l:¬hI m=0:=by simpa using y
  have z:wh m=([],hI m):=by rw [wh,ao l]
  refine ai<|ad O<|ar O<|ar O<|ag<|bq<|Er ?_;refine WE.iA O O O λv a=>?_;rw [z];exact ⟨O,a.fr⟩
 have l:hI m=0:=by simpa using y
 have z:wh m=(J<|hf m,0):=by rw [wh,aU l]
 have A:=BR.1 l;refine bO<|ai<|V0 (Yb Z1 Z0 O O) ?_;refine WL.box Y O O λQ=>?_;refine LW (λ_ h=>h.bJ 234 3)<|ar O<|ag<|ai<|ad O<|V0 (dv 2 O O cA O)<|Lf 1 O ?_;refine et (r:=(ak,0)) (k:=[]) (ZT u F A) λo=>?_;refine ag<|ai<|ar O<|ag<|Cs<|ai<|ad O<|V0 (bP O)<|V0 (Yf tW O)<|V0 (Yd 0 O O O ah) ?_;refine WL.cK (rd:=aZ) 1 O Tok.dA fp λB j=>?_;have j:Sl aZ 3 B o.1 o.2<|TW<|hf m:=j;have ap:=j.cap;have av:=j.max;refine V0 (Yn rH O)<|ad O<|ag<|Cb ?_;refine dZ (ι:=Z) (λi=>[(24,an am (i:ab)),(6,st<|jX<|(TW<|hf m).take i)]) [(2,_),(3,_),(22,_),(23,_)] (λi=>Ws w [] [aJ Q<|aM #[aC o.1 (([]:I Tok)++TW (hf m)).length o.2] 231 (0,0),aJ P<|aM (hk m q).toArray 27 (0,0)] [B,g,H]) (λi=>i<=(TW<|hf m).length) (λi=>(TW<|hf m).length-i) 0 (de _) aR ?_;intro i hi;refine ai<|V0 (cP O O)<|ag<|Cs ?_;refine Cc O (λC=>?_)<|λC=>?_
 ·have R:i<(TW<|hf m).length:=by simpa using C
  obtain ⟨x,p⟩:=dO R;obtain ⟨S,T,U,D⟩:=j.b7 i x p;have D:ct B S (T+i*3) x.cells:=D;have G:=Pz A;have s:=G x<|dJ p;have t:=DS s.1 s.2;have aw:=ZS (TW<|hf m) i G (by rw [Jx];omega);refine bO<|Cs<|Cb<|ai<|ad O<|V0 (Yo rH O O U (by show i<(TW<|hf m).length;omega))<|V0 (dG 0 i1 O O O<|D) ?_;refine Al Y O sM λaA=>?_;refine ar O<|aq 0 Y O O O lY O O O<|ag<|Cs<|ai<|ad O<|V0 (ek O O)<|ag ?_;refine Cc O (λE=>?_)<|λE=>?_
  ·have K:0<i:=by simp at E;omega
   have c:jX ((TW<|hf m).take i)++[32]++cj x=jX ((TW<|hf m).take<|i+1):=by
    rw [jl p,Mk];intro h;have L:((TW<|hf m).take i).length=i:=by rw [lr];omega
    rw [h] at L;simp at L;omega
   refine Cr<|ad O<|V0 (yG (b:=[32]) O O (show _+1<=_ by omega))<|ar O<|ag<|ai<|V0 (Yf BZ O)<|V0 (Yd 0 O O O ah)<|V0 (bN O O) ?_;refine ag ?_;refine Cc O (λf=>?_)<|λf=>?_
   ·have d:x.kind=2:=by simpa using f
    obtain ⟨W,X⟩:=Q6 s d;rw [cj,aU d] at c t;refine Cr<|ad O<|V0 (Yf Qe O)<|V0 (Yd 0 O O O ah)<|Lp Y O bf O (λw a=>zY g x.n aj aj w a.V u)<|V0 (yG O O (by first|omega|(simp only [e_,eL,fT];omega)))<|ar O<|Ln<|Eb<|Et<|Cr ?_;refine V0 (Yi O O O aj)<|ad O<|Ln ?_;rw [c];exact cU (i+1) aj aj<|λ_ h=>Wd 1 h
   have d:¬x.kind=2:=by simpa using f
   rw [cj,ao d] at c t;refine Cr<|ad O<|V0 (Yf Jp O)<|V0 (Yd 0 O O O ah)<|V0 (yG O O (by first|omega|(simp only [e_,eL,fT];omega)))<|ar O<|Ln<|Eb<|Et<|Cr<|V0 (Yi O O O aj) ?_;refine ad O<|Ln ?_;rw [c];exact cU (i+1) aj aj<|λ_ h=>Wd 1 h
  have K:i=0:=by simp at E;omega
  have c:jX ((TW<|hf m).take i)++cj x=jX ((TW<|hf m).take<|i+1):=by rw [jl p];subst K;simp [jX,Lib.join,I.intercalate]
  refine bO<|ai<|V0 (Yf BZ O)<|V0 (Yd 0 O O O ah)<|V0 (bN O O)<|ag ?_;refine Cc O (λf=>?_)<|λf=>?_
  ·have d:x.kind=2:=by simpa using f
   obtain ⟨W,X⟩:=Q6 s d;rw [cj,aU d] at c t;refine Cr<|ad O<|V0 (Yf Qe O)<|V0 (Yd 0 O O O ah)<|Lp Y O bf O (λw a=>zY g x.n aj aj w a.V u)<|V0 (yG O O (by first|omega|(simp only [e_,eL,fT];omega)))<|ar O<|Ln<|Eb<|Et<|Cr ?_;refine V0 (Yi O O O aj)<|ad O<|Ln ?_;rw [c];exact cU (i+1) aj aj<|λ_ h=>Wd 1 h
  have d:¬x.kind=2:=by simpa using f
  rw [cj,ao d] at c t;refine Cr<|ad O<|V0 (Yf Jp O)<|V0 (Yd 0 O O O ah)<|V0 (yG O O (by first|omega|(simp only [e_,eL,fT];omega)))<|ar O<|Ln<|Eb<|Et<|Cr<|V0 (Yi O O O aj) ?_;refine ad O<|Ln ?_;rw [c];exact cU (i+1) aj aj<|λ_ h=>Wd 1 h
 have aD:¬i<(TW<|hf m).length:=by simpa using C
 have ae:jX ((TW<|hf m).take i)=J (hf m):=by rw [i' aj,ZR A]
 refine Ce<|Ex<|Ex<|dy<|Et<|ai<|ad O<|ar O<|ar O<|ag<|bq ?_;refine WE.iA O O O λv a=>?_;rw [z,<-ae];exact ⟨O,a.fr⟩
end Go.Proofs.YtgeahfjicmlocaaGreatDoor
end
